-- packed by wip/tools/pack.py (a program of this session) out of its own texts
import Derived.Test.YtmkjkkmilopcpaaPCellWays0
import Derived.ArgAppend
import Derived.Below
import Derived.BigQuiet
import Derived.Deep.AppendLies
import Derived.Deep.CutBlock
import Derived.Deep.DeepCutAuto
import Derived.Deep.Draws
import Derived.Deep.LoopGhost
import Derived.Deep.OwnRows
import Derived.Deep.QuietTactic
import Derived.Deep.RegionHeld3
import Derived.KernelRfl
import Derived.Laws.BitsLemmas
import Derived.Laws.BytesArg
import Derived.Laws.EntriesVeiled
import Derived.Laws.Externs
import Derived.Laws.IdiomCopy
import Derived.Laws.MakeOwn
import Derived.Laws.OwnMore
import Derived.Laws.Rows
import Derived.Laws.Slices
import Derived.Lib.AppendStr
import Derived.Lib.AppendZeros
import Derived.Lib.AppendZerosOnto
import Derived.Lib.ConvBytes
import Derived.Lib.JoinLaws
import Derived.Lib.Overlaps
import Derived.Lib.SliceRun
import Derived.Lib.Walk
import Derived.LoopIn
import Derived.LoopNIn
import Derived.Maps.AppendAt
import Derived.OrdersHeld
import Derived.OrdersIn
import Derived.OwnWalk
import Derived.OwnWalkIn
import Derived.RangeFuncBound
import Derived.RangeFuncBox
import Derived.RangeFuncCalls
import Derived.RangeFuncLeaves
import Derived.RangeFuncNested
import Derived.RangeFuncOwn
import Derived.RowKit
import Derived.RowKit3
import Derived.Shelf.Abstract
import Derived.Shelf.RegionOpen
import Derived.Shelf.RegionOpenPlain
import Derived.Tactics
import Derived.TacticsInMore
import Derived.Test.YtmkjkkmilopcpaaProg
import Derived.WalkKit
import Derived.WalkSpells
import Derived.WideLaws
import Derived.Test.YtmkjkkmilopcpaaPCellWays1
import Derived.Test.YtmkjkkmilopcpaaPCellWays3
import Derived.Test.YtmkjkkmilopcpaaPCellWays4
import Derived.Test.YtmkjkkmilopcpaaPCellWays5
import Derived.Test.YtmkjkkmilopcpaaPCellWays6
import Derived.Test.YtmkjkkmilopcpaaPCellWays7
import Derived.Test.YtmkjkkmilopcpaaPCellWays8
import Derived.Test.YtmkjkkmilopcpaaPCellWays9
import Derived.Test.YtmkjkkmilopcpaaPCellWays10
import Derived.Test.YtmkjkkmilopcpaaPCellWays11
import Derived.Test.YtmkjkkmilopcpaaPCellWays12
import Derived.Test.YtmkjkkmilopcpaaPCellWays13
namespace Go.Proofs.Ytmkjkkmilopcpaa.Q
open Go.RowKit Go.Proofs.YtmkjkkmilopcpaaW.PrintWords Go.Proofs.YtmkjkkmilopcpaaW.PrintLast Go.Proofs.YtmkjkkmilopcpaaW.PrintMore
set_option linter.unusedVariables false
set_option linter.unusedSimpArgs false
def WaysAt (k : Nat) (x : S30) (y : S45) (a b c : Int) : Prop := ∃ p q t o : S30, cell_Narrow.f x.f0 x.f1 x.f2 x.f3 x.f4 a b = some (p.f0, p.f1, p.f2, p.f3, p.f4) ∧ cell_Narrow.f p.f0 p.f1 p.f2 p.f3 p.f4 b c = some (q.f0, q.f1, q.f2, q.f3, q.f4) ∧ cell_Narrow.f x.f0 x.f1 x.f2 x.f3 x.f4 a c = some (q.f0, q.f1, q.f2, q.f3, q.f4) ∧ hypercuberef2_Equal.f k q.f0 q.f1 q.f2 q.f3 q.f4 q.f0 q.f1 q.f2 q.f3 q.f4 = some true ∧ cell_Narrow.f x.f0 x.f1 x.f2 x.f3 x.f4 a a = some (t.f0, t.f1, t.f2, t.f3, t.f4) ∧ hypercuberef2_Equal.f k t.f0 t.f1 t.f2 t.f3 t.f4 x.f0 x.f1 x.f2 x.f3 x.f4 = some true ∧ cell_Of.f y.f0 y.f1 c = some (o.f0, o.f1, o.f2, o.f3, o.f4) ∧ hypercuberef2_Equal.f k q.f0 q.f1 q.f2 q.f3 q.f4 o.f0 o.f1 o.f2 o.f3 o.f4 = some true
def hypercubelaw2_CellWays.T11 : Bool × List (List Nat × List Nat) := (true, [([], []), ([], []), ([0, 1], [0, 1]), ([2], [2]), ([], []), ([], []), ([3, 4, 5], [3, 4, 5]), ([], []), ([], []), ([6, 7, 8, 6], [6, 7, 8]), ([], []), ([], []), ([10, 11], [10, 11]), ([12], [12]), ([], []), ([], []), ([13, 14, 15, 9], [13, 14, 15]), ([9, 16, 16], [9, 16]), ([17], [17]), ([18, 17], [18]), ([19], [19]), ([19], [19]), ([20, 21, 19], [19, 20, 21]), ([22, 19], [19, 22]), ([19], [19]), ([19], [19]), ([23, 24, 25, 19, 19], [19, 23, 24, 25]), ([19], [19]), ([19], [19]), ([27, 28, 19], [19, 27, 28]), ([29, 19], [19, 29]), ([26, 30, 26, 19], [19, 26, 30]), ([31, 19], [19, 31]), ([19, 32], [19, 32]), ([33, 31], [33]), ([34], [34]), ([34], [34]), ([35, 36, 34], [34, 35, 36]), ([37, 34], [34, 37]), ([34], [34]), ([34], [34]), ([38, 39, 40, 34, 34], [34, 38, 39, 40]), ([34], [34]), ([34], [34]), ([42, 43, 34], [34, 42, 43]), ([44, 34], [34, 44]), ([34], [34]), ([45, 46, 41, 34], [34, 45, 46]), ([41, 47, 47, 34], [34, 41, 47]), ([48, 34], [34, 48]), ([34, 49], [34, 49])])
def hypercubelaw2_CellWays.B11 : List Nat := [0, 0, 3, 7, 0, 0, 63, 0, 0, 511, 0, 0, 3072, 7168, 0, 0, 65535, 131071, 262143, 524287, 1048575, 1048575, 4194303, 8388607, 1048575, 1048575, 67108863, 1048575, 1048575, 403701759, 940572671, 2147483647, 4294967295, 8589934591, 17179869183, 34359738367, 34359738367, 137438953471, 274877906943, 34359738367, 34359738367, 2199023255551, 34359738367, 34359738367, 13228499271679, 30820685316095, 34359738367, 140737488355327, 281474976710655, 562949953421311, 1125899906842623]
theorem hypercubelaw2_CellWays.tab11 : rtab .any (opsOf Try.f13 11) = hypercubelaw2_CellWays.T11 := by kernel_rfl
theorem hypercubelaw2_CellWays.bits11 : waitsOk hypercubelaw2_CellWays.T11.2 hypercubelaw2_CellWays.B11 = true := by kernel_rfl
def hypercubelaw2_CellWays.Pure : Prop := ∀ (a0 : Int) (l1 : List Int) (a2 : Int) (l3 : List Int) (a4 : Int) (a5 : Int) (a6 : Int), (Lit.int .i64 a0).wf = true → l1.length ≤ maxLen → l1.length * 8 ≤ 140737488351232 → (∀ x ∈ l1, (Lit.int .i64 x).wf = true) → (Lit.int .i64 a2).wf = true → l3.length ≤ maxLen → l3.length * 8 ≤ 140737488351232 → (∀ x ∈ l3, (Lit.int .i64 x).wf = true) → (Lit.int .i64 a4).wf = true → (Lit.int .i64 a5).wf = true → (Lit.int .i64 a6).wf = true →
 ∃ k cards meas rows s l q u, hypercubelaw1_Facts.f k a0 l1 a2 l3 = some (cards, meas, rows) ∧ hypercubelaw2_Set.f cards meas a4 = some s ∧ hypercubelaw2_within.f a5 16 = some q ∧ hypercubelaw2_within.f a6 16 = some u ∧ hypercubelaw2_Make.f k rows s = some l ∧ (l.length ≤ rows.length ∧ ∀ i : Nat, i < l.length → WaysAt k (rd_T30 l (i : Int)) (rd_T45 rows (i : Int)) s (Go.bits .and .i64 s q) (Go.bits .and .i64 (Go.bits .and .i64 s q) u))
set_option maxHeartbeats 8000000 in
set_option maxRecDepth 100000 in
theorem hypercubelaw2_CellWays.calls (k : Nat) (a0 : Int) (A1 : Option Addr) (c1 : Nat) (l1 : List Int) (a2 : Int) (A3 : Option Addr) (c3 : Nat) (l3 : List Int) (a4 : Int) (a5 : Int) (a6 : Int) (w : World) (hr1 : Kd.C (Kd.int .i64) w A1 l1.length l1) (hc1 : l1.length ≤ c1) (hr3 : Kd.C (Kd.int .i64) w A3 l3.length l3) (hc3 : l3.length ≤ c3)
  {cards : List Int} {meas : Int} {rows : List S45} {s q u : Int} {l : List S30} (h1 : hypercubelaw1_Facts.f k a0 l1 a2 l3 = some (cards, meas, rows)) (h2 : hypercubelaw2_Set.f cards meas a4 = some s) (h3 : hypercubelaw2_within.f a5 16 = some q) (h4 : hypercubelaw2_within.f a6 16 = some u) (h5 : hypercubelaw2_Make.f k rows s = some l) (h6 : l.length ≤ rows.length ∧ ∀ i : Nat, i < l.length → WaysAt k (rd_T30 l (i : Int)) (rd_T45 rows (i : Int)) s (Go.bits .and .i64 s q) (Go.bits .and .i64 (Go.bits .and .i64 s q) u)) :
  Calls Try.prog 13 #[.int .i64 a0, .slice A1 l1.length c1, .int .i64 a2, .slice A3 l3.length c3, .int .i64 a4, .int .i64 a5, .int .i64 a6] w fun e w' => e = .returned (.bool true) ∧ Below w.heap.size w w' := by
 have hu30 := Try.underlying30
 have hu45 := Try.underlying45
 have hu25 := Try.underlying35
 have H1 := am h1
 have H2 := am h2
 have H3 := am h3
 have H4 := am h4
 have H5 := am h5
 have H6 := am h6
 have HR1 := am hr1
 have HC1 := am hc1
 have HR3 := am hr3
 have HC3 := am hc3
 clear h1 h2 h3 h4 h5 h6 hr1 hc1 hr3 hc3
 go_enter Try.func13, Try.ntmps13
 go_wp2_with (fail)
 refine (hypercubelaw2_known.calls true w rfl).mono ?_
 rintro e w1 ⟨rfl, hb1⟩
 have HB1 := am hb1
 clear hb1
 go_wp2_with (fail)
 refine (hypercubelaw1_Facts.calls k a0 A1 c1 l1 a2 A3 c3 l3 cards meas rows w1 (Kd.C_below HR1.out HB1.out) HC1.out (Kd.C_below HR3.out HB1.out) HC3.out H1.out).mono ?_
 rintro e w2 ⟨v1, v2, rfl, ho0, ho1, hb2⟩
 obtain ⟨A14, c14, rfl⟩ := Kd.R_slice ho0
 obtain ⟨A15, c15, rfl⟩ := Kd.S_slice ho1
 have HX := am (Kd.R_reads' ho0).2
 have HY := am (Kd.S_reads' ho1).2
 have HB2 := am (below_step HB1.out hb2)
 clear ho0 ho1 hb2
 go_wp2_with (first | ((with_reducible refine gate_dst (N := 15) rfl ?_); (try (refine gate_guard (by rfl) ?_; dsimp only)); refine box_event ?hg (N := 15) ?hd (cs := #[.slice none 0 0, .int .i64 0]) (t := 35) ?hr ?_; (case hd => rfl); (case hg => rfl); (case hr => first | (go_simp; done) | (go_simp; rfl)); intro gb hg w3 hbox hb; have hcz0 : w3.cell? ⟨gb, 0, none⟩ = some (.slice none 0 0) := (blk_cell hbox 0).trans rfl; have hcz1 : w3.cell? ⟨gb, 1, none⟩ = some (.int .i64 0) := (blk_cell hbox 1).trans rfl; have hfz0 := blk_frozen hbox 0; have hfz1 := blk_frozen hbox 1; have HBX := am hbox; have HG := am hg; have HB3 := am hb; clear hbox hg hb))
 refine name_calls ?_
 intro w4 hw4
 have hb4 : Below w2.heap.size w2 w4 := by rw [hw4]; exact below_set (below_set HB3.out (Nat.le_of_eq HG.out.symm)) (Nat.le_of_eq HG.out.symm)
 have HB4 := am (below_step HB2.out hb4)
 have HX4 := am (Kd.C_below HX.out.2 hb4)
 have HY4 := am (Kd.C_below HY.out.2 hb4)
 clear hw4 hb4 hcz0 hcz1 hfz0 hfz1
 refine (hypercubelaw2_Set.calls A14 c14 cards meas a4 s w4 HX4.out HX.out.1 H2.out).mono ?_
 rintro e w5 ⟨rfl, hb5⟩
 have HY5 := am (Kd.C_below HY4.out hb5)
 have HB5 := am (below_step HB4.out hb5)
 clear hb5 HX4 HB4 HB3 HBX HG HY4
 go_wp2_with (fail)
 refine (hypercubelaw2_within.calls a5 16 q w5 H3.out).mono ?_
 rintro e w' ⟨rfl, ⟨nd5, rfl⟩⟩
 go_wp2_with (fail)
 refine (hypercubelaw2_within.calls a6 16 u _ H4.out).mono ?_
 rintro e w' ⟨rfl, ⟨nd6, rfl⟩⟩
 go_wp2_with (fail)
 refine name_calls ?_
 intro w6 hw6
 have hb6 : Below w5.heap.size w5 w6 := by rw [hw6]; exact pw_below_drewN (Below.refl _ _) _
 have HY6 := am (Kd.C_below HY5.out hb6)
 have HB6 := am (below_step HB5.out hb6)
 clear hw6 hb6 HB5 HY5
 refine (hypercubelaw2_Make.calls k A15 c15 rows s l w6 HY6.out HY.out.1 H5.out).mono ?_
 rintro e w7 ⟨v6, rfl, ho0, hb⟩
 obtain ⟨A27, c27, rfl⟩ := Kd.S_slice ho0
 have HL7 := am (Kd.S_reads' ho0).2
 have HLM := am (Kd.S_reads' ho0).2.2.2.1
 have HY7 := am (Kd.C_below HY6.out hb)
 have HB7 := am (below_step HB6.out hb)
 clear ho0 hb HB6 HY6
 go_wp2_with (fail)
 go_loopg [21] (l.length + 1) (fun kq v21 w' => ∃ i : Nat, v21 = .int .i64 (i : Int) ∧ Aside0 (i + kq = l.length + 1 ∧ i ≤ l.length) ∧ Aside0 (Below w7.heap.size w7 w'))
 case atStart => exact ⟨0, rfl, ⟨by omega, by omega⟩, ⟨Below.refl _ _⟩⟩
 case round =>
 obtain ⟨i, rfl, HI, HS⟩ := hrel
 cases gk with
 | zero => exact absurd HI.out (by omega)
 | succ k1 =>
 by_cases hi : i < l.length
 ·have hc1 : decide ((i : Int) < (l.length : Int)) = true := decide_eq_true (by omega)
  have pi := eq_true (show (0 : Int) ≤ (i : Int) by omega)
  have qi := eq_true (show (i : Int) < (l.length : Int) by omega)
  have qr := eq_true (show (i : Int) < (rows.length : Int) by have := H6.out.1; omega)
  have qi2 := eq_true (show i < l.length from hi)
  have qr2 := eq_true (show i < rows.length by have := H6.out.1; omega)
  obtain ⟨p, z, t, o, n1, n2, n3, e1, n4, e2, n5, e3⟩ := H6.out.2 i hi
  obtain ⟨ad, A0, c0, A2, c2, A3, c3, A4, c4, eA, x0, x1, x2, x3, x4, m0, r0, m2, r2, m3, r3, m4, r4⟩ := at_T30 (Kd.C_below HL7.out.2 HS.out) (i : Int) (by omega) (by omega)
  cases eA
  obtain ⟨ae, B0, d0, B1, d1, eB, y0, y1, s0, u0, s1, u1⟩ := at_T45 (Kd.C_below HY7.out HS.out) (i : Int) (by omega) (by have := H6.out.1; omega)
  cases eB
  rw [Int.toNat_natCast] at x0 x1 x2 x3 x4 y0 y1
  generalize rd_T30 l (i : Int) = x at *
  generalize rd_T45 rows (i : Int) = y at *
  have hwi : wrap64 ((i : Int) + 1) = ((i + 1 : Nat) : Int) := by have := HLM.out; unfold wrap64; omega
  have N1 := am n1
  have N2 := am n2
  have N3 := am n3
  have N4 := am n4
  have N5 := am n5
  have E1 := am e1
  have E2 := am e2
  have E3 := am e3
  have X0 := am x0
  have X1 := am x1
  have X2 := am x2
  have X3 := am x3
  have X4 := am x4
  have Y0 := am y0
  have Y1 := am y1
  have R0 := am (And.intro r0 m0)
  have R2 := am (And.intro r2 m2)
  have R3 := am (And.intro r3 m3)
  have R4 := am (And.intro r4 m4)
  have U0 := am (And.intro u0 s0)
  have U1 := am (And.intro u1 s1)
  have HHI := am hi
  clear hi n1 n2 n3 n4 n5 e1 e2 e3 x0 x1 x2 x3 x4 y0 y1 r0 r2 r3 r4 m0 m2 m3 m4 u0 u1 s0 s1
  go_wp2
  refine start_ (n := 51) (S := fun w' => w'.cell? (ad.add (i * 5)) = some (.slice A0 x.f0.length c0) ∧ w'.cell? ⟨(ad.add (i * 5)).block, (ad.add (i * 5)).off + 1, none⟩ = some (.int .i64 x.f1) ∧ w'.cell? ⟨(ad.add (i * 5)).block, (ad.add (i * 5)).off + 2, none⟩ = some (.slice A2 x.f2.length c2) ∧ w'.cell? ⟨(ad.add (i * 5)).block, (ad.add (i * 5)).off + 3, none⟩ = some (.slice A3 x.f3.length c3) ∧ w'.cell? ⟨(ad.add (i * 5)).block, (ad.add (i * 5)).off + 4, none⟩ = some (.slice A4 x.f4.length c4) ∧ w'.cell? (ae.add (i * 2)) = some (.slice B0 y.f0.length d0) ∧ w'.cell? ⟨(ae.add (i * 2)).block, (ae.add (i * 2)).off + 1, none⟩ = some (.slice B1 y.f1.length d1)) (ds := []) (bb 51 0) (by kernel_rfl) rfl rfl ⟨X0.out, X1.out, X2.out, X3.out, X4.out, Y0.out, Y1.out⟩ (fun hHeld => ?_)
  refine with_tabW hypercubelaw2_CellWays.tab11 hypercubelaw2_CellWays.bits11 (fun HT_ HW_ => ?_)
  have HB := am (below_drew (Below.refl wr.heap.size wr))
  generalize wr.drew = wd at HB hHeld ⊢
  refine pu (i := 0) (N := some 52) (bb 51 1) HT_ ?_
  refine pu (i := 1) (N := some 53) (bb 51 3) HT_ ?_
  refine pu (i := 2) (N := some 54) (bb 51 7) HT_ ?_
  refine pu (i := 4) (N := some 56) (bb 51 23) HT_ ?_
  refine pu (i := 5) (N := some 57) (bb 51 55) HT_ ?_
  refine pu (i := 7) (N := some 59) (bb 51 183) HT_ ?_
  refine pu (i := 8) (N := some 60) (bb 51 439) HT_ ?_
  refine pu (i := 10) (N := some 62) (bb 51 1463) HT_ ?_
  refine pu (i := 11) (N := some 63) (bb 51 3511) HT_ ?_
  refine pu (i := 12) (N := some 64) (bb 51 7607) HT_ ?_
  refine pu (i := 14) (N := some 66) (bb 51 23991) HT_ ?_
  refine pu (i := 15) (N := some 67) (bb 51 56759) HT_ ?_
  refine tk (i := 3) (N := some 55) (bb 51 56767) HT_ HW_ hHeld ?_
  refine tk (i := 13) (N := some 65) (bb 51 64959) HT_ HW_ hHeld ?_
  refine one_ (i := 6) (N := some 58) (bb 51 65023) rfl rfl (one_of HT_.out (by kernel_rfl)) (by decide) (fun K hK => ?_)
  refine goes_ Try.func31 (by kernel_rfl) rfl #[.agg #[.slice A0 x.f0.length c0, .int .i64 x.f1, .slice A2 x.f2.length c2, .slice A3 x.f3.length c3, .slice A4 x.f4.length c4], .int .i64 s, .int .i64 (Go.bits .and .i64 s q)] (by rfl) rfl rfl (by (try simp only [List.map_toArray, List.map_cons, List.map_nil]); first | done | rfl) ?_
  with_reducible refine (cell_Narrow.calls A0 c0 x.f0 x.f1 A2 c2 x.f2 A3 c3 x.f3 A4 c4 x.f4 s (Go.bits .and .i64 s q) p.f0 p.f1 p.f2 p.f3 p.f4 _ (Kd.C_below R0.out.1 HB.out) R0.out.2 (Kd.C_below R2.out.1 HB.out) R2.out.2 (Kd.C_below R3.out.1 HB.out) R3.out.2 (Kd.C_below R4.out.1 HB.out) R4.out.2 N1.out).mono ?_

  rintro e wd1 ⟨v0, v2, v3, v4, rfl, g0, g2, g3, g4, hb⟩
  obtain ⟨Ap0, cp0, rfl⟩ := Kd.R_slice g0
  obtain ⟨Ap2, cp2, rfl⟩ := Kd.R_slice g2
  obtain ⟨Ap3, cp3, rfl⟩ := Kd.R_slice g3
  obtain ⟨Ap4, cp4, rfl⟩ := Kd.R_slice g4
  replace HB := am (below_step HB.out hb)
  clear hb
  refine ⟨_, rfl, ?_⟩
  have Pp0 := am (Kd.R_reads' g0).2
  have Pp2 := am (Kd.R_reads' g2).2
  have Pp3 := am (Kd.R_reads' g3).2
  have Pp4 := am (Kd.R_reads' g4).2
  clear g0 g2 g3 g4
  refine hK.out _ _ ⟨(HB.out.cell (World.block_lt_of_cell? wr _ X0.out)).trans X0.out, (HB.out.cell (World.block_lt_of_cell? wr _ X1.out)).trans X1.out, (HB.out.cell (World.block_lt_of_cell? wr _ X2.out)).trans X2.out, (HB.out.cell (World.block_lt_of_cell? wr _ X3.out)).trans X3.out, (HB.out.cell (World.block_lt_of_cell? wr _ X4.out)).trans X4.out, (HB.out.cell (World.block_lt_of_cell? wr _ Y0.out)).trans Y0.out, (HB.out.cell (World.block_lt_of_cell? wr _ Y1.out)).trans Y1.out⟩ (fun hHeld => ?_)
  clear hK K
  refine nm ?_
  refine one_ (i := 9) (N := some 61) (bb 51 65535) rfl rfl (one_of HT_.out (by kernel_rfl)) (by decide) (fun K hK => ?_)
  refine goes_ Try.func31 (by kernel_rfl) rfl #[.agg #[.slice Ap0 p.f0.length cp0, .int .i64 p.f1, .slice Ap2 p.f2.length cp2, .slice Ap3 p.f3.length cp3, .slice Ap4 p.f4.length cp4], .int .i64 (Go.bits .and .i64 s q), .int .i64 (Go.bits .and .i64 (Go.bits .and .i64 s q) u)] (by rfl) rfl rfl (by (try simp only [List.map_toArray, List.map_cons, List.map_nil]); first | done | rfl) ?_
  with_reducible refine (cell_Narrow.calls Ap0 cp0 p.f0 p.f1 Ap2 cp2 p.f2 Ap3 cp3 p.f3 Ap4 cp4 p.f4 (Go.bits .and .i64 s q) (Go.bits .and .i64 (Go.bits .and .i64 s q) u) z.f0 z.f1 z.f2 z.f3 z.f4 _ Pp0.out.2 Pp0.out.1 Pp2.out.2 Pp2.out.1 Pp3.out.2 Pp3.out.1 Pp4.out.2 Pp4.out.1 N2.out).mono ?_

  rintro e wd2 ⟨v0, v2, v3, v4, rfl, g0, g2, g3, g4, hb⟩
  obtain ⟨Az0, cz0, rfl⟩ := Kd.R_slice g0
  obtain ⟨Az2, cz2, rfl⟩ := Kd.R_slice g2
  obtain ⟨Az3, cz3, rfl⟩ := Kd.R_slice g3
  obtain ⟨Az4, cz4, rfl⟩ := Kd.R_slice g4
  replace Pp0 := am (And.intro Pp0.out.1 (Kd.C_below Pp0.out.2 hb))
  replace Pp2 := am (And.intro Pp2.out.1 (Kd.C_below Pp2.out.2 hb))
  replace Pp3 := am (And.intro Pp3.out.1 (Kd.C_below Pp3.out.2 hb))
  replace Pp4 := am (And.intro Pp4.out.1 (Kd.C_below Pp4.out.2 hb))
  replace HB := am (below_step HB.out hb)
  clear hb
  refine ⟨_, rfl, ?_⟩
  have Pz0 := am (Kd.R_reads' g0).2
  have Pz2 := am (Kd.R_reads' g2).2
  have Pz3 := am (Kd.R_reads' g3).2
  have Pz4 := am (Kd.R_reads' g4).2
  clear g0 g2 g3 g4
  refine hK.out _ _ ⟨(HB.out.cell (World.block_lt_of_cell? wr _ X0.out)).trans X0.out, (HB.out.cell (World.block_lt_of_cell? wr _ X1.out)).trans X1.out, (HB.out.cell (World.block_lt_of_cell? wr _ X2.out)).trans X2.out, (HB.out.cell (World.block_lt_of_cell? wr _ X3.out)).trans X3.out, (HB.out.cell (World.block_lt_of_cell? wr _ X4.out)).trans X4.out, (HB.out.cell (World.block_lt_of_cell? wr _ Y0.out)).trans Y0.out, (HB.out.cell (World.block_lt_of_cell? wr _ Y1.out)).trans Y1.out⟩ (fun hHeld => ?_)
  clear hK K
  refine nm ?_
  refine one_ (i := 16) (N := some 68) (bb 51 131071) rfl rfl (one_of HT_.out (by kernel_rfl)) (by decide) (fun K hK => ?_)
  refine goes_ Try.func31 (by kernel_rfl) rfl #[.agg #[.slice A0 x.f0.length c0, .int .i64 x.f1, .slice A2 x.f2.length c2, .slice A3 x.f3.length c3, .slice A4 x.f4.length c4], .int .i64 s, .int .i64 (Go.bits .and .i64 (Go.bits .and .i64 s q) u)] (by rfl) rfl rfl (by (try simp only [List.map_toArray, List.map_cons, List.map_nil]); first | done | rfl) ?_
  with_reducible refine (cell_Narrow.calls A0 c0 x.f0 x.f1 A2 c2 x.f2 A3 c3 x.f3 A4 c4 x.f4 s (Go.bits .and .i64 (Go.bits .and .i64 s q) u) z.f0 z.f1 z.f2 z.f3 z.f4 _ (Kd.C_below R0.out.1 HB.out) R0.out.2 (Kd.C_below R2.out.1 HB.out) R2.out.2 (Kd.C_below R3.out.1 HB.out) R3.out.2 (Kd.C_below R4.out.1 HB.out) R4.out.2 N3.out).mono ?_

  rintro e wd3 ⟨v0, v2, v3, v4, rfl, g0, g2, g3, g4, hb⟩
  obtain ⟨Az20, cz20, rfl⟩ := Kd.R_slice g0
  obtain ⟨Az22, cz22, rfl⟩ := Kd.R_slice g2
  obtain ⟨Az23, cz23, rfl⟩ := Kd.R_slice g3
  obtain ⟨Az24, cz24, rfl⟩ := Kd.R_slice g4
  replace Pp0 := am (And.intro Pp0.out.1 (Kd.C_below Pp0.out.2 hb))
  replace Pp2 := am (And.intro Pp2.out.1 (Kd.C_below Pp2.out.2 hb))
  replace Pp3 := am (And.intro Pp3.out.1 (Kd.C_below Pp3.out.2 hb))
  replace Pp4 := am (And.intro Pp4.out.1 (Kd.C_below Pp4.out.2 hb))
  replace Pz0 := am (And.intro Pz0.out.1 (Kd.C_below Pz0.out.2 hb))
  replace Pz2 := am (And.intro Pz2.out.1 (Kd.C_below Pz2.out.2 hb))
  replace Pz3 := am (And.intro Pz3.out.1 (Kd.C_below Pz3.out.2 hb))
  replace Pz4 := am (And.intro Pz4.out.1 (Kd.C_below Pz4.out.2 hb))
  replace HB := am (below_step HB.out hb)
  clear hb
  refine ⟨_, rfl, ?_⟩
  have Pz20 := am (Kd.R_reads' g0).2
  have Pz22 := am (Kd.R_reads' g2).2
  have Pz23 := am (Kd.R_reads' g3).2
  have Pz24 := am (Kd.R_reads' g4).2
  clear g0 g2 g3 g4
  refine hK.out _ _ ⟨(HB.out.cell (World.block_lt_of_cell? wr _ X0.out)).trans X0.out, (HB.out.cell (World.block_lt_of_cell? wr _ X1.out)).trans X1.out, (HB.out.cell (World.block_lt_of_cell? wr _ X2.out)).trans X2.out, (HB.out.cell (World.block_lt_of_cell? wr _ X3.out)).trans X3.out, (HB.out.cell (World.block_lt_of_cell? wr _ X4.out)).trans X4.out, (HB.out.cell (World.block_lt_of_cell? wr _ Y0.out)).trans Y0.out, (HB.out.cell (World.block_lt_of_cell? wr _ Y1.out)).trans Y1.out⟩ (fun hHeld => ?_)
  clear hK K
  refine nm ?_
  refine one_ (i := 17) (N := some 69) (bb 51 262143) rfl rfl (one_of HT_.out (by kernel_rfl)) (by decide) (fun K hK => ?_)
  refine goes_ Try.func22 (by kernel_rfl) rfl #[.agg #[.slice Az0 z.f0.length cz0, .int .i64 z.f1, .slice Az2 z.f2.length cz2, .slice Az3 z.f3.length cz3, .slice Az4 z.f4.length cz4], .agg #[.slice Az20 z.f0.length cz20, .int .i64 z.f1, .slice Az22 z.f2.length cz22, .slice Az23 z.f3.length cz23, .slice Az24 z.f4.length cz24]] (by rfl) rfl rfl (by (try simp only [List.map_toArray, List.map_cons, List.map_nil]); first | done | rfl) ?_
  with_reducible refine (hypercuberef2_Equal.calls k Az0 cz0 z.f0 z.f1 Az2 cz2 z.f2 Az3 cz3 z.f3 Az4 cz4 z.f4 Az20 cz20 z.f0 z.f1 Az22 cz22 z.f2 Az23 cz23 z.f3 Az24 cz24 z.f4 true _ Pz0.out.2 Pz0.out.1 Pz2.out.2 Pz2.out.1 Pz3.out.2 Pz3.out.1 Pz4.out.2 Pz4.out.1 Pz20.out.2 Pz20.out.1 Pz22.out.2 Pz22.out.1 Pz23.out.2 Pz23.out.1 Pz24.out.2 Pz24.out.1 E1.out).mono ?_

  rintro e wd4 ⟨rfl, hb⟩
  replace Pp0 := am (And.intro Pp0.out.1 (Kd.C_below Pp0.out.2 hb))
  replace Pp2 := am (And.intro Pp2.out.1 (Kd.C_below Pp2.out.2 hb))
  replace Pp3 := am (And.intro Pp3.out.1 (Kd.C_below Pp3.out.2 hb))
  replace Pp4 := am (And.intro Pp4.out.1 (Kd.C_below Pp4.out.2 hb))
  replace Pz0 := am (And.intro Pz0.out.1 (Kd.C_below Pz0.out.2 hb))
  replace Pz2 := am (And.intro Pz2.out.1 (Kd.C_below Pz2.out.2 hb))
  replace Pz3 := am (And.intro Pz3.out.1 (Kd.C_below Pz3.out.2 hb))
  replace Pz4 := am (And.intro Pz4.out.1 (Kd.C_below Pz4.out.2 hb))
  replace Pz20 := am (And.intro Pz20.out.1 (Kd.C_below Pz20.out.2 hb))
  replace Pz22 := am (And.intro Pz22.out.1 (Kd.C_below Pz22.out.2 hb))
  replace Pz23 := am (And.intro Pz23.out.1 (Kd.C_below Pz23.out.2 hb))
  replace Pz24 := am (And.intro Pz24.out.1 (Kd.C_below Pz24.out.2 hb))
  replace HB := am (below_step HB.out hb)
  clear hb
  refine ⟨_, rfl, ?_⟩
  refine hK.out _ _ ⟨(HB.out.cell (World.block_lt_of_cell? wr _ X0.out)).trans X0.out, (HB.out.cell (World.block_lt_of_cell? wr _ X1.out)).trans X1.out, (HB.out.cell (World.block_lt_of_cell? wr _ X2.out)).trans X2.out, (HB.out.cell (World.block_lt_of_cell? wr _ X3.out)).trans X3.out, (HB.out.cell (World.block_lt_of_cell? wr _ X4.out)).trans X4.out, (HB.out.cell (World.block_lt_of_cell? wr _ Y0.out)).trans Y0.out, (HB.out.cell (World.block_lt_of_cell? wr _ Y1.out)).trans Y1.out⟩ (fun hHeld => ?_)
  clear hK K
  refine nm ?_
  refine pu (i := 18) (N := some 70) (bb 51 524287) HT_ ?_
  refine pu (i := 19) (N := some 71) (bb 51 1048575) HT_ ?_
  refine pu (i := 20) (N := some 72) (bb 51 2097151) HT_ ?_
  refine pu (i := 21) (N := some 73) (bb 51 4194303) HT_ ?_
  refine pu (i := 22) (N := some 74) (bb 51 8388607) HT_ ?_
  refine pu (i := 24) (N := some 76) (bb 51 25165823) HT_ ?_
  refine pu (i := 25) (N := some 77) (bb 51 58720255) HT_ ?_
  refine pu (i := 27) (N := some 79) (bb 51 192937983) HT_ ?_
  refine pu (i := 28) (N := some 80) (bb 51 461373439) HT_ ?_
  refine pu (i := 29) (N := some 81) (bb 51 998244351) HT_ ?_
  refine tk (i := 23) (N := some 75) (bb 51 1006632959) HT_ HW_ hHeld ?_
  refine tk (i := 30) (N := some 82) (bb 51 2080374783) HT_ HW_ hHeld ?_
  refine one_ (i := 26) (N := some 78) (bb 51 2147483647) rfl rfl (one_of HT_.out (by kernel_rfl)) (by decide) (fun K hK => ?_)
  refine goes_ Try.func31 (by kernel_rfl) rfl #[.agg #[.slice A0 x.f0.length c0, .int .i64 x.f1, .slice A2 x.f2.length c2, .slice A3 x.f3.length c3, .slice A4 x.f4.length c4], .int .i64 s, .int .i64 s] (by rfl) rfl rfl (by (try simp only [List.map_toArray, List.map_cons, List.map_nil]); first | done | rfl) ?_
  with_reducible refine (cell_Narrow.calls A0 c0 x.f0 x.f1 A2 c2 x.f2 A3 c3 x.f3 A4 c4 x.f4 s s t.f0 t.f1 t.f2 t.f3 t.f4 _ (Kd.C_below R0.out.1 HB.out) R0.out.2 (Kd.C_below R2.out.1 HB.out) R2.out.2 (Kd.C_below R3.out.1 HB.out) R3.out.2 (Kd.C_below R4.out.1 HB.out) R4.out.2 N4.out).mono ?_

  rintro e wd5 ⟨v0, v2, v3, v4, rfl, g0, g2, g3, g4, hb⟩
  obtain ⟨At0, ct0, rfl⟩ := Kd.R_slice g0
  obtain ⟨At2, ct2, rfl⟩ := Kd.R_slice g2
  obtain ⟨At3, ct3, rfl⟩ := Kd.R_slice g3
  obtain ⟨At4, ct4, rfl⟩ := Kd.R_slice g4
  replace Pp0 := am (And.intro Pp0.out.1 (Kd.C_below Pp0.out.2 hb))
  replace Pp2 := am (And.intro Pp2.out.1 (Kd.C_below Pp2.out.2 hb))
  replace Pp3 := am (And.intro Pp3.out.1 (Kd.C_below Pp3.out.2 hb))
  replace Pp4 := am (And.intro Pp4.out.1 (Kd.C_below Pp4.out.2 hb))
  replace Pz0 := am (And.intro Pz0.out.1 (Kd.C_below Pz0.out.2 hb))
  replace Pz2 := am (And.intro Pz2.out.1 (Kd.C_below Pz2.out.2 hb))
  replace Pz3 := am (And.intro Pz3.out.1 (Kd.C_below Pz3.out.2 hb))
  replace Pz4 := am (And.intro Pz4.out.1 (Kd.C_below Pz4.out.2 hb))
  replace Pz20 := am (And.intro Pz20.out.1 (Kd.C_below Pz20.out.2 hb))
  replace Pz22 := am (And.intro Pz22.out.1 (Kd.C_below Pz22.out.2 hb))
  replace Pz23 := am (And.intro Pz23.out.1 (Kd.C_below Pz23.out.2 hb))
  replace Pz24 := am (And.intro Pz24.out.1 (Kd.C_below Pz24.out.2 hb))
  replace HB := am (below_step HB.out hb)
  clear hb
  refine ⟨_, rfl, ?_⟩
  have Pt0 := am (Kd.R_reads' g0).2
  have Pt2 := am (Kd.R_reads' g2).2
  have Pt3 := am (Kd.R_reads' g3).2
  have Pt4 := am (Kd.R_reads' g4).2
  clear g0 g2 g3 g4
  refine hK.out _ _ ⟨(HB.out.cell (World.block_lt_of_cell? wr _ X0.out)).trans X0.out, (HB.out.cell (World.block_lt_of_cell? wr _ X1.out)).trans X1.out, (HB.out.cell (World.block_lt_of_cell? wr _ X2.out)).trans X2.out, (HB.out.cell (World.block_lt_of_cell? wr _ X3.out)).trans X3.out, (HB.out.cell (World.block_lt_of_cell? wr _ X4.out)).trans X4.out, (HB.out.cell (World.block_lt_of_cell? wr _ Y0.out)).trans Y0.out, (HB.out.cell (World.block_lt_of_cell? wr _ Y1.out)).trans Y1.out⟩ (fun hHeld => ?_)
  clear hK K
  refine nm ?_
  refine one_ (i := 31) (N := some 83) (bb 51 4294967295) rfl rfl (one_of HT_.out (by kernel_rfl)) (by decide) (fun K hK => ?_)
  refine goes_ Try.func22 (by kernel_rfl) rfl #[.agg #[.slice At0 t.f0.length ct0, .int .i64 t.f1, .slice At2 t.f2.length ct2, .slice At3 t.f3.length ct3, .slice At4 t.f4.length ct4], .agg #[.slice A0 x.f0.length c0, .int .i64 x.f1, .slice A2 x.f2.length c2, .slice A3 x.f3.length c3, .slice A4 x.f4.length c4]] (by rfl) rfl rfl (by (try simp only [List.map_toArray, List.map_cons, List.map_nil]); first | done | rfl) ?_
  with_reducible refine (hypercuberef2_Equal.calls k At0 ct0 t.f0 t.f1 At2 ct2 t.f2 At3 ct3 t.f3 At4 ct4 t.f4 A0 c0 x.f0 x.f1 A2 c2 x.f2 A3 c3 x.f3 A4 c4 x.f4 true _ Pt0.out.2 Pt0.out.1 Pt2.out.2 Pt2.out.1 Pt3.out.2 Pt3.out.1 Pt4.out.2 Pt4.out.1 (Kd.C_below R0.out.1 HB.out) R0.out.2 (Kd.C_below R2.out.1 HB.out) R2.out.2 (Kd.C_below R3.out.1 HB.out) R3.out.2 (Kd.C_below R4.out.1 HB.out) R4.out.2 E2.out).mono ?_

  rintro e wd6 ⟨rfl, hb⟩
  replace Pp0 := am (And.intro Pp0.out.1 (Kd.C_below Pp0.out.2 hb))
  replace Pp2 := am (And.intro Pp2.out.1 (Kd.C_below Pp2.out.2 hb))
  replace Pp3 := am (And.intro Pp3.out.1 (Kd.C_below Pp3.out.2 hb))
  replace Pp4 := am (And.intro Pp4.out.1 (Kd.C_below Pp4.out.2 hb))
  replace Pz0 := am (And.intro Pz0.out.1 (Kd.C_below Pz0.out.2 hb))
  replace Pz2 := am (And.intro Pz2.out.1 (Kd.C_below Pz2.out.2 hb))
  replace Pz3 := am (And.intro Pz3.out.1 (Kd.C_below Pz3.out.2 hb))
  replace Pz4 := am (And.intro Pz4.out.1 (Kd.C_below Pz4.out.2 hb))
  replace Pz20 := am (And.intro Pz20.out.1 (Kd.C_below Pz20.out.2 hb))
  replace Pz22 := am (And.intro Pz22.out.1 (Kd.C_below Pz22.out.2 hb))
  replace Pz23 := am (And.intro Pz23.out.1 (Kd.C_below Pz23.out.2 hb))
  replace Pz24 := am (And.intro Pz24.out.1 (Kd.C_below Pz24.out.2 hb))
  replace Pt0 := am (And.intro Pt0.out.1 (Kd.C_below Pt0.out.2 hb))
  replace Pt2 := am (And.intro Pt2.out.1 (Kd.C_below Pt2.out.2 hb))
  replace Pt3 := am (And.intro Pt3.out.1 (Kd.C_below Pt3.out.2 hb))
  replace Pt4 := am (And.intro Pt4.out.1 (Kd.C_below Pt4.out.2 hb))
  replace HB := am (below_step HB.out hb)
  clear hb
  refine ⟨_, rfl, ?_⟩
  refine hK.out _ _ ⟨(HB.out.cell (World.block_lt_of_cell? wr _ X0.out)).trans X0.out, (HB.out.cell (World.block_lt_of_cell? wr _ X1.out)).trans X1.out, (HB.out.cell (World.block_lt_of_cell? wr _ X2.out)).trans X2.out, (HB.out.cell (World.block_lt_of_cell? wr _ X3.out)).trans X3.out, (HB.out.cell (World.block_lt_of_cell? wr _ X4.out)).trans X4.out, (HB.out.cell (World.block_lt_of_cell? wr _ Y0.out)).trans Y0.out, (HB.out.cell (World.block_lt_of_cell? wr _ Y1.out)).trans Y1.out⟩ (fun hHeld => ?_)
  clear hK K
  refine nm ?_
  refine pu (i := 32) (N := some 84) (bb 51 8589934591) HT_ ?_
  refine pu (i := 33) (N := some 85) (bb 51 17179869183) HT_ ?_
  refine pu (i := 34) (N := some 86) (bb 51 34359738367) HT_ ?_
  refine pu (i := 35) (N := some 87) (bb 51 68719476735) HT_ ?_
  refine pu (i := 36) (N := some 88) (bb 51 137438953471) HT_ ?_
  refine pu (i := 37) (N := some 89) (bb 51 274877906943) HT_ ?_
  refine pu (i := 39) (N := some 91) (bb 51 824633720831) HT_ ?_
  refine pu (i := 40) (N := some 92) (bb 51 1924145348607) HT_ ?_
  refine pu (i := 42) (N := some 94) (bb 51 6322191859711) HT_ ?_
  refine pu (i := 43) (N := some 95) (bb 51 15118284881919) HT_ ?_
  refine pu (i := 44) (N := some 96) (bb 51 32710470926335) HT_ ?_
  refine pu (i := 46) (N := some 98) (bb 51 103079215103999) HT_ ?_
  refine tk (i := 38) (N := some 90) (bb 51 103354093010943) HT_ HW_ hHeld ?_
  refine tk (i := 45) (N := some 97) (bb 51 138538465099775) HT_ HW_ hHeld ?_
  refine one_ (i := 41) (N := some 93) (bb 51 140737488355327) rfl rfl (one_of HT_.out (by kernel_rfl)) (by decide) (fun K hK => ?_)
  refine goes_ Try.func31 (by kernel_rfl) rfl #[.agg #[.slice A0 x.f0.length c0, .int .i64 x.f1, .slice A2 x.f2.length c2, .slice A3 x.f3.length c3, .slice A4 x.f4.length c4], .int .i64 s, .int .i64 (Go.bits .and .i64 (Go.bits .and .i64 s q) u)] (by rfl) rfl rfl (by (try simp only [List.map_toArray, List.map_cons, List.map_nil]); first | done | rfl) ?_
  with_reducible refine (cell_Narrow.calls A0 c0 x.f0 x.f1 A2 c2 x.f2 A3 c3 x.f3 A4 c4 x.f4 s (Go.bits .and .i64 (Go.bits .and .i64 s q) u) z.f0 z.f1 z.f2 z.f3 z.f4 _ (Kd.C_below R0.out.1 HB.out) R0.out.2 (Kd.C_below R2.out.1 HB.out) R2.out.2 (Kd.C_below R3.out.1 HB.out) R3.out.2 (Kd.C_below R4.out.1 HB.out) R4.out.2 N3.out).mono ?_

  rintro e wd7 ⟨v0, v2, v3, v4, rfl, g0, g2, g3, g4, hb⟩
  obtain ⟨Az30, cz30, rfl⟩ := Kd.R_slice g0
  obtain ⟨Az32, cz32, rfl⟩ := Kd.R_slice g2
  obtain ⟨Az33, cz33, rfl⟩ := Kd.R_slice g3
  obtain ⟨Az34, cz34, rfl⟩ := Kd.R_slice g4
  replace Pp0 := am (And.intro Pp0.out.1 (Kd.C_below Pp0.out.2 hb))
  replace Pp2 := am (And.intro Pp2.out.1 (Kd.C_below Pp2.out.2 hb))
  replace Pp3 := am (And.intro Pp3.out.1 (Kd.C_below Pp3.out.2 hb))
  replace Pp4 := am (And.intro Pp4.out.1 (Kd.C_below Pp4.out.2 hb))
  replace Pz0 := am (And.intro Pz0.out.1 (Kd.C_below Pz0.out.2 hb))
  replace Pz2 := am (And.intro Pz2.out.1 (Kd.C_below Pz2.out.2 hb))
  replace Pz3 := am (And.intro Pz3.out.1 (Kd.C_below Pz3.out.2 hb))
  replace Pz4 := am (And.intro Pz4.out.1 (Kd.C_below Pz4.out.2 hb))
  replace Pz20 := am (And.intro Pz20.out.1 (Kd.C_below Pz20.out.2 hb))
  replace Pz22 := am (And.intro Pz22.out.1 (Kd.C_below Pz22.out.2 hb))
  replace Pz23 := am (And.intro Pz23.out.1 (Kd.C_below Pz23.out.2 hb))
  replace Pz24 := am (And.intro Pz24.out.1 (Kd.C_below Pz24.out.2 hb))
  replace Pt0 := am (And.intro Pt0.out.1 (Kd.C_below Pt0.out.2 hb))
  replace Pt2 := am (And.intro Pt2.out.1 (Kd.C_below Pt2.out.2 hb))
  replace Pt3 := am (And.intro Pt3.out.1 (Kd.C_below Pt3.out.2 hb))
  replace Pt4 := am (And.intro Pt4.out.1 (Kd.C_below Pt4.out.2 hb))
  replace HB := am (below_step HB.out hb)
  clear hb
  refine ⟨_, rfl, ?_⟩
  have Pz30 := am (Kd.R_reads' g0).2
  have Pz32 := am (Kd.R_reads' g2).2
  have Pz33 := am (Kd.R_reads' g3).2
  have Pz34 := am (Kd.R_reads' g4).2
  clear g0 g2 g3 g4
  refine hK.out _ _ ⟨(HB.out.cell (World.block_lt_of_cell? wr _ X0.out)).trans X0.out, (HB.out.cell (World.block_lt_of_cell? wr _ X1.out)).trans X1.out, (HB.out.cell (World.block_lt_of_cell? wr _ X2.out)).trans X2.out, (HB.out.cell (World.block_lt_of_cell? wr _ X3.out)).trans X3.out, (HB.out.cell (World.block_lt_of_cell? wr _ X4.out)).trans X4.out, (HB.out.cell (World.block_lt_of_cell? wr _ Y0.out)).trans Y0.out, (HB.out.cell (World.block_lt_of_cell? wr _ Y1.out)).trans Y1.out⟩ (fun hHeld => ?_)
  clear hK K
  refine nm ?_
  refine one_ (i := 47) (N := some 99) (bb 51 281474976710655) rfl rfl (one_of HT_.out (by kernel_rfl)) (by decide) (fun K hK => ?_)
  refine goes_ Try.func28 (by kernel_rfl) rfl #[.agg #[.slice B0 y.f0.length d0, .slice B1 y.f1.length d1], .int .i64 (Go.bits .and .i64 (Go.bits .and .i64 s q) u)] (by rfl) rfl rfl (by (try simp only [List.map_toArray, List.map_cons, List.map_nil]); first | done | rfl) ?_
  with_reducible refine (cell_Of.calls B0 d0 y.f0 B1 d1 y.f1 (Go.bits .and .i64 (Go.bits .and .i64 s q) u) o.f0 o.f1 o.f2 o.f3 o.f4 _ (Kd.C_below U0.out.1 HB.out) U0.out.2 (Kd.C_below U1.out.1 HB.out) U1.out.2 N5.out).mono ?_

  rintro e wd8 ⟨v0, v2, v3, v4, rfl, g0, g2, g3, g4, hb⟩
  obtain ⟨Ao0, co0, rfl⟩ := Kd.R_slice g0
  obtain ⟨Ao2, co2, rfl⟩ := Kd.R_slice g2
  obtain ⟨Ao3, co3, rfl⟩ := Kd.R_slice g3
  obtain ⟨Ao4, co4, rfl⟩ := Kd.R_slice g4
  replace Pp0 := am (And.intro Pp0.out.1 (Kd.C_below Pp0.out.2 hb))
  replace Pp2 := am (And.intro Pp2.out.1 (Kd.C_below Pp2.out.2 hb))
  replace Pp3 := am (And.intro Pp3.out.1 (Kd.C_below Pp3.out.2 hb))
  replace Pp4 := am (And.intro Pp4.out.1 (Kd.C_below Pp4.out.2 hb))
  replace Pz0 := am (And.intro Pz0.out.1 (Kd.C_below Pz0.out.2 hb))
  replace Pz2 := am (And.intro Pz2.out.1 (Kd.C_below Pz2.out.2 hb))
  replace Pz3 := am (And.intro Pz3.out.1 (Kd.C_below Pz3.out.2 hb))
  replace Pz4 := am (And.intro Pz4.out.1 (Kd.C_below Pz4.out.2 hb))
  replace Pz20 := am (And.intro Pz20.out.1 (Kd.C_below Pz20.out.2 hb))
  replace Pz22 := am (And.intro Pz22.out.1 (Kd.C_below Pz22.out.2 hb))
  replace Pz23 := am (And.intro Pz23.out.1 (Kd.C_below Pz23.out.2 hb))
  replace Pz24 := am (And.intro Pz24.out.1 (Kd.C_below Pz24.out.2 hb))
  replace Pt0 := am (And.intro Pt0.out.1 (Kd.C_below Pt0.out.2 hb))
  replace Pt2 := am (And.intro Pt2.out.1 (Kd.C_below Pt2.out.2 hb))
  replace Pt3 := am (And.intro Pt3.out.1 (Kd.C_below Pt3.out.2 hb))
  replace Pt4 := am (And.intro Pt4.out.1 (Kd.C_below Pt4.out.2 hb))
  replace Pz30 := am (And.intro Pz30.out.1 (Kd.C_below Pz30.out.2 hb))
  replace Pz32 := am (And.intro Pz32.out.1 (Kd.C_below Pz32.out.2 hb))
  replace Pz33 := am (And.intro Pz33.out.1 (Kd.C_below Pz33.out.2 hb))
  replace Pz34 := am (And.intro Pz34.out.1 (Kd.C_below Pz34.out.2 hb))
  replace HB := am (below_step HB.out hb)
  clear hb
  refine ⟨_, rfl, ?_⟩
  have Po0 := am (Kd.R_reads' g0).2
  have Po2 := am (Kd.R_reads' g2).2
  have Po3 := am (Kd.R_reads' g3).2
  have Po4 := am (Kd.R_reads' g4).2
  clear g0 g2 g3 g4
  refine hK.out _ _ ⟨(HB.out.cell (World.block_lt_of_cell? wr _ X0.out)).trans X0.out, (HB.out.cell (World.block_lt_of_cell? wr _ X1.out)).trans X1.out, (HB.out.cell (World.block_lt_of_cell? wr _ X2.out)).trans X2.out, (HB.out.cell (World.block_lt_of_cell? wr _ X3.out)).trans X3.out, (HB.out.cell (World.block_lt_of_cell? wr _ X4.out)).trans X4.out, (HB.out.cell (World.block_lt_of_cell? wr _ Y0.out)).trans Y0.out, (HB.out.cell (World.block_lt_of_cell? wr _ Y1.out)).trans Y1.out⟩ (fun hHeld => ?_)
  clear hK K
  refine nm ?_
  refine one_ (i := 48) (N := some 100) (bb 51 562949953421311) rfl rfl (one_of HT_.out (by kernel_rfl)) (by decide) (fun K hK => ?_)
  refine goes_ Try.func22 (by kernel_rfl) rfl #[.agg #[.slice Az30 z.f0.length cz30, .int .i64 z.f1, .slice Az32 z.f2.length cz32, .slice Az33 z.f3.length cz33, .slice Az34 z.f4.length cz34], .agg #[.slice Ao0 o.f0.length co0, .int .i64 o.f1, .slice Ao2 o.f2.length co2, .slice Ao3 o.f3.length co3, .slice Ao4 o.f4.length co4]] (by rfl) rfl rfl (by (try simp only [List.map_toArray, List.map_cons, List.map_nil]); first | done | rfl) ?_
  with_reducible refine (hypercuberef2_Equal.calls k Az30 cz30 z.f0 z.f1 Az32 cz32 z.f2 Az33 cz33 z.f3 Az34 cz34 z.f4 Ao0 co0 o.f0 o.f1 Ao2 co2 o.f2 Ao3 co3 o.f3 Ao4 co4 o.f4 true _ Pz30.out.2 Pz30.out.1 Pz32.out.2 Pz32.out.1 Pz33.out.2 Pz33.out.1 Pz34.out.2 Pz34.out.1 Po0.out.2 Po0.out.1 Po2.out.2 Po2.out.1 Po3.out.2 Po3.out.1 Po4.out.2 Po4.out.1 E3.out).mono ?_

  rintro e wd9 ⟨rfl, hb⟩
  replace Pp0 := am (And.intro Pp0.out.1 (Kd.C_below Pp0.out.2 hb))
  replace Pp2 := am (And.intro Pp2.out.1 (Kd.C_below Pp2.out.2 hb))
  replace Pp3 := am (And.intro Pp3.out.1 (Kd.C_below Pp3.out.2 hb))
  replace Pp4 := am (And.intro Pp4.out.1 (Kd.C_below Pp4.out.2 hb))
  replace Pz0 := am (And.intro Pz0.out.1 (Kd.C_below Pz0.out.2 hb))
  replace Pz2 := am (And.intro Pz2.out.1 (Kd.C_below Pz2.out.2 hb))
  replace Pz3 := am (And.intro Pz3.out.1 (Kd.C_below Pz3.out.2 hb))
  replace Pz4 := am (And.intro Pz4.out.1 (Kd.C_below Pz4.out.2 hb))
  replace Pz20 := am (And.intro Pz20.out.1 (Kd.C_below Pz20.out.2 hb))
  replace Pz22 := am (And.intro Pz22.out.1 (Kd.C_below Pz22.out.2 hb))
  replace Pz23 := am (And.intro Pz23.out.1 (Kd.C_below Pz23.out.2 hb))
  replace Pz24 := am (And.intro Pz24.out.1 (Kd.C_below Pz24.out.2 hb))
  replace Pt0 := am (And.intro Pt0.out.1 (Kd.C_below Pt0.out.2 hb))
  replace Pt2 := am (And.intro Pt2.out.1 (Kd.C_below Pt2.out.2 hb))
  replace Pt3 := am (And.intro Pt3.out.1 (Kd.C_below Pt3.out.2 hb))
  replace Pt4 := am (And.intro Pt4.out.1 (Kd.C_below Pt4.out.2 hb))
  replace Pz30 := am (And.intro Pz30.out.1 (Kd.C_below Pz30.out.2 hb))
  replace Pz32 := am (And.intro Pz32.out.1 (Kd.C_below Pz32.out.2 hb))
  replace Pz33 := am (And.intro Pz33.out.1 (Kd.C_below Pz33.out.2 hb))
  replace Pz34 := am (And.intro Pz34.out.1 (Kd.C_below Pz34.out.2 hb))
  replace Po0 := am (And.intro Po0.out.1 (Kd.C_below Po0.out.2 hb))
  replace Po2 := am (And.intro Po2.out.1 (Kd.C_below Po2.out.2 hb))
  replace Po3 := am (And.intro Po3.out.1 (Kd.C_below Po3.out.2 hb))
  replace Po4 := am (And.intro Po4.out.1 (Kd.C_below Po4.out.2 hb))
  replace HB := am (below_step HB.out hb)
  clear hb
  refine ⟨_, rfl, ?_⟩
  refine hK.out _ _ ⟨(HB.out.cell (World.block_lt_of_cell? wr _ X0.out)).trans X0.out, (HB.out.cell (World.block_lt_of_cell? wr _ X1.out)).trans X1.out, (HB.out.cell (World.block_lt_of_cell? wr _ X2.out)).trans X2.out, (HB.out.cell (World.block_lt_of_cell? wr _ X3.out)).trans X3.out, (HB.out.cell (World.block_lt_of_cell? wr _ X4.out)).trans X4.out, (HB.out.cell (World.block_lt_of_cell? wr _ Y0.out)).trans Y0.out, (HB.out.cell (World.block_lt_of_cell? wr _ Y1.out)).trans Y1.out⟩ (fun hHeld => ?_)
  clear hK K
  refine nm ?_
  refine pu (i := 49) (N := some 101) (bb 51 1125899906842623) HT_ ?_
  refine pu (i := 50) (N := some 102) (bb 51 2251799813685247) HT_ ?_
  refine done_ (done_of HT_.out (by kernel_rfl)) ?_
  have HS2 := am (below_step HS.out HB.out)
  go_wp2
  go_roundg k1
  case measure => omega
  case rel => exact ⟨i + 1, by first | rfl | simp [hwi], ⟨by have := HI.out; have := HHI.out; omega, by have := HHI.out; omega⟩, HS2⟩
 ·have hc1 : decide ((i : Int) < (l.length : Int)) = false := decide_eq_false (by omega)
  have hc3 : decide (i < l.length) = false := decide_eq_false hi
  clear hi
  have HB8 := am (below_step HB7.out HS.out)
  go_wp2
  go_ret
  exact ⟨rfl, HB8.out⟩
theorem hypercubelaw2_CellWays.walk (P : hypercubelaw2_CellWays.Pure) (a0 : Int) (a1 : Option Addr) (len1 cap1 : Nat) (z1 : List Int) (a2 : Int) (a3 : Option Addr) (len3 cap3 : Nat) (z3 : List Int) (a4 : Int) (a5 : Int) (a6 : Int) (w : World) (w0 : (Lit.int .i64 a0).wf = true) (w1 : (a1 = none ∧ len1 = 0 ∧ cap1 = 0 ∧ z1 = []) ∨ ∃ x, a1 = some x ∧ len1 ≤ cap1 ∧ cap1 ≤ maxLen ∧ z1.length = cap1 ∧ (∀ i, i < z1.length → w.cell? (x.add i) = some (.int .i64 (z1.getD i 0))) ∧ ∀ n ∈ z1, (Lit.int .i64 n).wf = true) (y1 : len1 * 8 ≤ 140737488351232) (w2 : (Lit.int .i64 a2).wf = true) (w3 : (a3 = none ∧ len3 = 0 ∧ cap3 = 0 ∧ z3 = []) ∨ ∃ x, a3 = some x ∧ len3 ≤ cap3 ∧ cap3 ≤ maxLen ∧ z3.length = cap3 ∧ (∀ i, i < z3.length → w.cell? (x.add i) = some (.int .i64 (z3.getD i 0))) ∧ ∀ n ∈ z3, (Lit.int .i64 n).wf = true) (y3 : len3 * 8 ≤ 140737488351232) (w4 : (Lit.int .i64 a4).wf = true) (w5 : (Lit.int .i64 a5).wf = true) (w6 : (Lit.int .i64 a6).wf = true) :
  Calls Try.prog 13 #[.int .i64 a0, .slice a1 len1 cap1, .int .i64 a2, .slice a3 len3 cap3, .int .i64 a4, .int .i64 a5, .int .i64 a6] w fun e w' => e = .returned (.bool true) ∧ Below w.heap.size w w' := by
 obtain ⟨l1, rfl, hr1, hm1, hw1, hc1⟩ := ReadsInt.ofRowC w1
 obtain ⟨l3, rfl, hr3, hm3, hw3, hc3⟩ := ReadsInt.ofRowC w3
 obtain ⟨k, cards, meas, rows, s, l, q, u, h1, h2, h3, h4, h5, h6⟩ := P a0 l1 a2 l3 a4 a5 a6 w0 hm1 y1 hw1 w2 hm3 y3 hw3 w4 w5 w6
 exact hypercubelaw2_CellWays.calls k a0 _ _ l1 a2 _ _ l3 a4 a5 a6 w (Kd.C_of_reads (d := (0 : Int)) (h1 := fun _ => rfl) hr1) hc1 (Kd.C_of_reads (d := (0 : Int)) (h1 := fun _ => rfl) hr3) hc3 h1 h2 h3 h4 h5 h6
theorem w64 {x : Int} (h0 : -9223372036854775808 ≤ x) (h1 : x ≤ 9223372036854775807) : wrap64 x = x := by unfold wrap64; omega
theorem w64s {i n : Nat} (h : i < n) (hn : n ≤ 4611686018427387904) : wrap64 ((i : Int) + 1) = ((i + 1 : Nat) : Int) := by unfold wrap64; omega
theorem within2_eq (a n : Int) (h0 : 0 < n) (h1 : n ≤ 4611686018427387904) : hypercubelaw2_within.f a n = some (a % n) := by
 unfold hypercubelaw2_within.f
 rw [if_neg (by omega)]
 have hb := Int.emod_nonneg a (show n ≠ 0 by omega)
 have hl := Int.emod_lt_of_pos a h0
 by_cases ha : 0 ≤ a
 ·rw [Int.tmod_eq_emod_of_nonneg ha, if_neg (by omega)]
 ·have ht : Int.tmod a n = if a % n = 0 then 0 else a % n - n := by
   rw [Int.tmod_eq_emod]
   split
   ·rename_i h
    rcases h with h | h
    ·omega
    ·rw [Int.emod_eq_zero_of_dvd h]; simp
   ·rename_i h
    have : a % n ≠ 0 := fun e => h (.inr (Int.dvd_of_emod_eq_zero e))
    rw [if_neg this, Int.natAbs_of_nonneg (by omega)]
  by_cases hz : a % n = 0
  ·rw [ht, if_pos hz, if_neg (by omega), hz]
  ·rw [ht, if_neg hz, if_pos (by omega)]
   congr 1
   rw [w64 (by omega) (by omega)]
   omega
theorem rd_get {l : List Int} {i : Nat} (h : i < l.length) : rd l (i : Int) = l[i] := by simp [rd, List.getD_eq_getElem?_getD, h]
theorem drop_cons {α : Type} {l : List α} {i : Nat} (h : i < l.length) : l.drop i = l[i] :: l.drop (i + 1) := List.drop_eq_getElem_cons h
theorem dec_cons_eq {α : Type} [DecidableEq α] {x y : α} (l l' : List α) (h : x = y) : decide (x :: l = y :: l') = decide (l = l') := by subst h; simp
theorem dec_cons_ne {α : Type} [DecidableEq α] {x y : α} (l l' : List α) (h : ¬ x = y) : decide (x :: l = y :: l') = false := by simp [h]
theorem ints_l0 (a b : List Int) (hl : a.length = b.length) (hn : a.length ≤ 4611686018427387904) (d : Nat) : ∀ i : Nat, a.length - i = d → i ≤ a.length →
  Ev (fun k => hypercuberef1_Ints.l0 k a b (i : Int)) (decide (a.drop i = b.drop i)) := by
 induction d with
 | zero =>
  intro i hd hi
  have e1 : a.drop i = [] := List.drop_eq_nil_of_le (by omega)
  have e2 : b.drop i = [] := List.drop_eq_nil_of_le (by omega)
  rw [e1, e2]
  exact Ev.step (fun k => by simp only [hypercuberef1_Ints.l0]; rw [if_neg (by omega)]; rfl) (Ev.now _)
 | succ d ih =>
  intro i hd hi
  have ha : i < a.length := by omega
  have hb : i < b.length := by omega
  rw [drop_cons ha, drop_cons hb]
  by_cases he : a[i] = b[i]
  ·rw [dec_cons_eq _ _ he]
   exact Ev.step (fun k => by simp only [hypercuberef1_Ints.l0]; rw [if_pos (by omega), if_pos (by omega), if_pos (by omega), rd_get ha, rd_get hb, if_pos he, w64s ha hn]) (ih (i + 1) (by omega) (by omega))
  ·rw [dec_cons_ne _ _ he]
   exact Ev.step (fun k => by simp only [hypercuberef1_Ints.l0]; rw [if_pos (by omega), if_pos (by omega), if_pos (by omega), rd_get ha, rd_get hb, if_neg he]) (Ev.now _)
theorem ints_ev (a b : List Int) (hn : a.length ≤ 4611686018427387904) : Ev (fun k => hypercuberef1_Ints.f k a b) (decide (a = b)) := by
 by_cases hl : a.length = b.length
 ·have h := ints_l0 a b hl hn a.length 0 (by omega) (by omega)
  simp only [List.drop_zero] at h
  exact Ev.congr (fun k => by unfold hypercuberef1_Ints.f; rw [if_pos (by omega)]; rfl) h
 ·have : decide (a = b) = false := by
   rw [decide_eq_false_iff_not]; intro e; exact hl (by rw [e])
  rw [this]
  exact Ev.congr (fun k => by unfold hypercuberef1_Ints.f; rw [if_neg (by omega)]) (Ev.now _)
def lexC : List Int → List Int → Int
 | [], [] => 0
 | [], _ :: _ => -1
 | _ :: _, [] => 1
 | x :: xs, y :: ys => if x < y then -1 else if x > y then 1 else lexC xs ys
theorem clone_eq (l : List Int) (h : l.length ≤ 1000000) : slices_Clone_int_int.f l = some l := by
 unfold slices_Clone_int_int.f
 rw [if_pos (by omega)]
theorem rdC_get {l : List S30} {i : Nat} (h : i < l.length) : rd_T30 l (i : Int) = l[i] := by simp [rd_T30, List.getD_eq_getElem?_getD, h]
def joinC (a b : S30) : S30 := ⟨a.f0, wrap64 (a.f1 + b.f1), List.zipWith (fun x y => wrap64 (x + y)) a.f2 b.f2, List.zipWith mn a.f3 b.f3, List.zipWith mx a.f4 b.f4⟩
def SmallC (c : S30) : Prop := c.f0.length ≤ 100000 ∧ c.f2.length ≤ 100000 ∧ c.f3.length ≤ 100000 ∧ c.f4.length ≤ 100000
def tupC (c : S30) : List Int × Int × List Int × List Int × List Int := (c.f0, c.f1, c.f2, c.f3, c.f4)
theorem own_eq (c : S30) (h : SmallC c) : cell_own.f c.f0 c.f1 c.f2 c.f3 c.f4 = some (tupC c) := by
 obtain ⟨h0, h2, h3, h4⟩ := h
 unfold cell_own.f
 rw [clone_eq _ (by omega), clone_eq _ (by omega), clone_eq _ (by omega), clone_eq _ (by omega)]
 rfl
def putL (x : S30) : List S30 → List S30
 | [] => [x]
 | y :: ys => if lexC y.f0 x.f0 < 0 then y :: putL x ys else if lexC y.f0 x.f0 = 0 then joinC y x :: ys else x :: y :: ys
def putAll (acc l : List S30) : List S30 := l.foldl (fun acc x => putL x acc) acc
def RegC (n : Nat) (c : S30) : Prop := c.f0.length ≤ 4 ∧ c.f2.length = n ∧ c.f3.length = n ∧ c.f4.length = n
def RegL (n : Nat) (l : List S30) : Prop := ∀ c ∈ l, RegC n c
theorem RegC.small {n : Nat} {c : S30} (h : RegC n c) (hn : n ≤ 100) : SmallC c := ⟨by have := h.1; omega, by rw [h.2.1]; omega, by rw [h.2.2.1]; omega, by rw [h.2.2.2]; omega⟩
theorem RegL.small {n : Nat} {l : List S30} (h : RegL n l) (hn : n ≤ 100) : ∀ y ∈ l, SmallC y := fun y hy => (h y hy).small hn
theorem equal_true {c : S30} (ha : SmallC c) : Ev (fun k => hypercuberef2_Equal.f k c.f0 c.f1 c.f2 c.f3 c.f4 c.f0 c.f1 c.f2 c.f3 c.f4) true := by
 obtain ⟨h0, h2, h3, h4⟩ := ha
 have e : ∀ l : List Int, l.length ≤ 100000 → Ev (fun k => hypercuberef1_Ints.f k l l) true := fun l hl => by
  have := ints_ev l l (by omega)
  rw [decide_eq_true rfl] at this
  exact this
 refine Ev.congr (fun k => by unfold hypercuberef2_Equal.f; rw [if_pos rfl]) ?_
 refine Ev.bind (e _ h0) (Ev.congr (fun k => by rw [if_pos rfl]) ?_)
 refine Ev.bind (e _ h2) (Ev.congr (fun k => by rw [if_pos rfl]) ?_)
 refine Ev.bind (e _ h3) (Ev.congr (fun k => by rw [if_pos rfl]) ?_)
 exact Ev.bind (e _ h4) (Ev.now _)
theorem within_eq (a n : Int) (h0 : 0 < n) (h1 : n ≤ 4611686018427387904) : hypercubelaw1_within.f a n = some (a % n) := by
 unfold hypercubelaw1_within.f
 rw [if_neg (by omega)]
 have hb := Int.emod_nonneg a (show n ≠ 0 by omega)
 have hl := Int.emod_lt_of_pos a h0
 by_cases ha : 0 ≤ a
 ·rw [Int.tmod_eq_emod_of_nonneg ha, if_neg (by omega)]
 ·have ht : Int.tmod a n = if a % n = 0 then 0 else a % n - n := by
   rw [Int.tmod_eq_emod]
   split
   ·rename_i h
    rcases h with h | h
    ·omega
    ·rw [Int.emod_eq_zero_of_dvd h]; simp
   ·rename_i h
    have : a % n ≠ 0 := fun e => h (.inr (Int.dvd_of_emod_eq_zero e))
    rw [if_neg this, Int.natAbs_of_nonneg (by omega)]
  by_cases hz : a % n = 0
  ·rw [ht, if_pos hz, if_neg (by omega), hz]
  ·rw [ht, if_neg hz, if_pos (by omega)]
   congr 1
   rw [w64 (by omega) (by omega)]
   omega
def checkP (cards : List Int) (meas : Int) : Bool := decide (1 ≤ cards.length) && decide (cards.length ≤ 4) && (cards.all fun x => decide (1 ≤ x) && decide (x ≤ 16)) && decide (0 ≤ meas) && decide (meas ≤ 2)
def rightP (cards : List Int) (meas : Int) (x : S45) : Bool := decide (x.f0.length = cards.length) && decide ((x.f1.length : Int) = meas) && (List.range x.f0.length).all fun i => decide (0 ≤ rd x.f0 i) && decide (rd x.f0 i < rd cards i)
theorem check_open {cards : List Int} {meas : Int} (h : checkP cards meas = true) : 1 ≤ cards.length ∧ cards.length ≤ 4 ∧ (∀ x ∈ cards, 1 ≤ x ∧ x ≤ 16) ∧ 0 ≤ meas ∧ meas ≤ 2 := by
 unfold checkP at h
 simp only [Bool.and_eq_true, decide_eq_true_eq, List.all_eq_true] at h
 exact ⟨h.1.1.1.1, h.1.1.1.2, fun x hx => h.1.1.2 x hx, h.1.2, h.2⟩
theorem check_mk {cards : List Int} {meas : Int} (h1 : 1 ≤ cards.length) (h2 : cards.length ≤ 4) (h3 : ∀ x ∈ cards, 1 ≤ x ∧ x ≤ 16) (h4 : 0 ≤ meas) (h5 : meas ≤ 2) : checkP cards meas = true := by
 unfold checkP
 simp only [Bool.and_eq_true, decide_eq_true_eq, List.all_eq_true]
 exact ⟨⟨⟨⟨h1, h2⟩, h3⟩, h4⟩, h5⟩
theorem right_open {cards : List Int} {meas : Int} {x : S45} (h : rightP cards meas x = true) : x.f0.length = cards.length ∧ (x.f1.length : Int) = meas ∧ ∀ i : Nat, i < x.f0.length → 0 ≤ rd x.f0 i ∧ rd x.f0 i < rd cards i := by
 unfold rightP at h
 simp only [Bool.and_eq_true, decide_eq_true_eq, List.all_eq_true, List.mem_range] at h
 exact ⟨h.1.1, h.1.2, fun i hi => h.2 i hi⟩
theorem right_mk {cards : List Int} {meas : Int} {x : S45} (h1 : x.f0.length = cards.length) (h2 : (x.f1.length : Int) = meas) (h3 : ∀ i : Nat, i < x.f0.length → 0 ≤ rd x.f0 i ∧ rd x.f0 i < rd cards i) : rightP cards meas x = true := by
 unfold rightP
 simp only [Bool.and_eq_true, decide_eq_true_eq, List.all_eq_true, List.mem_range]
 exact ⟨⟨h1, h2⟩, fun i hi => h3 i hi⟩
abbrev FR := List Int × Int × List S45
def RowOk (cards : List Int) (meas : Int) (x : S45) : Prop := rightP cards meas x = true ∧ ∀ y ∈ x.f1, -100 ≤ y ∧ y ≤ 100
theorem facts_l3 (x3 : List Int) (rows : List S45) (i : Nat) (hi : i < 1000) (kk : Int) (cards : List Int) (meas : Int) (hm0 : 0 ≤ meas) (hm : meas ≤ 2) (hrl : rows.length ≤ 1000) (key : List Int) {Q : FR → Prop}
  (H : ∀ ms : List Int, (ms.length : Int) = meas → (∀ y ∈ ms, -100 ≤ y ∧ y ≤ 100) → ∃ p, Ev (fun k => hypercubelaw1_Facts.l1 k x3 (rows ++ [⟨key, ms⟩]) ((i + 1 : Nat) : Int) cards meas) p ∧ Q p) (d : Nat) :
  ∀ (j : Nat) (ms : List Int), (meas.toNat - j) = d → (j : Int) ≤ meas → ms.length = j → (∀ y ∈ ms, -100 ≤ y ∧ y ≤ 100) → ∃ p, Ev (fun k => hypercubelaw1_Facts.l3 k x3 rows (i : Int) kk (j : Int) cards meas key ms) p ∧ Q p := by
 induction d with
 | zero =>
  intro j ms hd hj hl hb
  obtain ⟨p, h1, h2⟩ := H ms (by omega) hb
  exact ⟨p, Ev.step (fun k => by simp only [hypercubelaw1_Facts.l3]; rw [if_neg (by omega), if_pos (by omega), w64s hi (by omega)]) h1, h2⟩
 | succ d ih =>
  intro j ms hd hj hl hb
  have hw := within_eq (wrap64 (kk + (wrap64 (7 * (j : Int))))) 201 (by omega) (by omega)
  have b0 := Int.emod_nonneg (wrap64 (kk + (wrap64 (7 * (j : Int))))) (show (201 : Int) ≠ 0 by omega)
  have b1 := Int.emod_lt_of_pos (wrap64 (kk + (wrap64 (7 * (j : Int))))) (show (0 : Int) < 201 by omega)
  generalize (wrap64 (kk + (wrap64 (7 * (j : Int))))) % 201 = q at hw b0 b1
  obtain ⟨p, h1, h2⟩ := ih (j + 1) (ms ++ [wrap64 (q - 100)]) (by omega) (by omega) (by simp; omega) (fun y hy => by
   rcases List.mem_append.1 hy with hy | hy
   ·exact hb y hy
   ·rw [List.mem_singleton.1 hy, w64 (by omega) (by omega)]; omega)
  refine ⟨p, Ev.step (fun k => by simp only [hypercubelaw1_Facts.l3]; rw [if_pos (by omega), hw]; simp only [Option.bind_some]; rw [if_pos (by omega), w64s (show j < 1000 by omega) (by omega)]) h1, h2⟩
theorem facts_l2 (x3 : List Int) (rows : List S45) (i : Nat) (hi : i < 1000) (cards : List Int) (meas : Int) (hc : checkP cards meas = true) (hrl : rows.length ≤ 1000) {Q : FR → Prop}
  (H : ∀ x, RowOk cards meas x → ∃ p, Ev (fun k => hypercubelaw1_Facts.l1 k x3 (rows ++ [x]) ((i + 1 : Nat) : Int) cards meas) p ∧ Q p) (d : Nat) :
  ∀ (j : Nat) (kk : Int) (key : List Int), cards.length - j = d → j ≤ cards.length → key.length = j → (∀ a : Nat, a < key.length → 0 ≤ rd key a ∧ rd key a < rd cards a) →
   ∃ p, Ev (fun k => hypercubelaw1_Facts.l2 k x3 rows (i : Int) kk (j : Int) cards meas key) p ∧ Q p := by
 obtain ⟨h1, h2, h3, h4, h5⟩ := check_open hc
 induction d with
 | zero =>
  intro j kk key hd hj hl hb
  have := facts_l3 x3 rows i hi kk cards meas h4 h5 hrl key (fun ms hml hmb => H ⟨key, ms⟩ ⟨right_mk (by show key.length = _; omega) hml hb, hmb⟩) meas.toNat 0 [] (by omega) (by omega) rfl (by simp)
  obtain ⟨p, e1, e2⟩ := this
  exact ⟨p, Ev.step (fun k => by simp only [hypercubelaw1_Facts.l2]; rw [if_neg (by omega)]; rfl) e1, e2⟩
 | succ d ih =>
  intro j kk key hd hj hl hb
  have hja : j < cards.length := by omega
  have hcd := h3 cards[j] (List.getElem_mem hja)
  have hw := within_eq kk cards[j] (by omega) (by omega)
  have b0 := Int.emod_nonneg kk (show cards[j] ≠ 0 by omega)
  have b1 := Int.emod_lt_of_pos kk (show (0 : Int) < cards[j] by omega)
  generalize kk % cards[j] = q at hw b0 b1
  obtain ⟨p, e1, e2⟩ := ih (j + 1) (wrap64 (Int.tdiv kk 5)) (key ++ [q]) (by omega) (by omega) (by simp; omega) (fun a ha => by
   by_cases hak : a < key.length
   ·have hb1 := hb a hak
    have : rd (key ++ [q]) (a : Int) = rd key (a : Int) := by rw [rd_get ha, rd_get hak, List.getElem_append_left hak]
    rw [this]; exact hb1
   ·have hae : a = key.length := by simp at ha; omega
    subst hae
    have : rd (key ++ [q]) (key.length : Int) = q := by rw [rd_get ha]; simp
    rw [this, hl, rd_get hja]; exact ⟨b0, b1⟩)
  refine ⟨p, Ev.step (fun k => by simp only [hypercubelaw1_Facts.l2]; rw [if_pos (by omega), if_pos (by omega), rd_get hja, hw]; simp only [Option.bind_some]; rw [if_pos (by omega), w64s hja (by omega)]) e1, e2⟩
theorem facts_l1 (x3 : List Int) (cards : List Int) (meas : Int) (hc : checkP cards meas = true) (d : Nat) : ∀ (i : Nat) (rows : List S45), (min x3.length 40) - i = d → i ≤ min x3.length 40 → rows.length = i → (∀ x ∈ rows, RowOk cards meas x) →
  ∃ p, Ev (fun k => hypercubelaw1_Facts.l1 k x3 rows (i : Int) cards meas) p ∧ (p.1 = cards ∧ p.2.1 = meas ∧ p.2.2.length = min x3.length 40 ∧ ∀ x ∈ p.2.2, RowOk cards meas x) := by
 induction d with
 | zero =>
  intro i rows hd hi hl hr
  have fin : Ev (fun k => hypercubelaw1_Facts.j3 k x3 rows (i : Int) false cards meas) (cards, meas, rows) := Ev.step (fun k => by simp only [hypercubelaw1_Facts.j3]; rw [if_neg (by simp)]) (Ev.now _)
  refine ⟨(cards, meas, rows), ?_, rfl, rfl, by show rows.length = _; omega, hr⟩
  by_cases h : (i : Int) < x3.length
  ·have : decide ((i : Int) < 40) = false := decide_eq_false (by omega)
   exact Ev.step (fun k => by simp only [hypercubelaw1_Facts.l1]; rw [if_pos h, this]) fin
  ·exact Ev.step (fun k => by simp only [hypercubelaw1_Facts.l1]; rw [if_neg h]) fin
 | succ d ih =>
  intro i rows hd hi hl hr
  have hia : i < x3.length := by omega
  have hdec : decide ((i : Int) < 40) = true := decide_eq_true (by omega)
  obtain ⟨p, e1, e2⟩ := facts_l2 x3 rows i (by omega) cards meas hc (by omega) (fun x hx => ih (i + 1) (rows ++ [x]) (by omega) (by omega) (by simp; omega) (fun y hy => by
   rcases List.mem_append.1 hy with hy | hy
   ·exact hr y hy
   ·rw [List.mem_singleton.1 hy]; exact hx)) cards.length 0 (rd x3 i) [] (by omega) (by omega) rfl (fun a ha => by simp at ha)
  refine ⟨p, ?_, e2⟩
  refine Ev.step (fun k => by simp only [hypercubelaw1_Facts.l1]; rw [if_pos (by omega), hdec]) ?_
  exact Ev.step (fun k => by simp only [hypercubelaw1_Facts.j3]; rw [if_pos trivial, if_pos (by omega), if_pos (by omega)]; rfl) e1
theorem facts_l0 (x0 : Int) (x1 x3 : List Int) (meas : Int) (hm0 : 0 ≤ meas) (hm : meas ≤ 2) (d : Nat) : ∀ (i : Nat) (cards : List Int), (x0 % 4 + 1).toNat - i = d → (i : Int) ≤ x0 % 4 + 1 → cards.length = i → (∀ x ∈ cards, 1 ≤ x ∧ x ≤ 5) →
  ∃ p, Ev (fun k => hypercubelaw1_Facts.l0 k x0 x1 x3 (i : Int) cards meas) p ∧ (checkP p.1 p.2.1 = true ∧ p.2.1 = meas ∧ (p.1.length : Int) = x0 % 4 + 1 ∧ p.2.2.length = min x3.length 40 ∧ ∀ x ∈ p.2.2, RowOk p.1 p.2.1 x) := by
 have b0 := Int.emod_nonneg x0 (show (4 : Int) ≠ 0 by omega)
 have b1 := Int.emod_lt_of_pos x0 (show (0 : Int) < 4 by omega)
 have hw4 := within_eq x0 4 (by omega) (by omega)
 have hw7 := within_eq x0 7 (by omega) (by omega)
 induction d with
 | zero =>
  intro i cards hd hi hl hc
  have go : ∀ cs : List Int, cs.length = cards.length → (∀ x ∈ cs, 1 ≤ x ∧ x ≤ 16) → ∃ p, Ev (fun k => hypercubelaw1_Facts.j1 k x3 cs meas) p ∧ (checkP p.1 p.2.1 = true ∧ p.2.1 = meas ∧ (p.1.length : Int) = x0 % 4 + 1 ∧ p.2.2.length = min x3.length 40 ∧ ∀ x ∈ p.2.2, RowOk p.1 p.2.1 x) := by
   intro cs h1 h2
   have hck : checkP cs meas = true := check_mk (by omega) (by omega) h2 hm0 hm
   obtain ⟨p, e1, e2, e3, e4, e5⟩ := facts_l1 x3 cs meas hck (min x3.length 40) 0 [] (by omega) (by omega) rfl (by simp)
   refine ⟨p, Ev.step (fun k => by simp only [hypercubelaw1_Facts.j1]; rfl) e1, ?_, e3, ?_, e4, ?_⟩
   ·rw [e2, e3]; exact hck
   ·rw [e2]; omega
   ·rw [e2, e3]; exact e5
  by_cases h7 : x0 % 7 = 0
  ·obtain ⟨p, e1, e2⟩ := go (cards.set (0 : Int).toNat 16) (by simp) (fun x hx => by
    rcases List.mem_or_eq_of_mem_set hx with hx | rfl
    ·have := hc x hx; omega
    ·omega)
   refine ⟨p, ?_, e2⟩
   exact Ev.step (fun k => by simp only [hypercubelaw1_Facts.l0]; rw [hw4]; simp only [Option.bind_some]; rw [if_neg (by omega), hw7]; simp only [Option.bind_some]; rw [if_pos h7, if_pos (by omega)]) e1
  ·obtain ⟨p, e1, e2⟩ := go cards rfl (fun x hx => by have := hc x hx; omega)
   refine ⟨p, ?_, e2⟩
   exact Ev.step (fun k => by simp only [hypercubelaw1_Facts.l0]; rw [hw4]; simp only [Option.bind_some]; rw [if_neg (by omega), hw7]; simp only [Option.bind_some]; rw [if_neg h7]) e1
 | succ d ih =>
  intro i cards hd hi hl hc
  have next : ∀ q : Int, 0 ≤ q → q < 5 → ∃ p, Ev (fun k => hypercubelaw1_Facts.l0 k x0 x1 x3 ((i + 1 : Nat) : Int) (cards ++ [wrap64 (1 + q)]) meas) p ∧ (checkP p.1 p.2.1 = true ∧ p.2.1 = meas ∧ (p.1.length : Int) = x0 % 4 + 1 ∧ p.2.2.length = min x3.length 40 ∧ ∀ x ∈ p.2.2, RowOk p.1 p.2.1 x) := by
   intro q q0 q1
   refine ih (i + 1) (cards ++ [wrap64 (1 + q)]) (by omega) (by omega) (by simp; omega) (fun x hx => ?_)
   rcases List.mem_append.1 hx with hx | hx
   ·exact hc x hx
   ·rw [List.mem_singleton.1 hx, w64 (by omega) (by omega)]; omega
  by_cases h1 : (i : Int) < x1.length
  ·have hw := within_eq (rd x1 (i : Int)) 5 (by omega) (by omega)
   obtain ⟨p, e1, e2⟩ := next (rd x1 (i : Int) % 5) (by omega) (by omega)
   refine ⟨p, ?_, e2⟩
   exact Ev.step (fun k => by simp only [hypercubelaw1_Facts.l0]; rw [hw4]; simp only [Option.bind_some]; rw [if_pos (by omega), if_pos h1, if_pos (by omega), hw]; simp only [Option.bind_some]; rw [if_pos (by omega), w64s (show i < 1000 by omega) (by omega)]) e1
  ·have hw := within_eq (wrap64 ((i : Int) + 2)) 5 (by omega) (by omega)
   obtain ⟨p, e1, e2⟩ := next (wrap64 ((i : Int) + 2) % 5) (by omega) (by omega)
   refine ⟨p, ?_, e2⟩
   exact Ev.step (fun k => by simp only [hypercubelaw1_Facts.l0]; rw [hw4]; simp only [Option.bind_some]; rw [if_pos (by omega), if_neg h1, hw]; simp only [Option.bind_some]; rw [if_pos (by omega), w64s (show i < 1000 by omega) (by omega)]) e1
theorem facts_ev (a0 : Int) (l1 : List Int) (a2 : Int) (l3 : List Int) : ∃ cards meas rows, Ev (fun k => hypercubelaw1_Facts.f k a0 l1 a2 l3) (cards, meas, rows) ∧ checkP cards meas = true ∧ meas = a2 % 3 ∧ (cards.length : Int) = a0 % 4 + 1 ∧ rows.length = min l3.length 40 ∧ ∀ x ∈ rows, RowOk cards meas x := by
 have hw := within_eq a2 3 (by omega) (by omega)
 obtain ⟨⟨cards, meas, rows⟩, e1, e2, e3, e4, e5, e6⟩ := facts_l0 a0 l1 l3 (a2 % 3) (by omega) (by omega) (a0 % 4 + 1).toNat 0 [] (by omega) (by omega) rfl (by simp)
 refine ⟨cards, meas, rows, ?_, e2, e3, e4, e5, e6⟩
 exact Ev.congr (fun k => by unfold hypercubelaw1_Facts.f; rw [hw]; rfl) e1
theorem set_eq {cards : List Int} {meas : Int} (hc : checkP cards meas = true) (a : Int) : ∃ s, hypercubelaw2_Set.f cards meas a = some s ∧ 0 ≤ s ∧ s < 16 := by
 obtain ⟨h1, h2, _⟩ := check_open hc
 have go : ∀ n : Int, 0 < n → n ≤ 16 → ∃ s, ((hypercubelaw2_within.f a n).bind fun t => some t) = some s ∧ 0 ≤ s ∧ s < 16 := fun n h0 h16 => by
  rw [within2_eq a n h0 (by omega)]
  have := Int.emod_nonneg a (show n ≠ 0 by omega)
  have := Int.emod_lt_of_pos a h0
  exact ⟨a % n, rfl, by omega, by omega⟩
 unfold hypercubelaw2_Set.f
 have hl : cards.length = 1 ∨ cards.length = 2 ∨ cards.length = 3 ∨ cards.length = 4 := by omega
 rcases hl with h | h | h | h
 ·rw [h, if_pos (by decide), show shl .i64 1 (IntKind.u64.wrap ((1 : Nat) : Int)) = 2 by decide]; exact go 2 (by omega) (by omega)
 ·rw [h, if_pos (by decide), show shl .i64 1 (IntKind.u64.wrap ((2 : Nat) : Int)) = 4 by decide]; exact go 4 (by omega) (by omega)
 ·rw [h, if_pos (by decide), show shl .i64 1 (IntKind.u64.wrap ((3 : Nat) : Int)) = 8 by decide]; exact go 8 (by omega) (by omega)
 ·rw [h, if_pos (by decide), show shl .i64 1 (IntKind.u64.wrap ((4 : Nat) : Int)) = 16 by decide]; exact go 16 (by omega) (by omega)
def bitR (s : Int) (i : Nat) : Bool := decide (Go.bits .and .i64 (shr .i64 s (IntKind.u64.wrap (i : Int))) 1 = 1)
def keysR (s : Int) : Nat → List Int → List Int
 | _, [] => []
 | i, x :: xs => if bitR s i = true then x :: keysR s (i + 1) xs else keysR s (i + 1) xs
theorem keysR_length (s : Int) : ∀ (i : Nat) (l : List Int), (keysR s i l).length ≤ l.length
 | _, [] => by simp [keysR]
 | i, x :: xs => by
  have := keysR_length s (i + 1) xs
  unfold keysR
  split <;> simp <;> omega
def ofR (s : Int) (r : S45) : S30 := ⟨keysR s 0 r.f0, 1, r.f1, r.f1, r.f1⟩
def RegR (n : Nat) (r : S45) : Prop := r.f0.length ≤ 4 ∧ r.f1.length = n
theorem u64_nat (i : Nat) (h : i ≤ 1000) : 0 ≤ IntKind.u64.wrap (i : Int) := by
 have e : IntKind.u64.wrap (i : Int) = (i : Int) % 18446744073709551616 := rfl
 rw [e]; omega
theorem of_l0 (s : Int) (f0 f1 : List Int) (h0 : f0.length ≤ 4) (h1 : f1.length ≤ 100) (d : Nat) : ∀ (i : Nat) (acc : List Int), f0.length - i = d → i ≤ f0.length → acc.length ≤ i →
  Ev (fun k => hypercuberef2_Of.l0 k s (i : Int) f0 f1 acc 1) (acc ++ keysR s i (f0.drop i), 1, f1, f1, f1) := by
 induction d with
 | zero =>
  intro i acc hd hi ha
  have e : f0.drop i = [] := List.drop_eq_nil_of_le (by omega)
  rw [e]
  refine Ev.step (f := fun _ => some (acc, 1, f1, f1, f1)) (fun k => ?_) (by simp only [keysR, List.append_nil]; exact Ev.now _)
  simp only [hypercuberef2_Of.l0]
  rw [if_neg (by omega), Option.bind_some, if_pos (by simp; omega), Option.bind_some, if_pos (by simp; omega), Option.bind_some, if_pos (by simp; omega)]
  rfl
 | succ d ih =>
  intro i acc hd hi ha
  have hlt : i < f0.length := by omega
  rw [drop_cons hlt]
  unfold keysR
  by_cases hb : bitR s i = true
  ·have hb' : Go.bits .and .i64 (shr .i64 s (IntKind.u64.wrap (i : Int))) 1 = 1 := by unfold bitR at hb; simpa using hb
   have h := ih (i + 1) (acc ++ [f0[i]]) (by omega) (by omega) (by simp; omega)
   rw [List.append_assoc, List.singleton_append] at h
   rw [if_pos hb]
   exact Ev.step (fun k => by simp only [hypercuberef2_Of.l0]; rw [if_pos (by omega), if_pos (u64_nat i (by omega)), if_pos hb', if_pos (by omega), if_pos (by omega), rd_get hlt, w64s hlt (by omega)]) h
  ·have hb' : ¬ Go.bits .and .i64 (shr .i64 s (IntKind.u64.wrap (i : Int))) 1 = 1 := by unfold bitR at hb; simpa using hb
   have h := ih (i + 1) acc (by omega) (by omega) (by omega)
   rw [if_neg hb]
   exact Ev.step (fun k => by simp only [hypercuberef2_Of.l0]; rw [if_pos (by omega), if_pos (u64_nat i (by omega)), if_neg hb', w64s hlt (by omega)]) h
theorem of_ev {n : Nat} (hn : n ≤ 100) {r : S45} (hr : RegR n r) (s : Int) : Ev (fun k => hypercuberef2_Of.f k r.f0 r.f1 s) (tupC (ofR s r)) := by
 have h := of_l0 s r.f0 r.f1 hr.1 (by rw [hr.2]; exact hn) r.f0.length 0 [] (by omega) (by omega) (by simp)
 simp only [List.drop_zero, List.nil_append] at h
 exact Ev.congr (fun k => by unfold hypercuberef2_Of.f; rfl) h
theorem ofR_reg {n : Nat} {r : S45} (hr : RegR n r) (s : Int) : RegC n (ofR s r) := ⟨Nat.le_trans (keysR_length _ _ _) hr.1, hr.2, hr.2, hr.2⟩
def makeL (s : Int) (rows : List S45) : List S30 := rows.map (ofR s)
theorem makeL_length (s : Int) (rows : List S45) : (makeL s rows).length = rows.length := by simp [makeL]
theorem rdR_get {l : List S45} {i : Nat} (h : i < l.length) : rd_T45 l (i : Int) = l[i] := by simp [rd_T45, List.getD_eq_getElem?_getD, h]
theorem make_l0 {n : Nat} (hn : n ≤ 100) (s : Int) (rows : List S45) (hl : rows.length ≤ 1000000) (hr : ∀ r ∈ rows, RegR n r) (d : Nat) : ∀ (i : Nat) (acc : List S30), rows.length - i = d → i ≤ rows.length → acc.length ≤ i →
  Ev (fun k => hypercubelaw2_Make.l0 k rows s acc (i : Int)) (acc ++ makeL s (rows.drop i)) := by
 induction d with
 | zero =>
  intro i acc hd hi ha
  have e : rows.drop i = [] := List.drop_eq_nil_of_le (by omega)
  rw [e]
  refine Ev.step (f := fun _ => some acc) (fun k => ?_) (by simp only [makeL, List.map_nil, List.append_nil]; exact Ev.now _)
  simp only [hypercubelaw2_Make.l0]
  rw [if_neg (by omega)]
 | succ d ih =>
  intro i acc hd hi ha
  have hlt : i < rows.length := by omega
  have h := ih (i + 1) (acc ++ [ofR s rows[i]]) (by omega) (by omega) (by simp; omega)
  rw [List.append_assoc, List.singleton_append] at h
  rw [drop_cons hlt]
  refine Ev.step (f := fun k => (hypercuberef2_Of.f k (rows[i]).f0 (rows[i]).f1 s).bind fun bt => hypercubelaw2_Make.l0 k rows s (acc ++ [(⟨bt.1, bt.2.1, bt.2.2.1, bt.2.2.2.1, bt.2.2.2.2⟩ : S30)]) ((i + 1 : Nat) : Int)) (fun k => ?_) (Ev.bind (of_ev hn (hr _ (List.getElem_mem hlt)) s) h)
  simp only [hypercubelaw2_Make.l0]
  rw [if_pos (by omega), if_pos (by omega), rdR_get hlt, w64s hlt (by omega)]
  congr 1
  funext bt
  rw [if_pos (by omega)]
theorem make_ev {n : Nat} (hn : n ≤ 100) (s : Int) (rows : List S45) (hl : rows.length ≤ 1000000) (hr : ∀ r ∈ rows, RegR n r) : Ev (fun k => hypercubelaw2_Make.f k rows s) (makeL s rows) := by
 have h := make_l0 hn s rows hl hr rows.length 0 [] (by omega) (by omega) (by simp)
 simp only [List.drop_zero, List.nil_append] at h
 exact Ev.congr (fun k => by unfold hypercubelaw2_Make.f; rfl) h
theorem facts_set (a0 : Int) (l1 : List Int) (a2 : Int) (l3 : List Int) (a4 : Int) : ∃ cards meas rows s n, Ev (fun k => hypercubelaw1_Facts.f k a0 l1 a2 l3) (cards, meas, rows) ∧ hypercubelaw2_Set.f cards meas a4 = some s ∧ checkP cards meas = true ∧ n ≤ 100 ∧ rows.length ≤ 40 ∧ (∀ r ∈ rows, RegR n r) ∧ (0 ≤ s ∧ s < 16) ∧ (∀ r ∈ rows, RowOk cards meas r) := by
 obtain ⟨cards, meas, rows, h1, h2, h3, h4, h5, h6⟩ := facts_ev a0 l1 a2 l3
 obtain ⟨s, hs, hs0⟩ := set_eq h2 a4
 obtain ⟨c1, c2, c3, c4, c5⟩ := check_open h2
 refine ⟨cards, meas, rows, s, meas.toNat, h1, hs, h2, by omega, by omega, fun r hr => ?_, hs0, h6⟩
 obtain ⟨r1, r2, _⟩ := right_open (h6 r hr).1
 exact ⟨by omega, by omega⟩
end Go.Proofs.Ytmkjkkmilopcpaa.Q
namespace Go.Proofs.Ytmkjkkmilopcpaa.Q
open Go.RowKit Go.Proofs.YtmkjkkmilopcpaaW.PrintWords Go.Proofs.YtmkjkkmilopcpaaW.PrintLast Go.Proofs.YtmkjkkmilopcpaaW.PrintMore
set_option linter.unusedVariables false
def narC (c : S30) (a b : Int) : S30 := ⟨narK c.f0 b 0 (dimsL a), c.f1, c.f2, c.f3, c.f4⟩
theorem dimsL_length (a : Int) : (dimsL a).length ≤ 4 := by
 have h := List.length_filter_le (bitOn a) (List.range 4)
 simpa [dimsL, dimsTo] using h
theorem narC_key (c : S30) (a b : Int) : (narC c a b).f0.length ≤ 4 := Nat.le_trans (narK_length c.f0 b (dimsL a) 0) (dimsL_length a)
theorem nar_eq {c : S30} (h : SmallC c) (a b : Int) : cell_Narrow.f c.f0 c.f1 c.f2 c.f3 c.f4 a b = some (tupC (narC c a b)) := by
 unfold cell_Narrow.f
 rw [own_eq c h, Option.bind_some, clone_eq _ (by have := narC_key c a b; unfold narC at this; dsimp only at this; omega), Option.bind_some]
 rfl
theorem bit_nat (i : Nat) (h : i ≤ 63) : (IntKind.u64.wrap (i : Int)).toNat = i ∧ min i 64 = i := by
 have : IntKind.u64.wrap (i : Int) = (i : Int) := by
  have e : IntKind.u64.wrap (i : Int) = (i : Int) % 18446744073709551616 := rfl
  rw [e]; omega
 rw [this]
 exact ⟨by omega, by omega⟩
theorem bitR_on (s : Int) (i : Nat) (h : i ≤ 63) : bitR s i = bitOn s i := by
 unfold bitR bitOn shr
 rw [(bit_nat i h).1, show min i (IntKind.i64).bits = i from (bit_nat i h).2]
theorem bitN_on (s : Int) (i : Nat) (h : i ≤ 63) : bitN s i = bitOn s i := by
 unfold bitN bitOn
 rw [(bit_nat i h).2]
theorem narK_end (key : List Int) (t : Int) : ∀ (is : List Nat) (a : Nat), key.length ≤ a → narK key t a is = []
 | [], _, _ => rfl
 | i :: is, a, h => by
  simp only [narK]
  rw [if_neg (fun hh => by omega), narK_end key t is (a + 1) (by omega)]
theorem nar_keys (a b : Int) (hb : ∀ i, i < 4 → bitOn b i = true → bitOn a i = true) : ∀ (l : List Int) (i : Nat) (pre : List Int), i + l.length ≤ 4 → ∀ m, l.length ≤ m → i + m ≤ 4 → narK (pre ++ keysR a i l) b pre.length ((List.range' i m).filter (bitOn a)) = keysR b i l
 | [], i, pre, _, m, _, _ => by
  rw [narK_end _ _ _ _ (by simp [keysR])]
  rfl
 | x :: xs, i, pre, hi, 0, hm, _ => by simp at hm
 | x :: xs, i, pre, hi, m + 1, hm, hm4 => by
  have hi' : i + (xs.length + 1) ≤ 4 := by simpa using hi
  have hR := bitR_on a i (by omega)
  have hRb := bitR_on b i (by omega)
  have hN := bitN_on b i (by omega)
  rw [List.range'_succ]
  simp only [keysR, hR, hRb]
  by_cases ha : bitOn a i = true
  ·rw [if_pos ha, List.filter_cons_of_pos ha]
   have ih := nar_keys a b hb xs (i + 1) (pre ++ [x]) (by omega) m (by simp at hm; omega) (by omega)
   rw [List.append_assoc, List.singleton_append, List.length_append, List.length_singleton] at ih
   simp only [narK, hN]
   by_cases hbb : bitOn b i = true
   ·rw [if_pos ⟨hbb, by simp⟩, if_pos hbb, ih]
    congr 1
    rw [rd_get (by simp)]
    simp
   ·rw [if_neg (fun h => hbb h.1), if_neg hbb, ih]
  ·have hbb : ¬ bitOn b i = true := fun h => ha (hb i (by omega) h)
   rw [if_neg ha, if_neg hbb, List.filter_cons_of_neg ha]
   exact nar_keys a b hb xs (i + 1) pre (by omega) m (by simp at hm; omega) (by omega)
theorem nar_of {a b : Int} (hb : ∀ i, i < 4 → bitOn b i = true → bitOn a i = true) {r : S45} (h : r.f0.length ≤ 4) : narC (ofR a r) a b = ofR b r := by
 have := nar_keys a b hb r.f0 0 [] (by omega) 4 h (by omega)
 rw [List.nil_append, List.length_nil, ← List.range_eq_range'] at this
 unfold narC ofR
 dsimp only
 rw [show dimsL a = (List.range 4).filter (bitOn a) from rfl, this]
theorem bits_sub_fin : ∀ a t : Fin 16, ∀ i : Fin 4, bitOn (Go.bits .and .i64 (a.1 : Int) (t.1 : Int)) i.1 = true → bitOn (a.1 : Int) i.1 = true := by decide +kernel
theorem bits_sub {a t : Int} (ha : 0 ≤ a ∧ a < 16) (ht : 0 ≤ t ∧ t < 16) : ∀ i, i < 4 → bitOn (Go.bits .and .i64 a t) i = true → bitOn a i = true := fun i hi => by
 have h := bits_sub_fin ⟨a.toNat, by omega⟩ ⟨t.toNat, by omega⟩ ⟨i, hi⟩
 dsimp only at h
 rw [show ((a.toNat : Nat) : Int) = a by omega, show ((t.toNat : Nat) : Int) = t by omega] at h
 exact h
theorem dims_keys (s : Int) : ∀ (l pre : List Int) (i : Nat), pre.length = i → i + l.length ≤ 4 → ∀ m, l.length ≤ m → i + m ≤ 4 → (((List.range' i m).filter (bitOn s)).filter (fun j => decide (j < (pre ++ l).length))).map (fun j : Nat => rd (pre ++ l) (j : Int)) = keysR s i l
 | [], pre, i, hp, _, m, _, _ => by
  have h : ((List.range' i m).filter (bitOn s)).filter (fun j => decide (j < (pre ++ ([] : List Int)).length)) = [] := by
   rw [List.filter_eq_nil_iff]
   intro j hj
   have hj' := (List.mem_filter.1 hj).1
   have := List.mem_range'_1.1 hj'
   simp [hp]; omega
  rw [h]; rfl
 | x :: xs, pre, i, hp, hi, 0, hm, _ => by simp at hm
 | x :: xs, pre, i, hp, hi, m + 1, hm, hm4 => by
  have hi' : i + (xs.length + 1) ≤ 4 := by simpa using hi
  have ih := dims_keys s xs (pre ++ [x]) (i + 1) (by simp [hp]) (by omega) m (by simp at hm; omega) (by omega)
  rw [List.append_assoc, List.singleton_append] at ih
  have hR := bitR_on s i (by omega)
  rw [List.range'_succ]
  simp only [keysR, hR]
  by_cases ha : bitOn s i = true
  ·rw [if_pos ha, List.filter_cons_of_pos ha, List.filter_cons_of_pos (by simp; omega), List.map_cons, ih]
   congr 1
   rw [rd_get (by simp; omega)]
   simp [← hp]
  ·rw [if_neg ha, List.filter_cons_of_neg ha, ih]
theorem of_eq {n : Nat} (hn : n ≤ 100) {y : S45} (h : RegR n y) (s : Int) : cell_Of.f y.f0 y.f1 s = some (tupC (ofR s y)) := by
 have h1 : y.f1.length ≤ 100 := by rw [h.2]; exact hn
 have hk := dims_keys s y.f0 [] 0 rfl (by have := h.1; omega) 4 h.1 (by omega)
 rw [List.nil_append, ← List.range_eq_range'] at hk
 have hd : cell_dims.f y.f0 s = some (keysR s 0 y.f0) := by rw [← hk]; rfl
 have hkl := keysR_length s 0 y.f0
 unfold cell_Of.f
 rw [clone_eq y.f1 (by omega), Option.bind_some, Option.bind_some, Option.bind_some, hd, Option.bind_some, clone_eq _ (by have := h.1; omega), Option.bind_some]
 rfl
theorem bits_bd_fin : ∀ a t : Fin 16, 0 ≤ Go.bits .and .i64 (a.1 : Int) (t.1 : Int) ∧ Go.bits .and .i64 (a.1 : Int) (t.1 : Int) < 16 := by decide +kernel
theorem bits_bd {a t : Int} (ha : 0 ≤ a ∧ a < 16) (ht : 0 ≤ t ∧ t < 16) : 0 ≤ Go.bits .and .i64 a t ∧ Go.bits .and .i64 a t < 16 := by
 have h := bits_bd_fin ⟨a.toNat, by omega⟩ ⟨t.toNat, by omega⟩
 dsimp only at h
 rw [show ((a.toNat : Nat) : Int) = a by omega, show ((t.toNat : Nat) : Int) = t by omega] at h
 exact h
theorem ev_all (P : Nat → Nat → Prop) : ∀ n : Nat, (∀ i, i < n → ∃ K, ∀ k, K ≤ k → P i k) → ∃ K, ∀ k, K ≤ k → ∀ i, i < n → P i k
 | 0, _ => ⟨0, fun _ _ i hi => absurd hi (by omega)⟩
 | n + 1, h => by
  obtain ⟨K1, h1⟩ := ev_all P n (fun i hi => h i (by omega))
  obtain ⟨K2, h2⟩ := h n (by omega)
  refine ⟨K1 + K2, fun k hk i hi => ?_⟩
  by_cases e : i = n
  ·subst e; exact h2 k (by omega)
  ·exact h1 k (by omega) i (by omega)
end Go.Proofs.Ytmkjkkmilopcpaa.Q
