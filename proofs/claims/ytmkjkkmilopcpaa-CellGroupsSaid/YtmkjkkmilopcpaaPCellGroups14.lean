-- packed by wip/tools/pack.py (a program of this session) out of its own texts
import Derived.Test.YtmkjkkmilopcpaaPCellGroups0
import Derived.ArgAppend
import Derived.Below
import Derived.BigQuiet
import Derived.Deep.AppendLies
import Derived.Deep.CutBlock
import Derived.Deep.DeepCutAuto
import Derived.Deep.Draws
import Derived.Deep.LoopGhost
import Derived.Deep.OwnRows
import Derived.Deep.QuietTactic
import Derived.Deep.RegionHeld3
import Derived.KernelRfl
import Derived.Laws.BitsLemmas
import Derived.Laws.BytesArg
import Derived.Laws.EntriesVeiled
import Derived.Laws.Externs
import Derived.Laws.IdiomCopy
import Derived.Laws.MakeOwn
import Derived.Laws.OwnMore
import Derived.Laws.Rows
import Derived.Laws.Slices
import Derived.Lib.AppendStr
import Derived.Lib.AppendZeros
import Derived.Lib.AppendZerosOnto
import Derived.Lib.ConvBytes
import Derived.Lib.JoinLaws
import Derived.Lib.Overlaps
import Derived.Lib.SliceRun
import Derived.Lib.Walk
import Derived.LoopIn
import Derived.LoopNIn
import Derived.Maps.AppendAt
import Derived.OrdersHeld
import Derived.OrdersIn
import Derived.OwnWalk
import Derived.OwnWalkIn
import Derived.RangeFuncBound
import Derived.RangeFuncBox
import Derived.RangeFuncCalls
import Derived.RangeFuncLeaves
import Derived.RangeFuncNested
import Derived.RangeFuncOwn
import Derived.RowKit
import Derived.RowKit3
import Derived.Shelf.Abstract
import Derived.Shelf.RegionOpen
import Derived.Shelf.RegionOpenPlain
import Derived.Tactics
import Derived.TacticsInMore
import Derived.Test.YtmkjkkmilopcpaaProg
import Derived.WalkKit
import Derived.WalkSpells
import Derived.WideLaws
import Derived.Test.YtmkjkkmilopcpaaPCellGroups1
import Derived.Test.YtmkjkkmilopcpaaPCellGroups3
import Derived.Test.YtmkjkkmilopcpaaPCellGroups4
import Derived.Test.YtmkjkkmilopcpaaPCellGroups5
import Derived.Test.YtmkjkkmilopcpaaPCellGroups6
import Derived.Test.YtmkjkkmilopcpaaPCellGroups7
import Derived.Test.YtmkjkkmilopcpaaPCellGroups8
import Derived.Test.YtmkjkkmilopcpaaPCellGroups9
import Derived.Test.YtmkjkkmilopcpaaPCellGroups10
import Derived.Test.YtmkjkkmilopcpaaPCellGroups11
import Derived.Test.YtmkjkkmilopcpaaPCellGroups12
import Derived.Test.YtmkjkkmilopcpaaPCellGroups13
namespace Go.Proofs.Ytmkjkkmilopcpaa.Q
open Go.RowKit Go.Proofs.YtmkjkkmilopcpaaW.PrintWords Go.Proofs.YtmkjkkmilopcpaaW.PrintLast Go.Proofs.YtmkjkkmilopcpaaW.PrintMore
set_option linter.unusedVariables false
set_option linter.unusedSimpArgs false
def swpL (xs : List S30) (a b : Nat) : List S30 := (xs.set a (rd_T30 xs (b : Int))).set b (rd_T30 xs (a : Int))
def swapsL (o : List Int) (l : List S30) : Nat → List S30
 | 0 => l
 | i + 1 => swpL (swapsL o l i) (i % l.length) (rd o (i : Int) % (l.length : Int)).toNat
theorem swapsL_length (o : List Int) (l : List S30) : ∀ i, (swapsL o l i).length = l.length
 | 0 => rfl
 | i + 1 => by simp only [swapsL, swpL, List.length_set]; exact swapsL_length o l i
def nsL (g : List S30) : Nat → Int
 | 0 => 0
 | i + 1 => wrap64 (nsL g i + (rd_T30 g (i : Int)).f1)
theorem N_empty {w : World} {g base : Nat} (h : w.heap[g]? = some (.cells #[] 30 (0, 0))) (hb : base ≤ g) : Kd.N k30 30 w base (fun _ => True) (.slice (some ⟨g, 0, none⟩) 0 0) [] :=
 ⟨fun _ _ => trivial, [], rfl, ⟨fun k hk => hk.symm, [], ⟨rfl, .inr ⟨g, 0, #[], rfl, hb, h, Nat.le_refl _, by decide, rfl, rfl⟩⟩, Reps.none _ _⟩, fun j x c hx _ => by cases hx⟩
theorem new_at {w : World} {n : Nat} (o : Obj) (h : w.heap.size = n) : (w.alloc o).heap[n]? = some o := by rw [← h]; exact heap_alloc_new w o
def hypercubelaw2_CellGroups.T11 : Bool × List (List Nat × List Nat) := (true, [([], []), ([0], [0]), ([1], [1]), ([2], [2]), ([2], [2]), ([4, 2], [2, 4]), ([3, 5, 2], [2, 3, 5]), ([6, 2], [2, 6]), ([7, 2], [2, 7]), ([2], [2]), ([2], [2]), ([9, 10, 2], [2, 9, 10]), ([11, 2], [2, 11]), ([12, 2], [2, 12]), ([8, 13, 2, 2], [2, 8, 13]), ([14, 2], [2, 14]), ([2, 15], [2, 15])])
def hypercubelaw2_CellGroups.B11 : List Nat := [0, 1, 3, 7, 7, 23, 63, 127, 255, 7, 7, 1543, 3591, 7687, 16383, 32767, 65535]
theorem hypercubelaw2_CellGroups.tab11 : rtab .any (opsOf Try.f5 11) = hypercubelaw2_CellGroups.T11 := by kernel_rfl
theorem hypercubelaw2_CellGroups.bits11 : waitsOk hypercubelaw2_CellGroups.T11.2 hypercubelaw2_CellGroups.B11 = true := by kernel_rfl
def hypercubelaw2_CellGroups.T17 : Bool × List (List Nat × List Nat) := (true, [([], []), ([], []), ([1], [1]), ([0, 2], [0, 2]), ([], []), ([], []), ([4, 5], [4, 5]), ([6], [6]), ([], []), ([8], [8]), ([7, 9], [7, 9]), ([3, 10, 0, 1, 2, 3], [3]), ([10, 11, 0, 1, 2, 3, 4, 5, 6, 7, 8, 9, 10, 11], [10])])
def hypercubelaw2_CellGroups.B17 : List Nat := [0, 0, 2, 7, 0, 0, 48, 112, 0, 256, 1008, 2047, 4095]
theorem hypercubelaw2_CellGroups.tab17 : rtab .any (opsOf Try.f5 17) = hypercubelaw2_CellGroups.T17 := by kernel_rfl
theorem hypercubelaw2_CellGroups.bits17 : waitsOk hypercubelaw2_CellGroups.T17.2 hypercubelaw2_CellGroups.B17 = true := by kernel_rfl
def hypercubelaw2_CellGroups.T18 : Bool × List (List Nat × List Nat) := (true, [([], []), ([], []), ([], []), ([], []), ([], []), ([], []), ([4, 5], [4, 5]), ([6], [6]), ([], []), ([], []), ([8, 9], [8, 9]), ([10], [10]), ([0, 1, 0, 1, 4, 5, 6, 7, 11], [0, 1]), ([12, 7, 0, 1, 4, 5, 6, 7, 11], [7, 12]), ([2, 3, 0, 1, 2, 3, 4, 5, 6, 7, 8, 9, 10, 11, 12, 13], [2, 3]), ([14, 11, 13, 0, 1, 2, 3, 4, 5, 6, 7, 8, 9, 10, 11, 12, 13], [11, 14])])
def hypercubelaw2_CellGroups.B18 : List Nat := [0, 0, 0, 0, 0, 0, 48, 112, 0, 0, 768, 1792, 4083, 8179, 16383, 32767]
theorem hypercubelaw2_CellGroups.tab18 : rtab .any (opsOf Try.f5 18) = hypercubelaw2_CellGroups.T18 := by kernel_rfl
theorem hypercubelaw2_CellGroups.bits18 : waitsOk hypercubelaw2_CellGroups.T18.2 hypercubelaw2_CellGroups.B18 = true := by kernel_rfl
def hypercubelaw2_CellGroups.Pure : Prop := ∀ (a0 : Int) (l1 : List Int) (a2 : Int) (l3 : List Int) (a4 : Int) (l5 : List Int), (Lit.int .i64 a0).wf = true → l1.length ≤ maxLen → l1.length * 8 ≤ 140737488351232 → (∀ x ∈ l1, (Lit.int .i64 x).wf = true) → (Lit.int .i64 a2).wf = true → l3.length ≤ maxLen → l3.length * 8 ≤ 140737488351232 → (∀ x ∈ l3, (Lit.int .i64 x).wf = true) → (Lit.int .i64 a4).wf = true → l5.length ≤ maxLen → l5.length * 8 ≤ 140737488351232 → (∀ x ∈ l5, (Lit.int .i64 x).wf = true) →
 ∃ k cards meas rows s l g, (hypercubelaw1_Facts.f k a0 l1 a2 l3 = some (cards, meas, rows)) ∧ (hypercubelaw2_Set.f cards meas a4 = some s) ∧ (hypercubelaw2_Make.f k rows s = some l) ∧ (cell_Group.f k l = some g) ∧ (∀ i : Nat, i < g.length → 0 < i → ∃ z, hypercuberef2_Less.f k (rd_T30 g ((i : Int) - 1)).f0 (rd_T30 g (i : Int)).f0 = some z ∧ z < 0) ∧ (nsL g g.length = (rows.length : Int)) ∧ (∀ i : Nat, i < l5.length → 0 < l.length → hypercubelaw2_within.f (rd l5 (i : Int)) (l.length : Int) = some (rd l5 (i : Int) % (l.length : Int))) ∧ (cell_Group.f k (swapsL l5 l (if l.length = 0 then 0 else min l5.length 40)) = some g) ∧ (cell_Group.f k g = some g) ∧ (hypercuberef2_Same.f k g g = some true) ∧ (l.length ≤ 1000)
set_option maxHeartbeats 8000000 in
set_option maxRecDepth 100000 in
theorem hypercubelaw2_CellGroups.calls (k : Nat) (a0 : Int) (A1 : Option Addr) (c1 : Nat) (l1 : List Int) (a2 : Int) (A3 : Option Addr) (c3 : Nat) (l3 : List Int) (a4 : Int) (A5 : Option Addr) (c5 : Nat) (l5 : List Int) (w : World) (hr1 : Kd.C (Kd.int .i64) w A1 l1.length l1) (hc1 : l1.length ≤ c1) (hr3 : Kd.C (Kd.int .i64) w A3 l3.length l3) (hc3 : l3.length ≤ c3) (hr5 : Kd.C (Kd.int .i64) w A5 l5.length l5) (hc5 : l5.length ≤ c5)
    {cards : List Int} {meas : Int} {rows : List S45} {s : Int} {l g : List S30} (h1 : hypercubelaw1_Facts.f k a0 l1 a2 l3 = some (cards, meas, rows)) (h2 : hypercubelaw2_Set.f cards meas a4 = some s) (h3 : hypercubelaw2_Make.f k rows s = some l) (h4 : cell_Group.f k l = some g) (h5 : ∀ i : Nat, i < g.length → 0 < i → ∃ z, hypercuberef2_Less.f k (rd_T30 g ((i : Int) - 1)).f0 (rd_T30 g (i : Int)).f0 = some z ∧ z < 0) (h6 : nsL g g.length = (rows.length : Int)) (h7 : ∀ i : Nat, i < l5.length → 0 < l.length → hypercubelaw2_within.f (rd l5 (i : Int)) (l.length : Int) = some (rd l5 (i : Int) % (l.length : Int))) (h8 : cell_Group.f k (swapsL l5 l (if l.length = 0 then 0 else min l5.length 40)) = some g) (h9 : cell_Group.f k g = some g) (h10 : hypercuberef2_Same.f k g g = some true) (h11 : l.length ≤ 1000) :
    Calls Try.prog 5 #[.int .i64 a0, .slice A1 l1.length c1, .int .i64 a2, .slice A3 l3.length c3, .int .i64 a4, .slice A5 l5.length c5] w fun e w' => e = .returned (.bool true) ∧ Below w.heap.size w w' := by
  have hu30 := Try.underlying30
  have hu25 := Try.underlying35
  have H1 := am h1
  have H2 := am h2
  have H3 := am h3
  have H4 := am h4
  have H5 := am h5
  have H6 := am h6
  have H7 := am h7
  have H8 := am h8
  have H9 := am h9
  have H10 := am h10
  have H11 := am h11
  have HR1 := am hr1
  have HC1 := am hc1
  have HR3 := am hr3
  have HC3 := am hc3
  have HR5 := am hr5
  have HC5 := am hc5
  clear h1 h2 h3 h4 h5 h6 h7 h8 h9 h10 h11 hr1 hc1 hr3 hc3 hr5 hc5
  go_enter Try.func5, Try.ntmps5
  go_wp2_with (fail)
  refine (hypercubelaw2_known.calls true w rfl).mono ?_
  rintro e w1 ⟨rfl, hb1⟩
  have HB1 := am hb1
  clear hb1
  go_wp2_with (fail)
  refine (hypercubelaw1_Facts.calls k a0 A1 c1 l1 a2 A3 c3 l3 cards meas rows w1 (Kd.C_below HR1.out HB1.out) HC1.out (Kd.C_below HR3.out HB1.out) HC3.out H1.out).mono ?_
  rintro e w2 ⟨v1, v2, rfl, ho0, ho1, hb2⟩
  obtain ⟨A14, c14, rfl⟩ := Kd.R_slice ho0
  obtain ⟨A15, c15, rfl⟩ := Kd.S_slice ho1
  have HX := am (Kd.R_reads' ho0).2
  have HY := am (Kd.S_reads' ho1).2
  have HB2 := am (below_step HB1.out hb2)
  clear ho0 ho1 hb2
  go_wp2_with (first | ((with_reducible refine gate_dst (N := 13) rfl ?_); (try (refine gate_guard (by rfl) ?_; dsimp only)); refine box_event ?hg (N := 13) ?hd (cs := #[.slice none 0 0, .int .i64 0]) (t := 35) ?hr ?_; (case hd => rfl); (case hg => rfl); (case hr => first | (go_simp; done) | (go_simp; rfl)); intro gb hg w3 hbox hb; have hcz0 : w3.cell? ⟨gb, 0, none⟩ = some (.slice none 0 0) := (blk_cell hbox 0).trans rfl; have hcz1 : w3.cell? ⟨gb, 1, none⟩ = some (.int .i64 0) := (blk_cell hbox 1).trans rfl; have hfz0 := blk_frozen hbox 0; have hfz1 := blk_frozen hbox 1; have HBX := am hbox; have HG := am hg; have HB3 := am hb; clear hbox hg hb))
  refine name_calls ?_
  intro w4 hw4
  have hb4 : Below w2.heap.size w2 w4 := by rw [hw4]; exact below_set (below_set HB3.out (Nat.le_of_eq HG.out.symm)) (Nat.le_of_eq HG.out.symm)
  have HB4 := am (below_step HB2.out hb4)
  have HX4 := am (Kd.C_below HX.out.2 hb4)
  have HY4 := am (Kd.C_below HY.out.2 hb4)
  clear hw4 hb4 hcz0 hcz1 hfz0 hfz1
  refine (hypercubelaw2_Set.calls A14 c14 cards meas a4 s w4 HX4.out HX.out.1 H2.out).mono ?_
  rintro e w5 ⟨rfl, hb5⟩
  have HY5 := am (Kd.C_below HY4.out hb5)
  have HB5 := am (below_step HB4.out hb5)
  clear hb5 HX4 HB4 HB3 HBX HG HY4
  go_wp2_with (fail)
  refine (hypercubelaw2_Make.calls k A15 c15 rows s l w5 HY5.out HY.out.1 H3.out).mono ?_
  rintro e w6 ⟨v6, rfl, ho0, hb⟩
  obtain ⟨A16, c16, rfl⟩ := Kd.S_slice ho0
  have HL := am (Kd.S_reads' ho0).2
  have HLM := am (Kd.S_reads' ho0).2.2.2.1
  have HL6 := am HL.out.2
  have HB6 := am (below_step HB5.out hb)
  clear ho0 hb HB5 HY5
  go_wp2_with (fail)
  refine (cell_Group.calls k A16 c16 l g w6 HL6.out HL.out.1 H4.out).mono ?_
  rintro e w7 ⟨v7, rfl, ho0, hb⟩
  obtain ⟨A17, c17, rfl⟩ := Kd.S_slice ho0
  have HG := am (Kd.S_reads' ho0).2
  have HGM := am (Kd.S_reads' ho0).2.2.2.1
  have HG7 := am HG.out.2
  have HL7 := am (Kd.C_below HL6.out hb)
  have HB7 := am (below_step HB6.out hb)
  clear ho0 hb HB6 HL6
  go_wp2_with (fail)
  go_loopg [17, 18] (g.length + 1) (fun kq v17 v18 w' => ∃ i : Nat, v18 = .int .i64 (i : Int) ∧ v17 = .int .i64 (nsL g i) ∧ Aside0 (i + kq = g.length + 1 ∧ i ≤ g.length) ∧ Aside0 (Below w7.heap.size w7 w'))
  case atStart => exact ⟨0, rfl, rfl, ⟨by omega, by omega⟩, ⟨Below.refl _ _⟩⟩
  case round =>
  obtain ⟨i, rfl, rfl, HI, HS⟩ := hrel
  cases gk with
  | zero => exact absurd HI.out (by omega)
  | succ k1 =>
  by_cases hi : i < g.length
  · have hc1 : decide ((i : Int) < (g.length : Int)) = true := decide_eq_true (by omega)
    have pi := eq_true (show (0 : Int) ≤ (i : Int) by omega)
    have qi := eq_true (show (i : Int) < (g.length : Int) by omega)
    have hwi : wrap64 ((i : Int) + 1) = ((i + 1 : Nat) : Int) := by have := HGM.out; unfold wrap64; omega
    obtain ⟨ad, A0, c0, A2, c2, A3, c3, A4, c4, eA, x0, x1, _, _, _, m0, r0, _⟩ := at_T30 (Kd.C_below HG7.out HS.out) (i : Int) (by omega) (by omega)
    cases eA
    rw [Int.toNat_natCast] at x0 x1
    have R0 := am (And.intro r0 m0)
    have X0 := am x0
    have HHI := am hi
    have hnx : wrap64 (nsL g i + (rd_T30 g (i : Int)).f1) = nsL g (i + 1) := rfl
    by_cases hp : 0 < i
    · have hc2 : decide ((i : Int) > 0) = true := decide_eq_true (by omega)
      have hc3 : decide (0 < (i : Int)) = true := decide_eq_true (by omega)
      have hc4 : decide (0 < i) = true := decide_eq_true hp
      obtain ⟨p, ep⟩ : ∃ p : Nat, i = p + 1 := ⟨i - 1, by omega⟩
      have hwp : wrap64 ((i : Int) - 1) = (p : Int) := by have := HGM.out; unfold wrap64; omega
      have pp := eq_true (show (0 : Int) ≤ (p : Int) by omega)
      have qp := eq_true (show (p : Int) < (g.length : Int) by omega)
      obtain ⟨z, hz, hz0⟩ := H5.out i hi hp
      rw [show (i : Int) - 1 = (p : Int) by omega] at hz
      have HZ := am hz
      have hz1 : decide (z ≥ 0) = false := decide_eq_false (by omega)
      have hz2 : decide (0 ≤ z) = false := decide_eq_false (by omega)
      obtain ⟨ae, B0, d0, B2, d2, B3, d3, B4, d4, eB, y0, _, _, _, _, s0, u0, _⟩ := at_T30 (Kd.C_below HG7.out HS.out) (p : Int) (by omega) (by omega)
      cases eB
      rw [Int.toNat_natCast] at y0
      have U0 := am (And.intro u0 s0)
      have Y0 := am y0
      generalize rd_T30 g (p : Int) = y at *
      clear hi hp ep hz hz0 x0 y0 r0 m0 u0 s0
      generalize rd_T30 g (i : Int) = x at *
      go_wp2
      refine start_ (n := 17) (S := fun w' => w'.cell? (ad.add (i * 5)) = some (.slice A0 x.f0.length c0) ∧ w'.cell? (ad.add (p * 5)) = some (.slice B0 y.f0.length d0)) (ds := []) (bb 17 0) (by kernel_rfl) rfl rfl ⟨X0.out, Y0.out⟩ (fun hHeld => ?_)
      refine with_tabW hypercubelaw2_CellGroups.tab11 hypercubelaw2_CellGroups.bits11 (fun HT_ HW_ => ?_)
      have HB := am (below_drew (Below.refl wr.heap.size wr))
      generalize wr.drew = wd at HB hHeld ⊢
      refine pu (i := 0) (N := some 53) (bb 17 1) HT_ ?_
      refine pu (i := 1) (N := some 54) (bb 17 3) HT_ ?_
      refine pu (i := 2) (N := some 55) (bb 17 7) HT_ ?_
      refine pu (i := 3) (N := some 56) (bb 17 15) HT_ ?_
      refine pu (i := 4) (N := some 57) (bb 17 31) HT_ ?_
      refine pu (i := 5) (N := some 58) (bb 17 63) HT_ ?_
      refine pu (i := 6) (N := some 59) (bb 17 127) HT_ ?_
      refine pu (i := 7) (N := some 60) (bb 17 255) HT_ ?_
      refine pu (i := 9) (N := some 62) (bb 17 767) HT_ ?_
      refine pu (i := 10) (N := some 63) (bb 17 1791) HT_ ?_
      refine pu (i := 11) (N := some 64) (bb 17 3839) HT_ ?_
      refine pu (i := 12) (N := some 65) (bb 17 7935) HT_ ?_
      refine tk (i := 8) (N := some 61) (bb 17 8191) HT_ HW_ hHeld ?_
      refine tk (i := 13) (N := some 66) (bb 17 16383) HT_ HW_ hHeld ?_
      refine one_ (i := 14) (N := some 67) (bb 17 32767) rfl rfl (one_of HT_.out (by kernel_rfl)) (by decide) (fun K hK => ?_)
      refine goes_ Try.func18 (by kernel_rfl) rfl #[.slice B0 y.f0.length d0, .slice A0 x.f0.length c0] (by rfl) rfl rfl (by (try simp only [List.map_toArray, List.map_cons, List.map_nil]); first | done | rfl) ?_
      with_reducible refine (hypercuberef2_Less.calls k B0 d0 y.f0 A0 c0 x.f0 z _ (Kd.C_below U0.out.1 HB.out) U0.out.2 (Kd.C_below R0.out.1 HB.out) R0.out.2 HZ.out).mono ?_

      rintro e wd2 ⟨rfl, hd⟩
      have hb := hd.below
      replace HB := am (below_step HB.out hb)
      clear hb
      refine ⟨_, rfl, ?_⟩
      refine hK.out _ _ ⟨(HB.out.cell (World.block_lt_of_cell? wr _ X0.out)).trans X0.out, (HB.out.cell (World.block_lt_of_cell? wr _ Y0.out)).trans Y0.out⟩ (fun hHeld => ?_)
      clear hK K
      refine nm ?_
      refine pu (i := 15) (N := some 68) (bb 17 65535) HT_ ?_
      refine pu (i := 16) (N := some 69) (bb 17 131071) HT_ ?_
      refine done_ (done_of HT_.out (by kernel_rfl)) ?_
      have HS2 := am (below_step HS.out HB.out)
      go_wp2
      go_roundg k1
      case measure => omega
      case rel => exact ⟨i + 1, by first | rfl | simp [hwi], by first | rfl | simp [hnx], ⟨by have := HI.out; have := HHI.out; omega, by have := HHI.out; omega⟩, HS2⟩
    · have hc2 : decide ((i : Int) > 0) = false := decide_eq_false (by omega)
      have hc3 : decide (0 < (i : Int)) = false := decide_eq_false (by omega)
      have hc4 : decide (0 < i) = false := decide_eq_false hp
      clear hi hp x0 r0 m0
      generalize rd_T30 g (i : Int) = x at *
      go_wp2
      refine start_ (n := 17) (S := fun w' => True ∧ True) (ds := []) (bb 17 0) (by kernel_rfl) rfl rfl ⟨trivial, trivial⟩ (fun hHeld => ?_)
      refine with_tabW hypercubelaw2_CellGroups.tab11 hypercubelaw2_CellGroups.bits11 (fun HT_ HW_ => ?_)
      have HB := am (below_drew (Below.refl wr.heap.size wr))
      generalize wr.drew = wd at HB hHeld ⊢
      refine pu (i := 0) (N := some 53) (bb 17 1) HT_ ?_
      refine pu (i := 1) (N := some 54) (bb 17 3) HT_ ?_
      refine pu (i := 2) (N := some 55) (bb 17 7) HT_ ?_
      refine pn (i := 3) (N := some 56) (bb 17 15) HT_ ?_
      refine pn (i := 4) (N := some 57) (bb 17 31) HT_ ?_
      refine pn (i := 5) (N := some 58) (bb 17 63) HT_ ?_
      refine pn (i := 6) (N := some 59) (bb 17 127) HT_ ?_
      refine pn (i := 7) (N := some 60) (bb 17 255) HT_ ?_
      refine pn (i := 8) (N := some 61) (bb 17 511) HT_ ?_
      refine pn (i := 9) (N := some 62) (bb 17 1023) HT_ ?_
      refine pn (i := 10) (N := some 63) (bb 17 2047) HT_ ?_
      refine pn (i := 11) (N := some 64) (bb 17 4095) HT_ ?_
      refine pn (i := 12) (N := some 65) (bb 17 8191) HT_ ?_
      refine pn (i := 13) (N := some 66) (bb 17 16383) HT_ ?_
      refine pn (i := 14) (N := some 67) (bb 17 32767) HT_ ?_
      refine pn (i := 15) (N := some 68) (bb 17 65535) HT_ ?_
      refine pu (i := 16) (N := some 69) (bb 17 131071) HT_ ?_
      refine done_ (done_of HT_.out (by kernel_rfl)) ?_
      have HS2 := am (below_step HS.out HB.out)
      go_wp2
      go_roundg k1
      case measure => omega
      case rel => exact ⟨i + 1, by first | rfl | simp [hwi], by first | rfl | simp [hnx], ⟨by have := HI.out; have := HHI.out; omega, by have := HHI.out; omega⟩, HS2⟩
  · have hc1 : decide ((i : Int) < (g.length : Int)) = false := decide_eq_false (by omega)
    have hig : i = g.length := by have := HI.out; omega
    subst hig
    have hng := H6.out
    rw [hng]
    clear hi
    have HB8 := am (below_step HB7.out HS.out)
    have HL8 := am (Kd.C_below HL7.out HS.out)
    have HG8 := am (Kd.C_below HG7.out HS.out)
    clear HB7 HL7 HG7 HS hng
    generalize wr = w8 at *
    go_wp2_with (first
    | ((with_reducible refine gate_builtin (b := .append) (xs := #[.tmp 70, .tmp 71]) rfl ?_); (try (refine gate_guard (by rfl) ?_; dsimp only)); at_builtin; refine Kd.N_append_rows k30 (w0 := w8) w8.heap.size rfl (.tmp 70) (.tmp 71) 28 30 (.agg #[(.slice none 0 0), (.int .i64 0), (.slice none 0 0), (.slice none 0 0), (.slice none 0 0)]) 104 rfl Try.underlying28 info30 rfl (by decide) (by omega) (.slice (some ⟨w8.heap.size, 0, none⟩) 0 0) [] l _ _ _ (fun _ => True) (fun k_ => k_ < w8.heap.size) rfl rfl ?aO ?aR ?aK (fun _ _ => trivial) ?aB ?aS ?aL ?_; (case aO => exact N_empty (new_at _ rfl) (Nat.le_refl _)); (case aR => exact Kd.F_alloc (Kd.C_F k30_heap HL8.out) _); (case aK => exact fun k_ hk => ⟨trivial, fun e_ => by have e2_ : k_ = w8.heap.size := Option.some.inj e_; omega⟩); (case aB => exact below_alloc (Below.refl _ _) _); (case aS => rw [World.size_alloc]; omega); (case aL => have := H11.out; simp only [List.length_nil]; omega); intro vv w9 ho hb hg hat; rw [List.nil_append] at ho; obtain ⟨A19, c19, rfl⟩ := Kd.N_slice ho; have HN9 := am ho; have HG9 := am (Kd.C_below HG8.out hb); have HB9 := am (below_step HB8.out hb); have HB89 := am hb; clear ho hb hg hat))
    have hr5 := am (Kd.C_below HR5.out HB8.out)
    go_loopg [20, 21, 22] (min l5.length 40 + 1) (fun kq v20 v21 v22 w' => ∃ i : Nat, v20 = .int .i64 (i : Int) ∧ Aside0 (i + kq = min l5.length 40 + 1 ∧ i ≤ (if l.length = 0 then 0 else min l5.length 40)) ∧ Aside0 (Below w8.heap.size w8 w') ∧ Aside0 (Kd.N k30 30 w' w8.heap.size (fun _ => True) (.slice A19 l.length c19) (swapsL l5 l i)))
    case atStart => exact ⟨0, rfl, ⟨by omega, by omega⟩, HB89, ⟨HN9.out⟩⟩
    case round =>
    obtain ⟨i, rfl, HI, HS, HN⟩ := hrel
    cases gk with
    | zero => exact absurd HI.out.1 (by have := HI.out.2; split at this <;> omega)
    | succ k1 =>
    by_cases hi : i < (if l.length = 0 then 0 else min l5.length 40)
    · have hl0 : 0 < l.length := by rcases Nat.eq_zero_or_pos l.length with h | h; (rw [if_pos h] at hi; omega); exact h
      have hi2 : i < l5.length ∧ i < 40 := by rw [if_neg (by omega)] at hi; omega
      have hc1 : decide ((i : Int) < (l5.length : Int)) = true := decide_eq_true (by omega)
      have hc2 : decide ((i : Int) < 40) = true := decide_eq_true (by omega)
      have hc3 : decide ((l.length : Int) > 0) = true := decide_eq_true (by omega)
      have hc4 : decide (0 < (l.length : Int)) = true := decide_eq_true (by omega)
      have hc5 : decide (0 < l.length) = true := decide_eq_true hl0
      have hc6 : decide (i < l5.length) = true := decide_eq_true hi2.1
      have pi := eq_true (show (0 : Int) ≤ (i : Int) by omega)
      have qi := eq_true (show (i : Int) < (l5.length : Int) by omega)
      have hl1 := H11.out
      have hwi : wrap64 ((i : Int) + 1) = ((i + 1 : Nat) : Int) := by unfold wrap64; omega
      obtain ⟨gm, cap, e1, hgb, hgs, cells, hcells⟩ := Kd.N_form HN.out (by rw [swapsL_length]; exact hl0)
      injection e1 with eA en ec
      obtain ⟨adm, ead, hadm⟩ : ∃ adm, A19 = some adm ∧ adm = ⟨gm, 0, none⟩ := ⟨_, eA, rfl⟩
      subst ead
      obtain ⟨ax, hax⟩ : ∃ ax : Nat, ax = i % l.length := ⟨_, rfl⟩
      obtain ⟨bx, hbx⟩ : ∃ bx : Nat, bx = (rd l5 (i : Int) % (l.length : Int)).toNat := ⟨_, rfl⟩
      have hb0 := Int.emod_nonneg (rd l5 (i : Int)) (show (l.length : Int) ≠ 0 by omega)
      have hb1 := Int.emod_lt_of_pos (rd l5 (i : Int)) (show (0 : Int) < (l.length : Int) by omega)
      have hwt := H7.out i hi2.1 hl0
      rw [show rd l5 (i : Int) % (l.length : Int) = (bx : Int) by omega] at hwt
      have HW := am hwt
      have hal : ax < l.length := by rw [hax]; exact Nat.mod_lt _ hl0
      have hbl : bx < l.length := by omega
      have hrem : Int.tmod (i : Int) (l.length : Int) = (ax : Int) := by rw [hax]; rfl
      have hn0 : ((l.length : Int) == 0) = false := beq_eq_false_iff_ne.mpr (by omega)
      have hn1 : ((l.length : Int) != 0) = true := bne_iff_ne.mpr (by omega)
      have hn2 : (l.length == 0) = false := beq_eq_false_iff_ne.mpr (by omega)
      have hn3 := eq_false (show ¬ l = [] by intro h; rw [h] at hl0; exact absurd hl0 (by decide))
      have pa := eq_true (show (0 : Int) ≤ (ax : Int) by omega)
      have qa := eq_true (show (ax : Int) < (l.length : Int) by omega)
      have pb := eq_true (show (0 : Int) ≤ (bx : Int) by omega)
      have qb := eq_true (show (bx : Int) < (l.length : Int) by omega)
      have qa2 := eq_true hal
      have qb2 := eq_true hbl
      obtain ⟨ad5, e5, x5⟩ := Kd.at_int (Kd.C_below hr5.out HS.out) (i : Int) (by omega) (by omega)
      cases e5
      rw [Int.toNat_natCast] at x5
      have X5 := am x5
      have HADM := am hadm
      have HAL := am hal
      have HBL := am hbl
      have HAX := am hax
      have HBX := am hbx
      have HI2 := am hi2
      have HL0 := am hl0
      clear x5 hadm hal hbl hi hi2 hl0 hb0 hb1 hwt eA en ec hgb hgs hcells cells hl1 hax hbx
      generalize hov : rd l5 (i : Int) = ov at *
      have HOV := am hov
      clear hov
      go_wp2
      refine start_ (n := 13) (S := fun w' => w'.cell? (ad5.add i) = some (.int .i64 ov) ∧ True) (ds := []) (bb 13 0) (by kernel_rfl) rfl rfl ⟨X5.out, trivial⟩ (fun hHeld => ?_)
      refine with_tabW hypercubelaw2_CellGroups.tab17 hypercubelaw2_CellGroups.bits17 (fun HT_ HW_ => ?_)
      have HB := am (below_drew (Below.refl wr.heap.size wr))
      generalize wr.drew = wd at HB hHeld ⊢
      refine pu (i := 0) (N := some 88) (bb 13 1) HT_ ?_
      refine pu (i := 1) (N := some 89) (bb 13 3) HT_ ?_
      refine pu (i := 2) (N := some 90) (bb 13 7) HT_ ?_
      refine pu (i := 3) (N := some 91) (bb 13 15) HT_ ?_
      refine pu (i := 4) (N := some 92) (bb 13 31) HT_ ?_
      refine pu (i := 5) (N := some 93) (bb 13 63) HT_ ?_
      refine pu (i := 6) (N := some 94) (bb 13 127) HT_ ?_
      refine pu (i := 8) (N := some 96) (bb 13 383) HT_ ?_
      refine pu (i := 9) (N := some 97) (bb 13 895) HT_ ?_
      refine tk (i := 7) (N := some 95) (bb 13 1023) HT_ HW_ hHeld ?_
      refine one_ (i := 10) (N := some 98) (bb 13 2047) rfl rfl (one_of HT_.out (by kernel_rfl)) (by decide) (fun K hK => ?_)
      refine goes_ Try.func20 (by kernel_rfl) rfl #[.int .i64 ov, .int .i64 (l.length : Int)] (by rfl) rfl rfl (by (try simp only [List.map_toArray, List.map_cons, List.map_nil]); first | done | rfl) ?_
      with_reducible refine (hypercubelaw2_within.calls ov (l.length : Int) (bx : Int) _ HW.out).mono ?_

      rintro e wd2 ⟨rfl, hd⟩
      replace HB := am (below_step HB.out hd.below)
      clear hd
      refine ⟨_, rfl, ?_⟩
      refine hK.out _ _ ⟨(HB.out.cell (World.block_lt_of_cell? wr _ X5.out)).trans X5.out, trivial⟩ (fun hHeld => ?_)
      clear hK K
      refine nm ?_
      refine pu (i := 11) (N := some 21) (bb 13 4095) HT_ ?_
      refine pu (i := 12) (N := some 22) (bb 13 8191) HT_ ?_
      refine done_ (done_of HT_.out (by kernel_rfl)) ?_
      have HSW := am (below_step HS.out HB.out)
      have HN2 : Aside0 (Kd.N k30 30 wd2 w8.heap.size (fun _ => True) (.slice (some ⟨gm, 0, none⟩) l.length c19) (swapsL l5 l i)) := ⟨by have := Kd.N_below HN.out HB.out; rwa [HADM.out] at this⟩
      obtain ⟨ca, la, oa, fa, xa⟩ := N_at HN2.out z30 ax HAL.out
      obtain ⟨cb, lb, ob, fb, xb⟩ := N_at HN2.out z30 bx HBL.out
      obtain ⟨A0, c0, A2, c2, A3, c3, A4, c4, ea, _⟩ := k30_openF fa
      subst ea
      obtain ⟨B0, d0, B2, d2, B3, d3, B4, d4, eb, _⟩ := k30_openF fb
      subst eb
      have HXA : (swapsL l5 l i).getD ax z30 = rd_T30 (swapsL l5 l i) (ax : Int) := rfl
      have HXB : (swapsL l5 l i).getD bx z30 = rd_T30 (swapsL l5 l i) (bx : Int) := rfl
      rw [HXA] at fa xa oa
      rw [HXB] at fb xb ob
      obtain ⟨x, hx⟩ : ∃ x, x = rd_T30 (swapsL l5 l i) (ax : Int) := ⟨_, rfl⟩
      obtain ⟨y, hy⟩ : ∃ y, y = rd_T30 (swapsL l5 l i) (bx : Int) := ⟨_, rfl⟩
      rw [← hx] at fa xa oa
      rw [← hy] at fb xb ob
      have ADA : Aside0 (adm.add (ax * 5) = ⟨gm, ax * 5, none⟩) := ⟨by rw [HADM.out, Addr.add_lit, Nat.zero_add]⟩
      have ADB : Aside0 (adm.add (bx * 5) = ⟨gm, bx * 5, none⟩) := ⟨by rw [HADM.out, Addr.add_lit, Nat.zero_add]⟩
      have CA0 : Aside0 (wd2.cell? (adm.add (ax * 5)) = some (.slice A0 x.f0.length c0)) := ⟨by rw [ADA.out]; exact xa 0 _ rfl⟩
      have CA1 : Aside0 (wd2.cell? ⟨(adm.add (ax * 5)).block, (adm.add (ax * 5)).off + 1, none⟩ = some (.int .i64 x.f1)) := ⟨by rw [ADA.out]; exact xa 1 _ rfl⟩
      have CA2 : Aside0 (wd2.cell? ⟨(adm.add (ax * 5)).block, (adm.add (ax * 5)).off + 2, none⟩ = some (.slice A2 x.f2.length c2)) := ⟨by rw [ADA.out]; exact xa 2 _ rfl⟩
      have CA3 : Aside0 (wd2.cell? ⟨(adm.add (ax * 5)).block, (adm.add (ax * 5)).off + 3, none⟩ = some (.slice A3 x.f3.length c3)) := ⟨by rw [ADA.out]; exact xa 3 _ rfl⟩
      have CA4 : Aside0 (wd2.cell? ⟨(adm.add (ax * 5)).block, (adm.add (ax * 5)).off + 4, none⟩ = some (.slice A4 x.f4.length c4)) := ⟨by rw [ADA.out]; exact xa 4 _ rfl⟩
      have CB0 : Aside0 (wd2.cell? (adm.add (bx * 5)) = some (.slice B0 y.f0.length d0)) := ⟨by rw [ADB.out]; exact xb 0 _ rfl⟩
      have CB1 : Aside0 (wd2.cell? ⟨(adm.add (bx * 5)).block, (adm.add (bx * 5)).off + 1, none⟩ = some (.int .i64 y.f1)) := ⟨by rw [ADB.out]; exact xb 1 _ rfl⟩
      have CB2 : Aside0 (wd2.cell? ⟨(adm.add (bx * 5)).block, (adm.add (bx * 5)).off + 2, none⟩ = some (.slice B2 y.f2.length d2)) := ⟨by rw [ADB.out]; exact xb 2 _ rfl⟩
      have CB3 : Aside0 (wd2.cell? ⟨(adm.add (bx * 5)).block, (adm.add (bx * 5)).off + 3, none⟩ = some (.slice B3 y.f3.length d3)) := ⟨by rw [ADB.out]; exact xb 3 _ rfl⟩
      have CB4 : Aside0 (wd2.cell? ⟨(adm.add (bx * 5)).block, (adm.add (bx * 5)).off + 4, none⟩ = some (.slice B4 y.f4.length d4)) := ⟨by rw [ADB.out]; exact xb 4 _ rfl⟩
      have FA := am fa
      have FB := am fb
      have OA := am oa
      have OB := am ob
      have HX := am hx
      have HY := am hy
      clear fa fb oa ob xa xb hx hy la lb HXA HXB HN
      go_wp2
      refine start_ (n := 16) (S := fun w' => w'.cell? (adm.add (ax * 5)) = some (.slice A0 x.f0.length c0) ∧ w'.cell? ⟨(adm.add (ax * 5)).block, (adm.add (ax * 5)).off + 1, none⟩ = some (.int .i64 x.f1) ∧ w'.cell? ⟨(adm.add (ax * 5)).block, (adm.add (ax * 5)).off + 2, none⟩ = some (.slice A2 x.f2.length c2) ∧ w'.cell? ⟨(adm.add (ax * 5)).block, (adm.add (ax * 5)).off + 3, none⟩ = some (.slice A3 x.f3.length c3) ∧ w'.cell? ⟨(adm.add (ax * 5)).block, (adm.add (ax * 5)).off + 4, none⟩ = some (.slice A4 x.f4.length c4) ∧ w'.cell? (adm.add (bx * 5)) = some (.slice B0 y.f0.length d0) ∧ w'.cell? ⟨(adm.add (bx * 5)).block, (adm.add (bx * 5)).off + 1, none⟩ = some (.int .i64 y.f1) ∧ w'.cell? ⟨(adm.add (bx * 5)).block, (adm.add (bx * 5)).off + 2, none⟩ = some (.slice B2 y.f2.length d2) ∧ w'.cell? ⟨(adm.add (bx * 5)).block, (adm.add (bx * 5)).off + 3, none⟩ = some (.slice B3 y.f3.length d3) ∧ w'.cell? ⟨(adm.add (bx * 5)).block, (adm.add (bx * 5)).off + 4, none⟩ = some (.slice B4 y.f4.length d4)) (ds := [13, 15]) (bb 16 0) (by kernel_rfl) rfl rfl ⟨CA0.out, CA1.out, CA2.out, CA3.out, CA4.out, CB0.out, CB1.out, CB2.out, CB3.out, CB4.out⟩ (fun hHeld => ?_)
      refine with_tabW hypercubelaw2_CellGroups.tab18 hypercubelaw2_CellGroups.bits18 (fun HT_ HW_ => ?_)
      have HN2' := Kd.N_below HN2.out (below_drew (Below.refl _ _))
      have HS2' := below_step HSW.out (below_drew (Below.refl _ _))
      have FA2 := Kd.FK_below FA.out (below_drew (Below.refl _ _))
      have FB2 := Kd.FK_below FB.out (below_drew (Below.refl _ _))
      refine pu (i := 0) (N := some 99) (bb 16 1) HT_ ?_
      refine pu (i := 1) (N := some 100) (bb 16 3) HT_ ?_
      refine pu (i := 2) (N := some 101) (bb 16 7) HT_ ?_
      refine pu (i := 3) (N := some 102) (bb 16 15) HT_ ?_
      refine pu (i := 4) (N := some 103) (bb 16 31) HT_ ?_
      refine pu (i := 5) (N := some 104) (bb 16 63) HT_ ?_
      refine pu (i := 6) (N := some 105) (bb 16 127) HT_ ?_
      refine pu (i := 8) (N := some 107) (bb 16 383) HT_ ?_
      refine pu (i := 9) (N := some 108) (bb 16 895) HT_ ?_
      refine pu (i := 10) (N := some 109) (bb 16 1919) HT_ ?_
      refine tk (i := 7) (N := some 106) (bb 16 2047) HT_ HW_ hHeld ?_
      refine tk (i := 11) (N := some 110) (bb 16 4095) HT_ HW_ hHeld ?_
      refine pu (i := 12) (N := some 111) (bb 16 8191) HT_ ?_
      refine last_ (i := 13) (N := none) (bb 16 16383) rfl rfl (one_of HT_.out (by kernel_rfl)) (by decide) (fun K hK => ?_)
      refine skip_ (w1 := wd2.drew.setCells gm (ax * 5) [.slice B0 y.f0.length d0, .int .i64 y.f1, .slice B2 y.f2.length d2, .slice B3 y.f3.length d3, .slice B4 y.f4.length d4]) rfl rfl (put_run (t := 30) (p := .tmp 111) (x := .tmp 106) rfl HN2' ax HAL.out rfl (congrArg (fun q => Value.pointer (some q)) ADA.out) rfl rfl (by rfl) OB.out) ?_
      obtain ⟨HN3, HS3, HG3⟩ := N_put HN2' ax HAL.out (seg := [.slice B0 y.f0.length d0, .int .i64 y.f1, .slice B2 y.f2.length d2, .slice B3 y.f3.length d3, .slice B4 y.f4.length d4]) rfl FB2 (fun k hk => hk) HS2'
      have FA3 := Kd.FK_step FA2 (fun k hk hlt => HG3.block k hlt (fun e => hk.2 (Option.some.inj e)))
      refine hK.out _ _ ?_
      clear hK K
      refine pu (i := 14) (N := some 112) (bb 16 32767) HT_ ?_
      refine last_ (i := 15) (N := none) (bb 16 65535) rfl rfl (one_of HT_.out (by kernel_rfl)) (by decide) (fun K hK => ?_)
      refine skip_ (w1 := (wd2.drew.setCells gm (ax * 5) [.slice B0 y.f0.length d0, .int .i64 y.f1, .slice B2 y.f2.length d2, .slice B3 y.f3.length d3, .slice B4 y.f4.length d4]).setCells gm (bx * 5) [.slice A0 x.f0.length c0, .int .i64 x.f1, .slice A2 x.f2.length c2, .slice A3 x.f3.length c3, .slice A4 x.f4.length c4]) rfl rfl (put_run (t := 30) (p := .tmp 112) (x := .tmp 110) rfl HN3 bx HBL.out rfl (congrArg (fun q => Value.pointer (some q)) ADB.out) rfl rfl (by rfl) OA.out) ?_
      obtain ⟨HN5, HB5, _⟩ := N_put HN3 bx HBL.out (seg := [.slice A0 x.f0.length c0, .int .i64 x.f1, .slice A2 x.f2.length c2, .slice A3 x.f3.length c3, .slice A4 x.f4.length c4]) rfl FA3 (fun k hk => hk) HS3
      refine hK.out _ _ ?_
      clear hK K
      refine done_ (done_of HT_.out (by kernel_rfl)) ?_
      have HS2 := am HB5
      go_wp2
      go_roundg k1
      case measure => omega
      case rel => exact ⟨i + 1, by first | rfl | simp [hwi], ⟨by have := HI.out; have := HI2.out; omega, by have := HL0.out; have := HI2.out; rw [if_neg (by omega)]; omega⟩, HS2, ⟨by rw [HADM.out]; simp only [swapsL, swpL]; rw [HOV.out, ← HAX.out, ← HBX.out, ← HX.out, ← HY.out]; exact HN5⟩⟩
    · have hiJ : i = (if l.length = 0 then 0 else min l5.length 40) := by have := HI.out.2; omega
      have hex : (¬ i < l5.length) ∨ (i < l5.length ∧ ¬ i < 40) ∨ (i < l5.length ∧ i < 40 ∧ l.length = 0) := by
        by_cases h1 : i < l5.length
        · by_cases h2 : i < 40
          · refine .inr (.inr ⟨h1, h2, ?_⟩)
            rcases Nat.eq_zero_or_pos l.length with h | h
            · exact h
            · rw [if_neg (by omega)] at hi; omega
          · exact .inr (.inl ⟨h1, h2⟩)
        · exact .inl h1
      have h8 := H8.out
      rw [← hiJ] at h8
      have hlen := swapsL_length l5 l i
      have hn := HN.out
      rw [← hlen] at hn hex ⊢
      have HM := am (Kd.N_reads' hn).2
      generalize swapsL l5 l i = m at *
      have HH8 := am h8
      have HG9 := am (Kd.C_below HG8.out HS.out)
      have HB9 := am (below_step HB8.out HS.out)
      clear hi hn h8 hlen hiJ
      generalize wr = w10 at *
      rcases hex with h | ⟨h, h'⟩ | ⟨h, h', h0⟩
      · have hc1 : decide ((i : Int) < (l5.length : Int)) = false := decide_eq_false (by omega)
        have hc6 : decide (i < l5.length) = false := decide_eq_false h
        clear h
        go_wp2_with (first
        | (go_at_call 26
           (with_reducible refine (cell_Group.calls k A19 c19 m g w10 HM.out.2 HM.out.1 HH8.out).mono ?_)
           rintro e w11 ⟨v11, rfl, ho0, hb⟩
           obtain ⟨A11, c11, rfl⟩ := Kd.S_slice ho0
           have HQ11 := am (Kd.S_reads' ho0).2
           have HG11 := am (Kd.C_below HG9.out hb)
           have HB11 := am (below_step HB9.out hb)
           clear hb ho0)
        | (go_at_call 27
           (with_reducible refine (hypercuberef2_Same.calls k A11 c11 g A17 c17 g true w11 HQ11.out.2 HQ11.out.1 HG11.out HG.out.1 H10.out).mono ?_)
           rintro e w12 ⟨rfl, hb⟩
           have HG12 := am (Kd.C_below HG11.out hb)
           have HB12 := am (below_step HB11.out hb)
           clear hb)
        | (go_at_call 26
           (with_reducible refine (cell_Group.calls k A17 c17 g g w12 HG12.out HG.out.1 H9.out).mono ?_)
           rintro e w13 ⟨v13, rfl, ho0, hb⟩
           obtain ⟨A13, c13, rfl⟩ := Kd.S_slice ho0
           have HQ13 := am (Kd.S_reads' ho0).2
           have HG13 := am (Kd.C_below HG12.out hb)
           have HB13 := am (below_step HB12.out hb)
           clear hb ho0)
        | (go_at_call 27
           (with_reducible refine (hypercuberef2_Same.calls k A13 c13 g A17 c17 g true w13 HQ13.out.2 HQ13.out.1 HG13.out HG.out.1 H10.out).mono ?_)
           rintro e w14 ⟨rfl, hb⟩
           have HB14 := am (below_step HB13.out hb)
           clear hb))
        go_ret
        exact ⟨rfl, HB14.out⟩
      · have hc1 : decide ((i : Int) < (l5.length : Int)) = true := decide_eq_true (by omega)
        have hc6 : decide (i < l5.length) = true := decide_eq_true h
        have hc2 : decide ((i : Int) < 40) = false := decide_eq_false (by omega)
        clear h h'
        go_wp2_with (first
        | (go_at_call 26
           (with_reducible refine (cell_Group.calls k A19 c19 m g w10 HM.out.2 HM.out.1 HH8.out).mono ?_)
           rintro e w11 ⟨v11, rfl, ho0, hb⟩
           obtain ⟨A11, c11, rfl⟩ := Kd.S_slice ho0
           have HQ11 := am (Kd.S_reads' ho0).2
           have HG11 := am (Kd.C_below HG9.out hb)
           have HB11 := am (below_step HB9.out hb)
           clear hb ho0)
        | (go_at_call 27
           (with_reducible refine (hypercuberef2_Same.calls k A11 c11 g A17 c17 g true w11 HQ11.out.2 HQ11.out.1 HG11.out HG.out.1 H10.out).mono ?_)
           rintro e w12 ⟨rfl, hb⟩
           have HG12 := am (Kd.C_below HG11.out hb)
           have HB12 := am (below_step HB11.out hb)
           clear hb)
        | (go_at_call 26
           (with_reducible refine (cell_Group.calls k A17 c17 g g w12 HG12.out HG.out.1 H9.out).mono ?_)
           rintro e w13 ⟨v13, rfl, ho0, hb⟩
           obtain ⟨A13, c13, rfl⟩ := Kd.S_slice ho0
           have HQ13 := am (Kd.S_reads' ho0).2
           have HG13 := am (Kd.C_below HG12.out hb)
           have HB13 := am (below_step HB12.out hb)
           clear hb ho0)
        | (go_at_call 27
           (with_reducible refine (hypercuberef2_Same.calls k A13 c13 g A17 c17 g true w13 HQ13.out.2 HQ13.out.1 HG13.out HG.out.1 H10.out).mono ?_)
           rintro e w14 ⟨rfl, hb⟩
           have HB14 := am (below_step HB13.out hb)
           clear hb))
        go_ret
        exact ⟨rfl, HB14.out⟩
      · have hc1 : decide ((i : Int) < (l5.length : Int)) = true := decide_eq_true (by omega)
        have hc6 : decide (i < l5.length) = true := decide_eq_true h
        have hc2 : decide ((i : Int) < 40) = true := decide_eq_true (by omega)
        have hc3 : decide ((m.length : Int) > 0) = false := decide_eq_false (by omega)
        have hc4 : decide (0 < (m.length : Int)) = false := decide_eq_false (by omega)
        have hc5 : decide (0 < m.length) = false := decide_eq_false (by omega)
        clear h h' h0
        go_wp2_with (first
        | (go_at_call 26
           (with_reducible refine (cell_Group.calls k A19 c19 m g w10 HM.out.2 HM.out.1 HH8.out).mono ?_)
           rintro e w11 ⟨v11, rfl, ho0, hb⟩
           obtain ⟨A11, c11, rfl⟩ := Kd.S_slice ho0
           have HQ11 := am (Kd.S_reads' ho0).2
           have HG11 := am (Kd.C_below HG9.out hb)
           have HB11 := am (below_step HB9.out hb)
           clear hb ho0)
        | (go_at_call 27
           (with_reducible refine (hypercuberef2_Same.calls k A11 c11 g A17 c17 g true w11 HQ11.out.2 HQ11.out.1 HG11.out HG.out.1 H10.out).mono ?_)
           rintro e w12 ⟨rfl, hb⟩
           have HG12 := am (Kd.C_below HG11.out hb)
           have HB12 := am (below_step HB11.out hb)
           clear hb)
        | (go_at_call 26
           (with_reducible refine (cell_Group.calls k A17 c17 g g w12 HG12.out HG.out.1 H9.out).mono ?_)
           rintro e w13 ⟨v13, rfl, ho0, hb⟩
           obtain ⟨A13, c13, rfl⟩ := Kd.S_slice ho0
           have HQ13 := am (Kd.S_reads' ho0).2
           have HG13 := am (Kd.C_below HG12.out hb)
           have HB13 := am (below_step HB12.out hb)
           clear hb ho0)
        | (go_at_call 27
           (with_reducible refine (hypercuberef2_Same.calls k A13 c13 g A17 c17 g true w13 HQ13.out.2 HQ13.out.1 HG13.out HG.out.1 H10.out).mono ?_)
           rintro e w14 ⟨rfl, hb⟩
           have HB14 := am (below_step HB13.out hb)
           clear hb))
        go_ret
        exact ⟨rfl, HB14.out⟩
theorem hypercubelaw2_CellGroups.walk (P : hypercubelaw2_CellGroups.Pure) (a0 : Int) (a1 : Option Addr) (len1 cap1 : Nat) (z1 : List Int) (a2 : Int) (a3 : Option Addr) (len3 cap3 : Nat) (z3 : List Int) (a4 : Int) (a5 : Option Addr) (len5 cap5 : Nat) (z5 : List Int) (w : World) (w0 : (Lit.int .i64 a0).wf = true) (w1 : (a1 = none ∧ len1 = 0 ∧ cap1 = 0 ∧ z1 = []) ∨ ∃ x, a1 = some x ∧ len1 ≤ cap1 ∧ cap1 ≤ maxLen ∧ z1.length = cap1 ∧ (∀ i, i < z1.length → w.cell? (x.add i) = some (.int .i64 (z1.getD i 0))) ∧ ∀ n ∈ z1, (Lit.int .i64 n).wf = true) (y1 : len1 * 8 ≤ 140737488351232) (w2 : (Lit.int .i64 a2).wf = true) (w3 : (a3 = none ∧ len3 = 0 ∧ cap3 = 0 ∧ z3 = []) ∨ ∃ x, a3 = some x ∧ len3 ≤ cap3 ∧ cap3 ≤ maxLen ∧ z3.length = cap3 ∧ (∀ i, i < z3.length → w.cell? (x.add i) = some (.int .i64 (z3.getD i 0))) ∧ ∀ n ∈ z3, (Lit.int .i64 n).wf = true) (y3 : len3 * 8 ≤ 140737488351232) (w4 : (Lit.int .i64 a4).wf = true) (w5 : (a5 = none ∧ len5 = 0 ∧ cap5 = 0 ∧ z5 = []) ∨ ∃ x, a5 = some x ∧ len5 ≤ cap5 ∧ cap5 ≤ maxLen ∧ z5.length = cap5 ∧ (∀ i, i < z5.length → w.cell? (x.add i) = some (.int .i64 (z5.getD i 0))) ∧ ∀ n ∈ z5, (Lit.int .i64 n).wf = true) (y5 : len5 * 8 ≤ 140737488351232) :
  Calls Try.prog 5 #[.int .i64 a0, .slice a1 len1 cap1, .int .i64 a2, .slice a3 len3 cap3, .int .i64 a4, .slice a5 len5 cap5] w fun e w' => e = .returned (.bool true) ∧ Below w.heap.size w w' := by
 obtain ⟨l1, rfl, hr1, hm1, hw1, hc1⟩ := ReadsInt.ofRowC w1
 obtain ⟨l3, rfl, hr3, hm3, hw3, hc3⟩ := ReadsInt.ofRowC w3
 obtain ⟨l5, rfl, hr5, hm5, hw5, hc5⟩ := ReadsInt.ofRowC w5
 obtain ⟨k, cards, meas, rows, s, l, g, h1, h2, h3, h4, h5, h6, h7, h8, h9, h10, h11⟩ := P a0 l1 a2 l3 a4 l5 w0 hm1 y1 hw1 w2 hm3 y3 hw3 w4 hm5 y5 hw5
 exact hypercubelaw2_CellGroups.calls k a0 _ _ l1 a2 _ _ l3 a4 _ _ l5 w (Kd.C_of_reads (d := (0 : Int)) (h1 := fun _ => rfl) hr1) hc1 (Kd.C_of_reads (d := (0 : Int)) (h1 := fun _ => rfl) hr3) hc3 (Kd.C_of_reads (d := (0 : Int)) (h1 := fun _ => rfl) hr5) hc5 h1 h2 h3 h4 h5 h6 h7 h8 h9 h10 h11
theorem w64 {x : Int} (h0 : -9223372036854775808 ≤ x) (h1 : x ≤ 9223372036854775807) : wrap64 x = x := by unfold wrap64; omega
theorem w64s {i n : Nat} (h : i < n) (hn : n ≤ 4611686018427387904) : wrap64 ((i : Int) + 1) = ((i + 1 : Nat) : Int) := by unfold wrap64; omega
theorem within2_eq (a n : Int) (h0 : 0 < n) (h1 : n ≤ 4611686018427387904) : hypercubelaw2_within.f a n = some (a % n) := by
 unfold hypercubelaw2_within.f
 rw [if_neg (by omega)]
 have hb := Int.emod_nonneg a (show n ≠ 0 by omega)
 have hl := Int.emod_lt_of_pos a h0
 by_cases ha : 0 ≤ a
 ·rw [Int.tmod_eq_emod_of_nonneg ha, if_neg (by omega)]
 ·have ht : Int.tmod a n = if a % n = 0 then 0 else a % n - n := by
   rw [Int.tmod_eq_emod]
   split
   ·rename_i h
    rcases h with h | h
    ·omega
    ·rw [Int.emod_eq_zero_of_dvd h]; simp
   ·rename_i h
    have : a % n ≠ 0 := fun e => h (.inr (Int.dvd_of_emod_eq_zero e))
    rw [if_neg this, Int.natAbs_of_nonneg (by omega)]
  by_cases hz : a % n = 0
  ·rw [ht, if_pos hz, if_neg (by omega), hz]
  ·rw [ht, if_neg hz, if_pos (by omega)]
   congr 1
   rw [w64 (by omega) (by omega)]
   omega
theorem rd_get {l : List Int} {i : Nat} (h : i < l.length) : rd l (i : Int) = l[i] := by simp [rd, List.getD_eq_getElem?_getD, h]
theorem drop_cons {α : Type} {l : List α} {i : Nat} (h : i < l.length) : l.drop i = l[i] :: l.drop (i + 1) := List.drop_eq_getElem_cons h
theorem dec_cons_eq {α : Type} [DecidableEq α] {x y : α} (l l' : List α) (h : x = y) : decide (x :: l = y :: l') = decide (l = l') := by subst h; simp
theorem dec_cons_ne {α : Type} [DecidableEq α] {x y : α} (l l' : List α) (h : ¬ x = y) : decide (x :: l = y :: l') = false := by simp [h]
theorem ints_l0 (a b : List Int) (hl : a.length = b.length) (hn : a.length ≤ 4611686018427387904) (d : Nat) : ∀ i : Nat, a.length - i = d → i ≤ a.length →
  Ev (fun k => hypercuberef1_Ints.l0 k a b (i : Int)) (decide (a.drop i = b.drop i)) := by
 induction d with
 | zero =>
  intro i hd hi
  have e1 : a.drop i = [] := List.drop_eq_nil_of_le (by omega)
  have e2 : b.drop i = [] := List.drop_eq_nil_of_le (by omega)
  rw [e1, e2]
  exact Ev.step (fun k => by simp only [hypercuberef1_Ints.l0]; rw [if_neg (by omega)]; rfl) (Ev.now _)
 | succ d ih =>
  intro i hd hi
  have ha : i < a.length := by omega
  have hb : i < b.length := by omega
  rw [drop_cons ha, drop_cons hb]
  by_cases he : a[i] = b[i]
  ·rw [dec_cons_eq _ _ he]
   exact Ev.step (fun k => by simp only [hypercuberef1_Ints.l0]; rw [if_pos (by omega), if_pos (by omega), if_pos (by omega), rd_get ha, rd_get hb, if_pos he, w64s ha hn]) (ih (i + 1) (by omega) (by omega))
  ·rw [dec_cons_ne _ _ he]
   exact Ev.step (fun k => by simp only [hypercuberef1_Ints.l0]; rw [if_pos (by omega), if_pos (by omega), if_pos (by omega), rd_get ha, rd_get hb, if_neg he]) (Ev.now _)
theorem ints_ev (a b : List Int) (hn : a.length ≤ 4611686018427387904) : Ev (fun k => hypercuberef1_Ints.f k a b) (decide (a = b)) := by
 by_cases hl : a.length = b.length
 ·have h := ints_l0 a b hl hn a.length 0 (by omega) (by omega)
  simp only [List.drop_zero] at h
  exact Ev.congr (fun k => by unfold hypercuberef1_Ints.f; rw [if_pos (by omega)]; rfl) h
 ·have : decide (a = b) = false := by
   rw [decide_eq_false_iff_not]; intro e; exact hl (by rw [e])
  rw [this]
  exact Ev.congr (fun k => by unfold hypercuberef1_Ints.f; rw [if_neg (by omega)]) (Ev.now _)
def lexC : List Int → List Int → Int
 | [], [] => 0
 | [], _ :: _ => -1
 | _ :: _, [] => 1
 | x :: xs, y :: ys => if x < y then -1 else if x > y then 1 else lexC xs ys
theorem lexC_nil_right (a : List Int) (h : a ≠ []) : lexC a [] = 1 := by cases a with
 | nil => exact absurd rfl h
 | cons => rfl
theorem lexC_nil_left (a : List Int) (h : a ≠ []) : lexC [] a = -1 := by cases a with
 | nil => exact absurd rfl h
 | cons => rfl
theorem lexC_swap : ∀ a b : List Int, lexC b a = 0 - lexC a b
 | [], [] => rfl
 | [], _ :: _ => rfl
 | _ :: _, [] => rfl
 | x :: xs, y :: ys => by
  have ih := lexC_swap xs ys
  unfold lexC
  repeat' split
  all_goals omega
theorem lexC_zero : ∀ a b : List Int, lexC a b = 0 ↔ a = b
 | [], [] => by simp [lexC]
 | [], _ :: _ => by simp [lexC]
 | _ :: _, [] => by simp [lexC]
 | x :: xs, y :: ys => by
  unfold lexC
  by_cases h1 : x < y
  ·rw [if_pos h1]; simp; omega
  ·by_cases h2 : x > y
   ·rw [if_neg h1, if_pos h2]; simp; omega
   ·rw [if_neg h1, if_neg h2]
    have : x = y := by omega
    subst this
    simp [lexC_zero xs ys]
theorem lexC_trans : ∀ a b c : List Int, lexC a b ≤ 0 → lexC b c ≤ 0 → lexC a c ≤ 0
 | [], _, [] => by simp [lexC]
 | [], _, _ :: _ => by simp [lexC]
 | _ :: _, [], _ => by simp [lexC]
 | _ :: _, _ :: _, [] => by simp [lexC]
 | x :: xs, y :: ys, z :: zs => by
  intro h1 h2
  unfold lexC at h1 h2 ⊢
  have ih := lexC_trans xs ys zs
  by_cases a1 : x < y
  ·by_cases a2 : y < z
   ·rw [if_pos (by omega)]; omega
   ·rw [if_neg a2] at h2
    by_cases a3 : y > z
    ·rw [if_pos a3] at h2; omega
    ·rw [if_pos (by omega)]; omega
  ·rw [if_neg a1] at h1
   by_cases a3 : x > y
   ·rw [if_pos a3] at h1; omega
   ·rw [if_neg a3] at h1
    by_cases a2 : y < z
    ·rw [if_pos (by omega)]; omega
    ·rw [if_neg a2] at h2
     by_cases a4 : y > z
     ·rw [if_pos a4] at h2; omega
     ·rw [if_neg a4] at h2
      rw [if_neg (by omega), if_neg (by omega)]
      exact ih h1 h2
theorem compare_eq (x y : Int) : cmp_Compare_int.f x y = some (if x < y then -1 else if x > y then 1 else 0) := by
 unfold cmp_Compare_int.f cmp_isNaN_int.f
 simp
 by_cases h1 : x < y
 ·simp [h1]
 ·by_cases h2 : y < x
  ·simp [h1, h2]
  ·simp [h1, h2]
theorem less_l0 (a b : List Int) (hn : a.length ≤ 4611686018427387904) (d : Nat) : ∀ i : Nat, a.length - i = d → i ≤ a.length → (i ≤ b.length) →
  Ev (fun k => slices_Compare_int_int.l0 k a b a (a.length : Int) (i : Int)) (lexC (a.drop i) (b.drop i)) := by
 induction d with
 | zero =>
  intro i hd hi hib
  have e1 : a.drop i = [] := List.drop_eq_nil_of_le (by omega)
  rw [e1]
  by_cases hb : i < b.length
  ·rw [lexC_nil_left _ (by rw [drop_cons hb]; exact List.cons_ne_nil _ _)]
   exact Ev.step (fun k => by simp only [slices_Compare_int_int.l0]; rw [if_neg (by omega), if_pos (by omega)]) (Ev.now _)
  ·have e2 : b.drop i = [] := List.drop_eq_nil_of_le (by omega)
   rw [e2]
   exact Ev.step (fun k => by simp only [slices_Compare_int_int.l0]; rw [if_neg (by omega), if_neg (by omega)]; rfl) (Ev.now _)
 | succ d ih =>
  intro i hd hi hib
  have ha : i < a.length := by omega
  by_cases hb : i < b.length
  ·rw [drop_cons ha, drop_cons hb]
   have h1 : ∀ k, slices_Compare_int_int.l0 (k + 1) a b a (a.length : Int) (i : Int) = (if (if a[i] < b[i] then (-1 : Int) else if a[i] > b[i] then 1 else 0) = 0 then slices_Compare_int_int.l0 k a b a (a.length : Int) ((i + 1 : Nat) : Int) else some (if a[i] < b[i] then (-1 : Int) else if a[i] > b[i] then 1 else 0)) := fun k => by
    simp only [slices_Compare_int_int.l0]
    rw [if_pos (by omega), if_pos (by omega), if_pos (by omega), if_neg (by omega), if_pos (by omega), rd_get ha, rd_get hb, compare_eq, Option.bind_some, w64s ha hn]
   unfold lexC
   by_cases c1 : a[i] < b[i]
   ·rw [if_pos c1]
    exact Ev.step (fun k => by rw [h1, if_pos c1, if_neg (by omega)]) (Ev.now _)
   ·by_cases c2 : a[i] > b[i]
    ·rw [if_neg c1, if_pos c2]
     exact Ev.step (fun k => by rw [h1, if_neg c1, if_pos c2, if_neg (by omega)]) (Ev.now _)
    ·rw [if_neg c1, if_neg c2]
     exact Ev.step (fun k => by rw [h1, if_neg c1, if_neg c2, if_pos rfl]) (ih (i + 1) (by omega) (by omega) (by omega))
  ·have e2 : b.drop i = [] := List.drop_eq_nil_of_le (by omega)
   rw [e2, lexC_nil_right _ (by rw [drop_cons ha]; exact List.cons_ne_nil _ _)]
   exact Ev.step (fun k => by simp only [slices_Compare_int_int.l0]; rw [if_pos (by omega), if_pos (by omega), if_pos (by omega), if_pos (by omega)]) (Ev.now _)
theorem cell_less_ev (a b : List Int) (hn : a.length ≤ 4611686018427387904) : Ev (fun k => cell_Less.f k a b) (lexC a b) := by
 have h := less_l0 a b hn a.length 0 (by omega) (by omega) (by omega)
 simp only [List.drop_zero] at h
 have h2 : Ev (fun k => slices_Compare_int_int.f k a b) (lexC a b) := Ev.congr (fun k => by unfold slices_Compare_int_int.f; rfl) h
 exact Ev.congr (fun k => by unfold cell_Less.f; rfl) (Ev.bind h2 (Ev.now _))
theorem ref_less_l0 (a b : List Int) (hn : a.length ≤ 4611686018427387904) (d : Nat) : ∀ i : Nat, a.length - i = d → i ≤ a.length → i ≤ b.length →
  Ev (fun k => hypercuberef2_Less.l0 k a b (i : Int)) (lexC (a.drop i) (b.drop i)) := by
 have hend : ∀ i : Nat, i ≤ a.length → i ≤ b.length → ¬ (i < a.length ∧ i < b.length) → Ev (fun k => hypercuberef2_Less.j1 k a b (i : Int) false) (lexC (a.drop i) (b.drop i)) := by
  intro i hi hib hno
  by_cases ha : i < a.length
  ·have hb : b.drop i = [] := List.drop_eq_nil_of_le (by omega)
   rw [hb, lexC_nil_right _ (by rw [drop_cons ha]; exact List.cons_ne_nil _ _)]
   exact Ev.step (fun k => by simp only [hypercuberef2_Less.j1]; rw [if_neg (by simp), if_neg (by omega), if_pos (by omega)]) (Ev.now _)
  ·have ha' : a.drop i = [] := List.drop_eq_nil_of_le (by omega)
   rw [ha']
   by_cases hb : i < b.length
   ·rw [lexC_nil_left _ (by rw [drop_cons hb]; exact List.cons_ne_nil _ _)]
    exact Ev.step (fun k => by simp only [hypercuberef2_Less.j1]; rw [if_neg (by simp), if_pos (by omega)]) (Ev.now _)
   ·have hb' : b.drop i = [] := List.drop_eq_nil_of_le (by omega)
    rw [hb']
    exact Ev.step (fun k => by simp only [hypercuberef2_Less.j1]; rw [if_neg (by simp), if_neg (by omega), if_neg (by omega)]; rfl) (Ev.now _)
 induction d with
 | zero =>
  intro i hd hi hib
  exact Ev.step (fun k => by simp only [hypercuberef2_Less.l0]; rw [if_neg (by omega)]) (hend i hi hib (by omega))
 | succ d ih =>
  intro i hd hi hib
  have ha : i < a.length := by omega
  by_cases hb : i < b.length
  ·rw [drop_cons ha, drop_cons hb]
   refine Ev.step (f := fun k => hypercuberef2_Less.j1 k a b (i : Int) true) (fun k => by simp only [hypercuberef2_Less.l0]; rw [if_pos (by omega), show decide ((i : Int) < (b.length : Int)) = true from decide_eq_true (by omega)]) ?_
   have h1 : ∀ k, hypercuberef2_Less.j1 (k + 1) a b (i : Int) true = (if a[i] < b[i] then some (-1) else if a[i] > b[i] then some 1 else hypercuberef2_Less.l0 k a b ((i + 1 : Nat) : Int)) := fun k => by
    simp only [hypercuberef2_Less.j1]
    rw [if_pos trivial, if_pos (by omega), if_pos (by omega), if_pos (by omega), rd_get ha, rd_get hb, w64s ha hn]
   unfold lexC
   by_cases c1 : a[i] < b[i]
   ·rw [if_pos c1]
    exact Ev.step (fun k => by rw [h1, if_pos c1]) (Ev.now _)
   ·by_cases c2 : a[i] > b[i]
    ·rw [if_neg c1, if_pos c2]
     exact Ev.step (fun k => by rw [h1, if_neg c1, if_pos c2]) (Ev.now _)
    ·rw [if_neg c1, if_neg c2]
     exact Ev.step (fun k => by rw [h1, if_neg c1, if_neg c2]) (ih (i + 1) (by omega) (by omega) (by omega))
  ·exact Ev.step (fun k => by simp only [hypercuberef2_Less.l0]; rw [if_pos (by omega), show decide ((i : Int) < (b.length : Int)) = false from decide_eq_false (by omega)]) (hend i hi hib (by omega))
theorem ref_less_ev (a b : List Int) (hn : a.length ≤ 4611686018427387904) : Ev (fun k => hypercuberef2_Less.f k a b) (lexC a b) := by
 have h := ref_less_l0 a b hn a.length 0 (by omega) (by omega) (by omega)
 simp only [List.drop_zero] at h
 exact Ev.congr (fun k => by unfold hypercuberef2_Less.f; rfl) h
theorem clone_eq (l : List Int) (h : l.length ≤ 1000000) : slices_Clone_int_int.f l = some l := by
 unfold slices_Clone_int_int.f
 rw [if_pos (by omega)]
theorem rdC_get {l : List S30} {i : Nat} (h : i < l.length) : rd_T30 l (i : Int) = l[i] := by simp [rd_T30, List.getD_eq_getElem?_getD, h]
theorem both_gen (op : Int → Int → Int) (L : Nat → List Int → List Int → List Int → Int → Int → Option (List Int))
  (h : ∀ k x1 x7 x10 x11 x12, L (k + 1) x1 x7 x10 x11 x12 = if x12 < x11 then (if 0 ≤ x12 then (if x12 < (x10.length : Int) then (if x12 < (x1.length : Int) then (if x7.length < 17592186044416 then (L k x1 (x7 ++ [op (rd x10 x12) (rd x1 x12)]) x10 x11 (wrap64 (x12 + 1))) else (none)) else (L k x1 x7 x10 x11 (wrap64 (x12 + 1)))) else (none)) else (none)) else ((slices_Clone_int_int.f x7).bind fun t => (some t)))
  (a b : List Int) (ha : a.length ≤ 100000) (d : Nat) : ∀ (i : Nat) (acc : List Int), a.length - i = d → i ≤ a.length → acc.length ≤ i →
  Ev (fun k => L k b acc a (a.length : Int) (i : Int)) (acc ++ List.zipWith op (a.drop i) (b.drop i)) := by
 induction d with
 | zero =>
  intro i acc hd hi hacc
  have e1 : a.drop i = [] := List.drop_eq_nil_of_le (by omega)
  rw [e1, List.zipWith_nil_left, List.append_nil]
  exact Ev.step (f := fun _ => some acc) (fun k => by rw [h, if_neg (by omega), clone_eq _ (by omega)]; rfl) (Ev.now _)
 | succ d ih =>
  intro i acc hd hi hacc
  have hia : i < a.length := by omega
  by_cases hib : i < b.length
  ·rw [drop_cons hia, drop_cons hib, List.zipWith_cons_cons]
   have := ih (i + 1) (acc ++ [op a[i] b[i]]) (by omega) (by omega) (by simp; omega)
   rw [List.append_assoc, List.singleton_append] at this
   exact Ev.step (fun k => by rw [h, if_pos (by omega), if_pos (by omega), if_pos (by omega), if_pos (by omega), if_pos (by omega), rd_get hia, rd_get hib, w64s hia (by omega)]) this
  ·have e2 : b.drop i = [] := List.drop_eq_nil_of_le (by omega)
   have e3 : b.drop (i + 1) = [] := List.drop_eq_nil_of_le (by omega)
   have := ih (i + 1) acc (by omega) (by omega) (by omega)
   rw [e3, List.zipWith_nil_right] at this
   rw [e2, List.zipWith_nil_right]
   exact Ev.step (fun k => by rw [h, if_pos (by omega), if_pos (by omega), if_pos (by omega), if_neg (by omega), w64s hia (by omega)]) this
theorem both1_ev (a b : List Int) (ha : a.length ≤ 100000) : Ev (fun k => cell_both_J1.f k a b) (List.zipWith (fun x y => wrap64 (x + y)) a b) := by
 have := both_gen (fun x y => wrap64 (x + y)) cell_both_J1.l0 (fun k x1 x7 x10 x11 x12 => by simp only [cell_both_J1.l0, cell_Join_1.f, Option.bind_some]) a b ha a.length 0 [] (by omega) (by omega) (by simp)
 simp only [List.drop_zero, List.nil_append] at this
 exact this
theorem both2_ev (a b : List Int) (ha : a.length ≤ 100000) : Ev (fun k => cell_both_J2.f k a b) (List.zipWith mn a b) := by
 have := both_gen mn cell_both_J2.l0 (fun k x1 x7 x10 x11 x12 => by simp only [cell_both_J2.l0, cell_Join_2.f, Option.bind_some]) a b ha a.length 0 [] (by omega) (by omega) (by simp)
 simp only [List.drop_zero, List.nil_append] at this
 exact this
theorem both3_ev (a b : List Int) (ha : a.length ≤ 100000) : Ev (fun k => cell_both_J3.f k a b) (List.zipWith mx a b) := by
 have := both_gen mx cell_both_J3.l0 (fun k x1 x7 x10 x11 x12 => by simp only [cell_both_J3.l0, cell_Join_3.f, Option.bind_some]) a b ha a.length 0 [] (by omega) (by omega) (by simp)
 simp only [List.drop_zero, List.nil_append] at this
 exact this
def joinC (a b : S30) : S30 := ⟨a.f0, wrap64 (a.f1 + b.f1), List.zipWith (fun x y => wrap64 (x + y)) a.f2 b.f2, List.zipWith mn a.f3 b.f3, List.zipWith mx a.f4 b.f4⟩
def SmallC (c : S30) : Prop := c.f0.length ≤ 100000 ∧ c.f2.length ≤ 100000 ∧ c.f3.length ≤ 100000 ∧ c.f4.length ≤ 100000
def tupC (c : S30) : List Int × Int × List Int × List Int × List Int := (c.f0, c.f1, c.f2, c.f3, c.f4)
theorem join_ev (a b : S30) (ha : SmallC a) : Ev (fun k => cell_Join.f k a.f0 a.f1 a.f2 a.f3 a.f4 b.f0 b.f1 b.f2 b.f3 b.f4) (tupC (joinC a b)) := by
 obtain ⟨h0, h2, h3, h4⟩ := ha
 refine Ev.congr (f := fun k => (cell_both_J1.f k a.f2 b.f2).bind fun t140 => ((cell_both_J2.f k a.f3 b.f3).bind fun t143 => ((cell_both_J3.f k a.f4 b.f4).bind fun t146 => (some (a.f0, wrap64 (a.f1 + b.f1), t140, t143, t146))))) (fun k => by unfold cell_Join.f; rw [clone_eq _ (by omega), Option.bind_some]) ?_
 exact Ev.bind (both1_ev _ _ h2) (Ev.bind (both2_ev _ _ h3) (Ev.bind (both3_ev _ _ h4) (Ev.now _)))
theorem own_eq (c : S30) (h : SmallC c) : cell_own.f c.f0 c.f1 c.f2 c.f3 c.f4 = some (tupC c) := by
 obtain ⟨h0, h2, h3, h4⟩ := h
 unfold cell_own.f
 rw [clone_eq _ (by omega), clone_eq _ (by omega), clone_eq _ (by omega), clone_eq _ (by omega)]
 rfl
theorem joinC_small {a b : S30} (h : SmallC a) : SmallC (joinC a b) := by
 obtain ⟨h0, h2, h3, h4⟩ := h
 refine ⟨h0, ?_, ?_, ?_⟩ <;> (simp only [joinC, List.length_zipWith]; omega)
def putL (x : S30) : List S30 → List S30
 | [] => [x]
 | y :: ys => if lexC y.f0 x.f0 < 0 then y :: putL x ys else if lexC y.f0 x.f0 = 0 then joinC y x :: ys else x :: y :: ys
def groupL (l : List S30) : List S30 := l.foldl (fun acc x => putL x acc) []
def SortedC (l : List S30) : Prop := l.Pairwise fun a b => lexC a.f0 b.f0 < 0
theorem lexC_lt_trans {a b c : List Int} (h1 : lexC a b < 0) (h2 : lexC b c < 0) : lexC a c < 0 := by
 have h := lexC_trans a b c (by omega) (by omega)
 by_cases e : lexC a c = 0
 ·rw [lexC_zero] at e
  subst e
  have := lexC_swap a b
  omega
 ·omega
theorem putL_keys (x : S30) : ∀ (l : List S30) (z : S30), z ∈ putL x l → z.f0 = x.f0 ∨ ∃ y ∈ l, z.f0 = y.f0
 | [], z, h => by simp [putL] at h; exact .inl (by rw [h])
 | y :: ys, z, h => by
  unfold putL at h
  split at h
  ·rcases List.mem_cons.1 h with h | h
   ·exact .inr ⟨y, by simp, by rw [h]⟩
   ·rcases putL_keys x ys z h with h | ⟨q, hq, he⟩
    ·exact .inl h
    ·exact .inr ⟨q, List.mem_cons_of_mem _ hq, he⟩
  ·split at h
   ·rcases List.mem_cons.1 h with h | h
    ·exact .inr ⟨y, by simp, by rw [h]; rfl⟩
    ·exact .inr ⟨z, List.mem_cons_of_mem _ h, rfl⟩
   ·rcases List.mem_cons.1 h with h | h
    ·exact .inl (by rw [h])
    ·exact .inr ⟨z, h, rfl⟩
theorem putL_sorted (x : S30) : ∀ (l : List S30), SortedC l → SortedC (putL x l)
 | [], _ => by simp [putL, SortedC]
 | y :: ys, h => by
  obtain ⟨h1, h2⟩ := List.pairwise_cons.1 h
  unfold putL
  split
  ·rename_i c1
   refine List.pairwise_cons.2 ⟨fun z hz => ?_, putL_sorted x ys h2⟩
   rcases putL_keys x ys z hz with e | ⟨q, hq, e⟩
   ·rw [e]; exact c1
   ·rw [e]; exact h1 q hq
  ·rename_i c1
   split
   ·exact List.pairwise_cons.2 ⟨h1, h2⟩
   ·rename_i c2
    have hlt : lexC x.f0 y.f0 < 0 := by rw [lexC_swap]; omega
    refine List.pairwise_cons.2 ⟨fun z hz => ?_, h⟩
    rcases List.mem_cons.1 hz with e | e
    ·rw [e]; exact hlt
    ·exact lexC_lt_trans hlt (h1 z e)
theorem putL_small (x : S30) (hx : SmallC x) : ∀ (l : List S30), (∀ y ∈ l, SmallC y) → ∀ y ∈ putL x l, SmallC y
 | [], _, y, h => by simp [putL] at h; rw [h]; exact hx
 | z :: zs, hl, y, h => by
  have hz := hl z (by simp)
  have hzs := fun y h => hl y (List.mem_cons_of_mem _ h)
  unfold putL at h
  split at h
  ·rcases List.mem_cons.1 h with h | h
   ·rw [h]; exact hz
   ·exact putL_small x hx zs hzs y h
  ·split at h
   ·rcases List.mem_cons.1 h with h | h
    ·rw [h]; exact joinC_small hz
    ·exact hzs y h
   ·rcases List.mem_cons.1 h with h | h
    ·rw [h]; exact hx
    ·exact hl y h
theorem putL_length (x : S30) : ∀ (l : List S30), (putL x l).length ≤ l.length + 1
 | [] => by simp [putL]
 | y :: ys => by
  unfold putL
  have := putL_length x ys
  split
  ·simp; omega
  ·split <;> simp
theorem putL_at (x : S30) : ∀ (p : Nat) (l : List S30), p ≤ l.length → (∀ m (h : m < l.length), m < p → lexC (l[m]).f0 x.f0 < 0) → (∀ (h : p < l.length), 0 ≤ lexC (l[p]).f0 x.f0) →
  putL x l = if h : p < l.length then (if lexC (l[p]).f0 x.f0 = 0 then l.set p (joinC l[p] x) else l.take p ++ x :: l.drop p) else l.take p ++ x :: l.drop p
 | 0, [], _, _, _ => by simp [putL]
 | 0, y :: ys, _, _, h2 => by
  have := h2 (by simp)
  simp only [List.getElem_cons_zero] at this
  unfold putL
  rw [if_neg (by omega)]
  simp only [List.length_cons, Nat.zero_lt_succ, dite_true, List.getElem_cons_zero, List.set_cons_zero, List.take_zero, List.drop_zero, List.nil_append]
 | p + 1, [], h, _, _ => by simp at h
 | p + 1, y :: ys, hp, h1, h2 => by
  have hy := h1 0 (by simp) (by omega)
  simp only [List.getElem_cons_zero] at hy
  have ih := putL_at x p ys (by simpa using hp) (fun m h hm => by have := h1 (m + 1) (by simpa using h) (by omega); simpa using this) (fun h => by have := h2 (by simpa using h); simpa using this)
  unfold putL
  rw [if_pos hy, ih]
  by_cases hlt : p < ys.length
  ·rw [dif_pos hlt, dif_pos (by simpa using hlt)]
   simp only [List.getElem_cons_succ, List.set_cons_succ, List.take_succ_cons, List.drop_succ_cons, List.cons_append]
   split <;> rfl
  ·rw [dif_neg hlt, dif_neg (by simpa using hlt)]
   simp
theorem wrap_mid (i j : Nat) (h : i + j ≤ 4000000) : wrap64 ((IntKind.u64.wrap (wrap64 ((i : Int) + (j : Int)))) / 2) = (((i + j) / 2 : Nat) : Int) := by
 have h1 : wrap64 ((i : Int) + (j : Int)) = ((i + j : Nat) : Int) := by rw [w64 (by omega) (by omega)]; omega
 have h2 : IntKind.u64.wrap ((i + j : Nat) : Int) = ((i + j : Nat) : Int) := by
  have e : IntKind.u64.wrap ((i + j : Nat) : Int) = ((i + j : Nat) : Int) % 18446744073709551616 := rfl
  rw [e]
  omega
 rw [h1, h2, w64 (by omega) (by omega)]
 omega
theorem bsf_l0 (xs : List S30) (x : S30) (hn : xs.length ≤ 1000000) (hs : ∀ y ∈ xs, SmallC y) (p : Nat) (hp : p ≤ xs.length) (h1 : ∀ m (h : m < xs.length), m < p → lexC (xs[m]).f0 x.f0 < 0) (h2 : ∀ m (h : m < xs.length), p ≤ m → 0 ≤ lexC (xs[m]).f0 x.f0) (d : Nat) :
  ∀ i j : Nat, j - i ≤ d → i ≤ p → p ≤ j → j ≤ xs.length → Ev (fun k => bsf_G1.l0 k xs (xs.length : Int) (i : Int) (j : Int) x.f0 x.f1 x.f2 x.f3 x.f4) ((p : Int), if h : p < xs.length then lexC (xs[p]).f0 x.f0 == 0 else false) := by
 have hcmp : ∀ m (h : m < xs.length), Ev (fun k => cell_Group_1.f k (xs[m]).f0 (xs[m]).f1 (xs[m]).f2 (xs[m]).f3 (xs[m]).f4 x.f0 x.f1 x.f2 x.f3 x.f4) (lexC (xs[m]).f0 x.f0) := fun m h => by
  refine Ev.congr (f := fun k => (cell_Less.f k (xs[m]).f0 x.f0).bind fun t => some t) (fun k => rfl) ?_
  exact Ev.bind (cell_less_ev _ _ (by have := (hs _ (List.getElem_mem h)).1; omega)) (Ev.now _)
 induction d with
 | zero =>
  intro i j hd hip hpj hjn
  have e1 : i = p := by omega
  have e2 : j = p := by omega
  rw [e1, e2]
  by_cases hlt : p < xs.length
  ·rw [dif_pos hlt]
   refine Ev.step (f := fun k => (cell_Group_1.f k (xs[p]).f0 (xs[p]).f1 (xs[p]).f2 (xs[p]).f3 (xs[p]).f4 x.f0 x.f1 x.f2 x.f3 x.f4).bind fun t => some ((p : Int), t == 0)) (fun k => by simp only [bsf_G1.l0]; rw [if_neg (by omega), if_pos (by omega), if_pos (by omega), if_pos (by omega), rdC_get hlt]) (Ev.bind (hcmp p hlt) (Ev.now _))
  ·rw [dif_neg hlt]
   exact Ev.step (f := fun _ => some ((p : Int), false)) (fun k => by simp only [bsf_G1.l0]; rw [if_neg (by omega), if_neg (by omega)]) (Ev.now _)
 | succ d ih =>
  intro i j hd hip hpj hjn
  by_cases hij : i < j
  ·have hh : (i + j) / 2 < xs.length := by omega
   have hstep : ∀ k, bsf_G1.l0 (k + 1) xs (xs.length : Int) (i : Int) (j : Int) x.f0 x.f1 x.f2 x.f3 x.f4 = (cell_Group_1.f k (xs[(i + j) / 2]).f0 (xs[(i + j) / 2]).f1 (xs[(i + j) / 2]).f2 (xs[(i + j) / 2]).f3 (xs[(i + j) / 2]).f4 x.f0 x.f1 x.f2 x.f3 x.f4).bind fun t => if t < 0 then bsf_G1.l0 k xs (xs.length : Int) (((i + j) / 2 + 1 : Nat) : Int) (j : Int) x.f0 x.f1 x.f2 x.f3 x.f4 else bsf_G1.l0 k xs (xs.length : Int) (i : Int) (((i + j) / 2 : Nat) : Int) x.f0 x.f1 x.f2 x.f3 x.f4 := fun k => by
    simp only [bsf_G1.l0]
    rw [if_pos (by omega), wrap_mid i j (by omega), if_pos (by omega), if_pos (by omega), rdC_get hh, w64s hh (by omega)]
   refine Ev.step hstep ?_
   by_cases hlt : (i + j) / 2 < p
   ·have c := h1 _ hh hlt
    exact Ev.bind (hcmp _ hh) (Ev.congr (fun k => by rw [if_pos c]) (ih ((i + j) / 2 + 1) j (by omega) (by omega) hpj hjn))
   ·have c := h2 _ hh (by omega)
    exact Ev.bind (hcmp _ hh) (Ev.congr (fun k => by rw [if_neg (by omega)]) (ih i ((i + j) / 2) (by omega) hip (by omega) (by omega)))
  ·exact ih i j (by omega) hip hpj hjn
theorem place (x : S30) : ∀ (l : List S30), SortedC l → ∃ p, p ≤ l.length ∧ (∀ m (h : m < l.length), m < p → lexC (l[m]).f0 x.f0 < 0) ∧ (∀ m (h : m < l.length), p ≤ m → 0 ≤ lexC (l[m]).f0 x.f0)
 | [], _ => ⟨0, by simp, fun m h => by simp at h, fun m h => by simp at h⟩
 | y :: ys, hs => by
  obtain ⟨h1, h2⟩ := List.pairwise_cons.1 hs
  by_cases c : lexC y.f0 x.f0 < 0
  ·obtain ⟨p, hp, a, b⟩ := place x ys h2
   refine ⟨p + 1, by simpa using hp, fun m h hm => ?_, fun m h hm => ?_⟩
   ·cases m with
    | zero => exact c
    | succ m => exact a m (by simpa using h) (by omega)
   ·cases m with
    | zero => omega
    | succ m => exact b m (by simpa using h) (by omega)
  ·refine ⟨0, by omega, fun m h hm => by omega, fun m h _ => ?_⟩
   cases m with
   | zero => simp only [List.getElem_cons_zero]; omega
   | succ m =>
    simp only [List.getElem_cons_succ]
    have hy := h1 (ys[m]'(by simpa using h)) (List.getElem_mem _)
    rcases Int.lt_or_le (lexC (ys[m]'(by simpa using h)).f0 x.f0) 0 with q | q
    ·exact absurd (lexC_lt_trans hy q) c
    ·exact q
theorem put_ev (xs : List S30) (x : S30) (hn : xs.length ≤ 1000000) (hs : ∀ y ∈ xs, SmallC y) (ho : SortedC xs) : Ev (fun k => cellPut.f k xs x) (putL x xs) := by
 obtain ⟨p, hp, h1, h2⟩ := place x xs ho
 have hb := bsf_l0 xs x hn hs p hp h1 h2 xs.length 0 xs.length (by omega) (by omega) hp (by omega)
 have hb' : Ev (fun k => bsf_G1.f k xs x.f0 x.f1 x.f2 x.f3 x.f4) ((p : Int), if h : p < xs.length then lexC (xs[p]).f0 x.f0 == 0 else false) := hb
 have hput := putL_at x p xs hp h1 (fun h => h2 p h (by omega))
 unfold cellPut.f
 refine Ev.bind hb' ?_
 by_cases hlt : p < xs.length
 ·rw [dif_pos hlt] at hput
  simp only [dif_pos hlt]
  by_cases c : lexC (xs[p]).f0 x.f0 = 0
  ·rw [if_pos c] at hput
   have hj := Ev.bind (f := fun (_ : Nat) (j : List Int × Int × List Int × List Int × List Int) => some (xs.set p (⟨j.1, j.2.1, j.2.2.1, j.2.2.2.1, j.2.2.2.2⟩ : S30))) (join_ev (xs[p]) x (hs _ (List.getElem_mem hlt))) (Ev.now _)
   rw [hput]
   exact Ev.congr (fun k => by rw [if_pos (by simp [c]), if_pos (by omega), rdC_get hlt, Int.toNat_natCast]) hj
  ·rw [if_neg c] at hput
   rw [hput]
   exact Ev.congr (f := fun _ => some (xs.take p ++ x :: xs.drop p)) (fun k => by rw [if_neg (by simp [c]), if_pos (by omega), Int.toNat_natCast]) (Ev.now _)
 ·rw [dif_neg hlt] at hput
  simp only [dif_neg hlt]
  rw [hput]
  exact Ev.congr (f := fun _ => some (xs.take p ++ x :: xs.drop p)) (fun k => by rw [if_neg (by simp), if_pos (by omega), Int.toNat_natCast]) (Ev.now _)
theorem grp_ev : ∀ (l acc : List S30), acc.length + l.length ≤ 1000000 → (∀ y ∈ l, SmallC y) → (∀ y ∈ acc, SmallC y) → SortedC acc → Ev (fun k => grpGo k acc l) (l.foldl (fun acc x => putL x acc) acc)
 | [], acc, _, _, _, _ => Ev.now _
 | c :: cs, acc, hn, hl, ha, ho => by
  have hc := hl c (by simp)
  simp only [List.length_cons] at hn
  have ih := grp_ev cs (putL c acc) (by have := putL_length c acc; omega) (fun y h => hl y (List.mem_cons_of_mem _ h)) (putL_small c hc acc ha) (putL_sorted c acc ho)
  refine Ev.congr (f := fun k => (cellPut.f k acc c).bind fun acc' => grpGo k acc' cs) (fun k => by simp only [grpGo]; rw [own_eq c hc, Option.bind_some]; rfl) ?_
  exact Ev.bind (put_ev acc c (by omega) ha ho) ih
theorem foldl_put_length : ∀ (l acc : List S30), (l.foldl (fun acc x => putL x acc) acc).length ≤ acc.length + l.length
 | [], acc => by simp
 | c :: cs, acc => by
  have := foldl_put_length cs (putL c acc)
  have := putL_length c acc
  simp only [List.foldl_cons, List.length_cons]
  omega
theorem group_ev (l : List S30) (hn : l.length ≤ 1000000) (hl : ∀ y ∈ l, SmallC y) : Ev (fun k => cell_Group.f k l) (groupL l) := by
 have h := grp_ev l [] (by simpa using hn) hl (fun y h => by simp at h) List.Pairwise.nil
 have hlen := foldl_put_length l []
 refine Ev.bind h (Ev.congr (f := fun _ => some (groupL l)) (fun k => ?_) (Ev.now _))
 rw [if_pos (by simp only [List.length_nil] at hlen; omega)]
 rfl
theorem foldl_put_sorted : ∀ (l acc : List S30), SortedC acc → SortedC (l.foldl (fun acc x => putL x acc) acc)
 | [], acc, h => h
 | c :: cs, acc, h => foldl_put_sorted cs _ (putL_sorted c acc h)
theorem groupL_sorted (l : List S30) : SortedC (groupL l) := foldl_put_sorted l [] List.Pairwise.nil
theorem wrap_assoc (a b c : Int) : wrap64 (wrap64 (a + b) + c) = wrap64 (a + wrap64 (b + c)) := by unfold wrap64; omega
theorem mn_comm (a b : Int) : mn a b = mn b a := by unfold mn; split <;> split <;> omega
theorem mx_comm (a b : Int) : mx a b = mx b a := by unfold mx; split <;> split <;> omega
theorem mn_assoc (a b c : Int) : mn (mn a b) c = mn a (mn b c) := by unfold mn; repeat' split
                                                                     all_goals omega
theorem mx_assoc (a b c : Int) : mx (mx a b) c = mx a (mx b c) := by unfold mx; repeat' split
                                                                     all_goals omega
theorem zip_assoc (f : Int → Int → Int) (hf : ∀ a b c, f (f a b) c = f a (f b c)) : ∀ a b c : List Int, List.zipWith f (List.zipWith f a b) c = List.zipWith f a (List.zipWith f b c)
 | [], _, _ => by simp
 | _ :: _, [], _ => by simp
 | _ :: _, _ :: _, [] => by simp
 | x :: xs, y :: ys, z :: zs => by simp only [List.zipWith_cons_cons, hf, zip_assoc f hf xs ys zs]
theorem zip_comm (f : Int → Int → Int) (hf : ∀ a b, f a b = f b a) : ∀ a b : List Int, List.zipWith f a b = List.zipWith f b a
 | [], [] => rfl
 | [], _ :: _ => by simp
 | _ :: _, [] => by simp
 | x :: xs, y :: ys => by simp only [List.zipWith_cons_cons, hf x y, zip_comm f hf xs ys]
theorem joinC_comm {a b : S30} (h : a.f0 = b.f0) : joinC a b = joinC b a := by
 unfold joinC
 rw [h, Int.add_comm, zip_comm _ (fun x y => by rw [Int.add_comm]) a.f2, zip_comm _ mn_comm a.f3, zip_comm _ mx_comm a.f4]
theorem joinC_assoc (a b c : S30) : joinC (joinC a b) c = joinC a (joinC b c) := by
 unfold joinC
 simp only [wrap_assoc]
 rw [zip_assoc _ (fun x y z => wrap_assoc x y z), zip_assoc _ mn_assoc, zip_assoc _ mx_assoc]
theorem putL_lt {x y : S30} (ys : List S30) (h : lexC y.f0 x.f0 < 0) : putL x (y :: ys) = y :: putL x ys := by simp only [putL]; rw [if_pos h]
theorem putL_eq {x y : S30} (ys : List S30) (h : lexC y.f0 x.f0 = 0) : putL x (y :: ys) = joinC y x :: ys := by simp only [putL]; rw [if_neg (by omega), if_pos h]
theorem putL_gt {x y : S30} (ys : List S30) (h : 0 < lexC y.f0 x.f0) : putL x (y :: ys) = x :: y :: ys := by simp only [putL]; rw [if_neg (by omega), if_neg (by omega)]
theorem three (z : Int) : z < 0 ∨ z = 0 ∨ 0 < z := by omega
theorem joinC_key (a b : S30) : (joinC a b).f0 = a.f0 := rfl
theorem put_comm (x y : S30) : ∀ l : List S30, putL x (putL y l) = putL y (putL x l)
 | [] => by
  have hs := lexC_swap y.f0 x.f0
  show putL x [y] = putL y [x]
  rcases three (lexC y.f0 x.f0) with h | h | h
  ·rw [putL_lt _ h, putL_gt _ (by omega)]; rfl
  ·rw [putL_eq _ h, putL_eq _ (by omega), joinC_comm ((lexC_zero _ _).1 h)]
  ·rw [putL_gt _ h, putL_lt _ (by omega)]; rfl
 | z :: zs => by
  have hs := lexC_swap y.f0 x.f0
  have hsx := lexC_swap z.f0 x.f0
  have hsy := lexC_swap z.f0 y.f0
  rcases three (lexC z.f0 y.f0) with cy | cy | cy
  ·rw [putL_lt _ cy]
   rcases three (lexC z.f0 x.f0) with cx | cx | cx
   ·rw [putL_lt _ cx, putL_lt _ cx, putL_lt _ cy, put_comm x y zs]
   ·rw [putL_eq _ cx, putL_eq _ cx, putL_lt _ (by rw [joinC_key]; exact cy)]
   ·have h : lexC x.f0 y.f0 < 0 := lexC_lt_trans (b := z.f0) (by omega) cy
    rw [putL_gt _ cx, putL_gt _ cx, putL_lt _ h, putL_lt _ cy]
  ·have ey := (lexC_zero _ _).1 cy
   rw [putL_eq _ cy]
   rcases three (lexC z.f0 x.f0) with cx | cx | cx
   ·rw [putL_lt _ (by rw [joinC_key]; exact cx), putL_lt _ cx, putL_eq _ cy]
   ·have ex := (lexC_zero _ _).1 cx
    rw [putL_eq _ (by rw [joinC_key]; exact cx), putL_eq _ cx, putL_eq _ (by rw [joinC_key]; exact cy), joinC_assoc, joinC_assoc, joinC_comm (a := y) (b := x) (by rw [← ey, ← ex])]
   ·have h : lexC x.f0 y.f0 < 0 := by rw [← ey]; omega
    rw [putL_gt _ (by rw [joinC_key]; exact cx), putL_gt _ cx, putL_lt _ h, putL_eq _ cy]
  ·rw [putL_gt _ cy]
   rcases three (lexC z.f0 x.f0) with cx | cx | cx
   ·have h : lexC y.f0 x.f0 < 0 := lexC_lt_trans (b := z.f0) (by omega) cx
    rw [putL_lt _ h, putL_lt _ cx, putL_gt _ cy]
   ·have ex := (lexC_zero _ _).1 cx
    have h : lexC y.f0 x.f0 < 0 := by rw [← ex]; omega
    rw [putL_lt _ h, putL_eq _ cx, putL_gt _ (by rw [joinC_key]; exact cy)]
   ·rw [putL_gt _ cx]
    rcases three (lexC y.f0 x.f0) with h | h | h
    ·rw [putL_lt _ h, putL_gt _ cx, putL_gt _ (by omega)]
    ·rw [putL_eq _ h, putL_eq _ (by omega), joinC_comm ((lexC_zero _ _).1 h)]
    ·rw [putL_gt _ h, putL_lt _ (by omega), putL_gt _ cy]
def putAll (acc l : List S30) : List S30 := l.foldl (fun acc x => putL x acc) acc
theorem groupL_all (l : List S30) : groupL l = putAll [] l := rfl
theorem putAll_nil (acc : List S30) : putAll acc [] = acc := rfl
theorem putAll_cons (acc : List S30) (x : S30) (l : List S30) : putAll acc (x :: l) = putAll (putL x acc) l := rfl
theorem putAll_put (x : S30) : ∀ (l acc : List S30), putAll (putL x acc) l = putL x (putAll acc l)
 | [], _ => rfl
 | y :: l, acc => by rw [putAll_cons, putAll_cons, put_comm, putAll_put x l]
theorem put_join {x y : S30} (h : lexC y.f0 x.f0 = 0) : ∀ acc : List S30, putL (joinC y x) acc = putL x (putL y acc)
 | [] => by show [joinC y x] = putL x [y]; rw [putL_eq _ h]
 | z :: zs => by
  have e := (lexC_zero _ _).1 h
  rcases three (lexC z.f0 y.f0) with c | c | c
  ·rw [putL_lt _ (by rw [joinC_key]; exact c), putL_lt _ c, putL_lt _ (by rw [← e]; exact c), put_join h zs]
  ·rw [putL_eq _ (by rw [joinC_key]; exact c), putL_eq _ c, putL_eq _ (by rw [joinC_key, ← e]; exact c), joinC_assoc]
  ·rw [putL_gt _ (by rw [joinC_key]; exact c), putL_gt _ c, putL_eq _ h]
theorem putAll_putL (x : S30) : ∀ (g acc : List S30), putAll acc (putL x g) = putL x (putAll acc g)
 | [], _ => rfl
 | z :: zs, acc => by
  rcases three (lexC z.f0 x.f0) with c | c | c
  ·rw [putL_lt _ c, putAll_cons, putAll_cons, putAll_putL x zs]
  ·rw [putL_eq _ c, putAll_cons, putAll_cons, put_join c, putAll_put]
  ·rw [putL_gt _ c, putAll_cons, putAll_cons, putAll_cons, ← put_comm, putAll_put]
theorem putAll_all : ∀ (b g acc : List S30), putAll acc (putAll g b) = putAll (putAll acc g) b
 | [], _, _ => rfl
 | x :: b, g, acc => by rw [putAll_cons, putAll_cons, putAll_all b, putAll_putL]
theorem putAll_group (acc b : List S30) : putAll acc (groupL b) = putAll acc b := by rw [groupL_all, putAll_all, putAll_nil]
theorem group_group (a : List S30) : groupL (groupL a) = groupL a := putAll_group [] a
theorem putAll_perm {l l' : List S30} (h : l.Perm l') : ∀ acc, putAll acc l = putAll acc l' := by
 induction h with
 | nil => exact fun _ => rfl
 | cons x _ ih => exact fun acc => by rw [putAll_cons, putAll_cons, ih]
 | swap x y l => exact fun acc => by rw [putAll_cons, putAll_cons, putAll_cons, putAll_cons, put_comm]
 | trans _ _ i1 i2 => exact fun acc => (i1 acc).trans (i2 acc)
theorem group_perm {l l' : List S30} (h : l.Perm l') : groupL l = groupL l' := putAll_perm h []
theorem putAll_length : ∀ (l acc : List S30), (putAll acc l).length ≤ acc.length + l.length := foldl_put_length
def cnt (l : List S30) : Int := (l.map fun c => c.f1).sum
theorem cnt_cons (x : S30) (l : List S30) : cnt (x :: l) = x.f1 + cnt l := by simp [cnt]
theorem cnt_append (a b : List S30) : cnt (a ++ b) = cnt a + cnt b := by simp [cnt]
def NonNeg (l : List S30) : Prop := ∀ c ∈ l, 0 ≤ c.f1
theorem cnt_nn : ∀ l : List S30, NonNeg l → 0 ≤ cnt l
 | [], _ => by simp [cnt]
 | x :: l, h => by rw [cnt_cons]; have := cnt_nn l (fun c hc => h c (List.mem_cons_of_mem _ hc)); have := h x (by simp); omega
theorem cnt_put (x : S30) (hx : 0 ≤ x.f1) : ∀ l : List S30, NonNeg l → cnt l + x.f1 ≤ 4611686018427387904 → cnt (putL x l) = cnt l + x.f1 ∧ NonNeg (putL x l)
 | [], _, _ => ⟨by simp [putL, cnt], fun c hc => by simp [putL] at hc; rw [hc]; exact hx⟩
 | y :: ys, h, hb => by
  have hy := h y (by simp)
  have hys : NonNeg ys := fun c hc => h c (List.mem_cons_of_mem _ hc)
  have hn := cnt_nn ys hys
  rw [cnt_cons] at hb
  rcases three (lexC y.f0 x.f0) with c | c | c
  ·obtain ⟨h1, h2⟩ := cnt_put x hx ys hys (by omega)
   rw [putL_lt _ c, cnt_cons, cnt_cons, h1]
   refine ⟨by omega, fun z hz => ?_⟩
   rcases List.mem_cons.1 hz with e | e
   ·rw [e]; exact hy
   ·exact h2 z e
  ·have hw : wrap64 (y.f1 + x.f1) = y.f1 + x.f1 := w64 (by omega) (by omega)
   rw [putL_eq _ c, cnt_cons, cnt_cons]
   refine ⟨by show wrap64 (y.f1 + x.f1) + cnt ys = _; rw [hw]; omega, fun z hz => ?_⟩
   rcases List.mem_cons.1 hz with e | e
   ·rw [e]; show 0 ≤ wrap64 (y.f1 + x.f1); omega
   ·exact hys z e
  ·rw [putL_gt _ c, cnt_cons, cnt_cons]
   refine ⟨by omega, fun z hz => ?_⟩
   rcases List.mem_cons.1 hz with e | e
   ·rw [e]; exact hx
   ·exact h z e
theorem cnt_all : ∀ (l acc : List S30), NonNeg l → NonNeg acc → cnt acc + cnt l ≤ 4611686018427387904 → cnt (putAll acc l) = cnt acc + cnt l ∧ NonNeg (putAll acc l)
 | [], acc, _, h, _ => ⟨by simp [putAll_nil, cnt], h⟩
 | x :: l, acc, hl, ha, hb => by
  have hx := hl x (by simp)
  have hl' : NonNeg l := fun c hc => hl c (List.mem_cons_of_mem _ hc)
  have hn := cnt_nn l hl'
  rw [cnt_cons] at hb
  obtain ⟨h1, h2⟩ := cnt_put x hx acc ha (by omega)
  obtain ⟨h3, h4⟩ := cnt_all l (putL x acc) hl' h2 (by omega)
  rw [putAll_cons, h3, h1, cnt_cons]
  exact ⟨by omega, h4⟩
theorem cnt_group (l : List S30) (h : NonNeg l) (hb : cnt l ≤ 4611686018427387904) : cnt (groupL l) = cnt l ∧ NonNeg (groupL l) := by
 have := cnt_all l [] h (fun c hc => by simp at hc) (by simpa [cnt] using hb)
 simpa [cnt, groupL_all] using this
def RegC (n : Nat) (c : S30) : Prop := c.f0.length ≤ 4 ∧ c.f2.length = n ∧ c.f3.length = n ∧ c.f4.length = n
def RegL (n : Nat) (l : List S30) : Prop := ∀ c ∈ l, RegC n c
theorem RegC.small {n : Nat} {c : S30} (h : RegC n c) (hn : n ≤ 100) : SmallC c := ⟨by have := h.1; omega, by rw [h.2.1]; omega, by rw [h.2.2.1]; omega, by rw [h.2.2.2]; omega⟩
theorem RegL.small {n : Nat} {l : List S30} (h : RegL n l) (hn : n ≤ 100) : ∀ y ∈ l, SmallC y := fun y hy => (h y hy).small hn
theorem regC_join {n : Nat} {a b : S30} (ha : RegC n a) (hb : RegC n b) : RegC n (joinC a b) := by
 refine ⟨ha.1, ?_, ?_, ?_⟩
 ·simp only [joinC, List.length_zipWith]; rw [ha.2.1, hb.2.1]; omega
 ·simp only [joinC, List.length_zipWith]; rw [ha.2.2.1, hb.2.2.1]; omega
 ·simp only [joinC, List.length_zipWith]; rw [ha.2.2.2, hb.2.2.2]; omega
theorem regL_put {n : Nat} {x : S30} (hx : RegC n x) : ∀ {l : List S30}, RegL n l → RegL n (putL x l)
 | [], _ => fun c hc => by simp [putL] at hc; rw [hc]; exact hx
 | y :: ys, h => by
  have hy := h y (by simp)
  have hys : RegL n ys := fun c hc => h c (List.mem_cons_of_mem _ hc)
  intro c hc
  unfold putL at hc
  split at hc
  ·rcases List.mem_cons.1 hc with e | e
   ·rw [e]; exact hy
   ·exact regL_put hx hys c e
  ·split at hc
   ·rcases List.mem_cons.1 hc with e | e
    ·rw [e]; exact regC_join hy hx
    ·exact hys c e
   ·rcases List.mem_cons.1 hc with e | e
    ·rw [e]; exact hx
    ·exact h c e
theorem regL_all {n : Nat} : ∀ {l acc : List S30}, RegL n l → RegL n acc → RegL n (putAll acc l)
 | [], _, _, h => h
 | x :: l, acc, hl, ha => regL_all (l := l) (fun c hc => hl c (List.mem_cons_of_mem _ hc)) (regL_put (hl x (by simp)) ha)
theorem regL_group {n : Nat} {l : List S30} (h : RegL n l) : RegL n (groupL l) := regL_all h (fun c hc => by simp at hc)
theorem equal_true {c : S30} (ha : SmallC c) : Ev (fun k => hypercuberef2_Equal.f k c.f0 c.f1 c.f2 c.f3 c.f4 c.f0 c.f1 c.f2 c.f3 c.f4) true := by
 obtain ⟨h0, h2, h3, h4⟩ := ha
 have e : ∀ l : List Int, l.length ≤ 100000 → Ev (fun k => hypercuberef1_Ints.f k l l) true := fun l hl => by
  have := ints_ev l l (by omega)
  rw [decide_eq_true rfl] at this
  exact this
 refine Ev.congr (fun k => by unfold hypercuberef2_Equal.f; rw [if_pos rfl]) ?_
 refine Ev.bind (e _ h0) (Ev.congr (fun k => by rw [if_pos rfl]) ?_)
 refine Ev.bind (e _ h2) (Ev.congr (fun k => by rw [if_pos rfl]) ?_)
 refine Ev.bind (e _ h3) (Ev.congr (fun k => by rw [if_pos rfl]) ?_)
 exact Ev.bind (e _ h4) (Ev.now _)
theorem same_l0 (l : List S30) (hl : l.length ≤ 1000000) (hs : ∀ c ∈ l, SmallC c) (d : Nat) : ∀ i : Nat, l.length - i = d → i ≤ l.length → Ev (fun k => hypercuberef2_Same.l0 k l l (i : Int)) true := by
 induction d with
 | zero =>
  intro i hd hi
  exact Ev.step (f := fun _ => some true) (fun k => by simp only [hypercuberef2_Same.l0]; rw [if_neg (by omega)]) (Ev.now _)
 | succ d ih =>
  intro i hd hi
  have hlt : i < l.length := by omega
  refine Ev.step (f := fun k => (hypercuberef2_Equal.f k (l[i]).f0 (l[i]).f1 (l[i]).f2 (l[i]).f3 (l[i]).f4 (l[i]).f0 (l[i]).f1 (l[i]).f2 (l[i]).f3 (l[i]).f4).bind fun t => if t = true then hypercuberef2_Same.l0 k l l ((i + 1 : Nat) : Int) else some false) (fun k => ?_) (Ev.bind (equal_true (hs _ (List.getElem_mem hlt))) ?_)
  ·simp only [hypercuberef2_Same.l0]
   rw [if_pos (by omega), if_pos (by omega), if_pos (by omega), rdC_get hlt, w64s hlt (by omega)]
  ·exact Ev.congr (fun k => by rw [if_pos rfl]) (ih (i + 1) (by omega) (by omega))
theorem same_true {l l' : List S30} (h : l = l') (hl : l.length ≤ 1000000) (hs : ∀ c ∈ l, SmallC c) : Ev (fun k => hypercuberef2_Same.f k l l') true := by
 subst h
 exact Ev.congr (fun k => by unfold hypercuberef2_Same.f; rw [if_pos rfl]; rfl) (same_l0 l hl hs l.length 0 (by omega) (by omega))
theorem within_eq (a n : Int) (h0 : 0 < n) (h1 : n ≤ 4611686018427387904) : hypercubelaw1_within.f a n = some (a % n) := by
 unfold hypercubelaw1_within.f
 rw [if_neg (by omega)]
 have hb := Int.emod_nonneg a (show n ≠ 0 by omega)
 have hl := Int.emod_lt_of_pos a h0
 by_cases ha : 0 ≤ a
 ·rw [Int.tmod_eq_emod_of_nonneg ha, if_neg (by omega)]
 ·have ht : Int.tmod a n = if a % n = 0 then 0 else a % n - n := by
   rw [Int.tmod_eq_emod]
   split
   ·rename_i h
    rcases h with h | h
    ·omega
    ·rw [Int.emod_eq_zero_of_dvd h]; simp
   ·rename_i h
    have : a % n ≠ 0 := fun e => h (.inr (Int.dvd_of_emod_eq_zero e))
    rw [if_neg this, Int.natAbs_of_nonneg (by omega)]
  by_cases hz : a % n = 0
  ·rw [ht, if_pos hz, if_neg (by omega), hz]
  ·rw [ht, if_neg hz, if_pos (by omega)]
   congr 1
   rw [w64 (by omega) (by omega)]
   omega
def checkP (cards : List Int) (meas : Int) : Bool := decide (1 ≤ cards.length) && decide (cards.length ≤ 4) && (cards.all fun x => decide (1 ≤ x) && decide (x ≤ 16)) && decide (0 ≤ meas) && decide (meas ≤ 2)
def rightP (cards : List Int) (meas : Int) (x : S45) : Bool := decide (x.f0.length = cards.length) && decide ((x.f1.length : Int) = meas) && (List.range x.f0.length).all fun i => decide (0 ≤ rd x.f0 i) && decide (rd x.f0 i < rd cards i)
theorem check_open {cards : List Int} {meas : Int} (h : checkP cards meas = true) : 1 ≤ cards.length ∧ cards.length ≤ 4 ∧ (∀ x ∈ cards, 1 ≤ x ∧ x ≤ 16) ∧ 0 ≤ meas ∧ meas ≤ 2 := by
 unfold checkP at h
 simp only [Bool.and_eq_true, decide_eq_true_eq, List.all_eq_true] at h
 exact ⟨h.1.1.1.1, h.1.1.1.2, fun x hx => h.1.1.2 x hx, h.1.2, h.2⟩
theorem check_mk {cards : List Int} {meas : Int} (h1 : 1 ≤ cards.length) (h2 : cards.length ≤ 4) (h3 : ∀ x ∈ cards, 1 ≤ x ∧ x ≤ 16) (h4 : 0 ≤ meas) (h5 : meas ≤ 2) : checkP cards meas = true := by
 unfold checkP
 simp only [Bool.and_eq_true, decide_eq_true_eq, List.all_eq_true]
 exact ⟨⟨⟨⟨h1, h2⟩, h3⟩, h4⟩, h5⟩
theorem right_open {cards : List Int} {meas : Int} {x : S45} (h : rightP cards meas x = true) : x.f0.length = cards.length ∧ (x.f1.length : Int) = meas ∧ ∀ i : Nat, i < x.f0.length → 0 ≤ rd x.f0 i ∧ rd x.f0 i < rd cards i := by
 unfold rightP at h
 simp only [Bool.and_eq_true, decide_eq_true_eq, List.all_eq_true, List.mem_range] at h
 exact ⟨h.1.1, h.1.2, fun i hi => h.2 i hi⟩
theorem right_mk {cards : List Int} {meas : Int} {x : S45} (h1 : x.f0.length = cards.length) (h2 : (x.f1.length : Int) = meas) (h3 : ∀ i : Nat, i < x.f0.length → 0 ≤ rd x.f0 i ∧ rd x.f0 i < rd cards i) : rightP cards meas x = true := by
 unfold rightP
 simp only [Bool.and_eq_true, decide_eq_true_eq, List.all_eq_true, List.mem_range]
 exact ⟨⟨h1, h2⟩, fun i hi => h3 i hi⟩
abbrev FR := List Int × Int × List S45
def RowOk (cards : List Int) (meas : Int) (x : S45) : Prop := rightP cards meas x = true ∧ ∀ y ∈ x.f1, -100 ≤ y ∧ y ≤ 100
theorem facts_l3 (x3 : List Int) (rows : List S45) (i : Nat) (hi : i < 1000) (kk : Int) (cards : List Int) (meas : Int) (hm0 : 0 ≤ meas) (hm : meas ≤ 2) (hrl : rows.length ≤ 1000) (key : List Int) {Q : FR → Prop}
  (H : ∀ ms : List Int, (ms.length : Int) = meas → (∀ y ∈ ms, -100 ≤ y ∧ y ≤ 100) → ∃ p, Ev (fun k => hypercubelaw1_Facts.l1 k x3 (rows ++ [⟨key, ms⟩]) ((i + 1 : Nat) : Int) cards meas) p ∧ Q p) (d : Nat) :
  ∀ (j : Nat) (ms : List Int), (meas.toNat - j) = d → (j : Int) ≤ meas → ms.length = j → (∀ y ∈ ms, -100 ≤ y ∧ y ≤ 100) → ∃ p, Ev (fun k => hypercubelaw1_Facts.l3 k x3 rows (i : Int) kk (j : Int) cards meas key ms) p ∧ Q p := by
 induction d with
 | zero =>
  intro j ms hd hj hl hb
  obtain ⟨p, h1, h2⟩ := H ms (by omega) hb
  exact ⟨p, Ev.step (fun k => by simp only [hypercubelaw1_Facts.l3]; rw [if_neg (by omega), if_pos (by omega), w64s hi (by omega)]) h1, h2⟩
 | succ d ih =>
  intro j ms hd hj hl hb
  have hw := within_eq (wrap64 (kk + (wrap64 (7 * (j : Int))))) 201 (by omega) (by omega)
  have b0 := Int.emod_nonneg (wrap64 (kk + (wrap64 (7 * (j : Int))))) (show (201 : Int) ≠ 0 by omega)
  have b1 := Int.emod_lt_of_pos (wrap64 (kk + (wrap64 (7 * (j : Int))))) (show (0 : Int) < 201 by omega)
  generalize (wrap64 (kk + (wrap64 (7 * (j : Int))))) % 201 = q at hw b0 b1
  obtain ⟨p, h1, h2⟩ := ih (j + 1) (ms ++ [wrap64 (q - 100)]) (by omega) (by omega) (by simp; omega) (fun y hy => by
   rcases List.mem_append.1 hy with hy | hy
   ·exact hb y hy
   ·rw [List.mem_singleton.1 hy, w64 (by omega) (by omega)]; omega)
  refine ⟨p, Ev.step (fun k => by simp only [hypercubelaw1_Facts.l3]; rw [if_pos (by omega), hw]; simp only [Option.bind_some]; rw [if_pos (by omega), w64s (show j < 1000 by omega) (by omega)]) h1, h2⟩
theorem facts_l2 (x3 : List Int) (rows : List S45) (i : Nat) (hi : i < 1000) (cards : List Int) (meas : Int) (hc : checkP cards meas = true) (hrl : rows.length ≤ 1000) {Q : FR → Prop}
  (H : ∀ x, RowOk cards meas x → ∃ p, Ev (fun k => hypercubelaw1_Facts.l1 k x3 (rows ++ [x]) ((i + 1 : Nat) : Int) cards meas) p ∧ Q p) (d : Nat) :
  ∀ (j : Nat) (kk : Int) (key : List Int), cards.length - j = d → j ≤ cards.length → key.length = j → (∀ a : Nat, a < key.length → 0 ≤ rd key a ∧ rd key a < rd cards a) →
   ∃ p, Ev (fun k => hypercubelaw1_Facts.l2 k x3 rows (i : Int) kk (j : Int) cards meas key) p ∧ Q p := by
 obtain ⟨h1, h2, h3, h4, h5⟩ := check_open hc
 induction d with
 | zero =>
  intro j kk key hd hj hl hb
  have := facts_l3 x3 rows i hi kk cards meas h4 h5 hrl key (fun ms hml hmb => H ⟨key, ms⟩ ⟨right_mk (by show key.length = _; omega) hml hb, hmb⟩) meas.toNat 0 [] (by omega) (by omega) rfl (by simp)
  obtain ⟨p, e1, e2⟩ := this
  exact ⟨p, Ev.step (fun k => by simp only [hypercubelaw1_Facts.l2]; rw [if_neg (by omega)]; rfl) e1, e2⟩
 | succ d ih =>
  intro j kk key hd hj hl hb
  have hja : j < cards.length := by omega
  have hcd := h3 cards[j] (List.getElem_mem hja)
  have hw := within_eq kk cards[j] (by omega) (by omega)
  have b0 := Int.emod_nonneg kk (show cards[j] ≠ 0 by omega)
  have b1 := Int.emod_lt_of_pos kk (show (0 : Int) < cards[j] by omega)
  generalize kk % cards[j] = q at hw b0 b1
  obtain ⟨p, e1, e2⟩ := ih (j + 1) (wrap64 (Int.tdiv kk 5)) (key ++ [q]) (by omega) (by omega) (by simp; omega) (fun a ha => by
   by_cases hak : a < key.length
   ·have hb1 := hb a hak
    have : rd (key ++ [q]) (a : Int) = rd key (a : Int) := by rw [rd_get ha, rd_get hak, List.getElem_append_left hak]
    rw [this]; exact hb1
   ·have hae : a = key.length := by simp at ha; omega
    subst hae
    have : rd (key ++ [q]) (key.length : Int) = q := by rw [rd_get ha]; simp
    rw [this, hl, rd_get hja]; exact ⟨b0, b1⟩)
  refine ⟨p, Ev.step (fun k => by simp only [hypercubelaw1_Facts.l2]; rw [if_pos (by omega), if_pos (by omega), rd_get hja, hw]; simp only [Option.bind_some]; rw [if_pos (by omega), w64s hja (by omega)]) e1, e2⟩
theorem facts_l1 (x3 : List Int) (cards : List Int) (meas : Int) (hc : checkP cards meas = true) (d : Nat) : ∀ (i : Nat) (rows : List S45), (min x3.length 40) - i = d → i ≤ min x3.length 40 → rows.length = i → (∀ x ∈ rows, RowOk cards meas x) →
  ∃ p, Ev (fun k => hypercubelaw1_Facts.l1 k x3 rows (i : Int) cards meas) p ∧ (p.1 = cards ∧ p.2.1 = meas ∧ p.2.2.length = min x3.length 40 ∧ ∀ x ∈ p.2.2, RowOk cards meas x) := by
 induction d with
 | zero =>
  intro i rows hd hi hl hr
  have fin : Ev (fun k => hypercubelaw1_Facts.j3 k x3 rows (i : Int) false cards meas) (cards, meas, rows) := Ev.step (fun k => by simp only [hypercubelaw1_Facts.j3]; rw [if_neg (by simp)]) (Ev.now _)
  refine ⟨(cards, meas, rows), ?_, rfl, rfl, by show rows.length = _; omega, hr⟩
  by_cases h : (i : Int) < x3.length
  ·have : decide ((i : Int) < 40) = false := decide_eq_false (by omega)
   exact Ev.step (fun k => by simp only [hypercubelaw1_Facts.l1]; rw [if_pos h, this]) fin
  ·exact Ev.step (fun k => by simp only [hypercubelaw1_Facts.l1]; rw [if_neg h]) fin
 | succ d ih =>
  intro i rows hd hi hl hr
  have hia : i < x3.length := by omega
  have hdec : decide ((i : Int) < 40) = true := decide_eq_true (by omega)
  obtain ⟨p, e1, e2⟩ := facts_l2 x3 rows i (by omega) cards meas hc (by omega) (fun x hx => ih (i + 1) (rows ++ [x]) (by omega) (by omega) (by simp; omega) (fun y hy => by
   rcases List.mem_append.1 hy with hy | hy
   ·exact hr y hy
   ·rw [List.mem_singleton.1 hy]; exact hx)) cards.length 0 (rd x3 i) [] (by omega) (by omega) rfl (fun a ha => by simp at ha)
  refine ⟨p, ?_, e2⟩
  refine Ev.step (fun k => by simp only [hypercubelaw1_Facts.l1]; rw [if_pos (by omega), hdec]) ?_
  exact Ev.step (fun k => by simp only [hypercubelaw1_Facts.j3]; rw [if_pos trivial, if_pos (by omega), if_pos (by omega)]; rfl) e1
theorem facts_l0 (x0 : Int) (x1 x3 : List Int) (meas : Int) (hm0 : 0 ≤ meas) (hm : meas ≤ 2) (d : Nat) : ∀ (i : Nat) (cards : List Int), (x0 % 4 + 1).toNat - i = d → (i : Int) ≤ x0 % 4 + 1 → cards.length = i → (∀ x ∈ cards, 1 ≤ x ∧ x ≤ 5) →
  ∃ p, Ev (fun k => hypercubelaw1_Facts.l0 k x0 x1 x3 (i : Int) cards meas) p ∧ (checkP p.1 p.2.1 = true ∧ p.2.1 = meas ∧ (p.1.length : Int) = x0 % 4 + 1 ∧ p.2.2.length = min x3.length 40 ∧ ∀ x ∈ p.2.2, RowOk p.1 p.2.1 x) := by
 have b0 := Int.emod_nonneg x0 (show (4 : Int) ≠ 0 by omega)
 have b1 := Int.emod_lt_of_pos x0 (show (0 : Int) < 4 by omega)
 have hw4 := within_eq x0 4 (by omega) (by omega)
 have hw7 := within_eq x0 7 (by omega) (by omega)
 induction d with
 | zero =>
  intro i cards hd hi hl hc
  have go : ∀ cs : List Int, cs.length = cards.length → (∀ x ∈ cs, 1 ≤ x ∧ x ≤ 16) → ∃ p, Ev (fun k => hypercubelaw1_Facts.j1 k x3 cs meas) p ∧ (checkP p.1 p.2.1 = true ∧ p.2.1 = meas ∧ (p.1.length : Int) = x0 % 4 + 1 ∧ p.2.2.length = min x3.length 40 ∧ ∀ x ∈ p.2.2, RowOk p.1 p.2.1 x) := by
   intro cs h1 h2
   have hck : checkP cs meas = true := check_mk (by omega) (by omega) h2 hm0 hm
   obtain ⟨p, e1, e2, e3, e4, e5⟩ := facts_l1 x3 cs meas hck (min x3.length 40) 0 [] (by omega) (by omega) rfl (by simp)
   refine ⟨p, Ev.step (fun k => by simp only [hypercubelaw1_Facts.j1]; rfl) e1, ?_, e3, ?_, e4, ?_⟩
   ·rw [e2, e3]; exact hck
   ·rw [e2]; omega
   ·rw [e2, e3]; exact e5
  by_cases h7 : x0 % 7 = 0
  ·obtain ⟨p, e1, e2⟩ := go (cards.set (0 : Int).toNat 16) (by simp) (fun x hx => by
    rcases List.mem_or_eq_of_mem_set hx with hx | rfl
    ·have := hc x hx; omega
    ·omega)
   refine ⟨p, ?_, e2⟩
   exact Ev.step (fun k => by simp only [hypercubelaw1_Facts.l0]; rw [hw4]; simp only [Option.bind_some]; rw [if_neg (by omega), hw7]; simp only [Option.bind_some]; rw [if_pos h7, if_pos (by omega)]) e1
  ·obtain ⟨p, e1, e2⟩ := go cards rfl (fun x hx => by have := hc x hx; omega)
   refine ⟨p, ?_, e2⟩
   exact Ev.step (fun k => by simp only [hypercubelaw1_Facts.l0]; rw [hw4]; simp only [Option.bind_some]; rw [if_neg (by omega), hw7]; simp only [Option.bind_some]; rw [if_neg h7]) e1
 | succ d ih =>
  intro i cards hd hi hl hc
  have next : ∀ q : Int, 0 ≤ q → q < 5 → ∃ p, Ev (fun k => hypercubelaw1_Facts.l0 k x0 x1 x3 ((i + 1 : Nat) : Int) (cards ++ [wrap64 (1 + q)]) meas) p ∧ (checkP p.1 p.2.1 = true ∧ p.2.1 = meas ∧ (p.1.length : Int) = x0 % 4 + 1 ∧ p.2.2.length = min x3.length 40 ∧ ∀ x ∈ p.2.2, RowOk p.1 p.2.1 x) := by
   intro q q0 q1
   refine ih (i + 1) (cards ++ [wrap64 (1 + q)]) (by omega) (by omega) (by simp; omega) (fun x hx => ?_)
   rcases List.mem_append.1 hx with hx | hx
   ·exact hc x hx
   ·rw [List.mem_singleton.1 hx, w64 (by omega) (by omega)]; omega
  by_cases h1 : (i : Int) < x1.length
  ·have hw := within_eq (rd x1 (i : Int)) 5 (by omega) (by omega)
   obtain ⟨p, e1, e2⟩ := next (rd x1 (i : Int) % 5) (by omega) (by omega)
   refine ⟨p, ?_, e2⟩
   exact Ev.step (fun k => by simp only [hypercubelaw1_Facts.l0]; rw [hw4]; simp only [Option.bind_some]; rw [if_pos (by omega), if_pos h1, if_pos (by omega), hw]; simp only [Option.bind_some]; rw [if_pos (by omega), w64s (show i < 1000 by omega) (by omega)]) e1
  ·have hw := within_eq (wrap64 ((i : Int) + 2)) 5 (by omega) (by omega)
   obtain ⟨p, e1, e2⟩ := next (wrap64 ((i : Int) + 2) % 5) (by omega) (by omega)
   refine ⟨p, ?_, e2⟩
   exact Ev.step (fun k => by simp only [hypercubelaw1_Facts.l0]; rw [hw4]; simp only [Option.bind_some]; rw [if_pos (by omega), if_neg h1, hw]; simp only [Option.bind_some]; rw [if_pos (by omega), w64s (show i < 1000 by omega) (by omega)]) e1
theorem facts_ev (a0 : Int) (l1 : List Int) (a2 : Int) (l3 : List Int) : ∃ cards meas rows, Ev (fun k => hypercubelaw1_Facts.f k a0 l1 a2 l3) (cards, meas, rows) ∧ checkP cards meas = true ∧ meas = a2 % 3 ∧ (cards.length : Int) = a0 % 4 + 1 ∧ rows.length = min l3.length 40 ∧ ∀ x ∈ rows, RowOk cards meas x := by
 have hw := within_eq a2 3 (by omega) (by omega)
 obtain ⟨⟨cards, meas, rows⟩, e1, e2, e3, e4, e5, e6⟩ := facts_l0 a0 l1 l3 (a2 % 3) (by omega) (by omega) (a0 % 4 + 1).toNat 0 [] (by omega) (by omega) rfl (by simp)
 refine ⟨cards, meas, rows, ?_, e2, e3, e4, e5, e6⟩
 exact Ev.congr (fun k => by unfold hypercubelaw1_Facts.f; rw [hw]; rfl) e1
theorem set_eq {cards : List Int} {meas : Int} (hc : checkP cards meas = true) (a : Int) : ∃ s, hypercubelaw2_Set.f cards meas a = some s ∧ 0 ≤ s ∧ s < 16 := by
 obtain ⟨h1, h2, _⟩ := check_open hc
 have go : ∀ n : Int, 0 < n → n ≤ 16 → ∃ s, ((hypercubelaw2_within.f a n).bind fun t => some t) = some s ∧ 0 ≤ s ∧ s < 16 := fun n h0 h16 => by
  rw [within2_eq a n h0 (by omega)]
  have := Int.emod_nonneg a (show n ≠ 0 by omega)
  have := Int.emod_lt_of_pos a h0
  exact ⟨a % n, rfl, by omega, by omega⟩
 unfold hypercubelaw2_Set.f
 have hl : cards.length = 1 ∨ cards.length = 2 ∨ cards.length = 3 ∨ cards.length = 4 := by omega
 rcases hl with h | h | h | h
 ·rw [h, if_pos (by decide), show shl .i64 1 (IntKind.u64.wrap ((1 : Nat) : Int)) = 2 by decide]; exact go 2 (by omega) (by omega)
 ·rw [h, if_pos (by decide), show shl .i64 1 (IntKind.u64.wrap ((2 : Nat) : Int)) = 4 by decide]; exact go 4 (by omega) (by omega)
 ·rw [h, if_pos (by decide), show shl .i64 1 (IntKind.u64.wrap ((3 : Nat) : Int)) = 8 by decide]; exact go 8 (by omega) (by omega)
 ·rw [h, if_pos (by decide), show shl .i64 1 (IntKind.u64.wrap ((4 : Nat) : Int)) = 16 by decide]; exact go 16 (by omega) (by omega)
def bitR (s : Int) (i : Nat) : Bool := decide (Go.bits .and .i64 (shr .i64 s (IntKind.u64.wrap (i : Int))) 1 = 1)
def keysR (s : Int) : Nat → List Int → List Int
 | _, [] => []
 | i, x :: xs => if bitR s i = true then x :: keysR s (i + 1) xs else keysR s (i + 1) xs
theorem keysR_length (s : Int) : ∀ (i : Nat) (l : List Int), (keysR s i l).length ≤ l.length
 | _, [] => by simp [keysR]
 | i, x :: xs => by
  have := keysR_length s (i + 1) xs
  unfold keysR
  split <;> simp <;> omega
def ofR (s : Int) (r : S45) : S30 := ⟨keysR s 0 r.f0, 1, r.f1, r.f1, r.f1⟩
def RegR (n : Nat) (r : S45) : Prop := r.f0.length ≤ 4 ∧ r.f1.length = n
theorem u64_nat (i : Nat) (h : i ≤ 1000) : 0 ≤ IntKind.u64.wrap (i : Int) := by
 have e : IntKind.u64.wrap (i : Int) = (i : Int) % 18446744073709551616 := rfl
 rw [e]; omega
theorem of_l0 (s : Int) (f0 f1 : List Int) (h0 : f0.length ≤ 4) (h1 : f1.length ≤ 100) (d : Nat) : ∀ (i : Nat) (acc : List Int), f0.length - i = d → i ≤ f0.length → acc.length ≤ i →
  Ev (fun k => hypercuberef2_Of.l0 k s (i : Int) f0 f1 acc 1) (acc ++ keysR s i (f0.drop i), 1, f1, f1, f1) := by
 induction d with
 | zero =>
  intro i acc hd hi ha
  have e : f0.drop i = [] := List.drop_eq_nil_of_le (by omega)
  rw [e]
  refine Ev.step (f := fun _ => some (acc, 1, f1, f1, f1)) (fun k => ?_) (by simp only [keysR, List.append_nil]; exact Ev.now _)
  simp only [hypercuberef2_Of.l0]
  rw [if_neg (by omega), Option.bind_some, if_pos (by simp; omega), Option.bind_some, if_pos (by simp; omega), Option.bind_some, if_pos (by simp; omega)]
  rfl
 | succ d ih =>
  intro i acc hd hi ha
  have hlt : i < f0.length := by omega
  rw [drop_cons hlt]
  unfold keysR
  by_cases hb : bitR s i = true
  ·have hb' : Go.bits .and .i64 (shr .i64 s (IntKind.u64.wrap (i : Int))) 1 = 1 := by unfold bitR at hb; simpa using hb
   have h := ih (i + 1) (acc ++ [f0[i]]) (by omega) (by omega) (by simp; omega)
   rw [List.append_assoc, List.singleton_append] at h
   rw [if_pos hb]
   exact Ev.step (fun k => by simp only [hypercuberef2_Of.l0]; rw [if_pos (by omega), if_pos (u64_nat i (by omega)), if_pos hb', if_pos (by omega), if_pos (by omega), rd_get hlt, w64s hlt (by omega)]) h
  ·have hb' : ¬ Go.bits .and .i64 (shr .i64 s (IntKind.u64.wrap (i : Int))) 1 = 1 := by unfold bitR at hb; simpa using hb
   have h := ih (i + 1) acc (by omega) (by omega) (by omega)
   rw [if_neg hb]
   exact Ev.step (fun k => by simp only [hypercuberef2_Of.l0]; rw [if_pos (by omega), if_pos (u64_nat i (by omega)), if_neg hb', w64s hlt (by omega)]) h
theorem of_ev {n : Nat} (hn : n ≤ 100) {r : S45} (hr : RegR n r) (s : Int) : Ev (fun k => hypercuberef2_Of.f k r.f0 r.f1 s) (tupC (ofR s r)) := by
 have h := of_l0 s r.f0 r.f1 hr.1 (by rw [hr.2]; exact hn) r.f0.length 0 [] (by omega) (by omega) (by simp)
 simp only [List.drop_zero, List.nil_append] at h
 exact Ev.congr (fun k => by unfold hypercuberef2_Of.f; rfl) h
theorem ofR_reg {n : Nat} {r : S45} (hr : RegR n r) (s : Int) : RegC n (ofR s r) := ⟨Nat.le_trans (keysR_length _ _ _) hr.1, hr.2, hr.2, hr.2⟩
def makeL (s : Int) (rows : List S45) : List S30 := rows.map (ofR s)
theorem makeL_reg {n : Nat} {rows : List S45} (hr : ∀ r ∈ rows, RegR n r) (s : Int) : RegL n (makeL s rows) := fun c hc => by
 obtain ⟨r, h, rfl⟩ := List.mem_map.1 hc
 exact ofR_reg (hr r h) s
theorem makeL_length (s : Int) (rows : List S45) : (makeL s rows).length = rows.length := by simp [makeL]
theorem makeL_nn (s : Int) (rows : List S45) : NonNeg (makeL s rows) := fun c hc => by
 obtain ⟨r, h, rfl⟩ := List.mem_map.1 hc
 show (0 : Int) ≤ 1
 omega
theorem makeL_cnt (s : Int) : ∀ rows : List S45, cnt (makeL s rows) = (rows.length : Int)
 | [] => rfl
 | r :: rows => by
  have := makeL_cnt s rows
  unfold makeL at this ⊢
  rw [List.map_cons, cnt_cons, this, List.length_cons]
  show (1 : Int) + _ = _
  omega
theorem rdR_get {l : List S45} {i : Nat} (h : i < l.length) : rd_T45 l (i : Int) = l[i] := by simp [rd_T45, List.getD_eq_getElem?_getD, h]
theorem make_l0 {n : Nat} (hn : n ≤ 100) (s : Int) (rows : List S45) (hl : rows.length ≤ 1000000) (hr : ∀ r ∈ rows, RegR n r) (d : Nat) : ∀ (i : Nat) (acc : List S30), rows.length - i = d → i ≤ rows.length → acc.length ≤ i →
  Ev (fun k => hypercubelaw2_Make.l0 k rows s acc (i : Int)) (acc ++ makeL s (rows.drop i)) := by
 induction d with
 | zero =>
  intro i acc hd hi ha
  have e : rows.drop i = [] := List.drop_eq_nil_of_le (by omega)
  rw [e]
  refine Ev.step (f := fun _ => some acc) (fun k => ?_) (by simp only [makeL, List.map_nil, List.append_nil]; exact Ev.now _)
  simp only [hypercubelaw2_Make.l0]
  rw [if_neg (by omega)]
 | succ d ih =>
  intro i acc hd hi ha
  have hlt : i < rows.length := by omega
  have h := ih (i + 1) (acc ++ [ofR s rows[i]]) (by omega) (by omega) (by simp; omega)
  rw [List.append_assoc, List.singleton_append] at h
  rw [drop_cons hlt]
  refine Ev.step (f := fun k => (hypercuberef2_Of.f k (rows[i]).f0 (rows[i]).f1 s).bind fun bt => hypercubelaw2_Make.l0 k rows s (acc ++ [(⟨bt.1, bt.2.1, bt.2.2.1, bt.2.2.2.1, bt.2.2.2.2⟩ : S30)]) ((i + 1 : Nat) : Int)) (fun k => ?_) (Ev.bind (of_ev hn (hr _ (List.getElem_mem hlt)) s) h)
  simp only [hypercubelaw2_Make.l0]
  rw [if_pos (by omega), if_pos (by omega), rdR_get hlt, w64s hlt (by omega)]
  congr 1
  funext bt
  rw [if_pos (by omega)]
theorem make_ev {n : Nat} (hn : n ≤ 100) (s : Int) (rows : List S45) (hl : rows.length ≤ 1000000) (hr : ∀ r ∈ rows, RegR n r) : Ev (fun k => hypercubelaw2_Make.f k rows s) (makeL s rows) := by
 have h := make_l0 hn s rows hl hr rows.length 0 [] (by omega) (by omega) (by simp)
 simp only [List.drop_zero, List.nil_append] at h
 exact Ev.congr (fun k => by unfold hypercubelaw2_Make.f; rfl) h
theorem facts_set (a0 : Int) (l1 : List Int) (a2 : Int) (l3 : List Int) (a4 : Int) : ∃ cards meas rows s n, Ev (fun k => hypercubelaw1_Facts.f k a0 l1 a2 l3) (cards, meas, rows) ∧ hypercubelaw2_Set.f cards meas a4 = some s ∧ checkP cards meas = true ∧ n ≤ 100 ∧ rows.length ≤ 40 ∧ (∀ r ∈ rows, RegR n r) ∧ (0 ≤ s ∧ s < 16) ∧ (∀ r ∈ rows, RowOk cards meas r) := by
 obtain ⟨cards, meas, rows, h1, h2, h3, h4, h5, h6⟩ := facts_ev a0 l1 a2 l3
 obtain ⟨s, hs, hs0⟩ := set_eq h2 a4
 obtain ⟨c1, c2, c3, c4, c5⟩ := check_open h2
 refine ⟨cards, meas, rows, s, meas.toNat, h1, hs, h2, by omega, by omega, fun r hr => ?_, hs0, h6⟩
 obtain ⟨r1, r2, _⟩ := right_open (h6 r hr).1
 exact ⟨by omega, by omega⟩
end Go.Proofs.Ytmkjkkmilopcpaa.Q
namespace Go.Proofs.Ytmkjkkmilopcpaa.Q
open Go.RowKit Go.Proofs.YtmkjkkmilopcpaaW.PrintWords Go.Proofs.YtmkjkkmilopcpaaW.PrintLast Go.Proofs.YtmkjkkmilopcpaaW.PrintMore
set_option linter.unusedVariables false
theorem ev_all (P : Nat → Nat → Prop) : ∀ n : Nat, (∀ i, i < n → ∃ K, ∀ k, K ≤ k → P i k) → ∃ K, ∀ k, K ≤ k → ∀ i, i < n → P i k
 | 0, _ => ⟨0, fun _ _ i hi => absurd hi (by omega)⟩
 | n + 1, h => by
  obtain ⟨K1, h1⟩ := ev_all P n (fun i hi => h i (by omega))
  obtain ⟨K2, h2⟩ := h n (by omega)
  refine ⟨K1 + K2, fun k hk i hi => ?_⟩
  by_cases e : i = n
  ·subst e; exact h2 k (by omega)
  ·exact h1 k (by omega) i (by omega)
end Go.Proofs.Ytmkjkkmilopcpaa.Q
