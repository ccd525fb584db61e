-- packed by wip/tools/pack.py (a program of this session) out of its own texts
import Derived.Test.YtmkjkkmilopcpaaPCellBack0
import Derived.ArgAppend
import Derived.Below
import Derived.BigQuiet
import Derived.Deep.AppendLies
import Derived.Deep.CutBlock
import Derived.Deep.DeepCutAuto
import Derived.Deep.Draws
import Derived.Deep.LoopGhost
import Derived.Deep.OwnRows
import Derived.Deep.QuietTactic
import Derived.Deep.RegionHeld3
import Derived.KernelRfl
import Derived.Laws.BitsLemmas
import Derived.Laws.BytesArg
import Derived.Laws.Externs
import Derived.Laws.IdiomCopy
import Derived.Laws.MakeOwn
import Derived.Laws.OwnMore
import Derived.Laws.Rows
import Derived.Laws.Slices
import Derived.Lib.AppendStr
import Derived.Lib.AppendZeros
import Derived.Lib.AppendZerosOnto
import Derived.Lib.ConvBytes
import Derived.Lib.JoinLaws
import Derived.Lib.Overlaps
import Derived.Lib.SliceRun
import Derived.Lib.Walk
import Derived.Maps.AppendAt
import Derived.OrdersHeld
import Derived.OwnWalk
import Derived.RowKit
import Derived.RowKit3
import Derived.Shelf.RegionOpenPlain
import Derived.Tactics
import Derived.Test.YtmkjkkmilopcpaaProg
import Derived.WalkKit
import Derived.WalkSpells
import Derived.WideLaws
import Derived.Test.YtmkjkkmilopcpaaPCellBack1
import Derived.Test.YtmkjkkmilopcpaaPCellBack3
import Derived.Test.YtmkjkkmilopcpaaPCellBack4
import Derived.Test.YtmkjkkmilopcpaaPCellBack5
import Derived.Test.YtmkjkkmilopcpaaPCellBack6
import Derived.Test.YtmkjkkmilopcpaaPCellBack7
import Derived.Test.YtmkjkkmilopcpaaPCellBack9
namespace Go.Proofs.Ytmkjkkmilopcpaa.Q
open Go.RowKit Go.Proofs.YtmkjkkmilopcpaaW.PrintWords Go.Proofs.YtmkjkkmilopcpaaW.PrintLast Go.Proofs.YtmkjkkmilopcpaaW.PrintMore
set_option linter.unusedVariables false
set_option linter.unusedSimpArgs false
theorem R_store_step {P : Program} {ops : Array Oper} {o : Oper} {a : Act} {Q : Exit → Act → World → Prop} {Kc : Act → World → Prop} {α : Type} (d : Kd α) {W : World} (base : Nat) (hw : Region.wanted o (yielded ops a.tmps) = true) (hN : o.dst = none) (t : TypeId) (p x : Operand) (ho : o.op = .store t p x) (e : TypeId) {g n cap o' : Nat} (i : Int) (xs : List α) (x' : α) (u : Value) (seg c : List Value) (ok okp : Nat → Prop)
  (haddr : a.eval p = .pointer (some ⟨g, o', none⟩)) (hoff : o' = i.toNat * d.sz) (hx : a.eval x = u) (hu : u.cells.toList = seg) (ht : (P.info? t).map (·.size) = some seg.length) (hsl : seg.length = d.sz) (h1 : ∀ q ∈ seg, q.oneCell' = true)
  (HO : d.R e W base ok (.slice (some ⟨g, 0, none⟩) n cap) xs) (h0 : 0 ≤ i) (hi : i < n) (hM : d.M W base okp x' seg) (hokp : ∀ k, okp k → ok k ∧ k ≠ g)
  (h : ∀ w1, d.R e w1 base ok (.slice (some ⟨g, 0, none⟩) n cap) (xs.set i.toNat x') → W.grownBy w1 (some g) → Kc a w1) : if Region.wanted o (yielded ops a.tmps) = true then Oper.wp P o a W Kc Q else Kc (a.put none undef) W := by
 subst hoff
 obtain ⟨z, hz⟩ : ∃ z : α, z = x' := ⟨_, rfl⟩
 obtain ⟨c, hcl, _, hcc, _⟩ := Kd.R_elem HO z i h0 hi
 have hM' : d.M W base okp x' (c.take 0 ++ seg ++ c.drop (0 + seg.length)) := by
  rw [List.take_zero, List.nil_append, Nat.zero_add, hsl, ← hcl, List.drop_length, List.append_nil]
  exact hM
 obtain ⟨hrow, hg⟩ := Kd.R_seg HO i h0 hi hcl hcc (by omega) hM' hokp
 obtain ⟨_, inner, hown, hr⟩ := HO
 have hnx : n = xs.length := by
  rcases hown.2 with ⟨hv, _⟩ | ⟨g', cap', cur, hv, _⟩
  ·cases hv
  ·injection hv
 have hil : i.toNat < n := by omega
 have hrun : (Instr.storeAt t (.pointer (some ⟨g, i.toNat * d.sz, none⟩)) u).run P W = .ok () (W.setCells g (i.toNat * d.sz) seg) := by
  rcases hown.2 with ⟨hv, _⟩ | ⟨g', cap', cur, hv, hb, hh, hnc, hcm, hcs, _⟩
  ·cases hv
  injection hv with ha _ hc
  injection ha with ha
  injection ha with hg'
  subst hg'; subst hc
  refine run_store_run t u seg hh hu ht ?_ h1
  have h2 : i.toNat * d.sz + d.sz ≤ n * d.sz := by rw [← Nat.succ_mul]; exact Nat.mul_le_mul_right _ hil
  have h3 : n * d.sz ≤ cap * d.sz := Nat.mul_le_mul_right _ (by omega)
  omega
 rw [if_pos hw]
 unfold Oper.wp execOp
 simp only [ho, haddr, hx, Sem.run_bind, Sem.run_pure, Result.andThen_ok, hrun]
 show Kc (a.put o.dst undef) _
 rw [hN]
 exact h _ hrow hg
theorem relabel {α : Type} {d : Kd α} {e base : Nat} {ok : Nat → Prop} {w : World} {v : Value} {f : Nat → Nat} {zs : List (α × Nat)} {xs : List α} (g : Nat → Nat) (h : (Kd.tag f d).R e w base ok v zs) (hl : zs.length = xs.length)
  (hz : ∀ (j : Nat) (p : α), xs[j]? = some p → ∃ m, zs[j]? = some (p, m) ∧ g m = j) : Kd.S d e w base ok v xs := by
 obtain ⟨h0, inner, ho, hr⟩ := h
 refine ⟨fun k => g (f k), h0, inner, by rw [List.length_zipIdx, ← hl]; exact ho, by rw [List.length_zipIdx, ← hl]; exact hr.1, fun j p hj => ?_⟩
 rw [List.getElem?_zipIdx, Nat.zero_add] at hj
 obtain ⟨x, hx, rfl⟩ := Option.map_eq_some_iff.1 hj
 obtain ⟨m, hm, hg⟩ := hz j x hx
 exact d.M_mono (fun k hk => ⟨hk.1, by show g (f k) = j; rw [hk.2]; exact hg⟩) (hr.2 j (x, m) hm)
def cellPut.f (k : Nat) (xs : List S30) (x : S30) : Option (List S30) := (bsf_G1.f k xs x.f0 x.f1 x.f2 x.f3 x.f4).bind fun t =>
 if t.2 = true then (if 0 ≤ t.1 ∧ t.1 < (xs.length : Int) then ((cell_Join.f k (rd_T30 xs t.1).f0 (rd_T30 xs t.1).f1 (rd_T30 xs t.1).f2 (rd_T30 xs t.1).f3 (rd_T30 xs t.1).f4 x.f0 x.f1 x.f2 x.f3 x.f4).bind fun j => some (xs.set t.1.toNat ⟨j.1, j.2.1, j.2.2.1, j.2.2.2.1, j.2.2.2.2⟩)) else none)
 else (if 0 ≤ t.1 ∧ t.1 ≤ (xs.length : Int) ∧ (xs.length + 1) * 104 ≤ 140737488355328 then some (xs.take t.1.toNat ++ x :: xs.drop t.1.toNat) else none)
def cellPut.T1 : Bool × List (List Nat × List Nat) := (true, [([], []), ([0], [0]), ([1], [1]), ([2], [2]), ([], []), ([], []), ([5], [5]), ([6], [6]), ([7], [7]), ([3, 4, 8], [3, 4, 8]), ([9], [9]), ([10], [10]), ([10], [10]), ([11, 9, 0, 1, 2, 3, 4, 5, 6, 7, 8, 9, 10, 11], [11]), ([12, 13, 0, 1, 2, 3, 4, 5, 6, 7, 8, 9, 10, 11, 12, 13], [12])])
def cellPut.B1 : List Nat := [0, 1, 3, 7, 0, 0, 32, 96, 224, 511, 1023, 2047, 2047, 4095, 16383]
theorem cellPut.tab1 : rtab .any (opsOf Try.f47 1) = cellPut.T1 := by kernel_rfl
theorem cellPut.bits1 : waitsOk cellPut.T1.2 cellPut.B1 = true := by kernel_rfl
def cellPut.T3 : Bool × List (List Nat × List Nat) := (true, [([], []), ([0], [0]), ([1], [1]), ([2], [2]), ([], []), ([], []), ([], []), ([6], [6]), ([7], [7]), ([8], [8]), ([], []), ([9, 10], [9, 10]), ([11], [11]), ([], []), ([5, 12, 13], [5, 12, 13]), ([3, 4, 0, 1, 2, 3, 4, 5, 6, 7, 8, 9, 10, 11, 12, 13, 14], [3, 4]), ([15, 14, 14, 0, 1, 2, 3, 4, 5, 6, 7, 8, 9, 10, 11, 12, 13, 14], [14, 15])])
def cellPut.B3 : List Nat := [0, 1, 3, 7, 0, 0, 0, 64, 192, 448, 0, 1984, 4032, 0, 16352, 32767, 65535]
theorem cellPut.tab3 : rtab .any (opsOf Try.f47 3) = cellPut.T3 := by kernel_rfl
theorem cellPut.bits3 : waitsOk cellPut.T3.2 cellPut.B3 = true := by kernel_rfl
def cellPut.T4 : Bool × List (List Nat × List Nat) := (true, [([], []), ([], []), ([1], [1]), ([2], [2]), ([3], [3]), ([], []), ([], []), ([6], [6]), ([4, 5, 7], [4, 5, 7]), ([0, 0, 1, 2, 3, 4, 5, 6, 7, 8], [0]), ([9, 0, 1, 2, 3, 4, 5, 6, 7, 8], [9]), ([10, 8, 8, 0, 1, 2, 3, 4, 5, 6, 7, 8], [8, 10])])
def cellPut.B4 : List Nat := [0, 0, 2, 6, 14, 0, 0, 64, 254, 511, 1023, 2047]
theorem cellPut.tab4 : rtab .any (opsOf Try.f47 4) = cellPut.T4 := by kernel_rfl
theorem cellPut.bits4 : waitsOk cellPut.T4.2 cellPut.B4 = true := by kernel_rfl
set_option maxHeartbeats 8000000 in
set_option maxRecDepth 100000 in
theorem cellPut_calls (k og N0 : Nat) (v : Value) (xs : List S30) (x : S30) (cs : List Value) (r : List S30) (w0 w : World) (hog : w.heap[og]? = some (.cells #[v, .func (.func 46) #[] #[]] 65 (0, 0))) (hogb : w0.heap.size ≤ og) (hoN : og < N0) (hN : N0 ≤ w.heap.size) (hB : Below w0.heap.size w0 w)
    (hS : Kd.S k30 30 w w0.heap.size (fun k => k ≠ og ∧ k < N0) v xs) (hx : k30.M w w0.heap.size (fun k => N0 ≤ k) x cs) (h : cellPut.f k xs x = some r) :
    Calls Try.prog 47 #[.pointer (some ⟨og, 0, none⟩), .agg cs.toArray, .func (.func 21) #[] #[]] w fun e w' => e = .returned (.tuple #[]) ∧ ∃ v', w'.heap[og]? = some (.cells #[v', .func (.func 46) #[] #[]] 65 (0, 0)) ∧ Kd.S k30 30 w' w0.heap.size (fun k => k ≠ og) v' r ∧ Below w0.heap.size w0 w' := by
 have hu30 := Try.underlying30
 have hu65 := Try.underlying65
 obtain ⟨x0, x2, x3, x4, rfl, g0, g2, g3, g4⟩ := k30_openM hx
 obtain ⟨A0, c0, rfl⟩ := Kd.R_slice g0
 obtain ⟨A2, c2, rfl⟩ := Kd.R_slice g2
 obtain ⟨A3, c3, rfl⟩ := Kd.R_slice g3
 obtain ⟨A4, c4, rfl⟩ := Kd.R_slice g4
 obtain ⟨A, c, rfl⟩ := Kd.S_slice hS
 have G0 := am g0
 have G2 := am g2
 have G3 := am g3
 have G4 := am g4
 have HX := am hx
 have HS := am hS
 have HB := am hB
 have BKo := am hog
 have GEo := am hogb
 have HoN := am hoN
 have HN := am hN
 clear g0 g2 g3 g4 hx hS hB hog hogb hoN hN
 unfold cellPut.f at h
 replace h := Option.bind_eq_some_iff.mp h
 obtain ⟨⟨t1, t2⟩, A1, H⟩ := h
 have HA := am A1
 have HH := am H
 clear A1 H
 go_enter Try.func47, Try.ntmps47
 go_wp2_with (((with_reducible refine gate_dst (N := 4) rfl ?_); refine zX #[.slice A0 x.f0.length c0, .int .i64 x.f1, .slice A2 x.f2.length c2, .slice A3 x.f3.length c3, .slice A4 x.f4.length c4] 30 ?_; intro gb hg w3 hbox hb; have n0_ := am (below_step HB.out hb); have n1_ := am hbox; have n2_ := am (blk_below BKo.out hb); have n3_ := am (Kd.S_below HS.out hb); have n4_ := am (k30.M_move (fun k _ => rfl) HX.out); have n5_ := am (Kd.R_below G0.out hb); have n6_ := am (Kd.R_below G2.out hb); have n7_ := am (Kd.R_below G3.out hb); have n8_ := am (Kd.R_below G4.out hb); have n9_ := am (Kd.M_below HX.out hb); have na_ := am (show N0 ≤ gb ∧ N0 ≤ w3.heap.size by have := HN.out; have := hb.size; omega); clear HB BKo HS HX G0 G2 G3 G4 HN; have HB := n0_; have BKx := n1_; have BKo := n2_; have HS := n3_; have HX := n9_; have G0 := n5_; have G2 := n6_; have G3 := n7_; have G4 := n8_; have HN := na_; clear n0_ n1_ n2_ n3_ n4_ n5_ n6_ n7_ n8_ n9_ na_; clear hb hbox hg))

 refine start_ (n := 15) (S := fun w' => w'.cell? ⟨og, 0, none⟩ = some (.slice A xs.length c) ∧ w'.cell? ⟨og, 1, none⟩ = some (.func (.func 46) #[] #[]) ∧ w'.cell? ⟨gb, 0, none⟩ = some (.slice A0 x.f0.length c0) ∧ w'.cell? ⟨gb, 1, none⟩ = some (.int .i64 x.f1) ∧ w'.cell? ⟨gb, 2, none⟩ = some (.slice A2 x.f2.length c2) ∧ w'.cell? ⟨gb, 3, none⟩ = some (.slice A3 x.f3.length c3) ∧ w'.cell? ⟨gb, 4, none⟩ = some (.slice A4 x.f4.length c4)) (ds := []) (bb 15 0) (by kernel_rfl) rfl rfl ⟨bc BKo 0, bc BKo 1, bc BKx 0, bc BKx 1, bc BKx 2, bc BKx 3, bc BKx 4⟩ (fun hHeld => ?_); refine with_tabW cellPut.tab1 cellPut.bits1 (fun HT_ HW_ => ?_)
 have n0_ := am (below_drew1 HB.out)
 have n1_ := am (blk_drew BKx.out)
 have n2_ := am (blk_drew BKo.out)
 have n3_ := am (Kd.S_drew HS.out)
 have n4_ := am (Kd.M_below HX.out (below_drew (Below.refl _ _)))
 have n5_ := am (Kd.R_drew G0.out)
 have n6_ := am (Kd.R_drew G2.out)
 have n7_ := am (Kd.R_drew G3.out)
 have n8_ := am (Kd.R_drew G4.out)
 have n9_ : Aside0 (N0 ≤ gb ∧ N0 ≤ w3.drew.heap.size) := HN
 clear HB BKx BKo HS HX G0 G2 G3 G4 HN
 revert n0_ n1_ n2_ n3_ n4_ n5_ n6_ n7_ n8_ n9_
 intro HB BKx BKo HS HX G0 G2 G3 G4 HN
 generalize w3.drew = w4 at HB BKx BKo HS HX G0 G2 G3 G4 HN hHeld ⊢
 refine zu 0 (some 9) (bb 15 1) HT_ ?_
 refine zu 1 (some 10) (bb 15 3) HT_ ?_
 refine zu 2 (some 11) (bb 15 7) HT_ ?_
 refine zu 5 (some 14) (bb 15 39) HT_ ?_
 refine zu 6 (some 15) (bb 15 103) HT_ ?_
 refine zu 7 (some 16) (bb 15 231) HT_ ?_
 refine zk 3 (some 12) (bb 15 239) HT_ HW_ hHeld ?_
 refine zk 4 (some 13) (bb 15 255) HT_ HW_ hHeld ?_
 refine zk 8 (some 17) (bb 15 511) HT_ HW_ hHeld ?_
 refine zo 9 (some 18) (bb 15 1023) HT_ (fun K hK => ?_)
 refine goes_ Try.func64 (by kernel_rfl) rfl #[.slice A xs.length c, .agg #[.slice A0 x.f0.length c0, .int .i64 x.f1, .slice A2 x.f2.length c2, .slice A3 x.f3.length c3, .slice A4 x.f4.length c4], .func (.func 46) #[] #[]] (by rfl) rfl rfl (by (try simp only [List.map_toArray, List.map_cons, List.map_nil]); first | done | rfl) ?_
 refine (bsf_G1.calls k A c xs A0 c0 x.f0 x.f1 A2 c2 x.f2 A3 c3 x.f3 A4 c4 x.f4 t1 t2 _ (Kd.S_reads' HS.out).2.2 (Kd.S_reads' HS.out).2.1 (Kd.R_reads' G0.out).2.2 (Kd.R_reads' G0.out).2.1 (Kd.R_reads' G2.out).2.2 (Kd.R_reads' G2.out).2.1 (Kd.R_reads' G3.out).2.2 (Kd.R_reads' G3.out).2.1 (Kd.R_reads' G4.out).2.2 (Kd.R_reads' G4.out).2.1 HA.out).mono ?_
 rintro e w5 ⟨rfl, hb⟩
 refine ⟨_, rfl, ?_⟩
 have n0_ := am (below_step HB.out hb)
 have n1_ := am (blk_below BKx.out hb)
 have n2_ := am (blk_below BKo.out hb)
 have n3_ := am (Kd.S_below HS.out hb)
 have n4_ := am (Kd.M_below HX.out hb)
 have n5_ := am (Kd.R_below G0.out hb)
 have n6_ := am (Kd.R_below G2.out hb)
 have n7_ := am (Kd.R_below G3.out hb)
 have n8_ := am (Kd.R_below G4.out hb)
 have n9_ : Aside0 (N0 ≤ gb ∧ N0 ≤ w5.heap.size) := ⟨HN.out.1, Nat.le_trans HN.out.2 hb.size⟩
 clear HB BKx BKo HS HX G0 G2 G3 G4 HN
 revert n0_ n1_ n2_ n3_ n4_ n5_ n6_ n7_ n8_ n9_
 intro HB BKx BKo HS HX G0 G2 G3 G4 HN
 clear hb
 refine hK.out _ _ ⟨bc BKo 0, bc BKo 1, bc BKx 0, bc BKx 1, bc BKx 2, bc BKx 3, bc BKx 4⟩ (fun hHeld => ?_)
 clear hK K
 refine nm ?_
 refine zu 10 (some 8) (bb 15 2047) HT_ ?_
 refine zu 11 (some 19) (bb 15 4095) HT_ ?_
 refine zu 12 (some 20) (bb 15 8191) HT_ ?_
 refine zu 13 (some 6) (bb 15 16383) HT_ ?_
 refine zu 14 (some 7) (bb 15 32767) HT_ ?_
 refine done_ (done_of HT_.out (by kernel_rfl)) ?_
 have H := HH.out
 clear HH HA
 try dsimp only at H
 cases t2 with
 | true =>
  rw [if_pos rfl] at H
  by_cases hc : 0 ≤ t1 ∧ t1 < (xs.length : Int)
  · rw [if_pos hc] at H
    replace H := Option.bind_eq_some_iff.mp H
    obtain ⟨⟨j0, j1, j2, j3, j4⟩, AJ, H⟩ := H
    have HJ := am AJ
    have HRr := am (Option.some.inj H)
    clear H AJ
    obtain ⟨hc0, hc1⟩ := hc
    obtain ⟨ad, E0, d0, E2, d2, E3, d3, E4, d4, eA, q0, q1, q2, q3, q4, l0, K0, l2, K2, l3, K3, l4, K4⟩ := at_T30 (Kd.S_reads' HS.out).2.2 t1 hc0 hc1
    cases eA
    have Q0 := am q0
    have Q1 := am q1
    have Q2 := am q2
    have Q3 := am q3
    have Q4 := am q4
    have D0 := am (And.intro l0 (Kd.C_drew K0))
    have D2 := am (And.intro l2 (Kd.C_drew K2))
    have D3 := am (And.intro l3 (Kd.C_drew K3))
    have D4 := am (And.intro l4 (Kd.C_drew K4))
    clear q0 q1 q2 q3 q4 l0 K0 l2 K2 l3 K3 l4 K4
    have HC := am (And.intro hc0 hc1)
    replace hc0 := eq_true hc0
    replace hc1 := eq_true hc1
    go_wp2
    refine start_ (n := 17) (S := fun w' => w'.cell? ⟨og, 0, none⟩ = some (.slice (some ad) xs.length c) ∧ w'.cell? ⟨og, 1, none⟩ = some (.func (.func 46) #[] #[]) ∧ w'.cell? ⟨gb, 0, none⟩ = some (.slice A0 x.f0.length c0) ∧ w'.cell? ⟨gb, 1, none⟩ = some (.int .i64 x.f1) ∧ w'.cell? ⟨gb, 2, none⟩ = some (.slice A2 x.f2.length c2) ∧ w'.cell? ⟨gb, 3, none⟩ = some (.slice A3 x.f3.length c3) ∧ w'.cell? ⟨gb, 4, none⟩ = some (.slice A4 x.f4.length c4) ∧ w'.cell? (ad.add (t1.toNat * 5)) = some (.slice E0 (rd_T30 xs t1).f0.length d0) ∧ w'.cell? ⟨(ad.add (t1.toNat * 5)).block, (ad.add (t1.toNat * 5)).off + 1, none⟩ = some (.int .i64 (rd_T30 xs t1).f1) ∧ w'.cell? ⟨(ad.add (t1.toNat * 5)).block, (ad.add (t1.toNat * 5)).off + 2, none⟩ = some (.slice E2 (rd_T30 xs t1).f2.length d2) ∧ w'.cell? ⟨(ad.add (t1.toNat * 5)).block, (ad.add (t1.toNat * 5)).off + 3, none⟩ = some (.slice E3 (rd_T30 xs t1).f3.length d3) ∧ w'.cell? ⟨(ad.add (t1.toNat * 5)).block, (ad.add (t1.toNat * 5)).off + 4, none⟩ = some (.slice E4 (rd_T30 xs t1).f4.length d4)) (ds := [16]) (bb 17 0) (by kernel_rfl) rfl rfl ⟨bc BKo 0, bc BKo 1, bc BKx 0, bc BKx 1, bc BKx 2, bc BKx 3, bc BKx 4, Q0.out, Q1.out, Q2.out, Q3.out, Q4.out⟩ (fun hHeld => ?_); refine with_tabW cellPut.tab3 cellPut.bits3 (fun HT_ HW_ => ?_)
    clear Q0 Q1 Q2 Q3 Q4
    have n0_ := am (below_drew1 HB.out)
    have n1_ := am (blk_drew BKx.out)
    have n2_ := am (blk_drew BKo.out)
    have n3_ := am (Kd.S_drew HS.out)
    have n4_ := am (Kd.M_below HX.out (below_drew (Below.refl _ _)))
    have n5_ := am (Kd.R_drew G0.out)
    have n6_ := am (Kd.R_drew G2.out)
    have n7_ := am (Kd.R_drew G3.out)
    have n8_ := am (Kd.R_drew G4.out)
    have n9_ : Aside0 (N0 ≤ gb ∧ N0 ≤ w5.drew.heap.size) := HN
    clear HB BKx BKo HS HX G0 G2 G3 G4 HN
    revert n0_ n1_ n2_ n3_ n4_ n5_ n6_ n7_ n8_ n9_
    intro HB BKx BKo HS HX G0 G2 G3 G4 HN
    generalize w5.drew = w6 at HB BKx BKo HS HX G0 G2 G3 G4 HN D0 D2 D3 D4 hHeld ⊢
    refine zu 0 (some 22) (bb 17 1) HT_ ?_
    refine zu 1 (some 23) (bb 17 3) HT_ ?_
    refine zu 2 (some 24) (bb 17 7) HT_ ?_
    refine zu 4 (some 26) (bb 17 23) HT_ ?_
    refine zu 5 (some 27) (bb 17 55) HT_ ?_
    refine zu 6 (some 28) (bb 17 119) HT_ ?_
    refine zu 7 (some 29) (bb 17 247) HT_ ?_
    refine zu 8 (some 30) (bb 17 503) HT_ ?_
    refine zu 10 (some 32) (bb 17 1527) HT_ ?_
    refine zk 3 (some 25) (bb 17 1535) HT_ HW_ hHeld ?_
    refine zk 9 (some 31) (bb 17 2047) HT_ HW_ hHeld ?_
    refine zk 13 (some 35) (bb 17 10239) HT_ HW_ hHeld ?_
    refine zu 11 (some 33) (bb 17 12287) HT_ ?_
    refine zk 12 (some 34) (bb 17 16383) HT_ HW_ hHeld ?_
    refine zo 14 (some 36) (bb 17 32767) HT_ (fun K hK => ?_)
    refine goesv_ Try.func21 (by kernel_rfl) rfl #[.agg #[.slice E0 (rd_T30 xs t1).f0.length d0, .int .i64 (rd_T30 xs t1).f1, .slice E2 (rd_T30 xs t1).f2.length d2, .slice E3 (rd_T30 xs t1).f3.length d3, .slice E4 (rd_T30 xs t1).f4.length d4], .agg #[.slice A0 x.f0.length c0, .int .i64 x.f1, .slice A2 x.f2.length c2, .slice A3 x.f3.length c3, .slice A4 x.f4.length c4]] (by rfl) rfl rfl (by (try simp only [List.map_toArray, List.map_cons, List.map_nil]); first | done | rfl) ?_
    refine (cell_Join.calls k E0 d0 (rd_T30 xs t1).f0 (rd_T30 xs t1).f1 E2 d2 (rd_T30 xs t1).f2 E3 d3 (rd_T30 xs t1).f3 E4 d4 (rd_T30 xs t1).f4 A0 c0 x.f0 x.f1 A2 c2 x.f2 A3 c3 x.f3 A4 c4 x.f4 j0 j1 j2 j3 j4 _ D0.out.2 D0.out.1 D2.out.2 D2.out.1 D3.out.2 D3.out.1 D4.out.2 D4.out.1 (Kd.R_reads' G0.out).2.2 (Kd.R_reads' G0.out).2.1 (Kd.R_reads' G2.out).2.2 (Kd.R_reads' G2.out).2.1 (Kd.R_reads' G3.out).2.2 (Kd.R_reads' G3.out).2.1 (Kd.R_reads' G4.out).2.2 (Kd.R_reads' G4.out).2.1 HJ.out).mono ?_
    rintro e w7 ⟨v0, v2, v3, v4, rfl, o0, o2, o3, o4, hb⟩
    refine ⟨_, rfl, ?_⟩
    obtain ⟨B0, b0, rfl⟩ := Kd.R_slice o0
    obtain ⟨B2, b2, rfl⟩ := Kd.R_slice o2
    obtain ⟨B3, b3, rfl⟩ := Kd.R_slice o3
    obtain ⟨B4, b4, rfl⟩ := Kd.R_slice o4
    have hle : w0.heap.size ≤ w6.heap.size := HB.out.size
    have HM := am (k30_mkM w7 w0.heap.size (fun k => w6.heap.size ≤ k) (⟨j0, j1, j2, j3, j4⟩ : S30) (Kd.R_lower (Kd.R_mono (Kd.R_bound o0) (fun k hk => hk.2.1)) hle) (Kd.R_lower (Kd.R_mono (Kd.R_bound o2) (fun k hk => hk.2.1)) hle) (Kd.R_lower (Kd.R_mono (Kd.R_bound o3) (fun k hk => hk.2.1)) hle) (Kd.R_lower (Kd.R_mono (Kd.R_bound o4) (fun k hk => hk.2.1)) hle))
    have n0_ := am (below_step HB.out hb)
    have n1_ := am (blk_below BKx.out hb)
    have n2_ := am (blk_below BKo.out hb)
    have n3_ := am (Kd.S_below HS.out hb)
    have n9_ : Aside0 (N0 ≤ gb ∧ N0 ≤ w6.heap.size) := HN
    have na_ := am (blk_lt BKo.out)
    have nq_ : Aside0 (∀ p : Addr, p.block < w6.heap.size → w7.cell? p = w6.cell? p) := ⟨fun p hp => hb.cell hp⟩
    clear HB BKx BKo HS HX G0 G2 G3 G4 HN D0 D2 D3 D4 HJ
    revert n0_ n1_ n2_ n3_ n9_
    intro HB BKx BKo HS HN
    clear hb o0 o2 o3 o4 hle
    refine hK.out _ _ ⟨bc BKo 0, bc BKo 1, bc BKx 0, bc BKx 1, bc BKx 2, bc BKx 3, bc BKx 4, (nq_.out _ (World.block_lt_of_cell? _ _ hHeld.2.2.2.2.2.2.2.1)).trans hHeld.2.2.2.2.2.2.2.1, (nq_.out _ (World.block_lt_of_cell? _ _ hHeld.2.2.2.2.2.2.2.2.1)).trans hHeld.2.2.2.2.2.2.2.2.1, (nq_.out _ (World.block_lt_of_cell? _ _ hHeld.2.2.2.2.2.2.2.2.2.1)).trans hHeld.2.2.2.2.2.2.2.2.2.1, (nq_.out _ (World.block_lt_of_cell? _ _ hHeld.2.2.2.2.2.2.2.2.2.2.1)).trans hHeld.2.2.2.2.2.2.2.2.2.2.1, (nq_.out _ (World.block_lt_of_cell? _ _ hHeld.2.2.2.2.2.2.2.2.2.2.2)).trans hHeld.2.2.2.2.2.2.2.2.2.2.2⟩ (fun hHeld => ?_)
    clear hK K
    refine nm ?_
    clear nq_
    refine zu 15 (some 37) (bb 17 65535) HT_ ?_
    refine last_ (i := 16) (N := none) (bb 17 131071) rfl rfl (one_of HT_.out (by kernel_rfl)) (by decide) (fun K hK => ?_)
    obtain ⟨g, eg⟩ := Kd.R_head (Kd.S_R HS.out)
    subst eg
    obtain ⟨f, hf⟩ := HS.out
    have hf2 := Kd.R_mono (Kd.R_tag (f' := fun k => if w6.heap.size ≤ k then t1.toNat else f k) (Kd.R_mono hf (ok' := fun k => k ≠ og ∧ k < w6.heap.size) (fun k hk => ⟨hk.1, by have := HN.out; omega⟩)) (fun k hk _ => if_neg (by omega))) (ok' := fun k => k ≠ og) (fun k hk => hk.1)
    have hgo : g ≠ og ∧ g < w6.heap.size := by
      have := hf.1 g (by simp [Value.ownBlock])
      have := HN.out
      omega
    have hol := na_.out
    refine R_store_step (Kd.tag (fun k => if w6.heap.size ≤ k then t1.toNat else f k) k30) w0.heap.size (by rfl) rfl 30 (.tmp 37) (.tmp 36) rfl 30 (g := g) (n := xs.length) (cap := c) (o' := t1.toNat * 5) t1 xs.zipIdx ((⟨j0, j1, j2, j3, j4⟩ : S30), t1.toNat) _ [.slice B0 j0.length b0, .int .i64 j1, .slice B2 j2.length b2, .slice B3 j3.length b3, .slice B4 j4.length b4] [] (fun k => k ≠ og) (fun k => w6.heap.size ≤ k) ?haddr rfl rfl rfl (by kernel_rfl) rfl ?h1 hf2 HC.out.1 HC.out.2 ?hM ?hokp ?_
    case haddr => exact Eq.trans rfl (congrArg (fun p => Value.pointer (some p)) (by rw [Addr.add_lit, Nat.zero_add]))
    case h1 => intro q hq; simp only [List.mem_cons, List.not_mem_nil, or_false] at hq; rcases hq with rfl | rfl | rfl | rfl | rfl <;> rfl
    case hM => exact k30.M_mono (fun k hk => ⟨hk, if_pos hk⟩) HM.out
    case hokp => intro k hk; exact ⟨by omega, by omega⟩
    intro w8 hR hg
    have n0_ := am (blk_grown BKo.out hg (fun e => by injection e with e; omega))
    have n1_ := am (HB.out.grown hg HB.out.size (fun k e => by injection e with e; have := Kd.R_base hf k (by simp [Value.ownBlock, e]); omega))
    have n2_ := am (relabel (xs := xs.set t1.toNat (⟨j0, j1, j2, j3, j4⟩ : S30)) id hR (by simp) (fun q p hq => ⟨q, by
      rw [List.getElem?_set] at hq ⊢
      by_cases hqi : t1.toNat = q
      · subst hqi
        rw [if_pos rfl] at hq ⊢
        split at hq
        · rename_i hlt
          rw [if_pos (by rw [List.length_zipIdx]; exact hlt)]
          injection hq with hq
          rw [hq]
        · cases hq
      · rw [if_neg hqi] at hq ⊢
        exact Kd.zip_at hq, rfl⟩))
    clear hR hg hgo hol hf hf2
    refine hK.out _ _ ?_
    clear hK K
    refine done_ (done_of HT_.out (by kernel_rfl)) ?_
    have e := HRr.out
    subst e
    clear HRr
    try go_wp2
    go_end0
    exact ⟨rfl, _, n0_.out, n2_.out, n1_.out⟩
  · rw [if_neg hc] at H
    cases H
 | false =>
  rw [if_neg (by simp)] at H
  by_cases hc : 0 ≤ t1 ∧ t1 ≤ (xs.length : Int) ∧ (xs.length + 1) * 104 ≤ 140737488355328
  · rw [if_pos hc] at H
    have HRr := am (Option.some.inj H)
    clear H
    obtain ⟨hc0, hc1, hc2⟩ := hc
    obtain ⟨i, rfl⟩ := Int.eq_ofNat_of_zero_le hc0
    have HC := am (show i ≤ xs.length ∧ (xs.length + 1) * 104 ≤ 140737488355328 by omega)
    clear hc0 hc1 hc2
    go_wp2
    refine start_ (n := 12) (S := fun w' => w'.cell? ⟨og, 0, none⟩ = some (.slice A xs.length c) ∧ w'.cell? ⟨og, 1, none⟩ = some (.func (.func 46) #[] #[]) ∧ w'.cell? ⟨gb, 0, none⟩ = some (.slice A0 x.f0.length c0) ∧ w'.cell? ⟨gb, 1, none⟩ = some (.int .i64 x.f1) ∧ w'.cell? ⟨gb, 2, none⟩ = some (.slice A2 x.f2.length c2) ∧ w'.cell? ⟨gb, 3, none⟩ = some (.slice A3 x.f3.length c3) ∧ w'.cell? ⟨gb, 4, none⟩ = some (.slice A4 x.f4.length c4)) (ds := [11]) (bb 12 0) (by kernel_rfl) rfl rfl ⟨bc BKo 0, bc BKo 1, bc BKx 0, bc BKx 1, bc BKx 2, bc BKx 3, bc BKx 4⟩ (fun hHeld => ?_); refine with_tabW cellPut.tab4 cellPut.bits4 (fun HT_ HW_ => ?_)
    have n0_ := am (below_drew1 HB.out)
    have n1_ := am (blk_drew BKx.out)
    have n2_ := am (blk_drew BKo.out)
    have n3_ := am (Kd.S_drew HS.out)
    have n4_ := am (Kd.M_below HX.out (below_drew (Below.refl _ _)))
    have n5_ := am (Kd.R_drew G0.out)
    have n6_ := am (Kd.R_drew G2.out)
    have n7_ := am (Kd.R_drew G3.out)
    have n8_ := am (Kd.R_drew G4.out)
    have n9_ : Aside0 (N0 ≤ gb ∧ N0 ≤ w5.drew.heap.size) := HN
    clear HB BKx BKo HS HX G0 G2 G3 G4 HN
    revert n0_ n1_ n2_ n3_ n4_ n5_ n6_ n7_ n8_ n9_
    intro HB BKx BKo HS HX G0 G2 G3 G4 HN
    generalize w5.drew = w6 at HB BKx BKo HS HX G0 G2 G3 G4 HN hHeld ⊢
    refine zu 0 (some 38) (bb 12 1) HT_ ?_
    refine zu 1 (some 39) (bb 12 3) HT_ ?_
    refine zu 2 (some 40) (bb 12 7) HT_ ?_
    refine zu 3 (some 41) (bb 12 15) HT_ ?_
    refine zu 5 (some 43) (bb 12 47) HT_ ?_
    refine zk 4 (some 42) (bb 12 63) HT_ HW_ hHeld ?_
    refine zk 6 (some 44) (bb 12 127) HT_ HW_ hHeld ?_
    refine zo 7 (some 45) (bb 12 255) HT_ (fun K hK => ?_)
    refine value_ (w1 := w6.alloc (.cells #[.slice A0 x.f0.length c0, .int .i64 x.f1, .slice A2 x.f2.length c2, .slice A3 x.f3.length c3, .slice A4 x.f4.length c4] 30)) (v := .slice (some ⟨w6.heap.size, 0, none⟩) 1 1) (by rfl) rfl (by go_simp; first | done | rfl | (constructor <;> rfl)) ?_
    have hnew := blk_new w6 (.cells #[.slice A0 x.f0.length c0, .int .i64 x.f1, .slice A2 x.f2.length c2, .slice A3 x.f3.length c3, .slice A4 x.f4.length c4] 30)
    have hb := below_alloc (Below.refl w6.heap.size w6) (.cells #[.slice A0 x.f0.length c0, .int .i64 x.f1, .slice A2 x.f2.length c2, .slice A3 x.f3.length c3, .slice A4 x.f4.length c4] 30)
    generalize w6.alloc (.cells #[.slice A0 x.f0.length c0, .int .i64 x.f1, .slice A2 x.f2.length c2, .slice A3 x.f3.length c3, .slice A4 x.f4.length c4] 30) = w7 at hnew hb ⊢
    have n0_ := am (below_step HB.out hb)
    have n1_ := am (blk_below BKx.out hb)
    have n2_ := am (blk_below BKo.out hb)
    have n3_ := am (Kd.S_below HS.out hb)
    have n4_ := am (Kd.M_below HX.out hb)
    have n9_ : Aside0 (N0 ≤ gb ∧ N0 ≤ w6.heap.size ∧ w6.heap.size ≤ w7.heap.size) := ⟨HN.out.1, HN.out.2, hb.size⟩
    have HV := am hnew
    clear HB BKx BKo HS HX G0 G2 G3 G4 HN hnew
    revert n0_ n1_ n2_ n3_ n4_ n9_
    intro HB BKx BKo HS HX HN
    clear hb
    refine hK.out _ _ ⟨bc BKo 0, bc BKo 1, bc BKx 0, bc BKx 1, bc BKx 2, bc BKx 3, bc BKx 4⟩ (fun hHeld => ?_)
    clear hK K
    refine nm ?_
    refine zo 8 (some 46) (bb 12 511) HT_ (fun K hK => ?_)
    obtain ⟨f, hf⟩ := HS.out
    have hf2 := Kd.R_mono (Kd.R_tag (f' := fun k => if N0 ≤ k then xs.length else f k) hf (fun k hk _ => if_neg (by omega))) (ok' := fun k => k ≠ og) (fun k hk => hk.1)
    have hxx : (Kd.tag (fun k => if N0 ≤ k then xs.length else f k) k30).M w7 w0.heap.size (fun k => N0 ≤ k) (x, xs.length) [.slice A0 x.f0.length c0, .int .i64 x.f1, .slice A2 x.f2.length c2, .slice A3 x.f3.length c3, .slice A4 x.f4.length c4] := k30.M_mono (fun k hk => ⟨hk, if_pos hk⟩) HX.out
    refine goes_ Try.func65 (by kernel_rfl) rfl #[.slice A xs.length c, .int .i64 i, .slice (some ⟨w6.heap.size, 0, none⟩) 1 1] (by rfl) rfl rfl (by (try simp only [List.map_toArray, List.map_cons, List.map_nil]); first | done | rfl) ?_
    refine (insert_calls (Kd.tag (fun k => if N0 ≤ k then xs.length else f k) k30) rfl (.slice A xs.length c) xs.zipIdx i (by rw [List.length_zipIdx]; exact HC.out.1) w6.heap.size 1 (Nat.le_refl _) (x, xs.length) [.slice A0 x.f0.length c0, .int .i64 x.f1, .slice A2 x.f2.length c2, .slice A3 x.f3.length c3, .slice A4 x.f4.length c4] (0, 0) 30 w7 w0.heap.size (fun k => k ≠ og) (fun k => N0 ≤ k) hf2 hxx (fun k hk => ⟨by have := HoN.out; omega, fun e => by have := hf.1 k e.symm; omega⟩) HV.out (fun e => by have := hf.1 _ e.symm; have := HN.out; omega) (fun k hk => by have := HN.out; have := HoN.out; omega) HB.out.size (by rw [List.length_zipIdx]; exact HC.out.2)).mono ?_
    rintro e w8 ⟨v', rfl, hR, hg, hat⟩
    refine ⟨_, rfl, ?_⟩
    have hog2 : some og ≠ (Value.slice A xs.length c).ownBlock := fun e => by have := hf.1 og e.symm; omega
    have hl9 : ∀ kk, v'.ownBlock = some kk → kk ≠ og := fun kk e => hR.1 kk e
    have n0_ := am (blk_grown BKo.out hg hog2)
    have n1_ := am (HB.out.grown hg HB.out.size (fun k e => Kd.R_base hf k e))
    have n5_ := am (blk_grown BKx.out hg (fun e => by have := hf.1 gb e.symm; have := HN.out; omega))
    have n2_ := am (relabel (xs := xs.take i ++ x :: xs.drop i) (fun m => if m < i then m else if m = xs.length then i else m + 1) hR (by simp) (fun q p hq => by
      have hil := HC.out.1
      rw [List.getElem?_append] at hq ⊢
      rw [List.length_take, Nat.min_eq_left hil] at hq
      rw [List.length_take, List.length_zipIdx, Nat.min_eq_left hil]
      by_cases h1 : q < i
      · rw [if_pos h1] at hq
        refine ⟨q, ?_, if_pos h1⟩
        rw [if_pos h1, List.getElem?_take, if_pos h1]
        rw [List.getElem?_take, if_pos h1] at hq
        exact Kd.zip_at hq
      · rw [if_neg h1] at hq
        rcases Nat.eq_or_lt_of_le (Nat.le_of_not_lt h1) with h2 | h2
        · subst h2
          rw [Nat.sub_self] at hq
          refine ⟨xs.length, ?_, ?_⟩
          · rw [if_neg h1, Nat.sub_self]
            simp only [List.getElem?_cons_zero] at hq ⊢
            injection hq with hq
            rw [hq]
          · show (if xs.length < i then xs.length else if xs.length = xs.length then i else xs.length + 1) = i
            rw [if_neg (by omega), if_pos rfl]
        · obtain ⟨s, hs⟩ : ∃ s, q - i = s + 1 := ⟨q - i - 1, by omega⟩
          rw [hs, List.getElem?_cons_succ, List.getElem?_drop] at hq
          have hlt := (List.getElem?_eq_some_iff.1 hq).1
          refine ⟨i + s, ?_, ?_⟩
          · rw [if_neg h1, hs, List.getElem?_cons_succ, List.getElem?_drop]
            exact Kd.zip_at hq
          · show (if i + s < i then i + s else if i + s = xs.length then i else i + s + 1) = q
            rw [if_neg (by omega), if_neg (by omega)]
            omega))
    obtain ⟨ys, hys⟩ : ∃ ys, ys = xs.take i ++ x :: xs.drop i := ⟨_, rfl⟩
    have n3_ := n2_.out
    rw [← hys] at n3_
    obtain ⟨A', c', ev⟩ := Kd.S_slice n3_
    subst ev
    have HY := am hys
    clear hys n2_
    have n2_ := am n3_
    clear n3_
    clear HB BKx BKo HS HX HN HV hR hg hat hf hf2 hxx hog2
    have HB := n1_
    have BKo := n0_
    have BKx := n5_
    have HS := n2_
    clear n0_ n1_ n2_ n5_
    refine hK.out _ _ ⟨bc BKo 0, bc BKo 1, bc BKx 0, bc BKx 1, bc BKx 2, bc BKx 3, bc BKx 4⟩ (fun hHeld => ?_)
    clear hK K
    refine nm ?_
    refine zu 9 (some 47) (bb 12 1023) HT_ ?_
    refine zu 10 (some 48) (bb 12 2047) HT_ ?_
    refine last_ (i := 11) (N := none) (bb 12 4095) rfl rfl (one_of HT_.out (by kernel_rfl)) (by decide) (fun K hK => ?_)
    have hs22 := (blk_cell BKo.out 0).trans rfl
    have hfs22 := blk_frozen BKo.out 0
    refine skip_ (w1 := ?_) (by rfl) rfl ?_ ?_
    rotate_left
    ·go_simp
     rfl
    refine hK.out _ _ ?_
    clear hK K hs22 hfs22
    refine done_ (done_of HT_.out (by kernel_rfl)) ?_
    have e : ys = r := HY.out.trans HRr.out
    subst e
    clear HRr HY
    try go_wp2
    go_end0
    exact ⟨rfl, _, blk_put BKo.out 0 _ rfl, Kd.S_far HS.out (fun k hk => hk) _, below_set HB.out GEo.out⟩
  · rw [if_neg hc] at H
    cases H
end Go.Proofs.Ytmkjkkmilopcpaa.Q
