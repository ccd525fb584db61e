-- packed by wip/tools/pack.py (a program of this session) out of its own texts
import Derived.Test.YtmnepkbmcnpjlaaPRunsOwn0
import Derived.ArgAppend
import Derived.Below
import Derived.BigQuiet
import Derived.Deep.AppendLies
import Derived.Deep.CutBlock
import Derived.Deep.DeepCutAuto
import Derived.Deep.Draws
import Derived.Deep.LoopGhost
import Derived.Deep.OwnRows
import Derived.Deep.QuietTactic
import Derived.Deep.RegionHeld3
import Derived.KernelRfl
import Derived.Laws.BitsLemmas
import Derived.Laws.BytesArg
import Derived.Laws.IdiomCopy
import Derived.Laws.MakeOwn
import Derived.Laws.OwnMore
import Derived.Laws.Rows
import Derived.Laws.Slices
import Derived.Lib.AppendStr
import Derived.Lib.ConvBytes
import Derived.Maps.AppendAt
import Derived.OrdersHeld
import Derived.OwnWalk
import Derived.RowKit
import Derived.RowKit3
import Derived.Tactics
import Derived.Test.YtmnepkbmcnpjlaaProg
import Derived.WalkKit
import Derived.WideLaws
import Derived.Test.YtmnepkbmcnpjlaaPRunsOwn1
import Derived.Test.YtmnepkbmcnpjlaaPRunsOwn3
import Derived.Test.YtmnepkbmcnpjlaaPRunsOwn4
import Derived.Test.YtmnepkbmcnpjlaaPRunsOwn5
import Derived.Test.YtmnepkbmcnpjlaaPRunsOwn6
namespace Go.Proofs.Ytmnepkbmcnpjlaa.Q
open Go.RowKit Go.Proofs.YtmnepkbmcnpjlaaW.PrintWords Go.Proofs.YtmnepkbmcnpjlaaW.PrintLast Go.Proofs.YtmnepkbmcnpjlaaW.PrintMore
attribute [local go_sem] max2_int min2_int max_two min_two max_three min_three max_four min_four
set_option linter.unusedVariables false
set_option linter.unusedSimpArgs false
def bsf_G1.l0 : Nat → List (S41) → Int → Int → Int → List Int → Int → List Int → List Int → List Int → Option (Int × Bool)
 | 0, _, _, _, _, _, _, _, _, _ => none
 | k + 1, x0, x8, x9, x10, x119000, x119001, x119002, x119003, x119004 => if x9 < x10 then (if 0 ≤ (wrap64 ((IntKind.u64.wrap (wrap64 (x9 + x10))) / 2)) then (if (wrap64 ((IntKind.u64.wrap (wrap64 (x9 + x10))) / 2)) < (x0.length : Int) then ((cell_Group_1.f k ((rd_T41 x0 (wrap64 ((IntKind.u64.wrap (wrap64 (x9 + x10))) / 2))).f0) ((rd_T41 x0 (wrap64 ((IntKind.u64.wrap (wrap64 (x9 + x10))) / 2))).f1) ((rd_T41 x0 (wrap64 ((IntKind.u64.wrap (wrap64 (x9 + x10))) / 2))).f2) ((rd_T41 x0 (wrap64 ((IntKind.u64.wrap (wrap64 (x9 + x10))) / 2))).f3) ((rd_T41 x0 (wrap64 ((IntKind.u64.wrap (wrap64 (x9 + x10))) / 2))).f4) x119000 x119001 x119002 x119003 x119004).bind fun t120 => (if t120 < 0 then (bsf_G1.l0 k x0 x8 (wrap64 ((wrap64 ((IntKind.u64.wrap (wrap64 (x9 + x10))) / 2)) + 1)) x10 x119000 x119001 x119002 x119003 x119004) else (bsf_G1.l0 k x0 x8 x9 (wrap64 ((IntKind.u64.wrap (wrap64 (x9 + x10))) / 2)) x119000 x119001 x119002 x119003 x119004))) else (none)) else (none)) else (if x9 < x8 then (if 0 ≤ x9 then (if x9 < (x0.length : Int) then ((cell_Group_1.f k ((rd_T41 x0 x9).f0) ((rd_T41 x0 x9).f1) ((rd_T41 x0 x9).f2) ((rd_T41 x0 x9).f3) ((rd_T41 x0 x9).f4) x119000 x119001 x119002 x119003 x119004).bind fun t122 => (some (x9, (t122 == 0)))) else (none)) else (none)) else (some (x9, false)))
def bsf_G1.f (k : Nat) (l0 : List (S41)) (l1_0 : List Int) (a1_1 : Int) (l1_2 : List Int) (l1_3 : List Int) (l1_4 : List Int) : Option (Int × Bool) := bsf_G1.l0 k l0 (l0.length : Int) 0 (l0.length : Int) l1_0 a1_1 l1_2 l1_3 l1_4
def bsf_G1.T5 : Bool × List (List Nat × List Nat) := (true, [([], []), ([], []), ([], []), ([1, 2], [1, 2]), ([3], [3]), ([], []), ([0, 4, 5], [0, 4, 5]), ([6], [6])])
def bsf_G1.B5 : List Nat := [0, 0, 0, 6, 14, 0, 63, 127]
theorem bsf_G1.tab5 : rtab .any (opsOf Try.f37 5) = bsf_G1.T5 := by kernel_rfl
theorem bsf_G1.bits5 : waitsOk bsf_G1.T5.2 bsf_G1.B5 = true := by kernel_rfl
def bsf_G1.T8 : Bool × List (List Nat × List Nat) := (true, [([], []), ([], []), ([], []), ([1, 2], [1, 2]), ([3], [3]), ([4], [4]), ([4], [4]), ([4], [4]), ([6, 7, 4], [4, 6, 7]), ([8, 4], [4, 8]), ([4], [4]), ([5, 9, 10, 4, 4], [4, 5, 9, 10]), ([11, 4], [4, 11]), ([4, 12], [4, 12]), ([0, 11, 0], [0]), ([13, 14, 0, 1, 2, 3, 4, 5, 6, 7, 8, 9, 10, 11, 12, 13, 14], [13])])
def bsf_G1.B8 : List Nat := [0, 0, 0, 6, 14, 30, 30, 30, 222, 478, 30, 2046, 4094, 8190, 4095, 32767]
theorem bsf_G1.tab8 : rtab .any (opsOf Try.f37 8) = bsf_G1.T8 := by kernel_rfl
theorem bsf_G1.bits8 : waitsOk bsf_G1.T8.2 bsf_G1.B8 = true := by kernel_rfl
set_option maxHeartbeats 8000000 in
set_option maxRecDepth 100000 in
theorem bsf_G1.calls (k : Nat) (A0 : Option Addr) (c0 : Nat) (l0 : List (S41)) (A1_0 : Option Addr) (c1_0 : Nat) (l1_0 : List Int) (a1_1 : Int) (A1_2 : Option Addr) (c1_2 : Nat) (l1_2 : List Int) (A1_3 : Option Addr) (c1_3 : Nat) (l1_3 : List Int) (A1_4 : Option Addr) (c1_4 : Nat) (l1_4 : List Int) (r1 : Int) (r2 : Bool) (w : World) (hr0 : Kd.C k41 w A0 l0.length l0) (hc0 : l0.length ≤ c0) (hr1_0 : Kd.C (Kd.int .i64) w A1_0 l1_0.length l1_0) (hc1_0 : l1_0.length ≤ c1_0) (hr1_2 : Kd.C (Kd.int .i64) w A1_2 l1_2.length l1_2) (hc1_2 : l1_2.length ≤ c1_2) (hr1_3 : Kd.C (Kd.int .i64) w A1_3 l1_3.length l1_3) (hc1_3 : l1_3.length ≤ c1_3) (hr1_4 : Kd.C (Kd.int .i64) w A1_4 l1_4.length l1_4) (hc1_4 : l1_4.length ≤ c1_4) (h : bsf_G1.f k l0 l1_0 a1_1 l1_2 l1_3 l1_4 = some (r1, r2)) :
  Calls Try.prog 37 #[.slice A0 l0.length c0, .agg #[.slice A1_0 l1_0.length c1_0, .int .i64 a1_1, .slice A1_2 l1_2.length c1_2, .slice A1_3 l1_3.length c1_3, .slice A1_4 l1_4.length c1_4], .func (.func 53) #[] #[]] w fun e w' => e = .returned (.tuple #[.int .i64 r1, .bool r2]) ∧ Below w.heap.size w w' := by
 have hu41 := Try.underlying41
 have HR0 := am hr0
 have HC0 := am hc0
 clear hr0 hc0
 have HR1_0 := am hr1_0
 have HC1_0 := am hc1_0
 clear hr1_0 hc1_0
 have HR1_2 := am hr1_2
 have HC1_2 := am hc1_2
 clear hr1_2 hc1_2
 have HR1_3 := am hr1_3
 have HC1_3 := am hc1_3
 clear hr1_3 hc1_3
 have HR1_4 := am hr1_4
 have HC1_4 := am hc1_4
 clear hr1_4 hc1_4
 have HB := am (Below.refl w.heap.size w)
 have H : (bsf_G1.l0 k l0 (l0.length : Int) 0 (l0.length : Int) l1_0 a1_1 l1_2 l1_3 l1_4) = some (r1, r2) := h
 clear h
 have H' := am H
 clear H
 go_enter Try.func37, Try.ntmps37
 go_wp2_with (first | ((with_reducible refine gate_dst (N := 4) rfl ?_); refine box_event ?hg (N := 4) ?hd (cs := #[.slice A1_0 l1_0.length c1_0, .int .i64 a1_1, .slice A1_2 l1_2.length c1_2, .slice A1_3 l1_3.length c1_3, .slice A1_4 l1_4.length c1_4]) (t := 41) ?hr ?_; (case hd => rfl); (case hg => rfl); (case hr => first | (go_simp; done) | (go_simp; rfl)); intro gb118 hg w3 hbox hb; have n0_ := am (below_step (by repeat (first | (with_reducible first | exact HB.out | apply below_alloc | apply pw_below_drewN | apply below_drew1) | exact HB.out)) hb); have n1_ := am (hbox); have n2_ := am ((by rw [hg]; exact (below_size (by repeat (first | (with_reducible first | exact HB.out | apply below_alloc | apply pw_below_drewN | apply below_drew1) | exact HB.out))) : w.heap.size ≤ gb118)); have n3_ := am ((by rw [hg]; exact (below_size (by repeat (first | (with_reducible first | exact HB.out | apply below_alloc | apply pw_below_drewN | apply below_drew1) | exact HB.out))) : w.heap.size ≤ gb118)); clear HB; have HB := n0_; have BK118 := n1_; have GW118 := n2_; have GE118 := n3_; clear n0_ n1_ n2_ n3_; clear hb hbox hg))
 go_loopg [9, 10] k (fun kq v9 v10 w' => ∃ (x9_1 : Int) (x10_1 : Int), v9 = .int .i64 x9_1 ∧ v10 = .int .i64 x10_1 ∧ Aside0 (bsf_G1.l0 kq l0 (l0.length : Int) x9_1 x10_1 l1_0 a1_1 l1_2 l1_3 l1_4 = some (r1, r2)) ∧ Aside0 (kq ≤ k) ∧ Aside0 (w'.heap[gb118]? = some (.cells #[(.slice A1_0 l1_0.length c1_0), .int .i64 a1_1, (.slice A1_2 l1_2.length c1_2), (.slice A1_3 l1_3.length c1_3), (.slice A1_4 l1_4.length c1_4)] 41 (0, 0))) ∧ Aside0 (Below w.heap.size w w'))
 case atStart => exact ⟨(0), ((l0.length : Int)), (by first | rfl | (simp; done) | (simp [*]; done)), (by first | rfl | (simp; done) | (simp [*]; done)), H', ⟨Nat.le_refl _⟩, ⟨by (with_reducible repeat (first | refine blk_drewN ?_ _ | refine blk_drew ?_ | refine blk_alloc ?_ _)); exact BK118.out⟩, ⟨by repeat (first | (with_reducible first | exact HB.out | apply below_alloc | apply pw_below_drewN | apply below_drew1 | refine below_set ?_ GE118.out) | exact HB.out)⟩⟩
 case round =>
  clear H'
  try clear c1
  try clear p2
  obtain ⟨x9_1, x10_1, rfl, rfl, HA, HK1, BK118, HB⟩ := hrel
  cases gk with
  | zero => exact absurd HA.out (by simp [bsf_G1.l0])
  | succ k1 =>
   have H := HA.out
   clear HA
   simp only [bsf_G1.l0] at H
   by_cases c4 : x9_1 < x10_1
   ·rw [if_pos c4] at H
    have c4b0 : decide (x9_1 < x10_1) = true := decide_eq_true c4
    clear c4
    obtain ⟨ji5, hji5⟩ : ∃ j_ : Int, (wrap64 ((IntKind.u64.wrap (wrap64 (x9_1 + x10_1))) / 2)) = j_ := ⟨_, rfl⟩
    replace H : (if 0 ≤ (ji5) then (if (ji5) < (l0.length : Int) then ((cell_Group_1.f k1 ((rd_T41 l0 (ji5)).f0) ((rd_T41 l0 (ji5)).f1) ((rd_T41 l0 (ji5)).f2) ((rd_T41 l0 (ji5)).f3) ((rd_T41 l0 (ji5)).f4) l1_0 a1_1 l1_2 l1_3 l1_4).bind fun t120 => (if t120 < 0 then (bsf_G1.l0 k1 l0 (l0.length : Int) (wrap64 ((ji5) + 1)) x10_1 l1_0 a1_1 l1_2 l1_3 l1_4) else (bsf_G1.l0 k1 l0 (l0.length : Int) x9_1 ji5 l1_0 a1_1 l1_2 l1_3 l1_4))) else (none)) else (none)) = some (r1, r2) := by first | (rw [hji5] at H; exact H) | (simp only [hji5] at H ⊢; exact H)
    have hji5w : (IntKind.i64.wrap ((IntKind.u64.wrap (wrap64 (x9_1 + x10_1))) / 2)) = ji5 := (i64_w _).trans hji5
    by_cases c6 : 0 ≤ (ji5)
    ·rw [if_pos c6] at H
     have c6b0 : decide (0 ≤ (ji5)) = true := decide_eq_true c6
     clear c6
     by_cases c7 : (ji5) < (l0.length : Int)
     ·rw [if_pos c7] at H
      have c7b0 : decide ((ji5) < (l0.length : Int)) = true := decide_eq_true c7
      clear c7
      replace H := Option.bind_eq_some_iff.mp H
      obtain ⟨t120, A80, H⟩ := H
      replace H : (if t120 < 0 then (bsf_G1.l0 k1 l0 (l0.length : Int) (wrap64 ((ji5) + 1)) x10_1 l1_0 a1_1 l1_2 l1_3 l1_4) else (bsf_G1.l0 k1 l0 (l0.length : Int) x9_1 ji5 l1_0 a1_1 l1_2 l1_3 l1_4)) = some (r1, r2) := H
      have A8 := am A80
      clear A80
      by_cases c9 : t120 < 0
      ·rw [if_pos c9] at H
       have c9b0 : decide (t120 < 0) = true := decide_eq_true c9
       clear c9
       have H' := am H
       clear H
       try go_wp2
       have n0_ := am (blk_drew BK118.out)
       have n1_ := am (below_drew1 HB.out)
       clear BK118
       clear HB
       have BK118 := n0_
       have HB := n1_
       clear n0_ n1_
       have p119 : 0 ≤ ((ji5) : Int) := of_decide_eq_true (by first | (with_reducible assumption) | assumption)
       have q119 : (ji5) < (l0.length : Int) := of_decide_eq_true (by first | (with_reducible assumption) | assumption)
       obtain ⟨ad119, A119_0, c119_0, A119_2, c119_2, A119_3, c119_3, A119_4, c119_4, e119, hx119_0, hx119_1, hx119_2, hx119_3, hx119_4, hl119_0, hi119_0, hl119_2, hi119_2, hl119_3, hi119_3, hl119_4, hi119_4⟩ := at_T41 HR0.out (ji5) p119 q119
       have hw119_4 := hx119_4
       have hw119_3 := hx119_3
       have hw119_2 := hx119_2
       have hw119_1 := hx119_1
       have hw119_0 := hx119_0
       cases e119
       replace hx119_0 := (HB.out.cell (World.block_lt_of_cell? w _ hx119_0)).trans hx119_0
       replace hx119_1 := (HB.out.cell (World.block_lt_of_cell? w _ hx119_1)).trans hx119_1
       replace hx119_2 := (HB.out.cell (World.block_lt_of_cell? w _ hx119_2)).trans hx119_2
       replace hx119_3 := (HB.out.cell (World.block_lt_of_cell? w _ hx119_3)).trans hx119_3
       replace hx119_4 := (HB.out.cell (World.block_lt_of_cell? w _ hx119_4)).trans hx119_4
       have HR119_0 := am hi119_0
       have HC119_0 := am hl119_0
       clear hi119_0 hl119_0
       have HR119_2 := am hi119_2
       have HC119_2 := am hl119_2
       clear hi119_2 hl119_2
       have HR119_3 := am hi119_3
       have HC119_3 := am hl119_3
       clear hi119_3 hl119_3
       have HR119_4 := am hi119_4
       have HC119_4 := am hl119_4
       clear hi119_4 hl119_4
       replace p119 := eq_true p119
       replace q119 := eq_true q119
       refine start_ (n := 8) (S := fun w' => w'.cell? ⟨gb118, 0, none⟩ = some (.slice A1_0 l1_0.length c1_0) ∧ w'.cell? ⟨gb118, 1, none⟩ = some (.int .i64 a1_1) ∧ w'.cell? ⟨gb118, 2, none⟩ = some (.slice A1_2 l1_2.length c1_2) ∧ w'.cell? ⟨gb118, 3, none⟩ = some (.slice A1_3 l1_3.length c1_3) ∧ w'.cell? ⟨gb118, 4, none⟩ = some (.slice A1_4 l1_4.length c1_4) ∧ w'.cell? (ad119.add (((ji5)).toNat * 5)) = some (.slice A119_0 ((rd_T41 l0 (ji5)).f0).length c119_0) ∧ w'.cell? ⟨(ad119.add (((ji5)).toNat * 5)).block, (ad119.add (((ji5)).toNat * 5)).off + 1, none⟩ = some (.int .i64 ((rd_T41 l0 (ji5)).f1)) ∧ w'.cell? ⟨(ad119.add (((ji5)).toNat * 5)).block, (ad119.add (((ji5)).toNat * 5)).off + 2, none⟩ = some (.slice A119_2 ((rd_T41 l0 (ji5)).f2).length c119_2) ∧ w'.cell? ⟨(ad119.add (((ji5)).toNat * 5)).block, (ad119.add (((ji5)).toNat * 5)).off + 3, none⟩ = some (.slice A119_3 ((rd_T41 l0 (ji5)).f3).length c119_3) ∧ w'.cell? ⟨(ad119.add (((ji5)).toNat * 5)).block, (ad119.add (((ji5)).toNat * 5)).off + 4, none⟩ = some (.slice A119_4 ((rd_T41 l0 (ji5)).f4).length c119_4)) (ds := []) (bb 8 0) (by kernel_rfl) rfl rfl ⟨(blk_cell BK118.out 0).trans rfl, (blk_cell BK118.out 1).trans rfl, (blk_cell BK118.out 2).trans rfl, (blk_cell BK118.out 3).trans rfl, (blk_cell BK118.out 4).trans rfl, ((HB.out.cell (World.block_lt_of_cell? w _ hw119_0)).trans hw119_0), ((HB.out.cell (World.block_lt_of_cell? w _ hw119_1)).trans hw119_1), ((HB.out.cell (World.block_lt_of_cell? w _ hw119_2)).trans hw119_2), ((HB.out.cell (World.block_lt_of_cell? w _ hw119_3)).trans hw119_3), ((HB.out.cell (World.block_lt_of_cell? w _ hw119_4)).trans hw119_4)⟩ (fun hHeld => ?_); refine with_tabW bsf_G1.tab5 bsf_G1.bits5 (fun HT_ HW_ => ?_)
       generalize wr.drew = w10 at BK118 HB HR119_0 HR119_2 HR119_3 HR119_4 hx119_0 hx119_1 hx119_2 hx119_3 hx119_4 hHeld ⊢
       refine pure_ (i := 0) (N := some 24) (v := ?_) (a' := ?_) (bb 8 1) rfl rfl (any_of HT_.out (by kernel_rfl)) (fun _ _ _ h => h) (Or.inl ⟨by rfl, ?_⟩) ?_ ?_
       rotate_left
       ·intro w'
        go_simp
        with_reducible rfl
       rotate_left
       ·simp only [Act.put, List.setIfInBounds_toArray, List.set_cons_zero, List.set_cons_succ, i64_w, i32_w]
        rfl
       refine pure_ (i := 1) (N := some 25) (v := ?_) (a' := ?_) (bb 8 3) rfl rfl (any_of HT_.out (by kernel_rfl)) (fun _ _ _ h => h) (Or.inl ⟨by rfl, ?_⟩) ?_ ?_
       rotate_left
       ·intro w'
        go_simp
        with_reducible rfl
       rotate_left
       ·simp only [Act.put, List.setIfInBounds_toArray, List.set_cons_zero, List.set_cons_succ, i64_w, i32_w]
        rfl
       refine pure_ (i := 2) (N := some 26) (v := ?_) (a' := ?_) (bb 8 7) rfl rfl (any_of HT_.out (by kernel_rfl)) (fun _ _ _ h => h) (Or.inl ⟨by rfl, ?_⟩) ?_ ?_
       rotate_left
       ·intro w'
        go_simp
        with_reducible rfl
       rotate_left
       ·simp only [Act.put, List.setIfInBounds_toArray, List.set_cons_zero, List.set_cons_succ, i64_w, i32_w]
        rfl
       refine pure_ (i := 3) (N := some 27) (v := ?_) (a' := ?_) (bb 8 15) rfl rfl (any_of HT_.out (by kernel_rfl)) (fun _ _ _ h => h) (Or.inl ⟨by rfl, ?_⟩) ?_ ?_
       rotate_left
       ·intro w'
        go_simp
        with_reducible rfl
       rotate_left
       ·simp only [Act.put, List.setIfInBounds_toArray, List.set_cons_zero, List.set_cons_succ, i64_w, i32_w]
        rfl
       refine take_ (i := 4) (N := some 28) (v := ?_) (a' := ?_) (bb 8 31) rfl rfl (take_ofW HT_.out HW_.out (by kernel_rfl)) (fun _ _ _ h => h) (Or.inl ⟨by rfl, ?_⟩) hHeld ?_ ?_
       rotate_left
       ·rintro w' ⟨s0, s1, s2, s3, s4, s5, s6, s7, s8, s9⟩
        go_simp
        with_reducible rfl
       rotate_left
       ·simp only [Act.put, List.setIfInBounds_toArray, List.set_cons_zero, List.set_cons_succ, i64_w, i32_w]
        rfl
       refine take_ (i := 5) (N := some 29) (v := ?_) (a' := ?_) (bb 8 63) rfl rfl (take_ofW HT_.out HW_.out (by kernel_rfl)) (fun _ _ _ h => h) (Or.inl ⟨by rfl, ?_⟩) hHeld ?_ ?_
       rotate_left
       ·rintro w' ⟨s0, s1, s2, s3, s4, s5, s6, s7, s8, s9⟩
        go_simp
        with_reducible rfl
       rotate_left
       ·simp only [Act.put, List.setIfInBounds_toArray, List.set_cons_zero, List.set_cons_succ, i64_w, i32_w]
        rfl
       refine one_ (i := 6) (N := some 30) (bb 8 127) rfl rfl (one_of HT_.out (by kernel_rfl)) (by decide) (fun K hK => ?_)
       refine goesv_ Try.func53 (by kernel_rfl) rfl #[.agg #[.slice A119_0 ((rd_T41 l0 (ji5)).f0).length c119_0, .int .i64 ((rd_T41 l0 (ji5)).f1), .slice A119_2 ((rd_T41 l0 (ji5)).f2).length c119_2, .slice A119_3 ((rd_T41 l0 (ji5)).f3).length c119_3, .slice A119_4 ((rd_T41 l0 (ji5)).f4).length c119_4], .agg #[.slice A1_0 l1_0.length c1_0, .int .i64 a1_1, .slice A1_2 l1_2.length c1_2, .slice A1_3 l1_3.length c1_3, .slice A1_4 l1_4.length c1_4]] (by rfl) rfl rfl (by (try simp only [List.map_toArray, List.map_cons, List.map_nil]); first | done | (simp only [hji5]; rfl) | rfl | (simp only [List.length_drop, List.length_take]; rfl)) ?_
       with_reducible refine (cell_Group_1.calls k1 _ _ ((rd_T41 l0 (ji5)).f0) ((rd_T41 l0 (ji5)).f1) _ _ ((rd_T41 l0 (ji5)).f2) _ _ ((rd_T41 l0 (ji5)).f3) _ _ ((rd_T41 l0 (ji5)).f4) _ _ l1_0 a1_1 _ _ l1_2 _ _ l1_3 _ _ l1_4 t120 _ ?side1 ?side2 ?side3 ?side4 ?side5 ?side6 ?side7 ?side8 ?side9 ?side10 ?side11 ?side12 ?side13 ?side14 ?side15 ?side16 A8.out).mono ?_
       (case side1 => repeat (first | exact (Kd.C_below HR119_0.out HB.out) | (with_reducible refine Kd.C_alloc ?_ _) | (with_reducible refine Kd.C_drewN ?_ _) | (with_reducible refine Kd.C_drew ?_)))
       (case side2 => exact HC119_0.out)
       (case side3 => repeat (first | exact (Kd.C_below HR119_2.out HB.out) | (with_reducible refine Kd.C_alloc ?_ _) | (with_reducible refine Kd.C_drewN ?_ _) | (with_reducible refine Kd.C_drew ?_)))
       (case side4 => exact HC119_2.out)
       (case side5 => repeat (first | exact (Kd.C_below HR119_3.out HB.out) | (with_reducible refine Kd.C_alloc ?_ _) | (with_reducible refine Kd.C_drewN ?_ _) | (with_reducible refine Kd.C_drew ?_)))
       (case side6 => exact HC119_3.out)
       (case side7 => repeat (first | exact (Kd.C_below HR119_4.out HB.out) | (with_reducible refine Kd.C_alloc ?_ _) | (with_reducible refine Kd.C_drewN ?_ _) | (with_reducible refine Kd.C_drew ?_)))
       (case side8 => exact HC119_4.out)
       (case side9 => repeat (first | exact (Kd.C_below HR1_0.out HB.out) | (with_reducible refine Kd.C_alloc ?_ _) | (with_reducible refine Kd.C_drewN ?_ _) | (with_reducible refine Kd.C_drew ?_)))
       (case side10 => exact HC1_0.out)
       (case side11 => repeat (first | exact (Kd.C_below HR1_2.out HB.out) | (with_reducible refine Kd.C_alloc ?_ _) | (with_reducible refine Kd.C_drewN ?_ _) | (with_reducible refine Kd.C_drew ?_)))
       (case side12 => exact HC1_2.out)
       (case side13 => repeat (first | exact (Kd.C_below HR1_3.out HB.out) | (with_reducible refine Kd.C_alloc ?_ _) | (with_reducible refine Kd.C_drewN ?_ _) | (with_reducible refine Kd.C_drew ?_)))
       (case side14 => exact HC1_3.out)
       (case side15 => repeat (first | exact (Kd.C_below HR1_4.out HB.out) | (with_reducible refine Kd.C_alloc ?_ _) | (with_reducible refine Kd.C_drewN ?_ _) | (with_reducible refine Kd.C_drew ?_)))
       (case side16 => exact HC1_4.out)
       rintro e w11 ⟨rfl, hb⟩
       refine ⟨_, rfl, ?_⟩
       have n0_ := am (blk_below (g := gb118) (o := .cells #[.slice A1_0 l1_0.length c1_0, .int .i64 a1_1, .slice A1_2 l1_2.length c1_2, .slice A1_3 l1_3.length c1_3, .slice A1_4 l1_4.length c1_4] 41 (0, 0)) (by (with_reducible repeat (first | refine blk_drewN ?_ _ | refine blk_drew ?_ | refine blk_alloc ?_ _)); exact BK118.out) hb)
       have n1_ := am (below_step (by repeat (first | (with_reducible first | exact HB.out | apply below_alloc | apply pw_below_drewN | apply below_drew1 | refine below_set ?_ GE118.out) | exact HB.out)) hb)
       clear BK118
       clear HB
       have BK118 := n0_
       have HB := n1_
       clear n0_ n1_
       (try clear hb)
       (try clear hb2)
       (try clear hk)
       (try clear hi)
       refine hK.out _ _ ⟨(blk_cell BK118.out 0).trans rfl, (blk_cell BK118.out 1).trans rfl, (blk_cell BK118.out 2).trans rfl, (blk_cell BK118.out 3).trans rfl, (blk_cell BK118.out 4).trans rfl, ((HB.out.cell (World.block_lt_of_cell? w _ hw119_0)).trans hw119_0), ((HB.out.cell (World.block_lt_of_cell? w _ hw119_1)).trans hw119_1), ((HB.out.cell (World.block_lt_of_cell? w _ hw119_2)).trans hw119_2), ((HB.out.cell (World.block_lt_of_cell? w _ hw119_3)).trans hw119_3), ((HB.out.cell (World.block_lt_of_cell? w _ hw119_4)).trans hw119_4)⟩ (fun hHeld => ?_)
       clear hK K
       refine norm_ (a' := ?_) ?_ ?_
       rotate_left
       ·show Act.put _ (some 30) _ = _
        simp only [Act.put, List.setIfInBounds_toArray, List.set_cons_zero, List.set_cons_succ, i64_w, i32_w]
        rfl
       refine pure_ (i := 7) (N := some 31) (v := ?_) (a' := ?_) (bb 8 255) rfl rfl (any_of HT_.out (by kernel_rfl)) (fun _ _ _ h => h) (Or.inl ⟨by rfl, ?_⟩) ?_ ?_
       rotate_left
       ·intro w'
        go_simp
        with_reducible rfl
       rotate_left
       ·simp only [Act.put, List.setIfInBounds_toArray, List.set_cons_zero, List.set_cons_succ, i64_w, i32_w]
        rfl
       refine done_ (done_of HT_.out (by kernel_rfl)) ?_
       try go_wp2
       go_roundg k1
       case measure => have := HK1.out; omega
       case rel => exact ⟨(wrap64 ((ji5) + 1)), (x10_1), (by first | rfl | (simp; done) | (simp only [← hji5] <;> (first | rfl | simp)) | (simp [*]; done)), (by first | rfl | (simp; done) | (simp [*]; done)), H', ⟨by have := HK1.out; omega⟩, ⟨by (with_reducible repeat (first | refine blk_drewN ?_ _ | refine blk_drew ?_ | refine blk_alloc ?_ _)); exact BK118.out⟩, ⟨by repeat (first | (with_reducible first | exact HB.out | apply below_alloc | apply pw_below_drewN | apply below_drew1 | refine below_set ?_ GE118.out) | exact HB.out)⟩⟩
      ·rw [if_neg c9] at H
       have c9b0 : decide (t120 < 0) = false := decide_eq_false c9
       clear c9
       have H' := am H
       clear H
       try go_wp2
       have n0_ := am (blk_drew BK118.out)
       have n1_ := am (below_drew1 HB.out)
       clear BK118
       clear HB
       have BK118 := n0_
       have HB := n1_
       clear n0_ n1_
       have p119 : 0 ≤ ((ji5) : Int) := of_decide_eq_true (by first | (with_reducible assumption) | assumption)
       have q119 : (ji5) < (l0.length : Int) := of_decide_eq_true (by first | (with_reducible assumption) | assumption)
       obtain ⟨ad119, A119_0, c119_0, A119_2, c119_2, A119_3, c119_3, A119_4, c119_4, e119, hx119_0, hx119_1, hx119_2, hx119_3, hx119_4, hl119_0, hi119_0, hl119_2, hi119_2, hl119_3, hi119_3, hl119_4, hi119_4⟩ := at_T41 HR0.out (ji5) p119 q119
       have hw119_4 := hx119_4
       have hw119_3 := hx119_3
       have hw119_2 := hx119_2
       have hw119_1 := hx119_1
       have hw119_0 := hx119_0
       cases e119
       replace hx119_0 := (HB.out.cell (World.block_lt_of_cell? w _ hx119_0)).trans hx119_0
       replace hx119_1 := (HB.out.cell (World.block_lt_of_cell? w _ hx119_1)).trans hx119_1
       replace hx119_2 := (HB.out.cell (World.block_lt_of_cell? w _ hx119_2)).trans hx119_2
       replace hx119_3 := (HB.out.cell (World.block_lt_of_cell? w _ hx119_3)).trans hx119_3
       replace hx119_4 := (HB.out.cell (World.block_lt_of_cell? w _ hx119_4)).trans hx119_4
       have HR119_0 := am hi119_0
       have HC119_0 := am hl119_0
       clear hi119_0 hl119_0
       have HR119_2 := am hi119_2
       have HC119_2 := am hl119_2
       clear hi119_2 hl119_2
       have HR119_3 := am hi119_3
       have HC119_3 := am hl119_3
       clear hi119_3 hl119_3
       have HR119_4 := am hi119_4
       have HC119_4 := am hl119_4
       clear hi119_4 hl119_4
       replace p119 := eq_true p119
       replace q119 := eq_true q119
       refine start_ (n := 8) (S := fun w' => w'.cell? ⟨gb118, 0, none⟩ = some (.slice A1_0 l1_0.length c1_0) ∧ w'.cell? ⟨gb118, 1, none⟩ = some (.int .i64 a1_1) ∧ w'.cell? ⟨gb118, 2, none⟩ = some (.slice A1_2 l1_2.length c1_2) ∧ w'.cell? ⟨gb118, 3, none⟩ = some (.slice A1_3 l1_3.length c1_3) ∧ w'.cell? ⟨gb118, 4, none⟩ = some (.slice A1_4 l1_4.length c1_4) ∧ w'.cell? (ad119.add (((ji5)).toNat * 5)) = some (.slice A119_0 ((rd_T41 l0 (ji5)).f0).length c119_0) ∧ w'.cell? ⟨(ad119.add (((ji5)).toNat * 5)).block, (ad119.add (((ji5)).toNat * 5)).off + 1, none⟩ = some (.int .i64 ((rd_T41 l0 (ji5)).f1)) ∧ w'.cell? ⟨(ad119.add (((ji5)).toNat * 5)).block, (ad119.add (((ji5)).toNat * 5)).off + 2, none⟩ = some (.slice A119_2 ((rd_T41 l0 (ji5)).f2).length c119_2) ∧ w'.cell? ⟨(ad119.add (((ji5)).toNat * 5)).block, (ad119.add (((ji5)).toNat * 5)).off + 3, none⟩ = some (.slice A119_3 ((rd_T41 l0 (ji5)).f3).length c119_3) ∧ w'.cell? ⟨(ad119.add (((ji5)).toNat * 5)).block, (ad119.add (((ji5)).toNat * 5)).off + 4, none⟩ = some (.slice A119_4 ((rd_T41 l0 (ji5)).f4).length c119_4)) (ds := []) (bb 8 0) (by kernel_rfl) rfl rfl ⟨(blk_cell BK118.out 0).trans rfl, (blk_cell BK118.out 1).trans rfl, (blk_cell BK118.out 2).trans rfl, (blk_cell BK118.out 3).trans rfl, (blk_cell BK118.out 4).trans rfl, ((HB.out.cell (World.block_lt_of_cell? w _ hw119_0)).trans hw119_0), ((HB.out.cell (World.block_lt_of_cell? w _ hw119_1)).trans hw119_1), ((HB.out.cell (World.block_lt_of_cell? w _ hw119_2)).trans hw119_2), ((HB.out.cell (World.block_lt_of_cell? w _ hw119_3)).trans hw119_3), ((HB.out.cell (World.block_lt_of_cell? w _ hw119_4)).trans hw119_4)⟩ (fun hHeld => ?_); refine with_tabW bsf_G1.tab5 bsf_G1.bits5 (fun HT_ HW_ => ?_)
       generalize wr.drew = w12 at BK118 HB HR119_0 HR119_2 HR119_3 HR119_4 hx119_0 hx119_1 hx119_2 hx119_3 hx119_4 hHeld ⊢
       refine pure_ (i := 0) (N := some 24) (v := ?_) (a' := ?_) (bb 8 1) rfl rfl (any_of HT_.out (by kernel_rfl)) (fun _ _ _ h => h) (Or.inl ⟨by rfl, ?_⟩) ?_ ?_
       rotate_left
       ·intro w'
        go_simp
        with_reducible rfl
       rotate_left
       ·simp only [Act.put, List.setIfInBounds_toArray, List.set_cons_zero, List.set_cons_succ, i64_w, i32_w]
        rfl
       refine pure_ (i := 1) (N := some 25) (v := ?_) (a' := ?_) (bb 8 3) rfl rfl (any_of HT_.out (by kernel_rfl)) (fun _ _ _ h => h) (Or.inl ⟨by rfl, ?_⟩) ?_ ?_
       rotate_left
       ·intro w'
        go_simp
        with_reducible rfl
       rotate_left
       ·simp only [Act.put, List.setIfInBounds_toArray, List.set_cons_zero, List.set_cons_succ, i64_w, i32_w]
        rfl
       refine pure_ (i := 2) (N := some 26) (v := ?_) (a' := ?_) (bb 8 7) rfl rfl (any_of HT_.out (by kernel_rfl)) (fun _ _ _ h => h) (Or.inl ⟨by rfl, ?_⟩) ?_ ?_
       rotate_left
       ·intro w'
        go_simp
        with_reducible rfl
       rotate_left
       ·simp only [Act.put, List.setIfInBounds_toArray, List.set_cons_zero, List.set_cons_succ, i64_w, i32_w]
        rfl
       refine pure_ (i := 3) (N := some 27) (v := ?_) (a' := ?_) (bb 8 15) rfl rfl (any_of HT_.out (by kernel_rfl)) (fun _ _ _ h => h) (Or.inl ⟨by rfl, ?_⟩) ?_ ?_
       rotate_left
       ·intro w'
        go_simp
        with_reducible rfl
       rotate_left
       ·simp only [Act.put, List.setIfInBounds_toArray, List.set_cons_zero, List.set_cons_succ, i64_w, i32_w]
        rfl
       refine take_ (i := 4) (N := some 28) (v := ?_) (a' := ?_) (bb 8 31) rfl rfl (take_ofW HT_.out HW_.out (by kernel_rfl)) (fun _ _ _ h => h) (Or.inl ⟨by rfl, ?_⟩) hHeld ?_ ?_
       rotate_left
       ·rintro w' ⟨s0, s1, s2, s3, s4, s5, s6, s7, s8, s9⟩
        go_simp
        with_reducible rfl
       rotate_left
       ·simp only [Act.put, List.setIfInBounds_toArray, List.set_cons_zero, List.set_cons_succ, i64_w, i32_w]
        rfl
       refine take_ (i := 5) (N := some 29) (v := ?_) (a' := ?_) (bb 8 63) rfl rfl (take_ofW HT_.out HW_.out (by kernel_rfl)) (fun _ _ _ h => h) (Or.inl ⟨by rfl, ?_⟩) hHeld ?_ ?_
       rotate_left
       ·rintro w' ⟨s0, s1, s2, s3, s4, s5, s6, s7, s8, s9⟩
        go_simp
        with_reducible rfl
       rotate_left
       ·simp only [Act.put, List.setIfInBounds_toArray, List.set_cons_zero, List.set_cons_succ, i64_w, i32_w]
        rfl
       refine one_ (i := 6) (N := some 30) (bb 8 127) rfl rfl (one_of HT_.out (by kernel_rfl)) (by decide) (fun K hK => ?_)
       refine goesv_ Try.func53 (by kernel_rfl) rfl #[.agg #[.slice A119_0 ((rd_T41 l0 (ji5)).f0).length c119_0, .int .i64 ((rd_T41 l0 (ji5)).f1), .slice A119_2 ((rd_T41 l0 (ji5)).f2).length c119_2, .slice A119_3 ((rd_T41 l0 (ji5)).f3).length c119_3, .slice A119_4 ((rd_T41 l0 (ji5)).f4).length c119_4], .agg #[.slice A1_0 l1_0.length c1_0, .int .i64 a1_1, .slice A1_2 l1_2.length c1_2, .slice A1_3 l1_3.length c1_3, .slice A1_4 l1_4.length c1_4]] (by rfl) rfl rfl (by (try simp only [List.map_toArray, List.map_cons, List.map_nil]); first | done | (simp only [hji5]; rfl) | rfl | (simp only [List.length_drop, List.length_take]; rfl)) ?_
       with_reducible refine (cell_Group_1.calls k1 _ _ ((rd_T41 l0 (ji5)).f0) ((rd_T41 l0 (ji5)).f1) _ _ ((rd_T41 l0 (ji5)).f2) _ _ ((rd_T41 l0 (ji5)).f3) _ _ ((rd_T41 l0 (ji5)).f4) _ _ l1_0 a1_1 _ _ l1_2 _ _ l1_3 _ _ l1_4 t120 _ ?side1 ?side2 ?side3 ?side4 ?side5 ?side6 ?side7 ?side8 ?side9 ?side10 ?side11 ?side12 ?side13 ?side14 ?side15 ?side16 A8.out).mono ?_
       (case side1 => repeat (first | exact (Kd.C_below HR119_0.out HB.out) | (with_reducible refine Kd.C_alloc ?_ _) | (with_reducible refine Kd.C_drewN ?_ _) | (with_reducible refine Kd.C_drew ?_)))
       (case side2 => exact HC119_0.out)
       (case side3 => repeat (first | exact (Kd.C_below HR119_2.out HB.out) | (with_reducible refine Kd.C_alloc ?_ _) | (with_reducible refine Kd.C_drewN ?_ _) | (with_reducible refine Kd.C_drew ?_)))
       (case side4 => exact HC119_2.out)
       (case side5 => repeat (first | exact (Kd.C_below HR119_3.out HB.out) | (with_reducible refine Kd.C_alloc ?_ _) | (with_reducible refine Kd.C_drewN ?_ _) | (with_reducible refine Kd.C_drew ?_)))
       (case side6 => exact HC119_3.out)
       (case side7 => repeat (first | exact (Kd.C_below HR119_4.out HB.out) | (with_reducible refine Kd.C_alloc ?_ _) | (with_reducible refine Kd.C_drewN ?_ _) | (with_reducible refine Kd.C_drew ?_)))
       (case side8 => exact HC119_4.out)
       (case side9 => repeat (first | exact (Kd.C_below HR1_0.out HB.out) | (with_reducible refine Kd.C_alloc ?_ _) | (with_reducible refine Kd.C_drewN ?_ _) | (with_reducible refine Kd.C_drew ?_)))
       (case side10 => exact HC1_0.out)
       (case side11 => repeat (first | exact (Kd.C_below HR1_2.out HB.out) | (with_reducible refine Kd.C_alloc ?_ _) | (with_reducible refine Kd.C_drewN ?_ _) | (with_reducible refine Kd.C_drew ?_)))
       (case side12 => exact HC1_2.out)
       (case side13 => repeat (first | exact (Kd.C_below HR1_3.out HB.out) | (with_reducible refine Kd.C_alloc ?_ _) | (with_reducible refine Kd.C_drewN ?_ _) | (with_reducible refine Kd.C_drew ?_)))
       (case side14 => exact HC1_3.out)
       (case side15 => repeat (first | exact (Kd.C_below HR1_4.out HB.out) | (with_reducible refine Kd.C_alloc ?_ _) | (with_reducible refine Kd.C_drewN ?_ _) | (with_reducible refine Kd.C_drew ?_)))
       (case side16 => exact HC1_4.out)
       rintro e w13 ⟨rfl, hb⟩
       refine ⟨_, rfl, ?_⟩
       have n0_ := am (blk_below (g := gb118) (o := .cells #[.slice A1_0 l1_0.length c1_0, .int .i64 a1_1, .slice A1_2 l1_2.length c1_2, .slice A1_3 l1_3.length c1_3, .slice A1_4 l1_4.length c1_4] 41 (0, 0)) (by (with_reducible repeat (first | refine blk_drewN ?_ _ | refine blk_drew ?_ | refine blk_alloc ?_ _)); exact BK118.out) hb)
       have n1_ := am (below_step (by repeat (first | (with_reducible first | exact HB.out | apply below_alloc | apply pw_below_drewN | apply below_drew1 | refine below_set ?_ GE118.out) | exact HB.out)) hb)
       clear BK118
       clear HB
       have BK118 := n0_
       have HB := n1_
       clear n0_ n1_
       (try clear hb)
       (try clear hb2)
       (try clear hk)
       (try clear hi)
       refine hK.out _ _ ⟨(blk_cell BK118.out 0).trans rfl, (blk_cell BK118.out 1).trans rfl, (blk_cell BK118.out 2).trans rfl, (blk_cell BK118.out 3).trans rfl, (blk_cell BK118.out 4).trans rfl, ((HB.out.cell (World.block_lt_of_cell? w _ hw119_0)).trans hw119_0), ((HB.out.cell (World.block_lt_of_cell? w _ hw119_1)).trans hw119_1), ((HB.out.cell (World.block_lt_of_cell? w _ hw119_2)).trans hw119_2), ((HB.out.cell (World.block_lt_of_cell? w _ hw119_3)).trans hw119_3), ((HB.out.cell (World.block_lt_of_cell? w _ hw119_4)).trans hw119_4)⟩ (fun hHeld => ?_)
       clear hK K
       refine norm_ (a' := ?_) ?_ ?_
       rotate_left
       ·show Act.put _ (some 30) _ = _
        simp only [Act.put, List.setIfInBounds_toArray, List.set_cons_zero, List.set_cons_succ, i64_w, i32_w]
        rfl
       refine pure_ (i := 7) (N := some 31) (v := ?_) (a' := ?_) (bb 8 255) rfl rfl (any_of HT_.out (by kernel_rfl)) (fun _ _ _ h => h) (Or.inl ⟨by rfl, ?_⟩) ?_ ?_
       rotate_left
       ·intro w'
        go_simp
        with_reducible rfl
       rotate_left
       ·simp only [Act.put, List.setIfInBounds_toArray, List.set_cons_zero, List.set_cons_succ, i64_w, i32_w]
        rfl
       refine done_ (done_of HT_.out (by kernel_rfl)) ?_
       try go_wp2
       go_roundg k1
       case measure => have := HK1.out; omega
       case rel => exact ⟨(x9_1), (ji5), (by first | rfl | (simp; done) | (simp [*]; done)), (by first | rfl | (simp; done) | (simp only [← hji5] <;> (first | rfl | simp)) | (simp [*]; done)), H', ⟨by have := HK1.out; omega⟩, ⟨by (with_reducible repeat (first | refine blk_drewN ?_ _ | refine blk_drew ?_ | refine blk_alloc ?_ _)); exact BK118.out⟩, ⟨by repeat (first | (with_reducible first | exact HB.out | apply below_alloc | apply pw_below_drewN | apply below_drew1 | refine below_set ?_ GE118.out) | exact HB.out)⟩⟩
     ·rw [if_neg c7] at H
      exact absurd H (by simp)
    ·rw [if_neg c6] at H
     exact absurd H (by simp)
   ·rw [if_neg c4] at H
    have c4b0 : decide (x9_1 < x10_1) = false := decide_eq_false c4
    clear c4
    by_cases c14 : x9_1 < (l0.length : Int)
    ·rw [if_pos c14] at H
     have c14b0 : decide (x9_1 < (l0.length : Int)) = true := decide_eq_true c14
     clear c14
     by_cases c15 : 0 ≤ x9_1
     ·rw [if_pos c15] at H
      have c15b0 : decide (0 ≤ x9_1) = true := decide_eq_true c15
      clear c15
      by_cases c16 : x9_1 < (l0.length : Int)
      ·rw [if_pos c16] at H
       have c16b0 : decide (x9_1 < (l0.length : Int)) = true := decide_eq_true c16
       clear c16
       replace H := Option.bind_eq_some_iff.mp H
       obtain ⟨t122, A170, H⟩ := H
       replace H : (some (x9_1, (t122 == 0))) = some (r1, r2) := H
       have A17 := am A170
       clear A170
       simp only [Option.some.injEq, Prod.mk.injEq] at H
       obtain ⟨rfl, rfl⟩ := H
       try go_wp2
       have n0_ := am (blk_drew BK118.out)
       have n1_ := am (below_drew1 HB.out)
       clear BK118
       clear HB
       have BK118 := n0_
       have HB := n1_
       clear n0_ n1_
       have p121 : 0 ≤ (x9_1 : Int) := of_decide_eq_true (by first | (with_reducible assumption) | assumption)
       have q121 : x9_1 < (l0.length : Int) := of_decide_eq_true (by first | (with_reducible assumption) | assumption)
       obtain ⟨ad121, A121_0, c121_0, A121_2, c121_2, A121_3, c121_3, A121_4, c121_4, e121, hx121_0, hx121_1, hx121_2, hx121_3, hx121_4, hl121_0, hi121_0, hl121_2, hi121_2, hl121_3, hi121_3, hl121_4, hi121_4⟩ := at_T41 HR0.out x9_1 p121 q121
       have hw121_4 := hx121_4
       have hw121_3 := hx121_3
       have hw121_2 := hx121_2
       have hw121_1 := hx121_1
       have hw121_0 := hx121_0
       cases e121
       replace hx121_0 := (HB.out.cell (World.block_lt_of_cell? w _ hx121_0)).trans hx121_0
       replace hx121_1 := (HB.out.cell (World.block_lt_of_cell? w _ hx121_1)).trans hx121_1
       replace hx121_2 := (HB.out.cell (World.block_lt_of_cell? w _ hx121_2)).trans hx121_2
       replace hx121_3 := (HB.out.cell (World.block_lt_of_cell? w _ hx121_3)).trans hx121_3
       replace hx121_4 := (HB.out.cell (World.block_lt_of_cell? w _ hx121_4)).trans hx121_4
       have HR121_0 := am hi121_0
       have HC121_0 := am hl121_0
       clear hi121_0 hl121_0
       have HR121_2 := am hi121_2
       have HC121_2 := am hl121_2
       clear hi121_2 hl121_2
       have HR121_3 := am hi121_3
       have HC121_3 := am hl121_3
       clear hi121_3 hl121_3
       have HR121_4 := am hi121_4
       have HC121_4 := am hl121_4
       clear hi121_4 hl121_4
       replace p121 := eq_true p121
       replace q121 := eq_true q121
       refine start_ (n := 16) (S := fun w' => w'.cell? ⟨gb118, 0, none⟩ = some (.slice A1_0 l1_0.length c1_0) ∧ w'.cell? ⟨gb118, 1, none⟩ = some (.int .i64 a1_1) ∧ w'.cell? ⟨gb118, 2, none⟩ = some (.slice A1_2 l1_2.length c1_2) ∧ w'.cell? ⟨gb118, 3, none⟩ = some (.slice A1_3 l1_3.length c1_3) ∧ w'.cell? ⟨gb118, 4, none⟩ = some (.slice A1_4 l1_4.length c1_4) ∧ w'.cell? (ad121.add ((x9_1).toNat * 5)) = some (.slice A121_0 ((rd_T41 l0 x9_1).f0).length c121_0) ∧ w'.cell? ⟨(ad121.add ((x9_1).toNat * 5)).block, (ad121.add ((x9_1).toNat * 5)).off + 1, none⟩ = some (.int .i64 ((rd_T41 l0 x9_1).f1)) ∧ w'.cell? ⟨(ad121.add ((x9_1).toNat * 5)).block, (ad121.add ((x9_1).toNat * 5)).off + 2, none⟩ = some (.slice A121_2 ((rd_T41 l0 x9_1).f2).length c121_2) ∧ w'.cell? ⟨(ad121.add ((x9_1).toNat * 5)).block, (ad121.add ((x9_1).toNat * 5)).off + 3, none⟩ = some (.slice A121_3 ((rd_T41 l0 x9_1).f3).length c121_3) ∧ w'.cell? ⟨(ad121.add ((x9_1).toNat * 5)).block, (ad121.add ((x9_1).toNat * 5)).off + 4, none⟩ = some (.slice A121_4 ((rd_T41 l0 x9_1).f4).length c121_4)) (ds := []) (bb 16 0) (by kernel_rfl) rfl rfl ⟨(blk_cell BK118.out 0).trans rfl, (blk_cell BK118.out 1).trans rfl, (blk_cell BK118.out 2).trans rfl, (blk_cell BK118.out 3).trans rfl, (blk_cell BK118.out 4).trans rfl, ((HB.out.cell (World.block_lt_of_cell? w _ hw121_0)).trans hw121_0), ((HB.out.cell (World.block_lt_of_cell? w _ hw121_1)).trans hw121_1), ((HB.out.cell (World.block_lt_of_cell? w _ hw121_2)).trans hw121_2), ((HB.out.cell (World.block_lt_of_cell? w _ hw121_3)).trans hw121_3), ((HB.out.cell (World.block_lt_of_cell? w _ hw121_4)).trans hw121_4)⟩ (fun hHeld => ?_); refine with_tabW bsf_G1.tab8 bsf_G1.bits8 (fun HT_ HW_ => ?_)
       generalize wr.drew = w18 at BK118 HB HR121_0 HR121_2 HR121_3 HR121_4 hx121_0 hx121_1 hx121_2 hx121_3 hx121_4 hHeld ⊢
       refine pure_ (i := 0) (N := some 35) (v := ?_) (a' := ?_) (bb 16 1) rfl rfl (any_of HT_.out (by kernel_rfl)) (fun _ _ _ h => h) (Or.inl ⟨by rfl, ?_⟩) ?_ ?_
       rotate_left
       ·intro w'
        go_simp
        with_reducible rfl
       rotate_left
       ·simp only [Act.put, List.setIfInBounds_toArray, List.set_cons_zero, List.set_cons_succ, i64_w, i32_w]
        rfl
       refine pure_ (i := 1) (N := some 36) (v := ?_) (a' := ?_) (bb 16 3) rfl rfl (any_of HT_.out (by kernel_rfl)) (fun _ _ _ h => h) (Or.inl ⟨by rfl, ?_⟩) ?_ ?_
       rotate_left
       ·intro w'
        go_simp
        with_reducible rfl
       rotate_left
       ·simp only [Act.put, List.setIfInBounds_toArray, List.set_cons_zero, List.set_cons_succ, i64_w, i32_w]
        rfl
       refine pure_ (i := 2) (N := some 37) (v := ?_) (a' := ?_) (bb 16 7) rfl rfl (any_of HT_.out (by kernel_rfl)) (fun _ _ _ h => h) (Or.inl ⟨by rfl, ?_⟩) ?_ ?_
       rotate_left
       ·intro w'
        go_simp
        with_reducible rfl
       rotate_left
       ·simp only [Act.put, List.setIfInBounds_toArray, List.set_cons_zero, List.set_cons_succ, i64_w, i32_w]
        rfl
       refine pure_ (i := 3) (N := some 38) (v := ?_) (a' := ?_) (bb 16 15) rfl rfl (any_of HT_.out (by kernel_rfl)) (fun _ _ _ h => h) (Or.inl ⟨by rfl, ?_⟩) ?_ ?_
       rotate_left
       ·intro w'
        go_simp
        with_reducible rfl
       rotate_left
       ·simp only [Act.put, List.setIfInBounds_toArray, List.set_cons_zero, List.set_cons_succ, i64_w, i32_w]
        rfl
       refine pure_ (i := 4) (N := some 39) (v := ?_) (a' := ?_) (bb 16 31) rfl rfl (any_of HT_.out (by kernel_rfl)) (fun _ _ _ h => h) (Or.inl ⟨by rfl, ?_⟩) ?_ ?_
       rotate_left
       ·intro w'
        go_simp
        with_reducible rfl
       rotate_left
       ·simp only [Act.put, List.setIfInBounds_toArray, List.set_cons_zero, List.set_cons_succ, i64_w, i32_w]
        rfl
       refine pure_ (i := 5) (N := some 40) (v := ?_) (a' := ?_) (bb 16 63) rfl rfl (any_of HT_.out (by kernel_rfl)) (fun _ _ _ h => h) (Or.inl ⟨by rfl, ?_⟩) ?_ ?_
       rotate_left
       ·intro w'
        go_simp
        with_reducible rfl
       rotate_left
       ·simp only [Act.put, List.setIfInBounds_toArray, List.set_cons_zero, List.set_cons_succ, i64_w, i32_w]
        rfl
       refine pure_ (i := 6) (N := some 41) (v := ?_) (a' := ?_) (bb 16 127) rfl rfl (any_of HT_.out (by kernel_rfl)) (fun _ _ _ h => h) (Or.inl ⟨by rfl, ?_⟩) ?_ ?_
       rotate_left
       ·intro w'
        go_simp
        with_reducible rfl
       rotate_left
       ·simp only [Act.put, List.setIfInBounds_toArray, List.set_cons_zero, List.set_cons_succ, i64_w, i32_w]
        rfl
       refine pure_ (i := 7) (N := some 42) (v := ?_) (a' := ?_) (bb 16 255) rfl rfl (any_of HT_.out (by kernel_rfl)) (fun _ _ _ h => h) (Or.inl ⟨by rfl, ?_⟩) ?_ ?_
       rotate_left
       ·intro w'
        go_simp
        with_reducible rfl
       rotate_left
       ·simp only [Act.put, List.setIfInBounds_toArray, List.set_cons_zero, List.set_cons_succ, i64_w, i32_w]
        rfl
       refine pure_ (i := 8) (N := some 43) (v := ?_) (a' := ?_) (bb 16 511) rfl rfl (any_of HT_.out (by kernel_rfl)) (fun _ _ _ h => h) (Or.inl ⟨by rfl, ?_⟩) ?_ ?_
       rotate_left
       ·intro w'
        go_simp
        with_reducible rfl
       rotate_left
       ·simp only [Act.put, List.setIfInBounds_toArray, List.set_cons_zero, List.set_cons_succ, i64_w, i32_w]
        rfl
       refine take_ (i := 9) (N := some 44) (v := ?_) (a' := ?_) (bb 16 1023) rfl rfl (take_ofW HT_.out HW_.out (by kernel_rfl)) (fun _ _ _ h => h) (Or.inl ⟨by rfl, ?_⟩) hHeld ?_ ?_
       rotate_left
       ·rintro w' ⟨s0, s1, s2, s3, s4, s5, s6, s7, s8, s9⟩
        go_simp
        with_reducible rfl
       rotate_left
       ·simp only [Act.put, List.setIfInBounds_toArray, List.set_cons_zero, List.set_cons_succ, i64_w, i32_w]
        rfl
       refine take_ (i := 10) (N := some 45) (v := ?_) (a' := ?_) (bb 16 2047) rfl rfl (take_ofW HT_.out HW_.out (by kernel_rfl)) (fun _ _ _ h => h) (Or.inl ⟨by rfl, ?_⟩) hHeld ?_ ?_
       rotate_left
       ·rintro w' ⟨s0, s1, s2, s3, s4, s5, s6, s7, s8, s9⟩
        go_simp
        with_reducible rfl
       rotate_left
       ·simp only [Act.put, List.setIfInBounds_toArray, List.set_cons_zero, List.set_cons_succ, i64_w, i32_w]
        rfl
       refine one_ (i := 11) (N := some 46) (bb 16 4095) rfl rfl (one_of HT_.out (by kernel_rfl)) (by decide) (fun K hK => ?_)
       refine goesv_ Try.func53 (by kernel_rfl) rfl #[.agg #[.slice A121_0 ((rd_T41 l0 x9_1).f0).length c121_0, .int .i64 ((rd_T41 l0 x9_1).f1), .slice A121_2 ((rd_T41 l0 x9_1).f2).length c121_2, .slice A121_3 ((rd_T41 l0 x9_1).f3).length c121_3, .slice A121_4 ((rd_T41 l0 x9_1).f4).length c121_4], .agg #[.slice A1_0 l1_0.length c1_0, .int .i64 a1_1, .slice A1_2 l1_2.length c1_2, .slice A1_3 l1_3.length c1_3, .slice A1_4 l1_4.length c1_4]] (by rfl) rfl rfl (by (try simp only [List.map_toArray, List.map_cons, List.map_nil]); first | done | rfl | (simp only [List.length_drop, List.length_take]; rfl)) ?_
       with_reducible refine (cell_Group_1.calls k1 _ _ ((rd_T41 l0 x9_1).f0) ((rd_T41 l0 x9_1).f1) _ _ ((rd_T41 l0 x9_1).f2) _ _ ((rd_T41 l0 x9_1).f3) _ _ ((rd_T41 l0 x9_1).f4) _ _ l1_0 a1_1 _ _ l1_2 _ _ l1_3 _ _ l1_4 t122 _ ?side1 ?side2 ?side3 ?side4 ?side5 ?side6 ?side7 ?side8 ?side9 ?side10 ?side11 ?side12 ?side13 ?side14 ?side15 ?side16 A17.out).mono ?_
       (case side1 => repeat (first | exact (Kd.C_below HR121_0.out HB.out) | (with_reducible refine Kd.C_alloc ?_ _) | (with_reducible refine Kd.C_drewN ?_ _) | (with_reducible refine Kd.C_drew ?_)))
       (case side2 => exact HC121_0.out)
       (case side3 => repeat (first | exact (Kd.C_below HR121_2.out HB.out) | (with_reducible refine Kd.C_alloc ?_ _) | (with_reducible refine Kd.C_drewN ?_ _) | (with_reducible refine Kd.C_drew ?_)))
       (case side4 => exact HC121_2.out)
       (case side5 => repeat (first | exact (Kd.C_below HR121_3.out HB.out) | (with_reducible refine Kd.C_alloc ?_ _) | (with_reducible refine Kd.C_drewN ?_ _) | (with_reducible refine Kd.C_drew ?_)))
       (case side6 => exact HC121_3.out)
       (case side7 => repeat (first | exact (Kd.C_below HR121_4.out HB.out) | (with_reducible refine Kd.C_alloc ?_ _) | (with_reducible refine Kd.C_drewN ?_ _) | (with_reducible refine Kd.C_drew ?_)))
       (case side8 => exact HC121_4.out)
       (case side9 => repeat (first | exact (Kd.C_below HR1_0.out HB.out) | (with_reducible refine Kd.C_alloc ?_ _) | (with_reducible refine Kd.C_drewN ?_ _) | (with_reducible refine Kd.C_drew ?_)))
       (case side10 => exact HC1_0.out)
       (case side11 => repeat (first | exact (Kd.C_below HR1_2.out HB.out) | (with_reducible refine Kd.C_alloc ?_ _) | (with_reducible refine Kd.C_drewN ?_ _) | (with_reducible refine Kd.C_drew ?_)))
       (case side12 => exact HC1_2.out)
       (case side13 => repeat (first | exact (Kd.C_below HR1_3.out HB.out) | (with_reducible refine Kd.C_alloc ?_ _) | (with_reducible refine Kd.C_drewN ?_ _) | (with_reducible refine Kd.C_drew ?_)))
       (case side14 => exact HC1_3.out)
       (case side15 => repeat (first | exact (Kd.C_below HR1_4.out HB.out) | (with_reducible refine Kd.C_alloc ?_ _) | (with_reducible refine Kd.C_drewN ?_ _) | (with_reducible refine Kd.C_drew ?_)))
       (case side16 => exact HC1_4.out)
       rintro e w19 ⟨rfl, hb⟩
       refine ⟨_, rfl, ?_⟩
       have n0_ := am (blk_below (g := gb118) (o := .cells #[.slice A1_0 l1_0.length c1_0, .int .i64 a1_1, .slice A1_2 l1_2.length c1_2, .slice A1_3 l1_3.length c1_3, .slice A1_4 l1_4.length c1_4] 41 (0, 0)) (by (with_reducible repeat (first | refine blk_drewN ?_ _ | refine blk_drew ?_ | refine blk_alloc ?_ _)); exact BK118.out) hb)
       have n1_ := am (below_step (by repeat (first | (with_reducible first | exact HB.out | apply below_alloc | apply pw_below_drewN | apply below_drew1 | refine below_set ?_ GE118.out) | exact HB.out)) hb)
       clear BK118
       clear HB
       have BK118 := n0_
       have HB := n1_
       clear n0_ n1_
       (try clear hb)
       (try clear hb2)
       (try clear hk)
       (try clear hi)
       refine hK.out _ _ ⟨(blk_cell BK118.out 0).trans rfl, (blk_cell BK118.out 1).trans rfl, (blk_cell BK118.out 2).trans rfl, (blk_cell BK118.out 3).trans rfl, (blk_cell BK118.out 4).trans rfl, ((HB.out.cell (World.block_lt_of_cell? w _ hw121_0)).trans hw121_0), ((HB.out.cell (World.block_lt_of_cell? w _ hw121_1)).trans hw121_1), ((HB.out.cell (World.block_lt_of_cell? w _ hw121_2)).trans hw121_2), ((HB.out.cell (World.block_lt_of_cell? w _ hw121_3)).trans hw121_3), ((HB.out.cell (World.block_lt_of_cell? w _ hw121_4)).trans hw121_4)⟩ (fun hHeld => ?_)
       clear hK K
       refine norm_ (a' := ?_) ?_ ?_
       rotate_left
       ·show Act.put _ (some 46) _ = _
        simp only [Act.put, List.setIfInBounds_toArray, List.set_cons_zero, List.set_cons_succ, i64_w, i32_w]
        rfl
       refine pure_ (i := 12) (N := some 47) (v := ?_) (a' := ?_) (bb 16 8191) rfl rfl (any_of HT_.out (by kernel_rfl)) (fun _ _ _ h => h) (Or.inl ⟨by rfl, ?_⟩) ?_ ?_
       rotate_left
       ·intro w'
        go_simp
        with_reducible rfl
       rotate_left
       ·simp only [Act.put, List.setIfInBounds_toArray, List.set_cons_zero, List.set_cons_succ, i64_w, i32_w]
        rfl
       refine pure_ (i := 13) (N := some 48) (v := ?_) (a' := ?_) (bb 16 16383) rfl rfl (any_of HT_.out (by kernel_rfl)) (fun _ _ _ h => h) (Or.inl ⟨by rfl, ?_⟩) ?_ ?_
       rotate_left
       ·intro w'
        go_simp
        with_reducible rfl
       rotate_left
       ·simp only [Act.put, List.setIfInBounds_toArray, List.set_cons_zero, List.set_cons_succ, i64_w, i32_w]
        rfl
       refine pure_ (i := 14) (N := some 6) (v := ?_) (a' := ?_) (bb 16 32767) rfl rfl (any_of HT_.out (by kernel_rfl)) (fun _ _ _ h => h) (Or.inl ⟨by rfl, ?_⟩) ?_ ?_
       rotate_left
       ·intro w'
        go_simp
        with_reducible rfl
       rotate_left
       ·simp only [Act.put, List.setIfInBounds_toArray, List.set_cons_zero, List.set_cons_succ, i64_w, i32_w]
        rfl
       refine pure_ (i := 15) (N := some 7) (v := ?_) (a' := ?_) (bb 16 65535) rfl rfl (any_of HT_.out (by kernel_rfl)) (fun _ _ _ h => h) (Or.inl ⟨by rfl, ?_⟩) ?_ ?_
       rotate_left
       ·intro w'
        go_simp
        with_reducible rfl
       rotate_left
       ·simp only [Act.put, List.setIfInBounds_toArray, List.set_cons_zero, List.set_cons_succ, i64_w, i32_w]
        rfl
       refine done_ (done_of HT_.out (by kernel_rfl)) ?_
       try go_wp2
       go_ret2
       exact ⟨by first | rfl | (simp [errW_none, errW_some] <;> rfl) | (simp [*, errW_none, errW_some] <;> rfl), by repeat (first | (with_reducible first | exact HB.out | apply below_alloc | apply pw_below_drewN | apply below_drew1 | refine below_set ?_ GE118.out) | exact HB.out)⟩
      ·rw [if_neg c16] at H
       exact absurd H (by simp)
     ·rw [if_neg c15] at H
      exact absurd H (by simp)
    ·rw [if_neg c14] at H
     have c14b0 : decide (x9_1 < (l0.length : Int)) = false := decide_eq_false c14
     clear c14
     simp only [Option.some.injEq, Prod.mk.injEq] at H
     obtain ⟨rfl, rfl⟩ := H
     try go_wp2
     have n0_ := am (blk_drew BK118.out)
     have n1_ := am (below_drew1 HB.out)
     clear BK118
     clear HB
     have BK118 := n0_
     have HB := n1_
     clear n0_ n1_
     refine start_ (n := 16) (S := fun w' => True) (ds := []) (bb 16 0) (by kernel_rfl) rfl rfl trivial (fun hHeld => ?_); refine with_tabW bsf_G1.tab8 bsf_G1.bits8 (fun HT_ HW_ => ?_)
     generalize wr.drew = w20 at BK118 HB hHeld ⊢
     refine pure_ (i := 0) (N := some 35) (v := ?_) (a' := ?_) (bb 16 1) rfl rfl (any_of HT_.out (by kernel_rfl)) (fun _ _ _ h => h) (Or.inl ⟨by rfl, ?_⟩) ?_ ?_
     rotate_left
     ·intro w'
      go_simp
      with_reducible rfl
     rotate_left
     ·simp only [Act.put, List.setIfInBounds_toArray, List.set_cons_zero, List.set_cons_succ, i64_w, i32_w]
      rfl
     refine pure_ (i := 1) (N := some 36) (v := ?_) (a' := ?_) (bb 16 3) rfl rfl (any_of HT_.out (by kernel_rfl)) (fun _ _ _ h => h) (Or.inl ⟨by rfl, ?_⟩) ?_ ?_
     rotate_left
     ·intro w'
      go_simp
      with_reducible rfl
     rotate_left
     ·simp only [Act.put, List.setIfInBounds_toArray, List.set_cons_zero, List.set_cons_succ, i64_w, i32_w]
      rfl
     refine pure_ (i := 2) (N := some 37) (v := ?_) (a' := ?_) (bb 16 7) rfl rfl (any_of HT_.out (by kernel_rfl)) (fun _ _ _ h => h) (Or.inl ⟨by rfl, ?_⟩) ?_ ?_
     rotate_left
     ·intro w'
      go_simp
      with_reducible rfl
     rotate_left
     ·simp only [Act.put, List.setIfInBounds_toArray, List.set_cons_zero, List.set_cons_succ, i64_w, i32_w]
      rfl
     refine pure_ (i := 3) (N := some 38) (v := ?_) (a' := ?_) (bb 16 15) rfl rfl (any_of HT_.out (by kernel_rfl)) (fun _ _ _ h => h) (Or.inl ⟨by rfl, ?_⟩) ?_ ?_
     rotate_left
     ·intro w'
      go_simp
      with_reducible rfl
     rotate_left
     ·simp only [Act.put, List.setIfInBounds_toArray, List.set_cons_zero, List.set_cons_succ, i64_w, i32_w]
      rfl
     refine pure_ (i := 4) (N := some 39) (v := ?_) (a' := ?_) (bb 16 31) rfl rfl (any_of HT_.out (by kernel_rfl)) (fun _ _ _ h => h) (Or.inl ⟨by rfl, ?_⟩) ?_ ?_
     rotate_left
     ·intro w'
      go_simp
      with_reducible rfl
     rotate_left
     ·simp only [Act.put, List.setIfInBounds_toArray, List.set_cons_zero, List.set_cons_succ, i64_w, i32_w]
      rfl
     refine pure_ (i := 5) (N := some 40) (v := undef) (a' := ?_) (bb 16 63) rfl rfl (any_of HT_.out (by kernel_rfl)) (fun _ _ _ h => h) (Or.inr ⟨by rfl, rfl⟩) ?_ ?_
     rotate_left
     ·simp only [Act.put, List.setIfInBounds_toArray, List.set_cons_zero, List.set_cons_succ, i64_w, i32_w]
      rfl
     refine pure_ (i := 6) (N := some 41) (v := undef) (a' := ?_) (bb 16 127) rfl rfl (any_of HT_.out (by kernel_rfl)) (fun _ _ _ h => h) (Or.inr ⟨by rfl, rfl⟩) ?_ ?_
     rotate_left
     ·simp only [Act.put, List.setIfInBounds_toArray, List.set_cons_zero, List.set_cons_succ, i64_w, i32_w]
      rfl
     refine pure_ (i := 7) (N := some 42) (v := undef) (a' := ?_) (bb 16 255) rfl rfl (any_of HT_.out (by kernel_rfl)) (fun _ _ _ h => h) (Or.inr ⟨by rfl, rfl⟩) ?_ ?_
     rotate_left
     ·simp only [Act.put, List.setIfInBounds_toArray, List.set_cons_zero, List.set_cons_succ, i64_w, i32_w]
      rfl
     refine pure_ (i := 8) (N := some 43) (v := undef) (a' := ?_) (bb 16 511) rfl rfl (any_of HT_.out (by kernel_rfl)) (fun _ _ _ h => h) (Or.inr ⟨by rfl, rfl⟩) ?_ ?_
     rotate_left
     ·simp only [Act.put, List.setIfInBounds_toArray, List.set_cons_zero, List.set_cons_succ, i64_w, i32_w]
      rfl
     refine pure_ (i := 9) (N := some 44) (v := undef) (a' := ?_) (bb 16 1023) rfl rfl (any_of HT_.out (by kernel_rfl)) (fun _ _ _ h => h) (Or.inr ⟨by rfl, rfl⟩) ?_ ?_
     rotate_left
     ·simp only [Act.put, List.setIfInBounds_toArray, List.set_cons_zero, List.set_cons_succ, i64_w, i32_w]
      rfl
     refine pure_ (i := 10) (N := some 45) (v := undef) (a' := ?_) (bb 16 2047) rfl rfl (any_of HT_.out (by kernel_rfl)) (fun _ _ _ h => h) (Or.inr ⟨by rfl, rfl⟩) ?_ ?_
     rotate_left
     ·simp only [Act.put, List.setIfInBounds_toArray, List.set_cons_zero, List.set_cons_succ, i64_w, i32_w]
      rfl
     refine pure_ (i := 11) (N := some 46) (v := undef) (a' := ?_) (bb 16 4095) rfl rfl (any_of HT_.out (by kernel_rfl)) (fun _ _ _ h => h) (Or.inr ⟨by rfl, rfl⟩) ?_ ?_
     rotate_left
     ·simp only [Act.put, List.setIfInBounds_toArray, List.set_cons_zero, List.set_cons_succ, i64_w, i32_w]
      rfl
     refine pure_ (i := 12) (N := some 47) (v := undef) (a' := ?_) (bb 16 8191) rfl rfl (any_of HT_.out (by kernel_rfl)) (fun _ _ _ h => h) (Or.inr ⟨by rfl, rfl⟩) ?_ ?_
     rotate_left
     ·simp only [Act.put, List.setIfInBounds_toArray, List.set_cons_zero, List.set_cons_succ, i64_w, i32_w]
      rfl
     refine pure_ (i := 13) (N := some 48) (v := ?_) (a' := ?_) (bb 16 16383) rfl rfl (any_of HT_.out (by kernel_rfl)) (fun _ _ _ h => h) (Or.inl ⟨by rfl, ?_⟩) ?_ ?_
     rotate_left
     ·intro w'
      go_simp
      with_reducible rfl
     rotate_left
     ·simp only [Act.put, List.setIfInBounds_toArray, List.set_cons_zero, List.set_cons_succ, i64_w, i32_w]
      rfl
     refine pure_ (i := 14) (N := some 6) (v := ?_) (a' := ?_) (bb 16 32767) rfl rfl (any_of HT_.out (by kernel_rfl)) (fun _ _ _ h => h) (Or.inl ⟨by rfl, ?_⟩) ?_ ?_
     rotate_left
     ·intro w'
      go_simp
      with_reducible rfl
     rotate_left
     ·simp only [Act.put, List.setIfInBounds_toArray, List.set_cons_zero, List.set_cons_succ, i64_w, i32_w]
      rfl
     refine pure_ (i := 15) (N := some 7) (v := ?_) (a' := ?_) (bb 16 65535) rfl rfl (any_of HT_.out (by kernel_rfl)) (fun _ _ _ h => h) (Or.inl ⟨by rfl, ?_⟩) ?_ ?_
     rotate_left
     ·intro w'
      go_simp
      with_reducible rfl
     rotate_left
     ·simp only [Act.put, List.setIfInBounds_toArray, List.set_cons_zero, List.set_cons_succ, i64_w, i32_w]
      rfl
     refine done_ (done_of HT_.out (by kernel_rfl)) ?_
     try go_wp2
     go_ret2
     exact ⟨by first | rfl | (simp [errW_none, errW_some] <;> rfl) | (simp [*, errW_none, errW_some] <;> rfl), by repeat (first | (with_reducible first | exact HB.out | apply below_alloc | apply pw_below_drewN | apply below_drew1 | refine below_set ?_ GE118.out) | exact HB.out)⟩
end Go.Proofs.Ytmnepkbmcnpjlaa.Q
namespace Go.Proofs.Ytmnepkbmcnpjlaa.Q
open Go.RowKit Go.Proofs.YtmnepkbmcnpjlaaW.PrintWords Go.Proofs.YtmnepkbmcnpjlaaW.PrintLast Go.Proofs.YtmnepkbmcnpjlaaW.PrintMore
set_option linter.unusedVariables false
set_option linter.unusedSimpArgs false
theorem w64 {x : Int} (h0 : -9223372036854775808 ≤ x) (h1 : x ≤ 9223372036854775807) : wrap64 x = x := by unfold wrap64; omega
theorem w64s {i n : Nat} (h : i < n) (hn : n ≤ 4611686018427387904) : wrap64 ((i : Int) + 1) = ((i + 1 : Nat) : Int) := by unfold wrap64; omega
theorem within2_eq (a n : Int) (h0 : 0 < n) (h1 : n ≤ 4611686018427387904) : hypercubelaw2_within.f a n = some (a % n) := by
 unfold hypercubelaw2_within.f
 rw [if_neg (by omega)]
 have hb := Int.emod_nonneg a (show n ≠ 0 by omega)
 have hl := Int.emod_lt_of_pos a h0
 by_cases ha : 0 ≤ a
 ·rw [Int.tmod_eq_emod_of_nonneg ha, if_neg (by omega)]
 ·have ht : Int.tmod a n = if a % n = 0 then 0 else a % n - n := by
   rw [Int.tmod_eq_emod]
   split
   ·rename_i h
    rcases h with h | h
    ·omega
    ·rw [Int.emod_eq_zero_of_dvd h]; simp
   ·rename_i h
    have : a % n ≠ 0 := fun e => h (.inr (Int.dvd_of_emod_eq_zero e))
    rw [if_neg this, Int.natAbs_of_nonneg (by omega)]
  by_cases hz : a % n = 0
  ·rw [ht, if_pos hz, if_neg (by omega), hz]
  ·rw [ht, if_neg hz, if_pos (by omega)]
   congr 1
   rw [w64 (by omega) (by omega)]
   omega
theorem rd_get {l : List Int} {i : Nat} (h : i < l.length) : rd l (i : Int) = l[i] := by simp [rd, List.getD_eq_getElem?_getD, h]
theorem drop_cons {α : Type} {l : List α} {i : Nat} (h : i < l.length) : l.drop i = l[i] :: l.drop (i + 1) := List.drop_eq_getElem_cons h
theorem dec_cons_eq {α : Type} [DecidableEq α] {x y : α} (l l' : List α) (h : x = y) : decide (x :: l = y :: l') = decide (l = l') := by subst h; simp
theorem dec_cons_ne {α : Type} [DecidableEq α] {x y : α} (l l' : List α) (h : ¬ x = y) : decide (x :: l = y :: l') = false := by simp [h]
theorem ints_l0 (a b : List Int) (hl : a.length = b.length) (hn : a.length ≤ 4611686018427387904) (d : Nat) : ∀ i : Nat, a.length - i = d → i ≤ a.length →
  Ev (fun k => hypercuberef1_Ints.l0 k a b (i : Int)) (decide (a.drop i = b.drop i)) := by
 induction d with
 | zero =>
  intro i hd hi
  have e1 : a.drop i = [] := List.drop_eq_nil_of_le (by omega)
  have e2 : b.drop i = [] := List.drop_eq_nil_of_le (by omega)
  rw [e1, e2]
  exact Ev.step (fun k => by simp only [hypercuberef1_Ints.l0]; rw [if_neg (by omega)]; rfl) (Ev.now _)
 | succ d ih =>
  intro i hd hi
  have ha : i < a.length := by omega
  have hb : i < b.length := by omega
  rw [drop_cons ha, drop_cons hb]
  by_cases he : a[i] = b[i]
  ·rw [dec_cons_eq _ _ he]
   exact Ev.step (fun k => by simp only [hypercuberef1_Ints.l0]; rw [if_pos (by omega), if_pos (by omega), if_pos (by omega), rd_get ha, rd_get hb, if_pos he, w64s ha hn]) (ih (i + 1) (by omega) (by omega))
  ·rw [dec_cons_ne _ _ he]
   exact Ev.step (fun k => by simp only [hypercuberef1_Ints.l0]; rw [if_pos (by omega), if_pos (by omega), if_pos (by omega), rd_get ha, rd_get hb, if_neg he]) (Ev.now _)
theorem ints_ev (a b : List Int) (hn : a.length ≤ 4611686018427387904) : Ev (fun k => hypercuberef1_Ints.f k a b) (decide (a = b)) := by
 by_cases hl : a.length = b.length
 ·have h := ints_l0 a b hl hn a.length 0 (by omega) (by omega)
  simp only [List.drop_zero] at h
  exact Ev.congr (fun k => by unfold hypercuberef1_Ints.f; rw [if_pos (by omega)]; rfl) h
 ·have : decide (a = b) = false := by
   rw [decide_eq_false_iff_not]; intro e; exact hl (by rw [e])
  rw [this]
  exact Ev.congr (fun k => by unfold hypercuberef1_Ints.f; rw [if_neg (by omega)]) (Ev.now _)
def lexC : List Int → List Int → Int
 | [], [] => 0
 | [], _ :: _ => -1
 | _ :: _, [] => 1
 | x :: xs, y :: ys => if x < y then -1 else if x > y then 1 else lexC xs ys
theorem lexC_nil_right (a : List Int) (h : a ≠ []) : lexC a [] = 1 := by cases a with
 | nil => exact absurd rfl h
 | cons => rfl
theorem lexC_nil_left (a : List Int) (h : a ≠ []) : lexC [] a = -1 := by cases a with
 | nil => exact absurd rfl h
 | cons => rfl
theorem lexC_swap : ∀ a b : List Int, lexC b a = 0 - lexC a b
 | [], [] => rfl
 | [], _ :: _ => rfl
 | _ :: _, [] => rfl
 | x :: xs, y :: ys => by
  have ih := lexC_swap xs ys
  unfold lexC
  repeat' split
  all_goals omega
theorem lexC_zero : ∀ a b : List Int, lexC a b = 0 ↔ a = b
 | [], [] => by simp [lexC]
 | [], _ :: _ => by simp [lexC]
 | _ :: _, [] => by simp [lexC]
 | x :: xs, y :: ys => by
  unfold lexC
  by_cases h1 : x < y
  ·rw [if_pos h1]; simp; omega
  ·by_cases h2 : x > y
   ·rw [if_neg h1, if_pos h2]; simp; omega
   ·rw [if_neg h1, if_neg h2]
    have : x = y := by omega
    subst this
    simp [lexC_zero xs ys]
theorem lexC_trans : ∀ a b c : List Int, lexC a b ≤ 0 → lexC b c ≤ 0 → lexC a c ≤ 0
 | [], _, [] => by simp [lexC]
 | [], _, _ :: _ => by simp [lexC]
 | _ :: _, [], _ => by simp [lexC]
 | _ :: _, _ :: _, [] => by simp [lexC]
 | x :: xs, y :: ys, z :: zs => by
  intro h1 h2
  unfold lexC at h1 h2 ⊢
  have ih := lexC_trans xs ys zs
  by_cases a1 : x < y
  ·by_cases a2 : y < z
   ·rw [if_pos (by omega)]; omega
   ·rw [if_neg a2] at h2
    by_cases a3 : y > z
    ·rw [if_pos a3] at h2; omega
    ·rw [if_pos (by omega)]; omega
  ·rw [if_neg a1] at h1
   by_cases a3 : x > y
   ·rw [if_pos a3] at h1; omega
   ·rw [if_neg a3] at h1
    by_cases a2 : y < z
    ·rw [if_pos (by omega)]; omega
    ·rw [if_neg a2] at h2
     by_cases a4 : y > z
     ·rw [if_pos a4] at h2; omega
     ·rw [if_neg a4] at h2
      rw [if_neg (by omega), if_neg (by omega)]
      exact ih h1 h2
theorem compare_eq (x y : Int) : cmp_Compare_int.f x y = some (if x < y then -1 else if x > y then 1 else 0) := by
 unfold cmp_Compare_int.f cmp_isNaN_int.f
 simp
 by_cases h1 : x < y
 ·simp [h1]
 ·by_cases h2 : y < x
  ·simp [h1, h2]
  ·simp [h1, h2]
theorem less_l0 (a b : List Int) (hn : a.length ≤ 4611686018427387904) (d : Nat) : ∀ i : Nat, a.length - i = d → i ≤ a.length → (i ≤ b.length) →
  Ev (fun k => slices_Compare_int_int.l0 k a b a (a.length : Int) (i : Int)) (lexC (a.drop i) (b.drop i)) := by
 induction d with
 | zero =>
  intro i hd hi hib
  have e1 : a.drop i = [] := List.drop_eq_nil_of_le (by omega)
  rw [e1]
  by_cases hb : i < b.length
  ·rw [lexC_nil_left _ (by rw [drop_cons hb]; exact List.cons_ne_nil _ _)]
   exact Ev.step (fun k => by simp only [slices_Compare_int_int.l0]; rw [if_neg (by omega), if_pos (by omega)]) (Ev.now _)
  ·have e2 : b.drop i = [] := List.drop_eq_nil_of_le (by omega)
   rw [e2]
   exact Ev.step (fun k => by simp only [slices_Compare_int_int.l0]; rw [if_neg (by omega), if_neg (by omega)]; rfl) (Ev.now _)
 | succ d ih =>
  intro i hd hi hib
  have ha : i < a.length := by omega
  by_cases hb : i < b.length
  ·rw [drop_cons ha, drop_cons hb]
   have h1 : ∀ k, slices_Compare_int_int.l0 (k + 1) a b a (a.length : Int) (i : Int) = (if (if a[i] < b[i] then (-1 : Int) else if a[i] > b[i] then 1 else 0) = 0 then slices_Compare_int_int.l0 k a b a (a.length : Int) ((i + 1 : Nat) : Int) else some (if a[i] < b[i] then (-1 : Int) else if a[i] > b[i] then 1 else 0)) := fun k => by
    simp only [slices_Compare_int_int.l0]
    rw [if_pos (by omega), if_pos (by omega), if_pos (by omega), if_neg (by omega), if_pos (by omega), rd_get ha, rd_get hb, compare_eq, Option.bind_some, w64s ha hn]
   unfold lexC
   by_cases c1 : a[i] < b[i]
   ·rw [if_pos c1]
    exact Ev.step (fun k => by rw [h1, if_pos c1, if_neg (by omega)]) (Ev.now _)
   ·by_cases c2 : a[i] > b[i]
    ·rw [if_neg c1, if_pos c2]
     exact Ev.step (fun k => by rw [h1, if_neg c1, if_pos c2, if_neg (by omega)]) (Ev.now _)
    ·rw [if_neg c1, if_neg c2]
     exact Ev.step (fun k => by rw [h1, if_neg c1, if_neg c2, if_pos rfl]) (ih (i + 1) (by omega) (by omega) (by omega))
  ·have e2 : b.drop i = [] := List.drop_eq_nil_of_le (by omega)
   rw [e2, lexC_nil_right _ (by rw [drop_cons ha]; exact List.cons_ne_nil _ _)]
   exact Ev.step (fun k => by simp only [slices_Compare_int_int.l0]; rw [if_pos (by omega), if_pos (by omega), if_pos (by omega), if_pos (by omega)]) (Ev.now _)
theorem cell_less_ev (a b : List Int) (hn : a.length ≤ 4611686018427387904) : Ev (fun k => cell_Less.f k a b) (lexC a b) := by
 have h := less_l0 a b hn a.length 0 (by omega) (by omega) (by omega)
 simp only [List.drop_zero] at h
 have h2 : Ev (fun k => slices_Compare_int_int.f k a b) (lexC a b) := Ev.congr (fun k => by unfold slices_Compare_int_int.f; rfl) h
 exact Ev.congr (fun k => by unfold cell_Less.f; rfl) (Ev.bind h2 (Ev.now _))
theorem ref_less_l0 (a b : List Int) (hn : a.length ≤ 4611686018427387904) (d : Nat) : ∀ i : Nat, a.length - i = d → i ≤ a.length → i ≤ b.length →
  Ev (fun k => hypercuberef2_Less.l0 k a b (i : Int)) (lexC (a.drop i) (b.drop i)) := by
 have hend : ∀ i : Nat, i ≤ a.length → i ≤ b.length → ¬ (i < a.length ∧ i < b.length) → Ev (fun k => hypercuberef2_Less.j1 k a b (i : Int) false) (lexC (a.drop i) (b.drop i)) := by
  intro i hi hib hno
  by_cases ha : i < a.length
  ·have hb : b.drop i = [] := List.drop_eq_nil_of_le (by omega)
   rw [hb, lexC_nil_right _ (by rw [drop_cons ha]; exact List.cons_ne_nil _ _)]
   exact Ev.step (fun k => by simp only [hypercuberef2_Less.j1]; rw [if_neg (by simp), if_neg (by omega), if_pos (by omega)]) (Ev.now _)
  ·have ha' : a.drop i = [] := List.drop_eq_nil_of_le (by omega)
   rw [ha']
   by_cases hb : i < b.length
   ·rw [lexC_nil_left _ (by rw [drop_cons hb]; exact List.cons_ne_nil _ _)]
    exact Ev.step (fun k => by simp only [hypercuberef2_Less.j1]; rw [if_neg (by simp), if_pos (by omega)]) (Ev.now _)
   ·have hb' : b.drop i = [] := List.drop_eq_nil_of_le (by omega)
    rw [hb']
    exact Ev.step (fun k => by simp only [hypercuberef2_Less.j1]; rw [if_neg (by simp), if_neg (by omega), if_neg (by omega)]; rfl) (Ev.now _)
 induction d with
 | zero =>
  intro i hd hi hib
  exact Ev.step (fun k => by simp only [hypercuberef2_Less.l0]; rw [if_neg (by omega)]) (hend i hi hib (by omega))
 | succ d ih =>
  intro i hd hi hib
  have ha : i < a.length := by omega
  by_cases hb : i < b.length
  ·rw [drop_cons ha, drop_cons hb]
   refine Ev.step (f := fun k => hypercuberef2_Less.j1 k a b (i : Int) true) (fun k => by simp only [hypercuberef2_Less.l0]; rw [if_pos (by omega), show decide ((i : Int) < (b.length : Int)) = true from decide_eq_true (by omega)]) ?_
   have h1 : ∀ k, hypercuberef2_Less.j1 (k + 1) a b (i : Int) true = (if a[i] < b[i] then some (-1) else if a[i] > b[i] then some 1 else hypercuberef2_Less.l0 k a b ((i + 1 : Nat) : Int)) := fun k => by
    simp only [hypercuberef2_Less.j1]
    rw [if_pos trivial, if_pos (by omega), if_pos (by omega), if_pos (by omega), rd_get ha, rd_get hb, w64s ha hn]
   unfold lexC
   by_cases c1 : a[i] < b[i]
   ·rw [if_pos c1]
    exact Ev.step (fun k => by rw [h1, if_pos c1]) (Ev.now _)
   ·by_cases c2 : a[i] > b[i]
    ·rw [if_neg c1, if_pos c2]
     exact Ev.step (fun k => by rw [h1, if_neg c1, if_pos c2]) (Ev.now _)
    ·rw [if_neg c1, if_neg c2]
     exact Ev.step (fun k => by rw [h1, if_neg c1, if_neg c2]) (ih (i + 1) (by omega) (by omega) (by omega))
  ·exact Ev.step (fun k => by simp only [hypercuberef2_Less.l0]; rw [if_pos (by omega), show decide ((i : Int) < (b.length : Int)) = false from decide_eq_false (by omega)]) (hend i hi hib (by omega))
theorem ref_less_ev (a b : List Int) (hn : a.length ≤ 4611686018427387904) : Ev (fun k => hypercuberef2_Less.f k a b) (lexC a b) := by
 have h := ref_less_l0 a b hn a.length 0 (by omega) (by omega) (by omega)
 simp only [List.drop_zero] at h
 exact Ev.congr (fun k => by unfold hypercuberef2_Less.f; rfl) h
theorem getD_ft {l : Array Bool} {j : Nat} (h : l.getD j false = true) : l.getD j true = true := by
 simp only [Array.getD_eq_getD_getElem?] at h ⊢
 cases e : l[j]? with
 | none => rw [e] at h; cases h
 | some b => rw [e] at h; exact h
theorem ready_at {md : Region.Mode} {ops : Array Oper} {l : Array Bool} {i : Nat} (h : i ∈ Region.ready md ops l) :
  i < ops.size ∧ l.getD i true = false ∧ ∀ o, ops[i]? = some o → ∀ e ∈ o.after, Region.binds md e = true → l.getD e.on true = true := by
 unfold Region.ready at h
 rw [List.mem_filter, List.mem_range] at h
 obtain ⟨h1, h2⟩ := h
 rw [Bool.and_eq_true] at h2
 refine ⟨h1, by simpa using h2.1, fun o ho e he hb => ?_⟩
 have h3 := h2.2
 rw [ho] at h3
 simp only [Option.map_some, Option.getD_some] at h3
 obtain ⟨j, hj, rfl⟩ := Array.mem_iff_getElem.1 he
 have := (Array.all_eq_true.1 h3) j hj
 rw [Bool.or_eq_true] at this
 rcases this with h | h
 ·rw [hb] at h; cases h
 ·exact getD_ft h
theorem getD_set {l : Array Bool} {i j : Nat} {d : Bool} (hi : i < l.size) : (l.setIfInBounds i true).getD j d = if i = j then true else l.getD j d := by
 simp only [Array.getD_eq_getD_getElem?, Array.getElem?_setIfInBounds]
 by_cases h : i = j
 ·subst h; simp [hi]
 ·simp [h]
theorem count_set_lt {l : Array Bool} {i : Nat} (h : l.getD i true = false) : ((l.setIfInBounds i true).toList.count false) + 1 = l.toList.count false := by
 have hi : i < l.size := by
  rcases Nat.lt_or_ge i l.size with h1 | h1
  ·exact h1
  ·simp [Array.getD_eq_getD_getElem?, Array.getElem?_eq_none h1] at h
 have hl : l.toList[i]'(by simpa using hi) = false := by
  simp [Array.getD_eq_getD_getElem?, hi] at h
  simpa using h
 have hpos : 0 < l.toList.count false := List.count_pos_iff.2 (hl ▸ List.getElem_mem _)
 have e := List.count_set (a := true) (b := false) (l := l.toList) (i := i) (by simpa using hi)
 rw [hl] at e
 have e1 : ((false == false) = true) := rfl
 have e2 : ¬ ((true == false) = true) := by decide
 rw [if_pos e1, if_neg e2] at e
 rw [Array.toList_setIfInBounds, e]
 omega
section
variable {P : Program} {md : Region.Mode} {ops : Array Oper} {Q : Exit → Act → World → Prop} {S : World → Prop} {ds : List Nat}
theorem anyLast_inv (Inv : Array Bool → Act → World → Prop)
  (hstep : ∀ l a w i, Inv l a w → i ∈ Region.ready md ops l → wpOp P ops Q i (fun a' w' => (i ∉ ds → S w → S w') ∧ Inv (l.setIfInBounds i true) a' w') a w)
  (hend : ∀ l a w, Inv l a w → Region.ready md ops l = [] → Q .normal a w) :
  ∀ (fuel : Nat) (l : Array Bool) (a : Act) (w : World), l.toList.count false ≤ fuel → Inv l a w → wpAnyLast P md ops Q S ds fuel l a w
 | 0, l, a, w, hc, h => by
  have hr : Region.ready md ops l = [] := by
   cases hr : Region.ready md ops l with
   | nil => rfl
   | cons i rs =>
    have hi := (ready_at (md := md) (ops := ops) (l := l) (i := i) (by rw [hr]; simp)).2.1
    have := count_set_lt hi
    omega
  exact ⟨hr, hend l a w h hr⟩
 | n + 1, l, a, w, hc, h => ⟨hend l a w h, fun i hi => wpOp_mono (fun a' w' hh => ⟨hh.1, anyLast_inv Inv hstep hend n _ a' w' (by have := count_set_lt (ready_at hi).2.1; omega) hh.2⟩) (hstep l a w i h hi)⟩
theorem none_left {l : Array Bool} (hsz : l.size = ops.size) (hlow : ∀ (i : Nat) (o : Oper), ops[i]? = some o → ∀ e ∈ o.after, e.on < i) (hr : Region.ready md ops l = []) : ∀ i, i < ops.size → l.getD i true = true := by
 intro i
 induction i using Nat.strongRecOn with
 | ind i ih =>
  intro hi
  by_cases hl : l.getD i true = true
  ·exact hl
  ·exfalso
   have hm : i ∈ Region.ready md ops l := by
    unfold Region.ready
    rw [List.mem_filter, List.mem_range]
    refine ⟨hi, ?_⟩
    rw [Bool.and_eq_true]
    refine ⟨by simpa using hl, ?_⟩
    rw [Array.getElem?_eq_getElem hi]
    simp only [Option.map_some, Option.getD_some]
    rw [Array.all_eq_true]
    intro j hj
    have hlt := hlow i _ (Array.getElem?_eq_getElem hi) _ (Array.getElem_mem hj)
    have := ih _ hlt (by omega)
    rw [Bool.or_eq_true]
    right
    simp only [Array.getD_eq_getD_getElem?] at this ⊢
    rw [Array.getElem?_eq_getElem (by omega)] at this ⊢
    simpa using this
   rw [hr] at hm
   cases hm
def lowB (ops : Array Oper) : Bool := ops.toList.zipIdx.all fun p => p.1.after.toList.all fun e => decide (e.on < p.2)
theorem low_of {ops : Array Oper} (h : lowB ops = true) : ∀ (i : Nat) (o : Oper), ops[i]? = some o → ∀ e ∈ o.after, e.on < i := by
 intro i o ho e he
 have hm : (o, i) ∈ ops.toList.zipIdx := by
  rw [List.mem_zipIdx_iff_getElem?]
  simpa using ho
 have h1 := List.all_eq_true.1 h _ hm
 have h2 := List.all_eq_true.1 h1 e (by simpa using he)
 simpa using h2
theorem op_now {i : Nat} {o : Oper} {a : Act} {w : World} {K : Act → World → Prop} (ho : ops[i]? = some o) (h : if Region.wanted o (yielded ops a.tmps) = true then Oper.wp P o a w K Q else K (a.put o.dst undef) w) : wpOp P ops Q i K a w := by
 unfold wpOp
 simp only [ho]
 split
 ·rename_i hw; rw [if_pos hw] at h; exact .inl h
 ·rename_i hw; rw [if_neg hw] at h; exact h
end
theorem eval_put_ne {a : Act} {d d' : Nat} {v : Value} (h : d ≠ d') : (a.put (some d) v).eval (.tmp d') = a.eval (.tmp d') := by
 simp [Act.put, Act.eval, Array.getD_eq_getD_getElem?, Array.getElem?_setIfInBounds_ne h]
theorem eval_put_same {a : Act} {d : Nat} {v : Value} (h : d < a.tmps.size) : (a.put (some d) v).eval (.tmp d) = v := by
 simp [Act.put, Act.eval, Array.getD_eq_getD_getElem?, h]
theorem put_size (a : Act) (d : Nat) (v : Value) : (a.put (some d) v).tmps.size = a.tmps.size := by simp [Act.put]
def hypercuberef2_Copy.f (l0_0 : List Int) (a0_1 : Int) (l0_2 : List Int) (l0_3 : List Int) (l0_4 : List Int) : Option (List Int × Int × List Int × List Int × List Int) :=
 if l0_0.length * 8 ≤ 140737488355328 ∧ l0_2.length * 8 ≤ 140737488355328 ∧ l0_3.length * 8 ≤ 140737488355328 ∧ l0_4.length * 8 ≤ 140737488355328 then some (l0_0, a0_1, l0_2, l0_3, l0_4) else none
def ref_Copy.T1 : Bool × List (List Nat × List Nat) := (true, [([], []), ([], []), ([1], [1]), ([0, 2], [0, 2]), ([], []), ([4], [4]), ([], []), ([], []), ([7], [7]), ([6, 8, 3], [6, 8]), ([], []), ([], []), ([11], [11]), ([10, 12, 9], [10, 12]), ([], []), ([], []), ([15], [15]), ([14, 16, 13], [14, 16]), ([3, 5, 9, 13, 17], [3, 5, 9, 13, 17]), ([18, 17, 0, 1, 2, 3, 4, 5, 6, 7, 8, 9, 10, 11, 12, 13, 14, 15, 16, 17, 18], [18])])
def ref_Copy.B1 : List Nat := [0, 0, 2, 7, 0, 16, 0, 0, 128, 463, 0, 0, 2048, 8143, 0, 0, 32768, 131023, 262143, 524287]
theorem ref_Copy.tab1 : rtab .any (opsOf Try.f42 1) = ref_Copy.T1 := by kernel_rfl
theorem ref_Copy.bits1 : waitsOk ref_Copy.T1.2 ref_Copy.B1 = true := by kernel_rfl
def RowSt (w0 : World) (l : Array Bool) (w : World) (f : Nat → Nat) (q B A : Nat) (vb va : Value) (y : List Int) : Prop :=
 (l.getD B true = true → l.getD A true = false → Kd.R (Kd.int .i64) 3 w w0.heap.size (fun k => f k = q) vb []) ∧ (l.getD A true = true → Kd.R (Kd.int .i64) 3 w w0.heap.size (fun k => f k = q) va y)
theorem R_refun {e base q : Nat} {f f' : Nat → Nat} {w w1 : World} {v : Value} {y : List Int} (h : Kd.R (Kd.int .i64) e w base (fun k => f k = q) v y) (hh : ∀ k, f k = q → k < w.heap.size → w1.heap[k]? = w.heap[k]?) (hf : ∀ k, k < w.heap.size → f' k = f k) : Kd.R (Kd.int .i64) e w1 base (fun k => f' k = q) v y :=
 Kd.R_mono (Kd.R_step (Kd.R_bound h) (fun k hk hlt => hh k hk.1 hlt)) (fun k hk => (hf k hk.2.2.1).trans hk.1)
theorem RowSt.keep {w0 w w1 : World} {l : Array Bool} {f f' : Nat → Nat} {q B A i : Nat} {vb va : Value} {y : List Int} (h : RowSt w0 l w f q B A vb va y) (hi : i < l.size) (hB : i ≠ B) (hA : i ≠ A) (hh : ∀ k, f k = q → k < w.heap.size → w1.heap[k]? = w.heap[k]?) (hf : ∀ k, k < w.heap.size → f' k = f k) : RowSt w0 (l.setIfInBounds i true) w1 f' q B A vb va y := by
 unfold RowSt at h ⊢
 rw [getD_set hi, getD_set hi, if_neg hB, if_neg hA]
 exact ⟨fun h1 h2 => R_refun (h.1 h1 h2) hh hf, fun h1 => R_refun (h.2 h1) hh hf⟩
theorem RowSt.made {w0 w w1 : World} {l : Array Bool} {f' : Nat → Nat} {q B A : Nat} {vb va : Value} {y : List Int} (hi : B < l.size) (hBA : B ≠ A) (hA : l.getD A true = false) (h : Kd.R (Kd.int .i64) 3 w1 w0.heap.size (fun k => f' k = q) vb []) : RowSt w0 (l.setIfInBounds B true) w1 f' q B A vb va y := by
 unfold RowSt
 rw [getD_set hi, getD_set hi, if_neg hBA, if_pos rfl]
 exact ⟨fun _ _ => h, fun h1 => (by rw [hA] at h1; cases h1)⟩
theorem RowSt.full {w0 w w1 : World} {l : Array Bool} {f' : Nat → Nat} {q B A : Nat} {vb va : Value} {y : List Int} (hi : A < l.size) (h : Kd.R (Kd.int .i64) 3 w1 w0.heap.size (fun k => f' k = q) va y) : RowSt w0 (l.setIfInBounds A true) w1 f' q B A vb va y := by
 unfold RowSt
 rw [getD_set hi, getD_set hi, if_pos rfl]
 exact ⟨fun _ h1 => (by cases h1), fun _ => h⟩
def OrdC (l : Array Bool) : Prop := ∀ A B, (A = 3 ∧ B = 0) ∨ (A = 9 ∧ B = 6) ∨ (A = 13 ∧ B = 10) ∨ (A = 17 ∧ B = 14) ∨ (A = 19 ∧ B = 18) → l.getD A true = true → l.getD B true = true
theorem ordC_set {l : Array Bool} {i : Nat} (hi : i < l.size) (h : OrdC l) (hn : ∀ B, (i = 3 ∧ B = 0) ∨ (i = 9 ∧ B = 6) ∨ (i = 13 ∧ B = 10) ∨ (i = 17 ∧ B = 14) ∨ (i = 19 ∧ B = 18) → l.getD B true = true) : OrdC (l.setIfInBounds i true) := by
 intro A B hAB h1
 rw [getD_set hi] at h1 ⊢
 split
 ·rfl
 ·by_cases c : i = A
  ·subst c
   exact hn B hAB
  ·rw [if_neg c] at h1
   exact h A B hAB h1
structure CInv (w0 : World) (xb rb : Nat) (XC : Array Value) (y0 y1 y2 y3 : List Int) (n : Int) (l : Array Bool) (a : Act) (w : World) : Prop where
 sz : l.size = 20
 old : ∀ j, j = 1 ∨ j = 2 ∨ j = 4 ∨ j = 5 ∨ j = 7 ∨ j = 8 ∨ j = 11 ∨ j = 12 ∨ j = 15 ∨ j = 16 → l.getD j true = true
 ord : OrdC l
 tsz : a.tmps.size = 22
 dfr : a.defers = []
 bel : Below w0.heap.size w0 w
 bx : w.heap[xb]? = some (.cells XC 41 (0, 0))
 e2 : a.eval (.tmp 2) = .pointer (some ⟨rb, 0, none⟩)
 e8 : a.eval (.tmp 8) = .int .i64 n
 rows : ∃ A0 c0 A1 c1 A2 c2 A3 c3, a.eval (.tmp 5) = .slice A0 y0.length c0 ∧ a.eval (.tmp 11) = .slice A1 y1.length c1 ∧ a.eval (.tmp 15) = .slice A2 y2.length c2 ∧ a.eval (.tmp 19) = .slice A3 y3.length c3 ∧
  (Kd.int .i64).C w0 A0 y0.length y0 ∧ (Kd.int .i64).C w0 A1 y1.length y1 ∧ (Kd.int .i64).C w0 A2 y2.length y2 ∧ (Kd.int .i64).C w0 A3 y3.length y3
 made : l.getD 19 true = false → w.heap[rb]? = some (.cells #[.slice none 0 0, .int .i64 0, .slice none 0 0, .slice none 0 0, .slice none 0 0] 41 (0, 0)) ∧ w0.heap.size ≤ rb ∧ ∃ f : Nat → Nat,
  RowSt w0 l w f 0 0 3 (a.eval (.tmp 3)) (a.eval (.tmp 6)) y0 ∧ RowSt w0 l w f 1 6 9 (a.eval (.tmp 9)) (a.eval (.tmp 12)) y1 ∧ RowSt w0 l w f 2 10 13 (a.eval (.tmp 13)) (a.eval (.tmp 16)) y2 ∧ RowSt w0 l w f 3 14 17 (a.eval (.tmp 17)) (a.eval (.tmp 20)) y3
 told : l.getD 18 true = true → l.getD 3 true = true ∧ l.getD 9 true = true ∧ l.getD 13 true = true ∧ l.getD 17 true = true ∧ a.eval (.tmp 21) = .agg #[a.eval (.tmp 6), .int .i64 n, a.eval (.tmp 12), a.eval (.tmp 16), a.eval (.tmp 20)]
 fin : l.getD 19 true = true → ∃ v0 v1 v2 v3 : Value, ∃ f : Nat → Nat, w.heap[rb]? = some (.cells #[v0, .int .i64 n, v1, v2, v3] 41 (0, 0)) ∧ Kd.R (Kd.int .i64) 3 w w0.heap.size (fun k => f k = 0) v0 y0 ∧ Kd.R (Kd.int .i64) 3 w w0.heap.size (fun k => f k = 1) v1 y1 ∧ Kd.R (Kd.int .i64) 3 w w0.heap.size (fun k => f k = 2) v2 y2 ∧ Kd.R (Kd.int .i64) 3 w w0.heap.size (fun k => f k = 3) v3 y3
theorem old_set {l : Array Bool} {i j : Nat} (hi : i < l.size) (h : l.getD j true = true) : (l.setIfInBounds i true).getD j true = true := by
 rw [getD_set hi]
 split
 ·rfl
 ·exact h
theorem bfalse {b : Bool} (h : b = true → False) : b = false := by
 cases b
 ·rfl
 ·exact (h rfl).elim
theorem blk_other {w w1 : World} {g : Nat} {o : Obj} (h : w.heap[g]? = some o) (hh : ∀ k, k < w.heap.size → w1.heap[k]? = w.heap[k]?) : w1.heap[g]? = some o := (hh g (blk_lt h)).trans h
theorem R_fresh (w0 w : World) (q : Nat) (hb : w0.heap.size ≤ w.heap.size) (f : Nat → Nat) : Kd.R (Kd.int .i64) 3 (w.alloc (.cells #[] 3)) w0.heap.size (fun k => (if k = w.heap.size then q else f k) = q) (.slice (some ⟨w.heap.size, 0, none⟩) 0 0) [] :=
 ⟨fun k hk => by simp only [Value.ownBlock, Option.some.injEq] at hk; subst hk; simp, [], ⟨rfl, .inr ⟨w.heap.size, 0, #[], rfl, hb, blk_new w _, Nat.le_refl _, Nat.zero_le _, rfl, rfl⟩⟩, Reps.none _ _⟩
section
variable {w0 : World} {xb rb : Nat} {XC : Array Value} {y0 y1 y2 y3 : List Int} {n : Int} {l : Array Bool} {a : Act} {w : World} {K : Act → World → Prop} {Q : Exit → Act → World → Prop}
theorem CInv.build (h : CInv w0 xb rb XC y0 y1 y2 y3 n l a w) (i d : Nat) (hid : (i = 0 ∧ d = 3) ∨ (i = 6 ∧ d = 9) ∨ (i = 10 ∧ d = 13) ∨ (i = 14 ∧ d = 17)) (hl : l.getD i true = false) :
  CInv w0 xb rb XC y0 y1 y2 y3 n (l.setIfInBounds i true) (a.put (some d) (.slice (some ⟨w.heap.size, 0, none⟩) 0 0)) (w.alloc (.cells #[] 3)) := by
 have hi : i < l.size := by rw [h.sz]; omega
 have h18 : l.getD 18 true = false := bfalse fun e => by
  obtain ⟨a3, a9, a13, a17, _⟩ := h.told e
  rcases hid with ⟨rfl, _⟩ | ⟨rfl, _⟩ | ⟨rfl, _⟩ | ⟨rfl, _⟩
  ·rw [h.ord 3 0 (by omega) a3] at hl; cases hl
  ·rw [h.ord 9 6 (by omega) a9] at hl; cases hl
  ·rw [h.ord 13 10 (by omega) a13] at hl; cases hl
  ·rw [h.ord 17 14 (by omega) a17] at hl; cases hl
 have h19 : l.getD 19 true = false := bfalse fun e => by rw [h.ord 19 18 (by omega) e] at h18; cases h18
 have hd : d < a.tmps.size := by rw [h.tsz]; omega
 have hw : ∀ k, k < w.heap.size → (w.alloc (.cells #[] 3)).heap[k]? = w.heap[k]? := fun k hk => Below.heap_alloc w _ k hk
 have ev : ∀ d', d ≠ d' → (a.put (some d) (.slice (some ⟨w.heap.size, 0, none⟩) 0 0)).eval (.tmp d') = a.eval (.tmp d') := fun d' hne => eval_put_ne hne
 have es : (a.put (some d) (.slice (some ⟨w.heap.size, 0, none⟩) 0 0)).eval (.tmp d) = .slice (some ⟨w.heap.size, 0, none⟩) 0 0 := eval_put_same hd
 obtain ⟨hr, hrb, f, r0, r1, r2, r3⟩ := h.made h19
 have hsz : w0.heap.size ≤ w.heap.size := h.bel.size
 refine ⟨by rw [Array.size_setIfInBounds]; exact h.sz, fun j hj => old_set hi (h.old j hj), ordC_set hi h.ord (fun B hB => by omega), by rw [put_size]; exact h.tsz, h.dfr, below_alloc h.bel _, blk_other h.bx hw, (ev 2 (by omega)).trans h.e2, (ev 8 (by omega)).trans h.e8, ?_, fun _ => ⟨blk_other hr hw, hrb, fun k => if k = w.heap.size then (if i = 0 then 0 else if i = 6 then 1 else if i = 10 then 2 else 3) else f k, ?_⟩, fun h2 => ?_, fun h2 => ?_⟩
 ·obtain ⟨A0, c0, A1, c1, A2, c2, A3, c3, x0, x1, x2, x3, z⟩ := h.rows
  exact ⟨A0, c0, A1, c1, A2, c2, A3, c3, (ev 5 (by omega)).trans x0, (ev 11 (by omega)).trans x1, (ev 15 (by omega)).trans x2, (ev 19 (by omega)).trans x3, z⟩
 ·have hf : ∀ k, k < w.heap.size → (if k = w.heap.size then (if i = 0 then 0 else if i = 6 then 1 else if i = 10 then 2 else 3) else f k) = f k := fun k hk => if_neg (by omega)
  rcases hid with ⟨rfl, rfl⟩ | ⟨rfl, rfl⟩ | ⟨rfl, rfl⟩ | ⟨rfl, rfl⟩
  ·rw [es, ev 6 (by omega), ev 9 (by omega), ev 12 (by omega), ev 13 (by omega), ev 16 (by omega), ev 17 (by omega), ev 20 (by omega)]
   exact ⟨RowSt.made (w := w) hi (by omega) (bfalse fun e => by rw [h.ord 3 0 (by omega) e] at hl; cases hl) (R_fresh w0 w 0 hsz f), r1.keep hi (by omega) (by omega) (fun k _ hk => hw k hk) hf, r2.keep hi (by omega) (by omega) (fun k _ hk => hw k hk) hf, r3.keep hi (by omega) (by omega) (fun k _ hk => hw k hk) hf⟩
  ·rw [es, ev 3 (by omega), ev 6 (by omega), ev 12 (by omega), ev 13 (by omega), ev 16 (by omega), ev 17 (by omega), ev 20 (by omega)]
   exact ⟨r0.keep hi (by omega) (by omega) (fun k _ hk => hw k hk) hf, RowSt.made (w := w) hi (by omega) (bfalse fun e => by rw [h.ord 9 6 (by omega) e] at hl; cases hl) (R_fresh w0 w 1 hsz f), r2.keep hi (by omega) (by omega) (fun k _ hk => hw k hk) hf, r3.keep hi (by omega) (by omega) (fun k _ hk => hw k hk) hf⟩
  ·rw [es, ev 3 (by omega), ev 6 (by omega), ev 9 (by omega), ev 12 (by omega), ev 16 (by omega), ev 17 (by omega), ev 20 (by omega)]
   exact ⟨r0.keep hi (by omega) (by omega) (fun k _ hk => hw k hk) hf, r1.keep hi (by omega) (by omega) (fun k _ hk => hw k hk) hf, RowSt.made (w := w) hi (by omega) (bfalse fun e => by rw [h.ord 13 10 (by omega) e] at hl; cases hl) (R_fresh w0 w 2 hsz f), r3.keep hi (by omega) (by omega) (fun k _ hk => hw k hk) hf⟩
  ·rw [es, ev 3 (by omega), ev 6 (by omega), ev 9 (by omega), ev 12 (by omega), ev 13 (by omega), ev 16 (by omega), ev 20 (by omega)]
   exact ⟨r0.keep hi (by omega) (by omega) (fun k _ hk => hw k hk) hf, r1.keep hi (by omega) (by omega) (fun k _ hk => hw k hk) hf, r2.keep hi (by omega) (by omega) (fun k _ hk => hw k hk) hf, RowSt.made (w := w) hi (by omega) (bfalse fun e => by rw [h.ord 17 14 (by omega) e] at hl; cases hl) (R_fresh w0 w 3 hsz f)⟩
 ·rw [getD_set hi, if_neg (by omega), h18] at h2; cases h2
 ·rw [getD_set hi, if_neg (by omega), h19] at h2; cases h2
theorem CInv.app (h : CInv w0 xb rb XC y0 y1 y2 y3 n l a w) (i d q : Nat) (hid : (i = 3 ∧ d = 6 ∧ q = 0) ∨ (i = 9 ∧ d = 12 ∧ q = 1) ∨ (i = 13 ∧ d = 16 ∧ q = 2) ∨ (i = 17 ∧ d = 20 ∧ q = 3)) (hl : l.getD i true = false) (hB : ∀ B, (i = 3 ∧ B = 0) ∨ (i = 9 ∧ B = 6) ∨ (i = 13 ∧ B = 10) ∨ (i = 17 ∧ B = 14) ∨ (i = 19 ∧ B = 18) → l.getD B true = true) (h18 : l.getD 18 true = false) (h19 : l.getD 19 true = false)
  {f f' : Nat → Nat} {v v1 : Value} {w1 : World} (hr : w.heap[rb]? = some (.cells #[.slice none 0 0, .int .i64 0, .slice none 0 0, .slice none 0 0, .slice none 0 0] 41 (0, 0))) (hrb : w0.heap.size ≤ rb) (hf : ∀ k, k < w.heap.size → f' k = f k)
  (r0 : RowSt w0 l w f 0 0 3 (a.eval (.tmp 3)) (a.eval (.tmp 6)) y0) (r1 : RowSt w0 l w f 1 6 9 (a.eval (.tmp 9)) (a.eval (.tmp 12)) y1) (r2 : RowSt w0 l w f 2 10 13 (a.eval (.tmp 13)) (a.eval (.tmp 16)) y2) (r3 : RowSt w0 l w f 3 14 17 (a.eval (.tmp 17)) (a.eval (.tmp 20)) y3)
  (hv : ∀ k, v.ownBlock = some k → f k = q ∧ ∃ cells, w.heap[k]? = some (.cells cells 3 (0, 0))) (hb : Below w0.heap.size w0 w1) (hg : w.grownBy w1 v.ownBlock)
  (ho : Kd.R (Kd.int .i64) 3 w1 w0.heap.size (fun k => f' k = q) v1 (if i = 3 then y0 else if i = 9 then y1 else if i = 13 then y2 else y3)) :
  CInv w0 xb rb XC y0 y1 y2 y3 n (l.setIfInBounds i true) (a.put (some d) v1) w1 := by
 have hi : i < l.size := by rw [h.sz]; omega
 have hd : d < a.tmps.size := by rw [h.tsz]; omega
 have ev : ∀ d', d ≠ d' → (a.put (some d) v1).eval (.tmp d') = a.eval (.tmp d') := fun d' hne => eval_put_ne hne
 have es : (a.put (some d) v1).eval (.tmp d) = v1 := eval_put_same hd
 have hfar : ∀ (g t : Nat) (cs : Array Value), w.heap[g]? = some (.cells cs t (0, 0)) → t ≠ 3 → w1.heap[g]? = some (.cells cs t (0, 0)) := fun g t cs hgc hne =>
  blk_grown hgc hg (fun e => by obtain ⟨_, cells, hc⟩ := hv g e.symm; rw [hgc] at hc; injection hc with hc; injection hc with _ hc; exact hne hc)
 have hw : ∀ q', q' ≠ q → ∀ k, f k = q' → k < w.heap.size → w1.heap[k]? = w.heap[k]? := fun q' hne k hk hlt => hg.block k hlt (fun e => by have := (hv k e.symm).1; omega)
 refine ⟨by rw [Array.size_setIfInBounds]; exact h.sz, fun j hj => old_set hi (h.old j hj), ordC_set hi h.ord hB, by rw [put_size]; exact h.tsz, h.dfr, hb, hfar _ _ _ h.bx (by decide), (ev 2 (by omega)).trans h.e2, (ev 8 (by omega)).trans h.e8, ?_, fun _ => ⟨hfar _ _ _ hr (by decide), hrb, f', ?_⟩, fun h2 => ?_, fun h2 => ?_⟩
 ·obtain ⟨A0, c0, A1, c1, A2, c2, A3, c3, x0, x1, x2, x3, z⟩ := h.rows
  exact ⟨A0, c0, A1, c1, A2, c2, A3, c3, (ev 5 (by omega)).trans x0, (ev 11 (by omega)).trans x1, (ev 15 (by omega)).trans x2, (ev 19 (by omega)).trans x3, z⟩
 ·rcases hid with ⟨rfl, rfl, rfl⟩ | ⟨rfl, rfl, rfl⟩ | ⟨rfl, rfl, rfl⟩ | ⟨rfl, rfl, rfl⟩
  ·rw [es, ev 3 (by omega), ev 9 (by omega), ev 12 (by omega), ev 13 (by omega), ev 16 (by omega), ev 17 (by omega), ev 20 (by omega)]
   exact ⟨RowSt.full (w := w) hi ho, r1.keep hi (by omega) (by omega) (hw 1 (by omega)) hf, r2.keep hi (by omega) (by omega) (hw 2 (by omega)) hf, r3.keep hi (by omega) (by omega) (hw 3 (by omega)) hf⟩
  ·rw [es, ev 3 (by omega), ev 6 (by omega), ev 9 (by omega), ev 13 (by omega), ev 16 (by omega), ev 17 (by omega), ev 20 (by omega)]
   exact ⟨r0.keep hi (by omega) (by omega) (hw 0 (by omega)) hf, RowSt.full (w := w) hi ho, r2.keep hi (by omega) (by omega) (hw 2 (by omega)) hf, r3.keep hi (by omega) (by omega) (hw 3 (by omega)) hf⟩
  ·rw [es, ev 3 (by omega), ev 6 (by omega), ev 9 (by omega), ev 12 (by omega), ev 13 (by omega), ev 17 (by omega), ev 20 (by omega)]
   exact ⟨r0.keep hi (by omega) (by omega) (hw 0 (by omega)) hf, r1.keep hi (by omega) (by omega) (hw 1 (by omega)) hf, RowSt.full (w := w) hi ho, r3.keep hi (by omega) (by omega) (hw 3 (by omega)) hf⟩
  ·rw [es, ev 3 (by omega), ev 6 (by omega), ev 9 (by omega), ev 12 (by omega), ev 13 (by omega), ev 16 (by omega), ev 17 (by omega)]
   exact ⟨r0.keep hi (by omega) (by omega) (hw 0 (by omega)) hf, r1.keep hi (by omega) (by omega) (hw 1 (by omega)) hf, r2.keep hi (by omega) (by omega) (hw 2 (by omega)) hf, RowSt.full (w := w) hi ho⟩
 ·rw [getD_set hi, if_neg (by omega), h18] at h2; cases h2
 ·rw [getD_set hi, if_neg (by omega), h19] at h2; cases h2
theorem CInv.tell (h : CInv w0 xb rb XC y0 y1 y2 y3 n l a w) (hl : l.getD 18 true = false) (h19 : l.getD 19 true = false) (a3 : l.getD 3 true = true) (a9 : l.getD 9 true = true) (a13 : l.getD 13 true = true) (a17 : l.getD 17 true = true) :
  CInv w0 xb rb XC y0 y1 y2 y3 n (l.setIfInBounds 18 true) (a.put (some 21) (.agg #[a.eval (.tmp 6), .int .i64 n, a.eval (.tmp 12), a.eval (.tmp 16), a.eval (.tmp 20)])) w := by
 have hi : 18 < l.size := by rw [h.sz]; omega
 have hd : 21 < a.tmps.size := by rw [h.tsz]; omega
 have ev : ∀ d' : Nat, (21 : Nat) ≠ d' → (a.put (some 21) (.agg #[a.eval (.tmp 6), .int .i64 n, a.eval (.tmp 12), a.eval (.tmp 16), a.eval (.tmp 20)])).eval (.tmp d') = a.eval (.tmp d') := fun d' hne => eval_put_ne hne
 have hg : ∀ j : Nat, (18 : Nat) ≠ j → (l.setIfInBounds 18 true).getD j true = l.getD j true := fun j hj => by rw [getD_set hi, if_neg hj]
 refine ⟨by rw [Array.size_setIfInBounds]; exact h.sz, fun j hj => old_set hi (h.old j hj), ordC_set hi h.ord (fun B hB => by omega), by rw [put_size]; exact h.tsz, h.dfr, h.bel, h.bx, (ev 2 (by omega)).trans h.e2, (ev 8 (by omega)).trans h.e8, ?_, fun _ => ?_, fun _ => ?_, fun h2 => ?_⟩
 ·obtain ⟨A0, c0, A1, c1, A2, c2, A3, c3, x0, x1, x2, x3, z⟩ := h.rows
  exact ⟨A0, c0, A1, c1, A2, c2, A3, c3, (ev 5 (by omega)).trans x0, (ev 11 (by omega)).trans x1, (ev 15 (by omega)).trans x2, (ev 19 (by omega)).trans x3, z⟩
 ·obtain ⟨hr, hrb, f, r0, r1, r2, r3⟩ := h.made h19
  refine ⟨hr, hrb, f, ?_⟩
  rw [ev 3 (by omega), ev 6 (by omega), ev 9 (by omega), ev 12 (by omega), ev 13 (by omega), ev 16 (by omega), ev 17 (by omega), ev 20 (by omega)]
  exact ⟨r0.keep hi (by omega) (by omega) (fun _ _ _ => rfl) (fun _ _ => rfl), r1.keep hi (by omega) (by omega) (fun _ _ _ => rfl) (fun _ _ => rfl), r2.keep hi (by omega) (by omega) (fun _ _ _ => rfl) (fun _ _ => rfl), r3.keep hi (by omega) (by omega) (fun _ _ _ => rfl) (fun _ _ => rfl)⟩
 ·rw [hg 3 (by omega), hg 9 (by omega), hg 13 (by omega), hg 17 (by omega), ev 6 (by omega), ev 12 (by omega), ev 16 (by omega), ev 20 (by omega)]
  exact ⟨a3, a9, a13, a17, eval_put_same hd⟩
 ·rw [hg 19 (by omega), h19] at h2; cases h2
theorem CInv.store (h : CInv w0 xb rb XC y0 y1 y2 y3 n l a w) (hl : l.getD 19 true = false) (hr : w.heap[rb]? = some (.cells #[.slice none 0 0, .int .i64 0, .slice none 0 0, .slice none 0 0, .slice none 0 0] 41 (0, 0))) (hrb : w0.heap.size ≤ rb) (h18 : l.getD 18 true = true) {f : Nat → Nat} {v0 v1 v2 v3 : Value}
  (r0 : Kd.R (Kd.int .i64) 3 w w0.heap.size (fun k => f k = 0) v0 y0) (r1 : Kd.R (Kd.int .i64) 3 w w0.heap.size (fun k => f k = 1) v1 y1) (r2 : Kd.R (Kd.int .i64) 3 w w0.heap.size (fun k => f k = 2) v2 y2) (r3 : Kd.R (Kd.int .i64) 3 w w0.heap.size (fun k => f k = 3) v3 y3) (hne : xb ≠ rb) :
  CInv w0 xb rb XC y0 y1 y2 y3 n (l.setIfInBounds 19 true) (a.put none undef) (w.setCells rb 0 [v0, .int .i64 n, v1, v2, v3]) := by
 have hi : 19 < l.size := by rw [h.sz]; omega
 have hg : ∀ j : Nat, (19 : Nat) ≠ j → (l.setIfInBounds 19 true).getD j true = l.getD j true := fun j hj => by rw [getD_set hi, if_neg hj]
 have hs : (l.setIfInBounds 19 true).getD 19 true = true := by rw [getD_set hi, if_pos rfl]
 obtain ⟨cur, c1, c2, c3⟩ := setCells_row [v0, .int .i64 n, v1, v2, v3] 0 w _ hr (by simp)
 obtain ⟨s1, s2, s3, s4⟩ := setCells_same rb [v0, .int .i64 n, v1, v2, v3] 0 w
 have hfar : ∀ k, k ≠ rb → (w.setCells rb 0 [v0, .int .i64 n, v1, v2, v3]).heap[k]? = w.heap[k]? := fun k hk => setCells_far _ _ k hk
 have hcur : cur = #[v0, .int .i64 n, v1, v2, v3] := by
  apply Array.toList_inj.mp
  rw [c3]
  simp
 have hR : ∀ {q : Nat} {v : Value} {y : List Int}, Kd.R (Kd.int .i64) 3 w w0.heap.size (fun k => f k = q) v y → Kd.R (Kd.int .i64) 3 (w.setCells rb 0 [v0, .int .i64 n, v1, v2, v3]) w0.heap.size (fun k => f k = q) v y := fun hv =>
  Kd.R_mono (Kd.R_step (Kd.R_types hv hr (by decide)) (fun k hk _ => hfar k hk.2)) (fun k hk => hk.1)
 refine ⟨by rw [Array.size_setIfInBounds]; exact h.sz, fun j hj => old_set hi (h.old j hj), ordC_set hi h.ord (fun B hB => by rw [show B = 18 by omega]; exact h18), h.tsz, h.dfr, h.bel.trans ⟨s1, s2, s3, by rw [s4]; exact Nat.le_refl _, fun k hk => hfar k (by omega)⟩, (hfar xb hne).trans h.bx, h.e2, h.e8, h.rows, fun h2 => (by rw [hs] at h2; cases h2), fun _ => ?_, fun _ => ?_⟩
 ·obtain ⟨a3, a9, a13, a17, e⟩ := h.told h18
  exact ⟨(hg 3 (by omega)).trans a3, (hg 9 (by omega)).trans a9, (hg 13 (by omega)).trans a13, (hg 17 (by omega)).trans a17, e⟩
 ·exact ⟨v0, v1, v2, v3, f, by rw [c1, hcur], hR r0, hR r1, hR r2, hR r3⟩
end
set_option maxHeartbeats 8000000 in
set_option maxRecDepth 100000 in
theorem hypercuberef2_Copy.calls (A0_0 : Option Addr) (c0_0 : Nat) (l0_0 : List Int) (a0_1 : Int) (A0_2 : Option Addr) (c0_2 : Nat) (l0_2 : List Int) (A0_3 : Option Addr) (c0_3 : Nat) (l0_3 : List Int) (A0_4 : Option Addr) (c0_4 : Nat) (l0_4 : List Int) (r1 : List Int) (r2 : Int) (r3 : List Int) (r4 : List Int) (r5 : List Int) (w : World) (hr0_0 : Kd.C (Kd.int .i64) w A0_0 l0_0.length l0_0) (hc0_0 : l0_0.length ≤ c0_0) (hr0_2 : Kd.C (Kd.int .i64) w A0_2 l0_2.length l0_2) (hc0_2 : l0_2.length ≤ c0_2) (hr0_3 : Kd.C (Kd.int .i64) w A0_3 l0_3.length l0_3) (hc0_3 : l0_3.length ≤ c0_3) (hr0_4 : Kd.C (Kd.int .i64) w A0_4 l0_4.length l0_4) (hc0_4 : l0_4.length ≤ c0_4) (h : hypercuberef2_Copy.f l0_0 a0_1 l0_2 l0_3 l0_4 = some (r1, r2, r3, r4, r5)) :
  Calls Try.prog 42 #[.agg #[.slice A0_0 l0_0.length c0_0, .int .i64 a0_1, .slice A0_2 l0_2.length c0_2, .slice A0_3 l0_3.length c0_3, .slice A0_4 l0_4.length c0_4]] w fun e w' => ∃ v0_ v2_ v3_ v4_ : Value, e = .returned (.agg #[v0_, .int .i64 r2, v2_, v3_, v4_]) ∧ Kd.R (Kd.int .i64) 3 w' w.heap.size (fun k_ => some k_ ≠ (v2_ : Value).ownBlock ∧ some k_ ≠ (v3_ : Value).ownBlock ∧ some k_ ≠ (v4_ : Value).ownBlock) v0_ r1 ∧ Kd.R (Kd.int .i64) 3 w' w.heap.size (fun k_ => some k_ ≠ (v0_ : Value).ownBlock ∧ some k_ ≠ (v3_ : Value).ownBlock ∧ some k_ ≠ (v4_ : Value).ownBlock) v2_ r3 ∧ Kd.R (Kd.int .i64) 3 w' w.heap.size (fun k_ => some k_ ≠ (v0_ : Value).ownBlock ∧ some k_ ≠ (v2_ : Value).ownBlock ∧ some k_ ≠ (v4_ : Value).ownBlock) v3_ r4 ∧ Kd.R (Kd.int .i64) 3 w' w.heap.size (fun k_ => some k_ ≠ (v0_ : Value).ownBlock ∧ some k_ ≠ (v2_ : Value).ownBlock ∧ some k_ ≠ (v3_ : Value).ownBlock) v4_ r5 ∧ Below w.heap.size w w' := by
 have hu30 := Try.underlying41
 unfold hypercuberef2_Copy.f at h
 have hlim : (l0_0.length * 8 ≤ 140737488355328 ∧ l0_2.length * 8 ≤ 140737488355328 ∧ l0_3.length * 8 ≤ 140737488355328 ∧ l0_4.length * 8 ≤ 140737488355328) ∧ (l0_0, a0_1, l0_2, l0_3, l0_4) = (r1, r2, r3, r4, r5) := by
  split at h
  · exact ⟨by assumption, Option.some.inj h⟩
  · cases h
 obtain ⟨hlim, he⟩ := hlim
 simp only [Prod.mk.injEq] at he
 obtain ⟨rfl, rfl, rfl, rfl, rfl⟩ := he
 have HL := am hlim
 have G0 := am hr0_0
 have G2 := am hr0_2
 have G3 := am hr0_3
 have G4 := am hr0_4
 clear h hlim hr0_0 hr0_2 hr0_3 hr0_4 hc0_0 hc0_2 hc0_3 hc0_4
 have HB := am (Below.refl w.heap.size w)
 go_enter Try.func42, Try.ntmps42
 go_wp2_with (first
  | ((with_reducible refine gate_dst (N := 1) rfl ?_); refine box_event ?hg (N := 1) ?hd (cs := #[.slice A0_0 l0_0.length c0_0, .int .i64 a0_1, .slice A0_2 l0_2.length c0_2, .slice A0_3 l0_3.length c0_3, .slice A0_4 l0_4.length c0_4]) (t := 41) ?hr ?_; (case hd => rfl); (case hg => rfl); (case hr => first | (go_simp; done) | (go_simp; rfl)); intro gx hg w3 hbox hb; have n0_ := am (below_step HB.out hb); have n1_ := am hbox; clear HB; have HB := n0_; have BKx := n1_; clear n0_ n1_; clear hb hbox hg)
  | ((with_reducible refine gate_dst (N := 2) rfl ?_); refine box_event ?hg (N := 2) ?hd (cs := #[.slice none 0 0, .int .i64 0, .slice none 0 0, .slice none 0 0, .slice none 0 0]) (t := 41) ?hr ?_; (case hd => rfl); (case hg => rfl); (case hr => first | (go_simp; done) | (go_simp; rfl)); intro gr hg w4 hbox hb; have n0_ := am (below_step HB.out hb); have n1_ := am hbox; have n2_ := am (blk_below BKx.out hb); have n3_ := am (show w.heap.size ≤ gr by rw [hg]; exact HB.out.size); have NExr := am (show gx ≠ gr by rw [hg]; exact Nat.ne_of_lt (blk_lt BKx.out)); clear HB BKx; have HB := n0_; have BKr := n1_; have BKx := n2_; have GEr := n3_; clear n0_ n1_ n2_ n3_; clear hb hbox hg))

 refine start_ (n := 20) (S := fun w' => w'.heap[gx]? = some (.cells #[.slice A0_0 l0_0.length c0_0, .int .i64 a0_1, .slice A0_2 l0_2.length c0_2, .slice A0_3 l0_3.length c0_3, .slice A0_4 l0_4.length c0_4] 41 (0, 0))) (ds := [19]) (bb 20 0) (by kernel_rfl) rfl rfl BKx.out (fun hHeld => ?_); refine with_tabW ref_Copy.tab1 ref_Copy.bits1 (fun HT_ HW_ => ?_)
 have n0_ := am (below_drew1 HB.out)
 have n1_ := am (blk_drew BKx.out)
 have n2_ := am (blk_drew BKr.out)
 clear HB BKx BKr
 have HB := n0_
 have BKx := n1_
 have BKr := n2_
 clear n0_ n1_ n2_
 generalize w4.drew = w5 at HB BKx BKr hHeld ⊢
 refine pure_ (i := 1) (N := some 4) (v := ?_) (a' := ?_) (bb 20 2) rfl rfl (any_of HT_.out (by kernel_rfl)) (fun _ _ _ h => h) (Or.inl ⟨by rfl, ?_⟩) ?_ ?_
 rotate_left
 ·intro w'
  go_simp
  with_reducible rfl
 rotate_left
 ·simp only [Act.put, List.setIfInBounds_toArray, List.set_cons_zero, List.set_cons_succ, i64_w, i32_w]
  rfl
 refine pure_ (i := 4) (N := some 7) (v := ?_) (a' := ?_) (bb 20 18) rfl rfl (any_of HT_.out (by kernel_rfl)) (fun _ _ _ h => h) (Or.inl ⟨by rfl, ?_⟩) ?_ ?_
 rotate_left
 ·intro w'
  go_simp
  with_reducible rfl
 rotate_left
 ·simp only [Act.put, List.setIfInBounds_toArray, List.set_cons_zero, List.set_cons_succ, i64_w, i32_w]
  rfl
 refine pure_ (i := 7) (N := some 10) (v := ?_) (a' := ?_) (bb 20 146) rfl rfl (any_of HT_.out (by kernel_rfl)) (fun _ _ _ h => h) (Or.inl ⟨by rfl, ?_⟩) ?_ ?_
 rotate_left
 ·intro w'
  go_simp
  with_reducible rfl
 rotate_left
 ·simp only [Act.put, List.setIfInBounds_toArray, List.set_cons_zero, List.set_cons_succ, i64_w, i32_w]
  rfl
 refine pure_ (i := 11) (N := some 14) (v := ?_) (a' := ?_) (bb 20 2194) rfl rfl (any_of HT_.out (by kernel_rfl)) (fun _ _ _ h => h) (Or.inl ⟨by rfl, ?_⟩) ?_ ?_
 rotate_left
 ·intro w'
  go_simp
  with_reducible rfl
 rotate_left
 ·simp only [Act.put, List.setIfInBounds_toArray, List.set_cons_zero, List.set_cons_succ, i64_w, i32_w]
  rfl
 refine pure_ (i := 15) (N := some 18) (v := ?_) (a' := ?_) (bb 20 34962) rfl rfl (any_of HT_.out (by kernel_rfl)) (fun _ _ _ h => h) (Or.inl ⟨by rfl, ?_⟩) ?_ ?_
 rotate_left
 ·intro w'
  go_simp
  with_reducible rfl
 rotate_left
 ·simp only [Act.put, List.setIfInBounds_toArray, List.set_cons_zero, List.set_cons_succ, i64_w, i32_w]
  rfl
 refine take_ (i := 2) (N := some 5) (v := ?_) (a' := ?_) (bb 20 34966) rfl rfl (take_ofW HT_.out HW_.out (by kernel_rfl)) (fun _ _ _ h => h) (Or.inl ⟨by rfl, ?_⟩) hHeld ?_ ?_
 rotate_left
 ·intro w' hs
  have s0 := (blk_cell hs 0).trans rfl
  have s1 := (blk_cell hs 1).trans rfl
  have s2 := (blk_cell hs 2).trans rfl
  have s3 := (blk_cell hs 3).trans rfl
  have s4 := (blk_cell hs 4).trans rfl
  clear hs
  go_simp
  with_reducible rfl
 rotate_left
 ·simp only [Act.put, List.setIfInBounds_toArray, List.set_cons_zero, List.set_cons_succ, i64_w, i32_w]
  rfl
 refine take_ (i := 5) (N := some 8) (v := ?_) (a' := ?_) (bb 20 34998) rfl rfl (take_ofW HT_.out HW_.out (by kernel_rfl)) (fun _ _ _ h => h) (Or.inl ⟨by rfl, ?_⟩) hHeld ?_ ?_
 rotate_left
 ·intro w' hs
  have s0 := (blk_cell hs 0).trans rfl
  have s1 := (blk_cell hs 1).trans rfl
  have s2 := (blk_cell hs 2).trans rfl
  have s3 := (blk_cell hs 3).trans rfl
  have s4 := (blk_cell hs 4).trans rfl
  clear hs
  go_simp
  with_reducible rfl
 rotate_left
 ·simp only [Act.put, List.setIfInBounds_toArray, List.set_cons_zero, List.set_cons_succ, i64_w, i32_w]
  rfl
 refine take_ (i := 8) (N := some 11) (v := ?_) (a' := ?_) (bb 20 35254) rfl rfl (take_ofW HT_.out HW_.out (by kernel_rfl)) (fun _ _ _ h => h) (Or.inl ⟨by rfl, ?_⟩) hHeld ?_ ?_
 rotate_left
 ·intro w' hs
  have s0 := (blk_cell hs 0).trans rfl
  have s1 := (blk_cell hs 1).trans rfl
  have s2 := (blk_cell hs 2).trans rfl
  have s3 := (blk_cell hs 3).trans rfl
  have s4 := (blk_cell hs 4).trans rfl
  clear hs
  go_simp
  with_reducible rfl
 rotate_left
 ·simp only [Act.put, List.setIfInBounds_toArray, List.set_cons_zero, List.set_cons_succ, i64_w, i32_w]
  rfl
 refine take_ (i := 12) (N := some 15) (v := ?_) (a' := ?_) (bb 20 39350) rfl rfl (take_ofW HT_.out HW_.out (by kernel_rfl)) (fun _ _ _ h => h) (Or.inl ⟨by rfl, ?_⟩) hHeld ?_ ?_
 rotate_left
 ·intro w' hs
  have s0 := (blk_cell hs 0).trans rfl
  have s1 := (blk_cell hs 1).trans rfl
  have s2 := (blk_cell hs 2).trans rfl
  have s3 := (blk_cell hs 3).trans rfl
  have s4 := (blk_cell hs 4).trans rfl
  clear hs
  go_simp
  with_reducible rfl
 rotate_left
 ·simp only [Act.put, List.setIfInBounds_toArray, List.set_cons_zero, List.set_cons_succ, i64_w, i32_w]
  rfl
 refine take_ (i := 16) (N := some 19) (v := ?_) (a' := ?_) (bb 20 104886) rfl rfl (take_ofW HT_.out HW_.out (by kernel_rfl)) (fun _ _ _ h => h) (Or.inl ⟨by rfl, ?_⟩) hHeld ?_ ?_
 rotate_left
 ·intro w' hs
  have s0 := (blk_cell hs 0).trans rfl
  have s1 := (blk_cell hs 1).trans rfl
  have s2 := (blk_cell hs 2).trans rfl
  have s3 := (blk_cell hs 3).trans rfl
  have s4 := (blk_cell hs 4).trans rfl
  clear hs
  go_simp
  with_reducible rfl
 rotate_left
 ·simp only [Act.put, List.setIfInBounds_toArray, List.set_cons_zero, List.set_cons_succ, i64_w, i32_w]
  rfl
 refine anyLast_inv (CInv w gx gr #[.slice A0_0 l0_0.length c0_0, .int .i64 a0_1, .slice A0_2 l0_2.length c0_2, .slice A0_3 l0_3.length c0_3, .slice A0_4 l0_4.length c0_4] l0_0 l0_2 l0_3 l0_4 a0_1) ?step ?last _ _ _ _ (by decide) ?init
 case init =>
  refine ⟨rfl, ?_, ?_, rfl, rfl, HB.out, BKx.out, rfl, rfl, ⟨_, _, _, _, _, _, _, _, rfl, rfl, rfl, rfl, G0.out, G2.out, G3.out, G4.out⟩, fun _ => ⟨BKr.out, GEr.out, fun _ => 0, ?_, ?_, ?_, ?_⟩, fun h => absurd h (by decide), fun h => absurd h (by decide)⟩
  · rintro j (rfl | rfl | rfl | rfl | rfl | rfl | rfl | rfl | rfl | rfl) <;> rfl
  · intro A B hAB h1
    rcases hAB with ⟨rfl, rfl⟩ | ⟨rfl, rfl⟩ | ⟨rfl, rfl⟩ | ⟨rfl, rfl⟩ | ⟨rfl, rfl⟩ <;> exact absurd h1 (by decide)
  all_goals exact ⟨fun h => absurd h (by decide), fun h => absurd h (by decide)⟩
 case step =>
  intro l a w' i hI hr
  clear HB BKx BKr hHeld HT_ HW_
  obtain ⟨hi, hl, hn⟩ := ready_at hr
  have hcase : i = 0 ∨ i = 3 ∨ i = 6 ∨ i = 9 ∨ i = 10 ∨ i = 13 ∨ i = 14 ∨ i = 17 ∨ i = 18 ∨ i = 19 := by
   have h20 : i < 20 := hi
   have hno : ¬ (i = 1 ∨ i = 2 ∨ i = 4 ∨ i = 5 ∨ i = 7 ∨ i = 8 ∨ i = 11 ∨ i = 12 ∨ i = 15 ∨ i = 16) := fun h => by rw [hI.old i h] at hl; cases hl
   omega
  clear hi hr
  rcases hcase with rfl | rfl | rfl | rfl | rfl | rfl | rfl | rfl | rfl | rfl
  · refine op_now rfl (value_ (w1 := w'.alloc (.cells #[] 3)) (v := .slice (some ⟨w'.heap.size, 0, none⟩) 0 0) (by rfl) rfl (by go_simp; first | done | rfl | (constructor <;> rfl)) ⟨fun _ hS => blk_alloc hS _, ?_⟩)
    exact hI.build 0 3 (by omega) hl
  · have hB0 := hn _ rfl ⟨0, .data⟩ (by simp) rfl
    have h18 : l.getD 18 true = false := bfalse fun e => by
      obtain ⟨a3, a9, a13, a17, _⟩ := hI.told e
      first | (rw [a3] at hl; cases hl) | (rw [a9] at hl; cases hl) | (rw [a13] at hl; cases hl) | (rw [a17] at hl; cases hl)
    have h19 : l.getD 19 true = false := bfalse fun e => by rw [hI.ord 19 18 (by omega) e] at h18; cases h18
    obtain ⟨hr, hrb, f, r0, r1, r2, r3⟩ := hI.made h19
    obtain ⟨X0, z0, X1, z1, X2, z2, X3, z3, x0, x1, x2, x3, k0, k1, k2, k3⟩ := hI.rows
    have hHO := r0.1 hB0 hl
    have hHO2 := R_refun (f' := fun k => if w'.heap.size ≤ k then 0 else f k) hHO (fun _ _ _ => rfl) (fun k hk => if_neg (by omega))
    refine op_now rfl (Kd.R_append_rows_step (Kd.int .i64) (Rr := (Kd.int .i64).K w) (w0 := w) w.heap.size (by rfl) (.tmp 3) (.tmp 5) 22 3 (.int .i64 0) 8 rfl Try.underlying22 info3 rfl (by decide) (by decide) (a.eval (.tmp 3)) [] l0_0 X0 l0_0.length z0 (fun k => (if w'.heap.size ≤ k then 0 else f k) = 0) (fun _ => False) rfl x0 hHO2 (Kd.C_below k0 hI.bel) (fun _ _ h => h) (fun _ h => h.elim) (fun k hk => if_pos hk) hI.bel hI.bel.size (by have := HL.out.1; simp only [List.length_nil]; omega) ?_)
    intro v1 w1 ho hb hg hat
    have hv : ∀ k, (a.eval (.tmp 3)).ownBlock = some k → f k = 0 ∧ ∃ cells, w'.heap[k]? = some (.cells cells 3 (0, 0)) := fun k hk => ⟨hHO.1 k hk, Kd.R_typed hHO k hk⟩
    refine ⟨fun _ hS => blk_grown hS hg (fun e => by obtain ⟨_, cells, hc⟩ := hv gx e.symm; rw [hS] at hc; injection hc with hc; injection hc with _ hc; exact absurd hc (by decide)), ?_⟩
    exact hI.app 3 6 0 (by omega) hl (fun B hB => (show 0 = B by omega) ▸ hB0) h18 h19 hr hrb (f' := fun k => if w'.heap.size ≤ k then 0 else f k) (fun k hk => if_neg (by omega)) r0 r1 r2 r3 hv hb hg ho
  · refine op_now rfl (value_ (w1 := w'.alloc (.cells #[] 3)) (v := .slice (some ⟨w'.heap.size, 0, none⟩) 0 0) (by rfl) rfl (by go_simp; first | done | rfl | (constructor <;> rfl)) ⟨fun _ hS => blk_alloc hS _, ?_⟩)
    exact hI.build 6 9 (by omega) hl
  · have hB0 := hn _ rfl ⟨6, .data⟩ (by simp) rfl
    have h18 : l.getD 18 true = false := bfalse fun e => by
      obtain ⟨a3, a9, a13, a17, _⟩ := hI.told e
      first | (rw [a3] at hl; cases hl) | (rw [a9] at hl; cases hl) | (rw [a13] at hl; cases hl) | (rw [a17] at hl; cases hl)
    have h19 : l.getD 19 true = false := bfalse fun e => by rw [hI.ord 19 18 (by omega) e] at h18; cases h18
    obtain ⟨hr, hrb, f, r0, r1, r2, r3⟩ := hI.made h19
    obtain ⟨X0, z0, X1, z1, X2, z2, X3, z3, x0, x1, x2, x3, k0, k1, k2, k3⟩ := hI.rows
    have hHO := r1.1 hB0 hl
    have hHO2 := R_refun (f' := fun k => if w'.heap.size ≤ k then 1 else f k) hHO (fun _ _ _ => rfl) (fun k hk => if_neg (by omega))
    refine op_now rfl (Kd.R_append_rows_step (Kd.int .i64) (Rr := (Kd.int .i64).K w) (w0 := w) w.heap.size (by rfl) (.tmp 9) (.tmp 11) 22 3 (.int .i64 0) 8 rfl Try.underlying22 info3 rfl (by decide) (by decide) (a.eval (.tmp 9)) [] l0_2 X1 l0_2.length z1 (fun k => (if w'.heap.size ≤ k then 1 else f k) = 1) (fun _ => False) rfl x1 hHO2 (Kd.C_below k1 hI.bel) (fun _ _ h => h) (fun _ h => h.elim) (fun k hk => if_pos hk) hI.bel hI.bel.size (by have := HL.out.2.1; simp only [List.length_nil]; omega) ?_)
    intro v1 w1 ho hb hg hat
    have hv : ∀ k, (a.eval (.tmp 9)).ownBlock = some k → f k = 1 ∧ ∃ cells, w'.heap[k]? = some (.cells cells 3 (0, 0)) := fun k hk => ⟨hHO.1 k hk, Kd.R_typed hHO k hk⟩
    refine ⟨fun _ hS => blk_grown hS hg (fun e => by obtain ⟨_, cells, hc⟩ := hv gx e.symm; rw [hS] at hc; injection hc with hc; injection hc with _ hc; exact absurd hc (by decide)), ?_⟩
    exact hI.app 9 12 1 (by omega) hl (fun B hB => (show 6 = B by omega) ▸ hB0) h18 h19 hr hrb (f' := fun k => if w'.heap.size ≤ k then 1 else f k) (fun k hk => if_neg (by omega)) r0 r1 r2 r3 hv hb hg ho
  · refine op_now rfl (value_ (w1 := w'.alloc (.cells #[] 3)) (v := .slice (some ⟨w'.heap.size, 0, none⟩) 0 0) (by rfl) rfl (by go_simp; first | done | rfl | (constructor <;> rfl)) ⟨fun _ hS => blk_alloc hS _, ?_⟩)
    exact hI.build 10 13 (by omega) hl
  · have hB0 := hn _ rfl ⟨10, .data⟩ (by simp) rfl
    have h18 : l.getD 18 true = false := bfalse fun e => by
      obtain ⟨a3, a9, a13, a17, _⟩ := hI.told e
      first | (rw [a3] at hl; cases hl) | (rw [a9] at hl; cases hl) | (rw [a13] at hl; cases hl) | (rw [a17] at hl; cases hl)
    have h19 : l.getD 19 true = false := bfalse fun e => by rw [hI.ord 19 18 (by omega) e] at h18; cases h18
    obtain ⟨hr, hrb, f, r0, r1, r2, r3⟩ := hI.made h19
    obtain ⟨X0, z0, X1, z1, X2, z2, X3, z3, x0, x1, x2, x3, k0, k1, k2, k3⟩ := hI.rows
    have hHO := r2.1 hB0 hl
    have hHO2 := R_refun (f' := fun k => if w'.heap.size ≤ k then 2 else f k) hHO (fun _ _ _ => rfl) (fun k hk => if_neg (by omega))
    refine op_now rfl (Kd.R_append_rows_step (Kd.int .i64) (Rr := (Kd.int .i64).K w) (w0 := w) w.heap.size (by rfl) (.tmp 13) (.tmp 15) 22 3 (.int .i64 0) 8 rfl Try.underlying22 info3 rfl (by decide) (by decide) (a.eval (.tmp 13)) [] l0_3 X2 l0_3.length z2 (fun k => (if w'.heap.size ≤ k then 2 else f k) = 2) (fun _ => False) rfl x2 hHO2 (Kd.C_below k2 hI.bel) (fun _ _ h => h) (fun _ h => h.elim) (fun k hk => if_pos hk) hI.bel hI.bel.size (by have := HL.out.2.2.1; simp only [List.length_nil]; omega) ?_)
    intro v1 w1 ho hb hg hat
    have hv : ∀ k, (a.eval (.tmp 13)).ownBlock = some k → f k = 2 ∧ ∃ cells, w'.heap[k]? = some (.cells cells 3 (0, 0)) := fun k hk => ⟨hHO.1 k hk, Kd.R_typed hHO k hk⟩
    refine ⟨fun _ hS => blk_grown hS hg (fun e => by obtain ⟨_, cells, hc⟩ := hv gx e.symm; rw [hS] at hc; injection hc with hc; injection hc with _ hc; exact absurd hc (by decide)), ?_⟩
    exact hI.app 13 16 2 (by omega) hl (fun B hB => (show 10 = B by omega) ▸ hB0) h18 h19 hr hrb (f' := fun k => if w'.heap.size ≤ k then 2 else f k) (fun k hk => if_neg (by omega)) r0 r1 r2 r3 hv hb hg ho
  · refine op_now rfl (value_ (w1 := w'.alloc (.cells #[] 3)) (v := .slice (some ⟨w'.heap.size, 0, none⟩) 0 0) (by rfl) rfl (by go_simp; first | done | rfl | (constructor <;> rfl)) ⟨fun _ hS => blk_alloc hS _, ?_⟩)
    exact hI.build 14 17 (by omega) hl
  · have hB0 := hn _ rfl ⟨14, .data⟩ (by simp) rfl
    have h18 : l.getD 18 true = false := bfalse fun e => by
      obtain ⟨a3, a9, a13, a17, _⟩ := hI.told e
      first | (rw [a3] at hl; cases hl) | (rw [a9] at hl; cases hl) | (rw [a13] at hl; cases hl) | (rw [a17] at hl; cases hl)
    have h19 : l.getD 19 true = false := bfalse fun e => by rw [hI.ord 19 18 (by omega) e] at h18; cases h18
    obtain ⟨hr, hrb, f, r0, r1, r2, r3⟩ := hI.made h19
    obtain ⟨X0, z0, X1, z1, X2, z2, X3, z3, x0, x1, x2, x3, k0, k1, k2, k3⟩ := hI.rows
    have hHO := r3.1 hB0 hl
    have hHO2 := R_refun (f' := fun k => if w'.heap.size ≤ k then 3 else f k) hHO (fun _ _ _ => rfl) (fun k hk => if_neg (by omega))
    refine op_now rfl (Kd.R_append_rows_step (Kd.int .i64) (Rr := (Kd.int .i64).K w) (w0 := w) w.heap.size (by rfl) (.tmp 17) (.tmp 19) 22 3 (.int .i64 0) 8 rfl Try.underlying22 info3 rfl (by decide) (by decide) (a.eval (.tmp 17)) [] l0_4 X3 l0_4.length z3 (fun k => (if w'.heap.size ≤ k then 3 else f k) = 3) (fun _ => False) rfl x3 hHO2 (Kd.C_below k3 hI.bel) (fun _ _ h => h) (fun _ h => h.elim) (fun k hk => if_pos hk) hI.bel hI.bel.size (by have := HL.out.2.2.2; simp only [List.length_nil]; omega) ?_)
    intro v1 w1 ho hb hg hat
    have hv : ∀ k, (a.eval (.tmp 17)).ownBlock = some k → f k = 3 ∧ ∃ cells, w'.heap[k]? = some (.cells cells 3 (0, 0)) := fun k hk => ⟨hHO.1 k hk, Kd.R_typed hHO k hk⟩
    refine ⟨fun _ hS => blk_grown hS hg (fun e => by obtain ⟨_, cells, hc⟩ := hv gx e.symm; rw [hS] at hc; injection hc with hc; injection hc with _ hc; exact absurd hc (by decide)), ?_⟩
    exact hI.app 17 20 3 (by omega) hl (fun B hB => (show 14 = B by omega) ▸ hB0) h18 h19 hr hrb (f' := fun k => if w'.heap.size ≤ k then 3 else f k) (fun k hk => if_neg (by omega)) r0 r1 r2 r3 hv hb hg ho
  · have a3 := hn _ rfl ⟨3, .data⟩ (by simp) rfl
    have a9 := hn _ rfl ⟨9, .data⟩ (by simp) rfl
    have a13 := hn _ rfl ⟨13, .data⟩ (by simp) rfl
    have a17 := hn _ rfl ⟨17, .data⟩ (by simp) rfl
    have h19 : l.getD 19 true = false := bfalse fun e => by rw [hI.ord 19 18 (by omega) e] at hl; cases hl
    obtain ⟨hr, hrb, f, r0, r1, r2, r3⟩ := hI.made h19
    obtain ⟨B0, b0, e0⟩ := Kd.R_slice (r0.2 a3)
    obtain ⟨B2, b2, e2⟩ := Kd.R_slice (r1.2 a9)
    obtain ⟨B3, b3, e3⟩ := Kd.R_slice (r2.2 a13)
    obtain ⟨B4, b4, e4⟩ := Kd.R_slice (r3.2 a17)
    have t8 : a.tmps[8]?.getD undef = .int .i64 a0_1 := by simpa [Act.eval] using hI.e8
    have t6 : a.tmps[6]?.getD undef = .slice B0 l0_0.length b0 := by simpa [Act.eval] using e0
    have t12 : a.tmps[12]?.getD undef = .slice B2 l0_2.length b2 := by simpa [Act.eval] using e2
    have t16 : a.tmps[16]?.getD undef = .slice B3 l0_3.length b3 := by simpa [Act.eval] using e3
    have t20 : a.tmps[20]?.getD undef = .slice B4 l0_4.length b4 := by simpa [Act.eval] using e4
    refine op_now rfl (value_ (w1 := w') (v := .agg #[a.eval (.tmp 6), .int .i64 a0_1, a.eval (.tmp 12), a.eval (.tmp 16), a.eval (.tmp 20)]) (by rfl) rfl (by go_simp; first | done | rfl | trace_state) ⟨fun _ hS => hS, ?_⟩)
    exact hI.tell hl h19 a3 a9 a13 a17
  · have a18 := hn _ rfl ⟨18, .data⟩ (by simp) rfl
    obtain ⟨hr, hrb, f, r0, r1, r2, r3⟩ := hI.made hl
    obtain ⟨a3, a9, a13, a17, e21⟩ := hI.told a18
    obtain ⟨B0, b0, e0⟩ := Kd.R_slice (r0.2 a3)
    obtain ⟨B2, b2, e2⟩ := Kd.R_slice (r1.2 a9)
    obtain ⟨B3, b3, e3⟩ := Kd.R_slice (r2.2 a13)
    obtain ⟨B4, b4, e4⟩ := Kd.R_slice (r3.2 a17)
    rw [e0, e2, e3, e4] at e21
    have t2 : a.tmps[2]?.getD undef = .pointer (some ⟨gr, 0, none⟩) := by simpa [Act.eval] using hI.e2
    have t21 : a.tmps[21]?.getD undef = .agg #[.slice B0 l0_0.length b0, .int .i64 a0_1, .slice B2 l0_2.length b2, .slice B3 l0_3.length b3, .slice B4 l0_4.length b4] := by simpa [Act.eval] using e21
    have z0 := (blk_cell hr 0).trans rfl
    have z1 := (blk_cell hr 1).trans rfl
    have z2 := (blk_cell hr 2).trans rfl
    have z3 := (blk_cell hr 3).trans rfl
    have z4 := (blk_cell hr 4).trans rfl
    have f0 := blk_frozen hr 0
    have f1 := blk_frozen hr 1
    have f2 := blk_frozen hr 2
    have f3 := blk_frozen hr 3
    have f4 := blk_frozen hr 4
    refine op_now rfl (skip_ (w1 := w'.setCells gr 0 [.slice B0 l0_0.length b0, .int .i64 a0_1, .slice B2 l0_2.length b2, .slice B3 l0_3.length b3, .slice B4 l0_4.length b4]) (by rfl) rfl (by go_simp; rfl) ⟨fun hd => absurd (by simp) hd, ?_⟩)
    rw [e0] at r0
    rw [e2] at r1
    rw [e3] at r2
    rw [e4] at r3
    exact hI.store hl hr hrb a18 (r0.2 a3) (r1.2 a9) (r2.2 a13) (r3.2 a17) NExr.out
 case last =>
  intro l a w' hI hr
  clear HB BKx BKr hHeld HT_ HW_
  have hall := none_left (by exact hI.sz) (low_of (by kernel_rfl)) hr
  obtain ⟨v0, v1, v2, v3, f, hb, x0, x1, x2, x3⟩ := hI.fin (hall 19 (by decide))
  have he2 := hI.e2
  have hdf := hI.dfr
  go_wp2
  refine bodyPost_ret (results_cell_row rfl _ _ gr 41 #[v0, .int .i64 a0_1, v1, v2, v3] (0, 0) _ he2 hb Try.underlying41 rfl (by kernel_rfl)) hdf ?_
  exact ⟨v0, v1, v2, v3, rfl, Kd.R_mono x0 (fun k hk => ⟨fun e => by have := x1.1 k e.symm; omega, fun e => by have := x2.1 k e.symm; omega, fun e => by have := x3.1 k e.symm; omega⟩),
    Kd.R_mono x1 (fun k hk => ⟨fun e => by have := x0.1 k e.symm; omega, fun e => by have := x2.1 k e.symm; omega, fun e => by have := x3.1 k e.symm; omega⟩),
    Kd.R_mono x2 (fun k hk => ⟨fun e => by have := x0.1 k e.symm; omega, fun e => by have := x1.1 k e.symm; omega, fun e => by have := x3.1 k e.symm; omega⟩),
    Kd.R_mono x3 (fun k hk => ⟨fun e => by have := x0.1 k e.symm; omega, fun e => by have := x1.1 k e.symm; omega, fun e => by have := x2.1 k e.symm; omega⟩), hI.bel⟩
end Go.Proofs.Ytmnepkbmcnpjlaa.Q
namespace Go.Proofs.Ytmnepkbmcnpjlaa.Q
open Go.RowKit Go.Proofs.YtmnepkbmcnpjlaaW.PrintWords Go.Proofs.YtmnepkbmcnpjlaaW.PrintLast Go.Proofs.YtmnepkbmcnpjlaaW.PrintMore
attribute [local go_sem] max2_int min2_int max_two min_two max_three min_three max_four min_four
set_option linter.unusedVariables false
set_option linter.unusedSimpArgs false
mutual
def hypercuberef2_Put.j1 : Nat → List (S41) → Int → List Int → Int → List Int → List Int → List Int → Option ((List (S41)))
 | 0, _, _, _, _, _, _, _ => none
 | k + 1, x0, x5, x325000, x325001, x325002, x325003, x325004 => if x5 < (x0.length : Int) then (if 0 ≤ x5 then ((hypercuberef2_Less.f k ((rd_T41 x0 x5).f0) x325000).bind fun t328 => (hypercuberef2_Put.j2 k x0 x5 (t328 == 0) x325000 x325001 x325002 x325003 x325004)) else (none)) else (hypercuberef2_Put.j2 k x0 x5 false x325000 x325001 x325002 x325003 x325004)
def hypercuberef2_Put.j2 : Nat → List (S41) → Int → Bool → List Int → Int → List Int → List Int → List Int → Option ((List (S41)))
 | 0, _, _, _, _, _, _, _, _ => none
 | k + 1, x0, x5, x38, x325000, x325001, x325002, x325003, x325004 => if x38 = true then ((some (([] : List (S41)) : List (S41))).bind fun y329 => (if y329.length + x0.length < 1353245080339 then ((some (y329 ++ x0 : List (S41))).bind fun y332 => (if 0 ≤ x5 then (if x5 < (x0.length : Int) then ((hypercuberef2_Join.f k ((rd_T41 x0 x5).f0) ((rd_T41 x0 x5).f1) ((rd_T41 x0 x5).f2) ((rd_T41 x0 x5).f3) ((rd_T41 x0 x5).f4) x325000 x325001 x325002 x325003 x325004).bind fun bt336 => (if x5 < (y332.length : Int) then (some (y332.set (x5 : Int).toNat (⟨bt336.1, bt336.2.1, bt336.2.2.1, bt336.2.2.2.1, bt336.2.2.2.2⟩ : S41))) else (none))) else (none)) else (none))) else (none))) else ((some (([] : List (S41)) : List (S41))).bind fun y350 => (if 0 ≤ x5 then (if x5 ≤ (x0.length : Int) then ((some (x0.take (x5 : Int).toNat : List (S41))).bind fun y353 => (if y350.length + y353.length < 1353245080339 then ((some (y350 ++ y353 : List (S41))).bind fun y358 => ((hypercuberef2_Copy.f x325000 x325001 x325002 x325003 x325004).bind fun bt361 => (if y358.length < 1353245080339 then ((some (y358 ++ [(⟨bt361.1, bt361.2.1, bt361.2.2.1, bt361.2.2.2.1, bt361.2.2.2.2⟩ : S41)] : List (S41))).bind fun y374 => ((some (x0.drop (x5 : Int).toNat : List (S41))).bind fun y377 => (if y374.length + y377.length < 1353245080339 then (some (y374 ++ y377)) else (none)))) else (none)))) else (none))) else (none)) else (none)))
def hypercuberef2_Put.l0 : Nat → List (S41) → Int → List Int → Int → List Int → List Int → List Int → Option ((List (S41)))
 | 0, _, _, _, _, _, _, _ => none
 | k + 1, x0, x5, x325000, x325001, x325002, x325003, x325004 => if x5 < (x0.length : Int) then (if 0 ≤ x5 then ((hypercuberef2_Less.f k ((rd_T41 x0 x5).f0) x325000).bind fun t326 => (if t326 < 0 then (hypercuberef2_Put.l0 k x0 (wrap64 (x5 + 1)) x325000 x325001 x325002 x325003 x325004) else (hypercuberef2_Put.j1 k x0 x5 x325000 x325001 x325002 x325003 x325004))) else (none)) else (hypercuberef2_Put.j1 k x0 x5 x325000 x325001 x325002 x325003 x325004)
end
def hypercuberef2_Put.f (k : Nat) (l0 : List (S41)) (l1_0 : List Int) (a1_1 : Int) (l1_2 : List Int) (l1_3 : List Int) (l1_4 : List Int) : Option ((List (S41))) := hypercuberef2_Put.l0 k l0 0 l1_0 a1_1 l1_2 l1_3 l1_4
def hypercuberef2_Put.T2 : Bool × List (List Nat × List Nat) := (true, [([], []), ([], []), ([1], [1]), ([0, 2], [0, 2]), ([3], [3]), ([4], [4]), ([4], [4]), ([5, 6, 4], [4, 5, 6]), ([7, 4], [4, 7]), ([8, 4], [4, 8]), ([4], [4]), ([10, 4], [4, 10]), ([9, 11, 4, 4], [4, 9, 11]), ([12, 4], [4, 12]), ([4, 13], [4, 13])])
def hypercuberef2_Put.B2 : List Nat := [0, 0, 2, 7, 15, 31, 31, 127, 255, 511, 31, 1055, 4095, 8191, 16383]
theorem hypercuberef2_Put.tab2 : rtab .any (opsOf Try.f32 2) = hypercuberef2_Put.T2 := by kernel_rfl
theorem hypercuberef2_Put.bits2 : waitsOk hypercuberef2_Put.T2.2 hypercuberef2_Put.B2 = true := by kernel_rfl
def hypercuberef2_Put.T4 : Bool × List (List Nat × List Nat) := (true, [([], []), ([], []), ([1], [1]), ([0, 2], [0, 2]), ([3], [3]), ([4], [4]), ([4], [4]), ([5, 6, 4], [4, 5, 6]), ([7, 4], [4, 7]), ([8, 4], [4, 8]), ([4], [4]), ([10, 4], [4, 10]), ([9, 11, 4, 4], [4, 9, 11]), ([12, 4], [4, 12]), ([4, 13], [4, 13])])
def hypercuberef2_Put.B4 : List Nat := [0, 0, 2, 7, 15, 31, 31, 127, 255, 511, 31, 1055, 4095, 8191, 16383]
theorem hypercuberef2_Put.tab4 : rtab .any (opsOf Try.f32 4) = hypercuberef2_Put.T4 := by kernel_rfl
theorem hypercuberef2_Put.bits4 : waitsOk hypercuberef2_Put.T4.2 hypercuberef2_Put.B4 = true := by kernel_rfl
def hypercuberef2_Put.T6 : Bool × List (List Nat × List Nat) := (true, [([], []), ([], []), ([], []), ([], []), ([2, 3], [2, 3]), ([4], [4]), ([], []), ([5, 6], [5, 6]), ([0, 1, 0, 1, 2, 3, 4, 5, 6, 7], [0, 1]), ([8, 7, 7, 0, 1, 2, 3, 4, 5, 6, 7], [7, 8])])
def hypercuberef2_Put.B6 : List Nat := [0, 0, 0, 0, 12, 28, 0, 124, 255, 511]
theorem hypercuberef2_Put.tab6 : rtab .any (opsOf Try.f32 6) = hypercuberef2_Put.T6 := by kernel_rfl
theorem hypercuberef2_Put.bits6 : waitsOk hypercuberef2_Put.T6.2 hypercuberef2_Put.B6 = true := by kernel_rfl
def hypercuberef2_Put.T8 : Bool × List (List Nat × List Nat) := (true, [([], []), ([], []), ([], []), ([1, 2], [1, 2]), ([0, 3], [0, 3]), ([], []), ([5, 4], [5]), ([6], [6]), ([4, 7, 6], [4, 7]), ([], []), ([], []), ([9, 10], [9, 10]), ([8, 11, 8], [8, 11]), ([12, 12, 0, 1, 2, 3, 4, 5, 6, 7, 8, 9, 10, 11, 12], [12])])
def hypercuberef2_Put.B8 : List Nat := [0, 0, 0, 6, 15, 0, 63, 127, 255, 0, 0, 1536, 4095, 8191]
theorem hypercuberef2_Put.tab8 : rtab .any (opsOf Try.f32 8) = hypercuberef2_Put.T8 := by kernel_rfl
theorem hypercuberef2_Put.bits8 : waitsOk hypercuberef2_Put.T8.2 hypercuberef2_Put.B8 = true := by kernel_rfl
set_option maxHeartbeats 8000000 in
set_option maxRecDepth 100000 in
theorem hypercuberef2_Put.calls (k : Nat) (P0_ : Nat → Prop) (A0 : Option Addr) (c0 : Nat) (l0 : List (S41)) (A1_0 : Option Addr) (c1_0 : Nat) (l1_0 : List Int) (a1_1 : Int) (A1_2 : Option Addr) (c1_2 : Nat) (l1_2 : List Int) (A1_3 : Option Addr) (c1_3 : Nat) (l1_3 : List Int) (A1_4 : Option Addr) (c1_4 : Nat) (l1_4 : List Int) (r : List (S41)) (w : World) (hs0 : Kd.V k41 41 w w.heap.size (fun k_ => P0_ k_) (.slice A0 l0.length c0) l0) (hr1_0 : Kd.C (Kd.int .i64) w A1_0 l1_0.length l1_0) (hc1_0 : l1_0.length ≤ c1_0) (hr1_2 : Kd.C (Kd.int .i64) w A1_2 l1_2.length l1_2) (hc1_2 : l1_2.length ≤ c1_2) (hr1_3 : Kd.C (Kd.int .i64) w A1_3 l1_3.length l1_3) (hc1_3 : l1_3.length ≤ c1_3) (hr1_4 : Kd.C (Kd.int .i64) w A1_4 l1_4.length l1_4) (hc1_4 : l1_4.length ≤ c1_4) (h : hypercuberef2_Put.f k l0 l1_0 a1_1 l1_2 l1_3 l1_4 = some r) :
  Calls Try.prog 32 #[.slice A0 l0.length c0, .agg #[.slice A1_0 l1_0.length c1_0, .int .i64 a1_1, .slice A1_2 l1_2.length c1_2, .slice A1_3 l1_3.length c1_3, .slice A1_4 l1_4.length c1_4]] w fun e w' => ∃ v0_ : Value, e = .returned (v0_) ∧ Kd.N k41 41 w' w.heap.size (fun k_ => (P0_ k_ ∨ w.heap.size ≤ k_)) v0_ r ∧ Below w.heap.size w w' := by
 have hu41 := Try.underlying41
 have HO0 := am (show Kd.V k41 41 w w.heap.size (fun k_ => (P0_ k_ ∨ w.heap.size ≤ k_)) (.slice A0 l0.length c0) l0 from Kd.V_mono hs0 (fun k_ hk => .inl hk))
 have HR1_0 := am hr1_0
 have HC1_0 := am hc1_0
 clear hr1_0 hc1_0
 have HR1_2 := am hr1_2
 have HC1_2 := am hc1_2
 clear hr1_2 hc1_2
 have HR1_3 := am hr1_3
 have HC1_3 := am hc1_3
 clear hr1_3 hc1_3
 have HR1_4 := am hr1_4
 have HC1_4 := am hc1_4
 clear hr1_4 hc1_4
 have HB := am (Below.refl w.heap.size w)
 have H : (hypercuberef2_Put.l0 k l0 0 l1_0 a1_1 l1_2 l1_3 l1_4) = some r := h
 clear h
 have HC3 := am H
 clear H
 go_enter Try.func32, Try.ntmps32
 go_upto_block 0 with (first | ((with_reducible refine gate_dst (N := 3) rfl ?_); refine box_event ?hg (N := 3) ?hd (cs := #[.slice A1_0 l1_0.length c1_0, .int .i64 a1_1, .slice A1_2 l1_2.length c1_2, .slice A1_3 l1_3.length c1_3, .slice A1_4 l1_4.length c1_4]) (t := 41) ?hr ?_; (case hd => rfl); (case hg => rfl); (case hr => first | (go_simp; done) | (go_simp; rfl)); intro gb324 hg w4 hbox hb; have n0_ := am (Kd.V_below (Kd.V_elderB (Kd.V_mv HO0.out) gb324 (Nat.le_of_eq hg.symm)) hb); have n1_ := am (below_step (wmv HB.out) hb); have n2_ := am (hbox); have n3_ := am ((by rw [hg]; exact (below_size (wmv HB.out)) : w.heap.size ≤ gb324)); have n4_ := am ((by rw [hg]; exact (below_size (wmv HB.out)) : w.heap.size ≤ gb324)); clear HO0 HB; revert n0_ n1_ n2_ n3_ n4_; intro HO0 HB BK324 GW324 GE324; clear hb hbox hg))
 (try simp only [Act.put, List.setIfInBounds_toArray, List.set_cons_zero, List.set_cons_succ])
 go_cut [5] (fun v5 wc => ∃ (kq : Nat) (x5_2 : Int), v5 = .int .i64 x5_2 ∧ Aside0 (hypercuberef2_Put.j1 kq l0 x5_2 l1_0 a1_1 l1_2 l1_3 l1_4 = some r) ∧ Aside0 (kq ≤ k) ∧ Aside0 (Kd.V k41 41 wc w.heap.size (fun k_ => (P0_ k_ ∨ w.heap.size ≤ k_) ∧ k_ ≠ gb324) (.slice A0 l0.length c0) l0) ∧ Aside0 (wc.heap[gb324]? = some (.cells #[(.slice A1_0 l1_0.length c1_0), .int .i64 a1_1, (.slice A1_2 l1_2.length c1_2), (.slice A1_3 l1_3.length c1_3), (.slice A1_4 l1_4.length c1_4)] 41 (0, 0))) ∧ Aside0 (Below w.heap.size w wc))
 case first =>
  have H := HC3.out
  clear HC3
  have H' := am H
  clear H
  go_wp2
  go_loopg [5] k (fun kq v5 w' => ∃ (x5_1 : Int), v5 = .int .i64 x5_1 ∧ Aside0 (hypercuberef2_Put.l0 kq l0 x5_1 l1_0 a1_1 l1_2 l1_3 l1_4 = some r) ∧ Aside0 (kq ≤ k) ∧ Aside0 (Kd.V k41 41 w' w.heap.size (fun k_ => (P0_ k_ ∨ w.heap.size ≤ k_) ∧ k_ ≠ gb324) (.slice A0 l0.length c0) l0) ∧ Aside0 (w'.heap[gb324]? = some (.cells #[(.slice A1_0 l1_0.length c1_0), .int .i64 a1_1, (.slice A1_2 l1_2.length c1_2), (.slice A1_3 l1_3.length c1_3), (.slice A1_4 l1_4.length c1_4)] 41 (0, 0))) ∧ Aside0 (Below w.heap.size w w'))
  case atStart => exact ⟨(0), (by first | rfl | (simp; done) | (simp [*]; done)), H', ⟨Nat.le_refl _⟩, ⟨by (with_reducible repeat (first | apply Kd.V_alloc | apply Kd.V_drewN | apply Kd.V_drew)); exact HO0.out⟩, ⟨by (with_reducible repeat (first | refine blk_drewN ?_ _ | refine blk_drew ?_ | refine blk_alloc ?_ _)); exact BK324.out⟩, ⟨by repeat (first | (with_reducible first | exact HB.out | apply below_alloc | apply pw_below_drewN | apply below_drew1 | refine below_set ?_ GE324.out) | exact HB.out)⟩⟩
  case round =>
   clear H'
   try clear c1
   try clear p2
   try clear c3
   obtain ⟨x5_1, rfl, HA, HK1, HO_0, BK324, HB⟩ := hrel
   cases gk with
   | zero => exact absurd HA.out (by simp [hypercuberef2_Put.l0])
   | succ k1 =>
    have H := HA.out
    clear HA
    simp only [hypercuberef2_Put.l0] at H
    by_cases c5 : x5_1 < (l0.length : Int)
    ·rw [if_pos c5] at H
     have c5b0 : decide (x5_1 < (l0.length : Int)) = true := decide_eq_true c5
     clear c5
     (first | rw [c5b0] | (simp only [i64_w, i32_w]; rw [c5b0]) | skip)
     by_cases c6 : 0 ≤ x5_1
     ·rw [if_pos c6] at H
      have c6b0 : decide (0 ≤ x5_1) = true := decide_eq_true c6
      clear c6
      replace H := Option.bind_eq_some_iff.mp H
      obtain ⟨t326, A70, H⟩ := H
      replace H : (if t326 < 0 then (hypercuberef2_Put.l0 k1 l0 (wrap64 (x5_1 + 1)) l1_0 a1_1 l1_2 l1_3 l1_4) else (hypercuberef2_Put.j1 k1 l0 x5_1 l1_0 a1_1 l1_2 l1_3 l1_4)) = some r := H
      have A7 := am A70
      clear A70
      by_cases c8 : t326 < 0
      ·rw [if_pos c8] at H
       have c8b0 : decide (t326 < 0) = true := decide_eq_true c8
       clear c8
       have H' := am H
       clear H
       try go_wp2
       have n0_ := am (Kd.V_drew HO_0.out)
       have n1_ := am (blk_drew BK324.out)
       have n2_ := am (below_drew1 HB.out)
       clear HO_0 BK324 HB
       revert n0_ n1_ n2_
       intro HO_0 BK324 HB
       have p325 : 0 ≤ (x5_1 : Int) := of_decide_eq_true (by first | (with_reducible assumption) | assumption)
       have q325 : x5_1 < (l0.length : Int) := of_decide_eq_true (by first | (with_reducible assumption) | assumption)
       obtain ⟨ad325, A325_0, c325_0, A325_2, c325_2, A325_3, c325_3, A325_4, c325_4, e325, hx325_0, hx325_1, hx325_2, hx325_3, hx325_4, hl325_0, hi325_0, hl325_2, hi325_2, hl325_3, hi325_3, hl325_4, hi325_4⟩ := at_T41 (Kd.V_reads' HO_0.out).2.2 x5_1 p325 q325
       cases e325
       obtain ⟨ce325, hce325, hMe325, hcc325⟩ := Kd.V_get HO_0.out z41 x5_1 p325 (by first | exact q325 | exact of_decide_eq_true (by first | (with_reducible assumption) | assumption) | (have e_ := (Kd.V_reads' HO_0.out).1; omega))
       obtain ⟨ua325_0, uc325_0, ua325_2, uc325_2, ua325_3, uc325_3, ua325_4, uc325_4, rfl, ul325_0, ge325_0, ul325_2, ge325_2, ul325_3, ge325_3, ul325_4, ge325_4⟩ := k41_openF hMe325
       have hv325_0 := hcc325 0 _ rfl
       rw [Nat.add_zero] at hv325_0
       replace hv325_0 := Option.some.inj (hv325_0.symm.trans hx325_0)
       injection hv325_0 with hva_ hvn_ hvc_
       rw [hva_] at ge325_0
       rw [hvc_] at ul325_0
       have HL325_0 := am (show Kd.V (Kd.int .i64) 3 _ w.heap.size _ _ ((rd_T41 l0 x5_1).f0) from Kd.V_mk ul325_0 ge325_0)
       clear hva_ hvn_ hvc_ ge325_0 ul325_0
       have hv325_2 := hcc325 2 _ rfl
       rw [add_field _ _ 2 (by omega)] at hv325_2
       replace hv325_2 := Option.some.inj (hv325_2.symm.trans hx325_2)
       injection hv325_2 with hva_ hvn_ hvc_
       rw [hva_] at ge325_2
       rw [hvc_] at ul325_2
       have HL325_2 := am (show Kd.V (Kd.int .i64) 3 _ w.heap.size _ _ ((rd_T41 l0 x5_1).f2) from Kd.V_mk ul325_2 ge325_2)
       clear hva_ hvn_ hvc_ ge325_2 ul325_2
       have hv325_3 := hcc325 3 _ rfl
       rw [add_field _ _ 3 (by omega)] at hv325_3
       replace hv325_3 := Option.some.inj (hv325_3.symm.trans hx325_3)
       injection hv325_3 with hva_ hvn_ hvc_
       rw [hva_] at ge325_3
       rw [hvc_] at ul325_3
       have HL325_3 := am (show Kd.V (Kd.int .i64) 3 _ w.heap.size _ _ ((rd_T41 l0 x5_1).f3) from Kd.V_mk ul325_3 ge325_3)
       clear hva_ hvn_ hvc_ ge325_3 ul325_3
       have hv325_4 := hcc325 4 _ rfl
       rw [add_field _ _ 4 (by omega)] at hv325_4
       replace hv325_4 := Option.some.inj (hv325_4.symm.trans hx325_4)
       injection hv325_4 with hva_ hvn_ hvc_
       rw [hva_] at ge325_4
       rw [hvc_] at ul325_4
       have HL325_4 := am (show Kd.V (Kd.int .i64) 3 _ w.heap.size _ _ ((rd_T41 l0 x5_1).f4) from Kd.V_mk ul325_4 ge325_4)
       clear hva_ hvn_ hvc_ ge325_4 ul325_4
       clear hcc325 hce325
       have HR325_0 := am hi325_0
       have HC325_0 := am hl325_0
       clear hi325_0 hl325_0
       have HR325_2 := am hi325_2
       have HC325_2 := am hl325_2
       clear hi325_2 hl325_2
       have HR325_3 := am hi325_3
       have HC325_3 := am hl325_3
       clear hi325_3 hl325_3
       have HR325_4 := am hi325_4
       have HC325_4 := am hl325_4
       clear hi325_4 hl325_4
       replace p325 := eq_true p325
       replace q325 := eq_true q325
       refine start_ (n := 15) (S := fun w' => w'.cell? ⟨gb324, 0, none⟩ = some (.slice A1_0 l1_0.length c1_0) ∧ w'.cell? ⟨gb324, 1, none⟩ = some (.int .i64 a1_1) ∧ w'.cell? ⟨gb324, 2, none⟩ = some (.slice A1_2 l1_2.length c1_2) ∧ w'.cell? ⟨gb324, 3, none⟩ = some (.slice A1_3 l1_3.length c1_3) ∧ w'.cell? ⟨gb324, 4, none⟩ = some (.slice A1_4 l1_4.length c1_4) ∧ w'.cell? (ad325.add ((x5_1).toNat * 5)) = some (.slice A325_0 ((rd_T41 l0 x5_1).f0).length c325_0) ∧ w'.cell? ⟨(ad325.add ((x5_1).toNat * 5)).block, (ad325.add ((x5_1).toNat * 5)).off + 1, none⟩ = some (.int .i64 ((rd_T41 l0 x5_1).f1)) ∧ w'.cell? ⟨(ad325.add ((x5_1).toNat * 5)).block, (ad325.add ((x5_1).toNat * 5)).off + 2, none⟩ = some (.slice A325_2 ((rd_T41 l0 x5_1).f2).length c325_2) ∧ w'.cell? ⟨(ad325.add ((x5_1).toNat * 5)).block, (ad325.add ((x5_1).toNat * 5)).off + 3, none⟩ = some (.slice A325_3 ((rd_T41 l0 x5_1).f3).length c325_3) ∧ w'.cell? ⟨(ad325.add ((x5_1).toNat * 5)).block, (ad325.add ((x5_1).toNat * 5)).off + 4, none⟩ = some (.slice A325_4 ((rd_T41 l0 x5_1).f4).length c325_4)) (ds := []) (bb 15 0) (by kernel_rfl) rfl rfl ⟨bc BK324 0, bc BK324 1, bc BK324 2, bc BK324 3, bc BK324 4, hx325_0, hx325_1, hx325_2, hx325_3, hx325_4⟩ (fun hHeld => ?_); refine with_tabW hypercuberef2_Put.tab2 hypercuberef2_Put.bits2 (fun HT_ HW_ => ?_)
       generalize wr.drew = w9 at HO_0 BK324 HB HL325_0 HL325_2 HL325_3 HL325_4 HR325_0 HR325_2 HR325_3 HR325_4 hx325_0 hx325_1 hx325_2 hx325_3 hx325_4 hHeld ⊢
       refine pu (i := 0) (N := some 7) (bb 15 1) HT_ ?_
       refine pu (i := 1) (N := some 8) (bb 15 3) HT_ ?_
       refine pu (i := 2) (N := some 9) (bb 15 7) HT_ ?_
       refine pu (i := 3) (N := some 10) (bb 15 15) HT_ ?_
       refine pu (i := 4) (N := some 11) (bb 15 31) HT_ ?_
       refine pu (i := 5) (N := some 12) (bb 15 63) HT_ ?_
       refine pu (i := 6) (N := some 13) (bb 15 127) HT_ ?_
       refine pu (i := 7) (N := some 14) (bb 15 255) HT_ ?_
       refine pu (i := 8) (N := some 15) (bb 15 511) HT_ ?_
       refine pu (i := 10) (N := some 17) (bb 15 1535) HT_ ?_
       refine tk (i := 9) (N := some 16) (bb 15 2047) HT_ HW_ hHeld ?_
       refine tk (i := 11) (N := some 18) (bb 15 4095) HT_ HW_ hHeld ?_
       refine one_ (i := 12) (N := some 19) (bb 15 8191) rfl rfl (one_of HT_.out (by kernel_rfl)) (by decide) (fun K hK => ?_)
       refine goes_ Try.func35 (by kernel_rfl) rfl #[.slice A325_0 ((rd_T41 l0 x5_1).f0).length c325_0, .slice A1_0 l1_0.length c1_0] (by rfl) rfl rfl (by (try simp only [List.map_toArray, List.map_cons, List.map_nil]); first | done | rfl | (simp only [List.length_drop, List.length_take]; rfl)) ?_
       with_reducible refine (hypercuberef2_Less.calls k1 _ _ ((rd_T41 l0 x5_1).f0) _ _ l1_0 t326 _ ?side1 ?side2 ?side3 ?side4 A7.out).mono ?_
       (case side1 => repeat (first | exact (by repeat (first | (with_reducible exact HR325_0.out) | (with_reducible refine Kd.C_alloc ?_ _) | (with_reducible refine Kd.C_drewN ?_ _) | (with_reducible refine Kd.C_drew ?_) | exact HR325_0.out)) | (with_reducible refine Kd.C_alloc ?_ _) | (with_reducible refine Kd.C_drewN ?_ _) | (with_reducible refine Kd.C_drew ?_)))
       (case side2 => exact HC325_0.out)
       (case side3 => exact Kd.Cw HR1_0.out HB.out)
       (case side4 => exact HC1_0.out)
       rintro e w' ⟨rfl, ⟨nd, rfl⟩⟩
       refine ⟨_, rfl, ?_⟩
       refine hK.out _ _ ⟨bc BK324 0, bc BK324 1, bc BK324 2, bc BK324 3, bc BK324 4, hHeld.2.2.2.2.2.1, hHeld.2.2.2.2.2.2.1, hHeld.2.2.2.2.2.2.2.1, hHeld.2.2.2.2.2.2.2.2.1, hHeld.2.2.2.2.2.2.2.2.2⟩ (fun hHeld => ?_)
       clear hK K
       refine nm ?_
       refine pu (i := 13) (N := some 20) (bb 15 16383) HT_ ?_
       refine pu (i := 14) (N := some 21) (bb 15 32767) HT_ ?_
       refine done_ (done_of HT_.out (by kernel_rfl)) ?_
       try go_wp2
       go_roundg k1
       case measure => have := HK1.out; omega
       case rel => exact ⟨(wrap64 (x5_1 + 1)), (by first | rfl | (simp; done) | (simp [*]; done)), H', ⟨by have := HK1.out; omega⟩, ⟨by (with_reducible repeat (first | apply Kd.V_alloc | apply Kd.V_drewN | apply Kd.V_drew)); exact HO_0.out⟩, ⟨by (with_reducible repeat (first | refine blk_drewN ?_ _ | refine blk_drew ?_ | refine blk_alloc ?_ _)); exact BK324.out⟩, ⟨by repeat (first | (with_reducible first | exact HB.out | apply below_alloc | apply pw_below_drewN | apply below_drew1 | refine below_set ?_ GE324.out) | exact HB.out)⟩⟩
      ·rw [if_neg c8] at H
       have c8b0 : decide (t326 < 0) = false := decide_eq_false c8
       clear c8
       have H' := am H
       clear H
       try go_wp2
       have n0_ := am (Kd.V_drew HO_0.out)
       have n1_ := am (blk_drew BK324.out)
       have n2_ := am (below_drew1 HB.out)
       clear HO_0 BK324 HB
       revert n0_ n1_ n2_
       intro HO_0 BK324 HB
       have p325 : 0 ≤ (x5_1 : Int) := of_decide_eq_true (by first | (with_reducible assumption) | assumption)
       have q325 : x5_1 < (l0.length : Int) := of_decide_eq_true (by first | (with_reducible assumption) | assumption)
       obtain ⟨ad325, A325_0, c325_0, A325_2, c325_2, A325_3, c325_3, A325_4, c325_4, e325, hx325_0, hx325_1, hx325_2, hx325_3, hx325_4, hl325_0, hi325_0, hl325_2, hi325_2, hl325_3, hi325_3, hl325_4, hi325_4⟩ := at_T41 (Kd.V_reads' HO_0.out).2.2 x5_1 p325 q325
       cases e325
       obtain ⟨ce325, hce325, hMe325, hcc325⟩ := Kd.V_get HO_0.out z41 x5_1 p325 (by first | exact q325 | exact of_decide_eq_true (by first | (with_reducible assumption) | assumption) | (have e_ := (Kd.V_reads' HO_0.out).1; omega))
       obtain ⟨ua325_0, uc325_0, ua325_2, uc325_2, ua325_3, uc325_3, ua325_4, uc325_4, rfl, ul325_0, ge325_0, ul325_2, ge325_2, ul325_3, ge325_3, ul325_4, ge325_4⟩ := k41_openF hMe325
       have hv325_0 := hcc325 0 _ rfl
       rw [Nat.add_zero] at hv325_0
       replace hv325_0 := Option.some.inj (hv325_0.symm.trans hx325_0)
       injection hv325_0 with hva_ hvn_ hvc_
       rw [hva_] at ge325_0
       rw [hvc_] at ul325_0
       have HL325_0 := am (show Kd.V (Kd.int .i64) 3 _ w.heap.size _ _ ((rd_T41 l0 x5_1).f0) from Kd.V_mk ul325_0 ge325_0)
       clear hva_ hvn_ hvc_ ge325_0 ul325_0
       have hv325_2 := hcc325 2 _ rfl
       rw [add_field _ _ 2 (by omega)] at hv325_2
       replace hv325_2 := Option.some.inj (hv325_2.symm.trans hx325_2)
       injection hv325_2 with hva_ hvn_ hvc_
       rw [hva_] at ge325_2
       rw [hvc_] at ul325_2
       have HL325_2 := am (show Kd.V (Kd.int .i64) 3 _ w.heap.size _ _ ((rd_T41 l0 x5_1).f2) from Kd.V_mk ul325_2 ge325_2)
       clear hva_ hvn_ hvc_ ge325_2 ul325_2
       have hv325_3 := hcc325 3 _ rfl
       rw [add_field _ _ 3 (by omega)] at hv325_3
       replace hv325_3 := Option.some.inj (hv325_3.symm.trans hx325_3)
       injection hv325_3 with hva_ hvn_ hvc_
       rw [hva_] at ge325_3
       rw [hvc_] at ul325_3
       have HL325_3 := am (show Kd.V (Kd.int .i64) 3 _ w.heap.size _ _ ((rd_T41 l0 x5_1).f3) from Kd.V_mk ul325_3 ge325_3)
       clear hva_ hvn_ hvc_ ge325_3 ul325_3
       have hv325_4 := hcc325 4 _ rfl
       rw [add_field _ _ 4 (by omega)] at hv325_4
       replace hv325_4 := Option.some.inj (hv325_4.symm.trans hx325_4)
       injection hv325_4 with hva_ hvn_ hvc_
       rw [hva_] at ge325_4
       rw [hvc_] at ul325_4
       have HL325_4 := am (show Kd.V (Kd.int .i64) 3 _ w.heap.size _ _ ((rd_T41 l0 x5_1).f4) from Kd.V_mk ul325_4 ge325_4)
       clear hva_ hvn_ hvc_ ge325_4 ul325_4
       clear hcc325 hce325
       have HR325_0 := am hi325_0
       have HC325_0 := am hl325_0
       clear hi325_0 hl325_0
       have HR325_2 := am hi325_2
       have HC325_2 := am hl325_2
       clear hi325_2 hl325_2
       have HR325_3 := am hi325_3
       have HC325_3 := am hl325_3
       clear hi325_3 hl325_3
       have HR325_4 := am hi325_4
       have HC325_4 := am hl325_4
       clear hi325_4 hl325_4
       replace p325 := eq_true p325
       replace q325 := eq_true q325
       refine start_ (n := 15) (S := fun w' => w'.cell? ⟨gb324, 0, none⟩ = some (.slice A1_0 l1_0.length c1_0) ∧ w'.cell? ⟨gb324, 1, none⟩ = some (.int .i64 a1_1) ∧ w'.cell? ⟨gb324, 2, none⟩ = some (.slice A1_2 l1_2.length c1_2) ∧ w'.cell? ⟨gb324, 3, none⟩ = some (.slice A1_3 l1_3.length c1_3) ∧ w'.cell? ⟨gb324, 4, none⟩ = some (.slice A1_4 l1_4.length c1_4) ∧ w'.cell? (ad325.add ((x5_1).toNat * 5)) = some (.slice A325_0 ((rd_T41 l0 x5_1).f0).length c325_0) ∧ w'.cell? ⟨(ad325.add ((x5_1).toNat * 5)).block, (ad325.add ((x5_1).toNat * 5)).off + 1, none⟩ = some (.int .i64 ((rd_T41 l0 x5_1).f1)) ∧ w'.cell? ⟨(ad325.add ((x5_1).toNat * 5)).block, (ad325.add ((x5_1).toNat * 5)).off + 2, none⟩ = some (.slice A325_2 ((rd_T41 l0 x5_1).f2).length c325_2) ∧ w'.cell? ⟨(ad325.add ((x5_1).toNat * 5)).block, (ad325.add ((x5_1).toNat * 5)).off + 3, none⟩ = some (.slice A325_3 ((rd_T41 l0 x5_1).f3).length c325_3) ∧ w'.cell? ⟨(ad325.add ((x5_1).toNat * 5)).block, (ad325.add ((x5_1).toNat * 5)).off + 4, none⟩ = some (.slice A325_4 ((rd_T41 l0 x5_1).f4).length c325_4)) (ds := []) (bb 15 0) (by kernel_rfl) rfl rfl ⟨bc BK324 0, bc BK324 1, bc BK324 2, bc BK324 3, bc BK324 4, hx325_0, hx325_1, hx325_2, hx325_3, hx325_4⟩ (fun hHeld => ?_); refine with_tabW hypercuberef2_Put.tab2 hypercuberef2_Put.bits2 (fun HT_ HW_ => ?_)
       generalize wr.drew = w10 at HO_0 BK324 HB HL325_0 HL325_2 HL325_3 HL325_4 HR325_0 HR325_2 HR325_3 HR325_4 hx325_0 hx325_1 hx325_2 hx325_3 hx325_4 hHeld ⊢
       refine pu (i := 0) (N := some 7) (bb 15 1) HT_ ?_
       refine pu (i := 1) (N := some 8) (bb 15 3) HT_ ?_
       refine pu (i := 2) (N := some 9) (bb 15 7) HT_ ?_
       refine pu (i := 3) (N := some 10) (bb 15 15) HT_ ?_
       refine pu (i := 4) (N := some 11) (bb 15 31) HT_ ?_
       refine pu (i := 5) (N := some 12) (bb 15 63) HT_ ?_
       refine pu (i := 6) (N := some 13) (bb 15 127) HT_ ?_
       refine pu (i := 7) (N := some 14) (bb 15 255) HT_ ?_
       refine pu (i := 8) (N := some 15) (bb 15 511) HT_ ?_
       refine pu (i := 10) (N := some 17) (bb 15 1535) HT_ ?_
       refine tk (i := 9) (N := some 16) (bb 15 2047) HT_ HW_ hHeld ?_
       refine tk (i := 11) (N := some 18) (bb 15 4095) HT_ HW_ hHeld ?_
       refine one_ (i := 12) (N := some 19) (bb 15 8191) rfl rfl (one_of HT_.out (by kernel_rfl)) (by decide) (fun K hK => ?_)
       refine goes_ Try.func35 (by kernel_rfl) rfl #[.slice A325_0 ((rd_T41 l0 x5_1).f0).length c325_0, .slice A1_0 l1_0.length c1_0] (by rfl) rfl rfl (by (try simp only [List.map_toArray, List.map_cons, List.map_nil]); first | done | rfl | (simp only [List.length_drop, List.length_take]; rfl)) ?_
       with_reducible refine (hypercuberef2_Less.calls k1 _ _ ((rd_T41 l0 x5_1).f0) _ _ l1_0 t326 _ ?side1 ?side2 ?side3 ?side4 A7.out).mono ?_
       (case side1 => repeat (first | exact (by repeat (first | (with_reducible exact HR325_0.out) | (with_reducible refine Kd.C_alloc ?_ _) | (with_reducible refine Kd.C_drewN ?_ _) | (with_reducible refine Kd.C_drew ?_) | exact HR325_0.out)) | (with_reducible refine Kd.C_alloc ?_ _) | (with_reducible refine Kd.C_drewN ?_ _) | (with_reducible refine Kd.C_drew ?_)))
       (case side2 => exact HC325_0.out)
       (case side3 => exact Kd.Cw HR1_0.out HB.out)
       (case side4 => exact HC1_0.out)
       rintro e w' ⟨rfl, ⟨nd, rfl⟩⟩
       refine ⟨_, rfl, ?_⟩
       refine hK.out _ _ ⟨bc BK324 0, bc BK324 1, bc BK324 2, bc BK324 3, bc BK324 4, hHeld.2.2.2.2.2.1, hHeld.2.2.2.2.2.2.1, hHeld.2.2.2.2.2.2.2.1, hHeld.2.2.2.2.2.2.2.2.1, hHeld.2.2.2.2.2.2.2.2.2⟩ (fun hHeld => ?_)
       clear hK K
       refine nm ?_
       refine pu (i := 13) (N := some 20) (bb 15 16383) HT_ ?_
       refine pu (i := 14) (N := some 21) (bb 15 32767) HT_ ?_
       refine done_ (done_of HT_.out (by kernel_rfl)) ?_
       try go_wp2
       go_meet
       case rel => exact ⟨_, (x5_1), (by first | rfl | (simp; done) | (simp [*]; done)), H', ⟨by have := HK1.out; first | omega | exact Nat.le_refl _⟩, ⟨by (with_reducible repeat (first | apply Kd.V_alloc | apply Kd.V_drewN | apply Kd.V_drew)); exact HO_0.out⟩, ⟨by (with_reducible repeat (first | refine blk_drewN ?_ _ | refine blk_drew ?_ | refine blk_alloc ?_ _)); exact BK324.out⟩, ⟨by repeat (first | (with_reducible first | exact HB.out | apply below_alloc | apply pw_below_drewN | apply below_drew1 | refine below_set ?_ GE324.out) | exact HB.out)⟩⟩
     ·rw [if_neg c6] at H
      exact absurd H (by simp)
    ·rw [if_neg c5] at H
     have c5b0 : decide (x5_1 < (l0.length : Int)) = false := decide_eq_false c5
     clear c5
     (first | rw [c5b0] | (simp only [i64_w, i32_w]; rw [c5b0]) | skip)
     have H' := am H
     clear H
     try go_wp2
     have n0_ := am (Kd.V_drew HO_0.out)
     have n1_ := am (blk_drew BK324.out)
     have n2_ := am (below_drew1 HB.out)
     clear HO_0 BK324 HB
     revert n0_ n1_ n2_
     intro HO_0 BK324 HB
     refine start_ (n := 15) (S := fun w' => True) (ds := []) (bb 15 0) (by kernel_rfl) rfl rfl trivial (fun hHeld => ?_); refine with_tabW hypercuberef2_Put.tab2 hypercuberef2_Put.bits2 (fun HT_ HW_ => ?_)
     generalize wr.drew = w11 at HO_0 BK324 HB hHeld ⊢
     refine pu (i := 0) (N := some 7) (bb 15 1) HT_ ?_
     refine pu (i := 1) (N := some 8) (bb 15 3) HT_ ?_
     refine pu (i := 2) (N := some 9) (bb 15 7) HT_ ?_
     refine pu (i := 3) (N := some 10) (bb 15 15) HT_ ?_
     refine pu (i := 4) (N := some 11) (bb 15 31) HT_ ?_
     refine pn (i := 5) (N := some 12) (bb 15 63) HT_ ?_
     refine pn (i := 6) (N := some 13) (bb 15 127) HT_ ?_
     refine pn (i := 7) (N := some 14) (bb 15 255) HT_ ?_
     refine pn (i := 8) (N := some 15) (bb 15 511) HT_ ?_
     refine pn (i := 9) (N := some 16) (bb 15 1023) HT_ ?_
     refine pn (i := 10) (N := some 17) (bb 15 2047) HT_ ?_
     refine pn (i := 11) (N := some 18) (bb 15 4095) HT_ ?_
     refine pn (i := 12) (N := some 19) (bb 15 8191) HT_ ?_
     refine pn (i := 13) (N := some 20) (bb 15 16383) HT_ ?_
     refine pu (i := 14) (N := some 21) (bb 15 32767) HT_ ?_
     refine done_ (done_of HT_.out (by kernel_rfl)) ?_
     try go_wp2
     go_meet
     case rel => exact ⟨_, (x5_1), (by first | rfl | (simp; done) | (simp [*]; done)), H', ⟨by have := HK1.out; first | omega | exact Nat.le_refl _⟩, ⟨by (with_reducible repeat (first | apply Kd.V_alloc | apply Kd.V_drewN | apply Kd.V_drew)); exact HO_0.out⟩, ⟨by (with_reducible repeat (first | refine blk_drewN ?_ _ | refine blk_drew ?_ | refine blk_alloc ?_ _)); exact BK324.out⟩, ⟨by repeat (first | (with_reducible first | exact HB.out | apply below_alloc | apply pw_below_drewN | apply below_drew1 | refine below_set ?_ GE324.out) | exact HB.out)⟩⟩
 case rest =>
  clear HC3
  try clear c1
  try clear p2
  try clear c3
  try clear p3
  try clear q3
  try clear hx3
  try clear c5
  try clear c5b0
  try clear c6
  try clear c6b0
  try clear p6
  try clear c8
  try clear c8b0
  try clear hx325_0
  try clear hx325_1
  try clear hx325_2
  try clear hx325_3
  try clear hx325_4
  try clear p2
  try clear p325
  try clear q325
  obtain ⟨kq, x5_2, rfl, HA, HJ2, HO_0, BK324, HB⟩ := hcut
  cases kq with
  | zero => exact absurd HA.out (by simp [hypercuberef2_Put.j1])
  | succ kj2 =>
   have H := HA.out
   clear HA
   simp only [hypercuberef2_Put.j1] at H
   have HC12 := am H
   clear H
   go_upto_region 4 with (fail)
   go_cut [38] (fun v38 wc => ∃ (kq : Nat) (x38_11 : Bool), v38 = .bool x38_11 ∧ Aside0 (hypercuberef2_Put.j2 kq l0 x5_2 x38_11 l1_0 a1_1 l1_2 l1_3 l1_4 = some r) ∧ Aside0 (kq ≤ kj2) ∧ Aside0 (Kd.V k41 41 wc w.heap.size (fun k_ => (P0_ k_ ∨ w.heap.size ≤ k_) ∧ k_ ≠ gb324) (.slice A0 l0.length c0) l0) ∧ Aside0 (wc.heap[gb324]? = some (.cells #[(.slice A1_0 l1_0.length c1_0), .int .i64 a1_1, (.slice A1_2 l1_2.length c1_2), (.slice A1_3 l1_3.length c1_3), (.slice A1_4 l1_4.length c1_4)] 41 (0, 0))) ∧ Aside0 (Below w.heap.size w wc))
   case first =>
    have H := HC12.out
    clear HC12
    by_cases c13 : x5_2 < (l0.length : Int)
    ·rw [if_pos c13] at H
     have c13b0 : decide (x5_2 < (l0.length : Int)) = true := decide_eq_true c13
     clear c13
     (first | rw [c13b0] | (simp only [i64_w, i32_w]; rw [c13b0]) | skip)
     by_cases c14 : 0 ≤ x5_2
     ·rw [if_pos c14] at H
      have c14b0 : decide (0 ≤ x5_2) = true := decide_eq_true c14
      clear c14
      replace H := Option.bind_eq_some_iff.mp H
      obtain ⟨t328, A150, H⟩ := H
      replace H : (hypercuberef2_Put.j2 kj2 l0 x5_2 (t328 == 0) l1_0 a1_1 l1_2 l1_3 l1_4) = some r := H
      have A15 := am A150
      clear A150
      have H' := am H
      clear H
      try go_wp2
      have n0_ := am (Kd.V_drew HO_0.out)
      have n1_ := am (blk_drew BK324.out)
      have n2_ := am (below_drew1 HB.out)
      clear HO_0 BK324 HB
      revert n0_ n1_ n2_
      intro HO_0 BK324 HB
      have p327 : 0 ≤ (x5_2 : Int) := of_decide_eq_true (by first | (with_reducible assumption) | assumption)
      have q327 : x5_2 < (l0.length : Int) := of_decide_eq_true (by first | (with_reducible assumption) | assumption)
      obtain ⟨ad327, A327_0, c327_0, A327_2, c327_2, A327_3, c327_3, A327_4, c327_4, e327, hx327_0, hx327_1, hx327_2, hx327_3, hx327_4, hl327_0, hi327_0, hl327_2, hi327_2, hl327_3, hi327_3, hl327_4, hi327_4⟩ := at_T41 (Kd.V_reads' HO_0.out).2.2 x5_2 p327 q327
      cases e327
      obtain ⟨ce327, hce327, hMe327, hcc327⟩ := Kd.V_get HO_0.out z41 x5_2 p327 (by first | exact q327 | exact of_decide_eq_true (by first | (with_reducible assumption) | assumption) | (have e_ := (Kd.V_reads' HO_0.out).1; omega))
      obtain ⟨ua327_0, uc327_0, ua327_2, uc327_2, ua327_3, uc327_3, ua327_4, uc327_4, rfl, ul327_0, ge327_0, ul327_2, ge327_2, ul327_3, ge327_3, ul327_4, ge327_4⟩ := k41_openF hMe327
      have hv327_0 := hcc327 0 _ rfl
      rw [Nat.add_zero] at hv327_0
      replace hv327_0 := Option.some.inj (hv327_0.symm.trans hx327_0)
      injection hv327_0 with hva_ hvn_ hvc_
      rw [hva_] at ge327_0
      rw [hvc_] at ul327_0
      have HL327_0 := am (show Kd.V (Kd.int .i64) 3 _ w.heap.size _ _ ((rd_T41 l0 x5_2).f0) from Kd.V_mk ul327_0 ge327_0)
      clear hva_ hvn_ hvc_ ge327_0 ul327_0
      have hv327_2 := hcc327 2 _ rfl
      rw [add_field _ _ 2 (by omega)] at hv327_2
      replace hv327_2 := Option.some.inj (hv327_2.symm.trans hx327_2)
      injection hv327_2 with hva_ hvn_ hvc_
      rw [hva_] at ge327_2
      rw [hvc_] at ul327_2
      have HL327_2 := am (show Kd.V (Kd.int .i64) 3 _ w.heap.size _ _ ((rd_T41 l0 x5_2).f2) from Kd.V_mk ul327_2 ge327_2)
      clear hva_ hvn_ hvc_ ge327_2 ul327_2
      have hv327_3 := hcc327 3 _ rfl
      rw [add_field _ _ 3 (by omega)] at hv327_3
      replace hv327_3 := Option.some.inj (hv327_3.symm.trans hx327_3)
      injection hv327_3 with hva_ hvn_ hvc_
      rw [hva_] at ge327_3
      rw [hvc_] at ul327_3
      have HL327_3 := am (show Kd.V (Kd.int .i64) 3 _ w.heap.size _ _ ((rd_T41 l0 x5_2).f3) from Kd.V_mk ul327_3 ge327_3)
      clear hva_ hvn_ hvc_ ge327_3 ul327_3
      have hv327_4 := hcc327 4 _ rfl
      rw [add_field _ _ 4 (by omega)] at hv327_4
      replace hv327_4 := Option.some.inj (hv327_4.symm.trans hx327_4)
      injection hv327_4 with hva_ hvn_ hvc_
      rw [hva_] at ge327_4
      rw [hvc_] at ul327_4
      have HL327_4 := am (show Kd.V (Kd.int .i64) 3 _ w.heap.size _ _ ((rd_T41 l0 x5_2).f4) from Kd.V_mk ul327_4 ge327_4)
      clear hva_ hvn_ hvc_ ge327_4 ul327_4
      clear hcc327 hce327
      have HR327_0 := am hi327_0
      have HC327_0 := am hl327_0
      clear hi327_0 hl327_0
      have HR327_2 := am hi327_2
      have HC327_2 := am hl327_2
      clear hi327_2 hl327_2
      have HR327_3 := am hi327_3
      have HC327_3 := am hl327_3
      clear hi327_3 hl327_3
      have HR327_4 := am hi327_4
      have HC327_4 := am hl327_4
      clear hi327_4 hl327_4
      replace p327 := eq_true p327
      replace q327 := eq_true q327
      refine start_ (n := 15) (S := fun w' => w'.cell? ⟨gb324, 0, none⟩ = some (.slice A1_0 l1_0.length c1_0) ∧ w'.cell? ⟨gb324, 1, none⟩ = some (.int .i64 a1_1) ∧ w'.cell? ⟨gb324, 2, none⟩ = some (.slice A1_2 l1_2.length c1_2) ∧ w'.cell? ⟨gb324, 3, none⟩ = some (.slice A1_3 l1_3.length c1_3) ∧ w'.cell? ⟨gb324, 4, none⟩ = some (.slice A1_4 l1_4.length c1_4) ∧ w'.cell? (ad327.add ((x5_2).toNat * 5)) = some (.slice A327_0 ((rd_T41 l0 x5_2).f0).length c327_0) ∧ w'.cell? ⟨(ad327.add ((x5_2).toNat * 5)).block, (ad327.add ((x5_2).toNat * 5)).off + 1, none⟩ = some (.int .i64 ((rd_T41 l0 x5_2).f1)) ∧ w'.cell? ⟨(ad327.add ((x5_2).toNat * 5)).block, (ad327.add ((x5_2).toNat * 5)).off + 2, none⟩ = some (.slice A327_2 ((rd_T41 l0 x5_2).f2).length c327_2) ∧ w'.cell? ⟨(ad327.add ((x5_2).toNat * 5)).block, (ad327.add ((x5_2).toNat * 5)).off + 3, none⟩ = some (.slice A327_3 ((rd_T41 l0 x5_2).f3).length c327_3) ∧ w'.cell? ⟨(ad327.add ((x5_2).toNat * 5)).block, (ad327.add ((x5_2).toNat * 5)).off + 4, none⟩ = some (.slice A327_4 ((rd_T41 l0 x5_2).f4).length c327_4)) (ds := []) (bb 15 0) (by kernel_rfl) rfl rfl ⟨bc BK324 0, bc BK324 1, bc BK324 2, bc BK324 3, bc BK324 4, hx327_0, hx327_1, hx327_2, hx327_3, hx327_4⟩ (fun hHeld => ?_); refine with_tabW hypercuberef2_Put.tab4 hypercuberef2_Put.bits4 (fun HT_ HW_ => ?_)
      generalize wc.drew = w16 at HO_0 BK324 HB HL327_0 HL327_2 HL327_3 HL327_4 HR327_0 HR327_2 HR327_3 HR327_4 hx327_0 hx327_1 hx327_2 hx327_3 hx327_4 hHeld ⊢
      refine pu (i := 0) (N := some 24) (bb 15 1) HT_ ?_
      refine pu (i := 1) (N := some 25) (bb 15 3) HT_ ?_
      refine pu (i := 2) (N := some 26) (bb 15 7) HT_ ?_
      refine pu (i := 3) (N := some 27) (bb 15 15) HT_ ?_
      refine pu (i := 4) (N := some 28) (bb 15 31) HT_ ?_
      refine pu (i := 5) (N := some 29) (bb 15 63) HT_ ?_
      refine pu (i := 6) (N := some 30) (bb 15 127) HT_ ?_
      refine pu (i := 7) (N := some 31) (bb 15 255) HT_ ?_
      refine pu (i := 8) (N := some 32) (bb 15 511) HT_ ?_
      refine pu (i := 10) (N := some 34) (bb 15 1535) HT_ ?_
      refine tk (i := 9) (N := some 33) (bb 15 2047) HT_ HW_ hHeld ?_
      refine tk (i := 11) (N := some 35) (bb 15 4095) HT_ HW_ hHeld ?_
      refine one_ (i := 12) (N := some 36) (bb 15 8191) rfl rfl (one_of HT_.out (by kernel_rfl)) (by decide) (fun K hK => ?_)
      refine goes_ Try.func35 (by kernel_rfl) rfl #[.slice A327_0 ((rd_T41 l0 x5_2).f0).length c327_0, .slice A1_0 l1_0.length c1_0] (by rfl) rfl rfl (by (try simp only [List.map_toArray, List.map_cons, List.map_nil]); first | done | rfl | (simp only [List.length_drop, List.length_take]; rfl)) ?_
      with_reducible refine (hypercuberef2_Less.calls kj2 _ _ ((rd_T41 l0 x5_2).f0) _ _ l1_0 t328 _ ?side1 ?side2 ?side3 ?side4 A15.out).mono ?_
      (case side1 => repeat (first | exact (by repeat (first | (with_reducible exact HR327_0.out) | (with_reducible refine Kd.C_alloc ?_ _) | (with_reducible refine Kd.C_drewN ?_ _) | (with_reducible refine Kd.C_drew ?_) | exact HR327_0.out)) | (with_reducible refine Kd.C_alloc ?_ _) | (with_reducible refine Kd.C_drewN ?_ _) | (with_reducible refine Kd.C_drew ?_)))
      (case side2 => exact HC327_0.out)
      (case side3 => exact Kd.Cw HR1_0.out HB.out)
      (case side4 => exact HC1_0.out)
      rintro e w' ⟨rfl, ⟨nd, rfl⟩⟩
      refine ⟨_, rfl, ?_⟩
      refine hK.out _ _ ⟨bc BK324 0, bc BK324 1, bc BK324 2, bc BK324 3, bc BK324 4, hHeld.2.2.2.2.2.1, hHeld.2.2.2.2.2.2.1, hHeld.2.2.2.2.2.2.2.1, hHeld.2.2.2.2.2.2.2.2.1, hHeld.2.2.2.2.2.2.2.2.2⟩ (fun hHeld => ?_)
      clear hK K
      refine nm ?_
      refine pu (i := 13) (N := some 37) (bb 15 16383) HT_ ?_
      refine pu (i := 14) (N := some 38) (bb 15 32767) HT_ ?_
      refine done_ (done_of HT_.out (by kernel_rfl)) ?_
      try go_wp2
      go_meet
      case rel => exact ⟨_, ((t328 == 0)), (by first | rfl | (simp; done) | (simp [*]; done)), H', ⟨by have := HJ2.out; first | omega | exact Nat.le_refl _⟩, ⟨by (with_reducible repeat (first | apply Kd.V_alloc | apply Kd.V_drewN | apply Kd.V_drew)); exact HO_0.out⟩, ⟨by (with_reducible repeat (first | refine blk_drewN ?_ _ | refine blk_drew ?_ | refine blk_alloc ?_ _)); exact BK324.out⟩, ⟨by repeat (first | (with_reducible first | exact HB.out | apply below_alloc | apply pw_below_drewN | apply below_drew1 | refine below_set ?_ GE324.out) | exact HB.out)⟩⟩
     ·rw [if_neg c14] at H
      exact absurd H (by simp)
    ·rw [if_neg c13] at H
     have c13b0 : decide (x5_2 < (l0.length : Int)) = false := decide_eq_false c13
     clear c13
     (first | rw [c13b0] | (simp only [i64_w, i32_w]; rw [c13b0]) | skip)
     have H' := am H
     clear H
     try go_wp2
     have n0_ := am (Kd.V_drew HO_0.out)
     have n1_ := am (blk_drew BK324.out)
     have n2_ := am (below_drew1 HB.out)
     clear HO_0 BK324 HB
     revert n0_ n1_ n2_
     intro HO_0 BK324 HB
     refine start_ (n := 15) (S := fun w' => True) (ds := []) (bb 15 0) (by kernel_rfl) rfl rfl trivial (fun hHeld => ?_); refine with_tabW hypercuberef2_Put.tab4 hypercuberef2_Put.bits4 (fun HT_ HW_ => ?_)
     generalize wc.drew = w17 at HO_0 BK324 HB hHeld ⊢
     refine pu (i := 0) (N := some 24) (bb 15 1) HT_ ?_
     refine pu (i := 1) (N := some 25) (bb 15 3) HT_ ?_
     refine pu (i := 2) (N := some 26) (bb 15 7) HT_ ?_
     refine pu (i := 3) (N := some 27) (bb 15 15) HT_ ?_
     refine pu (i := 4) (N := some 28) (bb 15 31) HT_ ?_
     refine pn (i := 5) (N := some 29) (bb 15 63) HT_ ?_
     refine pn (i := 6) (N := some 30) (bb 15 127) HT_ ?_
     refine pn (i := 7) (N := some 31) (bb 15 255) HT_ ?_
     refine pn (i := 8) (N := some 32) (bb 15 511) HT_ ?_
     refine pn (i := 9) (N := some 33) (bb 15 1023) HT_ ?_
     refine pn (i := 10) (N := some 34) (bb 15 2047) HT_ ?_
     refine pn (i := 11) (N := some 35) (bb 15 4095) HT_ ?_
     refine pn (i := 12) (N := some 36) (bb 15 8191) HT_ ?_
     refine pn (i := 13) (N := some 37) (bb 15 16383) HT_ ?_
     refine pu (i := 14) (N := some 38) (bb 15 32767) HT_ ?_
     refine done_ (done_of HT_.out (by kernel_rfl)) ?_
     try go_wp2
     go_meet
     case rel => exact ⟨_, (false), (by first | rfl | (simp; done) | (simp [*]; done)), H', ⟨by have := HJ2.out; first | omega | exact Nat.le_refl _⟩, ⟨by (with_reducible repeat (first | apply Kd.V_alloc | apply Kd.V_drewN | apply Kd.V_drew)); exact HO_0.out⟩, ⟨by (with_reducible repeat (first | refine blk_drewN ?_ _ | refine blk_drew ?_ | refine blk_alloc ?_ _)); exact BK324.out⟩, ⟨by repeat (first | (with_reducible first | exact HB.out | apply below_alloc | apply pw_below_drewN | apply below_drew1 | refine below_set ?_ GE324.out) | exact HB.out)⟩⟩
   case rest =>
    clear HC12
    try clear c1
    try clear p2
    try clear c3
    try clear p3
    try clear q3
    try clear hx3
    try clear c5
    try clear c5b0
    try clear c6
    try clear c6b0
    try clear p6
    try clear c8
    try clear c8b0
    try clear c13
    try clear c13b0
    try clear c14
    try clear c14b0
    try clear hx325_0
    try clear hx325_1
    try clear hx325_2
    try clear hx325_3
    try clear hx325_4
    try clear hx327_0
    try clear hx327_1
    try clear hx327_2
    try clear hx327_3
    try clear hx327_4
    try clear p2
    try clear p3
    try clear p325
    try clear p327
    try clear p6
    try clear q3
    try clear q325
    try clear q327
    obtain ⟨kq, x38_11, rfl, HA, HJ11, HO_0, BK324, HB⟩ := hcut
    cases kq with
    | zero => exact absurd HA.out (by simp [hypercuberef2_Put.j2])
    | succ kj11 =>
     have H := HA.out
     clear HA
     simp only [hypercuberef2_Put.j2] at H
     by_cases c18 : x38_11 = true
     ·subst c18
      have H1 : ((some (([] : List (S41)) : List (S41))).bind fun y329 => (if y329.length + l0.length < 1353245080339 then ((some (y329 ++ l0 : List (S41))).bind fun y332 => (if 0 ≤ x5_2 then (if x5_2 < (l0.length : Int) then ((hypercuberef2_Join.f kj11 ((rd_T41 l0 x5_2).f0) ((rd_T41 l0 x5_2).f1) ((rd_T41 l0 x5_2).f2) ((rd_T41 l0 x5_2).f3) ((rd_T41 l0 x5_2).f4) l1_0 a1_1 l1_2 l1_3 l1_4).bind fun bt336 => (if x5_2 < (y332.length : Int) then (some (y332.set (x5_2 : Int).toNat (⟨bt336.1, bt336.2.1, bt336.2.2.1, bt336.2.2.2.1, bt336.2.2.2.2⟩ : S41))) else (none))) else (none)) else (none))) else (none))) = some r := by rw [if_pos rfl] at H; exact H
      clear H
      have H := H1
      clear H1
      obtain ⟨y329, hy329⟩ : ∃ y_ : List (S41), y_ = (([] : List (S41))) := ⟨_, rfl⟩
      replace H : (if y329.length + l0.length < 1353245080339 then ((some (y329 ++ l0 : List (S41))).bind fun y332 => (if 0 ≤ x5_2 then (if x5_2 < (l0.length : Int) then ((hypercuberef2_Join.f kj11 ((rd_T41 l0 x5_2).f0) ((rd_T41 l0 x5_2).f1) ((rd_T41 l0 x5_2).f2) ((rd_T41 l0 x5_2).f3) ((rd_T41 l0 x5_2).f4) l1_0 a1_1 l1_2 l1_3 l1_4).bind fun bt336 => (if x5_2 < (y332.length : Int) then (some (y332.set (x5_2 : Int).toNat (⟨bt336.1, bt336.2.1, bt336.2.2.1, bt336.2.2.2.1, bt336.2.2.2.2⟩ : S41))) else (none))) else (none)) else (none))) else (none)) = some r := by first | (rw [hy329]; with_reducible exact H) | (have H2_ := (Option.bind_some _ _).symm.trans H; rw [hy329]; with_reducible exact H2_) | (have H2_ := (Option.bind_some _ _).symm.trans H; with_reducible exact H2_) | with_reducible exact H | (rw [hy329]; exact H) | exact H
      have Ny329 := am hy329
      clear hy329
      by_cases c19 : y329.length + l0.length < 1353245080339
      ·rw [if_pos c19] at H
       have LMc19 := am c19
       clear c19
       obtain ⟨y332, hy332⟩ : ∃ y_ : List (S41), y_ = (y329 ++ l0) := ⟨_, rfl⟩
       replace H : (if 0 ≤ x5_2 then (if x5_2 < (l0.length : Int) then ((hypercuberef2_Join.f kj11 ((rd_T41 l0 x5_2).f0) ((rd_T41 l0 x5_2).f1) ((rd_T41 l0 x5_2).f2) ((rd_T41 l0 x5_2).f3) ((rd_T41 l0 x5_2).f4) l1_0 a1_1 l1_2 l1_3 l1_4).bind fun bt336 => (if x5_2 < (y332.length : Int) then (some (y332.set (x5_2 : Int).toNat (⟨bt336.1, bt336.2.1, bt336.2.2.1, bt336.2.2.2.1, bt336.2.2.2.2⟩ : S41))) else (none))) else (none)) else (none)) = some r := by first | (rw [hy332]; with_reducible exact H) | (have H2_ := (Option.bind_some _ _).symm.trans H; rw [hy332]; with_reducible exact H2_) | (have H2_ := (Option.bind_some _ _).symm.trans H; with_reducible exact H2_) | with_reducible exact H | (rw [hy332]; exact H) | exact H
       have Ny332 := am hy332
       clear hy332
       by_cases c20 : 0 ≤ x5_2
       ·rw [if_pos c20] at H
        have c20b0 : decide (0 ≤ x5_2) = true := decide_eq_true c20
        clear c20
        by_cases c21 : x5_2 < (l0.length : Int)
        ·rw [if_pos c21] at H
         have c21b0 : decide (x5_2 < (l0.length : Int)) = true := decide_eq_true c21
         clear c21
         replace H := Option.bind_eq_some_iff.mp H
         obtain ⟨⟨t336, t339, t340, t343, t346⟩, A220, H⟩ := H
         replace H : (if x5_2 < (y332.length : Int) then (some (y332.set (x5_2 : Int).toNat (⟨t336, t339, t340, t343, t346⟩ : S41))) else (none)) = some r := H
         have A22 := am A220
         clear A220
         by_cases c23 : x5_2 < (y332.length : Int)
         ·rw [if_pos c23] at H
          have c23b0 : decide (x5_2 < (y332.length : Int)) = true := decide_eq_true c23
          clear c23
          obtain ⟨y349, hy349⟩ : ∃ y_ : List (S41), y_ = (y332.set (x5_2 : Int).toNat (⟨t336, t339, t340, t343, t346⟩ : S41)) := ⟨_, rfl⟩
          replace H : (some y349) = some r := by rw [hy349]; with_reducible exact H
          have Ny349 := am hy349
          clear hy349
          obtain rfl := Option.some.inj H
          try go_wp2_with (first | ((with_reducible refine gate_dst (N := 39) rfl ?_); refine Kd.N_lit k41 _ 41 ?hg (N' := 39) ?hd (xs := ([] : List (S41))) (inner := []) (ok := (fun k_ => (P0_ k_ ∨ w.heap.size ≤ k_) ∧ k_ ≠ gb324)) (okp := (fun k_ => (P0_ k_ ∨ w.heap.size ≤ k_) ∧ k_ ≠ gb324)) ?hr ?hp (fun _ hk => hk) ((show ∀ k_, wc.heap.size ≤ k_ → (fun k_ => (P0_ k_ ∨ w.heap.size ≤ k_) ∧ k_ ≠ gb324) k_ from fun k_ hk => ⟨(.inr (Nat.le_trans (below_size (wmv HB.out)) hk)), Kd.freshB (bmv BK324.out) k_ hk⟩) _ (Nat.le_refl _)) (Below.refl _ _) (Nat.le_refl _) (by simp) ?_; (case hd => rfl); (case hg => rfl); (case hr => first | (go_simp; done) | (go_simp; rfl)); (case hp => exact (Reps.none _ _)); intro v330 w25 ho26 hb hg_ hnew_; clear hg_ hnew_; (first | rw [← Ny329.out] at ho26 | (simp only [Int.reduceToNat] at ho26; rw [← Ny329.out] at ho26)); have n0_ := am (Kd.V_elder' (Kd.V_mv HO_0.out) (by first | exact Kd.N_base ho26 | exact Kd.S_base ho26 | exact Kd.R_base ho26) hb); have n1_ := am (Kd.N_lower ho26 (below_size (wmv HB.out))); have n2_ := am (blk_below (bmv BK324.out) hb); have n3_ := am (below_step (wmv HB.out) hb); clear HO_0 BK324 HB; revert n0_ n1_ n2_ n3_; intro HO_0 HO331 BK324 HB; clear hb ho26) | ((with_reducible refine gate_builtin (b := .append) (xs := #[.tmp 39, .tmp 40]) rfl ?_); at_builtin; refine Kd.N_append_rows k41 (w0 := w) w.heap.size rfl (.tmp 39) (.tmp 40) 29 41 (.agg #[(.slice none 0 0), (.int .i64 0), (.slice none 0 0), (.slice none 0 0), (.slice none 0 0)]) 104 rfl Try.underlying29 info41 rfl (by decide) (by omega) v330 y329 l0 _ _ _ (fun k_ => (P0_ k_ ∨ w.heap.size ≤ k_) ∧ k_ ≠ gb324) (fun k_ => ((fun k_ => (P0_ k_ ∨ w.heap.size ≤ k_) ∧ k_ ≠ gb324)) k_ ∧ some k_ ≠ (v330 : Value).ownBlock) rfl rfl ?aO ?aR (fun _ hk => hk) ?aF ?aB ?aS ?aL ?_; (case aR => exact (by skip; exact Kd.V_F (Kd.V_mono (ok' := (fun k_ => ((fun k_ => (P0_ k_ ∨ w.heap.size ≤ k_) ∧ k_ ≠ gb324)) k_ ∧ some k_ ≠ (v330 : Value).ownBlock)) (HO_0.out) (fun k_ hk => ⟨⟨hk.1.1, hk.1.2⟩, hk.2⟩)))); (case aB => exact (wmv HB.out)); (case aF => exact (fun k_ hk => ⟨(.inr (Nat.le_trans (below_size (wmv HB.out)) hk)), Kd.freshB (bmv BK324.out) k_ hk⟩)); (case aO => exact (Kd.N_mv HO331.out)); (case aS => exact (below_size (wmv HB.out))); (case aL => have := LMc19.out; omega); intro v333 w27 ho hb hg hat; rw [← Ny332.out] at ho; have n0_ := am (Kd.V_afterv (ok := (fun k_ => (P0_ k_ ∨ w.heap.size ≤ k_) ∧ k_ ≠ gb324)) (Kd.V_mv HO_0.out) hg hat); have n1_ := am (blk_grown (bmv BK324.out) hg (Kd.N_away HO331.out (fun _ hk => hk.2))); have n2_ := am (hb); have n3_ := am (ho); clear HO_0 BK324 HB HO331; revert n0_ n1_ n2_ n3_; intro HO_0 BK324 HB HO334; clear ho hb hg hat))
          have n0_ := am (Kd.V_drew HO_0.out)
          have n1_ := am (Kd.N_drew HO334.out)
          have n2_ := am (blk_drew BK324.out)
          have n3_ := am (below_drew1 HB.out)
          clear HO_0 HO334 BK324 HB
          revert n0_ n1_ n2_ n3_
          intro HO_0 HO334 BK324 HB
          have p335 : 0 ≤ (x5_2 : Int) := of_decide_eq_true (by first | (with_reducible assumption) | assumption)
          have q335 : x5_2 < (l0.length : Int) := of_decide_eq_true (by first | (with_reducible assumption) | assumption)
          obtain ⟨ad335, A335_0, c335_0, A335_2, c335_2, A335_3, c335_3, A335_4, c335_4, e335, hx335_0, hx335_1, hx335_2, hx335_3, hx335_4, hl335_0, hi335_0, hl335_2, hi335_2, hl335_3, hi335_3, hl335_4, hi335_4⟩ := at_T41 (Kd.V_reads' HO_0.out).2.2 x5_2 p335 q335
          cases e335
          obtain ⟨ce335, hce335, hMe335, hcc335⟩ := Kd.V_get HO_0.out z41 x5_2 p335 (by first | exact q335 | exact of_decide_eq_true (by first | (with_reducible assumption) | assumption) | (have e_ := (Kd.V_reads' HO_0.out).1; omega))
          obtain ⟨ua335_0, uc335_0, ua335_2, uc335_2, ua335_3, uc335_3, ua335_4, uc335_4, rfl, ul335_0, ge335_0, ul335_2, ge335_2, ul335_3, ge335_3, ul335_4, ge335_4⟩ := k41_openF hMe335
          have hv335_0 := hcc335 0 _ rfl
          rw [Nat.add_zero] at hv335_0
          replace hv335_0 := Option.some.inj (hv335_0.symm.trans hx335_0)
          injection hv335_0 with hva_ hvn_ hvc_
          rw [hva_] at ge335_0
          rw [hvc_] at ul335_0
          have HL335_0 := am (show Kd.V (Kd.int .i64) 3 _ w.heap.size _ _ ((rd_T41 l0 x5_2).f0) from Kd.V_mk ul335_0 ge335_0)
          clear hva_ hvn_ hvc_ ge335_0 ul335_0
          have hv335_2 := hcc335 2 _ rfl
          rw [add_field _ _ 2 (by omega)] at hv335_2
          replace hv335_2 := Option.some.inj (hv335_2.symm.trans hx335_2)
          injection hv335_2 with hva_ hvn_ hvc_
          rw [hva_] at ge335_2
          rw [hvc_] at ul335_2
          have HL335_2 := am (show Kd.V (Kd.int .i64) 3 _ w.heap.size _ _ ((rd_T41 l0 x5_2).f2) from Kd.V_mk ul335_2 ge335_2)
          clear hva_ hvn_ hvc_ ge335_2 ul335_2
          have hv335_3 := hcc335 3 _ rfl
          rw [add_field _ _ 3 (by omega)] at hv335_3
          replace hv335_3 := Option.some.inj (hv335_3.symm.trans hx335_3)
          injection hv335_3 with hva_ hvn_ hvc_
          rw [hva_] at ge335_3
          rw [hvc_] at ul335_3
          have HL335_3 := am (show Kd.V (Kd.int .i64) 3 _ w.heap.size _ _ ((rd_T41 l0 x5_2).f3) from Kd.V_mk ul335_3 ge335_3)
          clear hva_ hvn_ hvc_ ge335_3 ul335_3
          have hv335_4 := hcc335 4 _ rfl
          rw [add_field _ _ 4 (by omega)] at hv335_4
          replace hv335_4 := Option.some.inj (hv335_4.symm.trans hx335_4)
          injection hv335_4 with hva_ hvn_ hvc_
          rw [hva_] at ge335_4
          rw [hvc_] at ul335_4
          have HL335_4 := am (show Kd.V (Kd.int .i64) 3 _ w.heap.size _ _ ((rd_T41 l0 x5_2).f4) from Kd.V_mk ul335_4 ge335_4)
          clear hva_ hvn_ hvc_ ge335_4 ul335_4
          clear hcc335 hce335
          have HR335_0 := am hi335_0
          have HC335_0 := am hl335_0
          clear hi335_0 hl335_0
          have HR335_2 := am hi335_2
          have HC335_2 := am hl335_2
          clear hi335_2 hl335_2
          have HR335_3 := am hi335_3
          have HC335_3 := am hl335_3
          clear hi335_3 hl335_3
          have HR335_4 := am hi335_4
          have HC335_4 := am hl335_4
          clear hi335_4 hl335_4
          replace p335 := eq_true p335
          replace q335 := eq_true q335
          refine start_ (n := 10) (S := fun w' => w'.cell? ⟨gb324, 0, none⟩ = some (.slice A1_0 l1_0.length c1_0) ∧ w'.cell? ⟨gb324, 1, none⟩ = some (.int .i64 a1_1) ∧ w'.cell? ⟨gb324, 2, none⟩ = some (.slice A1_2 l1_2.length c1_2) ∧ w'.cell? ⟨gb324, 3, none⟩ = some (.slice A1_3 l1_3.length c1_3) ∧ w'.cell? ⟨gb324, 4, none⟩ = some (.slice A1_4 l1_4.length c1_4) ∧ w'.cell? (ad335.add ((x5_2).toNat * 5)) = some (.slice A335_0 ((rd_T41 l0 x5_2).f0).length c335_0) ∧ w'.cell? ⟨(ad335.add ((x5_2).toNat * 5)).block, (ad335.add ((x5_2).toNat * 5)).off + 1, none⟩ = some (.int .i64 ((rd_T41 l0 x5_2).f1)) ∧ w'.cell? ⟨(ad335.add ((x5_2).toNat * 5)).block, (ad335.add ((x5_2).toNat * 5)).off + 2, none⟩ = some (.slice A335_2 ((rd_T41 l0 x5_2).f2).length c335_2) ∧ w'.cell? ⟨(ad335.add ((x5_2).toNat * 5)).block, (ad335.add ((x5_2).toNat * 5)).off + 3, none⟩ = some (.slice A335_3 ((rd_T41 l0 x5_2).f3).length c335_3) ∧ w'.cell? ⟨(ad335.add ((x5_2).toNat * 5)).block, (ad335.add ((x5_2).toNat * 5)).off + 4, none⟩ = some (.slice A335_4 ((rd_T41 l0 x5_2).f4).length c335_4)) (ds := [9]) (bb 10 0) (by kernel_rfl) rfl rfl ⟨bc BK324 0, bc BK324 1, bc BK324 2, bc BK324 3, bc BK324 4, hx335_0, hx335_1, hx335_2, hx335_3, hx335_4⟩ (fun hHeld => ?_); refine with_tabW hypercuberef2_Put.tab6 hypercuberef2_Put.bits6 (fun HT_ HW_ => ?_)
          generalize w27.drew = w28 at HO_0 HO334 BK324 HB HL335_0 HL335_2 HL335_3 HL335_4 HR335_0 HR335_2 HR335_3 HR335_4 hx335_0 hx335_1 hx335_2 hx335_3 hx335_4 hHeld ⊢
          refine pu (i := 0) (N := some 42) (bb 10 1) HT_ ?_
          refine pu (i := 1) (N := some 43) (bb 10 3) HT_ ?_
          refine pu (i := 2) (N := some 44) (bb 10 7) HT_ ?_
          refine pu (i := 3) (N := some 45) (bb 10 15) HT_ ?_
          refine pu (i := 4) (N := some 46) (bb 10 31) HT_ ?_
          refine tk (i := 5) (N := some 47) (bb 10 63) HT_ HW_ hHeld ?_
          refine tk (i := 6) (N := some 48) (bb 10 127) HT_ HW_ hHeld ?_
          refine one_ (i := 7) (N := some 49) (bb 10 255) rfl rfl (one_of HT_.out (by kernel_rfl)) (by decide) (fun K hK => ?_)
          refine goes_ Try.func41 (by kernel_rfl) rfl #[.agg #[.slice A335_0 ((rd_T41 l0 x5_2).f0).length c335_0, .int .i64 ((rd_T41 l0 x5_2).f1), .slice A335_2 ((rd_T41 l0 x5_2).f2).length c335_2, .slice A335_3 ((rd_T41 l0 x5_2).f3).length c335_3, .slice A335_4 ((rd_T41 l0 x5_2).f4).length c335_4], .agg #[.slice A1_0 l1_0.length c1_0, .int .i64 a1_1, .slice A1_2 l1_2.length c1_2, .slice A1_3 l1_3.length c1_3, .slice A1_4 l1_4.length c1_4]] (by rfl) rfl rfl (by (try simp only [List.map_toArray, List.map_cons, List.map_nil]); first | done | rfl | (simp only [List.length_drop, List.length_take]; rfl)) ?_
          with_reducible refine (hypercuberef2_Join.calls kj11 _ _ ((rd_T41 l0 x5_2).f0) ((rd_T41 l0 x5_2).f1) _ _ ((rd_T41 l0 x5_2).f2) _ _ ((rd_T41 l0 x5_2).f3) _ _ ((rd_T41 l0 x5_2).f4) _ _ l1_0 a1_1 _ _ l1_2 _ _ l1_3 _ _ l1_4 t336 t339 t340 t343 t346 _ ?side1 ?side2 ?side3 ?side4 ?side5 ?side6 ?side7 ?side8 ?side9 ?side10 ?side11 ?side12 ?side13 ?side14 ?side15 ?side16 A22.out).mono ?_
          (case side1 => repeat (first | exact (by repeat (first | (with_reducible exact HR335_0.out) | (with_reducible refine Kd.C_alloc ?_ _) | (with_reducible refine Kd.C_drewN ?_ _) | (with_reducible refine Kd.C_drew ?_) | exact HR335_0.out)) | (with_reducible refine Kd.C_alloc ?_ _) | (with_reducible refine Kd.C_drewN ?_ _) | (with_reducible refine Kd.C_drew ?_)))
          (case side2 => exact HC335_0.out)
          (case side3 => repeat (first | exact (by repeat (first | (with_reducible exact HR335_2.out) | (with_reducible refine Kd.C_alloc ?_ _) | (with_reducible refine Kd.C_drewN ?_ _) | (with_reducible refine Kd.C_drew ?_) | exact HR335_2.out)) | (with_reducible refine Kd.C_alloc ?_ _) | (with_reducible refine Kd.C_drewN ?_ _) | (with_reducible refine Kd.C_drew ?_)))
          (case side4 => exact HC335_2.out)
          (case side5 => repeat (first | exact (by repeat (first | (with_reducible exact HR335_3.out) | (with_reducible refine Kd.C_alloc ?_ _) | (with_reducible refine Kd.C_drewN ?_ _) | (with_reducible refine Kd.C_drew ?_) | exact HR335_3.out)) | (with_reducible refine Kd.C_alloc ?_ _) | (with_reducible refine Kd.C_drewN ?_ _) | (with_reducible refine Kd.C_drew ?_)))
          (case side6 => exact HC335_3.out)
          (case side7 => repeat (first | exact (by repeat (first | (with_reducible exact HR335_4.out) | (with_reducible refine Kd.C_alloc ?_ _) | (with_reducible refine Kd.C_drewN ?_ _) | (with_reducible refine Kd.C_drew ?_) | exact HR335_4.out)) | (with_reducible refine Kd.C_alloc ?_ _) | (with_reducible refine Kd.C_drewN ?_ _) | (with_reducible refine Kd.C_drew ?_)))
          (case side8 => exact HC335_4.out)
          (case side9 => exact Kd.Cw HR1_0.out HB.out)
          (case side10 => exact HC1_0.out)
          (case side11 => exact Kd.Cw HR1_2.out HB.out)
          (case side12 => exact HC1_2.out)
          (case side13 => exact Kd.Cw HR1_3.out HB.out)
          (case side14 => exact HC1_3.out)
          (case side15 => exact Kd.Cw HR1_4.out HB.out)
          (case side16 => exact HC1_4.out)
          rintro e w29 ⟨v337, v341, v344, v347, rfl, ho0, ho1, ho2, ho3, hb⟩
          have HS5_ := (hb.cell (World.block_lt_of_cell? _ _ (hHeld.2.2.2.2.2.1))).trans (hHeld.2.2.2.2.2.1)
          have HS6_ := (hb.cell (World.block_lt_of_cell? _ _ (hHeld.2.2.2.2.2.2.1))).trans (hHeld.2.2.2.2.2.2.1)
          have HS7_ := (hb.cell (World.block_lt_of_cell? _ _ (hHeld.2.2.2.2.2.2.2.1))).trans (hHeld.2.2.2.2.2.2.2.1)
          have HS8_ := (hb.cell (World.block_lt_of_cell? _ _ (hHeld.2.2.2.2.2.2.2.2.1))).trans (hHeld.2.2.2.2.2.2.2.2.1)
          have HS9_ := (hb.cell (World.block_lt_of_cell? _ _ (hHeld.2.2.2.2.2.2.2.2.2))).trans (hHeld.2.2.2.2.2.2.2.2.2)
          refine ⟨_, rfl, ?_⟩
          have n0_ := am (Kd.V_mono (Kd.V_told (Kd.V_told (Kd.V_told (Kd.V_told (Kd.V_old (Kd.V_mv HO_0.out) hb) (Kd.R_base ho0)) (Kd.R_base ho1)) (Kd.R_base ho2)) (Kd.R_base ho3)) (fun _ h_ => h_.1))
          have n1_ := am (Kd.N_mono (Kd.N_told (Kd.N_told (Kd.N_told (Kd.N_told (Kd.N_old (Kd.N_mv HO334.out) hb) (Kd.R_base ho0)) (Kd.R_base ho1)) (Kd.R_base ho2)) (Kd.R_base ho3)) (fun _ h_ => h_.1))
          have n2_ := am (Kd.V_mono (Kd.V_told (Kd.V_told (Kd.V_told (Kd.V_told (Kd.V_old (Kd.V_mv HL335_0.out) hb) (Kd.R_base ho0)) (Kd.R_base ho1)) (Kd.R_base ho2)) (Kd.R_base ho3)) (fun _ h_ => h_.1))
          have n3_ := am (Kd.V_mono (Kd.V_told (Kd.V_told (Kd.V_told (Kd.V_told (Kd.V_old (Kd.V_mv HL335_2.out) hb) (Kd.R_base ho0)) (Kd.R_base ho1)) (Kd.R_base ho2)) (Kd.R_base ho3)) (fun _ h_ => h_.1))
          have n4_ := am (Kd.V_mono (Kd.V_told (Kd.V_told (Kd.V_told (Kd.V_told (Kd.V_old (Kd.V_mv HL335_3.out) hb) (Kd.R_base ho0)) (Kd.R_base ho1)) (Kd.R_base ho2)) (Kd.R_base ho3)) (fun _ h_ => h_.1))
          have n5_ := am (Kd.V_mono (Kd.V_told (Kd.V_told (Kd.V_told (Kd.V_told (Kd.V_old (Kd.V_mv HL335_4.out) hb) (Kd.R_base ho0)) (Kd.R_base ho1)) (Kd.R_base ho2)) (Kd.R_base ho3)) (fun _ h_ => h_.1))
          have n6_ := am (Kd.R_lower (Kd.R_newM (M := fun k_ => (w.heap.size ≤ k_)) ho0 (below_size (wmv HB.out)) (fun k_ h_ => h_)) (below_size (wmv HB.out)))
          have n7_ := am (Kd.R_lower (Kd.R_newM (M := fun k_ => (w.heap.size ≤ k_)) ho1 (below_size (wmv HB.out)) (fun k_ h_ => h_)) (below_size (wmv HB.out)))
          have n8_ := am (Kd.R_lower (Kd.R_newM (M := fun k_ => (w.heap.size ≤ k_)) ho2 (below_size (wmv HB.out)) (fun k_ h_ => h_)) (below_size (wmv HB.out)))
          have n9_ := am (Kd.R_lower (Kd.R_newM (M := fun k_ => (w.heap.size ≤ k_)) ho3 (below_size (wmv HB.out)) (fun k_ h_ => h_)) (below_size (wmv HB.out)))
          have n10_ := am (blk_below (bmv BK324.out) hb)
          have n11_ := am (Kd.C_below (by repeat (first | (with_reducible exact HR335_0.out) | (with_reducible refine Kd.C_alloc ?_ _) | (with_reducible refine Kd.C_drewN ?_ _) | (with_reducible refine Kd.C_drew ?_) | exact HR335_0.out)) hb)
          have n12_ := am (Kd.C_below (by repeat (first | (with_reducible exact HR335_2.out) | (with_reducible refine Kd.C_alloc ?_ _) | (with_reducible refine Kd.C_drewN ?_ _) | (with_reducible refine Kd.C_drew ?_) | exact HR335_2.out)) hb)
          have n13_ := am (Kd.C_below (by repeat (first | (with_reducible exact HR335_3.out) | (with_reducible refine Kd.C_alloc ?_ _) | (with_reducible refine Kd.C_drewN ?_ _) | (with_reducible refine Kd.C_drew ?_) | exact HR335_3.out)) hb)
          have n14_ := am (Kd.C_below (by repeat (first | (with_reducible exact HR335_4.out) | (with_reducible refine Kd.C_alloc ?_ _) | (with_reducible refine Kd.C_drewN ?_ _) | (with_reducible refine Kd.C_drew ?_) | exact HR335_4.out)) hb)
          have n15_ := am (below_step (wmv HB.out) hb)
          clear HO_0 HO334 HL335_0 HL335_2 HL335_3 HL335_4 BK324 HR335_0 HR335_2 HR335_3 HR335_4 HB
          revert n0_ n1_ n2_ n3_ n4_ n5_ n6_ n7_ n8_ n9_ n10_ n11_ n12_ n13_ n14_ n15_
          intro HO_0 HO334 HL335_0 HL335_2 HL335_3 HL335_4 HO338 HO342 HO345 HO348 BK324 HR335_0 HR335_2 HR335_3 HR335_4 HB
          (try clear hb)
          (try clear hb2)
          (try clear hk)
          (try clear hi)
          (try clear ho0)
          (try clear ho1)
          (try clear ho2)
          (try clear ho3)
          have p24 : 0 ≤ (x5_2 : Int) := of_decide_eq_true (by first | (with_reducible assumption) | assumption)
          have q24 : (x5_2 : Int) < ((y332.length : Int) : Int) := of_decide_eq_true (by first | (with_reducible assumption) | assumption)
          obtain ⟨go24, co24, eo24, gb24, gl24, cl24, HG24⟩ := Kd.N_form HO334.out (by omega)
          (first | cases eo24 | (injection eo24 with ea_ en_ ec_; (first | subst ea_ | (injection ea_ with ea_; subst ea_)); subst ec_; clear en_))
          have GB24 := am gb24
          have GG24 := am HG24
          clear gb24 gl24 HG24
          obtain ⟨ce24, hcl24, hM24, hcc24, hfr24⟩ := Kd.N_elem HO334.out z41 (x5_2 : Int) p24 q24
          obtain ⟨ua24_0, uc24_0, ua24_2, uc24_2, ua24_3, uc24_3, ua24_4, uc24_4, rfl, ul24_0, ge24_0, ul24_2, ge24_2, ul24_3, ge24_3, ul24_4, ge24_4⟩ := k41_openF hM24
          have hx24_0 : World.cell? _ ⟨go24, (x5_2 : Int).toNat * 5, none⟩ = some (.slice ua24_0 ((rd_T41 y332 x5_2).f0).length uc24_0) := hcc24 0 _ rfl
          have hx24_1 : World.cell? _ ⟨go24, (x5_2 : Int).toNat * 5 + 1, none⟩ = some (.int .i64 ((rd_T41 y332 x5_2).f1)) := hcc24 1 _ rfl
          have hx24_2 : World.cell? _ ⟨go24, (x5_2 : Int).toNat * 5 + 2, none⟩ = some (.slice ua24_2 ((rd_T41 y332 x5_2).f2).length uc24_2) := hcc24 2 _ rfl
          have hx24_3 : World.cell? _ ⟨go24, (x5_2 : Int).toNat * 5 + 3, none⟩ = some (.slice ua24_3 ((rd_T41 y332 x5_2).f3).length uc24_3) := hcc24 3 _ rfl
          have hx24_4 : World.cell? _ ⟨go24, (x5_2 : Int).toNat * 5 + 4, none⟩ = some (.slice ua24_4 ((rd_T41 y332 x5_2).f4).length uc24_4) := hcc24 4 _ rfl
          have hf24_0 : World.frozen? _ ⟨go24, (x5_2 : Int).toNat * 5, none⟩ = false := hfr24 0
          have hf24_1 : World.frozen? _ ⟨go24, (x5_2 : Int).toNat * 5 + 1, none⟩ = false := hfr24 1
          have hf24_2 : World.frozen? _ ⟨go24, (x5_2 : Int).toNat * 5 + 2, none⟩ = false := hfr24 2
          have hf24_3 : World.frozen? _ ⟨go24, (x5_2 : Int).toNat * 5 + 3, none⟩ = false := hfr24 3
          have hf24_4 : World.frozen? _ ⟨go24, (x5_2 : Int).toNat * 5 + 4, none⟩ = false := hfr24 4
          clear hcl24 hcc24 hfr24 hM24
          replace p24 := eq_true p24
          replace q24 := eq_true q24
          obtain ⟨Bv337, bv337, ev_⟩ := Kd.R_slice HO338.out
          subst ev_
          obtain ⟨Bv341, bv341, ev_⟩ := Kd.R_slice HO342.out
          subst ev_
          obtain ⟨Bv344, bv344, ev_⟩ := Kd.R_slice HO345.out
          subst ev_
          obtain ⟨Bv347, bv347, ev_⟩ := Kd.R_slice HO348.out
          subst ev_
          have HX30 := am (show Kd.N k41 41 _ w.heap.size (fun k_ => (P0_ k_ ∨ w.heap.size ≤ k_) ∧ some k_ ≠ ((.slice Bv337 t336.length bv337) : Value).ownBlock ∧ some k_ ≠ ((.slice Bv341 t340.length bv341) : Value).ownBlock ∧ some k_ ≠ ((.slice Bv344 t343.length bv344) : Value).ownBlock ∧ some k_ ≠ ((.slice Bv347 t346.length bv347) : Value).ownBlock ∧ k_ ≠ gb324) (.slice (some ⟨go24, 0, none⟩) y332.length co24) y332 from (Kd.N_mono (HO334.out) (fun k_ hk => ⟨hk.1.1.1.1.1, ⟨hk.1.1.1.2, ⟨hk.1.1.2, ⟨hk.1.2, ⟨hk.2, hk.1.1.1.1.2⟩⟩⟩⟩⟩)))
          replace HX30 := am (show Kd.N k41 41 _ w.heap.size (fun k_ => (P0_ k_ ∨ w.heap.size ≤ k_) ∧ k_ ≠ gb324) (.slice (some ⟨go24, 0, none⟩) y332.length co24) y332 from Kd.N_mono HX30.out (fun k_ hk => ⟨hk.1, hk.2.2.2.2.2⟩))
          obtain ⟨ce30, hcl30, hM30, hcc30, hfr30⟩ := Kd.N_elem HX30.out z41 (x5_2 : Int) (of_decide_eq_true (by first | (with_reducible assumption) | assumption)) (by have h_ : (x5_2 : Int) < ((y332.length : Int) : Int) := of_decide_eq_true (by first | (with_reducible assumption) | assumption); first | exact h_ | (have e_ := (Kd.N_reads' HO334.out).1; omega) | simpa using h_)
          obtain ⟨ua30_0, uc30_0, ua30_2, uc30_2, ua30_3, uc30_3, ua30_4, uc30_4, rfl, ul30_0, ge30_0, ul30_2, ge30_2, ul30_3, ge30_3, ul30_4, ge30_4⟩ := k41_openF hM30
          have HP30 := (Kd.N_seg HX30.out (x5_2 : Int) (of_decide_eq_true (by first | (with_reducible assumption) | assumption)) (by have h_ : (x5_2 : Int) < ((y332.length : Int) : Int) := of_decide_eq_true (by first | (with_reducible assumption) | assumption); first | exact h_ | (have e_ := (Kd.N_reads' HO334.out).1; omega) | simpa using h_) (seg := [(.slice Bv337 t336.length bv337), .int .i64 t339, (.slice Bv341 t340.length bv341), (.slice Bv344 t343.length bv344), (.slice Bv347 t346.length bv347)]) (j := 0) hcl30 hcc30 (show 5 ≤ 5 from by decide) (x' := (⟨t336, t339, t340, t343, t346⟩ : S41)) (k41_mkF _ _ (⟨t336, t339, t340, t343, t346⟩ : S41) (Kd.R_reads' (Kd.R_mono (ok' := (fun k_ => ((fun k_ => (P0_ k_ ∨ w.heap.size ≤ k_) ∧ k_ ≠ gb324)) k_ ∧ k_ ≠ go24)) (Kd.R_types (Kd.R_apart' (HO338.out) (Kd.N_typed HO334.out) (by decide)) BK324.out (by decide)) (fun k_ hk => ⟨⟨(.inr (hk.1.1.1)), hk.2⟩, fun e_ => (hk.1.2) (by rw [e_]; rfl)⟩))).2.1 (Kd.R_F (Kd.R_mono (ok' := (fun k_ => ((fun k_ => (P0_ k_ ∨ w.heap.size ≤ k_) ∧ k_ ≠ gb324)) k_ ∧ k_ ≠ go24)) (Kd.R_types (Kd.R_apart' (HO338.out) (Kd.N_typed HO334.out) (by decide)) BK324.out (by decide)) (fun k_ hk => ⟨⟨(.inr (hk.1.1.1)), hk.2⟩, fun e_ => (hk.1.2) (by rw [e_]; rfl)⟩))) (Kd.R_reads' (Kd.R_mono (ok' := (fun k_ => ((fun k_ => (P0_ k_ ∨ w.heap.size ≤ k_) ∧ k_ ≠ gb324)) k_ ∧ k_ ≠ go24)) (Kd.R_types (Kd.R_apart' (HO342.out) (Kd.N_typed HO334.out) (by decide)) BK324.out (by decide)) (fun k_ hk => ⟨⟨(.inr (hk.1.1.1)), hk.2⟩, fun e_ => (hk.1.2) (by rw [e_]; rfl)⟩))).2.1 (Kd.R_F (Kd.R_mono (ok' := (fun k_ => ((fun k_ => (P0_ k_ ∨ w.heap.size ≤ k_) ∧ k_ ≠ gb324)) k_ ∧ k_ ≠ go24)) (Kd.R_types (Kd.R_apart' (HO342.out) (Kd.N_typed HO334.out) (by decide)) BK324.out (by decide)) (fun k_ hk => ⟨⟨(.inr (hk.1.1.1)), hk.2⟩, fun e_ => (hk.1.2) (by rw [e_]; rfl)⟩))) (Kd.R_reads' (Kd.R_mono (ok' := (fun k_ => ((fun k_ => (P0_ k_ ∨ w.heap.size ≤ k_) ∧ k_ ≠ gb324)) k_ ∧ k_ ≠ go24)) (Kd.R_types (Kd.R_apart' (HO345.out) (Kd.N_typed HO334.out) (by decide)) BK324.out (by decide)) (fun k_ hk => ⟨⟨(.inr (hk.1.1.1)), hk.2⟩, fun e_ => (hk.1.2) (by rw [e_]; rfl)⟩))).2.1 (Kd.R_F (Kd.R_mono (ok' := (fun k_ => ((fun k_ => (P0_ k_ ∨ w.heap.size ≤ k_) ∧ k_ ≠ gb324)) k_ ∧ k_ ≠ go24)) (Kd.R_types (Kd.R_apart' (HO345.out) (Kd.N_typed HO334.out) (by decide)) BK324.out (by decide)) (fun k_ hk => ⟨⟨(.inr (hk.1.1.1)), hk.2⟩, fun e_ => (hk.1.2) (by rw [e_]; rfl)⟩))) (Kd.R_reads' (Kd.R_mono (ok' := (fun k_ => ((fun k_ => (P0_ k_ ∨ w.heap.size ≤ k_) ∧ k_ ≠ gb324)) k_ ∧ k_ ≠ go24)) (Kd.R_types (Kd.R_apart' (HO348.out) (Kd.N_typed HO334.out) (by decide)) BK324.out (by decide)) (fun k_ hk => ⟨⟨(.inr (hk.1.1.1)), hk.2⟩, fun e_ => (hk.1.2) (by rw [e_]; rfl)⟩))).2.1 (Kd.R_F (Kd.R_mono (ok' := (fun k_ => ((fun k_ => (P0_ k_ ∨ w.heap.size ≤ k_) ∧ k_ ≠ gb324)) k_ ∧ k_ ≠ go24)) (Kd.R_types (Kd.R_apart' (HO348.out) (Kd.N_typed HO334.out) (by decide)) BK324.out (by decide)) (fun k_ hk => ⟨⟨(.inr (hk.1.1.1)), hk.2⟩, fun e_ => (hk.1.2) (by rw [e_]; rfl)⟩)))) (fun _ hk => hk)).1
          rw [← Ny349.out] at HP30
          have HQ30 := am HP30
          clear hcl30 hcc30 hfr30 hM30 HP30
          refine hK.out _ _ ⟨bc BK324 0, bc BK324 1, bc BK324 2, bc BK324 3, bc BK324 4, HS5_, HS6_, HS7_, HS8_, HS9_⟩ (fun hHeld => ?_)
          clear hK K
          refine nm ?_
          refine pu (i := 8) (N := some 50) (bb 10 511) HT_ ?_
          refine last_ (i := 9) (N := none) (bb 10 1023) rfl rfl (one_of HT_.out (by kernel_rfl)) (by decide) (fun K hK => ?_)
          refine skip_ (w1 := ?_) (by rfl) rfl ?_ ?_
          rotate_left
          ·go_simp
           rfl
          refine hK.out _ _ ?_
          clear hK K
          refine done_ (done_of HT_.out (by kernel_rfl)) ?_
          try go_wp2
          go_ret
          exact ⟨_, by first | rfl | (simp [errW_none, errW_some] <;> rfl) | (simp [*, errW_none, errW_some] <;> rfl), by (with_reducible repeat (first | apply Kd.N_alloc | apply Kd.N_drewN | apply Kd.N_drew)); exact Kd.N_mono HQ30.out (fun _ hk => hk.1), by repeat (first | (with_reducible first | exact HB.out | apply below_alloc | apply pw_below_drewN | apply below_drew1 | refine below_set ?_ GB24.out | refine below_set ?_ GB24.out | refine below_set ?_ GB24.out | refine below_set ?_ GB24.out | refine below_set ?_ GB24.out | refine below_set ?_ GE324.out) | exact HB.out)⟩
         ·rw [if_neg c23] at H
          exact absurd H (by simp)
        ·rw [if_neg c21] at H
         exact absurd H (by simp)
       ·rw [if_neg c20] at H
        exact absurd H (by simp)
      ·rw [if_neg c19] at H
       exact absurd H (by simp)
     ·replace c18 := Bool.eq_false_iff.mpr c18
      subst c18
      have H1 : ((some (([] : List (S41)) : List (S41))).bind fun y350 => (if 0 ≤ x5_2 then (if x5_2 ≤ (l0.length : Int) then ((some (l0.take (x5_2 : Int).toNat : List (S41))).bind fun y353 => (if y350.length + y353.length < 1353245080339 then ((some (y350 ++ y353 : List (S41))).bind fun y358 => ((hypercuberef2_Copy.f l1_0 a1_1 l1_2 l1_3 l1_4).bind fun bt361 => (if y358.length < 1353245080339 then ((some (y358 ++ [(⟨bt361.1, bt361.2.1, bt361.2.2.1, bt361.2.2.2.1, bt361.2.2.2.2⟩ : S41)] : List (S41))).bind fun y374 => ((some (l0.drop (x5_2 : Int).toNat : List (S41))).bind fun y377 => (if y374.length + y377.length < 1353245080339 then (some (y374 ++ y377)) else (none)))) else (none)))) else (none))) else (none)) else (none))) = some r := by rw [if_neg (show ¬ (false = true) by decide)] at H; exact H
      clear H
      have H := H1
      clear H1
      obtain ⟨y350, hy350⟩ : ∃ y_ : List (S41), y_ = (([] : List (S41))) := ⟨_, rfl⟩
      replace H : (if 0 ≤ x5_2 then (if x5_2 ≤ (l0.length : Int) then ((some (l0.take (x5_2 : Int).toNat : List (S41))).bind fun y353 => (if y350.length + y353.length < 1353245080339 then ((some (y350 ++ y353 : List (S41))).bind fun y358 => ((hypercuberef2_Copy.f l1_0 a1_1 l1_2 l1_3 l1_4).bind fun bt361 => (if y358.length < 1353245080339 then ((some (y358 ++ [(⟨bt361.1, bt361.2.1, bt361.2.2.1, bt361.2.2.2.1, bt361.2.2.2.2⟩ : S41)] : List (S41))).bind fun y374 => ((some (l0.drop (x5_2 : Int).toNat : List (S41))).bind fun y377 => (if y374.length + y377.length < 1353245080339 then (some (y374 ++ y377)) else (none)))) else (none)))) else (none))) else (none)) else (none)) = some r := by first | (rw [hy350]; with_reducible exact H) | (have H2_ := (Option.bind_some _ _).symm.trans H; rw [hy350]; with_reducible exact H2_) | (have H2_ := (Option.bind_some _ _).symm.trans H; with_reducible exact H2_) | with_reducible exact H | (rw [hy350]; exact H) | exact H
      have Ny350 := am hy350
      clear hy350
      by_cases c31 : 0 ≤ x5_2
      ·rw [if_pos c31] at H
       have c31b0 := eq_true c31
       have c31b1 : decide (0 ≤ x5_2) = true := decide_eq_true c31
       clear c31
       by_cases c32 : x5_2 ≤ (l0.length : Int)
       ·rw [if_pos c32] at H
        have c32b0 := eq_true c32
        have c32b1 : decide (x5_2 ≤ (l0.length : Int)) = true := decide_eq_true c32
        clear c32
        obtain ⟨y353, hy353⟩ : ∃ y_ : List (S41), y_ = (l0.take (x5_2 : Int).toNat) := ⟨_, rfl⟩
        replace H : (if y350.length + y353.length < 1353245080339 then ((some (y350 ++ y353 : List (S41))).bind fun y358 => ((hypercuberef2_Copy.f l1_0 a1_1 l1_2 l1_3 l1_4).bind fun bt361 => (if y358.length < 1353245080339 then ((some (y358 ++ [(⟨bt361.1, bt361.2.1, bt361.2.2.1, bt361.2.2.2.1, bt361.2.2.2.2⟩ : S41)] : List (S41))).bind fun y374 => ((some (l0.drop (x5_2 : Int).toNat : List (S41))).bind fun y377 => (if y374.length + y377.length < 1353245080339 then (some (y374 ++ y377)) else (none)))) else (none)))) else (none)) = some r := by first | (rw [hy353]; with_reducible exact H) | (have H2_ := (Option.bind_some _ _).symm.trans H; rw [hy353]; with_reducible exact H2_) | (have H2_ := (Option.bind_some _ _).symm.trans H; with_reducible exact H2_) | with_reducible exact H | (rw [hy353]; exact H) | exact H
        have Ny353 := am hy353
        clear hy353
        by_cases c33 : y350.length + y353.length < 1353245080339
        ·rw [if_pos c33] at H
         have LMc33 := am c33
         clear c33
         obtain ⟨y358, hy358⟩ : ∃ y_ : List (S41), y_ = (y350 ++ y353) := ⟨_, rfl⟩
         replace H : ((hypercuberef2_Copy.f l1_0 a1_1 l1_2 l1_3 l1_4).bind fun bt361 => (if y358.length < 1353245080339 then ((some (y358 ++ [(⟨bt361.1, bt361.2.1, bt361.2.2.1, bt361.2.2.2.1, bt361.2.2.2.2⟩ : S41)] : List (S41))).bind fun y374 => ((some (l0.drop (x5_2 : Int).toNat : List (S41))).bind fun y377 => (if y374.length + y377.length < 1353245080339 then (some (y374 ++ y377)) else (none)))) else (none))) = some r := by first | (rw [hy358]; with_reducible exact H) | (have H2_ := (Option.bind_some _ _).symm.trans H; rw [hy358]; with_reducible exact H2_) | (have H2_ := (Option.bind_some _ _).symm.trans H; with_reducible exact H2_) | with_reducible exact H | (rw [hy358]; exact H) | exact H
         have Ny358 := am hy358
         clear hy358
         replace H := Option.bind_eq_some_iff.mp H
         obtain ⟨⟨t361, t364, t365, t368, t371⟩, A340, H⟩ := H
         replace H : (if y358.length < 1353245080339 then ((some (y358 ++ [(⟨t361, t364, t365, t368, t371⟩ : S41)] : List (S41))).bind fun y374 => ((some (l0.drop (x5_2 : Int).toNat : List (S41))).bind fun y377 => (if y374.length + y377.length < 1353245080339 then (some (y374 ++ y377)) else (none)))) else (none)) = some r := H
         have A34 := am A340
         clear A340
         by_cases c35 : y358.length < 1353245080339
         ·rw [if_pos c35] at H
          have LMc35 := am c35
          clear c35
          obtain ⟨y374, hy374⟩ : ∃ y_ : List (S41), y_ = (y358 ++ [(⟨t361, t364, t365, t368, t371⟩ : S41)]) := ⟨_, rfl⟩
          replace H : ((some (l0.drop (x5_2 : Int).toNat : List (S41))).bind fun y377 => (if y374.length + y377.length < 1353245080339 then (some (y374 ++ y377)) else (none))) = some r := by first | (rw [hy374]; with_reducible exact H) | (have H2_ := (Option.bind_some _ _).symm.trans H; rw [hy374]; with_reducible exact H2_) | (have H2_ := (Option.bind_some _ _).symm.trans H; with_reducible exact H2_) | with_reducible exact H | (rw [hy374]; exact H) | exact H
          have Ny374 := am hy374
          clear hy374
          have c36b0 := eq_true (of_decide_eq_true (by first | (with_reducible assumption) | assumption) : 0 ≤ x5_2)
          have c37b0 := eq_true (of_decide_eq_true (by first | (with_reducible assumption) | assumption) : x5_2 ≤ (l0.length : Int))
          obtain ⟨y377, hy377⟩ : ∃ y_ : List (S41), y_ = (l0.drop (x5_2 : Int).toNat) := ⟨_, rfl⟩
          replace H : (if y374.length + y377.length < 1353245080339 then (some (y374 ++ y377)) else (none)) = some r := by first | (rw [hy377]; with_reducible exact H) | (have H2_ := (Option.bind_some _ _).symm.trans H; rw [hy377]; with_reducible exact H2_) | (have H2_ := (Option.bind_some _ _).symm.trans H; with_reducible exact H2_) | with_reducible exact H | (rw [hy377]; exact H) | exact H
          have Ny377 := am hy377
          clear hy377
          by_cases c38 : y374.length + y377.length < 1353245080339
          ·rw [if_pos c38] at H
           have LMc38 := am c38
           clear c38
           obtain ⟨y382, hy382⟩ : ∃ y_ : List (S41), y_ = (y374 ++ y377) := ⟨_, rfl⟩
           replace H : (some y382) = some r := by rw [hy382]; with_reducible exact H
           have Ny382 := am hy382
           clear hy382
           obtain rfl := Option.some.inj H
           try go_wp2
           have n0_ := am (Kd.V_drew HO_0.out)
           have n1_ := am (blk_drew BK324.out)
           have n2_ := am (below_drew1 HB.out)
           clear HO_0 BK324 HB
           revert n0_ n1_ n2_
           intro HO_0 BK324 HB
           have q40 : (x5_2 : Int) ≤ ((l0.length : Int) : Int) := of_decide_eq_true (by first | (with_reducible assumption) | assumption)
           obtain ⟨i040, hi040, _, hsz40, _⟩ := info_parts info41
           have hroom40 : l0.length ≤ c0 := (Kd.V_reads' HO_0.out).2.1
           have hC40 : Kd.F k41 _ _ A0 l0.length l0 := (Kd.V_at (base := w.heap.size) HO_0.out).2.2
           have hcut40 := cut_to (P := Try.prog) 29 41 .i64 Try.underlying29 hi040 A0 l0.length c0 x5_2 (of_decide_eq_true (by first | (with_reducible assumption) | assumption)) q40 hroom40
           have hr40 := Kd.F_take (m := (x5_2 : Int).toNat) hC40 (by omega)
           have hy40 : y353.length = (x5_2 : Int).toNat := (by rw [Ny353.out, List.length_take]; omega)
           rw [← Ny353.out] at hr40
           rw [← hy40] at hcut40
           have HO357 := am (show Kd.V k41 41 _ w.heap.size _ (.slice A0 y353.length c0) y353 from Kd.V_mk (by omega) hr40)
           have HC357 := am (show y353.length ≤ c0 from by omega)
           clear hr40 hC40 hroom40 hi040 hsz40
           have KY40 := am hy40
           clear hy40
           replace q40 := eq_true q40
           have q41 : (x5_2 : Int) ≤ ((l0.length : Int) : Int) := of_decide_eq_true (by first | (with_reducible assumption) | assumption)
           obtain ⟨i041, hi041, _, hsz41, _⟩ := info_parts info41
           have hroom41 : l0.length ≤ c0 := (Kd.V_reads' HO_0.out).2.1
           have hC41 : Kd.F k41 _ _ A0 l0.length l0 := (Kd.V_at (base := w.heap.size) HO_0.out).2.2
           have q041 : (0 : Int) ≤ (x5_2 : Int) := of_decide_eq_true (by first | (with_reducible assumption) | assumption)
           have hcut41 := cut_from (P := Try.prog) 29 41 .i64 Try.underlying29 hi041 5 hsz41 A0 l0.length c0 x5_2 q041 q41
           have hr41 := Kd.F_cut (m := (x5_2 : Int).toNat) (c := c0) hC41 (by omega) hroom41
           obtain ⟨A41, hA41⟩ : ∃ A1, A1 = (if c0 = (x5_2 : Int).toNat then A0 else (A0 : Option Addr).map (·.add ((x5_2 : Int).toNat * 5))) := ⟨_, rfl⟩
           obtain ⟨c41, hc41⟩ : ∃ c1, c1 = c0 - (x5_2 : Int).toNat := ⟨_, rfl⟩
           have hy41 : y377.length = l0.length - (x5_2 : Int).toNat := (by rw [Ny377.out, List.length_drop] <;> omega)
           rw [show (l0).drop (x5_2 : Int).toNat = y377 from Ny377.out.symm] at hr41
           replace hr41 : Kd.F k41 _ _ A41 y377.length y377 := (by rw [hA41]; exact hr41)
           rw [← hy41, ← hA41, ← hc41] at hcut41
           have HO381 := am (show Kd.V k41 41 _ w.heap.size _ (.slice A41 y377.length c41) y377 from Kd.V_mk (by rw [hy41, hc41]; exact Nat.sub_le_sub_right hroom41 _) hr41)
           have HC381 := am (show y377.length ≤ c41 from by rw [hy41, hc41]; exact Nat.sub_le_sub_right hroom41 _)
           clear hr41 hC41 hroom41 hi041 hsz41 hc41
           have KY41 := am hy41
           have KA41 := am hA41
           clear hy41 hA41
           replace q41 := eq_true q41
           refine start_ (n := 14) (S := fun w' => w'.cell? ⟨gb324, 0, none⟩ = some (.slice A1_0 l1_0.length c1_0) ∧ w'.cell? ⟨gb324, 1, none⟩ = some (.int .i64 a1_1) ∧ w'.cell? ⟨gb324, 2, none⟩ = some (.slice A1_2 l1_2.length c1_2) ∧ w'.cell? ⟨gb324, 3, none⟩ = some (.slice A1_3 l1_3.length c1_3) ∧ w'.cell? ⟨gb324, 4, none⟩ = some (.slice A1_4 l1_4.length c1_4)) (ds := []) (bb 14 0) (by kernel_rfl) rfl rfl ⟨bc BK324 0, bc BK324 1, bc BK324 2, bc BK324 3, bc BK324 4⟩ (fun hHeld => ?_); refine with_tabW hypercuberef2_Put.tab8 hypercuberef2_Put.bits8 (fun HT_ HW_ => ?_)
           generalize wc.drew = w39 at HO_0 BK324 HB HO357 HO381 hHeld ⊢
           refine pu (i := 1) (N := some 53) (bb 14 2) HT_ ?_
           refine pu (i := 2) (N := some 54) (bb 14 6) HT_ ?_
           refine pu (i := 3) (N := some 55) (bb 14 14) HT_ ?_
           refine pu (i := 9) (N := some 61) (bb 14 526) HT_ ?_
           refine pu (i := 10) (N := some 62) (bb 14 1550) HT_ ?_
           refine pu (i := 11) (N := some 63) (bb 14 3598) HT_ ?_
           refine tk (i := 5) (N := some 57) (bb 14 3630) HT_ HW_ hHeld ?_
           refine one_ (i := 0) (N := some 52) (bb 14 3631) rfl rfl (one_of HT_.out (by kernel_rfl)) (by decide) (fun K hK => ?_)
           refine Kd.N_lit_step k41 _ 41 ?hg (N' := 52) ?hd (xs := ([] : List (S41))) (inner := []) (ok := (fun k_ => (P0_ k_ ∨ w.heap.size ≤ k_) ∧ k_ ≠ gb324)) (okp := (fun k_ => (P0_ k_ ∨ w.heap.size ≤ k_) ∧ k_ ≠ gb324)) ?hr ?hp (fun _ hk => hk) ((show ∀ k_, w39.heap.size ≤ k_ → (fun k_ => (P0_ k_ ∨ w.heap.size ≤ k_) ∧ k_ ≠ gb324) k_ from fun k_ hk => ⟨(.inr (Nat.le_trans (below_size (wmv HB.out)) hk)), Kd.freshB (bmv BK324.out) k_ hk⟩) _ (Nat.le_refl _)) (Below.refl _ _) (Nat.le_refl _) (by simp) ?_; (case hd => rfl); (case hg => rfl); (case hr => first | (go_simp; done) | (go_simp; rfl)); (case hp => exact (Reps.none _ _))
           intro v351 w42 ho43 hb hg_ hnew_
           clear hg_ hnew_
           (first | rw [← Ny350.out] at ho43 | (simp only [Int.reduceToNat] at ho43; rw [← Ny350.out] at ho43))
           have n0_ := am (Kd.V_elder' (Kd.V_mv HO_0.out) (by first | exact Kd.N_base ho43 | exact Kd.S_base ho43 | exact Kd.R_base ho43) hb)
           have n1_ := am (Kd.V_elder' (Kd.V_mv HO357.out) (by first | exact Kd.N_base ho43 | exact Kd.S_base ho43 | exact Kd.R_base ho43) hb)
           have n2_ := am (Kd.V_elder' (Kd.V_mv HO381.out) (by first | exact Kd.N_base ho43 | exact Kd.S_base ho43 | exact Kd.R_base ho43) hb)
           have n3_ := am (Kd.N_lower ho43 (below_size (wmv HB.out)))
           have n4_ := am (blk_below (bmv BK324.out) hb)
           have n5_ := am (below_step (wmv HB.out) hb)
           clear HO_0 HO357 HO381 BK324 HB
           revert n0_ n1_ n2_ n3_ n4_ n5_
           intro HO_0 HO357 HO381 HO352 BK324 HB
           clear hb ho43
           refine hK.out _ _ ⟨bc BK324 0, bc BK324 1, bc BK324 2, bc BK324 3, bc BK324 4⟩ (fun hHeld => ?_)
           clear hK K
           refine nm ?_
           refine one_ (i := 4) (N := some 56) (bb 14 3647) rfl rfl (one_of HT_.out (by kernel_rfl)) (by decide) (fun K hK => ?_)
           refine Kd.N_append_rows_step k41 (w0 := w) w.heap.size (by rfl) (.tmp 52) (.tmp 55) 29 41 (.agg #[(.slice none 0 0), (.int .i64 0), (.slice none 0 0), (.slice none 0 0), (.slice none 0 0)]) 104 rfl Try.underlying29 info41 rfl (by decide) (by omega) v351 y350 y353 _ _ _ (fun k_ => (P0_ k_ ∨ w.heap.size ≤ k_) ∧ k_ ≠ gb324) (fun k_ => ((fun k_ => (P0_ k_ ∨ w.heap.size ≤ k_) ∧ k_ ≠ gb324)) k_ ∧ some k_ ≠ (v351 : Value).ownBlock) rfl rfl ?aO ?aR (fun _ hk => hk) ?aF ?aB ?aS ?aL ?_
           (case aR => exact (by skip; exact Kd.V_F (Kd.V_mono (ok' := (fun k_ => ((fun k_ => (P0_ k_ ∨ w.heap.size ≤ k_) ∧ k_ ≠ gb324)) k_ ∧ some k_ ≠ (v351 : Value).ownBlock)) (HO357.out) (fun k_ hk => ⟨⟨hk.1.1, hk.1.2⟩, hk.2⟩))))
           (case aB => exact (wmv HB.out))
           (case aF => exact (fun k_ hk => ⟨(.inr (Nat.le_trans (below_size (wmv HB.out)) hk)), Kd.freshB (bmv BK324.out) k_ hk⟩))
           (case aO => exact (Kd.N_mv HO352.out))
           (case aS => exact (below_size (wmv HB.out)))
           (case aL => have := LMc33.out; omega)
           intro v359 w44 ho hb hg hat
           rw [← Ny358.out] at ho
           have n0_ := am (Kd.V_afterv (ok := (fun k_ => (P0_ k_ ∨ w.heap.size ≤ k_) ∧ k_ ≠ gb324)) (Kd.V_mv HO_0.out) hg hat)
           have n1_ := am (blk_grown (bmv BK324.out) hg (Kd.N_away HO352.out (fun _ hk => hk.2)))
           have n2_ := am (Kd.V_afterv (ok := (fun k_ => (P0_ k_ ∨ w.heap.size ≤ k_) ∧ k_ ≠ gb324)) (Kd.V_mv HO357.out) hg hat)
           have n3_ := am (Kd.V_afterv (ok := (fun k_ => (P0_ k_ ∨ w.heap.size ≤ k_) ∧ k_ ≠ gb324)) (Kd.V_mv HO381.out) hg hat)
           have n4_ := am (hb)
           have n5_ := am (ho)
           clear HO_0 BK324 HO357 HO381 HB HO352
           revert n0_ n1_ n2_ n3_ n4_ n5_
           intro HO_0 BK324 HO357 HO381 HB HO360
           clear ho hb hg hat
           refine hK.out _ _ ⟨bc BK324 0, bc BK324 1, bc BK324 2, bc BK324 3, bc BK324 4⟩ (fun hHeld => ?_)
           clear hK K
           refine nm ?_
           refine one_ (i := 6) (N := some 58) (bb 14 3711) rfl rfl (one_of HT_.out (by kernel_rfl)) (by decide) (fun K hK => ?_)
           refine goes_ Try.func42 (by kernel_rfl) rfl #[.agg #[.slice A1_0 l1_0.length c1_0, .int .i64 a1_1, .slice A1_2 l1_2.length c1_2, .slice A1_3 l1_3.length c1_3, .slice A1_4 l1_4.length c1_4]] (by rfl) rfl rfl (by (try simp only [List.map_toArray, List.map_cons, List.map_nil]); first | done | rfl | (simp only [List.length_drop, List.length_take]; rfl)) ?_
           with_reducible refine (hypercuberef2_Copy.calls _ _ l1_0 a1_1 _ _ l1_2 _ _ l1_3 _ _ l1_4 t361 t364 t365 t368 t371 _ ?side1 ?side2 ?side3 ?side4 ?side5 ?side6 ?side7 ?side8 A34.out).mono ?_
           (case side1 => exact Kd.Cw HR1_0.out HB.out)
           (case side2 => exact HC1_0.out)
           (case side3 => exact Kd.Cw HR1_2.out HB.out)
           (case side4 => exact HC1_2.out)
           (case side5 => exact Kd.Cw HR1_3.out HB.out)
           (case side6 => exact HC1_3.out)
           (case side7 => exact Kd.Cw HR1_4.out HB.out)
           (case side8 => exact HC1_4.out)
           rintro e w45 ⟨v362, v366, v369, v372, rfl, ho0, ho1, ho2, ho3, hb⟩
           refine ⟨_, rfl, ?_⟩
           have n0_ := am (Kd.V_mono (Kd.V_told (Kd.V_told (Kd.V_told (Kd.V_told (Kd.V_old (Kd.V_mv HO_0.out) hb) (Kd.R_base ho0)) (Kd.R_base ho1)) (Kd.R_base ho2)) (Kd.R_base ho3)) (fun _ h_ => h_.1))
           have n1_ := am (Kd.V_mono (Kd.V_told (Kd.V_told (Kd.V_told (Kd.V_told (Kd.V_old (Kd.V_mv HO357.out) hb) (Kd.R_base ho0)) (Kd.R_base ho1)) (Kd.R_base ho2)) (Kd.R_base ho3)) (fun _ h_ => h_.1))
           have n2_ := am (Kd.V_mono (Kd.V_told (Kd.V_told (Kd.V_told (Kd.V_told (Kd.V_old (Kd.V_mv HO381.out) hb) (Kd.R_base ho0)) (Kd.R_base ho1)) (Kd.R_base ho2)) (Kd.R_base ho3)) (fun _ h_ => h_.1))
           have n3_ := am (Kd.N_mono (Kd.N_told (Kd.N_told (Kd.N_told (Kd.N_told (Kd.N_old (Kd.N_mv HO360.out) hb) (Kd.R_base ho0)) (Kd.R_base ho1)) (Kd.R_base ho2)) (Kd.R_base ho3)) (fun _ h_ => h_.1))
           have n4_ := am (Kd.R_lower (Kd.R_newM (M := fun k_ => (w.heap.size ≤ k_)) ho0 (below_size (wmv HB.out)) (fun k_ h_ => h_)) (below_size (wmv HB.out)))
           have n5_ := am (Kd.R_lower (Kd.R_newM (M := fun k_ => (w.heap.size ≤ k_)) ho1 (below_size (wmv HB.out)) (fun k_ h_ => h_)) (below_size (wmv HB.out)))
           have n6_ := am (Kd.R_lower (Kd.R_newM (M := fun k_ => (w.heap.size ≤ k_)) ho2 (below_size (wmv HB.out)) (fun k_ h_ => h_)) (below_size (wmv HB.out)))
           have n7_ := am (Kd.R_lower (Kd.R_newM (M := fun k_ => (w.heap.size ≤ k_)) ho3 (below_size (wmv HB.out)) (fun k_ h_ => h_)) (below_size (wmv HB.out)))
           have n8_ := am (blk_below (bmv BK324.out) hb)
           have n9_ := am (below_step (wmv HB.out) hb)
           clear HO_0 HO357 HO381 HO360 BK324 HB
           revert n0_ n1_ n2_ n3_ n4_ n5_ n6_ n7_ n8_ n9_
           intro HO_0 HO357 HO381 HO360 HO363 HO367 HO370 HO373 BK324 HB
           (try clear hb)
           (try clear hb2)
           (try clear hk)
           (try clear hi)
           (try clear ho0)
           (try clear ho1)
           (try clear ho2)
           (try clear ho3)
           obtain ⟨Ao47, co47, eo47⟩ := Kd.R_slice HO363.out
           (first | subst eo47 | (injection eo47 with f1_ f2_ f3_; have f4_ := f1_.symm; have f5_ := f3_.symm; clear f1_ f2_ f3_; subst f4_; subst f5_))
           obtain ⟨Ao48, co48, eo48⟩ := Kd.R_slice HO367.out
           (first | subst eo48 | (injection eo48 with f1_ f2_ f3_; have f4_ := f1_.symm; have f5_ := f3_.symm; clear f1_ f2_ f3_; subst f4_; subst f5_))
           obtain ⟨Ao49, co49, eo49⟩ := Kd.R_slice HO370.out
           (first | subst eo49 | (injection eo49 with f1_ f2_ f3_; have f4_ := f1_.symm; have f5_ := f3_.symm; clear f1_ f2_ f3_; subst f4_; subst f5_))
           obtain ⟨Ao50, co50, eo50⟩ := Kd.R_slice HO373.out
           (first | subst eo50 | (injection eo50 with f1_ f2_ f3_; have f4_ := f1_.symm; have f5_ := f3_.symm; clear f1_ f2_ f3_; subst f4_; subst f5_))
           refine hK.out _ _ ⟨bc BK324 0, bc BK324 1, bc BK324 2, bc BK324 3, bc BK324 4⟩ (fun hHeld => ?_)
           clear hK K
           refine nm ?_
           refine one_ (i := 7) (N := some 59) (bb 14 3839) rfl rfl (one_of HT_.out (by kernel_rfl)) (by decide) (fun K hK => ?_)
           refine value_ (w1 := ?_) (v := ?_) (by rfl) rfl ?_ ?_
           rotate_left 2
           ·go_simp
            constructor
            ·rfl
            ·rfl
           refine hK.out _ _ ⟨(blk_cell (blk_alloc BK324.out _) 0).trans rfl, (blk_cell (blk_alloc BK324.out _) 1).trans rfl, (blk_cell (blk_alloc BK324.out _) 2).trans rfl, (blk_cell (blk_alloc BK324.out _) 3).trans rfl, (blk_cell (blk_alloc BK324.out _) 4).trans rfl⟩ (fun hHeld => ?_)
           clear hK K
           refine nm ?_
           refine one_ (i := 8) (N := some 60) (bb 14 4095) rfl rfl (one_of HT_.out (by kernel_rfl)) (by decide) (fun K hK => ?_)
           refine Kd.N_append_step k41 (w0 := w) w.heap.size (by rfl) (.tmp 56) (.tmp 59) 29 41 (.agg #[(.slice none 0 0), (.int .i64 0), (.slice none 0 0), (.slice none 0 0), (.slice none 0 0)]) 104 rfl Try.underlying29 info41 rfl (by decide) (by omega) v359 y358 (⟨t361, t364, t365, t368, t371⟩ : S41) [.slice Ao47 t361.length co47, .int .i64 t364, .slice Ao48 t365.length co48, .slice Ao49 t368.length co49, .slice Ao50 t371.length co50] (fun k_ => (P0_ k_ ∨ w.heap.size ≤ k_) ∧ k_ ≠ gb324) (fun k_ => ((fun k_ => (P0_ k_ ∨ w.heap.size ≤ k_) ∧ k_ ≠ gb324)) k_ ∧ some k_ ≠ (v359 : Value).ownBlock) rfl rfl ?aP (fun _ hk => hk) ?aF ?aO ?aB ?aS ?aL ?_
           (case aP => exact (k41_mkF _ _ (⟨t361, t364, t365, t368, t371⟩ : S41) (Kd.R_reads' (Kd.R_mono (ok' := (fun k_ => ((fun k_ => (P0_ k_ ∨ w.heap.size ≤ k_) ∧ k_ ≠ gb324)) k_ ∧ some k_ ≠ (v359 : Value).ownBlock)) (Kd.R_types (Kd.R_apart' (HO363.out) (Kd.N_typed HO360.out) (by decide)) BK324.out (by decide)) (fun k_ hk => ⟨⟨(.inr (hk.1.1.1)), hk.2⟩, hk.1.2⟩))).2.1 (Kd.R_F (Kd.R_mono (ok' := (fun k_ => ((fun k_ => (P0_ k_ ∨ w.heap.size ≤ k_) ∧ k_ ≠ gb324)) k_ ∧ some k_ ≠ (v359 : Value).ownBlock)) (Kd.R_types (Kd.R_apart' (HO363.out) (Kd.N_typed HO360.out) (by decide)) BK324.out (by decide)) (fun k_ hk => ⟨⟨(.inr (hk.1.1.1)), hk.2⟩, hk.1.2⟩))) (Kd.R_reads' (Kd.R_mono (ok' := (fun k_ => ((fun k_ => (P0_ k_ ∨ w.heap.size ≤ k_) ∧ k_ ≠ gb324)) k_ ∧ some k_ ≠ (v359 : Value).ownBlock)) (Kd.R_types (Kd.R_apart' (HO367.out) (Kd.N_typed HO360.out) (by decide)) BK324.out (by decide)) (fun k_ hk => ⟨⟨(.inr (hk.1.1.1)), hk.2⟩, hk.1.2⟩))).2.1 (Kd.R_F (Kd.R_mono (ok' := (fun k_ => ((fun k_ => (P0_ k_ ∨ w.heap.size ≤ k_) ∧ k_ ≠ gb324)) k_ ∧ some k_ ≠ (v359 : Value).ownBlock)) (Kd.R_types (Kd.R_apart' (HO367.out) (Kd.N_typed HO360.out) (by decide)) BK324.out (by decide)) (fun k_ hk => ⟨⟨(.inr (hk.1.1.1)), hk.2⟩, hk.1.2⟩))) (Kd.R_reads' (Kd.R_mono (ok' := (fun k_ => ((fun k_ => (P0_ k_ ∨ w.heap.size ≤ k_) ∧ k_ ≠ gb324)) k_ ∧ some k_ ≠ (v359 : Value).ownBlock)) (Kd.R_types (Kd.R_apart' (HO370.out) (Kd.N_typed HO360.out) (by decide)) BK324.out (by decide)) (fun k_ hk => ⟨⟨(.inr (hk.1.1.1)), hk.2⟩, hk.1.2⟩))).2.1 (Kd.R_F (Kd.R_mono (ok' := (fun k_ => ((fun k_ => (P0_ k_ ∨ w.heap.size ≤ k_) ∧ k_ ≠ gb324)) k_ ∧ some k_ ≠ (v359 : Value).ownBlock)) (Kd.R_types (Kd.R_apart' (HO370.out) (Kd.N_typed HO360.out) (by decide)) BK324.out (by decide)) (fun k_ hk => ⟨⟨(.inr (hk.1.1.1)), hk.2⟩, hk.1.2⟩))) (Kd.R_reads' (Kd.R_mono (ok' := (fun k_ => ((fun k_ => (P0_ k_ ∨ w.heap.size ≤ k_) ∧ k_ ≠ gb324)) k_ ∧ some k_ ≠ (v359 : Value).ownBlock)) (Kd.R_types (Kd.R_apart' (HO373.out) (Kd.N_typed HO360.out) (by decide)) BK324.out (by decide)) (fun k_ hk => ⟨⟨(.inr (hk.1.1.1)), hk.2⟩, hk.1.2⟩))).2.1 (Kd.R_F (Kd.R_mono (ok' := (fun k_ => ((fun k_ => (P0_ k_ ∨ w.heap.size ≤ k_) ∧ k_ ≠ gb324)) k_ ∧ some k_ ≠ (v359 : Value).ownBlock)) (Kd.R_types (Kd.R_apart' (HO373.out) (Kd.N_typed HO360.out) (by decide)) BK324.out (by decide)) (fun k_ hk => ⟨⟨(.inr (hk.1.1.1)), hk.2⟩, hk.1.2⟩)))))
           (case aB => exact (wmv HB.out))
           (case aF => exact (fun k_ hk => ⟨(.inr (Nat.le_trans (below_size (wmv HB.out)) hk)), Kd.freshB (bmv BK324.out) k_ hk⟩))
           (case aO => exact (Kd.N_mv (Kd.N_mono HO360.out (fun _ hk => ⟨hk.1.1.1.1.1, hk.1.1.1.1.2⟩))))
           (case aS => exact (below_size (wmv HB.out)))
           (case aL => have := LMc35.out; omega)
           intro v375 w46 ho hb hg hat
           rw [← Ny374.out] at ho
           have n0_ := am (Kd.V_afterv (ok := (fun k_ => (P0_ k_ ∨ w.heap.size ≤ k_) ∧ some k_ ≠ (.slice Ao47 t361.length co47 : Value).ownBlock ∧ some k_ ≠ (.slice Ao48 t365.length co48 : Value).ownBlock ∧ some k_ ≠ (.slice Ao49 t368.length co49 : Value).ownBlock ∧ some k_ ≠ (.slice Ao50 t371.length co50 : Value).ownBlock ∧ k_ ≠ gb324)) (Kd.V_mv (Kd.V_mono HO_0.out (fun _ hk => ⟨⟨hk.1.1.1.1.1.1, ⟨hk.1.1.1.2, ⟨hk.1.1.2, ⟨hk.1.2, ⟨hk.2, hk.1.1.1.1.1.2⟩⟩⟩⟩⟩, hk.1.1.1.1.2⟩))) hg hat)
           have n1_ := am (blk_grown (bmv BK324.out) hg (Kd.N_away HO360.out (fun _ hk => hk.1.1.1.1.2)))
           have n2_ := am (Kd.V_afterv (ok := (fun k_ => (P0_ k_ ∨ w.heap.size ≤ k_) ∧ some k_ ≠ (.slice Ao47 t361.length co47 : Value).ownBlock ∧ some k_ ≠ (.slice Ao48 t365.length co48 : Value).ownBlock ∧ some k_ ≠ (.slice Ao49 t368.length co49 : Value).ownBlock ∧ some k_ ≠ (.slice Ao50 t371.length co50 : Value).ownBlock ∧ k_ ≠ gb324)) (Kd.V_mv (Kd.V_mono HO357.out (fun _ hk => ⟨⟨hk.1.1.1.1.1.1, ⟨hk.1.1.1.2, ⟨hk.1.1.2, ⟨hk.1.2, ⟨hk.2, hk.1.1.1.1.1.2⟩⟩⟩⟩⟩, hk.1.1.1.1.2⟩))) hg hat)
           have n3_ := am (Kd.V_afterv (ok := (fun k_ => (P0_ k_ ∨ w.heap.size ≤ k_) ∧ some k_ ≠ (.slice Ao47 t361.length co47 : Value).ownBlock ∧ some k_ ≠ (.slice Ao48 t365.length co48 : Value).ownBlock ∧ some k_ ≠ (.slice Ao49 t368.length co49 : Value).ownBlock ∧ some k_ ≠ (.slice Ao50 t371.length co50 : Value).ownBlock ∧ k_ ≠ gb324)) (Kd.V_mv (Kd.V_mono HO381.out (fun _ hk => ⟨⟨hk.1.1.1.1.1.1, ⟨hk.1.1.1.2, ⟨hk.1.1.2, ⟨hk.1.2, ⟨hk.2, hk.1.1.1.1.1.2⟩⟩⟩⟩⟩, hk.1.1.1.1.2⟩))) hg hat)
           have n4_ := am (hb)
           have n5_ := am (ho)
           clear HO_0 BK324 HO357 HO381 HB HO360 HO363 HO367 HO370 HO373
           revert n0_ n1_ n2_ n3_ n4_ n5_
           intro HO_0 BK324 HO357 HO381 HB HO376
           clear ho hb hg hat
           refine hK.out _ _ ⟨bc BK324 0, bc BK324 1, bc BK324 2, bc BK324 3, bc BK324 4⟩ (fun hHeld => ?_)
           clear hK K
           refine nm ?_
           refine one_ (i := 12) (N := some 64) (bb 14 8191) rfl rfl (one_of HT_.out (by kernel_rfl)) (by decide) (fun K hK => ?_)
           refine Kd.N_append_rows_step k41 (w0 := w) w.heap.size (by rfl) (.tmp 60) (.tmp 63) 29 41 (.agg #[(.slice none 0 0), (.int .i64 0), (.slice none 0 0), (.slice none 0 0), (.slice none 0 0)]) 104 rfl Try.underlying29 info41 rfl (by decide) (by omega) v375 y374 y377 _ _ _ (fun k_ => (P0_ k_ ∨ w.heap.size ≤ k_) ∧ k_ ≠ gb324) (fun k_ => ((fun k_ => (P0_ k_ ∨ w.heap.size ≤ k_) ∧ k_ ≠ gb324)) k_ ∧ some k_ ≠ (v375 : Value).ownBlock) rfl rfl ?aO ?aR (fun _ hk => hk) ?aF ?aB ?aS ?aL ?_
           (case aR => exact (by skip; exact Kd.V_F (Kd.V_mono (ok' := (fun k_ => ((fun k_ => (P0_ k_ ∨ w.heap.size ≤ k_) ∧ k_ ≠ gb324)) k_ ∧ some k_ ≠ (v375 : Value).ownBlock)) (HO381.out) (fun k_ hk => ⟨⟨hk.1.1, hk.1.2.2.2.2.2⟩, hk.2⟩))))
           (case aB => exact (wmv HB.out))
           (case aF => exact (fun k_ hk => ⟨(.inr (Nat.le_trans (below_size (wmv HB.out)) hk)), Kd.freshB (bmv BK324.out) k_ hk⟩))
           (case aO => exact (Kd.N_mv HO376.out))
           (case aS => exact (below_size (wmv HB.out)))
           (case aL => have := LMc38.out; omega)
           intro v383 w51 ho hb hg hat
           rw [← Ny382.out] at ho
           have n0_ := am (Kd.V_afterv (ok := (fun k_ => (P0_ k_ ∨ w.heap.size ≤ k_) ∧ k_ ≠ gb324)) (Kd.V_mv (Kd.V_mono HO_0.out (fun _ hk => ⟨⟨hk.1.1, hk.1.2.2.2.2.2⟩, hk.2⟩))) hg hat)
           have n1_ := am (blk_grown (bmv BK324.out) hg (Kd.N_away HO376.out (fun _ hk => hk.2)))
           have n2_ := am (Kd.V_afterv (ok := (fun k_ => (P0_ k_ ∨ w.heap.size ≤ k_) ∧ k_ ≠ gb324)) (Kd.V_mv (Kd.V_mono HO357.out (fun _ hk => ⟨⟨hk.1.1, hk.1.2.2.2.2.2⟩, hk.2⟩))) hg hat)
           have n3_ := am (Kd.V_afterv (ok := (fun k_ => (P0_ k_ ∨ w.heap.size ≤ k_) ∧ k_ ≠ gb324)) (Kd.V_mv (Kd.V_mono HO381.out (fun _ hk => ⟨⟨hk.1.1, hk.1.2.2.2.2.2⟩, hk.2⟩))) hg hat)
           have n4_ := am (hb)
           have n5_ := am (ho)
           clear HO_0 BK324 HO357 HO381 HB HO376
           revert n0_ n1_ n2_ n3_ n4_ n5_
           intro HO_0 BK324 HO357 HO381 HB HO384
           clear ho hb hg hat
           refine hK.out _ _ ⟨bc BK324 0, bc BK324 1, bc BK324 2, bc BK324 3, bc BK324 4⟩ (fun hHeld => ?_)
           clear hK K
           refine nm ?_
           refine pu (i := 13) (N := some 4) (bb 14 16383) HT_ ?_
           refine done_ (done_of HT_.out (by kernel_rfl)) ?_
           try go_wp2
           go_ret
           exact ⟨_, by first | rfl | (simp [errW_none, errW_some] <;> rfl) | (simp [*, errW_none, errW_some] <;> rfl), by (with_reducible repeat (first | apply Kd.N_alloc | apply Kd.N_drewN | apply Kd.N_drew)); exact Kd.N_mono HO384.out (fun _ hk => hk.1), by repeat (first | (with_reducible first | exact HB.out | apply below_alloc | apply pw_below_drewN | apply below_drew1 | refine below_set ?_ GE324.out) | exact HB.out)⟩
          ·rw [if_neg c38] at H
           exact absurd H (by simp)
         ·rw [if_neg c35] at H
          exact absurd H (by simp)
        ·rw [if_neg c33] at H
         exact absurd H (by simp)
       ·rw [if_neg c32] at H
        exact absurd H (by simp)
      ·rw [if_neg c31] at H
       exact absurd H (by simp)
def hypercuberef5_Runs.l0 : Nat → List (S41) → Int → List (List (S41)) → List (S41) → Int → Option ((List (List (S41))))
 | 0, _, _, _, _, _ => none
 | k + 1, x0, x1, x5, x6, x7 => if x7 < (x0.length : Int) then (if 0 ≤ x7 then ((hypercuberef5_has.f k x6 ((rd_T41 x0 x7).f0)).bind fun t389 => (if t389 = true then ((hypercuberef2_Put.f k x6 ((rd_T41 x0 x7).f0) ((rd_T41 x0 x7).f1) ((rd_T41 x0 x7).f2) ((rd_T41 x0 x7).f3) ((rd_T41 x0 x7).f4)).bind fun t391 => (hypercuberef5_Runs.l0 k x0 x1 x5 t391 (wrap64 (x7 + 1)))) else (if (x6.length : Int) = x1 then (if x5.length < 5864062014805 then ((hypercuberef2_Put.f k ([] : List (S41)) ((rd_T41 x0 x7).f0) ((rd_T41 x0 x7).f1) ((rd_T41 x0 x7).f2) ((rd_T41 x0 x7).f3) ((rd_T41 x0 x7).f4)).bind fun t398 => (hypercuberef5_Runs.l0 k x0 x1 (x5 ++ [x6]) t398 (wrap64 (x7 + 1)))) else (none)) else ((hypercuberef2_Put.f k x6 ((rd_T41 x0 x7).f0) ((rd_T41 x0 x7).f1) ((rd_T41 x0 x7).f2) ((rd_T41 x0 x7).f3) ((rd_T41 x0 x7).f4)).bind fun t402 => (hypercuberef5_Runs.l0 k x0 x1 x5 t402 (wrap64 (x7 + 1))))))) else (none)) else (if (x6.length : Int) > 0 then (if x5.length < 5864062014805 then (some (x5 ++ [x6])) else (none)) else (some x5))
def hypercuberef5_Runs.f (k : Nat) (l0 : List (S41)) (a1 : Int) : Option ((List (List (S41)))) := hypercuberef5_Runs.l0 k l0 a1 ([] : List (List (S41))) ([] : List (S41)) 0
set_option maxHeartbeats 8000000 in
set_option maxRecDepth 100000 in
theorem hypercuberef5_Runs.calls (k : Nat) (A0 : Option Addr) (c0 : Nat) (l0 : List (S41)) (a1 : Int) (r : List (List (S41))) (w : World) (hr0 : Kd.C k41 w A0 l0.length l0) (hc0 : l0.length ≤ c0) (h : hypercuberef5_Runs.f k l0 a1 = some r) :
  Calls Try.prog 19 #[.slice A0 l0.length c0, .int .i64 a1] w fun e w' => ∃ v0_ : Value, e = .returned (v0_) ∧ Kd.N (Kd.slice 41 k41) 29 w' w.heap.size (fun k_ => (w.heap.size ≤ k_)) v0_ r ∧ Below w.heap.size w w' := by
 have hu41 := Try.underlying41
 have HR0 := am hr0
 have HC0 := am hc0
 clear hr0 hc0
 have HB := am (Below.refl w.heap.size w)
 have H : (hypercuberef5_Runs.l0 k l0 a1 ([] : List (List (S41))) ([] : List (S41)) 0) = some r := h
 clear h
 have H' := am H
 clear H
 go_enter Try.func19, Try.ntmps19
 go_wp2
 go_loopg [5, 6, 7] k (fun kq v5 v6 v7 w' => ∃ (x5_1 : List (List (S41))) (x6_1 : List (S41)) (x7_1 : Int), v7 = .int .i64 x7_1 ∧ Aside0 (hypercuberef5_Runs.l0 kq l0 a1 x5_1 x6_1 x7_1 = some r) ∧ Aside0 (kq ≤ k) ∧ Aside0 (Kd.N (Kd.slice 41 k41) 29 w' w.heap.size (fun k_ => (w.heap.size ≤ k_) ∧ some k_ ≠ (v6 : Value).ownBlock) v5 x5_1) ∧ Aside0 (Kd.N k41 41 w' w.heap.size (fun k_ => (w.heap.size ≤ k_) ∧ some k_ ≠ (v5 : Value).ownBlock) v6 x6_1) ∧ Aside0 (Below w.heap.size w w'))
 case atStart => exact ⟨(([] : List (List (S41)))), (([] : List (S41))), (0), (by first | rfl | (simp; done) | (simp [*]; done)), H', ⟨Nat.le_refl _⟩, ⟨by first | exact Kd.R_nil _ _ _ _ _ | exact Kd.N_nil _ _ _ _ _ | exact Kd.V_nil _ _ _ _ _ | exact Kd.Q_nil _ _ _ _ _ | exact Kd.S_nil _ _ _ _ _⟩, ⟨by first | exact Kd.S_nil _ _ _ _ _ | exact Kd.N_nil _ _ _ _ _ | exact Kd.V_nil _ _ _ _ _ | exact Kd.Q_nil _ _ _ _ _ | exact Kd.R_nil _ _ _ _ _⟩, ⟨by repeat (first | (with_reducible first | exact HB.out | apply below_alloc | apply pw_below_drewN | apply below_drew1) | exact HB.out)⟩⟩
 case round =>
  clear H'
  try clear c1
  try clear p2
  obtain ⟨x5_1, x6_1, x7_1, rfl, HA, HK1, HO_5, HO_6, HB⟩ := hrel
  cases gk with
  | zero => exact absurd HA.out (by simp [hypercuberef5_Runs.l0])
  | succ k1 =>
   have H := HA.out
   clear HA
   simp only [hypercuberef5_Runs.l0] at H
   by_cases c3 : x7_1 < (l0.length : Int)
   ·rw [if_pos c3] at H
    have c3b0 : decide (x7_1 < (l0.length : Int)) = true := decide_eq_true c3
    clear c3
    by_cases c4 : 0 ≤ x7_1
    ·rw [if_pos c4] at H
     have c4b0 : decide (0 ≤ x7_1) = true := decide_eq_true c4
     clear c4
     replace H := Option.bind_eq_some_iff.mp H
     obtain ⟨t389, A50, H⟩ := H
     replace H : (if t389 = true then ((hypercuberef2_Put.f k1 x6_1 ((rd_T41 l0 x7_1).f0) ((rd_T41 l0 x7_1).f1) ((rd_T41 l0 x7_1).f2) ((rd_T41 l0 x7_1).f3) ((rd_T41 l0 x7_1).f4)).bind fun t391 => (hypercuberef5_Runs.l0 k1 l0 a1 x5_1 t391 (wrap64 (x7_1 + 1)))) else (if (x6_1.length : Int) = a1 then (if x5_1.length < 5864062014805 then ((hypercuberef2_Put.f k1 ([] : List (S41)) ((rd_T41 l0 x7_1).f0) ((rd_T41 l0 x7_1).f1) ((rd_T41 l0 x7_1).f2) ((rd_T41 l0 x7_1).f3) ((rd_T41 l0 x7_1).f4)).bind fun t398 => (hypercuberef5_Runs.l0 k1 l0 a1 (x5_1 ++ [x6_1]) t398 (wrap64 (x7_1 + 1)))) else (none)) else ((hypercuberef2_Put.f k1 x6_1 ((rd_T41 l0 x7_1).f0) ((rd_T41 l0 x7_1).f1) ((rd_T41 l0 x7_1).f2) ((rd_T41 l0 x7_1).f3) ((rd_T41 l0 x7_1).f4)).bind fun t402 => (hypercuberef5_Runs.l0 k1 l0 a1 x5_1 t402 (wrap64 (x7_1 + 1)))))) = some r := H
     have A5 := am A50
     clear A50
     by_cases c6 : t389 = true
     ·subst c6
      have H1 : ((hypercuberef2_Put.f k1 x6_1 ((rd_T41 l0 x7_1).f0) ((rd_T41 l0 x7_1).f1) ((rd_T41 l0 x7_1).f2) ((rd_T41 l0 x7_1).f3) ((rd_T41 l0 x7_1).f4)).bind fun t391 => (hypercuberef5_Runs.l0 k1 l0 a1 x5_1 t391 (wrap64 (x7_1 + 1)))) = some r := by rw [if_pos rfl] at H; exact H
      clear H
      have H := H1
      clear H1
      replace H := Option.bind_eq_some_iff.mp H
      obtain ⟨t391, A70, H⟩ := H
      replace H : (hypercuberef5_Runs.l0 k1 l0 a1 x5_1 t391 (wrap64 (x7_1 + 1))) = some r := H
      have A7 := am A70
      clear A70
      have H' := am H
      clear H
      have p388 : 0 ≤ (x7_1 : Int) := of_decide_eq_true (by first | (with_reducible assumption) | assumption)
      have q388 : x7_1 < (l0.length : Int) := of_decide_eq_true (by first | (with_reducible assumption) | assumption)
      obtain ⟨ad388, A388_0, c388_0, A388_2, c388_2, A388_3, c388_3, A388_4, c388_4, e388, hx388_0, hx388_1, hx388_2, hx388_3, hx388_4, hl388_0, hi388_0, hl388_2, hi388_2, hl388_3, hi388_3, hl388_4, hi388_4⟩ := at_T41 HR0.out x7_1 p388 q388
      cases e388
      replace hx388_0 := (HB.out.cell (World.block_lt_of_cell? w _ hx388_0)).trans hx388_0
      replace hx388_1 := (HB.out.cell (World.block_lt_of_cell? w _ hx388_1)).trans hx388_1
      replace hx388_2 := (HB.out.cell (World.block_lt_of_cell? w _ hx388_2)).trans hx388_2
      replace hx388_3 := (HB.out.cell (World.block_lt_of_cell? w _ hx388_3)).trans hx388_3
      replace hx388_4 := (HB.out.cell (World.block_lt_of_cell? w _ hx388_4)).trans hx388_4
      have HR388_0 := am hi388_0
      have HC388_0 := am hl388_0
      clear hi388_0 hl388_0
      have HR388_2 := am hi388_2
      have HC388_2 := am hl388_2
      clear hi388_2 hl388_2
      have HR388_3 := am hi388_3
      have HC388_3 := am hl388_3
      clear hi388_3 hl388_3
      have HR388_4 := am hi388_4
      have HC388_4 := am hl388_4
      clear hi388_4 hl388_4
      replace p388 := eq_true p388
      replace q388 := eq_true q388
      obtain ⟨Ao8, co8, eo8⟩ := Kd.N_slice HO_6.out
      subst eo8
      go_wp2_with (first | (go_at_call 31; (with_reducible refine (hypercuberef5_has.calls k1 _ _ x6_1 _ _ ((rd_T41 l0 x7_1).f0) true _ ?side1 ?side2 ?side3 ?side4 A5.out).mono ?_); (case side1 => repeat (first | exact (Kd.N_reads' HO_6.out).2.2 | (with_reducible refine Kd.C_alloc ?_ _) | (with_reducible refine Kd.C_drewN ?_ _) | (with_reducible refine Kd.C_drew ?_))); (case side2 => exact (Kd.N_reads' HO_6.out).2.1); (case side3 => repeat (first | exact (Kd.C_below HR388_0.out HB.out) | (with_reducible refine Kd.C_alloc ?_ _) | (with_reducible refine Kd.C_drewN ?_ _) | (with_reducible refine Kd.C_drew ?_))); (case side4 => exact HC388_0.out); rintro e w' ⟨rfl, ⟨nd, rfl⟩⟩; have p390 : 0 ≤ (x7_1 : Int) := of_decide_eq_true (by first | (with_reducible assumption) | assumption); have q390 : x7_1 < (l0.length : Int) := of_decide_eq_true (by first | (with_reducible assumption) | assumption); obtain ⟨ad390, A390_0, c390_0, A390_2, c390_2, A390_3, c390_3, A390_4, c390_4, e390, hx390_0, hx390_1, hx390_2, hx390_3, hx390_4, hl390_0, hi390_0, hl390_2, hi390_2, hl390_3, hi390_3, hl390_4, hi390_4⟩ := at_T41 HR0.out x7_1 p390 q390; obtain rfl : ad388 = ad390 := (by injection e390); replace hx390_0 := (HB.out.cell (World.block_lt_of_cell? w _ hx390_0)).trans hx390_0; replace hx390_1 := (HB.out.cell (World.block_lt_of_cell? w _ hx390_1)).trans hx390_1; replace hx390_2 := (HB.out.cell (World.block_lt_of_cell? w _ hx390_2)).trans hx390_2; replace hx390_3 := (HB.out.cell (World.block_lt_of_cell? w _ hx390_3)).trans hx390_3; replace hx390_4 := (HB.out.cell (World.block_lt_of_cell? w _ hx390_4)).trans hx390_4; have HR390_0 := am hi390_0; have HC390_0 := am hl390_0; clear hi390_0 hl390_0; have HR390_2 := am hi390_2; have HC390_2 := am hl390_2; clear hi390_2 hl390_2; have HR390_3 := am hi390_3; have HC390_3 := am hl390_3; clear hi390_3 hl390_3; have HR390_4 := am hi390_4; have HC390_4 := am hl390_4; clear hi390_4 hl390_4; replace p390 := eq_true p390; replace q390 := eq_true q390; have ea_ := Option.some.inj (hx388_0.symm.trans hx390_0); injection ea_ with ea_ en_ ec_; subst ea_; subst ec_; clear en_; have ea_ := Option.some.inj (hx388_2.symm.trans hx390_2); injection ea_ with ea_ en_ ec_; subst ea_; subst ec_; clear en_; have ea_ := Option.some.inj (hx388_3.symm.trans hx390_3); injection ea_ with ea_ en_ ec_; subst ea_; subst ec_; clear en_; have ea_ := Option.some.inj (hx388_4.symm.trans hx390_4); injection ea_ with ea_ en_ ec_; subst ea_; subst ec_; clear en_) | (go_at_call 32; (with_reducible refine (hypercuberef2_Put.calls k1 (fun k_ => ((w.heap.size ≤ k_) ∧ some k_ ≠ (u5 : Value).ownBlock)) _ _ x6_1 _ _ ((rd_T41 l0 x7_1).f0) ((rd_T41 l0 x7_1).f1) _ _ ((rd_T41 l0 x7_1).f2) _ _ ((rd_T41 l0 x7_1).f3) _ _ ((rd_T41 l0 x7_1).f4) t391 _ ?side1 ?side2 ?side3 ?side4 ?side5 ?side6 ?side7 ?side8 ?side9 A7.out).mono ?_); (case side1 => exact Kd.N_V (HO_6.out)); (case side2 => repeat (first | exact (Kd.C_below HR390_0.out (by repeat (first | (with_reducible first | exact HB.out | apply below_alloc | apply pw_below_drewN | apply below_drew1) | exact HB.out))) | (with_reducible refine Kd.C_alloc ?_ _) | (with_reducible refine Kd.C_drewN ?_ _) | (with_reducible refine Kd.C_drew ?_))); (case side3 => exact HC390_0.out); (case side4 => repeat (first | exact (Kd.C_below HR390_2.out (by repeat (first | (with_reducible first | exact HB.out | apply below_alloc | apply pw_below_drewN | apply below_drew1) | exact HB.out))) | (with_reducible refine Kd.C_alloc ?_ _) | (with_reducible refine Kd.C_drewN ?_ _) | (with_reducible refine Kd.C_drew ?_))); (case side5 => exact HC390_2.out); (case side6 => repeat (first | exact (Kd.C_below HR390_3.out (by repeat (first | (with_reducible first | exact HB.out | apply below_alloc | apply pw_below_drewN | apply below_drew1) | exact HB.out))) | (with_reducible refine Kd.C_alloc ?_ _) | (with_reducible refine Kd.C_drewN ?_ _) | (with_reducible refine Kd.C_drew ?_))); (case side7 => exact HC390_3.out); (case side8 => repeat (first | exact (Kd.C_below HR390_4.out (by repeat (first | (with_reducible first | exact HB.out | apply below_alloc | apply pw_below_drewN | apply below_drew1) | exact HB.out))) | (with_reducible refine Kd.C_alloc ?_ _) | (with_reducible refine Kd.C_drewN ?_ _) | (with_reducible refine Kd.C_drew ?_))); (case side9 => exact HC390_4.out); rintro e w9 ⟨v392, rfl, ho0, hb⟩; have n0_ := am (Kd.N_elder' (by (with_reducible repeat (first | apply Kd.N_alloc | apply Kd.N_drewN | apply Kd.N_drew)); exact HO_5.out) (by first | exact Kd.N_base ho0 | exact Kd.S_base ho0 | exact Kd.R_base ho0) hb); have n1_ := am (Kd.N_elder' (by (with_reducible repeat (first | apply Kd.N_alloc | apply Kd.N_drewN | apply Kd.N_drew)); exact HO_6.out) (by first | exact Kd.N_base ho0 | exact Kd.S_base ho0 | exact Kd.R_base ho0) hb); have n2_ := am (Kd.N_lower (Kd.N_mono (ok' := fun k_ => (w.heap.size ≤ k_) ∧ some k_ ≠ (u5 : Value).ownBlock) ho0 (fun k_ hk_ => ⟨Or.elim hk_ (fun hs_ => hs_.1) (fun hn_ => (Nat.le_trans (below_size (by repeat (first | (with_reducible first | exact HB.out | apply below_alloc | apply pw_below_drewN | apply below_drew1) | exact HB.out))) hn_)), Or.elim hk_ (fun hs_ => hs_.2) (fun hn_ => (Kd.fresh' (Kd.N_lt (by (with_reducible repeat (first | apply Kd.N_alloc | apply Kd.N_drewN | apply Kd.N_drew)); exact HO_5.out)) k_ hn_))⟩)) (below_size (by repeat (first | (with_reducible first | exact HB.out | apply below_alloc | apply pw_below_drewN | apply below_drew1) | exact HB.out)))); have n3_ := am (below_step (by repeat (first | (with_reducible first | exact HB.out | apply below_alloc | apply pw_below_drewN | apply below_drew1) | exact HB.out)) hb); clear HO_5 HO_6 HB; revert n0_ n1_ n2_ n3_; intro HO_5 HO_6 HO393 HB; (try clear hb); (try clear hb2); (try clear hk); (try clear hi); (try clear ho0)))
      go_roundg k1
      case measure => have := HK1.out; omega
      case rel => exact ⟨(x5_1), (t391), (wrap64 (x7_1 + 1)), (by first | rfl | (simp; done) | (simp [*]; done)), H', ⟨by have := HK1.out; omega⟩, ⟨by (with_reducible repeat (first | apply Kd.N_alloc | apply Kd.N_drewN | apply Kd.N_drew)); exact Kd.N_mono HO_5.out (fun _ hk => ⟨hk.1.1, hk.2⟩)⟩, ⟨by (with_reducible repeat (first | apply Kd.N_alloc | apply Kd.N_drewN | apply Kd.N_drew)); exact HO393.out⟩, ⟨by repeat (first | (with_reducible first | exact HB.out | apply below_alloc | apply pw_below_drewN | apply below_drew1) | exact HB.out)⟩⟩
     ·replace c6 := Bool.eq_false_iff.mpr c6
      subst c6
      have H1 : (if (x6_1.length : Int) = a1 then (if x5_1.length < 5864062014805 then ((hypercuberef2_Put.f k1 ([] : List (S41)) ((rd_T41 l0 x7_1).f0) ((rd_T41 l0 x7_1).f1) ((rd_T41 l0 x7_1).f2) ((rd_T41 l0 x7_1).f3) ((rd_T41 l0 x7_1).f4)).bind fun t398 => (hypercuberef5_Runs.l0 k1 l0 a1 (x5_1 ++ [x6_1]) t398 (wrap64 (x7_1 + 1)))) else (none)) else ((hypercuberef2_Put.f k1 x6_1 ((rd_T41 l0 x7_1).f0) ((rd_T41 l0 x7_1).f1) ((rd_T41 l0 x7_1).f2) ((rd_T41 l0 x7_1).f3) ((rd_T41 l0 x7_1).f4)).bind fun t402 => (hypercuberef5_Runs.l0 k1 l0 a1 x5_1 t402 (wrap64 (x7_1 + 1))))) = some r := by rw [if_neg (show ¬ (false = true) by decide)] at H; exact H
      clear H
      have H := H1
      clear H1
      by_cases c10 : (x6_1.length : Int) = a1
      ·rw [if_pos c10] at H
       have c10b0 : ((x6_1.length : Int) == a1) = true := beq_iff_eq.mpr c10
       have c10b1 : ((x6_1.length : Int) != a1) = false := bne_eq_false_iff_eq.mpr c10
       clear c10
       by_cases c11 : x5_1.length < 5864062014805
       ·rw [if_pos c11] at H
        have LMc11 := am c11
        clear c11
        obtain ⟨y394, hy394⟩ : ∃ y_ : List (List (S41)), y_ = (x5_1 ++ [x6_1]) := ⟨_, rfl⟩
        replace H : ((hypercuberef2_Put.f k1 ([] : List (S41)) ((rd_T41 l0 x7_1).f0) ((rd_T41 l0 x7_1).f1) ((rd_T41 l0 x7_1).f2) ((rd_T41 l0 x7_1).f3) ((rd_T41 l0 x7_1).f4)).bind fun t398 => (hypercuberef5_Runs.l0 k1 l0 a1 y394 t398 (wrap64 (x7_1 + 1)))) = some r := by rw [hy394]; with_reducible exact H
        have Ny394 := am hy394
        clear hy394
        replace H := Option.bind_eq_some_iff.mp H
        obtain ⟨t398, A120, H⟩ := H
        replace H : (hypercuberef5_Runs.l0 k1 l0 a1 y394 t398 (wrap64 (x7_1 + 1))) = some r := H
        have A12 := am A120
        clear A120
        have H' := am H
        clear H
        have p388 : 0 ≤ (x7_1 : Int) := of_decide_eq_true (by first | (with_reducible assumption) | assumption)
        have q388 : x7_1 < (l0.length : Int) := of_decide_eq_true (by first | (with_reducible assumption) | assumption)
        obtain ⟨ad388, A388_0, c388_0, A388_2, c388_2, A388_3, c388_3, A388_4, c388_4, e388, hx388_0, hx388_1, hx388_2, hx388_3, hx388_4, hl388_0, hi388_0, hl388_2, hi388_2, hl388_3, hi388_3, hl388_4, hi388_4⟩ := at_T41 HR0.out x7_1 p388 q388
        cases e388
        replace hx388_0 := (HB.out.cell (World.block_lt_of_cell? w _ hx388_0)).trans hx388_0
        replace hx388_1 := (HB.out.cell (World.block_lt_of_cell? w _ hx388_1)).trans hx388_1
        replace hx388_2 := (HB.out.cell (World.block_lt_of_cell? w _ hx388_2)).trans hx388_2
        replace hx388_3 := (HB.out.cell (World.block_lt_of_cell? w _ hx388_3)).trans hx388_3
        replace hx388_4 := (HB.out.cell (World.block_lt_of_cell? w _ hx388_4)).trans hx388_4
        have HR388_0 := am hi388_0
        have HC388_0 := am hl388_0
        clear hi388_0 hl388_0
        have HR388_2 := am hi388_2
        have HC388_2 := am hl388_2
        clear hi388_2 hl388_2
        have HR388_3 := am hi388_3
        have HC388_3 := am hl388_3
        clear hi388_3 hl388_3
        have HR388_4 := am hi388_4
        have HC388_4 := am hl388_4
        clear hi388_4 hl388_4
        replace p388 := eq_true p388
        replace q388 := eq_true q388
        obtain ⟨Ao13, co13, eo13⟩ := Kd.N_slice HO_6.out
        subst eo13
        go_wp2_with (first | (go_at_call 31; (with_reducible refine (hypercuberef5_has.calls k1 _ _ x6_1 _ _ ((rd_T41 l0 x7_1).f0) false _ ?side1 ?side2 ?side3 ?side4 A5.out).mono ?_); (case side1 => repeat (first | exact (Kd.N_reads' HO_6.out).2.2 | (with_reducible refine Kd.C_alloc ?_ _) | (with_reducible refine Kd.C_drewN ?_ _) | (with_reducible refine Kd.C_drew ?_))); (case side2 => exact (Kd.N_reads' HO_6.out).2.1); (case side3 => repeat (first | exact (Kd.C_below HR388_0.out HB.out) | (with_reducible refine Kd.C_alloc ?_ _) | (with_reducible refine Kd.C_drewN ?_ _) | (with_reducible refine Kd.C_drew ?_))); (case side4 => exact HC388_0.out); rintro e w' ⟨rfl, ⟨nd, rfl⟩⟩) | ((with_reducible refine gate_builtin (b := .append) (xs := #[.tmp 28, .tmp 30]) rfl ?_); (try (refine gate_guard (by rfl) ?_; dsimp only)); at_builtin; refine Kd.N_append (Kd.slice 41 k41) (w0 := w) w.heap.size rfl (.tmp 28) (.tmp 30) 34 29 (.slice none 0 0) 24 rfl Try.underlying34 info29 rfl (by decide) (by omega) u5 x5_1 x6_1 [.slice Ao13 x6_1.length co13] (fun k_ => (w.heap.size ≤ k_)) (fun k_ => ((fun k_ => (w.heap.size ≤ k_))) k_ ∧ some k_ ≠ (u5 : Value).ownBlock) rfl rfl ?aP (fun _ hk => hk) ?aF ?aO ?aB ?aS ?aL ?_; (case aP => exact (Kd.FK_slice_mk (Kd.N_reads' (Kd.N_mono (ok' := (fun k_ => ((fun k_ => (w.heap.size ≤ k_))) k_ ∧ some k_ ≠ (u5 : Value).ownBlock)) (HO_6.out) (fun k_ hk => ⟨hk.1, hk.2⟩))).2.1 (Kd.N_F (Kd.N_mono (ok' := (fun k_ => ((fun k_ => (w.heap.size ≤ k_))) k_ ∧ some k_ ≠ (u5 : Value).ownBlock)) (HO_6.out) (fun k_ hk => ⟨hk.1, hk.2⟩))))); (case aB => exact (by repeat (first | (with_reducible first | exact HB.out | apply below_alloc | apply pw_below_drewN | apply below_drew1) | exact HB.out))); (case aF => exact (fun k_ hk => (Nat.le_trans (below_size (by repeat (first | (with_reducible first | exact HB.out | apply below_alloc | apply pw_below_drewN | apply below_drew1) | exact HB.out))) hk))); (case aO => exact (by (with_reducible repeat (first | apply Kd.N_alloc | apply Kd.N_drewN | apply Kd.N_drew)); exact Kd.N_mono HO_5.out (fun _ hk => hk.1))); (case aS => exact (below_size (by repeat (first | (with_reducible first | exact HB.out | apply below_alloc | apply pw_below_drewN | apply below_drew1) | exact HB.out)))); (case aL => have := LMc11.out; omega); intro v395 w14 ho hb hg hat; rw [← Ny394.out] at ho; have n0_ := am (hb); have n1_ := am (ho); clear HB HO_5 HO_6; revert n0_ n1_; intro HB HO396; clear ho hb hg hat; have p397 : 0 ≤ (x7_1 : Int) := of_decide_eq_true (by first | (with_reducible assumption) | assumption); have q397 : x7_1 < (l0.length : Int) := of_decide_eq_true (by first | (with_reducible assumption) | assumption); obtain ⟨ad397, A397_0, c397_0, A397_2, c397_2, A397_3, c397_3, A397_4, c397_4, e397, hx397_0, hx397_1, hx397_2, hx397_3, hx397_4, hl397_0, hi397_0, hl397_2, hi397_2, hl397_3, hi397_3, hl397_4, hi397_4⟩ := at_T41 HR0.out x7_1 p397 q397; obtain rfl : ad388 = ad397 := (by injection e397); replace hx397_0 := (HB.out.cell (World.block_lt_of_cell? w _ hx397_0)).trans hx397_0; replace hx397_1 := (HB.out.cell (World.block_lt_of_cell? w _ hx397_1)).trans hx397_1; replace hx397_2 := (HB.out.cell (World.block_lt_of_cell? w _ hx397_2)).trans hx397_2; replace hx397_3 := (HB.out.cell (World.block_lt_of_cell? w _ hx397_3)).trans hx397_3; replace hx397_4 := (HB.out.cell (World.block_lt_of_cell? w _ hx397_4)).trans hx397_4; have HR397_0 := am hi397_0; have HC397_0 := am hl397_0; clear hi397_0 hl397_0; have HR397_2 := am hi397_2; have HC397_2 := am hl397_2; clear hi397_2 hl397_2; have HR397_3 := am hi397_3; have HC397_3 := am hl397_3; clear hi397_3 hl397_3; have HR397_4 := am hi397_4; have HC397_4 := am hl397_4; clear hi397_4 hl397_4; replace p397 := eq_true p397; replace q397 := eq_true q397) | (go_at_call 32; (refine (hypercuberef2_Put.calls k1 (fun k_ => False) _ _ ([] : List (S41)) _ _ ((rd_T41 l0 x7_1).f0) ((rd_T41 l0 x7_1).f1) _ _ ((rd_T41 l0 x7_1).f2) _ _ ((rd_T41 l0 x7_1).f3) _ _ ((rd_T41 l0 x7_1).f4) t398 _ ?side1 ?side2 ?side3 ?side4 ?side5 ?side6 ?side7 ?side8 ?side9 A12.out).mono ?_); (case side1 => exact Kd.V_nil _ _ _ _ _); (case side2 => repeat (first | exact (Kd.C_below HR397_0.out HB.out) | (with_reducible refine Kd.C_alloc ?_ _) | (with_reducible refine Kd.C_drewN ?_ _) | (with_reducible refine Kd.C_drew ?_))); (case side3 => exact HC397_0.out); (case side4 => repeat (first | exact (Kd.C_below HR397_2.out HB.out) | (with_reducible refine Kd.C_alloc ?_ _) | (with_reducible refine Kd.C_drewN ?_ _) | (with_reducible refine Kd.C_drew ?_))); (case side5 => exact HC397_2.out); (case side6 => repeat (first | exact (Kd.C_below HR397_3.out HB.out) | (with_reducible refine Kd.C_alloc ?_ _) | (with_reducible refine Kd.C_drewN ?_ _) | (with_reducible refine Kd.C_drew ?_))); (case side7 => exact HC397_3.out); (case side8 => repeat (first | exact (Kd.C_below HR397_4.out HB.out) | (with_reducible refine Kd.C_alloc ?_ _) | (with_reducible refine Kd.C_drewN ?_ _) | (with_reducible refine Kd.C_drew ?_))); (case side9 => exact HC397_4.out); rintro e w15 ⟨v399, rfl, ho0, hb⟩; have n0_ := am (Kd.N_elder' (by (with_reducible repeat (first | apply Kd.N_alloc | apply Kd.N_drewN | apply Kd.N_drew)); exact HO396.out) (by first | exact Kd.N_base ho0 | exact Kd.S_base ho0 | exact Kd.R_base ho0) hb); have n1_ := am (Kd.N_lower (Kd.N_mono (ok' := fun k_ => (w.heap.size ≤ k_) ∧ some k_ ≠ (v395 : Value).ownBlock) ho0 (fun k_ hk_ => ⟨Or.elim hk_ (fun hs_ => (hs_).elim) (fun hn_ => (Nat.le_trans (below_size (by repeat (first | (with_reducible first | exact HB.out | apply below_alloc | apply pw_below_drewN | apply below_drew1) | exact HB.out))) hn_)), Or.elim hk_ (fun hs_ => (hs_).elim) (fun hn_ => (Kd.fresh' (Kd.N_lt (by (with_reducible repeat (first | apply Kd.N_alloc | apply Kd.N_drewN | apply Kd.N_drew)); exact HO396.out)) k_ hn_))⟩)) (below_size (by repeat (first | (with_reducible first | exact HB.out | apply below_alloc | apply pw_below_drewN | apply below_drew1) | exact HB.out)))); have n2_ := am (below_step (by repeat (first | (with_reducible first | exact HB.out | apply below_alloc | apply pw_below_drewN | apply below_drew1) | exact HB.out)) hb); clear HO396 HB; revert n0_ n1_ n2_; intro HO396 HO400 HB; (try clear hb); (try clear hb2); (try clear hk); (try clear hi); (try clear ho0)))
        go_roundg k1
        case measure => have := HK1.out; omega
        case rel => exact ⟨(y394), (t398), (wrap64 (x7_1 + 1)), (by first | rfl | (simp; done) | (simp [*]; done)), H', ⟨by have := HK1.out; omega⟩, ⟨by (with_reducible repeat (first | apply Kd.N_alloc | apply Kd.N_drewN | apply Kd.N_drew)); exact HO396.out⟩, ⟨by (with_reducible repeat (first | apply Kd.N_alloc | apply Kd.N_drewN | apply Kd.N_drew)); exact HO400.out⟩, ⟨by repeat (first | (with_reducible first | exact HB.out | apply below_alloc | apply pw_below_drewN | apply below_drew1) | exact HB.out)⟩⟩
       ·rw [if_neg c11] at H
        exact absurd H (by simp)
      ·rw [if_neg c10] at H
       have c10b0 : ((x6_1.length : Int) == a1) = false := beq_eq_false_iff_ne.mpr c10
       have c10b1 : ((x6_1.length : Int) != a1) = true := bne_iff_ne.mpr c10
       replace H := Option.bind_eq_some_iff.mp H
       obtain ⟨t402, A160, H⟩ := H
       replace H : (hypercuberef5_Runs.l0 k1 l0 a1 x5_1 t402 (wrap64 (x7_1 + 1))) = some r := H
       have A16 := am A160
       clear A160
       have H' := am H
       clear H
       have p388 : 0 ≤ (x7_1 : Int) := of_decide_eq_true (by first | (with_reducible assumption) | assumption)
       have q388 : x7_1 < (l0.length : Int) := of_decide_eq_true (by first | (with_reducible assumption) | assumption)
       obtain ⟨ad388, A388_0, c388_0, A388_2, c388_2, A388_3, c388_3, A388_4, c388_4, e388, hx388_0, hx388_1, hx388_2, hx388_3, hx388_4, hl388_0, hi388_0, hl388_2, hi388_2, hl388_3, hi388_3, hl388_4, hi388_4⟩ := at_T41 HR0.out x7_1 p388 q388
       cases e388
       replace hx388_0 := (HB.out.cell (World.block_lt_of_cell? w _ hx388_0)).trans hx388_0
       replace hx388_1 := (HB.out.cell (World.block_lt_of_cell? w _ hx388_1)).trans hx388_1
       replace hx388_2 := (HB.out.cell (World.block_lt_of_cell? w _ hx388_2)).trans hx388_2
       replace hx388_3 := (HB.out.cell (World.block_lt_of_cell? w _ hx388_3)).trans hx388_3
       replace hx388_4 := (HB.out.cell (World.block_lt_of_cell? w _ hx388_4)).trans hx388_4
       have HR388_0 := am hi388_0
       have HC388_0 := am hl388_0
       clear hi388_0 hl388_0
       have HR388_2 := am hi388_2
       have HC388_2 := am hl388_2
       clear hi388_2 hl388_2
       have HR388_3 := am hi388_3
       have HC388_3 := am hl388_3
       clear hi388_3 hl388_3
       have HR388_4 := am hi388_4
       have HC388_4 := am hl388_4
       clear hi388_4 hl388_4
       replace p388 := eq_true p388
       replace q388 := eq_true q388
       obtain ⟨Ao17, co17, eo17⟩ := Kd.N_slice HO_6.out
       subst eo17
       go_wp2_with (first | (go_at_call 31; (with_reducible refine (hypercuberef5_has.calls k1 _ _ x6_1 _ _ ((rd_T41 l0 x7_1).f0) false _ ?side1 ?side2 ?side3 ?side4 A5.out).mono ?_); (case side1 => repeat (first | exact (Kd.N_reads' HO_6.out).2.2 | (with_reducible refine Kd.C_alloc ?_ _) | (with_reducible refine Kd.C_drewN ?_ _) | (with_reducible refine Kd.C_drew ?_))); (case side2 => exact (Kd.N_reads' HO_6.out).2.1); (case side3 => repeat (first | exact (Kd.C_below HR388_0.out HB.out) | (with_reducible refine Kd.C_alloc ?_ _) | (with_reducible refine Kd.C_drewN ?_ _) | (with_reducible refine Kd.C_drew ?_))); (case side4 => exact HC388_0.out); rintro e w' ⟨rfl, ⟨nd, rfl⟩⟩; have p401 : 0 ≤ (x7_1 : Int) := of_decide_eq_true (by first | (with_reducible assumption) | assumption); have q401 : x7_1 < (l0.length : Int) := of_decide_eq_true (by first | (with_reducible assumption) | assumption); obtain ⟨ad401, A401_0, c401_0, A401_2, c401_2, A401_3, c401_3, A401_4, c401_4, e401, hx401_0, hx401_1, hx401_2, hx401_3, hx401_4, hl401_0, hi401_0, hl401_2, hi401_2, hl401_3, hi401_3, hl401_4, hi401_4⟩ := at_T41 HR0.out x7_1 p401 q401; obtain rfl : ad388 = ad401 := (by injection e401); replace hx401_0 := (HB.out.cell (World.block_lt_of_cell? w _ hx401_0)).trans hx401_0; replace hx401_1 := (HB.out.cell (World.block_lt_of_cell? w _ hx401_1)).trans hx401_1; replace hx401_2 := (HB.out.cell (World.block_lt_of_cell? w _ hx401_2)).trans hx401_2; replace hx401_3 := (HB.out.cell (World.block_lt_of_cell? w _ hx401_3)).trans hx401_3; replace hx401_4 := (HB.out.cell (World.block_lt_of_cell? w _ hx401_4)).trans hx401_4; have HR401_0 := am hi401_0; have HC401_0 := am hl401_0; clear hi401_0 hl401_0; have HR401_2 := am hi401_2; have HC401_2 := am hl401_2; clear hi401_2 hl401_2; have HR401_3 := am hi401_3; have HC401_3 := am hl401_3; clear hi401_3 hl401_3; have HR401_4 := am hi401_4; have HC401_4 := am hl401_4; clear hi401_4 hl401_4; replace p401 := eq_true p401; replace q401 := eq_true q401; have ea_ := Option.some.inj (hx388_0.symm.trans hx401_0); injection ea_ with ea_ en_ ec_; subst ea_; subst ec_; clear en_; have ea_ := Option.some.inj (hx388_2.symm.trans hx401_2); injection ea_ with ea_ en_ ec_; subst ea_; subst ec_; clear en_; have ea_ := Option.some.inj (hx388_3.symm.trans hx401_3); injection ea_ with ea_ en_ ec_; subst ea_; subst ec_; clear en_; have ea_ := Option.some.inj (hx388_4.symm.trans hx401_4); injection ea_ with ea_ en_ ec_; subst ea_; subst ec_; clear en_) | (go_at_call 32; (with_reducible refine (hypercuberef2_Put.calls k1 (fun k_ => ((w.heap.size ≤ k_) ∧ some k_ ≠ (u5 : Value).ownBlock)) _ _ x6_1 _ _ ((rd_T41 l0 x7_1).f0) ((rd_T41 l0 x7_1).f1) _ _ ((rd_T41 l0 x7_1).f2) _ _ ((rd_T41 l0 x7_1).f3) _ _ ((rd_T41 l0 x7_1).f4) t402 _ ?side1 ?side2 ?side3 ?side4 ?side5 ?side6 ?side7 ?side8 ?side9 A16.out).mono ?_); (case side1 => exact Kd.N_V (HO_6.out)); (case side2 => repeat (first | exact (Kd.C_below HR401_0.out (by repeat (first | (with_reducible first | exact HB.out | apply below_alloc | apply pw_below_drewN | apply below_drew1) | exact HB.out))) | (with_reducible refine Kd.C_alloc ?_ _) | (with_reducible refine Kd.C_drewN ?_ _) | (with_reducible refine Kd.C_drew ?_))); (case side3 => exact HC401_0.out); (case side4 => repeat (first | exact (Kd.C_below HR401_2.out (by repeat (first | (with_reducible first | exact HB.out | apply below_alloc | apply pw_below_drewN | apply below_drew1) | exact HB.out))) | (with_reducible refine Kd.C_alloc ?_ _) | (with_reducible refine Kd.C_drewN ?_ _) | (with_reducible refine Kd.C_drew ?_))); (case side5 => exact HC401_2.out); (case side6 => repeat (first | exact (Kd.C_below HR401_3.out (by repeat (first | (with_reducible first | exact HB.out | apply below_alloc | apply pw_below_drewN | apply below_drew1) | exact HB.out))) | (with_reducible refine Kd.C_alloc ?_ _) | (with_reducible refine Kd.C_drewN ?_ _) | (with_reducible refine Kd.C_drew ?_))); (case side7 => exact HC401_3.out); (case side8 => repeat (first | exact (Kd.C_below HR401_4.out (by repeat (first | (with_reducible first | exact HB.out | apply below_alloc | apply pw_below_drewN | apply below_drew1) | exact HB.out))) | (with_reducible refine Kd.C_alloc ?_ _) | (with_reducible refine Kd.C_drewN ?_ _) | (with_reducible refine Kd.C_drew ?_))); (case side9 => exact HC401_4.out); rintro e w18 ⟨v403, rfl, ho0, hb⟩; have n0_ := am (Kd.N_elder' (by (with_reducible repeat (first | apply Kd.N_alloc | apply Kd.N_drewN | apply Kd.N_drew)); exact HO_5.out) (by first | exact Kd.N_base ho0 | exact Kd.S_base ho0 | exact Kd.R_base ho0) hb); have n1_ := am (Kd.N_elder' (by (with_reducible repeat (first | apply Kd.N_alloc | apply Kd.N_drewN | apply Kd.N_drew)); exact HO_6.out) (by first | exact Kd.N_base ho0 | exact Kd.S_base ho0 | exact Kd.R_base ho0) hb); have n2_ := am (Kd.N_lower (Kd.N_mono (ok' := fun k_ => (w.heap.size ≤ k_) ∧ some k_ ≠ (u5 : Value).ownBlock) ho0 (fun k_ hk_ => ⟨Or.elim hk_ (fun hs_ => hs_.1) (fun hn_ => (Nat.le_trans (below_size (by repeat (first | (with_reducible first | exact HB.out | apply below_alloc | apply pw_below_drewN | apply below_drew1) | exact HB.out))) hn_)), Or.elim hk_ (fun hs_ => hs_.2) (fun hn_ => (Kd.fresh' (Kd.N_lt (by (with_reducible repeat (first | apply Kd.N_alloc | apply Kd.N_drewN | apply Kd.N_drew)); exact HO_5.out)) k_ hn_))⟩)) (below_size (by repeat (first | (with_reducible first | exact HB.out | apply below_alloc | apply pw_below_drewN | apply below_drew1) | exact HB.out)))); have n3_ := am (below_step (by repeat (first | (with_reducible first | exact HB.out | apply below_alloc | apply pw_below_drewN | apply below_drew1) | exact HB.out)) hb); clear HO_5 HO_6 HB; revert n0_ n1_ n2_ n3_; intro HO_5 HO_6 HO404 HB; (try clear hb); (try clear hb2); (try clear hk); (try clear hi); (try clear ho0)))
       go_roundg k1
       case measure => have := HK1.out; omega
       case rel => exact ⟨(x5_1), (t402), (wrap64 (x7_1 + 1)), (by first | rfl | (simp; done) | (simp [*]; done)), H', ⟨by have := HK1.out; omega⟩, ⟨by (with_reducible repeat (first | apply Kd.N_alloc | apply Kd.N_drewN | apply Kd.N_drew)); exact Kd.N_mono HO_5.out (fun _ hk => ⟨hk.1.1, hk.2⟩)⟩, ⟨by (with_reducible repeat (first | apply Kd.N_alloc | apply Kd.N_drewN | apply Kd.N_drew)); exact HO404.out⟩, ⟨by repeat (first | (with_reducible first | exact HB.out | apply below_alloc | apply pw_below_drewN | apply below_drew1) | exact HB.out)⟩⟩
    ·rw [if_neg c4] at H
     exact absurd H (by simp)
   ·rw [if_neg c3] at H
    have c3b0 : decide (x7_1 < (l0.length : Int)) = false := decide_eq_false c3
    clear c3
    by_cases c19 : (x6_1.length : Int) > 0
    ·rw [if_pos c19] at H
     have c19b0 : decide (0 < (x6_1.length : Int)) = true := decide_eq_true c19
     have c19b1 : decide (0 < x6_1.length) = true := decide_eq_true (by omega)
     clear c19
     by_cases c20 : x5_1.length < 5864062014805
     ·rw [if_pos c20] at H
      have LMc20 := am c20
      clear c20
      obtain ⟨y385, hy385⟩ : ∃ y_ : List (List (S41)), y_ = (x5_1 ++ [x6_1]) := ⟨_, rfl⟩
      replace H : (some y385) = some r := by rw [hy385]; with_reducible exact H
      have Ny385 := am hy385
      clear hy385
      obtain rfl := Option.some.inj H
      obtain ⟨Ao21, co21, eo21⟩ := Kd.N_slice HO_6.out
      subst eo21
      go_wp2_with (first | ((with_reducible refine gate_builtin (b := .append) (xs := #[.tmp 41, .tmp 43]) rfl ?_); (try (refine gate_guard (by rfl) ?_; dsimp only)); at_builtin; refine Kd.N_append (Kd.slice 41 k41) (w0 := w) w.heap.size rfl (.tmp 41) (.tmp 43) 34 29 (.slice none 0 0) 24 rfl Try.underlying34 info29 rfl (by decide) (by omega) u5 x5_1 x6_1 [.slice Ao21 x6_1.length co21] (fun k_ => (w.heap.size ≤ k_)) (fun k_ => ((fun k_ => (w.heap.size ≤ k_))) k_ ∧ some k_ ≠ (u5 : Value).ownBlock) rfl rfl ?aP (fun _ hk => hk) ?aF ?aO ?aB ?aS ?aL ?_; (case aP => exact (Kd.FK_slice_mk (Kd.N_reads' (Kd.N_mono (ok' := (fun k_ => ((fun k_ => (w.heap.size ≤ k_))) k_ ∧ some k_ ≠ (u5 : Value).ownBlock)) (HO_6.out) (fun k_ hk => ⟨hk.1, hk.2⟩))).2.1 (Kd.N_F (Kd.N_mono (ok' := (fun k_ => ((fun k_ => (w.heap.size ≤ k_))) k_ ∧ some k_ ≠ (u5 : Value).ownBlock)) (HO_6.out) (fun k_ hk => ⟨hk.1, hk.2⟩))))); (case aB => exact (wmv HB.out)); (case aF => exact (fun k_ hk => (Nat.le_trans (below_size (wmv HB.out)) hk))); (case aO => exact (Kd.N_mv (Kd.N_mono HO_5.out (fun _ hk => hk.1)))); (case aS => exact (below_size (wmv HB.out))); (case aL => have := LMc20.out; omega); intro v386 w22 ho hb hg hat; rw [← Ny385.out] at ho; have n0_ := am (hb); have n1_ := am (ho); clear HB HO_5 HO_6; revert n0_ n1_; intro HB HO387; clear ho hb hg hat))
      go_ret
      exact ⟨_, by first | rfl | (simp [errW_none, errW_some] <;> rfl) | (simp [*, errW_none, errW_some] <;> rfl), by (with_reducible repeat (first | apply Kd.N_alloc | apply Kd.N_drewN | apply Kd.N_drew)); exact HO387.out, by repeat (first | (with_reducible first | exact HB.out | apply below_alloc | apply pw_below_drewN | apply below_drew1) | exact HB.out)⟩
     ·rw [if_neg c20] at H
      exact absurd H (by simp)
    ·rw [if_neg c19] at H
     have c19b0 : decide (0 < (x6_1.length : Int)) = false := decide_eq_false c19
     have c19b1 : decide (0 < x6_1.length) = false := decide_eq_false (by omega)
     clear c19
     obtain rfl := Option.some.inj H
     obtain ⟨Ao23, co23, eo23⟩ := Kd.N_slice HO_6.out
     subst eo23
     go_wp2
     go_ret
     exact ⟨_, by first | rfl | (simp [errW_none, errW_some] <;> rfl) | (simp [*, errW_none, errW_some] <;> rfl), by (with_reducible repeat (first | apply Kd.N_alloc | apply Kd.N_drewN | apply Kd.N_drew)); exact Kd.N_mono HO_5.out (fun _ hk => hk.1), by repeat (first | (with_reducible first | exact HB.out | apply below_alloc | apply pw_below_drewN | apply below_drew1) | exact HB.out)⟩
end Go.Proofs.Ytmnepkbmcnpjlaa.Q
namespace Go.Proofs.Ytmnepkbmcnpjlaa.Q
open Go.RowKit Go.Proofs.YtmnepkbmcnpjlaaW.PrintWords Go.Proofs.YtmnepkbmcnpjlaaW.PrintLast Go.Proofs.YtmnepkbmcnpjlaaW.PrintMore
set_option linter.unusedVariables false
set_option linter.unusedSimpArgs false
def Wr (W : World) (base : Nat) (p : Addr) : Prop := ∃ (b o t : Nat) (cells : Array Value), p = ⟨b, o, none⟩ ∧ base ≤ b ∧ W.heap[b]? = some (.cells cells t (0, 0)) ∧ ∃ z, W.cell? p = some (.int .i64 z)
structure Scr (base : Nat) (W0 W : World) : Prop where
 below : Below base W0 W
 shape : ∀ (k t : Nat) (cells : Array Value), W0.heap[k]? = some (Obj.cells cells t (0, 0)) → ∃ cells' : Array Value, W.heap[k]? = some (Obj.cells cells' t (0, 0)) ∧ cells'.size = cells.size
 rest : ∀ (p : Addr) (u : Value), W0.cell? p = some u → (∀ z, u ≠ .int .i64 z) → W.cell? p = some u
theorem Scr.refl (base : Nat) (W : World) : Scr base W W := ⟨Below.refl _ _, fun _ _ cells h => ⟨cells, h, rfl⟩, fun _ _ h _ => h⟩
theorem Scr.wr {base : Nat} {W0 W : World} {p : Addr} (h : Scr base W0 W) (hp : Wr W0 base p) : (∃ u, W.cell? p = some u) ∧ W.frozen? p = false := by
 obtain ⟨b, o, t, cells, rfl, hb, hh, z, hz⟩ := hp
 obtain ⟨cells', h1, h2⟩ := h.shape _ _ _ hh
 rw [blk_cell hh] at hz
 have hlt : o < cells.size := (Array.getElem?_eq_some_iff.1 hz).1
 refine ⟨⟨cells'[o]'(by omega), ?_⟩, blk_frozen h1 o⟩
 rw [blk_cell h1, Array.getElem?_eq_getElem (by omega)]
theorem Scr.set {base : Nat} {W0 W : World} {p : Addr} (h : Scr base W0 W) (hp : Wr W0 base p) (u : Value) : Scr base W0 (W.setCell p u) := by
 obtain ⟨b, o, t, cells, rfl, hb, hh, z, hz⟩ := hp
 refine ⟨h.below.setCell hb u, fun k t2 c2 hk => ?_, fun q v hq hv => ?_⟩
 ·obtain ⟨cells', h1, h2⟩ := h.shape _ _ _ hk
  by_cases e : k = b
  ·subst e
   exact ⟨_, blk_put h1 o u rfl, by rw [Array.size_setIfInBounds]; exact h2⟩
  ·exact ⟨cells', (Below.heap_setCell W _ u k e).trans h1, h2⟩
 ·refine (World.cell?_setCell_other W ⟨b, o, none⟩ q u (fun e => ?_)).trans (h.rest q v hq hv)
  rw [← e, hz] at hq
  exact hv z (Option.some.inj hq).symm
def IRow (W : World) (base : Nat) (v : Value) : Prop := ∃ A m c, v = .slice A m c ∧ m ≤ 9223372036854775807 ∧ (∀ j, j < m → ∃ b, A = some b ∧ Wr W base (b.add j))
theorem iRow_of {W : World} {base : Nat} {ok : Nat → Prop} {v : Value} {f : List Int} (h : (Kd.int .i64).R 3 W base ok v f) : IRow W base v := by
 obtain ⟨A, c, rfl⟩ := Kd.R_slice h
 have hr := (Kd.R_reads' h).2.2
 refine ⟨A, f.length, c, rfl, hr.2.1, fun j hj => ?_⟩
 obtain ⟨g, cap, e, h1, h2, cells, h3⟩ := Kd.R_form h (by omega)
 injection e with e1 e2 e3
 subst e1
 obtain ⟨ad, e4, h4⟩ := Kd.at_int hr (j : Int) (by omega) (by omega)
 cases e4
 rw [Int.toNat_natCast] at h4
 exact ⟨_, rfl, g, 0 + j, 3, cells, Addr.add_lit _ _ _, h1, h3, _, h4⟩
end Go.Proofs.Ytmnepkbmcnpjlaa.Q
