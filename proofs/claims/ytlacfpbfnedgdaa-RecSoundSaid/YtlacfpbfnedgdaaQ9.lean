-- written by wip/tools/xprint.py (a program of this session, over the kit's printer)
import Derived.Test.YtlacfpbfnedgdaaQ0
import Derived.Test.YtlacfpbfnedgdaaQ8
import Derived.Test.YtlacfpbfnedgdaaXSmallLit
namespace Go.Proofs.Ytlacfpbfnedgdaa.Q
open Go.RowKit Go.Proofs.YtlacfpbfnedgdaaW.PrintWords Go.Proofs.YtlacfpbfnedgdaaW.PrintLast Go.Proofs.YtlacfpbfnedgdaaW.PrintMore
attribute [local go_sem] max2_int min2_int max_two min_two max_three min_three max_four min_four   -- for this text's walks alone
set_option linter.unusedVariables false
set_option linter.unusedSimpArgs false

/-! ### hypercuberef1_Encode: function 24 -/
mutual
def hypercuberef1_Encode.l0 : Nat → List (S33) → List Int → Int → List Int → Int → Option (List Int)
 | 0, _, _, _, _, _ => none
 | k + 1, x1, x5, x6, x357000, x357001 => if x6 < (x357000.length : Int) then (if 0 ≤ x6 then (if x5.length < 140737488355328 then (hypercuberef1_Encode.l0 k x1 (x5 ++ [(rd x357000 x6) % 256]) (wrap64 (x6 + 1)) x357000 x357001) else (none)) else (none)) else (if x5.length < 140737488355328 then ((some (x5 ++ [(x357001) % 256] : List Int)).bind fun y367 => ((hypercuberef1_Two.f (x1.length : Int)).bind fun t370 => (if y367.length + t370.length < 140737488355328 then (hypercuberef1_Encode.l1 k x1 (y367 ++ t370) 0) else (none)))) else (none))
def hypercuberef1_Encode.l1 : Nat → List (S33) → List Int → Int → Option (List Int)
 | 0, _, _, _ => none
 | k + 1, x1, x5, x7 => if x7 < (x1.length : Int) then (hypercuberef1_Encode.l2 k x1 x5 x7 0) else (some x5)
def hypercuberef1_Encode.l2 : Nat → List (S33) → List Int → Int → Int → Option (List Int)
 | 0, _, _, _, _ => none
 | k + 1, x1, x5, x7, x8 => if 0 ≤ x7 then (if x7 < (x1.length : Int) then (if x8 < (((rd_T33 x1 x7).f0).length : Int) then (if 0 ≤ x8 then (if x5.length < 140737488355328 then (hypercuberef1_Encode.l2 k x1 (x5 ++ [(rd ((rd_T33 x1 x7).f0) x8) % 256]) x7 (wrap64 (x8 + 1))) else (none)) else (none)) else (hypercuberef1_Encode.l3 k x1 x5 x7 0)) else (none)) else (none)
def hypercuberef1_Encode.l3 : Nat → List (S33) → List Int → Int → Int → Option (List Int)
 | 0, _, _, _, _ => none
 | k + 1, x1, x5, x7, x9 => if 0 ≤ x7 then (if x7 < (x1.length : Int) then (if x9 < (((rd_T33 x1 x7).f1).length : Int) then (if 0 ≤ x9 then ((hypercuberef1_Eight.f k (rd ((rd_T33 x1 x7).f1) x9)).bind fun t385 => (if x5.length + t385.length < 140737488355328 then (hypercuberef1_Encode.l3 k x1 (x5 ++ t385) x7 (wrap64 (x9 + 1))) else (none))) else (none)) else (hypercuberef1_Encode.l1 k x1 x5 (wrap64 (x7 + 1)))) else (none)) else (none)
end
def hypercuberef1_Encode.f (k : Nat) (l0_0 : List Int) (a0_1 : Int) (l1 : List (S33)) : Option (List Int) := (some (([67, 85, 66, 49] : List Int) : List Int)).bind fun y357 => (if y357.length < 140737488355328 then (hypercuberef1_Encode.l0 k l1 (y357 ++ [((l0_0.length : Int)) % 256]) 0 l0_0 a0_1) else (none))
theorem hypercuberef1_Encode.mono_l : ∀ k, (∀ y0 y1 y2 y3 y4, LeO (hypercuberef1_Encode.l0 k y0 y1 y2 y3 y4) (hypercuberef1_Encode.l0 (k + 1) y0 y1 y2 y3 y4)) ∧ (∀ y0 y1 y2, LeO (hypercuberef1_Encode.l1 k y0 y1 y2) (hypercuberef1_Encode.l1 (k + 1) y0 y1 y2)) ∧ (∀ y0 y1 y2 y3, LeO (hypercuberef1_Encode.l2 k y0 y1 y2 y3) (hypercuberef1_Encode.l2 (k + 1) y0 y1 y2 y3)) ∧ (∀ y0 y1 y2 y3, LeO (hypercuberef1_Encode.l3 k y0 y1 y2 y3) (hypercuberef1_Encode.l3 (k + 1) y0 y1 y2 y3))
 | 0 => ⟨fun _ _ _ _ _ r h => by simp [hypercuberef1_Encode.l0] at h, fun _ _ _ r h => by simp [hypercuberef1_Encode.l1] at h, fun _ _ _ _ r h => by simp [hypercuberef1_Encode.l2] at h, fun _ _ _ _ r h => by simp [hypercuberef1_Encode.l3] at h⟩
 | k + 1 => by
  obtain ⟨ih0, ih1, ih2, ih3⟩ := hypercuberef1_Encode.mono_l k
  refine ⟨?_, ?_, ?_, ?_⟩
  ·intro y0 y1 y2 y3 y4
   unfold hypercuberef1_Encode.l0
   repeat' first
   | (with_reducible exact ih0 _ _ _ _ _)
   | (with_reducible exact ih1 _ _ _)
   | (with_reducible exact ih2 _ _ _ _)
   | (with_reducible exact ih3 _ _ _ _)
   | (with_reducible exact hypercuberef1_Eight.mono _ _)
   | (with_reducible exact LeO.refl _)
   | (with_reducible exact LeO.none _)
   | (with_reducible refine LeO.ite ?_ ?_)
   | (with_reducible refine LeO.bind ?_ (fun _ => ?_))
   | exact ih0 _ _ _ _ _
   | exact ih1 _ _ _
   | exact ih2 _ _ _ _
   | exact ih3 _ _ _ _
   | exact hypercuberef1_Eight.mono _ _
   | exact LeO.none _
   | refine LeO.ite ?_ ?_
   | refine LeO.bind ?_ (fun _ => ?_)
  ·intro y0 y1 y2
   unfold hypercuberef1_Encode.l1
   repeat' first
   | (with_reducible exact ih0 _ _ _ _ _)
   | (with_reducible exact ih1 _ _ _)
   | (with_reducible exact ih2 _ _ _ _)
   | (with_reducible exact ih3 _ _ _ _)
   | (with_reducible exact hypercuberef1_Eight.mono _ _)
   | (with_reducible exact LeO.refl _)
   | (with_reducible exact LeO.none _)
   | (with_reducible refine LeO.ite ?_ ?_)
   | (with_reducible refine LeO.bind ?_ (fun _ => ?_))
   | exact ih0 _ _ _ _ _
   | exact ih1 _ _ _
   | exact ih2 _ _ _ _
   | exact ih3 _ _ _ _
   | exact hypercuberef1_Eight.mono _ _
   | exact LeO.none _
   | refine LeO.ite ?_ ?_
   | refine LeO.bind ?_ (fun _ => ?_)
  ·intro y0 y1 y2 y3
   unfold hypercuberef1_Encode.l2
   repeat' first
   | (with_reducible exact ih0 _ _ _ _ _)
   | (with_reducible exact ih1 _ _ _)
   | (with_reducible exact ih2 _ _ _ _)
   | (with_reducible exact ih3 _ _ _ _)
   | (with_reducible exact hypercuberef1_Eight.mono _ _)
   | (with_reducible exact LeO.refl _)
   | (with_reducible exact LeO.none _)
   | (with_reducible refine LeO.ite ?_ ?_)
   | (with_reducible refine LeO.bind ?_ (fun _ => ?_))
   | exact ih0 _ _ _ _ _
   | exact ih1 _ _ _
   | exact ih2 _ _ _ _
   | exact ih3 _ _ _ _
   | exact hypercuberef1_Eight.mono _ _
   | exact LeO.none _
   | refine LeO.ite ?_ ?_
   | refine LeO.bind ?_ (fun _ => ?_)
  ·intro y0 y1 y2 y3
   unfold hypercuberef1_Encode.l3
   repeat' first
   | (with_reducible exact ih0 _ _ _ _ _)
   | (with_reducible exact ih1 _ _ _)
   | (with_reducible exact ih2 _ _ _ _)
   | (with_reducible exact ih3 _ _ _ _)
   | (with_reducible exact hypercuberef1_Eight.mono _ _)
   | (with_reducible exact LeO.refl _)
   | (with_reducible exact LeO.none _)
   | (with_reducible refine LeO.ite ?_ ?_)
   | (with_reducible refine LeO.bind ?_ (fun _ => ?_))
   | exact ih0 _ _ _ _ _
   | exact ih1 _ _ _
   | exact ih2 _ _ _ _
   | exact ih3 _ _ _ _
   | exact hypercuberef1_Eight.mono _ _
   | exact LeO.none _
   | refine LeO.ite ?_ ?_
   | refine LeO.bind ?_ (fun _ => ?_)
theorem hypercuberef1_Encode.mono : ∀ a0 a1 a2 k, LeO (hypercuberef1_Encode.f k a0 a1 a2) (hypercuberef1_Encode.f (k + 1) a0 a1 a2) := by
 intro a0 a1 a2 k
 obtain ⟨ih0, ih1, ih2, ih3⟩ := hypercuberef1_Encode.mono_l k
 unfold hypercuberef1_Encode.f
 repeat' first
   | (with_reducible exact ih0 _ _ _ _ _)
   | (with_reducible exact ih1 _ _ _)
   | (with_reducible exact ih2 _ _ _ _)
   | (with_reducible exact ih3 _ _ _ _)
   | (with_reducible exact hypercuberef1_Eight.mono _ _)
   | (with_reducible exact LeO.refl _)
   | (with_reducible exact LeO.none _)
   | (with_reducible refine LeO.ite ?_ ?_)
   | (with_reducible refine LeO.bind ?_ (fun _ => ?_))
   | exact ih0 _ _ _ _ _
   | exact ih1 _ _ _
   | exact ih2 _ _ _ _
   | exact ih3 _ _ _ _
   | exact hypercuberef1_Eight.mono _ _
   | exact LeO.none _
   | refine LeO.ite ?_ ?_
   | refine LeO.bind ?_ (fun _ => ?_)
set_option maxHeartbeats 8000000 in
set_option maxRecDepth 100000 in
theorem hypercuberef1_Encode.calls (k : Nat) (A0_0 : Option Addr) (c0_0 : Nat) (l0_0 : List Int) (a0_1 : Int) (A1 : Option Addr) (c1 : Nat) (l1 : List (S33)) (r : List Int) (w : World) (hr0_0 : Kd.C (Kd.int .i64) w A0_0 l0_0.length l0_0) (hc0_0 : l0_0.length ≤ c0_0) (hr1 : Kd.C k33 w A1 l1.length l1) (hc1 : l1.length ≤ c1) (h : hypercuberef1_Encode.f k l0_0 a0_1 l1 = some r) :
  Calls Try.prog 24 #[.agg #[.slice A0_0 l0_0.length c0_0, .int .i64 a0_1], .slice A1 l1.length c1] w fun e w' => ∃ v0_ : Value, e = .returned (v0_) ∧ Kd.R (Kd.int .u8) 5 w' w.heap.size (fun _ => True) v0_ r ∧ Below w.heap.size w w' := by
 have hu24 := Try.underlying24
 have HR0_0 := Aside0.mk hr0_0
 have HC0_0 := Aside0.mk hc0_0
 clear hr0_0 hc0_0
 have HR1 := Aside0.mk hr1
 have HC1 := Aside0.mk hc1
 clear hr1 hc1
 have HB := Aside0.mk (Below.refl w.heap.size w)
 have H : ((some (([67, 85, 66, 49] : List Int) : List Int)).bind fun y357 => (if y357.length < 140737488355328 then (hypercuberef1_Encode.l0 k l1 (y357 ++ [((l0_0.length : Int)) % 256]) 0 l0_0 a0_1) else (none))) = some r := h
 clear h
 obtain ⟨y357, hy357⟩ : ∃ y_ : List Int, y_ = (([67, 85, 66, 49] : List Int)) := ⟨_, rfl⟩
 replace H : (if y357.length < 140737488355328 then (hypercuberef1_Encode.l0 k l1 (y357 ++ [((l0_0.length : Int)) % 256]) 0 l0_0 a0_1) else (none)) = some r := by first | (rw [hy357]; with_reducible exact H) | (have H2_ := (Option.bind_some _ _).symm.trans H; rw [hy357]; with_reducible exact H2_) | (have H2_ := (Option.bind_some _ _).symm.trans H; with_reducible exact H2_) | with_reducible exact H | (rw [hy357]; exact H) | exact H
 have Ny357 := Aside0.mk hy357
 clear hy357
 by_cases c3 : y357.length < 140737488355328
 ·rw [if_pos c3] at H
  have LMc3 := Aside0.mk c3
  clear c3
  obtain ⟨y360, hy360⟩ : ∃ y_ : List Int, y_ = (y357 ++ [((l0_0.length : Int)) % 256]) := ⟨_, rfl⟩
  replace H : (hypercuberef1_Encode.l0 k l1 y360 0 l0_0 a0_1) = some r := by first | (rw [hy360]; with_reducible exact H) | (have H2_ := (Option.bind_some _ _).symm.trans H; rw [hy360]; with_reducible exact H2_) | (have H2_ := (Option.bind_some _ _).symm.trans H; with_reducible exact H2_) | with_reducible exact H | (rw [hy360]; exact H) | exact H
  have Ny360 := Aside0.mk hy360
  clear hy360
  have H' := Aside0.mk H
  clear H
  have kc := fun (W_ : World) (C_ : Array Value) (n_ c_ : Nat) => Go.Lib.run_convert_bytes_const (P := Try.prog) W_ 36 5 C_ n_ c_ Try.underlying36 Try.underlying5
  go_enter Try.func24, Try.ntmps24
  go_wp2_with (first | ((with_reducible refine gate_dst (N := 2) rfl ?_); refine box_event ?hg (N := 2) ?hd (cs := #[.slice A0_0 l0_0.length c0_0, .int .i64 a0_1]) (t := 24) ?hr ?_; (case hd => rfl); (case hg => rfl); (case hr => first | (go_simp; done) | (go_simp; rfl)); intro gb356 hg w4 hbox hb; have n0_ := Aside0.mk (below_step (by repeat (first | (with_reducible first | exact HB.out | apply below_alloc | apply pw_below_drewN | apply below_drew1) | exact HB.out)) hb); have n1_ := Aside0.mk (hbox); have n2_ := Aside0.mk ((by rw [hg]; exact (below_size (by repeat (first | (with_reducible first | exact HB.out | apply below_alloc | apply pw_below_drewN | apply below_drew1) | exact HB.out))) : w.heap.size ≤ gb356)); have n3_ := Aside0.mk ((by rw [hg]; exact (below_size (by repeat (first | (with_reducible first | exact HB.out | apply below_alloc | apply pw_below_drewN | apply below_drew1) | exact HB.out))) : w.heap.size ≤ gb356)); clear HB; have HB := n0_; have BK356 := n1_; have GW356 := n2_; have GE356 := n3_; clear n0_ n1_ n2_ n3_; clear hb hbox hg; have hcz7_0 : w4.cell? ⟨gb356, 0, none⟩ = some (.slice A0_0 l0_0.length c0_0) := (blk_cell BK356.out 0).trans rfl; have hcz7_1 : w4.cell? ⟨gb356, 1, none⟩ = some (.int .i64 a0_1) := (blk_cell BK356.out 1).trans rfl; have hfz7_0 := blk_frozen BK356.out 0; have hfz7_1 := blk_frozen BK356.out 1; have hca0_ : ∀ o_ : Obj, (w4.alloc o_).cell? ⟨gb356, 0, none⟩ = some (.slice A0_0 l0_0.length c0_0) := fun o_ => (blk_cell (blk_alloc BK356.out o_) 0).trans rfl; have hca1_ : ∀ o_ : Obj, (w4.alloc o_).cell? ⟨gb356, 1, none⟩ = some (.int .i64 a0_1) := fun o_ => (blk_cell (blk_alloc BK356.out o_) 1).trans rfl) | ((with_reducible refine gate_builtin (b := .append) (xs := #[.tmp 11, .tmp 16]) rfl ?_); at_builtin; refine kd_append_full (enc := Value.int .u8) (h1 := fun _ => rfl) (w0 := w) (base := w.heap.size) rfl (.tmp 11) (.tmp 16) 36 rfl 5 (.int .u8 0) 1 Try.underlying36 info5 rfl (some ⟨w4.heap.size, 0, none⟩) 4 [67, 85, 66, 49] (((l0_0.length : Int)) % 256) rfl (by rw [World.size_alloc]; rfl) (show Kd.C (Kd.int .u8) (w4.alloc (.cells #[.int .u8 67, .int .u8 85, .int .u8 66, .int .u8 49] 5 (4, 4 + 1))) (some ⟨w4.heap.size, 0, none⟩) 4 [67, 85, 66, 49] from lit_mark w4 [67, 85, 66, 49] 5 (4, 4 + 1) (by simp)) (by decide) (by decide) (by decide) (by repeat (first | (with_reducible first | exact HB.out | apply below_alloc | apply pw_below_drewN | apply below_drew1 | refine below_set ?_ GE356.out) | exact HB.out)) (below_size (by repeat (first | (with_reducible first | exact HB.out | apply below_alloc | apply pw_below_drewN | apply below_drew1 | refine below_set ?_ GE356.out) | exact HB.out))) ?_; intro v361 w8 ho hb hbb; have hg := grown_of_below hbb none; replace ho := Kd.R_mono (ok' := fun _ => True) ho (fun _ _ => trivial); (try rw [Ny357.out] at Ny360); have hat := hbb; rw [← Ny360.out] at ho; have n0_ := Aside0.mk (blk_grown (g := gb356) (o := .cells #[.slice A0_0 l0_0.length c0_0, .int .i64 a0_1] 24 (0, 0)) (by (with_reducible repeat (first | refine blk_drewN ?_ _ | refine blk_drew ?_ | refine blk_alloc ?_ _)); exact BK356.out) hg (by simp)); have n1_ := Aside0.mk (hb); have n2_ := Aside0.mk (ho); clear BK356; clear HB; have BK356 := n0_; have HB := n1_; have HO362 := n2_; clear n0_ n1_ n2_; clear ho hb hg hat))
  go_loopg [5, 6] k (fun kq v5 v6 w' => ∃ (x5_1 : List Int) (x6_1 : Int), v6 = .int .i64 x6_1 ∧ Aside0 (hypercuberef1_Encode.l0 kq l1 x5_1 x6_1 l0_0 a0_1 = some r) ∧ Aside0 (kq ≤ k) ∧ Aside0 (Kd.R (Kd.int .u8) 5 w' w.heap.size (fun _ => True) v5 x5_1) ∧ Aside0 (w'.heap[gb356]? = some (.cells #[(.slice A0_0 l0_0.length c0_0), .int .i64 a0_1] 24 (0, 0))) ∧ Aside0 (Below w.heap.size w w'))
  case atStart => exact ⟨(y360), (0), (by first | rfl | (simp; done) | (simp [*]; done)), H', ⟨Nat.le_refl _⟩, ⟨by (with_reducible repeat (first | apply Kd.R_alloc | apply Kd.R_drewN | apply Kd.R_drew)); exact HO362.out⟩, ⟨by (with_reducible repeat (first | refine blk_drewN ?_ _ | refine blk_drew ?_ | refine blk_alloc ?_ _)); exact BK356.out⟩, ⟨by repeat (first | (with_reducible first | exact HB.out | apply below_alloc | apply pw_below_drewN | apply below_drew1 | refine below_set ?_ GE356.out) | exact HB.out)⟩⟩
  case round =>
   clear H'
   try clear c1
   try clear c2
   try clear p2
   try clear c3
   try clear hcz7_0
   try clear hcz7_1
   try clear hfz7_0
   try clear hfz7_1
   obtain ⟨x5_1, x6_1, rfl, HA, HK1, HO_5, BK356, HB⟩ := hrel
   cases gk with
   | zero => exact absurd HA.out (by simp [hypercuberef1_Encode.l0])
   | succ k1 =>
    have H := HA.out
    clear HA
    simp only [hypercuberef1_Encode.l0] at H
    by_cases c9 : x6_1 < (l0_0.length : Int)
    ·rw [if_pos c9] at H
     have c9b0 : decide (x6_1 < (l0_0.length : Int)) = true := decide_eq_true c9
     clear c9
     by_cases c10 : 0 ≤ x6_1
     ·rw [if_pos c10] at H
      have c10b0 : decide (0 ≤ x6_1) = true := decide_eq_true c10
      clear c10
      by_cases c11 : x5_1.length < 140737488355328
      ·rw [if_pos c11] at H
       have LMc11 := Aside0.mk c11
       clear c11
       obtain ⟨y364, hy364⟩ : ∃ y_ : List Int, y_ = (x5_1 ++ [(rd l0_0 x6_1) % 256]) := ⟨_, rfl⟩
       replace H : (hypercuberef1_Encode.l0 k1 l1 y364 (wrap64 (x6_1 + 1)) l0_0 a0_1) = some r := by first | (rw [hy364]; with_reducible exact H) | (have H2_ := (Option.bind_some _ _).symm.trans H; rw [hy364]; with_reducible exact H2_) | (have H2_ := (Option.bind_some _ _).symm.trans H; with_reducible exact H2_) | with_reducible exact H | (rw [hy364]; exact H) | exact H
       have Ny364 := Aside0.mk hy364
       clear hy364
       have H' := Aside0.mk H
       clear H
       have hcz12_0 : wr.cell? ⟨gb356, 0, none⟩ = some (.slice A0_0 l0_0.length c0_0) := (blk_cell BK356.out 0).trans rfl
       have hcz12_1 : wr.cell? ⟨gb356, 1, none⟩ = some (.int .i64 a0_1) := (blk_cell BK356.out 1).trans rfl
       have hfz12_0 := blk_frozen BK356.out 0
       have hfz12_1 := blk_frozen BK356.out 1
       have p363 : 0 ≤ (x6_1 : Int) := of_decide_eq_true (by first | (with_reducible assumption) | assumption)
       have q363 : x6_1 < (l0_0.length : Int) := of_decide_eq_true (by first | (with_reducible assumption) | assumption)
       obtain ⟨ad363, e363, hx363_0⟩ := Kd.at_int HR0_0.out x6_1 p363 q363
       cases e363
       replace hx363_0 := (HB.out.cell (World.block_lt_of_cell? w _ hx363_0)).trans hx363_0
       replace p363 := eq_true p363
       replace q363 := eq_true q363
       go_wp2_with (first | ((with_reducible refine gate_builtin (b := .append) (xs := #[.tmp 25, .tmp 32]) rfl ?_); at_builtin; refine Kd.R_append (Kd.int .u8) (w0 := w) w.heap.size rfl (.tmp 25) (.tmp 32) 36 5 (.int .u8 0) 1 rfl Try.underlying36 info5 rfl (by decide) (by omega) u5 x5_1 ((rd l0_0 x6_1) % 256) [.int .u8 ((rd l0_0 x6_1) % 256)] (fun _ => True) (fun _ => False) rfl rfl ?aP (fun _ hk => hk.elim) ?aF ?aO ?aB ?aS ?aL ?_; (case aP => exact rfl); (case aB => exact (by repeat (first | (with_reducible first | exact HB.out | apply below_alloc | apply pw_below_drewN | apply below_drew1 | refine below_set ?_ GE356.out) | exact HB.out))); (case aF => exact (fun _ _ => trivial)); (case aO => exact (by (with_reducible repeat (first | apply Kd.R_alloc | apply Kd.R_drewN | apply Kd.R_drew)); exact HO_5.out)); (case aS => exact (below_size (by repeat (first | (with_reducible first | exact HB.out | apply below_alloc | apply pw_below_drewN | apply below_drew1 | refine below_set ?_ GE356.out) | exact HB.out)))); (case aL => have := LMc11.out; omega); intro v365 w13 ho hb hg hat; rw [← Ny364.out] at ho; have n0_ := Aside0.mk (blk_grown (g := gb356) (o := .cells #[.slice (some ad363) l0_0.length c0_0, .int .i64 a0_1] 24 (0, 0)) (by (with_reducible repeat (first | refine blk_drewN ?_ _ | refine blk_drew ?_ | refine blk_alloc ?_ _)); exact BK356.out) hg (Kd.R_ne HO_5.out BK356.out (by decide))); have n1_ := Aside0.mk (hb); have n2_ := Aside0.mk (ho); clear BK356; clear HB; clear HO_5; have BK356 := n0_; have HB := n1_; have HO366 := n2_; clear n0_ n1_ n2_; clear ho hb hg hat))
       go_roundg k1
       case measure => have := HK1.out; omega
       case rel => exact ⟨(y364), (wrap64 (x6_1 + 1)), (by first | rfl | (simp; done) | (simp [*]; done)), H', ⟨by have := HK1.out; omega⟩, ⟨by (with_reducible repeat (first | apply Kd.R_alloc | apply Kd.R_drewN | apply Kd.R_drew)); exact HO366.out⟩, ⟨by (with_reducible repeat (first | refine blk_drewN ?_ _ | refine blk_drew ?_ | refine blk_alloc ?_ _)); exact BK356.out⟩, ⟨by repeat (first | (with_reducible first | exact HB.out | apply below_alloc | apply pw_below_drewN | apply below_drew1 | refine below_set ?_ GE356.out) | exact HB.out)⟩⟩
      ·rw [if_neg c11] at H
       exact absurd H (by simp)
     ·rw [if_neg c10] at H
      exact absurd H (by simp)
    ·rw [if_neg c9] at H
     have c9b0 : decide (x6_1 < (l0_0.length : Int)) = false := decide_eq_false c9
     clear c9
     by_cases c14 : x5_1.length < 140737488355328
     ·rw [if_pos c14] at H
      have LMc14 := Aside0.mk c14
      clear c14
      obtain ⟨y367, hy367⟩ : ∃ y_ : List Int, y_ = (x5_1 ++ [(a0_1) % 256]) := ⟨_, rfl⟩
      replace H : ((hypercuberef1_Two.f (l1.length : Int)).bind fun t370 => (if y367.length + t370.length < 140737488355328 then (hypercuberef1_Encode.l1 k1 l1 (y367 ++ t370) 0) else (none))) = some r := by first | (rw [hy367]; with_reducible exact H) | (have H2_ := (Option.bind_some _ _).symm.trans H; rw [hy367]; with_reducible exact H2_) | (have H2_ := (Option.bind_some _ _).symm.trans H; with_reducible exact H2_) | with_reducible exact H | (rw [hy367]; exact H) | exact H
      have Ny367 := Aside0.mk hy367
      clear hy367
      replace H := Option.bind_eq_some_iff.mp H
      obtain ⟨t370, A150, H⟩ := H
      replace H : (if y367.length + t370.length < 140737488355328 then (hypercuberef1_Encode.l1 k1 l1 (y367 ++ t370) 0) else (none)) = some r := H
      have A15 := Aside0.mk A150
      clear A150
      by_cases c16 : y367.length + t370.length < 140737488355328
      ·rw [if_pos c16] at H
       have LMc16 := Aside0.mk c16
       clear c16
       obtain ⟨y373, hy373⟩ : ∃ y_ : List Int, y_ = (y367 ++ t370) := ⟨_, rfl⟩
       replace H : (hypercuberef1_Encode.l1 k1 l1 y373 0) = some r := by first | (rw [hy373]; with_reducible exact H) | (have H2_ := (Option.bind_some _ _).symm.trans H; rw [hy373]; with_reducible exact H2_) | (have H2_ := (Option.bind_some _ _).symm.trans H; with_reducible exact H2_) | with_reducible exact H | (rw [hy373]; exact H) | exact H
       have Ny373 := Aside0.mk hy373
       clear hy373
       have H' := Aside0.mk H
       clear H
       have hcz17_0 : wr.cell? ⟨gb356, 0, none⟩ = some (.slice A0_0 l0_0.length c0_0) := (blk_cell BK356.out 0).trans rfl
       have hcz17_1 : wr.cell? ⟨gb356, 1, none⟩ = some (.int .i64 a0_1) := (blk_cell BK356.out 1).trans rfl
       have hfz17_0 := blk_frozen BK356.out 0
       have hfz17_1 := blk_frozen BK356.out 1
       go_wp2_with (first | ((with_reducible refine gate_builtin (b := .append) (xs := #[.tmp 34, .tmp 38]) rfl ?_); at_builtin; refine Kd.R_append (Kd.int .u8) (w0 := w) w.heap.size rfl (.tmp 34) (.tmp 38) 36 5 (.int .u8 0) 1 rfl Try.underlying36 info5 rfl (by decide) (by omega) u5 x5_1 ((a0_1) % 256) [.int .u8 ((a0_1) % 256)] (fun _ => True) (fun _ => False) rfl rfl ?aP (fun _ hk => hk.elim) ?aF ?aO ?aB ?aS ?aL ?_; (case aP => exact rfl); (case aB => exact (by repeat (first | (with_reducible first | exact HB.out | apply below_alloc | apply pw_below_drewN | apply below_drew1 | refine below_set ?_ GE356.out) | exact HB.out))); (case aF => exact (fun _ _ => trivial)); (case aO => exact (by (with_reducible repeat (first | apply Kd.R_alloc | apply Kd.R_drewN | apply Kd.R_drew)); exact HO_5.out)); (case aS => exact (below_size (by repeat (first | (with_reducible first | exact HB.out | apply below_alloc | apply pw_below_drewN | apply below_drew1 | refine below_set ?_ GE356.out) | exact HB.out)))); (case aL => have := LMc14.out; omega); intro v368 w18 ho hb hg hat; rw [← Ny367.out] at ho; have n0_ := Aside0.mk (blk_grown (g := gb356) (o := .cells #[.slice A0_0 l0_0.length c0_0, .int .i64 a0_1] 24 (0, 0)) (by (with_reducible repeat (first | refine blk_drewN ?_ _ | refine blk_drew ?_ | refine blk_alloc ?_ _)); exact BK356.out) hg (Kd.R_ne HO_5.out BK356.out (by decide))); have n1_ := Aside0.mk (hb); have n2_ := Aside0.mk (ho); clear BK356; clear HB; clear HO_5; have BK356 := n0_; have HB := n1_; have HO369 := n2_; clear n0_ n1_ n2_; clear ho hb hg hat) | ((with_reducible refine gate_callee (f := 36) rfl ?_); refine goesL_ (some 43) rfl rfl Try.func36 (by kernel_rfl) rfl #[.int .i64 (l1.length : Int)] rfl (by (try simp only [List.map_toArray, List.map_cons, List.map_nil]); first | done | rfl | (simp only [List.length_drop, List.length_take]; rfl)) ?_; (with_reducible refine (hypercuberef1_Two.calls (l1.length : Int) t370 _ A15.out).mono ?_); rintro e w19 ⟨v371, rfl, ho0, hb⟩; refine ⟨_, rfl, ?_⟩; have n0_ := Aside0.mk (Kd.R_elder' (by (with_reducible repeat (first | apply Kd.R_alloc | apply Kd.R_drewN | apply Kd.R_drew)); exact HO369.out) (Kd.R_base ho0) hb); have n1_ := Aside0.mk (Kd.R_lower (Kd.R_new' ho0 (Kd.R_lt (by (with_reducible repeat (first | apply Kd.R_alloc | apply Kd.R_drewN | apply Kd.R_drew)); exact HO369.out))) (below_size (by repeat (first | (with_reducible first | exact HB.out | apply below_alloc | apply pw_below_drewN | apply below_drew1 | refine below_set ?_ GE356.out) | exact HB.out)))); have n2_ := Aside0.mk (blk_below (g := gb356) (o := .cells #[.slice A0_0 l0_0.length c0_0, .int .i64 a0_1] 24 (0, 0)) (by (with_reducible repeat (first | refine blk_drewN ?_ _ | refine blk_drew ?_ | refine blk_alloc ?_ _)); exact BK356.out) hb); have n3_ := Aside0.mk (below_step (by repeat (first | (with_reducible first | exact HB.out | apply below_alloc | apply pw_below_drewN | apply below_drew1 | refine below_set ?_ GE356.out) | exact HB.out)) hb); clear HO369; clear BK356; clear HB; have HO369 := n0_; have HO372 := n1_; have BK356 := n2_; have HB := n3_; clear n0_ n1_ n2_ n3_; (try clear hb); (try clear hb2); (try clear hk); (try clear hi); (try clear ho0); obtain ⟨Ao21, co21, eo21⟩ := Kd.R_slice HO372.out; subst eo21) | ((with_reducible refine gate_builtin (b := .append) (xs := #[.tmp 40, .tmp 43]) rfl ?_); at_builtin; refine Kd.R_append_rows (Kd.int .u8) (w0 := w) w.heap.size rfl (.tmp 40) (.tmp 43) 36 5 (.int .u8 0) 1 rfl Try.underlying36 info5 rfl (by decide) (by omega) v368 y367 t370 _ _ _ (fun k_ => some k_ ≠ (.slice Ao21 t370.length co21 : Value).ownBlock) (fun _ => False) rfl rfl ?aO ?aR (fun _ _ h => h) (fun _ h => h.elim) ?aF ?aB ?aS ?aL ?_; (case aR => repeat (first | exact (Kd.R_reads' HO372.out).2.2 | (with_reducible refine Kd.C_alloc ?_ _) | (with_reducible refine Kd.C_drewN ?_ _) | (with_reducible refine Kd.C_drew ?_))); (case aB => exact (by repeat (first | (with_reducible first | exact HB.out | apply below_alloc | apply pw_below_drewN | apply below_drew1 | refine below_set ?_ GE356.out) | exact HB.out))); (case aF => exact (fun k_ hk => Kd.fresh' (Kd.R_lt (by (with_reducible repeat (first | apply Kd.R_alloc | apply Kd.R_drewN | apply Kd.R_drew)); exact HO372.out)) k_ hk)); (case aO => exact (by (with_reducible repeat (first | apply Kd.R_alloc | apply Kd.R_drewN | apply Kd.R_drew)); exact Kd.R_mono HO369.out (fun _ hk => hk.2))); (case aS => exact (below_size (by repeat (first | (with_reducible first | exact HB.out | apply below_alloc | apply pw_below_drewN | apply below_drew1 | refine below_set ?_ GE356.out) | exact HB.out)))); (case aL => have := LMc16.out; omega); intro v374 w20 ho hb hg hat; rw [← Ny373.out] at ho; have n0_ := Aside0.mk (blk_grown (g := gb356) (o := .cells #[.slice A0_0 l0_0.length c0_0, .int .i64 a0_1] 24 (0, 0)) (by (with_reducible repeat (first | refine blk_drewN ?_ _ | refine blk_drew ?_ | refine blk_alloc ?_ _)); exact BK356.out) hg (Kd.R_ne HO369.out BK356.out (by decide))); have n1_ := Aside0.mk (Kd.R_after (ok := (fun _ => True)) (by (with_reducible repeat (first | apply Kd.R_alloc | apply Kd.R_drewN | apply Kd.R_drew)); exact HO372.out) hg hat); have n2_ := Aside0.mk (hb); have n3_ := Aside0.mk (ho); clear BK356; clear HO372; clear HB; clear HO369; have BK356 := n0_; have HO372 := n1_; have HB := n2_; have HO375 := n3_; clear n0_ n1_ n2_ n3_; clear ho hb hg hat))
       go_loopg [5, 7] k1 (fun kq v5 v7 w' => ∃ (x5_2 : List Int) (x7_2 : Int), v7 = .int .i64 x7_2 ∧ Aside0 (hypercuberef1_Encode.l1 kq l1 x5_2 x7_2 = some r) ∧ Aside0 (kq ≤ k1) ∧ Aside0 (Kd.R (Kd.int .u8) 5 w' w.heap.size (fun _ => True) v5 x5_2) ∧ Aside0 (w'.heap[gb356]? = some (.cells #[(.slice A0_0 l0_0.length c0_0), .int .i64 a0_1] 24 (0, 0))) ∧ Aside0 (Below w.heap.size w w'))
       case atStart => exact ⟨(y373), (0), (by first | rfl | (simp; done) | (simp [*]; done)), H', ⟨Nat.le_refl _⟩, ⟨by (with_reducible repeat (first | apply Kd.R_alloc | apply Kd.R_drewN | apply Kd.R_drew)); exact Kd.R_mono HO375.out (fun _ hk => trivial)⟩, ⟨by (with_reducible repeat (first | refine blk_drewN ?_ _ | refine blk_drew ?_ | refine blk_alloc ?_ _)); exact BK356.out⟩, ⟨by repeat (first | (with_reducible first | exact HB.out | apply below_alloc | apply pw_below_drewN | apply below_drew1 | refine below_set ?_ GE356.out) | exact HB.out)⟩⟩
       case round =>
        clear H'
        try clear c1
        try clear c2
        try clear p2
        try clear c3
        try clear p3
        try clear q3
        try clear hx3
        try clear p6
        try clear c9
        try clear c9b0
        try clear c10
        try clear c10b0
        try clear c11
        try clear c14
        try clear c16
        try clear hcz12_0
        try clear hcz12_1
        try clear hcz17_0
        try clear hcz17_1
        try clear hcz7_0
        try clear hcz7_1
        try clear hfz12_0
        try clear hfz12_1
        try clear hfz17_0
        try clear hfz17_1
        try clear hfz7_0
        try clear hfz7_1
        try clear hx363_0
        try clear p2
        try clear p363
        try clear q363
        obtain ⟨x5_2, x7_2, rfl, HA, HK2, HO_5, BK356, HB⟩ := hrel
        cases gk with
        | zero => exact absurd HA.out (by simp [hypercuberef1_Encode.l1])
        | succ k2 =>
         have H := HA.out
         clear HA
         simp only [hypercuberef1_Encode.l1] at H
         by_cases c22 : x7_2 < (l1.length : Int)
         ·rw [if_pos c22] at H
          have c22b0 : decide (x7_2 < (l1.length : Int)) = true := decide_eq_true c22
          clear c22
          have H' := Aside0.mk H
          clear H
          go_wp2
          go_loopg [5, 8] k2 (fun kq v5 v8 w' => ∃ (x5_3 : List Int) (x8_3 : Int), v8 = .int .i64 x8_3 ∧ Aside0 (hypercuberef1_Encode.l2 kq l1 x5_3 x7_2 x8_3 = some r) ∧ Aside0 (kq ≤ k2) ∧ Aside0 (Kd.R (Kd.int .u8) 5 w' w.heap.size (fun _ => True) v5 x5_3) ∧ Aside0 (w'.heap[gb356]? = some (.cells #[(.slice A0_0 l0_0.length c0_0), .int .i64 a0_1] 24 (0, 0))) ∧ Aside0 (Below w.heap.size w w'))
          case atStart => exact ⟨(x5_2), (0), (by first | rfl | (simp; done) | (simp [*]; done)), H', ⟨Nat.le_refl _⟩, ⟨by (with_reducible repeat (first | apply Kd.R_alloc | apply Kd.R_drewN | apply Kd.R_drew)); exact HO_5.out⟩, ⟨by (with_reducible repeat (first | refine blk_drewN ?_ _ | refine blk_drew ?_ | refine blk_alloc ?_ _)); exact BK356.out⟩, ⟨by repeat (first | (with_reducible first | exact HB.out | apply below_alloc | apply pw_below_drewN | apply below_drew1 | refine below_set ?_ GE356.out) | exact HB.out)⟩⟩
          case round =>
           clear H'
           try clear c1
           try clear c2
           try clear p2
           try clear c3
           try clear p3
           try clear q3
           try clear hx3
           try clear p6
           try clear c9
           try clear c9b0
           try clear c10
           try clear c10b0
           try clear c11
           try clear c14
           try clear c16
           try clear c22
           try clear c22b0
           try clear hcz12_0
           try clear hcz12_1
           try clear hcz17_0
           try clear hcz17_1
           try clear hcz7_0
           try clear hcz7_1
           try clear hfz12_0
           try clear hfz12_1
           try clear hfz17_0
           try clear hfz17_1
           try clear hfz7_0
           try clear hfz7_1
           try clear hx363_0
           try clear p2
           try clear p3
           try clear p363
           try clear p6
           try clear q3
           try clear q363
           obtain ⟨x5_3, x8_3, rfl, HA, HK3, HO_5, BK356, HB⟩ := hrel
           cases gk with
           | zero => exact absurd HA.out (by simp [hypercuberef1_Encode.l2])
           | succ k3 =>
            have H := HA.out
            clear HA
            simp only [hypercuberef1_Encode.l2] at H
            by_cases c23 : 0 ≤ x7_2
            ·rw [if_pos c23] at H
             have c23b0 : decide (0 ≤ x7_2) = true := decide_eq_true c23
             clear c23
             by_cases c24 : x7_2 < (l1.length : Int)
             ·rw [if_pos c24] at H
              have c24b0 : decide (x7_2 < (l1.length : Int)) = true := decide_eq_true c24
              clear c24
              by_cases c25 : x8_3 < (((rd_T33 l1 x7_2).f0).length : Int)
              ·rw [if_pos c25] at H
               have c25b0 : decide (x8_3 < (((rd_T33 l1 x7_2).f0).length : Int)) = true := decide_eq_true c25
               clear c25
               by_cases c26 : 0 ≤ x8_3
               ·rw [if_pos c26] at H
                have c26b0 : decide (0 ≤ x8_3) = true := decide_eq_true c26
                clear c26
                by_cases c27 : x5_3.length < 140737488355328
                ·rw [if_pos c27] at H
                 have LMc27 := Aside0.mk c27
                 clear c27
                 obtain ⟨y379, hy379⟩ : ∃ y_ : List Int, y_ = (x5_3 ++ [(rd ((rd_T33 l1 x7_2).f0) x8_3) % 256]) := ⟨_, rfl⟩
                 replace H : (hypercuberef1_Encode.l2 k3 l1 y379 x7_2 (wrap64 (x8_3 + 1))) = some r := by first | (rw [hy379]; with_reducible exact H) | (have H2_ := (Option.bind_some _ _).symm.trans H; rw [hy379]; with_reducible exact H2_) | (have H2_ := (Option.bind_some _ _).symm.trans H; with_reducible exact H2_) | with_reducible exact H | (rw [hy379]; exact H) | exact H
                 have Ny379 := Aside0.mk hy379
                 clear hy379
                 have H' := Aside0.mk H
                 clear H
                 have p376 : 0 ≤ (x7_2 : Int) := of_decide_eq_true (by first | (with_reducible assumption) | assumption)
                 have q376 : x7_2 < (l1.length : Int) := of_decide_eq_true (by first | (with_reducible assumption) | assumption)
                 obtain ⟨ad376, A376_0, c376_0, A376_1, c376_1, e376, hx376_0, hx376_1, hl376_0, hi376_0, hl376_1, hi376_1⟩ := at_T33 HR1.out x7_2 p376 q376
                 cases e376
                 replace hx376_0 := (HB.out.cell (World.block_lt_of_cell? w _ hx376_0)).trans hx376_0
                 replace hx376_1 := (HB.out.cell (World.block_lt_of_cell? w _ hx376_1)).trans hx376_1
                 have HR376_0 := Aside0.mk hi376_0
                 have HC376_0 := Aside0.mk hl376_0
                 clear hi376_0 hl376_0
                 have HR376_1 := Aside0.mk hi376_1
                 have HC376_1 := Aside0.mk hl376_1
                 clear hi376_1 hl376_1
                 replace p376 := eq_true p376
                 replace q376 := eq_true q376
                 have p377 : 0 ≤ (x7_2 : Int) := of_decide_eq_true (by first | (with_reducible assumption) | assumption)
                 have q377 : x7_2 < (l1.length : Int) := of_decide_eq_true (by first | (with_reducible assumption) | assumption)
                 obtain ⟨ad377, A377_0, c377_0, A377_1, c377_1, e377, hx377_0, hx377_1, hl377_0, hi377_0, hl377_1, hi377_1⟩ := at_T33 HR1.out x7_2 p377 q377
                 obtain rfl : ad376 = ad377 := (by injection e377)
                 replace hx377_0 := (HB.out.cell (World.block_lt_of_cell? w _ hx377_0)).trans hx377_0
                 replace hx377_1 := (HB.out.cell (World.block_lt_of_cell? w _ hx377_1)).trans hx377_1
                 have HR377_0 := Aside0.mk hi377_0
                 have HC377_0 := Aside0.mk hl377_0
                 clear hi377_0 hl377_0
                 have HR377_1 := Aside0.mk hi377_1
                 have HC377_1 := Aside0.mk hl377_1
                 clear hi377_1 hl377_1
                 replace p377 := eq_true p377
                 replace q377 := eq_true q377
                 have ea_ := Option.some.inj (hx376_0.symm.trans hx377_0)
                 injection ea_ with ea_ en_ ec_
                 subst ea_
                 subst ec_
                 clear en_
                 have ea_ := Option.some.inj (hx376_1.symm.trans hx377_1)
                 injection ea_ with ea_ en_ ec_
                 subst ea_
                 subst ec_
                 clear en_
                 have p378 : 0 ≤ (x8_3 : Int) := of_decide_eq_true (by first | (with_reducible assumption) | assumption)
                 have q378 : x8_3 < (((rd_T33 l1 x7_2).f0).length : Int) := of_decide_eq_true (by first | (with_reducible assumption) | assumption)
                 obtain ⟨ad378, e378, hx378_0⟩ := Kd.at_int HR377_0.out x8_3 p378 q378
                 cases e378
                 replace hx378_0 := (HB.out.cell (World.block_lt_of_cell? w _ hx378_0)).trans hx378_0
                 replace p378 := eq_true p378
                 replace q378 := eq_true q378
                 go_wp2_with (first | ((with_reducible refine gate_builtin (b := .append) (xs := #[.tmp 61, .tmp 71]) rfl ?_); at_builtin; refine Kd.R_append (Kd.int .u8) (w0 := w) w.heap.size rfl (.tmp 61) (.tmp 71) 36 5 (.int .u8 0) 1 rfl Try.underlying36 info5 rfl (by decide) (by omega) u5 x5_3 ((rd ((rd_T33 l1 x7_2).f0) x8_3) % 256) [.int .u8 ((rd ((rd_T33 l1 x7_2).f0) x8_3) % 256)] (fun _ => True) (fun _ => False) rfl rfl ?aP (fun _ hk => hk.elim) ?aF ?aO ?aB ?aS ?aL ?_; (case aP => exact rfl); (case aB => exact (by repeat (first | (with_reducible first | exact HB.out | apply below_alloc | apply pw_below_drewN | apply below_drew1 | refine below_set ?_ GE356.out) | exact HB.out))); (case aF => exact (fun _ _ => trivial)); (case aO => exact (by (with_reducible repeat (first | apply Kd.R_alloc | apply Kd.R_drewN | apply Kd.R_drew)); exact HO_5.out)); (case aS => exact (below_size (by repeat (first | (with_reducible first | exact HB.out | apply below_alloc | apply pw_below_drewN | apply below_drew1 | refine below_set ?_ GE356.out) | exact HB.out)))); (case aL => have := LMc27.out; omega); intro v380 w28 ho hb hg hat; rw [← Ny379.out] at ho; have n0_ := Aside0.mk (blk_grown (g := gb356) (o := .cells #[.slice A0_0 l0_0.length c0_0, .int .i64 a0_1] 24 (0, 0)) (by (with_reducible repeat (first | refine blk_drewN ?_ _ | refine blk_drew ?_ | refine blk_alloc ?_ _)); exact BK356.out) hg (Kd.R_ne HO_5.out BK356.out (by decide))); have n1_ := Aside0.mk (hb); have n2_ := Aside0.mk (ho); clear BK356; clear HB; clear HO_5; have BK356 := n0_; have HB := n1_; have HO381 := n2_; clear n0_ n1_ n2_; clear ho hb hg hat))
                 go_roundg k3
                 case measure => have := HK1.out; have := HK2.out; have := HK3.out; omega
                 case rel => exact ⟨(y379), (wrap64 (x8_3 + 1)), (by first | rfl | (simp; done) | (simp [*]; done)), H', ⟨by have := HK1.out; have := HK2.out; have := HK3.out; omega⟩, ⟨by (with_reducible repeat (first | apply Kd.R_alloc | apply Kd.R_drewN | apply Kd.R_drew)); exact HO381.out⟩, ⟨by (with_reducible repeat (first | refine blk_drewN ?_ _ | refine blk_drew ?_ | refine blk_alloc ?_ _)); exact BK356.out⟩, ⟨by repeat (first | (with_reducible first | exact HB.out | apply below_alloc | apply pw_below_drewN | apply below_drew1 | refine below_set ?_ GE356.out) | exact HB.out)⟩⟩
                ·rw [if_neg c27] at H
                 exact absurd H (by simp)
               ·rw [if_neg c26] at H
                exact absurd H (by simp)
              ·rw [if_neg c25] at H
               have c25b0 : decide (x8_3 < (((rd_T33 l1 x7_2).f0).length : Int)) = false := decide_eq_false c25
               clear c25
               have H' := Aside0.mk H
               clear H
               have p376 : 0 ≤ (x7_2 : Int) := of_decide_eq_true (by first | (with_reducible assumption) | assumption)
               have q376 : x7_2 < (l1.length : Int) := of_decide_eq_true (by first | (with_reducible assumption) | assumption)
               obtain ⟨ad376, A376_0, c376_0, A376_1, c376_1, e376, hx376_0, hx376_1, hl376_0, hi376_0, hl376_1, hi376_1⟩ := at_T33 HR1.out x7_2 p376 q376
               cases e376
               replace hx376_0 := (HB.out.cell (World.block_lt_of_cell? w _ hx376_0)).trans hx376_0
               replace hx376_1 := (HB.out.cell (World.block_lt_of_cell? w _ hx376_1)).trans hx376_1
               have HR376_0 := Aside0.mk hi376_0
               have HC376_0 := Aside0.mk hl376_0
               clear hi376_0 hl376_0
               have HR376_1 := Aside0.mk hi376_1
               have HC376_1 := Aside0.mk hl376_1
               clear hi376_1 hl376_1
               replace p376 := eq_true p376
               replace q376 := eq_true q376
               go_wp2
               go_loopg [5, 9] k3 (fun kq v5 v9 w' => ∃ (x5_4 : List Int) (x9_4 : Int), v9 = .int .i64 x9_4 ∧ Aside0 (hypercuberef1_Encode.l3 kq l1 x5_4 x7_2 x9_4 = some r) ∧ Aside0 (kq ≤ k3) ∧ Aside0 (Kd.R (Kd.int .u8) 5 w' w.heap.size (fun _ => True) v5 x5_4) ∧ Aside0 (w'.heap[gb356]? = some (.cells #[(.slice A0_0 l0_0.length c0_0), .int .i64 a0_1] 24 (0, 0))) ∧ Aside0 (Below w.heap.size w w'))
               case atStart => exact ⟨(x5_3), (0), (by first | rfl | (simp; done) | (simp [*]; done)), H', ⟨Nat.le_refl _⟩, ⟨by (with_reducible repeat (first | apply Kd.R_alloc | apply Kd.R_drewN | apply Kd.R_drew)); exact HO_5.out⟩, ⟨by (with_reducible repeat (first | refine blk_drewN ?_ _ | refine blk_drew ?_ | refine blk_alloc ?_ _)); exact BK356.out⟩, ⟨by repeat (first | (with_reducible first | exact HB.out | apply below_alloc | apply pw_below_drewN | apply below_drew1 | refine below_set ?_ GE356.out) | exact HB.out)⟩⟩
               case round =>
                clear H'
                try clear c1
                try clear c2
                try clear p2
                try clear c3
                try clear p3
                try clear q3
                try clear hx3
                try clear p6
                try clear c9
                try clear c9b0
                try clear c10
                try clear c10b0
                try clear c11
                try clear c14
                try clear c16
                try clear c22
                try clear c22b0
                try clear c23
                try clear c23b0
                try clear c24
                try clear c24b0
                try clear c25
                try clear c25b0
                try clear c26
                try clear c26b0
                try clear c27
                try clear hcz12_0
                try clear hcz12_1
                try clear hcz17_0
                try clear hcz17_1
                try clear hcz7_0
                try clear hcz7_1
                try clear hfz12_0
                try clear hfz12_1
                try clear hfz17_0
                try clear hfz17_1
                try clear hfz7_0
                try clear hfz7_1
                try clear hx363_0
                try clear hx376_0
                try clear hx376_1
                try clear hx377_0
                try clear hx377_1
                try clear hx378_0
                try clear p2
                try clear p3
                try clear p363
                try clear p376
                try clear p377
                try clear p378
                try clear p6
                try clear q3
                try clear q363
                try clear q376
                try clear q377
                try clear q378
                obtain ⟨x5_4, x9_4, rfl, HA, HK4, HO_5, BK356, HB⟩ := hrel
                cases gk with
                | zero => exact absurd HA.out (by simp [hypercuberef1_Encode.l3])
                | succ k4 =>
                 have H := HA.out
                 clear HA
                 simp only [hypercuberef1_Encode.l3] at H
                 by_cases c29 : 0 ≤ x7_2
                 ·rw [if_pos c29] at H
                  have c29b0 : decide (0 ≤ x7_2) = true := decide_eq_true c29
                  clear c29
                  by_cases c30 : x7_2 < (l1.length : Int)
                  ·rw [if_pos c30] at H
                   have c30b0 : decide (x7_2 < (l1.length : Int)) = true := decide_eq_true c30
                   clear c30
                   by_cases c31 : x9_4 < (((rd_T33 l1 x7_2).f1).length : Int)
                   ·rw [if_pos c31] at H
                    have c31b0 : decide (x9_4 < (((rd_T33 l1 x7_2).f1).length : Int)) = true := decide_eq_true c31
                    clear c31
                    by_cases c32 : 0 ≤ x9_4
                    ·rw [if_pos c32] at H
                     have c32b0 : decide (0 ≤ x9_4) = true := decide_eq_true c32
                     clear c32
                     replace H := Option.bind_eq_some_iff.mp H
                     obtain ⟨t385, A330, H⟩ := H
                     replace H : (if x5_4.length + t385.length < 140737488355328 then (hypercuberef1_Encode.l3 k4 l1 (x5_4 ++ t385) x7_2 (wrap64 (x9_4 + 1))) else (none)) = some r := H
                     have A33 := Aside0.mk A330
                     clear A330
                     by_cases c34 : x5_4.length + t385.length < 140737488355328
                     ·rw [if_pos c34] at H
                      have LMc34 := Aside0.mk c34
                      clear c34
                      obtain ⟨y388, hy388⟩ : ∃ y_ : List Int, y_ = (x5_4 ++ t385) := ⟨_, rfl⟩
                      replace H : (hypercuberef1_Encode.l3 k4 l1 y388 x7_2 (wrap64 (x9_4 + 1))) = some r := by first | (rw [hy388]; with_reducible exact H) | (have H2_ := (Option.bind_some _ _).symm.trans H; rw [hy388]; with_reducible exact H2_) | (have H2_ := (Option.bind_some _ _).symm.trans H; with_reducible exact H2_) | with_reducible exact H | (rw [hy388]; exact H) | exact H
                      have Ny388 := Aside0.mk hy388
                      clear hy388
                      have H' := Aside0.mk H
                      clear H
                      have p382 : 0 ≤ (x7_2 : Int) := of_decide_eq_true (by first | (with_reducible assumption) | assumption)
                      have q382 : x7_2 < (l1.length : Int) := of_decide_eq_true (by first | (with_reducible assumption) | assumption)
                      obtain ⟨ad382, A382_0, c382_0, A382_1, c382_1, e382, hx382_0, hx382_1, hl382_0, hi382_0, hl382_1, hi382_1⟩ := at_T33 HR1.out x7_2 p382 q382
                      obtain rfl : ad376 = ad382 := (by injection e382)
                      replace hx382_0 := (HB.out.cell (World.block_lt_of_cell? w _ hx382_0)).trans hx382_0
                      replace hx382_1 := (HB.out.cell (World.block_lt_of_cell? w _ hx382_1)).trans hx382_1
                      have HR382_0 := Aside0.mk hi382_0
                      have HC382_0 := Aside0.mk hl382_0
                      clear hi382_0 hl382_0
                      have HR382_1 := Aside0.mk hi382_1
                      have HC382_1 := Aside0.mk hl382_1
                      clear hi382_1 hl382_1
                      replace p382 := eq_true p382
                      replace q382 := eq_true q382
                      have p383 : 0 ≤ (x7_2 : Int) := of_decide_eq_true (by first | (with_reducible assumption) | assumption)
                      have q383 : x7_2 < (l1.length : Int) := of_decide_eq_true (by first | (with_reducible assumption) | assumption)
                      obtain ⟨ad383, A383_0, c383_0, A383_1, c383_1, e383, hx383_0, hx383_1, hl383_0, hi383_0, hl383_1, hi383_1⟩ := at_T33 HR1.out x7_2 p383 q383
                      obtain rfl : ad376 = ad383 := (by injection e383)
                      replace hx383_0 := (HB.out.cell (World.block_lt_of_cell? w _ hx383_0)).trans hx383_0
                      replace hx383_1 := (HB.out.cell (World.block_lt_of_cell? w _ hx383_1)).trans hx383_1
                      have HR383_0 := Aside0.mk hi383_0
                      have HC383_0 := Aside0.mk hl383_0
                      clear hi383_0 hl383_0
                      have HR383_1 := Aside0.mk hi383_1
                      have HC383_1 := Aside0.mk hl383_1
                      clear hi383_1 hl383_1
                      replace p383 := eq_true p383
                      replace q383 := eq_true q383
                      have ea_ := Option.some.inj (hx382_0.symm.trans hx383_0)
                      injection ea_ with ea_ en_ ec_
                      subst ea_
                      subst ec_
                      clear en_
                      have ea_ := Option.some.inj (hx382_1.symm.trans hx383_1)
                      injection ea_ with ea_ en_ ec_
                      subst ea_
                      subst ec_
                      clear en_
                      have p384 : 0 ≤ (x9_4 : Int) := of_decide_eq_true (by first | (with_reducible assumption) | assumption)
                      have q384 : x9_4 < (((rd_T33 l1 x7_2).f1).length : Int) := of_decide_eq_true (by first | (with_reducible assumption) | assumption)
                      obtain ⟨ad384, e384, hx384_0⟩ := Kd.at_int HR383_1.out x9_4 p384 q384
                      cases e384
                      replace hx384_0 := (HB.out.cell (World.block_lt_of_cell? w _ hx384_0)).trans hx384_0
                      replace p384 := eq_true p384
                      replace q384 := eq_true q384
                      go_wp2_with (first | ((with_reducible refine gate_callee (f := 37) rfl ?_); refine goesL_ (some 92) rfl rfl Try.func37 (by kernel_rfl) rfl #[.int .i64 (rd ((rd_T33 l1 x7_2).f1) x9_4)] rfl (by (try simp only [List.map_toArray, List.map_cons, List.map_nil]); first | done | rfl | (simp only [List.length_drop, List.length_take]; rfl)) ?_; (with_reducible refine (hypercuberef1_Eight.calls k4 (rd ((rd_T33 l1 x7_2).f1) x9_4) t385 _ A33.out).mono ?_); rintro e w35 ⟨v386, rfl, ho0, hb⟩; refine ⟨_, rfl, ?_⟩; have n0_ := Aside0.mk (Kd.R_elder' (by (with_reducible repeat (first | apply Kd.R_alloc | apply Kd.R_drewN | apply Kd.R_drew)); exact HO_5.out) (Kd.R_base ho0) hb); have n1_ := Aside0.mk (Kd.R_lower (Kd.R_new' ho0 (Kd.R_lt (by (with_reducible repeat (first | apply Kd.R_alloc | apply Kd.R_drewN | apply Kd.R_drew)); exact HO_5.out))) (below_size (by repeat (first | (with_reducible first | exact HB.out | apply below_alloc | apply pw_below_drewN | apply below_drew1 | refine below_set ?_ GE356.out) | exact HB.out)))); have n2_ := Aside0.mk (blk_below (g := gb356) (o := .cells #[.slice A0_0 l0_0.length c0_0, .int .i64 a0_1] 24 (0, 0)) (by (with_reducible repeat (first | refine blk_drewN ?_ _ | refine blk_drew ?_ | refine blk_alloc ?_ _)); exact BK356.out) hb); have n3_ := Aside0.mk (below_step (by repeat (first | (with_reducible first | exact HB.out | apply below_alloc | apply pw_below_drewN | apply below_drew1 | refine below_set ?_ GE356.out) | exact HB.out)) hb); clear HO_5; clear BK356; clear HB; have HO_5 := n0_; have HO387 := n1_; have BK356 := n2_; have HB := n3_; clear n0_ n1_ n2_ n3_; (try clear hb); (try clear hb2); (try clear hk); (try clear hi); (try clear ho0); obtain ⟨Ao37, co37, eo37⟩ := Kd.R_slice HO387.out; subst eo37) | ((with_reducible refine gate_builtin (b := .append) (xs := #[.tmp 83, .tmp 92]) rfl ?_); at_builtin; refine Kd.R_append_rows (Kd.int .u8) (w0 := w) w.heap.size rfl (.tmp 83) (.tmp 92) 36 5 (.int .u8 0) 1 rfl Try.underlying36 info5 rfl (by decide) (by omega) u5 x5_4 t385 _ _ _ (fun k_ => some k_ ≠ (.slice Ao37 t385.length co37 : Value).ownBlock) (fun _ => False) rfl rfl ?aO ?aR (fun _ _ h => h) (fun _ h => h.elim) ?aF ?aB ?aS ?aL ?_; (case aR => repeat (first | exact (Kd.R_reads' HO387.out).2.2 | (with_reducible refine Kd.C_alloc ?_ _) | (with_reducible refine Kd.C_drewN ?_ _) | (with_reducible refine Kd.C_drew ?_))); (case aB => exact (by repeat (first | (with_reducible first | exact HB.out | apply below_alloc | apply pw_below_drewN | apply below_drew1 | refine below_set ?_ GE356.out) | exact HB.out))); (case aF => exact (fun k_ hk => Kd.fresh' (Kd.R_lt (by (with_reducible repeat (first | apply Kd.R_alloc | apply Kd.R_drewN | apply Kd.R_drew)); exact HO387.out)) k_ hk)); (case aO => exact (by (with_reducible repeat (first | apply Kd.R_alloc | apply Kd.R_drewN | apply Kd.R_drew)); exact Kd.R_mono HO_5.out (fun _ hk => hk.2))); (case aS => exact (below_size (by repeat (first | (with_reducible first | exact HB.out | apply below_alloc | apply pw_below_drewN | apply below_drew1 | refine below_set ?_ GE356.out) | exact HB.out)))); (case aL => have := LMc34.out; omega); intro v389 w36 ho hb hg hat; rw [← Ny388.out] at ho; have n0_ := Aside0.mk (blk_grown (g := gb356) (o := .cells #[.slice A0_0 l0_0.length c0_0, .int .i64 a0_1] 24 (0, 0)) (by (with_reducible repeat (first | refine blk_drewN ?_ _ | refine blk_drew ?_ | refine blk_alloc ?_ _)); exact BK356.out) hg (Kd.R_ne HO_5.out BK356.out (by decide))); have n1_ := Aside0.mk (Kd.R_after (ok := (fun _ => True)) (by (with_reducible repeat (first | apply Kd.R_alloc | apply Kd.R_drewN | apply Kd.R_drew)); exact HO387.out) hg hat); have n2_ := Aside0.mk (hb); have n3_ := Aside0.mk (ho); clear BK356; clear HO387; clear HB; clear HO_5; have BK356 := n0_; have HO387 := n1_; have HB := n2_; have HO390 := n3_; clear n0_ n1_ n2_ n3_; clear ho hb hg hat))
                      go_roundg k4
                      case measure => have := HK1.out; have := HK2.out; have := HK3.out; have := HK4.out; omega
                      case rel => exact ⟨(y388), (wrap64 (x9_4 + 1)), (by first | rfl | (simp; done) | (simp [*]; done)), H', ⟨by have := HK1.out; have := HK2.out; have := HK3.out; have := HK4.out; omega⟩, ⟨by (with_reducible repeat (first | apply Kd.R_alloc | apply Kd.R_drewN | apply Kd.R_drew)); exact Kd.R_mono HO390.out (fun _ hk => trivial)⟩, ⟨by (with_reducible repeat (first | refine blk_drewN ?_ _ | refine blk_drew ?_ | refine blk_alloc ?_ _)); exact BK356.out⟩, ⟨by repeat (first | (with_reducible first | exact HB.out | apply below_alloc | apply pw_below_drewN | apply below_drew1 | refine below_set ?_ GE356.out) | exact HB.out)⟩⟩
                     ·rw [if_neg c34] at H
                      exact absurd H (by simp)
                    ·rw [if_neg c32] at H
                     exact absurd H (by simp)
                   ·rw [if_neg c31] at H
                    have c31b0 : decide (x9_4 < (((rd_T33 l1 x7_2).f1).length : Int)) = false := decide_eq_false c31
                    clear c31
                    have H' := Aside0.mk H
                    clear H
                    have p382 : 0 ≤ (x7_2 : Int) := of_decide_eq_true (by first | (with_reducible assumption) | assumption)
                    have q382 : x7_2 < (l1.length : Int) := of_decide_eq_true (by first | (with_reducible assumption) | assumption)
                    obtain ⟨ad382, A382_0, c382_0, A382_1, c382_1, e382, hx382_0, hx382_1, hl382_0, hi382_0, hl382_1, hi382_1⟩ := at_T33 HR1.out x7_2 p382 q382
                    obtain rfl : ad376 = ad382 := (by injection e382)
                    replace hx382_0 := (HB.out.cell (World.block_lt_of_cell? w _ hx382_0)).trans hx382_0
                    replace hx382_1 := (HB.out.cell (World.block_lt_of_cell? w _ hx382_1)).trans hx382_1
                    have HR382_0 := Aside0.mk hi382_0
                    have HC382_0 := Aside0.mk hl382_0
                    clear hi382_0 hl382_0
                    have HR382_1 := Aside0.mk hi382_1
                    have HC382_1 := Aside0.mk hl382_1
                    clear hi382_1 hl382_1
                    replace p382 := eq_true p382
                    replace q382 := eq_true q382
                    go_wp2
                    go_roundg k4
                    case measure => have := HK1.out; have := HK2.out; have := HK3.out; have := HK4.out; omega
                    case rel => exact ⟨(x5_4), (wrap64 (x7_2 + 1)), (by first | rfl | (simp; done) | (simp [*]; done)), H', ⟨by have := HK1.out; have := HK2.out; have := HK3.out; have := HK4.out; omega⟩, ⟨by (with_reducible repeat (first | apply Kd.R_alloc | apply Kd.R_drewN | apply Kd.R_drew)); exact HO_5.out⟩, ⟨by (with_reducible repeat (first | refine blk_drewN ?_ _ | refine blk_drew ?_ | refine blk_alloc ?_ _)); exact BK356.out⟩, ⟨by repeat (first | (with_reducible first | exact HB.out | apply below_alloc | apply pw_below_drewN | apply below_drew1 | refine below_set ?_ GE356.out) | exact HB.out)⟩⟩
                  ·rw [if_neg c30] at H
                   exact absurd H (by simp)
                 ·rw [if_neg c29] at H
                  exact absurd H (by simp)
             ·rw [if_neg c24] at H
              exact absurd H (by simp)
            ·rw [if_neg c23] at H
             exact absurd H (by simp)
         ·rw [if_neg c22] at H
          have c22b0 : decide (x7_2 < (l1.length : Int)) = false := decide_eq_false c22
          clear c22
          obtain rfl := Option.some.inj H
          go_wp2
          go_ret
          exact ⟨_, by first | rfl | (simp [errW_none, errW_some] <;> rfl) | (simp [*, errW_none, errW_some] <;> rfl), by (with_reducible repeat (first | apply Kd.R_alloc | apply Kd.R_drewN | apply Kd.R_drew)); exact HO_5.out, by repeat (first | (with_reducible first | exact HB.out | apply below_alloc | apply pw_below_drewN | apply below_drew1 | refine below_set ?_ GE356.out) | exact HB.out)⟩
      ·rw [if_neg c16] at H
       exact absurd H (by simp)
     ·rw [if_neg c14] at H
      exact absurd H (by simp)
 ·rw [if_neg c3] at H
  exact absurd H (by simp)

end Go.Proofs.Ytlacfpbfnedgdaa.Q
