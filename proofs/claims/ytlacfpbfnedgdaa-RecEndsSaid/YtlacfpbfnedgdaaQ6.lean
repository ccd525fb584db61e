-- written by wip/tools/xprint.py (a program of this session, over the kit's printer)
import Derived.Test.YtlacfpbfnedgdaaQ0
namespace Go.Proofs.Ytlacfpbfnedgdaa.Q
open Go.RowKit Go.Proofs.YtlacfpbfnedgdaaW.PrintWords Go.Proofs.YtlacfpbfnedgdaaW.PrintLast Go.Proofs.YtlacfpbfnedgdaaW.PrintMore
attribute [local go_sem] max2_int min2_int max_two min_two max_three min_three max_four min_four   -- for this text's walks alone
set_option linter.unusedVariables false
set_option linter.unusedSimpArgs false

/-! ### hypercubelaw1_Few: function 15 -/
mutual
def hypercubelaw1_Few.j0 : Nat → List (S33) → Bool → Option (Bool)
 | 0, _, _ => none
 | k + 1, x1, x14 => if x14 = true then (some false) else (hypercubelaw1_Few.l0 k x1 0)
def hypercubelaw1_Few.l0 : Nat → List (S33) → Int → Option (Bool)
 | 0, _, _ => none
 | k + 1, x1, x5 => if x5 < (x1.length : Int) then (if 0 ≤ x5 then (if (((rd_T33 x1 x5).f0).length : Int) > 20 then (some false) else (if (((rd_T33 x1 x5).f1).length : Int) > 20 then (some false) else (hypercubelaw1_Few.l0 k x1 (wrap64 (x5 + 1))))) else (none)) else (some true)
end
def hypercubelaw1_Few.f (k : Nat) (l0_0 : List Int) (a0_1 : Int) (l1 : List (S33)) : Option (Bool) := if (l0_0.length : Int) > 20 then (hypercubelaw1_Few.j0 k l1 true) else (hypercubelaw1_Few.j0 k l1 (decide ((l1.length : Int) > 60)))
theorem hypercubelaw1_Few.mono_l : ∀ k, (∀ y0 y1, LeO (hypercubelaw1_Few.j0 k y0 y1) (hypercubelaw1_Few.j0 (k + 1) y0 y1)) ∧ (∀ y0 y1, LeO (hypercubelaw1_Few.l0 k y0 y1) (hypercubelaw1_Few.l0 (k + 1) y0 y1))
 | 0 => ⟨fun _ _ r h => by simp [hypercubelaw1_Few.j0] at h, fun _ _ r h => by simp [hypercubelaw1_Few.l0] at h⟩
 | k + 1 => by
  obtain ⟨ih0, ih1⟩ := hypercubelaw1_Few.mono_l k
  refine ⟨?_, ?_⟩
  ·intro y0 y1
   unfold hypercubelaw1_Few.j0
   repeat' first
   | (with_reducible exact ih0 _ _)
   | (with_reducible exact ih1 _ _)
   | (with_reducible exact LeO.refl _)
   | (with_reducible exact LeO.none _)
   | (with_reducible refine LeO.ite ?_ ?_)
   | (with_reducible refine LeO.bind ?_ (fun _ => ?_))
   | exact ih0 _ _
   | exact ih1 _ _
   | exact LeO.none _
   | refine LeO.ite ?_ ?_
   | refine LeO.bind ?_ (fun _ => ?_)
  ·intro y0 y1
   unfold hypercubelaw1_Few.l0
   repeat' first
   | (with_reducible exact ih0 _ _)
   | (with_reducible exact ih1 _ _)
   | (with_reducible exact LeO.refl _)
   | (with_reducible exact LeO.none _)
   | (with_reducible refine LeO.ite ?_ ?_)
   | (with_reducible refine LeO.bind ?_ (fun _ => ?_))
   | exact ih0 _ _
   | exact ih1 _ _
   | exact LeO.none _
   | refine LeO.ite ?_ ?_
   | refine LeO.bind ?_ (fun _ => ?_)
theorem hypercubelaw1_Few.mono : ∀ a0 a1 a2 k, LeO (hypercubelaw1_Few.f k a0 a1 a2) (hypercubelaw1_Few.f (k + 1) a0 a1 a2) := by
 intro a0 a1 a2 k
 obtain ⟨ih0, ih1⟩ := hypercubelaw1_Few.mono_l k
 unfold hypercubelaw1_Few.f
 repeat' first
   | (with_reducible exact ih0 _ _)
   | (with_reducible exact ih1 _ _)
   | (with_reducible exact LeO.refl _)
   | (with_reducible exact LeO.none _)
   | (with_reducible refine LeO.ite ?_ ?_)
   | (with_reducible refine LeO.bind ?_ (fun _ => ?_))
   | exact ih0 _ _
   | exact ih1 _ _
   | exact LeO.none _
   | refine LeO.ite ?_ ?_
   | refine LeO.bind ?_ (fun _ => ?_)
set_option maxHeartbeats 8000000 in
set_option maxRecDepth 100000 in
theorem hypercubelaw1_Few.calls (k : Nat) (A0_0 : Option Addr) (c0_0 : Nat) (l0_0 : List Int) (a0_1 : Int) (A1 : Option Addr) (c1 : Nat) (l1 : List (S33)) (r : Bool) (w : World) (hr0_0 : Kd.C (Kd.int .i64) w A0_0 l0_0.length l0_0) (hc0_0 : l0_0.length ≤ c0_0) (hr1 : Kd.C k33 w A1 l1.length l1) (hc1 : l1.length ≤ c1) (h : hypercubelaw1_Few.f k l0_0 a0_1 l1 = some r) :
  Calls Try.prog 15 #[.agg #[.slice A0_0 l0_0.length c0_0, .int .i64 a0_1], .slice A1 l1.length c1] w fun e w' => e = .returned (.bool r) ∧ Below w.heap.size w w' := by
 have hu24 := Try.underlying24
 have HR0_0 := Aside0.mk hr0_0
 have HC0_0 := Aside0.mk hc0_0
 clear hr0_0 hc0_0
 have HR1 := Aside0.mk hr1
 have HC1 := Aside0.mk hc1
 clear hr1 hc1
 have HB := Aside0.mk (Below.refl w.heap.size w)
 have H : (if (l0_0.length : Int) > 20 then (hypercubelaw1_Few.j0 k l1 true) else (hypercubelaw1_Few.j0 k l1 (decide ((l1.length : Int) > 60)))) = some r := h
 clear h
 have HC3 := Aside0.mk H
 clear H
 go_enter Try.func15, Try.ntmps15
 go_upto_region 1 with (first | ((with_reducible refine gate_dst (N := 2) rfl ?_); (try (refine gate_guard (by rfl) ?_; dsimp only)); refine box_event ?hg (N := 2) ?hd (cs := #[.slice A0_0 l0_0.length c0_0, .int .i64 a0_1]) (t := 24) ?hr ?_; (case hd => rfl); (case hg => rfl); (case hr => first | (go_simp; done) | (go_simp; rfl)); intro gb224 hg w4 hbox hb; have n0_ := Aside0.mk (below_step (by repeat (first | (with_reducible first | exact HB.out | apply below_alloc | apply pw_below_drewN | apply below_drew1) | exact HB.out)) hb); have n1_ := Aside0.mk (hbox); have n2_ := Aside0.mk ((by rw [hg]; exact (below_size (by repeat (first | (with_reducible first | exact HB.out | apply below_alloc | apply pw_below_drewN | apply below_drew1) | exact HB.out))) : w.heap.size ≤ gb224)); have n3_ := Aside0.mk ((by rw [hg]; exact (below_size (by repeat (first | (with_reducible first | exact HB.out | apply below_alloc | apply pw_below_drewN | apply below_drew1) | exact HB.out))) : w.heap.size ≤ gb224)); clear HB; have HB := n0_; have BK224 := n1_; have GW224 := n2_; have GE224 := n3_; clear n0_ n1_ n2_ n3_; clear hb hbox hg))
 (try simp only [Act.put, List.setIfInBounds_toArray, List.set_cons_zero, List.set_cons_succ])
 go_cut [14] (fun v14 wc => ∃ (kq : Nat) (x14_2 : Bool), v14 = .bool x14_2 ∧ Aside0 (hypercubelaw1_Few.j0 kq l1 x14_2 = some r) ∧ Aside0 (kq ≤ k) ∧ Aside0 (wc.heap[gb224]? = some (.cells #[(.slice A0_0 l0_0.length c0_0), .int .i64 a0_1] 24 (0, 0))) ∧ Aside0 (Below w.heap.size w wc))
 case first =>
  have H := HC3.out
  clear HC3
  by_cases c5 : (l0_0.length : Int) > 20
  ·rw [if_pos c5] at H
   have c5b0 : decide (20 < (l0_0.length : Int)) = true := decide_eq_true c5
   have c5b1 : decide (20 < l0_0.length) = true := decide_eq_true (by omega)
   clear c5
   (first | rw [c5b0] | (simp only [i64_w, i32_w]; rw [c5b0]) | skip)
   have H' := Aside0.mk H
   clear H
   have hcz6_0 : w4.cell? ⟨gb224, 0, none⟩ = some (.slice A0_0 l0_0.length c0_0) := (blk_cell BK224.out 0).trans rfl
   have hcz6_1 : w4.cell? ⟨gb224, 1, none⟩ = some (.int .i64 a0_1) := (blk_cell BK224.out 1).trans rfl
   have hfz6_0 := blk_frozen BK224.out 0
   have hfz6_1 := blk_frozen BK224.out 1
   go_wp2
   go_meet
   case rel => exact ⟨_, (true), (by first | rfl | (simp; done) | (simp [*]; done)), H', ⟨by first | omega | exact Nat.le_refl _⟩, ⟨by (with_reducible repeat (first | refine blk_drewN ?_ _ | refine blk_drew ?_ | refine blk_alloc ?_ _)); exact BK224.out⟩, ⟨by repeat (first | (with_reducible first | exact HB.out | apply below_alloc | apply pw_below_drewN | apply below_drew1 | refine below_set ?_ GE224.out) | exact HB.out)⟩⟩
  ·rw [if_neg c5] at H
   have c5b0 : decide (20 < (l0_0.length : Int)) = false := decide_eq_false c5
   have c5b1 : decide (20 < l0_0.length) = false := decide_eq_false (by omega)
   clear c5
   (first | rw [c5b0] | (simp only [i64_w, i32_w]; rw [c5b0]) | skip)
   have H' := Aside0.mk H
   clear H
   have hcz7_0 : w4.cell? ⟨gb224, 0, none⟩ = some (.slice A0_0 l0_0.length c0_0) := (blk_cell BK224.out 0).trans rfl
   have hcz7_1 : w4.cell? ⟨gb224, 1, none⟩ = some (.int .i64 a0_1) := (blk_cell BK224.out 1).trans rfl
   have hfz7_0 := blk_frozen BK224.out 0
   have hfz7_1 := blk_frozen BK224.out 1
   go_wp2
   go_meet
   case rel => exact ⟨_, (decide ((l1.length : Int) > 60)), (by first | rfl | (simp; done) | (simp [*]; done)), H', ⟨by first | omega | exact Nat.le_refl _⟩, ⟨by (with_reducible repeat (first | refine blk_drewN ?_ _ | refine blk_drew ?_ | refine blk_alloc ?_ _)); exact BK224.out⟩, ⟨by repeat (first | (with_reducible first | exact HB.out | apply below_alloc | apply pw_below_drewN | apply below_drew1 | refine below_set ?_ GE224.out) | exact HB.out)⟩⟩
 case rest =>
  clear HC3
  try clear c1
  try clear p2
  try clear c5
  try clear c5b0
  try clear c5b1
  try clear hcz6_0
  try clear hcz6_1
  try clear hcz7_0
  try clear hcz7_1
  try clear hfz6_0
  try clear hfz6_1
  try clear hfz7_0
  try clear hfz7_1
  obtain ⟨kq, x14_2, rfl, HA, HJ2, BK224, HB⟩ := hcut
  cases kq with
  | zero => exact absurd HA.out (by simp [hypercubelaw1_Few.j0])
  | succ kj2 =>
   have H := HA.out
   clear HA
   simp only [hypercubelaw1_Few.j0] at H
   by_cases c8 : x14_2 = true
   ·subst c8
    have H1 : (some false) = some r := by rw [if_pos rfl] at H; exact H
    clear H
    have H := H1
    clear H1
    obtain rfl := Option.some.inj H
    go_wp2
    go_ret
    exact ⟨by first | rfl | (simp [errW_none, errW_some] <;> rfl) | (simp [*, errW_none, errW_some] <;> rfl), by repeat (first | (with_reducible first | exact HB.out | apply below_alloc | apply pw_below_drewN | apply below_drew1 | refine below_set ?_ GE224.out) | exact HB.out)⟩
   ·replace c8 := Bool.eq_false_iff.mpr c8
    subst c8
    have H1 : (hypercubelaw1_Few.l0 kj2 l1 0) = some r := by rw [if_neg (show ¬ (false = true) by decide)] at H; exact H
    clear H
    have H := H1
    clear H1
    have H' := Aside0.mk H
    clear H
    go_wp2
    go_loopg [5] kj2 (fun kq v5 w' => ∃ (x5_2 : Int), v5 = .int .i64 x5_2 ∧ Aside0 (hypercubelaw1_Few.l0 kq l1 x5_2 = some r) ∧ Aside0 (kq ≤ kj2) ∧ Aside0 (w'.heap[gb224]? = some (.cells #[(.slice A0_0 l0_0.length c0_0), .int .i64 a0_1] 24 (0, 0))) ∧ Aside0 (Below w.heap.size w w'))
    case atStart => exact ⟨(0), (by first | rfl | (simp; done) | (simp [*]; done)), H', ⟨Nat.le_refl _⟩, ⟨by (with_reducible repeat (first | refine blk_drewN ?_ _ | refine blk_drew ?_ | refine blk_alloc ?_ _)); exact BK224.out⟩, ⟨by repeat (first | (with_reducible first | exact HB.out | apply below_alloc | apply pw_below_drewN | apply below_drew1 | refine below_set ?_ GE224.out) | exact HB.out)⟩⟩
    case round =>
     clear H'
     try clear c1
     try clear p2
     try clear c5
     try clear c5b0
     try clear c5b1
     try clear c8
     try clear hcz6_0
     try clear hcz6_1
     try clear hcz7_0
     try clear hcz7_1
     try clear hfz6_0
     try clear hfz6_1
     try clear hfz7_0
     try clear hfz7_1
     try clear p2
     obtain ⟨x5_2, rfl, HA, HK2, BK224, HB⟩ := hrel
     cases gk with
     | zero => exact absurd HA.out (by simp [hypercubelaw1_Few.l0])
     | succ k2 =>
      have H := HA.out
      clear HA
      simp only [hypercubelaw1_Few.l0] at H
      by_cases c9 : x5_2 < (l1.length : Int)
      ·rw [if_pos c9] at H
       have c9b0 : decide (x5_2 < (l1.length : Int)) = true := decide_eq_true c9
       clear c9
       by_cases c10 : 0 ≤ x5_2
       ·rw [if_pos c10] at H
        have c10b0 : decide (0 ≤ x5_2) = true := decide_eq_true c10
        clear c10
        by_cases c11 : (((rd_T33 l1 x5_2).f0).length : Int) > 20
        ·rw [if_pos c11] at H
         have c11b0 : decide (20 < (((rd_T33 l1 x5_2).f0).length : Int)) = true := decide_eq_true c11
         have c11b1 : decide (20 < ((rd_T33 l1 x5_2).f0).length) = true := decide_eq_true (by omega)
         clear c11
         obtain rfl := Option.some.inj H
         have p225 : 0 ≤ (x5_2 : Int) := of_decide_eq_true (by first | (with_reducible assumption) | assumption)
         have q225 : x5_2 < (l1.length : Int) := of_decide_eq_true (by first | (with_reducible assumption) | assumption)
         obtain ⟨ad225, A225_0, c225_0, A225_1, c225_1, e225, hx225_0, hx225_1, hl225_0, hi225_0, hl225_1, hi225_1⟩ := at_T33 HR1.out x5_2 p225 q225
         cases e225
         replace hx225_0 := (HB.out.cell (World.block_lt_of_cell? w _ hx225_0)).trans hx225_0
         replace hx225_1 := (HB.out.cell (World.block_lt_of_cell? w _ hx225_1)).trans hx225_1
         have HR225_0 := Aside0.mk hi225_0
         have HC225_0 := Aside0.mk hl225_0
         clear hi225_0 hl225_0
         have HR225_1 := Aside0.mk hi225_1
         have HC225_1 := Aside0.mk hl225_1
         clear hi225_1 hl225_1
         replace p225 := eq_true p225
         replace q225 := eq_true q225
         go_wp2
         go_ret
         exact ⟨by first | rfl | (simp [errW_none, errW_some] <;> rfl) | (simp [*, errW_none, errW_some] <;> rfl), by repeat (first | (with_reducible first | exact HB.out | apply below_alloc | apply pw_below_drewN | apply below_drew1 | refine below_set ?_ GE224.out) | exact HB.out)⟩
        ·rw [if_neg c11] at H
         have c11b0 : decide (20 < (((rd_T33 l1 x5_2).f0).length : Int)) = false := decide_eq_false c11
         have c11b1 : decide (20 < ((rd_T33 l1 x5_2).f0).length) = false := decide_eq_false (by omega)
         clear c11
         by_cases c12 : (((rd_T33 l1 x5_2).f1).length : Int) > 20
         ·rw [if_pos c12] at H
          have c12b0 : decide (20 < (((rd_T33 l1 x5_2).f1).length : Int)) = true := decide_eq_true c12
          have c12b1 : decide (20 < ((rd_T33 l1 x5_2).f1).length) = true := decide_eq_true (by omega)
          clear c12
          obtain rfl := Option.some.inj H
          have p225 : 0 ≤ (x5_2 : Int) := of_decide_eq_true (by first | (with_reducible assumption) | assumption)
          have q225 : x5_2 < (l1.length : Int) := of_decide_eq_true (by first | (with_reducible assumption) | assumption)
          obtain ⟨ad225, A225_0, c225_0, A225_1, c225_1, e225, hx225_0, hx225_1, hl225_0, hi225_0, hl225_1, hi225_1⟩ := at_T33 HR1.out x5_2 p225 q225
          cases e225
          replace hx225_0 := (HB.out.cell (World.block_lt_of_cell? w _ hx225_0)).trans hx225_0
          replace hx225_1 := (HB.out.cell (World.block_lt_of_cell? w _ hx225_1)).trans hx225_1
          have HR225_0 := Aside0.mk hi225_0
          have HC225_0 := Aside0.mk hl225_0
          clear hi225_0 hl225_0
          have HR225_1 := Aside0.mk hi225_1
          have HC225_1 := Aside0.mk hl225_1
          clear hi225_1 hl225_1
          replace p225 := eq_true p225
          replace q225 := eq_true q225
          have p226 : 0 ≤ (x5_2 : Int) := of_decide_eq_true (by first | (with_reducible assumption) | assumption)
          have q226 : x5_2 < (l1.length : Int) := of_decide_eq_true (by first | (with_reducible assumption) | assumption)
          obtain ⟨ad226, A226_0, c226_0, A226_1, c226_1, e226, hx226_0, hx226_1, hl226_0, hi226_0, hl226_1, hi226_1⟩ := at_T33 HR1.out x5_2 p226 q226
          obtain rfl : ad225 = ad226 := (by injection e226)
          replace hx226_0 := (HB.out.cell (World.block_lt_of_cell? w _ hx226_0)).trans hx226_0
          replace hx226_1 := (HB.out.cell (World.block_lt_of_cell? w _ hx226_1)).trans hx226_1
          have HR226_0 := Aside0.mk hi226_0
          have HC226_0 := Aside0.mk hl226_0
          clear hi226_0 hl226_0
          have HR226_1 := Aside0.mk hi226_1
          have HC226_1 := Aside0.mk hl226_1
          clear hi226_1 hl226_1
          replace p226 := eq_true p226
          replace q226 := eq_true q226
          have ea_ := Option.some.inj (hx225_0.symm.trans hx226_0)
          injection ea_ with ea_ en_ ec_
          subst ea_
          subst ec_
          clear en_
          have ea_ := Option.some.inj (hx225_1.symm.trans hx226_1)
          injection ea_ with ea_ en_ ec_
          subst ea_
          subst ec_
          clear en_
          go_wp2
          go_ret
          exact ⟨by first | rfl | (simp [errW_none, errW_some] <;> rfl) | (simp [*, errW_none, errW_some] <;> rfl), by repeat (first | (with_reducible first | exact HB.out | apply below_alloc | apply pw_below_drewN | apply below_drew1 | refine below_set ?_ GE224.out) | exact HB.out)⟩
         ·rw [if_neg c12] at H
          have c12b0 : decide (20 < (((rd_T33 l1 x5_2).f1).length : Int)) = false := decide_eq_false c12
          have c12b1 : decide (20 < ((rd_T33 l1 x5_2).f1).length) = false := decide_eq_false (by omega)
          clear c12
          have H' := Aside0.mk H
          clear H
          have p225 : 0 ≤ (x5_2 : Int) := of_decide_eq_true (by first | (with_reducible assumption) | assumption)
          have q225 : x5_2 < (l1.length : Int) := of_decide_eq_true (by first | (with_reducible assumption) | assumption)
          obtain ⟨ad225, A225_0, c225_0, A225_1, c225_1, e225, hx225_0, hx225_1, hl225_0, hi225_0, hl225_1, hi225_1⟩ := at_T33 HR1.out x5_2 p225 q225
          cases e225
          replace hx225_0 := (HB.out.cell (World.block_lt_of_cell? w _ hx225_0)).trans hx225_0
          replace hx225_1 := (HB.out.cell (World.block_lt_of_cell? w _ hx225_1)).trans hx225_1
          have HR225_0 := Aside0.mk hi225_0
          have HC225_0 := Aside0.mk hl225_0
          clear hi225_0 hl225_0
          have HR225_1 := Aside0.mk hi225_1
          have HC225_1 := Aside0.mk hl225_1
          clear hi225_1 hl225_1
          replace p225 := eq_true p225
          replace q225 := eq_true q225
          have p226 : 0 ≤ (x5_2 : Int) := of_decide_eq_true (by first | (with_reducible assumption) | assumption)
          have q226 : x5_2 < (l1.length : Int) := of_decide_eq_true (by first | (with_reducible assumption) | assumption)
          obtain ⟨ad226, A226_0, c226_0, A226_1, c226_1, e226, hx226_0, hx226_1, hl226_0, hi226_0, hl226_1, hi226_1⟩ := at_T33 HR1.out x5_2 p226 q226
          obtain rfl : ad225 = ad226 := (by injection e226)
          replace hx226_0 := (HB.out.cell (World.block_lt_of_cell? w _ hx226_0)).trans hx226_0
          replace hx226_1 := (HB.out.cell (World.block_lt_of_cell? w _ hx226_1)).trans hx226_1
          have HR226_0 := Aside0.mk hi226_0
          have HC226_0 := Aside0.mk hl226_0
          clear hi226_0 hl226_0
          have HR226_1 := Aside0.mk hi226_1
          have HC226_1 := Aside0.mk hl226_1
          clear hi226_1 hl226_1
          replace p226 := eq_true p226
          replace q226 := eq_true q226
          have ea_ := Option.some.inj (hx225_0.symm.trans hx226_0)
          injection ea_ with ea_ en_ ec_
          subst ea_
          subst ec_
          clear en_
          have ea_ := Option.some.inj (hx225_1.symm.trans hx226_1)
          injection ea_ with ea_ en_ ec_
          subst ea_
          subst ec_
          clear en_
          go_wp2
          go_roundg k2
          case measure => have := HJ2.out; have := HK2.out; omega
          case rel => exact ⟨(wrap64 (x5_2 + 1)), (by first | rfl | (simp; done) | (simp [*]; done)), H', ⟨by have := HJ2.out; have := HK2.out; omega⟩, ⟨by (with_reducible repeat (first | refine blk_drewN ?_ _ | refine blk_drew ?_ | refine blk_alloc ?_ _)); exact BK224.out⟩, ⟨by repeat (first | (with_reducible first | exact HB.out | apply below_alloc | apply pw_below_drewN | apply below_drew1 | refine below_set ?_ GE224.out) | exact HB.out)⟩⟩
       ·rw [if_neg c10] at H
        exact absurd H (by simp)
      ·rw [if_neg c9] at H
       have c9b0 : decide (x5_2 < (l1.length : Int)) = false := decide_eq_false c9
       clear c9
       obtain rfl := Option.some.inj H
       go_wp2
       go_ret
       exact ⟨by first | rfl | (simp [errW_none, errW_some] <;> rfl) | (simp [*, errW_none, errW_some] <;> rfl), by repeat (first | (with_reducible first | exact HB.out | apply below_alloc | apply pw_below_drewN | apply below_drew1 | refine below_set ?_ GE224.out) | exact HB.out)⟩

/-! ### hypercubelaw1_within: function 21 -/
def hypercubelaw1_within.f (a0 : Int) (a1 : Int) : Option (Int) := if a1 = 0 then (none) else (if (Int.tmod a0 a1) < 0 then (some (wrap64 ((Int.tmod a0 a1) + a1))) else (some (Int.tmod a0 a1)))
set_option maxHeartbeats 8000000 in
set_option maxRecDepth 100000 in
theorem hypercubelaw1_within.calls (a0 : Int) (a1 : Int) (r : Int) (w : World) (h : hypercubelaw1_within.f a0 a1 = some r) :
  Calls Try.prog 21 #[.int .i64 a0, .int .i64 a1] w fun e w' => e = .returned (.int .i64 r) ∧ Drawn0 w w' := by
 have H : (if a1 = 0 then (none) else (if (Int.tmod a0 a1) < 0 then (some (wrap64 ((Int.tmod a0 a1) + a1))) else (some (Int.tmod a0 a1)))) = some r := h
 clear h
 by_cases c3 : a1 = 0
 ·rw [if_pos c3] at H
  exact absurd H (by simp)
 ·rw [if_neg c3] at H
  have c3b0 : (a1 == 0) = false := beq_eq_false_iff_ne.mpr c3
  have c3b1 : (a1 != 0) = true := bne_iff_ne.mpr c3
  by_cases c4 : (Int.tmod a0 a1) < 0
  ·rw [if_pos c4] at H
   have c4b0 : decide ((Int.tmod a0 a1) < 0) = true := decide_eq_true c4
   clear c4
   obtain rfl := Option.some.inj H
   go_enter Try.func21, Try.ntmps21
   go_wp2
   go_ret
   exact ⟨by first | rfl | (simp; done) | (simp [*]; done), by repeat (first | exact Drawn0.refl _ | apply Drawn0.step)⟩
  ·rw [if_neg c4] at H
   have c4b0 : decide ((Int.tmod a0 a1) < 0) = false := decide_eq_false c4
   clear c4
   obtain rfl := Option.some.inj H
   go_enter Try.func21, Try.ntmps21
   go_wp2
   go_ret
   exact ⟨by first | rfl | (simp; done) | (simp [*]; done), by repeat (first | exact Drawn0.refl _ | apply Drawn0.step)⟩

end Go.Proofs.Ytlacfpbfnedgdaa.Q
