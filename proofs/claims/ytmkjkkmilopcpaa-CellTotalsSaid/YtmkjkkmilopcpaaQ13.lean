-- written by wip/tools/xprint.py (a program of this session, over the kit's printer)
import Derived.Test.YtmkjkkmilopcpaaQ0
import Derived.Test.YtmkjkkmilopcpaaQ6
import Derived.Test.YtmkjkkmilopcpaaQ7
import Derived.Test.YtmkjkkmilopcpaaXCellKnown
import Derived.Test.YtmkjkkmilopcpaaXGroup
import Derived.Test.YtmkjkkmilopcpaaXOf
namespace Go.Proofs.Ytmkjkkmilopcpaa.Q
open Go.RowKit Go.Proofs.YtmkjkkmilopcpaaW.PrintWords Go.Proofs.YtmkjkkmilopcpaaW.PrintLast Go.Proofs.YtmkjkkmilopcpaaW.PrintMore
attribute [local go_sem] max2_int min2_int max_two min_two max_three min_three max_four min_four   -- for this text's walks alone
set_option linter.unusedVariables false
set_option linter.unusedSimpArgs false

/-! ### hypercubelaw2_CellTotals: function 9 -/
mutual
def hypercubelaw2_CellTotals.l0 : Nat → List Int → List (S30) → Int → Int → Int → Int → Option (Bool)
 | 0, _, _, _, _, _, _ => none
 | k + 1, x0, x3, x4, x5, x6, x7 => if x7 < (x0.length : Int) then (hypercubelaw2_CellTotals.j1 k x0 x3 x4 x5 x6 x7 (decide (x7 < 60))) else (hypercubelaw2_CellTotals.j1 k x0 x3 x4 x5 x6 x7 false)
def hypercubelaw2_CellTotals.j1 : Nat → List Int → List (S30) → Int → Int → Int → Int → Bool → Option (Bool)
 | 0, _, _, _, _, _, _, _ => none
 | k + 1, x0, x3, x4, x5, x6, x7, x19 => if x19 = true then (if 0 ≤ x7 then (if x7 < (x0.length : Int) then ((hypercubelaw2_within.f (rd x0 x7) 2001).bind fun t781 => ((cell_Of.f (([1, 2] : List Int)) (([wrap64 (t781 - 1000)] : List Int)) 0).bind fun bt788 => (if x3.length < 1353245080339 then ((some (x3 ++ [(⟨bt788.1, bt788.2.1, bt788.2.2.1, bt788.2.2.2.1, bt788.2.2.2.2⟩ : S30)] : List (S30))).bind fun y801 => (if x7 = 0 then (hypercubelaw2_CellTotals.j2 k x0 y801 (wrap64 (x4 + (wrap64 (t781 - 1000)))) x5 x6 x7 (wrap64 (t781 - 1000)) true) else (hypercubelaw2_CellTotals.j2 k x0 y801 (wrap64 (x4 + (wrap64 (t781 - 1000)))) x5 x6 x7 (wrap64 (t781 - 1000)) (decide ((wrap64 (t781 - 1000)) < x5))))) else (none)))) else (none)) else (none)) else ((cell_Group.f k x3).bind fun t804 => (if (x3.length : Int) = 0 then (some ((t804.length : Int) == 0)) else (if (t804.length : Int) = 1 then (if 0 < (t804.length : Int) then ((hypercuberef2_Equal.f k ((rd_T30 t804 0).f0) ((rd_T30 t804 0).f1) ((rd_T30 t804 0).f2) ((rd_T30 t804 0).f3) ((rd_T30 t804 0).f4) ([] : List Int) (x3.length : Int) (([x4] : List Int)) (([x5] : List Int)) (([x6] : List Int))).bind fun t817 => (some t817)) else (none)) else (none))))
def hypercubelaw2_CellTotals.j2 : Nat → List Int → List (S30) → Int → Int → Int → Int → Int → Bool → Option (Bool)
 | 0, _, _, _, _, _, _, _, _ => none
 | k + 1, x0, x3, x4, x5, x6, x7, x8, x45 => if x45 = true then (if x7 = 0 then (hypercubelaw2_CellTotals.l0 k x0 x3 x4 x8 x8 (wrap64 (x7 + 1))) else (if x8 > x6 then (hypercubelaw2_CellTotals.l0 k x0 x3 x4 x8 x8 (wrap64 (x7 + 1))) else (hypercubelaw2_CellTotals.l0 k x0 x3 x4 x8 x6 (wrap64 (x7 + 1))))) else (if x7 = 0 then (hypercubelaw2_CellTotals.l0 k x0 x3 x4 x5 x8 (wrap64 (x7 + 1))) else (if x8 > x6 then (hypercubelaw2_CellTotals.l0 k x0 x3 x4 x5 x8 (wrap64 (x7 + 1))) else (hypercubelaw2_CellTotals.l0 k x0 x3 x4 x5 x6 (wrap64 (x7 + 1)))))
end
def hypercubelaw2_CellTotals.f (k : Nat) (l0 : List Int) : Option (Bool) := (hypercubelaw2_known.f).bind fun t779 => (if t779 = true then (hypercubelaw2_CellTotals.l0 k l0 ([] : List (S30)) 0 0 0 0) else (none))
theorem hypercubelaw2_CellTotals.mono_l : ∀ k, (∀ y0 y1 y2 y3 y4 y5, LeO (hypercubelaw2_CellTotals.l0 k y0 y1 y2 y3 y4 y5) (hypercubelaw2_CellTotals.l0 (k + 1) y0 y1 y2 y3 y4 y5)) ∧ (∀ y0 y1 y2 y3 y4 y5 y6, LeO (hypercubelaw2_CellTotals.j1 k y0 y1 y2 y3 y4 y5 y6) (hypercubelaw2_CellTotals.j1 (k + 1) y0 y1 y2 y3 y4 y5 y6)) ∧ (∀ y0 y1 y2 y3 y4 y5 y6 y7, LeO (hypercubelaw2_CellTotals.j2 k y0 y1 y2 y3 y4 y5 y6 y7) (hypercubelaw2_CellTotals.j2 (k + 1) y0 y1 y2 y3 y4 y5 y6 y7))
 | 0 => ⟨fun _ _ _ _ _ _ r h => by simp [hypercubelaw2_CellTotals.l0] at h, fun _ _ _ _ _ _ _ r h => by simp [hypercubelaw2_CellTotals.j1] at h, fun _ _ _ _ _ _ _ _ r h => by simp [hypercubelaw2_CellTotals.j2] at h⟩
 | k + 1 => by
  obtain ⟨ih0, ih1, ih2⟩ := hypercubelaw2_CellTotals.mono_l k
  refine ⟨?_, ?_, ?_⟩
  ·intro y0 y1 y2 y3 y4 y5
   unfold hypercubelaw2_CellTotals.l0
   repeat' first
   | (with_reducible exact ih0 _ _ _ _ _ _)
   | (with_reducible exact ih1 _ _ _ _ _ _ _)
   | (with_reducible exact ih2 _ _ _ _ _ _ _ _)
   | (with_reducible exact cell_Group.mono _ _)
   | (with_reducible exact hypercuberef2_Equal.mono _ _ _ _ _ _ _ _ _ _ _)
   | (with_reducible exact LeO.refl _)
   | (with_reducible exact LeO.none _)
   | (with_reducible refine LeO.ite ?_ ?_)
   | (with_reducible refine LeO.bind ?_ (fun _ => ?_))
   | exact ih0 _ _ _ _ _ _
   | exact ih1 _ _ _ _ _ _ _
   | exact ih2 _ _ _ _ _ _ _ _
   | exact cell_Group.mono _ _
   | exact hypercuberef2_Equal.mono _ _ _ _ _ _ _ _ _ _ _
   | exact LeO.none _
   | refine LeO.ite ?_ ?_
   | refine LeO.bind ?_ (fun _ => ?_)
  ·intro y0 y1 y2 y3 y4 y5 y6
   unfold hypercubelaw2_CellTotals.j1
   repeat' first
   | (with_reducible exact ih0 _ _ _ _ _ _)
   | (with_reducible exact ih1 _ _ _ _ _ _ _)
   | (with_reducible exact ih2 _ _ _ _ _ _ _ _)
   | (with_reducible exact cell_Group.mono _ _)
   | (with_reducible exact hypercuberef2_Equal.mono _ _ _ _ _ _ _ _ _ _ _)
   | (with_reducible exact LeO.refl _)
   | (with_reducible exact LeO.none _)
   | (with_reducible refine LeO.ite ?_ ?_)
   | (with_reducible refine LeO.bind ?_ (fun _ => ?_))
   | exact ih0 _ _ _ _ _ _
   | exact ih1 _ _ _ _ _ _ _
   | exact ih2 _ _ _ _ _ _ _ _
   | exact cell_Group.mono _ _
   | exact hypercuberef2_Equal.mono _ _ _ _ _ _ _ _ _ _ _
   | exact LeO.none _
   | refine LeO.ite ?_ ?_
   | refine LeO.bind ?_ (fun _ => ?_)
  ·intro y0 y1 y2 y3 y4 y5 y6 y7
   unfold hypercubelaw2_CellTotals.j2
   repeat' first
   | (with_reducible exact ih0 _ _ _ _ _ _)
   | (with_reducible exact ih1 _ _ _ _ _ _ _)
   | (with_reducible exact ih2 _ _ _ _ _ _ _ _)
   | (with_reducible exact cell_Group.mono _ _)
   | (with_reducible exact hypercuberef2_Equal.mono _ _ _ _ _ _ _ _ _ _ _)
   | (with_reducible exact LeO.refl _)
   | (with_reducible exact LeO.none _)
   | (with_reducible refine LeO.ite ?_ ?_)
   | (with_reducible refine LeO.bind ?_ (fun _ => ?_))
   | exact ih0 _ _ _ _ _ _
   | exact ih1 _ _ _ _ _ _ _
   | exact ih2 _ _ _ _ _ _ _ _
   | exact cell_Group.mono _ _
   | exact hypercuberef2_Equal.mono _ _ _ _ _ _ _ _ _ _ _
   | exact LeO.none _
   | refine LeO.ite ?_ ?_
   | refine LeO.bind ?_ (fun _ => ?_)
theorem hypercubelaw2_CellTotals.mono : ∀ a0 k, LeO (hypercubelaw2_CellTotals.f k a0) (hypercubelaw2_CellTotals.f (k + 1) a0) := by
 intro a0 k
 obtain ⟨ih0, ih1, ih2⟩ := hypercubelaw2_CellTotals.mono_l k
 unfold hypercubelaw2_CellTotals.f
 repeat' first
   | (with_reducible exact ih0 _ _ _ _ _ _)
   | (with_reducible exact ih1 _ _ _ _ _ _ _)
   | (with_reducible exact ih2 _ _ _ _ _ _ _ _)
   | (with_reducible exact cell_Group.mono _ _)
   | (with_reducible exact hypercuberef2_Equal.mono _ _ _ _ _ _ _ _ _ _ _)
   | (with_reducible exact LeO.refl _)
   | (with_reducible exact LeO.none _)
   | (with_reducible refine LeO.ite ?_ ?_)
   | (with_reducible refine LeO.bind ?_ (fun _ => ?_))
   | exact ih0 _ _ _ _ _ _
   | exact ih1 _ _ _ _ _ _ _
   | exact ih2 _ _ _ _ _ _ _ _
   | exact cell_Group.mono _ _
   | exact hypercuberef2_Equal.mono _ _ _ _ _ _ _ _ _ _ _
   | exact LeO.none _
   | refine LeO.ite ?_ ?_
   | refine LeO.bind ?_ (fun _ => ?_)
set_option maxHeartbeats 8000000 in
set_option maxRecDepth 100000 in
theorem hypercubelaw2_CellTotals.calls (k : Nat) (A0 : Option Addr) (c0 : Nat) (l0 : List Int) (r : Bool) (w : World) (hr0 : Kd.C (Kd.int .i64) w A0 l0.length l0) (hc0 : l0.length ≤ c0) (h : hypercubelaw2_CellTotals.f k l0 = some r) :
  Calls Try.prog 9 #[.slice A0 l0.length c0] w fun e w' => e = .returned (.bool r) ∧ Below w.heap.size w w' := by
 have hu45 := Try.underlying45
 have hu30 := Try.underlying30
 have HR0 := Aside0.mk hr0
 have HC0 := Aside0.mk hc0
 clear hr0 hc0
 have HB := Aside0.mk (Below.refl w.heap.size w)
 have H : ((hypercubelaw2_known.f).bind fun t779 => (if t779 = true then (hypercubelaw2_CellTotals.l0 k l0 ([] : List (S30)) 0 0 0 0) else (none))) = some r := h
 clear h
 replace H := Option.bind_eq_some_iff.mp H
 obtain ⟨t779, A20, H⟩ := H
 replace H : (if t779 = true then (hypercubelaw2_CellTotals.l0 k l0 ([] : List (S30)) 0 0 0 0) else (none)) = some r := H
 have A2 := Aside0.mk A20
 clear A20
 by_cases c3 : t779 = true
 ·subst c3
  have H1 : (hypercubelaw2_CellTotals.l0 k l0 ([] : List (S30)) 0 0 0 0) = some r := by rw [if_pos rfl] at H; exact H
  clear H
  have H := H1
  clear H1
  have H' := Aside0.mk H
  clear H
  go_enter Try.func9, Try.ntmps9
  go_wp2_with (first | ((with_reducible refine gate_callee (f := 16) rfl ?_); refine goesL_ (some 10) rfl rfl Try.func16 (by kernel_rfl) rfl #[] rfl (by (try simp only [List.map_toArray, List.map_cons, List.map_nil]); first | done | rfl | (simp only [List.length_drop, List.length_take]; rfl)) ?_; (with_reducible refine (hypercubelaw2_known.calls  true _ A2.out).mono ?_); rintro e w4 ⟨rfl, hb⟩; refine ⟨_, rfl, ?_⟩; have n0_ := Aside0.mk (below_step (by repeat (first | (with_reducible first | exact HB.out | apply below_alloc | apply pw_below_drewN | apply below_drew1) | exact HB.out)) hb); clear HB; have HB := n0_; clear n0_; (try clear hb); (try clear hb2); (try clear hk); (try clear hi)))
  go_loopg [3, 4, 5, 6, 7] k (fun kq v3 v4 v5 v6 v7 w' => ∃ (x3_1 : List (S30)) (x4_1 : Int) (x5_1 : Int) (x6_1 : Int) (x7_1 : Int), v4 = .int .i64 x4_1 ∧ v5 = .int .i64 x5_1 ∧ v6 = .int .i64 x6_1 ∧ v7 = .int .i64 x7_1 ∧ Aside0 (hypercubelaw2_CellTotals.l0 kq l0 x3_1 x4_1 x5_1 x6_1 x7_1 = some r) ∧ Aside0 (kq ≤ k) ∧ Aside0 (Kd.S k30 30 w' w.heap.size (fun _ => True) v3 x3_1) ∧ Aside0 (Below w.heap.size w w'))
  case atStart => exact ⟨(([] : List (S30))), (0), (0), (0), (0), (by first | rfl | (simp; done) | (simp [*]; done)), (by first | rfl | (simp; done) | (simp [*]; done)), (by first | rfl | (simp; done) | (simp [*]; done)), (by first | rfl | (simp; done) | (simp [*]; done)), H', ⟨Nat.le_refl _⟩, ⟨by first | exact Kd.S_nil _ _ _ _ _ | exact Kd.N_nil _ _ _ _ _ | exact Kd.V_nil _ _ _ _ _ | exact Kd.Q_nil _ _ _ _ _ | exact Kd.R_nil _ _ _ _ _⟩, ⟨by repeat (first | (with_reducible first | exact HB.out | apply below_alloc | apply pw_below_drewN | apply below_drew1) | exact HB.out)⟩⟩
  case round =>
   clear H'
   try clear c1
   try clear p2
   try clear c3
   obtain ⟨x3_1, x4_1, x5_1, x6_1, x7_1, rfl, rfl, rfl, rfl, HA, HK1, HO_3, HB⟩ := hrel
   cases gk with
   | zero => exact absurd HA.out (by simp [hypercubelaw2_CellTotals.l0])
   | succ k1 =>
    have H := HA.out
    clear HA
    simp only [hypercubelaw2_CellTotals.l0] at H
    have HC5 := Aside0.mk H
    clear H
    go_upto_region 6 with (fail)
    go_cut [19] (fun v19 wc => ∃ (kq : Nat) (x19_4 : Bool), v19 = .bool x19_4 ∧ Aside0 (hypercubelaw2_CellTotals.j1 kq l0 x3_1 x4_1 x5_1 x6_1 x7_1 x19_4 = some r) ∧ Aside0 (kq ≤ k1) ∧ Aside0 (Kd.S k30 30 wc w.heap.size (fun _ => True) u3 x3_1) ∧ Aside0 (Below w.heap.size w wc))
    case first =>
     have H := HC5.out
     clear HC5
     by_cases c6 : x7_1 < (l0.length : Int)
     ·rw [if_pos c6] at H
      have c6b0 : decide (x7_1 < (l0.length : Int)) = true := decide_eq_true c6
      clear c6
      (first | rw [c6b0] | (simp only [i64_w, i32_w]; rw [c6b0]) | skip)
      have H' := Aside0.mk H
      clear H
      go_wp2
      go_meet
      case rel => exact ⟨_, (decide (x7_1 < 60)), (by first | rfl | (simp; done) | (simp [*]; done)), H', ⟨by have := HK1.out; first | omega | exact Nat.le_refl _⟩, ⟨by (with_reducible repeat (first | apply Kd.S_alloc | apply Kd.S_drewN | apply Kd.S_drew)); exact HO_3.out⟩, ⟨by repeat (first | (with_reducible first | exact HB.out | apply below_alloc | apply pw_below_drewN | apply below_drew1) | exact HB.out)⟩⟩
     ·rw [if_neg c6] at H
      have c6b0 : decide (x7_1 < (l0.length : Int)) = false := decide_eq_false c6
      clear c6
      (first | rw [c6b0] | (simp only [i64_w, i32_w]; rw [c6b0]) | skip)
      have H' := Aside0.mk H
      clear H
      go_wp2
      go_meet
      case rel => exact ⟨_, (false), (by first | rfl | (simp; done) | (simp [*]; done)), H', ⟨by have := HK1.out; first | omega | exact Nat.le_refl _⟩, ⟨by (with_reducible repeat (first | apply Kd.S_alloc | apply Kd.S_drewN | apply Kd.S_drew)); exact HO_3.out⟩, ⟨by repeat (first | (with_reducible first | exact HB.out | apply below_alloc | apply pw_below_drewN | apply below_drew1) | exact HB.out)⟩⟩
    case rest =>
     clear HC5
     try clear c1
     try clear p2
     try clear c3
     try clear c6
     try clear c6b0
     try clear p2
     obtain ⟨kq, x19_4, rfl, HA, HJ4, HO_3, HB⟩ := hcut
     cases kq with
     | zero => exact absurd HA.out (by simp [hypercubelaw2_CellTotals.j1])
     | succ kj4 =>
      have H := HA.out
      clear HA
      simp only [hypercubelaw2_CellTotals.j1] at H
      by_cases c7 : x19_4 = true
      ·subst c7
       have H1 : (if 0 ≤ x7_1 then (if x7_1 < (l0.length : Int) then ((hypercubelaw2_within.f (rd l0 x7_1) 2001).bind fun t781 => ((cell_Of.f (([1, 2] : List Int)) (([wrap64 (t781 - 1000)] : List Int)) 0).bind fun bt788 => (if x3_1.length < 1353245080339 then ((some (x3_1 ++ [(⟨bt788.1, bt788.2.1, bt788.2.2.1, bt788.2.2.2.1, bt788.2.2.2.2⟩ : S30)] : List (S30))).bind fun y801 => (if x7_1 = 0 then (hypercubelaw2_CellTotals.j2 kj4 l0 y801 (wrap64 (x4_1 + (wrap64 (t781 - 1000)))) x5_1 x6_1 x7_1 (wrap64 (t781 - 1000)) true) else (hypercubelaw2_CellTotals.j2 kj4 l0 y801 (wrap64 (x4_1 + (wrap64 (t781 - 1000)))) x5_1 x6_1 x7_1 (wrap64 (t781 - 1000)) (decide ((wrap64 (t781 - 1000)) < x5_1))))) else (none)))) else (none)) else (none)) = some r := by rw [if_pos rfl] at H; exact H
       clear H
       have H := H1
       clear H1
       by_cases c8 : 0 ≤ x7_1
       ·rw [if_pos c8] at H
        have c8b0 : decide (0 ≤ x7_1) = true := decide_eq_true c8
        clear c8
        by_cases c9 : x7_1 < (l0.length : Int)
        ·rw [if_pos c9] at H
         have c9b0 : decide (x7_1 < (l0.length : Int)) = true := decide_eq_true c9
         clear c9
         replace H := Option.bind_eq_some_iff.mp H
         obtain ⟨t781, A100, H⟩ := H
         replace H : ((cell_Of.f (([1, 2] : List Int)) (([wrap64 (t781 - 1000)] : List Int)) 0).bind fun bt788 => (if x3_1.length < 1353245080339 then ((some (x3_1 ++ [(⟨bt788.1, bt788.2.1, bt788.2.2.1, bt788.2.2.2.1, bt788.2.2.2.2⟩ : S30)] : List (S30))).bind fun y801 => (if x7_1 = 0 then (hypercubelaw2_CellTotals.j2 kj4 l0 y801 (wrap64 (x4_1 + (wrap64 (t781 - 1000)))) x5_1 x6_1 x7_1 (wrap64 (t781 - 1000)) true) else (hypercubelaw2_CellTotals.j2 kj4 l0 y801 (wrap64 (x4_1 + (wrap64 (t781 - 1000)))) x5_1 x6_1 x7_1 (wrap64 (t781 - 1000)) (decide ((wrap64 (t781 - 1000)) < x5_1))))) else (none))) = some r := H
         have A10 := Aside0.mk A100
         clear A100
         obtain ⟨y782, hy782⟩ : ∃ y_ : List Int, y_ = (([1, 2] : List Int)) := ⟨_, rfl⟩
         replace H : ((cell_Of.f y782 (([wrap64 (t781 - 1000)] : List Int)) 0).bind fun bt788 => (if x3_1.length < 1353245080339 then ((some (x3_1 ++ [(⟨bt788.1, bt788.2.1, bt788.2.2.1, bt788.2.2.2.1, bt788.2.2.2.2⟩ : S30)] : List (S30))).bind fun y801 => (if x7_1 = 0 then (hypercubelaw2_CellTotals.j2 kj4 l0 y801 (wrap64 (x4_1 + (wrap64 (t781 - 1000)))) x5_1 x6_1 x7_1 (wrap64 (t781 - 1000)) true) else (hypercubelaw2_CellTotals.j2 kj4 l0 y801 (wrap64 (x4_1 + (wrap64 (t781 - 1000)))) x5_1 x6_1 x7_1 (wrap64 (t781 - 1000)) (decide ((wrap64 (t781 - 1000)) < x5_1))))) else (none))) = some r := by first | (rw [hy782]; with_reducible exact H) | (have H2_ := (Option.bind_some _ _).symm.trans H; rw [hy782]; with_reducible exact H2_) | (have H2_ := (Option.bind_some _ _).symm.trans H; with_reducible exact H2_) | with_reducible exact H | (rw [hy782]; exact H) | exact H
         have Ny782 := Aside0.mk hy782
         clear hy782
         obtain ⟨y785, hy785⟩ : ∃ y_ : List Int, y_ = (([wrap64 (t781 - 1000)] : List Int)) := ⟨_, rfl⟩
         replace H : ((cell_Of.f y782 y785 0).bind fun bt788 => (if x3_1.length < 1353245080339 then ((some (x3_1 ++ [(⟨bt788.1, bt788.2.1, bt788.2.2.1, bt788.2.2.2.1, bt788.2.2.2.2⟩ : S30)] : List (S30))).bind fun y801 => (if x7_1 = 0 then (hypercubelaw2_CellTotals.j2 kj4 l0 y801 (wrap64 (x4_1 + (wrap64 (t781 - 1000)))) x5_1 x6_1 x7_1 (wrap64 (t781 - 1000)) true) else (hypercubelaw2_CellTotals.j2 kj4 l0 y801 (wrap64 (x4_1 + (wrap64 (t781 - 1000)))) x5_1 x6_1 x7_1 (wrap64 (t781 - 1000)) (decide ((wrap64 (t781 - 1000)) < x5_1))))) else (none))) = some r := by first | (rw [hy785]; with_reducible exact H) | (have H2_ := (Option.bind_some _ _).symm.trans H; rw [hy785]; with_reducible exact H2_) | (have H2_ := (Option.bind_some _ _).symm.trans H; with_reducible exact H2_) | with_reducible exact H | (rw [hy785]; exact H) | exact H
         have Ny785 := Aside0.mk hy785
         clear hy785
         replace H := Option.bind_eq_some_iff.mp H
         obtain ⟨⟨t788, t791, t792, t795, t798⟩, A110, H⟩ := H
         replace H : (if x3_1.length < 1353245080339 then ((some (x3_1 ++ [(⟨t788, t791, t792, t795, t798⟩ : S30)] : List (S30))).bind fun y801 => (if x7_1 = 0 then (hypercubelaw2_CellTotals.j2 kj4 l0 y801 (wrap64 (x4_1 + (wrap64 (t781 - 1000)))) x5_1 x6_1 x7_1 (wrap64 (t781 - 1000)) true) else (hypercubelaw2_CellTotals.j2 kj4 l0 y801 (wrap64 (x4_1 + (wrap64 (t781 - 1000)))) x5_1 x6_1 x7_1 (wrap64 (t781 - 1000)) (decide ((wrap64 (t781 - 1000)) < x5_1))))) else (none)) = some r := H
         have A11 := Aside0.mk A110
         clear A110
         by_cases c12 : x3_1.length < 1353245080339
         ·rw [if_pos c12] at H
          have LMc12 := Aside0.mk c12
          clear c12
          obtain ⟨y801, hy801⟩ : ∃ y_ : List (S30), y_ = (x3_1 ++ [(⟨t788, t791, t792, t795, t798⟩ : S30)]) := ⟨_, rfl⟩
          replace H : (if x7_1 = 0 then (hypercubelaw2_CellTotals.j2 kj4 l0 y801 (wrap64 (x4_1 + (wrap64 (t781 - 1000)))) x5_1 x6_1 x7_1 (wrap64 (t781 - 1000)) true) else (hypercubelaw2_CellTotals.j2 kj4 l0 y801 (wrap64 (x4_1 + (wrap64 (t781 - 1000)))) x5_1 x6_1 x7_1 (wrap64 (t781 - 1000)) (decide ((wrap64 (t781 - 1000)) < x5_1)))) = some r := by first | (rw [hy801]; with_reducible exact H) | (have H2_ := (Option.bind_some _ _).symm.trans H; rw [hy801]; with_reducible exact H2_) | (have H2_ := (Option.bind_some _ _).symm.trans H; with_reducible exact H2_) | with_reducible exact H | (rw [hy801]; exact H) | exact H
          have Ny801 := Aside0.mk hy801
          clear hy801
          have HC13 := Aside0.mk H
          clear H
          have p780 : 0 ≤ (x7_1 : Int) := of_decide_eq_true (by first | (with_reducible assumption) | assumption)
          have q780 : x7_1 < (l0.length : Int) := of_decide_eq_true (by first | (with_reducible assumption) | assumption)
          obtain ⟨ad780, e780, hx780_0⟩ := Kd.at_int HR0.out x7_1 p780 q780
          cases e780
          replace hx780_0 := (HB.out.cell (World.block_lt_of_cell? w _ hx780_0)).trans hx780_0
          replace p780 := eq_true p780
          replace q780 := eq_true q780
          go_upto_region 11 with (first | ((with_reducible refine gate_callee (f := 20) rfl ?_); refine goesL_ (some 26) rfl rfl Try.func20 (by kernel_rfl) rfl #[.int .i64 (rd l0 x7_1), .int .i64 2001] rfl (by (try simp only [List.map_toArray, List.map_cons, List.map_nil]); first | done | rfl | (simp only [List.length_drop, List.length_take]; rfl)) ?_; (with_reducible refine (hypercubelaw2_within.calls (rd l0 x7_1) 2001 t781 _ A10.out).mono ?_); rintro e w' ⟨rfl, ⟨nd, rfl⟩⟩; refine ⟨_, rfl, ?_⟩) | ((with_reducible refine gate_dst (N := 29) rfl ?_); (try (refine gate_guard (by rfl) ?_; dsimp only)); refine Kd.R_lit (Kd.int .i64) _ 3 ?hg (N := 29) ?hd (xs := ([1, 2] : List Int)) (inner := [.int .i64 1, .int .i64 2]) (ok := fun _ => True) (okp := fun _ => True) ?hr ?hp (fun _ hk => hk) trivial (Below.refl _ _) (Nat.le_refl _) (by simp) ?_; (case hd => rfl); (case hg => rfl); (case hr => first | (go_simp; done) | (go_simp; rfl)); (case hp => exact (Reps.one (show Kd.M (Kd.int .i64) _ _ _ 1 [.int .i64 1] from rfl) (Reps.one (show Kd.M (Kd.int .i64) _ _ _ 2 [.int .i64 2] from rfl) (Reps.none _ _)))); intro v783 w14 ho15 hb hg_ hnew_; clear hg_ hnew_; (first | rw [← Ny782.out] at ho15 | (simp only [Int.reduceToNat] at ho15; rw [← Ny782.out] at ho15)); have n0_ := Aside0.mk (Kd.S_elder' (by (with_reducible repeat (first | apply Kd.S_alloc | apply Kd.S_drewN | apply Kd.S_drew)); exact HO_3.out) (Kd.R_base ho15) hb); have n1_ := Aside0.mk (Kd.R_lower ho15 (below_size (by repeat (first | (with_reducible first | exact HB.out | apply below_alloc | apply pw_below_drewN | apply below_drew1) | exact HB.out)))); have n2_ := Aside0.mk (below_step (by repeat (first | (with_reducible first | exact HB.out | apply below_alloc | apply pw_below_drewN | apply below_drew1) | exact HB.out)) hb); clear HO_3; clear HB; have HO_3 := n0_; have HO784 := n1_; have HB := n2_; clear n0_ n1_ n2_; clear hb ho15) | ((with_reducible refine gate_dst (N := 31) rfl ?_); (try (refine gate_guard (by rfl) ?_; dsimp only)); refine Kd.R_lit (Kd.int .i64) _ 3 ?hg (N := 31) ?hd (xs := ([wrap64 (t781 - 1000)] : List Int)) (inner := [.int .i64 (wrap64 (t781 - 1000))]) (ok := fun _ => True) (okp := fun _ => True) ?hr ?hp (fun _ hk => hk) trivial (Below.refl _ _) (Nat.le_refl _) (by simp) ?_; (case hd => rfl); (case hg => rfl); (case hr => first | (go_simp; done) | (go_simp; rfl)); (case hp => exact (Reps.one (show Kd.M (Kd.int .i64) _ _ _ (wrap64 (t781 - 1000)) [.int .i64 (wrap64 (t781 - 1000))] from rfl) (Reps.none _ _))); intro v786 w16 ho17 hb hg_ hnew_; clear hg_ hnew_; (first | rw [← Ny785.out] at ho17 | (simp only [Int.reduceToNat] at ho17; rw [← Ny785.out] at ho17)); have n0_ := Aside0.mk (Kd.S_elder' (by (with_reducible repeat (first | apply Kd.S_alloc | apply Kd.S_drewN | apply Kd.S_drew)); exact HO_3.out) (Kd.R_base ho17) hb); have n1_ := Aside0.mk (Kd.R_elder' (by (with_reducible repeat (first | apply Kd.R_alloc | apply Kd.R_drewN | apply Kd.R_drew)); exact HO784.out) (Kd.R_base ho17) hb); have n2_ := Aside0.mk (Kd.R_lower (Kd.R_new' ho17 (Kd.R_lt (by (with_reducible repeat (first | apply Kd.R_alloc | apply Kd.R_drewN | apply Kd.R_drew)); exact HO784.out))) (below_size (by repeat (first | (with_reducible first | exact HB.out | apply below_alloc | apply pw_below_drewN | apply below_drew1) | exact HB.out)))); have n3_ := Aside0.mk (below_step (by repeat (first | (with_reducible first | exact HB.out | apply below_alloc | apply pw_below_drewN | apply below_drew1) | exact HB.out)) hb); clear HO_3; clear HO784; clear HB; have HO_3 := n0_; have HO784 := n1_; have HO787 := n2_; have HB := n3_; clear n0_ n1_ n2_ n3_; clear hb ho17; obtain ⟨Ao18, co18, eo18⟩ := Kd.R_slice HO787.out; subst eo18; obtain ⟨Ao19, co19, eo19⟩ := Kd.R_slice HO784.out; subst eo19) | ((with_reducible refine gate_callee (f := 28) rfl ?_); refine goesL_ (some 33) rfl rfl Try.func28 (by kernel_rfl) rfl #[.agg #[.slice Ao19 y782.length co19, .slice Ao18 y785.length co18], .int .i64 0] rfl (by (try simp only [List.map_toArray, List.map_cons, List.map_nil]); first | done | rfl | (simp only [List.length_drop, List.length_take]; rfl)) ?_; (with_reducible refine (cell_Of.calls _ _ y782 _ _ y785 0 t788 t791 t792 t795 t798 _ ?side1 ?side2 ?side3 ?side4 A11.out).mono ?_); (case side1 => repeat (first | exact (Kd.R_reads' HO784.out).2.2 | (with_reducible refine Kd.C_alloc ?_ _) | (with_reducible refine Kd.C_drewN ?_ _) | (with_reducible refine Kd.C_drew ?_))); (case side2 => exact (Kd.R_reads' HO784.out).2.1); (case side3 => repeat (first | exact (Kd.R_reads' HO787.out).2.2 | (with_reducible refine Kd.C_alloc ?_ _) | (with_reducible refine Kd.C_drewN ?_ _) | (with_reducible refine Kd.C_drew ?_))); (case side4 => exact (Kd.R_reads' HO787.out).2.1); rintro e w20 ⟨v789, v793, v796, v799, rfl, ho0, ho1, ho2, ho3, hb⟩; refine ⟨_, rfl, ?_⟩; have n0_ := Aside0.mk (Kd.S_mono (Kd.S_told (Kd.S_told (Kd.S_told (Kd.S_told (Kd.S_old (by (with_reducible repeat (first | apply Kd.S_alloc | apply Kd.S_drewN | apply Kd.S_drew)); exact HO_3.out) hb) (Kd.R_base ho0)) (Kd.R_base ho1)) (Kd.R_base ho2)) (Kd.R_base ho3)) (fun _ h_ => h_.1)); have n1_ := Aside0.mk (Kd.R_mono (Kd.R_told (Kd.R_told (Kd.R_told (Kd.R_told (Kd.R_old (by (with_reducible repeat (first | apply Kd.R_alloc | apply Kd.R_drewN | apply Kd.R_drew)); exact HO784.out) hb) (Kd.R_base ho0)) (Kd.R_base ho1)) (Kd.R_base ho2)) (Kd.R_base ho3)) (fun _ h_ => h_.1)); have n2_ := Aside0.mk (Kd.R_mono (Kd.R_told (Kd.R_told (Kd.R_told (Kd.R_told (Kd.R_old (by (with_reducible repeat (first | apply Kd.R_alloc | apply Kd.R_drewN | apply Kd.R_drew)); exact HO787.out) hb) (Kd.R_base ho0)) (Kd.R_base ho1)) (Kd.R_base ho2)) (Kd.R_base ho3)) (fun _ h_ => h_.1)); have n3_ := Aside0.mk (Kd.R_lower (Kd.R_new' (Kd.R_new' ho0 (Kd.R_lt (by (with_reducible repeat (first | apply Kd.R_alloc | apply Kd.R_drewN | apply Kd.R_drew)); exact HO784.out))) (Kd.R_lt (by (with_reducible repeat (first | apply Kd.R_alloc | apply Kd.R_drewN | apply Kd.R_drew)); exact HO787.out))) (below_size (by repeat (first | (with_reducible first | exact HB.out | apply below_alloc | apply pw_below_drewN | apply below_drew1) | exact HB.out)))); have n4_ := Aside0.mk (Kd.R_lower (Kd.R_new' (Kd.R_new' ho1 (Kd.R_lt (by (with_reducible repeat (first | apply Kd.R_alloc | apply Kd.R_drewN | apply Kd.R_drew)); exact HO784.out))) (Kd.R_lt (by (with_reducible repeat (first | apply Kd.R_alloc | apply Kd.R_drewN | apply Kd.R_drew)); exact HO787.out))) (below_size (by repeat (first | (with_reducible first | exact HB.out | apply below_alloc | apply pw_below_drewN | apply below_drew1) | exact HB.out)))); have n5_ := Aside0.mk (Kd.R_lower (Kd.R_new' (Kd.R_new' ho2 (Kd.R_lt (by (with_reducible repeat (first | apply Kd.R_alloc | apply Kd.R_drewN | apply Kd.R_drew)); exact HO784.out))) (Kd.R_lt (by (with_reducible repeat (first | apply Kd.R_alloc | apply Kd.R_drewN | apply Kd.R_drew)); exact HO787.out))) (below_size (by repeat (first | (with_reducible first | exact HB.out | apply below_alloc | apply pw_below_drewN | apply below_drew1) | exact HB.out)))); have n6_ := Aside0.mk (Kd.R_lower (Kd.R_new' (Kd.R_new' ho3 (Kd.R_lt (by (with_reducible repeat (first | apply Kd.R_alloc | apply Kd.R_drewN | apply Kd.R_drew)); exact HO784.out))) (Kd.R_lt (by (with_reducible repeat (first | apply Kd.R_alloc | apply Kd.R_drewN | apply Kd.R_drew)); exact HO787.out))) (below_size (by repeat (first | (with_reducible first | exact HB.out | apply below_alloc | apply pw_below_drewN | apply below_drew1) | exact HB.out)))); have n7_ := Aside0.mk (below_step (by repeat (first | (with_reducible first | exact HB.out | apply below_alloc | apply pw_below_drewN | apply below_drew1) | exact HB.out)) hb); clear HO_3; clear HO784; clear HO787; clear HB; have HO_3 := n0_; have HO784 := n1_; have HO787 := n2_; have HO790 := n3_; have HO794 := n4_; have HO797 := n5_; have HO800 := n6_; have HB := n7_; clear n0_ n1_ n2_ n3_ n4_ n5_ n6_ n7_; (try clear hb); (try clear hb2); (try clear hk); (try clear hi); (try clear ho0); (try clear ho1); (try clear ho2); (try clear ho3); obtain ⟨Ao22, co22, eo22⟩ := Kd.R_slice HO790.out; subst eo22; obtain ⟨Ao23, co23, eo23⟩ := Kd.R_slice HO794.out; subst eo23; obtain ⟨Ao24, co24, eo24⟩ := Kd.R_slice HO797.out; subst eo24; obtain ⟨Ao25, co25, eo25⟩ := Kd.R_slice HO800.out; subst eo25) | ((with_reducible refine gate_builtin (b := .append) (xs := #[.tmp 28, .tmp 34]) rfl ?_); (try (refine gate_guard (by rfl) ?_; dsimp only)); at_builtin; refine Kd.S_append k30 (w0 := w) w.heap.size rfl (.tmp 28) (.tmp 34) 28 30 (.agg #[(.slice none 0 0), (.int .i64 0), (.slice none 0 0), (.slice none 0 0), (.slice none 0 0)]) 104 rfl Try.underlying28 info30 rfl (by decide) (by omega) u3 x3_1 (⟨t788, t791, t792, t795, t798⟩ : S30) [.slice Ao22 t788.length co22, .int .i64 t791, .slice Ao23 t792.length co23, .slice Ao24 t795.length co24, .slice Ao25 t798.length co25] (fun k_ => some k_ ≠ (.slice Ao19 y782.length co19 : Value).ownBlock ∧ some k_ ≠ (.slice Ao18 y785.length co18 : Value).ownBlock) (fun k_ => some k_ = (.slice Ao22 t788.length co22 : Value).ownBlock ∨ some k_ = (.slice Ao23 t792.length co23 : Value).ownBlock ∨ some k_ = (.slice Ao24 t795.length co24 : Value).ownBlock ∨ some k_ = (.slice Ao25 t798.length co25 : Value).ownBlock) rfl rfl ?aP (fun k_ hk_ => hk_.elim (fun h_ => ((Kd.R_mono (ok' := fun k_ => ((fun k_ => some k_ ≠ (.slice Ao19 y782.length co19 : Value).ownBlock ∧ some k_ ≠ (.slice Ao18 y785.length co18 : Value).ownBlock)) k_ ∧ some k_ ≠ (u3 : Value).ownBlock) (Kd.R_apart' (HO790.out) (Kd.S_typed HO_3.out) (by decide)) (fun k_ hk => ⟨⟨hk.1.1.2, hk.1.2⟩, hk.2⟩))).1 k_ h_.symm) (fun h_ => h_.elim (fun h_ => ((Kd.R_mono (ok' := fun k_ => ((fun k_ => some k_ ≠ (.slice Ao19 y782.length co19 : Value).ownBlock ∧ some k_ ≠ (.slice Ao18 y785.length co18 : Value).ownBlock)) k_ ∧ some k_ ≠ (u3 : Value).ownBlock) (Kd.R_apart' (HO794.out) (Kd.S_typed HO_3.out) (by decide)) (fun k_ hk => ⟨⟨hk.1.1.2, hk.1.2⟩, hk.2⟩))).1 k_ h_.symm) (fun h_ => h_.elim (fun h_ => ((Kd.R_mono (ok' := fun k_ => ((fun k_ => some k_ ≠ (.slice Ao19 y782.length co19 : Value).ownBlock ∧ some k_ ≠ (.slice Ao18 y785.length co18 : Value).ownBlock)) k_ ∧ some k_ ≠ (u3 : Value).ownBlock) (Kd.R_apart' (HO797.out) (Kd.S_typed HO_3.out) (by decide)) (fun k_ hk => ⟨⟨hk.1.1.2, hk.1.2⟩, hk.2⟩))).1 k_ h_.symm) (fun h_ => ((Kd.R_mono (ok' := fun k_ => ((fun k_ => some k_ ≠ (.slice Ao19 y782.length co19 : Value).ownBlock ∧ some k_ ≠ (.slice Ao18 y785.length co18 : Value).ownBlock)) k_ ∧ some k_ ≠ (u3 : Value).ownBlock) (Kd.R_apart' (HO800.out) (Kd.S_typed HO_3.out) (by decide)) (fun k_ hk => ⟨⟨hk.1.1.2, hk.1.2⟩, hk.2⟩))).1 k_ h_.symm)))) ?aF ?aO ?aB ?aS ?aL ?_; (case aP => exact k30_mkM _ _ _ (⟨t788, t791, t792, t795, t798⟩ : S30) (Kd.R_mono (Kd.R_tight rfl (Kd.R_mono (ok' := fun k_ => ((fun k_ => some k_ ≠ (.slice Ao19 y782.length co19 : Value).ownBlock ∧ some k_ ≠ (.slice Ao18 y785.length co18 : Value).ownBlock)) k_ ∧ some k_ ≠ (u3 : Value).ownBlock) (Kd.R_apart' (HO790.out) (Kd.S_typed HO_3.out) (by decide)) (fun k_ hk => ⟨⟨hk.1.1.2, hk.1.2⟩, hk.2⟩))) (fun _ h_ => Or.inl h_)) (Kd.R_mono (Kd.R_tight rfl (Kd.R_mono (ok' := fun k_ => ((fun k_ => some k_ ≠ (.slice Ao19 y782.length co19 : Value).ownBlock ∧ some k_ ≠ (.slice Ao18 y785.length co18 : Value).ownBlock)) k_ ∧ some k_ ≠ (u3 : Value).ownBlock) (Kd.R_apart' (HO794.out) (Kd.S_typed HO_3.out) (by decide)) (fun k_ hk => ⟨⟨hk.1.1.2, hk.1.2⟩, hk.2⟩))) (fun _ h_ => Or.inr (Or.inl h_))) (Kd.R_mono (Kd.R_tight rfl (Kd.R_mono (ok' := fun k_ => ((fun k_ => some k_ ≠ (.slice Ao19 y782.length co19 : Value).ownBlock ∧ some k_ ≠ (.slice Ao18 y785.length co18 : Value).ownBlock)) k_ ∧ some k_ ≠ (u3 : Value).ownBlock) (Kd.R_apart' (HO797.out) (Kd.S_typed HO_3.out) (by decide)) (fun k_ hk => ⟨⟨hk.1.1.2, hk.1.2⟩, hk.2⟩))) (fun _ h_ => Or.inr (Or.inr (Or.inl h_)))) (Kd.R_mono (Kd.R_tight rfl (Kd.R_mono (ok' := fun k_ => ((fun k_ => some k_ ≠ (.slice Ao19 y782.length co19 : Value).ownBlock ∧ some k_ ≠ (.slice Ao18 y785.length co18 : Value).ownBlock)) k_ ∧ some k_ ≠ (u3 : Value).ownBlock) (Kd.R_apart' (HO800.out) (Kd.S_typed HO_3.out) (by decide)) (fun k_ hk => ⟨⟨hk.1.1.2, hk.1.2⟩, hk.2⟩))) (fun _ h_ => Or.inr (Or.inr (Or.inr (h_)))))); (case aB => exact (by repeat (first | (with_reducible first | exact HB.out | apply below_alloc | apply pw_below_drewN | apply below_drew1) | exact HB.out))); (case aF => exact (fun k_ hk => ⟨Kd.fresh' (Kd.R_lt (by (with_reducible repeat (first | apply Kd.R_alloc | apply Kd.R_drewN | apply Kd.R_drew)); exact HO784.out)) k_ hk, Kd.fresh' (Kd.R_lt (by (with_reducible repeat (first | apply Kd.R_alloc | apply Kd.R_drewN | apply Kd.R_drew)); exact HO787.out)) k_ hk⟩)); (case aO => exact (by (with_reducible repeat (first | apply Kd.S_alloc | apply Kd.S_drewN | apply Kd.S_drew)); exact Kd.S_mono HO_3.out (fun k_ hk => ⟨⟨hk.1.1.1.1.1.2, hk.1.1.1.1.2⟩, fun e_ => e_.elim (fun h_ => hk.1.1.1.2 h_) (fun h_ => h_.elim (fun h_ => hk.1.1.2 h_) (fun h_ => h_.elim (fun h_ => hk.1.2 h_) (fun h_ => hk.2 h_)))⟩))); (case aS => exact (below_size (by repeat (first | (with_reducible first | exact HB.out | apply below_alloc | apply pw_below_drewN | apply below_drew1) | exact HB.out)))); (case aL => have := LMc12.out; omega); intro v802 w21 ho hb hg hat; rw [← Ny801.out] at ho; have n0_ := Aside0.mk (Kd.R_over' (by (with_reducible repeat (first | apply Kd.R_alloc | apply Kd.R_drewN | apply Kd.R_drew)); exact HO784.out) (Kd.S_typed (by (with_reducible repeat (first | apply Kd.S_alloc | apply Kd.S_drewN | apply Kd.S_drew)); exact HO_3.out)) (by decide) hg); have n1_ := Aside0.mk (Kd.R_over' (by (with_reducible repeat (first | apply Kd.R_alloc | apply Kd.R_drewN | apply Kd.R_drew)); exact HO787.out) (Kd.S_typed (by (with_reducible repeat (first | apply Kd.S_alloc | apply Kd.S_drewN | apply Kd.S_drew)); exact HO_3.out)) (by decide) hg); have n2_ := Aside0.mk (hb); have n3_ := Aside0.mk (ho); clear HO784; clear HO787; clear HB; clear HO_3; clear HO790; clear HO794; clear HO797; clear HO800; have HO784 := n0_; have HO787 := n1_; have HB := n2_; have HO803 := n3_; clear n0_ n1_ n2_ n3_; clear ho hb hg hat))
          (try simp only [Act.put, List.setIfInBounds_toArray, List.set_cons_zero, List.set_cons_succ])
          go_cut [45] (fun v45 wc => ∃ (kq : Nat) (x45_12 : Bool), v45 = .bool x45_12 ∧ Aside0 (hypercubelaw2_CellTotals.j2 kq l0 y801 (wrap64 (x4_1 + (wrap64 (t781 - 1000)))) x5_1 x6_1 x7_1 (wrap64 (t781 - 1000)) x45_12 = some r) ∧ Aside0 (kq ≤ kj4) ∧ Aside0 (Kd.S k30 30 wc w.heap.size (fun _ => True) v802 y801) ∧ Aside0 (Below w.heap.size w wc))
          case first =>
           have H := HC13.out
           clear HC13
           by_cases c26 : x7_1 = 0
           ·rw [if_pos c26] at H
            have c26b0 : (x7_1 == 0) = true := beq_iff_eq.mpr c26
            have c26b1 : (x7_1 != 0) = false := bne_eq_false_iff_eq.mpr c26
            clear c26
            (first | rw [c26b0] | (simp only [i64_w, i32_w]; rw [c26b0]) | skip)
            have H' := Aside0.mk H
            clear H
            go_wp2
            go_meet
            case rel => exact ⟨_, (true), (by first | rfl | (simp; done) | (simp [*]; done)), H', ⟨by have := HK1.out; have := HJ4.out; first | omega | exact Nat.le_refl _⟩, ⟨by (with_reducible repeat (first | apply Kd.S_alloc | apply Kd.S_drewN | apply Kd.S_drew)); exact Kd.S_mono HO803.out (fun _ hk => trivial)⟩, ⟨by repeat (first | (with_reducible first | exact HB.out | apply below_alloc | apply pw_below_drewN | apply below_drew1) | exact HB.out)⟩⟩
           ·rw [if_neg c26] at H
            have c26b0 : (x7_1 == 0) = false := beq_eq_false_iff_ne.mpr c26
            have c26b1 : (x7_1 != 0) = true := bne_iff_ne.mpr c26
            (first | rw [c26b0] | (simp only [i64_w, i32_w]; rw [c26b0]) | skip)
            have H' := Aside0.mk H
            clear H
            go_wp2
            go_meet
            case rel => exact ⟨_, (decide ((wrap64 (t781 - 1000)) < x5_1)), (by first | rfl | (simp; done) | (simp [*]; done)), H', ⟨by have := HK1.out; have := HJ4.out; first | omega | exact Nat.le_refl _⟩, ⟨by (with_reducible repeat (first | apply Kd.S_alloc | apply Kd.S_drewN | apply Kd.S_drew)); exact Kd.S_mono HO803.out (fun _ hk => trivial)⟩, ⟨by repeat (first | (with_reducible first | exact HB.out | apply below_alloc | apply pw_below_drewN | apply below_drew1) | exact HB.out)⟩⟩
          case rest =>
           clear HC13
           try clear c1
           try clear c2
           try clear p2
           try clear c3
           try clear c6
           try clear c6b0
           try clear p6
           try clear c7
           try clear p7
           try clear q7
           try clear hx7
           try clear c8
           try clear c8b0
           try clear c9
           try clear c9b0
           try clear c12
           try clear c16
           try clear c20
           try clear c26
           try clear c26b0
           try clear c26b1
           try clear hx780_0
           try clear p2
           try clear p780
           try clear q780
           obtain ⟨kq, x45_12, rfl, HA, HJ12, HO_3, HB⟩ := hcut
           cases kq with
           | zero => exact absurd HA.out (by simp [hypercubelaw2_CellTotals.j2])
           | succ kj12 =>
            have H := HA.out
            clear HA
            simp only [hypercubelaw2_CellTotals.j2] at H
            by_cases c27 : x45_12 = true
            ·subst c27
             have H1 : (if x7_1 = 0 then (hypercubelaw2_CellTotals.l0 kj12 l0 y801 (wrap64 (x4_1 + (wrap64 (t781 - 1000)))) (wrap64 (t781 - 1000)) (wrap64 (t781 - 1000)) (wrap64 (x7_1 + 1))) else (if (wrap64 (t781 - 1000)) > x6_1 then (hypercubelaw2_CellTotals.l0 kj12 l0 y801 (wrap64 (x4_1 + (wrap64 (t781 - 1000)))) (wrap64 (t781 - 1000)) (wrap64 (t781 - 1000)) (wrap64 (x7_1 + 1))) else (hypercubelaw2_CellTotals.l0 kj12 l0 y801 (wrap64 (x4_1 + (wrap64 (t781 - 1000)))) (wrap64 (t781 - 1000)) x6_1 (wrap64 (x7_1 + 1))))) = some r := by rw [if_pos rfl] at H; exact H
             clear H
             have H := H1
             clear H1
             by_cases c28 : x7_1 = 0
             ·rw [if_pos c28] at H
              have c28b0 : (x7_1 == 0) = true := beq_iff_eq.mpr c28
              have c28b1 : (x7_1 != 0) = false := bne_eq_false_iff_eq.mpr c28
              clear c28
              have H' := Aside0.mk H
              clear H
              go_wp2
              go_roundg kj12
              case measure => have := HK1.out; have := HJ4.out; have := HJ12.out; omega
              case rel => exact ⟨(y801), ((wrap64 (x4_1 + (wrap64 (t781 - 1000))))), ((wrap64 (t781 - 1000))), ((wrap64 (t781 - 1000))), (wrap64 (x7_1 + 1)), (by first | rfl | (simp; done) | (simp [*]; done)), (by first | rfl | (simp; done) | (simp [*]; done)), (by first | rfl | (simp; done) | (simp [*]; done)), (by first | rfl | (simp; done) | (simp [*]; done)), H', ⟨by have := HK1.out; have := HJ4.out; have := HJ12.out; omega⟩, ⟨by (with_reducible repeat (first | apply Kd.S_alloc | apply Kd.S_drewN | apply Kd.S_drew)); exact HO_3.out⟩, ⟨by repeat (first | (with_reducible first | exact HB.out | apply below_alloc | apply pw_below_drewN | apply below_drew1) | exact HB.out)⟩⟩
             ·rw [if_neg c28] at H
              have c28b0 : (x7_1 == 0) = false := beq_eq_false_iff_ne.mpr c28
              have c28b1 : (x7_1 != 0) = true := bne_iff_ne.mpr c28
              by_cases c29 : (wrap64 (t781 - 1000)) > x6_1
              ·rw [if_pos c29] at H
               have c29b0 : decide (x6_1 < (wrap64 (t781 - 1000))) = true := decide_eq_true c29
               clear c29
               have H' := Aside0.mk H
               clear H
               go_wp2
               go_roundg kj12
               case measure => have := HK1.out; have := HJ4.out; have := HJ12.out; omega
               case rel => exact ⟨(y801), ((wrap64 (x4_1 + (wrap64 (t781 - 1000))))), ((wrap64 (t781 - 1000))), ((wrap64 (t781 - 1000))), (wrap64 (x7_1 + 1)), (by first | rfl | (simp; done) | (simp [*]; done)), (by first | rfl | (simp; done) | (simp [*]; done)), (by first | rfl | (simp; done) | (simp [*]; done)), (by first | rfl | (simp; done) | (simp [*]; done)), H', ⟨by have := HK1.out; have := HJ4.out; have := HJ12.out; omega⟩, ⟨by (with_reducible repeat (first | apply Kd.S_alloc | apply Kd.S_drewN | apply Kd.S_drew)); exact HO_3.out⟩, ⟨by repeat (first | (with_reducible first | exact HB.out | apply below_alloc | apply pw_below_drewN | apply below_drew1) | exact HB.out)⟩⟩
              ·rw [if_neg c29] at H
               have c29b0 : decide (x6_1 < (wrap64 (t781 - 1000))) = false := decide_eq_false c29
               clear c29
               have H' := Aside0.mk H
               clear H
               go_wp2
               go_roundg kj12
               case measure => have := HK1.out; have := HJ4.out; have := HJ12.out; omega
               case rel => exact ⟨(y801), ((wrap64 (x4_1 + (wrap64 (t781 - 1000))))), ((wrap64 (t781 - 1000))), (x6_1), (wrap64 (x7_1 + 1)), (by first | rfl | (simp; done) | (simp [*]; done)), (by first | rfl | (simp; done) | (simp [*]; done)), (by first | rfl | (simp; done) | (simp [*]; done)), (by first | rfl | (simp; done) | (simp [*]; done)), H', ⟨by have := HK1.out; have := HJ4.out; have := HJ12.out; omega⟩, ⟨by (with_reducible repeat (first | apply Kd.S_alloc | apply Kd.S_drewN | apply Kd.S_drew)); exact HO_3.out⟩, ⟨by repeat (first | (with_reducible first | exact HB.out | apply below_alloc | apply pw_below_drewN | apply below_drew1) | exact HB.out)⟩⟩
            ·replace c27 := Bool.eq_false_iff.mpr c27
             subst c27
             have H1 : (if x7_1 = 0 then (hypercubelaw2_CellTotals.l0 kj12 l0 y801 (wrap64 (x4_1 + (wrap64 (t781 - 1000)))) x5_1 (wrap64 (t781 - 1000)) (wrap64 (x7_1 + 1))) else (if (wrap64 (t781 - 1000)) > x6_1 then (hypercubelaw2_CellTotals.l0 kj12 l0 y801 (wrap64 (x4_1 + (wrap64 (t781 - 1000)))) x5_1 (wrap64 (t781 - 1000)) (wrap64 (x7_1 + 1))) else (hypercubelaw2_CellTotals.l0 kj12 l0 y801 (wrap64 (x4_1 + (wrap64 (t781 - 1000)))) x5_1 x6_1 (wrap64 (x7_1 + 1))))) = some r := by rw [if_neg (show ¬ (false = true) by decide)] at H; exact H
             clear H
             have H := H1
             clear H1
             by_cases c30 : x7_1 = 0
             ·rw [if_pos c30] at H
              have c30b0 : (x7_1 == 0) = true := beq_iff_eq.mpr c30
              have c30b1 : (x7_1 != 0) = false := bne_eq_false_iff_eq.mpr c30
              clear c30
              have H' := Aside0.mk H
              clear H
              go_wp2
              go_roundg kj12
              case measure => have := HK1.out; have := HJ4.out; have := HJ12.out; omega
              case rel => exact ⟨(y801), ((wrap64 (x4_1 + (wrap64 (t781 - 1000))))), (x5_1), ((wrap64 (t781 - 1000))), (wrap64 (x7_1 + 1)), (by first | rfl | (simp; done) | (simp [*]; done)), (by first | rfl | (simp; done) | (simp [*]; done)), (by first | rfl | (simp; done) | (simp [*]; done)), (by first | rfl | (simp; done) | (simp [*]; done)), H', ⟨by have := HK1.out; have := HJ4.out; have := HJ12.out; omega⟩, ⟨by (with_reducible repeat (first | apply Kd.S_alloc | apply Kd.S_drewN | apply Kd.S_drew)); exact HO_3.out⟩, ⟨by repeat (first | (with_reducible first | exact HB.out | apply below_alloc | apply pw_below_drewN | apply below_drew1) | exact HB.out)⟩⟩
             ·rw [if_neg c30] at H
              have c30b0 : (x7_1 == 0) = false := beq_eq_false_iff_ne.mpr c30
              have c30b1 : (x7_1 != 0) = true := bne_iff_ne.mpr c30
              by_cases c31 : (wrap64 (t781 - 1000)) > x6_1
              ·rw [if_pos c31] at H
               have c31b0 : decide (x6_1 < (wrap64 (t781 - 1000))) = true := decide_eq_true c31
               clear c31
               have H' := Aside0.mk H
               clear H
               go_wp2
               go_roundg kj12
               case measure => have := HK1.out; have := HJ4.out; have := HJ12.out; omega
               case rel => exact ⟨(y801), ((wrap64 (x4_1 + (wrap64 (t781 - 1000))))), (x5_1), ((wrap64 (t781 - 1000))), (wrap64 (x7_1 + 1)), (by first | rfl | (simp; done) | (simp [*]; done)), (by first | rfl | (simp; done) | (simp [*]; done)), (by first | rfl | (simp; done) | (simp [*]; done)), (by first | rfl | (simp; done) | (simp [*]; done)), H', ⟨by have := HK1.out; have := HJ4.out; have := HJ12.out; omega⟩, ⟨by (with_reducible repeat (first | apply Kd.S_alloc | apply Kd.S_drewN | apply Kd.S_drew)); exact HO_3.out⟩, ⟨by repeat (first | (with_reducible first | exact HB.out | apply below_alloc | apply pw_below_drewN | apply below_drew1) | exact HB.out)⟩⟩
              ·rw [if_neg c31] at H
               have c31b0 : decide (x6_1 < (wrap64 (t781 - 1000))) = false := decide_eq_false c31
               clear c31
               have H' := Aside0.mk H
               clear H
               go_wp2
               go_roundg kj12
               case measure => have := HK1.out; have := HJ4.out; have := HJ12.out; omega
               case rel => exact ⟨(y801), ((wrap64 (x4_1 + (wrap64 (t781 - 1000))))), (x5_1), (x6_1), (wrap64 (x7_1 + 1)), (by first | rfl | (simp; done) | (simp [*]; done)), (by first | rfl | (simp; done) | (simp [*]; done)), (by first | rfl | (simp; done) | (simp [*]; done)), (by first | rfl | (simp; done) | (simp [*]; done)), H', ⟨by have := HK1.out; have := HJ4.out; have := HJ12.out; omega⟩, ⟨by (with_reducible repeat (first | apply Kd.S_alloc | apply Kd.S_drewN | apply Kd.S_drew)); exact HO_3.out⟩, ⟨by repeat (first | (with_reducible first | exact HB.out | apply below_alloc | apply pw_below_drewN | apply below_drew1) | exact HB.out)⟩⟩
         ·rw [if_neg c12] at H
          exact absurd H (by simp)
        ·rw [if_neg c9] at H
         exact absurd H (by simp)
       ·rw [if_neg c8] at H
        exact absurd H (by simp)
      ·replace c7 := Bool.eq_false_iff.mpr c7
       subst c7
       have H1 : ((cell_Group.f kj4 x3_1).bind fun t804 => (if (x3_1.length : Int) = 0 then (some ((t804.length : Int) == 0)) else (if (t804.length : Int) = 1 then (if 0 < (t804.length : Int) then ((hypercuberef2_Equal.f kj4 ((rd_T30 t804 0).f0) ((rd_T30 t804 0).f1) ((rd_T30 t804 0).f2) ((rd_T30 t804 0).f3) ((rd_T30 t804 0).f4) ([] : List Int) (x3_1.length : Int) (([x4_1] : List Int)) (([x5_1] : List Int)) (([x6_1] : List Int))).bind fun t817 => (some t817)) else (none)) else (none)))) = some r := by rw [if_neg (show ¬ (false = true) by decide)] at H; exact H
       clear H
       have H := H1
       clear H1
       replace H := Option.bind_eq_some_iff.mp H
       obtain ⟨t804, A320, H⟩ := H
       replace H : (if (x3_1.length : Int) = 0 then (some ((t804.length : Int) == 0)) else (if (t804.length : Int) = 1 then (if 0 < (t804.length : Int) then ((hypercuberef2_Equal.f kj4 ((rd_T30 t804 0).f0) ((rd_T30 t804 0).f1) ((rd_T30 t804 0).f2) ((rd_T30 t804 0).f3) ((rd_T30 t804 0).f4) ([] : List Int) (x3_1.length : Int) (([x4_1] : List Int)) (([x5_1] : List Int)) (([x6_1] : List Int))).bind fun t817 => (some t817)) else (none)) else (none))) = some r := H
       have A32 := Aside0.mk A320
       clear A320
       by_cases c33 : (x3_1.length : Int) = 0
       ·rw [if_pos c33] at H
        have c33b0 : ((x3_1.length : Int) == 0) = true := beq_iff_eq.mpr c33
        have c33b1 : ((x3_1.length : Int) != 0) = false := bne_eq_false_iff_eq.mpr c33
        clear c33
        obtain rfl := Option.some.inj H
        obtain ⟨Ao34, co34, eo34⟩ := Kd.S_slice HO_3.out
        subst eo34
        go_wp2_with (first | ((with_reducible refine gate_callee (f := 26) rfl ?_); refine goesL_ (some 56) rfl rfl Try.func26 (by kernel_rfl) rfl #[.slice Ao34 x3_1.length co34] rfl (by (try simp only [List.map_toArray, List.map_cons, List.map_nil]); first | done | rfl | (simp only [List.length_drop, List.length_take]; rfl)) ?_; (with_reducible refine (cell_Group.calls kj4 _ _ x3_1 t804 _ ?side1 ?side2 A32.out).mono ?_); (case side1 => repeat (first | exact (Kd.S_reads' HO_3.out).2.2 | (with_reducible refine Kd.C_alloc ?_ _) | (with_reducible refine Kd.C_drewN ?_ _) | (with_reducible refine Kd.C_drew ?_))); (case side2 => exact (Kd.S_reads' HO_3.out).2.1); rintro e w35 ⟨v805, rfl, ho0, hb⟩; refine ⟨_, rfl, ?_⟩; have n0_ := Aside0.mk (Kd.S_elder' (by (with_reducible repeat (first | apply Kd.S_alloc | apply Kd.S_drewN | apply Kd.S_drew)); exact HO_3.out) (Kd.S_base ho0) hb); have n1_ := Aside0.mk (Kd.S_lower (Kd.S_new' ho0 (Kd.S_lt (by (with_reducible repeat (first | apply Kd.S_alloc | apply Kd.S_drewN | apply Kd.S_drew)); exact HO_3.out))) (below_size (by repeat (first | (with_reducible first | exact HB.out | apply below_alloc | apply pw_below_drewN | apply below_drew1) | exact HB.out)))); have n2_ := Aside0.mk (below_step (by repeat (first | (with_reducible first | exact HB.out | apply below_alloc | apply pw_below_drewN | apply below_drew1) | exact HB.out)) hb); clear HO_3; clear HB; have HO_3 := n0_; have HO806 := n1_; have HB := n2_; clear n0_ n1_ n2_; (try clear hb); (try clear hb2); (try clear hk); (try clear hi); (try clear ho0); obtain ⟨Ao36, co36, eo36⟩ := Kd.S_slice HO806.out; subst eo36))
        go_ret
        exact ⟨by first | rfl | (simp [errW_none, errW_some] <;> rfl) | (simp [*, errW_none, errW_some] <;> rfl), by repeat (first | (with_reducible first | exact HB.out | apply below_alloc | apply pw_below_drewN | apply below_drew1) | exact HB.out)⟩
       ·rw [if_neg c33] at H
        have c33b0 : ((x3_1.length : Int) == 0) = false := beq_eq_false_iff_ne.mpr c33
        have c33b1 : ((x3_1.length : Int) != 0) = true := bne_iff_ne.mpr c33
        have c33b2 : ¬ (x3_1 = []) := fun h_ => c33 (by rw [h_]; rfl)
        by_cases c37 : (t804.length : Int) = 1
        ·rw [if_pos c37] at H
         have c37b0 : ((t804.length : Int) == 1) = true := beq_iff_eq.mpr c37
         have c37b1 : ((t804.length : Int) != 1) = false := bne_eq_false_iff_eq.mpr c37
         clear c37
         by_cases c38 : 0 < (t804.length : Int)
         ·rw [if_pos c38] at H
          have c38b0 : decide (0 < (t804.length : Int)) = true := decide_eq_true c38
          have c38b1 : decide (0 < t804.length) = true := decide_eq_true (by omega)
          clear c38
          obtain ⟨y808, hy808⟩ : ∃ y_ : List Int, y_ = (([x4_1] : List Int)) := ⟨_, rfl⟩
          replace H : ((hypercuberef2_Equal.f kj4 ((rd_T30 t804 0).f0) ((rd_T30 t804 0).f1) ((rd_T30 t804 0).f2) ((rd_T30 t804 0).f3) ((rd_T30 t804 0).f4) ([] : List Int) (x3_1.length : Int) y808 (([x5_1] : List Int)) (([x6_1] : List Int))).bind fun t817 => (some t817)) = some r := by first | (rw [hy808]; with_reducible exact H) | (have H2_ := (Option.bind_some _ _).symm.trans H; rw [hy808]; with_reducible exact H2_) | (have H2_ := (Option.bind_some _ _).symm.trans H; with_reducible exact H2_) | with_reducible exact H | (rw [hy808]; exact H) | exact H
          have Ny808 := Aside0.mk hy808
          clear hy808
          obtain ⟨y811, hy811⟩ : ∃ y_ : List Int, y_ = (([x5_1] : List Int)) := ⟨_, rfl⟩
          replace H : ((hypercuberef2_Equal.f kj4 ((rd_T30 t804 0).f0) ((rd_T30 t804 0).f1) ((rd_T30 t804 0).f2) ((rd_T30 t804 0).f3) ((rd_T30 t804 0).f4) ([] : List Int) (x3_1.length : Int) y808 y811 (([x6_1] : List Int))).bind fun t817 => (some t817)) = some r := by first | (rw [hy811]; with_reducible exact H) | (have H2_ := (Option.bind_some _ _).symm.trans H; rw [hy811]; with_reducible exact H2_) | (have H2_ := (Option.bind_some _ _).symm.trans H; with_reducible exact H2_) | with_reducible exact H | (rw [hy811]; exact H) | exact H
          have Ny811 := Aside0.mk hy811
          clear hy811
          obtain ⟨y814, hy814⟩ : ∃ y_ : List Int, y_ = (([x6_1] : List Int)) := ⟨_, rfl⟩
          replace H : ((hypercuberef2_Equal.f kj4 ((rd_T30 t804 0).f0) ((rd_T30 t804 0).f1) ((rd_T30 t804 0).f2) ((rd_T30 t804 0).f3) ((rd_T30 t804 0).f4) ([] : List Int) (x3_1.length : Int) y808 y811 y814).bind fun t817 => (some t817)) = some r := by first | (rw [hy814]; with_reducible exact H) | (have H2_ := (Option.bind_some _ _).symm.trans H; rw [hy814]; with_reducible exact H2_) | (have H2_ := (Option.bind_some _ _).symm.trans H; with_reducible exact H2_) | with_reducible exact H | (rw [hy814]; exact H) | exact H
          have Ny814 := Aside0.mk hy814
          clear hy814
          replace H := Option.bind_eq_some_iff.mp H
          obtain ⟨t817, A390, H⟩ := H
          replace H : (some t817) = some r := H
          have A39 := Aside0.mk A390
          clear A390
          obtain rfl := Option.some.inj H
          obtain ⟨Ao40, co40, eo40⟩ := Kd.S_slice HO_3.out
          subst eo40
          go_wp2_with (first | ((with_reducible refine gate_callee (f := 26) rfl ?_); refine goesL_ (some 56) rfl rfl Try.func26 (by kernel_rfl) rfl #[.slice Ao40 x3_1.length co40] rfl (by (try simp only [List.map_toArray, List.map_cons, List.map_nil]); first | done | rfl | (simp only [List.length_drop, List.length_take]; rfl)) ?_; (with_reducible refine (cell_Group.calls kj4 _ _ x3_1 t804 _ ?side1 ?side2 A32.out).mono ?_); (case side1 => repeat (first | exact (Kd.S_reads' HO_3.out).2.2 | (with_reducible refine Kd.C_alloc ?_ _) | (with_reducible refine Kd.C_drewN ?_ _) | (with_reducible refine Kd.C_drew ?_))); (case side2 => exact (Kd.S_reads' HO_3.out).2.1); rintro e w41 ⟨v805, rfl, ho0, hb⟩; refine ⟨_, rfl, ?_⟩; have n0_ := Aside0.mk (Kd.S_elder' (by (with_reducible repeat (first | apply Kd.S_alloc | apply Kd.S_drewN | apply Kd.S_drew)); exact HO_3.out) (Kd.S_base ho0) hb); have n1_ := Aside0.mk (Kd.S_lower (Kd.S_new' ho0 (Kd.S_lt (by (with_reducible repeat (first | apply Kd.S_alloc | apply Kd.S_drewN | apply Kd.S_drew)); exact HO_3.out))) (below_size (by repeat (first | (with_reducible first | exact HB.out | apply below_alloc | apply pw_below_drewN | apply below_drew1) | exact HB.out)))); have n2_ := Aside0.mk (below_step (by repeat (first | (with_reducible first | exact HB.out | apply below_alloc | apply pw_below_drewN | apply below_drew1) | exact HB.out)) hb); clear HO_3; clear HB; have HO_3 := n0_; have HO806 := n1_; have HB := n2_; clear n0_ n1_ n2_; (try clear hb); (try clear hb2); (try clear hk); (try clear hi); (try clear ho0); obtain ⟨Ao42, co42, eo42⟩ := Kd.S_slice HO806.out; subst eo42; have p807 : 0 ≤ (0 : Int) := (by omega); have q807 : 0 < (t804.length : Int) := of_decide_eq_true (by first | (with_reducible assumption) | assumption); obtain ⟨ad807, A807_0, c807_0, A807_2, c807_2, A807_3, c807_3, A807_4, c807_4, e807, hx807_0, hx807_1, hx807_2, hx807_3, hx807_4, hl807_0, hi807_0, hl807_2, hi807_2, hl807_3, hi807_3, hl807_4, hi807_4⟩ := at_T30 (Kd.S_reads' HO806.out).2.2 0 p807 q807; cases e807; obtain ⟨ce807, hce807, hMe807, hcc807⟩ := Kd.S_get HO806.out z30 0 p807 (by first | exact q807 | exact of_decide_eq_true (by first | (with_reducible assumption) | assumption) | (have e_ := (Kd.S_reads' HO806.out).1; omega)); obtain ⟨ve807_0, ve807_2, ve807_3, ve807_4, rfl, ge807_0, ge807_2, ge807_3, ge807_4⟩ := k30_openM hMe807; have hv807_0 := hcc807 0 _ rfl; rw [Nat.add_zero] at hv807_0; replace hv807_0 := Option.some.inj (hv807_0.symm.trans hx807_0); rw [hv807_0] at ge807_0; have HL807_0 := Aside0.mk (show Kd.R (Kd.int .i64) 3 _ _ _ _ ((rd_T30 t804 0).f0) from ge807_0); clear hv807_0 ge807_0; have hv807_2 := hcc807 2 _ rfl; rw [add_field _ _ 2 (by omega)] at hv807_2; replace hv807_2 := Option.some.inj (hv807_2.symm.trans hx807_2); rw [hv807_2] at ge807_2; have HL807_2 := Aside0.mk (show Kd.R (Kd.int .i64) 3 _ _ _ _ ((rd_T30 t804 0).f2) from ge807_2); clear hv807_2 ge807_2; have hv807_3 := hcc807 3 _ rfl; rw [add_field _ _ 3 (by omega)] at hv807_3; replace hv807_3 := Option.some.inj (hv807_3.symm.trans hx807_3); rw [hv807_3] at ge807_3; have HL807_3 := Aside0.mk (show Kd.R (Kd.int .i64) 3 _ _ _ _ ((rd_T30 t804 0).f3) from ge807_3); clear hv807_3 ge807_3; have hv807_4 := hcc807 4 _ rfl; rw [add_field _ _ 4 (by omega)] at hv807_4; replace hv807_4 := Option.some.inj (hv807_4.symm.trans hx807_4); rw [hv807_4] at ge807_4; have HL807_4 := Aside0.mk (show Kd.R (Kd.int .i64) 3 _ _ _ _ ((rd_T30 t804 0).f4) from ge807_4); clear hv807_4 ge807_4; clear hcc807 hce807; have qi807 : (0 < t804.length) = True := eq_true (by omega); (try rw [show ((0 : Int)).toNat = 0 from rfl] at hx807_0); (try rw [show 0 * 5 = 0 from rfl] at hx807_0); (try rw [Addr.add_zero'] at hx807_0); (try rw [show ((0 : Int)).toNat = 0 from rfl] at hx807_1); (try rw [show 0 * 5 = 0 from rfl] at hx807_1); (try rw [Addr.add_zero'] at hx807_1); (try rw [show ((0 : Int)).toNat = 0 from rfl] at hx807_2); (try rw [show 0 * 5 = 0 from rfl] at hx807_2); (try rw [Addr.add_zero'] at hx807_2); (try rw [show ((0 : Int)).toNat = 0 from rfl] at hx807_3); (try rw [show 0 * 5 = 0 from rfl] at hx807_3); (try rw [Addr.add_zero'] at hx807_3); (try rw [show ((0 : Int)).toNat = 0 from rfl] at hx807_4); (try rw [show 0 * 5 = 0 from rfl] at hx807_4); (try rw [Addr.add_zero'] at hx807_4); have HR807_0 := Aside0.mk hi807_0; have HC807_0 := Aside0.mk hl807_0; clear hi807_0 hl807_0; have HR807_2 := Aside0.mk hi807_2; have HC807_2 := Aside0.mk hl807_2; clear hi807_2 hl807_2; have HR807_3 := Aside0.mk hi807_3; have HC807_3 := Aside0.mk hl807_3; clear hi807_3 hl807_3; have HR807_4 := Aside0.mk hi807_4; have HC807_4 := Aside0.mk hl807_4; clear hi807_4 hl807_4; replace p807 := eq_true p807; replace q807 := eq_true q807) | ((with_reducible refine gate_dst (N := 73) rfl ?_); (try (refine gate_guard (by rfl) ?_; dsimp only)); refine Kd.R_lit (Kd.int .i64) _ 3 ?hg (N := 73) ?hd (xs := ([x4_1] : List Int)) (inner := [.int .i64 x4_1]) (ok := fun _ => True) (okp := fun _ => True) ?hr ?hp (fun _ hk => hk) trivial (Below.refl _ _) (Nat.le_refl _) (by simp) ?_; (case hd => rfl); (case hg => rfl); (case hr => first | (go_simp; done) | (go_simp; rfl)); (case hp => exact (Reps.one (show Kd.M (Kd.int .i64) _ _ _ x4_1 [.int .i64 x4_1] from rfl) (Reps.none _ _))); intro v809 w43 ho44 hb hg_ hnew_; clear hg_ hnew_; (first | rw [← Ny808.out] at ho44 | (simp only [Int.reduceToNat] at ho44; rw [← Ny808.out] at ho44)); have n0_ := Aside0.mk (Kd.S_elder' (by (with_reducible repeat (first | apply Kd.S_alloc | apply Kd.S_drewN | apply Kd.S_drew)); exact HO_3.out) (Kd.R_base ho44) hb); have n1_ := Aside0.mk (Kd.S_elder' (by (with_reducible repeat (first | apply Kd.S_alloc | apply Kd.S_drewN | apply Kd.S_drew)); exact HO806.out) (Kd.R_base ho44) hb); have n2_ := Aside0.mk (Kd.R_elder' (by (with_reducible repeat (first | apply Kd.R_alloc | apply Kd.R_drewN | apply Kd.R_drew)); exact HL807_0.out) (Kd.R_base ho44) hb); have n3_ := Aside0.mk (Kd.R_elder' (by (with_reducible repeat (first | apply Kd.R_alloc | apply Kd.R_drewN | apply Kd.R_drew)); exact HL807_2.out) (Kd.R_base ho44) hb); have n4_ := Aside0.mk (Kd.R_elder' (by (with_reducible repeat (first | apply Kd.R_alloc | apply Kd.R_drewN | apply Kd.R_drew)); exact HL807_3.out) (Kd.R_base ho44) hb); have n5_ := Aside0.mk (Kd.R_elder' (by (with_reducible repeat (first | apply Kd.R_alloc | apply Kd.R_drewN | apply Kd.R_drew)); exact HL807_4.out) (Kd.R_base ho44) hb); have n6_ := Aside0.mk (Kd.R_lower (Kd.R_new' (Kd.R_new' (Kd.R_new' (Kd.R_new' ho44 (Kd.R_lt (by (with_reducible repeat (first | apply Kd.R_alloc | apply Kd.R_drewN | apply Kd.R_drew)); exact HL807_0.out))) (Kd.R_lt (by (with_reducible repeat (first | apply Kd.R_alloc | apply Kd.R_drewN | apply Kd.R_drew)); exact HL807_2.out))) (Kd.R_lt (by (with_reducible repeat (first | apply Kd.R_alloc | apply Kd.R_drewN | apply Kd.R_drew)); exact HL807_3.out))) (Kd.R_lt (by (with_reducible repeat (first | apply Kd.R_alloc | apply Kd.R_drewN | apply Kd.R_drew)); exact HL807_4.out))) (below_size (by repeat (first | (with_reducible first | exact HB.out | apply below_alloc | apply pw_below_drewN | apply below_drew1) | exact HB.out)))); have n7_ := Aside0.mk (Kd.C_below (by repeat (first | (with_reducible exact HR807_0.out) | (with_reducible refine Kd.C_alloc ?_ _) | (with_reducible refine Kd.C_drewN ?_ _) | (with_reducible refine Kd.C_drew ?_) | exact HR807_0.out)) hb); have n8_ := Aside0.mk (Kd.C_below (by repeat (first | (with_reducible exact HR807_2.out) | (with_reducible refine Kd.C_alloc ?_ _) | (with_reducible refine Kd.C_drewN ?_ _) | (with_reducible refine Kd.C_drew ?_) | exact HR807_2.out)) hb); have n9_ := Aside0.mk (Kd.C_below (by repeat (first | (with_reducible exact HR807_3.out) | (with_reducible refine Kd.C_alloc ?_ _) | (with_reducible refine Kd.C_drewN ?_ _) | (with_reducible refine Kd.C_drew ?_) | exact HR807_3.out)) hb); have n10_ := Aside0.mk (Kd.C_below (by repeat (first | (with_reducible exact HR807_4.out) | (with_reducible refine Kd.C_alloc ?_ _) | (with_reducible refine Kd.C_drewN ?_ _) | (with_reducible refine Kd.C_drew ?_) | exact HR807_4.out)) hb); have n11_ := Aside0.mk (below_step (by repeat (first | (with_reducible first | exact HB.out | apply below_alloc | apply pw_below_drewN | apply below_drew1) | exact HB.out)) hb); clear HO_3; clear HO806; clear HL807_0; clear HL807_2; clear HL807_3; clear HL807_4; clear HR807_0; clear HR807_2; clear HR807_3; clear HR807_4; clear HB; have HO_3 := n0_; have HO806 := n1_; have HL807_0 := n2_; have HL807_2 := n3_; have HL807_3 := n4_; have HL807_4 := n5_; have HO810 := n6_; have HR807_0 := n7_; have HR807_2 := n8_; have HR807_3 := n9_; have HR807_4 := n10_; have HB := n11_; clear n0_ n1_ n2_ n3_ n4_ n5_ n6_ n7_ n8_ n9_ n10_ n11_; clear hb ho44) | ((with_reducible refine gate_dst (N := 75) rfl ?_); (try (refine gate_guard (by rfl) ?_; dsimp only)); refine Kd.R_lit (Kd.int .i64) _ 3 ?hg (N := 75) ?hd (xs := ([x5_1] : List Int)) (inner := [.int .i64 x5_1]) (ok := fun _ => True) (okp := fun _ => True) ?hr ?hp (fun _ hk => hk) trivial (Below.refl _ _) (Nat.le_refl _) (by simp) ?_; (case hd => rfl); (case hg => rfl); (case hr => first | (go_simp; done) | (go_simp; rfl)); (case hp => exact (Reps.one (show Kd.M (Kd.int .i64) _ _ _ x5_1 [.int .i64 x5_1] from rfl) (Reps.none _ _))); intro v812 w45 ho46 hb hg_ hnew_; clear hg_ hnew_; (first | rw [← Ny811.out] at ho46 | (simp only [Int.reduceToNat] at ho46; rw [← Ny811.out] at ho46)); have n0_ := Aside0.mk (Kd.S_elder' (by (with_reducible repeat (first | apply Kd.S_alloc | apply Kd.S_drewN | apply Kd.S_drew)); exact HO_3.out) (Kd.R_base ho46) hb); have n1_ := Aside0.mk (Kd.S_elder' (by (with_reducible repeat (first | apply Kd.S_alloc | apply Kd.S_drewN | apply Kd.S_drew)); exact HO806.out) (Kd.R_base ho46) hb); have n2_ := Aside0.mk (Kd.R_elder' (by (with_reducible repeat (first | apply Kd.R_alloc | apply Kd.R_drewN | apply Kd.R_drew)); exact HL807_0.out) (Kd.R_base ho46) hb); have n3_ := Aside0.mk (Kd.R_elder' (by (with_reducible repeat (first | apply Kd.R_alloc | apply Kd.R_drewN | apply Kd.R_drew)); exact HL807_2.out) (Kd.R_base ho46) hb); have n4_ := Aside0.mk (Kd.R_elder' (by (with_reducible repeat (first | apply Kd.R_alloc | apply Kd.R_drewN | apply Kd.R_drew)); exact HL807_3.out) (Kd.R_base ho46) hb); have n5_ := Aside0.mk (Kd.R_elder' (by (with_reducible repeat (first | apply Kd.R_alloc | apply Kd.R_drewN | apply Kd.R_drew)); exact HL807_4.out) (Kd.R_base ho46) hb); have n6_ := Aside0.mk (Kd.R_elder' (by (with_reducible repeat (first | apply Kd.R_alloc | apply Kd.R_drewN | apply Kd.R_drew)); exact HO810.out) (Kd.R_base ho46) hb); have n7_ := Aside0.mk (Kd.R_lower (Kd.R_new' (Kd.R_new' (Kd.R_new' (Kd.R_new' (Kd.R_new' ho46 (Kd.R_lt (by (with_reducible repeat (first | apply Kd.R_alloc | apply Kd.R_drewN | apply Kd.R_drew)); exact HL807_0.out))) (Kd.R_lt (by (with_reducible repeat (first | apply Kd.R_alloc | apply Kd.R_drewN | apply Kd.R_drew)); exact HL807_2.out))) (Kd.R_lt (by (with_reducible repeat (first | apply Kd.R_alloc | apply Kd.R_drewN | apply Kd.R_drew)); exact HL807_3.out))) (Kd.R_lt (by (with_reducible repeat (first | apply Kd.R_alloc | apply Kd.R_drewN | apply Kd.R_drew)); exact HL807_4.out))) (Kd.R_lt (by (with_reducible repeat (first | apply Kd.R_alloc | apply Kd.R_drewN | apply Kd.R_drew)); exact HO810.out))) (below_size (by repeat (first | (with_reducible first | exact HB.out | apply below_alloc | apply pw_below_drewN | apply below_drew1) | exact HB.out)))); have n8_ := Aside0.mk (Kd.C_below (by repeat (first | (with_reducible exact HR807_0.out) | (with_reducible refine Kd.C_alloc ?_ _) | (with_reducible refine Kd.C_drewN ?_ _) | (with_reducible refine Kd.C_drew ?_) | exact HR807_0.out)) hb); have n9_ := Aside0.mk (Kd.C_below (by repeat (first | (with_reducible exact HR807_2.out) | (with_reducible refine Kd.C_alloc ?_ _) | (with_reducible refine Kd.C_drewN ?_ _) | (with_reducible refine Kd.C_drew ?_) | exact HR807_2.out)) hb); have n10_ := Aside0.mk (Kd.C_below (by repeat (first | (with_reducible exact HR807_3.out) | (with_reducible refine Kd.C_alloc ?_ _) | (with_reducible refine Kd.C_drewN ?_ _) | (with_reducible refine Kd.C_drew ?_) | exact HR807_3.out)) hb); have n11_ := Aside0.mk (Kd.C_below (by repeat (first | (with_reducible exact HR807_4.out) | (with_reducible refine Kd.C_alloc ?_ _) | (with_reducible refine Kd.C_drewN ?_ _) | (with_reducible refine Kd.C_drew ?_) | exact HR807_4.out)) hb); have n12_ := Aside0.mk (below_step (by repeat (first | (with_reducible first | exact HB.out | apply below_alloc | apply pw_below_drewN | apply below_drew1) | exact HB.out)) hb); clear HO_3; clear HO806; clear HL807_0; clear HL807_2; clear HL807_3; clear HL807_4; clear HO810; clear HR807_0; clear HR807_2; clear HR807_3; clear HR807_4; clear HB; have HO_3 := n0_; have HO806 := n1_; have HL807_0 := n2_; have HL807_2 := n3_; have HL807_3 := n4_; have HL807_4 := n5_; have HO810 := n6_; have HO813 := n7_; have HR807_0 := n8_; have HR807_2 := n9_; have HR807_3 := n10_; have HR807_4 := n11_; have HB := n12_; clear n0_ n1_ n2_ n3_ n4_ n5_ n6_ n7_ n8_ n9_ n10_ n11_ n12_; clear hb ho46) | ((with_reducible refine gate_dst (N := 77) rfl ?_); (try (refine gate_guard (by rfl) ?_; dsimp only)); refine Kd.R_lit (Kd.int .i64) _ 3 ?hg (N := 77) ?hd (xs := ([x6_1] : List Int)) (inner := [.int .i64 x6_1]) (ok := fun _ => True) (okp := fun _ => True) ?hr ?hp (fun _ hk => hk) trivial (Below.refl _ _) (Nat.le_refl _) (by simp) ?_; (case hd => rfl); (case hg => rfl); (case hr => first | (go_simp; done) | (go_simp; rfl)); (case hp => exact (Reps.one (show Kd.M (Kd.int .i64) _ _ _ x6_1 [.int .i64 x6_1] from rfl) (Reps.none _ _))); intro v815 w47 ho48 hb hg_ hnew_; clear hg_ hnew_; (first | rw [← Ny814.out] at ho48 | (simp only [Int.reduceToNat] at ho48; rw [← Ny814.out] at ho48)); have n0_ := Aside0.mk (Kd.S_elder' (by (with_reducible repeat (first | apply Kd.S_alloc | apply Kd.S_drewN | apply Kd.S_drew)); exact HO_3.out) (Kd.R_base ho48) hb); have n1_ := Aside0.mk (Kd.S_elder' (by (with_reducible repeat (first | apply Kd.S_alloc | apply Kd.S_drewN | apply Kd.S_drew)); exact HO806.out) (Kd.R_base ho48) hb); have n2_ := Aside0.mk (Kd.R_elder' (by (with_reducible repeat (first | apply Kd.R_alloc | apply Kd.R_drewN | apply Kd.R_drew)); exact HL807_0.out) (Kd.R_base ho48) hb); have n3_ := Aside0.mk (Kd.R_elder' (by (with_reducible repeat (first | apply Kd.R_alloc | apply Kd.R_drewN | apply Kd.R_drew)); exact HL807_2.out) (Kd.R_base ho48) hb); have n4_ := Aside0.mk (Kd.R_elder' (by (with_reducible repeat (first | apply Kd.R_alloc | apply Kd.R_drewN | apply Kd.R_drew)); exact HL807_3.out) (Kd.R_base ho48) hb); have n5_ := Aside0.mk (Kd.R_elder' (by (with_reducible repeat (first | apply Kd.R_alloc | apply Kd.R_drewN | apply Kd.R_drew)); exact HL807_4.out) (Kd.R_base ho48) hb); have n6_ := Aside0.mk (Kd.R_elder' (by (with_reducible repeat (first | apply Kd.R_alloc | apply Kd.R_drewN | apply Kd.R_drew)); exact HO810.out) (Kd.R_base ho48) hb); have n7_ := Aside0.mk (Kd.R_elder' (by (with_reducible repeat (first | apply Kd.R_alloc | apply Kd.R_drewN | apply Kd.R_drew)); exact HO813.out) (Kd.R_base ho48) hb); have n8_ := Aside0.mk (Kd.R_lower (Kd.R_new' (Kd.R_new' (Kd.R_new' (Kd.R_new' (Kd.R_new' (Kd.R_new' ho48 (Kd.R_lt (by (with_reducible repeat (first | apply Kd.R_alloc | apply Kd.R_drewN | apply Kd.R_drew)); exact HL807_0.out))) (Kd.R_lt (by (with_reducible repeat (first | apply Kd.R_alloc | apply Kd.R_drewN | apply Kd.R_drew)); exact HL807_2.out))) (Kd.R_lt (by (with_reducible repeat (first | apply Kd.R_alloc | apply Kd.R_drewN | apply Kd.R_drew)); exact HL807_3.out))) (Kd.R_lt (by (with_reducible repeat (first | apply Kd.R_alloc | apply Kd.R_drewN | apply Kd.R_drew)); exact HL807_4.out))) (Kd.R_lt (by (with_reducible repeat (first | apply Kd.R_alloc | apply Kd.R_drewN | apply Kd.R_drew)); exact HO810.out))) (Kd.R_lt (by (with_reducible repeat (first | apply Kd.R_alloc | apply Kd.R_drewN | apply Kd.R_drew)); exact HO813.out))) (below_size (by repeat (first | (with_reducible first | exact HB.out | apply below_alloc | apply pw_below_drewN | apply below_drew1) | exact HB.out)))); have n9_ := Aside0.mk (Kd.C_below (by repeat (first | (with_reducible exact HR807_0.out) | (with_reducible refine Kd.C_alloc ?_ _) | (with_reducible refine Kd.C_drewN ?_ _) | (with_reducible refine Kd.C_drew ?_) | exact HR807_0.out)) hb); have n10_ := Aside0.mk (Kd.C_below (by repeat (first | (with_reducible exact HR807_2.out) | (with_reducible refine Kd.C_alloc ?_ _) | (with_reducible refine Kd.C_drewN ?_ _) | (with_reducible refine Kd.C_drew ?_) | exact HR807_2.out)) hb); have n11_ := Aside0.mk (Kd.C_below (by repeat (first | (with_reducible exact HR807_3.out) | (with_reducible refine Kd.C_alloc ?_ _) | (with_reducible refine Kd.C_drewN ?_ _) | (with_reducible refine Kd.C_drew ?_) | exact HR807_3.out)) hb); have n12_ := Aside0.mk (Kd.C_below (by repeat (first | (with_reducible exact HR807_4.out) | (with_reducible refine Kd.C_alloc ?_ _) | (with_reducible refine Kd.C_drewN ?_ _) | (with_reducible refine Kd.C_drew ?_) | exact HR807_4.out)) hb); have n13_ := Aside0.mk (below_step (by repeat (first | (with_reducible first | exact HB.out | apply below_alloc | apply pw_below_drewN | apply below_drew1) | exact HB.out)) hb); clear HO_3; clear HO806; clear HL807_0; clear HL807_2; clear HL807_3; clear HL807_4; clear HO810; clear HO813; clear HR807_0; clear HR807_2; clear HR807_3; clear HR807_4; clear HB; have HO_3 := n0_; have HO806 := n1_; have HL807_0 := n2_; have HL807_2 := n3_; have HL807_3 := n4_; have HL807_4 := n5_; have HO810 := n6_; have HO813 := n7_; have HO816 := n8_; have HR807_0 := n9_; have HR807_2 := n10_; have HR807_3 := n11_; have HR807_4 := n12_; have HB := n13_; clear n0_ n1_ n2_ n3_ n4_ n5_ n6_ n7_ n8_ n9_ n10_ n11_ n12_ n13_; clear hb ho48; obtain ⟨Ao49, co49, eo49⟩ := Kd.R_slice HO816.out; subst eo49; obtain ⟨Ao50, co50, eo50⟩ := Kd.R_slice HO813.out; subst eo50; obtain ⟨Ao51, co51, eo51⟩ := Kd.R_slice HO810.out; subst eo51) | (go_at_call 22; (refine (hypercuberef2_Equal.calls kj4 _ _ ((rd_T30 t804 0).f0) ((rd_T30 t804 0).f1) _ _ ((rd_T30 t804 0).f2) _ _ ((rd_T30 t804 0).f3) _ _ ((rd_T30 t804 0).f4) _ _ ([] : List Int) (x3_1.length : Int) _ _ y808 _ _ y811 _ _ y814 t817 _ ?side1 ?side2 ?side3 ?side4 ?side5 ?side6 ?side7 ?side8 ?side9 ?side10 ?side11 ?side12 ?side13 ?side14 ?side15 ?side16 A39.out).mono ?_); (case side1 => repeat (first | exact (by repeat (first | (with_reducible exact HR807_0.out) | (with_reducible refine Kd.C_alloc ?_ _) | (with_reducible refine Kd.C_drewN ?_ _) | (with_reducible refine Kd.C_drew ?_) | exact HR807_0.out)) | (with_reducible refine Kd.C_alloc ?_ _) | (with_reducible refine Kd.C_drewN ?_ _) | (with_reducible refine Kd.C_drew ?_))); (case side2 => exact HC807_0.out); (case side3 => repeat (first | exact (by repeat (first | (with_reducible exact HR807_2.out) | (with_reducible refine Kd.C_alloc ?_ _) | (with_reducible refine Kd.C_drewN ?_ _) | (with_reducible refine Kd.C_drew ?_) | exact HR807_2.out)) | (with_reducible refine Kd.C_alloc ?_ _) | (with_reducible refine Kd.C_drewN ?_ _) | (with_reducible refine Kd.C_drew ?_))); (case side4 => exact HC807_2.out); (case side5 => repeat (first | exact (by repeat (first | (with_reducible exact HR807_3.out) | (with_reducible refine Kd.C_alloc ?_ _) | (with_reducible refine Kd.C_drewN ?_ _) | (with_reducible refine Kd.C_drew ?_) | exact HR807_3.out)) | (with_reducible refine Kd.C_alloc ?_ _) | (with_reducible refine Kd.C_drewN ?_ _) | (with_reducible refine Kd.C_drew ?_))); (case side6 => exact HC807_3.out); (case side7 => repeat (first | exact (by repeat (first | (with_reducible exact HR807_4.out) | (with_reducible refine Kd.C_alloc ?_ _) | (with_reducible refine Kd.C_drewN ?_ _) | (with_reducible refine Kd.C_drew ?_) | exact HR807_4.out)) | (with_reducible refine Kd.C_alloc ?_ _) | (with_reducible refine Kd.C_drewN ?_ _) | (with_reducible refine Kd.C_drew ?_))); (case side8 => exact HC807_4.out); (case side9 => exact Kd.C_nil _ _); (case side10 => exact Nat.le_refl _); (case side11 => repeat (first | exact (Kd.R_reads' HO810.out).2.2 | (with_reducible refine Kd.C_alloc ?_ _) | (with_reducible refine Kd.C_drewN ?_ _) | (with_reducible refine Kd.C_drew ?_))); (case side12 => exact (Kd.R_reads' HO810.out).2.1); (case side13 => repeat (first | exact (Kd.R_reads' HO813.out).2.2 | (with_reducible refine Kd.C_alloc ?_ _) | (with_reducible refine Kd.C_drewN ?_ _) | (with_reducible refine Kd.C_drew ?_))); (case side14 => exact (Kd.R_reads' HO813.out).2.1); (case side15 => repeat (first | exact (Kd.R_reads' HO816.out).2.2 | (with_reducible refine Kd.C_alloc ?_ _) | (with_reducible refine Kd.C_drewN ?_ _) | (with_reducible refine Kd.C_drew ?_))); (case side16 => exact (Kd.R_reads' HO816.out).2.1); rintro e w52 ⟨rfl, hb⟩; have n0_ := Aside0.mk (Kd.S_below (by (with_reducible repeat (first | apply Kd.S_alloc | apply Kd.S_drewN | apply Kd.S_drew)); exact HO_3.out) hb); have n1_ := Aside0.mk (Kd.S_below (by (with_reducible repeat (first | apply Kd.S_alloc | apply Kd.S_drewN | apply Kd.S_drew)); exact HO806.out) hb); have n2_ := Aside0.mk (Kd.R_below (by (with_reducible repeat (first | apply Kd.R_alloc | apply Kd.R_drewN | apply Kd.R_drew)); exact HL807_0.out) hb); have n3_ := Aside0.mk (Kd.R_below (by (with_reducible repeat (first | apply Kd.R_alloc | apply Kd.R_drewN | apply Kd.R_drew)); exact HL807_2.out) hb); have n4_ := Aside0.mk (Kd.R_below (by (with_reducible repeat (first | apply Kd.R_alloc | apply Kd.R_drewN | apply Kd.R_drew)); exact HL807_3.out) hb); have n5_ := Aside0.mk (Kd.R_below (by (with_reducible repeat (first | apply Kd.R_alloc | apply Kd.R_drewN | apply Kd.R_drew)); exact HL807_4.out) hb); have n6_ := Aside0.mk (Kd.R_below (by (with_reducible repeat (first | apply Kd.R_alloc | apply Kd.R_drewN | apply Kd.R_drew)); exact HO810.out) hb); have n7_ := Aside0.mk (Kd.R_below (by (with_reducible repeat (first | apply Kd.R_alloc | apply Kd.R_drewN | apply Kd.R_drew)); exact HO813.out) hb); have n8_ := Aside0.mk (Kd.R_below (by (with_reducible repeat (first | apply Kd.R_alloc | apply Kd.R_drewN | apply Kd.R_drew)); exact HO816.out) hb); have n9_ := Aside0.mk (Kd.C_below (by repeat (first | (with_reducible exact HR807_0.out) | (with_reducible refine Kd.C_alloc ?_ _) | (with_reducible refine Kd.C_drewN ?_ _) | (with_reducible refine Kd.C_drew ?_) | exact HR807_0.out)) hb); have n10_ := Aside0.mk (Kd.C_below (by repeat (first | (with_reducible exact HR807_2.out) | (with_reducible refine Kd.C_alloc ?_ _) | (with_reducible refine Kd.C_drewN ?_ _) | (with_reducible refine Kd.C_drew ?_) | exact HR807_2.out)) hb); have n11_ := Aside0.mk (Kd.C_below (by repeat (first | (with_reducible exact HR807_3.out) | (with_reducible refine Kd.C_alloc ?_ _) | (with_reducible refine Kd.C_drewN ?_ _) | (with_reducible refine Kd.C_drew ?_) | exact HR807_3.out)) hb); have n12_ := Aside0.mk (Kd.C_below (by repeat (first | (with_reducible exact HR807_4.out) | (with_reducible refine Kd.C_alloc ?_ _) | (with_reducible refine Kd.C_drewN ?_ _) | (with_reducible refine Kd.C_drew ?_) | exact HR807_4.out)) hb); have n13_ := Aside0.mk (below_step (by repeat (first | (with_reducible first | exact HB.out | apply below_alloc | apply pw_below_drewN | apply below_drew1) | exact HB.out)) hb); clear HO_3; clear HO806; clear HL807_0; clear HL807_2; clear HL807_3; clear HL807_4; clear HO810; clear HO813; clear HO816; clear HR807_0; clear HR807_2; clear HR807_3; clear HR807_4; clear HB; have HO_3 := n0_; have HO806 := n1_; have HL807_0 := n2_; have HL807_2 := n3_; have HL807_3 := n4_; have HL807_4 := n5_; have HO810 := n6_; have HO813 := n7_; have HO816 := n8_; have HR807_0 := n9_; have HR807_2 := n10_; have HR807_3 := n11_; have HR807_4 := n12_; have HB := n13_; clear n0_ n1_ n2_ n3_ n4_ n5_ n6_ n7_ n8_ n9_ n10_ n11_ n12_ n13_; (try clear hb); (try clear hb2); (try clear hk); (try clear hi)))
          go_ret
          exact ⟨by first | rfl | (simp [errW_none, errW_some] <;> rfl) | (simp [*, errW_none, errW_some] <;> rfl), by repeat (first | (with_reducible first | exact HB.out | apply below_alloc | apply pw_below_drewN | apply below_drew1) | exact HB.out)⟩
         ·rw [if_neg c38] at H
          exact absurd H (by simp)
        ·rw [if_neg c37] at H
         exact absurd H (by simp)
 ·replace c3 := Bool.eq_false_iff.mpr c3
  subst c3
  have H1 : (none) = some r := by rw [if_neg (show ¬ (false = true) by decide)] at H; exact H
  clear H
  have H := H1
  clear H1
  exact absurd H (by simp)

/-- THE ONE PURE STATEMENT of hypercubelaw2_CellTotals: yours. -/
def hypercubelaw2_CellTotals.Pure : Prop := ∀ (l0 : List Int), l0.length ≤ maxLen → l0.length * 8 ≤ 140737488351232 → (∀ x ∈ l0, (Lit.int .i64 x).wf = true) → ∃ k, hypercubelaw2_CellTotals.f k l0 = some true
theorem hypercubelaw2_CellTotals.walk (P : hypercubelaw2_CellTotals.Pure) (a0 : Option Addr) (len0 cap0 : Nat) (z0 : List Int) (w : World) (w0 : (a0 = none ∧ len0 = 0 ∧ cap0 = 0 ∧ z0 = []) ∨ ∃ x, a0 = some x ∧ len0 ≤ cap0 ∧ cap0 ≤ maxLen ∧ z0.length = cap0 ∧ (∀ i, i < z0.length → w.cell? (x.add i) = some (.int .i64 (z0.getD i 0))) ∧ ∀ n ∈ z0, (Lit.int .i64 n).wf = true) (y0 : len0 * 8 ≤ 140737488351232) :
  Calls Try.prog 9 #[.slice a0 len0 cap0] w fun e w' => e = .returned (.bool true) ∧ Below w.heap.size w w' := by
 obtain ⟨l0, rfl, hr0, hm0, hw0, hc0⟩ := ReadsInt.ofRowC w0
 obtain ⟨k, h⟩ := P l0 hm0 y0 hw0
 refine (hypercubelaw2_CellTotals.calls k _ _ l0 true w (Kd.C_of_reads (d := (0 : Int)) (h1 := fun _ => rfl) hr0) hc0 h).mono ?_
 rintro e w' ⟨rfl, hd⟩
 exact ⟨rfl, hd⟩

end Go.Proofs.Ytmkjkkmilopcpaa.Q
