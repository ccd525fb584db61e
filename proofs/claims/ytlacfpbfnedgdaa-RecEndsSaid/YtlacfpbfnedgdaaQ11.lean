-- written by wip/tools/xprint.py (a program of this session, over the kit's printer)
import Derived.Test.YtlacfpbfnedgdaaQ0
namespace Go.Proofs.Ytlacfpbfnedgdaa.Q
open Go.RowKit Go.Proofs.YtlacfpbfnedgdaaW.PrintWords Go.Proofs.YtlacfpbfnedgdaaW.PrintLast Go.Proofs.YtlacfpbfnedgdaaW.PrintMore
attribute [local go_sem] max2_int min2_int max_two min_two max_three min_three max_four min_four   -- for this text's walks alone
set_option linter.unusedVariables false
set_option linter.unusedSimpArgs false

/-! ### hypercuberef1_Back: function 40 -/
def hypercuberef1_Back.l0 : Nat → List Int → Int → Int → Option (Int)
 | 0, _, _, _ => none
 | k + 1, x0, x3, x4 => if x4 < 8 then (if 0 ≤ x4 then (if x4 < (x0.length : Int) then (hypercuberef1_Back.l0 k x0 (Go.bits .or .i64 (wrap64 (x3 * 256)) (wrap64 (rd x0 x4))) (wrap64 (x4 + 1))) else (none)) else (none)) else (some x3)
def hypercuberef1_Back.f (k : Nat) (l0 : List Int) : Option (Int) := hypercuberef1_Back.l0 k l0 0 0
theorem hypercuberef1_Back.mono_l : ∀ k, (∀ y0 y1 y2, LeO (hypercuberef1_Back.l0 k y0 y1 y2) (hypercuberef1_Back.l0 (k + 1) y0 y1 y2))
 | 0 => fun _ _ _ r h => by simp [hypercuberef1_Back.l0] at h
 | k + 1 => by
  have ih0 := hypercuberef1_Back.mono_l k
  ·intro y0 y1 y2
   unfold hypercuberef1_Back.l0
   repeat' first
   | (with_reducible exact ih0 _ _ _)
   | (with_reducible exact LeO.refl _)
   | (with_reducible exact LeO.none _)
   | (with_reducible refine LeO.ite ?_ ?_)
   | (with_reducible refine LeO.bind ?_ (fun _ => ?_))
   | exact ih0 _ _ _
   | exact LeO.none _
   | refine LeO.ite ?_ ?_
   | refine LeO.bind ?_ (fun _ => ?_)
theorem hypercuberef1_Back.mono : ∀ a0 k, LeO (hypercuberef1_Back.f k a0) (hypercuberef1_Back.f (k + 1) a0) := by
 intro a0 k
 have ih0 := hypercuberef1_Back.mono_l k
 unfold hypercuberef1_Back.f
 repeat' first
   | (with_reducible exact ih0 _ _ _)
   | (with_reducible exact LeO.refl _)
   | (with_reducible exact LeO.none _)
   | (with_reducible refine LeO.ite ?_ ?_)
   | (with_reducible refine LeO.bind ?_ (fun _ => ?_))
   | exact ih0 _ _ _
   | exact LeO.none _
   | refine LeO.ite ?_ ?_
   | refine LeO.bind ?_ (fun _ => ?_)
set_option maxHeartbeats 8000000 in
set_option maxRecDepth 100000 in
theorem hypercuberef1_Back.calls (k : Nat) (A0 : Option Addr) (c0 : Nat) (l0 : List Int) (r : Int) (w : World) (hr0 : Kd.C (Kd.int .u8) w A0 l0.length l0) (hc0 : l0.length ≤ c0) (h : hypercuberef1_Back.f k l0 = some r) :
  Calls Try.prog 40 #[.slice A0 l0.length c0] w fun e w' => e = .returned (.int .i64 r) ∧ Drawn0 w w' := by
 have HR0 := Aside0.mk hr0
 have HC0 := Aside0.mk hc0
 clear hr0 hc0
 have H : (hypercuberef1_Back.l0 k l0 0 0) = some r := h
 clear h
 have H' := Aside0.mk H
 clear H
 go_enter Try.func40, Try.ntmps40
 go_wp2
 go_loopg [3, 4] k (fun kq v3 v4 w' => ∃ (x3_1 : Int) (x4_1 : Int), v3 = .int .i64 x3_1 ∧ v4 = .int .i64 x4_1 ∧ Aside0 (hypercuberef1_Back.l0 kq l0 x3_1 x4_1 = some r) ∧ Aside0 (kq ≤ k) ∧ Drawn0 w w')
 case atStart => exact ⟨(0), (0), (by first | rfl | (simp; done) | (simp [*]; done)), (by first | rfl | (simp; done) | (simp [*]; done)), H', ⟨Nat.le_refl _⟩, by repeat (first | exact Drawn0.refl _ | apply Drawn0.step)⟩
 case round =>
  clear H'
  obtain ⟨x3_1, x4_1, rfl, rfl, HA, HK1, ⟨m1, rfl⟩⟩ := hrel
  cases gk with
  | zero => exact absurd HA.out (by simp [hypercuberef1_Back.l0])
  | succ k1 =>
   have H := HA.out
   clear HA
   simp only [hypercuberef1_Back.l0] at H
   by_cases c2 : x4_1 < 8
   ·rw [if_pos c2] at H
    have c2b0 : decide (x4_1 < 8) = true := decide_eq_true c2
    clear c2
    by_cases c3 : 0 ≤ x4_1
    ·rw [if_pos c3] at H
     have c3b0 : decide (0 ≤ x4_1) = true := decide_eq_true c3
     clear c3
     by_cases c4 : x4_1 < (l0.length : Int)
     ·rw [if_pos c4] at H
      have c4b0 : decide (x4_1 < (l0.length : Int)) = true := decide_eq_true c4
      clear c4
      have H' := Aside0.mk H
      clear H
      have p438 : 0 ≤ (x4_1 : Int) := of_decide_eq_true (by first | (with_reducible assumption) | assumption)
      have q438 : x4_1 < (l0.length : Int) := of_decide_eq_true (by first | (with_reducible assumption) | assumption)
      obtain ⟨ad438, e438, hx438_0⟩ := Kd.at_int HR0.out x4_1 p438 q438
      cases e438
      replace p438 := eq_true p438
      replace q438 := eq_true q438
      go_wp2
      go_roundg k1
      case measure => have := HK1.out; omega
      case rel => exact ⟨(Go.bits .or .i64 (wrap64 (x3_1 * 256)) (wrap64 (rd l0 x4_1))), (wrap64 (x4_1 + 1)), (by first | rfl | (simp; done) | (simp [*]; done)), (by first | rfl | (simp; done) | (simp [*]; done)), H', ⟨by have := HK1.out; omega⟩, by repeat (first | exact Drawn0.refl _ | apply Drawn0.step)⟩
     ·rw [if_neg c4] at H
      exact absurd H (by simp)
    ·rw [if_neg c3] at H
     exact absurd H (by simp)
   ·rw [if_neg c2] at H
    have c2b0 : decide (x4_1 < 8) = false := decide_eq_false c2
    clear c2
    obtain rfl := Option.some.inj H
    go_wp2
    go_ret
    exact ⟨by first | rfl | (simp; done) | (simp [*]; done), by repeat (first | exact Drawn0.refl _ | apply Drawn0.step)⟩

/-! ### hypercuberef1_Sound: function 28 -/
mutual
def hypercuberef1_Sound.l0 : Nat → List (S33) → Int → List Int → Int → Option (Bool)
 | 0, _, _, _, _ => none
 | k + 1, x1, x5, x535000, x535001 => if x5 < x535001 then (hypercuberef1_Sound.l1 k x1 x5 0 0 0 x535000 x535001) else (some true)
def hypercuberef1_Sound.l1 : Nat → List (S33) → Int → Int → Int → Int → List Int → Int → Option (Bool)
 | 0, _, _, _, _, _, _, _ => none
 | k + 1, x1, x5, x6, x7, x8, x535000, x535001 => if x8 < (x1.length : Int) then (if 0 ≤ x8 then (if 0 ≤ x5 then (if x5 < (((rd_T33 x1 x8).f1).length : Int) then (if (rd ((rd_T33 x1 x8).f1) x5) > 0 then (if x6 > (wrap64 (9223372036854775807 - (rd ((rd_T33 x1 x8).f1) x5))) then (some false) else (hypercuberef1_Sound.j2 k x1 x5 (wrap64 (x6 + (rd ((rd_T33 x1 x8).f1) x5))) x7 x8 (rd ((rd_T33 x1 x8).f1) x5) x535000 x535001)) else (hypercuberef1_Sound.j2 k x1 x5 x6 x7 x8 (rd ((rd_T33 x1 x8).f1) x5) x535000 x535001)) else (none)) else (none)) else (none)) else (hypercuberef1_Sound.l0 k x1 (wrap64 (x5 + 1)) x535000 x535001)
def hypercuberef1_Sound.j2 : Nat → List (S33) → Int → Int → Int → Int → Int → List Int → Int → Option (Bool)
 | 0, _, _, _, _, _, _, _, _ => none
 | k + 1, x1, x5, x6, x7, x8, x9, x535000, x535001 => if x9 < 0 then (if x7 < (wrap64 ((-9223372036854775808) - x9)) then (some false) else (hypercuberef1_Sound.l1 k x1 x5 x6 (wrap64 (x7 + x9)) (wrap64 (x8 + 1)) x535000 x535001)) else (hypercuberef1_Sound.l1 k x1 x5 x6 x7 (wrap64 (x8 + 1)) x535000 x535001)
end
def hypercuberef1_Sound.f (k : Nat) (l0_0 : List Int) (a0_1 : Int) (l1 : List (S33)) : Option (Bool) := hypercuberef1_Sound.l0 k l1 0 l0_0 a0_1
theorem hypercuberef1_Sound.mono_l : ∀ k, (∀ y0 y1 y2 y3, LeO (hypercuberef1_Sound.l0 k y0 y1 y2 y3) (hypercuberef1_Sound.l0 (k + 1) y0 y1 y2 y3)) ∧ (∀ y0 y1 y2 y3 y4 y5 y6, LeO (hypercuberef1_Sound.l1 k y0 y1 y2 y3 y4 y5 y6) (hypercuberef1_Sound.l1 (k + 1) y0 y1 y2 y3 y4 y5 y6)) ∧ (∀ y0 y1 y2 y3 y4 y5 y6 y7, LeO (hypercuberef1_Sound.j2 k y0 y1 y2 y3 y4 y5 y6 y7) (hypercuberef1_Sound.j2 (k + 1) y0 y1 y2 y3 y4 y5 y6 y7))
 | 0 => ⟨fun _ _ _ _ r h => by simp [hypercuberef1_Sound.l0] at h, fun _ _ _ _ _ _ _ r h => by simp [hypercuberef1_Sound.l1] at h, fun _ _ _ _ _ _ _ _ r h => by simp [hypercuberef1_Sound.j2] at h⟩
 | k + 1 => by
  obtain ⟨ih0, ih1, ih2⟩ := hypercuberef1_Sound.mono_l k
  refine ⟨?_, ?_, ?_⟩
  ·intro y0 y1 y2 y3
   unfold hypercuberef1_Sound.l0
   repeat' first
   | (with_reducible exact ih0 _ _ _ _)
   | (with_reducible exact ih1 _ _ _ _ _ _ _)
   | (with_reducible exact ih2 _ _ _ _ _ _ _ _)
   | (with_reducible exact LeO.refl _)
   | (with_reducible exact LeO.none _)
   | (with_reducible refine LeO.ite ?_ ?_)
   | (with_reducible refine LeO.bind ?_ (fun _ => ?_))
   | exact ih0 _ _ _ _
   | exact ih1 _ _ _ _ _ _ _
   | exact ih2 _ _ _ _ _ _ _ _
   | exact LeO.none _
   | refine LeO.ite ?_ ?_
   | refine LeO.bind ?_ (fun _ => ?_)
  ·intro y0 y1 y2 y3 y4 y5 y6
   unfold hypercuberef1_Sound.l1
   repeat' first
   | (with_reducible exact ih0 _ _ _ _)
   | (with_reducible exact ih1 _ _ _ _ _ _ _)
   | (with_reducible exact ih2 _ _ _ _ _ _ _ _)
   | (with_reducible exact LeO.refl _)
   | (with_reducible exact LeO.none _)
   | (with_reducible refine LeO.ite ?_ ?_)
   | (with_reducible refine LeO.bind ?_ (fun _ => ?_))
   | exact ih0 _ _ _ _
   | exact ih1 _ _ _ _ _ _ _
   | exact ih2 _ _ _ _ _ _ _ _
   | exact LeO.none _
   | refine LeO.ite ?_ ?_
   | refine LeO.bind ?_ (fun _ => ?_)
  ·intro y0 y1 y2 y3 y4 y5 y6 y7
   unfold hypercuberef1_Sound.j2
   repeat' first
   | (with_reducible exact ih0 _ _ _ _)
   | (with_reducible exact ih1 _ _ _ _ _ _ _)
   | (with_reducible exact ih2 _ _ _ _ _ _ _ _)
   | (with_reducible exact LeO.refl _)
   | (with_reducible exact LeO.none _)
   | (with_reducible refine LeO.ite ?_ ?_)
   | (with_reducible refine LeO.bind ?_ (fun _ => ?_))
   | exact ih0 _ _ _ _
   | exact ih1 _ _ _ _ _ _ _
   | exact ih2 _ _ _ _ _ _ _ _
   | exact LeO.none _
   | refine LeO.ite ?_ ?_
   | refine LeO.bind ?_ (fun _ => ?_)
theorem hypercuberef1_Sound.mono : ∀ a0 a1 a2 k, LeO (hypercuberef1_Sound.f k a0 a1 a2) (hypercuberef1_Sound.f (k + 1) a0 a1 a2) := by
 intro a0 a1 a2 k
 obtain ⟨ih0, ih1, ih2⟩ := hypercuberef1_Sound.mono_l k
 unfold hypercuberef1_Sound.f
 repeat' first
   | (with_reducible exact ih0 _ _ _ _)
   | (with_reducible exact ih1 _ _ _ _ _ _ _)
   | (with_reducible exact ih2 _ _ _ _ _ _ _ _)
   | (with_reducible exact LeO.refl _)
   | (with_reducible exact LeO.none _)
   | (with_reducible refine LeO.ite ?_ ?_)
   | (with_reducible refine LeO.bind ?_ (fun _ => ?_))
   | exact ih0 _ _ _ _
   | exact ih1 _ _ _ _ _ _ _
   | exact ih2 _ _ _ _ _ _ _ _
   | exact LeO.none _
   | refine LeO.ite ?_ ?_
   | refine LeO.bind ?_ (fun _ => ?_)
set_option maxHeartbeats 8000000 in
set_option maxRecDepth 100000 in
theorem hypercuberef1_Sound.calls (k : Nat) (A0_0 : Option Addr) (c0_0 : Nat) (l0_0 : List Int) (a0_1 : Int) (A1 : Option Addr) (c1 : Nat) (l1 : List (S33)) (r : Bool) (w : World) (hr0_0 : Kd.C (Kd.int .i64) w A0_0 l0_0.length l0_0) (hc0_0 : l0_0.length ≤ c0_0) (hr1 : Kd.C k33 w A1 l1.length l1) (hc1 : l1.length ≤ c1) (h : hypercuberef1_Sound.f k l0_0 a0_1 l1 = some r) :
  Calls Try.prog 28 #[.agg #[.slice A0_0 l0_0.length c0_0, .int .i64 a0_1], .slice A1 l1.length c1] w fun e w' => e = .returned (.bool r) ∧ Below w.heap.size w w' := by
 have hu24 := Try.underlying24
 have HR0_0 := Aside0.mk hr0_0
 have HC0_0 := Aside0.mk hc0_0
 clear hr0_0 hc0_0
 have HR1 := Aside0.mk hr1
 have HC1 := Aside0.mk hc1
 clear hr1 hc1
 have HB := Aside0.mk (Below.refl w.heap.size w)
 have H : (hypercuberef1_Sound.l0 k l1 0 l0_0 a0_1) = some r := h
 clear h
 have H' := Aside0.mk H
 clear H
 go_enter Try.func28, Try.ntmps28
 go_wp2_with (first | ((with_reducible refine gate_dst (N := 2) rfl ?_); refine box_event ?hg (N := 2) ?hd (cs := #[.slice A0_0 l0_0.length c0_0, .int .i64 a0_1]) (t := 24) ?hr ?_; (case hd => rfl); (case hg => rfl); (case hr => first | (go_simp; done) | (go_simp; rfl)); intro gb534 hg w3 hbox hb; have n0_ := Aside0.mk (below_step (by repeat (first | (with_reducible first | exact HB.out | apply below_alloc | apply pw_below_drewN | apply below_drew1) | exact HB.out)) hb); have n1_ := Aside0.mk (hbox); have n2_ := Aside0.mk ((by rw [hg]; exact (below_size (by repeat (first | (with_reducible first | exact HB.out | apply below_alloc | apply pw_below_drewN | apply below_drew1) | exact HB.out))) : w.heap.size ≤ gb534)); have n3_ := Aside0.mk ((by rw [hg]; exact (below_size (by repeat (first | (with_reducible first | exact HB.out | apply below_alloc | apply pw_below_drewN | apply below_drew1) | exact HB.out))) : w.heap.size ≤ gb534)); clear HB; have HB := n0_; have BK534 := n1_; have GW534 := n2_; have GE534 := n3_; clear n0_ n1_ n2_ n3_; clear hb hbox hg))
 go_loopg [5] k (fun kq v5 w' => ∃ (x5_1 : Int), v5 = .int .i64 x5_1 ∧ Aside0 (hypercuberef1_Sound.l0 kq l1 x5_1 l0_0 a0_1 = some r) ∧ Aside0 (kq ≤ k) ∧ Aside0 (w'.heap[gb534]? = some (.cells #[(.slice A0_0 l0_0.length c0_0), .int .i64 a0_1] 24 (0, 0))) ∧ Aside0 (Below w.heap.size w w'))
 case atStart => exact ⟨(0), (by first | rfl | (simp; done) | (simp [*]; done)), H', ⟨Nat.le_refl _⟩, ⟨by (with_reducible repeat (first | refine blk_drewN ?_ _ | refine blk_drew ?_ | refine blk_alloc ?_ _)); exact BK534.out⟩, ⟨by repeat (first | (with_reducible first | exact HB.out | apply below_alloc | apply pw_below_drewN | apply below_drew1 | refine below_set ?_ GE534.out) | exact HB.out)⟩⟩
 case round =>
  clear H'
  try clear c1
  try clear c2
  try clear p2
  obtain ⟨x5_1, rfl, HA, HK1, BK534, HB⟩ := hrel
  cases gk with
  | zero => exact absurd HA.out (by simp [hypercuberef1_Sound.l0])
  | succ k1 =>
   have H := HA.out
   clear HA
   simp only [hypercuberef1_Sound.l0] at H
   by_cases c4 : x5_1 < a0_1
   ·rw [if_pos c4] at H
    have c4b0 : decide (x5_1 < a0_1) = true := decide_eq_true c4
    clear c4
    have H' := Aside0.mk H
    clear H
    have hcz5_0 : wr.cell? ⟨gb534, 0, none⟩ = some (.slice A0_0 l0_0.length c0_0) := (blk_cell BK534.out 0).trans rfl
    have hcz5_1 : wr.cell? ⟨gb534, 1, none⟩ = some (.int .i64 a0_1) := (blk_cell BK534.out 1).trans rfl
    have hfz5_0 := blk_frozen BK534.out 0
    have hfz5_1 := blk_frozen BK534.out 1
    go_wp2
    go_loopg [6, 7, 8] k1 (fun kq v6 v7 v8 w' => ∃ (x6_2 : Int) (x7_2 : Int) (x8_2 : Int), v6 = .int .i64 x6_2 ∧ v7 = .int .i64 x7_2 ∧ v8 = .int .i64 x8_2 ∧ Aside0 (hypercuberef1_Sound.l1 kq l1 x5_1 x6_2 x7_2 x8_2 l0_0 a0_1 = some r) ∧ Aside0 (kq ≤ k1) ∧ Aside0 (w'.heap[gb534]? = some (.cells #[(.slice A0_0 l0_0.length c0_0), .int .i64 a0_1] 24 (0, 0))) ∧ Aside0 (Below w.heap.size w w'))
    case atStart => exact ⟨(0), (0), (0), (by first | rfl | (simp; done) | (simp [*]; done)), (by first | rfl | (simp; done) | (simp [*]; done)), (by first | rfl | (simp; done) | (simp [*]; done)), H', ⟨Nat.le_refl _⟩, ⟨by (with_reducible repeat (first | refine blk_drewN ?_ _ | refine blk_drew ?_ | refine blk_alloc ?_ _)); exact BK534.out⟩, ⟨by repeat (first | (with_reducible first | exact HB.out | apply below_alloc | apply pw_below_drewN | apply below_drew1 | refine below_set ?_ GE534.out) | exact HB.out)⟩⟩
    case round =>
     clear H'
     try clear c1
     try clear c2
     try clear p2
     try clear c4
     try clear c4b0
     try clear hcz5_0
     try clear hcz5_1
     try clear hfz5_0
     try clear hfz5_1
     try clear p2
     obtain ⟨x6_2, x7_2, x8_2, rfl, rfl, rfl, HA, HK2, BK534, HB⟩ := hrel
     cases gk with
     | zero => exact absurd HA.out (by simp [hypercuberef1_Sound.l1])
     | succ k2 =>
      have H := HA.out
      clear HA
      simp only [hypercuberef1_Sound.l1] at H
      by_cases c6 : x8_2 < (l1.length : Int)
      ·rw [if_pos c6] at H
       have c6b0 : decide (x8_2 < (l1.length : Int)) = true := decide_eq_true c6
       clear c6
       by_cases c7 : 0 ≤ x8_2
       ·rw [if_pos c7] at H
        have c7b0 : decide (0 ≤ x8_2) = true := decide_eq_true c7
        clear c7
        by_cases c8 : 0 ≤ x5_1
        ·rw [if_pos c8] at H
         have c8b0 : decide (0 ≤ x5_1) = true := decide_eq_true c8
         clear c8
         by_cases c9 : x5_1 < (((rd_T33 l1 x8_2).f1).length : Int)
         ·rw [if_pos c9] at H
          have c9b0 : decide (x5_1 < (((rd_T33 l1 x8_2).f1).length : Int)) = true := decide_eq_true c9
          clear c9
          have HC10 := Aside0.mk H
          clear H
          have p535 : 0 ≤ (x8_2 : Int) := of_decide_eq_true (by first | (with_reducible assumption) | assumption)
          have q535 : x8_2 < (l1.length : Int) := of_decide_eq_true (by first | (with_reducible assumption) | assumption)
          obtain ⟨ad535, A535_0, c535_0, A535_1, c535_1, e535, hx535_0, hx535_1, hl535_0, hi535_0, hl535_1, hi535_1⟩ := at_T33 HR1.out x8_2 p535 q535
          cases e535
          replace hx535_0 := (HB.out.cell (World.block_lt_of_cell? w _ hx535_0)).trans hx535_0
          replace hx535_1 := (HB.out.cell (World.block_lt_of_cell? w _ hx535_1)).trans hx535_1
          have HR535_0 := Aside0.mk hi535_0
          have HC535_0 := Aside0.mk hl535_0
          clear hi535_0 hl535_0
          have HR535_1 := Aside0.mk hi535_1
          have HC535_1 := Aside0.mk hl535_1
          clear hi535_1 hl535_1
          replace p535 := eq_true p535
          replace q535 := eq_true q535
          have p536 : 0 ≤ (x5_1 : Int) := of_decide_eq_true (by first | (with_reducible assumption) | assumption)
          have q536 : x5_1 < (((rd_T33 l1 x8_2).f1).length : Int) := of_decide_eq_true (by first | (with_reducible assumption) | assumption)
          obtain ⟨ad536, e536, hx536_0⟩ := Kd.at_int HR535_1.out x5_1 p536 q536
          cases e536
          replace hx536_0 := (HB.out.cell (World.block_lt_of_cell? w _ hx536_0)).trans hx536_0
          replace p536 := eq_true p536
          replace q536 := eq_true q536
          go_upto_if 31 with (fail)
          go_cut [6] (fun v6 wc => ∃ (kq : Nat) (x6_9 : Int), v6 = .int .i64 x6_9 ∧ Aside0 (hypercuberef1_Sound.j2 kq l1 x5_1 x6_9 x7_2 x8_2 (rd ((rd_T33 l1 x8_2).f1) x5_1) l0_0 a0_1 = some r) ∧ Aside0 (kq ≤ k2) ∧ Aside0 (wc.heap[gb534]? = some (.cells #[(.slice A0_0 l0_0.length c0_0), .int .i64 a0_1] 24 (0, 0))) ∧ Aside0 (Below w.heap.size w wc))
          case first =>
           have H := HC10.out
           clear HC10
           by_cases c11 : (rd ((rd_T33 l1 x8_2).f1) x5_1) > 0
           ·rw [if_pos c11] at H
            have c11b0 : decide (0 < (rd ((rd_T33 l1 x8_2).f1) x5_1)) = true := decide_eq_true c11
            clear c11
            (first | rw [c11b0] | (simp only [i64_w, i32_w]; rw [c11b0]) | skip)
            by_cases c12 : x6_2 > (wrap64 (9223372036854775807 - (rd ((rd_T33 l1 x8_2).f1) x5_1)))
            ·rw [if_pos c12] at H
             have c12b0 : decide ((wrap64 (9223372036854775807 - (rd ((rd_T33 l1 x8_2).f1) x5_1))) < x6_2) = true := decide_eq_true c12
             clear c12
             obtain rfl := Option.some.inj H
             go_wp2
             go_ret
             exact ⟨by first | rfl | (simp [errW_none, errW_some] <;> rfl) | (simp [*, errW_none, errW_some] <;> rfl), by repeat (first | (with_reducible first | exact HB.out | apply below_alloc | apply pw_below_drewN | apply below_drew1 | refine below_set ?_ GE534.out) | exact HB.out)⟩
            ·rw [if_neg c12] at H
             have c12b0 : decide ((wrap64 (9223372036854775807 - (rd ((rd_T33 l1 x8_2).f1) x5_1))) < x6_2) = false := decide_eq_false c12
             clear c12
             have H' := Aside0.mk H
             clear H
             go_wp2
             go_meet
             case rel => exact ⟨_, (wrap64 (x6_2 + (rd ((rd_T33 l1 x8_2).f1) x5_1))), (by first | rfl | (simp; done) | (simp [*]; done)), H', ⟨by have := HK1.out; have := HK2.out; first | omega | exact Nat.le_refl _⟩, ⟨by (with_reducible repeat (first | refine blk_drewN ?_ _ | refine blk_drew ?_ | refine blk_alloc ?_ _)); exact BK534.out⟩, ⟨by repeat (first | (with_reducible first | exact HB.out | apply below_alloc | apply pw_below_drewN | apply below_drew1 | refine below_set ?_ GE534.out) | exact HB.out)⟩⟩
           ·rw [if_neg c11] at H
            have c11b0 : decide (0 < (rd ((rd_T33 l1 x8_2).f1) x5_1)) = false := decide_eq_false c11
            clear c11
            (first | rw [c11b0] | (simp only [i64_w, i32_w]; rw [c11b0]) | skip)
            have H' := Aside0.mk H
            clear H
            go_wp2
            go_meet
            case rel => exact ⟨_, (x6_2), (by first | rfl | (simp; done) | (simp [*]; done)), H', ⟨by have := HK1.out; have := HK2.out; first | omega | exact Nat.le_refl _⟩, ⟨by (with_reducible repeat (first | refine blk_drewN ?_ _ | refine blk_drew ?_ | refine blk_alloc ?_ _)); exact BK534.out⟩, ⟨by repeat (first | (with_reducible first | exact HB.out | apply below_alloc | apply pw_below_drewN | apply below_drew1 | refine below_set ?_ GE534.out) | exact HB.out)⟩⟩
          case rest =>
           clear HC10
           try clear c1
           try clear c2
           try clear p2
           try clear c4
           try clear c4b0
           try clear c5
           try clear p5
           try clear q5
           try clear hx5
           try clear c6
           try clear c6b0
           try clear p6
           try clear c7
           try clear c7b0
           try clear c8
           try clear c8b0
           try clear c9
           try clear c9b0
           try clear c11
           try clear c11b0
           try clear c12
           try clear c12b0
           try clear hcz5_0
           try clear hcz5_1
           try clear hfz5_0
           try clear hfz5_1
           try clear hx535_0
           try clear hx535_1
           try clear hx536_0
           try clear p2
           try clear p535
           try clear p536
           try clear q535
           try clear q536
           obtain ⟨kq, x6_9, rfl, HA, HJ9, BK534, HB⟩ := hcut
           cases kq with
           | zero => exact absurd HA.out (by simp [hypercuberef1_Sound.j2])
           | succ kj9 =>
            have H := HA.out
            clear HA
            simp only [hypercuberef1_Sound.j2] at H
            by_cases c13 : (rd ((rd_T33 l1 x8_2).f1) x5_1) < 0
            ·rw [if_pos c13] at H
             have c13b0 : decide ((rd ((rd_T33 l1 x8_2).f1) x5_1) < 0) = true := decide_eq_true c13
             clear c13
             by_cases c14 : x7_2 < (wrap64 ((-9223372036854775808) - (rd ((rd_T33 l1 x8_2).f1) x5_1)))
             ·rw [if_pos c14] at H
              have c14b0 : decide (x7_2 < (wrap64 ((-9223372036854775808) - (rd ((rd_T33 l1 x8_2).f1) x5_1)))) = true := decide_eq_true c14
              clear c14
              obtain rfl := Option.some.inj H
              go_wp2
              go_ret
              exact ⟨by first | rfl | (simp [errW_none, errW_some] <;> rfl) | (simp [*, errW_none, errW_some] <;> rfl), by repeat (first | (with_reducible first | exact HB.out | apply below_alloc | apply pw_below_drewN | apply below_drew1 | refine below_set ?_ GE534.out) | exact HB.out)⟩
             ·rw [if_neg c14] at H
              have c14b0 : decide (x7_2 < (wrap64 ((-9223372036854775808) - (rd ((rd_T33 l1 x8_2).f1) x5_1)))) = false := decide_eq_false c14
              clear c14
              have H' := Aside0.mk H
              clear H
              go_wp2
              go_roundg kj9
              case measure => have := HK1.out; have := HK2.out; have := HJ9.out; omega
              case rel => exact ⟨(x6_9), (wrap64 (x7_2 + (rd ((rd_T33 l1 x8_2).f1) x5_1))), (wrap64 (x8_2 + 1)), (by first | rfl | (simp; done) | (simp [*]; done)), (by first | rfl | (simp; done) | (simp [*]; done)), (by first | rfl | (simp; done) | (simp [*]; done)), H', ⟨by have := HK1.out; have := HK2.out; have := HJ9.out; omega⟩, ⟨by (with_reducible repeat (first | refine blk_drewN ?_ _ | refine blk_drew ?_ | refine blk_alloc ?_ _)); exact BK534.out⟩, ⟨by repeat (first | (with_reducible first | exact HB.out | apply below_alloc | apply pw_below_drewN | apply below_drew1 | refine below_set ?_ GE534.out) | exact HB.out)⟩⟩
            ·rw [if_neg c13] at H
             have c13b0 : decide ((rd ((rd_T33 l1 x8_2).f1) x5_1) < 0) = false := decide_eq_false c13
             clear c13
             have H' := Aside0.mk H
             clear H
             go_wp2
             go_roundg kj9
             case measure => have := HK1.out; have := HK2.out; have := HJ9.out; omega
             case rel => exact ⟨(x6_9), (x7_2), (wrap64 (x8_2 + 1)), (by first | rfl | (simp; done) | (simp [*]; done)), (by first | rfl | (simp; done) | (simp [*]; done)), (by first | rfl | (simp; done) | (simp [*]; done)), H', ⟨by have := HK1.out; have := HK2.out; have := HJ9.out; omega⟩, ⟨by (with_reducible repeat (first | refine blk_drewN ?_ _ | refine blk_drew ?_ | refine blk_alloc ?_ _)); exact BK534.out⟩, ⟨by repeat (first | (with_reducible first | exact HB.out | apply below_alloc | apply pw_below_drewN | apply below_drew1 | refine below_set ?_ GE534.out) | exact HB.out)⟩⟩
         ·rw [if_neg c9] at H
          exact absurd H (by simp)
        ·rw [if_neg c8] at H
         exact absurd H (by simp)
       ·rw [if_neg c7] at H
        exact absurd H (by simp)
      ·rw [if_neg c6] at H
       have c6b0 : decide (x8_2 < (l1.length : Int)) = false := decide_eq_false c6
       clear c6
       have H' := Aside0.mk H
       clear H
       go_wp2
       go_roundg k2
       case measure => have := HK1.out; have := HK2.out; omega
       case rel => exact ⟨(wrap64 (x5_1 + 1)), (by first | rfl | (simp; done) | (simp [*]; done)), H', ⟨by have := HK1.out; have := HK2.out; omega⟩, ⟨by (with_reducible repeat (first | refine blk_drewN ?_ _ | refine blk_drew ?_ | refine blk_alloc ?_ _)); exact BK534.out⟩, ⟨by repeat (first | (with_reducible first | exact HB.out | apply below_alloc | apply pw_below_drewN | apply below_drew1 | refine below_set ?_ GE534.out) | exact HB.out)⟩⟩
   ·rw [if_neg c4] at H
    have c4b0 : decide (x5_1 < a0_1) = false := decide_eq_false c4
    clear c4
    obtain rfl := Option.some.inj H
    have hcz15_0 : wr.cell? ⟨gb534, 0, none⟩ = some (.slice A0_0 l0_0.length c0_0) := (blk_cell BK534.out 0).trans rfl
    have hcz15_1 : wr.cell? ⟨gb534, 1, none⟩ = some (.int .i64 a0_1) := (blk_cell BK534.out 1).trans rfl
    have hfz15_0 := blk_frozen BK534.out 0
    have hfz15_1 := blk_frozen BK534.out 1
    go_wp2
    go_ret
    exact ⟨by first | rfl | (simp [errW_none, errW_some] <;> rfl) | (simp [*, errW_none, errW_some] <;> rfl), by repeat (first | (with_reducible first | exact HB.out | apply below_alloc | apply pw_below_drewN | apply below_drew1 | refine below_set ?_ GE534.out) | exact HB.out)⟩

end Go.Proofs.Ytlacfpbfnedgdaa.Q
