-- packed by wip/tools/pack.py (a program of this session) out of its own texts
import Derived.Test.YtmnepkbmcnpjlaaPRunsOwn0
import Derived.ArgAppend
import Derived.Below
import Derived.BigQuiet
import Derived.Deep.AppendLies
import Derived.Deep.CutBlock
import Derived.Deep.DeepCutAuto
import Derived.Deep.Draws
import Derived.Deep.LoopGhost
import Derived.Deep.OwnRows
import Derived.Deep.QuietTactic
import Derived.Deep.RegionHeld3
import Derived.KernelRfl
import Derived.Laws.BitsLemmas
import Derived.Laws.BytesArg
import Derived.Laws.IdiomCopy
import Derived.Laws.MakeOwn
import Derived.Laws.OwnMore
import Derived.Laws.Rows
import Derived.Laws.Slices
import Derived.Lib.AppendStr
import Derived.Lib.ConvBytes
import Derived.Maps.AppendAt
import Derived.OrdersHeld
import Derived.OwnWalk
import Derived.RowKit
import Derived.RowKit3
import Derived.Tactics
import Derived.Test.YtmnepkbmcnpjlaaProg
import Derived.WalkKit
import Derived.WideLaws
import Derived.Test.YtmnepkbmcnpjlaaPRunsOwn1
import Derived.Test.YtmnepkbmcnpjlaaPRunsOwn3
import Derived.Test.YtmnepkbmcnpjlaaPRunsOwn4
import Derived.Test.YtmnepkbmcnpjlaaPRunsOwn5
namespace Go.Proofs.Ytmnepkbmcnpjlaa.Q
open Go.RowKit Go.Proofs.YtmnepkbmcnpjlaaW.PrintWords Go.Proofs.YtmnepkbmcnpjlaaW.PrintLast Go.Proofs.YtmnepkbmcnpjlaaW.PrintMore
attribute [local go_sem] max2_int min2_int max_two min_two max_three min_three max_four min_four
set_option linter.unusedVariables false
set_option linter.unusedSimpArgs false
def hypercuberef2_Of.l0 : Nat → Int → Int → List Int → List Int → List Int → Int → Option (List Int × Int × List Int × List Int × List Int)
 | 0, _, _, _, _, _, _ => none
 | k + 1, x1, x6, x236000, x236001, x238000, x238001 => if x6 < (x236000.length : Int) then (if 0 ≤ (IntKind.u64.wrap (x6)) then (if (Go.bits .and .i64 (shr .i64 x1 (IntKind.u64.wrap (x6))) 1) = 1 then (if 0 ≤ x6 then (if x238000.length < 17592186044416 then (hypercuberef2_Of.l0 k x1 (wrap64 (x6 + 1)) x236000 x236001 (x238000 ++ [rd x236000 x6]) x238001) else (none)) else (none)) else (hypercuberef2_Of.l0 k x1 (wrap64 (x6 + 1)) x236000 x236001 x238000 x238001)) else (none)) else ((some (([] : List Int) : List Int)).bind fun y242 => (if y242.length + x236001.length < 17592186044416 then ((some (([] : List Int) : List Int)).bind fun y248 => (if y248.length + x236001.length < 17592186044416 then ((some (([] : List Int) : List Int)).bind fun y254 => (if y254.length + x236001.length < 17592186044416 then (some (x238000, x238001, (y242 ++ x236001), (y248 ++ x236001), (y254 ++ x236001))) else (none))) else (none))) else (none)))
def hypercuberef2_Of.f (k : Nat) (l0_0 : List Int) (l0_1 : List Int) (a1 : Int) : Option (List Int × Int × List Int × List Int × List Int) := hypercuberef2_Of.l0 k a1 0 l0_0 l0_1 ([] : List Int) 1
def hypercuberef2_Of.T6 : Bool × List (List Nat × List Nat) := (true, [([], []), ([0], [0]), ([], []), ([2], [2]), ([], []), ([3, 4], [3, 4]), ([5], [5]), ([6], [6]), ([1, 7], [1, 7]), ([0, 1, 2, 3, 4, 5, 6, 7, 8], []), ([9, 8, 8, 0, 1, 2, 3, 4, 5, 6, 7, 8], [8, 9])])
def hypercuberef2_Of.B6 : List Nat := [0, 1, 0, 4, 0, 28, 60, 124, 255, 511, 1023]
theorem hypercuberef2_Of.tab6 : rtab .any (opsOf Try.f26 6) = hypercuberef2_Of.T6 := by kernel_rfl
theorem hypercuberef2_Of.bits6 : waitsOk hypercuberef2_Of.T6.2 hypercuberef2_Of.B6 = true := by kernel_rfl
set_option maxHeartbeats 8000000 in
set_option maxRecDepth 100000 in
theorem hypercuberef2_Of.calls (k : Nat) (A0_0 : Option Addr) (c0_0 : Nat) (l0_0 : List Int) (A0_1 : Option Addr) (c0_1 : Nat) (l0_1 : List Int) (a1 : Int) (r1 : List Int) (r2 : Int) (r3 : List Int) (r4 : List Int) (r5 : List Int) (w : World) (hr0_0 : Kd.C (Kd.int .i64) w A0_0 l0_0.length l0_0) (hc0_0 : l0_0.length ≤ c0_0) (hr0_1 : Kd.C (Kd.int .i64) w A0_1 l0_1.length l0_1) (hc0_1 : l0_1.length ≤ c0_1) (h : hypercuberef2_Of.f k l0_0 l0_1 a1 = some (r1, r2, r3, r4, r5)) :
  Calls Try.prog 26 #[.agg #[.slice A0_0 l0_0.length c0_0, .slice A0_1 l0_1.length c0_1], .int .i64 a1] w fun e w' => ∃ v0_ v2_ v3_ v4_ : Value, e = .returned (.agg #[v0_, .int .i64 r2, v2_, v3_, v4_]) ∧ Kd.R (Kd.int .i64) 3 w' w.heap.size (fun k_ => some k_ ≠ (v2_ : Value).ownBlock ∧ some k_ ≠ (v3_ : Value).ownBlock ∧ some k_ ≠ (v4_ : Value).ownBlock) v0_ r1 ∧ Kd.R (Kd.int .i64) 3 w' w.heap.size (fun k_ => some k_ ≠ (v0_ : Value).ownBlock ∧ some k_ ≠ (v3_ : Value).ownBlock ∧ some k_ ≠ (v4_ : Value).ownBlock) v2_ r3 ∧ Kd.R (Kd.int .i64) 3 w' w.heap.size (fun k_ => some k_ ≠ (v0_ : Value).ownBlock ∧ some k_ ≠ (v2_ : Value).ownBlock ∧ some k_ ≠ (v4_ : Value).ownBlock) v3_ r4 ∧ Kd.R (Kd.int .i64) 3 w' w.heap.size (fun k_ => some k_ ≠ (v0_ : Value).ownBlock ∧ some k_ ≠ (v2_ : Value).ownBlock ∧ some k_ ≠ (v3_ : Value).ownBlock) v4_ r5 ∧ Below w.heap.size w w' := by
 have hu45 := Try.underlying45
 have hu41 := Try.underlying41
 have HR0_0 := am hr0_0
 have HC0_0 := am hc0_0
 clear hr0_0 hc0_0
 have HR0_1 := am hr0_1
 have HC0_1 := am hc0_1
 clear hr0_1 hc0_1
 have HB := am (Below.refl w.heap.size w)
 have H : (hypercuberef2_Of.l0 k a1 0 l0_0 l0_1 ([] : List Int) 1) = some (r1, r2, r3, r4, r5) := h
 clear h
 have H' := am H
 clear H
 go_enter Try.func26, Try.ntmps26
 go_wp2_with (first | ((with_reducible refine gate_dst (N := 2) rfl ?_); refine box_event ?hg (N := 2) ?hd (cs := #[.slice A0_0 l0_0.length c0_0, .slice A0_1 l0_1.length c0_1]) (t := 45) ?hr ?_; (case hd => rfl); (case hg => rfl); (case hr => first | (go_simp; done) | (go_simp; rfl)); intro gb235 hg w3 hbox hb; have n0_ := am (below_step (wmv HB.out) hb); have n1_ := am (hbox); have n2_ := am ((by rw [hg]; exact (below_size (wmv HB.out)) : w.heap.size ≤ gb235)); have n3_ := am ((by rw [hg]; exact (below_size (wmv HB.out)) : w.heap.size ≤ gb235)); clear HB; revert n0_ n1_ n2_ n3_; intro HB BK235 GW235 GE235; clear hb hbox hg) | ((with_reducible refine gate_dst (N := 4) rfl ?_); refine box_event ?hg (N := 4) ?hd (cs := #[.slice none 0 0, .int .i64 0, .slice none 0 0, .slice none 0 0, .slice none 0 0]) (t := 41) ?hr ?_; (case hd => rfl); (case hg => rfl); (case hr => first | (go_simp; done) | (go_simp; rfl)); intro gb236 hg w4 hbox hb; have n0_ := am (blk_below (bmv BK235.out) hb); have n1_ := am (below_step (wmv HB.out) hb); have n2_ := am (hbox); have n3_ := am ((by rw [hg]; exact (below_size (wmv HB.out)) : w.heap.size ≤ gb236)); have n4_ := am ((by rw [hg]; exact (below_size (wmv HB.out)) : w.heap.size ≤ gb236)); have n5_ := am ((by rw [hg]; exact Nat.ne_of_lt (blk_lt (bmv BK235.out)) : gb235 ≠ gb236)); have n6_ := am ((by rw [hg]; exact Nat.ne_of_gt (blk_lt (bmv BK235.out)) : gb236 ≠ gb235)); clear BK235 HB; revert n0_ n1_ n2_ n3_ n4_ n5_ n6_; intro BK235 HB BK236 GW236 GE236 NB235_236 NB236_235; clear hb hbox hg) | ((with_reducible refine gate_dst (N := 5) rfl ?_); refine box_event ?hg (N := 5) ?hd (cs := #[.slice none 0 0, .int .i64 0, .slice none 0 0, .slice none 0 0, .slice none 0 0]) (t := 41) ?hr ?_; (case hd => rfl); (case hg => rfl); (case hr => first | (go_simp; done) | (go_simp; rfl)); intro gb237 hg w5 hbox hb; have n0_ := am (blk_below (bmv BK235.out) hb); have n1_ := am (blk_below (bmv BK236.out) hb); have n2_ := am (below_step (wmv HB.out) hb); have n3_ := am (hbox); have n4_ := am ((by rw [hg]; exact (below_size (wmv HB.out)) : w.heap.size ≤ gb237)); have n5_ := am ((by rw [hg]; exact (below_size (wmv HB.out)) : w.heap.size ≤ gb237)); have n6_ := am ((by rw [hg]; exact Nat.ne_of_lt (blk_lt (bmv BK235.out)) : gb235 ≠ gb237)); have n7_ := am ((by rw [hg]; exact Nat.ne_of_gt (blk_lt (bmv BK235.out)) : gb237 ≠ gb235)); have n8_ := am ((by rw [hg]; exact Nat.ne_of_lt (blk_lt (bmv BK236.out)) : gb236 ≠ gb237)); have n9_ := am ((by rw [hg]; exact Nat.ne_of_gt (blk_lt (bmv BK236.out)) : gb237 ≠ gb236)); clear BK235 BK236 HB; revert n0_ n1_ n2_ n3_ n4_ n5_ n6_ n7_ n8_ n9_; intro BK235 BK236 HB BK237 GW237 GE237 NB235_237 NB237_235 NB236_237 NB237_236; clear hb hbox hg; have hnb6 := NB237_235.out; have hnc6 := NB235_237.out; have hnb7 := NB237_236.out; have hnc7 := NB236_237.out; have hcz8_0 : w5.cell? ⟨gb237, 0, none⟩ = some (.slice none 0 0) := (blk_cell BK237.out 0).trans rfl; have hcz8_1 : w5.cell? ⟨gb237, 1, none⟩ = some (.int .i64 0) := (blk_cell BK237.out 1).trans rfl; have hcz8_2 : w5.cell? ⟨gb237, 2, none⟩ = some (.slice none 0 0) := (blk_cell BK237.out 2).trans rfl; have hcz8_3 : w5.cell? ⟨gb237, 3, none⟩ = some (.slice none 0 0) := (blk_cell BK237.out 3).trans rfl; have hcz8_4 : w5.cell? ⟨gb237, 4, none⟩ = some (.slice none 0 0) := (blk_cell BK237.out 4).trans rfl; have hfz8_0 := blk_frozen BK237.out 0; have hfz8_1 := blk_frozen BK237.out 1; have hfz8_2 := blk_frozen BK237.out 2; have hfz8_3 := blk_frozen BK237.out 3; have hfz8_4 := blk_frozen BK237.out 4))
 go_loopg [6] k (fun kq v6 w' => ∃ (x6_1 : Int) (x238000_1 : List Int) (u238000 : Value), v6 = .int .i64 x6_1 ∧ Aside0 (hypercuberef2_Of.l0 kq a1 x6_1 l0_0 l0_1 x238000_1 1 = some (r1, r2, r3, r4, r5)) ∧ Aside0 (kq ≤ k) ∧ Aside0 (Kd.R (Kd.int .i64) 3 w' w.heap.size (fun _ => True) u238000 x238000_1) ∧ Aside0 (w'.heap[gb235]? = some (.cells #[(.slice A0_0 l0_0.length c0_0), (.slice A0_1 l0_1.length c0_1)] 45 (0, 0))) ∧ Aside0 (w'.heap[gb236]? = some (.cells #[(.slice none 0 0), .int .i64 0, (.slice none 0 0), (.slice none 0 0), (.slice none 0 0)] 41 (0, 0))) ∧ Aside0 (w'.heap[gb237]? = some (.cells #[u238000, .int .i64 1, (.slice none 0 0), (.slice none 0 0), (.slice none 0 0)] 41 (0, 0))) ∧ Aside0 (Below w.heap.size w w'))
 case atStart => exact ⟨(0), (([] : List Int)), (.slice none 0 0), (by first | rfl | (simp; done) | (simp [*]; done)), H', ⟨Nat.le_refl _⟩, ⟨by first | exact Kd.R_nil _ _ _ _ _ | exact Kd.N_nil _ _ _ _ _ | exact Kd.V_nil _ _ _ _ _ | exact Kd.Q_nil _ _ _ _ _ | exact Kd.S_nil _ _ _ _ _⟩, ⟨by (with_reducible repeat (first | refine blk_drewN ?_ _ | refine blk_drew ?_ | refine blk_alloc ?_ _)); refine blk_far ?_ NB235_237.out _; (with_reducible repeat (first | refine blk_drewN ?_ _ | refine blk_drew ?_ | refine blk_alloc ?_ _)); refine blk_far ?_ NB235_237.out _; (with_reducible repeat (first | refine blk_drewN ?_ _ | refine blk_drew ?_ | refine blk_alloc ?_ _)); refine blk_far ?_ NB235_237.out _; (with_reducible repeat (first | refine blk_drewN ?_ _ | refine blk_drew ?_ | refine blk_alloc ?_ _)); refine blk_far ?_ NB235_237.out _; (with_reducible repeat (first | refine blk_drewN ?_ _ | refine blk_drew ?_ | refine blk_alloc ?_ _)); refine blk_far ?_ NB235_237.out _; (with_reducible repeat (first | refine blk_drewN ?_ _ | refine blk_drew ?_ | refine blk_alloc ?_ _)); exact BK235.out⟩, ⟨by (with_reducible repeat (first | refine blk_drewN ?_ _ | refine blk_drew ?_ | refine blk_alloc ?_ _)); refine blk_far ?_ NB236_237.out _; (with_reducible repeat (first | refine blk_drewN ?_ _ | refine blk_drew ?_ | refine blk_alloc ?_ _)); refine blk_far ?_ NB236_237.out _; (with_reducible repeat (first | refine blk_drewN ?_ _ | refine blk_drew ?_ | refine blk_alloc ?_ _)); refine blk_far ?_ NB236_237.out _; (with_reducible repeat (first | refine blk_drewN ?_ _ | refine blk_drew ?_ | refine blk_alloc ?_ _)); refine blk_far ?_ NB236_237.out _; (with_reducible repeat (first | refine blk_drewN ?_ _ | refine blk_drew ?_ | refine blk_alloc ?_ _)); refine blk_far ?_ NB236_237.out _; (with_reducible repeat (first | refine blk_drewN ?_ _ | refine blk_drew ?_ | refine blk_alloc ?_ _)); exact BK236.out⟩, ⟨by (with_reducible repeat (first | refine blk_drewN ?_ _ | refine blk_drew ?_ | refine blk_alloc ?_ _)); refine blk_put (cs := #[.slice none 0 0, .int .i64 1, .slice none 0 0, .slice none 0 0, .slice none 0 0]) ?_ 4 _ rfl; (with_reducible repeat (first | refine blk_drewN ?_ _ | refine blk_drew ?_ | refine blk_alloc ?_ _)); refine blk_put (cs := #[.slice none 0 0, .int .i64 1, .slice none 0 0, .slice none 0 0, .slice none 0 0]) ?_ 3 _ rfl; (with_reducible repeat (first | refine blk_drewN ?_ _ | refine blk_drew ?_ | refine blk_alloc ?_ _)); refine blk_put (cs := #[.slice none 0 0, .int .i64 1, .slice none 0 0, .slice none 0 0, .slice none 0 0]) ?_ 2 _ rfl; (with_reducible repeat (first | refine blk_drewN ?_ _ | refine blk_drew ?_ | refine blk_alloc ?_ _)); refine blk_put (cs := #[.slice none 0 0, .int .i64 0, .slice none 0 0, .slice none 0 0, .slice none 0 0]) ?_ 1 _ rfl; (with_reducible repeat (first | refine blk_drewN ?_ _ | refine blk_drew ?_ | refine blk_alloc ?_ _)); refine blk_put (cs := #[.slice none 0 0, .int .i64 0, .slice none 0 0, .slice none 0 0, .slice none 0 0]) ?_ 0 _ rfl; (with_reducible repeat (first | refine blk_drewN ?_ _ | refine blk_drew ?_ | refine blk_alloc ?_ _)); exact BK237.out⟩, ⟨by repeat (first | (with_reducible first | exact HB.out | apply below_alloc | apply pw_below_drewN | apply below_drew1 | refine below_set ?_ GE235.out | refine below_set ?_ GE236.out | refine below_set ?_ GE237.out) | exact HB.out)⟩⟩
 case round =>
  clear H'
  try clear c2
  try clear p2
  try clear c6
  try clear c7
  try clear hcz8_0
  try clear hcz8_1
  try clear hcz8_2
  try clear hcz8_3
  try clear hcz8_4
  try clear hfz8_0
  try clear hfz8_1
  try clear hfz8_2
  try clear hfz8_3
  try clear hfz8_4
  obtain ⟨x6_1, x238000_1, u238000, rfl, HA, HK1, HO_238000, BK235, BK236, BK237, HB⟩ := hrel
  cases gk with
  | zero => exact absurd HA.out (by simp [hypercuberef2_Of.l0])
  | succ k1 =>
   have H := HA.out
   clear HA
   simp only [hypercuberef2_Of.l0] at H
   by_cases c9 : x6_1 < (l0_0.length : Int)
   ·rw [if_pos c9] at H
    have c9b0 : decide (x6_1 < (l0_0.length : Int)) = true := decide_eq_true c9
    clear c9
    obtain ⟨ji10, hji10⟩ : ∃ j_ : Int, (IntKind.u64.wrap (x6_1)) = j_ := ⟨_, rfl⟩
    replace H : (if 0 ≤ (ji10) then (if (Go.bits .and .i64 (shr .i64 a1 (ji10)) 1) = 1 then (if 0 ≤ x6_1 then (if x238000_1.length < 17592186044416 then (hypercuberef2_Of.l0 k1 a1 (wrap64 (x6_1 + 1)) l0_0 l0_1 (x238000_1 ++ [rd l0_0 x6_1]) 1) else (none)) else (none)) else (hypercuberef2_Of.l0 k1 a1 (wrap64 (x6_1 + 1)) l0_0 l0_1 x238000_1 1)) else (none)) = some (r1, r2, r3, r4, r5) := by first | (rw [hji10] at H; exact H) | (simp only [hji10] at H ⊢; exact H)
    by_cases c11 : 0 ≤ (ji10)
    ·rw [if_pos c11] at H
     have c11b0 := eq_true c11
     have c11b1 : decide (0 ≤ (ji10)) = true := decide_eq_true c11
     clear c11
     obtain ⟨ji12, hji12⟩ : ∃ j_ : Int, (shr .i64 a1 (ji10)) = j_ := ⟨_, rfl⟩
     replace H : (if (Go.bits .and .i64 (ji12) 1) = 1 then (if 0 ≤ x6_1 then (if x238000_1.length < 17592186044416 then (hypercuberef2_Of.l0 k1 a1 (wrap64 (x6_1 + 1)) l0_0 l0_1 (x238000_1 ++ [rd l0_0 x6_1]) 1) else (none)) else (none)) else (hypercuberef2_Of.l0 k1 a1 (wrap64 (x6_1 + 1)) l0_0 l0_1 x238000_1 1)) = some (r1, r2, r3, r4, r5) := by first | (rw [hji12] at H; exact H) | (simp only [hji12] at H ⊢; exact H)
     have hji12_ : (a1 / 2 ^ min (ji10).toNat 64) = ji12 := hji12
     have hji12z : (ji10) ≤ 64 → (a1 / 2 ^ (ji10).toNat) = ji12 := shr_small hji12
     by_cases c13 : (Go.bits .and .i64 (ji12) 1) = 1
     ·rw [if_pos c13] at H
      have c13b0 : ((Go.bits .and .i64 (ji12) 1) == 1) = true := beq_iff_eq.mpr c13
      have c13b1 : ((Go.bits .and .i64 (ji12) 1) != 1) = false := bne_eq_false_iff_eq.mpr c13
      clear c13
      by_cases c14 : 0 ≤ x6_1
      ·rw [if_pos c14] at H
       have c14b0 : decide (0 ≤ x6_1) = true := decide_eq_true c14
       clear c14
       by_cases c15 : x238000_1.length < 17592186044416
       ·rw [if_pos c15] at H
        have LMc15 := am c15
        clear c15
        obtain ⟨y239, hy239⟩ : ∃ y_ : List Int, y_ = (x238000_1 ++ [rd l0_0 x6_1]) := ⟨_, rfl⟩
        replace H : (hypercuberef2_Of.l0 k1 a1 (wrap64 (x6_1 + 1)) l0_0 l0_1 y239 1) = some (r1, r2, r3, r4, r5) := by rw [hy239]; with_reducible exact H
        have Ny239 := am hy239
        clear hy239
        have H' := am H
        clear H
        have hnb16 := NB235_236.out
        have hnc16 := NB236_235.out
        have hnb17 := NB235_237.out
        have hnc17 := NB237_235.out
        have hcz18_0 : wr.cell? ⟨gb235, 0, none⟩ = some (.slice A0_0 l0_0.length c0_0) := (blk_cell BK235.out 0).trans rfl
        have hcz18_1 : wr.cell? ⟨gb235, 1, none⟩ = some (.slice A0_1 l0_1.length c0_1) := (blk_cell BK235.out 1).trans rfl
        have hfz18_0 := blk_frozen BK235.out 0
        have hfz18_1 := blk_frozen BK235.out 1
        try go_wp2
        have n0_ := am (Kd.R_drew HO_238000.out)
        have n1_ := am (blk_drew BK235.out)
        have n2_ := am (blk_drew BK236.out)
        have n3_ := am (blk_drew BK237.out)
        have n4_ := am (below_drew1 HB.out)
        clear HO_238000 BK235 BK236 BK237 HB
        revert n0_ n1_ n2_ n3_ n4_
        intro HO_238000 BK235 BK236 BK237 HB
        have p238 : 0 ≤ (x6_1 : Int) := of_decide_eq_true (by first | (with_reducible assumption) | assumption)
        have q238 : x6_1 < (l0_0.length : Int) := of_decide_eq_true (by first | (with_reducible assumption) | assumption)
        obtain ⟨ad238, e238, hx238_0⟩ := Kd.at_int HR0_0.out x6_1 p238 q238
        have hw238_0 := hx238_0
        cases e238
        replace hx238_0 := (HB.out.cell (World.block_lt_of_cell? w _ hx238_0)).trans hx238_0
        replace p238 := eq_true p238
        replace q238 := eq_true q238
        refine start_ (n := 11) (S := fun w' => w'.cell? ⟨gb237, 0, none⟩ = some (u238000) ∧ w'.cell? ⟨gb237, 1, none⟩ = some (.int .i64 1) ∧ w'.cell? ⟨gb237, 2, none⟩ = some (.slice none 0 0) ∧ w'.cell? ⟨gb237, 3, none⟩ = some (.slice none 0 0) ∧ w'.cell? ⟨gb237, 4, none⟩ = some (.slice none 0 0) ∧ w'.cell? ⟨gb235, 0, none⟩ = some (.slice (some ad238) l0_0.length c0_0) ∧ w'.cell? ⟨gb235, 1, none⟩ = some (.slice A0_1 l0_1.length c0_1) ∧ w'.cell? (ad238.add (x6_1).toNat) = some (.int .i64 (rd l0_0 x6_1))) (ds := [10]) (bb 11 0) (by kernel_rfl) rfl rfl ⟨bc BK237 0, bc BK237 1, bc BK237 2, bc BK237 3, bc BK237 4, bc BK235 0, bc BK235 1, ((HB.out.cell (World.block_lt_of_cell? w _ hw238_0)).trans hw238_0)⟩ (fun hHeld => ?_); refine with_tabW hypercuberef2_Of.tab6 hypercuberef2_Of.bits6 (fun HT_ HW_ => ?_)
        generalize wr.drew = w19 at HO_238000 BK235 BK236 BK237 HB hx238_0 hHeld ⊢
        refine pu (i := 0) (N := some 21) (bb 11 1) HT_ ?_
        refine pu (i := 2) (N := some 23) (bb 11 5) HT_ ?_
        refine pu (i := 4) (N := some 25) (bb 11 21) HT_ ?_
        refine tk (i := 1) (N := some 22) (bb 11 23) HT_ HW_ hHeld ?_
        refine tk (i := 3) (N := some 24) (bb 11 31) HT_ HW_ hHeld ?_
        refine pu (i := 5) (N := some 26) (bb 11 63) HT_ ?_
        refine tk (i := 6) (N := some 27) (bb 11 127) HT_ HW_ hHeld ?_
        refine one_ (i := 7) (N := some 28) (bb 11 255) rfl rfl (one_of HT_.out (by kernel_rfl)) (by decide) (fun K hK => ?_)
        refine value_ (w1 := ?_) (v := ?_) (by rfl) rfl ?_ ?_
        rotate_left 2
        ·go_simp
         constructor
         ·rfl
         ·rfl
        refine hK.out _ _ ⟨(blk_cell (blk_alloc BK237.out _) 0).trans rfl, (blk_cell (blk_alloc BK237.out _) 1).trans rfl, (blk_cell (blk_alloc BK237.out _) 2).trans rfl, (blk_cell (blk_alloc BK237.out _) 3).trans rfl, (blk_cell (blk_alloc BK237.out _) 4).trans rfl, (blk_cell (blk_alloc BK235.out _) 0).trans rfl, (blk_cell (blk_alloc BK235.out _) 1).trans rfl, (World.cell?_alloc_lt _ _ _ (World.block_lt_of_cell? _ _ (((HB.out.cell (World.block_lt_of_cell? w _ hw238_0)).trans hw238_0)))).trans (((HB.out.cell (World.block_lt_of_cell? w _ hw238_0)).trans hw238_0))⟩ (fun hHeld => ?_)
        clear hK K
        refine nm ?_
        refine one_ (i := 8) (N := some 29) (bb 11 511) rfl rfl (one_of HT_.out (by kernel_rfl)) (by decide) (fun K hK => ?_)
        refine Kd.R_append_step (Kd.int .i64) (w0 := w) w.heap.size (by rfl) (.tmp 22) (.tmp 28) 22 3 (.int .i64 0) 8 rfl Try.underlying22 info3 rfl (by decide) (by omega) u238000 x238000_1 (rd l0_0 x6_1) [.int .i64 (rd l0_0 x6_1)] (fun _ => True) (fun _ => False) rfl rfl ?aP (fun _ hk => hk.elim) ?aF ?aO ?aB ?aS ?aL ?_
        (case aP => exact rfl)
        (case aB => exact (wmv HB.out))
        (case aF => exact (fun _ _ => trivial))
        (case aO => exact (Kd.R_mv HO_238000.out))
        (case aS => exact (below_size (wmv HB.out)))
        (case aL => have := LMc15.out; omega)
        intro v240 w20 ho hb hg hat
        rw [← Ny239.out] at ho
        have n0_ := am (blk_grown (bmv BK235.out) hg (Kd.R_ne HO_238000.out BK235.out (by decide)))
        have n1_ := am (blk_grown (bmv BK236.out) hg (Kd.R_ne HO_238000.out BK236.out (by decide)))
        have n2_ := am (blk_grown (bmv BK237.out) hg (Kd.R_ne HO_238000.out BK237.out (by decide)))
        have n3_ := am (hb)
        have n4_ := am (ho)
        clear BK235 BK236 BK237 HB HO_238000
        revert n0_ n1_ n2_ n3_ n4_
        intro BK235 BK236 BK237 HB HO241
        clear ho hb hg hat
        obtain ⟨Ao21, co21, eo21⟩ := Kd.R_slice HO241.out
        (first | subst eo21 | (injection eo21 with f1_ f2_ f3_; have f4_ := f1_.symm; have f5_ := f3_.symm; clear f1_ f2_ f3_; subst f4_; subst f5_))
        refine hK.out _ _ ⟨bc BK237 0, bc BK237 1, bc BK237 2, bc BK237 3, bc BK237 4, bc BK235 0, bc BK235 1, ((HB.out.cell (World.block_lt_of_cell? w _ hw238_0)).trans hw238_0)⟩ (fun hHeld => ?_)
        clear hK K
        refine nm ?_
        refine pu (i := 9) (N := some 30) (bb 11 1023) HT_ ?_
        refine last_ (i := 10) (N := none) (bb 11 2047) rfl rfl (one_of HT_.out (by kernel_rfl)) (by decide) (fun K hK => ?_)
        have hs22 : w20.cell? ⟨gb237, 0, none⟩ = some (u238000) := (blk_cell BK237.out 0).trans rfl
        have hfs22 := blk_frozen BK237.out 0
        have hns22_0 := NB235_237.out
        have hns22_1 := NB236_237.out
        have hms22_0 := NB237_235.out
        have hms22_1 := NB237_236.out
        refine skip_ (w1 := ?_) (by rfl) rfl ?_ ?_
        rotate_left
        ·go_simp
         rfl
        refine hK.out _ _ ?_
        clear hK K
        refine done_ (done_of HT_.out (by kernel_rfl)) ?_
        try go_wp2
        go_roundg k1
        case measure => have := HK1.out; omega
        case rel => exact ⟨(wrap64 (x6_1 + 1)), (y239), (.slice Ao21 y239.length co21), (by first | rfl | (simp; done) | (simp [*]; done)), H', ⟨by have := HK1.out; omega⟩, ⟨by (with_reducible repeat (first | apply Kd.R_alloc | apply Kd.R_drewN | apply Kd.R_drew)); exact Kd.R_mono (Kd.R_far (p := ⟨gb237, 0, none⟩) (Kd.R_types HO241.out BK237.out (by decide)) (fun _ hk => hk.2) (.slice Ao21 y239.length co21)) (fun _ hk => trivial)⟩, ⟨by (with_reducible repeat (first | refine blk_drewN ?_ _ | refine blk_drew ?_ | refine blk_alloc ?_ _)); refine blk_far ?_ NB235_237.out _; (with_reducible repeat (first | refine blk_drewN ?_ _ | refine blk_drew ?_ | refine blk_alloc ?_ _)); exact BK235.out⟩, ⟨by (with_reducible repeat (first | refine blk_drewN ?_ _ | refine blk_drew ?_ | refine blk_alloc ?_ _)); refine blk_far ?_ NB236_237.out _; (with_reducible repeat (first | refine blk_drewN ?_ _ | refine blk_drew ?_ | refine blk_alloc ?_ _)); exact BK236.out⟩, ⟨by (with_reducible repeat (first | refine blk_drewN ?_ _ | refine blk_drew ?_ | refine blk_alloc ?_ _)); refine blk_put (cs := #[u238000, .int .i64 1, .slice none 0 0, .slice none 0 0, .slice none 0 0]) ?_ 0 _ rfl; (with_reducible repeat (first | refine blk_drewN ?_ _ | refine blk_drew ?_ | refine blk_alloc ?_ _)); exact BK237.out⟩, ⟨by repeat (first | (with_reducible first | exact HB.out | apply below_alloc | apply pw_below_drewN | apply below_drew1 | refine below_set ?_ GE235.out | refine below_set ?_ GE236.out | refine below_set ?_ GE237.out) | exact HB.out)⟩⟩
       ·rw [if_neg c15] at H
        exact absurd H (by simp)
      ·rw [if_neg c14] at H
       exact absurd H (by simp)
     ·rw [if_neg c13] at H
      have c13b0 : ((Go.bits .and .i64 (ji12) 1) == 1) = false := beq_eq_false_iff_ne.mpr c13
      have c13b1 : ((Go.bits .and .i64 (ji12) 1) != 1) = true := bne_iff_ne.mpr c13
      have H' := am H
      clear H
      have hnb23 := NB235_236.out
      have hnc23 := NB236_235.out
      have hnb24 := NB235_237.out
      have hnc24 := NB237_235.out
      have hcz25_0 : wr.cell? ⟨gb235, 0, none⟩ = some (.slice A0_0 l0_0.length c0_0) := (blk_cell BK235.out 0).trans rfl
      have hcz25_1 : wr.cell? ⟨gb235, 1, none⟩ = some (.slice A0_1 l0_1.length c0_1) := (blk_cell BK235.out 1).trans rfl
      have hfz25_0 := blk_frozen BK235.out 0
      have hfz25_1 := blk_frozen BK235.out 1
      go_wp2
      go_roundg k1
      case measure => have := HK1.out; omega
      case rel => exact ⟨(wrap64 (x6_1 + 1)), (x238000_1), (u238000), (by first | rfl | (simp; done) | (simp [*]; done)), H', ⟨by have := HK1.out; omega⟩, ⟨by (with_reducible repeat (first | apply Kd.R_alloc | apply Kd.R_drewN | apply Kd.R_drew)); exact HO_238000.out⟩, ⟨by (with_reducible repeat (first | refine blk_drewN ?_ _ | refine blk_drew ?_ | refine blk_alloc ?_ _)); exact BK235.out⟩, ⟨by (with_reducible repeat (first | refine blk_drewN ?_ _ | refine blk_drew ?_ | refine blk_alloc ?_ _)); exact BK236.out⟩, ⟨by (with_reducible repeat (first | refine blk_drewN ?_ _ | refine blk_drew ?_ | refine blk_alloc ?_ _)); exact BK237.out⟩, ⟨by repeat (first | (with_reducible first | exact HB.out | apply below_alloc | apply pw_below_drewN | apply below_drew1 | refine below_set ?_ GE235.out | refine below_set ?_ GE236.out | refine below_set ?_ GE237.out) | exact HB.out)⟩⟩
    ·rw [if_neg c11] at H
     exact absurd H (by simp)
   ·rw [if_neg c9] at H
    have c9b0 : decide (x6_1 < (l0_0.length : Int)) = false := decide_eq_false c9
    clear c9
    obtain ⟨y242, hy242⟩ : ∃ y_ : List Int, y_ = (([] : List Int)) := ⟨_, rfl⟩
    replace H : (if y242.length + l0_1.length < 17592186044416 then ((some (([] : List Int) : List Int)).bind fun y248 => (if y248.length + l0_1.length < 17592186044416 then ((some (([] : List Int) : List Int)).bind fun y254 => (if y254.length + l0_1.length < 17592186044416 then (some (x238000_1, 1, (y242 ++ l0_1), (y248 ++ l0_1), (y254 ++ l0_1))) else (none))) else (none))) else (none)) = some (r1, r2, r3, r4, r5) := by first | (rw [hy242]; with_reducible exact H) | (have H2_ := (Option.bind_some _ _).symm.trans H; rw [hy242]; with_reducible exact H2_) | (have H2_ := (Option.bind_some _ _).symm.trans H; with_reducible exact H2_) | with_reducible exact H | (rw [hy242]; exact H) | exact H
    have Ny242 := am hy242
    clear hy242
    by_cases c26 : y242.length + l0_1.length < 17592186044416
    ·rw [if_pos c26] at H
     have LMc26 := am c26
     clear c26
     obtain ⟨y245, hy245⟩ : ∃ y_ : List Int, y_ = (y242 ++ l0_1) := ⟨_, rfl⟩
     replace H : ((some (([] : List Int) : List Int)).bind fun y248 => (if y248.length + l0_1.length < 17592186044416 then ((some (([] : List Int) : List Int)).bind fun y254 => (if y254.length + l0_1.length < 17592186044416 then (some (x238000_1, 1, y245, (y248 ++ l0_1), (y254 ++ l0_1))) else (none))) else (none))) = some (r1, r2, r3, r4, r5) := by rw [hy245]; with_reducible exact H
     have Ny245 := am hy245
     clear hy245
     obtain ⟨y248, hy248⟩ : ∃ y_ : List Int, y_ = (([] : List Int)) := ⟨_, rfl⟩
     replace H : (if y248.length + l0_1.length < 17592186044416 then ((some (([] : List Int) : List Int)).bind fun y254 => (if y254.length + l0_1.length < 17592186044416 then (some (x238000_1, 1, y245, (y248 ++ l0_1), (y254 ++ l0_1))) else (none))) else (none)) = some (r1, r2, r3, r4, r5) := by first | (rw [hy248]; with_reducible exact H) | (have H2_ := (Option.bind_some _ _).symm.trans H; rw [hy248]; with_reducible exact H2_) | (have H2_ := (Option.bind_some _ _).symm.trans H; with_reducible exact H2_) | with_reducible exact H | (rw [hy248]; exact H) | exact H
     have Ny248 := am hy248
     clear hy248
     by_cases c27 : y248.length + l0_1.length < 17592186044416
     ·rw [if_pos c27] at H
      have LMc27 := am c27
      clear c27
      obtain ⟨y251, hy251⟩ : ∃ y_ : List Int, y_ = (y248 ++ l0_1) := ⟨_, rfl⟩
      replace H : ((some (([] : List Int) : List Int)).bind fun y254 => (if y254.length + l0_1.length < 17592186044416 then (some (x238000_1, 1, y245, y251, (y254 ++ l0_1))) else (none))) = some (r1, r2, r3, r4, r5) := by rw [hy251]; with_reducible exact H
      have Ny251 := am hy251
      clear hy251
      obtain ⟨y254, hy254⟩ : ∃ y_ : List Int, y_ = (([] : List Int)) := ⟨_, rfl⟩
      replace H : (if y254.length + l0_1.length < 17592186044416 then (some (x238000_1, 1, y245, y251, (y254 ++ l0_1))) else (none)) = some (r1, r2, r3, r4, r5) := by first | (rw [hy254]; with_reducible exact H) | (have H2_ := (Option.bind_some _ _).symm.trans H; rw [hy254]; with_reducible exact H2_) | (have H2_ := (Option.bind_some _ _).symm.trans H; with_reducible exact H2_) | with_reducible exact H | (rw [hy254]; exact H) | exact H
      have Ny254 := am hy254
      clear hy254
      by_cases c28 : y254.length + l0_1.length < 17592186044416
      ·rw [if_pos c28] at H
       have LMc28 := am c28
       clear c28
       obtain ⟨y257, hy257⟩ : ∃ y_ : List Int, y_ = (y254 ++ l0_1) := ⟨_, rfl⟩
       replace H : (some (x238000_1, 1, y245, y251, y257)) = some (r1, r2, r3, r4, r5) := by rw [hy257]; with_reducible exact H
       have Ny257 := am hy257
       clear hy257
       simp only [Option.some.injEq, Prod.mk.injEq] at H
       obtain ⟨rfl, rfl, rfl, rfl, rfl⟩ := H
       have hnb29 := NB235_236.out
       have hnc29 := NB236_235.out
       have hnb30 := NB235_237.out
       have hnc30 := NB237_235.out
       have hcz31_0 : wr.cell? ⟨gb235, 0, none⟩ = some (.slice A0_0 l0_0.length c0_0) := (blk_cell BK235.out 0).trans rfl
       have hcz31_1 : wr.cell? ⟨gb235, 1, none⟩ = some (.slice A0_1 l0_1.length c0_1) := (blk_cell BK235.out 1).trans rfl
       have hfz31_0 := blk_frozen BK235.out 0
       have hfz31_1 := blk_frozen BK235.out 1
       go_wp2_with (first | ((with_reducible refine gate_dst (N := 31) rfl ?_); refine Kd.R_lit (Kd.int .i64) _ 3 ?hg (N := 31) ?hd (xs := ([] : List Int)) (inner := []) (ok := fun _ => True) (okp := fun _ => True) ?hr ?hp (fun _ hk => hk) trivial (Below.refl _ _) (Nat.le_refl _) (by simp) ?_; (case hd => rfl); (case hg => rfl); (case hr => first | (go_simp; done) | (go_simp; rfl)); (case hp => exact (Reps.none _ _)); intro v243 w32 ho33 hb hg_ hnew_; clear hg_ hnew_; (first | rw [← Ny242.out] at ho33 | (simp only [Int.reduceToNat] at ho33; rw [← Ny242.out] at ho33)); have n0_ := am (Kd.R_elder' (Kd.R_mv HO_238000.out) (Kd.R_base ho33) hb); have n1_ := am (Kd.R_lower (Kd.R_new' ho33 (Kd.R_lt (Kd.R_mv HO_238000.out))) (below_size (by repeat (first | (with_reducible first | exact HB.out | apply below_alloc | apply pw_below_drewN | apply below_drew1 | refine below_set ?_ GE235.out | refine below_set ?_ GE236.out | refine below_set ?_ GE237.out) | exact HB.out)))); have n2_ := am (blk_below (bmv BK235.out) hb); have n3_ := am (blk_below (bmv BK236.out) hb); have n4_ := am (blk_below (bmv BK237.out) hb); have n5_ := am (below_step (by repeat (first | (with_reducible first | exact HB.out | apply below_alloc | apply pw_below_drewN | apply below_drew1 | refine below_set ?_ GE235.out | refine below_set ?_ GE236.out | refine below_set ?_ GE237.out) | exact HB.out)) hb); clear HO_238000 BK235 BK236 BK237 HB; revert n0_ n1_ n2_ n3_ n4_ n5_; intro HO_238000 HO244 BK235 BK236 BK237 HB; clear hb ho33; have hcz34_0 : w32.cell? ⟨gb235, 0, none⟩ = some (.slice A0_0 l0_0.length c0_0) := (blk_cell BK235.out 0).trans rfl; have hcz34_1 : w32.cell? ⟨gb235, 1, none⟩ = some (.slice A0_1 l0_1.length c0_1) := (blk_cell BK235.out 1).trans rfl; have hfz34_0 := blk_frozen BK235.out 0; have hfz34_1 := blk_frozen BK235.out 1) | ((with_reducible refine gate_builtin (b := .append) (xs := #[.tmp 31, .tmp 33]) rfl ?_); at_builtin; refine Kd.R_append_rows (Kd.int .i64) (w0 := w) w.heap.size rfl (.tmp 31) (.tmp 33) 22 3 (.int .i64 0) 8 rfl Try.underlying22 info3 rfl (by decide) (by omega) v243 y242 l0_1 _ _ _ (fun k_ => some k_ ≠ (u238000 : Value).ownBlock) (fun _ => False) rfl rfl ?aO ?aR (fun _ _ h => h) (fun _ h => h.elim) ?aF ?aB ?aS ?aL ?_; (case aR => exact Kd.Cw HR0_1.out HB.out); (case aB => exact (by repeat (first | (with_reducible first | exact HB.out | apply below_alloc | apply pw_below_drewN | apply below_drew1 | refine below_set ?_ GE235.out | refine below_set ?_ GE236.out | refine below_set ?_ GE237.out) | exact HB.out))); (case aF => exact (fun k_ hk => Kd.fresh' (Kd.R_lt (Kd.R_mv HO_238000.out)) k_ hk)); (case aO => exact (Kd.R_mv (Kd.R_mono HO244.out (fun _ hk => hk.2)))); (case aS => exact (below_size (by repeat (first | (with_reducible first | exact HB.out | apply below_alloc | apply pw_below_drewN | apply below_drew1 | refine below_set ?_ GE235.out | refine below_set ?_ GE236.out | refine below_set ?_ GE237.out) | exact HB.out)))); (case aL => have := LMc26.out; omega); intro v246 w35 ho hb hg hat; rw [← Ny245.out] at ho; have n0_ := am (Kd.R_after (ok := (fun _ => True)) (Kd.R_mv HO_238000.out) hg hat); have n1_ := am (blk_grown (bmv BK235.out) hg (Kd.R_ne HO244.out BK235.out (by decide))); have n2_ := am (blk_grown (bmv BK236.out) hg (Kd.R_ne HO244.out BK236.out (by decide))); have n3_ := am (blk_grown (bmv BK237.out) hg (Kd.R_ne HO244.out BK237.out (by decide))); have n4_ := am (hb); have n5_ := am (ho); clear HO_238000 BK235 BK236 BK237 HB HO244; revert n0_ n1_ n2_ n3_ n4_ n5_; intro HO_238000 BK235 BK236 BK237 HB HO247; clear ho hb hg hat; obtain ⟨Ao36, co36, eo36⟩ := Kd.R_slice HO247.out; subst eo36; have hnb37 := NB237_236.out; have hnc37 := NB236_237.out; have hcz38_0 : w35.cell? ⟨gb237, 0, none⟩ = some (u238000) := (blk_cell BK237.out 0).trans rfl; have hcz38_1 : w35.cell? ⟨gb237, 1, none⟩ = some (.int .i64 1) := (blk_cell BK237.out 1).trans rfl; have hcz38_2 : w35.cell? ⟨gb237, 2, none⟩ = some (.slice none 0 0) := (blk_cell BK237.out 2).trans rfl; have hcz38_3 : w35.cell? ⟨gb237, 3, none⟩ = some (.slice none 0 0) := (blk_cell BK237.out 3).trans rfl; have hcz38_4 : w35.cell? ⟨gb237, 4, none⟩ = some (.slice none 0 0) := (blk_cell BK237.out 4).trans rfl; have hfz38_0 := blk_frozen BK237.out 0; have hfz38_1 := blk_frozen BK237.out 1; have hfz38_2 := blk_frozen BK237.out 2; have hfz38_3 := blk_frozen BK237.out 3; have hfz38_4 := blk_frozen BK237.out 4) | ((with_reducible refine gate_dst (N := 36) rfl ?_); refine Kd.R_lit (Kd.int .i64) _ 3 ?hg (N := 36) ?hd (xs := ([] : List Int)) (inner := []) (ok := fun _ => True) (okp := fun _ => True) ?hr ?hp (fun _ hk => hk) trivial (Below.refl _ _) (Nat.le_refl _) (by simp) ?_; (case hd => rfl); (case hg => rfl); (case hr => first | (go_simp; done) | (go_simp; rfl)); (case hp => exact (Reps.none _ _)); intro v249 w39 ho40 hb hg_ hnew_; clear hg_ hnew_; (first | rw [← Ny248.out] at ho40 | (simp only [Int.reduceToNat] at ho40; rw [← Ny248.out] at ho40)); have n0_ := am (Kd.R_elder' (Kd.R_mv (Kd.R_mono (Kd.R_far (p := ⟨gb237, 2, none⟩) (Kd.R_types HO_238000.out BK237.out (by decide)) (fun _ hk => hk.2) (.slice Ao36 y245.length co36)) (fun _ h_ => h_.1))) (Kd.R_base ho40) hb); have n1_ := am (Kd.R_elder' (Kd.R_mv (Kd.R_mono (Kd.R_far (p := ⟨gb237, 2, none⟩) (Kd.R_types HO247.out BK237.out (by decide)) (fun _ hk => hk.2) (.slice Ao36 y245.length co36)) (fun _ h_ => h_.1))) (Kd.R_base ho40) hb); have n2_ := am (Kd.R_lower (Kd.R_new' (Kd.R_new' ho40 (Kd.R_lt (Kd.R_mv (Kd.R_mono (Kd.R_far (p := ⟨gb237, 2, none⟩) (Kd.R_types HO_238000.out BK237.out (by decide)) (fun _ hk => hk.2) (.slice Ao36 y245.length co36)) (fun _ h_ => h_.1))))) (Kd.R_lt (Kd.R_mv (Kd.R_mono (Kd.R_far (p := ⟨gb237, 2, none⟩) (Kd.R_types HO247.out BK237.out (by decide)) (fun _ hk => hk.2) (.slice Ao36 y245.length co36)) (fun _ h_ => h_.1))))) (below_size (by repeat (first | (with_reducible first | exact HB.out | apply below_alloc | apply pw_below_drewN | apply below_drew1 | refine below_set ?_ GE235.out | refine below_set ?_ GE236.out | refine below_set ?_ GE237.out) | exact HB.out)))); have n3_ := am (blk_below (g := gb235) (o := .cells #[.slice A0_0 l0_0.length c0_0, .slice A0_1 l0_1.length c0_1] 45 (0, 0)) (by (with_reducible repeat (first | refine blk_drewN ?_ _ | refine blk_drew ?_ | refine blk_alloc ?_ _)); refine blk_far ?_ NB235_237.out _; (with_reducible repeat (first | refine blk_drewN ?_ _ | refine blk_drew ?_ | refine blk_alloc ?_ _)); exact BK235.out) hb); have n4_ := am (blk_below (g := gb236) (o := .cells #[.slice none 0 0, .int .i64 0, .slice none 0 0, .slice none 0 0, .slice none 0 0] 41 (0, 0)) (by (with_reducible repeat (first | refine blk_drewN ?_ _ | refine blk_drew ?_ | refine blk_alloc ?_ _)); refine blk_far ?_ NB236_237.out _; (with_reducible repeat (first | refine blk_drewN ?_ _ | refine blk_drew ?_ | refine blk_alloc ?_ _)); exact BK236.out) hb); have n5_ := am (blk_below (g := gb237) (o := .cells #[u238000, .int .i64 1, .slice Ao36 y245.length co36, .slice none 0 0, .slice none 0 0] 41 (0, 0)) (by (with_reducible repeat (first | refine blk_drewN ?_ _ | refine blk_drew ?_ | refine blk_alloc ?_ _)); refine blk_put (cs := #[u238000, .int .i64 1, .slice none 0 0, .slice none 0 0, .slice none 0 0]) ?_ 2 _ rfl; (with_reducible repeat (first | refine blk_drewN ?_ _ | refine blk_drew ?_ | refine blk_alloc ?_ _)); exact BK237.out) hb); have n6_ := am (below_step (by repeat (first | (with_reducible first | exact HB.out | apply below_alloc | apply pw_below_drewN | apply below_drew1 | refine below_set ?_ GE235.out | refine below_set ?_ GE236.out | refine below_set ?_ GE237.out) | exact HB.out)) hb); clear HO_238000 HO247 BK235 BK236 BK237 HB; revert n0_ n1_ n2_ n3_ n4_ n5_ n6_; intro HO_238000 HO247 HO250 BK235 BK236 BK237 HB; clear hb ho40; have hcz41_0 : w39.cell? ⟨gb235, 0, none⟩ = some (.slice A0_0 l0_0.length c0_0) := (blk_cell BK235.out 0).trans rfl; have hcz41_1 : w39.cell? ⟨gb235, 1, none⟩ = some (.slice A0_1 l0_1.length c0_1) := (blk_cell BK235.out 1).trans rfl; have hfz41_0 := blk_frozen BK235.out 0; have hfz41_1 := blk_frozen BK235.out 1) | ((with_reducible refine gate_builtin (b := .append) (xs := #[.tmp 36, .tmp 38]) rfl ?_); at_builtin; refine Kd.R_append_rows (Kd.int .i64) (w0 := w) w.heap.size rfl (.tmp 36) (.tmp 38) 22 3 (.int .i64 0) 8 rfl Try.underlying22 info3 rfl (by decide) (by omega) v249 y248 l0_1 _ _ _ (fun k_ => some k_ ≠ (u238000 : Value).ownBlock ∧ some k_ ≠ (.slice Ao36 y245.length co36 : Value).ownBlock) (fun _ => False) rfl rfl ?aO ?aR (fun _ _ h => h) (fun _ h => h.elim) ?aF ?aB ?aS ?aL ?_; (case aR => exact Kd.Cw HR0_1.out HB.out); (case aB => exact (by repeat (first | (with_reducible first | exact HB.out | apply below_alloc | apply pw_below_drewN | apply below_drew1 | refine below_set ?_ GE235.out | refine below_set ?_ GE236.out | refine below_set ?_ GE237.out) | exact HB.out))); (case aF => exact (fun k_ hk => ⟨Kd.fresh' (Kd.R_lt (Kd.R_mv HO_238000.out)) k_ hk, Kd.fresh' (Kd.R_lt (Kd.R_mv HO247.out)) k_ hk⟩)); (case aO => exact (Kd.R_mv (Kd.R_mono HO250.out (fun _ hk => ⟨hk.1.2, hk.2⟩)))); (case aS => exact (below_size (by repeat (first | (with_reducible first | exact HB.out | apply below_alloc | apply pw_below_drewN | apply below_drew1 | refine below_set ?_ GE235.out | refine below_set ?_ GE236.out | refine below_set ?_ GE237.out) | exact HB.out)))); (case aL => have := LMc27.out; omega); intro v252 w42 ho hb hg hat; rw [← Ny251.out] at ho; have n0_ := am (Kd.R_after (ok := (fun k_ => some k_ ≠ (.slice Ao36 y245.length co36 : Value).ownBlock)) (Kd.R_mv (Kd.R_mono HO_238000.out (fun _ hk => ⟨hk.1.2, hk.2⟩))) hg hat); have n1_ := am (blk_grown (bmv BK235.out) hg (Kd.R_ne HO250.out BK235.out (by decide))); have n2_ := am (blk_grown (bmv BK236.out) hg (Kd.R_ne HO250.out BK236.out (by decide))); have n3_ := am (blk_grown (bmv BK237.out) hg (Kd.R_ne HO250.out BK237.out (by decide))); have n4_ := am (Kd.R_after (ok := (fun k_ => some k_ ≠ (u238000 : Value).ownBlock)) (Kd.R_mv HO247.out) hg hat); have n5_ := am (hb); have n6_ := am (ho); clear HO_238000 BK235 BK236 BK237 HO247 HB HO250; revert n0_ n1_ n2_ n3_ n4_ n5_ n6_; intro HO_238000 BK235 BK236 BK237 HO247 HB HO253; clear ho hb hg hat; obtain ⟨Ao43, co43, eo43⟩ := Kd.R_slice HO253.out; subst eo43; have hcz44_0 : w42.cell? ⟨gb237, 0, none⟩ = some (u238000) := (blk_cell BK237.out 0).trans rfl; have hcz44_1 : w42.cell? ⟨gb237, 1, none⟩ = some (.int .i64 1) := (blk_cell BK237.out 1).trans rfl; have hcz44_2 : w42.cell? ⟨gb237, 2, none⟩ = some (.slice Ao36 y245.length co36) := (blk_cell BK237.out 2).trans rfl; have hcz44_3 : w42.cell? ⟨gb237, 3, none⟩ = some (.slice none 0 0) := (blk_cell BK237.out 3).trans rfl; have hcz44_4 : w42.cell? ⟨gb237, 4, none⟩ = some (.slice none 0 0) := (blk_cell BK237.out 4).trans rfl; have hfz44_0 := blk_frozen BK237.out 0; have hfz44_1 := blk_frozen BK237.out 1; have hfz44_2 := blk_frozen BK237.out 2; have hfz44_3 := blk_frozen BK237.out 3; have hfz44_4 := blk_frozen BK237.out 4) | ((with_reducible refine gate_dst (N := 41) rfl ?_); refine Kd.R_lit (Kd.int .i64) _ 3 ?hg (N := 41) ?hd (xs := ([] : List Int)) (inner := []) (ok := fun _ => True) (okp := fun _ => True) ?hr ?hp (fun _ hk => hk) trivial (Below.refl _ _) (Nat.le_refl _) (by simp) ?_; (case hd => rfl); (case hg => rfl); (case hr => first | (go_simp; done) | (go_simp; rfl)); (case hp => exact (Reps.none _ _)); intro v255 w45 ho46 hb hg_ hnew_; clear hg_ hnew_; (first | rw [← Ny254.out] at ho46 | (simp only [Int.reduceToNat] at ho46; rw [← Ny254.out] at ho46)); have n0_ := am (Kd.R_elder' (Kd.R_mv (Kd.R_mono (Kd.R_far (p := ⟨gb237, 3, none⟩) (Kd.R_types HO_238000.out BK237.out (by decide)) (fun _ hk => hk.2) (.slice Ao43 y251.length co43)) (fun _ h_ => h_.1))) (Kd.R_base ho46) hb); have n1_ := am (Kd.R_elder' (Kd.R_mv (Kd.R_mono (Kd.R_far (p := ⟨gb237, 3, none⟩) (Kd.R_types HO247.out BK237.out (by decide)) (fun _ hk => hk.2) (.slice Ao43 y251.length co43)) (fun _ h_ => h_.1))) (Kd.R_base ho46) hb); have n2_ := am (Kd.R_elder' (Kd.R_mv (Kd.R_mono (Kd.R_far (p := ⟨gb237, 3, none⟩) (Kd.R_types HO253.out BK237.out (by decide)) (fun _ hk => hk.2) (.slice Ao43 y251.length co43)) (fun _ h_ => h_.1))) (Kd.R_base ho46) hb); have n3_ := am (Kd.R_lower (Kd.R_new' (Kd.R_new' (Kd.R_new' ho46 (Kd.R_lt (Kd.R_mv (Kd.R_mono (Kd.R_far (p := ⟨gb237, 3, none⟩) (Kd.R_types HO_238000.out BK237.out (by decide)) (fun _ hk => hk.2) (.slice Ao43 y251.length co43)) (fun _ h_ => h_.1))))) (Kd.R_lt (Kd.R_mv (Kd.R_mono (Kd.R_far (p := ⟨gb237, 3, none⟩) (Kd.R_types HO247.out BK237.out (by decide)) (fun _ hk => hk.2) (.slice Ao43 y251.length co43)) (fun _ h_ => h_.1))))) (Kd.R_lt (Kd.R_mv (Kd.R_mono (Kd.R_far (p := ⟨gb237, 3, none⟩) (Kd.R_types HO253.out BK237.out (by decide)) (fun _ hk => hk.2) (.slice Ao43 y251.length co43)) (fun _ h_ => h_.1))))) (below_size (by repeat (first | (with_reducible first | exact HB.out | apply below_alloc | apply pw_below_drewN | apply below_drew1 | refine below_set ?_ GE235.out | refine below_set ?_ GE236.out | refine below_set ?_ GE237.out) | exact HB.out)))); have n4_ := am (blk_below (g := gb235) (o := .cells #[.slice A0_0 l0_0.length c0_0, .slice A0_1 l0_1.length c0_1] 45 (0, 0)) (by (with_reducible repeat (first | refine blk_drewN ?_ _ | refine blk_drew ?_ | refine blk_alloc ?_ _)); refine blk_far ?_ NB235_237.out _; (with_reducible repeat (first | refine blk_drewN ?_ _ | refine blk_drew ?_ | refine blk_alloc ?_ _)); exact BK235.out) hb); have n5_ := am (blk_below (g := gb236) (o := .cells #[.slice none 0 0, .int .i64 0, .slice none 0 0, .slice none 0 0, .slice none 0 0] 41 (0, 0)) (by (with_reducible repeat (first | refine blk_drewN ?_ _ | refine blk_drew ?_ | refine blk_alloc ?_ _)); refine blk_far ?_ NB236_237.out _; (with_reducible repeat (first | refine blk_drewN ?_ _ | refine blk_drew ?_ | refine blk_alloc ?_ _)); exact BK236.out) hb); have n6_ := am (blk_below (g := gb237) (o := .cells #[u238000, .int .i64 1, .slice Ao36 y245.length co36, .slice Ao43 y251.length co43, .slice none 0 0] 41 (0, 0)) (by (with_reducible repeat (first | refine blk_drewN ?_ _ | refine blk_drew ?_ | refine blk_alloc ?_ _)); refine blk_put (cs := #[u238000, .int .i64 1, .slice Ao36 y245.length co36, .slice none 0 0, .slice none 0 0]) ?_ 3 _ rfl; (with_reducible repeat (first | refine blk_drewN ?_ _ | refine blk_drew ?_ | refine blk_alloc ?_ _)); exact BK237.out) hb); have n7_ := am (below_step (by repeat (first | (with_reducible first | exact HB.out | apply below_alloc | apply pw_below_drewN | apply below_drew1 | refine below_set ?_ GE235.out | refine below_set ?_ GE236.out | refine below_set ?_ GE237.out) | exact HB.out)) hb); clear HO_238000 HO247 HO253 BK235 BK236 BK237 HB; revert n0_ n1_ n2_ n3_ n4_ n5_ n6_ n7_; intro HO_238000 HO247 HO253 HO256 BK235 BK236 BK237 HB; clear hb ho46; have hcz47_0 : w45.cell? ⟨gb235, 0, none⟩ = some (.slice A0_0 l0_0.length c0_0) := (blk_cell BK235.out 0).trans rfl; have hcz47_1 : w45.cell? ⟨gb235, 1, none⟩ = some (.slice A0_1 l0_1.length c0_1) := (blk_cell BK235.out 1).trans rfl; have hfz47_0 := blk_frozen BK235.out 0; have hfz47_1 := blk_frozen BK235.out 1) | ((with_reducible refine gate_builtin (b := .append) (xs := #[.tmp 41, .tmp 43]) rfl ?_); at_builtin; refine Kd.R_append_rows (Kd.int .i64) (w0 := w) w.heap.size rfl (.tmp 41) (.tmp 43) 22 3 (.int .i64 0) 8 rfl Try.underlying22 info3 rfl (by decide) (by omega) v255 y254 l0_1 _ _ _ (fun k_ => some k_ ≠ (u238000 : Value).ownBlock ∧ some k_ ≠ (.slice Ao36 y245.length co36 : Value).ownBlock ∧ some k_ ≠ (.slice Ao43 y251.length co43 : Value).ownBlock) (fun _ => False) rfl rfl ?aO ?aR (fun _ _ h => h) (fun _ h => h.elim) ?aF ?aB ?aS ?aL ?_; (case aR => exact Kd.Cw HR0_1.out HB.out); (case aB => exact (by repeat (first | (with_reducible first | exact HB.out | apply below_alloc | apply pw_below_drewN | apply below_drew1 | refine below_set ?_ GE235.out | refine below_set ?_ GE236.out | refine below_set ?_ GE237.out) | exact HB.out))); (case aF => exact (fun k_ hk => ⟨Kd.fresh' (Kd.R_lt (Kd.R_mv HO_238000.out)) k_ hk, Kd.fresh' (Kd.R_lt (Kd.R_mv HO247.out)) k_ hk, Kd.fresh' (Kd.R_lt (Kd.R_mv HO253.out)) k_ hk⟩)); (case aO => exact (Kd.R_mv (Kd.R_mono HO256.out (fun _ hk => ⟨hk.1.1.2, ⟨hk.1.2, hk.2⟩⟩)))); (case aS => exact (below_size (by repeat (first | (with_reducible first | exact HB.out | apply below_alloc | apply pw_below_drewN | apply below_drew1 | refine below_set ?_ GE235.out | refine below_set ?_ GE236.out | refine below_set ?_ GE237.out) | exact HB.out)))); (case aL => have := LMc28.out; omega); intro v258 w48 ho hb hg hat; rw [← Ny257.out] at ho; have n0_ := am (Kd.R_after (ok := (fun k_ => some k_ ≠ (.slice Ao36 y245.length co36 : Value).ownBlock ∧ some k_ ≠ (.slice Ao43 y251.length co43 : Value).ownBlock)) (Kd.R_mv HO_238000.out) hg hat); have n1_ := am (blk_grown (bmv BK235.out) hg (Kd.R_ne HO256.out BK235.out (by decide))); have n2_ := am (blk_grown (bmv BK236.out) hg (Kd.R_ne HO256.out BK236.out (by decide))); have n3_ := am (blk_grown (bmv BK237.out) hg (Kd.R_ne HO256.out BK237.out (by decide))); have n4_ := am (Kd.R_after (ok := (fun k_ => some k_ ≠ (u238000 : Value).ownBlock ∧ some k_ ≠ (.slice Ao43 y251.length co43 : Value).ownBlock)) (Kd.R_mv HO247.out) hg hat); have n5_ := am (Kd.R_after (ok := (fun k_ => some k_ ≠ (u238000 : Value).ownBlock ∧ some k_ ≠ (.slice Ao36 y245.length co36 : Value).ownBlock)) (Kd.R_mv HO253.out) hg hat); have n6_ := am (hb); have n7_ := am (ho); clear HO_238000 BK235 BK236 BK237 HO247 HO253 HB HO256; revert n0_ n1_ n2_ n3_ n4_ n5_ n6_ n7_; intro HO_238000 BK235 BK236 BK237 HO247 HO253 HB HO259; clear ho hb hg hat; obtain ⟨Ao49, co49, eo49⟩ := Kd.R_slice HO259.out; subst eo49; have hcz50_0 : w48.cell? ⟨gb237, 0, none⟩ = some (u238000) := (blk_cell BK237.out 0).trans rfl; have hcz50_1 : w48.cell? ⟨gb237, 1, none⟩ = some (.int .i64 1) := (blk_cell BK237.out 1).trans rfl; have hcz50_2 : w48.cell? ⟨gb237, 2, none⟩ = some (.slice Ao36 y245.length co36) := (blk_cell BK237.out 2).trans rfl; have hcz50_3 : w48.cell? ⟨gb237, 3, none⟩ = some (.slice Ao43 y251.length co43) := (blk_cell BK237.out 3).trans rfl; have hcz50_4 : w48.cell? ⟨gb237, 4, none⟩ = some (.slice none 0 0) := (blk_cell BK237.out 4).trans rfl; have hfz50_0 := blk_frozen BK237.out 0; have hfz50_1 := blk_frozen BK237.out 1; have hfz50_2 := blk_frozen BK237.out 2; have hfz50_3 := blk_frozen BK237.out 3; have hfz50_4 := blk_frozen BK237.out 4; obtain ⟨Ao51, co51, eo51⟩ := Kd.R_slice HO_238000.out; subst eo51; have hcz52_0 : w48.cell? ⟨gb236, 0, none⟩ = some (.slice none 0 0) := (blk_cell BK236.out 0).trans rfl; have hcz52_1 : w48.cell? ⟨gb236, 1, none⟩ = some (.int .i64 0) := (blk_cell BK236.out 1).trans rfl; have hcz52_2 : w48.cell? ⟨gb236, 2, none⟩ = some (.slice none 0 0) := (blk_cell BK236.out 2).trans rfl; have hcz52_3 : w48.cell? ⟨gb236, 3, none⟩ = some (.slice none 0 0) := (blk_cell BK236.out 3).trans rfl; have hcz52_4 : w48.cell? ⟨gb236, 4, none⟩ = some (.slice none 0 0) := (blk_cell BK236.out 4).trans rfl; have hfz52_0 := blk_frozen BK236.out 0; have hfz52_1 := blk_frozen BK236.out 1; have hfz52_2 := blk_frozen BK236.out 2; have hfz52_3 := blk_frozen BK236.out 3; have hfz52_4 := blk_frozen BK236.out 4))
       refine bodyPost_ret (results_cell_row rfl _ _ gb236 41 #[.slice Ao51 x238000_1.length co51, .int .i64 1, .slice Ao36 y245.length co36, .slice Ao43 y251.length co43, .slice Ao49 y257.length co49] (0, 0) _ rfl (by (with_reducible repeat (first | refine blk_drewN ?_ _ | refine blk_drew ?_ | refine blk_alloc ?_ _)); refine blk_put (cs := #[.slice Ao51 x238000_1.length co51, .int .i64 1, .slice Ao36 y245.length co36, .slice Ao43 y251.length co43, .slice none 0 0]) ?_ 4 _ rfl; (with_reducible repeat (first | refine blk_drewN ?_ _ | refine blk_drew ?_ | refine blk_alloc ?_ _)); refine blk_put (cs := #[.slice Ao51 x238000_1.length co51, .int .i64 1, .slice Ao36 y245.length co36, .slice none 0 0, .slice none 0 0]) ?_ 3 _ rfl; (with_reducible repeat (first | refine blk_drewN ?_ _ | refine blk_drew ?_ | refine blk_alloc ?_ _)); refine blk_put (cs := #[.slice Ao51 x238000_1.length co51, .int .i64 1, .slice none 0 0, .slice none 0 0, .slice none 0 0]) ?_ 2 _ rfl; (with_reducible repeat (first | refine blk_drewN ?_ _ | refine blk_drew ?_ | refine blk_alloc ?_ _)); refine blk_put (cs := #[.slice Ao51 x238000_1.length co51, .int .i64 0, .slice none 0 0, .slice none 0 0, .slice none 0 0]) ?_ 1 _ rfl; (with_reducible repeat (first | refine blk_drewN ?_ _ | refine blk_drew ?_ | refine blk_alloc ?_ _)); refine blk_put (cs := #[.slice none 0 0, .int .i64 0, .slice none 0 0, .slice none 0 0, .slice none 0 0]) ?_ 0 _ rfl; (with_reducible repeat (first | refine blk_drewN ?_ _ | refine blk_drew ?_ | refine blk_alloc ?_ _)); refine blk_far ?_ NB236_237.out _; (with_reducible repeat (first | refine blk_drewN ?_ _ | refine blk_drew ?_ | refine blk_alloc ?_ _)); exact BK236.out) Try.underlying41 rfl (by kernel_rfl)) rfl ?_
       exact ⟨_, _, _, _, by first | rfl | (simp [errW_none, errW_some] <;> rfl) | (simp [*, errW_none, errW_some] <;> rfl), by (with_reducible repeat (first | apply Kd.R_alloc | apply Kd.R_drewN | apply Kd.R_drew)); exact Kd.R_mono (Kd.R_far (p := ⟨gb236, 4, none⟩) (Kd.R_far (p := ⟨gb236, 3, none⟩) (Kd.R_far (p := ⟨gb236, 2, none⟩) (Kd.R_far (p := ⟨gb236, 1, none⟩) (Kd.R_far (p := ⟨gb236, 0, none⟩) (Kd.R_far (p := ⟨gb237, 4, none⟩) (Kd.R_types (Kd.R_types HO_238000.out BK237.out (by decide)) BK236.out (by decide)) (fun _ hk => hk.1.2) (.slice Ao49 y257.length co49)) (fun _ hk => hk.2) (.slice Ao51 x238000_1.length co51)) (fun _ hk => hk.2) (.int .i64 1)) (fun _ hk => hk.2) (.slice Ao36 y245.length co36)) (fun _ hk => hk.2) (.slice Ao43 y251.length co43)) (fun _ hk => hk.2) (.slice Ao49 y257.length co49)) (fun _ hk => ⟨hk.1.1.1.1, ⟨hk.1.1.1.2, hk.1.1.2⟩⟩), by (with_reducible repeat (first | apply Kd.R_alloc | apply Kd.R_drewN | apply Kd.R_drew)); exact Kd.R_mono (Kd.R_far (p := ⟨gb236, 4, none⟩) (Kd.R_far (p := ⟨gb236, 3, none⟩) (Kd.R_far (p := ⟨gb236, 2, none⟩) (Kd.R_far (p := ⟨gb236, 1, none⟩) (Kd.R_far (p := ⟨gb236, 0, none⟩) (Kd.R_far (p := ⟨gb237, 4, none⟩) (Kd.R_types (Kd.R_types HO247.out BK237.out (by decide)) BK236.out (by decide)) (fun _ hk => hk.1.2) (.slice Ao49 y257.length co49)) (fun _ hk => hk.2) (.slice Ao51 x238000_1.length co51)) (fun _ hk => hk.2) (.int .i64 1)) (fun _ hk => hk.2) (.slice Ao36 y245.length co36)) (fun _ hk => hk.2) (.slice Ao43 y251.length co43)) (fun _ hk => hk.2) (.slice Ao49 y257.length co49)) (fun _ hk => ⟨hk.1.1.1.1, ⟨hk.1.1.1.2, hk.1.1.2⟩⟩), by (with_reducible repeat (first | apply Kd.R_alloc | apply Kd.R_drewN | apply Kd.R_drew)); exact Kd.R_mono (Kd.R_far (p := ⟨gb236, 4, none⟩) (Kd.R_far (p := ⟨gb236, 3, none⟩) (Kd.R_far (p := ⟨gb236, 2, none⟩) (Kd.R_far (p := ⟨gb236, 1, none⟩) (Kd.R_far (p := ⟨gb236, 0, none⟩) (Kd.R_far (p := ⟨gb237, 4, none⟩) (Kd.R_types (Kd.R_types HO253.out BK237.out (by decide)) BK236.out (by decide)) (fun _ hk => hk.1.2) (.slice Ao49 y257.length co49)) (fun _ hk => hk.2) (.slice Ao51 x238000_1.length co51)) (fun _ hk => hk.2) (.int .i64 1)) (fun _ hk => hk.2) (.slice Ao36 y245.length co36)) (fun _ hk => hk.2) (.slice Ao43 y251.length co43)) (fun _ hk => hk.2) (.slice Ao49 y257.length co49)) (fun _ hk => ⟨hk.1.1.1.1, ⟨hk.1.1.1.2, hk.1.1.2⟩⟩), by (with_reducible repeat (first | apply Kd.R_alloc | apply Kd.R_drewN | apply Kd.R_drew)); exact Kd.R_mono (Kd.R_far (p := ⟨gb236, 4, none⟩) (Kd.R_far (p := ⟨gb236, 3, none⟩) (Kd.R_far (p := ⟨gb236, 2, none⟩) (Kd.R_far (p := ⟨gb236, 1, none⟩) (Kd.R_far (p := ⟨gb236, 0, none⟩) (Kd.R_far (p := ⟨gb237, 4, none⟩) (Kd.R_types (Kd.R_types HO259.out BK237.out (by decide)) BK236.out (by decide)) (fun _ hk => hk.1.2) (.slice Ao49 y257.length co49)) (fun _ hk => hk.2) (.slice Ao51 x238000_1.length co51)) (fun _ hk => hk.2) (.int .i64 1)) (fun _ hk => hk.2) (.slice Ao36 y245.length co36)) (fun _ hk => hk.2) (.slice Ao43 y251.length co43)) (fun _ hk => hk.2) (.slice Ao49 y257.length co49)) (fun _ hk => ⟨hk.1.1.1, ⟨hk.1.1.2.1, hk.1.1.2.2⟩⟩), by repeat (first | (with_reducible first | exact HB.out | apply below_alloc | apply pw_below_drewN | apply below_drew1 | refine below_set ?_ GE235.out | refine below_set ?_ GE236.out | refine below_set ?_ GE237.out) | exact HB.out)⟩
      ·rw [if_neg c28] at H
       exact absurd H (by simp)
     ·rw [if_neg c27] at H
      exact absurd H (by simp)
    ·rw [if_neg c26] at H
     exact absurd H (by simp)
def hypercubelaw2_Make.l0 : Nat → List (S45) → Int → List (S41) → Int → Option ((List (S41)))
 | 0, _, _, _, _ => none
 | k + 1, x0, x1, x5, x6 => if x6 < (x0.length : Int) then (if 0 ≤ x6 then ((hypercuberef2_Of.f k ((rd_T45 x0 x6).f0) ((rd_T45 x0 x6).f1) x1).bind fun bt261 => (if x5.length < 1353245080339 then (hypercubelaw2_Make.l0 k x0 x1 (x5 ++ [(⟨bt261.1, bt261.2.1, bt261.2.2.1, bt261.2.2.2.1, bt261.2.2.2.2⟩ : S41)]) (wrap64 (x6 + 1))) else (none))) else (none)) else (some x5)
def hypercubelaw2_Make.f (k : Nat) (l0 : List (S45)) (a1 : Int) : Option ((List (S41))) := hypercubelaw2_Make.l0 k l0 a1 ([] : List (S41)) 0
set_option maxHeartbeats 8000000 in
set_option maxRecDepth 100000 in
theorem hypercubelaw2_Make.calls (k : Nat) (A0 : Option Addr) (c0 : Nat) (l0 : List (S45)) (a1 : Int) (r : List (S41)) (w : World) (hr0 : Kd.C k45 w A0 l0.length l0) (hc0 : l0.length ≤ c0) (h : hypercubelaw2_Make.f k l0 a1 = some r) :
  Calls Try.prog 14 #[.slice A0 l0.length c0, .int .i64 a1] w fun e w' => ∃ v0_ : Value, e = .returned (v0_) ∧ Kd.S k41 41 w' w.heap.size (fun _ => True) v0_ r ∧ Below w.heap.size w w' := by
 have hu45 := Try.underlying45
 have HR0 := am hr0
 have HC0 := am hc0
 clear hr0 hc0
 have HB := am (Below.refl w.heap.size w)
 have H : (hypercubelaw2_Make.l0 k l0 a1 ([] : List (S41)) 0) = some r := h
 clear h
 have H' := am H
 clear H
 go_enter Try.func14, Try.ntmps14
 go_wp2
 go_loopg [5, 6] k (fun kq v5 v6 w' => ∃ (x5_1 : List (S41)) (x6_1 : Int), v6 = .int .i64 x6_1 ∧ Aside0 (hypercubelaw2_Make.l0 kq l0 a1 x5_1 x6_1 = some r) ∧ Aside0 (kq ≤ k) ∧ Aside0 (Kd.S k41 41 w' w.heap.size (fun _ => True) v5 x5_1) ∧ Aside0 (Below w.heap.size w w'))
 case atStart => exact ⟨(([] : List (S41))), (0), (by first | rfl | (simp; done) | (simp [*]; done)), H', ⟨Nat.le_refl _⟩, ⟨by first | exact Kd.S_nil _ _ _ _ _ | exact Kd.N_nil _ _ _ _ _ | exact Kd.V_nil _ _ _ _ _ | exact Kd.Q_nil _ _ _ _ _ | exact Kd.R_nil _ _ _ _ _⟩, ⟨by repeat (first | (with_reducible first | exact HB.out | apply below_alloc | apply pw_below_drewN | apply below_drew1) | exact HB.out)⟩⟩
 case round =>
  clear H'
  try clear c1
  try clear p2
  obtain ⟨x5_1, x6_1, rfl, HA, HK1, HO_5, HB⟩ := hrel
  cases gk with
  | zero => exact absurd HA.out (by simp [hypercubelaw2_Make.l0])
  | succ k1 =>
   have H := HA.out
   clear HA
   simp only [hypercubelaw2_Make.l0] at H
   by_cases c3 : x6_1 < (l0.length : Int)
   ·rw [if_pos c3] at H
    have c3b0 : decide (x6_1 < (l0.length : Int)) = true := decide_eq_true c3
    clear c3
    by_cases c4 : 0 ≤ x6_1
    ·rw [if_pos c4] at H
     have c4b0 : decide (0 ≤ x6_1) = true := decide_eq_true c4
     clear c4
     replace H := Option.bind_eq_some_iff.mp H
     obtain ⟨⟨t261, t264, t265, t268, t271⟩, A50, H⟩ := H
     replace H : (if x5_1.length < 1353245080339 then (hypercubelaw2_Make.l0 k1 l0 a1 (x5_1 ++ [(⟨t261, t264, t265, t268, t271⟩ : S41)]) (wrap64 (x6_1 + 1))) else (none)) = some r := H
     have A5 := am A50
     clear A50
     by_cases c6 : x5_1.length < 1353245080339
     ·rw [if_pos c6] at H
      have LMc6 := am c6
      clear c6
      obtain ⟨y274, hy274⟩ : ∃ y_ : List (S41), y_ = (x5_1 ++ [(⟨t261, t264, t265, t268, t271⟩ : S41)]) := ⟨_, rfl⟩
      replace H : (hypercubelaw2_Make.l0 k1 l0 a1 y274 (wrap64 (x6_1 + 1))) = some r := by rw [hy274]; with_reducible exact H
      have Ny274 := am hy274
      clear hy274
      have H' := am H
      clear H
      have p260 : 0 ≤ (x6_1 : Int) := of_decide_eq_true (by first | (with_reducible assumption) | assumption)
      have q260 : x6_1 < (l0.length : Int) := of_decide_eq_true (by first | (with_reducible assumption) | assumption)
      obtain ⟨ad260, A260_0, c260_0, A260_1, c260_1, e260, hx260_0, hx260_1, hl260_0, hi260_0, hl260_1, hi260_1⟩ := at_T45 HR0.out x6_1 p260 q260
      cases e260
      replace hx260_0 := (HB.out.cell (World.block_lt_of_cell? w _ hx260_0)).trans hx260_0
      replace hx260_1 := (HB.out.cell (World.block_lt_of_cell? w _ hx260_1)).trans hx260_1
      have HR260_0 := am hi260_0
      have HC260_0 := am hl260_0
      clear hi260_0 hl260_0
      have HR260_1 := am hi260_1
      have HC260_1 := am hl260_1
      clear hi260_1 hl260_1
      replace p260 := eq_true p260
      replace q260 := eq_true q260
      go_wp2_with (first | (go_at_call 26; (with_reducible refine (hypercuberef2_Of.calls k1 _ _ ((rd_T45 l0 x6_1).f0) _ _ ((rd_T45 l0 x6_1).f1) a1 t261 t264 t265 t268 t271 _ ?side1 ?side2 ?side3 ?side4 A5.out).mono ?_); (case side1 => repeat (first | exact (Kd.C_below HR260_0.out HB.out) | (with_reducible refine Kd.C_alloc ?_ _) | (with_reducible refine Kd.C_drewN ?_ _) | (with_reducible refine Kd.C_drew ?_))); (case side2 => exact HC260_0.out); (case side3 => repeat (first | exact (Kd.C_below HR260_1.out HB.out) | (with_reducible refine Kd.C_alloc ?_ _) | (with_reducible refine Kd.C_drewN ?_ _) | (with_reducible refine Kd.C_drew ?_))); (case side4 => exact HC260_1.out); rintro e w7 ⟨v262, v266, v269, v272, rfl, ho0, ho1, ho2, ho3, hb⟩; have n0_ := am (Kd.S_mono (Kd.S_told (Kd.S_told (Kd.S_told (Kd.S_told (Kd.S_old (by (with_reducible repeat (first | apply Kd.S_alloc | apply Kd.S_drewN | apply Kd.S_drew)); exact HO_5.out) hb) (Kd.R_base ho0)) (Kd.R_base ho1)) (Kd.R_base ho2)) (Kd.R_base ho3)) (fun _ h_ => h_.1)); have n1_ := am (Kd.R_lower ho0 (below_size (by repeat (first | (with_reducible first | exact HB.out | apply below_alloc | apply pw_below_drewN | apply below_drew1) | exact HB.out)))); have n2_ := am (Kd.R_lower ho1 (below_size (by repeat (first | (with_reducible first | exact HB.out | apply below_alloc | apply pw_below_drewN | apply below_drew1) | exact HB.out)))); have n3_ := am (Kd.R_lower ho2 (below_size (by repeat (first | (with_reducible first | exact HB.out | apply below_alloc | apply pw_below_drewN | apply below_drew1) | exact HB.out)))); have n4_ := am (Kd.R_lower ho3 (below_size (by repeat (first | (with_reducible first | exact HB.out | apply below_alloc | apply pw_below_drewN | apply below_drew1) | exact HB.out)))); have n5_ := am (below_step (by repeat (first | (with_reducible first | exact HB.out | apply below_alloc | apply pw_below_drewN | apply below_drew1) | exact HB.out)) hb); clear HO_5 HB; revert n0_ n1_ n2_ n3_ n4_ n5_; intro HO_5 HO263 HO267 HO270 HO273 HB; (try clear hb); (try clear hb2); (try clear hk); (try clear hi); (try clear ho0); (try clear ho1); (try clear ho2); (try clear ho3); obtain ⟨Ao9, co9, eo9⟩ := Kd.R_slice HO263.out; subst eo9; obtain ⟨Ao10, co10, eo10⟩ := Kd.R_slice HO267.out; subst eo10; obtain ⟨Ao11, co11, eo11⟩ := Kd.R_slice HO270.out; subst eo11; obtain ⟨Ao12, co12, eo12⟩ := Kd.R_slice HO273.out; subst eo12) | ((with_reducible refine gate_builtin (b := .append) (xs := #[.tmp 13, .tmp 20]) rfl ?_); at_builtin; refine Kd.S_append k41 (w0 := w) w.heap.size rfl (.tmp 13) (.tmp 20) 29 41 (.agg #[(.slice none 0 0), (.int .i64 0), (.slice none 0 0), (.slice none 0 0), (.slice none 0 0)]) 104 rfl Try.underlying29 info41 rfl (by decide) (by omega) u5 x5_1 (⟨t261, t264, t265, t268, t271⟩ : S41) [.slice Ao9 t261.length co9, .int .i64 t264, .slice Ao10 t265.length co10, .slice Ao11 t268.length co11, .slice Ao12 t271.length co12] (fun _ => True) (fun k_ => some k_ = (.slice Ao9 t261.length co9 : Value).ownBlock ∨ some k_ = (.slice Ao10 t265.length co10 : Value).ownBlock ∨ some k_ = (.slice Ao11 t268.length co11 : Value).ownBlock ∨ some k_ = (.slice Ao12 t271.length co12 : Value).ownBlock) rfl rfl ?aP (fun k_ hk_ => hk_.elim (fun h_ => ((Kd.R_mono (ok' := fun k_ => ((fun _ => True)) k_ ∧ some k_ ≠ (u5 : Value).ownBlock) (Kd.R_apart' (HO263.out) (Kd.S_typed HO_5.out) (by decide)) (fun k_ hk => ⟨trivial, hk.2⟩))).1 k_ h_.symm) (fun h_ => h_.elim (fun h_ => ((Kd.R_mono (ok' := fun k_ => ((fun _ => True)) k_ ∧ some k_ ≠ (u5 : Value).ownBlock) (Kd.R_apart' (HO267.out) (Kd.S_typed HO_5.out) (by decide)) (fun k_ hk => ⟨trivial, hk.2⟩))).1 k_ h_.symm) (fun h_ => h_.elim (fun h_ => ((Kd.R_mono (ok' := fun k_ => ((fun _ => True)) k_ ∧ some k_ ≠ (u5 : Value).ownBlock) (Kd.R_apart' (HO270.out) (Kd.S_typed HO_5.out) (by decide)) (fun k_ hk => ⟨trivial, hk.2⟩))).1 k_ h_.symm) (fun h_ => ((Kd.R_mono (ok' := fun k_ => ((fun _ => True)) k_ ∧ some k_ ≠ (u5 : Value).ownBlock) (Kd.R_apart' (HO273.out) (Kd.S_typed HO_5.out) (by decide)) (fun k_ hk => ⟨trivial, hk.2⟩))).1 k_ h_.symm)))) ?aF ?aO ?aB ?aS ?aL ?_; (case aP => exact k41_mkM _ _ _ (⟨t261, t264, t265, t268, t271⟩ : S41) (Kd.R_mono (Kd.R_tight rfl (Kd.R_mono (ok' := fun k_ => ((fun _ => True)) k_ ∧ some k_ ≠ (u5 : Value).ownBlock) (Kd.R_apart' (HO263.out) (Kd.S_typed HO_5.out) (by decide)) (fun k_ hk => ⟨trivial, hk.2⟩))) (fun _ h_ => Or.inl h_)) (Kd.R_mono (Kd.R_tight rfl (Kd.R_mono (ok' := fun k_ => ((fun _ => True)) k_ ∧ some k_ ≠ (u5 : Value).ownBlock) (Kd.R_apart' (HO267.out) (Kd.S_typed HO_5.out) (by decide)) (fun k_ hk => ⟨trivial, hk.2⟩))) (fun _ h_ => Or.inr (Or.inl h_))) (Kd.R_mono (Kd.R_tight rfl (Kd.R_mono (ok' := fun k_ => ((fun _ => True)) k_ ∧ some k_ ≠ (u5 : Value).ownBlock) (Kd.R_apart' (HO270.out) (Kd.S_typed HO_5.out) (by decide)) (fun k_ hk => ⟨trivial, hk.2⟩))) (fun _ h_ => Or.inr (Or.inr (Or.inl h_)))) (Kd.R_mono (Kd.R_tight rfl (Kd.R_mono (ok' := fun k_ => ((fun _ => True)) k_ ∧ some k_ ≠ (u5 : Value).ownBlock) (Kd.R_apart' (HO273.out) (Kd.S_typed HO_5.out) (by decide)) (fun k_ hk => ⟨trivial, hk.2⟩))) (fun _ h_ => Or.inr (Or.inr (Or.inr (h_)))))); (case aB => exact (by repeat (first | (with_reducible first | exact HB.out | apply below_alloc | apply pw_below_drewN | apply below_drew1) | exact HB.out))); (case aF => exact (fun _ _ => trivial)); (case aO => exact (by (with_reducible repeat (first | apply Kd.S_alloc | apply Kd.S_drewN | apply Kd.S_drew)); exact Kd.S_mono HO_5.out (fun k_ hk => ⟨trivial, fun e_ => e_.elim (fun h_ => hk.1.1.1.2 h_) (fun h_ => h_.elim (fun h_ => hk.1.1.2 h_) (fun h_ => h_.elim (fun h_ => hk.1.2 h_) (fun h_ => hk.2 h_)))⟩))); (case aS => exact (below_size (by repeat (first | (with_reducible first | exact HB.out | apply below_alloc | apply pw_below_drewN | apply below_drew1) | exact HB.out)))); (case aL => have := LMc6.out; omega); intro v275 w8 ho hb hg hat; rw [← Ny274.out] at ho; have n0_ := am (hb); have n1_ := am (ho); clear HB HO_5 HO263 HO267 HO270 HO273; revert n0_ n1_; intro HB HO276; clear ho hb hg hat))
      go_roundg k1
      case measure => have := HK1.out; omega
      case rel => exact ⟨(y274), (wrap64 (x6_1 + 1)), (by first | rfl | (simp; done) | (simp [*]; done)), H', ⟨by have := HK1.out; omega⟩, ⟨by (with_reducible repeat (first | apply Kd.S_alloc | apply Kd.S_drewN | apply Kd.S_drew)); exact HO276.out⟩, ⟨by repeat (first | (with_reducible first | exact HB.out | apply below_alloc | apply pw_below_drewN | apply below_drew1) | exact HB.out)⟩⟩
     ·rw [if_neg c6] at H
      exact absurd H (by simp)
    ·rw [if_neg c4] at H
     exact absurd H (by simp)
   ·rw [if_neg c3] at H
    have c3b0 : decide (x6_1 < (l0.length : Int)) = false := decide_eq_false c3
    clear c3
    obtain rfl := Option.some.inj H
    go_wp2
    go_ret
    exact ⟨_, by first | rfl | (simp [errW_none, errW_some] <;> rfl) | (simp [*, errW_none, errW_some] <;> rfl), by (with_reducible repeat (first | apply Kd.S_alloc | apply Kd.S_drewN | apply Kd.S_drew)); exact HO_5.out, by repeat (first | (with_reducible first | exact HB.out | apply below_alloc | apply pw_below_drewN | apply below_drew1) | exact HB.out)⟩
def hypercubelaw2_within.f (a0 : Int) (a1 : Int) : Option (Int) := if a1 = 0 then (none) else (if (Int.tmod a0 a1) < 0 then (some (wrap64 ((Int.tmod a0 a1) + a1))) else (some (Int.tmod a0 a1)))
set_option maxHeartbeats 8000000 in
set_option maxRecDepth 100000 in
theorem hypercubelaw2_within.calls (a0 : Int) (a1 : Int) (r : Int) (w : World) (h : hypercubelaw2_within.f a0 a1 = some r) :
  Calls Try.prog 27 #[.int .i64 a0, .int .i64 a1] w fun e w' => e = .returned (.int .i64 r) ∧ Drawn0 w w' := by
 have H : (if a1 = 0 then (none) else (if (Int.tmod a0 a1) < 0 then (some (wrap64 ((Int.tmod a0 a1) + a1))) else (some (Int.tmod a0 a1)))) = some r := h
 clear h
 by_cases c3 : a1 = 0
 ·rw [if_pos c3] at H
  exact absurd H (by simp)
 ·rw [if_neg c3] at H
  have c3b0 : (a1 == 0) = false := beq_eq_false_iff_ne.mpr c3
  have c3b1 : (a1 != 0) = true := bne_iff_ne.mpr c3
  by_cases c4 : (Int.tmod a0 a1) < 0
  ·rw [if_pos c4] at H
   have c4b0 : decide ((Int.tmod a0 a1) < 0) = true := decide_eq_true c4
   clear c4
   obtain rfl := Option.some.inj H
   go_enter Try.func27, Try.ntmps27
   go_wp2
   go_ret
   exact ⟨by first | rfl | (simp; done) | (simp [*]; done), by repeat (first | exact Drawn0.refl _ | apply Drawn0.step)⟩
  ·rw [if_neg c4] at H
   have c4b0 : decide ((Int.tmod a0 a1) < 0) = false := decide_eq_false c4
   clear c4
   obtain rfl := Option.some.inj H
   go_enter Try.func27, Try.ntmps27
   go_wp2
   go_ret
   exact ⟨by first | rfl | (simp; done) | (simp [*]; done), by repeat (first | exact Drawn0.refl _ | apply Drawn0.step)⟩
def hypercubelaw2_Set.f (l0_0 : List Int) (a0_1 : Int) (a1 : Int) : Option (Int) := if 0 ≤ (IntKind.u64.wrap ((l0_0.length : Int))) then ((hypercubelaw2_within.f a1 (shl .i64 1 (IntKind.u64.wrap ((l0_0.length : Int))))).bind fun t278 => (some t278)) else (none)
set_option maxHeartbeats 8000000 in
set_option maxRecDepth 100000 in
theorem hypercubelaw2_Set.calls (A0_0 : Option Addr) (c0_0 : Nat) (l0_0 : List Int) (a0_1 : Int) (a1 : Int) (r : Int) (w : World) (hr0_0 : Kd.C (Kd.int .i64) w A0_0 l0_0.length l0_0) (hc0_0 : l0_0.length ≤ c0_0) (h : hypercubelaw2_Set.f l0_0 a0_1 a1 = some r) :
  Calls Try.prog 15 #[.agg #[.slice A0_0 l0_0.length c0_0, .int .i64 a0_1], .int .i64 a1] w fun e w' => e = .returned (.int .i64 r) ∧ Below w.heap.size w w' := by
 have hu25 := Try.underlying25
 have HR0_0 := am hr0_0
 have HC0_0 := am hc0_0
 clear hr0_0 hc0_0
 have HB := am (Below.refl w.heap.size w)
 have H : (if 0 ≤ (IntKind.u64.wrap ((l0_0.length : Int))) then ((hypercubelaw2_within.f a1 (shl .i64 1 (IntKind.u64.wrap ((l0_0.length : Int))))).bind fun t278 => (some t278)) else (none)) = some r := h
 clear h
 obtain ⟨ji3, hji3⟩ : ∃ j_ : Int, (IntKind.u64.wrap ((l0_0.length : Int))) = j_ := ⟨_, rfl⟩
 replace H : (if 0 ≤ (ji3) then ((hypercubelaw2_within.f a1 (shl .i64 1 (ji3))).bind fun t278 => (some t278)) else (none)) = some r := by first | (rw [hji3] at H; exact H) | (simp only [hji3] at H ⊢; exact H)
 by_cases c4 : 0 ≤ (ji3)
 ·rw [if_pos c4] at H
  have c4b0 := eq_true c4
  have c4b1 : decide (0 ≤ (ji3)) = true := decide_eq_true c4
  clear c4
  obtain ⟨ji5, hji5⟩ : ∃ j_ : Int, (shl .i64 1 (ji3)) = j_ := ⟨_, rfl⟩
  replace H : ((hypercubelaw2_within.f a1 (ji5)).bind fun t278 => (some t278)) = some r := by first | (rw [hji5] at H; exact H) | (simp only [hji5] at H ⊢; exact H)
  have hji5_ : (IntKind.i64.wrap (1 * 2 ^ min (ji3).toNat 64)) = ji5 := hji5
  have hji5z : (ji3) ≤ 64 → (IntKind.i64.wrap (1 * 2 ^ (ji3).toNat)) = ji5 := shl_small hji5
  have hji5u : (IntKind.i64.wrap (2 ^ min (ji3).toNat 64)) = ji5 := by have h_ := hji5_; rw [Int.one_mul] at h_; exact h_
  have hji5v : (ji3) ≤ 64 → (IntKind.i64.wrap (2 ^ (ji3).toNat)) = ji5 := fun hle_ => by have h_ := hji5z hle_; rw [Int.one_mul] at h_; exact h_
  have hji5y : (wrap64 (1 * 2 ^ min (ji3).toNat 64)) = ji5 := (i64_w _).symm.trans hji5_
  have hji5x : (ji3) ≤ 64 → (wrap64 (1 * 2 ^ (ji3).toNat)) = ji5 := fun h_ => (i64_w _).symm.trans (hji5z h_)
  replace H := Option.bind_eq_some_iff.mp H
  obtain ⟨t278, A60, H⟩ := H
  replace H : (some t278) = some r := H
  have A6 := am A60
  clear A60
  obtain rfl := Option.some.inj H
  go_enter Try.func15, Try.ntmps15
  go_wp2_with (first | ((with_reducible refine gate_dst (N := 2) rfl ?_); refine box_event ?hg (N := 2) ?hd (cs := #[.slice A0_0 l0_0.length c0_0, .int .i64 a0_1]) (t := 25) ?hr ?_; (case hd => rfl); (case hg => rfl); (case hr => first | (go_simp; done) | (go_simp; rfl)); intro gb277 hg w7 hbox hb; have n0_ := am (below_step (wmv HB.out) hb); have n1_ := am (hbox); have n2_ := am ((by rw [hg]; exact (below_size (wmv HB.out)) : w.heap.size ≤ gb277)); have n3_ := am ((by rw [hg]; exact (below_size (wmv HB.out)) : w.heap.size ≤ gb277)); clear HB; revert n0_ n1_ n2_ n3_; intro HB BK277 GW277 GE277; clear hb hbox hg; have hcz8_0 : w7.cell? ⟨gb277, 0, none⟩ = some (.slice A0_0 l0_0.length c0_0) := (blk_cell BK277.out 0).trans rfl; have hcz8_1 : w7.cell? ⟨gb277, 1, none⟩ = some (.int .i64 a0_1) := (blk_cell BK277.out 1).trans rfl; have hfz8_0 := blk_frozen BK277.out 0; have hfz8_1 := blk_frozen BK277.out 1) | ((with_reducible refine gate_callee (f := 27) rfl ?_); refine goesL_ (some 11) rfl rfl Try.func27 (by kernel_rfl) rfl #[.int .i64 a1, .int .i64 ji5] rfl (by (try simp only [List.map_toArray, List.map_cons, List.map_nil]); first | done | (simp only [hji5]; rfl) | rfl | (simp only [List.length_drop, List.length_take]; rfl)) ?_; (with_reducible refine (hypercubelaw2_within.calls a1 ji5 t278 _ A6.out).mono ?_); rintro e w' ⟨rfl, ⟨nd, rfl⟩⟩; refine ⟨_, rfl, ?_⟩))
  go_ret
  exact ⟨by first | rfl | (simp [errW_none, errW_some] <;> rfl) | (simp only [← hji3, ← hji5]; first | rfl | (simp [errW_none, errW_some] <;> rfl)) | (simp [*, errW_none, errW_some] <;> rfl), by repeat (first | (with_reducible first | exact HB.out | apply below_alloc | apply pw_below_drewN | apply below_drew1 | refine below_set ?_ GE277.out) | exact HB.out)⟩
 ·rw [if_neg c4] at H
  exact absurd H (by simp)
def hypercuberef1_Ints.l0 : Nat → List Int → List Int → Int → Option (Bool)
 | 0, _, _, _ => none
 | k + 1, x0, x1, x5 => if x5 < (x0.length : Int) then (if 0 ≤ x5 then (if x5 < (x1.length : Int) then (if (rd x0 x5) = (rd x1 x5) then (hypercuberef1_Ints.l0 k x0 x1 (wrap64 (x5 + 1))) else (some false)) else (none)) else (none)) else (some true)
def hypercuberef1_Ints.f (k : Nat) (l0 : List Int) (l1 : List Int) : Option (Bool) := if (l0.length : Int) = (l1.length : Int) then (hypercuberef1_Ints.l0 k l0 l1 0) else (some false)
set_option maxHeartbeats 8000000 in
set_option maxRecDepth 100000 in
theorem hypercuberef1_Ints.calls (k : Nat) (A0 : Option Addr) (c0 : Nat) (l0 : List Int) (A1 : Option Addr) (c1 : Nat) (l1 : List Int) (r : Bool) (w : World) (hr0 : Kd.C (Kd.int .i64) w A0 l0.length l0) (hc0 : l0.length ≤ c0) (hr1 : Kd.C (Kd.int .i64) w A1 l1.length l1) (hc1 : l1.length ≤ c1) (h : hypercuberef1_Ints.f k l0 l1 = some r) :
  Calls Try.prog 45 #[.slice A0 l0.length c0, .slice A1 l1.length c1] w fun e w' => e = .returned (.bool r) ∧ Drawn0 w w' := by
 have HR0 := am hr0
 have HC0 := am hc0
 clear hr0 hc0
 have HR1 := am hr1
 have HC1 := am hc1
 clear hr1 hc1
 have H : (if (l0.length : Int) = (l1.length : Int) then (hypercuberef1_Ints.l0 k l0 l1 0) else (some false)) = some r := h
 clear h
 by_cases c3 : (l0.length : Int) = (l1.length : Int)
 ·rw [if_pos c3] at H
  have c3b0 : ((l0.length : Int) == (l1.length : Int)) = true := beq_iff_eq.mpr c3
  have c3b1 : ((l0.length : Int) != (l1.length : Int)) = false := bne_eq_false_iff_eq.mpr c3
  have c3b2 : (l0.length == l1.length) = true := by first | simpa using c3 | (simp at c3 ⊢; omega)
  clear c3
  have H' := am H
  clear H
  go_enter Try.func45, Try.ntmps45
  go_wp2
  repeat (go_quiet (fail); try go_wp2)
  go_loopg [5] k (fun kq v5 w' => ∃ (x5_1 : Int), v5 = .int .i64 x5_1 ∧ Aside0 (hypercuberef1_Ints.l0 kq l0 l1 x5_1 = some r) ∧ Aside0 (kq ≤ k) ∧ Drawn0 w w')
  case atStart => exact ⟨(0), (by first | rfl | (simp; done) | (simp [*]; done)), H', ⟨Nat.le_refl _⟩, by repeat (first | exact Drawn0.refl _ | apply Drawn0.step)⟩
  case round =>
   clear H'
   try clear c1
   try clear p2
   try clear c3
   try clear c3b0
   try clear c3b1
   try clear c3b2
   obtain ⟨x5_1, rfl, HA, HK1, ⟨m1, rfl⟩⟩ := hrel
   cases gk with
   | zero => exact absurd HA.out (by simp [hypercuberef1_Ints.l0])
   | succ k1 =>
    have H := HA.out
    clear HA
    simp only [hypercuberef1_Ints.l0] at H
    by_cases c4 : x5_1 < (l0.length : Int)
    ·rw [if_pos c4] at H
     have c4b0 : decide (x5_1 < (l0.length : Int)) = true := decide_eq_true c4
     clear c4
     by_cases c5 : 0 ≤ x5_1
     ·rw [if_pos c5] at H
      have c5b0 : decide (0 ≤ x5_1) = true := decide_eq_true c5
      clear c5
      by_cases c6 : x5_1 < (l1.length : Int)
      ·rw [if_pos c6] at H
       have c6b0 : decide (x5_1 < (l1.length : Int)) = true := decide_eq_true c6
       clear c6
       by_cases c7 : (rd l0 x5_1) = (rd l1 x5_1)
       ·rw [if_pos c7] at H
        have c7b0 : ((rd l0 x5_1) == (rd l1 x5_1)) = true := beq_iff_eq.mpr c7
        have c7b1 : ((rd l0 x5_1) != (rd l1 x5_1)) = false := bne_eq_false_iff_eq.mpr c7
        clear c7
        have H' := am H
        clear H
        have p279 : 0 ≤ (x5_1 : Int) := of_decide_eq_true (by first | (with_reducible assumption) | assumption)
        have q279 : x5_1 < (l0.length : Int) := of_decide_eq_true (by first | (with_reducible assumption) | assumption)
        obtain ⟨ad279, e279, hx279_0⟩ := Kd.at_int HR0.out x5_1 p279 q279
        cases e279
        replace p279 := eq_true p279
        replace q279 := eq_true q279
        have p280 : 0 ≤ (x5_1 : Int) := of_decide_eq_true (by first | (with_reducible assumption) | assumption)
        have q280 : x5_1 < (l1.length : Int) := of_decide_eq_true (by first | (with_reducible assumption) | assumption)
        obtain ⟨ad280, e280, hx280_0⟩ := Kd.at_int HR1.out x5_1 p280 q280
        cases e280
        replace p280 := eq_true p280
        replace q280 := eq_true q280
        go_wp2
        repeat (go_quiet (fail); try go_wp2)
        go_roundg k1
        case measure => have := HK1.out; omega
        case rel => exact ⟨(wrap64 (x5_1 + 1)), (by first | rfl | (simp; done) | (simp [*]; done)), H', ⟨by have := HK1.out; omega⟩, by repeat (first | exact Drawn0.refl _ | apply Drawn0.step)⟩
       ·rw [if_neg c7] at H
        have c7b0 : ((rd l0 x5_1) == (rd l1 x5_1)) = false := beq_eq_false_iff_ne.mpr c7
        have c7b1 : ((rd l0 x5_1) != (rd l1 x5_1)) = true := bne_iff_ne.mpr c7
        obtain rfl := Option.some.inj H
        have p279 : 0 ≤ (x5_1 : Int) := of_decide_eq_true (by first | (with_reducible assumption) | assumption)
        have q279 : x5_1 < (l0.length : Int) := of_decide_eq_true (by first | (with_reducible assumption) | assumption)
        obtain ⟨ad279, e279, hx279_0⟩ := Kd.at_int HR0.out x5_1 p279 q279
        cases e279
        replace p279 := eq_true p279
        replace q279 := eq_true q279
        have p280 : 0 ≤ (x5_1 : Int) := of_decide_eq_true (by first | (with_reducible assumption) | assumption)
        have q280 : x5_1 < (l1.length : Int) := of_decide_eq_true (by first | (with_reducible assumption) | assumption)
        obtain ⟨ad280, e280, hx280_0⟩ := Kd.at_int HR1.out x5_1 p280 q280
        cases e280
        replace p280 := eq_true p280
        replace q280 := eq_true q280
        go_wp2
        repeat (go_quiet (fail); try go_wp2)
        go_ret
        exact ⟨by first | rfl | (simp; done) | (simp [*]; done), by repeat (first | exact Drawn0.refl _ | apply Drawn0.step)⟩
      ·rw [if_neg c6] at H
       exact absurd H (by simp)
     ·rw [if_neg c5] at H
      exact absurd H (by simp)
    ·rw [if_neg c4] at H
     have c4b0 : decide (x5_1 < (l0.length : Int)) = false := decide_eq_false c4
     clear c4
     obtain rfl := Option.some.inj H
     go_wp2
     repeat (go_quiet (fail); try go_wp2)
     go_ret
     exact ⟨by first | rfl | (simp; done) | (simp [*]; done), by repeat (first | exact Drawn0.refl _ | apply Drawn0.step)⟩
 ·rw [if_neg c3] at H
  have c3b0 : ((l0.length : Int) == (l1.length : Int)) = false := beq_eq_false_iff_ne.mpr c3
  have c3b1 : ((l0.length : Int) != (l1.length : Int)) = true := bne_iff_ne.mpr c3
  have c3b2 : (l0.length == l1.length) = false := by first | simpa using c3 | (simp at c3 ⊢; omega)
  obtain rfl := Option.some.inj H
  go_enter Try.func45, Try.ntmps45
  go_wp2
  repeat (go_quiet (fail); try go_wp2)
  go_ret
  exact ⟨by first | rfl | (simp; done) | (simp [*]; done), by repeat (first | exact Drawn0.refl _ | apply Drawn0.step)⟩
def hypercuberef2_Equal.f (k : Nat) (l0_0 : List Int) (a0_1 : Int) (l0_2 : List Int) (l0_3 : List Int) (l0_4 : List Int) (l1_0 : List Int) (a1_1 : Int) (l1_2 : List Int) (l1_3 : List Int) (l1_4 : List Int) : Option (Bool) := if a0_1 = a1_1 then ((hypercuberef1_Ints.f k l0_0 l1_0).bind fun t283 => (if t283 = true then ((hypercuberef1_Ints.f k l0_2 l1_2).bind fun t284 => (if t284 = true then ((hypercuberef1_Ints.f k l0_3 l1_3).bind fun t285 => (if t285 = true then ((hypercuberef1_Ints.f k l0_4 l1_4).bind fun t286 => (some t286)) else (some false))) else (some false))) else (some false))) else (some false)
set_option maxHeartbeats 8000000 in
set_option maxRecDepth 100000 in
theorem hypercuberef2_Equal.calls (k : Nat) (A0_0 : Option Addr) (c0_0 : Nat) (l0_0 : List Int) (a0_1 : Int) (A0_2 : Option Addr) (c0_2 : Nat) (l0_2 : List Int) (A0_3 : Option Addr) (c0_3 : Nat) (l0_3 : List Int) (A0_4 : Option Addr) (c0_4 : Nat) (l0_4 : List Int) (A1_0 : Option Addr) (c1_0 : Nat) (l1_0 : List Int) (a1_1 : Int) (A1_2 : Option Addr) (c1_2 : Nat) (l1_2 : List Int) (A1_3 : Option Addr) (c1_3 : Nat) (l1_3 : List Int) (A1_4 : Option Addr) (c1_4 : Nat) (l1_4 : List Int) (r : Bool) (w : World) (hr0_0 : Kd.C (Kd.int .i64) w A0_0 l0_0.length l0_0) (hc0_0 : l0_0.length ≤ c0_0) (hr0_2 : Kd.C (Kd.int .i64) w A0_2 l0_2.length l0_2) (hc0_2 : l0_2.length ≤ c0_2) (hr0_3 : Kd.C (Kd.int .i64) w A0_3 l0_3.length l0_3) (hc0_3 : l0_3.length ≤ c0_3) (hr0_4 : Kd.C (Kd.int .i64) w A0_4 l0_4.length l0_4) (hc0_4 : l0_4.length ≤ c0_4) (hr1_0 : Kd.C (Kd.int .i64) w A1_0 l1_0.length l1_0) (hc1_0 : l1_0.length ≤ c1_0) (hr1_2 : Kd.C (Kd.int .i64) w A1_2 l1_2.length l1_2) (hc1_2 : l1_2.length ≤ c1_2) (hr1_3 : Kd.C (Kd.int .i64) w A1_3 l1_3.length l1_3) (hc1_3 : l1_3.length ≤ c1_3) (hr1_4 : Kd.C (Kd.int .i64) w A1_4 l1_4.length l1_4) (hc1_4 : l1_4.length ≤ c1_4) (h : hypercuberef2_Equal.f k l0_0 a0_1 l0_2 l0_3 l0_4 l1_0 a1_1 l1_2 l1_3 l1_4 = some r) :
  Calls Try.prog 36 #[.agg #[.slice A0_0 l0_0.length c0_0, .int .i64 a0_1, .slice A0_2 l0_2.length c0_2, .slice A0_3 l0_3.length c0_3, .slice A0_4 l0_4.length c0_4], .agg #[.slice A1_0 l1_0.length c1_0, .int .i64 a1_1, .slice A1_2 l1_2.length c1_2, .slice A1_3 l1_3.length c1_3, .slice A1_4 l1_4.length c1_4]] w fun e w' => e = .returned (.bool r) ∧ Below w.heap.size w w' := by
 have hu41 := Try.underlying41
 have HR0_0 := am hr0_0
 have HC0_0 := am hc0_0
 clear hr0_0 hc0_0
 have HR0_2 := am hr0_2
 have HC0_2 := am hc0_2
 clear hr0_2 hc0_2
 have HR0_3 := am hr0_3
 have HC0_3 := am hc0_3
 clear hr0_3 hc0_3
 have HR0_4 := am hr0_4
 have HC0_4 := am hc0_4
 clear hr0_4 hc0_4
 have HR1_0 := am hr1_0
 have HC1_0 := am hc1_0
 clear hr1_0 hc1_0
 have HR1_2 := am hr1_2
 have HC1_2 := am hc1_2
 clear hr1_2 hc1_2
 have HR1_3 := am hr1_3
 have HC1_3 := am hc1_3
 clear hr1_3 hc1_3
 have HR1_4 := am hr1_4
 have HC1_4 := am hc1_4
 clear hr1_4 hc1_4
 have HB := am (Below.refl w.heap.size w)
 have H : (if a0_1 = a1_1 then ((hypercuberef1_Ints.f k l0_0 l1_0).bind fun t283 => (if t283 = true then ((hypercuberef1_Ints.f k l0_2 l1_2).bind fun t284 => (if t284 = true then ((hypercuberef1_Ints.f k l0_3 l1_3).bind fun t285 => (if t285 = true then ((hypercuberef1_Ints.f k l0_4 l1_4).bind fun t286 => (some t286)) else (some false))) else (some false))) else (some false))) else (some false)) = some r := h
 clear h
 by_cases c3 : a0_1 = a1_1
 ·rw [if_pos c3] at H
  have c3b0 : (a0_1 == a1_1) = true := beq_iff_eq.mpr c3
  have c3b1 : (a0_1 != a1_1) = false := bne_eq_false_iff_eq.mpr c3
  clear c3
  replace H := Option.bind_eq_some_iff.mp H
  obtain ⟨t283, A40, H⟩ := H
  replace H : (if t283 = true then ((hypercuberef1_Ints.f k l0_2 l1_2).bind fun t284 => (if t284 = true then ((hypercuberef1_Ints.f k l0_3 l1_3).bind fun t285 => (if t285 = true then ((hypercuberef1_Ints.f k l0_4 l1_4).bind fun t286 => (some t286)) else (some false))) else (some false))) else (some false)) = some r := H
  have A4 := am A40
  clear A40
  by_cases c5 : t283 = true
  ·subst c5
   have H1 : ((hypercuberef1_Ints.f k l0_2 l1_2).bind fun t284 => (if t284 = true then ((hypercuberef1_Ints.f k l0_3 l1_3).bind fun t285 => (if t285 = true then ((hypercuberef1_Ints.f k l0_4 l1_4).bind fun t286 => (some t286)) else (some false))) else (some false))) = some r := by rw [if_pos rfl] at H; exact H
   clear H
   have H := H1
   clear H1
   replace H := Option.bind_eq_some_iff.mp H
   obtain ⟨t284, A60, H⟩ := H
   replace H : (if t284 = true then ((hypercuberef1_Ints.f k l0_3 l1_3).bind fun t285 => (if t285 = true then ((hypercuberef1_Ints.f k l0_4 l1_4).bind fun t286 => (some t286)) else (some false))) else (some false)) = some r := H
   have A6 := am A60
   clear A60
   by_cases c7 : t284 = true
   ·subst c7
    have H1 : ((hypercuberef1_Ints.f k l0_3 l1_3).bind fun t285 => (if t285 = true then ((hypercuberef1_Ints.f k l0_4 l1_4).bind fun t286 => (some t286)) else (some false))) = some r := by rw [if_pos rfl] at H; exact H
    clear H
    have H := H1
    clear H1
    replace H := Option.bind_eq_some_iff.mp H
    obtain ⟨t285, A80, H⟩ := H
    replace H : (if t285 = true then ((hypercuberef1_Ints.f k l0_4 l1_4).bind fun t286 => (some t286)) else (some false)) = some r := H
    have A8 := am A80
    clear A80
    by_cases c9 : t285 = true
    ·subst c9
     have H1 : ((hypercuberef1_Ints.f k l0_4 l1_4).bind fun t286 => (some t286)) = some r := by rw [if_pos rfl] at H; exact H
     clear H
     have H := H1
     clear H1
     replace H := Option.bind_eq_some_iff.mp H
     obtain ⟨t286, A100, H⟩ := H
     replace H : (some t286) = some r := H
     have A10 := am A100
     clear A100
     obtain rfl := Option.some.inj H
     go_enter Try.func36, Try.ntmps36
     go_wp2_with (first | ((with_reducible refine gate_dst (N := 2) rfl ?_); refine box_event ?hg (N := 2) ?hd (cs := #[.slice A0_0 l0_0.length c0_0, .int .i64 a0_1, .slice A0_2 l0_2.length c0_2, .slice A0_3 l0_3.length c0_3, .slice A0_4 l0_4.length c0_4]) (t := 41) ?hr ?_; (case hd => rfl); (case hg => rfl); (case hr => first | (go_simp; done) | (go_simp; rfl)); intro gb281 hg w11 hbox hb; have n0_ := am (below_step (wmv HB.out) hb); have n1_ := am (hbox); have n2_ := am ((by rw [hg]; exact (below_size (wmv HB.out)) : w.heap.size ≤ gb281)); have n3_ := am ((by rw [hg]; exact (below_size (wmv HB.out)) : w.heap.size ≤ gb281)); clear HB; revert n0_ n1_ n2_ n3_; intro HB BK281 GW281 GE281; clear hb hbox hg) | ((with_reducible refine gate_dst (N := 3) rfl ?_); refine box_event ?hg (N := 3) ?hd (cs := #[.slice A1_0 l1_0.length c1_0, .int .i64 a1_1, .slice A1_2 l1_2.length c1_2, .slice A1_3 l1_3.length c1_3, .slice A1_4 l1_4.length c1_4]) (t := 41) ?hr ?_; (case hd => rfl); (case hg => rfl); (case hr => first | (go_simp; done) | (go_simp; rfl)); intro gb282 hg w12 hbox hb; have n0_ := am (blk_below (bmv BK281.out) hb); have n1_ := am (below_step (wmv HB.out) hb); have n2_ := am (hbox); have n3_ := am ((by rw [hg]; exact (below_size (wmv HB.out)) : w.heap.size ≤ gb282)); have n4_ := am ((by rw [hg]; exact (below_size (wmv HB.out)) : w.heap.size ≤ gb282)); have n5_ := am ((by rw [hg]; exact Nat.ne_of_lt (blk_lt (bmv BK281.out)) : gb281 ≠ gb282)); have n6_ := am ((by rw [hg]; exact Nat.ne_of_gt (blk_lt (bmv BK281.out)) : gb282 ≠ gb281)); clear BK281 HB; revert n0_ n1_ n2_ n3_ n4_ n5_ n6_; intro BK281 HB BK282 GW282 GE282 NB281_282 NB282_281; clear hb hbox hg; have hnb13 := NB281_282.out; have hnc13 := NB282_281.out; have hcz14_0 : w12.cell? ⟨gb281, 0, none⟩ = some (.slice A0_0 l0_0.length c0_0) := (blk_cell BK281.out 0).trans rfl; have hcz14_1 : w12.cell? ⟨gb281, 1, none⟩ = some (.int .i64 a0_1) := (blk_cell BK281.out 1).trans rfl; have hcz14_2 : w12.cell? ⟨gb281, 2, none⟩ = some (.slice A0_2 l0_2.length c0_2) := (blk_cell BK281.out 2).trans rfl; have hcz14_3 : w12.cell? ⟨gb281, 3, none⟩ = some (.slice A0_3 l0_3.length c0_3) := (blk_cell BK281.out 3).trans rfl; have hcz14_4 : w12.cell? ⟨gb281, 4, none⟩ = some (.slice A0_4 l0_4.length c0_4) := (blk_cell BK281.out 4).trans rfl; have hfz14_0 := blk_frozen BK281.out 0; have hfz14_1 := blk_frozen BK281.out 1; have hfz14_2 := blk_frozen BK281.out 2; have hfz14_3 := blk_frozen BK281.out 3; have hfz14_4 := blk_frozen BK281.out 4; have hcz15_0 : w12.cell? ⟨gb282, 0, none⟩ = some (.slice A1_0 l1_0.length c1_0) := (blk_cell BK282.out 0).trans rfl; have hcz15_1 : w12.cell? ⟨gb282, 1, none⟩ = some (.int .i64 a1_1) := (blk_cell BK282.out 1).trans rfl; have hcz15_2 : w12.cell? ⟨gb282, 2, none⟩ = some (.slice A1_2 l1_2.length c1_2) := (blk_cell BK282.out 2).trans rfl; have hcz15_3 : w12.cell? ⟨gb282, 3, none⟩ = some (.slice A1_3 l1_3.length c1_3) := (blk_cell BK282.out 3).trans rfl; have hcz15_4 : w12.cell? ⟨gb282, 4, none⟩ = some (.slice A1_4 l1_4.length c1_4) := (blk_cell BK282.out 4).trans rfl; have hfz15_0 := blk_frozen BK282.out 0; have hfz15_1 := blk_frozen BK282.out 1; have hfz15_2 := blk_frozen BK282.out 2; have hfz15_3 := blk_frozen BK282.out 3; have hfz15_4 := blk_frozen BK282.out 4) | (go_at_call 45; (with_reducible refine (hypercuberef1_Ints.calls k _ _ l0_0 _ _ l1_0 true _ ?side1 ?side2 ?side3 ?side4 A4.out).mono ?_); (case side1 => exact Kd.Cw HR0_0.out HB.out); (case side2 => exact HC0_0.out); (case side3 => exact Kd.Cw HR1_0.out HB.out); (case side4 => exact HC1_0.out); rintro e w' ⟨rfl, ⟨nd, rfl⟩⟩) | (go_at_call 45; (with_reducible refine (hypercuberef1_Ints.calls k _ _ l0_2 _ _ l1_2 true _ ?side1 ?side2 ?side3 ?side4 A6.out).mono ?_); (case side1 => repeat (first | exact (Kd.C_below HR0_2.out (wmv HB.out)) | (with_reducible refine Kd.C_alloc ?_ _) | (with_reducible refine Kd.C_drewN ?_ _) | (with_reducible refine Kd.C_drew ?_))); (case side2 => exact HC0_2.out); (case side3 => repeat (first | exact (Kd.C_below HR1_2.out (wmv HB.out)) | (with_reducible refine Kd.C_alloc ?_ _) | (with_reducible refine Kd.C_drewN ?_ _) | (with_reducible refine Kd.C_drew ?_))); (case side4 => exact HC1_2.out); rintro e w' ⟨rfl, ⟨nd, rfl⟩⟩) | (go_at_call 45; (with_reducible refine (hypercuberef1_Ints.calls k _ _ l0_3 _ _ l1_3 true _ ?side1 ?side2 ?side3 ?side4 A8.out).mono ?_); (case side1 => repeat (first | exact (Kd.C_below HR0_3.out (wmv HB.out)) | (with_reducible refine Kd.C_alloc ?_ _) | (with_reducible refine Kd.C_drewN ?_ _) | (with_reducible refine Kd.C_drew ?_))); (case side2 => exact HC0_3.out); (case side3 => repeat (first | exact (Kd.C_below HR1_3.out (wmv HB.out)) | (with_reducible refine Kd.C_alloc ?_ _) | (with_reducible refine Kd.C_drewN ?_ _) | (with_reducible refine Kd.C_drew ?_))); (case side4 => exact HC1_3.out); rintro e w' ⟨rfl, ⟨nd, rfl⟩⟩) | (go_at_call 45; (with_reducible refine (hypercuberef1_Ints.calls k _ _ l0_4 _ _ l1_4 t286 _ ?side1 ?side2 ?side3 ?side4 A10.out).mono ?_); (case side1 => repeat (first | exact (Kd.C_below HR0_4.out (wmv HB.out)) | (with_reducible refine Kd.C_alloc ?_ _) | (with_reducible refine Kd.C_drewN ?_ _) | (with_reducible refine Kd.C_drew ?_))); (case side2 => exact HC0_4.out); (case side3 => repeat (first | exact (Kd.C_below HR1_4.out (wmv HB.out)) | (with_reducible refine Kd.C_alloc ?_ _) | (with_reducible refine Kd.C_drewN ?_ _) | (with_reducible refine Kd.C_drew ?_))); (case side4 => exact HC1_4.out); rintro e w' ⟨rfl, ⟨nd, rfl⟩⟩))
     go_ret
     exact ⟨by first | rfl | (simp [errW_none, errW_some] <;> rfl) | (simp [*, errW_none, errW_some] <;> rfl), by repeat (first | (with_reducible first | exact HB.out | apply below_alloc | apply pw_below_drewN | apply below_drew1 | refine below_set ?_ GE281.out | refine below_set ?_ GE282.out) | exact HB.out)⟩
    ·replace c9 := Bool.eq_false_iff.mpr c9
     subst c9
     have H1 : (some false) = some r := by rw [if_neg (show ¬ (false = true) by decide)] at H; exact H
     clear H
     have H := H1
     clear H1
     obtain rfl := Option.some.inj H
     go_enter Try.func36, Try.ntmps36
     go_wp2_with (first | ((with_reducible refine gate_dst (N := 2) rfl ?_); refine box_event ?hg (N := 2) ?hd (cs := #[.slice A0_0 l0_0.length c0_0, .int .i64 a0_1, .slice A0_2 l0_2.length c0_2, .slice A0_3 l0_3.length c0_3, .slice A0_4 l0_4.length c0_4]) (t := 41) ?hr ?_; (case hd => rfl); (case hg => rfl); (case hr => first | (go_simp; done) | (go_simp; rfl)); intro gb281 hg w16 hbox hb; have n0_ := am (below_step (wmv HB.out) hb); have n1_ := am (hbox); have n2_ := am ((by rw [hg]; exact (below_size (wmv HB.out)) : w.heap.size ≤ gb281)); have n3_ := am ((by rw [hg]; exact (below_size (wmv HB.out)) : w.heap.size ≤ gb281)); clear HB; revert n0_ n1_ n2_ n3_; intro HB BK281 GW281 GE281; clear hb hbox hg) | ((with_reducible refine gate_dst (N := 3) rfl ?_); refine box_event ?hg (N := 3) ?hd (cs := #[.slice A1_0 l1_0.length c1_0, .int .i64 a1_1, .slice A1_2 l1_2.length c1_2, .slice A1_3 l1_3.length c1_3, .slice A1_4 l1_4.length c1_4]) (t := 41) ?hr ?_; (case hd => rfl); (case hg => rfl); (case hr => first | (go_simp; done) | (go_simp; rfl)); intro gb282 hg w17 hbox hb; have n0_ := am (blk_below (bmv BK281.out) hb); have n1_ := am (below_step (wmv HB.out) hb); have n2_ := am (hbox); have n3_ := am ((by rw [hg]; exact (below_size (wmv HB.out)) : w.heap.size ≤ gb282)); have n4_ := am ((by rw [hg]; exact (below_size (wmv HB.out)) : w.heap.size ≤ gb282)); have n5_ := am ((by rw [hg]; exact Nat.ne_of_lt (blk_lt (bmv BK281.out)) : gb281 ≠ gb282)); have n6_ := am ((by rw [hg]; exact Nat.ne_of_gt (blk_lt (bmv BK281.out)) : gb282 ≠ gb281)); clear BK281 HB; revert n0_ n1_ n2_ n3_ n4_ n5_ n6_; intro BK281 HB BK282 GW282 GE282 NB281_282 NB282_281; clear hb hbox hg; have hnb18 := NB281_282.out; have hnc18 := NB282_281.out; have hcz19_0 : w17.cell? ⟨gb281, 0, none⟩ = some (.slice A0_0 l0_0.length c0_0) := (blk_cell BK281.out 0).trans rfl; have hcz19_1 : w17.cell? ⟨gb281, 1, none⟩ = some (.int .i64 a0_1) := (blk_cell BK281.out 1).trans rfl; have hcz19_2 : w17.cell? ⟨gb281, 2, none⟩ = some (.slice A0_2 l0_2.length c0_2) := (blk_cell BK281.out 2).trans rfl; have hcz19_3 : w17.cell? ⟨gb281, 3, none⟩ = some (.slice A0_3 l0_3.length c0_3) := (blk_cell BK281.out 3).trans rfl; have hcz19_4 : w17.cell? ⟨gb281, 4, none⟩ = some (.slice A0_4 l0_4.length c0_4) := (blk_cell BK281.out 4).trans rfl; have hfz19_0 := blk_frozen BK281.out 0; have hfz19_1 := blk_frozen BK281.out 1; have hfz19_2 := blk_frozen BK281.out 2; have hfz19_3 := blk_frozen BK281.out 3; have hfz19_4 := blk_frozen BK281.out 4; have hcz20_0 : w17.cell? ⟨gb282, 0, none⟩ = some (.slice A1_0 l1_0.length c1_0) := (blk_cell BK282.out 0).trans rfl; have hcz20_1 : w17.cell? ⟨gb282, 1, none⟩ = some (.int .i64 a1_1) := (blk_cell BK282.out 1).trans rfl; have hcz20_2 : w17.cell? ⟨gb282, 2, none⟩ = some (.slice A1_2 l1_2.length c1_2) := (blk_cell BK282.out 2).trans rfl; have hcz20_3 : w17.cell? ⟨gb282, 3, none⟩ = some (.slice A1_3 l1_3.length c1_3) := (blk_cell BK282.out 3).trans rfl; have hcz20_4 : w17.cell? ⟨gb282, 4, none⟩ = some (.slice A1_4 l1_4.length c1_4) := (blk_cell BK282.out 4).trans rfl; have hfz20_0 := blk_frozen BK282.out 0; have hfz20_1 := blk_frozen BK282.out 1; have hfz20_2 := blk_frozen BK282.out 2; have hfz20_3 := blk_frozen BK282.out 3; have hfz20_4 := blk_frozen BK282.out 4) | (go_at_call 45; (with_reducible refine (hypercuberef1_Ints.calls k _ _ l0_0 _ _ l1_0 true _ ?side1 ?side2 ?side3 ?side4 A4.out).mono ?_); (case side1 => exact Kd.Cw HR0_0.out HB.out); (case side2 => exact HC0_0.out); (case side3 => exact Kd.Cw HR1_0.out HB.out); (case side4 => exact HC1_0.out); rintro e w' ⟨rfl, ⟨nd, rfl⟩⟩) | (go_at_call 45; (with_reducible refine (hypercuberef1_Ints.calls k _ _ l0_2 _ _ l1_2 true _ ?side1 ?side2 ?side3 ?side4 A6.out).mono ?_); (case side1 => repeat (first | exact (Kd.C_below HR0_2.out (wmv HB.out)) | (with_reducible refine Kd.C_alloc ?_ _) | (with_reducible refine Kd.C_drewN ?_ _) | (with_reducible refine Kd.C_drew ?_))); (case side2 => exact HC0_2.out); (case side3 => repeat (first | exact (Kd.C_below HR1_2.out (wmv HB.out)) | (with_reducible refine Kd.C_alloc ?_ _) | (with_reducible refine Kd.C_drewN ?_ _) | (with_reducible refine Kd.C_drew ?_))); (case side4 => exact HC1_2.out); rintro e w' ⟨rfl, ⟨nd, rfl⟩⟩) | (go_at_call 45; (with_reducible refine (hypercuberef1_Ints.calls k _ _ l0_3 _ _ l1_3 false _ ?side1 ?side2 ?side3 ?side4 A8.out).mono ?_); (case side1 => repeat (first | exact (Kd.C_below HR0_3.out (wmv HB.out)) | (with_reducible refine Kd.C_alloc ?_ _) | (with_reducible refine Kd.C_drewN ?_ _) | (with_reducible refine Kd.C_drew ?_))); (case side2 => exact HC0_3.out); (case side3 => repeat (first | exact (Kd.C_below HR1_3.out (wmv HB.out)) | (with_reducible refine Kd.C_alloc ?_ _) | (with_reducible refine Kd.C_drewN ?_ _) | (with_reducible refine Kd.C_drew ?_))); (case side4 => exact HC1_3.out); rintro e w' ⟨rfl, ⟨nd, rfl⟩⟩))
     go_ret
     exact ⟨by first | rfl | (simp [errW_none, errW_some] <;> rfl) | (simp [*, errW_none, errW_some] <;> rfl), by repeat (first | (with_reducible first | exact HB.out | apply below_alloc | apply pw_below_drewN | apply below_drew1 | refine below_set ?_ GE281.out | refine below_set ?_ GE282.out) | exact HB.out)⟩
   ·replace c7 := Bool.eq_false_iff.mpr c7
    subst c7
    have H1 : (some false) = some r := by rw [if_neg (show ¬ (false = true) by decide)] at H; exact H
    clear H
    have H := H1
    clear H1
    obtain rfl := Option.some.inj H
    go_enter Try.func36, Try.ntmps36
    go_wp2_with (first | ((with_reducible refine gate_dst (N := 2) rfl ?_); refine box_event ?hg (N := 2) ?hd (cs := #[.slice A0_0 l0_0.length c0_0, .int .i64 a0_1, .slice A0_2 l0_2.length c0_2, .slice A0_3 l0_3.length c0_3, .slice A0_4 l0_4.length c0_4]) (t := 41) ?hr ?_; (case hd => rfl); (case hg => rfl); (case hr => first | (go_simp; done) | (go_simp; rfl)); intro gb281 hg w21 hbox hb; have n0_ := am (below_step (wmv HB.out) hb); have n1_ := am (hbox); have n2_ := am ((by rw [hg]; exact (below_size (wmv HB.out)) : w.heap.size ≤ gb281)); have n3_ := am ((by rw [hg]; exact (below_size (wmv HB.out)) : w.heap.size ≤ gb281)); clear HB; revert n0_ n1_ n2_ n3_; intro HB BK281 GW281 GE281; clear hb hbox hg) | ((with_reducible refine gate_dst (N := 3) rfl ?_); refine box_event ?hg (N := 3) ?hd (cs := #[.slice A1_0 l1_0.length c1_0, .int .i64 a1_1, .slice A1_2 l1_2.length c1_2, .slice A1_3 l1_3.length c1_3, .slice A1_4 l1_4.length c1_4]) (t := 41) ?hr ?_; (case hd => rfl); (case hg => rfl); (case hr => first | (go_simp; done) | (go_simp; rfl)); intro gb282 hg w22 hbox hb; have n0_ := am (blk_below (bmv BK281.out) hb); have n1_ := am (below_step (wmv HB.out) hb); have n2_ := am (hbox); have n3_ := am ((by rw [hg]; exact (below_size (wmv HB.out)) : w.heap.size ≤ gb282)); have n4_ := am ((by rw [hg]; exact (below_size (wmv HB.out)) : w.heap.size ≤ gb282)); have n5_ := am ((by rw [hg]; exact Nat.ne_of_lt (blk_lt (bmv BK281.out)) : gb281 ≠ gb282)); have n6_ := am ((by rw [hg]; exact Nat.ne_of_gt (blk_lt (bmv BK281.out)) : gb282 ≠ gb281)); clear BK281 HB; revert n0_ n1_ n2_ n3_ n4_ n5_ n6_; intro BK281 HB BK282 GW282 GE282 NB281_282 NB282_281; clear hb hbox hg; have hnb23 := NB281_282.out; have hnc23 := NB282_281.out; have hcz24_0 : w22.cell? ⟨gb281, 0, none⟩ = some (.slice A0_0 l0_0.length c0_0) := (blk_cell BK281.out 0).trans rfl; have hcz24_1 : w22.cell? ⟨gb281, 1, none⟩ = some (.int .i64 a0_1) := (blk_cell BK281.out 1).trans rfl; have hcz24_2 : w22.cell? ⟨gb281, 2, none⟩ = some (.slice A0_2 l0_2.length c0_2) := (blk_cell BK281.out 2).trans rfl; have hcz24_3 : w22.cell? ⟨gb281, 3, none⟩ = some (.slice A0_3 l0_3.length c0_3) := (blk_cell BK281.out 3).trans rfl; have hcz24_4 : w22.cell? ⟨gb281, 4, none⟩ = some (.slice A0_4 l0_4.length c0_4) := (blk_cell BK281.out 4).trans rfl; have hfz24_0 := blk_frozen BK281.out 0; have hfz24_1 := blk_frozen BK281.out 1; have hfz24_2 := blk_frozen BK281.out 2; have hfz24_3 := blk_frozen BK281.out 3; have hfz24_4 := blk_frozen BK281.out 4; have hcz25_0 : w22.cell? ⟨gb282, 0, none⟩ = some (.slice A1_0 l1_0.length c1_0) := (blk_cell BK282.out 0).trans rfl; have hcz25_1 : w22.cell? ⟨gb282, 1, none⟩ = some (.int .i64 a1_1) := (blk_cell BK282.out 1).trans rfl; have hcz25_2 : w22.cell? ⟨gb282, 2, none⟩ = some (.slice A1_2 l1_2.length c1_2) := (blk_cell BK282.out 2).trans rfl; have hcz25_3 : w22.cell? ⟨gb282, 3, none⟩ = some (.slice A1_3 l1_3.length c1_3) := (blk_cell BK282.out 3).trans rfl; have hcz25_4 : w22.cell? ⟨gb282, 4, none⟩ = some (.slice A1_4 l1_4.length c1_4) := (blk_cell BK282.out 4).trans rfl; have hfz25_0 := blk_frozen BK282.out 0; have hfz25_1 := blk_frozen BK282.out 1; have hfz25_2 := blk_frozen BK282.out 2; have hfz25_3 := blk_frozen BK282.out 3; have hfz25_4 := blk_frozen BK282.out 4) | (go_at_call 45; (with_reducible refine (hypercuberef1_Ints.calls k _ _ l0_0 _ _ l1_0 true _ ?side1 ?side2 ?side3 ?side4 A4.out).mono ?_); (case side1 => exact Kd.Cw HR0_0.out HB.out); (case side2 => exact HC0_0.out); (case side3 => exact Kd.Cw HR1_0.out HB.out); (case side4 => exact HC1_0.out); rintro e w' ⟨rfl, ⟨nd, rfl⟩⟩) | (go_at_call 45; (with_reducible refine (hypercuberef1_Ints.calls k _ _ l0_2 _ _ l1_2 false _ ?side1 ?side2 ?side3 ?side4 A6.out).mono ?_); (case side1 => repeat (first | exact (Kd.C_below HR0_2.out (wmv HB.out)) | (with_reducible refine Kd.C_alloc ?_ _) | (with_reducible refine Kd.C_drewN ?_ _) | (with_reducible refine Kd.C_drew ?_))); (case side2 => exact HC0_2.out); (case side3 => repeat (first | exact (Kd.C_below HR1_2.out (wmv HB.out)) | (with_reducible refine Kd.C_alloc ?_ _) | (with_reducible refine Kd.C_drewN ?_ _) | (with_reducible refine Kd.C_drew ?_))); (case side4 => exact HC1_2.out); rintro e w' ⟨rfl, ⟨nd, rfl⟩⟩))
    go_ret
    exact ⟨by first | rfl | (simp [errW_none, errW_some] <;> rfl) | (simp [*, errW_none, errW_some] <;> rfl), by repeat (first | (with_reducible first | exact HB.out | apply below_alloc | apply pw_below_drewN | apply below_drew1 | refine below_set ?_ GE281.out | refine below_set ?_ GE282.out) | exact HB.out)⟩
  ·replace c5 := Bool.eq_false_iff.mpr c5
   subst c5
   have H1 : (some false) = some r := by rw [if_neg (show ¬ (false = true) by decide)] at H; exact H
   clear H
   have H := H1
   clear H1
   obtain rfl := Option.some.inj H
   go_enter Try.func36, Try.ntmps36
   go_wp2_with (first | ((with_reducible refine gate_dst (N := 2) rfl ?_); refine box_event ?hg (N := 2) ?hd (cs := #[.slice A0_0 l0_0.length c0_0, .int .i64 a0_1, .slice A0_2 l0_2.length c0_2, .slice A0_3 l0_3.length c0_3, .slice A0_4 l0_4.length c0_4]) (t := 41) ?hr ?_; (case hd => rfl); (case hg => rfl); (case hr => first | (go_simp; done) | (go_simp; rfl)); intro gb281 hg w26 hbox hb; have n0_ := am (below_step (wmv HB.out) hb); have n1_ := am (hbox); have n2_ := am ((by rw [hg]; exact (below_size (wmv HB.out)) : w.heap.size ≤ gb281)); have n3_ := am ((by rw [hg]; exact (below_size (wmv HB.out)) : w.heap.size ≤ gb281)); clear HB; revert n0_ n1_ n2_ n3_; intro HB BK281 GW281 GE281; clear hb hbox hg) | ((with_reducible refine gate_dst (N := 3) rfl ?_); refine box_event ?hg (N := 3) ?hd (cs := #[.slice A1_0 l1_0.length c1_0, .int .i64 a1_1, .slice A1_2 l1_2.length c1_2, .slice A1_3 l1_3.length c1_3, .slice A1_4 l1_4.length c1_4]) (t := 41) ?hr ?_; (case hd => rfl); (case hg => rfl); (case hr => first | (go_simp; done) | (go_simp; rfl)); intro gb282 hg w27 hbox hb; have n0_ := am (blk_below (bmv BK281.out) hb); have n1_ := am (below_step (wmv HB.out) hb); have n2_ := am (hbox); have n3_ := am ((by rw [hg]; exact (below_size (wmv HB.out)) : w.heap.size ≤ gb282)); have n4_ := am ((by rw [hg]; exact (below_size (wmv HB.out)) : w.heap.size ≤ gb282)); have n5_ := am ((by rw [hg]; exact Nat.ne_of_lt (blk_lt (bmv BK281.out)) : gb281 ≠ gb282)); have n6_ := am ((by rw [hg]; exact Nat.ne_of_gt (blk_lt (bmv BK281.out)) : gb282 ≠ gb281)); clear BK281 HB; revert n0_ n1_ n2_ n3_ n4_ n5_ n6_; intro BK281 HB BK282 GW282 GE282 NB281_282 NB282_281; clear hb hbox hg; have hnb28 := NB281_282.out; have hnc28 := NB282_281.out; have hcz29_0 : w27.cell? ⟨gb281, 0, none⟩ = some (.slice A0_0 l0_0.length c0_0) := (blk_cell BK281.out 0).trans rfl; have hcz29_1 : w27.cell? ⟨gb281, 1, none⟩ = some (.int .i64 a0_1) := (blk_cell BK281.out 1).trans rfl; have hcz29_2 : w27.cell? ⟨gb281, 2, none⟩ = some (.slice A0_2 l0_2.length c0_2) := (blk_cell BK281.out 2).trans rfl; have hcz29_3 : w27.cell? ⟨gb281, 3, none⟩ = some (.slice A0_3 l0_3.length c0_3) := (blk_cell BK281.out 3).trans rfl; have hcz29_4 : w27.cell? ⟨gb281, 4, none⟩ = some (.slice A0_4 l0_4.length c0_4) := (blk_cell BK281.out 4).trans rfl; have hfz29_0 := blk_frozen BK281.out 0; have hfz29_1 := blk_frozen BK281.out 1; have hfz29_2 := blk_frozen BK281.out 2; have hfz29_3 := blk_frozen BK281.out 3; have hfz29_4 := blk_frozen BK281.out 4; have hcz30_0 : w27.cell? ⟨gb282, 0, none⟩ = some (.slice A1_0 l1_0.length c1_0) := (blk_cell BK282.out 0).trans rfl; have hcz30_1 : w27.cell? ⟨gb282, 1, none⟩ = some (.int .i64 a1_1) := (blk_cell BK282.out 1).trans rfl; have hcz30_2 : w27.cell? ⟨gb282, 2, none⟩ = some (.slice A1_2 l1_2.length c1_2) := (blk_cell BK282.out 2).trans rfl; have hcz30_3 : w27.cell? ⟨gb282, 3, none⟩ = some (.slice A1_3 l1_3.length c1_3) := (blk_cell BK282.out 3).trans rfl; have hcz30_4 : w27.cell? ⟨gb282, 4, none⟩ = some (.slice A1_4 l1_4.length c1_4) := (blk_cell BK282.out 4).trans rfl; have hfz30_0 := blk_frozen BK282.out 0; have hfz30_1 := blk_frozen BK282.out 1; have hfz30_2 := blk_frozen BK282.out 2; have hfz30_3 := blk_frozen BK282.out 3; have hfz30_4 := blk_frozen BK282.out 4) | (go_at_call 45; (with_reducible refine (hypercuberef1_Ints.calls k _ _ l0_0 _ _ l1_0 false _ ?side1 ?side2 ?side3 ?side4 A4.out).mono ?_); (case side1 => exact Kd.Cw HR0_0.out HB.out); (case side2 => exact HC0_0.out); (case side3 => exact Kd.Cw HR1_0.out HB.out); (case side4 => exact HC1_0.out); rintro e w' ⟨rfl, ⟨nd, rfl⟩⟩))
   go_ret
   exact ⟨by first | rfl | (simp [errW_none, errW_some] <;> rfl) | (simp [*, errW_none, errW_some] <;> rfl), by repeat (first | (with_reducible first | exact HB.out | apply below_alloc | apply pw_below_drewN | apply below_drew1 | refine below_set ?_ GE281.out | refine below_set ?_ GE282.out) | exact HB.out)⟩
 ·rw [if_neg c3] at H
  have c3b0 : (a0_1 == a1_1) = false := beq_eq_false_iff_ne.mpr c3
  have c3b1 : (a0_1 != a1_1) = true := bne_iff_ne.mpr c3
  obtain rfl := Option.some.inj H
  go_enter Try.func36, Try.ntmps36
  go_wp2_with (first | ((with_reducible refine gate_dst (N := 2) rfl ?_); refine box_event ?hg (N := 2) ?hd (cs := #[.slice A0_0 l0_0.length c0_0, .int .i64 a0_1, .slice A0_2 l0_2.length c0_2, .slice A0_3 l0_3.length c0_3, .slice A0_4 l0_4.length c0_4]) (t := 41) ?hr ?_; (case hd => rfl); (case hg => rfl); (case hr => first | (go_simp; done) | (go_simp; rfl)); intro gb281 hg w31 hbox hb; have n0_ := am (below_step (wmv HB.out) hb); have n1_ := am (hbox); have n2_ := am ((by rw [hg]; exact (below_size (wmv HB.out)) : w.heap.size ≤ gb281)); have n3_ := am ((by rw [hg]; exact (below_size (wmv HB.out)) : w.heap.size ≤ gb281)); clear HB; revert n0_ n1_ n2_ n3_; intro HB BK281 GW281 GE281; clear hb hbox hg) | ((with_reducible refine gate_dst (N := 3) rfl ?_); refine box_event ?hg (N := 3) ?hd (cs := #[.slice A1_0 l1_0.length c1_0, .int .i64 a1_1, .slice A1_2 l1_2.length c1_2, .slice A1_3 l1_3.length c1_3, .slice A1_4 l1_4.length c1_4]) (t := 41) ?hr ?_; (case hd => rfl); (case hg => rfl); (case hr => first | (go_simp; done) | (go_simp; rfl)); intro gb282 hg w32 hbox hb; have n0_ := am (blk_below (bmv BK281.out) hb); have n1_ := am (below_step (wmv HB.out) hb); have n2_ := am (hbox); have n3_ := am ((by rw [hg]; exact (below_size (wmv HB.out)) : w.heap.size ≤ gb282)); have n4_ := am ((by rw [hg]; exact (below_size (wmv HB.out)) : w.heap.size ≤ gb282)); have n5_ := am ((by rw [hg]; exact Nat.ne_of_lt (blk_lt (bmv BK281.out)) : gb281 ≠ gb282)); have n6_ := am ((by rw [hg]; exact Nat.ne_of_gt (blk_lt (bmv BK281.out)) : gb282 ≠ gb281)); clear BK281 HB; revert n0_ n1_ n2_ n3_ n4_ n5_ n6_; intro BK281 HB BK282 GW282 GE282 NB281_282 NB282_281; clear hb hbox hg; have hnb33 := NB281_282.out; have hnc33 := NB282_281.out; have hcz34_0 : w32.cell? ⟨gb281, 0, none⟩ = some (.slice A0_0 l0_0.length c0_0) := (blk_cell BK281.out 0).trans rfl; have hcz34_1 : w32.cell? ⟨gb281, 1, none⟩ = some (.int .i64 a0_1) := (blk_cell BK281.out 1).trans rfl; have hcz34_2 : w32.cell? ⟨gb281, 2, none⟩ = some (.slice A0_2 l0_2.length c0_2) := (blk_cell BK281.out 2).trans rfl; have hcz34_3 : w32.cell? ⟨gb281, 3, none⟩ = some (.slice A0_3 l0_3.length c0_3) := (blk_cell BK281.out 3).trans rfl; have hcz34_4 : w32.cell? ⟨gb281, 4, none⟩ = some (.slice A0_4 l0_4.length c0_4) := (blk_cell BK281.out 4).trans rfl; have hfz34_0 := blk_frozen BK281.out 0; have hfz34_1 := blk_frozen BK281.out 1; have hfz34_2 := blk_frozen BK281.out 2; have hfz34_3 := blk_frozen BK281.out 3; have hfz34_4 := blk_frozen BK281.out 4; have hcz35_0 : w32.cell? ⟨gb282, 0, none⟩ = some (.slice A1_0 l1_0.length c1_0) := (blk_cell BK282.out 0).trans rfl; have hcz35_1 : w32.cell? ⟨gb282, 1, none⟩ = some (.int .i64 a1_1) := (blk_cell BK282.out 1).trans rfl; have hcz35_2 : w32.cell? ⟨gb282, 2, none⟩ = some (.slice A1_2 l1_2.length c1_2) := (blk_cell BK282.out 2).trans rfl; have hcz35_3 : w32.cell? ⟨gb282, 3, none⟩ = some (.slice A1_3 l1_3.length c1_3) := (blk_cell BK282.out 3).trans rfl; have hcz35_4 : w32.cell? ⟨gb282, 4, none⟩ = some (.slice A1_4 l1_4.length c1_4) := (blk_cell BK282.out 4).trans rfl; have hfz35_0 := blk_frozen BK282.out 0; have hfz35_1 := blk_frozen BK282.out 1; have hfz35_2 := blk_frozen BK282.out 2; have hfz35_3 := blk_frozen BK282.out 3; have hfz35_4 := blk_frozen BK282.out 4))
  go_ret
  exact ⟨by first | rfl | (simp [errW_none, errW_some] <;> rfl) | (simp [*, errW_none, errW_some] <;> rfl), by repeat (first | (with_reducible first | exact HB.out | apply below_alloc | apply pw_below_drewN | apply below_drew1 | refine below_set ?_ GE281.out | refine below_set ?_ GE282.out) | exact HB.out)⟩
def hypercuberef2_Same.l0 : Nat → List (S41) → List (S41) → Int → Option (Bool)
 | 0, _, _, _ => none
 | k + 1, x0, x1, x5 => if x5 < (x0.length : Int) then (if 0 ≤ x5 then (if x5 < (x1.length : Int) then ((hypercuberef2_Equal.f k ((rd_T41 x0 x5).f0) ((rd_T41 x0 x5).f1) ((rd_T41 x0 x5).f2) ((rd_T41 x0 x5).f3) ((rd_T41 x0 x5).f4) ((rd_T41 x1 x5).f0) ((rd_T41 x1 x5).f1) ((rd_T41 x1 x5).f2) ((rd_T41 x1 x5).f3) ((rd_T41 x1 x5).f4)).bind fun t289 => (if t289 = true then (hypercuberef2_Same.l0 k x0 x1 (wrap64 (x5 + 1))) else (some false))) else (none)) else (none)) else (some true)
def hypercuberef2_Same.f (k : Nat) (l0 : List (S41)) (l1 : List (S41)) : Option (Bool) := if (l0.length : Int) = (l1.length : Int) then (hypercuberef2_Same.l0 k l0 l1 0) else (some false)
def hypercuberef2_Same.T6 : Bool × List (List Nat × List Nat) := (true, [([], []), ([], []), ([0, 1], [0, 1]), ([2], [2]), ([], []), ([], []), ([4, 5], [4, 5]), ([6], [6]), ([3, 7], [3, 7]), ([8], [8])])
def hypercuberef2_Same.B6 : List Nat := [0, 0, 3, 7, 0, 0, 48, 112, 255, 511]
theorem hypercuberef2_Same.tab6 : rtab .any (opsOf Try.f22 6) = hypercuberef2_Same.T6 := by kernel_rfl
theorem hypercuberef2_Same.bits6 : waitsOk hypercuberef2_Same.T6.2 hypercuberef2_Same.B6 = true := by kernel_rfl
set_option maxHeartbeats 8000000 in
set_option maxRecDepth 100000 in
theorem hypercuberef2_Same.calls (k : Nat) (A0 : Option Addr) (c0 : Nat) (l0 : List (S41)) (A1 : Option Addr) (c1 : Nat) (l1 : List (S41)) (r : Bool) (w : World) (hr0 : Kd.C k41 w A0 l0.length l0) (hc0 : l0.length ≤ c0) (hr1 : Kd.C k41 w A1 l1.length l1) (hc1 : l1.length ≤ c1) (h : hypercuberef2_Same.f k l0 l1 = some r) :
  Calls Try.prog 22 #[.slice A0 l0.length c0, .slice A1 l1.length c1] w fun e w' => e = .returned (.bool r) ∧ Below w.heap.size w w' := by
 have hu41 := Try.underlying41
 have HR0 := am hr0
 have HC0 := am hc0
 clear hr0 hc0
 have HR1 := am hr1
 have HC1 := am hc1
 clear hr1 hc1
 have HB := am (Below.refl w.heap.size w)
 have H : (if (l0.length : Int) = (l1.length : Int) then (hypercuberef2_Same.l0 k l0 l1 0) else (some false)) = some r := h
 clear h
 by_cases c3 : (l0.length : Int) = (l1.length : Int)
 ·rw [if_pos c3] at H
  have c3b0 : ((l0.length : Int) == (l1.length : Int)) = true := beq_iff_eq.mpr c3
  have c3b1 : ((l0.length : Int) != (l1.length : Int)) = false := bne_eq_false_iff_eq.mpr c3
  have c3b2 : (l0.length == l1.length) = true := by first | simpa using c3 | (simp at c3 ⊢; omega)
  clear c3
  have H' := am H
  clear H
  go_enter Try.func22, Try.ntmps22
  go_wp2
  go_loopg [5] k (fun kq v5 w' => ∃ (x5_1 : Int), v5 = .int .i64 x5_1 ∧ Aside0 (hypercuberef2_Same.l0 kq l0 l1 x5_1 = some r) ∧ Aside0 (kq ≤ k) ∧ Aside0 (Below w.heap.size w w'))
  case atStart => exact ⟨(0), (by first | rfl | (simp; done) | (simp [*]; done)), H', ⟨Nat.le_refl _⟩, ⟨by repeat (first | (with_reducible first | exact HB.out | apply below_alloc | apply pw_below_drewN | apply below_drew1) | exact HB.out)⟩⟩
  case round =>
   clear H'
   try clear c1
   try clear c2
   try clear p2
   try clear c3
   try clear c3b0
   try clear c3b1
   try clear c3b2
   obtain ⟨x5_1, rfl, HA, HK1, HB⟩ := hrel
   cases gk with
   | zero => exact absurd HA.out (by simp [hypercuberef2_Same.l0])
   | succ k1 =>
    have H := HA.out
    clear HA
    simp only [hypercuberef2_Same.l0] at H
    by_cases c4 : x5_1 < (l0.length : Int)
    ·rw [if_pos c4] at H
     have c4b0 : decide (x5_1 < (l0.length : Int)) = true := decide_eq_true c4
     clear c4
     by_cases c5 : 0 ≤ x5_1
     ·rw [if_pos c5] at H
      have c5b0 : decide (0 ≤ x5_1) = true := decide_eq_true c5
      clear c5
      by_cases c6 : x5_1 < (l1.length : Int)
      ·rw [if_pos c6] at H
       have c6b0 : decide (x5_1 < (l1.length : Int)) = true := decide_eq_true c6
       clear c6
       replace H := Option.bind_eq_some_iff.mp H
       obtain ⟨t289, A70, H⟩ := H
       replace H : (if t289 = true then (hypercuberef2_Same.l0 k1 l0 l1 (wrap64 (x5_1 + 1))) else (some false)) = some r := H
       have A7 := am A70
       clear A70
       by_cases c8 : t289 = true
       ·subst c8
        have H1 : (hypercuberef2_Same.l0 k1 l0 l1 (wrap64 (x5_1 + 1))) = some r := by rw [if_pos rfl] at H; exact H
        clear H
        have H := H1
        clear H1
        have H' := am H
        clear H
        try go_wp2
        have n0_ := am (below_drew1 HB.out)
        clear HB
        revert n0_
        intro HB
        have p287 : 0 ≤ (x5_1 : Int) := of_decide_eq_true (by first | (with_reducible assumption) | assumption)
        have q287 : x5_1 < (l0.length : Int) := of_decide_eq_true (by first | (with_reducible assumption) | assumption)
        obtain ⟨ad287, A287_0, c287_0, A287_2, c287_2, A287_3, c287_3, A287_4, c287_4, e287, hx287_0, hx287_1, hx287_2, hx287_3, hx287_4, hl287_0, hi287_0, hl287_2, hi287_2, hl287_3, hi287_3, hl287_4, hi287_4⟩ := at_T41 HR0.out x5_1 p287 q287
        have hw287_4 := hx287_4
        have hw287_3 := hx287_3
        have hw287_2 := hx287_2
        have hw287_1 := hx287_1
        have hw287_0 := hx287_0
        cases e287
        replace hx287_0 := (HB.out.cell (World.block_lt_of_cell? w _ hx287_0)).trans hx287_0
        replace hx287_1 := (HB.out.cell (World.block_lt_of_cell? w _ hx287_1)).trans hx287_1
        replace hx287_2 := (HB.out.cell (World.block_lt_of_cell? w _ hx287_2)).trans hx287_2
        replace hx287_3 := (HB.out.cell (World.block_lt_of_cell? w _ hx287_3)).trans hx287_3
        replace hx287_4 := (HB.out.cell (World.block_lt_of_cell? w _ hx287_4)).trans hx287_4
        have HR287_0 := am hi287_0
        have HC287_0 := am hl287_0
        clear hi287_0 hl287_0
        have HR287_2 := am hi287_2
        have HC287_2 := am hl287_2
        clear hi287_2 hl287_2
        have HR287_3 := am hi287_3
        have HC287_3 := am hl287_3
        clear hi287_3 hl287_3
        have HR287_4 := am hi287_4
        have HC287_4 := am hl287_4
        clear hi287_4 hl287_4
        replace p287 := eq_true p287
        replace q287 := eq_true q287
        have p288 : 0 ≤ (x5_1 : Int) := of_decide_eq_true (by first | (with_reducible assumption) | assumption)
        have q288 : x5_1 < (l1.length : Int) := of_decide_eq_true (by first | (with_reducible assumption) | assumption)
        obtain ⟨ad288, A288_0, c288_0, A288_2, c288_2, A288_3, c288_3, A288_4, c288_4, e288, hx288_0, hx288_1, hx288_2, hx288_3, hx288_4, hl288_0, hi288_0, hl288_2, hi288_2, hl288_3, hi288_3, hl288_4, hi288_4⟩ := at_T41 HR1.out x5_1 p288 q288
        have hw288_4 := hx288_4
        have hw288_3 := hx288_3
        have hw288_2 := hx288_2
        have hw288_1 := hx288_1
        have hw288_0 := hx288_0
        cases e288
        replace hx288_0 := (HB.out.cell (World.block_lt_of_cell? w _ hx288_0)).trans hx288_0
        replace hx288_1 := (HB.out.cell (World.block_lt_of_cell? w _ hx288_1)).trans hx288_1
        replace hx288_2 := (HB.out.cell (World.block_lt_of_cell? w _ hx288_2)).trans hx288_2
        replace hx288_3 := (HB.out.cell (World.block_lt_of_cell? w _ hx288_3)).trans hx288_3
        replace hx288_4 := (HB.out.cell (World.block_lt_of_cell? w _ hx288_4)).trans hx288_4
        have HR288_0 := am hi288_0
        have HC288_0 := am hl288_0
        clear hi288_0 hl288_0
        have HR288_2 := am hi288_2
        have HC288_2 := am hl288_2
        clear hi288_2 hl288_2
        have HR288_3 := am hi288_3
        have HC288_3 := am hl288_3
        clear hi288_3 hl288_3
        have HR288_4 := am hi288_4
        have HC288_4 := am hl288_4
        clear hi288_4 hl288_4
        replace p288 := eq_true p288
        replace q288 := eq_true q288
        refine start_ (n := 10) (S := fun w' => w'.cell? (ad287.add ((x5_1).toNat * 5)) = some (.slice A287_0 ((rd_T41 l0 x5_1).f0).length c287_0) ∧ w'.cell? ⟨(ad287.add ((x5_1).toNat * 5)).block, (ad287.add ((x5_1).toNat * 5)).off + 1, none⟩ = some (.int .i64 ((rd_T41 l0 x5_1).f1)) ∧ w'.cell? ⟨(ad287.add ((x5_1).toNat * 5)).block, (ad287.add ((x5_1).toNat * 5)).off + 2, none⟩ = some (.slice A287_2 ((rd_T41 l0 x5_1).f2).length c287_2) ∧ w'.cell? ⟨(ad287.add ((x5_1).toNat * 5)).block, (ad287.add ((x5_1).toNat * 5)).off + 3, none⟩ = some (.slice A287_3 ((rd_T41 l0 x5_1).f3).length c287_3) ∧ w'.cell? ⟨(ad287.add ((x5_1).toNat * 5)).block, (ad287.add ((x5_1).toNat * 5)).off + 4, none⟩ = some (.slice A287_4 ((rd_T41 l0 x5_1).f4).length c287_4) ∧ w'.cell? (ad288.add ((x5_1).toNat * 5)) = some (.slice A288_0 ((rd_T41 l1 x5_1).f0).length c288_0) ∧ w'.cell? ⟨(ad288.add ((x5_1).toNat * 5)).block, (ad288.add ((x5_1).toNat * 5)).off + 1, none⟩ = some (.int .i64 ((rd_T41 l1 x5_1).f1)) ∧ w'.cell? ⟨(ad288.add ((x5_1).toNat * 5)).block, (ad288.add ((x5_1).toNat * 5)).off + 2, none⟩ = some (.slice A288_2 ((rd_T41 l1 x5_1).f2).length c288_2) ∧ w'.cell? ⟨(ad288.add ((x5_1).toNat * 5)).block, (ad288.add ((x5_1).toNat * 5)).off + 3, none⟩ = some (.slice A288_3 ((rd_T41 l1 x5_1).f3).length c288_3) ∧ w'.cell? ⟨(ad288.add ((x5_1).toNat * 5)).block, (ad288.add ((x5_1).toNat * 5)).off + 4, none⟩ = some (.slice A288_4 ((rd_T41 l1 x5_1).f4).length c288_4)) (ds := []) (bb 10 0) (by kernel_rfl) rfl rfl ⟨((HB.out.cell (World.block_lt_of_cell? w _ hw287_0)).trans hw287_0), ((HB.out.cell (World.block_lt_of_cell? w _ hw287_1)).trans hw287_1), ((HB.out.cell (World.block_lt_of_cell? w _ hw287_2)).trans hw287_2), ((HB.out.cell (World.block_lt_of_cell? w _ hw287_3)).trans hw287_3), ((HB.out.cell (World.block_lt_of_cell? w _ hw287_4)).trans hw287_4), ((HB.out.cell (World.block_lt_of_cell? w _ hw288_0)).trans hw288_0), ((HB.out.cell (World.block_lt_of_cell? w _ hw288_1)).trans hw288_1), ((HB.out.cell (World.block_lt_of_cell? w _ hw288_2)).trans hw288_2), ((HB.out.cell (World.block_lt_of_cell? w _ hw288_3)).trans hw288_3), ((HB.out.cell (World.block_lt_of_cell? w _ hw288_4)).trans hw288_4)⟩ (fun hHeld => ?_); refine with_tabW hypercuberef2_Same.tab6 hypercuberef2_Same.bits6 (fun HT_ HW_ => ?_)
        generalize wr.drew = w9 at HB HR287_0 HR287_2 HR287_3 HR287_4 HR288_0 HR288_2 HR288_3 HR288_4 hx287_0 hx287_1 hx287_2 hx287_3 hx287_4 hx288_0 hx288_1 hx288_2 hx288_3 hx288_4 hHeld ⊢
        refine pu (i := 0) (N := some 17) (bb 10 1) HT_ ?_
        refine pu (i := 1) (N := some 18) (bb 10 3) HT_ ?_
        refine pu (i := 2) (N := some 19) (bb 10 7) HT_ ?_
        refine pu (i := 4) (N := some 21) (bb 10 23) HT_ ?_
        refine pu (i := 5) (N := some 22) (bb 10 55) HT_ ?_
        refine pu (i := 6) (N := some 23) (bb 10 119) HT_ ?_
        refine tk (i := 3) (N := some 20) (bb 10 127) HT_ HW_ hHeld ?_
        refine tk (i := 7) (N := some 24) (bb 10 255) HT_ HW_ hHeld ?_
        refine one_ (i := 8) (N := some 25) (bb 10 511) rfl rfl (one_of HT_.out (by kernel_rfl)) (by decide) (fun K hK => ?_)
        refine goes_ Try.func36 (by kernel_rfl) rfl #[.agg #[.slice A287_0 ((rd_T41 l0 x5_1).f0).length c287_0, .int .i64 ((rd_T41 l0 x5_1).f1), .slice A287_2 ((rd_T41 l0 x5_1).f2).length c287_2, .slice A287_3 ((rd_T41 l0 x5_1).f3).length c287_3, .slice A287_4 ((rd_T41 l0 x5_1).f4).length c287_4], .agg #[.slice A288_0 ((rd_T41 l1 x5_1).f0).length c288_0, .int .i64 ((rd_T41 l1 x5_1).f1), .slice A288_2 ((rd_T41 l1 x5_1).f2).length c288_2, .slice A288_3 ((rd_T41 l1 x5_1).f3).length c288_3, .slice A288_4 ((rd_T41 l1 x5_1).f4).length c288_4]] (by rfl) rfl rfl (by (try simp only [List.map_toArray, List.map_cons, List.map_nil]); first | done | rfl | (simp only [List.length_drop, List.length_take]; rfl)) ?_
        with_reducible refine (hypercuberef2_Equal.calls k1 _ _ ((rd_T41 l0 x5_1).f0) ((rd_T41 l0 x5_1).f1) _ _ ((rd_T41 l0 x5_1).f2) _ _ ((rd_T41 l0 x5_1).f3) _ _ ((rd_T41 l0 x5_1).f4) _ _ ((rd_T41 l1 x5_1).f0) ((rd_T41 l1 x5_1).f1) _ _ ((rd_T41 l1 x5_1).f2) _ _ ((rd_T41 l1 x5_1).f3) _ _ ((rd_T41 l1 x5_1).f4) true _ ?side1 ?side2 ?side3 ?side4 ?side5 ?side6 ?side7 ?side8 ?side9 ?side10 ?side11 ?side12 ?side13 ?side14 ?side15 ?side16 A7.out).mono ?_
        (case side1 => exact Kd.Cw HR287_0.out HB.out)
        (case side2 => exact HC287_0.out)
        (case side3 => exact Kd.Cw HR287_2.out HB.out)
        (case side4 => exact HC287_2.out)
        (case side5 => exact Kd.Cw HR287_3.out HB.out)
        (case side6 => exact HC287_3.out)
        (case side7 => exact Kd.Cw HR287_4.out HB.out)
        (case side8 => exact HC287_4.out)
        (case side9 => exact Kd.Cw HR288_0.out HB.out)
        (case side10 => exact HC288_0.out)
        (case side11 => exact Kd.Cw HR288_2.out HB.out)
        (case side12 => exact HC288_2.out)
        (case side13 => exact Kd.Cw HR288_3.out HB.out)
        (case side14 => exact HC288_3.out)
        (case side15 => exact Kd.Cw HR288_4.out HB.out)
        (case side16 => exact HC288_4.out)
        rintro e w10 ⟨rfl, hb⟩
        refine ⟨_, rfl, ?_⟩
        have n0_ := am (below_step (wmv HB.out) hb)
        clear HB
        revert n0_
        intro HB
        (try clear hb)
        (try clear hb2)
        (try clear hk)
        (try clear hi)
        refine hK.out _ _ ⟨((HB.out.cell (World.block_lt_of_cell? w _ hw287_0)).trans hw287_0), ((HB.out.cell (World.block_lt_of_cell? w _ hw287_1)).trans hw287_1), ((HB.out.cell (World.block_lt_of_cell? w _ hw287_2)).trans hw287_2), ((HB.out.cell (World.block_lt_of_cell? w _ hw287_3)).trans hw287_3), ((HB.out.cell (World.block_lt_of_cell? w _ hw287_4)).trans hw287_4), ((HB.out.cell (World.block_lt_of_cell? w _ hw288_0)).trans hw288_0), ((HB.out.cell (World.block_lt_of_cell? w _ hw288_1)).trans hw288_1), ((HB.out.cell (World.block_lt_of_cell? w _ hw288_2)).trans hw288_2), ((HB.out.cell (World.block_lt_of_cell? w _ hw288_3)).trans hw288_3), ((HB.out.cell (World.block_lt_of_cell? w _ hw288_4)).trans hw288_4)⟩ (fun hHeld => ?_)
        clear hK K
        refine nm ?_
        refine pu (i := 9) (N := some 26) (bb 10 1023) HT_ ?_
        refine done_ (done_of HT_.out (by kernel_rfl)) ?_
        try go_wp2
        go_roundg k1
        case measure => have := HK1.out; omega
        case rel => exact ⟨(wrap64 (x5_1 + 1)), (by first | rfl | (simp; done) | (simp [*]; done)), H', ⟨by have := HK1.out; omega⟩, ⟨by repeat (first | (with_reducible first | exact HB.out | apply below_alloc | apply pw_below_drewN | apply below_drew1) | exact HB.out)⟩⟩
       ·replace c8 := Bool.eq_false_iff.mpr c8
        subst c8
        have H1 : (some false) = some r := by rw [if_neg (show ¬ (false = true) by decide)] at H; exact H
        clear H
        have H := H1
        clear H1
        obtain rfl := Option.some.inj H
        try go_wp2
        have n0_ := am (below_drew1 HB.out)
        clear HB
        revert n0_
        intro HB
        have p287 : 0 ≤ (x5_1 : Int) := of_decide_eq_true (by first | (with_reducible assumption) | assumption)
        have q287 : x5_1 < (l0.length : Int) := of_decide_eq_true (by first | (with_reducible assumption) | assumption)
        obtain ⟨ad287, A287_0, c287_0, A287_2, c287_2, A287_3, c287_3, A287_4, c287_4, e287, hx287_0, hx287_1, hx287_2, hx287_3, hx287_4, hl287_0, hi287_0, hl287_2, hi287_2, hl287_3, hi287_3, hl287_4, hi287_4⟩ := at_T41 HR0.out x5_1 p287 q287
        have hw287_4 := hx287_4
        have hw287_3 := hx287_3
        have hw287_2 := hx287_2
        have hw287_1 := hx287_1
        have hw287_0 := hx287_0
        cases e287
        replace hx287_0 := (HB.out.cell (World.block_lt_of_cell? w _ hx287_0)).trans hx287_0
        replace hx287_1 := (HB.out.cell (World.block_lt_of_cell? w _ hx287_1)).trans hx287_1
        replace hx287_2 := (HB.out.cell (World.block_lt_of_cell? w _ hx287_2)).trans hx287_2
        replace hx287_3 := (HB.out.cell (World.block_lt_of_cell? w _ hx287_3)).trans hx287_3
        replace hx287_4 := (HB.out.cell (World.block_lt_of_cell? w _ hx287_4)).trans hx287_4
        have HR287_0 := am hi287_0
        have HC287_0 := am hl287_0
        clear hi287_0 hl287_0
        have HR287_2 := am hi287_2
        have HC287_2 := am hl287_2
        clear hi287_2 hl287_2
        have HR287_3 := am hi287_3
        have HC287_3 := am hl287_3
        clear hi287_3 hl287_3
        have HR287_4 := am hi287_4
        have HC287_4 := am hl287_4
        clear hi287_4 hl287_4
        replace p287 := eq_true p287
        replace q287 := eq_true q287
        have p288 : 0 ≤ (x5_1 : Int) := of_decide_eq_true (by first | (with_reducible assumption) | assumption)
        have q288 : x5_1 < (l1.length : Int) := of_decide_eq_true (by first | (with_reducible assumption) | assumption)
        obtain ⟨ad288, A288_0, c288_0, A288_2, c288_2, A288_3, c288_3, A288_4, c288_4, e288, hx288_0, hx288_1, hx288_2, hx288_3, hx288_4, hl288_0, hi288_0, hl288_2, hi288_2, hl288_3, hi288_3, hl288_4, hi288_4⟩ := at_T41 HR1.out x5_1 p288 q288
        have hw288_4 := hx288_4
        have hw288_3 := hx288_3
        have hw288_2 := hx288_2
        have hw288_1 := hx288_1
        have hw288_0 := hx288_0
        cases e288
        replace hx288_0 := (HB.out.cell (World.block_lt_of_cell? w _ hx288_0)).trans hx288_0
        replace hx288_1 := (HB.out.cell (World.block_lt_of_cell? w _ hx288_1)).trans hx288_1
        replace hx288_2 := (HB.out.cell (World.block_lt_of_cell? w _ hx288_2)).trans hx288_2
        replace hx288_3 := (HB.out.cell (World.block_lt_of_cell? w _ hx288_3)).trans hx288_3
        replace hx288_4 := (HB.out.cell (World.block_lt_of_cell? w _ hx288_4)).trans hx288_4
        have HR288_0 := am hi288_0
        have HC288_0 := am hl288_0
        clear hi288_0 hl288_0
        have HR288_2 := am hi288_2
        have HC288_2 := am hl288_2
        clear hi288_2 hl288_2
        have HR288_3 := am hi288_3
        have HC288_3 := am hl288_3
        clear hi288_3 hl288_3
        have HR288_4 := am hi288_4
        have HC288_4 := am hl288_4
        clear hi288_4 hl288_4
        replace p288 := eq_true p288
        replace q288 := eq_true q288
        refine start_ (n := 10) (S := fun w' => w'.cell? (ad287.add ((x5_1).toNat * 5)) = some (.slice A287_0 ((rd_T41 l0 x5_1).f0).length c287_0) ∧ w'.cell? ⟨(ad287.add ((x5_1).toNat * 5)).block, (ad287.add ((x5_1).toNat * 5)).off + 1, none⟩ = some (.int .i64 ((rd_T41 l0 x5_1).f1)) ∧ w'.cell? ⟨(ad287.add ((x5_1).toNat * 5)).block, (ad287.add ((x5_1).toNat * 5)).off + 2, none⟩ = some (.slice A287_2 ((rd_T41 l0 x5_1).f2).length c287_2) ∧ w'.cell? ⟨(ad287.add ((x5_1).toNat * 5)).block, (ad287.add ((x5_1).toNat * 5)).off + 3, none⟩ = some (.slice A287_3 ((rd_T41 l0 x5_1).f3).length c287_3) ∧ w'.cell? ⟨(ad287.add ((x5_1).toNat * 5)).block, (ad287.add ((x5_1).toNat * 5)).off + 4, none⟩ = some (.slice A287_4 ((rd_T41 l0 x5_1).f4).length c287_4) ∧ w'.cell? (ad288.add ((x5_1).toNat * 5)) = some (.slice A288_0 ((rd_T41 l1 x5_1).f0).length c288_0) ∧ w'.cell? ⟨(ad288.add ((x5_1).toNat * 5)).block, (ad288.add ((x5_1).toNat * 5)).off + 1, none⟩ = some (.int .i64 ((rd_T41 l1 x5_1).f1)) ∧ w'.cell? ⟨(ad288.add ((x5_1).toNat * 5)).block, (ad288.add ((x5_1).toNat * 5)).off + 2, none⟩ = some (.slice A288_2 ((rd_T41 l1 x5_1).f2).length c288_2) ∧ w'.cell? ⟨(ad288.add ((x5_1).toNat * 5)).block, (ad288.add ((x5_1).toNat * 5)).off + 3, none⟩ = some (.slice A288_3 ((rd_T41 l1 x5_1).f3).length c288_3) ∧ w'.cell? ⟨(ad288.add ((x5_1).toNat * 5)).block, (ad288.add ((x5_1).toNat * 5)).off + 4, none⟩ = some (.slice A288_4 ((rd_T41 l1 x5_1).f4).length c288_4)) (ds := []) (bb 10 0) (by kernel_rfl) rfl rfl ⟨((HB.out.cell (World.block_lt_of_cell? w _ hw287_0)).trans hw287_0), ((HB.out.cell (World.block_lt_of_cell? w _ hw287_1)).trans hw287_1), ((HB.out.cell (World.block_lt_of_cell? w _ hw287_2)).trans hw287_2), ((HB.out.cell (World.block_lt_of_cell? w _ hw287_3)).trans hw287_3), ((HB.out.cell (World.block_lt_of_cell? w _ hw287_4)).trans hw287_4), ((HB.out.cell (World.block_lt_of_cell? w _ hw288_0)).trans hw288_0), ((HB.out.cell (World.block_lt_of_cell? w _ hw288_1)).trans hw288_1), ((HB.out.cell (World.block_lt_of_cell? w _ hw288_2)).trans hw288_2), ((HB.out.cell (World.block_lt_of_cell? w _ hw288_3)).trans hw288_3), ((HB.out.cell (World.block_lt_of_cell? w _ hw288_4)).trans hw288_4)⟩ (fun hHeld => ?_); refine with_tabW hypercuberef2_Same.tab6 hypercuberef2_Same.bits6 (fun HT_ HW_ => ?_)
        generalize wr.drew = w11 at HB HR287_0 HR287_2 HR287_3 HR287_4 HR288_0 HR288_2 HR288_3 HR288_4 hx287_0 hx287_1 hx287_2 hx287_3 hx287_4 hx288_0 hx288_1 hx288_2 hx288_3 hx288_4 hHeld ⊢
        refine pu (i := 0) (N := some 17) (bb 10 1) HT_ ?_
        refine pu (i := 1) (N := some 18) (bb 10 3) HT_ ?_
        refine pu (i := 2) (N := some 19) (bb 10 7) HT_ ?_
        refine pu (i := 4) (N := some 21) (bb 10 23) HT_ ?_
        refine pu (i := 5) (N := some 22) (bb 10 55) HT_ ?_
        refine pu (i := 6) (N := some 23) (bb 10 119) HT_ ?_
        refine tk (i := 3) (N := some 20) (bb 10 127) HT_ HW_ hHeld ?_
        refine tk (i := 7) (N := some 24) (bb 10 255) HT_ HW_ hHeld ?_
        refine one_ (i := 8) (N := some 25) (bb 10 511) rfl rfl (one_of HT_.out (by kernel_rfl)) (by decide) (fun K hK => ?_)
        refine goes_ Try.func36 (by kernel_rfl) rfl #[.agg #[.slice A287_0 ((rd_T41 l0 x5_1).f0).length c287_0, .int .i64 ((rd_T41 l0 x5_1).f1), .slice A287_2 ((rd_T41 l0 x5_1).f2).length c287_2, .slice A287_3 ((rd_T41 l0 x5_1).f3).length c287_3, .slice A287_4 ((rd_T41 l0 x5_1).f4).length c287_4], .agg #[.slice A288_0 ((rd_T41 l1 x5_1).f0).length c288_0, .int .i64 ((rd_T41 l1 x5_1).f1), .slice A288_2 ((rd_T41 l1 x5_1).f2).length c288_2, .slice A288_3 ((rd_T41 l1 x5_1).f3).length c288_3, .slice A288_4 ((rd_T41 l1 x5_1).f4).length c288_4]] (by rfl) rfl rfl (by (try simp only [List.map_toArray, List.map_cons, List.map_nil]); first | done | rfl | (simp only [List.length_drop, List.length_take]; rfl)) ?_
        with_reducible refine (hypercuberef2_Equal.calls k1 _ _ ((rd_T41 l0 x5_1).f0) ((rd_T41 l0 x5_1).f1) _ _ ((rd_T41 l0 x5_1).f2) _ _ ((rd_T41 l0 x5_1).f3) _ _ ((rd_T41 l0 x5_1).f4) _ _ ((rd_T41 l1 x5_1).f0) ((rd_T41 l1 x5_1).f1) _ _ ((rd_T41 l1 x5_1).f2) _ _ ((rd_T41 l1 x5_1).f3) _ _ ((rd_T41 l1 x5_1).f4) false _ ?side1 ?side2 ?side3 ?side4 ?side5 ?side6 ?side7 ?side8 ?side9 ?side10 ?side11 ?side12 ?side13 ?side14 ?side15 ?side16 A7.out).mono ?_
        (case side1 => exact Kd.Cw HR287_0.out HB.out)
        (case side2 => exact HC287_0.out)
        (case side3 => exact Kd.Cw HR287_2.out HB.out)
        (case side4 => exact HC287_2.out)
        (case side5 => exact Kd.Cw HR287_3.out HB.out)
        (case side6 => exact HC287_3.out)
        (case side7 => exact Kd.Cw HR287_4.out HB.out)
        (case side8 => exact HC287_4.out)
        (case side9 => exact Kd.Cw HR288_0.out HB.out)
        (case side10 => exact HC288_0.out)
        (case side11 => exact Kd.Cw HR288_2.out HB.out)
        (case side12 => exact HC288_2.out)
        (case side13 => exact Kd.Cw HR288_3.out HB.out)
        (case side14 => exact HC288_3.out)
        (case side15 => exact Kd.Cw HR288_4.out HB.out)
        (case side16 => exact HC288_4.out)
        rintro e w12 ⟨rfl, hb⟩
        refine ⟨_, rfl, ?_⟩
        have n0_ := am (below_step (wmv HB.out) hb)
        clear HB
        revert n0_
        intro HB
        (try clear hb)
        (try clear hb2)
        (try clear hk)
        (try clear hi)
        refine hK.out _ _ ⟨((HB.out.cell (World.block_lt_of_cell? w _ hw287_0)).trans hw287_0), ((HB.out.cell (World.block_lt_of_cell? w _ hw287_1)).trans hw287_1), ((HB.out.cell (World.block_lt_of_cell? w _ hw287_2)).trans hw287_2), ((HB.out.cell (World.block_lt_of_cell? w _ hw287_3)).trans hw287_3), ((HB.out.cell (World.block_lt_of_cell? w _ hw287_4)).trans hw287_4), ((HB.out.cell (World.block_lt_of_cell? w _ hw288_0)).trans hw288_0), ((HB.out.cell (World.block_lt_of_cell? w _ hw288_1)).trans hw288_1), ((HB.out.cell (World.block_lt_of_cell? w _ hw288_2)).trans hw288_2), ((HB.out.cell (World.block_lt_of_cell? w _ hw288_3)).trans hw288_3), ((HB.out.cell (World.block_lt_of_cell? w _ hw288_4)).trans hw288_4)⟩ (fun hHeld => ?_)
        clear hK K
        refine nm ?_
        refine pu (i := 9) (N := some 26) (bb 10 1023) HT_ ?_
        refine done_ (done_of HT_.out (by kernel_rfl)) ?_
        try go_wp2
        go_ret
        exact ⟨by first | rfl | (simp [errW_none, errW_some] <;> rfl) | (simp [*, errW_none, errW_some] <;> rfl), by repeat (first | (with_reducible first | exact HB.out | apply below_alloc | apply pw_below_drewN | apply below_drew1) | exact HB.out)⟩
      ·rw [if_neg c6] at H
       exact absurd H (by simp)
     ·rw [if_neg c5] at H
      exact absurd H (by simp)
    ·rw [if_neg c4] at H
     have c4b0 : decide (x5_1 < (l0.length : Int)) = false := decide_eq_false c4
     clear c4
     obtain rfl := Option.some.inj H
     go_wp2
     go_ret
     exact ⟨by first | rfl | (simp [errW_none, errW_some] <;> rfl) | (simp [*, errW_none, errW_some] <;> rfl), by repeat (first | (with_reducible first | exact HB.out | apply below_alloc | apply pw_below_drewN | apply below_drew1) | exact HB.out)⟩
 ·rw [if_neg c3] at H
  have c3b0 : ((l0.length : Int) == (l1.length : Int)) = false := beq_eq_false_iff_ne.mpr c3
  have c3b1 : ((l0.length : Int) != (l1.length : Int)) = true := bne_iff_ne.mpr c3
  have c3b2 : (l0.length == l1.length) = false := by first | simpa using c3 | (simp at c3 ⊢; omega)
  obtain rfl := Option.some.inj H
  go_enter Try.func22, Try.ntmps22
  go_wp2
  go_ret
  exact ⟨by first | rfl | (simp [errW_none, errW_some] <;> rfl) | (simp [*, errW_none, errW_some] <;> rfl), by repeat (first | (with_reducible first | exact HB.out | apply below_alloc | apply pw_below_drewN | apply below_drew1) | exact HB.out)⟩
def hypercuberef5_Same.l0 : Nat → List (List (S41)) → List (List (S41)) → Int → Option (Bool)
 | 0, _, _, _ => none
 | k + 1, x0, x1, x5 => if x5 < (x0.length : Int) then (if 0 ≤ x5 then (if x5 < (x1.length : Int) then ((hypercuberef2_Same.f k (rd_L3 x0 x5) (rd_L3 x1 x5)).bind fun t292 => (if t292 = true then (hypercuberef5_Same.l0 k x0 x1 (wrap64 (x5 + 1))) else (some false))) else (none)) else (none)) else (some true)
def hypercuberef5_Same.f (k : Nat) (l0 : List (List (S41))) (l1 : List (List (S41))) : Option (Bool) := if (l0.length : Int) = (l1.length : Int) then (hypercuberef5_Same.l0 k l0 l1 0) else (some false)
def hypercuberef5_Same.T6 : Bool × List (List Nat × List Nat) := (true, [([], []), ([], []), ([0, 1], [0, 1]), ([2], [2]), ([], []), ([], []), ([4, 5], [4, 5]), ([6], [6]), ([3, 7], [3, 7]), ([8], [8])])
def hypercuberef5_Same.B6 : List Nat := [0, 0, 3, 7, 0, 0, 48, 112, 255, 511]
theorem hypercuberef5_Same.tab6 : rtab .any (opsOf Try.f17 6) = hypercuberef5_Same.T6 := by kernel_rfl
theorem hypercuberef5_Same.bits6 : waitsOk hypercuberef5_Same.T6.2 hypercuberef5_Same.B6 = true := by kernel_rfl
set_option maxHeartbeats 8000000 in
set_option maxRecDepth 100000 in
theorem hypercuberef5_Same.calls (k : Nat) (A0 : Option Addr) (c0 : Nat) (l0 : List (List (S41))) (A1 : Option Addr) (c1 : Nat) (l1 : List (List (S41))) (r : Bool) (w : World) (hr0 : Kd.C (Kd.slice 41 k41) w A0 l0.length l0) (hc0 : l0.length ≤ c0) (hr1 : Kd.C (Kd.slice 41 k41) w A1 l1.length l1) (hc1 : l1.length ≤ c1) (h : hypercuberef5_Same.f k l0 l1 = some r) :
  Calls Try.prog 17 #[.slice A0 l0.length c0, .slice A1 l1.length c1] w fun e w' => e = .returned (.bool r) ∧ Below w.heap.size w w' := by
 have HR0 := am hr0
 have HC0 := am hc0
 clear hr0 hc0
 have HR1 := am hr1
 have HC1 := am hc1
 clear hr1 hc1
 have HB := am (Below.refl w.heap.size w)
 have H : (if (l0.length : Int) = (l1.length : Int) then (hypercuberef5_Same.l0 k l0 l1 0) else (some false)) = some r := h
 clear h
 by_cases c3 : (l0.length : Int) = (l1.length : Int)
 ·rw [if_pos c3] at H
  have c3b0 : ((l0.length : Int) == (l1.length : Int)) = true := beq_iff_eq.mpr c3
  have c3b1 : ((l0.length : Int) != (l1.length : Int)) = false := bne_eq_false_iff_eq.mpr c3
  have c3b2 : (l0.length == l1.length) = true := by first | simpa using c3 | (simp at c3 ⊢; omega)
  clear c3
  have H' := am H
  clear H
  go_enter Try.func17, Try.ntmps17
  go_wp2
  go_loopg [5] k (fun kq v5 w' => ∃ (x5_1 : Int), v5 = .int .i64 x5_1 ∧ Aside0 (hypercuberef5_Same.l0 kq l0 l1 x5_1 = some r) ∧ Aside0 (kq ≤ k) ∧ Aside0 (Below w.heap.size w w'))
  case atStart => exact ⟨(0), (by first | rfl | (simp; done) | (simp [*]; done)), H', ⟨Nat.le_refl _⟩, ⟨by repeat (first | (with_reducible first | exact HB.out | apply below_alloc | apply pw_below_drewN | apply below_drew1) | exact HB.out)⟩⟩
  case round =>
   clear H'
   try clear c1
   try clear p2
   try clear c3
   try clear c3b0
   try clear c3b1
   try clear c3b2
   obtain ⟨x5_1, rfl, HA, HK1, HB⟩ := hrel
   cases gk with
   | zero => exact absurd HA.out (by simp [hypercuberef5_Same.l0])
   | succ k1 =>
    have H := HA.out
    clear HA
    simp only [hypercuberef5_Same.l0] at H
    by_cases c4 : x5_1 < (l0.length : Int)
    ·rw [if_pos c4] at H
     have c4b0 : decide (x5_1 < (l0.length : Int)) = true := decide_eq_true c4
     clear c4
     by_cases c5 : 0 ≤ x5_1
     ·rw [if_pos c5] at H
      have c5b0 : decide (0 ≤ x5_1) = true := decide_eq_true c5
      clear c5
      by_cases c6 : x5_1 < (l1.length : Int)
      ·rw [if_pos c6] at H
       have c6b0 : decide (x5_1 < (l1.length : Int)) = true := decide_eq_true c6
       clear c6
       replace H := Option.bind_eq_some_iff.mp H
       obtain ⟨t292, A70, H⟩ := H
       replace H : (if t292 = true then (hypercuberef5_Same.l0 k1 l0 l1 (wrap64 (x5_1 + 1))) else (some false)) = some r := H
       have A7 := am A70
       clear A70
       by_cases c8 : t292 = true
       ·subst c8
        have H1 : (hypercuberef5_Same.l0 k1 l0 l1 (wrap64 (x5_1 + 1))) = some r := by rw [if_pos rfl] at H; exact H
        clear H
        have H := H1
        clear H1
        have H' := am H
        clear H
        try go_wp2
        have n0_ := am (below_drew1 HB.out)
        clear HB
        revert n0_
        intro HB
        have p290 : 0 ≤ (x5_1 : Int) := of_decide_eq_true (by first | (with_reducible assumption) | assumption)
        have q290 : x5_1 < (l0.length : Int) := of_decide_eq_true (by first | (with_reducible assumption) | assumption)
        obtain ⟨ad290, A290_0, c290_0, e290, hx290_0, hl290_0, hi290_0⟩ := at_L3 HR0.out x5_1 p290 q290
        have hw290_0 := hx290_0
        cases e290
        replace hx290_0 := (HB.out.cell (World.block_lt_of_cell? w _ hx290_0)).trans hx290_0
        have HR290_0 := am hi290_0
        have HC290_0 := am hl290_0
        clear hi290_0 hl290_0
        replace p290 := eq_true p290
        replace q290 := eq_true q290
        have p291 : 0 ≤ (x5_1 : Int) := of_decide_eq_true (by first | (with_reducible assumption) | assumption)
        have q291 : x5_1 < (l1.length : Int) := of_decide_eq_true (by first | (with_reducible assumption) | assumption)
        obtain ⟨ad291, A291_0, c291_0, e291, hx291_0, hl291_0, hi291_0⟩ := at_L3 HR1.out x5_1 p291 q291
        have hw291_0 := hx291_0
        cases e291
        replace hx291_0 := (HB.out.cell (World.block_lt_of_cell? w _ hx291_0)).trans hx291_0
        have HR291_0 := am hi291_0
        have HC291_0 := am hl291_0
        clear hi291_0 hl291_0
        replace p291 := eq_true p291
        replace q291 := eq_true q291
        refine start_ (n := 10) (S := fun w' => w'.cell? (ad290.add (x5_1).toNat) = some (.slice A290_0 (rd_L3 l0 x5_1).length c290_0) ∧ w'.cell? (ad291.add (x5_1).toNat) = some (.slice A291_0 (rd_L3 l1 x5_1).length c291_0)) (ds := []) (bb 10 0) (by kernel_rfl) rfl rfl ⟨((HB.out.cell (World.block_lt_of_cell? w _ hw290_0)).trans hw290_0), ((HB.out.cell (World.block_lt_of_cell? w _ hw291_0)).trans hw291_0)⟩ (fun hHeld => ?_); refine with_tabW hypercuberef5_Same.tab6 hypercuberef5_Same.bits6 (fun HT_ HW_ => ?_)
        generalize wr.drew = w9 at HB HR290_0 HR291_0 hx290_0 hx291_0 hHeld ⊢
        refine pu (i := 0) (N := some 17) (bb 10 1) HT_ ?_
        refine pu (i := 1) (N := some 18) (bb 10 3) HT_ ?_
        refine pu (i := 2) (N := some 19) (bb 10 7) HT_ ?_
        refine pu (i := 4) (N := some 21) (bb 10 23) HT_ ?_
        refine pu (i := 5) (N := some 22) (bb 10 55) HT_ ?_
        refine pu (i := 6) (N := some 23) (bb 10 119) HT_ ?_
        refine tk (i := 3) (N := some 20) (bb 10 127) HT_ HW_ hHeld ?_
        refine tk (i := 7) (N := some 24) (bb 10 255) HT_ HW_ hHeld ?_
        refine one_ (i := 8) (N := some 25) (bb 10 511) rfl rfl (one_of HT_.out (by kernel_rfl)) (by decide) (fun K hK => ?_)
        refine goes_ Try.func22 (by kernel_rfl) rfl #[.slice A290_0 (rd_L3 l0 x5_1).length c290_0, .slice A291_0 (rd_L3 l1 x5_1).length c291_0] (by rfl) rfl rfl (by (try simp only [List.map_toArray, List.map_cons, List.map_nil]); first | done | rfl | (simp only [List.length_drop, List.length_take]; rfl)) ?_
        with_reducible refine (hypercuberef2_Same.calls k1 _ _ (rd_L3 l0 x5_1) _ _ (rd_L3 l1 x5_1) true _ ?side1 ?side2 ?side3 ?side4 A7.out).mono ?_
        (case side1 => exact Kd.Cw HR290_0.out HB.out)
        (case side2 => exact HC290_0.out)
        (case side3 => exact Kd.Cw HR291_0.out HB.out)
        (case side4 => exact HC291_0.out)
        rintro e w10 ⟨rfl, hb⟩
        refine ⟨_, rfl, ?_⟩
        have n0_ := am (below_step (wmv HB.out) hb)
        clear HB
        revert n0_
        intro HB
        (try clear hb)
        (try clear hb2)
        (try clear hk)
        (try clear hi)
        refine hK.out _ _ ⟨((HB.out.cell (World.block_lt_of_cell? w _ hw290_0)).trans hw290_0), ((HB.out.cell (World.block_lt_of_cell? w _ hw291_0)).trans hw291_0)⟩ (fun hHeld => ?_)
        clear hK K
        refine nm ?_
        refine pu (i := 9) (N := some 26) (bb 10 1023) HT_ ?_
        refine done_ (done_of HT_.out (by kernel_rfl)) ?_
        try go_wp2
        go_roundg k1
        case measure => have := HK1.out; omega
        case rel => exact ⟨(wrap64 (x5_1 + 1)), (by first | rfl | (simp; done) | (simp [*]; done)), H', ⟨by have := HK1.out; omega⟩, ⟨by repeat (first | (with_reducible first | exact HB.out | apply below_alloc | apply pw_below_drewN | apply below_drew1) | exact HB.out)⟩⟩
       ·replace c8 := Bool.eq_false_iff.mpr c8
        subst c8
        have H1 : (some false) = some r := by rw [if_neg (show ¬ (false = true) by decide)] at H; exact H
        clear H
        have H := H1
        clear H1
        obtain rfl := Option.some.inj H
        try go_wp2
        have n0_ := am (below_drew1 HB.out)
        clear HB
        revert n0_
        intro HB
        have p290 : 0 ≤ (x5_1 : Int) := of_decide_eq_true (by first | (with_reducible assumption) | assumption)
        have q290 : x5_1 < (l0.length : Int) := of_decide_eq_true (by first | (with_reducible assumption) | assumption)
        obtain ⟨ad290, A290_0, c290_0, e290, hx290_0, hl290_0, hi290_0⟩ := at_L3 HR0.out x5_1 p290 q290
        have hw290_0 := hx290_0
        cases e290
        replace hx290_0 := (HB.out.cell (World.block_lt_of_cell? w _ hx290_0)).trans hx290_0
        have HR290_0 := am hi290_0
        have HC290_0 := am hl290_0
        clear hi290_0 hl290_0
        replace p290 := eq_true p290
        replace q290 := eq_true q290
        have p291 : 0 ≤ (x5_1 : Int) := of_decide_eq_true (by first | (with_reducible assumption) | assumption)
        have q291 : x5_1 < (l1.length : Int) := of_decide_eq_true (by first | (with_reducible assumption) | assumption)
        obtain ⟨ad291, A291_0, c291_0, e291, hx291_0, hl291_0, hi291_0⟩ := at_L3 HR1.out x5_1 p291 q291
        have hw291_0 := hx291_0
        cases e291
        replace hx291_0 := (HB.out.cell (World.block_lt_of_cell? w _ hx291_0)).trans hx291_0
        have HR291_0 := am hi291_0
        have HC291_0 := am hl291_0
        clear hi291_0 hl291_0
        replace p291 := eq_true p291
        replace q291 := eq_true q291
        refine start_ (n := 10) (S := fun w' => w'.cell? (ad290.add (x5_1).toNat) = some (.slice A290_0 (rd_L3 l0 x5_1).length c290_0) ∧ w'.cell? (ad291.add (x5_1).toNat) = some (.slice A291_0 (rd_L3 l1 x5_1).length c291_0)) (ds := []) (bb 10 0) (by kernel_rfl) rfl rfl ⟨((HB.out.cell (World.block_lt_of_cell? w _ hw290_0)).trans hw290_0), ((HB.out.cell (World.block_lt_of_cell? w _ hw291_0)).trans hw291_0)⟩ (fun hHeld => ?_); refine with_tabW hypercuberef5_Same.tab6 hypercuberef5_Same.bits6 (fun HT_ HW_ => ?_)
        generalize wr.drew = w11 at HB HR290_0 HR291_0 hx290_0 hx291_0 hHeld ⊢
        refine pu (i := 0) (N := some 17) (bb 10 1) HT_ ?_
        refine pu (i := 1) (N := some 18) (bb 10 3) HT_ ?_
        refine pu (i := 2) (N := some 19) (bb 10 7) HT_ ?_
        refine pu (i := 4) (N := some 21) (bb 10 23) HT_ ?_
        refine pu (i := 5) (N := some 22) (bb 10 55) HT_ ?_
        refine pu (i := 6) (N := some 23) (bb 10 119) HT_ ?_
        refine tk (i := 3) (N := some 20) (bb 10 127) HT_ HW_ hHeld ?_
        refine tk (i := 7) (N := some 24) (bb 10 255) HT_ HW_ hHeld ?_
        refine one_ (i := 8) (N := some 25) (bb 10 511) rfl rfl (one_of HT_.out (by kernel_rfl)) (by decide) (fun K hK => ?_)
        refine goes_ Try.func22 (by kernel_rfl) rfl #[.slice A290_0 (rd_L3 l0 x5_1).length c290_0, .slice A291_0 (rd_L3 l1 x5_1).length c291_0] (by rfl) rfl rfl (by (try simp only [List.map_toArray, List.map_cons, List.map_nil]); first | done | rfl | (simp only [List.length_drop, List.length_take]; rfl)) ?_
        with_reducible refine (hypercuberef2_Same.calls k1 _ _ (rd_L3 l0 x5_1) _ _ (rd_L3 l1 x5_1) false _ ?side1 ?side2 ?side3 ?side4 A7.out).mono ?_
        (case side1 => exact Kd.Cw HR290_0.out HB.out)
        (case side2 => exact HC290_0.out)
        (case side3 => exact Kd.Cw HR291_0.out HB.out)
        (case side4 => exact HC291_0.out)
        rintro e w12 ⟨rfl, hb⟩
        refine ⟨_, rfl, ?_⟩
        have n0_ := am (below_step (wmv HB.out) hb)
        clear HB
        revert n0_
        intro HB
        (try clear hb)
        (try clear hb2)
        (try clear hk)
        (try clear hi)
        refine hK.out _ _ ⟨((HB.out.cell (World.block_lt_of_cell? w _ hw290_0)).trans hw290_0), ((HB.out.cell (World.block_lt_of_cell? w _ hw291_0)).trans hw291_0)⟩ (fun hHeld => ?_)
        clear hK K
        refine nm ?_
        refine pu (i := 9) (N := some 26) (bb 10 1023) HT_ ?_
        refine done_ (done_of HT_.out (by kernel_rfl)) ?_
        try go_wp2
        go_ret
        exact ⟨by first | rfl | (simp [errW_none, errW_some] <;> rfl) | (simp [*, errW_none, errW_some] <;> rfl), by repeat (first | (with_reducible first | exact HB.out | apply below_alloc | apply pw_below_drewN | apply below_drew1) | exact HB.out)⟩
      ·rw [if_neg c6] at H
       exact absurd H (by simp)
     ·rw [if_neg c5] at H
      exact absurd H (by simp)
    ·rw [if_neg c4] at H
     have c4b0 : decide (x5_1 < (l0.length : Int)) = false := decide_eq_false c4
     clear c4
     obtain rfl := Option.some.inj H
     go_wp2
     go_ret
     exact ⟨by first | rfl | (simp [errW_none, errW_some] <;> rfl) | (simp [*, errW_none, errW_some] <;> rfl), by repeat (first | (with_reducible first | exact HB.out | apply below_alloc | apply pw_below_drewN | apply below_drew1) | exact HB.out)⟩
 ·rw [if_neg c3] at H
  have c3b0 : ((l0.length : Int) == (l1.length : Int)) = false := beq_eq_false_iff_ne.mpr c3
  have c3b1 : ((l0.length : Int) != (l1.length : Int)) = true := bne_iff_ne.mpr c3
  have c3b2 : (l0.length == l1.length) = false := by first | simpa using c3 | (simp at c3 ⊢; omega)
  obtain rfl := Option.some.inj H
  go_enter Try.func17, Try.ntmps17
  go_wp2
  go_ret
  exact ⟨by first | rfl | (simp [errW_none, errW_some] <;> rfl) | (simp [*, errW_none, errW_some] <;> rfl), by repeat (first | (with_reducible first | exact HB.out | apply below_alloc | apply pw_below_drewN | apply below_drew1) | exact HB.out)⟩
mutual
def hypercuberef2_Less.l0 : Nat → List Int → List Int → Int → Option (Int)
 | 0, _, _, _ => none
 | k + 1, x0, x1, x5 => if x5 < (x0.length : Int) then (hypercuberef2_Less.j1 k x0 x1 x5 (decide (x5 < (x1.length : Int)))) else (hypercuberef2_Less.j1 k x0 x1 x5 false)
def hypercuberef2_Less.j1 : Nat → List Int → List Int → Int → Bool → Option (Int)
 | 0, _, _, _, _ => none
 | k + 1, x0, x1, x5, x15 => if x15 = true then (if 0 ≤ x5 then (if x5 < (x0.length : Int) then (if x5 < (x1.length : Int) then (if (rd x0 x5) < (rd x1 x5) then (some (-1)) else (if (rd x0 x5) > (rd x1 x5) then (some 1) else (hypercuberef2_Less.l0 k x0 x1 (wrap64 (x5 + 1))))) else (none)) else (none)) else (none)) else (if (x0.length : Int) < (x1.length : Int) then (some (-1)) else (if (x0.length : Int) > (x1.length : Int) then (some 1) else (some 0)))
end
def hypercuberef2_Less.f (k : Nat) (l0 : List Int) (l1 : List Int) : Option (Int) := hypercuberef2_Less.l0 k l0 l1 0
set_option maxHeartbeats 8000000 in
set_option maxRecDepth 100000 in
theorem hypercuberef2_Less.calls (k : Nat) (A0 : Option Addr) (c0 : Nat) (l0 : List Int) (A1 : Option Addr) (c1 : Nat) (l1 : List Int) (r : Int) (w : World) (hr0 : Kd.C (Kd.int .i64) w A0 l0.length l0) (hc0 : l0.length ≤ c0) (hr1 : Kd.C (Kd.int .i64) w A1 l1.length l1) (hc1 : l1.length ≤ c1) (h : hypercuberef2_Less.f k l0 l1 = some r) :
  Calls Try.prog 35 #[.slice A0 l0.length c0, .slice A1 l1.length c1] w fun e w' => e = .returned (.int .i64 r) ∧ Drawn0 w w' := by
 have HR0 := am hr0
 have HC0 := am hc0
 clear hr0 hc0
 have HR1 := am hr1
 have HC1 := am hc1
 clear hr1 hc1
 have H : (hypercuberef2_Less.l0 k l0 l1 0) = some r := h
 clear h
 have H' := am H
 clear H
 go_enter Try.func35, Try.ntmps35
 go_wp2
 repeat (go_quiet (fail); try go_wp2)
 go_loopg [5] k (fun kq v5 w' => ∃ (x5_1 : Int), v5 = .int .i64 x5_1 ∧ Aside0 (hypercuberef2_Less.l0 kq l0 l1 x5_1 = some r) ∧ Aside0 (kq ≤ k) ∧ Drawn0 w w')
 case atStart => exact ⟨(0), (by first | rfl | (simp; done) | (simp [*]; done)), H', ⟨Nat.le_refl _⟩, by repeat (first | exact Drawn0.refl _ | apply Drawn0.step)⟩
 case round =>
  clear H'
  try clear c1
  try clear p2
  obtain ⟨x5_1, rfl, HA, HK1, ⟨m1, rfl⟩⟩ := hrel
  cases gk with
  | zero => exact absurd HA.out (by simp [hypercuberef2_Less.l0])
  | succ k1 =>
   have H := HA.out
   clear HA
   simp only [hypercuberef2_Less.l0] at H
   have HC3 := am H
   clear H
   go_upto_region 2 with (fail)
   repeat (go_quiet (fail); go_upto_region 2 with (fail))
   go_cut [15] (fun v15 wc => ∃ (kq : Nat) (x15_2 : Bool), v15 = .bool x15_2 ∧ Aside0 (hypercuberef2_Less.j1 kq l0 l1 x5_1 x15_2 = some r) ∧ Aside0 (kq ≤ k1) ∧ Drawn0 w wc)
   case first =>
    have H := HC3.out
    clear HC3
    by_cases c4 : x5_1 < (l0.length : Int)
    ·rw [if_pos c4] at H
     have c4b0 : decide (x5_1 < (l0.length : Int)) = true := decide_eq_true c4
     clear c4
     (first | rw [c4b0] | (simp only [i64_w, i32_w]; rw [c4b0]) | skip)
     have H' := am H
     clear H
     go_wp2
     repeat (go_quiet (fail); try go_wp2)
     go_meet
     case rel => exact ⟨_, (decide (x5_1 < (l1.length : Int))), (by first | rfl | (simp; done) | (simp [*]; done)), H', ⟨by have := HK1.out; first | omega | exact Nat.le_refl _⟩, by repeat (first | exact Drawn0.refl _ | apply Drawn0.step)⟩
    ·rw [if_neg c4] at H
     have c4b0 : decide (x5_1 < (l0.length : Int)) = false := decide_eq_false c4
     clear c4
     (first | rw [c4b0] | (simp only [i64_w, i32_w]; rw [c4b0]) | skip)
     have H' := am H
     clear H
     go_wp2
     repeat (go_quiet (fail); try go_wp2)
     go_meet
     case rel => exact ⟨_, (false), (by first | rfl | (simp; done) | (simp [*]; done)), H', ⟨by have := HK1.out; first | omega | exact Nat.le_refl _⟩, by repeat (first | exact Drawn0.refl _ | apply Drawn0.step)⟩
   case rest =>
    clear HC3
    try clear c1
    try clear p2
    try clear c3
    try clear c4
    try clear c4b0
    try clear p2
    obtain ⟨kq, x15_2, rfl, HA, HJ2, ⟨mc2, rfl⟩⟩ := hcut
    cases kq with
    | zero => exact absurd HA.out (by simp [hypercuberef2_Less.j1])
    | succ kj2 =>
     have H := HA.out
     clear HA
     simp only [hypercuberef2_Less.j1] at H
     by_cases c5 : x15_2 = true
     ·subst c5
      have H1 : (if 0 ≤ x5_1 then (if x5_1 < (l0.length : Int) then (if x5_1 < (l1.length : Int) then (if (rd l0 x5_1) < (rd l1 x5_1) then (some (-1)) else (if (rd l0 x5_1) > (rd l1 x5_1) then (some 1) else (hypercuberef2_Less.l0 kj2 l0 l1 (wrap64 (x5_1 + 1))))) else (none)) else (none)) else (none)) = some r := by rw [if_pos rfl] at H; exact H
      clear H
      have H := H1
      clear H1
      by_cases c6 : 0 ≤ x5_1
      ·rw [if_pos c6] at H
       have c6b0 : decide (0 ≤ x5_1) = true := decide_eq_true c6
       clear c6
       by_cases c7 : x5_1 < (l0.length : Int)
       ·rw [if_pos c7] at H
        have c7b0 : decide (x5_1 < (l0.length : Int)) = true := decide_eq_true c7
        clear c7
        by_cases c8 : x5_1 < (l1.length : Int)
        ·rw [if_pos c8] at H
         have c8b0 : decide (x5_1 < (l1.length : Int)) = true := decide_eq_true c8
         clear c8
         by_cases c9 : (rd l0 x5_1) < (rd l1 x5_1)
         ·rw [if_pos c9] at H
          have c9b0 : decide ((rd l0 x5_1) < (rd l1 x5_1)) = true := decide_eq_true c9
          clear c9
          obtain rfl := Option.some.inj H
          have p293 : 0 ≤ (x5_1 : Int) := of_decide_eq_true (by first | (with_reducible assumption) | assumption)
          have q293 : x5_1 < (l0.length : Int) := of_decide_eq_true (by first | (with_reducible assumption) | assumption)
          obtain ⟨ad293, e293, hx293_0⟩ := Kd.at_int HR0.out x5_1 p293 q293
          cases e293
          replace p293 := eq_true p293
          replace q293 := eq_true q293
          have p294 : 0 ≤ (x5_1 : Int) := of_decide_eq_true (by first | (with_reducible assumption) | assumption)
          have q294 : x5_1 < (l1.length : Int) := of_decide_eq_true (by first | (with_reducible assumption) | assumption)
          obtain ⟨ad294, e294, hx294_0⟩ := Kd.at_int HR1.out x5_1 p294 q294
          cases e294
          replace p294 := eq_true p294
          replace q294 := eq_true q294
          go_wp2
          repeat (go_quiet (fail); try go_wp2)
          go_ret
          exact ⟨by first | rfl | (simp; done) | (simp [*]; done), by repeat (first | exact Drawn0.refl _ | apply Drawn0.step)⟩
         ·rw [if_neg c9] at H
          have c9b0 : decide ((rd l0 x5_1) < (rd l1 x5_1)) = false := decide_eq_false c9
          clear c9
          by_cases c10 : (rd l0 x5_1) > (rd l1 x5_1)
          ·rw [if_pos c10] at H
           have c10b0 : decide ((rd l1 x5_1) < (rd l0 x5_1)) = true := decide_eq_true c10
           clear c10
           obtain rfl := Option.some.inj H
           have p293 : 0 ≤ (x5_1 : Int) := of_decide_eq_true (by first | (with_reducible assumption) | assumption)
           have q293 : x5_1 < (l0.length : Int) := of_decide_eq_true (by first | (with_reducible assumption) | assumption)
           obtain ⟨ad293, e293, hx293_0⟩ := Kd.at_int HR0.out x5_1 p293 q293
           cases e293
           replace p293 := eq_true p293
           replace q293 := eq_true q293
           have p294 : 0 ≤ (x5_1 : Int) := of_decide_eq_true (by first | (with_reducible assumption) | assumption)
           have q294 : x5_1 < (l1.length : Int) := of_decide_eq_true (by first | (with_reducible assumption) | assumption)
           obtain ⟨ad294, e294, hx294_0⟩ := Kd.at_int HR1.out x5_1 p294 q294
           cases e294
           replace p294 := eq_true p294
           replace q294 := eq_true q294
           have p295 : 0 ≤ (x5_1 : Int) := of_decide_eq_true (by first | (with_reducible assumption) | assumption)
           have q295 : x5_1 < (l0.length : Int) := of_decide_eq_true (by first | (with_reducible assumption) | assumption)
           obtain ⟨ad295, e295, hx295_0⟩ := Kd.at_int HR0.out x5_1 p295 q295
           obtain rfl : ad293 = ad295 := (by injection e295)
           replace p295 := eq_true p295
           replace q295 := eq_true q295
           have p296 : 0 ≤ (x5_1 : Int) := of_decide_eq_true (by first | (with_reducible assumption) | assumption)
           have q296 : x5_1 < (l1.length : Int) := of_decide_eq_true (by first | (with_reducible assumption) | assumption)
           obtain ⟨ad296, e296, hx296_0⟩ := Kd.at_int HR1.out x5_1 p296 q296
           obtain rfl : ad294 = ad296 := (by injection e296)
           replace p296 := eq_true p296
           replace q296 := eq_true q296
           go_wp2
           repeat (go_quiet (fail); try go_wp2)
           go_ret
           exact ⟨by first | rfl | (simp; done) | (simp [*]; done), by repeat (first | exact Drawn0.refl _ | apply Drawn0.step)⟩
          ·rw [if_neg c10] at H
           have c10b0 : decide ((rd l1 x5_1) < (rd l0 x5_1)) = false := decide_eq_false c10
           clear c10
           have H' := am H
           clear H
           have p293 : 0 ≤ (x5_1 : Int) := of_decide_eq_true (by first | (with_reducible assumption) | assumption)
           have q293 : x5_1 < (l0.length : Int) := of_decide_eq_true (by first | (with_reducible assumption) | assumption)
           obtain ⟨ad293, e293, hx293_0⟩ := Kd.at_int HR0.out x5_1 p293 q293
           cases e293
           replace p293 := eq_true p293
           replace q293 := eq_true q293
           have p294 : 0 ≤ (x5_1 : Int) := of_decide_eq_true (by first | (with_reducible assumption) | assumption)
           have q294 : x5_1 < (l1.length : Int) := of_decide_eq_true (by first | (with_reducible assumption) | assumption)
           obtain ⟨ad294, e294, hx294_0⟩ := Kd.at_int HR1.out x5_1 p294 q294
           cases e294
           replace p294 := eq_true p294
           replace q294 := eq_true q294
           have p295 : 0 ≤ (x5_1 : Int) := of_decide_eq_true (by first | (with_reducible assumption) | assumption)
           have q295 : x5_1 < (l0.length : Int) := of_decide_eq_true (by first | (with_reducible assumption) | assumption)
           obtain ⟨ad295, e295, hx295_0⟩ := Kd.at_int HR0.out x5_1 p295 q295
           obtain rfl : ad293 = ad295 := (by injection e295)
           replace p295 := eq_true p295
           replace q295 := eq_true q295
           have p296 : 0 ≤ (x5_1 : Int) := of_decide_eq_true (by first | (with_reducible assumption) | assumption)
           have q296 : x5_1 < (l1.length : Int) := of_decide_eq_true (by first | (with_reducible assumption) | assumption)
           obtain ⟨ad296, e296, hx296_0⟩ := Kd.at_int HR1.out x5_1 p296 q296
           obtain rfl : ad294 = ad296 := (by injection e296)
           replace p296 := eq_true p296
           replace q296 := eq_true q296
           go_wp2
           repeat (go_quiet (fail); try go_wp2)
           go_roundg kj2
           case measure => have := HK1.out; have := HJ2.out; omega
           case rel => exact ⟨(wrap64 (x5_1 + 1)), (by first | rfl | (simp; done) | (simp [*]; done)), H', ⟨by have := HK1.out; have := HJ2.out; omega⟩, by repeat (first | exact Drawn0.refl _ | apply Drawn0.step)⟩
        ·rw [if_neg c8] at H
         exact absurd H (by simp)
       ·rw [if_neg c7] at H
        exact absurd H (by simp)
      ·rw [if_neg c6] at H
       exact absurd H (by simp)
     ·replace c5 := Bool.eq_false_iff.mpr c5
      subst c5
      have H1 : (if (l0.length : Int) < (l1.length : Int) then (some (-1)) else (if (l0.length : Int) > (l1.length : Int) then (some 1) else (some 0))) = some r := by rw [if_neg (show ¬ (false = true) by decide)] at H; exact H
      clear H
      have H := H1
      clear H1
      by_cases c11 : (l0.length : Int) < (l1.length : Int)
      ·rw [if_pos c11] at H
       have c11b0 : decide ((l0.length : Int) < (l1.length : Int)) = true := decide_eq_true c11
       have c11b1 : decide (l0.length < l1.length) = true := decide_eq_true (Int.ofNat_lt.mp c11)
       clear c11
       obtain rfl := Option.some.inj H
       go_wp2
       repeat (go_quiet (fail); try go_wp2)
       go_ret
       exact ⟨by first | rfl | (simp; done) | (simp [*]; done), by repeat (first | exact Drawn0.refl _ | apply Drawn0.step)⟩
      ·rw [if_neg c11] at H
       have c11b0 : decide ((l0.length : Int) < (l1.length : Int)) = false := decide_eq_false c11
       have c11b1 : decide (l0.length < l1.length) = false := decide_eq_false (fun h => c11 (Int.ofNat_lt.mpr h))
       clear c11
       by_cases c12 : (l0.length : Int) > (l1.length : Int)
       ·rw [if_pos c12] at H
        have c12b0 : decide ((l1.length : Int) < (l0.length : Int)) = true := decide_eq_true c12
        have c12b1 : decide (l1.length < l0.length) = true := decide_eq_true (Int.ofNat_lt.mp c12)
        clear c12
        obtain rfl := Option.some.inj H
        go_wp2
        repeat (go_quiet (fail); try go_wp2)
        go_ret
        exact ⟨by first | rfl | (simp; done) | (simp [*]; done), by repeat (first | exact Drawn0.refl _ | apply Drawn0.step)⟩
       ·rw [if_neg c12] at H
        have c12b0 : decide ((l1.length : Int) < (l0.length : Int)) = false := decide_eq_false c12
        have c12b1 : decide (l1.length < l0.length) = false := decide_eq_false (fun h => c12 (Int.ofNat_lt.mpr h))
        clear c12
        obtain rfl := Option.some.inj H
        go_wp2
        repeat (go_quiet (fail); try go_wp2)
        go_ret
        exact ⟨by first | rfl | (simp; done) | (simp [*]; done), by repeat (first | exact Drawn0.refl _ | apply Drawn0.step)⟩
def hypercuberef5_has.l0 : Nat → List (S41) → List Int → Int → Option (Bool)
 | 0, _, _, _ => none
 | k + 1, x0, x1, x5 => if x5 < (x0.length : Int) then (if 0 ≤ x5 then ((hypercuberef2_Less.f k ((rd_T41 x0 x5).f0) x1).bind fun t298 => (if t298 = 0 then (some true) else (hypercuberef5_has.l0 k x0 x1 (wrap64 (x5 + 1))))) else (none)) else (some false)
def hypercuberef5_has.f (k : Nat) (l0 : List (S41)) (l1 : List Int) : Option (Bool) := hypercuberef5_has.l0 k l0 l1 0
set_option maxHeartbeats 8000000 in
set_option maxRecDepth 100000 in
theorem hypercuberef5_has.calls (k : Nat) (A0 : Option Addr) (c0 : Nat) (l0 : List (S41)) (A1 : Option Addr) (c1 : Nat) (l1 : List Int) (r : Bool) (w : World) (hr0 : Kd.C k41 w A0 l0.length l0) (hc0 : l0.length ≤ c0) (hr1 : Kd.C (Kd.int .i64) w A1 l1.length l1) (hc1 : l1.length ≤ c1) (h : hypercuberef5_has.f k l0 l1 = some r) :
  Calls Try.prog 31 #[.slice A0 l0.length c0, .slice A1 l1.length c1] w fun e w' => e = .returned (.bool r) ∧ Drawn0 w w' := by
 have HR0 := am hr0
 have HC0 := am hc0
 clear hr0 hc0
 have HR1 := am hr1
 have HC1 := am hc1
 clear hr1 hc1
 have H : (hypercuberef5_has.l0 k l0 l1 0) = some r := h
 clear h
 have H' := am H
 clear H
 go_enter Try.func31, Try.ntmps31
 go_wp2
 go_loopg [5] k (fun kq v5 w' => ∃ (x5_1 : Int), v5 = .int .i64 x5_1 ∧ Aside0 (hypercuberef5_has.l0 kq l0 l1 x5_1 = some r) ∧ Aside0 (kq ≤ k) ∧ Drawn0 w w')
 case atStart => exact ⟨(0), (by first | rfl | (simp; done) | (simp [*]; done)), H', ⟨Nat.le_refl _⟩, by repeat (first | exact Drawn0.refl _ | apply Drawn0.step)⟩
 case round =>
  clear H'
  try clear c1
  try clear p2
  obtain ⟨x5_1, rfl, HA, HK1, ⟨m1, rfl⟩⟩ := hrel
  cases gk with
  | zero => exact absurd HA.out (by simp [hypercuberef5_has.l0])
  | succ k1 =>
   have H := HA.out
   clear HA
   simp only [hypercuberef5_has.l0] at H
   by_cases c3 : x5_1 < (l0.length : Int)
   ·rw [if_pos c3] at H
    have c3b0 : decide (x5_1 < (l0.length : Int)) = true := decide_eq_true c3
    clear c3
    by_cases c4 : 0 ≤ x5_1
    ·rw [if_pos c4] at H
     have c4b0 : decide (0 ≤ x5_1) = true := decide_eq_true c4
     clear c4
     replace H := Option.bind_eq_some_iff.mp H
     obtain ⟨t298, A50, H⟩ := H
     replace H : (if t298 = 0 then (some true) else (hypercuberef5_has.l0 k1 l0 l1 (wrap64 (x5_1 + 1)))) = some r := H
     have A5 := am A50
     clear A50
     by_cases c6 : t298 = 0
     ·rw [if_pos c6] at H
      have c6b0 : (t298 == 0) = true := beq_iff_eq.mpr c6
      have c6b1 : (t298 != 0) = false := bne_eq_false_iff_eq.mpr c6
      clear c6
      obtain rfl := Option.some.inj H
      have p297 : 0 ≤ (x5_1 : Int) := of_decide_eq_true (by first | (with_reducible assumption) | assumption)
      have q297 : x5_1 < (l0.length : Int) := of_decide_eq_true (by first | (with_reducible assumption) | assumption)
      obtain ⟨ad297, A297_0, c297_0, A297_2, c297_2, A297_3, c297_3, A297_4, c297_4, e297, hx297_0, hx297_1, hx297_2, hx297_3, hx297_4, hl297_0, hi297_0, hl297_2, hi297_2, hl297_3, hi297_3, hl297_4, hi297_4⟩ := at_T41 HR0.out x5_1 p297 q297
      cases e297
      have HR297_0 := am hi297_0
      have HC297_0 := am hl297_0
      clear hi297_0 hl297_0
      have HR297_2 := am hi297_2
      have HC297_2 := am hl297_2
      clear hi297_2 hl297_2
      have HR297_3 := am hi297_3
      have HC297_3 := am hl297_3
      clear hi297_3 hl297_3
      have HR297_4 := am hi297_4
      have HC297_4 := am hl297_4
      clear hi297_4 hl297_4
      replace p297 := eq_true p297
      replace q297 := eq_true q297
      go_wp2_with (first | (go_at_call 35; (with_reducible refine (hypercuberef2_Less.calls k1 _ _ ((rd_T41 l0 x5_1).f0) _ _ l1 t298 _ ?side1 ?side2 ?side3 ?side4 A5.out).mono ?_); (case side1 => repeat (first | exact HR297_0.out | (with_reducible refine Kd.C_alloc ?_ _) | (with_reducible refine Kd.C_drewN ?_ _) | (with_reducible refine Kd.C_drew ?_))); (case side2 => exact HC297_0.out); (case side3 => repeat (first | exact HR1.out | (with_reducible refine Kd.C_alloc ?_ _) | (with_reducible refine Kd.C_drewN ?_ _) | (with_reducible refine Kd.C_drew ?_))); (case side4 => exact HC1.out); rintro e w' ⟨rfl, ⟨nd, rfl⟩⟩))
      go_ret
      exact ⟨by first | rfl | (simp; done) | (simp [*]; done), by repeat (first | exact Drawn0.refl _ | apply Drawn0.step)⟩
     ·rw [if_neg c6] at H
      have c6b0 : (t298 == 0) = false := beq_eq_false_iff_ne.mpr c6
      have c6b1 : (t298 != 0) = true := bne_iff_ne.mpr c6
      have H' := am H
      clear H
      have p297 : 0 ≤ (x5_1 : Int) := of_decide_eq_true (by first | (with_reducible assumption) | assumption)
      have q297 : x5_1 < (l0.length : Int) := of_decide_eq_true (by first | (with_reducible assumption) | assumption)
      obtain ⟨ad297, A297_0, c297_0, A297_2, c297_2, A297_3, c297_3, A297_4, c297_4, e297, hx297_0, hx297_1, hx297_2, hx297_3, hx297_4, hl297_0, hi297_0, hl297_2, hi297_2, hl297_3, hi297_3, hl297_4, hi297_4⟩ := at_T41 HR0.out x5_1 p297 q297
      cases e297
      have HR297_0 := am hi297_0
      have HC297_0 := am hl297_0
      clear hi297_0 hl297_0
      have HR297_2 := am hi297_2
      have HC297_2 := am hl297_2
      clear hi297_2 hl297_2
      have HR297_3 := am hi297_3
      have HC297_3 := am hl297_3
      clear hi297_3 hl297_3
      have HR297_4 := am hi297_4
      have HC297_4 := am hl297_4
      clear hi297_4 hl297_4
      replace p297 := eq_true p297
      replace q297 := eq_true q297
      go_wp2_with (first | (go_at_call 35; (with_reducible refine (hypercuberef2_Less.calls k1 _ _ ((rd_T41 l0 x5_1).f0) _ _ l1 t298 _ ?side1 ?side2 ?side3 ?side4 A5.out).mono ?_); (case side1 => repeat (first | exact HR297_0.out | (with_reducible refine Kd.C_alloc ?_ _) | (with_reducible refine Kd.C_drewN ?_ _) | (with_reducible refine Kd.C_drew ?_))); (case side2 => exact HC297_0.out); (case side3 => repeat (first | exact HR1.out | (with_reducible refine Kd.C_alloc ?_ _) | (with_reducible refine Kd.C_drewN ?_ _) | (with_reducible refine Kd.C_drew ?_))); (case side4 => exact HC1.out); rintro e w' ⟨rfl, ⟨nd, rfl⟩⟩))
      go_roundg k1
      case measure => have := HK1.out; omega
      case rel => exact ⟨(wrap64 (x5_1 + 1)), (by first | rfl | (simp; done) | (simp [*]; done)), H', ⟨by have := HK1.out; omega⟩, by repeat (first | exact Drawn0.refl _ | apply Drawn0.step)⟩
    ·rw [if_neg c4] at H
     exact absurd H (by simp)
   ·rw [if_neg c3] at H
    have c3b0 : decide (x5_1 < (l0.length : Int)) = false := decide_eq_false c3
    clear c3
    obtain rfl := Option.some.inj H
    go_wp2
    go_ret
    exact ⟨by first | rfl | (simp; done) | (simp [*]; done), by repeat (first | exact Drawn0.refl _ | apply Drawn0.step)⟩
end Go.Proofs.Ytmnepkbmcnpjlaa.Q
namespace Go.Proofs.Ytmnepkbmcnpjlaa.Q
open Go.RowKit Go.Proofs.YtmnepkbmcnpjlaaW.PrintWords Go.Proofs.YtmnepkbmcnpjlaaW.PrintLast Go.Proofs.YtmnepkbmcnpjlaaW.PrintMore
set_option linter.unusedVariables false
set_option linter.unusedSimpArgs false
section
variable {P : Program} {ops : Array Oper} {Q : Exit → Act → World → Prop}
theorem gate_callee_v {rest : List Oper} {o : Oper} {a : Act} {W : World} {x : Operand} {as_ : Array Operand} {ts : Array TypeId} (_ho : o.op = .call { callee := .value x, args := as_, argTypes := ts }) (h : wpList P ops Q (o :: rest) a W) : wpList P ops Q (o :: rest) a W := h
theorem goesv_ {oi : Oper} {N : Option Tmp} {a : Act} {w : World} {K : Act → World → Prop} {f : FuncId} {fn : Func} {x : Operand} {as_ : Array Operand} {ts : Array TypeId} (hf : P.funcs[f]? = some fn) (hname : (fn.name == "runtime.NumGoroutine") = false) (hb : fn.body.isSome = true) (args : Array Value)
  (hw : Region.wanted oi (yielded ops a.tmps) = true) (hN : oi.dst = N) (hop : oi.op = .call { callee := .value x, args := as_, argTypes := ts }) (hargs : as_.map a.eval = args)
  (h : Calls P f args w fun e w' => ∃ v, e = .returned v ∧ K (a.put N v) w') (hx : a.eval x = .func (.func f) #[] #[] := by rfl) : if Region.wanted oi (yielded ops a.tmps) = true then Oper.wp P oi a w K Q else K (a.put N undef) w := by
 refine call_ f args hw hN ?_ h
 have he := enters_ hf hname hb args w
 unfold execOp
 simp [hop, resolve, Deferred.ofValue, invoke, hx, hargs, he]
theorem goesLv_ {rest : List Oper} {oi : Oper} {a : Act} {w : World} (N : Option Tmp) (hd : oi.dst = N) (hg : oi.guard = none) {f : FuncId} {fn : Func} {x : Operand} {as_ : Array Operand} {ts : Array TypeId} (hf : P.funcs[f]? = some fn) (hname : (fn.name == "runtime.NumGoroutine") = false) (hb : fn.body.isSome = true) (args : Array Value)
  (hop : oi.op = .call { callee := .value x, args := as_, argTypes := ts }) (hargs : as_.map a.eval = args)
  (h : Calls P f args w fun e w' => ∃ v, e = .returned v ∧ wpList P ops Q rest (a.put N v) w') (hx : a.eval x = .func (.func f) #[] #[] := by rfl) : wpList P ops Q (oi :: rest) a w := by
 refine wpList_plain hg fun K hK => ?_
 have he := enters_ hf hname hb args w
 have hrun : (execOp a.eval oi).run P w = .ok (.enter f args) w := by
  unfold execOp
  simp [hop, resolve, Deferred.ofValue, invoke, hx, hargs, he]
 unfold Oper.wp
 rw [hrun, Oper.upon_enter]
 refine h.mono fun e w'' hh => ?_
 obtain ⟨v, rfl, hk⟩ := hh
 subst hd
 exact hK _ _ hk
end
end Go.Proofs.Ytmnepkbmcnpjlaa.Q
namespace Go.Proofs.Ytmnepkbmcnpjlaa.Q
open Go.RowKit Go.Proofs.YtmnepkbmcnpjlaaW.PrintWords Go.Proofs.YtmnepkbmcnpjlaaW.PrintLast Go.Proofs.YtmnepkbmcnpjlaaW.PrintMore
attribute [local go_sem] max2_int min2_int max_two min_two max_three min_three max_four min_four
set_option linter.unusedVariables false
set_option linter.unusedSimpArgs false
def bsf_R1.l0 : Nat → List (S41) → Int → Int → Int → List Int → Int → List Int → List Int → List Int → Option (Int × Bool)
 | 0, _, _, _, _, _, _, _, _, _ => none
 | k + 1, x0, x8, x9, x10, x111000, x111001, x111002, x111003, x111004 => if x9 < x10 then (if 0 ≤ (wrap64 ((IntKind.u64.wrap (wrap64 (x9 + x10))) / 2)) then (if (wrap64 ((IntKind.u64.wrap (wrap64 (x9 + x10))) / 2)) < (x0.length : Int) then ((runs_by.f k ((rd_T41 x0 (wrap64 ((IntKind.u64.wrap (wrap64 (x9 + x10))) / 2))).f0) ((rd_T41 x0 (wrap64 ((IntKind.u64.wrap (wrap64 (x9 + x10))) / 2))).f1) ((rd_T41 x0 (wrap64 ((IntKind.u64.wrap (wrap64 (x9 + x10))) / 2))).f2) ((rd_T41 x0 (wrap64 ((IntKind.u64.wrap (wrap64 (x9 + x10))) / 2))).f3) ((rd_T41 x0 (wrap64 ((IntKind.u64.wrap (wrap64 (x9 + x10))) / 2))).f4) x111000 x111001 x111002 x111003 x111004).bind fun t112 => (if t112 < 0 then (bsf_R1.l0 k x0 x8 (wrap64 ((wrap64 ((IntKind.u64.wrap (wrap64 (x9 + x10))) / 2)) + 1)) x10 x111000 x111001 x111002 x111003 x111004) else (bsf_R1.l0 k x0 x8 x9 (wrap64 ((IntKind.u64.wrap (wrap64 (x9 + x10))) / 2)) x111000 x111001 x111002 x111003 x111004))) else (none)) else (none)) else (if x9 < x8 then (if 0 ≤ x9 then (if x9 < (x0.length : Int) then ((runs_by.f k ((rd_T41 x0 x9).f0) ((rd_T41 x0 x9).f1) ((rd_T41 x0 x9).f2) ((rd_T41 x0 x9).f3) ((rd_T41 x0 x9).f4) x111000 x111001 x111002 x111003 x111004).bind fun t114 => (some (x9, (t114 == 0)))) else (none)) else (none)) else (some (x9, false)))
def bsf_R1.f (k : Nat) (l0 : List (S41)) (l1_0 : List Int) (a1_1 : Int) (l1_2 : List Int) (l1_3 : List Int) (l1_4 : List Int) : Option (Int × Bool) := bsf_R1.l0 k l0 (l0.length : Int) 0 (l0.length : Int) l1_0 a1_1 l1_2 l1_3 l1_4
def bsf_R1.T5 : Bool × List (List Nat × List Nat) := (true, [([], []), ([], []), ([], []), ([1, 2], [1, 2]), ([3], [3]), ([], []), ([0, 4, 5], [0, 4, 5]), ([6], [6])])
def bsf_R1.B5 : List Nat := [0, 0, 0, 6, 14, 0, 63, 127]
theorem bsf_R1.tab5 : rtab .any (opsOf Try.f37 5) = bsf_R1.T5 := by kernel_rfl
theorem bsf_R1.bits5 : waitsOk bsf_R1.T5.2 bsf_R1.B5 = true := by kernel_rfl
def bsf_R1.T8 : Bool × List (List Nat × List Nat) := (true, [([], []), ([], []), ([], []), ([1, 2], [1, 2]), ([3], [3]), ([4], [4]), ([4], [4]), ([4], [4]), ([6, 7, 4], [4, 6, 7]), ([8, 4], [4, 8]), ([4], [4]), ([5, 9, 10, 4, 4], [4, 5, 9, 10]), ([11, 4], [4, 11]), ([4, 12], [4, 12]), ([0, 11, 0], [0]), ([13, 14, 0, 1, 2, 3, 4, 5, 6, 7, 8, 9, 10, 11, 12, 13, 14], [13])])
def bsf_R1.B8 : List Nat := [0, 0, 0, 6, 14, 30, 30, 30, 222, 478, 30, 2046, 4094, 8190, 4095, 32767]
theorem bsf_R1.tab8 : rtab .any (opsOf Try.f37 8) = bsf_R1.T8 := by kernel_rfl
theorem bsf_R1.bits8 : waitsOk bsf_R1.T8.2 bsf_R1.B8 = true := by kernel_rfl
set_option maxHeartbeats 8000000 in
set_option maxRecDepth 100000 in
theorem bsf_R1.calls (k : Nat) (A0 : Option Addr) (c0 : Nat) (l0 : List (S41)) (A1_0 : Option Addr) (c1_0 : Nat) (l1_0 : List Int) (a1_1 : Int) (A1_2 : Option Addr) (c1_2 : Nat) (l1_2 : List Int) (A1_3 : Option Addr) (c1_3 : Nat) (l1_3 : List Int) (A1_4 : Option Addr) (c1_4 : Nat) (l1_4 : List Int) (r1 : Int) (r2 : Bool) (w : World) (hr0 : Kd.C k41 w A0 l0.length l0) (hc0 : l0.length ≤ c0) (hr1_0 : Kd.C (Kd.int .i64) w A1_0 l1_0.length l1_0) (hc1_0 : l1_0.length ≤ c1_0) (hr1_2 : Kd.C (Kd.int .i64) w A1_2 l1_2.length l1_2) (hc1_2 : l1_2.length ≤ c1_2) (hr1_3 : Kd.C (Kd.int .i64) w A1_3 l1_3.length l1_3) (hc1_3 : l1_3.length ≤ c1_3) (hr1_4 : Kd.C (Kd.int .i64) w A1_4 l1_4.length l1_4) (hc1_4 : l1_4.length ≤ c1_4) (h : bsf_R1.f k l0 l1_0 a1_1 l1_2 l1_3 l1_4 = some (r1, r2)) :
  Calls Try.prog 37 #[.slice A0 l0.length c0, .agg #[.slice A1_0 l1_0.length c1_0, .int .i64 a1_1, .slice A1_2 l1_2.length c1_2, .slice A1_3 l1_3.length c1_3, .slice A1_4 l1_4.length c1_4], .func (.func 34) #[] #[]] w fun e w' => e = .returned (.tuple #[.int .i64 r1, .bool r2]) ∧ Below w.heap.size w w' := by
 have hu41 := Try.underlying41
 have HR0 := am hr0
 have HC0 := am hc0
 clear hr0 hc0
 have HR1_0 := am hr1_0
 have HC1_0 := am hc1_0
 clear hr1_0 hc1_0
 have HR1_2 := am hr1_2
 have HC1_2 := am hc1_2
 clear hr1_2 hc1_2
 have HR1_3 := am hr1_3
 have HC1_3 := am hc1_3
 clear hr1_3 hc1_3
 have HR1_4 := am hr1_4
 have HC1_4 := am hc1_4
 clear hr1_4 hc1_4
 have HB := am (Below.refl w.heap.size w)
 have H : (bsf_R1.l0 k l0 (l0.length : Int) 0 (l0.length : Int) l1_0 a1_1 l1_2 l1_3 l1_4) = some (r1, r2) := h
 clear h
 have H' := am H
 clear H
 go_enter Try.func37, Try.ntmps37
 go_wp2_with (first | ((with_reducible refine gate_dst (N := 4) rfl ?_); refine box_event ?hg (N := 4) ?hd (cs := #[.slice A1_0 l1_0.length c1_0, .int .i64 a1_1, .slice A1_2 l1_2.length c1_2, .slice A1_3 l1_3.length c1_3, .slice A1_4 l1_4.length c1_4]) (t := 41) ?hr ?_; (case hd => rfl); (case hg => rfl); (case hr => first | (go_simp; done) | (go_simp; rfl)); intro gb110 hg w3 hbox hb; have n0_ := am (below_step (by repeat (first | (with_reducible first | exact HB.out | apply below_alloc | apply pw_below_drewN | apply below_drew1) | exact HB.out)) hb); have n1_ := am (hbox); have n2_ := am ((by rw [hg]; exact (below_size (by repeat (first | (with_reducible first | exact HB.out | apply below_alloc | apply pw_below_drewN | apply below_drew1) | exact HB.out))) : w.heap.size ≤ gb110)); have n3_ := am ((by rw [hg]; exact (below_size (by repeat (first | (with_reducible first | exact HB.out | apply below_alloc | apply pw_below_drewN | apply below_drew1) | exact HB.out))) : w.heap.size ≤ gb110)); clear HB; have HB := n0_; have BK110 := n1_; have GW110 := n2_; have GE110 := n3_; clear n0_ n1_ n2_ n3_; clear hb hbox hg))
 go_loopg [9, 10] k (fun kq v9 v10 w' => ∃ (x9_1 : Int) (x10_1 : Int), v9 = .int .i64 x9_1 ∧ v10 = .int .i64 x10_1 ∧ Aside0 (bsf_R1.l0 kq l0 (l0.length : Int) x9_1 x10_1 l1_0 a1_1 l1_2 l1_3 l1_4 = some (r1, r2)) ∧ Aside0 (kq ≤ k) ∧ Aside0 (w'.heap[gb110]? = some (.cells #[(.slice A1_0 l1_0.length c1_0), .int .i64 a1_1, (.slice A1_2 l1_2.length c1_2), (.slice A1_3 l1_3.length c1_3), (.slice A1_4 l1_4.length c1_4)] 41 (0, 0))) ∧ Aside0 (Below w.heap.size w w'))
 case atStart => exact ⟨(0), ((l0.length : Int)), (by first | rfl | (simp; done) | (simp [*]; done)), (by first | rfl | (simp; done) | (simp [*]; done)), H', ⟨Nat.le_refl _⟩, ⟨by (with_reducible repeat (first | refine blk_drewN ?_ _ | refine blk_drew ?_ | refine blk_alloc ?_ _)); exact BK110.out⟩, ⟨by repeat (first | (with_reducible first | exact HB.out | apply below_alloc | apply pw_below_drewN | apply below_drew1 | refine below_set ?_ GE110.out) | exact HB.out)⟩⟩
 case round =>
  clear H'
  try clear c1
  try clear p2
  obtain ⟨x9_1, x10_1, rfl, rfl, HA, HK1, BK110, HB⟩ := hrel
  cases gk with
  | zero => exact absurd HA.out (by simp [bsf_R1.l0])
  | succ k1 =>
   have H := HA.out
   clear HA
   simp only [bsf_R1.l0] at H
   by_cases c4 : x9_1 < x10_1
   ·rw [if_pos c4] at H
    have c4b0 : decide (x9_1 < x10_1) = true := decide_eq_true c4
    clear c4
    obtain ⟨ji5, hji5⟩ : ∃ j_ : Int, (wrap64 ((IntKind.u64.wrap (wrap64 (x9_1 + x10_1))) / 2)) = j_ := ⟨_, rfl⟩
    replace H : (if 0 ≤ (ji5) then (if (ji5) < (l0.length : Int) then ((runs_by.f k1 ((rd_T41 l0 (ji5)).f0) ((rd_T41 l0 (ji5)).f1) ((rd_T41 l0 (ji5)).f2) ((rd_T41 l0 (ji5)).f3) ((rd_T41 l0 (ji5)).f4) l1_0 a1_1 l1_2 l1_3 l1_4).bind fun t112 => (if t112 < 0 then (bsf_R1.l0 k1 l0 (l0.length : Int) (wrap64 ((ji5) + 1)) x10_1 l1_0 a1_1 l1_2 l1_3 l1_4) else (bsf_R1.l0 k1 l0 (l0.length : Int) x9_1 ji5 l1_0 a1_1 l1_2 l1_3 l1_4))) else (none)) else (none)) = some (r1, r2) := by first | (rw [hji5] at H; exact H) | (simp only [hji5] at H ⊢; exact H)
    have hji5w : (IntKind.i64.wrap ((IntKind.u64.wrap (wrap64 (x9_1 + x10_1))) / 2)) = ji5 := (i64_w _).trans hji5
    by_cases c6 : 0 ≤ (ji5)
    ·rw [if_pos c6] at H
     have c6b0 : decide (0 ≤ (ji5)) = true := decide_eq_true c6
     clear c6
     by_cases c7 : (ji5) < (l0.length : Int)
     ·rw [if_pos c7] at H
      have c7b0 : decide ((ji5) < (l0.length : Int)) = true := decide_eq_true c7
      clear c7
      replace H := Option.bind_eq_some_iff.mp H
      obtain ⟨t112, A80, H⟩ := H
      replace H : (if t112 < 0 then (bsf_R1.l0 k1 l0 (l0.length : Int) (wrap64 ((ji5) + 1)) x10_1 l1_0 a1_1 l1_2 l1_3 l1_4) else (bsf_R1.l0 k1 l0 (l0.length : Int) x9_1 ji5 l1_0 a1_1 l1_2 l1_3 l1_4)) = some (r1, r2) := H
      have A8 := am A80
      clear A80
      by_cases c9 : t112 < 0
      ·rw [if_pos c9] at H
       have c9b0 : decide (t112 < 0) = true := decide_eq_true c9
       clear c9
       have H' := am H
       clear H
       try go_wp2
       have n0_ := am (blk_drew BK110.out)
       have n1_ := am (below_drew1 HB.out)
       clear BK110
       clear HB
       have BK110 := n0_
       have HB := n1_
       clear n0_ n1_
       have p111 : 0 ≤ ((ji5) : Int) := of_decide_eq_true (by first | (with_reducible assumption) | assumption)
       have q111 : (ji5) < (l0.length : Int) := of_decide_eq_true (by first | (with_reducible assumption) | assumption)
       obtain ⟨ad111, A111_0, c111_0, A111_2, c111_2, A111_3, c111_3, A111_4, c111_4, e111, hx111_0, hx111_1, hx111_2, hx111_3, hx111_4, hl111_0, hi111_0, hl111_2, hi111_2, hl111_3, hi111_3, hl111_4, hi111_4⟩ := at_T41 HR0.out (ji5) p111 q111
       have hw111_4 := hx111_4
       have hw111_3 := hx111_3
       have hw111_2 := hx111_2
       have hw111_1 := hx111_1
       have hw111_0 := hx111_0
       cases e111
       replace hx111_0 := (HB.out.cell (World.block_lt_of_cell? w _ hx111_0)).trans hx111_0
       replace hx111_1 := (HB.out.cell (World.block_lt_of_cell? w _ hx111_1)).trans hx111_1
       replace hx111_2 := (HB.out.cell (World.block_lt_of_cell? w _ hx111_2)).trans hx111_2
       replace hx111_3 := (HB.out.cell (World.block_lt_of_cell? w _ hx111_3)).trans hx111_3
       replace hx111_4 := (HB.out.cell (World.block_lt_of_cell? w _ hx111_4)).trans hx111_4
       have HR111_0 := am hi111_0
       have HC111_0 := am hl111_0
       clear hi111_0 hl111_0
       have HR111_2 := am hi111_2
       have HC111_2 := am hl111_2
       clear hi111_2 hl111_2
       have HR111_3 := am hi111_3
       have HC111_3 := am hl111_3
       clear hi111_3 hl111_3
       have HR111_4 := am hi111_4
       have HC111_4 := am hl111_4
       clear hi111_4 hl111_4
       replace p111 := eq_true p111
       replace q111 := eq_true q111
       refine start_ (n := 8) (S := fun w' => w'.cell? ⟨gb110, 0, none⟩ = some (.slice A1_0 l1_0.length c1_0) ∧ w'.cell? ⟨gb110, 1, none⟩ = some (.int .i64 a1_1) ∧ w'.cell? ⟨gb110, 2, none⟩ = some (.slice A1_2 l1_2.length c1_2) ∧ w'.cell? ⟨gb110, 3, none⟩ = some (.slice A1_3 l1_3.length c1_3) ∧ w'.cell? ⟨gb110, 4, none⟩ = some (.slice A1_4 l1_4.length c1_4) ∧ w'.cell? (ad111.add (((ji5)).toNat * 5)) = some (.slice A111_0 ((rd_T41 l0 (ji5)).f0).length c111_0) ∧ w'.cell? ⟨(ad111.add (((ji5)).toNat * 5)).block, (ad111.add (((ji5)).toNat * 5)).off + 1, none⟩ = some (.int .i64 ((rd_T41 l0 (ji5)).f1)) ∧ w'.cell? ⟨(ad111.add (((ji5)).toNat * 5)).block, (ad111.add (((ji5)).toNat * 5)).off + 2, none⟩ = some (.slice A111_2 ((rd_T41 l0 (ji5)).f2).length c111_2) ∧ w'.cell? ⟨(ad111.add (((ji5)).toNat * 5)).block, (ad111.add (((ji5)).toNat * 5)).off + 3, none⟩ = some (.slice A111_3 ((rd_T41 l0 (ji5)).f3).length c111_3) ∧ w'.cell? ⟨(ad111.add (((ji5)).toNat * 5)).block, (ad111.add (((ji5)).toNat * 5)).off + 4, none⟩ = some (.slice A111_4 ((rd_T41 l0 (ji5)).f4).length c111_4)) (ds := []) (bb 8 0) (by kernel_rfl) rfl rfl ⟨(blk_cell BK110.out 0).trans rfl, (blk_cell BK110.out 1).trans rfl, (blk_cell BK110.out 2).trans rfl, (blk_cell BK110.out 3).trans rfl, (blk_cell BK110.out 4).trans rfl, ((HB.out.cell (World.block_lt_of_cell? w _ hw111_0)).trans hw111_0), ((HB.out.cell (World.block_lt_of_cell? w _ hw111_1)).trans hw111_1), ((HB.out.cell (World.block_lt_of_cell? w _ hw111_2)).trans hw111_2), ((HB.out.cell (World.block_lt_of_cell? w _ hw111_3)).trans hw111_3), ((HB.out.cell (World.block_lt_of_cell? w _ hw111_4)).trans hw111_4)⟩ (fun hHeld => ?_); refine with_tabW bsf_R1.tab5 bsf_R1.bits5 (fun HT_ HW_ => ?_)
       generalize wr.drew = w10 at BK110 HB HR111_0 HR111_2 HR111_3 HR111_4 hx111_0 hx111_1 hx111_2 hx111_3 hx111_4 hHeld ⊢
       refine pure_ (i := 0) (N := some 24) (v := ?_) (a' := ?_) (bb 8 1) rfl rfl (any_of HT_.out (by kernel_rfl)) (fun _ _ _ h => h) (Or.inl ⟨by rfl, ?_⟩) ?_ ?_
       rotate_left
       ·intro w'
        go_simp
        with_reducible rfl
       rotate_left
       ·simp only [Act.put, List.setIfInBounds_toArray, List.set_cons_zero, List.set_cons_succ, i64_w, i32_w]
        rfl
       refine pure_ (i := 1) (N := some 25) (v := ?_) (a' := ?_) (bb 8 3) rfl rfl (any_of HT_.out (by kernel_rfl)) (fun _ _ _ h => h) (Or.inl ⟨by rfl, ?_⟩) ?_ ?_
       rotate_left
       ·intro w'
        go_simp
        with_reducible rfl
       rotate_left
       ·simp only [Act.put, List.setIfInBounds_toArray, List.set_cons_zero, List.set_cons_succ, i64_w, i32_w]
        rfl
       refine pure_ (i := 2) (N := some 26) (v := ?_) (a' := ?_) (bb 8 7) rfl rfl (any_of HT_.out (by kernel_rfl)) (fun _ _ _ h => h) (Or.inl ⟨by rfl, ?_⟩) ?_ ?_
       rotate_left
       ·intro w'
        go_simp
        with_reducible rfl
       rotate_left
       ·simp only [Act.put, List.setIfInBounds_toArray, List.set_cons_zero, List.set_cons_succ, i64_w, i32_w]
        rfl
       refine pure_ (i := 3) (N := some 27) (v := ?_) (a' := ?_) (bb 8 15) rfl rfl (any_of HT_.out (by kernel_rfl)) (fun _ _ _ h => h) (Or.inl ⟨by rfl, ?_⟩) ?_ ?_
       rotate_left
       ·intro w'
        go_simp
        with_reducible rfl
       rotate_left
       ·simp only [Act.put, List.setIfInBounds_toArray, List.set_cons_zero, List.set_cons_succ, i64_w, i32_w]
        rfl
       refine take_ (i := 4) (N := some 28) (v := ?_) (a' := ?_) (bb 8 31) rfl rfl (take_ofW HT_.out HW_.out (by kernel_rfl)) (fun _ _ _ h => h) (Or.inl ⟨by rfl, ?_⟩) hHeld ?_ ?_
       rotate_left
       ·rintro w' ⟨s0, s1, s2, s3, s4, s5, s6, s7, s8, s9⟩
        go_simp
        with_reducible rfl
       rotate_left
       ·simp only [Act.put, List.setIfInBounds_toArray, List.set_cons_zero, List.set_cons_succ, i64_w, i32_w]
        rfl
       refine take_ (i := 5) (N := some 29) (v := ?_) (a' := ?_) (bb 8 63) rfl rfl (take_ofW HT_.out HW_.out (by kernel_rfl)) (fun _ _ _ h => h) (Or.inl ⟨by rfl, ?_⟩) hHeld ?_ ?_
       rotate_left
       ·rintro w' ⟨s0, s1, s2, s3, s4, s5, s6, s7, s8, s9⟩
        go_simp
        with_reducible rfl
       rotate_left
       ·simp only [Act.put, List.setIfInBounds_toArray, List.set_cons_zero, List.set_cons_succ, i64_w, i32_w]
        rfl
       refine one_ (i := 6) (N := some 30) (bb 8 127) rfl rfl (one_of HT_.out (by kernel_rfl)) (by decide) (fun K hK => ?_)
       refine goesv_ Try.func34 (by kernel_rfl) rfl #[.agg #[.slice A111_0 ((rd_T41 l0 (ji5)).f0).length c111_0, .int .i64 ((rd_T41 l0 (ji5)).f1), .slice A111_2 ((rd_T41 l0 (ji5)).f2).length c111_2, .slice A111_3 ((rd_T41 l0 (ji5)).f3).length c111_3, .slice A111_4 ((rd_T41 l0 (ji5)).f4).length c111_4], .agg #[.slice A1_0 l1_0.length c1_0, .int .i64 a1_1, .slice A1_2 l1_2.length c1_2, .slice A1_3 l1_3.length c1_3, .slice A1_4 l1_4.length c1_4]] (by rfl) rfl rfl (by (try simp only [List.map_toArray, List.map_cons, List.map_nil]); first | done | (simp only [hji5]; rfl) | rfl | (simp only [List.length_drop, List.length_take]; rfl)) ?_
       with_reducible refine (runs_by.calls k1 _ _ ((rd_T41 l0 (ji5)).f0) ((rd_T41 l0 (ji5)).f1) _ _ ((rd_T41 l0 (ji5)).f2) _ _ ((rd_T41 l0 (ji5)).f3) _ _ ((rd_T41 l0 (ji5)).f4) _ _ l1_0 a1_1 _ _ l1_2 _ _ l1_3 _ _ l1_4 t112 _ ?side1 ?side2 ?side3 ?side4 ?side5 ?side6 ?side7 ?side8 ?side9 ?side10 ?side11 ?side12 ?side13 ?side14 ?side15 ?side16 A8.out).mono ?_
       (case side1 => repeat (first | exact (Kd.C_below HR111_0.out HB.out) | (with_reducible refine Kd.C_alloc ?_ _) | (with_reducible refine Kd.C_drewN ?_ _) | (with_reducible refine Kd.C_drew ?_)))
       (case side2 => exact HC111_0.out)
       (case side3 => repeat (first | exact (Kd.C_below HR111_2.out HB.out) | (with_reducible refine Kd.C_alloc ?_ _) | (with_reducible refine Kd.C_drewN ?_ _) | (with_reducible refine Kd.C_drew ?_)))
       (case side4 => exact HC111_2.out)
       (case side5 => repeat (first | exact (Kd.C_below HR111_3.out HB.out) | (with_reducible refine Kd.C_alloc ?_ _) | (with_reducible refine Kd.C_drewN ?_ _) | (with_reducible refine Kd.C_drew ?_)))
       (case side6 => exact HC111_3.out)
       (case side7 => repeat (first | exact (Kd.C_below HR111_4.out HB.out) | (with_reducible refine Kd.C_alloc ?_ _) | (with_reducible refine Kd.C_drewN ?_ _) | (with_reducible refine Kd.C_drew ?_)))
       (case side8 => exact HC111_4.out)
       (case side9 => repeat (first | exact (Kd.C_below HR1_0.out HB.out) | (with_reducible refine Kd.C_alloc ?_ _) | (with_reducible refine Kd.C_drewN ?_ _) | (with_reducible refine Kd.C_drew ?_)))
       (case side10 => exact HC1_0.out)
       (case side11 => repeat (first | exact (Kd.C_below HR1_2.out HB.out) | (with_reducible refine Kd.C_alloc ?_ _) | (with_reducible refine Kd.C_drewN ?_ _) | (with_reducible refine Kd.C_drew ?_)))
       (case side12 => exact HC1_2.out)
       (case side13 => repeat (first | exact (Kd.C_below HR1_3.out HB.out) | (with_reducible refine Kd.C_alloc ?_ _) | (with_reducible refine Kd.C_drewN ?_ _) | (with_reducible refine Kd.C_drew ?_)))
       (case side14 => exact HC1_3.out)
       (case side15 => repeat (first | exact (Kd.C_below HR1_4.out HB.out) | (with_reducible refine Kd.C_alloc ?_ _) | (with_reducible refine Kd.C_drewN ?_ _) | (with_reducible refine Kd.C_drew ?_)))
       (case side16 => exact HC1_4.out)
       rintro e w11 ⟨rfl, hb⟩
       refine ⟨_, rfl, ?_⟩
       have n0_ := am (blk_below (g := gb110) (o := .cells #[.slice A1_0 l1_0.length c1_0, .int .i64 a1_1, .slice A1_2 l1_2.length c1_2, .slice A1_3 l1_3.length c1_3, .slice A1_4 l1_4.length c1_4] 41 (0, 0)) (by (with_reducible repeat (first | refine blk_drewN ?_ _ | refine blk_drew ?_ | refine blk_alloc ?_ _)); exact BK110.out) hb)
       have n1_ := am (below_step (by repeat (first | (with_reducible first | exact HB.out | apply below_alloc | apply pw_below_drewN | apply below_drew1 | refine below_set ?_ GE110.out) | exact HB.out)) hb)
       clear BK110
       clear HB
       have BK110 := n0_
       have HB := n1_
       clear n0_ n1_
       (try clear hb)
       (try clear hb2)
       (try clear hk)
       (try clear hi)
       refine hK.out _ _ ⟨(blk_cell BK110.out 0).trans rfl, (blk_cell BK110.out 1).trans rfl, (blk_cell BK110.out 2).trans rfl, (blk_cell BK110.out 3).trans rfl, (blk_cell BK110.out 4).trans rfl, ((HB.out.cell (World.block_lt_of_cell? w _ hw111_0)).trans hw111_0), ((HB.out.cell (World.block_lt_of_cell? w _ hw111_1)).trans hw111_1), ((HB.out.cell (World.block_lt_of_cell? w _ hw111_2)).trans hw111_2), ((HB.out.cell (World.block_lt_of_cell? w _ hw111_3)).trans hw111_3), ((HB.out.cell (World.block_lt_of_cell? w _ hw111_4)).trans hw111_4)⟩ (fun hHeld => ?_)
       clear hK K
       refine norm_ (a' := ?_) ?_ ?_
       rotate_left
       ·show Act.put _ (some 30) _ = _
        simp only [Act.put, List.setIfInBounds_toArray, List.set_cons_zero, List.set_cons_succ, i64_w, i32_w]
        rfl
       refine pure_ (i := 7) (N := some 31) (v := ?_) (a' := ?_) (bb 8 255) rfl rfl (any_of HT_.out (by kernel_rfl)) (fun _ _ _ h => h) (Or.inl ⟨by rfl, ?_⟩) ?_ ?_
       rotate_left
       ·intro w'
        go_simp
        with_reducible rfl
       rotate_left
       ·simp only [Act.put, List.setIfInBounds_toArray, List.set_cons_zero, List.set_cons_succ, i64_w, i32_w]
        rfl
       refine done_ (done_of HT_.out (by kernel_rfl)) ?_
       try go_wp2
       go_roundg k1
       case measure => have := HK1.out; omega
       case rel => exact ⟨(wrap64 ((ji5) + 1)), (x10_1), (by first | rfl | (simp; done) | (simp only [← hji5] <;> (first | rfl | simp)) | (simp [*]; done)), (by first | rfl | (simp; done) | (simp [*]; done)), H', ⟨by have := HK1.out; omega⟩, ⟨by (with_reducible repeat (first | refine blk_drewN ?_ _ | refine blk_drew ?_ | refine blk_alloc ?_ _)); exact BK110.out⟩, ⟨by repeat (first | (with_reducible first | exact HB.out | apply below_alloc | apply pw_below_drewN | apply below_drew1 | refine below_set ?_ GE110.out) | exact HB.out)⟩⟩
      ·rw [if_neg c9] at H
       have c9b0 : decide (t112 < 0) = false := decide_eq_false c9
       clear c9
       have H' := am H
       clear H
       try go_wp2
       have n0_ := am (blk_drew BK110.out)
       have n1_ := am (below_drew1 HB.out)
       clear BK110
       clear HB
       have BK110 := n0_
       have HB := n1_
       clear n0_ n1_
       have p111 : 0 ≤ ((ji5) : Int) := of_decide_eq_true (by first | (with_reducible assumption) | assumption)
       have q111 : (ji5) < (l0.length : Int) := of_decide_eq_true (by first | (with_reducible assumption) | assumption)
       obtain ⟨ad111, A111_0, c111_0, A111_2, c111_2, A111_3, c111_3, A111_4, c111_4, e111, hx111_0, hx111_1, hx111_2, hx111_3, hx111_4, hl111_0, hi111_0, hl111_2, hi111_2, hl111_3, hi111_3, hl111_4, hi111_4⟩ := at_T41 HR0.out (ji5) p111 q111
       have hw111_4 := hx111_4
       have hw111_3 := hx111_3
       have hw111_2 := hx111_2
       have hw111_1 := hx111_1
       have hw111_0 := hx111_0
       cases e111
       replace hx111_0 := (HB.out.cell (World.block_lt_of_cell? w _ hx111_0)).trans hx111_0
       replace hx111_1 := (HB.out.cell (World.block_lt_of_cell? w _ hx111_1)).trans hx111_1
       replace hx111_2 := (HB.out.cell (World.block_lt_of_cell? w _ hx111_2)).trans hx111_2
       replace hx111_3 := (HB.out.cell (World.block_lt_of_cell? w _ hx111_3)).trans hx111_3
       replace hx111_4 := (HB.out.cell (World.block_lt_of_cell? w _ hx111_4)).trans hx111_4
       have HR111_0 := am hi111_0
       have HC111_0 := am hl111_0
       clear hi111_0 hl111_0
       have HR111_2 := am hi111_2
       have HC111_2 := am hl111_2
       clear hi111_2 hl111_2
       have HR111_3 := am hi111_3
       have HC111_3 := am hl111_3
       clear hi111_3 hl111_3
       have HR111_4 := am hi111_4
       have HC111_4 := am hl111_4
       clear hi111_4 hl111_4
       replace p111 := eq_true p111
       replace q111 := eq_true q111
       refine start_ (n := 8) (S := fun w' => w'.cell? ⟨gb110, 0, none⟩ = some (.slice A1_0 l1_0.length c1_0) ∧ w'.cell? ⟨gb110, 1, none⟩ = some (.int .i64 a1_1) ∧ w'.cell? ⟨gb110, 2, none⟩ = some (.slice A1_2 l1_2.length c1_2) ∧ w'.cell? ⟨gb110, 3, none⟩ = some (.slice A1_3 l1_3.length c1_3) ∧ w'.cell? ⟨gb110, 4, none⟩ = some (.slice A1_4 l1_4.length c1_4) ∧ w'.cell? (ad111.add (((ji5)).toNat * 5)) = some (.slice A111_0 ((rd_T41 l0 (ji5)).f0).length c111_0) ∧ w'.cell? ⟨(ad111.add (((ji5)).toNat * 5)).block, (ad111.add (((ji5)).toNat * 5)).off + 1, none⟩ = some (.int .i64 ((rd_T41 l0 (ji5)).f1)) ∧ w'.cell? ⟨(ad111.add (((ji5)).toNat * 5)).block, (ad111.add (((ji5)).toNat * 5)).off + 2, none⟩ = some (.slice A111_2 ((rd_T41 l0 (ji5)).f2).length c111_2) ∧ w'.cell? ⟨(ad111.add (((ji5)).toNat * 5)).block, (ad111.add (((ji5)).toNat * 5)).off + 3, none⟩ = some (.slice A111_3 ((rd_T41 l0 (ji5)).f3).length c111_3) ∧ w'.cell? ⟨(ad111.add (((ji5)).toNat * 5)).block, (ad111.add (((ji5)).toNat * 5)).off + 4, none⟩ = some (.slice A111_4 ((rd_T41 l0 (ji5)).f4).length c111_4)) (ds := []) (bb 8 0) (by kernel_rfl) rfl rfl ⟨(blk_cell BK110.out 0).trans rfl, (blk_cell BK110.out 1).trans rfl, (blk_cell BK110.out 2).trans rfl, (blk_cell BK110.out 3).trans rfl, (blk_cell BK110.out 4).trans rfl, ((HB.out.cell (World.block_lt_of_cell? w _ hw111_0)).trans hw111_0), ((HB.out.cell (World.block_lt_of_cell? w _ hw111_1)).trans hw111_1), ((HB.out.cell (World.block_lt_of_cell? w _ hw111_2)).trans hw111_2), ((HB.out.cell (World.block_lt_of_cell? w _ hw111_3)).trans hw111_3), ((HB.out.cell (World.block_lt_of_cell? w _ hw111_4)).trans hw111_4)⟩ (fun hHeld => ?_); refine with_tabW bsf_R1.tab5 bsf_R1.bits5 (fun HT_ HW_ => ?_)
       generalize wr.drew = w12 at BK110 HB HR111_0 HR111_2 HR111_3 HR111_4 hx111_0 hx111_1 hx111_2 hx111_3 hx111_4 hHeld ⊢
       refine pure_ (i := 0) (N := some 24) (v := ?_) (a' := ?_) (bb 8 1) rfl rfl (any_of HT_.out (by kernel_rfl)) (fun _ _ _ h => h) (Or.inl ⟨by rfl, ?_⟩) ?_ ?_
       rotate_left
       ·intro w'
        go_simp
        with_reducible rfl
       rotate_left
       ·simp only [Act.put, List.setIfInBounds_toArray, List.set_cons_zero, List.set_cons_succ, i64_w, i32_w]
        rfl
       refine pure_ (i := 1) (N := some 25) (v := ?_) (a' := ?_) (bb 8 3) rfl rfl (any_of HT_.out (by kernel_rfl)) (fun _ _ _ h => h) (Or.inl ⟨by rfl, ?_⟩) ?_ ?_
       rotate_left
       ·intro w'
        go_simp
        with_reducible rfl
       rotate_left
       ·simp only [Act.put, List.setIfInBounds_toArray, List.set_cons_zero, List.set_cons_succ, i64_w, i32_w]
        rfl
       refine pure_ (i := 2) (N := some 26) (v := ?_) (a' := ?_) (bb 8 7) rfl rfl (any_of HT_.out (by kernel_rfl)) (fun _ _ _ h => h) (Or.inl ⟨by rfl, ?_⟩) ?_ ?_
       rotate_left
       ·intro w'
        go_simp
        with_reducible rfl
       rotate_left
       ·simp only [Act.put, List.setIfInBounds_toArray, List.set_cons_zero, List.set_cons_succ, i64_w, i32_w]
        rfl
       refine pure_ (i := 3) (N := some 27) (v := ?_) (a' := ?_) (bb 8 15) rfl rfl (any_of HT_.out (by kernel_rfl)) (fun _ _ _ h => h) (Or.inl ⟨by rfl, ?_⟩) ?_ ?_
       rotate_left
       ·intro w'
        go_simp
        with_reducible rfl
       rotate_left
       ·simp only [Act.put, List.setIfInBounds_toArray, List.set_cons_zero, List.set_cons_succ, i64_w, i32_w]
        rfl
       refine take_ (i := 4) (N := some 28) (v := ?_) (a' := ?_) (bb 8 31) rfl rfl (take_ofW HT_.out HW_.out (by kernel_rfl)) (fun _ _ _ h => h) (Or.inl ⟨by rfl, ?_⟩) hHeld ?_ ?_
       rotate_left
       ·rintro w' ⟨s0, s1, s2, s3, s4, s5, s6, s7, s8, s9⟩
        go_simp
        with_reducible rfl
       rotate_left
       ·simp only [Act.put, List.setIfInBounds_toArray, List.set_cons_zero, List.set_cons_succ, i64_w, i32_w]
        rfl
       refine take_ (i := 5) (N := some 29) (v := ?_) (a' := ?_) (bb 8 63) rfl rfl (take_ofW HT_.out HW_.out (by kernel_rfl)) (fun _ _ _ h => h) (Or.inl ⟨by rfl, ?_⟩) hHeld ?_ ?_
       rotate_left
       ·rintro w' ⟨s0, s1, s2, s3, s4, s5, s6, s7, s8, s9⟩
        go_simp
        with_reducible rfl
       rotate_left
       ·simp only [Act.put, List.setIfInBounds_toArray, List.set_cons_zero, List.set_cons_succ, i64_w, i32_w]
        rfl
       refine one_ (i := 6) (N := some 30) (bb 8 127) rfl rfl (one_of HT_.out (by kernel_rfl)) (by decide) (fun K hK => ?_)
       refine goesv_ Try.func34 (by kernel_rfl) rfl #[.agg #[.slice A111_0 ((rd_T41 l0 (ji5)).f0).length c111_0, .int .i64 ((rd_T41 l0 (ji5)).f1), .slice A111_2 ((rd_T41 l0 (ji5)).f2).length c111_2, .slice A111_3 ((rd_T41 l0 (ji5)).f3).length c111_3, .slice A111_4 ((rd_T41 l0 (ji5)).f4).length c111_4], .agg #[.slice A1_0 l1_0.length c1_0, .int .i64 a1_1, .slice A1_2 l1_2.length c1_2, .slice A1_3 l1_3.length c1_3, .slice A1_4 l1_4.length c1_4]] (by rfl) rfl rfl (by (try simp only [List.map_toArray, List.map_cons, List.map_nil]); first | done | (simp only [hji5]; rfl) | rfl | (simp only [List.length_drop, List.length_take]; rfl)) ?_
       with_reducible refine (runs_by.calls k1 _ _ ((rd_T41 l0 (ji5)).f0) ((rd_T41 l0 (ji5)).f1) _ _ ((rd_T41 l0 (ji5)).f2) _ _ ((rd_T41 l0 (ji5)).f3) _ _ ((rd_T41 l0 (ji5)).f4) _ _ l1_0 a1_1 _ _ l1_2 _ _ l1_3 _ _ l1_4 t112 _ ?side1 ?side2 ?side3 ?side4 ?side5 ?side6 ?side7 ?side8 ?side9 ?side10 ?side11 ?side12 ?side13 ?side14 ?side15 ?side16 A8.out).mono ?_
       (case side1 => repeat (first | exact (Kd.C_below HR111_0.out HB.out) | (with_reducible refine Kd.C_alloc ?_ _) | (with_reducible refine Kd.C_drewN ?_ _) | (with_reducible refine Kd.C_drew ?_)))
       (case side2 => exact HC111_0.out)
       (case side3 => repeat (first | exact (Kd.C_below HR111_2.out HB.out) | (with_reducible refine Kd.C_alloc ?_ _) | (with_reducible refine Kd.C_drewN ?_ _) | (with_reducible refine Kd.C_drew ?_)))
       (case side4 => exact HC111_2.out)
       (case side5 => repeat (first | exact (Kd.C_below HR111_3.out HB.out) | (with_reducible refine Kd.C_alloc ?_ _) | (with_reducible refine Kd.C_drewN ?_ _) | (with_reducible refine Kd.C_drew ?_)))
       (case side6 => exact HC111_3.out)
       (case side7 => repeat (first | exact (Kd.C_below HR111_4.out HB.out) | (with_reducible refine Kd.C_alloc ?_ _) | (with_reducible refine Kd.C_drewN ?_ _) | (with_reducible refine Kd.C_drew ?_)))
       (case side8 => exact HC111_4.out)
       (case side9 => repeat (first | exact (Kd.C_below HR1_0.out HB.out) | (with_reducible refine Kd.C_alloc ?_ _) | (with_reducible refine Kd.C_drewN ?_ _) | (with_reducible refine Kd.C_drew ?_)))
       (case side10 => exact HC1_0.out)
       (case side11 => repeat (first | exact (Kd.C_below HR1_2.out HB.out) | (with_reducible refine Kd.C_alloc ?_ _) | (with_reducible refine Kd.C_drewN ?_ _) | (with_reducible refine Kd.C_drew ?_)))
       (case side12 => exact HC1_2.out)
       (case side13 => repeat (first | exact (Kd.C_below HR1_3.out HB.out) | (with_reducible refine Kd.C_alloc ?_ _) | (with_reducible refine Kd.C_drewN ?_ _) | (with_reducible refine Kd.C_drew ?_)))
       (case side14 => exact HC1_3.out)
       (case side15 => repeat (first | exact (Kd.C_below HR1_4.out HB.out) | (with_reducible refine Kd.C_alloc ?_ _) | (with_reducible refine Kd.C_drewN ?_ _) | (with_reducible refine Kd.C_drew ?_)))
       (case side16 => exact HC1_4.out)
       rintro e w13 ⟨rfl, hb⟩
       refine ⟨_, rfl, ?_⟩
       have n0_ := am (blk_below (g := gb110) (o := .cells #[.slice A1_0 l1_0.length c1_0, .int .i64 a1_1, .slice A1_2 l1_2.length c1_2, .slice A1_3 l1_3.length c1_3, .slice A1_4 l1_4.length c1_4] 41 (0, 0)) (by (with_reducible repeat (first | refine blk_drewN ?_ _ | refine blk_drew ?_ | refine blk_alloc ?_ _)); exact BK110.out) hb)
       have n1_ := am (below_step (by repeat (first | (with_reducible first | exact HB.out | apply below_alloc | apply pw_below_drewN | apply below_drew1 | refine below_set ?_ GE110.out) | exact HB.out)) hb)
       clear BK110
       clear HB
       have BK110 := n0_
       have HB := n1_
       clear n0_ n1_
       (try clear hb)
       (try clear hb2)
       (try clear hk)
       (try clear hi)
       refine hK.out _ _ ⟨(blk_cell BK110.out 0).trans rfl, (blk_cell BK110.out 1).trans rfl, (blk_cell BK110.out 2).trans rfl, (blk_cell BK110.out 3).trans rfl, (blk_cell BK110.out 4).trans rfl, ((HB.out.cell (World.block_lt_of_cell? w _ hw111_0)).trans hw111_0), ((HB.out.cell (World.block_lt_of_cell? w _ hw111_1)).trans hw111_1), ((HB.out.cell (World.block_lt_of_cell? w _ hw111_2)).trans hw111_2), ((HB.out.cell (World.block_lt_of_cell? w _ hw111_3)).trans hw111_3), ((HB.out.cell (World.block_lt_of_cell? w _ hw111_4)).trans hw111_4)⟩ (fun hHeld => ?_)
       clear hK K
       refine norm_ (a' := ?_) ?_ ?_
       rotate_left
       ·show Act.put _ (some 30) _ = _
        simp only [Act.put, List.setIfInBounds_toArray, List.set_cons_zero, List.set_cons_succ, i64_w, i32_w]
        rfl
       refine pure_ (i := 7) (N := some 31) (v := ?_) (a' := ?_) (bb 8 255) rfl rfl (any_of HT_.out (by kernel_rfl)) (fun _ _ _ h => h) (Or.inl ⟨by rfl, ?_⟩) ?_ ?_
       rotate_left
       ·intro w'
        go_simp
        with_reducible rfl
       rotate_left
       ·simp only [Act.put, List.setIfInBounds_toArray, List.set_cons_zero, List.set_cons_succ, i64_w, i32_w]
        rfl
       refine done_ (done_of HT_.out (by kernel_rfl)) ?_
       try go_wp2
       go_roundg k1
       case measure => have := HK1.out; omega
       case rel => exact ⟨(x9_1), (ji5), (by first | rfl | (simp; done) | (simp [*]; done)), (by first | rfl | (simp; done) | (simp only [← hji5] <;> (first | rfl | simp)) | (simp [*]; done)), H', ⟨by have := HK1.out; omega⟩, ⟨by (with_reducible repeat (first | refine blk_drewN ?_ _ | refine blk_drew ?_ | refine blk_alloc ?_ _)); exact BK110.out⟩, ⟨by repeat (first | (with_reducible first | exact HB.out | apply below_alloc | apply pw_below_drewN | apply below_drew1 | refine below_set ?_ GE110.out) | exact HB.out)⟩⟩
     ·rw [if_neg c7] at H
      exact absurd H (by simp)
    ·rw [if_neg c6] at H
     exact absurd H (by simp)
   ·rw [if_neg c4] at H
    have c4b0 : decide (x9_1 < x10_1) = false := decide_eq_false c4
    clear c4
    by_cases c14 : x9_1 < (l0.length : Int)
    ·rw [if_pos c14] at H
     have c14b0 : decide (x9_1 < (l0.length : Int)) = true := decide_eq_true c14
     clear c14
     by_cases c15 : 0 ≤ x9_1
     ·rw [if_pos c15] at H
      have c15b0 : decide (0 ≤ x9_1) = true := decide_eq_true c15
      clear c15
      by_cases c16 : x9_1 < (l0.length : Int)
      ·rw [if_pos c16] at H
       have c16b0 : decide (x9_1 < (l0.length : Int)) = true := decide_eq_true c16
       clear c16
       replace H := Option.bind_eq_some_iff.mp H
       obtain ⟨t114, A170, H⟩ := H
       replace H : (some (x9_1, (t114 == 0))) = some (r1, r2) := H
       have A17 := am A170
       clear A170
       simp only [Option.some.injEq, Prod.mk.injEq] at H
       obtain ⟨rfl, rfl⟩ := H
       try go_wp2
       have n0_ := am (blk_drew BK110.out)
       have n1_ := am (below_drew1 HB.out)
       clear BK110
       clear HB
       have BK110 := n0_
       have HB := n1_
       clear n0_ n1_
       have p113 : 0 ≤ (x9_1 : Int) := of_decide_eq_true (by first | (with_reducible assumption) | assumption)
       have q113 : x9_1 < (l0.length : Int) := of_decide_eq_true (by first | (with_reducible assumption) | assumption)
       obtain ⟨ad113, A113_0, c113_0, A113_2, c113_2, A113_3, c113_3, A113_4, c113_4, e113, hx113_0, hx113_1, hx113_2, hx113_3, hx113_4, hl113_0, hi113_0, hl113_2, hi113_2, hl113_3, hi113_3, hl113_4, hi113_4⟩ := at_T41 HR0.out x9_1 p113 q113
       have hw113_4 := hx113_4
       have hw113_3 := hx113_3
       have hw113_2 := hx113_2
       have hw113_1 := hx113_1
       have hw113_0 := hx113_0
       cases e113
       replace hx113_0 := (HB.out.cell (World.block_lt_of_cell? w _ hx113_0)).trans hx113_0
       replace hx113_1 := (HB.out.cell (World.block_lt_of_cell? w _ hx113_1)).trans hx113_1
       replace hx113_2 := (HB.out.cell (World.block_lt_of_cell? w _ hx113_2)).trans hx113_2
       replace hx113_3 := (HB.out.cell (World.block_lt_of_cell? w _ hx113_3)).trans hx113_3
       replace hx113_4 := (HB.out.cell (World.block_lt_of_cell? w _ hx113_4)).trans hx113_4
       have HR113_0 := am hi113_0
       have HC113_0 := am hl113_0
       clear hi113_0 hl113_0
       have HR113_2 := am hi113_2
       have HC113_2 := am hl113_2
       clear hi113_2 hl113_2
       have HR113_3 := am hi113_3
       have HC113_3 := am hl113_3
       clear hi113_3 hl113_3
       have HR113_4 := am hi113_4
       have HC113_4 := am hl113_4
       clear hi113_4 hl113_4
       replace p113 := eq_true p113
       replace q113 := eq_true q113
       refine start_ (n := 16) (S := fun w' => w'.cell? ⟨gb110, 0, none⟩ = some (.slice A1_0 l1_0.length c1_0) ∧ w'.cell? ⟨gb110, 1, none⟩ = some (.int .i64 a1_1) ∧ w'.cell? ⟨gb110, 2, none⟩ = some (.slice A1_2 l1_2.length c1_2) ∧ w'.cell? ⟨gb110, 3, none⟩ = some (.slice A1_3 l1_3.length c1_3) ∧ w'.cell? ⟨gb110, 4, none⟩ = some (.slice A1_4 l1_4.length c1_4) ∧ w'.cell? (ad113.add ((x9_1).toNat * 5)) = some (.slice A113_0 ((rd_T41 l0 x9_1).f0).length c113_0) ∧ w'.cell? ⟨(ad113.add ((x9_1).toNat * 5)).block, (ad113.add ((x9_1).toNat * 5)).off + 1, none⟩ = some (.int .i64 ((rd_T41 l0 x9_1).f1)) ∧ w'.cell? ⟨(ad113.add ((x9_1).toNat * 5)).block, (ad113.add ((x9_1).toNat * 5)).off + 2, none⟩ = some (.slice A113_2 ((rd_T41 l0 x9_1).f2).length c113_2) ∧ w'.cell? ⟨(ad113.add ((x9_1).toNat * 5)).block, (ad113.add ((x9_1).toNat * 5)).off + 3, none⟩ = some (.slice A113_3 ((rd_T41 l0 x9_1).f3).length c113_3) ∧ w'.cell? ⟨(ad113.add ((x9_1).toNat * 5)).block, (ad113.add ((x9_1).toNat * 5)).off + 4, none⟩ = some (.slice A113_4 ((rd_T41 l0 x9_1).f4).length c113_4)) (ds := []) (bb 16 0) (by kernel_rfl) rfl rfl ⟨(blk_cell BK110.out 0).trans rfl, (blk_cell BK110.out 1).trans rfl, (blk_cell BK110.out 2).trans rfl, (blk_cell BK110.out 3).trans rfl, (blk_cell BK110.out 4).trans rfl, ((HB.out.cell (World.block_lt_of_cell? w _ hw113_0)).trans hw113_0), ((HB.out.cell (World.block_lt_of_cell? w _ hw113_1)).trans hw113_1), ((HB.out.cell (World.block_lt_of_cell? w _ hw113_2)).trans hw113_2), ((HB.out.cell (World.block_lt_of_cell? w _ hw113_3)).trans hw113_3), ((HB.out.cell (World.block_lt_of_cell? w _ hw113_4)).trans hw113_4)⟩ (fun hHeld => ?_); refine with_tabW bsf_R1.tab8 bsf_R1.bits8 (fun HT_ HW_ => ?_)
       generalize wr.drew = w18 at BK110 HB HR113_0 HR113_2 HR113_3 HR113_4 hx113_0 hx113_1 hx113_2 hx113_3 hx113_4 hHeld ⊢
       refine pure_ (i := 0) (N := some 35) (v := ?_) (a' := ?_) (bb 16 1) rfl rfl (any_of HT_.out (by kernel_rfl)) (fun _ _ _ h => h) (Or.inl ⟨by rfl, ?_⟩) ?_ ?_
       rotate_left
       ·intro w'
        go_simp
        with_reducible rfl
       rotate_left
       ·simp only [Act.put, List.setIfInBounds_toArray, List.set_cons_zero, List.set_cons_succ, i64_w, i32_w]
        rfl
       refine pure_ (i := 1) (N := some 36) (v := ?_) (a' := ?_) (bb 16 3) rfl rfl (any_of HT_.out (by kernel_rfl)) (fun _ _ _ h => h) (Or.inl ⟨by rfl, ?_⟩) ?_ ?_
       rotate_left
       ·intro w'
        go_simp
        with_reducible rfl
       rotate_left
       ·simp only [Act.put, List.setIfInBounds_toArray, List.set_cons_zero, List.set_cons_succ, i64_w, i32_w]
        rfl
       refine pure_ (i := 2) (N := some 37) (v := ?_) (a' := ?_) (bb 16 7) rfl rfl (any_of HT_.out (by kernel_rfl)) (fun _ _ _ h => h) (Or.inl ⟨by rfl, ?_⟩) ?_ ?_
       rotate_left
       ·intro w'
        go_simp
        with_reducible rfl
       rotate_left
       ·simp only [Act.put, List.setIfInBounds_toArray, List.set_cons_zero, List.set_cons_succ, i64_w, i32_w]
        rfl
       refine pure_ (i := 3) (N := some 38) (v := ?_) (a' := ?_) (bb 16 15) rfl rfl (any_of HT_.out (by kernel_rfl)) (fun _ _ _ h => h) (Or.inl ⟨by rfl, ?_⟩) ?_ ?_
       rotate_left
       ·intro w'
        go_simp
        with_reducible rfl
       rotate_left
       ·simp only [Act.put, List.setIfInBounds_toArray, List.set_cons_zero, List.set_cons_succ, i64_w, i32_w]
        rfl
       refine pure_ (i := 4) (N := some 39) (v := ?_) (a' := ?_) (bb 16 31) rfl rfl (any_of HT_.out (by kernel_rfl)) (fun _ _ _ h => h) (Or.inl ⟨by rfl, ?_⟩) ?_ ?_
       rotate_left
       ·intro w'
        go_simp
        with_reducible rfl
       rotate_left
       ·simp only [Act.put, List.setIfInBounds_toArray, List.set_cons_zero, List.set_cons_succ, i64_w, i32_w]
        rfl
       refine pure_ (i := 5) (N := some 40) (v := ?_) (a' := ?_) (bb 16 63) rfl rfl (any_of HT_.out (by kernel_rfl)) (fun _ _ _ h => h) (Or.inl ⟨by rfl, ?_⟩) ?_ ?_
       rotate_left
       ·intro w'
        go_simp
        with_reducible rfl
       rotate_left
       ·simp only [Act.put, List.setIfInBounds_toArray, List.set_cons_zero, List.set_cons_succ, i64_w, i32_w]
        rfl
       refine pure_ (i := 6) (N := some 41) (v := ?_) (a' := ?_) (bb 16 127) rfl rfl (any_of HT_.out (by kernel_rfl)) (fun _ _ _ h => h) (Or.inl ⟨by rfl, ?_⟩) ?_ ?_
       rotate_left
       ·intro w'
        go_simp
        with_reducible rfl
       rotate_left
       ·simp only [Act.put, List.setIfInBounds_toArray, List.set_cons_zero, List.set_cons_succ, i64_w, i32_w]
        rfl
       refine pure_ (i := 7) (N := some 42) (v := ?_) (a' := ?_) (bb 16 255) rfl rfl (any_of HT_.out (by kernel_rfl)) (fun _ _ _ h => h) (Or.inl ⟨by rfl, ?_⟩) ?_ ?_
       rotate_left
       ·intro w'
        go_simp
        with_reducible rfl
       rotate_left
       ·simp only [Act.put, List.setIfInBounds_toArray, List.set_cons_zero, List.set_cons_succ, i64_w, i32_w]
        rfl
       refine pure_ (i := 8) (N := some 43) (v := ?_) (a' := ?_) (bb 16 511) rfl rfl (any_of HT_.out (by kernel_rfl)) (fun _ _ _ h => h) (Or.inl ⟨by rfl, ?_⟩) ?_ ?_
       rotate_left
       ·intro w'
        go_simp
        with_reducible rfl
       rotate_left
       ·simp only [Act.put, List.setIfInBounds_toArray, List.set_cons_zero, List.set_cons_succ, i64_w, i32_w]
        rfl
       refine take_ (i := 9) (N := some 44) (v := ?_) (a' := ?_) (bb 16 1023) rfl rfl (take_ofW HT_.out HW_.out (by kernel_rfl)) (fun _ _ _ h => h) (Or.inl ⟨by rfl, ?_⟩) hHeld ?_ ?_
       rotate_left
       ·rintro w' ⟨s0, s1, s2, s3, s4, s5, s6, s7, s8, s9⟩
        go_simp
        with_reducible rfl
       rotate_left
       ·simp only [Act.put, List.setIfInBounds_toArray, List.set_cons_zero, List.set_cons_succ, i64_w, i32_w]
        rfl
       refine take_ (i := 10) (N := some 45) (v := ?_) (a' := ?_) (bb 16 2047) rfl rfl (take_ofW HT_.out HW_.out (by kernel_rfl)) (fun _ _ _ h => h) (Or.inl ⟨by rfl, ?_⟩) hHeld ?_ ?_
       rotate_left
       ·rintro w' ⟨s0, s1, s2, s3, s4, s5, s6, s7, s8, s9⟩
        go_simp
        with_reducible rfl
       rotate_left
       ·simp only [Act.put, List.setIfInBounds_toArray, List.set_cons_zero, List.set_cons_succ, i64_w, i32_w]
        rfl
       refine one_ (i := 11) (N := some 46) (bb 16 4095) rfl rfl (one_of HT_.out (by kernel_rfl)) (by decide) (fun K hK => ?_)
       refine goesv_ Try.func34 (by kernel_rfl) rfl #[.agg #[.slice A113_0 ((rd_T41 l0 x9_1).f0).length c113_0, .int .i64 ((rd_T41 l0 x9_1).f1), .slice A113_2 ((rd_T41 l0 x9_1).f2).length c113_2, .slice A113_3 ((rd_T41 l0 x9_1).f3).length c113_3, .slice A113_4 ((rd_T41 l0 x9_1).f4).length c113_4], .agg #[.slice A1_0 l1_0.length c1_0, .int .i64 a1_1, .slice A1_2 l1_2.length c1_2, .slice A1_3 l1_3.length c1_3, .slice A1_4 l1_4.length c1_4]] (by rfl) rfl rfl (by (try simp only [List.map_toArray, List.map_cons, List.map_nil]); first | done | rfl | (simp only [List.length_drop, List.length_take]; rfl)) ?_
       with_reducible refine (runs_by.calls k1 _ _ ((rd_T41 l0 x9_1).f0) ((rd_T41 l0 x9_1).f1) _ _ ((rd_T41 l0 x9_1).f2) _ _ ((rd_T41 l0 x9_1).f3) _ _ ((rd_T41 l0 x9_1).f4) _ _ l1_0 a1_1 _ _ l1_2 _ _ l1_3 _ _ l1_4 t114 _ ?side1 ?side2 ?side3 ?side4 ?side5 ?side6 ?side7 ?side8 ?side9 ?side10 ?side11 ?side12 ?side13 ?side14 ?side15 ?side16 A17.out).mono ?_
       (case side1 => repeat (first | exact (Kd.C_below HR113_0.out HB.out) | (with_reducible refine Kd.C_alloc ?_ _) | (with_reducible refine Kd.C_drewN ?_ _) | (with_reducible refine Kd.C_drew ?_)))
       (case side2 => exact HC113_0.out)
       (case side3 => repeat (first | exact (Kd.C_below HR113_2.out HB.out) | (with_reducible refine Kd.C_alloc ?_ _) | (with_reducible refine Kd.C_drewN ?_ _) | (with_reducible refine Kd.C_drew ?_)))
       (case side4 => exact HC113_2.out)
       (case side5 => repeat (first | exact (Kd.C_below HR113_3.out HB.out) | (with_reducible refine Kd.C_alloc ?_ _) | (with_reducible refine Kd.C_drewN ?_ _) | (with_reducible refine Kd.C_drew ?_)))
       (case side6 => exact HC113_3.out)
       (case side7 => repeat (first | exact (Kd.C_below HR113_4.out HB.out) | (with_reducible refine Kd.C_alloc ?_ _) | (with_reducible refine Kd.C_drewN ?_ _) | (with_reducible refine Kd.C_drew ?_)))
       (case side8 => exact HC113_4.out)
       (case side9 => repeat (first | exact (Kd.C_below HR1_0.out HB.out) | (with_reducible refine Kd.C_alloc ?_ _) | (with_reducible refine Kd.C_drewN ?_ _) | (with_reducible refine Kd.C_drew ?_)))
       (case side10 => exact HC1_0.out)
       (case side11 => repeat (first | exact (Kd.C_below HR1_2.out HB.out) | (with_reducible refine Kd.C_alloc ?_ _) | (with_reducible refine Kd.C_drewN ?_ _) | (with_reducible refine Kd.C_drew ?_)))
       (case side12 => exact HC1_2.out)
       (case side13 => repeat (first | exact (Kd.C_below HR1_3.out HB.out) | (with_reducible refine Kd.C_alloc ?_ _) | (with_reducible refine Kd.C_drewN ?_ _) | (with_reducible refine Kd.C_drew ?_)))
       (case side14 => exact HC1_3.out)
       (case side15 => repeat (first | exact (Kd.C_below HR1_4.out HB.out) | (with_reducible refine Kd.C_alloc ?_ _) | (with_reducible refine Kd.C_drewN ?_ _) | (with_reducible refine Kd.C_drew ?_)))
       (case side16 => exact HC1_4.out)
       rintro e w19 ⟨rfl, hb⟩
       refine ⟨_, rfl, ?_⟩
       have n0_ := am (blk_below (g := gb110) (o := .cells #[.slice A1_0 l1_0.length c1_0, .int .i64 a1_1, .slice A1_2 l1_2.length c1_2, .slice A1_3 l1_3.length c1_3, .slice A1_4 l1_4.length c1_4] 41 (0, 0)) (by (with_reducible repeat (first | refine blk_drewN ?_ _ | refine blk_drew ?_ | refine blk_alloc ?_ _)); exact BK110.out) hb)
       have n1_ := am (below_step (by repeat (first | (with_reducible first | exact HB.out | apply below_alloc | apply pw_below_drewN | apply below_drew1 | refine below_set ?_ GE110.out) | exact HB.out)) hb)
       clear BK110
       clear HB
       have BK110 := n0_
       have HB := n1_
       clear n0_ n1_
       (try clear hb)
       (try clear hb2)
       (try clear hk)
       (try clear hi)
       refine hK.out _ _ ⟨(blk_cell BK110.out 0).trans rfl, (blk_cell BK110.out 1).trans rfl, (blk_cell BK110.out 2).trans rfl, (blk_cell BK110.out 3).trans rfl, (blk_cell BK110.out 4).trans rfl, ((HB.out.cell (World.block_lt_of_cell? w _ hw113_0)).trans hw113_0), ((HB.out.cell (World.block_lt_of_cell? w _ hw113_1)).trans hw113_1), ((HB.out.cell (World.block_lt_of_cell? w _ hw113_2)).trans hw113_2), ((HB.out.cell (World.block_lt_of_cell? w _ hw113_3)).trans hw113_3), ((HB.out.cell (World.block_lt_of_cell? w _ hw113_4)).trans hw113_4)⟩ (fun hHeld => ?_)
       clear hK K
       refine norm_ (a' := ?_) ?_ ?_
       rotate_left
       ·show Act.put _ (some 46) _ = _
        simp only [Act.put, List.setIfInBounds_toArray, List.set_cons_zero, List.set_cons_succ, i64_w, i32_w]
        rfl
       refine pure_ (i := 12) (N := some 47) (v := ?_) (a' := ?_) (bb 16 8191) rfl rfl (any_of HT_.out (by kernel_rfl)) (fun _ _ _ h => h) (Or.inl ⟨by rfl, ?_⟩) ?_ ?_
       rotate_left
       ·intro w'
        go_simp
        with_reducible rfl
       rotate_left
       ·simp only [Act.put, List.setIfInBounds_toArray, List.set_cons_zero, List.set_cons_succ, i64_w, i32_w]
        rfl
       refine pure_ (i := 13) (N := some 48) (v := ?_) (a' := ?_) (bb 16 16383) rfl rfl (any_of HT_.out (by kernel_rfl)) (fun _ _ _ h => h) (Or.inl ⟨by rfl, ?_⟩) ?_ ?_
       rotate_left
       ·intro w'
        go_simp
        with_reducible rfl
       rotate_left
       ·simp only [Act.put, List.setIfInBounds_toArray, List.set_cons_zero, List.set_cons_succ, i64_w, i32_w]
        rfl
       refine pure_ (i := 14) (N := some 6) (v := ?_) (a' := ?_) (bb 16 32767) rfl rfl (any_of HT_.out (by kernel_rfl)) (fun _ _ _ h => h) (Or.inl ⟨by rfl, ?_⟩) ?_ ?_
       rotate_left
       ·intro w'
        go_simp
        with_reducible rfl
       rotate_left
       ·simp only [Act.put, List.setIfInBounds_toArray, List.set_cons_zero, List.set_cons_succ, i64_w, i32_w]
        rfl
       refine pure_ (i := 15) (N := some 7) (v := ?_) (a' := ?_) (bb 16 65535) rfl rfl (any_of HT_.out (by kernel_rfl)) (fun _ _ _ h => h) (Or.inl ⟨by rfl, ?_⟩) ?_ ?_
       rotate_left
       ·intro w'
        go_simp
        with_reducible rfl
       rotate_left
       ·simp only [Act.put, List.setIfInBounds_toArray, List.set_cons_zero, List.set_cons_succ, i64_w, i32_w]
        rfl
       refine done_ (done_of HT_.out (by kernel_rfl)) ?_
       try go_wp2
       go_ret2
       exact ⟨by first | rfl | (simp [errW_none, errW_some] <;> rfl) | (simp [*, errW_none, errW_some] <;> rfl), by repeat (first | (with_reducible first | exact HB.out | apply below_alloc | apply pw_below_drewN | apply below_drew1 | refine below_set ?_ GE110.out) | exact HB.out)⟩
      ·rw [if_neg c16] at H
       exact absurd H (by simp)
     ·rw [if_neg c15] at H
      exact absurd H (by simp)
    ·rw [if_neg c14] at H
     have c14b0 : decide (x9_1 < (l0.length : Int)) = false := decide_eq_false c14
     clear c14
     simp only [Option.some.injEq, Prod.mk.injEq] at H
     obtain ⟨rfl, rfl⟩ := H
     try go_wp2
     have n0_ := am (blk_drew BK110.out)
     have n1_ := am (below_drew1 HB.out)
     clear BK110
     clear HB
     have BK110 := n0_
     have HB := n1_
     clear n0_ n1_
     refine start_ (n := 16) (S := fun w' => True) (ds := []) (bb 16 0) (by kernel_rfl) rfl rfl trivial (fun hHeld => ?_); refine with_tabW bsf_R1.tab8 bsf_R1.bits8 (fun HT_ HW_ => ?_)
     generalize wr.drew = w20 at BK110 HB hHeld ⊢
     refine pure_ (i := 0) (N := some 35) (v := ?_) (a' := ?_) (bb 16 1) rfl rfl (any_of HT_.out (by kernel_rfl)) (fun _ _ _ h => h) (Or.inl ⟨by rfl, ?_⟩) ?_ ?_
     rotate_left
     ·intro w'
      go_simp
      with_reducible rfl
     rotate_left
     ·simp only [Act.put, List.setIfInBounds_toArray, List.set_cons_zero, List.set_cons_succ, i64_w, i32_w]
      rfl
     refine pure_ (i := 1) (N := some 36) (v := ?_) (a' := ?_) (bb 16 3) rfl rfl (any_of HT_.out (by kernel_rfl)) (fun _ _ _ h => h) (Or.inl ⟨by rfl, ?_⟩) ?_ ?_
     rotate_left
     ·intro w'
      go_simp
      with_reducible rfl
     rotate_left
     ·simp only [Act.put, List.setIfInBounds_toArray, List.set_cons_zero, List.set_cons_succ, i64_w, i32_w]
      rfl
     refine pure_ (i := 2) (N := some 37) (v := ?_) (a' := ?_) (bb 16 7) rfl rfl (any_of HT_.out (by kernel_rfl)) (fun _ _ _ h => h) (Or.inl ⟨by rfl, ?_⟩) ?_ ?_
     rotate_left
     ·intro w'
      go_simp
      with_reducible rfl
     rotate_left
     ·simp only [Act.put, List.setIfInBounds_toArray, List.set_cons_zero, List.set_cons_succ, i64_w, i32_w]
      rfl
     refine pure_ (i := 3) (N := some 38) (v := ?_) (a' := ?_) (bb 16 15) rfl rfl (any_of HT_.out (by kernel_rfl)) (fun _ _ _ h => h) (Or.inl ⟨by rfl, ?_⟩) ?_ ?_
     rotate_left
     ·intro w'
      go_simp
      with_reducible rfl
     rotate_left
     ·simp only [Act.put, List.setIfInBounds_toArray, List.set_cons_zero, List.set_cons_succ, i64_w, i32_w]
      rfl
     refine pure_ (i := 4) (N := some 39) (v := ?_) (a' := ?_) (bb 16 31) rfl rfl (any_of HT_.out (by kernel_rfl)) (fun _ _ _ h => h) (Or.inl ⟨by rfl, ?_⟩) ?_ ?_
     rotate_left
     ·intro w'
      go_simp
      with_reducible rfl
     rotate_left
     ·simp only [Act.put, List.setIfInBounds_toArray, List.set_cons_zero, List.set_cons_succ, i64_w, i32_w]
      rfl
     refine pure_ (i := 5) (N := some 40) (v := undef) (a' := ?_) (bb 16 63) rfl rfl (any_of HT_.out (by kernel_rfl)) (fun _ _ _ h => h) (Or.inr ⟨by rfl, rfl⟩) ?_ ?_
     rotate_left
     ·simp only [Act.put, List.setIfInBounds_toArray, List.set_cons_zero, List.set_cons_succ, i64_w, i32_w]
      rfl
     refine pure_ (i := 6) (N := some 41) (v := undef) (a' := ?_) (bb 16 127) rfl rfl (any_of HT_.out (by kernel_rfl)) (fun _ _ _ h => h) (Or.inr ⟨by rfl, rfl⟩) ?_ ?_
     rotate_left
     ·simp only [Act.put, List.setIfInBounds_toArray, List.set_cons_zero, List.set_cons_succ, i64_w, i32_w]
      rfl
     refine pure_ (i := 7) (N := some 42) (v := undef) (a' := ?_) (bb 16 255) rfl rfl (any_of HT_.out (by kernel_rfl)) (fun _ _ _ h => h) (Or.inr ⟨by rfl, rfl⟩) ?_ ?_
     rotate_left
     ·simp only [Act.put, List.setIfInBounds_toArray, List.set_cons_zero, List.set_cons_succ, i64_w, i32_w]
      rfl
     refine pure_ (i := 8) (N := some 43) (v := undef) (a' := ?_) (bb 16 511) rfl rfl (any_of HT_.out (by kernel_rfl)) (fun _ _ _ h => h) (Or.inr ⟨by rfl, rfl⟩) ?_ ?_
     rotate_left
     ·simp only [Act.put, List.setIfInBounds_toArray, List.set_cons_zero, List.set_cons_succ, i64_w, i32_w]
      rfl
     refine pure_ (i := 9) (N := some 44) (v := undef) (a' := ?_) (bb 16 1023) rfl rfl (any_of HT_.out (by kernel_rfl)) (fun _ _ _ h => h) (Or.inr ⟨by rfl, rfl⟩) ?_ ?_
     rotate_left
     ·simp only [Act.put, List.setIfInBounds_toArray, List.set_cons_zero, List.set_cons_succ, i64_w, i32_w]
      rfl
     refine pure_ (i := 10) (N := some 45) (v := undef) (a' := ?_) (bb 16 2047) rfl rfl (any_of HT_.out (by kernel_rfl)) (fun _ _ _ h => h) (Or.inr ⟨by rfl, rfl⟩) ?_ ?_
     rotate_left
     ·simp only [Act.put, List.setIfInBounds_toArray, List.set_cons_zero, List.set_cons_succ, i64_w, i32_w]
      rfl
     refine pure_ (i := 11) (N := some 46) (v := undef) (a' := ?_) (bb 16 4095) rfl rfl (any_of HT_.out (by kernel_rfl)) (fun _ _ _ h => h) (Or.inr ⟨by rfl, rfl⟩) ?_ ?_
     rotate_left
     ·simp only [Act.put, List.setIfInBounds_toArray, List.set_cons_zero, List.set_cons_succ, i64_w, i32_w]
      rfl
     refine pure_ (i := 12) (N := some 47) (v := undef) (a' := ?_) (bb 16 8191) rfl rfl (any_of HT_.out (by kernel_rfl)) (fun _ _ _ h => h) (Or.inr ⟨by rfl, rfl⟩) ?_ ?_
     rotate_left
     ·simp only [Act.put, List.setIfInBounds_toArray, List.set_cons_zero, List.set_cons_succ, i64_w, i32_w]
      rfl
     refine pure_ (i := 13) (N := some 48) (v := ?_) (a' := ?_) (bb 16 16383) rfl rfl (any_of HT_.out (by kernel_rfl)) (fun _ _ _ h => h) (Or.inl ⟨by rfl, ?_⟩) ?_ ?_
     rotate_left
     ·intro w'
      go_simp
      with_reducible rfl
     rotate_left
     ·simp only [Act.put, List.setIfInBounds_toArray, List.set_cons_zero, List.set_cons_succ, i64_w, i32_w]
      rfl
     refine pure_ (i := 14) (N := some 6) (v := ?_) (a' := ?_) (bb 16 32767) rfl rfl (any_of HT_.out (by kernel_rfl)) (fun _ _ _ h => h) (Or.inl ⟨by rfl, ?_⟩) ?_ ?_
     rotate_left
     ·intro w'
      go_simp
      with_reducible rfl
     rotate_left
     ·simp only [Act.put, List.setIfInBounds_toArray, List.set_cons_zero, List.set_cons_succ, i64_w, i32_w]
      rfl
     refine pure_ (i := 15) (N := some 7) (v := ?_) (a' := ?_) (bb 16 65535) rfl rfl (any_of HT_.out (by kernel_rfl)) (fun _ _ _ h => h) (Or.inl ⟨by rfl, ?_⟩) ?_ ?_
     rotate_left
     ·intro w'
      go_simp
      with_reducible rfl
     rotate_left
     ·simp only [Act.put, List.setIfInBounds_toArray, List.set_cons_zero, List.set_cons_succ, i64_w, i32_w]
      rfl
     refine done_ (done_of HT_.out (by kernel_rfl)) ?_
     try go_wp2
     go_ret2
     exact ⟨by first | rfl | (simp [errW_none, errW_some] <;> rfl) | (simp [*, errW_none, errW_some] <;> rfl), by repeat (first | (with_reducible first | exact HB.out | apply below_alloc | apply pw_below_drewN | apply below_drew1 | refine below_set ?_ GE110.out) | exact HB.out)⟩
def cell_Group_1.f (k : Nat) (l0_0 : List Int) (a0_1 : Int) (l0_2 : List Int) (l0_3 : List Int) (l0_4 : List Int) (l1_0 : List Int) (a1_1 : Int) (l1_2 : List Int) (l1_3 : List Int) (l1_4 : List Int) : Option (Int) := (cell_Less.f k l0_0 l1_0).bind fun t117 => (some t117)
set_option maxHeartbeats 8000000 in
set_option maxRecDepth 100000 in
theorem cell_Group_1.calls (k : Nat) (A0_0 : Option Addr) (c0_0 : Nat) (l0_0 : List Int) (a0_1 : Int) (A0_2 : Option Addr) (c0_2 : Nat) (l0_2 : List Int) (A0_3 : Option Addr) (c0_3 : Nat) (l0_3 : List Int) (A0_4 : Option Addr) (c0_4 : Nat) (l0_4 : List Int) (A1_0 : Option Addr) (c1_0 : Nat) (l1_0 : List Int) (a1_1 : Int) (A1_2 : Option Addr) (c1_2 : Nat) (l1_2 : List Int) (A1_3 : Option Addr) (c1_3 : Nat) (l1_3 : List Int) (A1_4 : Option Addr) (c1_4 : Nat) (l1_4 : List Int) (r : Int) (w : World) (hr0_0 : Kd.C (Kd.int .i64) w A0_0 l0_0.length l0_0) (hc0_0 : l0_0.length ≤ c0_0) (hr0_2 : Kd.C (Kd.int .i64) w A0_2 l0_2.length l0_2) (hc0_2 : l0_2.length ≤ c0_2) (hr0_3 : Kd.C (Kd.int .i64) w A0_3 l0_3.length l0_3) (hc0_3 : l0_3.length ≤ c0_3) (hr0_4 : Kd.C (Kd.int .i64) w A0_4 l0_4.length l0_4) (hc0_4 : l0_4.length ≤ c0_4) (hr1_0 : Kd.C (Kd.int .i64) w A1_0 l1_0.length l1_0) (hc1_0 : l1_0.length ≤ c1_0) (hr1_2 : Kd.C (Kd.int .i64) w A1_2 l1_2.length l1_2) (hc1_2 : l1_2.length ≤ c1_2) (hr1_3 : Kd.C (Kd.int .i64) w A1_3 l1_3.length l1_3) (hc1_3 : l1_3.length ≤ c1_3) (hr1_4 : Kd.C (Kd.int .i64) w A1_4 l1_4.length l1_4) (hc1_4 : l1_4.length ≤ c1_4) (h : cell_Group_1.f k l0_0 a0_1 l0_2 l0_3 l0_4 l1_0 a1_1 l1_2 l1_3 l1_4 = some r) :
  Calls Try.prog 53 #[.agg #[.slice A0_0 l0_0.length c0_0, .int .i64 a0_1, .slice A0_2 l0_2.length c0_2, .slice A0_3 l0_3.length c0_3, .slice A0_4 l0_4.length c0_4], .agg #[.slice A1_0 l1_0.length c1_0, .int .i64 a1_1, .slice A1_2 l1_2.length c1_2, .slice A1_3 l1_3.length c1_3, .slice A1_4 l1_4.length c1_4]] w fun e w' => e = .returned (.int .i64 r) ∧ Below w.heap.size w w' := by
 have hu41 := Try.underlying41
 have HR0_0 := am hr0_0
 have HC0_0 := am hc0_0
 clear hr0_0 hc0_0
 have HR0_2 := am hr0_2
 have HC0_2 := am hc0_2
 clear hr0_2 hc0_2
 have HR0_3 := am hr0_3
 have HC0_3 := am hc0_3
 clear hr0_3 hc0_3
 have HR0_4 := am hr0_4
 have HC0_4 := am hc0_4
 clear hr0_4 hc0_4
 have HR1_0 := am hr1_0
 have HC1_0 := am hc1_0
 clear hr1_0 hc1_0
 have HR1_2 := am hr1_2
 have HC1_2 := am hc1_2
 clear hr1_2 hc1_2
 have HR1_3 := am hr1_3
 have HC1_3 := am hc1_3
 clear hr1_3 hc1_3
 have HR1_4 := am hr1_4
 have HC1_4 := am hc1_4
 clear hr1_4 hc1_4
 have HB := am (Below.refl w.heap.size w)
 have H : ((cell_Less.f k l0_0 l1_0).bind fun t117 => (some t117)) = some r := h
 clear h
 replace H := Option.bind_eq_some_iff.mp H
 obtain ⟨t117, A30, H⟩ := H
 replace H : (some t117) = some r := H
 have A3 := am A30
 clear A30
 obtain rfl := Option.some.inj H
 go_enter Try.func53, Try.ntmps53
 go_wp2_with (first | ((with_reducible refine gate_dst (N := 2) rfl ?_); refine box_event ?hg (N := 2) ?hd (cs := #[.slice A0_0 l0_0.length c0_0, .int .i64 a0_1, .slice A0_2 l0_2.length c0_2, .slice A0_3 l0_3.length c0_3, .slice A0_4 l0_4.length c0_4]) (t := 41) ?hr ?_; (case hd => rfl); (case hg => rfl); (case hr => first | (go_simp; done) | (go_simp; rfl)); intro gb115 hg w4 hbox hb; have n0_ := am (below_step (by repeat (first | (with_reducible first | exact HB.out | apply below_alloc | apply pw_below_drewN | apply below_drew1) | exact HB.out)) hb); have n1_ := am (hbox); have n2_ := am ((by rw [hg]; exact (below_size (by repeat (first | (with_reducible first | exact HB.out | apply below_alloc | apply pw_below_drewN | apply below_drew1) | exact HB.out))) : w.heap.size ≤ gb115)); have n3_ := am ((by rw [hg]; exact (below_size (by repeat (first | (with_reducible first | exact HB.out | apply below_alloc | apply pw_below_drewN | apply below_drew1) | exact HB.out))) : w.heap.size ≤ gb115)); clear HB; have HB := n0_; have BK115 := n1_; have GW115 := n2_; have GE115 := n3_; clear n0_ n1_ n2_ n3_; clear hb hbox hg) | ((with_reducible refine gate_dst (N := 3) rfl ?_); refine box_event ?hg (N := 3) ?hd (cs := #[.slice A1_0 l1_0.length c1_0, .int .i64 a1_1, .slice A1_2 l1_2.length c1_2, .slice A1_3 l1_3.length c1_3, .slice A1_4 l1_4.length c1_4]) (t := 41) ?hr ?_; (case hd => rfl); (case hg => rfl); (case hr => first | (go_simp; done) | (go_simp; rfl)); intro gb116 hg w5 hbox hb; have n0_ := am (blk_below (g := gb115) (o := .cells #[.slice A0_0 l0_0.length c0_0, .int .i64 a0_1, .slice A0_2 l0_2.length c0_2, .slice A0_3 l0_3.length c0_3, .slice A0_4 l0_4.length c0_4] 41 (0, 0)) (by (with_reducible repeat (first | refine blk_drewN ?_ _ | refine blk_drew ?_ | refine blk_alloc ?_ _)); exact BK115.out) hb); have n1_ := am (below_step (by repeat (first | (with_reducible first | exact HB.out | apply below_alloc | apply pw_below_drewN | apply below_drew1 | refine below_set ?_ GE115.out) | exact HB.out)) hb); have n2_ := am (hbox); have n3_ := am ((by rw [hg]; exact (below_size (by repeat (first | (with_reducible first | exact HB.out | apply below_alloc | apply pw_below_drewN | apply below_drew1 | refine below_set ?_ GE115.out) | exact HB.out))) : w.heap.size ≤ gb116)); have n4_ := am ((by rw [hg]; exact (below_size (by repeat (first | (with_reducible first | exact HB.out | apply below_alloc | apply pw_below_drewN | apply below_drew1 | refine below_set ?_ GE115.out) | exact HB.out))) : w.heap.size ≤ gb116)); have n5_ := am ((by rw [hg]; exact Nat.ne_of_lt (blk_lt (g := gb115) (o := .cells #[.slice A0_0 l0_0.length c0_0, .int .i64 a0_1, .slice A0_2 l0_2.length c0_2, .slice A0_3 l0_3.length c0_3, .slice A0_4 l0_4.length c0_4] 41 (0, 0)) (by (with_reducible repeat (first | refine blk_drewN ?_ _ | refine blk_drew ?_ | refine blk_alloc ?_ _)); exact BK115.out)) : gb115 ≠ gb116)); have n6_ := am ((by rw [hg]; exact Nat.ne_of_gt (blk_lt (g := gb115) (o := .cells #[.slice A0_0 l0_0.length c0_0, .int .i64 a0_1, .slice A0_2 l0_2.length c0_2, .slice A0_3 l0_3.length c0_3, .slice A0_4 l0_4.length c0_4] 41 (0, 0)) (by (with_reducible repeat (first | refine blk_drewN ?_ _ | refine blk_drew ?_ | refine blk_alloc ?_ _)); exact BK115.out)) : gb116 ≠ gb115)); clear BK115; clear HB; have BK115 := n0_; have HB := n1_; have BK116 := n2_; have GW116 := n3_; have GE116 := n4_; have NB115_116 := n5_; have NB116_115 := n6_; clear n0_ n1_ n2_ n3_ n4_ n5_ n6_; clear hb hbox hg; have hnb6 := NB115_116.out; have hnc6 := NB116_115.out; have hcz7_0 : w5.cell? ⟨gb115, 0, none⟩ = some (.slice A0_0 l0_0.length c0_0) := (blk_cell BK115.out 0).trans rfl; have hcz7_1 : w5.cell? ⟨gb115, 1, none⟩ = some (.int .i64 a0_1) := (blk_cell BK115.out 1).trans rfl; have hcz7_2 : w5.cell? ⟨gb115, 2, none⟩ = some (.slice A0_2 l0_2.length c0_2) := (blk_cell BK115.out 2).trans rfl; have hcz7_3 : w5.cell? ⟨gb115, 3, none⟩ = some (.slice A0_3 l0_3.length c0_3) := (blk_cell BK115.out 3).trans rfl; have hcz7_4 : w5.cell? ⟨gb115, 4, none⟩ = some (.slice A0_4 l0_4.length c0_4) := (blk_cell BK115.out 4).trans rfl; have hfz7_0 := blk_frozen BK115.out 0; have hfz7_1 := blk_frozen BK115.out 1; have hfz7_2 := blk_frozen BK115.out 2; have hfz7_3 := blk_frozen BK115.out 3; have hfz7_4 := blk_frozen BK115.out 4; have hcz8_0 : w5.cell? ⟨gb116, 0, none⟩ = some (.slice A1_0 l1_0.length c1_0) := (blk_cell BK116.out 0).trans rfl; have hcz8_1 : w5.cell? ⟨gb116, 1, none⟩ = some (.int .i64 a1_1) := (blk_cell BK116.out 1).trans rfl; have hcz8_2 : w5.cell? ⟨gb116, 2, none⟩ = some (.slice A1_2 l1_2.length c1_2) := (blk_cell BK116.out 2).trans rfl; have hcz8_3 : w5.cell? ⟨gb116, 3, none⟩ = some (.slice A1_3 l1_3.length c1_3) := (blk_cell BK116.out 3).trans rfl; have hcz8_4 : w5.cell? ⟨gb116, 4, none⟩ = some (.slice A1_4 l1_4.length c1_4) := (blk_cell BK116.out 4).trans rfl; have hfz8_0 := blk_frozen BK116.out 0; have hfz8_1 := blk_frozen BK116.out 1; have hfz8_2 := blk_frozen BK116.out 2; have hfz8_3 := blk_frozen BK116.out 3; have hfz8_4 := blk_frozen BK116.out 4) | ((with_reducible refine gate_callee (f := 44) rfl ?_); refine goesL_ (some 9) rfl rfl Try.func44 (by kernel_rfl) rfl #[.slice A0_0 l0_0.length c0_0, .slice A1_0 l1_0.length c1_0] rfl (by (try simp only [List.map_toArray, List.map_cons, List.map_nil]); first | done | rfl | (simp only [List.length_drop, List.length_take]; rfl)) ?_; (with_reducible refine (cell_Less.calls k _ _ l0_0 _ _ l1_0 t117 _ ?side1 ?side2 ?side3 ?side4 A3.out).mono ?_); (case side1 => repeat (first | exact (Kd.C_below HR0_0.out HB.out) | (with_reducible refine Kd.C_alloc ?_ _) | (with_reducible refine Kd.C_drewN ?_ _) | (with_reducible refine Kd.C_drew ?_))); (case side2 => exact HC0_0.out); (case side3 => repeat (first | exact (Kd.C_below HR1_0.out HB.out) | (with_reducible refine Kd.C_alloc ?_ _) | (with_reducible refine Kd.C_drewN ?_ _) | (with_reducible refine Kd.C_drew ?_))); (case side4 => exact HC1_0.out); rintro e w' ⟨rfl, ⟨nd, rfl⟩⟩; refine ⟨_, rfl, ?_⟩))
 go_ret
 exact ⟨by first | rfl | (simp [errW_none, errW_some] <;> rfl) | (simp [*, errW_none, errW_some] <;> rfl), by repeat (first | (with_reducible first | exact HB.out | apply below_alloc | apply pw_below_drewN | apply below_drew1 | refine below_set ?_ GE115.out | refine below_set ?_ GE116.out) | exact HB.out)⟩
end Go.Proofs.Ytmnepkbmcnpjlaa.Q
