-- packed by wip/tools/pack.py (a program of this session) out of its own texts
import Derived.Test.YtmkjkkmilopcpaaPCellAll0
import Derived.ArgAppend
import Derived.Below
import Derived.BigQuiet
import Derived.Deep.AppendLies
import Derived.Deep.CutBlock
import Derived.Deep.DeepCutAuto
import Derived.Deep.Draws
import Derived.Deep.LoopGhost
import Derived.Deep.OwnRows
import Derived.Deep.QuietTactic
import Derived.Deep.RegionHeld3
import Derived.KernelRfl
import Derived.Laws.BitsLemmas
import Derived.Laws.BytesArg
import Derived.Laws.EntriesVeiled
import Derived.Laws.Externs
import Derived.Laws.IdiomCopy
import Derived.Laws.MakeOwn
import Derived.Laws.OwnMore
import Derived.Laws.Rows
import Derived.Laws.Slices
import Derived.Lib.AppendStr
import Derived.Lib.AppendZeros
import Derived.Lib.AppendZerosOnto
import Derived.Lib.ConvBytes
import Derived.Lib.JoinLaws
import Derived.Lib.Overlaps
import Derived.Lib.SliceRun
import Derived.Lib.Walk
import Derived.LoopIn
import Derived.LoopNIn
import Derived.Maps.AppendAt
import Derived.OrdersHeld
import Derived.OrdersIn
import Derived.OwnWalk
import Derived.OwnWalkIn
import Derived.RangeFuncBound
import Derived.RangeFuncBox
import Derived.RangeFuncCalls
import Derived.RangeFuncLeaves
import Derived.RangeFuncNested
import Derived.RangeFuncOwn
import Derived.RowKit
import Derived.RowKit3
import Derived.Shelf.Abstract
import Derived.Shelf.RegionOpen
import Derived.Shelf.RegionOpenPlain
import Derived.Tactics
import Derived.TacticsInMore
import Derived.Test.YtmkjkkmilopcpaaProg
import Derived.WalkKit
import Derived.WalkSpells
import Derived.WideLaws
import Derived.Test.YtmkjkkmilopcpaaPCellAll1
import Derived.Test.YtmkjkkmilopcpaaPCellAll3
import Derived.Test.YtmkjkkmilopcpaaPCellAll4
import Derived.Test.YtmkjkkmilopcpaaPCellAll5
import Derived.Test.YtmkjkkmilopcpaaPCellAll6
import Derived.Test.YtmkjkkmilopcpaaPCellAll7
import Derived.Test.YtmkjkkmilopcpaaPCellAll8
import Derived.Test.YtmkjkkmilopcpaaPCellAll9
import Derived.Test.YtmkjkkmilopcpaaPCellAll10
import Derived.Test.YtmkjkkmilopcpaaPCellAll11
import Derived.Test.YtmkjkkmilopcpaaPCellAll12
import Derived.Test.YtmkjkkmilopcpaaPCellAll13
namespace Go.Proofs.Ytmkjkkmilopcpaa.Q
open Go.RowKit Go.Proofs.YtmkjkkmilopcpaaW.PrintWords Go.Proofs.YtmkjkkmilopcpaaW.PrintLast Go.Proofs.YtmkjkkmilopcpaaW.PrintMore
attribute [local go_sem] max2_int min2_int max_two min_two max_three min_three max_four min_four
set_option linter.unusedVariables false
set_option linter.unusedSimpArgs false
mutual
def hypercubelaw1_Facts.l0 : Nat → Int → List Int → List Int → Int → List Int → Int → Option (List Int × Int × (List (S45)))
 | 0, _, _, _, _, _, _ => none
 | k + 1, x0, x1, x3, x11, x332000, x332001 => (hypercubelaw1_within.f x0 4).bind fun t332 => (if x11 ≤ t332 then (if x11 < (x1.length : Int) then (if 0 ≤ x11 then ((hypercubelaw1_within.f (rd x1 x11) 5).bind fun t334 => (if x332000.length < 17592186044416 then (hypercubelaw1_Facts.l0 k x0 x1 x3 (wrap64 (x11 + 1)) (x332000 ++ [wrap64 (1 + t334)]) x332001) else (none))) else (none)) else ((hypercubelaw1_within.f (wrap64 (x11 + 2)) 5).bind fun t338 => (if x332000.length < 17592186044416 then (hypercubelaw1_Facts.l0 k x0 x1 x3 (wrap64 (x11 + 1)) (x332000 ++ [wrap64 (1 + t338)]) x332001) else (none)))) else ((hypercubelaw1_within.f x0 7).bind fun t342 => (if t342 = 0 then (if 0 < (x332000.length : Int) then (hypercubelaw1_Facts.j1 k x3 (x332000.set (0 : Int).toNat 16) x332001) else (none)) else (hypercubelaw1_Facts.j1 k x3 x332000 x332001))))
def hypercubelaw1_Facts.j1 : Nat → List Int → List Int → Int → Option (List Int × Int × (List (S45)))
 | 0, _, _, _ => none
 | k + 1, x3, x332000, x332001 => hypercubelaw1_Facts.l1 k x3 ([] : List (S45)) 0 x332000 x332001
def hypercubelaw1_Facts.l1 : Nat → List Int → List (S45) → Int → List Int → Int → Option (List Int × Int × (List (S45)))
 | 0, _, _, _, _, _ => none
 | k + 1, x3, x13, x14, x332000, x332001 => if x14 < (x3.length : Int) then (hypercubelaw1_Facts.j3 k x3 x13 x14 (decide (x14 < 40)) x332000 x332001) else (hypercubelaw1_Facts.j3 k x3 x13 x14 false x332000 x332001)
def hypercubelaw1_Facts.j3 : Nat → List Int → List (S45) → Int → Bool → List Int → Int → Option (List Int × Int × (List (S45)))
 | 0, _, _, _, _, _, _ => none
 | k + 1, x3, x13, x14, x59, x332000, x332001 => if x59 = true then (if 0 ≤ x14 then (if x14 < (x3.length : Int) then (hypercubelaw1_Facts.l2 k x3 x13 x14 (rd x3 x14) 0 x332000 x332001 ([] : List Int)) else (none)) else (none)) else (some (x332000, x332001, x13))
def hypercubelaw1_Facts.l2 : Nat → List Int → List (S45) → Int → Int → Int → List Int → Int → List Int → Option (List Int × Int × (List (S45)))
 | 0, _, _, _, _, _, _, _, _ => none
 | k + 1, x3, x13, x14, x15, x17, x332000, x332001, x346000 => if x17 < (x332000.length : Int) then (if 0 ≤ x17 then ((hypercubelaw1_within.f x15 (rd x332000 x17)).bind fun t347 => (if x346000.length < 17592186044416 then (hypercubelaw1_Facts.l2 k x3 x13 x14 (wrap64 (Int.tdiv x15 5)) (wrap64 (x17 + 1)) x332000 x332001 (x346000 ++ [t347])) else (none))) else (none)) else (hypercubelaw1_Facts.l3 k x3 x13 x14 x15 0 x332000 x332001 x346000 ([] : List Int))
def hypercubelaw1_Facts.l3 : Nat → List Int → List (S45) → Int → Int → Int → List Int → Int → List Int → List Int → Option (List Int × Int × (List (S45)))
 | 0, _, _, _, _, _, _, _, _, _ => none
 | k + 1, x3, x13, x14, x15, x18, x332000, x332001, x346000, x346001 => if x18 < x332001 then ((hypercubelaw1_within.f (wrap64 (x15 + (wrap64 (7 * x18)))) 201).bind fun t351 => (if x346001.length < 17592186044416 then (hypercubelaw1_Facts.l3 k x3 x13 x14 x15 (wrap64 (x18 + 1)) x332000 x332001 x346000 (x346001 ++ [wrap64 (t351 - 100)])) else (none))) else (if x13.length < 2932031007402 then (hypercubelaw1_Facts.l1 k x3 (x13 ++ [(⟨x346000, x346001⟩ : S45)]) (wrap64 (x14 + 1)) x332000 x332001) else (none))
end
def hypercubelaw1_Facts.f (k : Nat) (a0 : Int) (l1 : List Int) (a2 : Int) (l3 : List Int) : Option (List Int × Int × (List (S45))) := (hypercubelaw1_within.f a2 3).bind fun t330 => (hypercubelaw1_Facts.l0 k a0 l1 l3 0 ([] : List Int) t330)
def hypercubelaw1_Facts.T8 : Bool × List (List Nat × List Nat) := (true, [([], []), ([0], [0]), ([], []), ([2], [2]), ([3], [3]), ([4], [4]), ([1, 5, 3], [1, 5]), ([0, 1, 2, 3, 4, 5, 6], []), ([7, 6, 6, 0, 1, 2, 3, 4, 5, 6], [6, 7])])
def hypercubelaw1_Facts.B8 : List Nat := [0, 1, 0, 4, 12, 28, 63, 127, 255]
theorem hypercubelaw1_Facts.tab8 : rtab .any (opsOf Try.f23 8) = hypercubelaw1_Facts.T8 := by kernel_rfl
theorem hypercubelaw1_Facts.bits8 : waitsOk hypercubelaw1_Facts.T8.2 hypercubelaw1_Facts.B8 = true := by kernel_rfl
def hypercubelaw1_Facts.T20 : Bool × List (List Nat × List Nat) := (true, [([], []), ([0], [0]), ([], []), ([], []), ([3], [3]), ([], []), ([4, 5], [4, 5]), ([6], [6]), ([2, 7], [2, 7]), ([8], [8]), ([1, 9, 8], [1, 9]), ([0, 1, 2, 3, 4, 5, 6, 7, 8, 9, 10], []), ([11, 10, 10, 0, 1, 2, 3, 4, 5, 6, 7, 8, 9, 10], [10, 11])])
def hypercubelaw1_Facts.B20 : List Nat := [0, 1, 0, 0, 8, 0, 56, 120, 252, 508, 1023, 2047, 4095]
theorem hypercubelaw1_Facts.tab20 : rtab .any (opsOf Try.f23 20) = hypercubelaw1_Facts.T20 := by kernel_rfl
theorem hypercubelaw1_Facts.bits20 : waitsOk hypercubelaw1_Facts.T20.2 hypercubelaw1_Facts.B20 = true := by kernel_rfl
def hypercubelaw1_Facts.T25 : Bool × List (List Nat × List Nat) := (true, [([], []), ([0], [0]), ([], []), ([], []), ([3], [3]), ([2, 4], [2, 4]), ([5], [5]), ([6], [6]), ([7], [7]), ([1, 8, 6], [1, 8]), ([0, 1, 2, 3, 4, 5, 6, 7, 8, 9], []), ([10, 9, 9, 0, 1, 2, 3, 4, 5, 6, 7, 8, 9], [9, 10])])
def hypercubelaw1_Facts.B25 : List Nat := [0, 1, 0, 0, 8, 28, 60, 124, 252, 511, 1023, 2047]
theorem hypercubelaw1_Facts.tab25 : rtab .any (opsOf Try.f23 25) = hypercubelaw1_Facts.T25 := by kernel_rfl
theorem hypercubelaw1_Facts.bits25 : waitsOk hypercubelaw1_Facts.T25.2 hypercubelaw1_Facts.B25 = true := by kernel_rfl
set_option maxHeartbeats 8000000 in
set_option maxRecDepth 100000 in
theorem hypercubelaw1_Facts.calls (k : Nat) (a0 : Int) (A1 : Option Addr) (c1 : Nat) (l1 : List Int) (a2 : Int) (A3 : Option Addr) (c3 : Nat) (l3 : List Int) (r1 : List Int) (r2 : Int) (r3 : List (S45)) (w : World) (hr1 : Kd.C (Kd.int .i64) w A1 l1.length l1) (hc1 : l1.length ≤ c1) (hr3 : Kd.C (Kd.int .i64) w A3 l3.length l3) (hc3 : l3.length ≤ c3) (h : hypercubelaw1_Facts.f k a0 l1 a2 l3 = some (r1, r2, r3)) :
  Calls Try.prog 23 #[.int .i64 a0, .slice A1 l1.length c1, .int .i64 a2, .slice A3 l3.length c3] w fun e w' => ∃ v0_ v2_ : Value, e = .returned (.tuple #[.agg #[v0_, .int .i64 r2], v2_]) ∧ Kd.R (Kd.int .i64) 3 w' w.heap.size (fun _ => True) v0_ r1 ∧ Kd.S k45 45 w' w.heap.size (fun k_ => some k_ ≠ (v0_ : Value).ownBlock) v2_ r3 ∧ Below w.heap.size w w' := by
 have hu35 := Try.underlying35
 have hu45 := Try.underlying45
 have HR1 := am hr1
 have HC1 := am hc1
 clear hr1 hc1
 have HR3 := am hr3
 have HC3 := am hc3
 clear hr3 hc3
 have HB := am (Below.refl w.heap.size w)
 have H : ((hypercubelaw1_within.f a2 3).bind fun t330 => (hypercubelaw1_Facts.l0 k a0 l1 l3 0 ([] : List Int) t330)) = some (r1, r2, r3) := h
 clear h
 replace H := Option.bind_eq_some_iff.mp H
 obtain ⟨t330, A50, H⟩ := H
 replace H : (hypercubelaw1_Facts.l0 k a0 l1 l3 0 ([] : List Int) t330) = some (r1, r2, r3) := H
 have A5 := am A50
 clear A50
 have H' := am H
 clear H
 go_enter Try.func23, Try.ntmps23
 go_wp2_with (first | ((with_reducible refine gate_dst (N := 8) rfl ?_); refine box_event ?hg (N := 8) ?hd (cs := #[.slice none 0 0, .int .i64 0]) (t := 35) ?hr ?_; (case hd => rfl); (case hg => rfl); (case hr => first | (go_simp; done) | (go_simp; rfl)); intro gb329 hg w6 hbox hb; have n0_ := am (below_step (by repeat (first | (with_reducible first | exact HB.out | apply below_alloc | apply pw_below_drewN | apply below_drew1) | exact HB.out)) hb); have n1_ := am (hbox); have n2_ := am ((by rw [hg]; exact (below_size (by repeat (first | (with_reducible first | exact HB.out | apply below_alloc | apply pw_below_drewN | apply below_drew1) | exact HB.out))) : w.heap.size ≤ gb329)); have n3_ := am ((by rw [hg]; exact (below_size (by repeat (first | (with_reducible first | exact HB.out | apply below_alloc | apply pw_below_drewN | apply below_drew1) | exact HB.out))) : w.heap.size ≤ gb329)); clear HB; revert n0_ n1_ n2_ n3_; intro HB BK329 GW329 GE329; clear hb hbox hg) | (go_at_call 45; (with_reducible refine (hypercubelaw1_within.calls a2 3 t330 _ A5.out).mono ?_); rintro e w' ⟨rfl, ⟨nd, rfl⟩⟩; (try (rw [drewN_self w6]; generalize hq_ : World.drewN w6 _ = w6; have n0_ : Aside0 (w6.heap[gb329]? = some (.cells #[.slice none 0 0, .int .i64 0] 35 (0, 0))) := ⟨by rw [← hq_]; exact (by (with_reducible repeat (first | refine blk_drewN ?_ _ | refine blk_drew ?_ | refine blk_alloc ?_ _)); exact BK329.out)⟩; have n1_ : Aside0 (Below w.heap.size w w6) := ⟨by rw [← hq_]; exact (by repeat (first | (with_reducible first | exact HB.out | apply below_alloc | apply pw_below_drewN | apply below_drew1 | refine below_set ?_ GE329.out) | exact HB.out))⟩; clear BK329 HB hq_; revert n0_ n1_; intro BK329 HB))) | ((with_reducible refine gate_dst (N := 10) rfl ?_); refine box_event ?hg (N := 10) ?hd (cs := #[.slice none 0 0, .int .i64 0]) (t := 35) ?hr ?_; (case hd => rfl); (case hg => rfl); (case hr => first | (go_simp; done) | (go_simp; rfl)); intro gb331 hg w7 hbox hb; have n0_ := am (blk_below (g := gb329) (o := .cells #[.slice none 0 0, .int .i64 0] 35 (0, 0)) (by (with_reducible repeat (first | refine blk_drewN ?_ _ | refine blk_drew ?_ | refine blk_alloc ?_ _)); exact BK329.out) hb); have n1_ := am (below_step (by repeat (first | (with_reducible first | exact HB.out | apply below_alloc | apply pw_below_drewN | apply below_drew1 | refine below_set ?_ GE329.out) | exact HB.out)) hb); have n2_ := am (hbox); have n3_ := am ((by rw [hg]; exact (below_size (by repeat (first | (with_reducible first | exact HB.out | apply below_alloc | apply pw_below_drewN | apply below_drew1 | refine below_set ?_ GE329.out) | exact HB.out))) : w.heap.size ≤ gb331)); have n4_ := am ((by rw [hg]; exact (below_size (by repeat (first | (with_reducible first | exact HB.out | apply below_alloc | apply pw_below_drewN | apply below_drew1 | refine below_set ?_ GE329.out) | exact HB.out))) : w.heap.size ≤ gb331)); have n5_ := am ((by rw [hg]; exact Nat.ne_of_lt (blk_lt (g := gb329) (o := .cells #[.slice none 0 0, .int .i64 0] 35 (0, 0)) (by (with_reducible repeat (first | refine blk_drewN ?_ _ | refine blk_drew ?_ | refine blk_alloc ?_ _)); exact BK329.out)) : gb329 ≠ gb331)); have n6_ := am ((by rw [hg]; exact Nat.ne_of_gt (blk_lt (g := gb329) (o := .cells #[.slice none 0 0, .int .i64 0] 35 (0, 0)) (by (with_reducible repeat (first | refine blk_drewN ?_ _ | refine blk_drew ?_ | refine blk_alloc ?_ _)); exact BK329.out)) : gb331 ≠ gb329)); clear BK329 HB; revert n0_ n1_ n2_ n3_ n4_ n5_ n6_; intro BK329 HB BK331 GW331 GE331 NB329_331 NB331_329; clear hb hbox hg; have hnb8 := NB331_329.out; have hnc8 := NB329_331.out; have hcz9_0 : w7.cell? ⟨gb331, 0, none⟩ = some (.slice none 0 0) := (blk_cell BK331.out 0).trans rfl; have hcz9_1 : w7.cell? ⟨gb331, 1, none⟩ = some (.int .i64 0) := (blk_cell BK331.out 1).trans rfl; have hfz9_0 := blk_frozen BK331.out 0; have hfz9_1 := blk_frozen BK331.out 1))
 go_loopg [11] k (fun kq v11 w' => ∃ (x11_1 : Int) (x332000_1 : List Int) (u332000 : Value), v11 = .int .i64 x11_1 ∧ Aside0 (hypercubelaw1_Facts.l0 kq a0 l1 l3 x11_1 x332000_1 t330 = some (r1, r2, r3)) ∧ Aside0 (kq ≤ k) ∧ Aside0 (Kd.R (Kd.int .i64) 3 w' w.heap.size (fun _ => True) u332000 x332000_1) ∧ Aside0 (w'.heap[gb329]? = some (.cells #[(.slice none 0 0), .int .i64 0] 35 (0, 0))) ∧ Aside0 (w'.heap[gb331]? = some (.cells #[u332000, .int .i64 t330] 35 (0, 0))) ∧ Aside0 (Below w.heap.size w w'))
 case atStart => exact ⟨(0), (([] : List Int)), (.slice none 0 0), (by first | rfl | (simp; done) | (simp [*]; done)), H', ⟨Nat.le_refl _⟩, ⟨by first | exact Kd.R_nil _ _ _ _ _ | exact Kd.N_nil _ _ _ _ _ | exact Kd.V_nil _ _ _ _ _ | exact Kd.Q_nil _ _ _ _ _ | exact Kd.S_nil _ _ _ _ _⟩, ⟨by (with_reducible repeat (first | refine blk_drewN ?_ _ | refine blk_drew ?_ | refine blk_alloc ?_ _)); refine blk_far ?_ NB329_331.out _; (with_reducible repeat (first | refine blk_drewN ?_ _ | refine blk_drew ?_ | refine blk_alloc ?_ _)); refine blk_far ?_ NB329_331.out _; (with_reducible repeat (first | refine blk_drewN ?_ _ | refine blk_drew ?_ | refine blk_alloc ?_ _)); exact BK329.out⟩, ⟨by (with_reducible repeat (first | refine blk_drewN ?_ _ | refine blk_drew ?_ | refine blk_alloc ?_ _)); refine blk_put (cs := #[.slice none 0 0, .int .i64 0]) ?_ 1 _ rfl; (with_reducible repeat (first | refine blk_drewN ?_ _ | refine blk_drew ?_ | refine blk_alloc ?_ _)); refine blk_put (cs := #[.slice none 0 0, .int .i64 0]) ?_ 0 _ rfl; (with_reducible repeat (first | refine blk_drewN ?_ _ | refine blk_drew ?_ | refine blk_alloc ?_ _)); exact BK331.out⟩, ⟨by repeat (first | (with_reducible first | exact HB.out | apply below_alloc | apply pw_below_drewN | apply below_drew1 | refine below_set ?_ GE329.out | refine below_set ?_ GE331.out) | exact HB.out)⟩⟩
 case round =>
  clear H'
  try clear c1
  try clear c2
  try clear p2
  try clear c3
  try clear c4
  try clear c8
  try clear hcz9_0
  try clear hcz9_1
  try clear hfz9_0
  try clear hfz9_1
  obtain ⟨x11_1, x332000_1, u332000, rfl, HA, HK1, HO_332000, BK329, BK331, HB⟩ := hrel
  cases gk with
  | zero => exact absurd HA.out (by simp [hypercubelaw1_Facts.l0])
  | succ k1 =>
   have H := HA.out
   clear HA
   simp only [hypercubelaw1_Facts.l0] at H
   replace H := Option.bind_eq_some_iff.mp H
   obtain ⟨t332, A100, H⟩ := H
   replace H : (if x11_1 ≤ t332 then (if x11_1 < (l1.length : Int) then (if 0 ≤ x11_1 then ((hypercubelaw1_within.f (rd l1 x11_1) 5).bind fun t334 => (if x332000_1.length < 17592186044416 then (hypercubelaw1_Facts.l0 k1 a0 l1 l3 (wrap64 (x11_1 + 1)) (x332000_1 ++ [wrap64 (1 + t334)]) t330) else (none))) else (none)) else ((hypercubelaw1_within.f (wrap64 (x11_1 + 2)) 5).bind fun t338 => (if x332000_1.length < 17592186044416 then (hypercubelaw1_Facts.l0 k1 a0 l1 l3 (wrap64 (x11_1 + 1)) (x332000_1 ++ [wrap64 (1 + t338)]) t330) else (none)))) else ((hypercubelaw1_within.f a0 7).bind fun t342 => (if t342 = 0 then (if 0 < (x332000_1.length : Int) then (hypercubelaw1_Facts.j1 k1 l3 (x332000_1.set (0 : Int).toNat 16) t330) else (none)) else (hypercubelaw1_Facts.j1 k1 l3 x332000_1 t330)))) = some (r1, r2, r3) := H
   have A10 := am A100
   clear A100
   by_cases c11 : x11_1 ≤ t332
   ·rw [if_pos c11] at H
    have c11b0 : decide (x11_1 ≤ t332) = true := decide_eq_true c11
    clear c11
    by_cases c12 : x11_1 < (l1.length : Int)
    ·rw [if_pos c12] at H
     have c12b0 : decide (x11_1 < (l1.length : Int)) = true := decide_eq_true c12
     clear c12
     by_cases c13 : 0 ≤ x11_1
     ·rw [if_pos c13] at H
      have c13b0 : decide (0 ≤ x11_1) = true := decide_eq_true c13
      clear c13
      replace H := Option.bind_eq_some_iff.mp H
      obtain ⟨t334, A140, H⟩ := H
      replace H : (if x332000_1.length < 17592186044416 then (hypercubelaw1_Facts.l0 k1 a0 l1 l3 (wrap64 (x11_1 + 1)) (x332000_1 ++ [wrap64 (1 + t334)]) t330) else (none)) = some (r1, r2, r3) := H
      have A14 := am A140
      clear A140
      by_cases c15 : x332000_1.length < 17592186044416
      ·rw [if_pos c15] at H
       have LMc15 := am c15
       clear c15
       obtain ⟨y335, hy335⟩ : ∃ y_ : List Int, y_ = (x332000_1 ++ [wrap64 (1 + t334)]) := ⟨_, rfl⟩
       replace H : (hypercubelaw1_Facts.l0 k1 a0 l1 l3 (wrap64 (x11_1 + 1)) y335 t330) = some (r1, r2, r3) := by rw [hy335]; with_reducible exact H
       have Ny335 := am hy335
       clear hy335
       have H' := am H
       clear H
       try go_wp2_with (first | (go_at_call 45; (with_reducible refine (hypercubelaw1_within.calls a0 4 t332 _ A10.out).mono ?_); rintro e w' ⟨rfl, ⟨nd, rfl⟩⟩; (try (rw [drewN_self wr]; generalize hq_ : World.drewN wr _ = wr; have n0_ : Aside0 (Kd.R (Kd.int .i64) 3 wr w.heap.size (fun _ => True) u332000 x332000_1) := ⟨by rw [← hq_]; exact (by (with_reducible repeat (first | apply Kd.R_alloc | apply Kd.R_drewN | apply Kd.R_drew)); exact HO_332000.out)⟩; have n1_ : Aside0 (wr.heap[gb329]? = some (.cells #[.slice none 0 0, .int .i64 0] 35 (0, 0))) := ⟨by rw [← hq_]; exact (by (with_reducible repeat (first | refine blk_drewN ?_ _ | refine blk_drew ?_ | refine blk_alloc ?_ _)); exact BK329.out)⟩; have n2_ : Aside0 (wr.heap[gb331]? = some (.cells #[u332000, .int .i64 t330] 35 (0, 0))) := ⟨by rw [← hq_]; exact (by (with_reducible repeat (first | refine blk_drewN ?_ _ | refine blk_drew ?_ | refine blk_alloc ?_ _)); exact BK331.out)⟩; have n3_ : Aside0 (Below w.heap.size w wr) := ⟨by rw [← hq_]; exact (by repeat (first | (with_reducible first | exact HB.out | apply below_alloc | apply pw_below_drewN | apply below_drew1 | refine below_set ?_ GE329.out | refine below_set ?_ GE331.out) | exact HB.out))⟩; clear HO_332000 BK329 BK331 HB hq_; revert n0_ n1_ n2_ n3_; intro HO_332000 BK329 BK331 HB)); have p333 : 0 ≤ (x11_1 : Int) := of_decide_eq_true (by first | (with_reducible assumption) | assumption); have q333 : x11_1 < (l1.length : Int) := of_decide_eq_true (by first | (with_reducible assumption) | assumption); obtain ⟨ad333, e333, hx333_0⟩ := Kd.at_int HR1.out x11_1 p333 q333; cases e333; replace hx333_0 := (HB.out.cell (World.block_lt_of_cell? w _ hx333_0)).trans hx333_0; replace p333 := eq_true p333; replace q333 := eq_true q333))
       have n0_ := am (Kd.R_drew HO_332000.out)
       have n1_ := am (blk_drew BK329.out)
       have n2_ := am (blk_drew BK331.out)
       have n3_ := am (below_drew1 HB.out)
       clear HO_332000 BK329 BK331 HB
       revert n0_ n1_ n2_ n3_
       intro HO_332000 BK329 BK331 HB
       refine start_ (n := 9) (S := fun w' => w'.cell? ⟨gb331, 0, none⟩ = some (u332000) ∧ w'.cell? ⟨gb331, 1, none⟩ = some (.int .i64 t330)) (ds := [8]) (bb 9 0) (by kernel_rfl) rfl rfl ⟨bc BK331 0, bc BK331 1⟩ (fun hHeld => ?_); refine with_tabW hypercubelaw1_Facts.tab8 hypercubelaw1_Facts.bits8 (fun HT_ HW_ => ?_)
       generalize wr.drew = w16 at HO_332000 BK329 BK331 HB hHeld ⊢
       refine pu (i := 0) (N := some 38) (bb 9 1) HT_ ?_
       refine pu (i := 2) (N := some 40) (bb 9 5) HT_ ?_
       refine tk (i := 1) (N := some 39) (bb 9 7) HT_ HW_ hHeld ?_
       refine one_ (i := 3) (N := some 41) (bb 9 15) rfl rfl (one_of HT_.out (by kernel_rfl)) (by decide) (fun K hK => ?_)
       refine goes_ Try.func45 (by kernel_rfl) rfl #[.int .i64 (rd l1 x11_1), .int .i64 5] (by rfl) rfl rfl (by (try simp only [List.map_toArray, List.map_cons, List.map_nil]); first | done | rfl | (simp only [List.length_drop, List.length_take]; rfl)) ?_
       with_reducible refine (hypercubelaw1_within.calls (rd l1 x11_1) 5 t334 _ A14.out).mono ?_
       rintro e w' ⟨rfl, ⟨nd, rfl⟩⟩
       refine ⟨_, rfl, ?_⟩
       refine hK.out _ _ ⟨bc BK331 0, bc BK331 1⟩ (fun hHeld => ?_)
       clear hK K
       refine nm ?_
       refine pu (i := 4) (N := some 42) (bb 9 31) HT_ ?_
       refine one_ (i := 5) (N := some 43) (bb 9 63) rfl rfl (one_of HT_.out (by kernel_rfl)) (by decide) (fun K hK => ?_)
       refine value_ (w1 := ?_) (v := ?_) (by rfl) rfl ?_ ?_
       rotate_left 2
       ·go_simp
        constructor
        ·rfl
        ·rfl
       refine hK.out _ _ ⟨(blk_cell (blk_alloc BK331.out _) 0).trans rfl, (blk_cell (blk_alloc BK331.out _) 1).trans rfl⟩ (fun hHeld => ?_)
       clear hK K
       refine nm ?_
       refine one_ (i := 6) (N := some 44) (bb 9 127) rfl rfl (one_of HT_.out (by kernel_rfl)) (by decide) (fun K hK => ?_)
       refine Kd.R_append_step (Kd.int .i64) (w0 := w) w.heap.size (by rfl) (.tmp 39) (.tmp 43) 22 3 (.int .i64 0) 8 rfl Try.underlying22 info3 rfl (by decide) (by omega) u332000 x332000_1 (wrap64 (1 + t334)) [.int .i64 (wrap64 (1 + t334))] (fun _ => True) (fun _ => False) rfl rfl ?aP (fun _ hk => hk.elim) ?aF ?aO ?aB ?aS ?aL ?_
       (case aP => exact rfl)
       (case aB => exact (wmv HB.out))
       (case aF => exact (fun _ _ => trivial))
       (case aO => exact (Kd.R_mv HO_332000.out))
       (case aS => exact (below_size (wmv HB.out)))
       (case aL => have := LMc15.out; omega)
       intro v336 w17 ho hb hg hat
       rw [← Ny335.out] at ho
       have n0_ := am (blk_grown (bmv BK329.out) hg (Kd.R_ne HO_332000.out BK329.out (by decide)))
       have n1_ := am (blk_grown (bmv BK331.out) hg (Kd.R_ne HO_332000.out BK331.out (by decide)))
       have n2_ := am (hb)
       have n3_ := am (ho)
       clear BK329 BK331 HB HO_332000
       revert n0_ n1_ n2_ n3_
       intro BK329 BK331 HB HO337
       clear ho hb hg hat
       obtain ⟨Ao18, co18, eo18⟩ := Kd.R_slice HO337.out
       (first | subst eo18 | (injection eo18 with f1_ f2_ f3_; have f4_ := f1_.symm; have f5_ := f3_.symm; clear f1_ f2_ f3_; subst f4_; subst f5_))
       refine hK.out _ _ ⟨bc BK331 0, bc BK331 1⟩ (fun hHeld => ?_)
       clear hK K
       refine nm ?_
       refine pu (i := 7) (N := some 45) (bb 9 255) HT_ ?_
       refine last_ (i := 8) (N := none) (bb 9 511) rfl rfl (one_of HT_.out (by kernel_rfl)) (by decide) (fun K hK => ?_)
       have hs19 : w17.cell? ⟨gb331, 0, none⟩ = some (u332000) := (blk_cell BK331.out 0).trans rfl
       have hfs19 := blk_frozen BK331.out 0
       have hns19_0 := NB329_331.out
       have hms19_0 := NB331_329.out
       refine skip_ (w1 := ?_) (by rfl) rfl ?_ ?_
       rotate_left
       ·go_simp
        rfl
       refine hK.out _ _ ?_
       clear hK K
       refine done_ (done_of HT_.out (by kernel_rfl)) ?_
       try go_wp2
       go_roundg k1
       case measure => have := HK1.out; omega
       case rel => exact ⟨(wrap64 (x11_1 + 1)), (y335), (.slice Ao18 y335.length co18), (by first | rfl | (simp; done) | (simp [*]; done)), H', ⟨by have := HK1.out; omega⟩, ⟨by (with_reducible repeat (first | apply Kd.R_alloc | apply Kd.R_drewN | apply Kd.R_drew)); exact Kd.R_mono (Kd.R_far (p := ⟨gb331, 0, none⟩) (Kd.R_types HO337.out BK331.out (by decide)) (fun _ hk => hk.2) (.slice Ao18 y335.length co18)) (fun _ hk => trivial)⟩, ⟨by (with_reducible repeat (first | refine blk_drewN ?_ _ | refine blk_drew ?_ | refine blk_alloc ?_ _)); refine blk_far ?_ NB329_331.out _; (with_reducible repeat (first | refine blk_drewN ?_ _ | refine blk_drew ?_ | refine blk_alloc ?_ _)); exact BK329.out⟩, ⟨by (with_reducible repeat (first | refine blk_drewN ?_ _ | refine blk_drew ?_ | refine blk_alloc ?_ _)); refine blk_put (cs := #[u332000, .int .i64 t330]) ?_ 0 _ rfl; (with_reducible repeat (first | refine blk_drewN ?_ _ | refine blk_drew ?_ | refine blk_alloc ?_ _)); exact BK331.out⟩, ⟨by repeat (first | (with_reducible first | exact HB.out | apply below_alloc | apply pw_below_drewN | apply below_drew1 | refine below_set ?_ GE329.out | refine below_set ?_ GE331.out) | exact HB.out)⟩⟩
      ·rw [if_neg c15] at H
       exact absurd H (by simp)
     ·rw [if_neg c13] at H
      exact absurd H (by simp)
    ·rw [if_neg c12] at H
     have c12b0 : decide (x11_1 < (l1.length : Int)) = false := decide_eq_false c12
     clear c12
     replace H := Option.bind_eq_some_iff.mp H
     obtain ⟨t338, A200, H⟩ := H
     replace H : (if x332000_1.length < 17592186044416 then (hypercubelaw1_Facts.l0 k1 a0 l1 l3 (wrap64 (x11_1 + 1)) (x332000_1 ++ [wrap64 (1 + t338)]) t330) else (none)) = some (r1, r2, r3) := H
     have A20 := am A200
     clear A200
     by_cases c21 : x332000_1.length < 17592186044416
     ·rw [if_pos c21] at H
      have LMc21 := am c21
      clear c21
      obtain ⟨y339, hy339⟩ : ∃ y_ : List Int, y_ = (x332000_1 ++ [wrap64 (1 + t338)]) := ⟨_, rfl⟩
      replace H : (hypercubelaw1_Facts.l0 k1 a0 l1 l3 (wrap64 (x11_1 + 1)) y339 t330) = some (r1, r2, r3) := by rw [hy339]; with_reducible exact H
      have Ny339 := am hy339
      clear hy339
      have H' := am H
      clear H
      try go_wp2_with (first | (go_at_call 45; (with_reducible refine (hypercubelaw1_within.calls a0 4 t332 _ A10.out).mono ?_); rintro e w' ⟨rfl, ⟨nd, rfl⟩⟩; (try (rw [drewN_self wr]; generalize hq_ : World.drewN wr _ = wr; have n0_ : Aside0 (Kd.R (Kd.int .i64) 3 wr w.heap.size (fun _ => True) u332000 x332000_1) := ⟨by rw [← hq_]; exact (by (with_reducible repeat (first | apply Kd.R_alloc | apply Kd.R_drewN | apply Kd.R_drew)); exact HO_332000.out)⟩; have n1_ : Aside0 (wr.heap[gb329]? = some (.cells #[.slice none 0 0, .int .i64 0] 35 (0, 0))) := ⟨by rw [← hq_]; exact (by (with_reducible repeat (first | refine blk_drewN ?_ _ | refine blk_drew ?_ | refine blk_alloc ?_ _)); exact BK329.out)⟩; have n2_ : Aside0 (wr.heap[gb331]? = some (.cells #[u332000, .int .i64 t330] 35 (0, 0))) := ⟨by rw [← hq_]; exact (by (with_reducible repeat (first | refine blk_drewN ?_ _ | refine blk_drew ?_ | refine blk_alloc ?_ _)); exact BK331.out)⟩; have n3_ : Aside0 (Below w.heap.size w wr) := ⟨by rw [← hq_]; exact (by repeat (first | (with_reducible first | exact HB.out | apply below_alloc | apply pw_below_drewN | apply below_drew1 | refine below_set ?_ GE329.out | refine below_set ?_ GE331.out) | exact HB.out))⟩; clear HO_332000 BK329 BK331 HB hq_; revert n0_ n1_ n2_ n3_; intro HO_332000 BK329 BK331 HB))))
      have n0_ := am (Kd.R_drew HO_332000.out)
      have n1_ := am (blk_drew BK329.out)
      have n2_ := am (blk_drew BK331.out)
      have n3_ := am (below_drew1 HB.out)
      clear HO_332000 BK329 BK331 HB
      revert n0_ n1_ n2_ n3_
      intro HO_332000 BK329 BK331 HB
      refine start_ (n := 9) (S := fun w' => w'.cell? ⟨gb331, 0, none⟩ = some (u332000) ∧ w'.cell? ⟨gb331, 1, none⟩ = some (.int .i64 t330)) (ds := [8]) (bb 9 0) (by kernel_rfl) rfl rfl ⟨bc BK331 0, bc BK331 1⟩ (fun hHeld => ?_); refine with_tabW hypercubelaw1_Facts.tab8 hypercubelaw1_Facts.bits8 (fun HT_ HW_ => ?_)
      generalize wr.drew = w22 at HO_332000 BK329 BK331 HB hHeld ⊢
      refine pu (i := 0) (N := some 38) (bb 9 1) HT_ ?_
      refine pu (i := 2) (N := some 40) (bb 9 5) HT_ ?_
      refine tk (i := 1) (N := some 39) (bb 9 7) HT_ HW_ hHeld ?_
      refine one_ (i := 3) (N := some 41) (bb 9 15) rfl rfl (one_of HT_.out (by kernel_rfl)) (by decide) (fun K hK => ?_)
      refine goes_ Try.func45 (by kernel_rfl) rfl #[.int .i64 (wrap64 (x11_1 + 2)), .int .i64 5] (by rfl) rfl rfl (by (try simp only [List.map_toArray, List.map_cons, List.map_nil]); first | done | rfl | (simp only [List.length_drop, List.length_take]; rfl)) ?_
      with_reducible refine (hypercubelaw1_within.calls (wrap64 (x11_1 + 2)) 5 t338 _ A20.out).mono ?_
      rintro e w' ⟨rfl, ⟨nd, rfl⟩⟩
      refine ⟨_, rfl, ?_⟩
      refine hK.out _ _ ⟨bc BK331 0, bc BK331 1⟩ (fun hHeld => ?_)
      clear hK K
      refine nm ?_
      refine pu (i := 4) (N := some 42) (bb 9 31) HT_ ?_
      refine one_ (i := 5) (N := some 43) (bb 9 63) rfl rfl (one_of HT_.out (by kernel_rfl)) (by decide) (fun K hK => ?_)
      refine value_ (w1 := ?_) (v := ?_) (by rfl) rfl ?_ ?_
      rotate_left 2
      ·go_simp
       constructor
       ·rfl
       ·rfl
      refine hK.out _ _ ⟨(blk_cell (blk_alloc BK331.out _) 0).trans rfl, (blk_cell (blk_alloc BK331.out _) 1).trans rfl⟩ (fun hHeld => ?_)
      clear hK K
      refine nm ?_
      refine one_ (i := 6) (N := some 44) (bb 9 127) rfl rfl (one_of HT_.out (by kernel_rfl)) (by decide) (fun K hK => ?_)
      refine Kd.R_append_step (Kd.int .i64) (w0 := w) w.heap.size (by rfl) (.tmp 39) (.tmp 43) 22 3 (.int .i64 0) 8 rfl Try.underlying22 info3 rfl (by decide) (by omega) u332000 x332000_1 (wrap64 (1 + t338)) [.int .i64 (wrap64 (1 + t338))] (fun _ => True) (fun _ => False) rfl rfl ?aP (fun _ hk => hk.elim) ?aF ?aO ?aB ?aS ?aL ?_
      (case aP => exact rfl)
      (case aB => exact (wmv HB.out))
      (case aF => exact (fun _ _ => trivial))
      (case aO => exact (Kd.R_mv HO_332000.out))
      (case aS => exact (below_size (wmv HB.out)))
      (case aL => have := LMc21.out; omega)
      intro v340 w23 ho hb hg hat
      rw [← Ny339.out] at ho
      have n0_ := am (blk_grown (bmv BK329.out) hg (Kd.R_ne HO_332000.out BK329.out (by decide)))
      have n1_ := am (blk_grown (bmv BK331.out) hg (Kd.R_ne HO_332000.out BK331.out (by decide)))
      have n2_ := am (hb)
      have n3_ := am (ho)
      clear BK329 BK331 HB HO_332000
      revert n0_ n1_ n2_ n3_
      intro BK329 BK331 HB HO341
      clear ho hb hg hat
      obtain ⟨Ao24, co24, eo24⟩ := Kd.R_slice HO341.out
      (first | subst eo24 | (injection eo24 with f1_ f2_ f3_; have f4_ := f1_.symm; have f5_ := f3_.symm; clear f1_ f2_ f3_; subst f4_; subst f5_))
      refine hK.out _ _ ⟨bc BK331 0, bc BK331 1⟩ (fun hHeld => ?_)
      clear hK K
      refine nm ?_
      refine pu (i := 7) (N := some 45) (bb 9 255) HT_ ?_
      refine last_ (i := 8) (N := none) (bb 9 511) rfl rfl (one_of HT_.out (by kernel_rfl)) (by decide) (fun K hK => ?_)
      have hs25 : w23.cell? ⟨gb331, 0, none⟩ = some (u332000) := (blk_cell BK331.out 0).trans rfl
      have hfs25 := blk_frozen BK331.out 0
      have hns25_0 := NB329_331.out
      have hms25_0 := NB331_329.out
      refine skip_ (w1 := ?_) (by rfl) rfl ?_ ?_
      rotate_left
      ·go_simp
       rfl
      refine hK.out _ _ ?_
      clear hK K
      refine done_ (done_of HT_.out (by kernel_rfl)) ?_
      try go_wp2
      go_roundg k1
      case measure => have := HK1.out; omega
      case rel => exact ⟨(wrap64 (x11_1 + 1)), (y339), (.slice Ao24 y339.length co24), (by first | rfl | (simp; done) | (simp [*]; done)), H', ⟨by have := HK1.out; omega⟩, ⟨by (with_reducible repeat (first | apply Kd.R_alloc | apply Kd.R_drewN | apply Kd.R_drew)); exact Kd.R_mono (Kd.R_far (p := ⟨gb331, 0, none⟩) (Kd.R_types HO341.out BK331.out (by decide)) (fun _ hk => hk.2) (.slice Ao24 y339.length co24)) (fun _ hk => trivial)⟩, ⟨by (with_reducible repeat (first | refine blk_drewN ?_ _ | refine blk_drew ?_ | refine blk_alloc ?_ _)); refine blk_far ?_ NB329_331.out _; (with_reducible repeat (first | refine blk_drewN ?_ _ | refine blk_drew ?_ | refine blk_alloc ?_ _)); exact BK329.out⟩, ⟨by (with_reducible repeat (first | refine blk_drewN ?_ _ | refine blk_drew ?_ | refine blk_alloc ?_ _)); refine blk_put (cs := #[u332000, .int .i64 t330]) ?_ 0 _ rfl; (with_reducible repeat (first | refine blk_drewN ?_ _ | refine blk_drew ?_ | refine blk_alloc ?_ _)); exact BK331.out⟩, ⟨by repeat (first | (with_reducible first | exact HB.out | apply below_alloc | apply pw_below_drewN | apply below_drew1 | refine below_set ?_ GE329.out | refine below_set ?_ GE331.out) | exact HB.out)⟩⟩
     ·rw [if_neg c21] at H
      exact absurd H (by simp)
   ·rw [if_neg c11] at H
    have c11b0 : decide (x11_1 ≤ t332) = false := decide_eq_false c11
    clear c11
    replace H := Option.bind_eq_some_iff.mp H
    obtain ⟨t342, A260, H⟩ := H
    replace H : (if t342 = 0 then (if 0 < (x332000_1.length : Int) then (hypercubelaw1_Facts.j1 k1 l3 (x332000_1.set (0 : Int).toNat 16) t330) else (none)) else (hypercubelaw1_Facts.j1 k1 l3 x332000_1 t330)) = some (r1, r2, r3) := H
    have A26 := am A260
    clear A260
    have HC27 := am H
    clear H
    go_upto_if 48 with (first | (go_at_call 45; (with_reducible refine (hypercubelaw1_within.calls a0 4 t332 _ A10.out).mono ?_); rintro e w' ⟨rfl, ⟨nd, rfl⟩⟩) | (go_at_call 45; (with_reducible refine (hypercubelaw1_within.calls a0 7 t342 _ A26.out).mono ?_); rintro e w' ⟨rfl, ⟨nd, rfl⟩⟩))
    (try simp only [Act.put, List.setIfInBounds_toArray, List.set_cons_zero, List.set_cons_succ])
    go_cut [] (fun wc => ∃ (kq : Nat) (x332000_26 : List Int) (u332000 : Value), Aside0 (hypercubelaw1_Facts.j1 kq l3 x332000_26 t330 = some (r1, r2, r3)) ∧ Aside0 (kq ≤ k1) ∧ Aside0 (Kd.R (Kd.int .i64) 3 wc w.heap.size (fun _ => True) u332000 x332000_26) ∧ Aside0 (wc.heap[gb329]? = some (.cells #[(.slice none 0 0), .int .i64 0] 35 (0, 0))) ∧ Aside0 (wc.heap[gb331]? = some (.cells #[u332000, .int .i64 t330] 35 (0, 0))) ∧ Aside0 (Below w.heap.size w wc))
    case first =>
     have H := HC27.out
     clear HC27
     by_cases c28 : t342 = 0
     ·rw [if_pos c28] at H
      have c28b0 : (t342 == 0) = true := beq_iff_eq.mpr c28
      have c28b1 : (t342 != 0) = false := bne_eq_false_iff_eq.mpr c28
      clear c28
      (first | rw [c28b0] | (simp only [i64_w, i32_w]; rw [c28b0]) | skip)
      by_cases c29 : 0 < (x332000_1.length : Int)
      ·rw [if_pos c29] at H
       have c29b0 : decide (0 < (x332000_1.length : Int)) = true := decide_eq_true c29
       have c29b1 : decide (0 < x332000_1.length) = true := decide_eq_true (by omega)
       clear c29
       obtain ⟨y343, hy343⟩ : ∃ y_ : List Int, y_ = (x332000_1.set (0 : Int).toNat 16) := ⟨_, rfl⟩
       replace H : (hypercubelaw1_Facts.j1 k1 l3 y343 t330) = some (r1, r2, r3) := by rw [hy343]; with_reducible exact H
       have Ny343 := am hy343
       clear hy343
       have H' := am H
       clear H
       have hnb31 := NB331_329.out
       have hnc31 := NB329_331.out
       have hcz32_0 : wr.cell? ⟨gb331, 0, none⟩ = some (u332000) := (blk_cell BK331.out 0).trans rfl
       have hcz32_1 : wr.cell? ⟨gb331, 1, none⟩ = some (.int .i64 t330) := (blk_cell BK331.out 1).trans rfl
       have hfz32_0 := blk_frozen BK331.out 0
       have hfz32_1 := blk_frozen BK331.out 1
       have p30 : 0 ≤ (0 : Int) := (by omega)
       have q30 : (0 : Int) < ((x332000_1.length : Int) : Int) := of_decide_eq_true (by first | (with_reducible assumption) | assumption)
       have qi30 : (0 < x332000_1.length) = True := eq_true (by omega)
       obtain ⟨go30, co30, eo30, gb30, gl30, cl30, HG30⟩ := Kd.R_form HO_332000.out (by omega)
       (first | cases eo30 | (injection eo30 with ea_ en_ ec_; (first | subst ea_ | (injection ea_ with ea_; subst ea_)); subst ec_; clear en_))
       have GB30 := am gb30
       have GG30 := am HG30
       clear gb30 gl30 HG30
       obtain ⟨hx30_0, hf30_0⟩ := Kd.R_celln 0 HO_332000.out (0 : Int) p30 q30
       (try rw [show ((0 : Int)).toNat = 0 from rfl] at hx30_0)
       (try simp only [Nat.reduceMul, Nat.zero_mul, Nat.zero_add, Nat.reduceAdd] at hx30_0)
       (try rw [show ((0 : Int)).toNat = 0 from rfl] at hf30_0)
       (try simp only [Nat.reduceMul, Nat.zero_mul, Nat.zero_add, Nat.reduceAdd] at hf30_0)
       replace p30 := eq_true p30
       replace q30 := eq_true q30
       have HP33 := Kd.R_putg HO_332000.out (0 : Int) 16
       go_wp2_with (first | ((with_reducible refine gate_store (t := 3) (p := 51) rfl ?_); refine store_event (t := 3) (p := 51) (v := ?vo_w34) (w1 := (wr.setCell ⟨go30, (0 : Int).toNat, none⟩ (.int .i64 16))) ?hg ?ho ?hn ?hr ?_; (case ho => rfl); (case hg => rfl); (case hn => rfl); (case hr => first | (go_simp; done) | (go_simp; rfl)); intro w34 hw; have hg : wr.grownBy w34 (some go30) := (by rw [hw]; exact HP33.2); have hp_ : Kd.R (Kd.int .i64) 3 w34 w.heap.size (fun _ => True) (.slice (some ⟨go30, 0, none⟩) x332000_1.length co30) y343 := (by rw [hw, Ny343.out]; exact HP33.1); clear HP33; have n0_ := am (hp_); have n1_ := am (blk_grown (bmv BK329.out) hg (Kd.R_ne HO_332000.out BK329.out (by decide))); have n2_ := am (blk_grown (bmv BK331.out) hg (Kd.R_ne HO_332000.out BK331.out (by decide))); have n3_ := am ((by rw [hw]; exact below_set (HB.out) GB30.out : Below w.heap.size w w34)); clear HO_332000 BK329 BK331 HB; revert n0_ n1_ n2_ n3_; intro HO_332000 BK329 BK331 HB; clear hg hw hp_))
       go_meet
       case rel => exact ⟨_, (y343), (.slice (some ⟨go30, 0, none⟩) x332000_1.length co30), H', ⟨by have := HK1.out; first | omega | exact Nat.le_refl _⟩, ⟨by rw [Ny343.out]; exact (Kd.R_putg (Kd.R_drewN HO_332000.out _) (0 : Int) 16).1⟩, ⟨blk_grown (blk_drewN BK329.out _) (Kd.R_putg (Kd.R_drewN HO_332000.out _) (0 : Int) 16).2 (Kd.R_ne HO_332000.out BK329.out (by decide))⟩, ⟨blk_grown (blk_drewN BK331.out _) (Kd.R_putg (Kd.R_drewN HO_332000.out _) (0 : Int) 16).2 (Kd.R_ne HO_332000.out BK331.out (by decide))⟩, ⟨below_set (pw_below_drewN HB.out _) GB30.out⟩⟩
      ·rw [if_neg c29] at H
       exact absurd H (by simp)
     ·rw [if_neg c28] at H
      have c28b0 : (t342 == 0) = false := beq_eq_false_iff_ne.mpr c28
      have c28b1 : (t342 != 0) = true := bne_iff_ne.mpr c28
      (first | rw [c28b0] | (simp only [i64_w, i32_w]; rw [c28b0]) | skip)
      have H' := am H
      clear H
      go_wp2
      go_meet
      case rel => exact ⟨_, (x332000_1), (u332000), H', ⟨by have := HK1.out; first | omega | exact Nat.le_refl _⟩, ⟨by (with_reducible repeat (first | apply Kd.R_alloc | apply Kd.R_drewN | apply Kd.R_drew)); exact HO_332000.out⟩, ⟨by (with_reducible repeat (first | refine blk_drewN ?_ _ | refine blk_drew ?_ | refine blk_alloc ?_ _)); exact BK329.out⟩, ⟨by (with_reducible repeat (first | refine blk_drewN ?_ _ | refine blk_drew ?_ | refine blk_alloc ?_ _)); exact BK331.out⟩, ⟨by repeat (first | (with_reducible first | exact HB.out | apply below_alloc | apply pw_below_drewN | apply below_drew1 | refine below_set ?_ GE329.out | refine below_set ?_ GE331.out) | exact HB.out)⟩⟩
    case rest =>
     clear HC27
     try clear c1
     try clear c2
     try clear p2
     try clear c3
     try clear p3
     try clear q3
     try clear hx3
     try clear qi3
     try clear c4
     try clear p6
     try clear c8
     try clear c11
     try clear c11b0
     try clear c12
     try clear c12b0
     try clear c13
     try clear c13b0
     try clear c15
     try clear c21
     try clear c23
     try clear c28
     try clear c28b0
     try clear c28b1
     try clear c29
     try clear c29b0
     try clear c29b1
     try clear p30
     try clear q30
     try clear hx30
     try clear qi30
     try clear hf30
     try clear c31
     try clear p33
     try clear q33
     try clear hx33
     try clear hcz32_0
     try clear hcz32_1
     try clear hcz9_0
     try clear hcz9_1
     try clear hfz32_0
     try clear hfz32_1
     try clear hfz9_0
     try clear hfz9_1
     try clear hx30_0
     try clear hx333_0
     try clear p2
     try clear p30
     try clear p333
     try clear q30
     try clear q333
     obtain ⟨kq, x332000_26, u332000, HA, HJ26, HO_332000, BK329, BK331, HB⟩ := hcut
     cases kq with
     | zero => exact absurd HA.out (by simp [hypercubelaw1_Facts.j1])
     | succ kj26 =>
      have H := HA.out
      clear HA
      simp only [hypercubelaw1_Facts.j1] at H
      have H' := am H
      clear H
      go_wp2
      go_loopg [13, 14] kj26 (fun kq v13 v14 w' => ∃ (x13_3 : List (S45)) (x14_3 : Int), v14 = .int .i64 x14_3 ∧ Aside0 (hypercubelaw1_Facts.l1 kq l3 x13_3 x14_3 x332000_26 t330 = some (r1, r2, r3)) ∧ Aside0 (kq ≤ kj26) ∧ Aside0 (Kd.S k45 45 w' w.heap.size (fun k_ => some k_ ≠ (u332000 : Value).ownBlock) v13 x13_3) ∧ Aside0 (Kd.R (Kd.int .i64) 3 w' w.heap.size (fun _ => True) u332000 x332000_26) ∧ Aside0 (w'.heap[gb329]? = some (.cells #[(.slice none 0 0), .int .i64 0] 35 (0, 0))) ∧ Aside0 (w'.heap[gb331]? = some (.cells #[u332000, .int .i64 t330] 35 (0, 0))) ∧ Aside0 (Below w.heap.size w w'))
      case atStart => exact ⟨(([] : List (S45))), (0), (by first | rfl | (simp; done) | (simp [*]; done)), H', ⟨Nat.le_refl _⟩, ⟨by first | exact Kd.S_nil _ _ _ _ _ | exact Kd.N_nil _ _ _ _ _ | exact Kd.V_nil _ _ _ _ _ | exact Kd.Q_nil _ _ _ _ _ | exact Kd.R_nil _ _ _ _ _⟩, ⟨by (with_reducible repeat (first | apply Kd.R_alloc | apply Kd.R_drewN | apply Kd.R_drew)); exact HO_332000.out⟩, ⟨by (with_reducible repeat (first | refine blk_drewN ?_ _ | refine blk_drew ?_ | refine blk_alloc ?_ _)); exact BK329.out⟩, ⟨by (with_reducible repeat (first | refine blk_drewN ?_ _ | refine blk_drew ?_ | refine blk_alloc ?_ _)); exact BK331.out⟩, ⟨by repeat (first | (with_reducible first | exact HB.out | apply below_alloc | apply pw_below_drewN | apply below_drew1 | refine below_set ?_ GE329.out | refine below_set ?_ GE331.out) | exact HB.out)⟩⟩
      case round =>
       clear H'
       try clear c1
       try clear c2
       try clear p2
       try clear c3
       try clear p3
       try clear q3
       try clear hx3
       try clear qi3
       try clear c4
       try clear p6
       try clear c8
       try clear c11
       try clear c11b0
       try clear c12
       try clear c12b0
       try clear c13
       try clear c13b0
       try clear c15
       try clear c21
       try clear c23
       try clear c28
       try clear c28b0
       try clear c28b1
       try clear c29
       try clear c29b0
       try clear c29b1
       try clear p30
       try clear q30
       try clear hx30
       try clear qi30
       try clear hf30
       try clear c31
       try clear p33
       try clear q33
       try clear hx33
       try clear hcz32_0
       try clear hcz32_1
       try clear hcz9_0
       try clear hcz9_1
       try clear hfz32_0
       try clear hfz32_1
       try clear hfz9_0
       try clear hfz9_1
       try clear hx30_0
       try clear hx333_0
       try clear p2
       try clear p3
       try clear p30
       try clear p33
       try clear p333
       try clear p6
       try clear q3
       try clear q30
       try clear q33
       try clear q333
       obtain ⟨x13_3, x14_3, rfl, HA, HK3, HO_13, HO_332000, BK329, BK331, HB⟩ := hrel
       cases gk with
       | zero => exact absurd HA.out (by simp [hypercubelaw1_Facts.l1])
       | succ k3 =>
        have H := HA.out
        clear HA
        simp only [hypercubelaw1_Facts.l1] at H
        have HC35 := am H
        clear H
        go_upto_region 13 with (fail)
        go_cut [59] (fun v59 wc => ∃ (kq : Nat) (x59_34 : Bool), v59 = .bool x59_34 ∧ Aside0 (hypercubelaw1_Facts.j3 kq l3 x13_3 x14_3 x59_34 x332000_26 t330 = some (r1, r2, r3)) ∧ Aside0 (kq ≤ k3) ∧ Aside0 (Kd.S k45 45 wc w.heap.size (fun k_ => some k_ ≠ (u332000 : Value).ownBlock) u13 x13_3) ∧ Aside0 (Kd.R (Kd.int .i64) 3 wc w.heap.size (fun _ => True) u332000 x332000_26) ∧ Aside0 (wc.heap[gb329]? = some (.cells #[(.slice none 0 0), .int .i64 0] 35 (0, 0))) ∧ Aside0 (wc.heap[gb331]? = some (.cells #[u332000, .int .i64 t330] 35 (0, 0))) ∧ Aside0 (Below w.heap.size w wc))
        case first =>
         have H := HC35.out
         clear HC35
         by_cases c36 : x14_3 < (l3.length : Int)
         ·rw [if_pos c36] at H
          have c36b0 : decide (x14_3 < (l3.length : Int)) = true := decide_eq_true c36
          clear c36
          (first | rw [c36b0] | (simp only [i64_w, i32_w]; rw [c36b0]) | skip)
          have H' := am H
          clear H
          go_wp2
          go_meet
          case rel => exact ⟨_, (decide (x14_3 < 40)), (by first | rfl | (simp; done) | (simp [*]; done)), H', ⟨by have := HK1.out; have := HJ26.out; have := HK3.out; first | omega | exact Nat.le_refl _⟩, ⟨by (with_reducible repeat (first | apply Kd.S_alloc | apply Kd.S_drewN | apply Kd.S_drew)); exact HO_13.out⟩, ⟨by (with_reducible repeat (first | apply Kd.R_alloc | apply Kd.R_drewN | apply Kd.R_drew)); exact HO_332000.out⟩, ⟨by (with_reducible repeat (first | refine blk_drewN ?_ _ | refine blk_drew ?_ | refine blk_alloc ?_ _)); exact BK329.out⟩, ⟨by (with_reducible repeat (first | refine blk_drewN ?_ _ | refine blk_drew ?_ | refine blk_alloc ?_ _)); exact BK331.out⟩, ⟨by repeat (first | (with_reducible first | exact HB.out | apply below_alloc | apply pw_below_drewN | apply below_drew1 | refine below_set ?_ GE329.out | refine below_set ?_ GE331.out) | exact HB.out)⟩⟩
         ·rw [if_neg c36] at H
          have c36b0 : decide (x14_3 < (l3.length : Int)) = false := decide_eq_false c36
          clear c36
          (first | rw [c36b0] | (simp only [i64_w, i32_w]; rw [c36b0]) | skip)
          have H' := am H
          clear H
          go_wp2
          go_meet
          case rel => exact ⟨_, (false), (by first | rfl | (simp; done) | (simp [*]; done)), H', ⟨by have := HK1.out; have := HJ26.out; have := HK3.out; first | omega | exact Nat.le_refl _⟩, ⟨by (with_reducible repeat (first | apply Kd.S_alloc | apply Kd.S_drewN | apply Kd.S_drew)); exact HO_13.out⟩, ⟨by (with_reducible repeat (first | apply Kd.R_alloc | apply Kd.R_drewN | apply Kd.R_drew)); exact HO_332000.out⟩, ⟨by (with_reducible repeat (first | refine blk_drewN ?_ _ | refine blk_drew ?_ | refine blk_alloc ?_ _)); exact BK329.out⟩, ⟨by (with_reducible repeat (first | refine blk_drewN ?_ _ | refine blk_drew ?_ | refine blk_alloc ?_ _)); exact BK331.out⟩, ⟨by repeat (first | (with_reducible first | exact HB.out | apply below_alloc | apply pw_below_drewN | apply below_drew1 | refine below_set ?_ GE329.out | refine below_set ?_ GE331.out) | exact HB.out)⟩⟩
        case rest =>
         clear HC35
         try clear c1
         try clear c2
         try clear p2
         try clear c3
         try clear p3
         try clear q3
         try clear hx3
         try clear qi3
         try clear c4
         try clear p6
         try clear c8
         try clear c11
         try clear c11b0
         try clear c12
         try clear c12b0
         try clear c13
         try clear c13b0
         try clear c15
         try clear c21
         try clear c23
         try clear c28
         try clear c28b0
         try clear c28b1
         try clear c29
         try clear c29b0
         try clear c29b1
         try clear p30
         try clear q30
         try clear hx30
         try clear qi30
         try clear hf30
         try clear c31
         try clear p33
         try clear q33
         try clear hx33
         try clear c36
         try clear c36b0
         try clear hcz32_0
         try clear hcz32_1
         try clear hcz9_0
         try clear hcz9_1
         try clear hfz32_0
         try clear hfz32_1
         try clear hfz9_0
         try clear hfz9_1
         try clear hx30_0
         try clear hx333_0
         try clear p2
         try clear p3
         try clear p30
         try clear p33
         try clear p333
         try clear p6
         try clear q3
         try clear q30
         try clear q33
         try clear q333
         obtain ⟨kq, x59_34, rfl, HA, HJ34, HO_13, HO_332000, BK329, BK331, HB⟩ := hcut
         cases kq with
         | zero => exact absurd HA.out (by simp [hypercubelaw1_Facts.j3])
         | succ kj34 =>
          have H := HA.out
          clear HA
          simp only [hypercubelaw1_Facts.j3] at H
          by_cases c37 : x59_34 = true
          ·subst c37
           have H1 : (if 0 ≤ x14_3 then (if x14_3 < (l3.length : Int) then (hypercubelaw1_Facts.l2 kj34 l3 x13_3 x14_3 (rd l3 x14_3) 0 x332000_26 t330 ([] : List Int)) else (none)) else (none)) = some (r1, r2, r3) := by rw [if_pos rfl] at H; exact H
           clear H
           have H := H1
           clear H1
           by_cases c38 : 0 ≤ x14_3
           ·rw [if_pos c38] at H
            have c38b0 : decide (0 ≤ x14_3) = true := decide_eq_true c38
            clear c38
            by_cases c39 : x14_3 < (l3.length : Int)
            ·rw [if_pos c39] at H
             have c39b0 : decide (x14_3 < (l3.length : Int)) = true := decide_eq_true c39
             clear c39
             have H' := am H
             clear H
             have p344 : 0 ≤ (x14_3 : Int) := of_decide_eq_true (by first | (with_reducible assumption) | assumption)
             have q344 : x14_3 < (l3.length : Int) := of_decide_eq_true (by first | (with_reducible assumption) | assumption)
             obtain ⟨ad344, e344, hx344_0⟩ := Kd.at_int HR3.out x14_3 p344 q344
             cases e344
             replace hx344_0 := (HB.out.cell (World.block_lt_of_cell? w _ hx344_0)).trans hx344_0
             replace p344 := eq_true p344
             replace q344 := eq_true q344
             go_wp2_with (first | ((with_reducible refine gate_dst (N := 16) rfl ?_); refine box_event ?hg (N := 16) ?hd (cs := #[.slice none 0 0, .slice none 0 0]) (t := 45) ?hr ?_; (case hd => rfl); (case hg => rfl); (case hr => first | (go_simp; done) | (go_simp; rfl)); intro gb345 hg w40 hbox hb; have n0_ := am (Kd.S_below (Kd.S_elderB (Kd.S_mv HO_13.out) gb345 (Nat.le_of_eq hg.symm)) hb); have n1_ := am (Kd.R_below (Kd.R_mv HO_332000.out) hb); have n2_ := am (blk_below (bmv BK329.out) hb); have n3_ := am (blk_below (bmv BK331.out) hb); have n4_ := am (below_step (wmv HB.out) hb); have n5_ := am (hbox); have n6_ := am ((by rw [hg]; exact (below_size (wmv HB.out)) : w.heap.size ≤ gb345)); have n7_ := am ((by rw [hg]; exact (below_size (wmv HB.out)) : w.heap.size ≤ gb345)); have n8_ := am ((by rw [hg]; exact Nat.ne_of_lt (blk_lt (bmv BK329.out)) : gb329 ≠ gb345)); have n9_ := am ((by rw [hg]; exact Nat.ne_of_gt (blk_lt (bmv BK329.out)) : gb345 ≠ gb329)); have n10_ := am ((by rw [hg]; exact Nat.ne_of_lt (blk_lt (bmv BK331.out)) : gb331 ≠ gb345)); have n11_ := am ((by rw [hg]; exact Nat.ne_of_gt (blk_lt (bmv BK331.out)) : gb345 ≠ gb331)); clear HO_13 HO_332000 BK329 BK331 HB; revert n0_ n1_ n2_ n3_ n4_ n5_ n6_ n7_ n8_ n9_ n10_ n11_; intro HO_13 HO_332000 BK329 BK331 HB BK345 GW345 GE345 NB329_345 NB345_329 NB331_345 NB345_331; clear hb hbox hg))
             go_loopg [15, 17] kj34 (fun kq v15 v17 w' => ∃ (x15_5 : Int) (x17_5 : Int) (x346000_5 : List Int) (u346000 : Value), v15 = .int .i64 x15_5 ∧ v17 = .int .i64 x17_5 ∧ Aside0 (hypercubelaw1_Facts.l2 kq l3 x13_3 x14_3 x15_5 x17_5 x332000_26 t330 x346000_5 = some (r1, r2, r3)) ∧ Aside0 (kq ≤ kj34) ∧ Aside0 (Kd.S k45 45 w' w.heap.size (fun k_ => some k_ ≠ (u332000 : Value).ownBlock ∧ some k_ ≠ (u346000 : Value).ownBlock ∧ k_ ≠ gb345) u13 x13_3) ∧ Aside0 (Kd.R (Kd.int .i64) 3 w' w.heap.size (fun k_ => some k_ ≠ (u346000 : Value).ownBlock) u332000 x332000_26) ∧ Aside0 (Kd.R (Kd.int .i64) 3 w' w.heap.size (fun k_ => some k_ ≠ (u332000 : Value).ownBlock) u346000 x346000_5) ∧ Aside0 (w'.heap[gb329]? = some (.cells #[(.slice none 0 0), .int .i64 0] 35 (0, 0))) ∧ Aside0 (w'.heap[gb331]? = some (.cells #[u332000, .int .i64 t330] 35 (0, 0))) ∧ Aside0 (w'.heap[gb345]? = some (.cells #[u346000, (.slice none 0 0)] 45 (0, 0))) ∧ Aside0 (Below w.heap.size w w'))
             case atStart => exact ⟨(rd l3 x14_3), (0), (([] : List Int)), (.slice none 0 0), (by first | rfl | (simp; done) | (simp [*]; done)), (by first | rfl | (simp; done) | (simp [*]; done)), H', ⟨Nat.le_refl _⟩, ⟨by (with_reducible repeat (first | apply Kd.S_alloc | apply Kd.S_drewN | apply Kd.S_drew)); exact Kd.S_mono HO_13.out (fun _ hk => ⟨hk.1, ⟨(by simp [Value.ownBlock]), hk.2⟩⟩)⟩, ⟨by (with_reducible repeat (first | apply Kd.R_alloc | apply Kd.R_drewN | apply Kd.R_drew)); exact Kd.R_mono HO_332000.out (fun _ hk => (by simp [Value.ownBlock]))⟩, ⟨by first | exact Kd.R_nil _ _ _ _ _ | exact Kd.N_nil _ _ _ _ _ | exact Kd.V_nil _ _ _ _ _ | exact Kd.Q_nil _ _ _ _ _ | exact Kd.S_nil _ _ _ _ _⟩, ⟨by (with_reducible repeat (first | refine blk_drewN ?_ _ | refine blk_drew ?_ | refine blk_alloc ?_ _)); exact BK329.out⟩, ⟨by (with_reducible repeat (first | refine blk_drewN ?_ _ | refine blk_drew ?_ | refine blk_alloc ?_ _)); exact BK331.out⟩, ⟨by (with_reducible repeat (first | refine blk_drewN ?_ _ | refine blk_drew ?_ | refine blk_alloc ?_ _)); exact BK345.out⟩, ⟨by repeat (first | (with_reducible first | exact HB.out | apply below_alloc | apply pw_below_drewN | apply below_drew1 | refine below_set ?_ GE329.out | refine below_set ?_ GE331.out | refine below_set ?_ GE345.out) | exact HB.out)⟩⟩
             case round =>
              clear H'
              try clear c1
              try clear c2
              try clear p2
              try clear c3
              try clear p3
              try clear q3
              try clear hx3
              try clear qi3
              try clear c4
              try clear p6
              try clear c8
              try clear c11
              try clear c11b0
              try clear c12
              try clear c12b0
              try clear c13
              try clear c13b0
              try clear c15
              try clear c21
              try clear c23
              try clear c28
              try clear c28b0
              try clear c28b1
              try clear c29
              try clear c29b0
              try clear c29b1
              try clear p30
              try clear q30
              try clear hx30
              try clear qi30
              try clear hf30
              try clear c31
              try clear p33
              try clear q33
              try clear hx33
              try clear p34
              try clear q34
              try clear hx34
              try clear c36
              try clear c36b0
              try clear c37
              try clear c38
              try clear c38b0
              try clear c39
              try clear c39b0
              try clear hcz32_0
              try clear hcz32_1
              try clear hcz9_0
              try clear hcz9_1
              try clear hfz32_0
              try clear hfz32_1
              try clear hfz9_0
              try clear hfz9_1
              try clear hx30_0
              try clear hx333_0
              try clear hx344_0
              try clear p2
              try clear p3
              try clear p30
              try clear p33
              try clear p333
              try clear p344
              try clear p6
              try clear q3
              try clear q30
              try clear q33
              try clear q333
              try clear q344
              obtain ⟨x15_5, x17_5, x346000_5, u346000, rfl, rfl, HA, HK5, HO_13, HO_332000, HO_346000, BK329, BK331, BK345, HB⟩ := hrel
              cases gk with
              | zero => exact absurd HA.out (by simp [hypercubelaw1_Facts.l2])
              | succ k5 =>
               have H := HA.out
               clear HA
               simp only [hypercubelaw1_Facts.l2] at H
               by_cases c41 : x17_5 < (x332000_26.length : Int)
               ·rw [if_pos c41] at H
                have c41b0 : decide (x17_5 < (x332000_26.length : Int)) = true := decide_eq_true c41
                clear c41
                by_cases c42 : 0 ≤ x17_5
                ·rw [if_pos c42] at H
                 have c42b0 : decide (0 ≤ x17_5) = true := decide_eq_true c42
                 clear c42
                 replace H := Option.bind_eq_some_iff.mp H
                 obtain ⟨t347, A430, H⟩ := H
                 replace H : (if x346000_5.length < 17592186044416 then (hypercubelaw1_Facts.l2 k5 l3 x13_3 x14_3 (wrap64 (Int.tdiv x15_5 5)) (wrap64 (x17_5 + 1)) x332000_26 t330 (x346000_5 ++ [t347])) else (none)) = some (r1, r2, r3) := H
                 have A43 := am A430
                 clear A430
                 by_cases c44 : x346000_5.length < 17592186044416
                 ·rw [if_pos c44] at H
                  have LMc44 := am c44
                  clear c44
                  obtain ⟨y348, hy348⟩ : ∃ y_ : List Int, y_ = (x346000_5 ++ [t347]) := ⟨_, rfl⟩
                  replace H : (hypercubelaw1_Facts.l2 k5 l3 x13_3 x14_3 (wrap64 (Int.tdiv x15_5 5)) (wrap64 (x17_5 + 1)) x332000_26 t330 y348) = some (r1, r2, r3) := by rw [hy348]; with_reducible exact H
                  have Ny348 := am hy348
                  clear hy348
                  have H' := am H
                  clear H
                  have hnb45 := NB331_329.out
                  have hnc45 := NB329_331.out
                  have hnb46 := NB331_345.out
                  have hnc46 := NB345_331.out
                  have hcz47_0 : wr.cell? ⟨gb331, 0, none⟩ = some (u332000) := (blk_cell BK331.out 0).trans rfl
                  have hcz47_1 : wr.cell? ⟨gb331, 1, none⟩ = some (.int .i64 t330) := (blk_cell BK331.out 1).trans rfl
                  have hfz47_0 := blk_frozen BK331.out 0
                  have hfz47_1 := blk_frozen BK331.out 1
                  obtain ⟨Ao48, co48, eo48⟩ := Kd.R_slice HO_332000.out
                  subst eo48
                  try go_wp2
                  have n0_ := am (Kd.S_drew HO_13.out)
                  have n1_ := am (Kd.R_drew HO_332000.out)
                  have n2_ := am (Kd.R_drew HO_346000.out)
                  have n3_ := am (blk_drew BK329.out)
                  have n4_ := am (blk_drew BK331.out)
                  have n5_ := am (blk_drew BK345.out)
                  have n6_ := am (below_drew1 HB.out)
                  clear HO_13 HO_332000 HO_346000 BK329 BK331 BK345 HB
                  revert n0_ n1_ n2_ n3_ n4_ n5_ n6_
                  intro HO_13 HO_332000 HO_346000 BK329 BK331 BK345 HB
                  have p346 : 0 ≤ (x17_5 : Int) := of_decide_eq_true (by first | (with_reducible assumption) | assumption)
                  have q346 : x17_5 < (x332000_26.length : Int) := of_decide_eq_true (by first | (with_reducible assumption) | assumption)
                  obtain ⟨ad346, e346, hx346_0⟩ := Kd.at_int (Kd.R_reads' HO_332000.out).2.2 x17_5 p346 q346
                  cases e346
                  replace p346 := eq_true p346
                  replace q346 := eq_true q346
                  refine start_ (n := 13) (S := fun w' => w'.cell? ⟨gb345, 0, none⟩ = some (u346000) ∧ w'.cell? ⟨gb345, 1, none⟩ = some (.slice none 0 0) ∧ w'.cell? ⟨gb331, 0, none⟩ = some (.slice (some ad346) x332000_26.length co48) ∧ w'.cell? ⟨gb331, 1, none⟩ = some (.int .i64 t330) ∧ w'.cell? (ad346.add (x17_5).toNat) = some (.int .i64 (rd x332000_26 x17_5))) (ds := [10, 12]) (bb 13 0) (by kernel_rfl) rfl rfl ⟨bc BK345 0, bc BK345 1, bc BK331 0, bc BK331 1, hx346_0⟩ (fun hHeld => ?_); refine with_tabW hypercubelaw1_Facts.tab20 hypercubelaw1_Facts.bits20 (fun HT_ HW_ => ?_)
                  generalize wr.drew = w49 at HO_13 HO_332000 HO_346000 BK329 BK331 BK345 HB hx346_0 hHeld ⊢
                  refine pu (i := 0) (N := some 73) (bb 13 1) HT_ ?_
                  refine pu (i := 2) (N := some 75) (bb 13 5) HT_ ?_
                  refine pu (i := 3) (N := some 76) (bb 13 13) HT_ ?_
                  refine pu (i := 5) (N := some 78) (bb 13 45) HT_ ?_
                  refine tk (i := 1) (N := some 74) (bb 13 47) HT_ HW_ hHeld ?_
                  refine tk (i := 4) (N := some 77) (bb 13 63) HT_ HW_ hHeld ?_
                  refine pu (i := 6) (N := some 79) (bb 13 127) HT_ ?_
                  refine tk (i := 7) (N := some 80) (bb 13 255) HT_ HW_ hHeld ?_
                  refine one_ (i := 8) (N := some 81) (bb 13 511) rfl rfl (one_of HT_.out (by kernel_rfl)) (by decide) (fun K hK => ?_)
                  refine goes_ Try.func45 (by kernel_rfl) rfl #[.int .i64 x15_5, .int .i64 (rd x332000_26 x17_5)] (by rfl) rfl rfl (by (try simp only [List.map_toArray, List.map_cons, List.map_nil]); first | done | rfl | (simp only [List.length_drop, List.length_take]; rfl)) ?_
                  with_reducible refine (hypercubelaw1_within.calls x15_5 (rd x332000_26 x17_5) t347 _ A43.out).mono ?_
                  rintro e w' ⟨rfl, ⟨nd, rfl⟩⟩
                  refine ⟨_, rfl, ?_⟩
                  refine hK.out _ _ ⟨bc BK345 0, bc BK345 1, bc BK331 0, bc BK331 1, hHeld.2.2.2.2⟩ (fun hHeld => ?_)
                  clear hK K
                  refine nm ?_
                  refine one_ (i := 9) (N := some 82) (bb 13 1023) rfl rfl (one_of HT_.out (by kernel_rfl)) (by decide) (fun K hK => ?_)
                  refine value_ (w1 := ?_) (v := ?_) (by rfl) rfl ?_ ?_
                  rotate_left 2
                  ·go_simp
                   constructor
                   ·rfl
                   ·rfl
                  refine hK.out _ _ ⟨(blk_cell (blk_alloc BK345.out _) 0).trans rfl, (blk_cell (blk_alloc BK345.out _) 1).trans rfl, (blk_cell (blk_alloc BK331.out _) 0).trans rfl, (blk_cell (blk_alloc BK331.out _) 1).trans rfl, (World.cell?_alloc_lt _ _ _ (World.block_lt_of_cell? _ _ (hHeld.2.2.2.2))).trans (hHeld.2.2.2.2)⟩ (fun hHeld => ?_)
                  clear hK K
                  refine nm ?_
                  refine last_ (i := 10) (N := some 83) (bb 13 2047) rfl rfl (one_of HT_.out (by kernel_rfl)) (by decide) (fun K hK => ?_)
                  refine Kd.R_append_step (Kd.int .i64) (w0 := w) w.heap.size (by rfl) (.tmp 74) (.tmp 82) 22 3 (.int .i64 0) 8 rfl Try.underlying22 info3 rfl (by decide) (by omega) u346000 x346000_5 t347 [.int .i64 t347] (fun k_ => some k_ ≠ (.slice (some ad346) x332000_26.length co48 : Value).ownBlock) (fun _ => False) rfl rfl ?aP (fun _ hk => hk.elim) ?aF ?aO ?aB ?aS ?aL ?_
                  (case aP => exact rfl)
                  (case aB => exact (wmv HB.out))
                  (case aF => exact (fun k_ hk => Kd.fresh' (Kd.R_lt (Kd.R_mv HO_332000.out)) k_ hk))
                  (case aO => exact (Kd.R_mv HO_346000.out))
                  (case aS => exact (below_size (wmv HB.out)))
                  (case aL => have := LMc44.out; omega)
                  intro v349 w50 ho hb hg hat
                  rw [← Ny348.out] at ho
                  have n0_ := am (Kd.S_after (ok := (fun k_ => some k_ ≠ (.slice (some ad346) x332000_26.length co48 : Value).ownBlock ∧ k_ ≠ gb345)) (Kd.S_mv (Kd.S_mono HO_13.out (fun _ hk => ⟨⟨hk.1, hk.2.2⟩, hk.2.1⟩))) hg hat)
                  have n1_ := am (Kd.R_after (ok := (fun _ => True)) (Kd.R_mv (Kd.R_mono HO_332000.out (fun _ hk => ⟨trivial, hk⟩))) hg hat)
                  have n2_ := am (blk_grown (bmv BK329.out) hg (Kd.R_ne HO_346000.out BK329.out (by decide)))
                  have n3_ := am (blk_grown (bmv BK331.out) hg (Kd.R_ne HO_346000.out BK331.out (by decide)))
                  have n4_ := am (blk_grown (bmv BK345.out) hg (Kd.R_ne HO_346000.out BK345.out (by decide)))
                  have n5_ := am (hb)
                  have n6_ := am (ho)
                  clear HO_13 HO_332000 BK329 BK331 BK345 HB HO_346000
                  revert n0_ n1_ n2_ n3_ n4_ n5_ n6_
                  intro HO_13 HO_332000 BK329 BK331 BK345 HB HO350
                  clear ho hb hg hat
                  obtain ⟨Ao51, co51, eo51⟩ := Kd.R_slice HO350.out
                  (first | subst eo51 | (injection eo51 with f1_ f2_ f3_; have f4_ := f1_.symm; have f5_ := f3_.symm; clear f1_ f2_ f3_; subst f4_; subst f5_))
                  refine hK.out _ _ ?_
                  clear hK K
                  refine nm ?_
                  refine pu (i := 11) (N := some 84) (bb 13 4095) HT_ ?_
                  refine last_ (i := 12) (N := none) (bb 13 8191) rfl rfl (one_of HT_.out (by kernel_rfl)) (by decide) (fun K hK => ?_)
                  have hs52 : w50.cell? ⟨gb345, 0, none⟩ = some (u346000) := (blk_cell BK345.out 0).trans rfl
                  have hfs52 := blk_frozen BK345.out 0
                  have hns52_0 := NB329_345.out
                  have hns52_1 := NB331_345.out
                  have hms52_0 := NB345_329.out
                  have hms52_1 := NB345_331.out
                  refine skip_ (w1 := ?_) (by rfl) rfl ?_ ?_
                  rotate_left
                  ·go_simp
                   rfl
                  refine hK.out _ _ ?_
                  clear hK K
                  refine done_ (done_of HT_.out (by kernel_rfl)) ?_
                  try go_wp2
                  go_roundg k5
                  case measure => have := HK1.out; have := HJ26.out; have := HK3.out; have := HJ34.out; have := HK5.out; omega
                  case rel => exact ⟨(wrap64 (Int.tdiv x15_5 5)), (wrap64 (x17_5 + 1)), (y348), (.slice Ao51 y348.length co51), (by first | rfl | (simp; done) | (simp [*]; done)), (by first | rfl | (simp; done) | (simp [*]; done)), H', ⟨by have := HK1.out; have := HJ26.out; have := HK3.out; have := HJ34.out; have := HK5.out; omega⟩, ⟨by (with_reducible repeat (first | apply Kd.S_alloc | apply Kd.S_drewN | apply Kd.S_drew)); exact Kd.S_mono (Kd.S_far (p := ⟨gb345, 0, none⟩) (Kd.S_mono HO_13.out (fun k_ hk => (⟨hk, hk.1.2⟩ : _ ∧ k_ ≠ gb345))) (fun _ hk => hk.2) (.slice Ao51 y348.length co51)) (fun _ hk => ⟨hk.1.1.1, ⟨hk.1.2, hk.1.1.2⟩⟩)⟩, ⟨by (with_reducible repeat (first | apply Kd.R_alloc | apply Kd.R_drewN | apply Kd.R_drew)); exact Kd.R_mono (Kd.R_far (p := ⟨gb345, 0, none⟩) (Kd.R_types HO_332000.out BK345.out (by decide)) (fun _ hk => hk.2) (.slice Ao51 y348.length co51)) (fun _ hk => hk.1.2)⟩, ⟨by (with_reducible repeat (first | apply Kd.R_alloc | apply Kd.R_drewN | apply Kd.R_drew)); exact Kd.R_mono (Kd.R_far (p := ⟨gb345, 0, none⟩) (Kd.R_types HO350.out BK345.out (by decide)) (fun _ hk => hk.2) (.slice Ao51 y348.length co51)) (fun _ hk => hk.1)⟩, ⟨by (with_reducible repeat (first | refine blk_drewN ?_ _ | refine blk_drew ?_ | refine blk_alloc ?_ _)); refine blk_far ?_ NB329_345.out _; (with_reducible repeat (first | refine blk_drewN ?_ _ | refine blk_drew ?_ | refine blk_alloc ?_ _)); exact BK329.out⟩, ⟨by (with_reducible repeat (first | refine blk_drewN ?_ _ | refine blk_drew ?_ | refine blk_alloc ?_ _)); refine blk_far ?_ NB331_345.out _; (with_reducible repeat (first | refine blk_drewN ?_ _ | refine blk_drew ?_ | refine blk_alloc ?_ _)); exact BK331.out⟩, ⟨by (with_reducible repeat (first | refine blk_drewN ?_ _ | refine blk_drew ?_ | refine blk_alloc ?_ _)); refine blk_put (cs := #[u346000, .slice none 0 0]) ?_ 0 _ rfl; (with_reducible repeat (first | refine blk_drewN ?_ _ | refine blk_drew ?_ | refine blk_alloc ?_ _)); exact BK345.out⟩, ⟨by repeat (first | (with_reducible first | exact HB.out | apply below_alloc | apply pw_below_drewN | apply below_drew1 | refine below_set ?_ GE329.out | refine below_set ?_ GE331.out | refine below_set ?_ GE345.out) | exact HB.out)⟩⟩
                 ·rw [if_neg c44] at H
                  exact absurd H (by simp)
                ·rw [if_neg c42] at H
                 exact absurd H (by simp)
               ·rw [if_neg c41] at H
                have c41b0 : decide (x17_5 < (x332000_26.length : Int)) = false := decide_eq_false c41
                clear c41
                have H' := am H
                clear H
                have hnb53 := NB331_329.out
                have hnc53 := NB329_331.out
                have hnb54 := NB331_345.out
                have hnc54 := NB345_331.out
                have hcz55_0 : wr.cell? ⟨gb331, 0, none⟩ = some (u332000) := (blk_cell BK331.out 0).trans rfl
                have hcz55_1 : wr.cell? ⟨gb331, 1, none⟩ = some (.int .i64 t330) := (blk_cell BK331.out 1).trans rfl
                have hfz55_0 := blk_frozen BK331.out 0
                have hfz55_1 := blk_frozen BK331.out 1
                obtain ⟨Ao56, co56, eo56⟩ := Kd.R_slice HO_332000.out
                subst eo56
                go_wp2
                go_loopg [18] k5 (fun kq v18 w' => ∃ (x18_6 : Int) (x346001_6 : List Int) (u346001 : Value), v18 = .int .i64 x18_6 ∧ Aside0 (hypercubelaw1_Facts.l3 kq l3 x13_3 x14_3 x15_5 x18_6 x332000_26 t330 x346000_5 x346001_6 = some (r1, r2, r3)) ∧ Aside0 (kq ≤ k5) ∧ Aside0 (Kd.S k45 45 w' w.heap.size (fun k_ => some k_ ≠ ((.slice Ao56 x332000_26.length co56) : Value).ownBlock ∧ some k_ ≠ (u346000 : Value).ownBlock ∧ some k_ ≠ (u346001 : Value).ownBlock ∧ k_ ≠ gb345) u13 x13_3) ∧ Aside0 (Kd.R (Kd.int .i64) 3 w' w.heap.size (fun k_ => some k_ ≠ (u346000 : Value).ownBlock ∧ some k_ ≠ (u346001 : Value).ownBlock) (.slice Ao56 x332000_26.length co56) x332000_26) ∧ Aside0 (Kd.R (Kd.int .i64) 3 w' w.heap.size (fun k_ => some k_ ≠ ((.slice Ao56 x332000_26.length co56) : Value).ownBlock ∧ some k_ ≠ (u346001 : Value).ownBlock) u346000 x346000_5) ∧ Aside0 (Kd.R (Kd.int .i64) 3 w' w.heap.size (fun k_ => some k_ ≠ ((.slice Ao56 x332000_26.length co56) : Value).ownBlock ∧ some k_ ≠ (u346000 : Value).ownBlock) u346001 x346001_6) ∧ Aside0 (w'.heap[gb329]? = some (.cells #[(.slice none 0 0), .int .i64 0] 35 (0, 0))) ∧ Aside0 (w'.heap[gb331]? = some (.cells #[(.slice Ao56 x332000_26.length co56), .int .i64 t330] 35 (0, 0))) ∧ Aside0 (w'.heap[gb345]? = some (.cells #[u346000, u346001] 45 (0, 0))) ∧ Aside0 (Below w.heap.size w w'))
                case atStart => exact ⟨(0), (([] : List Int)), (.slice none 0 0), (by first | rfl | (simp; done) | (simp [*]; done)), H', ⟨Nat.le_refl _⟩, ⟨by (with_reducible repeat (first | apply Kd.S_alloc | apply Kd.S_drewN | apply Kd.S_drew)); exact Kd.S_mono HO_13.out (fun _ hk => ⟨hk.1, ⟨hk.2.1, ⟨(by simp [Value.ownBlock]), hk.2.2⟩⟩⟩)⟩, ⟨by (with_reducible repeat (first | apply Kd.R_alloc | apply Kd.R_drewN | apply Kd.R_drew)); exact Kd.R_mono HO_332000.out (fun _ hk => ⟨hk, (by simp [Value.ownBlock])⟩)⟩, ⟨by (with_reducible repeat (first | apply Kd.R_alloc | apply Kd.R_drewN | apply Kd.R_drew)); exact Kd.R_mono HO_346000.out (fun _ hk => ⟨hk, (by simp [Value.ownBlock])⟩)⟩, ⟨by first | exact Kd.R_nil _ _ _ _ _ | exact Kd.N_nil _ _ _ _ _ | exact Kd.V_nil _ _ _ _ _ | exact Kd.Q_nil _ _ _ _ _ | exact Kd.S_nil _ _ _ _ _⟩, ⟨by (with_reducible repeat (first | refine blk_drewN ?_ _ | refine blk_drew ?_ | refine blk_alloc ?_ _)); exact BK329.out⟩, ⟨by (with_reducible repeat (first | refine blk_drewN ?_ _ | refine blk_drew ?_ | refine blk_alloc ?_ _)); exact BK331.out⟩, ⟨by (with_reducible repeat (first | refine blk_drewN ?_ _ | refine blk_drew ?_ | refine blk_alloc ?_ _)); exact BK345.out⟩, ⟨by repeat (first | (with_reducible first | exact HB.out | apply below_alloc | apply pw_below_drewN | apply below_drew1 | refine below_set ?_ GE329.out | refine below_set ?_ GE331.out | refine below_set ?_ GE345.out) | exact HB.out)⟩⟩
                case round =>
                 clear H'
                 try clear c1
                 try clear c2
                 try clear p2
                 try clear c3
                 try clear p3
                 try clear q3
                 try clear hx3
                 try clear qi3
                 try clear c4
                 try clear c5
                 try clear p6
                 try clear c8
                 try clear c11
                 try clear c11b0
                 try clear c12
                 try clear c12b0
                 try clear c13
                 try clear c13b0
                 try clear c15
                 try clear c21
                 try clear c23
                 try clear c28
                 try clear c28b0
                 try clear c28b1
                 try clear c29
                 try clear c29b0
                 try clear c29b1
                 try clear p30
                 try clear q30
                 try clear hx30
                 try clear qi30
                 try clear hf30
                 try clear c31
                 try clear p33
                 try clear q33
                 try clear hx33
                 try clear p34
                 try clear q34
                 try clear hx34
                 try clear c36
                 try clear c36b0
                 try clear c37
                 try clear c38
                 try clear c38b0
                 try clear c39
                 try clear c39b0
                 try clear c41
                 try clear c41b0
                 try clear c42
                 try clear c42b0
                 try clear c44
                 try clear c45
                 try clear c46
                 try clear c53
                 try clear c54
                 try clear hcz32_0
                 try clear hcz32_1
                 try clear hcz47_0
                 try clear hcz47_1
                 try clear hcz55_0
                 try clear hcz55_1
                 try clear hcz9_0
                 try clear hcz9_1
                 try clear hfz32_0
                 try clear hfz32_1
                 try clear hfz47_0
                 try clear hfz47_1
                 try clear hfz55_0
                 try clear hfz55_1
                 try clear hfz9_0
                 try clear hfz9_1
                 try clear hx30_0
                 try clear hx333_0
                 try clear hx344_0
                 try clear hx346_0
                 try clear p2
                 try clear p3
                 try clear p30
                 try clear p33
                 try clear p333
                 try clear p34
                 try clear p344
                 try clear p346
                 try clear p6
                 try clear q3
                 try clear q30
                 try clear q33
                 try clear q333
                 try clear q34
                 try clear q344
                 try clear q346
                 obtain ⟨x18_6, x346001_6, u346001, rfl, HA, HK6, HO_13, HO_332000, HO_346000, HO_346001, BK329, BK331, BK345, HB⟩ := hrel
                 cases gk with
                 | zero => exact absurd HA.out (by simp [hypercubelaw1_Facts.l3])
                 | succ k6 =>
                  have H := HA.out
                  clear HA
                  simp only [hypercubelaw1_Facts.l3] at H
                  by_cases c57 : x18_6 < t330
                  ·rw [if_pos c57] at H
                   have c57b0 : decide (x18_6 < t330) = true := decide_eq_true c57
                   clear c57
                   replace H := Option.bind_eq_some_iff.mp H
                   obtain ⟨t351, A580, H⟩ := H
                   replace H : (if x346001_6.length < 17592186044416 then (hypercubelaw1_Facts.l3 k6 l3 x13_3 x14_3 x15_5 (wrap64 (x18_6 + 1)) x332000_26 t330 x346000_5 (x346001_6 ++ [wrap64 (t351 - 100)])) else (none)) = some (r1, r2, r3) := H
                   have A58 := am A580
                   clear A580
                   by_cases c59 : x346001_6.length < 17592186044416
                   ·rw [if_pos c59] at H
                    have LMc59 := am c59
                    clear c59
                    obtain ⟨y352, hy352⟩ : ∃ y_ : List Int, y_ = (x346001_6 ++ [wrap64 (t351 - 100)]) := ⟨_, rfl⟩
                    replace H : (hypercubelaw1_Facts.l3 k6 l3 x13_3 x14_3 x15_5 (wrap64 (x18_6 + 1)) x332000_26 t330 x346000_5 y352) = some (r1, r2, r3) := by rw [hy352]; with_reducible exact H
                    have Ny352 := am hy352
                    clear hy352
                    have H' := am H
                    clear H
                    have hnb60 := NB331_329.out
                    have hnc60 := NB329_331.out
                    have hnb61 := NB331_345.out
                    have hnc61 := NB345_331.out
                    have hcz62_0 : wr.cell? ⟨gb331, 0, none⟩ = some (.slice Ao56 x332000_26.length co56) := (blk_cell BK331.out 0).trans rfl
                    have hcz62_1 : wr.cell? ⟨gb331, 1, none⟩ = some (.int .i64 t330) := (blk_cell BK331.out 1).trans rfl
                    have hfz62_0 := blk_frozen BK331.out 0
                    have hfz62_1 := blk_frozen BK331.out 1
                    try go_wp2
                    have n0_ := am (Kd.S_drew HO_13.out)
                    have n1_ := am (Kd.R_drew HO_332000.out)
                    have n2_ := am (Kd.R_drew HO_346000.out)
                    have n3_ := am (Kd.R_drew HO_346001.out)
                    have n4_ := am (blk_drew BK329.out)
                    have n5_ := am (blk_drew BK331.out)
                    have n6_ := am (blk_drew BK345.out)
                    have n7_ := am (below_drew1 HB.out)
                    clear HO_13 HO_332000 HO_346000 HO_346001 BK329 BK331 BK345 HB
                    revert n0_ n1_ n2_ n3_ n4_ n5_ n6_ n7_
                    intro HO_13 HO_332000 HO_346000 HO_346001 BK329 BK331 BK345 HB
                    refine start_ (n := 12) (S := fun w' => w'.cell? ⟨gb345, 0, none⟩ = some (u346000) ∧ w'.cell? ⟨gb345, 1, none⟩ = some (u346001)) (ds := [11]) (bb 12 0) (by kernel_rfl) rfl rfl ⟨bc BK345 0, bc BK345 1⟩ (fun hHeld => ?_); refine with_tabW hypercubelaw1_Facts.tab25 hypercubelaw1_Facts.bits25 (fun HT_ HW_ => ?_)
                    generalize wr.drew = w63 at HO_13 HO_332000 HO_346000 HO_346001 BK329 BK331 BK345 HB hHeld ⊢
                    refine pu (i := 0) (N := some 93) (bb 12 1) HT_ ?_
                    refine pu (i := 2) (N := some 95) (bb 12 5) HT_ ?_
                    refine pu (i := 3) (N := some 96) (bb 12 13) HT_ ?_
                    refine pu (i := 4) (N := some 97) (bb 12 29) HT_ ?_
                    refine pu (i := 5) (N := some 98) (bb 12 61) HT_ ?_
                    refine tk (i := 1) (N := some 94) (bb 12 63) HT_ HW_ hHeld ?_
                    refine one_ (i := 6) (N := some 99) (bb 12 127) rfl rfl (one_of HT_.out (by kernel_rfl)) (by decide) (fun K hK => ?_)
                    refine goes_ Try.func45 (by kernel_rfl) rfl #[.int .i64 (wrap64 (x15_5 + (wrap64 (7 * x18_6)))), .int .i64 201] (by rfl) rfl rfl (by (try simp only [List.map_toArray, List.map_cons, List.map_nil]); first | done | rfl | (simp only [List.length_drop, List.length_take]; rfl)) ?_
                    with_reducible refine (hypercubelaw1_within.calls (wrap64 (x15_5 + (wrap64 (7 * x18_6)))) 201 t351 _ A58.out).mono ?_
                    rintro e w' ⟨rfl, ⟨nd, rfl⟩⟩
                    refine ⟨_, rfl, ?_⟩
                    refine hK.out _ _ ⟨bc BK345 0, bc BK345 1⟩ (fun hHeld => ?_)
                    clear hK K
                    refine nm ?_
                    refine pu (i := 7) (N := some 100) (bb 12 255) HT_ ?_
                    refine one_ (i := 8) (N := some 101) (bb 12 511) rfl rfl (one_of HT_.out (by kernel_rfl)) (by decide) (fun K hK => ?_)
                    refine value_ (w1 := ?_) (v := ?_) (by rfl) rfl ?_ ?_
                    rotate_left 2
                    ·go_simp
                     constructor
                     ·rfl
                     ·rfl
                    refine hK.out _ _ ⟨(blk_cell (blk_alloc BK345.out _) 0).trans rfl, (blk_cell (blk_alloc BK345.out _) 1).trans rfl⟩ (fun hHeld => ?_)
                    clear hK K
                    refine nm ?_
                    refine one_ (i := 9) (N := some 102) (bb 12 1023) rfl rfl (one_of HT_.out (by kernel_rfl)) (by decide) (fun K hK => ?_)
                    refine Kd.R_append_step (Kd.int .i64) (w0 := w) w.heap.size (by rfl) (.tmp 94) (.tmp 101) 22 3 (.int .i64 0) 8 rfl Try.underlying22 info3 rfl (by decide) (by omega) u346001 x346001_6 (wrap64 (t351 - 100)) [.int .i64 (wrap64 (t351 - 100))] (fun k_ => some k_ ≠ (.slice Ao56 x332000_26.length co56 : Value).ownBlock ∧ some k_ ≠ (u346000 : Value).ownBlock) (fun _ => False) rfl rfl ?aP (fun _ hk => hk.elim) ?aF ?aO ?aB ?aS ?aL ?_
                    (case aP => exact rfl)
                    (case aB => exact (wmv HB.out))
                    (case aF => exact (fun k_ hk => ⟨Kd.fresh' (Kd.R_lt (Kd.R_mv HO_332000.out)) k_ hk, Kd.fresh' (Kd.R_lt (Kd.R_mv HO_346000.out)) k_ hk⟩))
                    (case aO => exact (Kd.R_mv HO_346001.out))
                    (case aS => exact (below_size (wmv HB.out)))
                    (case aL => have := LMc59.out; omega)
                    intro v353 w64 ho hb hg hat
                    rw [← Ny352.out] at ho
                    have n0_ := am (Kd.S_after (ok := (fun k_ => some k_ ≠ (.slice Ao56 x332000_26.length co56 : Value).ownBlock ∧ some k_ ≠ (u346000 : Value).ownBlock ∧ k_ ≠ gb345)) (Kd.S_mv (Kd.S_mono HO_13.out (fun _ hk => ⟨⟨hk.1, ⟨hk.2.1, hk.2.2.2⟩⟩, hk.2.2.1⟩))) hg hat)
                    have n1_ := am (Kd.R_after (ok := (fun k_ => some k_ ≠ (u346000 : Value).ownBlock)) (Kd.R_mv HO_332000.out) hg hat)
                    have n2_ := am (Kd.R_after (ok := (fun k_ => some k_ ≠ (.slice Ao56 x332000_26.length co56 : Value).ownBlock)) (Kd.R_mv HO_346000.out) hg hat)
                    have n3_ := am (blk_grown (bmv BK329.out) hg (Kd.R_ne HO_346001.out BK329.out (by decide)))
                    have n4_ := am (blk_grown (bmv BK331.out) hg (Kd.R_ne HO_346001.out BK331.out (by decide)))
                    have n5_ := am (blk_grown (bmv BK345.out) hg (Kd.R_ne HO_346001.out BK345.out (by decide)))
                    have n6_ := am (hb)
                    have n7_ := am (ho)
                    clear HO_13 HO_332000 HO_346000 BK329 BK331 BK345 HB HO_346001
                    revert n0_ n1_ n2_ n3_ n4_ n5_ n6_ n7_
                    intro HO_13 HO_332000 HO_346000 BK329 BK331 BK345 HB HO354
                    clear ho hb hg hat
                    obtain ⟨Ao65, co65, eo65⟩ := Kd.R_slice HO354.out
                    (first | subst eo65 | (injection eo65 with f1_ f2_ f3_; have f4_ := f1_.symm; have f5_ := f3_.symm; clear f1_ f2_ f3_; subst f4_; subst f5_))
                    refine hK.out _ _ ⟨bc BK345 0, bc BK345 1⟩ (fun hHeld => ?_)
                    clear hK K
                    refine nm ?_
                    refine pu (i := 10) (N := some 103) (bb 12 2047) HT_ ?_
                    refine last_ (i := 11) (N := none) (bb 12 4095) rfl rfl (one_of HT_.out (by kernel_rfl)) (by decide) (fun K hK => ?_)
                    have hs66 : w64.cell? ⟨gb345, 1, none⟩ = some (u346001) := (blk_cell BK345.out 1).trans rfl
                    have hfs66 := blk_frozen BK345.out 1
                    have hns66_0 := NB329_345.out
                    have hns66_1 := NB331_345.out
                    have hms66_0 := NB345_329.out
                    have hms66_1 := NB345_331.out
                    refine skip_ (w1 := ?_) (by rfl) rfl ?_ ?_
                    rotate_left
                    ·go_simp
                     rfl
                    refine hK.out _ _ ?_
                    clear hK K
                    refine done_ (done_of HT_.out (by kernel_rfl)) ?_
                    try go_wp2
                    go_roundg k6
                    case measure => have := HK1.out; have := HJ26.out; have := HK3.out; have := HJ34.out; have := HK5.out; have := HK6.out; omega
                    case rel => exact ⟨(wrap64 (x18_6 + 1)), (y352), (.slice Ao65 y352.length co65), (by first | rfl | (simp; done) | (simp [*]; done)), H', ⟨by have := HK1.out; have := HJ26.out; have := HK3.out; have := HJ34.out; have := HK5.out; have := HK6.out; omega⟩, ⟨by (with_reducible repeat (first | apply Kd.S_alloc | apply Kd.S_drewN | apply Kd.S_drew)); exact Kd.S_mono (Kd.S_far (p := ⟨gb345, 1, none⟩) (Kd.S_mono HO_13.out (fun k_ hk => (⟨hk, hk.1.2.2⟩ : _ ∧ k_ ≠ gb345))) (fun _ hk => hk.2) (.slice Ao65 y352.length co65)) (fun _ hk => ⟨hk.1.1.1, ⟨hk.1.1.2.1, ⟨hk.1.2, hk.1.1.2.2⟩⟩⟩)⟩, ⟨by (with_reducible repeat (first | apply Kd.R_alloc | apply Kd.R_drewN | apply Kd.R_drew)); exact Kd.R_mono (Kd.R_far (p := ⟨gb345, 1, none⟩) (Kd.R_types HO_332000.out BK345.out (by decide)) (fun _ hk => hk.2) (.slice Ao65 y352.length co65)) (fun _ hk => ⟨hk.1.1, hk.1.2⟩)⟩, ⟨by (with_reducible repeat (first | apply Kd.R_alloc | apply Kd.R_drewN | apply Kd.R_drew)); exact Kd.R_mono (Kd.R_far (p := ⟨gb345, 1, none⟩) (Kd.R_types HO_346000.out BK345.out (by decide)) (fun _ hk => hk.2) (.slice Ao65 y352.length co65)) (fun _ hk => ⟨hk.1.1, hk.1.2⟩)⟩, ⟨by (with_reducible repeat (first | apply Kd.R_alloc | apply Kd.R_drewN | apply Kd.R_drew)); exact Kd.R_mono (Kd.R_far (p := ⟨gb345, 1, none⟩) (Kd.R_types HO354.out BK345.out (by decide)) (fun _ hk => hk.2) (.slice Ao65 y352.length co65)) (fun _ hk => ⟨hk.1.1, hk.1.2⟩)⟩, ⟨by (with_reducible repeat (first | refine blk_drewN ?_ _ | refine blk_drew ?_ | refine blk_alloc ?_ _)); refine blk_far ?_ NB329_345.out _; (with_reducible repeat (first | refine blk_drewN ?_ _ | refine blk_drew ?_ | refine blk_alloc ?_ _)); exact BK329.out⟩, ⟨by (with_reducible repeat (first | refine blk_drewN ?_ _ | refine blk_drew ?_ | refine blk_alloc ?_ _)); refine blk_far ?_ NB331_345.out _; (with_reducible repeat (first | refine blk_drewN ?_ _ | refine blk_drew ?_ | refine blk_alloc ?_ _)); exact BK331.out⟩, ⟨by (with_reducible repeat (first | refine blk_drewN ?_ _ | refine blk_drew ?_ | refine blk_alloc ?_ _)); refine blk_put (cs := #[u346000, u346001]) ?_ 1 _ rfl; (with_reducible repeat (first | refine blk_drewN ?_ _ | refine blk_drew ?_ | refine blk_alloc ?_ _)); exact BK345.out⟩, ⟨by repeat (first | (with_reducible first | exact HB.out | apply below_alloc | apply pw_below_drewN | apply below_drew1 | refine below_set ?_ GE329.out | refine below_set ?_ GE331.out | refine below_set ?_ GE345.out) | exact HB.out)⟩⟩
                   ·rw [if_neg c59] at H
                    exact absurd H (by simp)
                  ·rw [if_neg c57] at H
                   have c57b0 : decide (x18_6 < t330) = false := decide_eq_false c57
                   clear c57
                   by_cases c67 : x13_3.length < 2932031007402
                   ·rw [if_pos c67] at H
                    have LMc67 := am c67
                    clear c67
                    obtain ⟨y355, hy355⟩ : ∃ y_ : List (S45), y_ = (x13_3 ++ [(⟨x346000_5, x346001_6⟩ : S45)]) := ⟨_, rfl⟩
                    replace H : (hypercubelaw1_Facts.l1 k6 l3 y355 (wrap64 (x14_3 + 1)) x332000_26 t330) = some (r1, r2, r3) := by rw [hy355]; with_reducible exact H
                    have Ny355 := am hy355
                    clear hy355
                    have H' := am H
                    clear H
                    have hnb68 := NB331_329.out
                    have hnc68 := NB329_331.out
                    have hnb69 := NB331_345.out
                    have hnc69 := NB345_331.out
                    have hcz70_0 : wr.cell? ⟨gb331, 0, none⟩ = some (.slice Ao56 x332000_26.length co56) := (blk_cell BK331.out 0).trans rfl
                    have hcz70_1 : wr.cell? ⟨gb331, 1, none⟩ = some (.int .i64 t330) := (blk_cell BK331.out 1).trans rfl
                    have hfz70_0 := blk_frozen BK331.out 0
                    have hfz70_1 := blk_frozen BK331.out 1
                    have hnb71 := NB345_329.out
                    have hnc71 := NB329_345.out
                    have hcz72_0 : wr.cell? ⟨gb345, 0, none⟩ = some (u346000) := (blk_cell BK345.out 0).trans rfl
                    have hcz72_1 : wr.cell? ⟨gb345, 1, none⟩ = some (u346001) := (blk_cell BK345.out 1).trans rfl
                    have hfz72_0 := blk_frozen BK345.out 0
                    have hfz72_1 := blk_frozen BK345.out 1
                    obtain ⟨Ao74, co74, eo74⟩ := Kd.R_slice HO_346000.out
                    subst eo74
                    obtain ⟨Ao75, co75, eo75⟩ := Kd.R_slice HO_346001.out
                    subst eo75
                    go_wp2_with (first | ((with_reducible refine gate_builtin (b := .append) (xs := #[.tmp 104, .tmp 106]) rfl ?_); at_builtin; refine Kd.S_append k45 (w0 := w) w.heap.size rfl (.tmp 104) (.tmp 106) 36 45 (.agg #[(.slice none 0 0), (.slice none 0 0)]) 48 rfl Try.underlying36 info45 rfl (by decide) (by omega) u13 x13_3 (⟨x346000_5, x346001_6⟩ : S45) [.slice Ao74 x346000_5.length co74, .slice Ao75 x346001_6.length co75] (fun k_ => some k_ ≠ (.slice Ao56 x332000_26.length co56 : Value).ownBlock ∧ k_ ≠ gb345) (fun k_ => some k_ = (.slice Ao74 x346000_5.length co74 : Value).ownBlock ∨ some k_ = (.slice Ao75 x346001_6.length co75 : Value).ownBlock) rfl rfl ?aP (fun k_ hk_ => hk_.elim (fun h_ => ((Kd.R_mono (ok' := fun k_ => ((fun k_ => some k_ ≠ (.slice Ao56 x332000_26.length co56 : Value).ownBlock ∧ k_ ≠ gb345)) k_ ∧ some k_ ≠ (u13 : Value).ownBlock) (Kd.R_types (Kd.R_apart' (HO_346000.out) (Kd.S_typed HO_13.out) (by decide)) BK345.out (by decide)) (fun k_ hk => ⟨⟨hk.1.1.1, hk.2⟩, hk.1.2⟩))).1 k_ h_.symm) (fun h_ => ((Kd.R_mono (ok' := fun k_ => ((fun k_ => some k_ ≠ (.slice Ao56 x332000_26.length co56 : Value).ownBlock ∧ k_ ≠ gb345)) k_ ∧ some k_ ≠ (u13 : Value).ownBlock) (Kd.R_types (Kd.R_apart' (HO_346001.out) (Kd.S_typed HO_13.out) (by decide)) BK345.out (by decide)) (fun k_ hk => ⟨⟨hk.1.1.1, hk.2⟩, hk.1.2⟩))).1 k_ h_.symm)) ?aF ?aO ?aB ?aS ?aL ?_; (case aP => exact k45_mkM _ _ _ (⟨x346000_5, x346001_6⟩ : S45) (Kd.R_mono (Kd.R_tight rfl (Kd.R_mono (ok' := fun k_ => ((fun k_ => some k_ ≠ (.slice Ao56 x332000_26.length co56 : Value).ownBlock ∧ k_ ≠ gb345)) k_ ∧ some k_ ≠ (u13 : Value).ownBlock) (Kd.R_types (Kd.R_apart' (HO_346000.out) (Kd.S_typed HO_13.out) (by decide)) BK345.out (by decide)) (fun k_ hk => ⟨⟨hk.1.1.1, hk.2⟩, hk.1.2⟩))) (fun _ h_ => Or.inl h_)) (Kd.R_mono (Kd.R_tight rfl (Kd.R_mono (ok' := fun k_ => ((fun k_ => some k_ ≠ (.slice Ao56 x332000_26.length co56 : Value).ownBlock ∧ k_ ≠ gb345)) k_ ∧ some k_ ≠ (u13 : Value).ownBlock) (Kd.R_types (Kd.R_apart' (HO_346001.out) (Kd.S_typed HO_13.out) (by decide)) BK345.out (by decide)) (fun k_ hk => ⟨⟨hk.1.1.1, hk.2⟩, hk.1.2⟩))) (fun _ h_ => Or.inr (h_)))); (case aB => exact (wmv HB.out)); (case aF => exact (fun k_ hk => ⟨Kd.fresh' (Kd.R_lt (Kd.R_mv HO_332000.out)) k_ hk, Kd.freshB (bmv BK345.out) k_ hk⟩)); (case aO => exact (Kd.S_mv (Kd.S_mono HO_13.out (fun k_ hk => ⟨⟨hk.1, hk.2.2.2⟩, fun e_ => e_.elim (fun h_ => hk.2.1 h_) (fun h_ => hk.2.2.1 h_)⟩)))); (case aS => exact (below_size (wmv HB.out))); (case aL => have := LMc67.out; omega); intro v356 w73 ho hb hg hat; rw [← Ny355.out] at ho; have n0_ := am (Kd.R_over' (Kd.R_mv HO_332000.out) (Kd.S_typed (Kd.S_mv HO_13.out)) (by decide) hg); have n1_ := am (blk_grown (bmv BK329.out) hg (Kd.S_ne HO_13.out BK329.out (by decide))); have n2_ := am (blk_grown (bmv BK331.out) hg (Kd.S_ne HO_13.out BK331.out (by decide))); have n3_ := am (blk_grown (bmv BK345.out) hg (Kd.S_away HO_13.out (fun _ hk => hk.2.2.2))); have n4_ := am (hb); have n5_ := am (ho); clear HO_332000 BK329 BK331 BK345 HB HO_13 HO_346000 HO_346001; revert n0_ n1_ n2_ n3_ n4_ n5_; intro HO_332000 BK329 BK331 BK345 HB HO357; clear ho hb hg hat))
                    go_roundg k6
                    case measure => have := HK1.out; have := HJ26.out; have := HK3.out; have := HJ34.out; have := HK5.out; have := HK6.out; omega
                    case rel => exact ⟨(y355), (wrap64 (x14_3 + 1)), (by first | rfl | (simp; done) | (simp [*]; done)), H', ⟨by have := HK1.out; have := HJ26.out; have := HK3.out; have := HJ34.out; have := HK5.out; have := HK6.out; omega⟩, ⟨by (with_reducible repeat (first | apply Kd.S_alloc | apply Kd.S_drewN | apply Kd.S_drew)); exact Kd.S_mono HO357.out (fun _ hk => hk.1)⟩, ⟨by (with_reducible repeat (first | apply Kd.R_alloc | apply Kd.R_drewN | apply Kd.R_drew)); exact Kd.R_mono HO_332000.out (fun _ hk => trivial)⟩, ⟨by (with_reducible repeat (first | refine blk_drewN ?_ _ | refine blk_drew ?_ | refine blk_alloc ?_ _)); exact BK329.out⟩, ⟨by (with_reducible repeat (first | refine blk_drewN ?_ _ | refine blk_drew ?_ | refine blk_alloc ?_ _)); exact BK331.out⟩, ⟨by repeat (first | (with_reducible first | exact HB.out | apply below_alloc | apply pw_below_drewN | apply below_drew1 | refine below_set ?_ GE329.out | refine below_set ?_ GE331.out | refine below_set ?_ GE345.out) | exact HB.out)⟩⟩
                   ·rw [if_neg c67] at H
                    exact absurd H (by simp)
            ·rw [if_neg c39] at H
             exact absurd H (by simp)
           ·rw [if_neg c38] at H
            exact absurd H (by simp)
          ·replace c37 := Bool.eq_false_iff.mpr c37
           subst c37
           have H1 : (some (x332000_26, t330, x13_3)) = some (r1, r2, r3) := by rw [if_neg (show ¬ (false = true) by decide)] at H; exact H
           clear H
           have H := H1
           clear H1
           simp only [Option.some.injEq, Prod.mk.injEq] at H
           obtain ⟨rfl, rfl, rfl⟩ := H
           have hnb76 := NB331_329.out
           have hnc76 := NB329_331.out
           have hcz77_0 : wc.cell? ⟨gb331, 0, none⟩ = some (u332000) := (blk_cell BK331.out 0).trans rfl
           have hcz77_1 : wc.cell? ⟨gb331, 1, none⟩ = some (.int .i64 t330) := (blk_cell BK331.out 1).trans rfl
           have hfz77_0 := blk_frozen BK331.out 0
           have hfz77_1 := blk_frozen BK331.out 1
           obtain ⟨Ao78, co78, eo78⟩ := Kd.R_slice HO_332000.out
           subst eo78
           have hcz79_0 : wc.cell? ⟨gb329, 0, none⟩ = some (.slice none 0 0) := (blk_cell BK329.out 0).trans rfl
           have hcz79_1 : wc.cell? ⟨gb329, 1, none⟩ = some (.int .i64 0) := (blk_cell BK329.out 1).trans rfl
           have hfz79_0 := blk_frozen BK329.out 0
           have hfz79_1 := blk_frozen BK329.out 1
           go_wp2
           refine bodyPost_ret (results_ct rfl _ _ gb329 35 #[.slice Ao78 x332000_26.length co78, .int .i64 t330] (0, 0) _ rfl (by (with_reducible repeat (first | refine blk_drewN ?_ _ | refine blk_drew ?_ | refine blk_alloc ?_ _)); refine blk_put (cs := #[.slice Ao78 x332000_26.length co78, .int .i64 0]) ?_ 1 _ rfl; (with_reducible repeat (first | refine blk_drewN ?_ _ | refine blk_drew ?_ | refine blk_alloc ?_ _)); refine blk_put (cs := #[.slice none 0 0, .int .i64 0]) ?_ 0 _ rfl; (with_reducible repeat (first | refine blk_drewN ?_ _ | refine blk_drew ?_ | refine blk_alloc ?_ _)); exact BK329.out) Try.underlying35 rfl (by kernel_rfl)) rfl ?_
           exact ⟨_, _, by first | rfl | (simp [errW_none, errW_some] <;> rfl) | (simp [*, errW_none, errW_some] <;> rfl), by (with_reducible repeat (first | apply Kd.R_alloc | apply Kd.R_drewN | apply Kd.R_drew)); exact Kd.R_mono (Kd.R_far (p := ⟨gb329, 1, none⟩) (Kd.R_far (p := ⟨gb329, 0, none⟩) (Kd.R_types HO_332000.out BK329.out (by decide)) (fun _ hk => hk.2) (.slice Ao78 x332000_26.length co78)) (fun _ hk => hk.2) (.int .i64 t330)) (fun _ hk => trivial), by (with_reducible repeat (first | apply Kd.S_alloc | apply Kd.S_drewN | apply Kd.S_drew)); exact Kd.S_mono (Kd.S_far (p := ⟨gb329, 1, none⟩) (Kd.S_far (p := ⟨gb329, 0, none⟩) (Kd.S_types HO_13.out BK329.out (by decide)) (fun _ hk => hk.2) (.slice Ao78 x332000_26.length co78)) (fun _ hk => hk.2) (.int .i64 t330)) (fun _ hk => hk.1), by repeat (first | (with_reducible first | exact HB.out | apply below_alloc | apply pw_below_drewN | apply below_drew1 | refine below_set ?_ GE329.out | refine below_set ?_ GE331.out) | exact HB.out)⟩
def hypercuberef2_Of.l0 : Nat → Int → Int → List Int → List Int → List Int → Int → Option (List Int × Int × List Int × List Int × List Int)
 | 0, _, _, _, _, _, _ => none
 | k + 1, x1, x6, x359000, x359001, x361000, x361001 => if x6 < (x359000.length : Int) then (if 0 ≤ (IntKind.u64.wrap (x6)) then (if (Go.bits .and .i64 (shr .i64 x1 (IntKind.u64.wrap (x6))) 1) = 1 then (if 0 ≤ x6 then (if x361000.length < 17592186044416 then (hypercuberef2_Of.l0 k x1 (wrap64 (x6 + 1)) x359000 x359001 (x361000 ++ [rd x359000 x6]) x361001) else (none)) else (none)) else (hypercuberef2_Of.l0 k x1 (wrap64 (x6 + 1)) x359000 x359001 x361000 x361001)) else (none)) else ((some (([] : List Int) : List Int)).bind fun y365 => (if y365.length + x359001.length < 17592186044416 then ((some (([] : List Int) : List Int)).bind fun y371 => (if y371.length + x359001.length < 17592186044416 then ((some (([] : List Int) : List Int)).bind fun y377 => (if y377.length + x359001.length < 17592186044416 then (some (x361000, x361001, (y365 ++ x359001), (y371 ++ x359001), (y377 ++ x359001))) else (none))) else (none))) else (none)))
def hypercuberef2_Of.f (k : Nat) (l0_0 : List Int) (l0_1 : List Int) (a1 : Int) : Option (List Int × Int × List Int × List Int × List Int) := hypercuberef2_Of.l0 k a1 0 l0_0 l0_1 ([] : List Int) 1
def hypercuberef2_Of.T6 : Bool × List (List Nat × List Nat) := (true, [([], []), ([0], [0]), ([], []), ([2], [2]), ([], []), ([3, 4], [3, 4]), ([5], [5]), ([6], [6]), ([1, 7], [1, 7]), ([0, 1, 2, 3, 4, 5, 6, 7, 8], []), ([9, 8, 8, 0, 1, 2, 3, 4, 5, 6, 7, 8], [8, 9])])
def hypercuberef2_Of.B6 : List Nat := [0, 1, 0, 4, 0, 28, 60, 124, 255, 511, 1023]
theorem hypercuberef2_Of.tab6 : rtab .any (opsOf Try.f30 6) = hypercuberef2_Of.T6 := by kernel_rfl
theorem hypercuberef2_Of.bits6 : waitsOk hypercuberef2_Of.T6.2 hypercuberef2_Of.B6 = true := by kernel_rfl
set_option maxHeartbeats 8000000 in
set_option maxRecDepth 100000 in
theorem hypercuberef2_Of.calls (k : Nat) (A0_0 : Option Addr) (c0_0 : Nat) (l0_0 : List Int) (A0_1 : Option Addr) (c0_1 : Nat) (l0_1 : List Int) (a1 : Int) (r1 : List Int) (r2 : Int) (r3 : List Int) (r4 : List Int) (r5 : List Int) (w : World) (hr0_0 : Kd.C (Kd.int .i64) w A0_0 l0_0.length l0_0) (hc0_0 : l0_0.length ≤ c0_0) (hr0_1 : Kd.C (Kd.int .i64) w A0_1 l0_1.length l0_1) (hc0_1 : l0_1.length ≤ c0_1) (h : hypercuberef2_Of.f k l0_0 l0_1 a1 = some (r1, r2, r3, r4, r5)) :
  Calls Try.prog 30 #[.agg #[.slice A0_0 l0_0.length c0_0, .slice A0_1 l0_1.length c0_1], .int .i64 a1] w fun e w' => ∃ v0_ v2_ v3_ v4_ : Value, e = .returned (.agg #[v0_, .int .i64 r2, v2_, v3_, v4_]) ∧ Kd.R (Kd.int .i64) 3 w' w.heap.size (fun k_ => some k_ ≠ (v2_ : Value).ownBlock ∧ some k_ ≠ (v3_ : Value).ownBlock ∧ some k_ ≠ (v4_ : Value).ownBlock) v0_ r1 ∧ Kd.R (Kd.int .i64) 3 w' w.heap.size (fun k_ => some k_ ≠ (v0_ : Value).ownBlock ∧ some k_ ≠ (v3_ : Value).ownBlock ∧ some k_ ≠ (v4_ : Value).ownBlock) v2_ r3 ∧ Kd.R (Kd.int .i64) 3 w' w.heap.size (fun k_ => some k_ ≠ (v0_ : Value).ownBlock ∧ some k_ ≠ (v2_ : Value).ownBlock ∧ some k_ ≠ (v4_ : Value).ownBlock) v3_ r4 ∧ Kd.R (Kd.int .i64) 3 w' w.heap.size (fun k_ => some k_ ≠ (v0_ : Value).ownBlock ∧ some k_ ≠ (v2_ : Value).ownBlock ∧ some k_ ≠ (v3_ : Value).ownBlock) v4_ r5 ∧ Below w.heap.size w w' := by
 have hu45 := Try.underlying45
 have hu30 := Try.underlying30
 have HR0_0 := am hr0_0
 have HC0_0 := am hc0_0
 clear hr0_0 hc0_0
 have HR0_1 := am hr0_1
 have HC0_1 := am hc0_1
 clear hr0_1 hc0_1
 have HB := am (Below.refl w.heap.size w)
 have H : (hypercuberef2_Of.l0 k a1 0 l0_0 l0_1 ([] : List Int) 1) = some (r1, r2, r3, r4, r5) := h
 clear h
 have H' := am H
 clear H
 go_enter Try.func30, Try.ntmps30
 go_wp2_with (first | ((with_reducible refine gate_dst (N := 2) rfl ?_); refine box_event ?hg (N := 2) ?hd (cs := #[.slice A0_0 l0_0.length c0_0, .slice A0_1 l0_1.length c0_1]) (t := 45) ?hr ?_; (case hd => rfl); (case hg => rfl); (case hr => first | (go_simp; done) | (go_simp; rfl)); intro gb358 hg w3 hbox hb; have n0_ := am (below_step (wmv HB.out) hb); have n1_ := am (hbox); have n2_ := am ((by rw [hg]; exact (below_size (wmv HB.out)) : w.heap.size ≤ gb358)); have n3_ := am ((by rw [hg]; exact (below_size (wmv HB.out)) : w.heap.size ≤ gb358)); clear HB; revert n0_ n1_ n2_ n3_; intro HB BK358 GW358 GE358; clear hb hbox hg) | ((with_reducible refine gate_dst (N := 4) rfl ?_); refine box_event ?hg (N := 4) ?hd (cs := #[.slice none 0 0, .int .i64 0, .slice none 0 0, .slice none 0 0, .slice none 0 0]) (t := 30) ?hr ?_; (case hd => rfl); (case hg => rfl); (case hr => first | (go_simp; done) | (go_simp; rfl)); intro gb359 hg w4 hbox hb; have n0_ := am (blk_below (bmv BK358.out) hb); have n1_ := am (below_step (wmv HB.out) hb); have n2_ := am (hbox); have n3_ := am ((by rw [hg]; exact (below_size (wmv HB.out)) : w.heap.size ≤ gb359)); have n4_ := am ((by rw [hg]; exact (below_size (wmv HB.out)) : w.heap.size ≤ gb359)); have n5_ := am ((by rw [hg]; exact Nat.ne_of_lt (blk_lt (bmv BK358.out)) : gb358 ≠ gb359)); have n6_ := am ((by rw [hg]; exact Nat.ne_of_gt (blk_lt (bmv BK358.out)) : gb359 ≠ gb358)); clear BK358 HB; revert n0_ n1_ n2_ n3_ n4_ n5_ n6_; intro BK358 HB BK359 GW359 GE359 NB358_359 NB359_358; clear hb hbox hg) | ((with_reducible refine gate_dst (N := 5) rfl ?_); refine box_event ?hg (N := 5) ?hd (cs := #[.slice none 0 0, .int .i64 0, .slice none 0 0, .slice none 0 0, .slice none 0 0]) (t := 30) ?hr ?_; (case hd => rfl); (case hg => rfl); (case hr => first | (go_simp; done) | (go_simp; rfl)); intro gb360 hg w5 hbox hb; have n0_ := am (blk_below (bmv BK358.out) hb); have n1_ := am (blk_below (bmv BK359.out) hb); have n2_ := am (below_step (wmv HB.out) hb); have n3_ := am (hbox); have n4_ := am ((by rw [hg]; exact (below_size (wmv HB.out)) : w.heap.size ≤ gb360)); have n5_ := am ((by rw [hg]; exact (below_size (wmv HB.out)) : w.heap.size ≤ gb360)); have n6_ := am ((by rw [hg]; exact Nat.ne_of_lt (blk_lt (bmv BK358.out)) : gb358 ≠ gb360)); have n7_ := am ((by rw [hg]; exact Nat.ne_of_gt (blk_lt (bmv BK358.out)) : gb360 ≠ gb358)); have n8_ := am ((by rw [hg]; exact Nat.ne_of_lt (blk_lt (bmv BK359.out)) : gb359 ≠ gb360)); have n9_ := am ((by rw [hg]; exact Nat.ne_of_gt (blk_lt (bmv BK359.out)) : gb360 ≠ gb359)); clear BK358 BK359 HB; revert n0_ n1_ n2_ n3_ n4_ n5_ n6_ n7_ n8_ n9_; intro BK358 BK359 HB BK360 GW360 GE360 NB358_360 NB360_358 NB359_360 NB360_359; clear hb hbox hg; have hnb6 := NB360_358.out; have hnc6 := NB358_360.out; have hnb7 := NB360_359.out; have hnc7 := NB359_360.out; have hcz8_0 : w5.cell? ⟨gb360, 0, none⟩ = some (.slice none 0 0) := (blk_cell BK360.out 0).trans rfl; have hcz8_1 : w5.cell? ⟨gb360, 1, none⟩ = some (.int .i64 0) := (blk_cell BK360.out 1).trans rfl; have hcz8_2 : w5.cell? ⟨gb360, 2, none⟩ = some (.slice none 0 0) := (blk_cell BK360.out 2).trans rfl; have hcz8_3 : w5.cell? ⟨gb360, 3, none⟩ = some (.slice none 0 0) := (blk_cell BK360.out 3).trans rfl; have hcz8_4 : w5.cell? ⟨gb360, 4, none⟩ = some (.slice none 0 0) := (blk_cell BK360.out 4).trans rfl; have hfz8_0 := blk_frozen BK360.out 0; have hfz8_1 := blk_frozen BK360.out 1; have hfz8_2 := blk_frozen BK360.out 2; have hfz8_3 := blk_frozen BK360.out 3; have hfz8_4 := blk_frozen BK360.out 4))
 go_loopg [6] k (fun kq v6 w' => ∃ (x6_1 : Int) (x361000_1 : List Int) (u361000 : Value), v6 = .int .i64 x6_1 ∧ Aside0 (hypercuberef2_Of.l0 kq a1 x6_1 l0_0 l0_1 x361000_1 1 = some (r1, r2, r3, r4, r5)) ∧ Aside0 (kq ≤ k) ∧ Aside0 (Kd.R (Kd.int .i64) 3 w' w.heap.size (fun _ => True) u361000 x361000_1) ∧ Aside0 (w'.heap[gb358]? = some (.cells #[(.slice A0_0 l0_0.length c0_0), (.slice A0_1 l0_1.length c0_1)] 45 (0, 0))) ∧ Aside0 (w'.heap[gb359]? = some (.cells #[(.slice none 0 0), .int .i64 0, (.slice none 0 0), (.slice none 0 0), (.slice none 0 0)] 30 (0, 0))) ∧ Aside0 (w'.heap[gb360]? = some (.cells #[u361000, .int .i64 1, (.slice none 0 0), (.slice none 0 0), (.slice none 0 0)] 30 (0, 0))) ∧ Aside0 (Below w.heap.size w w'))
 case atStart => exact ⟨(0), (([] : List Int)), (.slice none 0 0), (by first | rfl | (simp; done) | (simp [*]; done)), H', ⟨Nat.le_refl _⟩, ⟨by first | exact Kd.R_nil _ _ _ _ _ | exact Kd.N_nil _ _ _ _ _ | exact Kd.V_nil _ _ _ _ _ | exact Kd.Q_nil _ _ _ _ _ | exact Kd.S_nil _ _ _ _ _⟩, ⟨by (with_reducible repeat (first | refine blk_drewN ?_ _ | refine blk_drew ?_ | refine blk_alloc ?_ _)); refine blk_far ?_ NB358_360.out _; (with_reducible repeat (first | refine blk_drewN ?_ _ | refine blk_drew ?_ | refine blk_alloc ?_ _)); refine blk_far ?_ NB358_360.out _; (with_reducible repeat (first | refine blk_drewN ?_ _ | refine blk_drew ?_ | refine blk_alloc ?_ _)); refine blk_far ?_ NB358_360.out _; (with_reducible repeat (first | refine blk_drewN ?_ _ | refine blk_drew ?_ | refine blk_alloc ?_ _)); refine blk_far ?_ NB358_360.out _; (with_reducible repeat (first | refine blk_drewN ?_ _ | refine blk_drew ?_ | refine blk_alloc ?_ _)); refine blk_far ?_ NB358_360.out _; (with_reducible repeat (first | refine blk_drewN ?_ _ | refine blk_drew ?_ | refine blk_alloc ?_ _)); exact BK358.out⟩, ⟨by (with_reducible repeat (first | refine blk_drewN ?_ _ | refine blk_drew ?_ | refine blk_alloc ?_ _)); refine blk_far ?_ NB359_360.out _; (with_reducible repeat (first | refine blk_drewN ?_ _ | refine blk_drew ?_ | refine blk_alloc ?_ _)); refine blk_far ?_ NB359_360.out _; (with_reducible repeat (first | refine blk_drewN ?_ _ | refine blk_drew ?_ | refine blk_alloc ?_ _)); refine blk_far ?_ NB359_360.out _; (with_reducible repeat (first | refine blk_drewN ?_ _ | refine blk_drew ?_ | refine blk_alloc ?_ _)); refine blk_far ?_ NB359_360.out _; (with_reducible repeat (first | refine blk_drewN ?_ _ | refine blk_drew ?_ | refine blk_alloc ?_ _)); refine blk_far ?_ NB359_360.out _; (with_reducible repeat (first | refine blk_drewN ?_ _ | refine blk_drew ?_ | refine blk_alloc ?_ _)); exact BK359.out⟩, ⟨by (with_reducible repeat (first | refine blk_drewN ?_ _ | refine blk_drew ?_ | refine blk_alloc ?_ _)); refine blk_put (cs := #[.slice none 0 0, .int .i64 1, .slice none 0 0, .slice none 0 0, .slice none 0 0]) ?_ 4 _ rfl; (with_reducible repeat (first | refine blk_drewN ?_ _ | refine blk_drew ?_ | refine blk_alloc ?_ _)); refine blk_put (cs := #[.slice none 0 0, .int .i64 1, .slice none 0 0, .slice none 0 0, .slice none 0 0]) ?_ 3 _ rfl; (with_reducible repeat (first | refine blk_drewN ?_ _ | refine blk_drew ?_ | refine blk_alloc ?_ _)); refine blk_put (cs := #[.slice none 0 0, .int .i64 1, .slice none 0 0, .slice none 0 0, .slice none 0 0]) ?_ 2 _ rfl; (with_reducible repeat (first | refine blk_drewN ?_ _ | refine blk_drew ?_ | refine blk_alloc ?_ _)); refine blk_put (cs := #[.slice none 0 0, .int .i64 0, .slice none 0 0, .slice none 0 0, .slice none 0 0]) ?_ 1 _ rfl; (with_reducible repeat (first | refine blk_drewN ?_ _ | refine blk_drew ?_ | refine blk_alloc ?_ _)); refine blk_put (cs := #[.slice none 0 0, .int .i64 0, .slice none 0 0, .slice none 0 0, .slice none 0 0]) ?_ 0 _ rfl; (with_reducible repeat (first | refine blk_drewN ?_ _ | refine blk_drew ?_ | refine blk_alloc ?_ _)); exact BK360.out⟩, ⟨by repeat (first | (with_reducible first | exact HB.out | apply below_alloc | apply pw_below_drewN | apply below_drew1 | refine below_set ?_ GE358.out | refine below_set ?_ GE359.out | refine below_set ?_ GE360.out) | exact HB.out)⟩⟩
 case round =>
  clear H'
  try clear p2
  try clear c3
  try clear c6
  try clear c7
  try clear hcz8_0
  try clear hcz8_1
  try clear hcz8_2
  try clear hcz8_3
  try clear hcz8_4
  try clear hfz8_0
  try clear hfz8_1
  try clear hfz8_2
  try clear hfz8_3
  try clear hfz8_4
  obtain ⟨x6_1, x361000_1, u361000, rfl, HA, HK1, HO_361000, BK358, BK359, BK360, HB⟩ := hrel
  cases gk with
  | zero => exact absurd HA.out (by simp [hypercuberef2_Of.l0])
  | succ k1 =>
   have H := HA.out
   clear HA
   simp only [hypercuberef2_Of.l0] at H
   by_cases c9 : x6_1 < (l0_0.length : Int)
   ·rw [if_pos c9] at H
    have c9b0 : decide (x6_1 < (l0_0.length : Int)) = true := decide_eq_true c9
    clear c9
    obtain ⟨ji10, hji10⟩ : ∃ j_ : Int, (IntKind.u64.wrap (x6_1)) = j_ := ⟨_, rfl⟩
    replace H : (if 0 ≤ (ji10) then (if (Go.bits .and .i64 (shr .i64 a1 (ji10)) 1) = 1 then (if 0 ≤ x6_1 then (if x361000_1.length < 17592186044416 then (hypercuberef2_Of.l0 k1 a1 (wrap64 (x6_1 + 1)) l0_0 l0_1 (x361000_1 ++ [rd l0_0 x6_1]) 1) else (none)) else (none)) else (hypercuberef2_Of.l0 k1 a1 (wrap64 (x6_1 + 1)) l0_0 l0_1 x361000_1 1)) else (none)) = some (r1, r2, r3, r4, r5) := by first | (rw [hji10] at H; exact H) | (simp only [hji10] at H ⊢; exact H)
    by_cases c11 : 0 ≤ (ji10)
    ·rw [if_pos c11] at H
     have c11b0 := eq_true c11
     have c11b1 : decide (0 ≤ (ji10)) = true := decide_eq_true c11
     clear c11
     obtain ⟨ji12, hji12⟩ : ∃ j_ : Int, (shr .i64 a1 (ji10)) = j_ := ⟨_, rfl⟩
     replace H : (if (Go.bits .and .i64 (ji12) 1) = 1 then (if 0 ≤ x6_1 then (if x361000_1.length < 17592186044416 then (hypercuberef2_Of.l0 k1 a1 (wrap64 (x6_1 + 1)) l0_0 l0_1 (x361000_1 ++ [rd l0_0 x6_1]) 1) else (none)) else (none)) else (hypercuberef2_Of.l0 k1 a1 (wrap64 (x6_1 + 1)) l0_0 l0_1 x361000_1 1)) = some (r1, r2, r3, r4, r5) := by first | (rw [hji12] at H; exact H) | (simp only [hji12] at H ⊢; exact H)
     have hji12_ : (a1 / 2 ^ min (ji10).toNat 64) = ji12 := hji12
     have hji12z : (ji10) ≤ 64 → (a1 / 2 ^ (ji10).toNat) = ji12 := shr_small hji12
     by_cases c13 : (Go.bits .and .i64 (ji12) 1) = 1
     ·rw [if_pos c13] at H
      have c13b0 : ((Go.bits .and .i64 (ji12) 1) == 1) = true := beq_iff_eq.mpr c13
      have c13b1 : ((Go.bits .and .i64 (ji12) 1) != 1) = false := bne_eq_false_iff_eq.mpr c13
      clear c13
      by_cases c14 : 0 ≤ x6_1
      ·rw [if_pos c14] at H
       have c14b0 : decide (0 ≤ x6_1) = true := decide_eq_true c14
       clear c14
       by_cases c15 : x361000_1.length < 17592186044416
       ·rw [if_pos c15] at H
        have LMc15 := am c15
        clear c15
        obtain ⟨y362, hy362⟩ : ∃ y_ : List Int, y_ = (x361000_1 ++ [rd l0_0 x6_1]) := ⟨_, rfl⟩
        replace H : (hypercuberef2_Of.l0 k1 a1 (wrap64 (x6_1 + 1)) l0_0 l0_1 y362 1) = some (r1, r2, r3, r4, r5) := by rw [hy362]; with_reducible exact H
        have Ny362 := am hy362
        clear hy362
        have H' := am H
        clear H
        have hnb16 := NB358_359.out
        have hnc16 := NB359_358.out
        have hnb17 := NB358_360.out
        have hnc17 := NB360_358.out
        have hcz18_0 : wr.cell? ⟨gb358, 0, none⟩ = some (.slice A0_0 l0_0.length c0_0) := (blk_cell BK358.out 0).trans rfl
        have hcz18_1 : wr.cell? ⟨gb358, 1, none⟩ = some (.slice A0_1 l0_1.length c0_1) := (blk_cell BK358.out 1).trans rfl
        have hfz18_0 := blk_frozen BK358.out 0
        have hfz18_1 := blk_frozen BK358.out 1
        try go_wp2
        have n0_ := am (Kd.R_drew HO_361000.out)
        have n1_ := am (blk_drew BK358.out)
        have n2_ := am (blk_drew BK359.out)
        have n3_ := am (blk_drew BK360.out)
        have n4_ := am (below_drew1 HB.out)
        clear HO_361000 BK358 BK359 BK360 HB
        revert n0_ n1_ n2_ n3_ n4_
        intro HO_361000 BK358 BK359 BK360 HB
        have p361 : 0 ≤ (x6_1 : Int) := of_decide_eq_true (by first | (with_reducible assumption) | assumption)
        have q361 : x6_1 < (l0_0.length : Int) := of_decide_eq_true (by first | (with_reducible assumption) | assumption)
        obtain ⟨ad361, e361, hx361_0⟩ := Kd.at_int HR0_0.out x6_1 p361 q361
        have hw361_0 := hx361_0
        cases e361
        replace hx361_0 := (HB.out.cell (World.block_lt_of_cell? w _ hx361_0)).trans hx361_0
        replace p361 := eq_true p361
        replace q361 := eq_true q361
        refine start_ (n := 11) (S := fun w' => w'.cell? ⟨gb360, 0, none⟩ = some (u361000) ∧ w'.cell? ⟨gb360, 1, none⟩ = some (.int .i64 1) ∧ w'.cell? ⟨gb360, 2, none⟩ = some (.slice none 0 0) ∧ w'.cell? ⟨gb360, 3, none⟩ = some (.slice none 0 0) ∧ w'.cell? ⟨gb360, 4, none⟩ = some (.slice none 0 0) ∧ w'.cell? ⟨gb358, 0, none⟩ = some (.slice (some ad361) l0_0.length c0_0) ∧ w'.cell? ⟨gb358, 1, none⟩ = some (.slice A0_1 l0_1.length c0_1) ∧ w'.cell? (ad361.add (x6_1).toNat) = some (.int .i64 (rd l0_0 x6_1))) (ds := [10]) (bb 11 0) (by kernel_rfl) rfl rfl ⟨bc BK360 0, bc BK360 1, bc BK360 2, bc BK360 3, bc BK360 4, bc BK358 0, bc BK358 1, ((HB.out.cell (World.block_lt_of_cell? w _ hw361_0)).trans hw361_0)⟩ (fun hHeld => ?_); refine with_tabW hypercuberef2_Of.tab6 hypercuberef2_Of.bits6 (fun HT_ HW_ => ?_)
        generalize wr.drew = w19 at HO_361000 BK358 BK359 BK360 HB hx361_0 hHeld ⊢
        refine pu (i := 0) (N := some 21) (bb 11 1) HT_ ?_
        refine pu (i := 2) (N := some 23) (bb 11 5) HT_ ?_
        refine pu (i := 4) (N := some 25) (bb 11 21) HT_ ?_
        refine tk (i := 1) (N := some 22) (bb 11 23) HT_ HW_ hHeld ?_
        refine tk (i := 3) (N := some 24) (bb 11 31) HT_ HW_ hHeld ?_
        refine pu (i := 5) (N := some 26) (bb 11 63) HT_ ?_
        refine tk (i := 6) (N := some 27) (bb 11 127) HT_ HW_ hHeld ?_
        refine one_ (i := 7) (N := some 28) (bb 11 255) rfl rfl (one_of HT_.out (by kernel_rfl)) (by decide) (fun K hK => ?_)
        refine value_ (w1 := ?_) (v := ?_) (by rfl) rfl ?_ ?_
        rotate_left 2
        ·go_simp
         constructor
         ·rfl
         ·rfl
        refine hK.out _ _ ⟨(blk_cell (blk_alloc BK360.out _) 0).trans rfl, (blk_cell (blk_alloc BK360.out _) 1).trans rfl, (blk_cell (blk_alloc BK360.out _) 2).trans rfl, (blk_cell (blk_alloc BK360.out _) 3).trans rfl, (blk_cell (blk_alloc BK360.out _) 4).trans rfl, (blk_cell (blk_alloc BK358.out _) 0).trans rfl, (blk_cell (blk_alloc BK358.out _) 1).trans rfl, (World.cell?_alloc_lt _ _ _ (World.block_lt_of_cell? _ _ (((HB.out.cell (World.block_lt_of_cell? w _ hw361_0)).trans hw361_0)))).trans (((HB.out.cell (World.block_lt_of_cell? w _ hw361_0)).trans hw361_0))⟩ (fun hHeld => ?_)
        clear hK K
        refine nm ?_
        refine one_ (i := 8) (N := some 29) (bb 11 511) rfl rfl (one_of HT_.out (by kernel_rfl)) (by decide) (fun K hK => ?_)
        refine Kd.R_append_step (Kd.int .i64) (w0 := w) w.heap.size (by rfl) (.tmp 22) (.tmp 28) 22 3 (.int .i64 0) 8 rfl Try.underlying22 info3 rfl (by decide) (by omega) u361000 x361000_1 (rd l0_0 x6_1) [.int .i64 (rd l0_0 x6_1)] (fun _ => True) (fun _ => False) rfl rfl ?aP (fun _ hk => hk.elim) ?aF ?aO ?aB ?aS ?aL ?_
        (case aP => exact rfl)
        (case aB => exact (wmv HB.out))
        (case aF => exact (fun _ _ => trivial))
        (case aO => exact (Kd.R_mv HO_361000.out))
        (case aS => exact (below_size (wmv HB.out)))
        (case aL => have := LMc15.out; omega)
        intro v363 w20 ho hb hg hat
        rw [← Ny362.out] at ho
        have n0_ := am (blk_grown (bmv BK358.out) hg (Kd.R_ne HO_361000.out BK358.out (by decide)))
        have n1_ := am (blk_grown (bmv BK359.out) hg (Kd.R_ne HO_361000.out BK359.out (by decide)))
        have n2_ := am (blk_grown (bmv BK360.out) hg (Kd.R_ne HO_361000.out BK360.out (by decide)))
        have n3_ := am (hb)
        have n4_ := am (ho)
        clear BK358 BK359 BK360 HB HO_361000
        revert n0_ n1_ n2_ n3_ n4_
        intro BK358 BK359 BK360 HB HO364
        clear ho hb hg hat
        obtain ⟨Ao21, co21, eo21⟩ := Kd.R_slice HO364.out
        (first | subst eo21 | (injection eo21 with f1_ f2_ f3_; have f4_ := f1_.symm; have f5_ := f3_.symm; clear f1_ f2_ f3_; subst f4_; subst f5_))
        refine hK.out _ _ ⟨bc BK360 0, bc BK360 1, bc BK360 2, bc BK360 3, bc BK360 4, bc BK358 0, bc BK358 1, ((HB.out.cell (World.block_lt_of_cell? w _ hw361_0)).trans hw361_0)⟩ (fun hHeld => ?_)
        clear hK K
        refine nm ?_
        refine pu (i := 9) (N := some 30) (bb 11 1023) HT_ ?_
        refine last_ (i := 10) (N := none) (bb 11 2047) rfl rfl (one_of HT_.out (by kernel_rfl)) (by decide) (fun K hK => ?_)
        have hs22 : w20.cell? ⟨gb360, 0, none⟩ = some (u361000) := (blk_cell BK360.out 0).trans rfl
        have hfs22 := blk_frozen BK360.out 0
        have hns22_0 := NB358_360.out
        have hns22_1 := NB359_360.out
        have hms22_0 := NB360_358.out
        have hms22_1 := NB360_359.out
        refine skip_ (w1 := ?_) (by rfl) rfl ?_ ?_
        rotate_left
        ·go_simp
         rfl
        refine hK.out _ _ ?_
        clear hK K
        refine done_ (done_of HT_.out (by kernel_rfl)) ?_
        try go_wp2
        go_roundg k1
        case measure => have := HK1.out; omega
        case rel => exact ⟨(wrap64 (x6_1 + 1)), (y362), (.slice Ao21 y362.length co21), (by first | rfl | (simp; done) | (simp [*]; done)), H', ⟨by have := HK1.out; omega⟩, ⟨by (with_reducible repeat (first | apply Kd.R_alloc | apply Kd.R_drewN | apply Kd.R_drew)); exact Kd.R_mono (Kd.R_far (p := ⟨gb360, 0, none⟩) (Kd.R_types HO364.out BK360.out (by decide)) (fun _ hk => hk.2) (.slice Ao21 y362.length co21)) (fun _ hk => trivial)⟩, ⟨by (with_reducible repeat (first | refine blk_drewN ?_ _ | refine blk_drew ?_ | refine blk_alloc ?_ _)); refine blk_far ?_ NB358_360.out _; (with_reducible repeat (first | refine blk_drewN ?_ _ | refine blk_drew ?_ | refine blk_alloc ?_ _)); exact BK358.out⟩, ⟨by (with_reducible repeat (first | refine blk_drewN ?_ _ | refine blk_drew ?_ | refine blk_alloc ?_ _)); refine blk_far ?_ NB359_360.out _; (with_reducible repeat (first | refine blk_drewN ?_ _ | refine blk_drew ?_ | refine blk_alloc ?_ _)); exact BK359.out⟩, ⟨by (with_reducible repeat (first | refine blk_drewN ?_ _ | refine blk_drew ?_ | refine blk_alloc ?_ _)); refine blk_put (cs := #[u361000, .int .i64 1, .slice none 0 0, .slice none 0 0, .slice none 0 0]) ?_ 0 _ rfl; (with_reducible repeat (first | refine blk_drewN ?_ _ | refine blk_drew ?_ | refine blk_alloc ?_ _)); exact BK360.out⟩, ⟨by repeat (first | (with_reducible first | exact HB.out | apply below_alloc | apply pw_below_drewN | apply below_drew1 | refine below_set ?_ GE358.out | refine below_set ?_ GE359.out | refine below_set ?_ GE360.out) | exact HB.out)⟩⟩
       ·rw [if_neg c15] at H
        exact absurd H (by simp)
      ·rw [if_neg c14] at H
       exact absurd H (by simp)
     ·rw [if_neg c13] at H
      have c13b0 : ((Go.bits .and .i64 (ji12) 1) == 1) = false := beq_eq_false_iff_ne.mpr c13
      have c13b1 : ((Go.bits .and .i64 (ji12) 1) != 1) = true := bne_iff_ne.mpr c13
      have H' := am H
      clear H
      have hnb23 := NB358_359.out
      have hnc23 := NB359_358.out
      have hnb24 := NB358_360.out
      have hnc24 := NB360_358.out
      have hcz25_0 : wr.cell? ⟨gb358, 0, none⟩ = some (.slice A0_0 l0_0.length c0_0) := (blk_cell BK358.out 0).trans rfl
      have hcz25_1 : wr.cell? ⟨gb358, 1, none⟩ = some (.slice A0_1 l0_1.length c0_1) := (blk_cell BK358.out 1).trans rfl
      have hfz25_0 := blk_frozen BK358.out 0
      have hfz25_1 := blk_frozen BK358.out 1
      go_wp2
      go_roundg k1
      case measure => have := HK1.out; omega
      case rel => exact ⟨(wrap64 (x6_1 + 1)), (x361000_1), (u361000), (by first | rfl | (simp; done) | (simp [*]; done)), H', ⟨by have := HK1.out; omega⟩, ⟨by (with_reducible repeat (first | apply Kd.R_alloc | apply Kd.R_drewN | apply Kd.R_drew)); exact HO_361000.out⟩, ⟨by (with_reducible repeat (first | refine blk_drewN ?_ _ | refine blk_drew ?_ | refine blk_alloc ?_ _)); exact BK358.out⟩, ⟨by (with_reducible repeat (first | refine blk_drewN ?_ _ | refine blk_drew ?_ | refine blk_alloc ?_ _)); exact BK359.out⟩, ⟨by (with_reducible repeat (first | refine blk_drewN ?_ _ | refine blk_drew ?_ | refine blk_alloc ?_ _)); exact BK360.out⟩, ⟨by repeat (first | (with_reducible first | exact HB.out | apply below_alloc | apply pw_below_drewN | apply below_drew1 | refine below_set ?_ GE358.out | refine below_set ?_ GE359.out | refine below_set ?_ GE360.out) | exact HB.out)⟩⟩
    ·rw [if_neg c11] at H
     exact absurd H (by simp)
   ·rw [if_neg c9] at H
    have c9b0 : decide (x6_1 < (l0_0.length : Int)) = false := decide_eq_false c9
    clear c9
    obtain ⟨y365, hy365⟩ : ∃ y_ : List Int, y_ = (([] : List Int)) := ⟨_, rfl⟩
    replace H : (if y365.length + l0_1.length < 17592186044416 then ((some (([] : List Int) : List Int)).bind fun y371 => (if y371.length + l0_1.length < 17592186044416 then ((some (([] : List Int) : List Int)).bind fun y377 => (if y377.length + l0_1.length < 17592186044416 then (some (x361000_1, 1, (y365 ++ l0_1), (y371 ++ l0_1), (y377 ++ l0_1))) else (none))) else (none))) else (none)) = some (r1, r2, r3, r4, r5) := by first | (rw [hy365]; with_reducible exact H) | (have H2_ := (Option.bind_some _ _).symm.trans H; rw [hy365]; with_reducible exact H2_) | (have H2_ := (Option.bind_some _ _).symm.trans H; with_reducible exact H2_) | with_reducible exact H | (rw [hy365]; exact H) | exact H
    have Ny365 := am hy365
    clear hy365
    by_cases c26 : y365.length + l0_1.length < 17592186044416
    ·rw [if_pos c26] at H
     have LMc26 := am c26
     clear c26
     obtain ⟨y368, hy368⟩ : ∃ y_ : List Int, y_ = (y365 ++ l0_1) := ⟨_, rfl⟩
     replace H : ((some (([] : List Int) : List Int)).bind fun y371 => (if y371.length + l0_1.length < 17592186044416 then ((some (([] : List Int) : List Int)).bind fun y377 => (if y377.length + l0_1.length < 17592186044416 then (some (x361000_1, 1, y368, (y371 ++ l0_1), (y377 ++ l0_1))) else (none))) else (none))) = some (r1, r2, r3, r4, r5) := by rw [hy368]; with_reducible exact H
     have Ny368 := am hy368
     clear hy368
     obtain ⟨y371, hy371⟩ : ∃ y_ : List Int, y_ = (([] : List Int)) := ⟨_, rfl⟩
     replace H : (if y371.length + l0_1.length < 17592186044416 then ((some (([] : List Int) : List Int)).bind fun y377 => (if y377.length + l0_1.length < 17592186044416 then (some (x361000_1, 1, y368, (y371 ++ l0_1), (y377 ++ l0_1))) else (none))) else (none)) = some (r1, r2, r3, r4, r5) := by first | (rw [hy371]; with_reducible exact H) | (have H2_ := (Option.bind_some _ _).symm.trans H; rw [hy371]; with_reducible exact H2_) | (have H2_ := (Option.bind_some _ _).symm.trans H; with_reducible exact H2_) | with_reducible exact H | (rw [hy371]; exact H) | exact H
     have Ny371 := am hy371
     clear hy371
     by_cases c27 : y371.length + l0_1.length < 17592186044416
     ·rw [if_pos c27] at H
      have LMc27 := am c27
      clear c27
      obtain ⟨y374, hy374⟩ : ∃ y_ : List Int, y_ = (y371 ++ l0_1) := ⟨_, rfl⟩
      replace H : ((some (([] : List Int) : List Int)).bind fun y377 => (if y377.length + l0_1.length < 17592186044416 then (some (x361000_1, 1, y368, y374, (y377 ++ l0_1))) else (none))) = some (r1, r2, r3, r4, r5) := by rw [hy374]; with_reducible exact H
      have Ny374 := am hy374
      clear hy374
      obtain ⟨y377, hy377⟩ : ∃ y_ : List Int, y_ = (([] : List Int)) := ⟨_, rfl⟩
      replace H : (if y377.length + l0_1.length < 17592186044416 then (some (x361000_1, 1, y368, y374, (y377 ++ l0_1))) else (none)) = some (r1, r2, r3, r4, r5) := by first | (rw [hy377]; with_reducible exact H) | (have H2_ := (Option.bind_some _ _).symm.trans H; rw [hy377]; with_reducible exact H2_) | (have H2_ := (Option.bind_some _ _).symm.trans H; with_reducible exact H2_) | with_reducible exact H | (rw [hy377]; exact H) | exact H
      have Ny377 := am hy377
      clear hy377
      by_cases c28 : y377.length + l0_1.length < 17592186044416
      ·rw [if_pos c28] at H
       have LMc28 := am c28
       clear c28
       obtain ⟨y380, hy380⟩ : ∃ y_ : List Int, y_ = (y377 ++ l0_1) := ⟨_, rfl⟩
       replace H : (some (x361000_1, 1, y368, y374, y380)) = some (r1, r2, r3, r4, r5) := by rw [hy380]; with_reducible exact H
       have Ny380 := am hy380
       clear hy380
       simp only [Option.some.injEq, Prod.mk.injEq] at H
       obtain ⟨rfl, rfl, rfl, rfl, rfl⟩ := H
       have hnb29 := NB358_359.out
       have hnc29 := NB359_358.out
       have hnb30 := NB358_360.out
       have hnc30 := NB360_358.out
       have hcz31_0 : wr.cell? ⟨gb358, 0, none⟩ = some (.slice A0_0 l0_0.length c0_0) := (blk_cell BK358.out 0).trans rfl
       have hcz31_1 : wr.cell? ⟨gb358, 1, none⟩ = some (.slice A0_1 l0_1.length c0_1) := (blk_cell BK358.out 1).trans rfl
       have hfz31_0 := blk_frozen BK358.out 0
       have hfz31_1 := blk_frozen BK358.out 1
       go_wp2_with (first | ((with_reducible refine gate_dst (N := 31) rfl ?_); refine Kd.R_lit (Kd.int .i64) _ 3 ?hg (N := 31) ?hd (xs := ([] : List Int)) (inner := []) (ok := fun _ => True) (okp := fun _ => True) ?hr ?hp (fun _ hk => hk) trivial (Below.refl _ _) (Nat.le_refl _) (by simp) ?_; (case hd => rfl); (case hg => rfl); (case hr => first | (go_simp; done) | (go_simp; rfl)); (case hp => exact (Reps.none _ _)); intro v366 w32 ho33 hb hg_ hnew_; clear hg_ hnew_; (first | rw [← Ny365.out] at ho33 | (simp only [Int.reduceToNat] at ho33; rw [← Ny365.out] at ho33)); have n0_ := am (Kd.R_elder' (Kd.R_mv HO_361000.out) (Kd.R_base ho33) hb); have n1_ := am (Kd.R_lower (Kd.R_new' ho33 (Kd.R_lt (Kd.R_mv HO_361000.out))) (below_size (by repeat (first | (with_reducible first | exact HB.out | apply below_alloc | apply pw_below_drewN | apply below_drew1 | refine below_set ?_ GE358.out | refine below_set ?_ GE359.out | refine below_set ?_ GE360.out) | exact HB.out)))); have n2_ := am (blk_below (bmv BK358.out) hb); have n3_ := am (blk_below (bmv BK359.out) hb); have n4_ := am (blk_below (bmv BK360.out) hb); have n5_ := am (below_step (by repeat (first | (with_reducible first | exact HB.out | apply below_alloc | apply pw_below_drewN | apply below_drew1 | refine below_set ?_ GE358.out | refine below_set ?_ GE359.out | refine below_set ?_ GE360.out) | exact HB.out)) hb); clear HO_361000 BK358 BK359 BK360 HB; revert n0_ n1_ n2_ n3_ n4_ n5_; intro HO_361000 HO367 BK358 BK359 BK360 HB; clear hb ho33; have hcz34_0 : w32.cell? ⟨gb358, 0, none⟩ = some (.slice A0_0 l0_0.length c0_0) := (blk_cell BK358.out 0).trans rfl; have hcz34_1 : w32.cell? ⟨gb358, 1, none⟩ = some (.slice A0_1 l0_1.length c0_1) := (blk_cell BK358.out 1).trans rfl; have hfz34_0 := blk_frozen BK358.out 0; have hfz34_1 := blk_frozen BK358.out 1) | ((with_reducible refine gate_builtin (b := .append) (xs := #[.tmp 31, .tmp 33]) rfl ?_); at_builtin; refine Kd.R_append_rows (Kd.int .i64) (w0 := w) w.heap.size rfl (.tmp 31) (.tmp 33) 22 3 (.int .i64 0) 8 rfl Try.underlying22 info3 rfl (by decide) (by omega) v366 y365 l0_1 _ _ _ (fun k_ => some k_ ≠ (u361000 : Value).ownBlock) (fun _ => False) rfl rfl ?aO ?aR (fun _ _ h => h) (fun _ h => h.elim) ?aF ?aB ?aS ?aL ?_; (case aR => exact Kd.Cw HR0_1.out HB.out); (case aB => exact (by repeat (first | (with_reducible first | exact HB.out | apply below_alloc | apply pw_below_drewN | apply below_drew1 | refine below_set ?_ GE358.out | refine below_set ?_ GE359.out | refine below_set ?_ GE360.out) | exact HB.out))); (case aF => exact (fun k_ hk => Kd.fresh' (Kd.R_lt (Kd.R_mv HO_361000.out)) k_ hk)); (case aO => exact (Kd.R_mv (Kd.R_mono HO367.out (fun _ hk => hk.2)))); (case aS => exact (below_size (by repeat (first | (with_reducible first | exact HB.out | apply below_alloc | apply pw_below_drewN | apply below_drew1 | refine below_set ?_ GE358.out | refine below_set ?_ GE359.out | refine below_set ?_ GE360.out) | exact HB.out)))); (case aL => have := LMc26.out; omega); intro v369 w35 ho hb hg hat; rw [← Ny368.out] at ho; have n0_ := am (Kd.R_after (ok := (fun _ => True)) (Kd.R_mv HO_361000.out) hg hat); have n1_ := am (blk_grown (bmv BK358.out) hg (Kd.R_ne HO367.out BK358.out (by decide))); have n2_ := am (blk_grown (bmv BK359.out) hg (Kd.R_ne HO367.out BK359.out (by decide))); have n3_ := am (blk_grown (bmv BK360.out) hg (Kd.R_ne HO367.out BK360.out (by decide))); have n4_ := am (hb); have n5_ := am (ho); clear HO_361000 BK358 BK359 BK360 HB HO367; revert n0_ n1_ n2_ n3_ n4_ n5_; intro HO_361000 BK358 BK359 BK360 HB HO370; clear ho hb hg hat; obtain ⟨Ao36, co36, eo36⟩ := Kd.R_slice HO370.out; subst eo36; have hnb37 := NB360_359.out; have hnc37 := NB359_360.out; have hcz38_0 : w35.cell? ⟨gb360, 0, none⟩ = some (u361000) := (blk_cell BK360.out 0).trans rfl; have hcz38_1 : w35.cell? ⟨gb360, 1, none⟩ = some (.int .i64 1) := (blk_cell BK360.out 1).trans rfl; have hcz38_2 : w35.cell? ⟨gb360, 2, none⟩ = some (.slice none 0 0) := (blk_cell BK360.out 2).trans rfl; have hcz38_3 : w35.cell? ⟨gb360, 3, none⟩ = some (.slice none 0 0) := (blk_cell BK360.out 3).trans rfl; have hcz38_4 : w35.cell? ⟨gb360, 4, none⟩ = some (.slice none 0 0) := (blk_cell BK360.out 4).trans rfl; have hfz38_0 := blk_frozen BK360.out 0; have hfz38_1 := blk_frozen BK360.out 1; have hfz38_2 := blk_frozen BK360.out 2; have hfz38_3 := blk_frozen BK360.out 3; have hfz38_4 := blk_frozen BK360.out 4) | ((with_reducible refine gate_dst (N := 36) rfl ?_); refine Kd.R_lit (Kd.int .i64) _ 3 ?hg (N := 36) ?hd (xs := ([] : List Int)) (inner := []) (ok := fun _ => True) (okp := fun _ => True) ?hr ?hp (fun _ hk => hk) trivial (Below.refl _ _) (Nat.le_refl _) (by simp) ?_; (case hd => rfl); (case hg => rfl); (case hr => first | (go_simp; done) | (go_simp; rfl)); (case hp => exact (Reps.none _ _)); intro v372 w39 ho40 hb hg_ hnew_; clear hg_ hnew_; (first | rw [← Ny371.out] at ho40 | (simp only [Int.reduceToNat] at ho40; rw [← Ny371.out] at ho40)); have n0_ := am (Kd.R_elder' (Kd.R_mv (Kd.R_mono (Kd.R_far (p := ⟨gb360, 2, none⟩) (Kd.R_types HO_361000.out BK360.out (by decide)) (fun _ hk => hk.2) (.slice Ao36 y368.length co36)) (fun _ h_ => h_.1))) (Kd.R_base ho40) hb); have n1_ := am (Kd.R_elder' (Kd.R_mv (Kd.R_mono (Kd.R_far (p := ⟨gb360, 2, none⟩) (Kd.R_types HO370.out BK360.out (by decide)) (fun _ hk => hk.2) (.slice Ao36 y368.length co36)) (fun _ h_ => h_.1))) (Kd.R_base ho40) hb); have n2_ := am (Kd.R_lower (Kd.R_new' (Kd.R_new' ho40 (Kd.R_lt (Kd.R_mv (Kd.R_mono (Kd.R_far (p := ⟨gb360, 2, none⟩) (Kd.R_types HO_361000.out BK360.out (by decide)) (fun _ hk => hk.2) (.slice Ao36 y368.length co36)) (fun _ h_ => h_.1))))) (Kd.R_lt (Kd.R_mv (Kd.R_mono (Kd.R_far (p := ⟨gb360, 2, none⟩) (Kd.R_types HO370.out BK360.out (by decide)) (fun _ hk => hk.2) (.slice Ao36 y368.length co36)) (fun _ h_ => h_.1))))) (below_size (by repeat (first | (with_reducible first | exact HB.out | apply below_alloc | apply pw_below_drewN | apply below_drew1 | refine below_set ?_ GE358.out | refine below_set ?_ GE359.out | refine below_set ?_ GE360.out) | exact HB.out)))); have n3_ := am (blk_below (g := gb358) (o := .cells #[.slice A0_0 l0_0.length c0_0, .slice A0_1 l0_1.length c0_1] 45 (0, 0)) (by (with_reducible repeat (first | refine blk_drewN ?_ _ | refine blk_drew ?_ | refine blk_alloc ?_ _)); refine blk_far ?_ NB358_360.out _; (with_reducible repeat (first | refine blk_drewN ?_ _ | refine blk_drew ?_ | refine blk_alloc ?_ _)); exact BK358.out) hb); have n4_ := am (blk_below (g := gb359) (o := .cells #[.slice none 0 0, .int .i64 0, .slice none 0 0, .slice none 0 0, .slice none 0 0] 30 (0, 0)) (by (with_reducible repeat (first | refine blk_drewN ?_ _ | refine blk_drew ?_ | refine blk_alloc ?_ _)); refine blk_far ?_ NB359_360.out _; (with_reducible repeat (first | refine blk_drewN ?_ _ | refine blk_drew ?_ | refine blk_alloc ?_ _)); exact BK359.out) hb); have n5_ := am (blk_below (g := gb360) (o := .cells #[u361000, .int .i64 1, .slice Ao36 y368.length co36, .slice none 0 0, .slice none 0 0] 30 (0, 0)) (by (with_reducible repeat (first | refine blk_drewN ?_ _ | refine blk_drew ?_ | refine blk_alloc ?_ _)); refine blk_put (cs := #[u361000, .int .i64 1, .slice none 0 0, .slice none 0 0, .slice none 0 0]) ?_ 2 _ rfl; (with_reducible repeat (first | refine blk_drewN ?_ _ | refine blk_drew ?_ | refine blk_alloc ?_ _)); exact BK360.out) hb); have n6_ := am (below_step (by repeat (first | (with_reducible first | exact HB.out | apply below_alloc | apply pw_below_drewN | apply below_drew1 | refine below_set ?_ GE358.out | refine below_set ?_ GE359.out | refine below_set ?_ GE360.out) | exact HB.out)) hb); clear HO_361000 HO370 BK358 BK359 BK360 HB; revert n0_ n1_ n2_ n3_ n4_ n5_ n6_; intro HO_361000 HO370 HO373 BK358 BK359 BK360 HB; clear hb ho40; have hcz41_0 : w39.cell? ⟨gb358, 0, none⟩ = some (.slice A0_0 l0_0.length c0_0) := (blk_cell BK358.out 0).trans rfl; have hcz41_1 : w39.cell? ⟨gb358, 1, none⟩ = some (.slice A0_1 l0_1.length c0_1) := (blk_cell BK358.out 1).trans rfl; have hfz41_0 := blk_frozen BK358.out 0; have hfz41_1 := blk_frozen BK358.out 1) | ((with_reducible refine gate_builtin (b := .append) (xs := #[.tmp 36, .tmp 38]) rfl ?_); at_builtin; refine Kd.R_append_rows (Kd.int .i64) (w0 := w) w.heap.size rfl (.tmp 36) (.tmp 38) 22 3 (.int .i64 0) 8 rfl Try.underlying22 info3 rfl (by decide) (by omega) v372 y371 l0_1 _ _ _ (fun k_ => some k_ ≠ (u361000 : Value).ownBlock ∧ some k_ ≠ (.slice Ao36 y368.length co36 : Value).ownBlock) (fun _ => False) rfl rfl ?aO ?aR (fun _ _ h => h) (fun _ h => h.elim) ?aF ?aB ?aS ?aL ?_; (case aR => exact Kd.Cw HR0_1.out HB.out); (case aB => exact (by repeat (first | (with_reducible first | exact HB.out | apply below_alloc | apply pw_below_drewN | apply below_drew1 | refine below_set ?_ GE358.out | refine below_set ?_ GE359.out | refine below_set ?_ GE360.out) | exact HB.out))); (case aF => exact (fun k_ hk => ⟨Kd.fresh' (Kd.R_lt (Kd.R_mv HO_361000.out)) k_ hk, Kd.fresh' (Kd.R_lt (Kd.R_mv HO370.out)) k_ hk⟩)); (case aO => exact (Kd.R_mv (Kd.R_mono HO373.out (fun _ hk => ⟨hk.1.2, hk.2⟩)))); (case aS => exact (below_size (by repeat (first | (with_reducible first | exact HB.out | apply below_alloc | apply pw_below_drewN | apply below_drew1 | refine below_set ?_ GE358.out | refine below_set ?_ GE359.out | refine below_set ?_ GE360.out) | exact HB.out)))); (case aL => have := LMc27.out; omega); intro v375 w42 ho hb hg hat; rw [← Ny374.out] at ho; have n0_ := am (Kd.R_after (ok := (fun k_ => some k_ ≠ (.slice Ao36 y368.length co36 : Value).ownBlock)) (Kd.R_mv (Kd.R_mono HO_361000.out (fun _ hk => ⟨hk.1.2, hk.2⟩))) hg hat); have n1_ := am (blk_grown (bmv BK358.out) hg (Kd.R_ne HO373.out BK358.out (by decide))); have n2_ := am (blk_grown (bmv BK359.out) hg (Kd.R_ne HO373.out BK359.out (by decide))); have n3_ := am (blk_grown (bmv BK360.out) hg (Kd.R_ne HO373.out BK360.out (by decide))); have n4_ := am (Kd.R_after (ok := (fun k_ => some k_ ≠ (u361000 : Value).ownBlock)) (Kd.R_mv HO370.out) hg hat); have n5_ := am (hb); have n6_ := am (ho); clear HO_361000 BK358 BK359 BK360 HO370 HB HO373; revert n0_ n1_ n2_ n3_ n4_ n5_ n6_; intro HO_361000 BK358 BK359 BK360 HO370 HB HO376; clear ho hb hg hat; obtain ⟨Ao43, co43, eo43⟩ := Kd.R_slice HO376.out; subst eo43; have hcz44_0 : w42.cell? ⟨gb360, 0, none⟩ = some (u361000) := (blk_cell BK360.out 0).trans rfl; have hcz44_1 : w42.cell? ⟨gb360, 1, none⟩ = some (.int .i64 1) := (blk_cell BK360.out 1).trans rfl; have hcz44_2 : w42.cell? ⟨gb360, 2, none⟩ = some (.slice Ao36 y368.length co36) := (blk_cell BK360.out 2).trans rfl; have hcz44_3 : w42.cell? ⟨gb360, 3, none⟩ = some (.slice none 0 0) := (blk_cell BK360.out 3).trans rfl; have hcz44_4 : w42.cell? ⟨gb360, 4, none⟩ = some (.slice none 0 0) := (blk_cell BK360.out 4).trans rfl; have hfz44_0 := blk_frozen BK360.out 0; have hfz44_1 := blk_frozen BK360.out 1; have hfz44_2 := blk_frozen BK360.out 2; have hfz44_3 := blk_frozen BK360.out 3; have hfz44_4 := blk_frozen BK360.out 4) | ((with_reducible refine gate_dst (N := 41) rfl ?_); refine Kd.R_lit (Kd.int .i64) _ 3 ?hg (N := 41) ?hd (xs := ([] : List Int)) (inner := []) (ok := fun _ => True) (okp := fun _ => True) ?hr ?hp (fun _ hk => hk) trivial (Below.refl _ _) (Nat.le_refl _) (by simp) ?_; (case hd => rfl); (case hg => rfl); (case hr => first | (go_simp; done) | (go_simp; rfl)); (case hp => exact (Reps.none _ _)); intro v378 w45 ho46 hb hg_ hnew_; clear hg_ hnew_; (first | rw [← Ny377.out] at ho46 | (simp only [Int.reduceToNat] at ho46; rw [← Ny377.out] at ho46)); have n0_ := am (Kd.R_elder' (Kd.R_mv (Kd.R_mono (Kd.R_far (p := ⟨gb360, 3, none⟩) (Kd.R_types HO_361000.out BK360.out (by decide)) (fun _ hk => hk.2) (.slice Ao43 y374.length co43)) (fun _ h_ => h_.1))) (Kd.R_base ho46) hb); have n1_ := am (Kd.R_elder' (Kd.R_mv (Kd.R_mono (Kd.R_far (p := ⟨gb360, 3, none⟩) (Kd.R_types HO370.out BK360.out (by decide)) (fun _ hk => hk.2) (.slice Ao43 y374.length co43)) (fun _ h_ => h_.1))) (Kd.R_base ho46) hb); have n2_ := am (Kd.R_elder' (Kd.R_mv (Kd.R_mono (Kd.R_far (p := ⟨gb360, 3, none⟩) (Kd.R_types HO376.out BK360.out (by decide)) (fun _ hk => hk.2) (.slice Ao43 y374.length co43)) (fun _ h_ => h_.1))) (Kd.R_base ho46) hb); have n3_ := am (Kd.R_lower (Kd.R_new' (Kd.R_new' (Kd.R_new' ho46 (Kd.R_lt (Kd.R_mv (Kd.R_mono (Kd.R_far (p := ⟨gb360, 3, none⟩) (Kd.R_types HO_361000.out BK360.out (by decide)) (fun _ hk => hk.2) (.slice Ao43 y374.length co43)) (fun _ h_ => h_.1))))) (Kd.R_lt (Kd.R_mv (Kd.R_mono (Kd.R_far (p := ⟨gb360, 3, none⟩) (Kd.R_types HO370.out BK360.out (by decide)) (fun _ hk => hk.2) (.slice Ao43 y374.length co43)) (fun _ h_ => h_.1))))) (Kd.R_lt (Kd.R_mv (Kd.R_mono (Kd.R_far (p := ⟨gb360, 3, none⟩) (Kd.R_types HO376.out BK360.out (by decide)) (fun _ hk => hk.2) (.slice Ao43 y374.length co43)) (fun _ h_ => h_.1))))) (below_size (by repeat (first | (with_reducible first | exact HB.out | apply below_alloc | apply pw_below_drewN | apply below_drew1 | refine below_set ?_ GE358.out | refine below_set ?_ GE359.out | refine below_set ?_ GE360.out) | exact HB.out)))); have n4_ := am (blk_below (g := gb358) (o := .cells #[.slice A0_0 l0_0.length c0_0, .slice A0_1 l0_1.length c0_1] 45 (0, 0)) (by (with_reducible repeat (first | refine blk_drewN ?_ _ | refine blk_drew ?_ | refine blk_alloc ?_ _)); refine blk_far ?_ NB358_360.out _; (with_reducible repeat (first | refine blk_drewN ?_ _ | refine blk_drew ?_ | refine blk_alloc ?_ _)); exact BK358.out) hb); have n5_ := am (blk_below (g := gb359) (o := .cells #[.slice none 0 0, .int .i64 0, .slice none 0 0, .slice none 0 0, .slice none 0 0] 30 (0, 0)) (by (with_reducible repeat (first | refine blk_drewN ?_ _ | refine blk_drew ?_ | refine blk_alloc ?_ _)); refine blk_far ?_ NB359_360.out _; (with_reducible repeat (first | refine blk_drewN ?_ _ | refine blk_drew ?_ | refine blk_alloc ?_ _)); exact BK359.out) hb); have n6_ := am (blk_below (g := gb360) (o := .cells #[u361000, .int .i64 1, .slice Ao36 y368.length co36, .slice Ao43 y374.length co43, .slice none 0 0] 30 (0, 0)) (by (with_reducible repeat (first | refine blk_drewN ?_ _ | refine blk_drew ?_ | refine blk_alloc ?_ _)); refine blk_put (cs := #[u361000, .int .i64 1, .slice Ao36 y368.length co36, .slice none 0 0, .slice none 0 0]) ?_ 3 _ rfl; (with_reducible repeat (first | refine blk_drewN ?_ _ | refine blk_drew ?_ | refine blk_alloc ?_ _)); exact BK360.out) hb); have n7_ := am (below_step (by repeat (first | (with_reducible first | exact HB.out | apply below_alloc | apply pw_below_drewN | apply below_drew1 | refine below_set ?_ GE358.out | refine below_set ?_ GE359.out | refine below_set ?_ GE360.out) | exact HB.out)) hb); clear HO_361000 HO370 HO376 BK358 BK359 BK360 HB; revert n0_ n1_ n2_ n3_ n4_ n5_ n6_ n7_; intro HO_361000 HO370 HO376 HO379 BK358 BK359 BK360 HB; clear hb ho46; have hcz47_0 : w45.cell? ⟨gb358, 0, none⟩ = some (.slice A0_0 l0_0.length c0_0) := (blk_cell BK358.out 0).trans rfl; have hcz47_1 : w45.cell? ⟨gb358, 1, none⟩ = some (.slice A0_1 l0_1.length c0_1) := (blk_cell BK358.out 1).trans rfl; have hfz47_0 := blk_frozen BK358.out 0; have hfz47_1 := blk_frozen BK358.out 1) | ((with_reducible refine gate_builtin (b := .append) (xs := #[.tmp 41, .tmp 43]) rfl ?_); at_builtin; refine Kd.R_append_rows (Kd.int .i64) (w0 := w) w.heap.size rfl (.tmp 41) (.tmp 43) 22 3 (.int .i64 0) 8 rfl Try.underlying22 info3 rfl (by decide) (by omega) v378 y377 l0_1 _ _ _ (fun k_ => some k_ ≠ (u361000 : Value).ownBlock ∧ some k_ ≠ (.slice Ao36 y368.length co36 : Value).ownBlock ∧ some k_ ≠ (.slice Ao43 y374.length co43 : Value).ownBlock) (fun _ => False) rfl rfl ?aO ?aR (fun _ _ h => h) (fun _ h => h.elim) ?aF ?aB ?aS ?aL ?_; (case aR => exact Kd.Cw HR0_1.out HB.out); (case aB => exact (by repeat (first | (with_reducible first | exact HB.out | apply below_alloc | apply pw_below_drewN | apply below_drew1 | refine below_set ?_ GE358.out | refine below_set ?_ GE359.out | refine below_set ?_ GE360.out) | exact HB.out))); (case aF => exact (fun k_ hk => ⟨Kd.fresh' (Kd.R_lt (Kd.R_mv HO_361000.out)) k_ hk, Kd.fresh' (Kd.R_lt (Kd.R_mv HO370.out)) k_ hk, Kd.fresh' (Kd.R_lt (Kd.R_mv HO376.out)) k_ hk⟩)); (case aO => exact (Kd.R_mv (Kd.R_mono HO379.out (fun _ hk => ⟨hk.1.1.2, ⟨hk.1.2, hk.2⟩⟩)))); (case aS => exact (below_size (by repeat (first | (with_reducible first | exact HB.out | apply below_alloc | apply pw_below_drewN | apply below_drew1 | refine below_set ?_ GE358.out | refine below_set ?_ GE359.out | refine below_set ?_ GE360.out) | exact HB.out)))); (case aL => have := LMc28.out; omega); intro v381 w48 ho hb hg hat; rw [← Ny380.out] at ho; have n0_ := am (Kd.R_after (ok := (fun k_ => some k_ ≠ (.slice Ao36 y368.length co36 : Value).ownBlock ∧ some k_ ≠ (.slice Ao43 y374.length co43 : Value).ownBlock)) (Kd.R_mv HO_361000.out) hg hat); have n1_ := am (blk_grown (bmv BK358.out) hg (Kd.R_ne HO379.out BK358.out (by decide))); have n2_ := am (blk_grown (bmv BK359.out) hg (Kd.R_ne HO379.out BK359.out (by decide))); have n3_ := am (blk_grown (bmv BK360.out) hg (Kd.R_ne HO379.out BK360.out (by decide))); have n4_ := am (Kd.R_after (ok := (fun k_ => some k_ ≠ (u361000 : Value).ownBlock ∧ some k_ ≠ (.slice Ao43 y374.length co43 : Value).ownBlock)) (Kd.R_mv HO370.out) hg hat); have n5_ := am (Kd.R_after (ok := (fun k_ => some k_ ≠ (u361000 : Value).ownBlock ∧ some k_ ≠ (.slice Ao36 y368.length co36 : Value).ownBlock)) (Kd.R_mv HO376.out) hg hat); have n6_ := am (hb); have n7_ := am (ho); clear HO_361000 BK358 BK359 BK360 HO370 HO376 HB HO379; revert n0_ n1_ n2_ n3_ n4_ n5_ n6_ n7_; intro HO_361000 BK358 BK359 BK360 HO370 HO376 HB HO382; clear ho hb hg hat; obtain ⟨Ao49, co49, eo49⟩ := Kd.R_slice HO382.out; subst eo49; have hcz50_0 : w48.cell? ⟨gb360, 0, none⟩ = some (u361000) := (blk_cell BK360.out 0).trans rfl; have hcz50_1 : w48.cell? ⟨gb360, 1, none⟩ = some (.int .i64 1) := (blk_cell BK360.out 1).trans rfl; have hcz50_2 : w48.cell? ⟨gb360, 2, none⟩ = some (.slice Ao36 y368.length co36) := (blk_cell BK360.out 2).trans rfl; have hcz50_3 : w48.cell? ⟨gb360, 3, none⟩ = some (.slice Ao43 y374.length co43) := (blk_cell BK360.out 3).trans rfl; have hcz50_4 : w48.cell? ⟨gb360, 4, none⟩ = some (.slice none 0 0) := (blk_cell BK360.out 4).trans rfl; have hfz50_0 := blk_frozen BK360.out 0; have hfz50_1 := blk_frozen BK360.out 1; have hfz50_2 := blk_frozen BK360.out 2; have hfz50_3 := blk_frozen BK360.out 3; have hfz50_4 := blk_frozen BK360.out 4; obtain ⟨Ao51, co51, eo51⟩ := Kd.R_slice HO_361000.out; subst eo51; have hcz52_0 : w48.cell? ⟨gb359, 0, none⟩ = some (.slice none 0 0) := (blk_cell BK359.out 0).trans rfl; have hcz52_1 : w48.cell? ⟨gb359, 1, none⟩ = some (.int .i64 0) := (blk_cell BK359.out 1).trans rfl; have hcz52_2 : w48.cell? ⟨gb359, 2, none⟩ = some (.slice none 0 0) := (blk_cell BK359.out 2).trans rfl; have hcz52_3 : w48.cell? ⟨gb359, 3, none⟩ = some (.slice none 0 0) := (blk_cell BK359.out 3).trans rfl; have hcz52_4 : w48.cell? ⟨gb359, 4, none⟩ = some (.slice none 0 0) := (blk_cell BK359.out 4).trans rfl; have hfz52_0 := blk_frozen BK359.out 0; have hfz52_1 := blk_frozen BK359.out 1; have hfz52_2 := blk_frozen BK359.out 2; have hfz52_3 := blk_frozen BK359.out 3; have hfz52_4 := blk_frozen BK359.out 4))
       refine bodyPost_ret (results_cell_row rfl _ _ gb359 30 #[.slice Ao51 x361000_1.length co51, .int .i64 1, .slice Ao36 y368.length co36, .slice Ao43 y374.length co43, .slice Ao49 y380.length co49] (0, 0) _ rfl (by (with_reducible repeat (first | refine blk_drewN ?_ _ | refine blk_drew ?_ | refine blk_alloc ?_ _)); refine blk_put (cs := #[.slice Ao51 x361000_1.length co51, .int .i64 1, .slice Ao36 y368.length co36, .slice Ao43 y374.length co43, .slice none 0 0]) ?_ 4 _ rfl; (with_reducible repeat (first | refine blk_drewN ?_ _ | refine blk_drew ?_ | refine blk_alloc ?_ _)); refine blk_put (cs := #[.slice Ao51 x361000_1.length co51, .int .i64 1, .slice Ao36 y368.length co36, .slice none 0 0, .slice none 0 0]) ?_ 3 _ rfl; (with_reducible repeat (first | refine blk_drewN ?_ _ | refine blk_drew ?_ | refine blk_alloc ?_ _)); refine blk_put (cs := #[.slice Ao51 x361000_1.length co51, .int .i64 1, .slice none 0 0, .slice none 0 0, .slice none 0 0]) ?_ 2 _ rfl; (with_reducible repeat (first | refine blk_drewN ?_ _ | refine blk_drew ?_ | refine blk_alloc ?_ _)); refine blk_put (cs := #[.slice Ao51 x361000_1.length co51, .int .i64 0, .slice none 0 0, .slice none 0 0, .slice none 0 0]) ?_ 1 _ rfl; (with_reducible repeat (first | refine blk_drewN ?_ _ | refine blk_drew ?_ | refine blk_alloc ?_ _)); refine blk_put (cs := #[.slice none 0 0, .int .i64 0, .slice none 0 0, .slice none 0 0, .slice none 0 0]) ?_ 0 _ rfl; (with_reducible repeat (first | refine blk_drewN ?_ _ | refine blk_drew ?_ | refine blk_alloc ?_ _)); refine blk_far ?_ NB359_360.out _; (with_reducible repeat (first | refine blk_drewN ?_ _ | refine blk_drew ?_ | refine blk_alloc ?_ _)); exact BK359.out) Try.underlying30 rfl (by kernel_rfl)) rfl ?_
       exact ⟨_, _, _, _, by first | rfl | (simp [errW_none, errW_some] <;> rfl) | (simp [*, errW_none, errW_some] <;> rfl), by (with_reducible repeat (first | apply Kd.R_alloc | apply Kd.R_drewN | apply Kd.R_drew)); exact Kd.R_mono (Kd.R_far (p := ⟨gb359, 4, none⟩) (Kd.R_far (p := ⟨gb359, 3, none⟩) (Kd.R_far (p := ⟨gb359, 2, none⟩) (Kd.R_far (p := ⟨gb359, 1, none⟩) (Kd.R_far (p := ⟨gb359, 0, none⟩) (Kd.R_far (p := ⟨gb360, 4, none⟩) (Kd.R_types (Kd.R_types HO_361000.out BK360.out (by decide)) BK359.out (by decide)) (fun _ hk => hk.1.2) (.slice Ao49 y380.length co49)) (fun _ hk => hk.2) (.slice Ao51 x361000_1.length co51)) (fun _ hk => hk.2) (.int .i64 1)) (fun _ hk => hk.2) (.slice Ao36 y368.length co36)) (fun _ hk => hk.2) (.slice Ao43 y374.length co43)) (fun _ hk => hk.2) (.slice Ao49 y380.length co49)) (fun _ hk => ⟨hk.1.1.1.1, ⟨hk.1.1.1.2, hk.1.1.2⟩⟩), by (with_reducible repeat (first | apply Kd.R_alloc | apply Kd.R_drewN | apply Kd.R_drew)); exact Kd.R_mono (Kd.R_far (p := ⟨gb359, 4, none⟩) (Kd.R_far (p := ⟨gb359, 3, none⟩) (Kd.R_far (p := ⟨gb359, 2, none⟩) (Kd.R_far (p := ⟨gb359, 1, none⟩) (Kd.R_far (p := ⟨gb359, 0, none⟩) (Kd.R_far (p := ⟨gb360, 4, none⟩) (Kd.R_types (Kd.R_types HO370.out BK360.out (by decide)) BK359.out (by decide)) (fun _ hk => hk.1.2) (.slice Ao49 y380.length co49)) (fun _ hk => hk.2) (.slice Ao51 x361000_1.length co51)) (fun _ hk => hk.2) (.int .i64 1)) (fun _ hk => hk.2) (.slice Ao36 y368.length co36)) (fun _ hk => hk.2) (.slice Ao43 y374.length co43)) (fun _ hk => hk.2) (.slice Ao49 y380.length co49)) (fun _ hk => ⟨hk.1.1.1.1, ⟨hk.1.1.1.2, hk.1.1.2⟩⟩), by (with_reducible repeat (first | apply Kd.R_alloc | apply Kd.R_drewN | apply Kd.R_drew)); exact Kd.R_mono (Kd.R_far (p := ⟨gb359, 4, none⟩) (Kd.R_far (p := ⟨gb359, 3, none⟩) (Kd.R_far (p := ⟨gb359, 2, none⟩) (Kd.R_far (p := ⟨gb359, 1, none⟩) (Kd.R_far (p := ⟨gb359, 0, none⟩) (Kd.R_far (p := ⟨gb360, 4, none⟩) (Kd.R_types (Kd.R_types HO376.out BK360.out (by decide)) BK359.out (by decide)) (fun _ hk => hk.1.2) (.slice Ao49 y380.length co49)) (fun _ hk => hk.2) (.slice Ao51 x361000_1.length co51)) (fun _ hk => hk.2) (.int .i64 1)) (fun _ hk => hk.2) (.slice Ao36 y368.length co36)) (fun _ hk => hk.2) (.slice Ao43 y374.length co43)) (fun _ hk => hk.2) (.slice Ao49 y380.length co49)) (fun _ hk => ⟨hk.1.1.1.1, ⟨hk.1.1.1.2, hk.1.1.2⟩⟩), by (with_reducible repeat (first | apply Kd.R_alloc | apply Kd.R_drewN | apply Kd.R_drew)); exact Kd.R_mono (Kd.R_far (p := ⟨gb359, 4, none⟩) (Kd.R_far (p := ⟨gb359, 3, none⟩) (Kd.R_far (p := ⟨gb359, 2, none⟩) (Kd.R_far (p := ⟨gb359, 1, none⟩) (Kd.R_far (p := ⟨gb359, 0, none⟩) (Kd.R_far (p := ⟨gb360, 4, none⟩) (Kd.R_types (Kd.R_types HO382.out BK360.out (by decide)) BK359.out (by decide)) (fun _ hk => hk.1.2) (.slice Ao49 y380.length co49)) (fun _ hk => hk.2) (.slice Ao51 x361000_1.length co51)) (fun _ hk => hk.2) (.int .i64 1)) (fun _ hk => hk.2) (.slice Ao36 y368.length co36)) (fun _ hk => hk.2) (.slice Ao43 y374.length co43)) (fun _ hk => hk.2) (.slice Ao49 y380.length co49)) (fun _ hk => ⟨hk.1.1.1, ⟨hk.1.1.2.1, hk.1.1.2.2⟩⟩), by repeat (first | (with_reducible first | exact HB.out | apply below_alloc | apply pw_below_drewN | apply below_drew1 | refine below_set ?_ GE358.out | refine below_set ?_ GE359.out | refine below_set ?_ GE360.out) | exact HB.out)⟩
      ·rw [if_neg c28] at H
       exact absurd H (by simp)
     ·rw [if_neg c27] at H
      exact absurd H (by simp)
    ·rw [if_neg c26] at H
     exact absurd H (by simp)
def hypercubelaw2_Set.f (l0_0 : List Int) (a0_1 : Int) (a1 : Int) : Option (Int) := if 0 ≤ (IntKind.u64.wrap ((l0_0.length : Int))) then ((hypercubelaw2_within.f a1 (shl .i64 1 (IntKind.u64.wrap ((l0_0.length : Int))))).bind fun t401 => (some t401)) else (none)
set_option maxHeartbeats 8000000 in
set_option maxRecDepth 100000 in
theorem hypercubelaw2_Set.calls (A0_0 : Option Addr) (c0_0 : Nat) (l0_0 : List Int) (a0_1 : Int) (a1 : Int) (r : Int) (w : World) (hr0_0 : Kd.C (Kd.int .i64) w A0_0 l0_0.length l0_0) (hc0_0 : l0_0.length ≤ c0_0) (h : hypercubelaw2_Set.f l0_0 a0_1 a1 = some r) :
  Calls Try.prog 25 #[.agg #[.slice A0_0 l0_0.length c0_0, .int .i64 a0_1], .int .i64 a1] w fun e w' => e = .returned (.int .i64 r) ∧ Below w.heap.size w w' := by
 have hu35 := Try.underlying35
 have HR0_0 := am hr0_0
 have HC0_0 := am hc0_0
 clear hr0_0 hc0_0
 have HB := am (Below.refl w.heap.size w)
 have H : (if 0 ≤ (IntKind.u64.wrap ((l0_0.length : Int))) then ((hypercubelaw2_within.f a1 (shl .i64 1 (IntKind.u64.wrap ((l0_0.length : Int))))).bind fun t401 => (some t401)) else (none)) = some r := h
 clear h
 obtain ⟨ji3, hji3⟩ : ∃ j_ : Int, (IntKind.u64.wrap ((l0_0.length : Int))) = j_ := ⟨_, rfl⟩
 replace H : (if 0 ≤ (ji3) then ((hypercubelaw2_within.f a1 (shl .i64 1 (ji3))).bind fun t401 => (some t401)) else (none)) = some r := by first | (rw [hji3] at H; exact H) | (simp only [hji3] at H ⊢; exact H)
 by_cases c4 : 0 ≤ (ji3)
 ·rw [if_pos c4] at H
  have c4b0 := eq_true c4
  have c4b1 : decide (0 ≤ (ji3)) = true := decide_eq_true c4
  clear c4
  obtain ⟨ji5, hji5⟩ : ∃ j_ : Int, (shl .i64 1 (ji3)) = j_ := ⟨_, rfl⟩
  replace H : ((hypercubelaw2_within.f a1 (ji5)).bind fun t401 => (some t401)) = some r := by first | (rw [hji5] at H; exact H) | (simp only [hji5] at H ⊢; exact H)
  have hji5_ : (IntKind.i64.wrap (1 * 2 ^ min (ji3).toNat 64)) = ji5 := hji5
  have hji5z : (ji3) ≤ 64 → (IntKind.i64.wrap (1 * 2 ^ (ji3).toNat)) = ji5 := shl_small hji5
  have hji5u : (IntKind.i64.wrap (2 ^ min (ji3).toNat 64)) = ji5 := by have h_ := hji5_; rw [Int.one_mul] at h_; exact h_
  have hji5v : (ji3) ≤ 64 → (IntKind.i64.wrap (2 ^ (ji3).toNat)) = ji5 := fun hle_ => by have h_ := hji5z hle_; rw [Int.one_mul] at h_; exact h_
  have hji5y : (wrap64 (1 * 2 ^ min (ji3).toNat 64)) = ji5 := (i64_w _).symm.trans hji5_
  have hji5x : (ji3) ≤ 64 → (wrap64 (1 * 2 ^ (ji3).toNat)) = ji5 := fun h_ => (i64_w _).symm.trans (hji5z h_)
  replace H := Option.bind_eq_some_iff.mp H
  obtain ⟨t401, A60, H⟩ := H
  replace H : (some t401) = some r := H
  have A6 := am A60
  clear A60
  obtain rfl := Option.some.inj H
  go_enter Try.func25, Try.ntmps25
  go_wp2_with (first | ((with_reducible refine gate_dst (N := 2) rfl ?_); refine box_event ?hg (N := 2) ?hd (cs := #[.slice A0_0 l0_0.length c0_0, .int .i64 a0_1]) (t := 35) ?hr ?_; (case hd => rfl); (case hg => rfl); (case hr => first | (go_simp; done) | (go_simp; rfl)); intro gb400 hg w7 hbox hb; have n0_ := am (below_step (wmv HB.out) hb); have n1_ := am (hbox); have n2_ := am ((by rw [hg]; exact (below_size (wmv HB.out)) : w.heap.size ≤ gb400)); have n3_ := am ((by rw [hg]; exact (below_size (wmv HB.out)) : w.heap.size ≤ gb400)); clear HB; revert n0_ n1_ n2_ n3_; intro HB BK400 GW400 GE400; clear hb hbox hg; have hcz8_0 : w7.cell? ⟨gb400, 0, none⟩ = some (.slice A0_0 l0_0.length c0_0) := (blk_cell BK400.out 0).trans rfl; have hcz8_1 : w7.cell? ⟨gb400, 1, none⟩ = some (.int .i64 a0_1) := (blk_cell BK400.out 1).trans rfl; have hfz8_0 := blk_frozen BK400.out 0; have hfz8_1 := blk_frozen BK400.out 1) | ((with_reducible refine gate_callee (f := 20) rfl ?_); refine goesL_ (some 11) rfl rfl Try.func20 (by kernel_rfl) rfl #[.int .i64 a1, .int .i64 ji5] rfl (by (try simp only [List.map_toArray, List.map_cons, List.map_nil]); first | done | (simp only [hji5]; rfl) | rfl | (simp only [List.length_drop, List.length_take]; rfl)) ?_; (with_reducible refine (hypercubelaw2_within.calls a1 ji5 t401 _ A6.out).mono ?_); rintro e w' ⟨rfl, ⟨nd, rfl⟩⟩; refine ⟨_, rfl, ?_⟩))
  go_ret
  exact ⟨by first | rfl | (simp [errW_none, errW_some] <;> rfl) | (simp only [← hji3, ← hji5]; first | rfl | (simp [errW_none, errW_some] <;> rfl)) | (simp [*, errW_none, errW_some] <;> rfl), by repeat (first | (with_reducible first | exact HB.out | apply below_alloc | apply pw_below_drewN | apply below_drew1 | refine below_set ?_ GE400.out) | exact HB.out)⟩
 ·rw [if_neg c4] at H
  exact absurd H (by simp)
def hypercuberef2_Facts.l0 : Nat → List (S45) → Int → List (S30) → Int → Option ((List (S30)))
 | 0, _, _, _, _ => none
 | k + 1, x0, x1, x5, x6 => if x6 < (x0.length : Int) then (if 0 ≤ x6 then ((hypercuberef2_Of.f k ((rd_T45 x0 x6).f0) ((rd_T45 x0 x6).f1) x1).bind fun bt691 => ((hypercuberef2_Put.f k x5 bt691.1 bt691.2.1 bt691.2.2.1 bt691.2.2.2.1 bt691.2.2.2.2).bind fun t704 => (hypercuberef2_Facts.l0 k x0 x1 t704 (wrap64 (x6 + 1))))) else (none)) else (some x5)
def hypercuberef2_Facts.f (k : Nat) (l0 : List (S45)) (a1 : Int) : Option ((List (S30))) := hypercuberef2_Facts.l0 k l0 a1 ([] : List (S30)) 0
set_option maxHeartbeats 8000000 in
set_option maxRecDepth 100000 in
theorem hypercuberef2_Facts.calls (k : Nat) (A0 : Option Addr) (c0 : Nat) (l0 : List (S45)) (a1 : Int) (r : List (S30)) (w : World) (hr0 : Kd.C k45 w A0 l0.length l0) (hc0 : l0.length ≤ c0) (h : hypercuberef2_Facts.f k l0 a1 = some r) :
  Calls Try.prog 29 #[.slice A0 l0.length c0, .int .i64 a1] w fun e w' => ∃ v0_ : Value, e = .returned (v0_) ∧ Kd.N k30 30 w' w.heap.size (fun k_ => (w.heap.size ≤ k_)) v0_ r ∧ Below w.heap.size w w' := by
 have hu45 := Try.underlying45
 have HR0 := am hr0
 have HC0 := am hc0
 clear hr0 hc0
 have HB := am (Below.refl w.heap.size w)
 have H : (hypercuberef2_Facts.l0 k l0 a1 ([] : List (S30)) 0) = some r := h
 clear h
 have H' := am H
 clear H
 go_enter Try.func29, Try.ntmps29
 go_wp2
 go_loopg [5, 6] k (fun kq v5 v6 w' => ∃ (x5_1 : List (S30)) (x6_1 : Int), v6 = .int .i64 x6_1 ∧ Aside0 (hypercuberef2_Facts.l0 kq l0 a1 x5_1 x6_1 = some r) ∧ Aside0 (kq ≤ k) ∧ Aside0 (Kd.N k30 30 w' w.heap.size (fun k_ => (w.heap.size ≤ k_)) v5 x5_1) ∧ Aside0 (Below w.heap.size w w'))
 case atStart => exact ⟨(([] : List (S30))), (0), (by first | rfl | (simp; done) | (simp [*]; done)), H', ⟨Nat.le_refl _⟩, ⟨by first | exact Kd.S_nil _ _ _ _ _ | exact Kd.N_nil _ _ _ _ _ | exact Kd.V_nil _ _ _ _ _ | exact Kd.Q_nil _ _ _ _ _ | exact Kd.R_nil _ _ _ _ _⟩, ⟨by repeat (first | (with_reducible first | exact HB.out | apply below_alloc | apply pw_below_drewN | apply below_drew1) | exact HB.out)⟩⟩
 case round =>
  clear H'
  try clear c2
  try clear p2
  obtain ⟨x5_1, x6_1, rfl, HA, HK1, HO_5, HB⟩ := hrel
  cases gk with
  | zero => exact absurd HA.out (by simp [hypercuberef2_Facts.l0])
  | succ k1 =>
   have H := HA.out
   clear HA
   simp only [hypercuberef2_Facts.l0] at H
   by_cases c3 : x6_1 < (l0.length : Int)
   ·rw [if_pos c3] at H
    have c3b0 : decide (x6_1 < (l0.length : Int)) = true := decide_eq_true c3
    clear c3
    by_cases c4 : 0 ≤ x6_1
    ·rw [if_pos c4] at H
     have c4b0 : decide (0 ≤ x6_1) = true := decide_eq_true c4
     clear c4
     replace H := Option.bind_eq_some_iff.mp H
     obtain ⟨⟨t691, t694, t695, t698, t701⟩, A50, H⟩ := H
     replace H : ((hypercuberef2_Put.f k1 x5_1 t691 t694 t695 t698 t701).bind fun t704 => (hypercuberef2_Facts.l0 k1 l0 a1 t704 (wrap64 (x6_1 + 1)))) = some r := H
     have A5 := am A50
     clear A50
     replace H := Option.bind_eq_some_iff.mp H
     obtain ⟨t704, A60, H⟩ := H
     replace H : (hypercuberef2_Facts.l0 k1 l0 a1 t704 (wrap64 (x6_1 + 1))) = some r := H
     have A6 := am A60
     clear A60
     have H' := am H
     clear H
     have p690 : 0 ≤ (x6_1 : Int) := of_decide_eq_true (by first | (with_reducible assumption) | assumption)
     have q690 : x6_1 < (l0.length : Int) := of_decide_eq_true (by first | (with_reducible assumption) | assumption)
     obtain ⟨ad690, A690_0, c690_0, A690_1, c690_1, e690, hx690_0, hx690_1, hl690_0, hi690_0, hl690_1, hi690_1⟩ := at_T45 HR0.out x6_1 p690 q690
     cases e690
     replace hx690_0 := (HB.out.cell (World.block_lt_of_cell? w _ hx690_0)).trans hx690_0
     replace hx690_1 := (HB.out.cell (World.block_lt_of_cell? w _ hx690_1)).trans hx690_1
     have HR690_0 := am hi690_0
     have HC690_0 := am hl690_0
     clear hi690_0 hl690_0
     have HR690_1 := am hi690_1
     have HC690_1 := am hl690_1
     clear hi690_1 hl690_1
     replace p690 := eq_true p690
     replace q690 := eq_true q690
     go_wp2_with (first | ((with_reducible refine gate_callee (f := 30) rfl ?_); refine goesL_ (some 19) rfl rfl Try.func30 (by kernel_rfl) rfl #[.agg #[.slice A690_0 ((rd_T45 l0 x6_1).f0).length c690_0, .slice A690_1 ((rd_T45 l0 x6_1).f1).length c690_1], .int .i64 a1] rfl (by (try simp only [List.map_toArray, List.map_cons, List.map_nil]); first | done | rfl | (simp only [List.length_drop, List.length_take]; rfl)) ?_; (with_reducible refine (hypercuberef2_Of.calls k1 _ _ ((rd_T45 l0 x6_1).f0) _ _ ((rd_T45 l0 x6_1).f1) a1 t691 t694 t695 t698 t701 _ ?side1 ?side2 ?side3 ?side4 A5.out).mono ?_); (case side1 => repeat (first | exact (Kd.C_below HR690_0.out HB.out) | (with_reducible refine Kd.C_alloc ?_ _) | (with_reducible refine Kd.C_drewN ?_ _) | (with_reducible refine Kd.C_drew ?_))); (case side2 => exact HC690_0.out); (case side3 => repeat (first | exact (Kd.C_below HR690_1.out HB.out) | (with_reducible refine Kd.C_alloc ?_ _) | (with_reducible refine Kd.C_drewN ?_ _) | (with_reducible refine Kd.C_drew ?_))); (case side4 => exact HC690_1.out); rintro e w7 ⟨v692, v696, v699, v702, rfl, ho0, ho1, ho2, ho3, hb⟩; refine ⟨_, rfl, ?_⟩; have n0_ := am (Kd.N_mono (Kd.N_told (Kd.N_told (Kd.N_told (Kd.N_told (Kd.N_old (by (with_reducible repeat (first | apply Kd.N_alloc | apply Kd.N_drewN | apply Kd.N_drew)); exact HO_5.out) hb) (Kd.R_base ho0)) (Kd.R_base ho1)) (Kd.R_base ho2)) (Kd.R_base ho3)) (fun _ h_ => h_.1)); have n1_ := am (Kd.R_lower (Kd.R_newM (M := fun k_ => (w.heap.size ≤ k_)) ho0 (below_size (by repeat (first | (with_reducible first | exact HB.out | apply below_alloc | apply pw_below_drewN | apply below_drew1) | exact HB.out))) (fun k_ h_ => h_)) (below_size (by repeat (first | (with_reducible first | exact HB.out | apply below_alloc | apply pw_below_drewN | apply below_drew1) | exact HB.out)))); have n2_ := am (Kd.R_lower (Kd.R_newM (M := fun k_ => (w.heap.size ≤ k_)) ho1 (below_size (by repeat (first | (with_reducible first | exact HB.out | apply below_alloc | apply pw_below_drewN | apply below_drew1) | exact HB.out))) (fun k_ h_ => h_)) (below_size (by repeat (first | (with_reducible first | exact HB.out | apply below_alloc | apply pw_below_drewN | apply below_drew1) | exact HB.out)))); have n3_ := am (Kd.R_lower (Kd.R_newM (M := fun k_ => (w.heap.size ≤ k_)) ho2 (below_size (by repeat (first | (with_reducible first | exact HB.out | apply below_alloc | apply pw_below_drewN | apply below_drew1) | exact HB.out))) (fun k_ h_ => h_)) (below_size (by repeat (first | (with_reducible first | exact HB.out | apply below_alloc | apply pw_below_drewN | apply below_drew1) | exact HB.out)))); have n4_ := am (Kd.R_lower (Kd.R_newM (M := fun k_ => (w.heap.size ≤ k_)) ho3 (below_size (by repeat (first | (with_reducible first | exact HB.out | apply below_alloc | apply pw_below_drewN | apply below_drew1) | exact HB.out))) (fun k_ h_ => h_)) (below_size (by repeat (first | (with_reducible first | exact HB.out | apply below_alloc | apply pw_below_drewN | apply below_drew1) | exact HB.out)))); have n5_ := am (below_step (by repeat (first | (with_reducible first | exact HB.out | apply below_alloc | apply pw_below_drewN | apply below_drew1) | exact HB.out)) hb); clear HO_5; clear HB; have HO_5 := n0_; have HO693 := n1_; have HO697 := n2_; have HO700 := n3_; have HO703 := n4_; have HB := n5_; clear n0_ n1_ n2_ n3_ n4_ n5_; (try clear hb); (try clear hb2); (try clear hk); (try clear hi); (try clear ho0); (try clear ho1); (try clear ho2); (try clear ho3); obtain ⟨Ao8, co8, eo8⟩ := Kd.N_slice HO_5.out; subst eo8; obtain ⟨Ao9, co9, eo9⟩ := Kd.R_slice HO693.out; subst eo9; obtain ⟨Ao10, co10, eo10⟩ := Kd.R_slice HO697.out; subst eo10; obtain ⟨Ao11, co11, eo11⟩ := Kd.R_slice HO700.out; subst eo11; obtain ⟨Ao12, co12, eo12⟩ := Kd.R_slice HO703.out; subst eo12) | ((with_reducible refine gate_callee (f := 51) rfl ?_); refine goesL_ (some 20) rfl rfl Try.func51 (by kernel_rfl) rfl #[.slice Ao8 x5_1.length co8, .agg #[.slice Ao9 t691.length co9, .int .i64 t694, .slice Ao10 t695.length co10, .slice Ao11 t698.length co11, .slice Ao12 t701.length co12]] rfl (by (try simp only [List.map_toArray, List.map_cons, List.map_nil]); first | done | rfl | (simp only [List.length_drop, List.length_take]; rfl)) ?_; (with_reducible refine (hypercuberef2_Put.calls k1 (fun k_ => (((((w.heap.size ≤ k_) ∧ some k_ ≠ (.slice Ao9 t691.length co9 : Value).ownBlock) ∧ some k_ ≠ (.slice Ao10 t695.length co10 : Value).ownBlock) ∧ some k_ ≠ (.slice Ao11 t698.length co11 : Value).ownBlock) ∧ some k_ ≠ (.slice Ao12 t701.length co12 : Value).ownBlock)) _ _ x5_1 _ _ t691 t694 _ _ t695 _ _ t698 _ _ t701 t704 _ ?side1 ?side2 ?side3 ?side4 ?side5 ?side6 ?side7 ?side8 ?side9 A6.out).mono ?_); (case side1 => exact Kd.N_V (HO_5.out)); (case side2 => repeat (first | exact (Kd.R_reads' HO693.out).2.2 | (with_reducible refine Kd.C_alloc ?_ _) | (with_reducible refine Kd.C_drewN ?_ _) | (with_reducible refine Kd.C_drew ?_))); (case side3 => exact (Kd.R_reads' HO693.out).2.1); (case side4 => repeat (first | exact (Kd.R_reads' HO697.out).2.2 | (with_reducible refine Kd.C_alloc ?_ _) | (with_reducible refine Kd.C_drewN ?_ _) | (with_reducible refine Kd.C_drew ?_))); (case side5 => exact (Kd.R_reads' HO697.out).2.1); (case side6 => repeat (first | exact (Kd.R_reads' HO700.out).2.2 | (with_reducible refine Kd.C_alloc ?_ _) | (with_reducible refine Kd.C_drewN ?_ _) | (with_reducible refine Kd.C_drew ?_))); (case side7 => exact (Kd.R_reads' HO700.out).2.1); (case side8 => repeat (first | exact (Kd.R_reads' HO703.out).2.2 | (with_reducible refine Kd.C_alloc ?_ _) | (with_reducible refine Kd.C_drewN ?_ _) | (with_reducible refine Kd.C_drew ?_))); (case side9 => exact (Kd.R_reads' HO703.out).2.1); rintro e w13 ⟨v705, rfl, ho0, hb⟩; refine ⟨_, rfl, ?_⟩; have n0_ := am (Kd.N_elder' (by (with_reducible repeat (first | apply Kd.N_alloc | apply Kd.N_drewN | apply Kd.N_drew)); exact HO_5.out) (by first | exact Kd.N_base ho0 | exact Kd.S_base ho0 | exact Kd.R_base ho0) hb); have n1_ := am (Kd.R_below (by (with_reducible repeat (first | apply Kd.R_alloc | apply Kd.R_drewN | apply Kd.R_drew)); exact HO693.out) hb); have n2_ := am (Kd.R_below (by (with_reducible repeat (first | apply Kd.R_alloc | apply Kd.R_drewN | apply Kd.R_drew)); exact HO697.out) hb); have n3_ := am (Kd.R_below (by (with_reducible repeat (first | apply Kd.R_alloc | apply Kd.R_drewN | apply Kd.R_drew)); exact HO700.out) hb); have n4_ := am (Kd.R_below (by (with_reducible repeat (first | apply Kd.R_alloc | apply Kd.R_drewN | apply Kd.R_drew)); exact HO703.out) hb); have n5_ := am (Kd.N_lower (Kd.N_mono (ok' := fun k_ => (w.heap.size ≤ k_) ∧ some k_ ≠ (.slice Ao9 t691.length co9 : Value).ownBlock ∧ some k_ ≠ (.slice Ao10 t695.length co10 : Value).ownBlock ∧ some k_ ≠ (.slice Ao11 t698.length co11 : Value).ownBlock ∧ some k_ ≠ (.slice Ao12 t701.length co12 : Value).ownBlock) ho0 (fun k_ hk_ => ⟨Or.elim hk_ (fun hs_ => hs_.1.1.1.1) (fun hn_ => (Nat.le_trans (below_size (by repeat (first | (with_reducible first | exact HB.out | apply below_alloc | apply pw_below_drewN | apply below_drew1) | exact HB.out))) hn_)), Or.elim hk_ (fun hs_ => hs_.1.1.1.2) (fun hn_ => (Kd.fresh' (Kd.R_lt (by (with_reducible repeat (first | apply Kd.R_alloc | apply Kd.R_drewN | apply Kd.R_drew)); exact HO693.out)) k_ hn_)), Or.elim hk_ (fun hs_ => hs_.1.1.2) (fun hn_ => (Kd.fresh' (Kd.R_lt (by (with_reducible repeat (first | apply Kd.R_alloc | apply Kd.R_drewN | apply Kd.R_drew)); exact HO697.out)) k_ hn_)), Or.elim hk_ (fun hs_ => hs_.1.2) (fun hn_ => (Kd.fresh' (Kd.R_lt (by (with_reducible repeat (first | apply Kd.R_alloc | apply Kd.R_drewN | apply Kd.R_drew)); exact HO700.out)) k_ hn_)), Or.elim hk_ (fun hs_ => hs_.2) (fun hn_ => (Kd.fresh' (Kd.R_lt (by (with_reducible repeat (first | apply Kd.R_alloc | apply Kd.R_drewN | apply Kd.R_drew)); exact HO703.out)) k_ hn_))⟩)) (below_size (by repeat (first | (with_reducible first | exact HB.out | apply below_alloc | apply pw_below_drewN | apply below_drew1) | exact HB.out)))); have n6_ := am (below_step (by repeat (first | (with_reducible first | exact HB.out | apply below_alloc | apply pw_below_drewN | apply below_drew1) | exact HB.out)) hb); clear HO_5; clear HO693; clear HO697; clear HO700; clear HO703; clear HB; have HO_5 := n0_; have HO693 := n1_; have HO697 := n2_; have HO700 := n3_; have HO703 := n4_; have HO706 := n5_; have HB := n6_; clear n0_ n1_ n2_ n3_ n4_ n5_ n6_; (try clear hb); (try clear hb2); (try clear hk); (try clear hi); (try clear ho0)))
     go_roundg k1
     case measure => have := HK1.out; omega
     case rel => exact ⟨(t704), (wrap64 (x6_1 + 1)), (by first | rfl | (simp; done) | (simp [*]; done)), H', ⟨by have := HK1.out; omega⟩, ⟨by (with_reducible repeat (first | apply Kd.N_alloc | apply Kd.N_drewN | apply Kd.N_drew)); exact Kd.N_mono HO706.out (fun _ hk => hk.1)⟩, ⟨by repeat (first | (with_reducible first | exact HB.out | apply below_alloc | apply pw_below_drewN | apply below_drew1) | exact HB.out)⟩⟩
    ·rw [if_neg c4] at H
     exact absurd H (by simp)
   ·rw [if_neg c3] at H
    have c3b0 : decide (x6_1 < (l0.length : Int)) = false := decide_eq_false c3
    clear c3
    obtain rfl := Option.some.inj H
    go_wp2
    go_ret
    exact ⟨_, by first | rfl | (simp [errW_none, errW_some] <;> rfl) | (simp [*, errW_none, errW_some] <;> rfl), by (with_reducible repeat (first | apply Kd.N_alloc | apply Kd.N_drewN | apply Kd.N_drew)); exact HO_5.out, by repeat (first | (with_reducible first | exact HB.out | apply below_alloc | apply pw_below_drewN | apply below_drew1) | exact HB.out)⟩
end Go.Proofs.Ytmkjkkmilopcpaa.Q
namespace Go.Proofs.Ytmkjkkmilopcpaa.Q
open Go.RowKit Go.Proofs.YtmkjkkmilopcpaaW.PrintWords Go.Proofs.YtmkjkkmilopcpaaW.PrintLast Go.Proofs.YtmkjkkmilopcpaaW.PrintMore
set_option linter.unusedVariables false
set_option linter.unusedSimpArgs false
theorem cell_Narrow.callsV {v : CV} {x r : S30} (a b : Int) (w : World) (h : v.rd x w) (hf : cell_Narrow.f x.f0 x.f1 x.f2 x.f3 x.f4 a b = some (r.f0, r.f1, r.f2, r.f3, r.f4)) :
  Calls Try.prog 31 #[v.val x, .int .i64 a, .int .i64 b] w fun e w' => ∃ u : CV, e = .returned (u.val r) ∧ u.ok r w' (fun k_ => w.heap.size ≤ k_) ∧ Below w.heap.size w w' := by
 refine (cell_Narrow.calls v.A0 v.c0 x.f0 x.f1 v.A2 v.c2 x.f2 v.A3 v.c3 x.f3 v.A4 v.c4 x.f4 a b r.f0 r.f1 r.f2 r.f3 r.f4 w h.r0 h.l0 h.r2 h.l2 h.r3 h.l3 h.r4 h.l4 hf).mono ?_
 rintro e w' ⟨v0, v2, v3, v4, rfl, g0, g2, g3, g4, hb⟩
 obtain ⟨u, hu, ho⟩ := CV.told g0 g2 g3 g4
 exact ⟨u, by rw [hu], ho, hb⟩
theorem hypercuberef2_Narrow.callsV (k : Nat) {v : CV} {x r : S30} (a b : Int) (w : World) (h : v.rd x w) (hf : hypercuberef2_Narrow.f k x.f0 x.f1 x.f2 x.f3 x.f4 a b = some (r.f0, r.f1, r.f2, r.f3, r.f4)) :
  Calls Try.prog 32 #[v.val x, .int .i64 a, .int .i64 b] w fun e w' => ∃ u : CV, e = .returned (u.val r) ∧ u.ok r w' (fun k_ => w.heap.size ≤ k_) ∧ Below w.heap.size w w' := by
 refine (hypercuberef2_Narrow.calls k v.A0 v.c0 x.f0 x.f1 v.A2 v.c2 x.f2 v.A3 v.c3 x.f3 v.A4 v.c4 x.f4 a b r.f0 r.f1 r.f2 r.f3 r.f4 w h.r0 h.l0 h.r2 h.l2 h.r3 h.l3 h.r4 h.l4 hf).mono ?_
 rintro e w' ⟨v0, v2, v3, v4, rfl, g0, g2, g3, g4, hb⟩
 obtain ⟨u, hu, ho⟩ := CV.told g0 g2 g3 g4
 exact ⟨u, by rw [hu], ho, hb⟩
theorem cell_Join.callsV (k : Nat) {v v' : CV} {x y r : S30} (w : World) (h : v.rd x w) (h' : v'.rd y w) (hf : cell_Join.f k x.f0 x.f1 x.f2 x.f3 x.f4 y.f0 y.f1 y.f2 y.f3 y.f4 = some (r.f0, r.f1, r.f2, r.f3, r.f4)) :
  Calls Try.prog 21 #[v.val x, v'.val y] w fun e w' => ∃ u : CV, e = .returned (u.val r) ∧ u.ok r w' (fun k_ => w.heap.size ≤ k_) ∧ Below w.heap.size w w' := by
 refine (cell_Join.calls k v.A0 v.c0 x.f0 x.f1 v.A2 v.c2 x.f2 v.A3 v.c3 x.f3 v.A4 v.c4 x.f4 v'.A0 v'.c0 y.f0 y.f1 v'.A2 v'.c2 y.f2 v'.A3 v'.c3 y.f3 v'.A4 v'.c4 y.f4 r.f0 r.f1 r.f2 r.f3 r.f4 w h.r0 h.l0 h.r2 h.l2 h.r3 h.l3 h.r4 h.l4 h'.r0 h'.l0 h'.r2 h'.l2 h'.r3 h'.l3 h'.r4 h'.l4 hf).mono ?_
 rintro e w' ⟨v0, v2, v3, v4, rfl, g0, g2, g3, g4, hb⟩
 obtain ⟨u, hu, ho⟩ := CV.told g0 g2 g3 g4
 exact ⟨u, by rw [hu], ho, hb⟩
theorem hypercuberef2_Join.callsV (k : Nat) {v v' : CV} {x y r : S30} (w : World) (h : v.rd x w) (h' : v'.rd y w) (hf : hypercuberef2_Join.f k x.f0 x.f1 x.f2 x.f3 x.f4 y.f0 y.f1 y.f2 y.f3 y.f4 = some (r.f0, r.f1, r.f2, r.f3, r.f4)) :
  Calls Try.prog 33 #[v.val x, v'.val y] w fun e w' => ∃ u : CV, e = .returned (u.val r) ∧ u.ok r w' (fun k_ => w.heap.size ≤ k_) ∧ Below w.heap.size w w' := by
 refine (hypercuberef2_Join.calls k v.A0 v.c0 x.f0 x.f1 v.A2 v.c2 x.f2 v.A3 v.c3 x.f3 v.A4 v.c4 x.f4 v'.A0 v'.c0 y.f0 y.f1 v'.A2 v'.c2 y.f2 v'.A3 v'.c3 y.f3 v'.A4 v'.c4 y.f4 r.f0 r.f1 r.f2 r.f3 r.f4 w h.r0 h.l0 h.r2 h.l2 h.r3 h.l3 h.r4 h.l4 h'.r0 h'.l0 h'.r2 h'.l2 h'.r3 h'.l3 h'.r4 h'.l4 hf).mono ?_
 rintro e w' ⟨v0, v2, v3, v4, rfl, g0, g2, g3, g4, hb⟩
 obtain ⟨u, hu, ho⟩ := CV.told g0 g2 g3 g4
 exact ⟨u, by rw [hu], ho, hb⟩
theorem cell_Of.callsV {B0 B1 : Option Addr} {d0 d1 : Nat} {y : S45} {r : S30} (s : Int) (w : World) (r0 : Kd.C (Kd.int .i64) w B0 y.f0.length y.f0) (l0 : y.f0.length ≤ d0) (r1 : Kd.C (Kd.int .i64) w B1 y.f1.length y.f1) (l1 : y.f1.length ≤ d1) (hf : cell_Of.f y.f0 y.f1 s = some (r.f0, r.f1, r.f2, r.f3, r.f4)) :
  Calls Try.prog 28 #[.agg #[.slice B0 y.f0.length d0, .slice B1 y.f1.length d1], .int .i64 s] w fun e w' => ∃ u : CV, e = .returned (u.val r) ∧ u.ok r w' (fun k_ => w.heap.size ≤ k_) ∧ Below w.heap.size w w' := by
 refine (cell_Of.calls B0 d0 y.f0 B1 d1 y.f1 s r.f0 r.f1 r.f2 r.f3 r.f4 w r0 l0 r1 l1 hf).mono ?_
 rintro e w' ⟨v0, v2, v3, v4, rfl, g0, g2, g3, g4, hb⟩
 obtain ⟨u, hu, ho⟩ := CV.told g0 g2 g3 g4
 exact ⟨u, by rw [hu], ho, hb⟩
theorem hypercuberef2_Of.callsV (k : Nat) {B0 B1 : Option Addr} {d0 d1 : Nat} {y : S45} {r : S30} (s : Int) (w : World) (r0 : Kd.C (Kd.int .i64) w B0 y.f0.length y.f0) (l0 : y.f0.length ≤ d0) (r1 : Kd.C (Kd.int .i64) w B1 y.f1.length y.f1) (l1 : y.f1.length ≤ d1) (hf : hypercuberef2_Of.f k y.f0 y.f1 s = some (r.f0, r.f1, r.f2, r.f3, r.f4)) :
  Calls Try.prog 30 #[.agg #[.slice B0 y.f0.length d0, .slice B1 y.f1.length d1], .int .i64 s] w fun e w' => ∃ u : CV, e = .returned (u.val r) ∧ u.ok r w' (fun k_ => w.heap.size ≤ k_) ∧ Below w.heap.size w w' := by
 refine (hypercuberef2_Of.calls k B0 d0 y.f0 B1 d1 y.f1 s r.f0 r.f1 r.f2 r.f3 r.f4 w r0 l0 r1 l1 hf).mono ?_
 rintro e w' ⟨v0, v2, v3, v4, rfl, g0, g2, g3, g4, hb⟩
 obtain ⟨u, hu, ho⟩ := CV.told g0 g2 g3 g4
 exact ⟨u, by rw [hu], ho, hb⟩
theorem hypercuberef2_Equal.callsV (k : Nat) {v v' : CV} {x y : S30} {b : Bool} (w : World) (h : v.rd x w) (h' : v'.rd y w) (hf : hypercuberef2_Equal.f k x.f0 x.f1 x.f2 x.f3 x.f4 y.f0 y.f1 y.f2 y.f3 y.f4 = some b) :
  Calls Try.prog 22 #[v.val x, v'.val y] w fun e w' => e = .returned (.bool b) ∧ Below w.heap.size w w' := hypercuberef2_Equal.calls k v.A0 v.c0 x.f0 x.f1 v.A2 v.c2 x.f2 v.A3 v.c3 x.f3 v.A4 v.c4 x.f4 v'.A0 v'.c0 y.f0 y.f1 v'.A2 v'.c2 y.f2 v'.A3 v'.c3 y.f3 v'.A4 v'.c4 y.f4 b w h.r0 h.l0 h.r2 h.l2 h.r3 h.l3 h.r4 h.l4 h'.r0 h'.l0 h'.r2 h'.l2 h'.r3 h'.l3 h'.r4 h'.l4 hf
instance : Inhabited CV := ⟨⟨none, 0, none, 0, none, 0, none, 0⟩⟩
def AllAt (k : Nat) (y : S45) (z : S30) (s b : Int) : Prop := ∃ x n j : S30, cell_Of.f y.f0 y.f1 s = some (x.f0, x.f1, x.f2, x.f3, x.f4) ∧ hypercuberef2_Of.f k y.f0 y.f1 s = some (z.f0, z.f1, z.f2, z.f3, z.f4) ∧ hypercuberef2_Equal.f k x.f0 x.f1 x.f2 x.f3 x.f4 z.f0 z.f1 z.f2 z.f3 z.f4 = some true ∧ cell_Narrow.f z.f0 z.f1 z.f2 z.f3 z.f4 s b = some (n.f0, n.f1, n.f2, n.f3, n.f4) ∧ hypercuberef2_Narrow.f k z.f0 z.f1 z.f2 z.f3 z.f4 s b = some (n.f0, n.f1, n.f2, n.f3, n.f4) ∧ hypercuberef2_Equal.f k n.f0 n.f1 n.f2 n.f3 n.f4 n.f0 n.f1 n.f2 n.f3 n.f4 = some true ∧ cell_Join.f k x.f0 x.f1 x.f2 x.f3 x.f4 x.f0 x.f1 x.f2 x.f3 x.f4 = some (j.f0, j.f1, j.f2, j.f3, j.f4) ∧ hypercuberef2_Join.f k z.f0 z.f1 z.f2 z.f3 z.f4 z.f0 z.f1 z.f2 z.f3 z.f4 = some (j.f0, j.f1, j.f2, j.f3, j.f4) ∧ hypercuberef2_Equal.f k j.f0 j.f1 j.f2 j.f3 j.f4 j.f0 j.f1 j.f2 j.f3 j.f4 = some true
def hypercubelaw2_CellAll.T10 : Bool × List (List Nat × List Nat) := (true, [([], []), ([], []), ([0, 1], [0, 1]), ([2], [2]), ([], []), ([3, 4], [3, 4]), ([], []), ([], []), ([6, 7], [6, 7]), ([8], [8]), ([], []), ([9, 10, 5], [9, 10]), ([], []), ([], []), ([12, 5, 11, 0, 1, 2, 3, 4, 5, 12, 13], [5, 12]), ([13, 11, 14, 0, 1, 2, 3, 4, 5, 6, 7, 8, 9, 10, 11, 12, 13, 14], [11, 13])])
def hypercubelaw2_CellAll.B10 : List Nat := [0, 0, 3, 7, 0, 31, 0, 0, 192, 448, 0, 2047, 0, 0, 16383, 32767]
theorem hypercubelaw2_CellAll.tab10 : rtab .any (opsOf Try.f11 10) = hypercubelaw2_CellAll.T10 := by kernel_rfl
theorem hypercubelaw2_CellAll.bits10 : waitsOk hypercubelaw2_CellAll.T10.2 hypercubelaw2_CellAll.B10 = true := by kernel_rfl
def hypercubelaw2_CellAll.T11 : Bool × List (List Nat × List Nat) := (true, [([], []), ([], []), ([0, 1], [0, 1]), ([2], [2]), ([3, 2], [3]), ([4], [4]), ([4], [4]), ([4], [4]), ([5, 6, 7, 4, 4], [4, 5, 6, 7]), ([4], [4]), ([4], [4]), ([4], [4]), ([9, 10, 11, 8, 4], [4, 9, 10, 11]), ([8, 12, 12, 4], [4, 8, 12]), ([13, 4], [4, 13]), ([4, 14], [4, 14]), ([15, 13], [15]), ([16], [16]), ([16], [16]), ([17, 18, 16, 16], [16, 17, 18]), ([16], [16]), ([16], [16]), ([20, 21, 19, 16], [16, 20, 21]), ([19, 22, 22, 16], [16, 19, 22]), ([23, 16], [16, 23]), ([16, 24], [16, 24])])
def hypercubelaw2_CellAll.B11 : List Nat := [0, 0, 3, 7, 15, 31, 31, 31, 255, 31, 31, 31, 4095, 8191, 16383, 32767, 65535, 131071, 131071, 524287, 131071, 131071, 4194303, 8388607, 16777215, 33554431]
theorem hypercubelaw2_CellAll.tab11 : rtab .any (opsOf Try.f11 11) = hypercubelaw2_CellAll.T11 := by kernel_rfl
theorem hypercubelaw2_CellAll.bits11 : waitsOk hypercubelaw2_CellAll.T11.2 hypercubelaw2_CellAll.B11 = true := by kernel_rfl
def hypercubelaw2_CellAll.Pure : Prop := ∀ (a0 : Int) (l1 : List Int) (a2 : Int) (l3 : List Int) (a4 : Int) (a5 : Int), (Lit.int .i64 a0).wf = true → l1.length ≤ maxLen → l1.length * 8 ≤ 140737488351232 → (∀ x ∈ l1, (Lit.int .i64 x).wf = true) → (Lit.int .i64 a2).wf = true → l3.length ≤ maxLen → l3.length * 8 ≤ 140737488351232 → (∀ x ∈ l3, (Lit.int .i64 x).wf = true) → (Lit.int .i64 a4).wf = true → (Lit.int .i64 a5).wf = true →
 ∃ k cards meas rows s qq os g, (hypercubelaw1_Facts.f k a0 l1 a2 l3 = some (cards, meas, rows)) ∧ (hypercubelaw2_Set.f cards meas a4 = some s) ∧ (hypercubelaw2_within.f a5 16 = some qq) ∧ (os.length = rows.length ∧ rows.length ≤ 1000) ∧ (∀ i : Nat, i < rows.length → AllAt k (rd_T45 rows (i : Int)) (rd_T30 os (i : Int)) s (Go.bits .and .i64 s qq)) ∧ (cell_Group.f k os = some g) ∧ (hypercuberef2_Group.f k os = some g) ∧ (hypercuberef2_Same.f k g g = some true) ∧ (hypercuberef2_Facts.f k rows s = some g)
set_option maxHeartbeats 8000000 in
set_option maxRecDepth 100000 in
theorem hypercubelaw2_CellAll.calls (k : Nat) (a0 : Int) (A1 : Option Addr) (c1 : Nat) (l1 : List Int) (a2 : Int) (A3 : Option Addr) (c3 : Nat) (l3 : List Int) (a4 : Int) (a5 : Int) (w : World) (hr1 : Kd.C (Kd.int .i64) w A1 l1.length l1) (hc1 : l1.length ≤ c1) (hr3 : Kd.C (Kd.int .i64) w A3 l3.length l3) (hc3 : l3.length ≤ c3)
    {cards : List Int} {meas : Int} {rows : List S45} {s qq : Int} {os g : List S30} (h1 : hypercubelaw1_Facts.f k a0 l1 a2 l3 = some (cards, meas, rows)) (h2 : hypercubelaw2_Set.f cards meas a4 = some s) (h3 : hypercubelaw2_within.f a5 16 = some qq) (h4 : os.length = rows.length ∧ rows.length ≤ 1000) (h5 : ∀ i : Nat, i < rows.length → AllAt k (rd_T45 rows (i : Int)) (rd_T30 os (i : Int)) s (Go.bits .and .i64 s qq)) (h6 : cell_Group.f k os = some g) (h7 : hypercuberef2_Group.f k os = some g) (h8 : hypercuberef2_Same.f k g g = some true) (h9 : hypercuberef2_Facts.f k rows s = some g) :
    Calls Try.prog 11 #[.int .i64 a0, .slice A1 l1.length c1, .int .i64 a2, .slice A3 l3.length c3, .int .i64 a4, .int .i64 a5] w fun e w' => e = .returned (.bool true) ∧ Below w.heap.size w w' := by
  have hu30 := Try.underlying30
  have hu45 := Try.underlying45
  have hu25 := Try.underlying35
  have H1 := am h1
  have H2 := am h2
  have H3 := am h3
  have H4 := am h4
  have H5 := am h5
  have H6 := am h6
  have H7 := am h7
  have H8 := am h8
  have H9 := am h9
  have HR1 := am hr1
  have HC1 := am hc1
  have HR3 := am hr3
  have HC3 := am hc3
  clear h1 h2 h3 h4 h5 h6 h7 h8 h9 hr1 hc1 hr3 hc3
  go_enter Try.func11, Try.ntmps11
  go_wp2_with (fail)
  refine (hypercubelaw2_known.calls true w rfl).mono ?_
  rintro e w1 ⟨rfl, hb1⟩
  have HB1 := am hb1
  clear hb1
  go_wp2_with (fail)
  refine (hypercubelaw1_Facts.calls k a0 A1 c1 l1 a2 A3 c3 l3 cards meas rows w1 (Kd.C_below HR1.out HB1.out) HC1.out (Kd.C_below HR3.out HB1.out) HC3.out H1.out).mono ?_
  rintro e w2 ⟨v1, v2, rfl, ho0, ho1, hb2⟩
  obtain ⟨A14, c14, rfl⟩ := Kd.R_slice ho0
  obtain ⟨A15, c15, rfl⟩ := Kd.S_slice ho1
  have HX := am (Kd.R_reads' ho0).2
  have HY := am (Kd.S_reads' ho1).2
  have HB2 := am (below_step HB1.out hb2)
  clear ho0 ho1 hb2
  go_wp2_with (first | ((with_reducible refine gate_dst (N := 13) rfl ?_); (try (refine gate_guard (by rfl) ?_; dsimp only)); refine box_event ?hg (N := 13) ?hd (cs := #[.slice none 0 0, .int .i64 0]) (t := 35) ?hr ?_; (case hd => rfl); (case hg => rfl); (case hr => first | (go_simp; done) | (go_simp; rfl)); intro gb hg w3 hbox hb; have hcz0 : w3.cell? ⟨gb, 0, none⟩ = some (.slice none 0 0) := (blk_cell hbox 0).trans rfl; have hcz1 : w3.cell? ⟨gb, 1, none⟩ = some (.int .i64 0) := (blk_cell hbox 1).trans rfl; have hfz0 := blk_frozen hbox 0; have hfz1 := blk_frozen hbox 1; have HBX := am hbox; have HG := am hg; have HB3 := am hb; clear hbox hg hb))
  refine name_calls ?_
  intro w4 hw4
  have hb4 : Below w2.heap.size w2 w4 := by rw [hw4]; exact below_set (below_set HB3.out (Nat.le_of_eq HG.out.symm)) (Nat.le_of_eq HG.out.symm)
  have HB4 := am (below_step HB2.out hb4)
  have HX4 := am (Kd.C_below HX.out.2 hb4)
  have HY4 := am (Kd.C_below HY.out.2 hb4)
  clear hw4 hb4 hcz0 hcz1 hfz0 hfz1
  refine (hypercubelaw2_Set.calls A14 c14 cards meas a4 s w4 HX4.out HX.out.1 H2.out).mono ?_
  rintro e w5 ⟨rfl, hb5⟩
  have HY5 := am (Kd.C_below HY4.out hb5)
  have HB5 := am (below_step HB4.out hb5)
  clear hb5 HX4 HB4 HB3 HBX HG HY4
  go_wp2_with (fail)
  refine (hypercubelaw2_within.calls a5 16 qq w5 H3.out).mono ?_
  rintro e w6 ⟨rfl, hd⟩
  have HY6 := am (Kd.C_below HY5.out hd.below)
  have HB6 := am (below_step HB5.out hd.below)
  clear hd HB5 HY5
  go_wp2_with (fail)
  go_loopg [17, 18, 19, 20] (rows.length + 1) (fun kq v17 v18 v19 v20 w' => ∃ i : Nat, v18 = .int .i64 (i : Int) ∧ Aside0 (i + kq = rows.length + 1 ∧ i ≤ rows.length) ∧ Aside0 (Below w6.heap.size w6 w') ∧ Aside0 (Kd.N k30 30 w' w6.heap.size (fun _ => True) v17 (os.take i)))
  case atStart => exact ⟨0, rfl, ⟨by omega, by omega⟩, ⟨Below.refl _ _⟩, ⟨Kd.N_nil _ _ _ _ _⟩⟩
  case round =>
  obtain ⟨i, rfl, HI, HS, HN⟩ := hrel
  obtain ⟨Al, cl, el⟩ := Kd.N_slice HN.out
  subst el
  cases gk with
  | zero => exact absurd HI.out (by omega)
  | succ k1 =>
  by_cases hi : i < rows.length
  · have hc1 : decide ((i : Int) < (rows.length : Int)) = true := decide_eq_true (by omega)
    have pi := eq_true (show (0 : Int) ≤ (i : Int) by omega)
    have qi := eq_true (show (i : Int) < (rows.length : Int) by omega)
    have hwi : wrap64 ((i : Int) + 1) = ((i + 1 : Nat) : Int) := by have := H4.out; unfold wrap64; omega
    obtain ⟨x, n, j, n1, n2, n3, n4, n5, n6, n7, n8, n9⟩ := H5.out i hi
    have hosl : os.take (i + 1) = os.take i ++ [rd_T30 os (i : Int)] := by
      rw [List.take_succ_eq_append_getElem (by have := H4.out; omega)]
      simp [rd_T30, List.getD_eq_getElem?_getD, show i < os.length by have := H4.out; omega]
    obtain ⟨ae, B0, d0, B1, d1, eB, y0, y1, s0, u0, s1, u1⟩ := at_T45 (Kd.C_below HY6.out HS.out) (i : Int) (by omega) (by omega)
    cases eB
    rw [Int.toNat_natCast] at y0 y1
    have hll : (os.take i).length ≤ 1000 := by rw [List.length_take]; have := H4.out; omega
    generalize rd_T45 rows (i : Int) = y at *
    generalize rd_T30 os (i : Int) = z at *
    generalize hoi : os.take i = ol at *
    have N1 := am n1
    have N2 := am n2
    have N3 := am n3
    have N4 := am n4
    have N5 := am n5
    have N6 := am n6
    have N7 := am n7
    have N8 := am n8
    have N9 := am n9
    have Y0 := am y0
    have U0 := am (And.intro u0 s0)
    have Y1 := am y1
    have U1 := am (And.intro u1 s1)
    have HLL := am hll
    have HOS := am hosl
    have HHI := am hi
    clear hi hll hosl hoi n1 n2 n3 n4 n5 n6 n7 n8 n9 y0 y1 u0 u1 s0 s1
    go_wp2
    refine start_ (n := 16) (S := fun w' => w'.cell? (ae.add (i * 2)) = some (.slice B0 y.f0.length d0) ∧ w'.cell? ⟨(ae.add (i * 2)).block, (ae.add (i * 2)).off + 1, none⟩ = some (.slice B1 y.f1.length d1)) (ds := [14, 15]) (bb 16 0) (by kernel_rfl) rfl rfl ⟨Y0.out, Y1.out⟩ (fun hHeld => ?_)
    refine with_tabW hypercubelaw2_CellAll.tab10 hypercubelaw2_CellAll.bits10 (fun HT_ HW_ => ?_)
    refine pu (i := 0) (N := some 44) (bb 16 1) HT_ ?_
    refine pu (i := 1) (N := some 45) (bb 16 3) HT_ ?_
    refine pu (i := 2) (N := some 46) (bb 16 7) HT_ ?_
    refine tk (i := 3) (N := some 47) (bb 16 15) HT_ HW_ hHeld ?_
    refine pu (i := 4) (N := some 48) (bb 16 31) HT_ ?_
    refine pu (i := 6) (N := some 50) (bb 16 95) HT_ ?_
    refine pu (i := 7) (N := some 51) (bb 16 223) HT_ ?_
    refine pu (i := 8) (N := some 52) (bb 16 479) HT_ ?_
    refine tk (i := 9) (N := some 53) (bb 16 991) HT_ HW_ hHeld ?_
    refine pu (i := 10) (N := some 54) (bb 16 2015) HT_ ?_
    refine join_ (σ := CV × CV × Nat × Nat) 2 (bb 16 16383) (fun s_ => [(49, CV.val s_.1 x), (55, CV.val s_.2.1 z), (19, .pointer (some ⟨s_.2.2.1, 0, none⟩)), (20, .pointer (some ⟨s_.2.2.2, 0, none⟩))]) (fun s_ w' => Below wr.heap.size wr w' ∧ CV.ok s_.1 x w' (fun k_ => wr.heap.size ≤ k_ ∧ k_ ≠ s_.2.2.1 ∧ k_ ≠ s_.2.2.2) ∧ CV.ok s_.2.1 z w' (fun k_ => wr.heap.size ≤ k_ ∧ k_ ≠ s_.2.2.1 ∧ k_ ≠ s_.2.2.2) ∧ (w'.heap[s_.2.2.1]? = some (.cells #[.slice none 0 0, .int .i64 0, .slice none 0 0, .slice none 0 0, .slice none 0 0] 30 (0, 0)) ∧ wr.heap.size ≤ s_.2.2.1) ∧ (w'.heap[s_.2.2.2]? = some (.cells #[.slice none 0 0, .int .i64 0, .slice none 0 0, .slice none 0 0, .slice none 0 0] 30 (0, 0)) ∧ wr.heap.size ≤ s_.2.2.2) ∧ s_.2.2.1 ≠ s_.2.2.2) ?_ ?_
    rotate_left
    · intro ST211
      refine join_ (σ := CV × CV × Nat × Nat) 3 (bb 16 14335) (fun s_ => [(49, CV.val s_.1 x), (19, .pointer (some ⟨s_.2.2.1, 0, none⟩)), (20, .pointer (some ⟨s_.2.2.2, 0, none⟩))]) (fun s_ w' => Below wr.heap.size wr w' ∧ CV.ok s_.1 x w' (fun k_ => wr.heap.size ≤ k_ ∧ k_ ≠ s_.2.2.1 ∧ k_ ≠ s_.2.2.2) ∧ True ∧ (w'.heap[s_.2.2.1]? = some (.cells #[.slice none 0 0, .int .i64 0, .slice none 0 0, .slice none 0 0, .slice none 0 0] 30 (0, 0)) ∧ wr.heap.size ≤ s_.2.2.1) ∧ (w'.heap[s_.2.2.2]? = some (.cells #[.slice none 0 0, .int .i64 0, .slice none 0 0, .slice none 0 0, .slice none 0 0] 30 (0, 0)) ∧ wr.heap.size ≤ s_.2.2.2) ∧ s_.2.2.1 ≠ s_.2.2.2) ?_ ?_
      · rintro ⟨p, q, g1, g2⟩ W ⟨HB, HP, _, HG1, HG2, HNE⟩
        dsimp only at *
        refine norm_ (a' := ?_) ?_ ?_
        rotate_left
        · show putAll _ _ = _
          (first | (simp only [putAll, Act.put, List.setIfInBounds_toArray, List.set_cons_zero, List.set_cons_succ, i64_w, i32_w]; done) | (simp only [putAll, Act.put, List.setIfInBounds_toArray, List.set_cons_zero, List.set_cons_succ, i64_w, i32_w]; rfl))
        refine one_ (i := 11) (N := some 55) (bb 16 16383) rfl rfl (one_of HT_.out (by kernel_rfl)) (by decide) (fun K hK => ?_)
        · refine goes_ Try.func30 (by kernel_rfl) rfl #[.agg #[.slice B0 y.f0.length d0, .slice B1 y.f1.length d1], .int .i64 s] (by rfl) rfl rfl (by (try simp only [List.map_toArray, List.map_cons, List.map_nil]); first | done | rfl) ?_
          with_reducible refine (hypercuberef2_Of.callsV k s _ (Kd.C_below U0.out.1 HB) U0.out.2 (Kd.C_below U1.out.1 HB) U1.out.2 N2.out).mono ?_
          rintro e W1 ⟨u, rfl, hu, hb⟩
          refine ⟨_, rfl, ?_⟩
          refine hK.out _ _ ⟨((below_step HB hb).cell (World.block_lt_of_cell? wr _ Y0.out)).trans Y0.out, ((below_step HB hb).cell (World.block_lt_of_cell? wr _ Y1.out)).trans Y1.out⟩ (fun hHeld => ?_)
          clear hK K
          have hN := ST211 (p, u, g1, g2) W1 ⟨below_step HB hb, HP.below hb, hu.wide (fun k_ hk => ⟨Nat.le_trans HB.size hk, (by have := blk_lt HG1.1; (try dsimp only); omega), (by have := blk_lt HG2.1; (try dsimp only); omega)⟩), ⟨blk_below HG1.1 hb, HG1.2⟩, ⟨blk_below HG2.1 hb, HG2.2⟩, HNE⟩
          refine norm_ ?_ hN
          show _ = putAll _ _
          (first | (simp only [putAll, Act.put, List.setIfInBounds_toArray, List.set_cons_zero, List.set_cons_succ, i64_w, i32_w]; done) | (simp only [putAll, Act.put, List.setIfInBounds_toArray, List.set_cons_zero, List.set_cons_succ, i64_w, i32_w]; rfl))
      intro ST111
      refine join_ (σ := CV × CV × Nat × Nat) 3 (bb 16 12287) (fun s_ => [(49, CV.val s_.1 x), (55, CV.val s_.2.1 z), (20, .pointer (some ⟨s_.2.2.2, 0, none⟩))]) (fun s_ w' => Below wr.heap.size wr w' ∧ CV.ok s_.1 x w' (fun k_ => wr.heap.size ≤ k_ ∧ True ∧ k_ ≠ s_.2.2.2) ∧ CV.ok s_.2.1 z w' (fun k_ => wr.heap.size ≤ k_ ∧ True ∧ k_ ≠ s_.2.2.2) ∧ True ∧ (w'.heap[s_.2.2.2]? = some (.cells #[.slice none 0 0, .int .i64 0, .slice none 0 0, .slice none 0 0, .slice none 0 0] 30 (0, 0)) ∧ wr.heap.size ≤ s_.2.2.2) ∧ True) ?_ ?_
      · rintro ⟨p, q, g1, g2⟩ W ⟨HB, HP, HQ, _, HG2, _⟩
        dsimp only at *
        refine norm_ (a' := ?_) ?_ ?_
        rotate_left
        · show putAll _ _ = _
          (first | (simp only [putAll, Act.put, List.setIfInBounds_toArray, List.set_cons_zero, List.set_cons_succ, i64_w, i32_w]; done) | (simp only [putAll, Act.put, List.setIfInBounds_toArray, List.set_cons_zero, List.set_cons_succ, i64_w, i32_w]; rfl))
        refine one_ (i := 12) (N := some 19) (bb 16 16383) rfl rfl (one_of HT_.out (by kernel_rfl)) (by decide) (fun K hK => ?_)
        · refine box_step (by rfl) rfl (cs := #[.slice none 0 0, .int .i64 0, .slice none 0 0, .slice none 0 0, .slice none 0 0]) (t := 30) (by first | (go_simp; done) | (go_simp; rfl)) ?_
          intro g hg W1 hk hb
          refine hK.out _ _ ⟨((below_step HB hb).cell (World.block_lt_of_cell? wr _ Y0.out)).trans Y0.out, ((below_step HB hb).cell (World.block_lt_of_cell? wr _ Y1.out)).trans Y1.out⟩ (fun hHeld => ?_)
          clear hK K
          have hN := ST211 (p, q, g, g2) W1 ⟨below_step HB hb, (CV.ok.below (HP.bound.wide (fun k_ hk => ⟨hk.1.1, (by have := hk.2; (try dsimp only); omega), hk.1.2.2⟩)) hb), (CV.ok.below (HQ.bound.wide (fun k_ hk => ⟨hk.1.1, (by have := hk.2; (try dsimp only); omega), hk.1.2.2⟩)) hb), ⟨hk, by rw [hg]; exact HB.size⟩, ⟨blk_below HG2.1 hb, HG2.2⟩, (by have := blk_lt HG2.1; (try dsimp only); omega)⟩
          refine norm_ ?_ hN
          show _ = putAll _ _
          (first | (simp only [putAll, Act.put, List.setIfInBounds_toArray, List.set_cons_zero, List.set_cons_succ, i64_w, i32_w]; done) | (simp only [putAll, Act.put, List.setIfInBounds_toArray, List.set_cons_zero, List.set_cons_succ, i64_w, i32_w]; rfl))
      intro ST201
      refine join_ (σ := CV × CV × Nat × Nat) 3 (bb 16 8191) (fun s_ => [(49, CV.val s_.1 x), (55, CV.val s_.2.1 z), (19, .pointer (some ⟨s_.2.2.1, 0, none⟩))]) (fun s_ w' => Below wr.heap.size wr w' ∧ CV.ok s_.1 x w' (fun k_ => wr.heap.size ≤ k_ ∧ k_ ≠ s_.2.2.1 ∧ True) ∧ CV.ok s_.2.1 z w' (fun k_ => wr.heap.size ≤ k_ ∧ k_ ≠ s_.2.2.1 ∧ True) ∧ (w'.heap[s_.2.2.1]? = some (.cells #[.slice none 0 0, .int .i64 0, .slice none 0 0, .slice none 0 0, .slice none 0 0] 30 (0, 0)) ∧ wr.heap.size ≤ s_.2.2.1) ∧ True ∧ True) ?_ ?_
      · rintro ⟨p, q, g1, g2⟩ W ⟨HB, HP, HQ, HG1, _, _⟩
        dsimp only at *
        refine norm_ (a' := ?_) ?_ ?_
        rotate_left
        · show putAll _ _ = _
          (first | (simp only [putAll, Act.put, List.setIfInBounds_toArray, List.set_cons_zero, List.set_cons_succ, i64_w, i32_w]; done) | (simp only [putAll, Act.put, List.setIfInBounds_toArray, List.set_cons_zero, List.set_cons_succ, i64_w, i32_w]; rfl))
        refine one_ (i := 13) (N := some 20) (bb 16 16383) rfl rfl (one_of HT_.out (by kernel_rfl)) (by decide) (fun K hK => ?_)
        · refine box_step (by rfl) rfl (cs := #[.slice none 0 0, .int .i64 0, .slice none 0 0, .slice none 0 0, .slice none 0 0]) (t := 30) (by first | (go_simp; done) | (go_simp; rfl)) ?_
          intro g hg W1 hk hb
          refine hK.out _ _ ⟨((below_step HB hb).cell (World.block_lt_of_cell? wr _ Y0.out)).trans Y0.out, ((below_step HB hb).cell (World.block_lt_of_cell? wr _ Y1.out)).trans Y1.out⟩ (fun hHeld => ?_)
          clear hK K
          have hN := ST211 (p, q, g1, g) W1 ⟨below_step HB hb, (CV.ok.below (HP.bound.wide (fun k_ hk => ⟨hk.1.1, hk.1.2.1, (by have := hk.2; (try dsimp only); omega)⟩)) hb), (CV.ok.below (HQ.bound.wide (fun k_ hk => ⟨hk.1.1, hk.1.2.1, (by have := hk.2; (try dsimp only); omega)⟩)) hb), ⟨blk_below HG1.1 hb, HG1.2⟩, ⟨hk, by rw [hg]; exact HB.size⟩, (by have := blk_lt HG1.1; (try dsimp only); omega)⟩
          refine norm_ ?_ hN
          show _ = putAll _ _
          (first | (simp only [putAll, Act.put, List.setIfInBounds_toArray, List.set_cons_zero, List.set_cons_succ, i64_w, i32_w]; done) | (simp only [putAll, Act.put, List.setIfInBounds_toArray, List.set_cons_zero, List.set_cons_succ, i64_w, i32_w]; rfl))
      intro ST210
      refine join_ (σ := CV × CV × Nat × Nat) 4 (bb 16 14303) (fun s_ => [(19, .pointer (some ⟨s_.2.2.1, 0, none⟩)), (20, .pointer (some ⟨s_.2.2.2, 0, none⟩))]) (fun s_ w' => Below wr.heap.size wr w' ∧ True ∧ True ∧ (w'.heap[s_.2.2.1]? = some (.cells #[.slice none 0 0, .int .i64 0, .slice none 0 0, .slice none 0 0, .slice none 0 0] 30 (0, 0)) ∧ wr.heap.size ≤ s_.2.2.1) ∧ (w'.heap[s_.2.2.2]? = some (.cells #[.slice none 0 0, .int .i64 0, .slice none 0 0, .slice none 0 0, .slice none 0 0] 30 (0, 0)) ∧ wr.heap.size ≤ s_.2.2.2) ∧ s_.2.2.1 ≠ s_.2.2.2) ?_ ?_
      · rintro ⟨p, q, g1, g2⟩ W ⟨HB, _, _, HG1, HG2, HNE⟩
        dsimp only at *
        refine norm_ (a' := ?_) ?_ ?_
        rotate_left
        · show putAll _ _ = _
          (first | (simp only [putAll, Act.put, List.setIfInBounds_toArray, List.set_cons_zero, List.set_cons_succ, i64_w, i32_w]; done) | (simp only [putAll, Act.put, List.setIfInBounds_toArray, List.set_cons_zero, List.set_cons_succ, i64_w, i32_w]; rfl))
        refine one_ (i := 5) (N := some 49) (bb 16 14335) rfl rfl (one_of HT_.out (by kernel_rfl)) (by decide) (fun K hK => ?_)
        · refine goes_ Try.func28 (by kernel_rfl) rfl #[.agg #[.slice B0 y.f0.length d0, .slice B1 y.f1.length d1], .int .i64 s] (by rfl) rfl rfl (by (try simp only [List.map_toArray, List.map_cons, List.map_nil]); first | done | rfl) ?_
          with_reducible refine (cell_Of.callsV  s _ (Kd.C_below U0.out.1 HB) U0.out.2 (Kd.C_below U1.out.1 HB) U1.out.2 N1.out).mono ?_
          rintro e W1 ⟨u, rfl, hu, hb⟩
          refine ⟨_, rfl, ?_⟩
          refine hK.out _ _ ⟨((below_step HB hb).cell (World.block_lt_of_cell? wr _ Y0.out)).trans Y0.out, ((below_step HB hb).cell (World.block_lt_of_cell? wr _ Y1.out)).trans Y1.out⟩ (fun hHeld => ?_)
          clear hK K
          have hN := ST111 (u, default, g1, g2) W1 ⟨below_step HB hb, hu.wide (fun k_ hk => ⟨Nat.le_trans HB.size hk, (by have := blk_lt HG1.1; (try dsimp only); omega), (by have := blk_lt HG2.1; (try dsimp only); omega)⟩), trivial, ⟨blk_below HG1.1 hb, HG1.2⟩, ⟨blk_below HG2.1 hb, HG2.2⟩, HNE⟩
          refine norm_ ?_ hN
          show _ = putAll _ _
          (first | (simp only [putAll, Act.put, List.setIfInBounds_toArray, List.set_cons_zero, List.set_cons_succ, i64_w, i32_w]; done) | (simp only [putAll, Act.put, List.setIfInBounds_toArray, List.set_cons_zero, List.set_cons_succ, i64_w, i32_w]; rfl))
      intro ST011
      refine join_ (σ := CV × CV × Nat × Nat) 4 (bb 16 10239) (fun s_ => [(49, CV.val s_.1 x), (20, .pointer (some ⟨s_.2.2.2, 0, none⟩))]) (fun s_ w' => Below wr.heap.size wr w' ∧ CV.ok s_.1 x w' (fun k_ => wr.heap.size ≤ k_ ∧ True ∧ k_ ≠ s_.2.2.2) ∧ True ∧ True ∧ (w'.heap[s_.2.2.2]? = some (.cells #[.slice none 0 0, .int .i64 0, .slice none 0 0, .slice none 0 0, .slice none 0 0] 30 (0, 0)) ∧ wr.heap.size ≤ s_.2.2.2) ∧ True) ?_ ?_
      · rintro ⟨p, q, g1, g2⟩ W ⟨HB, HP, _, _, HG2, _⟩
        dsimp only at *
        refine norm_ (a' := ?_) ?_ ?_
        rotate_left
        · show putAll _ _ = _
          (first | (simp only [putAll, Act.put, List.setIfInBounds_toArray, List.set_cons_zero, List.set_cons_succ, i64_w, i32_w]; done) | (simp only [putAll, Act.put, List.setIfInBounds_toArray, List.set_cons_zero, List.set_cons_succ, i64_w, i32_w]; rfl))
        refine two_ (i := 11) (j := 12) (Ni := some 55) (Nj := some 19) (bb 16 12287) (bb 16 14335) rfl rfl rfl rfl (two_of HT_.out (by kernel_rfl)) (by decide) (by decide) (fun K hK => ?_) (fun K hK => ?_)
        · refine goes_ Try.func30 (by kernel_rfl) rfl #[.agg #[.slice B0 y.f0.length d0, .slice B1 y.f1.length d1], .int .i64 s] (by rfl) rfl rfl (by (try simp only [List.map_toArray, List.map_cons, List.map_nil]); first | done | rfl) ?_
          with_reducible refine (hypercuberef2_Of.callsV k s _ (Kd.C_below U0.out.1 HB) U0.out.2 (Kd.C_below U1.out.1 HB) U1.out.2 N2.out).mono ?_
          rintro e W1 ⟨u, rfl, hu, hb⟩
          refine ⟨_, rfl, ?_⟩
          refine hK.out _ _ ⟨((below_step HB hb).cell (World.block_lt_of_cell? wr _ Y0.out)).trans Y0.out, ((below_step HB hb).cell (World.block_lt_of_cell? wr _ Y1.out)).trans Y1.out⟩ (fun hHeld => ?_)
          clear hK K
          have hN := ST201 (p, u, 0, g2) W1 ⟨below_step HB hb, HP.below hb, hu.wide (fun k_ hk => ⟨Nat.le_trans HB.size hk, trivial, (by have := blk_lt HG2.1; (try dsimp only); omega)⟩), trivial, ⟨blk_below HG2.1 hb, HG2.2⟩, trivial⟩
          refine norm_ ?_ hN
          show _ = putAll _ _
          (first | (simp only [putAll, Act.put, List.setIfInBounds_toArray, List.set_cons_zero, List.set_cons_succ, i64_w, i32_w]; done) | (simp only [putAll, Act.put, List.setIfInBounds_toArray, List.set_cons_zero, List.set_cons_succ, i64_w, i32_w]; rfl))
        · refine box_step (by rfl) rfl (cs := #[.slice none 0 0, .int .i64 0, .slice none 0 0, .slice none 0 0, .slice none 0 0]) (t := 30) (by first | (go_simp; done) | (go_simp; rfl)) ?_
          intro g hg W1 hk hb
          refine hK.out _ _ ⟨((below_step HB hb).cell (World.block_lt_of_cell? wr _ Y0.out)).trans Y0.out, ((below_step HB hb).cell (World.block_lt_of_cell? wr _ Y1.out)).trans Y1.out⟩ (fun hHeld => ?_)
          clear hK K
          have hN := ST111 (p, default, g, g2) W1 ⟨below_step HB hb, (CV.ok.below (HP.bound.wide (fun k_ hk => ⟨hk.1.1, (by have := hk.2; (try dsimp only); omega), hk.1.2.2⟩)) hb), trivial, ⟨hk, by rw [hg]; exact HB.size⟩, ⟨blk_below HG2.1 hb, HG2.2⟩, (by have := blk_lt HG2.1; (try dsimp only); omega)⟩
          refine norm_ ?_ hN
          show _ = putAll _ _
          (first | (simp only [putAll, Act.put, List.setIfInBounds_toArray, List.set_cons_zero, List.set_cons_succ, i64_w, i32_w]; done) | (simp only [putAll, Act.put, List.setIfInBounds_toArray, List.set_cons_zero, List.set_cons_succ, i64_w, i32_w]; rfl))
      intro ST101
      refine join_ (σ := CV × CV × Nat × Nat) 4 (bb 16 6143) (fun s_ => [(49, CV.val s_.1 x), (19, .pointer (some ⟨s_.2.2.1, 0, none⟩))]) (fun s_ w' => Below wr.heap.size wr w' ∧ CV.ok s_.1 x w' (fun k_ => wr.heap.size ≤ k_ ∧ k_ ≠ s_.2.2.1 ∧ True) ∧ True ∧ (w'.heap[s_.2.2.1]? = some (.cells #[.slice none 0 0, .int .i64 0, .slice none 0 0, .slice none 0 0, .slice none 0 0] 30 (0, 0)) ∧ wr.heap.size ≤ s_.2.2.1) ∧ True ∧ True) ?_ ?_
      · rintro ⟨p, q, g1, g2⟩ W ⟨HB, HP, _, HG1, _, _⟩
        dsimp only at *
        refine norm_ (a' := ?_) ?_ ?_
        rotate_left
        · show putAll _ _ = _
          (first | (simp only [putAll, Act.put, List.setIfInBounds_toArray, List.set_cons_zero, List.set_cons_succ, i64_w, i32_w]; done) | (simp only [putAll, Act.put, List.setIfInBounds_toArray, List.set_cons_zero, List.set_cons_succ, i64_w, i32_w]; rfl))
        refine two_ (i := 11) (j := 13) (Ni := some 55) (Nj := some 20) (bb 16 8191) (bb 16 14335) rfl rfl rfl rfl (two_of HT_.out (by kernel_rfl)) (by decide) (by decide) (fun K hK => ?_) (fun K hK => ?_)
        · refine goes_ Try.func30 (by kernel_rfl) rfl #[.agg #[.slice B0 y.f0.length d0, .slice B1 y.f1.length d1], .int .i64 s] (by rfl) rfl rfl (by (try simp only [List.map_toArray, List.map_cons, List.map_nil]); first | done | rfl) ?_
          with_reducible refine (hypercuberef2_Of.callsV k s _ (Kd.C_below U0.out.1 HB) U0.out.2 (Kd.C_below U1.out.1 HB) U1.out.2 N2.out).mono ?_
          rintro e W1 ⟨u, rfl, hu, hb⟩
          refine ⟨_, rfl, ?_⟩
          refine hK.out _ _ ⟨((below_step HB hb).cell (World.block_lt_of_cell? wr _ Y0.out)).trans Y0.out, ((below_step HB hb).cell (World.block_lt_of_cell? wr _ Y1.out)).trans Y1.out⟩ (fun hHeld => ?_)
          clear hK K
          have hN := ST210 (p, u, g1, 0) W1 ⟨below_step HB hb, HP.below hb, hu.wide (fun k_ hk => ⟨Nat.le_trans HB.size hk, (by have := blk_lt HG1.1; (try dsimp only); omega), trivial⟩), ⟨blk_below HG1.1 hb, HG1.2⟩, trivial, trivial⟩
          refine norm_ ?_ hN
          show _ = putAll _ _
          (first | (simp only [putAll, Act.put, List.setIfInBounds_toArray, List.set_cons_zero, List.set_cons_succ, i64_w, i32_w]; done) | (simp only [putAll, Act.put, List.setIfInBounds_toArray, List.set_cons_zero, List.set_cons_succ, i64_w, i32_w]; rfl))
        · refine box_step (by rfl) rfl (cs := #[.slice none 0 0, .int .i64 0, .slice none 0 0, .slice none 0 0, .slice none 0 0]) (t := 30) (by first | (go_simp; done) | (go_simp; rfl)) ?_
          intro g hg W1 hk hb
          refine hK.out _ _ ⟨((below_step HB hb).cell (World.block_lt_of_cell? wr _ Y0.out)).trans Y0.out, ((below_step HB hb).cell (World.block_lt_of_cell? wr _ Y1.out)).trans Y1.out⟩ (fun hHeld => ?_)
          clear hK K
          have hN := ST111 (p, default, g1, g) W1 ⟨below_step HB hb, (CV.ok.below (HP.bound.wide (fun k_ hk => ⟨hk.1.1, hk.1.2.1, (by have := hk.2; (try dsimp only); omega)⟩)) hb), trivial, ⟨blk_below HG1.1 hb, HG1.2⟩, ⟨hk, by rw [hg]; exact HB.size⟩, (by have := blk_lt HG1.1; (try dsimp only); omega)⟩
          refine norm_ ?_ hN
          show _ = putAll _ _
          (first | (simp only [putAll, Act.put, List.setIfInBounds_toArray, List.set_cons_zero, List.set_cons_succ, i64_w, i32_w]; done) | (simp only [putAll, Act.put, List.setIfInBounds_toArray, List.set_cons_zero, List.set_cons_succ, i64_w, i32_w]; rfl))
      intro ST110
      refine join_ (σ := CV × CV × Nat × Nat) 4 (bb 16 4095) (fun s_ => [(49, CV.val s_.1 x), (55, CV.val s_.2.1 z)]) (fun s_ w' => Below wr.heap.size wr w' ∧ CV.ok s_.1 x w' (fun k_ => wr.heap.size ≤ k_ ∧ True ∧ True) ∧ CV.ok s_.2.1 z w' (fun k_ => wr.heap.size ≤ k_ ∧ True ∧ True) ∧ True ∧ True ∧ True) ?_ ?_
      · rintro ⟨p, q, g1, g2⟩ W ⟨HB, HP, HQ, _, _, _⟩
        dsimp only at *
        refine norm_ (a' := ?_) ?_ ?_
        rotate_left
        · show putAll _ _ = _
          (first | (simp only [putAll, Act.put, List.setIfInBounds_toArray, List.set_cons_zero, List.set_cons_succ, i64_w, i32_w]; done) | (simp only [putAll, Act.put, List.setIfInBounds_toArray, List.set_cons_zero, List.set_cons_succ, i64_w, i32_w]; rfl))
        refine two_ (i := 12) (j := 13) (Ni := some 19) (Nj := some 20) (bb 16 8191) (bb 16 12287) rfl rfl rfl rfl (two_of HT_.out (by kernel_rfl)) (by decide) (by decide) (fun K hK => ?_) (fun K hK => ?_)
        · refine box_step (by rfl) rfl (cs := #[.slice none 0 0, .int .i64 0, .slice none 0 0, .slice none 0 0, .slice none 0 0]) (t := 30) (by first | (go_simp; done) | (go_simp; rfl)) ?_
          intro g hg W1 hk hb
          refine hK.out _ _ ⟨((below_step HB hb).cell (World.block_lt_of_cell? wr _ Y0.out)).trans Y0.out, ((below_step HB hb).cell (World.block_lt_of_cell? wr _ Y1.out)).trans Y1.out⟩ (fun hHeld => ?_)
          clear hK K
          have hN := ST210 (p, q, g, 0) W1 ⟨below_step HB hb, (CV.ok.below (HP.bound.wide (fun k_ hk => ⟨hk.1.1, (by have := hk.2; (try dsimp only); omega), trivial⟩)) hb), (CV.ok.below (HQ.bound.wide (fun k_ hk => ⟨hk.1.1, (by have := hk.2; (try dsimp only); omega), trivial⟩)) hb), ⟨hk, by rw [hg]; exact HB.size⟩, trivial, trivial⟩
          refine norm_ ?_ hN
          show _ = putAll _ _
          (first | (simp only [putAll, Act.put, List.setIfInBounds_toArray, List.set_cons_zero, List.set_cons_succ, i64_w, i32_w]; done) | (simp only [putAll, Act.put, List.setIfInBounds_toArray, List.set_cons_zero, List.set_cons_succ, i64_w, i32_w]; rfl))
        · refine box_step (by rfl) rfl (cs := #[.slice none 0 0, .int .i64 0, .slice none 0 0, .slice none 0 0, .slice none 0 0]) (t := 30) (by first | (go_simp; done) | (go_simp; rfl)) ?_
          intro g hg W1 hk hb
          refine hK.out _ _ ⟨((below_step HB hb).cell (World.block_lt_of_cell? wr _ Y0.out)).trans Y0.out, ((below_step HB hb).cell (World.block_lt_of_cell? wr _ Y1.out)).trans Y1.out⟩ (fun hHeld => ?_)
          clear hK K
          have hN := ST201 (p, q, 0, g) W1 ⟨below_step HB hb, (CV.ok.below (HP.bound.wide (fun k_ hk => ⟨hk.1.1, trivial, (by have := hk.2; (try dsimp only); omega)⟩)) hb), (CV.ok.below (HQ.bound.wide (fun k_ hk => ⟨hk.1.1, trivial, (by have := hk.2; (try dsimp only); omega)⟩)) hb), trivial, ⟨hk, by rw [hg]; exact HB.size⟩, trivial⟩
          refine norm_ ?_ hN
          show _ = putAll _ _
          (first | (simp only [putAll, Act.put, List.setIfInBounds_toArray, List.set_cons_zero, List.set_cons_succ, i64_w, i32_w]; done) | (simp only [putAll, Act.put, List.setIfInBounds_toArray, List.set_cons_zero, List.set_cons_succ, i64_w, i32_w]; rfl))
      intro ST200
      refine join_ (σ := CV × CV × Nat × Nat) 5 (bb 16 10207) (fun s_ => [(20, .pointer (some ⟨s_.2.2.2, 0, none⟩))]) (fun s_ w' => Below wr.heap.size wr w' ∧ True ∧ True ∧ True ∧ (w'.heap[s_.2.2.2]? = some (.cells #[.slice none 0 0, .int .i64 0, .slice none 0 0, .slice none 0 0, .slice none 0 0] 30 (0, 0)) ∧ wr.heap.size ≤ s_.2.2.2) ∧ True) ?_ ?_
      · rintro ⟨p, q, g1, g2⟩ W ⟨HB, _, _, _, HG2, _⟩
        dsimp only at *
        refine norm_ (a' := ?_) ?_ ?_
        rotate_left
        · show putAll _ _ = _
          (first | (simp only [putAll, Act.put, List.setIfInBounds_toArray, List.set_cons_zero, List.set_cons_succ, i64_w, i32_w]; done) | (simp only [putAll, Act.put, List.setIfInBounds_toArray, List.set_cons_zero, List.set_cons_succ, i64_w, i32_w]; rfl))
        refine two_ (i := 5) (j := 12) (Ni := some 49) (Nj := some 19) (bb 16 10239) (bb 16 14303) rfl rfl rfl rfl (two_of HT_.out (by kernel_rfl)) (by decide) (by decide) (fun K hK => ?_) (fun K hK => ?_)
        · refine goes_ Try.func28 (by kernel_rfl) rfl #[.agg #[.slice B0 y.f0.length d0, .slice B1 y.f1.length d1], .int .i64 s] (by rfl) rfl rfl (by (try simp only [List.map_toArray, List.map_cons, List.map_nil]); first | done | rfl) ?_
          with_reducible refine (cell_Of.callsV  s _ (Kd.C_below U0.out.1 HB) U0.out.2 (Kd.C_below U1.out.1 HB) U1.out.2 N1.out).mono ?_
          rintro e W1 ⟨u, rfl, hu, hb⟩
          refine ⟨_, rfl, ?_⟩
          refine hK.out _ _ ⟨((below_step HB hb).cell (World.block_lt_of_cell? wr _ Y0.out)).trans Y0.out, ((below_step HB hb).cell (World.block_lt_of_cell? wr _ Y1.out)).trans Y1.out⟩ (fun hHeld => ?_)
          clear hK K
          have hN := ST101 (u, default, 0, g2) W1 ⟨below_step HB hb, hu.wide (fun k_ hk => ⟨Nat.le_trans HB.size hk, trivial, (by have := blk_lt HG2.1; (try dsimp only); omega)⟩), trivial, trivial, ⟨blk_below HG2.1 hb, HG2.2⟩, trivial⟩
          refine norm_ ?_ hN
          show _ = putAll _ _
          (first | (simp only [putAll, Act.put, List.setIfInBounds_toArray, List.set_cons_zero, List.set_cons_succ, i64_w, i32_w]; done) | (simp only [putAll, Act.put, List.setIfInBounds_toArray, List.set_cons_zero, List.set_cons_succ, i64_w, i32_w]; rfl))
        · refine box_step (by rfl) rfl (cs := #[.slice none 0 0, .int .i64 0, .slice none 0 0, .slice none 0 0, .slice none 0 0]) (t := 30) (by first | (go_simp; done) | (go_simp; rfl)) ?_
          intro g hg W1 hk hb
          refine hK.out _ _ ⟨((below_step HB hb).cell (World.block_lt_of_cell? wr _ Y0.out)).trans Y0.out, ((below_step HB hb).cell (World.block_lt_of_cell? wr _ Y1.out)).trans Y1.out⟩ (fun hHeld => ?_)
          clear hK K
          have hN := ST011 (default, default, g, g2) W1 ⟨below_step HB hb, trivial, trivial, ⟨hk, by rw [hg]; exact HB.size⟩, ⟨blk_below HG2.1 hb, HG2.2⟩, (by have := blk_lt HG2.1; (try dsimp only); omega)⟩
          refine norm_ ?_ hN
          show _ = putAll _ _
          (first | (simp only [putAll, Act.put, List.setIfInBounds_toArray, List.set_cons_zero, List.set_cons_succ, i64_w, i32_w]; done) | (simp only [putAll, Act.put, List.setIfInBounds_toArray, List.set_cons_zero, List.set_cons_succ, i64_w, i32_w]; rfl))
      intro ST001
      refine join_ (σ := CV × CV × Nat × Nat) 5 (bb 16 6111) (fun s_ => [(19, .pointer (some ⟨s_.2.2.1, 0, none⟩))]) (fun s_ w' => Below wr.heap.size wr w' ∧ True ∧ True ∧ (w'.heap[s_.2.2.1]? = some (.cells #[.slice none 0 0, .int .i64 0, .slice none 0 0, .slice none 0 0, .slice none 0 0] 30 (0, 0)) ∧ wr.heap.size ≤ s_.2.2.1) ∧ True ∧ True) ?_ ?_
      · rintro ⟨p, q, g1, g2⟩ W ⟨HB, _, _, HG1, _, _⟩
        dsimp only at *
        refine norm_ (a' := ?_) ?_ ?_
        rotate_left
        · show putAll _ _ = _
          (first | (simp only [putAll, Act.put, List.setIfInBounds_toArray, List.set_cons_zero, List.set_cons_succ, i64_w, i32_w]; done) | (simp only [putAll, Act.put, List.setIfInBounds_toArray, List.set_cons_zero, List.set_cons_succ, i64_w, i32_w]; rfl))
        refine two_ (i := 5) (j := 13) (Ni := some 49) (Nj := some 20) (bb 16 6143) (bb 16 14303) rfl rfl rfl rfl (two_of HT_.out (by kernel_rfl)) (by decide) (by decide) (fun K hK => ?_) (fun K hK => ?_)
        · refine goes_ Try.func28 (by kernel_rfl) rfl #[.agg #[.slice B0 y.f0.length d0, .slice B1 y.f1.length d1], .int .i64 s] (by rfl) rfl rfl (by (try simp only [List.map_toArray, List.map_cons, List.map_nil]); first | done | rfl) ?_
          with_reducible refine (cell_Of.callsV  s _ (Kd.C_below U0.out.1 HB) U0.out.2 (Kd.C_below U1.out.1 HB) U1.out.2 N1.out).mono ?_
          rintro e W1 ⟨u, rfl, hu, hb⟩
          refine ⟨_, rfl, ?_⟩
          refine hK.out _ _ ⟨((below_step HB hb).cell (World.block_lt_of_cell? wr _ Y0.out)).trans Y0.out, ((below_step HB hb).cell (World.block_lt_of_cell? wr _ Y1.out)).trans Y1.out⟩ (fun hHeld => ?_)
          clear hK K
          have hN := ST110 (u, default, g1, 0) W1 ⟨below_step HB hb, hu.wide (fun k_ hk => ⟨Nat.le_trans HB.size hk, (by have := blk_lt HG1.1; (try dsimp only); omega), trivial⟩), trivial, ⟨blk_below HG1.1 hb, HG1.2⟩, trivial, trivial⟩
          refine norm_ ?_ hN
          show _ = putAll _ _
          (first | (simp only [putAll, Act.put, List.setIfInBounds_toArray, List.set_cons_zero, List.set_cons_succ, i64_w, i32_w]; done) | (simp only [putAll, Act.put, List.setIfInBounds_toArray, List.set_cons_zero, List.set_cons_succ, i64_w, i32_w]; rfl))
        · refine box_step (by rfl) rfl (cs := #[.slice none 0 0, .int .i64 0, .slice none 0 0, .slice none 0 0, .slice none 0 0]) (t := 30) (by first | (go_simp; done) | (go_simp; rfl)) ?_
          intro g hg W1 hk hb
          refine hK.out _ _ ⟨((below_step HB hb).cell (World.block_lt_of_cell? wr _ Y0.out)).trans Y0.out, ((below_step HB hb).cell (World.block_lt_of_cell? wr _ Y1.out)).trans Y1.out⟩ (fun hHeld => ?_)
          clear hK K
          have hN := ST011 (default, default, g1, g) W1 ⟨below_step HB hb, trivial, trivial, ⟨blk_below HG1.1 hb, HG1.2⟩, ⟨hk, by rw [hg]; exact HB.size⟩, (by have := blk_lt HG1.1; (try dsimp only); omega)⟩
          refine norm_ ?_ hN
          show _ = putAll _ _
          (first | (simp only [putAll, Act.put, List.setIfInBounds_toArray, List.set_cons_zero, List.set_cons_succ, i64_w, i32_w]; done) | (simp only [putAll, Act.put, List.setIfInBounds_toArray, List.set_cons_zero, List.set_cons_succ, i64_w, i32_w]; rfl))
      intro ST010
      refine join_ (σ := CV × CV × Nat × Nat) 5 (bb 16 2047) (fun s_ => [(49, CV.val s_.1 x)]) (fun s_ w' => Below wr.heap.size wr w' ∧ CV.ok s_.1 x w' (fun k_ => wr.heap.size ≤ k_ ∧ True ∧ True) ∧ True ∧ True ∧ True ∧ True) ?_ ?_
      · rintro ⟨p, q, g1, g2⟩ W ⟨HB, HP, _, _, _, _⟩
        dsimp only at *
        refine norm_ (a' := ?_) ?_ ?_
        rotate_left
        · show putAll _ _ = _
          (first | (simp only [putAll, Act.put, List.setIfInBounds_toArray, List.set_cons_zero, List.set_cons_succ, i64_w, i32_w]; done) | (simp only [putAll, Act.put, List.setIfInBounds_toArray, List.set_cons_zero, List.set_cons_succ, i64_w, i32_w]; rfl))
        refine three_ (i := 11) (j := 12) (k := 13) (Ni := some 55) (Nj := some 19) (Nk := some 20) (bb 16 4095) (bb 16 6143) (bb 16 10239) rfl rfl rfl rfl rfl rfl (three_of HT_.out (by kernel_rfl)) (by decide) (by decide) (by decide) (fun K hK => ?_) (fun K hK => ?_) (fun K hK => ?_)
        · refine goes_ Try.func30 (by kernel_rfl) rfl #[.agg #[.slice B0 y.f0.length d0, .slice B1 y.f1.length d1], .int .i64 s] (by rfl) rfl rfl (by (try simp only [List.map_toArray, List.map_cons, List.map_nil]); first | done | rfl) ?_
          with_reducible refine (hypercuberef2_Of.callsV k s _ (Kd.C_below U0.out.1 HB) U0.out.2 (Kd.C_below U1.out.1 HB) U1.out.2 N2.out).mono ?_
          rintro e W1 ⟨u, rfl, hu, hb⟩
          refine ⟨_, rfl, ?_⟩
          refine hK.out _ _ ⟨((below_step HB hb).cell (World.block_lt_of_cell? wr _ Y0.out)).trans Y0.out, ((below_step HB hb).cell (World.block_lt_of_cell? wr _ Y1.out)).trans Y1.out⟩ (fun hHeld => ?_)
          clear hK K
          have hN := ST200 (p, u, 0, 0) W1 ⟨below_step HB hb, HP.below hb, hu.wide (fun k_ hk => ⟨Nat.le_trans HB.size hk, trivial, trivial⟩), trivial, trivial, trivial⟩
          refine norm_ ?_ hN
          show _ = putAll _ _
          (first | (simp only [putAll, Act.put, List.setIfInBounds_toArray, List.set_cons_zero, List.set_cons_succ, i64_w, i32_w]; done) | (simp only [putAll, Act.put, List.setIfInBounds_toArray, List.set_cons_zero, List.set_cons_succ, i64_w, i32_w]; rfl))
        · refine box_step (by rfl) rfl (cs := #[.slice none 0 0, .int .i64 0, .slice none 0 0, .slice none 0 0, .slice none 0 0]) (t := 30) (by first | (go_simp; done) | (go_simp; rfl)) ?_
          intro g hg W1 hk hb
          refine hK.out _ _ ⟨((below_step HB hb).cell (World.block_lt_of_cell? wr _ Y0.out)).trans Y0.out, ((below_step HB hb).cell (World.block_lt_of_cell? wr _ Y1.out)).trans Y1.out⟩ (fun hHeld => ?_)
          clear hK K
          have hN := ST110 (p, default, g, 0) W1 ⟨below_step HB hb, (CV.ok.below (HP.bound.wide (fun k_ hk => ⟨hk.1.1, (by have := hk.2; (try dsimp only); omega), trivial⟩)) hb), trivial, ⟨hk, by rw [hg]; exact HB.size⟩, trivial, trivial⟩
          refine norm_ ?_ hN
          show _ = putAll _ _
          (first | (simp only [putAll, Act.put, List.setIfInBounds_toArray, List.set_cons_zero, List.set_cons_succ, i64_w, i32_w]; done) | (simp only [putAll, Act.put, List.setIfInBounds_toArray, List.set_cons_zero, List.set_cons_succ, i64_w, i32_w]; rfl))
        · refine box_step (by rfl) rfl (cs := #[.slice none 0 0, .int .i64 0, .slice none 0 0, .slice none 0 0, .slice none 0 0]) (t := 30) (by first | (go_simp; done) | (go_simp; rfl)) ?_
          intro g hg W1 hk hb
          refine hK.out _ _ ⟨((below_step HB hb).cell (World.block_lt_of_cell? wr _ Y0.out)).trans Y0.out, ((below_step HB hb).cell (World.block_lt_of_cell? wr _ Y1.out)).trans Y1.out⟩ (fun hHeld => ?_)
          clear hK K
          have hN := ST101 (p, default, 0, g) W1 ⟨below_step HB hb, (CV.ok.below (HP.bound.wide (fun k_ hk => ⟨hk.1.1, trivial, (by have := hk.2; (try dsimp only); omega)⟩)) hb), trivial, trivial, ⟨hk, by rw [hg]; exact HB.size⟩, trivial⟩
          refine norm_ ?_ hN
          show _ = putAll _ _
          (first | (simp only [putAll, Act.put, List.setIfInBounds_toArray, List.set_cons_zero, List.set_cons_succ, i64_w, i32_w]; done) | (simp only [putAll, Act.put, List.setIfInBounds_toArray, List.set_cons_zero, List.set_cons_succ, i64_w, i32_w]; rfl))
      intro ST100
      have HB : Below wr.heap.size wr wr.drew := below_drew (Below.refl _ _)
      refine three_ (i := 5) (j := 12) (k := 13) (Ni := some 49) (Nj := some 19) (Nk := some 20) (bb 16 2047) (bb 16 6111) (bb 16 10207) rfl rfl rfl rfl rfl rfl (three_of HT_.out (by kernel_rfl)) (by decide) (by decide) (by decide) (fun K hK => ?_) (fun K hK => ?_) (fun K hK => ?_)
      · refine goes_ Try.func28 (by kernel_rfl) rfl #[.agg #[.slice B0 y.f0.length d0, .slice B1 y.f1.length d1], .int .i64 s] (by rfl) rfl rfl (by (try simp only [List.map_toArray, List.map_cons, List.map_nil]); first | done | rfl) ?_
        with_reducible refine (cell_Of.callsV  s _ (Kd.C_below U0.out.1 HB) U0.out.2 (Kd.C_below U1.out.1 HB) U1.out.2 N1.out).mono ?_
        rintro e W1 ⟨u, rfl, hu, hb⟩
        refine ⟨_, rfl, ?_⟩
        refine hK.out _ _ ⟨((below_step HB hb).cell (World.block_lt_of_cell? wr _ Y0.out)).trans Y0.out, ((below_step HB hb).cell (World.block_lt_of_cell? wr _ Y1.out)).trans Y1.out⟩ (fun hHeld => ?_)
        clear hK K
        have hN := ST100 (u, default, 0, 0) W1 ⟨below_step HB hb, hu.wide (fun k_ hk => ⟨Nat.le_trans HB.size hk, trivial, trivial⟩), trivial, trivial, trivial, trivial⟩
        refine norm_ ?_ hN
        show _ = putAll _ _
        (first | (simp only [putAll, Act.put, List.setIfInBounds_toArray, List.set_cons_zero, List.set_cons_succ, i64_w, i32_w]; done) | (simp only [putAll, Act.put, List.setIfInBounds_toArray, List.set_cons_zero, List.set_cons_succ, i64_w, i32_w]; rfl))
      · refine box_step (by rfl) rfl (cs := #[.slice none 0 0, .int .i64 0, .slice none 0 0, .slice none 0 0, .slice none 0 0]) (t := 30) (by first | (go_simp; done) | (go_simp; rfl)) ?_
        intro g hg W1 hk hb
        refine hK.out _ _ ⟨((below_step HB hb).cell (World.block_lt_of_cell? wr _ Y0.out)).trans Y0.out, ((below_step HB hb).cell (World.block_lt_of_cell? wr _ Y1.out)).trans Y1.out⟩ (fun hHeld => ?_)
        clear hK K
        have hN := ST010 (default, default, g, 0) W1 ⟨below_step HB hb, trivial, trivial, ⟨hk, by rw [hg]; exact HB.size⟩, trivial, trivial⟩
        refine norm_ ?_ hN
        show _ = putAll _ _
        (first | (simp only [putAll, Act.put, List.setIfInBounds_toArray, List.set_cons_zero, List.set_cons_succ, i64_w, i32_w]; done) | (simp only [putAll, Act.put, List.setIfInBounds_toArray, List.set_cons_zero, List.set_cons_succ, i64_w, i32_w]; rfl))
      · refine box_step (by rfl) rfl (cs := #[.slice none 0 0, .int .i64 0, .slice none 0 0, .slice none 0 0, .slice none 0 0]) (t := 30) (by first | (go_simp; done) | (go_simp; rfl)) ?_
        intro g hg W1 hk hb
        refine hK.out _ _ ⟨((below_step HB hb).cell (World.block_lt_of_cell? wr _ Y0.out)).trans Y0.out, ((below_step HB hb).cell (World.block_lt_of_cell? wr _ Y1.out)).trans Y1.out⟩ (fun hHeld => ?_)
        clear hK K
        have hN := ST001 (default, default, 0, g) W1 ⟨below_step HB hb, trivial, trivial, trivial, ⟨hk, by rw [hg]; exact HB.size⟩, trivial⟩
        refine norm_ ?_ hN
        show _ = putAll _ _
        (first | (simp only [putAll, Act.put, List.setIfInBounds_toArray, List.set_cons_zero, List.set_cons_succ, i64_w, i32_w]; done) | (simp only [putAll, Act.put, List.setIfInBounds_toArray, List.set_cons_zero, List.set_cons_succ, i64_w, i32_w]; rfl))
    rintro ⟨p, q, g1, g2⟩ W ⟨HB, HP, HQ, HG1, HG2, HNE⟩
    dsimp only at *
    refine norm_ (a' := ?_) ?_ ?_
    rotate_left
    · show putAll _ _ = _
      (first | (simp only [putAll, Act.put, List.setIfInBounds_toArray, List.set_cons_zero, List.set_cons_succ, i64_w, i32_w]; done) | (simp only [putAll, Act.put, List.setIfInBounds_toArray, List.set_cons_zero, List.set_cons_succ, i64_w, i32_w]; rfl))
    refine last_ (i := 14) (N := none) (bb 16 32767) rfl rfl (one_of HT_.out (by kernel_rfl)) (by decide) (fun K hK => ?_)
    refine skip_ (w1 := W.setCells g1 0 (CV.seg p x)) rfl rfl (box_run (t := 30) (p := .tmp 19) (x := .tmp 49) rfl HG1.1 rfl rfl rfl (by rfl) (by rfl) (CV.one p x)) ?_
    refine hK.out _ _ ?_
    clear hK K
    refine last_ (i := 15) (N := none) (bb 16 65535) rfl rfl (one_of HT_.out (by kernel_rfl)) (by decide) (fun K hK => ?_)
    refine skip_ (w1 := (W.setCells g1 0 (CV.seg p x)).setCells g2 0 (CV.seg q z)) rfl rfl (box_run (t := 30) (p := .tmp 20) (x := .tmp 55) rfl (box_other _ HNE.symm HG2.1) rfl rfl rfl (by rfl) (by rfl) (CV.one q z)) ?_
    refine hK.out _ _ ?_
    clear hK K
    refine done_ (done_of HT_.out (by kernel_rfl)) ?_
    have K1 := box_other (CV.seg q z) HNE (box_put (w0 := W) (base := 0) (CV.seg p x) HG1.1 rfl)
    have K2 := box_put (w0 := W) (base := 0) (CV.seg q z) (box_other (CV.seg p x) HNE.symm HG2.1) rfl
    have P1 := (HP.box (g := g1) (seg := CV.seg p x) (fun k_ hk => hk.2.1)).box (g := g2) (seg := CV.seg q z) (fun k_ hk => hk.2.2)
    have Q1 := (HQ.box (g := g1) (seg := CV.seg p x) (fun k_ hk => hk.2.1)).box (g := g2) (seg := CV.seg q z) (fun k_ hk => hk.2.2)
    have HBy := box_far (g := g2) (CV.seg q z) HG2.2 (box_far (g := g1) (CV.seg p x) HG1.2 HB)
    generalize (W.setCells g1 0 (CV.seg p x)).setCells g2 0 (CV.seg q z) = wy at *
    have KK1 := am K1
    have KK2 := am K2
    have PP := am (P1.wide (fun k_ hk => hk.1))
    have QQ := am (Q1.wide (fun k_ hk => hk.1))
    have HBB := am HBy
    clear K1 K2 P1 Q1 HBy HP HQ HG1 HG2 HNE HB
    go_wp2
    have Eg10 := am (bc KK1 0)
    have Eg11 := am (bc KK1 1)
    have Eg12 := am (bc KK1 2)
    have Eg13 := am (bc KK1 3)
    have Eg14 := am (bc KK1 4)
    have Eg20 := am (bc KK2 0)
    have Eg21 := am (bc KK2 1)
    have Eg22 := am (bc KK2 2)
    have Eg23 := am (bc KK2 3)
    have Eg24 := am (bc KK2 4)
    refine start_ (n := 26) (S := fun w' => w'.cell? ⟨g1, 0, none⟩ = some (.slice p.A0 x.f0.length p.c0) ∧ w'.cell? ⟨g1, 1, none⟩ = some (.int .i64 x.f1) ∧ w'.cell? ⟨g1, 2, none⟩ = some (.slice p.A2 x.f2.length p.c2) ∧ w'.cell? ⟨g1, 3, none⟩ = some (.slice p.A3 x.f3.length p.c3) ∧ w'.cell? ⟨g1, 4, none⟩ = some (.slice p.A4 x.f4.length p.c4) ∧ w'.cell? ⟨g2, 0, none⟩ = some (.slice q.A0 z.f0.length q.c0) ∧ w'.cell? ⟨g2, 1, none⟩ = some (.int .i64 z.f1) ∧ w'.cell? ⟨g2, 2, none⟩ = some (.slice q.A2 z.f2.length q.c2) ∧ w'.cell? ⟨g2, 3, none⟩ = some (.slice q.A3 z.f3.length q.c3) ∧ w'.cell? ⟨g2, 4, none⟩ = some (.slice q.A4 z.f4.length q.c4)) (ds := []) (bb 26 0) (by kernel_rfl) rfl rfl ⟨Eg10.out, Eg11.out, Eg12.out, Eg13.out, Eg14.out, Eg20.out, Eg21.out, Eg22.out, Eg23.out, Eg24.out⟩ (fun hHeld => ?_)
    refine with_tabW hypercubelaw2_CellAll.tab11 hypercubelaw2_CellAll.bits11 (fun HT_ HW_ => ?_)
    have HB := am (below_drew (Below.refl wy.heap.size wy))
    generalize wy.drew = wd at HB hHeld ⊢
    refine tk (i := 0) (N := some 56) (bb 26 1) HT_ HW_ hHeld ?_
    refine tk (i := 1) (N := some 57) (bb 26 3) HT_ HW_ hHeld ?_
    refine one_ (i := 2) (N := some 58) (bb 26 7) rfl rfl (one_of HT_.out (by kernel_rfl)) (by decide) (fun K hK => ?_)
    refine goes_ Try.func22 (by kernel_rfl) rfl #[CV.val p x, CV.val q z] (by rfl) rfl rfl (by (try simp only [List.map_toArray, List.map_cons, List.map_nil]); first | done | rfl) ?_
    with_reducible refine (hypercuberef2_Equal.callsV k _ (PP.out.rd.below HB.out) (QQ.out.rd.below HB.out) N3.out).mono ?_

    rintro e wd2 ⟨rfl, hb⟩
    replace HB := am (below_step HB.out hb)
    clear hb
    refine ⟨_, rfl, ?_⟩
    refine hK.out _ _ ⟨(HB.out.cell (World.block_lt_of_cell? wy _ Eg10.out)).trans Eg10.out, (HB.out.cell (World.block_lt_of_cell? wy _ Eg11.out)).trans Eg11.out, (HB.out.cell (World.block_lt_of_cell? wy _ Eg12.out)).trans Eg12.out, (HB.out.cell (World.block_lt_of_cell? wy _ Eg13.out)).trans Eg13.out, (HB.out.cell (World.block_lt_of_cell? wy _ Eg14.out)).trans Eg14.out, (HB.out.cell (World.block_lt_of_cell? wy _ Eg20.out)).trans Eg20.out, (HB.out.cell (World.block_lt_of_cell? wy _ Eg21.out)).trans Eg21.out, (HB.out.cell (World.block_lt_of_cell? wy _ Eg22.out)).trans Eg22.out, (HB.out.cell (World.block_lt_of_cell? wy _ Eg23.out)).trans Eg23.out, (HB.out.cell (World.block_lt_of_cell? wy _ Eg24.out)).trans Eg24.out⟩ (fun hHeld => ?_)
    clear hK K
    refine nm ?_
    refine pu (i := 3) (N := some 59) (bb 26 15) HT_ ?_
    refine pu (i := 4) (N := some 60) (bb 26 31) HT_ ?_
    refine pu (i := 6) (N := some 62) (bb 26 95) HT_ ?_
    refine pu (i := 7) (N := some 63) (bb 26 223) HT_ ?_
    refine pu (i := 10) (N := some 66) (bb 26 1247) HT_ ?_
    refine pu (i := 11) (N := some 67) (bb 26 3295) HT_ ?_
    refine tk (i := 5) (N := some 61) (bb 26 3327) HT_ HW_ hHeld ?_
    refine tk (i := 9) (N := some 65) (bb 26 3839) HT_ HW_ hHeld ?_
    refine one_ (i := 8) (N := some 64) (bb 26 4095) rfl rfl (one_of HT_.out (by kernel_rfl)) (by decide) (fun K hK => ?_)
    refine goes_ Try.func31 (by kernel_rfl) rfl #[CV.val q z, .int .i64 s, .int .i64 (Go.bits .and .i64 s qq)] (by rfl) rfl rfl (by (try simp only [List.map_toArray, List.map_cons, List.map_nil]); first | done | rfl) ?_
    with_reducible refine (cell_Narrow.callsV s (Go.bits .and .i64 s qq) _ (QQ.out.rd.below HB.out) N4.out).mono ?_

    rintro e wd3 ⟨ua, rfl, hu, hb⟩
    replace HB := am (below_step HB.out hb)
    clear hb
    refine ⟨_, rfl, ?_⟩
    have Rua := am hu.rd
    clear hu
    refine hK.out _ _ ⟨(HB.out.cell (World.block_lt_of_cell? wy _ Eg10.out)).trans Eg10.out, (HB.out.cell (World.block_lt_of_cell? wy _ Eg11.out)).trans Eg11.out, (HB.out.cell (World.block_lt_of_cell? wy _ Eg12.out)).trans Eg12.out, (HB.out.cell (World.block_lt_of_cell? wy _ Eg13.out)).trans Eg13.out, (HB.out.cell (World.block_lt_of_cell? wy _ Eg14.out)).trans Eg14.out, (HB.out.cell (World.block_lt_of_cell? wy _ Eg20.out)).trans Eg20.out, (HB.out.cell (World.block_lt_of_cell? wy _ Eg21.out)).trans Eg21.out, (HB.out.cell (World.block_lt_of_cell? wy _ Eg22.out)).trans Eg22.out, (HB.out.cell (World.block_lt_of_cell? wy _ Eg23.out)).trans Eg23.out, (HB.out.cell (World.block_lt_of_cell? wy _ Eg24.out)).trans Eg24.out⟩ (fun hHeld => ?_)
    clear hK K
    refine nm ?_
    refine one_ (i := 12) (N := some 68) (bb 26 8191) rfl rfl (one_of HT_.out (by kernel_rfl)) (by decide) (fun K hK => ?_)
    refine goes_ Try.func32 (by kernel_rfl) rfl #[CV.val q z, .int .i64 s, .int .i64 (Go.bits .and .i64 s qq)] (by rfl) rfl rfl (by (try simp only [List.map_toArray, List.map_cons, List.map_nil]); first | done | rfl) ?_
    with_reducible refine (hypercuberef2_Narrow.callsV k s (Go.bits .and .i64 s qq) _ (QQ.out.rd.below HB.out) N5.out).mono ?_

    rintro e wd4 ⟨ub, rfl, hu, hb⟩
    replace Rua := am (Rua.out.below hb)
    replace HB := am (below_step HB.out hb)
    clear hb
    refine ⟨_, rfl, ?_⟩
    have Rub := am hu.rd
    clear hu
    refine hK.out _ _ ⟨(HB.out.cell (World.block_lt_of_cell? wy _ Eg10.out)).trans Eg10.out, (HB.out.cell (World.block_lt_of_cell? wy _ Eg11.out)).trans Eg11.out, (HB.out.cell (World.block_lt_of_cell? wy _ Eg12.out)).trans Eg12.out, (HB.out.cell (World.block_lt_of_cell? wy _ Eg13.out)).trans Eg13.out, (HB.out.cell (World.block_lt_of_cell? wy _ Eg14.out)).trans Eg14.out, (HB.out.cell (World.block_lt_of_cell? wy _ Eg20.out)).trans Eg20.out, (HB.out.cell (World.block_lt_of_cell? wy _ Eg21.out)).trans Eg21.out, (HB.out.cell (World.block_lt_of_cell? wy _ Eg22.out)).trans Eg22.out, (HB.out.cell (World.block_lt_of_cell? wy _ Eg23.out)).trans Eg23.out, (HB.out.cell (World.block_lt_of_cell? wy _ Eg24.out)).trans Eg24.out⟩ (fun hHeld => ?_)
    clear hK K
    refine nm ?_
    refine one_ (i := 13) (N := some 69) (bb 26 16383) rfl rfl (one_of HT_.out (by kernel_rfl)) (by decide) (fun K hK => ?_)
    refine goes_ Try.func22 (by kernel_rfl) rfl #[CV.val ua n, CV.val ub n] (by rfl) rfl rfl (by (try simp only [List.map_toArray, List.map_cons, List.map_nil]); first | done | rfl) ?_
    with_reducible refine (hypercuberef2_Equal.callsV k _ Rua.out Rub.out N6.out).mono ?_

    rintro e wd5 ⟨rfl, hb⟩
    replace Rua := am (Rua.out.below hb)
    replace Rub := am (Rub.out.below hb)
    replace HB := am (below_step HB.out hb)
    clear hb
    refine ⟨_, rfl, ?_⟩
    refine hK.out _ _ ⟨(HB.out.cell (World.block_lt_of_cell? wy _ Eg10.out)).trans Eg10.out, (HB.out.cell (World.block_lt_of_cell? wy _ Eg11.out)).trans Eg11.out, (HB.out.cell (World.block_lt_of_cell? wy _ Eg12.out)).trans Eg12.out, (HB.out.cell (World.block_lt_of_cell? wy _ Eg13.out)).trans Eg13.out, (HB.out.cell (World.block_lt_of_cell? wy _ Eg14.out)).trans Eg14.out, (HB.out.cell (World.block_lt_of_cell? wy _ Eg20.out)).trans Eg20.out, (HB.out.cell (World.block_lt_of_cell? wy _ Eg21.out)).trans Eg21.out, (HB.out.cell (World.block_lt_of_cell? wy _ Eg22.out)).trans Eg22.out, (HB.out.cell (World.block_lt_of_cell? wy _ Eg23.out)).trans Eg23.out, (HB.out.cell (World.block_lt_of_cell? wy _ Eg24.out)).trans Eg24.out⟩ (fun hHeld => ?_)
    clear hK K
    refine nm ?_
    refine pu (i := 14) (N := some 70) (bb 26 32767) HT_ ?_
    refine pu (i := 15) (N := some 71) (bb 26 65535) HT_ ?_
    refine pu (i := 16) (N := some 72) (bb 26 131071) HT_ ?_
    refine tk (i := 17) (N := some 73) (bb 26 262143) HT_ HW_ hHeld ?_
    refine tk (i := 18) (N := some 74) (bb 26 524287) HT_ HW_ hHeld ?_
    refine tk (i := 20) (N := some 76) (bb 26 1572863) HT_ HW_ hHeld ?_
    refine tk (i := 21) (N := some 77) (bb 26 3670015) HT_ HW_ hHeld ?_
    refine one_ (i := 19) (N := some 75) (bb 26 4194303) rfl rfl (one_of HT_.out (by kernel_rfl)) (by decide) (fun K hK => ?_)
    refine goes_ Try.func21 (by kernel_rfl) rfl #[CV.val p x, CV.val p x] (by rfl) rfl rfl (by (try simp only [List.map_toArray, List.map_cons, List.map_nil]); first | done | rfl) ?_
    with_reducible refine (cell_Join.callsV k _ (PP.out.rd.below HB.out) (PP.out.rd.below HB.out) N7.out).mono ?_

    rintro e wd6 ⟨uc, rfl, hu, hb⟩
    replace Rua := am (Rua.out.below hb)
    replace Rub := am (Rub.out.below hb)
    replace HB := am (below_step HB.out hb)
    clear hb
    refine ⟨_, rfl, ?_⟩
    have Ruc := am hu.rd
    clear hu
    refine hK.out _ _ ⟨(HB.out.cell (World.block_lt_of_cell? wy _ Eg10.out)).trans Eg10.out, (HB.out.cell (World.block_lt_of_cell? wy _ Eg11.out)).trans Eg11.out, (HB.out.cell (World.block_lt_of_cell? wy _ Eg12.out)).trans Eg12.out, (HB.out.cell (World.block_lt_of_cell? wy _ Eg13.out)).trans Eg13.out, (HB.out.cell (World.block_lt_of_cell? wy _ Eg14.out)).trans Eg14.out, (HB.out.cell (World.block_lt_of_cell? wy _ Eg20.out)).trans Eg20.out, (HB.out.cell (World.block_lt_of_cell? wy _ Eg21.out)).trans Eg21.out, (HB.out.cell (World.block_lt_of_cell? wy _ Eg22.out)).trans Eg22.out, (HB.out.cell (World.block_lt_of_cell? wy _ Eg23.out)).trans Eg23.out, (HB.out.cell (World.block_lt_of_cell? wy _ Eg24.out)).trans Eg24.out⟩ (fun hHeld => ?_)
    clear hK K
    refine nm ?_
    refine one_ (i := 22) (N := some 78) (bb 26 8388607) rfl rfl (one_of HT_.out (by kernel_rfl)) (by decide) (fun K hK => ?_)
    refine goes_ Try.func33 (by kernel_rfl) rfl #[CV.val q z, CV.val q z] (by rfl) rfl rfl (by (try simp only [List.map_toArray, List.map_cons, List.map_nil]); first | done | rfl) ?_
    with_reducible refine (hypercuberef2_Join.callsV k _ (QQ.out.rd.below HB.out) (QQ.out.rd.below HB.out) N8.out).mono ?_

    rintro e wd7 ⟨ud, rfl, hu, hb⟩
    replace Rua := am (Rua.out.below hb)
    replace Rub := am (Rub.out.below hb)
    replace Ruc := am (Ruc.out.below hb)
    replace HB := am (below_step HB.out hb)
    clear hb
    refine ⟨_, rfl, ?_⟩
    have Rud := am hu.rd
    clear hu
    refine hK.out _ _ ⟨(HB.out.cell (World.block_lt_of_cell? wy _ Eg10.out)).trans Eg10.out, (HB.out.cell (World.block_lt_of_cell? wy _ Eg11.out)).trans Eg11.out, (HB.out.cell (World.block_lt_of_cell? wy _ Eg12.out)).trans Eg12.out, (HB.out.cell (World.block_lt_of_cell? wy _ Eg13.out)).trans Eg13.out, (HB.out.cell (World.block_lt_of_cell? wy _ Eg14.out)).trans Eg14.out, (HB.out.cell (World.block_lt_of_cell? wy _ Eg20.out)).trans Eg20.out, (HB.out.cell (World.block_lt_of_cell? wy _ Eg21.out)).trans Eg21.out, (HB.out.cell (World.block_lt_of_cell? wy _ Eg22.out)).trans Eg22.out, (HB.out.cell (World.block_lt_of_cell? wy _ Eg23.out)).trans Eg23.out, (HB.out.cell (World.block_lt_of_cell? wy _ Eg24.out)).trans Eg24.out⟩ (fun hHeld => ?_)
    clear hK K
    refine nm ?_
    refine one_ (i := 23) (N := some 79) (bb 26 16777215) rfl rfl (one_of HT_.out (by kernel_rfl)) (by decide) (fun K hK => ?_)
    refine goes_ Try.func22 (by kernel_rfl) rfl #[CV.val uc j, CV.val ud j] (by rfl) rfl rfl (by (try simp only [List.map_toArray, List.map_cons, List.map_nil]); first | done | rfl) ?_
    with_reducible refine (hypercuberef2_Equal.callsV k _ Ruc.out Rud.out N9.out).mono ?_

    rintro e wd8 ⟨rfl, hb⟩
    replace Rua := am (Rua.out.below hb)
    replace Rub := am (Rub.out.below hb)
    replace Ruc := am (Ruc.out.below hb)
    replace Rud := am (Rud.out.below hb)
    replace HB := am (below_step HB.out hb)
    clear hb
    refine ⟨_, rfl, ?_⟩
    refine hK.out _ _ ⟨(HB.out.cell (World.block_lt_of_cell? wy _ Eg10.out)).trans Eg10.out, (HB.out.cell (World.block_lt_of_cell? wy _ Eg11.out)).trans Eg11.out, (HB.out.cell (World.block_lt_of_cell? wy _ Eg12.out)).trans Eg12.out, (HB.out.cell (World.block_lt_of_cell? wy _ Eg13.out)).trans Eg13.out, (HB.out.cell (World.block_lt_of_cell? wy _ Eg14.out)).trans Eg14.out, (HB.out.cell (World.block_lt_of_cell? wy _ Eg20.out)).trans Eg20.out, (HB.out.cell (World.block_lt_of_cell? wy _ Eg21.out)).trans Eg21.out, (HB.out.cell (World.block_lt_of_cell? wy _ Eg22.out)).trans Eg22.out, (HB.out.cell (World.block_lt_of_cell? wy _ Eg23.out)).trans Eg23.out, (HB.out.cell (World.block_lt_of_cell? wy _ Eg24.out)).trans Eg24.out⟩ (fun hHeld => ?_)
    clear hK K
    refine nm ?_
    refine pu (i := 24) (N := some 80) (bb 26 33554431) HT_ ?_
    refine pu (i := 25) (N := some 81) (bb 26 67108863) HT_ ?_
    refine done_ (done_of HT_.out (by kernel_rfl)) ?_
    have q0 := bc (am (blk_below KK2.out HB.out)) 0
    have q1 := bc (am (blk_below KK2.out HB.out)) 1
    have q2 := bc (am (blk_below KK2.out HB.out)) 2
    have q3 := bc (am (blk_below KK2.out HB.out)) 3
    have q4 := bc (am (blk_below KK2.out HB.out)) 4
    have HBW := am (below_step HBB.out HB.out)
    have HN0 := am (Kd.N_lt HN.out)
    have HNW := am (Kd.N_below HN.out HBW.out)
    have HSW := am (below_step HS.out HBW.out)
    have HF := am (QQ.out.below HB.out).FK
    clear Rua Rub Ruc Rud
    go_wp2_with (first
    | ((with_reducible refine gate_builtin (b := .append) (xs := #[.tmp 82, .tmp 84]) rfl ?_); (try (refine gate_guard (by rfl) ?_; dsimp only)); at_builtin; refine Kd.N_append k30 (w0 := w6) w6.heap.size rfl (.tmp 82) (.tmp 84) 28 30 (.agg #[(.slice none 0 0), (.int .i64 0), (.slice none 0 0), (.slice none 0 0), (.slice none 0 0)]) 104 rfl Try.underlying28 info30 rfl (by decide) (by omega) (.slice Al ol.length cl) ol z (CV.seg q z) (fun _ => True) (fun k_ => wr.heap.size ≤ k_) rfl rfl HF.out ?aK (fun _ _ => trivial) HNW.out HSW.out HSW.out.size ?aL ?_; (case aK => exact fun k_ hk => ⟨trivial, fun e_ => by have e2_ := HN0.out k_ e_.symm; omega⟩); (case aL => have := HLL.out; omega); intro vv wz ho hb hg hat; have HNz := am ho; have HSz := am hb; clear ho hb hg hat))
    go_roundg k1
    case measure => omega
    case rel => exact ⟨i + 1, by first | rfl | simp [hwi], ⟨by have := HI.out; have := HHI.out; omega, by have := HHI.out; omega⟩, HSz, ⟨by rw [HOS.out]; exact HNz.out⟩⟩
  · have hc1 : decide ((i : Int) < (rows.length : Int)) = false := decide_eq_false (by omega)
    have hc3 : decide (i < rows.length) = false := decide_eq_false hi
    have hti : os.take i = os := List.take_of_length_le (by have := H4.out; omega)
    have hn := HN.out
    rw [hti] at hn ⊢
    have HM := am (Kd.N_reads' hn).2
    have HYr := am (Kd.C_below HY6.out HS.out)
    have HBr := am (below_step HB6.out HS.out)
    clear hi hti hn
    go_wp2_with (first
    | (go_at_call 26
       (with_reducible refine (cell_Group.calls k Al cl os g wr HM.out.2 HM.out.1 H6.out).mono ?_)
       rintro e wq1 ⟨v1, rfl, ho0, hb⟩
       have HM1 := am (Kd.C_below HM.out.2 hb)
       have HYr1 := am (Kd.C_below HYr.out hb)
       have HBr1 := am (below_step HBr.out hb)
       obtain ⟨A21, c21, rfl⟩ := Kd.S_slice ho0
       have G1 := am (Kd.S_reads' ho0).2
       clear ho0
       clear hb)
    | (go_at_call 34
       (with_reducible refine (hypercuberef2_Group.calls k Al cl os g wq1 HM1.out HM.out.1 H7.out).mono ?_)
       rintro e wq2 ⟨v2, rfl, ho0, hb⟩
       have HM2 := am (Kd.C_below HM1.out hb)
       have HYr2 := am (Kd.C_below HYr1.out hb)
       have HBr2 := am (below_step HBr1.out hb)
       obtain ⟨A22, c22, rfl⟩ := Kd.N_slice ho0
       have G2 := am (Kd.N_reads' ho0).2
       have G12 := am (Kd.C_below G1.out.2 hb)
       clear ho0
       clear hb)
    | (go_at_call 27
       (with_reducible refine (hypercuberef2_Same.calls k A21 c21 g A22 c22 g true wq2 G12.out G1.out.1 G2.out.2 G2.out.1 H8.out).mono ?_)
       rintro e wq3 ⟨rfl, hb⟩
       have HM3 := am (Kd.C_below HM2.out hb)
       have HYr3 := am (Kd.C_below HYr2.out hb)
       have HBr3 := am (below_step HBr2.out hb)
       clear hb)
    | (go_at_call 26
       (with_reducible refine (cell_Group.calls k Al cl os g wq3 HM3.out HM.out.1 H6.out).mono ?_)
       rintro e wq4 ⟨v4, rfl, ho0, hb⟩
       have HYr4 := am (Kd.C_below HYr3.out hb)
       have HBr4 := am (below_step HBr3.out hb)
       obtain ⟨A24, c24, rfl⟩ := Kd.S_slice ho0
       have G4 := am (Kd.S_reads' ho0).2
       clear ho0
       clear hb)
    | (go_at_call 29
       (with_reducible refine (hypercuberef2_Facts.calls k A15 c15 rows s g wq4 HYr4.out HY.out.1 H9.out).mono ?_)
       rintro e wq5 ⟨v5, rfl, ho0, hb⟩
       have HBr5 := am (below_step HBr4.out hb)
       obtain ⟨A25, c25, rfl⟩ := Kd.N_slice ho0
       have G5 := am (Kd.N_reads' ho0).2
       have G45 := am (Kd.C_below G4.out.2 hb)
       clear ho0
       clear hb)
    | (go_at_call 27
       (with_reducible refine (hypercuberef2_Same.calls k A24 c24 g A25 c25 g true wq5 G45.out G4.out.1 G5.out.2 G5.out.1 H8.out).mono ?_)
       rintro e wq6 ⟨rfl, hb⟩
       have HBr6 := am (below_step HBr5.out hb)
       clear hb))
    go_ret
    exact ⟨rfl, HBr6.out⟩
theorem hypercubelaw2_CellAll.walk (P : hypercubelaw2_CellAll.Pure) (a0 : Int) (a1 : Option Addr) (len1 cap1 : Nat) (z1 : List Int) (a2 : Int) (a3 : Option Addr) (len3 cap3 : Nat) (z3 : List Int) (a4 : Int) (a5 : Int) (w : World) (w0 : (Lit.int .i64 a0).wf = true) (w1 : (a1 = none ∧ len1 = 0 ∧ cap1 = 0 ∧ z1 = []) ∨ ∃ x, a1 = some x ∧ len1 ≤ cap1 ∧ cap1 ≤ maxLen ∧ z1.length = cap1 ∧ (∀ i, i < z1.length → w.cell? (x.add i) = some (.int .i64 (z1.getD i 0))) ∧ ∀ n ∈ z1, (Lit.int .i64 n).wf = true) (y1 : len1 * 8 ≤ 140737488351232) (w2 : (Lit.int .i64 a2).wf = true) (w3 : (a3 = none ∧ len3 = 0 ∧ cap3 = 0 ∧ z3 = []) ∨ ∃ x, a3 = some x ∧ len3 ≤ cap3 ∧ cap3 ≤ maxLen ∧ z3.length = cap3 ∧ (∀ i, i < z3.length → w.cell? (x.add i) = some (.int .i64 (z3.getD i 0))) ∧ ∀ n ∈ z3, (Lit.int .i64 n).wf = true) (y3 : len3 * 8 ≤ 140737488351232) (w4 : (Lit.int .i64 a4).wf = true) (w5 : (Lit.int .i64 a5).wf = true) :
  Calls Try.prog 11 #[.int .i64 a0, .slice a1 len1 cap1, .int .i64 a2, .slice a3 len3 cap3, .int .i64 a4, .int .i64 a5] w fun e w' => e = .returned (.bool true) ∧ Below w.heap.size w w' := by
 obtain ⟨l1, rfl, hr1, hm1, hw1, hc1⟩ := ReadsInt.ofRowC w1
 obtain ⟨l3, rfl, hr3, hm3, hw3, hc3⟩ := ReadsInt.ofRowC w3
 obtain ⟨k, cards, meas, rows, s, qq, os, g, h1, h2, h3, h4, h5, h6, h7, h8, h9⟩ := P a0 l1 a2 l3 a4 a5 w0 hm1 y1 hw1 w2 hm3 y3 hw3 w4 w5
 exact hypercubelaw2_CellAll.calls k a0 _ _ l1 a2 _ _ l3 a4 a5 w (Kd.C_of_reads (d := (0 : Int)) (h1 := fun _ => rfl) hr1) hc1 (Kd.C_of_reads (d := (0 : Int)) (h1 := fun _ => rfl) hr3) hc3 h1 h2 h3 h4 h5 h6 h7 h8 h9
theorem w64 {x : Int} (h0 : -9223372036854775808 ≤ x) (h1 : x ≤ 9223372036854775807) : wrap64 x = x := by unfold wrap64; omega
theorem w64s {i n : Nat} (h : i < n) (hn : n ≤ 4611686018427387904) : wrap64 ((i : Int) + 1) = ((i + 1 : Nat) : Int) := by unfold wrap64; omega
theorem within2_eq (a n : Int) (h0 : 0 < n) (h1 : n ≤ 4611686018427387904) : hypercubelaw2_within.f a n = some (a % n) := by
 unfold hypercubelaw2_within.f
 rw [if_neg (by omega)]
 have hb := Int.emod_nonneg a (show n ≠ 0 by omega)
 have hl := Int.emod_lt_of_pos a h0
 by_cases ha : 0 ≤ a
 ·rw [Int.tmod_eq_emod_of_nonneg ha, if_neg (by omega)]
 ·have ht : Int.tmod a n = if a % n = 0 then 0 else a % n - n := by
   rw [Int.tmod_eq_emod]
   split
   ·rename_i h
    rcases h with h | h
    ·omega
    ·rw [Int.emod_eq_zero_of_dvd h]; simp
   ·rename_i h
    have : a % n ≠ 0 := fun e => h (.inr (Int.dvd_of_emod_eq_zero e))
    rw [if_neg this, Int.natAbs_of_nonneg (by omega)]
  by_cases hz : a % n = 0
  ·rw [ht, if_pos hz, if_neg (by omega), hz]
  ·rw [ht, if_neg hz, if_pos (by omega)]
   congr 1
   rw [w64 (by omega) (by omega)]
   omega
theorem rd_get {l : List Int} {i : Nat} (h : i < l.length) : rd l (i : Int) = l[i] := by simp [rd, List.getD_eq_getElem?_getD, h]
theorem drop_cons {α : Type} {l : List α} {i : Nat} (h : i < l.length) : l.drop i = l[i] :: l.drop (i + 1) := List.drop_eq_getElem_cons h
theorem dec_cons_eq {α : Type} [DecidableEq α] {x y : α} (l l' : List α) (h : x = y) : decide (x :: l = y :: l') = decide (l = l') := by subst h; simp
theorem dec_cons_ne {α : Type} [DecidableEq α] {x y : α} (l l' : List α) (h : ¬ x = y) : decide (x :: l = y :: l') = false := by simp [h]
theorem ints_l0 (a b : List Int) (hl : a.length = b.length) (hn : a.length ≤ 4611686018427387904) (d : Nat) : ∀ i : Nat, a.length - i = d → i ≤ a.length →
  Ev (fun k => hypercuberef1_Ints.l0 k a b (i : Int)) (decide (a.drop i = b.drop i)) := by
 induction d with
 | zero =>
  intro i hd hi
  have e1 : a.drop i = [] := List.drop_eq_nil_of_le (by omega)
  have e2 : b.drop i = [] := List.drop_eq_nil_of_le (by omega)
  rw [e1, e2]
  exact Ev.step (fun k => by simp only [hypercuberef1_Ints.l0]; rw [if_neg (by omega)]; rfl) (Ev.now _)
 | succ d ih =>
  intro i hd hi
  have ha : i < a.length := by omega
  have hb : i < b.length := by omega
  rw [drop_cons ha, drop_cons hb]
  by_cases he : a[i] = b[i]
  ·rw [dec_cons_eq _ _ he]
   exact Ev.step (fun k => by simp only [hypercuberef1_Ints.l0]; rw [if_pos (by omega), if_pos (by omega), if_pos (by omega), rd_get ha, rd_get hb, if_pos he, w64s ha hn]) (ih (i + 1) (by omega) (by omega))
  ·rw [dec_cons_ne _ _ he]
   exact Ev.step (fun k => by simp only [hypercuberef1_Ints.l0]; rw [if_pos (by omega), if_pos (by omega), if_pos (by omega), rd_get ha, rd_get hb, if_neg he]) (Ev.now _)
theorem ints_ev (a b : List Int) (hn : a.length ≤ 4611686018427387904) : Ev (fun k => hypercuberef1_Ints.f k a b) (decide (a = b)) := by
 by_cases hl : a.length = b.length
 ·have h := ints_l0 a b hl hn a.length 0 (by omega) (by omega)
  simp only [List.drop_zero] at h
  exact Ev.congr (fun k => by unfold hypercuberef1_Ints.f; rw [if_pos (by omega)]; rfl) h
 ·have : decide (a = b) = false := by
   rw [decide_eq_false_iff_not]; intro e; exact hl (by rw [e])
  rw [this]
  exact Ev.congr (fun k => by unfold hypercuberef1_Ints.f; rw [if_neg (by omega)]) (Ev.now _)
def lexC : List Int → List Int → Int
 | [], [] => 0
 | [], _ :: _ => -1
 | _ :: _, [] => 1
 | x :: xs, y :: ys => if x < y then -1 else if x > y then 1 else lexC xs ys
theorem lexC_nil_right (a : List Int) (h : a ≠ []) : lexC a [] = 1 := by cases a with
 | nil => exact absurd rfl h
 | cons => rfl
theorem lexC_nil_left (a : List Int) (h : a ≠ []) : lexC [] a = -1 := by cases a with
 | nil => exact absurd rfl h
 | cons => rfl
theorem lexC_swap : ∀ a b : List Int, lexC b a = 0 - lexC a b
 | [], [] => rfl
 | [], _ :: _ => rfl
 | _ :: _, [] => rfl
 | x :: xs, y :: ys => by
  have ih := lexC_swap xs ys
  unfold lexC
  repeat' split
  all_goals omega
theorem lexC_zero : ∀ a b : List Int, lexC a b = 0 ↔ a = b
 | [], [] => by simp [lexC]
 | [], _ :: _ => by simp [lexC]
 | _ :: _, [] => by simp [lexC]
 | x :: xs, y :: ys => by
  unfold lexC
  by_cases h1 : x < y
  ·rw [if_pos h1]; simp; omega
  ·by_cases h2 : x > y
   ·rw [if_neg h1, if_pos h2]; simp; omega
   ·rw [if_neg h1, if_neg h2]
    have : x = y := by omega
    subst this
    simp [lexC_zero xs ys]
theorem lexC_trans : ∀ a b c : List Int, lexC a b ≤ 0 → lexC b c ≤ 0 → lexC a c ≤ 0
 | [], _, [] => by simp [lexC]
 | [], _, _ :: _ => by simp [lexC]
 | _ :: _, [], _ => by simp [lexC]
 | _ :: _, _ :: _, [] => by simp [lexC]
 | x :: xs, y :: ys, z :: zs => by
  intro h1 h2
  unfold lexC at h1 h2 ⊢
  have ih := lexC_trans xs ys zs
  by_cases a1 : x < y
  ·by_cases a2 : y < z
   ·rw [if_pos (by omega)]; omega
   ·rw [if_neg a2] at h2
    by_cases a3 : y > z
    ·rw [if_pos a3] at h2; omega
    ·rw [if_pos (by omega)]; omega
  ·rw [if_neg a1] at h1
   by_cases a3 : x > y
   ·rw [if_pos a3] at h1; omega
   ·rw [if_neg a3] at h1
    by_cases a2 : y < z
    ·rw [if_pos (by omega)]; omega
    ·rw [if_neg a2] at h2
     by_cases a4 : y > z
     ·rw [if_pos a4] at h2; omega
     ·rw [if_neg a4] at h2
      rw [if_neg (by omega), if_neg (by omega)]
      exact ih h1 h2
theorem compare_eq (x y : Int) : cmp_Compare_int.f x y = some (if x < y then -1 else if x > y then 1 else 0) := by
 unfold cmp_Compare_int.f cmp_isNaN_int.f
 simp
 by_cases h1 : x < y
 ·simp [h1]
 ·by_cases h2 : y < x
  ·simp [h1, h2]
  ·simp [h1, h2]
theorem less_l0 (a b : List Int) (hn : a.length ≤ 4611686018427387904) (d : Nat) : ∀ i : Nat, a.length - i = d → i ≤ a.length → (i ≤ b.length) →
  Ev (fun k => slices_Compare_int_int.l0 k a b a (a.length : Int) (i : Int)) (lexC (a.drop i) (b.drop i)) := by
 induction d with
 | zero =>
  intro i hd hi hib
  have e1 : a.drop i = [] := List.drop_eq_nil_of_le (by omega)
  rw [e1]
  by_cases hb : i < b.length
  ·rw [lexC_nil_left _ (by rw [drop_cons hb]; exact List.cons_ne_nil _ _)]
   exact Ev.step (fun k => by simp only [slices_Compare_int_int.l0]; rw [if_neg (by omega), if_pos (by omega)]) (Ev.now _)
  ·have e2 : b.drop i = [] := List.drop_eq_nil_of_le (by omega)
   rw [e2]
   exact Ev.step (fun k => by simp only [slices_Compare_int_int.l0]; rw [if_neg (by omega), if_neg (by omega)]; rfl) (Ev.now _)
 | succ d ih =>
  intro i hd hi hib
  have ha : i < a.length := by omega
  by_cases hb : i < b.length
  ·rw [drop_cons ha, drop_cons hb]
   have h1 : ∀ k, slices_Compare_int_int.l0 (k + 1) a b a (a.length : Int) (i : Int) = (if (if a[i] < b[i] then (-1 : Int) else if a[i] > b[i] then 1 else 0) = 0 then slices_Compare_int_int.l0 k a b a (a.length : Int) ((i + 1 : Nat) : Int) else some (if a[i] < b[i] then (-1 : Int) else if a[i] > b[i] then 1 else 0)) := fun k => by
    simp only [slices_Compare_int_int.l0]
    rw [if_pos (by omega), if_pos (by omega), if_pos (by omega), if_neg (by omega), if_pos (by omega), rd_get ha, rd_get hb, compare_eq, Option.bind_some, w64s ha hn]
   unfold lexC
   by_cases c1 : a[i] < b[i]
   ·rw [if_pos c1]
    exact Ev.step (fun k => by rw [h1, if_pos c1, if_neg (by omega)]) (Ev.now _)
   ·by_cases c2 : a[i] > b[i]
    ·rw [if_neg c1, if_pos c2]
     exact Ev.step (fun k => by rw [h1, if_neg c1, if_pos c2, if_neg (by omega)]) (Ev.now _)
    ·rw [if_neg c1, if_neg c2]
     exact Ev.step (fun k => by rw [h1, if_neg c1, if_neg c2, if_pos rfl]) (ih (i + 1) (by omega) (by omega) (by omega))
  ·have e2 : b.drop i = [] := List.drop_eq_nil_of_le (by omega)
   rw [e2, lexC_nil_right _ (by rw [drop_cons ha]; exact List.cons_ne_nil _ _)]
   exact Ev.step (fun k => by simp only [slices_Compare_int_int.l0]; rw [if_pos (by omega), if_pos (by omega), if_pos (by omega), if_pos (by omega)]) (Ev.now _)
theorem cell_less_ev (a b : List Int) (hn : a.length ≤ 4611686018427387904) : Ev (fun k => cell_Less.f k a b) (lexC a b) := by
 have h := less_l0 a b hn a.length 0 (by omega) (by omega) (by omega)
 simp only [List.drop_zero] at h
 have h2 : Ev (fun k => slices_Compare_int_int.f k a b) (lexC a b) := Ev.congr (fun k => by unfold slices_Compare_int_int.f; rfl) h
 exact Ev.congr (fun k => by unfold cell_Less.f; rfl) (Ev.bind h2 (Ev.now _))
theorem ref_less_l0 (a b : List Int) (hn : a.length ≤ 4611686018427387904) (d : Nat) : ∀ i : Nat, a.length - i = d → i ≤ a.length → i ≤ b.length →
  Ev (fun k => hypercuberef2_Less.l0 k a b (i : Int)) (lexC (a.drop i) (b.drop i)) := by
 have hend : ∀ i : Nat, i ≤ a.length → i ≤ b.length → ¬ (i < a.length ∧ i < b.length) → Ev (fun k => hypercuberef2_Less.j1 k a b (i : Int) false) (lexC (a.drop i) (b.drop i)) := by
  intro i hi hib hno
  by_cases ha : i < a.length
  ·have hb : b.drop i = [] := List.drop_eq_nil_of_le (by omega)
   rw [hb, lexC_nil_right _ (by rw [drop_cons ha]; exact List.cons_ne_nil _ _)]
   exact Ev.step (fun k => by simp only [hypercuberef2_Less.j1]; rw [if_neg (by simp), if_neg (by omega), if_pos (by omega)]) (Ev.now _)
  ·have ha' : a.drop i = [] := List.drop_eq_nil_of_le (by omega)
   rw [ha']
   by_cases hb : i < b.length
   ·rw [lexC_nil_left _ (by rw [drop_cons hb]; exact List.cons_ne_nil _ _)]
    exact Ev.step (fun k => by simp only [hypercuberef2_Less.j1]; rw [if_neg (by simp), if_pos (by omega)]) (Ev.now _)
   ·have hb' : b.drop i = [] := List.drop_eq_nil_of_le (by omega)
    rw [hb']
    exact Ev.step (fun k => by simp only [hypercuberef2_Less.j1]; rw [if_neg (by simp), if_neg (by omega), if_neg (by omega)]; rfl) (Ev.now _)
 induction d with
 | zero =>
  intro i hd hi hib
  exact Ev.step (fun k => by simp only [hypercuberef2_Less.l0]; rw [if_neg (by omega)]) (hend i hi hib (by omega))
 | succ d ih =>
  intro i hd hi hib
  have ha : i < a.length := by omega
  by_cases hb : i < b.length
  ·rw [drop_cons ha, drop_cons hb]
   refine Ev.step (f := fun k => hypercuberef2_Less.j1 k a b (i : Int) true) (fun k => by simp only [hypercuberef2_Less.l0]; rw [if_pos (by omega), show decide ((i : Int) < (b.length : Int)) = true from decide_eq_true (by omega)]) ?_
   have h1 : ∀ k, hypercuberef2_Less.j1 (k + 1) a b (i : Int) true = (if a[i] < b[i] then some (-1) else if a[i] > b[i] then some 1 else hypercuberef2_Less.l0 k a b ((i + 1 : Nat) : Int)) := fun k => by
    simp only [hypercuberef2_Less.j1]
    rw [if_pos trivial, if_pos (by omega), if_pos (by omega), if_pos (by omega), rd_get ha, rd_get hb, w64s ha hn]
   unfold lexC
   by_cases c1 : a[i] < b[i]
   ·rw [if_pos c1]
    exact Ev.step (fun k => by rw [h1, if_pos c1]) (Ev.now _)
   ·by_cases c2 : a[i] > b[i]
    ·rw [if_neg c1, if_pos c2]
     exact Ev.step (fun k => by rw [h1, if_neg c1, if_pos c2]) (Ev.now _)
    ·rw [if_neg c1, if_neg c2]
     exact Ev.step (fun k => by rw [h1, if_neg c1, if_neg c2]) (ih (i + 1) (by omega) (by omega) (by omega))
  ·exact Ev.step (fun k => by simp only [hypercuberef2_Less.l0]; rw [if_pos (by omega), show decide ((i : Int) < (b.length : Int)) = false from decide_eq_false (by omega)]) (hend i hi hib (by omega))
theorem ref_less_ev (a b : List Int) (hn : a.length ≤ 4611686018427387904) : Ev (fun k => hypercuberef2_Less.f k a b) (lexC a b) := by
 have h := ref_less_l0 a b hn a.length 0 (by omega) (by omega) (by omega)
 simp only [List.drop_zero] at h
 exact Ev.congr (fun k => by unfold hypercuberef2_Less.f; rfl) h
theorem clone_eq (l : List Int) (h : l.length ≤ 1000000) : slices_Clone_int_int.f l = some l := by
 unfold slices_Clone_int_int.f
 rw [if_pos (by omega)]
theorem rdC_get {l : List S30} {i : Nat} (h : i < l.length) : rd_T30 l (i : Int) = l[i] := by simp [rd_T30, List.getD_eq_getElem?_getD, h]
theorem both_gen (op : Int → Int → Int) (L : Nat → List Int → List Int → List Int → Int → Int → Option (List Int))
  (h : ∀ k x1 x7 x10 x11 x12, L (k + 1) x1 x7 x10 x11 x12 = if x12 < x11 then (if 0 ≤ x12 then (if x12 < (x10.length : Int) then (if x12 < (x1.length : Int) then (if x7.length < 17592186044416 then (L k x1 (x7 ++ [op (rd x10 x12) (rd x1 x12)]) x10 x11 (wrap64 (x12 + 1))) else (none)) else (L k x1 x7 x10 x11 (wrap64 (x12 + 1)))) else (none)) else (none)) else ((slices_Clone_int_int.f x7).bind fun t => (some t)))
  (a b : List Int) (ha : a.length ≤ 100000) (d : Nat) : ∀ (i : Nat) (acc : List Int), a.length - i = d → i ≤ a.length → acc.length ≤ i →
  Ev (fun k => L k b acc a (a.length : Int) (i : Int)) (acc ++ List.zipWith op (a.drop i) (b.drop i)) := by
 induction d with
 | zero =>
  intro i acc hd hi hacc
  have e1 : a.drop i = [] := List.drop_eq_nil_of_le (by omega)
  rw [e1, List.zipWith_nil_left, List.append_nil]
  exact Ev.step (f := fun _ => some acc) (fun k => by rw [h, if_neg (by omega), clone_eq _ (by omega)]; rfl) (Ev.now _)
 | succ d ih =>
  intro i acc hd hi hacc
  have hia : i < a.length := by omega
  by_cases hib : i < b.length
  ·rw [drop_cons hia, drop_cons hib, List.zipWith_cons_cons]
   have := ih (i + 1) (acc ++ [op a[i] b[i]]) (by omega) (by omega) (by simp; omega)
   rw [List.append_assoc, List.singleton_append] at this
   exact Ev.step (fun k => by rw [h, if_pos (by omega), if_pos (by omega), if_pos (by omega), if_pos (by omega), if_pos (by omega), rd_get hia, rd_get hib, w64s hia (by omega)]) this
  ·have e2 : b.drop i = [] := List.drop_eq_nil_of_le (by omega)
   have e3 : b.drop (i + 1) = [] := List.drop_eq_nil_of_le (by omega)
   have := ih (i + 1) acc (by omega) (by omega) (by omega)
   rw [e3, List.zipWith_nil_right] at this
   rw [e2, List.zipWith_nil_right]
   exact Ev.step (fun k => by rw [h, if_pos (by omega), if_pos (by omega), if_pos (by omega), if_neg (by omega), w64s hia (by omega)]) this
theorem both1_ev (a b : List Int) (ha : a.length ≤ 100000) : Ev (fun k => cell_both_J1.f k a b) (List.zipWith (fun x y => wrap64 (x + y)) a b) := by
 have := both_gen (fun x y => wrap64 (x + y)) cell_both_J1.l0 (fun k x1 x7 x10 x11 x12 => by simp only [cell_both_J1.l0, cell_Join_1.f, Option.bind_some]) a b ha a.length 0 [] (by omega) (by omega) (by simp)
 simp only [List.drop_zero, List.nil_append] at this
 exact this
theorem both2_ev (a b : List Int) (ha : a.length ≤ 100000) : Ev (fun k => cell_both_J2.f k a b) (List.zipWith mn a b) := by
 have := both_gen mn cell_both_J2.l0 (fun k x1 x7 x10 x11 x12 => by simp only [cell_both_J2.l0, cell_Join_2.f, Option.bind_some]) a b ha a.length 0 [] (by omega) (by omega) (by simp)
 simp only [List.drop_zero, List.nil_append] at this
 exact this
theorem both3_ev (a b : List Int) (ha : a.length ≤ 100000) : Ev (fun k => cell_both_J3.f k a b) (List.zipWith mx a b) := by
 have := both_gen mx cell_both_J3.l0 (fun k x1 x7 x10 x11 x12 => by simp only [cell_both_J3.l0, cell_Join_3.f, Option.bind_some]) a b ha a.length 0 [] (by omega) (by omega) (by simp)
 simp only [List.drop_zero, List.nil_append] at this
 exact this
def joinC (a b : S30) : S30 := ⟨a.f0, wrap64 (a.f1 + b.f1), List.zipWith (fun x y => wrap64 (x + y)) a.f2 b.f2, List.zipWith mn a.f3 b.f3, List.zipWith mx a.f4 b.f4⟩
def SmallC (c : S30) : Prop := c.f0.length ≤ 100000 ∧ c.f2.length ≤ 100000 ∧ c.f3.length ≤ 100000 ∧ c.f4.length ≤ 100000
def tupC (c : S30) : List Int × Int × List Int × List Int × List Int := (c.f0, c.f1, c.f2, c.f3, c.f4)
theorem join_ev (a b : S30) (ha : SmallC a) : Ev (fun k => cell_Join.f k a.f0 a.f1 a.f2 a.f3 a.f4 b.f0 b.f1 b.f2 b.f3 b.f4) (tupC (joinC a b)) := by
 obtain ⟨h0, h2, h3, h4⟩ := ha
 refine Ev.congr (f := fun k => (cell_both_J1.f k a.f2 b.f2).bind fun t140 => ((cell_both_J2.f k a.f3 b.f3).bind fun t143 => ((cell_both_J3.f k a.f4 b.f4).bind fun t146 => (some (a.f0, wrap64 (a.f1 + b.f1), t140, t143, t146))))) (fun k => by unfold cell_Join.f; rw [clone_eq _ (by omega), Option.bind_some]) ?_
 exact Ev.bind (both1_ev _ _ h2) (Ev.bind (both2_ev _ _ h3) (Ev.bind (both3_ev _ _ h4) (Ev.now _)))
theorem own_eq (c : S30) (h : SmallC c) : cell_own.f c.f0 c.f1 c.f2 c.f3 c.f4 = some (tupC c) := by
 obtain ⟨h0, h2, h3, h4⟩ := h
 unfold cell_own.f
 rw [clone_eq _ (by omega), clone_eq _ (by omega), clone_eq _ (by omega), clone_eq _ (by omega)]
 rfl
theorem joinC_small {a b : S30} (h : SmallC a) : SmallC (joinC a b) := by
 obtain ⟨h0, h2, h3, h4⟩ := h
 refine ⟨h0, ?_, ?_, ?_⟩ <;> (simp only [joinC, List.length_zipWith]; omega)
def putL (x : S30) : List S30 → List S30
 | [] => [x]
 | y :: ys => if lexC y.f0 x.f0 < 0 then y :: putL x ys else if lexC y.f0 x.f0 = 0 then joinC y x :: ys else x :: y :: ys
def groupL (l : List S30) : List S30 := l.foldl (fun acc x => putL x acc) []
def SortedC (l : List S30) : Prop := l.Pairwise fun a b => lexC a.f0 b.f0 < 0
theorem lexC_lt_trans {a b c : List Int} (h1 : lexC a b < 0) (h2 : lexC b c < 0) : lexC a c < 0 := by
 have h := lexC_trans a b c (by omega) (by omega)
 by_cases e : lexC a c = 0
 ·rw [lexC_zero] at e
  subst e
  have := lexC_swap a b
  omega
 ·omega
theorem putL_keys (x : S30) : ∀ (l : List S30) (z : S30), z ∈ putL x l → z.f0 = x.f0 ∨ ∃ y ∈ l, z.f0 = y.f0
 | [], z, h => by simp [putL] at h; exact .inl (by rw [h])
 | y :: ys, z, h => by
  unfold putL at h
  split at h
  ·rcases List.mem_cons.1 h with h | h
   ·exact .inr ⟨y, by simp, by rw [h]⟩
   ·rcases putL_keys x ys z h with h | ⟨q, hq, he⟩
    ·exact .inl h
    ·exact .inr ⟨q, List.mem_cons_of_mem _ hq, he⟩
  ·split at h
   ·rcases List.mem_cons.1 h with h | h
    ·exact .inr ⟨y, by simp, by rw [h]; rfl⟩
    ·exact .inr ⟨z, List.mem_cons_of_mem _ h, rfl⟩
   ·rcases List.mem_cons.1 h with h | h
    ·exact .inl (by rw [h])
    ·exact .inr ⟨z, h, rfl⟩
theorem putL_sorted (x : S30) : ∀ (l : List S30), SortedC l → SortedC (putL x l)
 | [], _ => by simp [putL, SortedC]
 | y :: ys, h => by
  obtain ⟨h1, h2⟩ := List.pairwise_cons.1 h
  unfold putL
  split
  ·rename_i c1
   refine List.pairwise_cons.2 ⟨fun z hz => ?_, putL_sorted x ys h2⟩
   rcases putL_keys x ys z hz with e | ⟨q, hq, e⟩
   ·rw [e]; exact c1
   ·rw [e]; exact h1 q hq
  ·rename_i c1
   split
   ·exact List.pairwise_cons.2 ⟨h1, h2⟩
   ·rename_i c2
    have hlt : lexC x.f0 y.f0 < 0 := by rw [lexC_swap]; omega
    refine List.pairwise_cons.2 ⟨fun z hz => ?_, h⟩
    rcases List.mem_cons.1 hz with e | e
    ·rw [e]; exact hlt
    ·exact lexC_lt_trans hlt (h1 z e)
theorem putL_small (x : S30) (hx : SmallC x) : ∀ (l : List S30), (∀ y ∈ l, SmallC y) → ∀ y ∈ putL x l, SmallC y
 | [], _, y, h => by simp [putL] at h; rw [h]; exact hx
 | z :: zs, hl, y, h => by
  have hz := hl z (by simp)
  have hzs := fun y h => hl y (List.mem_cons_of_mem _ h)
  unfold putL at h
  split at h
  ·rcases List.mem_cons.1 h with h | h
   ·rw [h]; exact hz
   ·exact putL_small x hx zs hzs y h
  ·split at h
   ·rcases List.mem_cons.1 h with h | h
    ·rw [h]; exact joinC_small hz
    ·exact hzs y h
   ·rcases List.mem_cons.1 h with h | h
    ·rw [h]; exact hx
    ·exact hl y h
theorem putL_length (x : S30) : ∀ (l : List S30), (putL x l).length ≤ l.length + 1
 | [] => by simp [putL]
 | y :: ys => by
  unfold putL
  have := putL_length x ys
  split
  ·simp; omega
  ·split <;> simp
theorem putL_at (x : S30) : ∀ (p : Nat) (l : List S30), p ≤ l.length → (∀ m (h : m < l.length), m < p → lexC (l[m]).f0 x.f0 < 0) → (∀ (h : p < l.length), 0 ≤ lexC (l[p]).f0 x.f0) →
  putL x l = if h : p < l.length then (if lexC (l[p]).f0 x.f0 = 0 then l.set p (joinC l[p] x) else l.take p ++ x :: l.drop p) else l.take p ++ x :: l.drop p
 | 0, [], _, _, _ => by simp [putL]
 | 0, y :: ys, _, _, h2 => by
  have := h2 (by simp)
  simp only [List.getElem_cons_zero] at this
  unfold putL
  rw [if_neg (by omega)]
  simp only [List.length_cons, Nat.zero_lt_succ, dite_true, List.getElem_cons_zero, List.set_cons_zero, List.take_zero, List.drop_zero, List.nil_append]
 | p + 1, [], h, _, _ => by simp at h
 | p + 1, y :: ys, hp, h1, h2 => by
  have hy := h1 0 (by simp) (by omega)
  simp only [List.getElem_cons_zero] at hy
  have ih := putL_at x p ys (by simpa using hp) (fun m h hm => by have := h1 (m + 1) (by simpa using h) (by omega); simpa using this) (fun h => by have := h2 (by simpa using h); simpa using this)
  unfold putL
  rw [if_pos hy, ih]
  by_cases hlt : p < ys.length
  ·rw [dif_pos hlt, dif_pos (by simpa using hlt)]
   simp only [List.getElem_cons_succ, List.set_cons_succ, List.take_succ_cons, List.drop_succ_cons, List.cons_append]
   split <;> rfl
  ·rw [dif_neg hlt, dif_neg (by simpa using hlt)]
   simp
theorem wrap_mid (i j : Nat) (h : i + j ≤ 4000000) : wrap64 ((IntKind.u64.wrap (wrap64 ((i : Int) + (j : Int)))) / 2) = (((i + j) / 2 : Nat) : Int) := by
 have h1 : wrap64 ((i : Int) + (j : Int)) = ((i + j : Nat) : Int) := by rw [w64 (by omega) (by omega)]; omega
 have h2 : IntKind.u64.wrap ((i + j : Nat) : Int) = ((i + j : Nat) : Int) := by
  have e : IntKind.u64.wrap ((i + j : Nat) : Int) = ((i + j : Nat) : Int) % 18446744073709551616 := rfl
  rw [e]
  omega
 rw [h1, h2, w64 (by omega) (by omega)]
 omega
theorem bsf_l0 (xs : List S30) (x : S30) (hn : xs.length ≤ 1000000) (hs : ∀ y ∈ xs, SmallC y) (p : Nat) (hp : p ≤ xs.length) (h1 : ∀ m (h : m < xs.length), m < p → lexC (xs[m]).f0 x.f0 < 0) (h2 : ∀ m (h : m < xs.length), p ≤ m → 0 ≤ lexC (xs[m]).f0 x.f0) (d : Nat) :
  ∀ i j : Nat, j - i ≤ d → i ≤ p → p ≤ j → j ≤ xs.length → Ev (fun k => bsf_G1.l0 k xs (xs.length : Int) (i : Int) (j : Int) x.f0 x.f1 x.f2 x.f3 x.f4) ((p : Int), if h : p < xs.length then lexC (xs[p]).f0 x.f0 == 0 else false) := by
 have hcmp : ∀ m (h : m < xs.length), Ev (fun k => cell_Group_1.f k (xs[m]).f0 (xs[m]).f1 (xs[m]).f2 (xs[m]).f3 (xs[m]).f4 x.f0 x.f1 x.f2 x.f3 x.f4) (lexC (xs[m]).f0 x.f0) := fun m h => by
  refine Ev.congr (f := fun k => (cell_Less.f k (xs[m]).f0 x.f0).bind fun t => some t) (fun k => rfl) ?_
  exact Ev.bind (cell_less_ev _ _ (by have := (hs _ (List.getElem_mem h)).1; omega)) (Ev.now _)
 induction d with
 | zero =>
  intro i j hd hip hpj hjn
  have e1 : i = p := by omega
  have e2 : j = p := by omega
  rw [e1, e2]
  by_cases hlt : p < xs.length
  ·rw [dif_pos hlt]
   refine Ev.step (f := fun k => (cell_Group_1.f k (xs[p]).f0 (xs[p]).f1 (xs[p]).f2 (xs[p]).f3 (xs[p]).f4 x.f0 x.f1 x.f2 x.f3 x.f4).bind fun t => some ((p : Int), t == 0)) (fun k => by simp only [bsf_G1.l0]; rw [if_neg (by omega), if_pos (by omega), if_pos (by omega), if_pos (by omega), rdC_get hlt]) (Ev.bind (hcmp p hlt) (Ev.now _))
  ·rw [dif_neg hlt]
   exact Ev.step (f := fun _ => some ((p : Int), false)) (fun k => by simp only [bsf_G1.l0]; rw [if_neg (by omega), if_neg (by omega)]) (Ev.now _)
 | succ d ih =>
  intro i j hd hip hpj hjn
  by_cases hij : i < j
  ·have hh : (i + j) / 2 < xs.length := by omega
   have hstep : ∀ k, bsf_G1.l0 (k + 1) xs (xs.length : Int) (i : Int) (j : Int) x.f0 x.f1 x.f2 x.f3 x.f4 = (cell_Group_1.f k (xs[(i + j) / 2]).f0 (xs[(i + j) / 2]).f1 (xs[(i + j) / 2]).f2 (xs[(i + j) / 2]).f3 (xs[(i + j) / 2]).f4 x.f0 x.f1 x.f2 x.f3 x.f4).bind fun t => if t < 0 then bsf_G1.l0 k xs (xs.length : Int) (((i + j) / 2 + 1 : Nat) : Int) (j : Int) x.f0 x.f1 x.f2 x.f3 x.f4 else bsf_G1.l0 k xs (xs.length : Int) (i : Int) (((i + j) / 2 : Nat) : Int) x.f0 x.f1 x.f2 x.f3 x.f4 := fun k => by
    simp only [bsf_G1.l0]
    rw [if_pos (by omega), wrap_mid i j (by omega), if_pos (by omega), if_pos (by omega), rdC_get hh, w64s hh (by omega)]
   refine Ev.step hstep ?_
   by_cases hlt : (i + j) / 2 < p
   ·have c := h1 _ hh hlt
    exact Ev.bind (hcmp _ hh) (Ev.congr (fun k => by rw [if_pos c]) (ih ((i + j) / 2 + 1) j (by omega) (by omega) hpj hjn))
   ·have c := h2 _ hh (by omega)
    exact Ev.bind (hcmp _ hh) (Ev.congr (fun k => by rw [if_neg (by omega)]) (ih i ((i + j) / 2) (by omega) hip (by omega) (by omega)))
  ·exact ih i j (by omega) hip hpj hjn
theorem place (x : S30) : ∀ (l : List S30), SortedC l → ∃ p, p ≤ l.length ∧ (∀ m (h : m < l.length), m < p → lexC (l[m]).f0 x.f0 < 0) ∧ (∀ m (h : m < l.length), p ≤ m → 0 ≤ lexC (l[m]).f0 x.f0)
 | [], _ => ⟨0, by simp, fun m h => by simp at h, fun m h => by simp at h⟩
 | y :: ys, hs => by
  obtain ⟨h1, h2⟩ := List.pairwise_cons.1 hs
  by_cases c : lexC y.f0 x.f0 < 0
  ·obtain ⟨p, hp, a, b⟩ := place x ys h2
   refine ⟨p + 1, by simpa using hp, fun m h hm => ?_, fun m h hm => ?_⟩
   ·cases m with
    | zero => exact c
    | succ m => exact a m (by simpa using h) (by omega)
   ·cases m with
    | zero => omega
    | succ m => exact b m (by simpa using h) (by omega)
  ·refine ⟨0, by omega, fun m h hm => by omega, fun m h _ => ?_⟩
   cases m with
   | zero => simp only [List.getElem_cons_zero]; omega
   | succ m =>
    simp only [List.getElem_cons_succ]
    have hy := h1 (ys[m]'(by simpa using h)) (List.getElem_mem _)
    rcases Int.lt_or_le (lexC (ys[m]'(by simpa using h)).f0 x.f0) 0 with q | q
    ·exact absurd (lexC_lt_trans hy q) c
    ·exact q
theorem put_ev (xs : List S30) (x : S30) (hn : xs.length ≤ 1000000) (hs : ∀ y ∈ xs, SmallC y) (ho : SortedC xs) : Ev (fun k => cellPut.f k xs x) (putL x xs) := by
 obtain ⟨p, hp, h1, h2⟩ := place x xs ho
 have hb := bsf_l0 xs x hn hs p hp h1 h2 xs.length 0 xs.length (by omega) (by omega) hp (by omega)
 have hb' : Ev (fun k => bsf_G1.f k xs x.f0 x.f1 x.f2 x.f3 x.f4) ((p : Int), if h : p < xs.length then lexC (xs[p]).f0 x.f0 == 0 else false) := hb
 have hput := putL_at x p xs hp h1 (fun h => h2 p h (by omega))
 unfold cellPut.f
 refine Ev.bind hb' ?_
 by_cases hlt : p < xs.length
 ·rw [dif_pos hlt] at hput
  simp only [dif_pos hlt]
  by_cases c : lexC (xs[p]).f0 x.f0 = 0
  ·rw [if_pos c] at hput
   have hj := Ev.bind (f := fun (_ : Nat) (j : List Int × Int × List Int × List Int × List Int) => some (xs.set p (⟨j.1, j.2.1, j.2.2.1, j.2.2.2.1, j.2.2.2.2⟩ : S30))) (join_ev (xs[p]) x (hs _ (List.getElem_mem hlt))) (Ev.now _)
   rw [hput]
   exact Ev.congr (fun k => by rw [if_pos (by simp [c]), if_pos (by omega), rdC_get hlt, Int.toNat_natCast]) hj
  ·rw [if_neg c] at hput
   rw [hput]
   exact Ev.congr (f := fun _ => some (xs.take p ++ x :: xs.drop p)) (fun k => by rw [if_neg (by simp [c]), if_pos (by omega), Int.toNat_natCast]) (Ev.now _)
 ·rw [dif_neg hlt] at hput
  simp only [dif_neg hlt]
  rw [hput]
  exact Ev.congr (f := fun _ => some (xs.take p ++ x :: xs.drop p)) (fun k => by rw [if_neg (by simp), if_pos (by omega), Int.toNat_natCast]) (Ev.now _)
theorem grp_ev : ∀ (l acc : List S30), acc.length + l.length ≤ 1000000 → (∀ y ∈ l, SmallC y) → (∀ y ∈ acc, SmallC y) → SortedC acc → Ev (fun k => grpGo k acc l) (l.foldl (fun acc x => putL x acc) acc)
 | [], acc, _, _, _, _ => Ev.now _
 | c :: cs, acc, hn, hl, ha, ho => by
  have hc := hl c (by simp)
  simp only [List.length_cons] at hn
  have ih := grp_ev cs (putL c acc) (by have := putL_length c acc; omega) (fun y h => hl y (List.mem_cons_of_mem _ h)) (putL_small c hc acc ha) (putL_sorted c acc ho)
  refine Ev.congr (f := fun k => (cellPut.f k acc c).bind fun acc' => grpGo k acc' cs) (fun k => by simp only [grpGo]; rw [own_eq c hc, Option.bind_some]; rfl) ?_
  exact Ev.bind (put_ev acc c (by omega) ha ho) ih
theorem foldl_put_length : ∀ (l acc : List S30), (l.foldl (fun acc x => putL x acc) acc).length ≤ acc.length + l.length
 | [], acc => by simp
 | c :: cs, acc => by
  have := foldl_put_length cs (putL c acc)
  have := putL_length c acc
  simp only [List.foldl_cons, List.length_cons]
  omega
theorem group_ev (l : List S30) (hn : l.length ≤ 1000000) (hl : ∀ y ∈ l, SmallC y) : Ev (fun k => cell_Group.f k l) (groupL l) := by
 have h := grp_ev l [] (by simpa using hn) hl (fun y h => by simp at h) List.Pairwise.nil
 have hlen := foldl_put_length l []
 refine Ev.bind h (Ev.congr (f := fun _ => some (groupL l)) (fun k => ?_) (Ev.now _))
 rw [if_pos (by simp only [List.length_nil] at hlen; omega)]
 rfl
def putAll (acc l : List S30) : List S30 := l.foldl (fun acc x => putL x acc) acc
theorem groupL_all (l : List S30) : groupL l = putAll [] l := rfl
theorem putAll_cons (acc : List S30) (x : S30) (l : List S30) : putAll acc (x :: l) = putAll (putL x acc) l := rfl
theorem putAll_length : ∀ (l acc : List S30), (putAll acc l).length ≤ acc.length + l.length := foldl_put_length
def RegC (n : Nat) (c : S30) : Prop := c.f0.length ≤ 4 ∧ c.f2.length = n ∧ c.f3.length = n ∧ c.f4.length = n
def RegL (n : Nat) (l : List S30) : Prop := ∀ c ∈ l, RegC n c
theorem RegC.small {n : Nat} {c : S30} (h : RegC n c) (hn : n ≤ 100) : SmallC c := ⟨by have := h.1; omega, by rw [h.2.1]; omega, by rw [h.2.2.1]; omega, by rw [h.2.2.2]; omega⟩
theorem RegL.small {n : Nat} {l : List S30} (h : RegL n l) (hn : n ≤ 100) : ∀ y ∈ l, SmallC y := fun y hy => (h y hy).small hn
theorem regC_join {n : Nat} {a b : S30} (ha : RegC n a) (hb : RegC n b) : RegC n (joinC a b) := by
 refine ⟨ha.1, ?_, ?_, ?_⟩
 ·simp only [joinC, List.length_zipWith]; rw [ha.2.1, hb.2.1]; omega
 ·simp only [joinC, List.length_zipWith]; rw [ha.2.2.1, hb.2.2.1]; omega
 ·simp only [joinC, List.length_zipWith]; rw [ha.2.2.2, hb.2.2.2]; omega
theorem regL_put {n : Nat} {x : S30} (hx : RegC n x) : ∀ {l : List S30}, RegL n l → RegL n (putL x l)
 | [], _ => fun c hc => by simp [putL] at hc; rw [hc]; exact hx
 | y :: ys, h => by
  have hy := h y (by simp)
  have hys : RegL n ys := fun c hc => h c (List.mem_cons_of_mem _ hc)
  intro c hc
  unfold putL at hc
  split at hc
  ·rcases List.mem_cons.1 hc with e | e
   ·rw [e]; exact hy
   ·exact regL_put hx hys c e
  ·split at hc
   ·rcases List.mem_cons.1 hc with e | e
    ·rw [e]; exact regC_join hy hx
    ·exact hys c e
   ·rcases List.mem_cons.1 hc with e | e
    ·rw [e]; exact hx
    ·exact h c e
theorem regL_all {n : Nat} : ∀ {l acc : List S30}, RegL n l → RegL n acc → RegL n (putAll acc l)
 | [], _, _, h => h
 | x :: l, acc, hl, ha => regL_all (l := l) (fun c hc => hl c (List.mem_cons_of_mem _ hc)) (regL_put (hl x (by simp)) ha)
theorem regL_group {n : Nat} {l : List S30} (h : RegL n l) : RegL n (groupL l) := regL_all h (fun c hc => by simp at hc)
theorem regL_nil (n : Nat) : RegL n [] := fun c hc => by simp at hc
theorem ref_join_l0 (n : Nat) (hn : n ≤ 100) (a b : S30) (ha : RegC n a) (hb : RegC n b) (f0 : List Int) (f1 : Int) (d : Nat) : ∀ (i : Nat) (s m x : List Int), n - i = d → i ≤ n → s.length = i → m.length = i → x.length = i →
  Ev (fun k => hypercuberef2_Join.l0 k (i : Int) a.f0 a.f1 a.f2 a.f3 a.f4 b.f0 b.f1 b.f2 b.f3 b.f4 f0 f1 s m x)
   (f0, f1, s ++ List.zipWith (fun x y => wrap64 (x + y)) (a.f2.drop i) (b.f2.drop i), m ++ List.zipWith mn (a.f3.drop i) (b.f3.drop i), x ++ List.zipWith mx (a.f4.drop i) (b.f4.drop i)) := by
 obtain ⟨a0, a2, a3, a4⟩ := ha
 obtain ⟨b0, b2, b3, b4⟩ := hb
 induction d with
 | zero =>
  intro i s m x hd hi hs hm hx
  have e2 : a.f2.drop i = [] := List.drop_eq_nil_of_le (by omega)
  have e3 : a.f3.drop i = [] := List.drop_eq_nil_of_le (by omega)
  have e4 : a.f4.drop i = [] := List.drop_eq_nil_of_le (by omega)
  rw [e2, e3, e4, List.zipWith_nil_left, List.zipWith_nil_left, List.zipWith_nil_left, List.append_nil, List.append_nil, List.append_nil]
  exact Ev.step (f := fun _ => some (f0, f1, s, m, x)) (fun k => by simp only [hypercuberef2_Join.l0]; rw [if_neg (by omega)]) (Ev.now _)
 | succ d ih =>
  intro i s m x hd hi hs hm hx
  have ia2 : i < a.f2.length := by omega
  have ia3 : i < a.f3.length := by omega
  have ia4 : i < a.f4.length := by omega
  have ib2 : i < b.f2.length := by omega
  have ib3 : i < b.f3.length := by omega
  have ib4 : i < b.f4.length := by omega
  have h := ih (i + 1) (s ++ [wrap64 (a.f2[i] + b.f2[i])]) (m ++ [mn a.f3[i] b.f3[i]]) (x ++ [mx a.f4[i] b.f4[i]]) (by omega) (by omega) (by simp; omega) (by simp; omega) (by simp; omega)
  rw [List.append_assoc, List.append_assoc, List.append_assoc, List.singleton_append, List.singleton_append, List.singleton_append] at h
  rw [drop_cons ia2, drop_cons ia3, drop_cons ia4, drop_cons ib2, drop_cons ib3, drop_cons ib4, List.zipWith_cons_cons, List.zipWith_cons_cons, List.zipWith_cons_cons]
  exact Ev.step (fun k => by
   simp only [hypercuberef2_Join.l0]
   rw [if_pos (by omega), if_pos (by omega), if_pos (by omega), if_pos (by omega), if_pos (by omega), if_pos (by omega), if_pos (by omega), if_pos (by omega), if_pos (by omega), if_pos (by omega), rd_get ia2, rd_get ia3, rd_get ia4, rd_get ib2, rd_get ib3, rd_get ib4, w64s ia2 (by omega)]) h
theorem ref_join_ev {n : Nat} (hn : n ≤ 100) {a b : S30} (ha : RegC n a) (hb : RegC n b) : Ev (fun k => hypercuberef2_Join.f k a.f0 a.f1 a.f2 a.f3 a.f4 b.f0 b.f1 b.f2 b.f3 b.f4) (tupC (joinC a b)) := by
 have h := ref_join_l0 n hn a b ha hb a.f0 (wrap64 (a.f1 + b.f1)) n 0 [] [] [] (by omega) (by omega) rfl rfl rfl
 simp only [List.drop_zero, List.nil_append] at h
 refine Ev.congr (fun k => ?_) h
 unfold hypercuberef2_Join.f
 rw [Option.bind_some, if_pos (by have := ha.1; simp only [List.length_nil]; omega), List.nil_append]
 rfl
theorem ref_copy_eq {c : S30} (h : SmallC c) : hypercuberef2_Copy.f c.f0 c.f1 c.f2 c.f3 c.f4 = some (tupC c) := by
 obtain ⟨h0, h2, h3, h4⟩ := h
 unfold hypercuberef2_Copy.f
 rw [if_pos ⟨by omega, by omega, by omega, by omega⟩]
 rfl
theorem ref_put_end {n : Nat} (hn : n ≤ 100) {xs : List S30} {x : S30} (hl : xs.length ≤ 1000000) (hr : RegL n xs) (hx : RegC n x) (i : Nat) (hi : i ≤ xs.length) (h1 : ∀ m (h : m < xs.length), m < i → lexC (xs[m]).f0 x.f0 < 0) (h2 : ∀ (h : i < xs.length), 0 ≤ lexC (xs[i]).f0 x.f0) :
  Ev (fun k => hypercuberef2_Put.j1 k xs (i : Int) x.f0 x.f1 x.f2 x.f3 x.f4) (putL x xs) := by
 have hput := putL_at x i xs hi h1 h2
 have hcat : xs.take i ++ [x] ++ xs.drop i = xs.take i ++ x :: xs.drop i := by simp
 have hins : Ev (fun k => hypercuberef2_Put.j2 k xs (i : Int) false x.f0 x.f1 x.f2 x.f3 x.f4) (xs.take i ++ x :: xs.drop i) := by
  refine Ev.step (f := fun _ => some (xs.take i ++ x :: xs.drop i)) (fun k => ?_) (Ev.now _)
  simp only [hypercuberef2_Put.j2]
  rw [if_neg (by simp), Option.bind_some, if_pos (by omega), if_pos (by omega), Option.bind_some, if_pos (by simp; omega), Option.bind_some, ref_copy_eq (hx.small hn), Option.bind_some, if_pos (by simp; omega), Option.bind_some, Option.bind_some, if_pos (by simp; omega)]
  simp only [List.nil_append, Int.toNat_natCast, tupC, ← hcat]
 by_cases hlt : i < xs.length
 ·have hc := ref_less_ev (xs[i]).f0 x.f0 (by have := (hr _ (List.getElem_mem hlt)).1; omega)
  refine Ev.step (f := fun k => (hypercuberef2_Less.f k (xs[i]).f0 x.f0).bind fun t => hypercuberef2_Put.j2 k xs (i : Int) (t == 0) x.f0 x.f1 x.f2 x.f3 x.f4) (fun k => ?_) (Ev.bind hc ?_)
  ·simp only [hypercuberef2_Put.j1]
   rw [if_pos (by omega), if_pos (by omega), rdC_get hlt]
  ·rw [hput, dif_pos hlt]
   by_cases c : lexC (xs[i]).f0 x.f0 = 0
   ·rw [if_pos c, show (lexC (xs[i]).f0 x.f0 == 0) = true by simp [c]]
    have hj := ref_join_ev hn (hr _ (List.getElem_mem hlt)) hx
    refine Ev.step (f := fun k => (hypercuberef2_Join.f k (xs[i]).f0 (xs[i]).f1 (xs[i]).f2 (xs[i]).f3 (xs[i]).f4 x.f0 x.f1 x.f2 x.f3 x.f4).bind fun bt => some (xs.set i (⟨bt.1, bt.2.1, bt.2.2.1, bt.2.2.2.1, bt.2.2.2.2⟩ : S30))) (fun k => ?_) (Ev.bind hj (Ev.now _))
    simp only [hypercuberef2_Put.j2]
    rw [if_pos trivial, Option.bind_some, if_pos (by simp; omega), Option.bind_some, if_pos (by omega), if_pos (by omega), rdC_get hlt, List.nil_append]
    congr 1
    funext bt
    rw [if_pos (by omega), Int.toNat_natCast]
   ·rw [if_neg c, show (lexC (xs[i]).f0 x.f0 == 0) = false by simp [c]]
    exact hins
 ·rw [hput, dif_neg hlt]
  refine Ev.step (fun k => ?_) hins
  simp only [hypercuberef2_Put.j1]
  rw [if_neg (by omega)]
theorem ref_put_l0 {n : Nat} (hn : n ≤ 100) {xs : List S30} {x : S30} (hl : xs.length ≤ 1000000) (hr : RegL n xs) (hx : RegC n x) (d : Nat) : ∀ i : Nat, xs.length - i = d → i ≤ xs.length → (∀ m (h : m < xs.length), m < i → lexC (xs[m]).f0 x.f0 < 0) →
  Ev (fun k => hypercuberef2_Put.l0 k xs (i : Int) x.f0 x.f1 x.f2 x.f3 x.f4) (putL x xs) := by
 induction d with
 | zero =>
  intro i hd hi h1
  refine Ev.step (fun k => ?_) (ref_put_end hn hl hr hx i hi h1 (fun h => by omega))
  simp only [hypercuberef2_Put.l0]
  rw [if_neg (by omega)]
 | succ d ih =>
  intro i hd hi h1
  have hlt : i < xs.length := by omega
  have hc := ref_less_ev (xs[i]).f0 x.f0 (by have := (hr _ (List.getElem_mem hlt)).1; omega)
  refine Ev.step (f := fun k => (hypercuberef2_Less.f k (xs[i]).f0 x.f0).bind fun t => if t < 0 then hypercuberef2_Put.l0 k xs ((i + 1 : Nat) : Int) x.f0 x.f1 x.f2 x.f3 x.f4 else hypercuberef2_Put.j1 k xs (i : Int) x.f0 x.f1 x.f2 x.f3 x.f4) (fun k => ?_) (Ev.bind hc ?_)
  ·simp only [hypercuberef2_Put.l0]
   rw [if_pos (by omega), if_pos (by omega), rdC_get hlt, w64s hlt (by omega)]
  ·by_cases c : lexC (xs[i]).f0 x.f0 < 0
   ·refine Ev.congr (fun k => by rw [if_pos c]) (ih (i + 1) (by omega) (by omega) (fun m h hm => ?_))
    by_cases e : m = i
    ·subst e; exact c
    ·exact h1 m h (by omega)
   ·exact Ev.congr (fun k => by rw [if_neg c]) (ref_put_end hn hl hr hx i hi h1 (fun _ => by omega))
theorem ref_put_ev {n : Nat} (hn : n ≤ 100) {xs : List S30} {x : S30} (hl : xs.length ≤ 1000000) (hr : RegL n xs) (hx : RegC n x) : Ev (fun k => hypercuberef2_Put.f k xs x.f0 x.f1 x.f2 x.f3 x.f4) (putL x xs) :=
 Ev.congr (fun k => by unfold hypercuberef2_Put.f; rfl) (ref_put_l0 hn hl hr hx xs.length 0 (by omega) (by omega) (fun m h hm => by omega))
theorem equal_true {c : S30} (ha : SmallC c) : Ev (fun k => hypercuberef2_Equal.f k c.f0 c.f1 c.f2 c.f3 c.f4 c.f0 c.f1 c.f2 c.f3 c.f4) true := by
 obtain ⟨h0, h2, h3, h4⟩ := ha
 have e : ∀ l : List Int, l.length ≤ 100000 → Ev (fun k => hypercuberef1_Ints.f k l l) true := fun l hl => by
  have := ints_ev l l (by omega)
  rw [decide_eq_true rfl] at this
  exact this
 refine Ev.congr (fun k => by unfold hypercuberef2_Equal.f; rw [if_pos rfl]) ?_
 refine Ev.bind (e _ h0) (Ev.congr (fun k => by rw [if_pos rfl]) ?_)
 refine Ev.bind (e _ h2) (Ev.congr (fun k => by rw [if_pos rfl]) ?_)
 refine Ev.bind (e _ h3) (Ev.congr (fun k => by rw [if_pos rfl]) ?_)
 exact Ev.bind (e _ h4) (Ev.now _)
theorem same_l0 (l : List S30) (hl : l.length ≤ 1000000) (hs : ∀ c ∈ l, SmallC c) (d : Nat) : ∀ i : Nat, l.length - i = d → i ≤ l.length → Ev (fun k => hypercuberef2_Same.l0 k l l (i : Int)) true := by
 induction d with
 | zero =>
  intro i hd hi
  exact Ev.step (f := fun _ => some true) (fun k => by simp only [hypercuberef2_Same.l0]; rw [if_neg (by omega)]) (Ev.now _)
 | succ d ih =>
  intro i hd hi
  have hlt : i < l.length := by omega
  refine Ev.step (f := fun k => (hypercuberef2_Equal.f k (l[i]).f0 (l[i]).f1 (l[i]).f2 (l[i]).f3 (l[i]).f4 (l[i]).f0 (l[i]).f1 (l[i]).f2 (l[i]).f3 (l[i]).f4).bind fun t => if t = true then hypercuberef2_Same.l0 k l l ((i + 1 : Nat) : Int) else some false) (fun k => ?_) (Ev.bind (equal_true (hs _ (List.getElem_mem hlt))) ?_)
  ·simp only [hypercuberef2_Same.l0]
   rw [if_pos (by omega), if_pos (by omega), if_pos (by omega), rdC_get hlt, w64s hlt (by omega)]
  ·exact Ev.congr (fun k => by rw [if_pos rfl]) (ih (i + 1) (by omega) (by omega))
theorem same_true {l l' : List S30} (h : l = l') (hl : l.length ≤ 1000000) (hs : ∀ c ∈ l, SmallC c) : Ev (fun k => hypercuberef2_Same.f k l l') true := by
 subst h
 exact Ev.congr (fun k => by unfold hypercuberef2_Same.f; rw [if_pos rfl]; rfl) (same_l0 l hl hs l.length 0 (by omega) (by omega))
end Go.Proofs.Ytmkjkkmilopcpaa.Q
