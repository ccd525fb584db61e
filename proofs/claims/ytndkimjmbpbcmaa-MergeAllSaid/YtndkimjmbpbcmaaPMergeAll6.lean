-- packed by wip/tools/pack.py (a program of this session) out of its own texts
import Derived.Test.YtndkimjmbpbcmaaPMergeAll0
import Derived.ArgAppend
import Derived.Below
import Derived.BigQuiet
import Derived.Deep.AppendLies
import Derived.Deep.CutBlock
import Derived.Deep.DeepCutAuto
import Derived.Deep.Draws
import Derived.Deep.LoopGhost
import Derived.Deep.OwnRows
import Derived.Deep.QuietTactic
import Derived.Deep.RegionHeld3
import Derived.KernelRfl
import Derived.Laws.BitsLemmas
import Derived.Laws.BytesArg
import Derived.Laws.IdiomCopy
import Derived.Laws.MakeOwn
import Derived.Laws.OwnMore
import Derived.Laws.Rows
import Derived.Laws.Slices
import Derived.Lib.AppendStr
import Derived.Lib.ConvBytes
import Derived.Maps.AppendAt
import Derived.OrdersHeld
import Derived.OwnWalk
import Derived.RowKit
import Derived.RowKit3
import Derived.Tactics
import Derived.Test.YtndkimjmbpbcmaaProg
import Derived.WalkKit
import Derived.WideLaws
import Derived.Test.YtndkimjmbpbcmaaPMergeAll1
import Derived.Test.YtndkimjmbpbcmaaPMergeAll3
import Derived.Test.YtndkimjmbpbcmaaPMergeAll4
import Derived.Test.YtndkimjmbpbcmaaPMergeAll5
namespace Go.Proofs.Ytndkimjmbpbcmaa.Q
open Go.RowKit Go.Proofs.YtndkimjmbpbcmaaW.PrintWords Go.Proofs.YtndkimjmbpbcmaaW.PrintLast Go.Proofs.YtndkimjmbpbcmaaW.PrintMore
attribute [local go_sem] max2_int min2_int max_two min_two max_three min_three max_four min_four
set_option linter.unusedVariables false
set_option linter.unusedSimpArgs false
mutual
def hypercubelaw1_Facts.l0 : Nat → Int → List Int → List Int → Int → List Int → Int → Option (List Int × Int × (List (S51)))
 | 0, _, _, _, _, _, _ => none
 | k + 1, x0, x1, x3, x11, x197000, x197001 => (hypercubelaw1_within.f x0 4).bind fun t197 => (if x11 ≤ t197 then (if x11 < (x1.length : Int) then (if 0 ≤ x11 then ((hypercubelaw1_within.f (rd x1 x11) 5).bind fun t199 => (if x197000.length < 17592186044416 then (hypercubelaw1_Facts.l0 k x0 x1 x3 (wrap64 (x11 + 1)) (x197000 ++ [wrap64 (1 + t199)]) x197001) else (none))) else (none)) else ((hypercubelaw1_within.f (wrap64 (x11 + 2)) 5).bind fun t203 => (if x197000.length < 17592186044416 then (hypercubelaw1_Facts.l0 k x0 x1 x3 (wrap64 (x11 + 1)) (x197000 ++ [wrap64 (1 + t203)]) x197001) else (none)))) else ((hypercubelaw1_within.f x0 7).bind fun t207 => (if t207 = 0 then (if 0 < (x197000.length : Int) then (hypercubelaw1_Facts.j1 k x3 (x197000.set (0 : Int).toNat 16) x197001) else (none)) else (hypercubelaw1_Facts.j1 k x3 x197000 x197001))))
def hypercubelaw1_Facts.j1 : Nat → List Int → List Int → Int → Option (List Int × Int × (List (S51)))
 | 0, _, _, _ => none
 | k + 1, x3, x197000, x197001 => hypercubelaw1_Facts.l1 k x3 ([] : List (S51)) 0 x197000 x197001
def hypercubelaw1_Facts.l1 : Nat → List Int → List (S51) → Int → List Int → Int → Option (List Int × Int × (List (S51)))
 | 0, _, _, _, _, _ => none
 | k + 1, x3, x13, x14, x197000, x197001 => if x14 < (x3.length : Int) then (hypercubelaw1_Facts.j3 k x3 x13 x14 (decide (x14 < 40)) x197000 x197001) else (hypercubelaw1_Facts.j3 k x3 x13 x14 false x197000 x197001)
def hypercubelaw1_Facts.j3 : Nat → List Int → List (S51) → Int → Bool → List Int → Int → Option (List Int × Int × (List (S51)))
 | 0, _, _, _, _, _, _ => none
 | k + 1, x3, x13, x14, x59, x197000, x197001 => if x59 = true then (if 0 ≤ x14 then (if x14 < (x3.length : Int) then (hypercubelaw1_Facts.l2 k x3 x13 x14 (rd x3 x14) 0 x197000 x197001 ([] : List Int)) else (none)) else (none)) else (some (x197000, x197001, x13))
def hypercubelaw1_Facts.l2 : Nat → List Int → List (S51) → Int → Int → Int → List Int → Int → List Int → Option (List Int × Int × (List (S51)))
 | 0, _, _, _, _, _, _, _, _ => none
 | k + 1, x3, x13, x14, x15, x17, x197000, x197001, x211000 => if x17 < (x197000.length : Int) then (if 0 ≤ x17 then ((hypercubelaw1_within.f x15 (rd x197000 x17)).bind fun t212 => (if x211000.length < 17592186044416 then (hypercubelaw1_Facts.l2 k x3 x13 x14 (wrap64 (Int.tdiv x15 5)) (wrap64 (x17 + 1)) x197000 x197001 (x211000 ++ [t212])) else (none))) else (none)) else (hypercubelaw1_Facts.l3 k x3 x13 x14 x15 0 x197000 x197001 x211000 ([] : List Int))
def hypercubelaw1_Facts.l3 : Nat → List Int → List (S51) → Int → Int → Int → List Int → Int → List Int → List Int → Option (List Int × Int × (List (S51)))
 | 0, _, _, _, _, _, _, _, _, _ => none
 | k + 1, x3, x13, x14, x15, x18, x197000, x197001, x211000, x211001 => if x18 < x197001 then ((hypercubelaw1_within.f (wrap64 (x15 + (wrap64 (7 * x18)))) 201).bind fun t216 => (if x211001.length < 17592186044416 then (hypercubelaw1_Facts.l3 k x3 x13 x14 x15 (wrap64 (x18 + 1)) x197000 x197001 x211000 (x211001 ++ [wrap64 (t216 - 100)])) else (none))) else (if x13.length < 2932031007402 then (hypercubelaw1_Facts.l1 k x3 (x13 ++ [(⟨x211000, x211001⟩ : S51)]) (wrap64 (x14 + 1)) x197000 x197001) else (none))
end
def hypercubelaw1_Facts.f (k : Nat) (a0 : Int) (l1 : List Int) (a2 : Int) (l3 : List Int) : Option (List Int × Int × (List (S51))) := (hypercubelaw1_within.f a2 3).bind fun t195 => (hypercubelaw1_Facts.l0 k a0 l1 l3 0 ([] : List Int) t195)
def hypercubelaw1_Facts.T8 : Bool × List (List Nat × List Nat) := (true, [([], []), ([0], [0]), ([], []), ([2], [2]), ([3], [3]), ([4], [4]), ([1, 5, 3], [1, 5]), ([0, 1, 2, 3, 4, 5, 6], []), ([7, 6, 6, 0, 1, 2, 3, 4, 5, 6], [6, 7])])
def hypercubelaw1_Facts.B8 : List Nat := [0, 1, 0, 4, 12, 28, 63, 127, 255]
theorem hypercubelaw1_Facts.tab8 : rtab .any (opsOf Try.f14 8) = hypercubelaw1_Facts.T8 := by kernel_rfl
theorem hypercubelaw1_Facts.bits8 : waitsOk hypercubelaw1_Facts.T8.2 hypercubelaw1_Facts.B8 = true := by kernel_rfl
def hypercubelaw1_Facts.T20 : Bool × List (List Nat × List Nat) := (true, [([], []), ([0], [0]), ([], []), ([], []), ([3], [3]), ([], []), ([4, 5], [4, 5]), ([6], [6]), ([2, 7], [2, 7]), ([8], [8]), ([1, 9, 8], [1, 9]), ([0, 1, 2, 3, 4, 5, 6, 7, 8, 9, 10], []), ([11, 10, 10, 0, 1, 2, 3, 4, 5, 6, 7, 8, 9, 10], [10, 11])])
def hypercubelaw1_Facts.B20 : List Nat := [0, 1, 0, 0, 8, 0, 56, 120, 252, 508, 1023, 2047, 4095]
theorem hypercubelaw1_Facts.tab20 : rtab .any (opsOf Try.f14 20) = hypercubelaw1_Facts.T20 := by kernel_rfl
theorem hypercubelaw1_Facts.bits20 : waitsOk hypercubelaw1_Facts.T20.2 hypercubelaw1_Facts.B20 = true := by kernel_rfl
def hypercubelaw1_Facts.T25 : Bool × List (List Nat × List Nat) := (true, [([], []), ([0], [0]), ([], []), ([], []), ([3], [3]), ([2, 4], [2, 4]), ([5], [5]), ([6], [6]), ([7], [7]), ([1, 8, 6], [1, 8]), ([0, 1, 2, 3, 4, 5, 6, 7, 8, 9], []), ([10, 9, 9, 0, 1, 2, 3, 4, 5, 6, 7, 8, 9], [9, 10])])
def hypercubelaw1_Facts.B25 : List Nat := [0, 1, 0, 0, 8, 28, 60, 124, 252, 511, 1023, 2047]
theorem hypercubelaw1_Facts.tab25 : rtab .any (opsOf Try.f14 25) = hypercubelaw1_Facts.T25 := by kernel_rfl
theorem hypercubelaw1_Facts.bits25 : waitsOk hypercubelaw1_Facts.T25.2 hypercubelaw1_Facts.B25 = true := by kernel_rfl
set_option maxHeartbeats 8000000 in
set_option maxRecDepth 100000 in
theorem hypercubelaw1_Facts.calls (k : Nat) (a0 : Int) (A1 : Option Addr) (c1 : Nat) (l1 : List Int) (a2 : Int) (A3 : Option Addr) (c3 : Nat) (l3 : List Int) (r1 : List Int) (r2 : Int) (r3 : List (S51)) (w : World) (hr1 : Kd.C (Kd.int .i64) w A1 l1.length l1) (hc1 : l1.length ≤ c1) (hr3 : Kd.C (Kd.int .i64) w A3 l3.length l3) (hc3 : l3.length ≤ c3) (h : hypercubelaw1_Facts.f k a0 l1 a2 l3 = some (r1, r2, r3)) :
  Calls Try.prog 14 #[.int .i64 a0, .slice A1 l1.length c1, .int .i64 a2, .slice A3 l3.length c3] w fun e w' => ∃ v0_ v2_ : Value, e = .returned (.tuple #[.agg #[v0_, .int .i64 r2], v2_]) ∧ Kd.R (Kd.int .i64) 3 w' w.heap.size (fun _ => True) v0_ r1 ∧ Kd.S k51 51 w' w.heap.size (fun k_ => some k_ ≠ (v0_ : Value).ownBlock) v2_ r3 ∧ Below w.heap.size w w' := by
 have hu25 := Try.underlying25
 have hu51 := Try.underlying51
 have HR1 := am hr1
 have HC1 := am hc1
 clear hr1 hc1
 have HR3 := am hr3
 have HC3 := am hc3
 clear hr3 hc3
 have HB := am (Below.refl w.heap.size w)
 have H : ((hypercubelaw1_within.f a2 3).bind fun t195 => (hypercubelaw1_Facts.l0 k a0 l1 l3 0 ([] : List Int) t195)) = some (r1, r2, r3) := h
 clear h
 replace H := Option.bind_eq_some_iff.mp H
 obtain ⟨t195, A50, H⟩ := H
 replace H : (hypercubelaw1_Facts.l0 k a0 l1 l3 0 ([] : List Int) t195) = some (r1, r2, r3) := H
 have A5 := am A50
 clear A50
 have H' := am H
 clear H
 go_enter Try.func14, Try.ntmps14
 go_wp2_with (first | ((with_reducible refine gate_dst (N := 8) rfl ?_); refine box_event ?hg (N := 8) ?hd (cs := #[.slice none 0 0, .int .i64 0]) (t := 25) ?hr ?_; (case hd => rfl); (case hg => rfl); (case hr => first | (go_simp; done) | (go_simp; rfl)); intro gb194 hg w6 hbox hb; have n0_ := am (below_step (by repeat (first | (with_reducible first | exact HB.out | apply below_alloc | apply pw_below_drewN | apply below_drew1) | exact HB.out)) hb); have n1_ := am (hbox); have n2_ := am ((by rw [hg]; exact (below_size (by repeat (first | (with_reducible first | exact HB.out | apply below_alloc | apply pw_below_drewN | apply below_drew1) | exact HB.out))) : w.heap.size ≤ gb194)); have n3_ := am ((by rw [hg]; exact (below_size (by repeat (first | (with_reducible first | exact HB.out | apply below_alloc | apply pw_below_drewN | apply below_drew1) | exact HB.out))) : w.heap.size ≤ gb194)); clear HB; revert n0_ n1_ n2_ n3_; intro HB BK194 GW194 GE194; clear hb hbox hg) | (go_at_call 28; (with_reducible refine (hypercubelaw1_within.calls a2 3 t195 _ A5.out).mono ?_); rintro e w' ⟨rfl, ⟨nd, rfl⟩⟩; (try (rw [drewN_self w6]; generalize hq_ : World.drewN w6 _ = w6; have n0_ : Aside0 (w6.heap[gb194]? = some (.cells #[.slice none 0 0, .int .i64 0] 25 (0, 0))) := ⟨by rw [← hq_]; exact (by (with_reducible repeat (first | refine blk_drewN ?_ _ | refine blk_drew ?_ | refine blk_alloc ?_ _)); exact BK194.out)⟩; have n1_ : Aside0 (Below w.heap.size w w6) := ⟨by rw [← hq_]; exact (by repeat (first | (with_reducible first | exact HB.out | apply below_alloc | apply pw_below_drewN | apply below_drew1 | refine below_set ?_ GE194.out) | exact HB.out))⟩; clear BK194 HB hq_; revert n0_ n1_; intro BK194 HB))) | ((with_reducible refine gate_dst (N := 10) rfl ?_); refine box_event ?hg (N := 10) ?hd (cs := #[.slice none 0 0, .int .i64 0]) (t := 25) ?hr ?_; (case hd => rfl); (case hg => rfl); (case hr => first | (go_simp; done) | (go_simp; rfl)); intro gb196 hg w7 hbox hb; have n0_ := am (blk_below (g := gb194) (o := .cells #[.slice none 0 0, .int .i64 0] 25 (0, 0)) (by (with_reducible repeat (first | refine blk_drewN ?_ _ | refine blk_drew ?_ | refine blk_alloc ?_ _)); exact BK194.out) hb); have n1_ := am (below_step (by repeat (first | (with_reducible first | exact HB.out | apply below_alloc | apply pw_below_drewN | apply below_drew1 | refine below_set ?_ GE194.out) | exact HB.out)) hb); have n2_ := am (hbox); have n3_ := am ((by rw [hg]; exact (below_size (by repeat (first | (with_reducible first | exact HB.out | apply below_alloc | apply pw_below_drewN | apply below_drew1 | refine below_set ?_ GE194.out) | exact HB.out))) : w.heap.size ≤ gb196)); have n4_ := am ((by rw [hg]; exact (below_size (by repeat (first | (with_reducible first | exact HB.out | apply below_alloc | apply pw_below_drewN | apply below_drew1 | refine below_set ?_ GE194.out) | exact HB.out))) : w.heap.size ≤ gb196)); have n5_ := am ((by rw [hg]; exact Nat.ne_of_lt (blk_lt (g := gb194) (o := .cells #[.slice none 0 0, .int .i64 0] 25 (0, 0)) (by (with_reducible repeat (first | refine blk_drewN ?_ _ | refine blk_drew ?_ | refine blk_alloc ?_ _)); exact BK194.out)) : gb194 ≠ gb196)); have n6_ := am ((by rw [hg]; exact Nat.ne_of_gt (blk_lt (g := gb194) (o := .cells #[.slice none 0 0, .int .i64 0] 25 (0, 0)) (by (with_reducible repeat (first | refine blk_drewN ?_ _ | refine blk_drew ?_ | refine blk_alloc ?_ _)); exact BK194.out)) : gb196 ≠ gb194)); clear BK194 HB; revert n0_ n1_ n2_ n3_ n4_ n5_ n6_; intro BK194 HB BK196 GW196 GE196 NB194_196 NB196_194; clear hb hbox hg; have hnb8 := NB196_194.out; have hnc8 := NB194_196.out; have hcz9_0 : w7.cell? ⟨gb196, 0, none⟩ = some (.slice none 0 0) := (blk_cell BK196.out 0).trans rfl; have hcz9_1 : w7.cell? ⟨gb196, 1, none⟩ = some (.int .i64 0) := (blk_cell BK196.out 1).trans rfl; have hfz9_0 := blk_frozen BK196.out 0; have hfz9_1 := blk_frozen BK196.out 1))
 go_loopg [11] k (fun kq v11 w' => ∃ (x11_1 : Int) (x197000_1 : List Int) (u197000 : Value), v11 = .int .i64 x11_1 ∧ Aside0 (hypercubelaw1_Facts.l0 kq a0 l1 l3 x11_1 x197000_1 t195 = some (r1, r2, r3)) ∧ Aside0 (kq ≤ k) ∧ Aside0 (Kd.R (Kd.int .i64) 3 w' w.heap.size (fun _ => True) u197000 x197000_1) ∧ Aside0 (w'.heap[gb194]? = some (.cells #[(.slice none 0 0), .int .i64 0] 25 (0, 0))) ∧ Aside0 (w'.heap[gb196]? = some (.cells #[u197000, .int .i64 t195] 25 (0, 0))) ∧ Aside0 (Below w.heap.size w w'))
 case atStart => exact ⟨(0), (([] : List Int)), (.slice none 0 0), (by first | rfl | (simp; done) | (simp [*]; done)), H', ⟨Nat.le_refl _⟩, ⟨by first | exact Kd.R_nil _ _ _ _ _ | exact Kd.N_nil _ _ _ _ _ | exact Kd.V_nil _ _ _ _ _ | exact Kd.Q_nil _ _ _ _ _ | exact Kd.S_nil _ _ _ _ _⟩, ⟨by (with_reducible repeat (first | refine blk_drewN ?_ _ | refine blk_drew ?_ | refine blk_alloc ?_ _)); refine blk_far ?_ NB194_196.out _; (with_reducible repeat (first | refine blk_drewN ?_ _ | refine blk_drew ?_ | refine blk_alloc ?_ _)); refine blk_far ?_ NB194_196.out _; (with_reducible repeat (first | refine blk_drewN ?_ _ | refine blk_drew ?_ | refine blk_alloc ?_ _)); exact BK194.out⟩, ⟨by (with_reducible repeat (first | refine blk_drewN ?_ _ | refine blk_drew ?_ | refine blk_alloc ?_ _)); refine blk_put (cs := #[.slice none 0 0, .int .i64 0]) ?_ 1 _ rfl; (with_reducible repeat (first | refine blk_drewN ?_ _ | refine blk_drew ?_ | refine blk_alloc ?_ _)); refine blk_put (cs := #[.slice none 0 0, .int .i64 0]) ?_ 0 _ rfl; (with_reducible repeat (first | refine blk_drewN ?_ _ | refine blk_drew ?_ | refine blk_alloc ?_ _)); exact BK196.out⟩, ⟨by repeat (first | (with_reducible first | exact HB.out | apply below_alloc | apply pw_below_drewN | apply below_drew1 | refine below_set ?_ GE194.out | refine below_set ?_ GE196.out) | exact HB.out)⟩⟩
 case round =>
  clear H'
  try clear c1
  try clear c2
  try clear p2
  try clear c3
  try clear c8
  try clear hcz9_0
  try clear hcz9_1
  try clear hfz9_0
  try clear hfz9_1
  obtain ⟨x11_1, x197000_1, u197000, rfl, HA, HK1, HO_197000, BK194, BK196, HB⟩ := hrel
  cases gk with
  | zero => exact absurd HA.out (by simp [hypercubelaw1_Facts.l0])
  | succ k1 =>
   have H := HA.out
   clear HA
   simp only [hypercubelaw1_Facts.l0] at H
   replace H := Option.bind_eq_some_iff.mp H
   obtain ⟨t197, A100, H⟩ := H
   replace H : (if x11_1 ≤ t197 then (if x11_1 < (l1.length : Int) then (if 0 ≤ x11_1 then ((hypercubelaw1_within.f (rd l1 x11_1) 5).bind fun t199 => (if x197000_1.length < 17592186044416 then (hypercubelaw1_Facts.l0 k1 a0 l1 l3 (wrap64 (x11_1 + 1)) (x197000_1 ++ [wrap64 (1 + t199)]) t195) else (none))) else (none)) else ((hypercubelaw1_within.f (wrap64 (x11_1 + 2)) 5).bind fun t203 => (if x197000_1.length < 17592186044416 then (hypercubelaw1_Facts.l0 k1 a0 l1 l3 (wrap64 (x11_1 + 1)) (x197000_1 ++ [wrap64 (1 + t203)]) t195) else (none)))) else ((hypercubelaw1_within.f a0 7).bind fun t207 => (if t207 = 0 then (if 0 < (x197000_1.length : Int) then (hypercubelaw1_Facts.j1 k1 l3 (x197000_1.set (0 : Int).toNat 16) t195) else (none)) else (hypercubelaw1_Facts.j1 k1 l3 x197000_1 t195)))) = some (r1, r2, r3) := H
   have A10 := am A100
   clear A100
   by_cases c11 : x11_1 ≤ t197
   ·rw [if_pos c11] at H
    have c11b0 : decide (x11_1 ≤ t197) = true := decide_eq_true c11
    clear c11
    by_cases c12 : x11_1 < (l1.length : Int)
    ·rw [if_pos c12] at H
     have c12b0 : decide (x11_1 < (l1.length : Int)) = true := decide_eq_true c12
     clear c12
     by_cases c13 : 0 ≤ x11_1
     ·rw [if_pos c13] at H
      have c13b0 : decide (0 ≤ x11_1) = true := decide_eq_true c13
      clear c13
      replace H := Option.bind_eq_some_iff.mp H
      obtain ⟨t199, A140, H⟩ := H
      replace H : (if x197000_1.length < 17592186044416 then (hypercubelaw1_Facts.l0 k1 a0 l1 l3 (wrap64 (x11_1 + 1)) (x197000_1 ++ [wrap64 (1 + t199)]) t195) else (none)) = some (r1, r2, r3) := H
      have A14 := am A140
      clear A140
      by_cases c15 : x197000_1.length < 17592186044416
      ·rw [if_pos c15] at H
       have LMc15 := am c15
       clear c15
       obtain ⟨y200, hy200⟩ : ∃ y_ : List Int, y_ = (x197000_1 ++ [wrap64 (1 + t199)]) := ⟨_, rfl⟩
       replace H : (hypercubelaw1_Facts.l0 k1 a0 l1 l3 (wrap64 (x11_1 + 1)) y200 t195) = some (r1, r2, r3) := by rw [hy200]; with_reducible exact H
       have Ny200 := am hy200
       clear hy200
       have H' := am H
       clear H
       try go_wp2_with (first | (go_at_call 28; (with_reducible refine (hypercubelaw1_within.calls a0 4 t197 _ A10.out).mono ?_); rintro e w' ⟨rfl, ⟨nd, rfl⟩⟩; (try (rw [drewN_self wr]; generalize hq_ : World.drewN wr _ = wr; have n0_ : Aside0 (Kd.R (Kd.int .i64) 3 wr w.heap.size (fun _ => True) u197000 x197000_1) := ⟨by rw [← hq_]; exact (by (with_reducible repeat (first | apply Kd.R_alloc | apply Kd.R_drewN | apply Kd.R_drew)); exact HO_197000.out)⟩; have n1_ : Aside0 (wr.heap[gb194]? = some (.cells #[.slice none 0 0, .int .i64 0] 25 (0, 0))) := ⟨by rw [← hq_]; exact (by (with_reducible repeat (first | refine blk_drewN ?_ _ | refine blk_drew ?_ | refine blk_alloc ?_ _)); exact BK194.out)⟩; have n2_ : Aside0 (wr.heap[gb196]? = some (.cells #[u197000, .int .i64 t195] 25 (0, 0))) := ⟨by rw [← hq_]; exact (by (with_reducible repeat (first | refine blk_drewN ?_ _ | refine blk_drew ?_ | refine blk_alloc ?_ _)); exact BK196.out)⟩; have n3_ : Aside0 (Below w.heap.size w wr) := ⟨by rw [← hq_]; exact (by repeat (first | (with_reducible first | exact HB.out | apply below_alloc | apply pw_below_drewN | apply below_drew1 | refine below_set ?_ GE194.out | refine below_set ?_ GE196.out) | exact HB.out))⟩; clear HO_197000 BK194 BK196 HB hq_; revert n0_ n1_ n2_ n3_; intro HO_197000 BK194 BK196 HB)); have p198 : 0 ≤ (x11_1 : Int) := of_decide_eq_true (by first | (with_reducible assumption) | assumption); have q198 : x11_1 < (l1.length : Int) := of_decide_eq_true (by first | (with_reducible assumption) | assumption); obtain ⟨ad198, e198, hx198_0⟩ := Kd.at_int HR1.out x11_1 p198 q198; cases e198; replace hx198_0 := (HB.out.cell (World.block_lt_of_cell? w _ hx198_0)).trans hx198_0; replace p198 := eq_true p198; replace q198 := eq_true q198))
       have n0_ := am (Kd.R_drew HO_197000.out)
       have n1_ := am (blk_drew BK194.out)
       have n2_ := am (blk_drew BK196.out)
       have n3_ := am (below_drew1 HB.out)
       clear HO_197000 BK194 BK196 HB
       revert n0_ n1_ n2_ n3_
       intro HO_197000 BK194 BK196 HB
       refine start_ (n := 9) (S := fun w' => w'.cell? ⟨gb196, 0, none⟩ = some (u197000) ∧ w'.cell? ⟨gb196, 1, none⟩ = some (.int .i64 t195)) (ds := [8]) (bb 9 0) (by kernel_rfl) rfl rfl ⟨bc BK196 0, bc BK196 1⟩ (fun hHeld => ?_); refine with_tabW hypercubelaw1_Facts.tab8 hypercubelaw1_Facts.bits8 (fun HT_ HW_ => ?_)
       generalize wr.drew = w16 at HO_197000 BK194 BK196 HB hHeld ⊢
       refine pu (i := 0) (N := some 38) (bb 9 1) HT_ ?_
       refine pu (i := 2) (N := some 40) (bb 9 5) HT_ ?_
       refine tk (i := 1) (N := some 39) (bb 9 7) HT_ HW_ hHeld ?_
       refine one_ (i := 3) (N := some 41) (bb 9 15) rfl rfl (one_of HT_.out (by kernel_rfl)) (by decide) (fun K hK => ?_)
       refine goes_ Try.func28 (by kernel_rfl) rfl #[.int .i64 (rd l1 x11_1), .int .i64 5] (by rfl) rfl rfl (by (try simp only [List.map_toArray, List.map_cons, List.map_nil]); first | done | rfl | (simp only [List.length_drop, List.length_take]; rfl)) ?_
       with_reducible refine (hypercubelaw1_within.calls (rd l1 x11_1) 5 t199 _ A14.out).mono ?_
       rintro e w' ⟨rfl, ⟨nd, rfl⟩⟩
       refine ⟨_, rfl, ?_⟩
       refine hK.out _ _ ⟨bc BK196 0, bc BK196 1⟩ (fun hHeld => ?_)
       clear hK K
       refine nm ?_
       refine pu (i := 4) (N := some 42) (bb 9 31) HT_ ?_
       refine one_ (i := 5) (N := some 43) (bb 9 63) rfl rfl (one_of HT_.out (by kernel_rfl)) (by decide) (fun K hK => ?_)
       refine value_ (w1 := ?_) (v := ?_) (by rfl) rfl ?_ ?_
       rotate_left 2
       ·go_simp
        constructor
        ·rfl
        ·rfl
       refine hK.out _ _ ⟨(blk_cell (blk_alloc BK196.out _) 0).trans rfl, (blk_cell (blk_alloc BK196.out _) 1).trans rfl⟩ (fun hHeld => ?_)
       clear hK K
       refine nm ?_
       refine one_ (i := 6) (N := some 44) (bb 9 127) rfl rfl (one_of HT_.out (by kernel_rfl)) (by decide) (fun K hK => ?_)
       refine Kd.R_append_step (Kd.int .i64) (w0 := w) w.heap.size (by rfl) (.tmp 39) (.tmp 43) 22 3 (.int .i64 0) 8 rfl Try.underlying22 info3 rfl (by decide) (by omega) u197000 x197000_1 (wrap64 (1 + t199)) [.int .i64 (wrap64 (1 + t199))] (fun _ => True) (fun _ => False) rfl rfl ?aP (fun _ hk => hk.elim) ?aF ?aO ?aB ?aS ?aL ?_
       (case aP => exact rfl)
       (case aB => exact (wmv HB.out))
       (case aF => exact (fun _ _ => trivial))
       (case aO => exact (Kd.R_mv HO_197000.out))
       (case aS => exact (below_size (wmv HB.out)))
       (case aL => have := LMc15.out; omega)
       intro v201 w17 ho hb hg hat
       rw [← Ny200.out] at ho
       have n0_ := am (blk_grown (bmv BK194.out) hg (Kd.R_ne HO_197000.out BK194.out (by decide)))
       have n1_ := am (blk_grown (bmv BK196.out) hg (Kd.R_ne HO_197000.out BK196.out (by decide)))
       have n2_ := am (hb)
       have n3_ := am (ho)
       clear BK194 BK196 HB HO_197000
       revert n0_ n1_ n2_ n3_
       intro BK194 BK196 HB HO202
       clear ho hb hg hat
       obtain ⟨Ao18, co18, eo18⟩ := Kd.R_slice HO202.out
       (first | subst eo18 | (injection eo18 with f1_ f2_ f3_; have f4_ := f1_.symm; have f5_ := f3_.symm; clear f1_ f2_ f3_; subst f4_; subst f5_))
       refine hK.out _ _ ⟨bc BK196 0, bc BK196 1⟩ (fun hHeld => ?_)
       clear hK K
       refine nm ?_
       refine pu (i := 7) (N := some 45) (bb 9 255) HT_ ?_
       refine last_ (i := 8) (N := none) (bb 9 511) rfl rfl (one_of HT_.out (by kernel_rfl)) (by decide) (fun K hK => ?_)
       have hs19 : w17.cell? ⟨gb196, 0, none⟩ = some (u197000) := (blk_cell BK196.out 0).trans rfl
       have hfs19 := blk_frozen BK196.out 0
       have hns19_0 := NB194_196.out
       have hms19_0 := NB196_194.out
       refine skip_ (w1 := ?_) (by rfl) rfl ?_ ?_
       rotate_left
       ·go_simp
        rfl
       refine hK.out _ _ ?_
       clear hK K
       refine done_ (done_of HT_.out (by kernel_rfl)) ?_
       try go_wp2
       go_roundg k1
       case measure => have := HK1.out; omega
       case rel => exact ⟨(wrap64 (x11_1 + 1)), (y200), (.slice Ao18 y200.length co18), (by first | rfl | (simp; done) | (simp [*]; done)), H', ⟨by have := HK1.out; omega⟩, ⟨by (with_reducible repeat (first | apply Kd.R_alloc | apply Kd.R_drewN | apply Kd.R_drew)); exact Kd.R_mono (Kd.R_far (p := ⟨gb196, 0, none⟩) (Kd.R_types HO202.out BK196.out (by decide)) (fun _ hk => hk.2) (.slice Ao18 y200.length co18)) (fun _ hk => trivial)⟩, ⟨by (with_reducible repeat (first | refine blk_drewN ?_ _ | refine blk_drew ?_ | refine blk_alloc ?_ _)); refine blk_far ?_ NB194_196.out _; (with_reducible repeat (first | refine blk_drewN ?_ _ | refine blk_drew ?_ | refine blk_alloc ?_ _)); exact BK194.out⟩, ⟨by (with_reducible repeat (first | refine blk_drewN ?_ _ | refine blk_drew ?_ | refine blk_alloc ?_ _)); refine blk_put (cs := #[u197000, .int .i64 t195]) ?_ 0 _ rfl; (with_reducible repeat (first | refine blk_drewN ?_ _ | refine blk_drew ?_ | refine blk_alloc ?_ _)); exact BK196.out⟩, ⟨by repeat (first | (with_reducible first | exact HB.out | apply below_alloc | apply pw_below_drewN | apply below_drew1 | refine below_set ?_ GE194.out | refine below_set ?_ GE196.out) | exact HB.out)⟩⟩
      ·rw [if_neg c15] at H
       exact absurd H (by simp)
     ·rw [if_neg c13] at H
      exact absurd H (by simp)
    ·rw [if_neg c12] at H
     have c12b0 : decide (x11_1 < (l1.length : Int)) = false := decide_eq_false c12
     clear c12
     replace H := Option.bind_eq_some_iff.mp H
     obtain ⟨t203, A200, H⟩ := H
     replace H : (if x197000_1.length < 17592186044416 then (hypercubelaw1_Facts.l0 k1 a0 l1 l3 (wrap64 (x11_1 + 1)) (x197000_1 ++ [wrap64 (1 + t203)]) t195) else (none)) = some (r1, r2, r3) := H
     have A20 := am A200
     clear A200
     by_cases c21 : x197000_1.length < 17592186044416
     ·rw [if_pos c21] at H
      have LMc21 := am c21
      clear c21
      obtain ⟨y204, hy204⟩ : ∃ y_ : List Int, y_ = (x197000_1 ++ [wrap64 (1 + t203)]) := ⟨_, rfl⟩
      replace H : (hypercubelaw1_Facts.l0 k1 a0 l1 l3 (wrap64 (x11_1 + 1)) y204 t195) = some (r1, r2, r3) := by rw [hy204]; with_reducible exact H
      have Ny204 := am hy204
      clear hy204
      have H' := am H
      clear H
      try go_wp2_with (first | (go_at_call 28; (with_reducible refine (hypercubelaw1_within.calls a0 4 t197 _ A10.out).mono ?_); rintro e w' ⟨rfl, ⟨nd, rfl⟩⟩; (try (rw [drewN_self wr]; generalize hq_ : World.drewN wr _ = wr; have n0_ : Aside0 (Kd.R (Kd.int .i64) 3 wr w.heap.size (fun _ => True) u197000 x197000_1) := ⟨by rw [← hq_]; exact (by (with_reducible repeat (first | apply Kd.R_alloc | apply Kd.R_drewN | apply Kd.R_drew)); exact HO_197000.out)⟩; have n1_ : Aside0 (wr.heap[gb194]? = some (.cells #[.slice none 0 0, .int .i64 0] 25 (0, 0))) := ⟨by rw [← hq_]; exact (by (with_reducible repeat (first | refine blk_drewN ?_ _ | refine blk_drew ?_ | refine blk_alloc ?_ _)); exact BK194.out)⟩; have n2_ : Aside0 (wr.heap[gb196]? = some (.cells #[u197000, .int .i64 t195] 25 (0, 0))) := ⟨by rw [← hq_]; exact (by (with_reducible repeat (first | refine blk_drewN ?_ _ | refine blk_drew ?_ | refine blk_alloc ?_ _)); exact BK196.out)⟩; have n3_ : Aside0 (Below w.heap.size w wr) := ⟨by rw [← hq_]; exact (by repeat (first | (with_reducible first | exact HB.out | apply below_alloc | apply pw_below_drewN | apply below_drew1 | refine below_set ?_ GE194.out | refine below_set ?_ GE196.out) | exact HB.out))⟩; clear HO_197000 BK194 BK196 HB hq_; revert n0_ n1_ n2_ n3_; intro HO_197000 BK194 BK196 HB))))
      have n0_ := am (Kd.R_drew HO_197000.out)
      have n1_ := am (blk_drew BK194.out)
      have n2_ := am (blk_drew BK196.out)
      have n3_ := am (below_drew1 HB.out)
      clear HO_197000 BK194 BK196 HB
      revert n0_ n1_ n2_ n3_
      intro HO_197000 BK194 BK196 HB
      refine start_ (n := 9) (S := fun w' => w'.cell? ⟨gb196, 0, none⟩ = some (u197000) ∧ w'.cell? ⟨gb196, 1, none⟩ = some (.int .i64 t195)) (ds := [8]) (bb 9 0) (by kernel_rfl) rfl rfl ⟨bc BK196 0, bc BK196 1⟩ (fun hHeld => ?_); refine with_tabW hypercubelaw1_Facts.tab8 hypercubelaw1_Facts.bits8 (fun HT_ HW_ => ?_)
      generalize wr.drew = w22 at HO_197000 BK194 BK196 HB hHeld ⊢
      refine pu (i := 0) (N := some 38) (bb 9 1) HT_ ?_
      refine pu (i := 2) (N := some 40) (bb 9 5) HT_ ?_
      refine tk (i := 1) (N := some 39) (bb 9 7) HT_ HW_ hHeld ?_
      refine one_ (i := 3) (N := some 41) (bb 9 15) rfl rfl (one_of HT_.out (by kernel_rfl)) (by decide) (fun K hK => ?_)
      refine goes_ Try.func28 (by kernel_rfl) rfl #[.int .i64 (wrap64 (x11_1 + 2)), .int .i64 5] (by rfl) rfl rfl (by (try simp only [List.map_toArray, List.map_cons, List.map_nil]); first | done | rfl | (simp only [List.length_drop, List.length_take]; rfl)) ?_
      with_reducible refine (hypercubelaw1_within.calls (wrap64 (x11_1 + 2)) 5 t203 _ A20.out).mono ?_
      rintro e w' ⟨rfl, ⟨nd, rfl⟩⟩
      refine ⟨_, rfl, ?_⟩
      refine hK.out _ _ ⟨bc BK196 0, bc BK196 1⟩ (fun hHeld => ?_)
      clear hK K
      refine nm ?_
      refine pu (i := 4) (N := some 42) (bb 9 31) HT_ ?_
      refine one_ (i := 5) (N := some 43) (bb 9 63) rfl rfl (one_of HT_.out (by kernel_rfl)) (by decide) (fun K hK => ?_)
      refine value_ (w1 := ?_) (v := ?_) (by rfl) rfl ?_ ?_
      rotate_left 2
      ·go_simp
       constructor
       ·rfl
       ·rfl
      refine hK.out _ _ ⟨(blk_cell (blk_alloc BK196.out _) 0).trans rfl, (blk_cell (blk_alloc BK196.out _) 1).trans rfl⟩ (fun hHeld => ?_)
      clear hK K
      refine nm ?_
      refine one_ (i := 6) (N := some 44) (bb 9 127) rfl rfl (one_of HT_.out (by kernel_rfl)) (by decide) (fun K hK => ?_)
      refine Kd.R_append_step (Kd.int .i64) (w0 := w) w.heap.size (by rfl) (.tmp 39) (.tmp 43) 22 3 (.int .i64 0) 8 rfl Try.underlying22 info3 rfl (by decide) (by omega) u197000 x197000_1 (wrap64 (1 + t203)) [.int .i64 (wrap64 (1 + t203))] (fun _ => True) (fun _ => False) rfl rfl ?aP (fun _ hk => hk.elim) ?aF ?aO ?aB ?aS ?aL ?_
      (case aP => exact rfl)
      (case aB => exact (wmv HB.out))
      (case aF => exact (fun _ _ => trivial))
      (case aO => exact (Kd.R_mv HO_197000.out))
      (case aS => exact (below_size (wmv HB.out)))
      (case aL => have := LMc21.out; omega)
      intro v205 w23 ho hb hg hat
      rw [← Ny204.out] at ho
      have n0_ := am (blk_grown (bmv BK194.out) hg (Kd.R_ne HO_197000.out BK194.out (by decide)))
      have n1_ := am (blk_grown (bmv BK196.out) hg (Kd.R_ne HO_197000.out BK196.out (by decide)))
      have n2_ := am (hb)
      have n3_ := am (ho)
      clear BK194 BK196 HB HO_197000
      revert n0_ n1_ n2_ n3_
      intro BK194 BK196 HB HO206
      clear ho hb hg hat
      obtain ⟨Ao24, co24, eo24⟩ := Kd.R_slice HO206.out
      (first | subst eo24 | (injection eo24 with f1_ f2_ f3_; have f4_ := f1_.symm; have f5_ := f3_.symm; clear f1_ f2_ f3_; subst f4_; subst f5_))
      refine hK.out _ _ ⟨bc BK196 0, bc BK196 1⟩ (fun hHeld => ?_)
      clear hK K
      refine nm ?_
      refine pu (i := 7) (N := some 45) (bb 9 255) HT_ ?_
      refine last_ (i := 8) (N := none) (bb 9 511) rfl rfl (one_of HT_.out (by kernel_rfl)) (by decide) (fun K hK => ?_)
      have hs25 : w23.cell? ⟨gb196, 0, none⟩ = some (u197000) := (blk_cell BK196.out 0).trans rfl
      have hfs25 := blk_frozen BK196.out 0
      have hns25_0 := NB194_196.out
      have hms25_0 := NB196_194.out
      refine skip_ (w1 := ?_) (by rfl) rfl ?_ ?_
      rotate_left
      ·go_simp
       rfl
      refine hK.out _ _ ?_
      clear hK K
      refine done_ (done_of HT_.out (by kernel_rfl)) ?_
      try go_wp2
      go_roundg k1
      case measure => have := HK1.out; omega
      case rel => exact ⟨(wrap64 (x11_1 + 1)), (y204), (.slice Ao24 y204.length co24), (by first | rfl | (simp; done) | (simp [*]; done)), H', ⟨by have := HK1.out; omega⟩, ⟨by (with_reducible repeat (first | apply Kd.R_alloc | apply Kd.R_drewN | apply Kd.R_drew)); exact Kd.R_mono (Kd.R_far (p := ⟨gb196, 0, none⟩) (Kd.R_types HO206.out BK196.out (by decide)) (fun _ hk => hk.2) (.slice Ao24 y204.length co24)) (fun _ hk => trivial)⟩, ⟨by (with_reducible repeat (first | refine blk_drewN ?_ _ | refine blk_drew ?_ | refine blk_alloc ?_ _)); refine blk_far ?_ NB194_196.out _; (with_reducible repeat (first | refine blk_drewN ?_ _ | refine blk_drew ?_ | refine blk_alloc ?_ _)); exact BK194.out⟩, ⟨by (with_reducible repeat (first | refine blk_drewN ?_ _ | refine blk_drew ?_ | refine blk_alloc ?_ _)); refine blk_put (cs := #[u197000, .int .i64 t195]) ?_ 0 _ rfl; (with_reducible repeat (first | refine blk_drewN ?_ _ | refine blk_drew ?_ | refine blk_alloc ?_ _)); exact BK196.out⟩, ⟨by repeat (first | (with_reducible first | exact HB.out | apply below_alloc | apply pw_below_drewN | apply below_drew1 | refine below_set ?_ GE194.out | refine below_set ?_ GE196.out) | exact HB.out)⟩⟩
     ·rw [if_neg c21] at H
      exact absurd H (by simp)
   ·rw [if_neg c11] at H
    have c11b0 : decide (x11_1 ≤ t197) = false := decide_eq_false c11
    clear c11
    replace H := Option.bind_eq_some_iff.mp H
    obtain ⟨t207, A260, H⟩ := H
    replace H : (if t207 = 0 then (if 0 < (x197000_1.length : Int) then (hypercubelaw1_Facts.j1 k1 l3 (x197000_1.set (0 : Int).toNat 16) t195) else (none)) else (hypercubelaw1_Facts.j1 k1 l3 x197000_1 t195)) = some (r1, r2, r3) := H
    have A26 := am A260
    clear A260
    have HC27 := am H
    clear H
    go_upto_if 48 with (first | (go_at_call 28; (with_reducible refine (hypercubelaw1_within.calls a0 4 t197 _ A10.out).mono ?_); rintro e w' ⟨rfl, ⟨nd, rfl⟩⟩) | (go_at_call 28; (with_reducible refine (hypercubelaw1_within.calls a0 7 t207 _ A26.out).mono ?_); rintro e w' ⟨rfl, ⟨nd, rfl⟩⟩))
    (try simp only [Act.put, List.setIfInBounds_toArray, List.set_cons_zero, List.set_cons_succ])
    go_cut [] (fun wc => ∃ (kq : Nat) (x197000_26 : List Int) (u197000 : Value), Aside0 (hypercubelaw1_Facts.j1 kq l3 x197000_26 t195 = some (r1, r2, r3)) ∧ Aside0 (kq ≤ k1) ∧ Aside0 (Kd.R (Kd.int .i64) 3 wc w.heap.size (fun _ => True) u197000 x197000_26) ∧ Aside0 (wc.heap[gb194]? = some (.cells #[(.slice none 0 0), .int .i64 0] 25 (0, 0))) ∧ Aside0 (wc.heap[gb196]? = some (.cells #[u197000, .int .i64 t195] 25 (0, 0))) ∧ Aside0 (Below w.heap.size w wc))
    case first =>
     have H := HC27.out
     clear HC27
     by_cases c28 : t207 = 0
     ·rw [if_pos c28] at H
      have c28b0 : (t207 == 0) = true := beq_iff_eq.mpr c28
      have c28b1 : (t207 != 0) = false := bne_eq_false_iff_eq.mpr c28
      clear c28
      (first | rw [c28b0] | (simp only [i64_w, i32_w]; rw [c28b0]) | skip)
      by_cases c29 : 0 < (x197000_1.length : Int)
      ·rw [if_pos c29] at H
       have c29b0 : decide (0 < (x197000_1.length : Int)) = true := decide_eq_true c29
       have c29b1 : decide (0 < x197000_1.length) = true := decide_eq_true (by omega)
       clear c29
       obtain ⟨y208, hy208⟩ : ∃ y_ : List Int, y_ = (x197000_1.set (0 : Int).toNat 16) := ⟨_, rfl⟩
       replace H : (hypercubelaw1_Facts.j1 k1 l3 y208 t195) = some (r1, r2, r3) := by rw [hy208]; with_reducible exact H
       have Ny208 := am hy208
       clear hy208
       have H' := am H
       clear H
       have hnb31 := NB196_194.out
       have hnc31 := NB194_196.out
       have hcz32_0 : wr.cell? ⟨gb196, 0, none⟩ = some (u197000) := (blk_cell BK196.out 0).trans rfl
       have hcz32_1 : wr.cell? ⟨gb196, 1, none⟩ = some (.int .i64 t195) := (blk_cell BK196.out 1).trans rfl
       have hfz32_0 := blk_frozen BK196.out 0
       have hfz32_1 := blk_frozen BK196.out 1
       have p30 : 0 ≤ (0 : Int) := (by omega)
       have q30 : (0 : Int) < ((x197000_1.length : Int) : Int) := of_decide_eq_true (by first | (with_reducible assumption) | assumption)
       have qi30 : (0 < x197000_1.length) = True := eq_true (by omega)
       obtain ⟨go30, co30, eo30, gb30, gl30, cl30, HG30⟩ := Kd.R_form HO_197000.out (by omega)
       (first | cases eo30 | (injection eo30 with ea_ en_ ec_; (first | subst ea_ | (injection ea_ with ea_; subst ea_)); subst ec_; clear en_))
       have GB30 := am gb30
       have GG30 := am HG30
       clear gb30 gl30 HG30
       obtain ⟨hx30_0, hf30_0⟩ := Kd.R_celln 0 HO_197000.out (0 : Int) p30 q30
       (try rw [show ((0 : Int)).toNat = 0 from rfl] at hx30_0)
       (try simp only [Nat.reduceMul, Nat.zero_mul, Nat.zero_add, Nat.reduceAdd] at hx30_0)
       (try rw [show ((0 : Int)).toNat = 0 from rfl] at hf30_0)
       (try simp only [Nat.reduceMul, Nat.zero_mul, Nat.zero_add, Nat.reduceAdd] at hf30_0)
       replace p30 := eq_true p30
       replace q30 := eq_true q30
       have HP33 := Kd.R_putg HO_197000.out (0 : Int) 16
       go_wp2_with (first | ((with_reducible refine gate_store (t := 3) (p := 51) rfl ?_); refine store_event (t := 3) (p := 51) (v := ?vo_w34) (w1 := (wr.setCell ⟨go30, (0 : Int).toNat, none⟩ (.int .i64 16))) ?hg ?ho ?hn ?hr ?_; (case ho => rfl); (case hg => rfl); (case hn => rfl); (case hr => first | (go_simp; done) | (go_simp; rfl)); intro w34 hw; have hg : wr.grownBy w34 (some go30) := (by rw [hw]; exact HP33.2); have hp_ : Kd.R (Kd.int .i64) 3 w34 w.heap.size (fun _ => True) (.slice (some ⟨go30, 0, none⟩) x197000_1.length co30) y208 := (by rw [hw, Ny208.out]; exact HP33.1); clear HP33; have n0_ := am (hp_); have n1_ := am (blk_grown (bmv BK194.out) hg (Kd.R_ne HO_197000.out BK194.out (by decide))); have n2_ := am (blk_grown (bmv BK196.out) hg (Kd.R_ne HO_197000.out BK196.out (by decide))); have n3_ := am ((by rw [hw]; exact below_set (HB.out) GB30.out : Below w.heap.size w w34)); clear HO_197000 BK194 BK196 HB; revert n0_ n1_ n2_ n3_; intro HO_197000 BK194 BK196 HB; clear hg hw hp_))
       go_meet
       case rel => exact ⟨_, (y208), (.slice (some ⟨go30, 0, none⟩) x197000_1.length co30), H', ⟨by have := HK1.out; first | omega | exact Nat.le_refl _⟩, ⟨by rw [Ny208.out]; exact (Kd.R_putg (Kd.R_drewN HO_197000.out _) (0 : Int) 16).1⟩, ⟨blk_grown (blk_drewN BK194.out _) (Kd.R_putg (Kd.R_drewN HO_197000.out _) (0 : Int) 16).2 (Kd.R_ne HO_197000.out BK194.out (by decide))⟩, ⟨blk_grown (blk_drewN BK196.out _) (Kd.R_putg (Kd.R_drewN HO_197000.out _) (0 : Int) 16).2 (Kd.R_ne HO_197000.out BK196.out (by decide))⟩, ⟨below_set (pw_below_drewN HB.out _) GB30.out⟩⟩
      ·rw [if_neg c29] at H
       exact absurd H (by simp)
     ·rw [if_neg c28] at H
      have c28b0 : (t207 == 0) = false := beq_eq_false_iff_ne.mpr c28
      have c28b1 : (t207 != 0) = true := bne_iff_ne.mpr c28
      (first | rw [c28b0] | (simp only [i64_w, i32_w]; rw [c28b0]) | skip)
      have H' := am H
      clear H
      go_wp2
      go_meet
      case rel => exact ⟨_, (x197000_1), (u197000), H', ⟨by have := HK1.out; first | omega | exact Nat.le_refl _⟩, ⟨by (with_reducible repeat (first | apply Kd.R_alloc | apply Kd.R_drewN | apply Kd.R_drew)); exact HO_197000.out⟩, ⟨by (with_reducible repeat (first | refine blk_drewN ?_ _ | refine blk_drew ?_ | refine blk_alloc ?_ _)); exact BK194.out⟩, ⟨by (with_reducible repeat (first | refine blk_drewN ?_ _ | refine blk_drew ?_ | refine blk_alloc ?_ _)); exact BK196.out⟩, ⟨by repeat (first | (with_reducible first | exact HB.out | apply below_alloc | apply pw_below_drewN | apply below_drew1 | refine below_set ?_ GE194.out | refine below_set ?_ GE196.out) | exact HB.out)⟩⟩
    case rest =>
     clear HC27
     try clear c1
     try clear p1
     try clear q1
     try clear hx1
     try clear c2
     try clear p2
     try clear c3
     try clear p3
     try clear q3
     try clear hx3
     try clear qi3
     try clear p6
     try clear c8
     try clear c11
     try clear c11b0
     try clear c12
     try clear c12b0
     try clear c13
     try clear c13b0
     try clear c14
     try clear c15
     try clear p19
     try clear q19
     try clear hx19
     try clear c21
     try clear c28
     try clear c28b0
     try clear c28b1
     try clear c29
     try clear c29b0
     try clear c29b1
     try clear p30
     try clear q30
     try clear hx30
     try clear qi30
     try clear hf30
     try clear c31
     try clear hcz32_0
     try clear hcz32_1
     try clear hcz9_0
     try clear hcz9_1
     try clear hfz32_0
     try clear hfz32_1
     try clear hfz9_0
     try clear hfz9_1
     try clear hx198_0
     try clear hx30_0
     try clear p198
     try clear p2
     try clear p30
     try clear q198
     try clear q30
     obtain ⟨kq, x197000_26, u197000, HA, HJ26, HO_197000, BK194, BK196, HB⟩ := hcut
     cases kq with
     | zero => exact absurd HA.out (by simp [hypercubelaw1_Facts.j1])
     | succ kj26 =>
      have H := HA.out
      clear HA
      simp only [hypercubelaw1_Facts.j1] at H
      have H' := am H
      clear H
      go_wp2
      go_loopg [13, 14] kj26 (fun kq v13 v14 w' => ∃ (x13_3 : List (S51)) (x14_3 : Int), v14 = .int .i64 x14_3 ∧ Aside0 (hypercubelaw1_Facts.l1 kq l3 x13_3 x14_3 x197000_26 t195 = some (r1, r2, r3)) ∧ Aside0 (kq ≤ kj26) ∧ Aside0 (Kd.S k51 51 w' w.heap.size (fun k_ => some k_ ≠ (u197000 : Value).ownBlock) v13 x13_3) ∧ Aside0 (Kd.R (Kd.int .i64) 3 w' w.heap.size (fun _ => True) u197000 x197000_26) ∧ Aside0 (w'.heap[gb194]? = some (.cells #[(.slice none 0 0), .int .i64 0] 25 (0, 0))) ∧ Aside0 (w'.heap[gb196]? = some (.cells #[u197000, .int .i64 t195] 25 (0, 0))) ∧ Aside0 (Below w.heap.size w w'))
      case atStart => exact ⟨(([] : List (S51))), (0), (by first | rfl | (simp; done) | (simp [*]; done)), H', ⟨Nat.le_refl _⟩, ⟨by first | exact Kd.S_nil _ _ _ _ _ | exact Kd.N_nil _ _ _ _ _ | exact Kd.V_nil _ _ _ _ _ | exact Kd.Q_nil _ _ _ _ _ | exact Kd.R_nil _ _ _ _ _⟩, ⟨by (with_reducible repeat (first | apply Kd.R_alloc | apply Kd.R_drewN | apply Kd.R_drew)); exact HO_197000.out⟩, ⟨by (with_reducible repeat (first | refine blk_drewN ?_ _ | refine blk_drew ?_ | refine blk_alloc ?_ _)); exact BK194.out⟩, ⟨by (with_reducible repeat (first | refine blk_drewN ?_ _ | refine blk_drew ?_ | refine blk_alloc ?_ _)); exact BK196.out⟩, ⟨by repeat (first | (with_reducible first | exact HB.out | apply below_alloc | apply pw_below_drewN | apply below_drew1 | refine below_set ?_ GE194.out | refine below_set ?_ GE196.out) | exact HB.out)⟩⟩
      case round =>
       clear H'
       try clear c1
       try clear p1
       try clear q1
       try clear hx1
       try clear c2
       try clear p2
       try clear c3
       try clear p3
       try clear q3
       try clear hx3
       try clear qi3
       try clear p6
       try clear c8
       try clear c11
       try clear c11b0
       try clear c12
       try clear c12b0
       try clear c13
       try clear c13b0
       try clear c14
       try clear c15
       try clear p19
       try clear q19
       try clear hx19
       try clear c21
       try clear c28
       try clear c28b0
       try clear c28b1
       try clear c29
       try clear c29b0
       try clear c29b1
       try clear p30
       try clear q30
       try clear hx30
       try clear qi30
       try clear hf30
       try clear c31
       try clear hcz32_0
       try clear hcz32_1
       try clear hcz9_0
       try clear hcz9_1
       try clear hfz32_0
       try clear hfz32_1
       try clear hfz9_0
       try clear hfz9_1
       try clear hx198_0
       try clear hx30_0
       try clear p1
       try clear p19
       try clear p198
       try clear p2
       try clear p3
       try clear p30
       try clear p6
       try clear q1
       try clear q19
       try clear q198
       try clear q3
       try clear q30
       obtain ⟨x13_3, x14_3, rfl, HA, HK3, HO_13, HO_197000, BK194, BK196, HB⟩ := hrel
       cases gk with
       | zero => exact absurd HA.out (by simp [hypercubelaw1_Facts.l1])
       | succ k3 =>
        have H := HA.out
        clear HA
        simp only [hypercubelaw1_Facts.l1] at H
        have HC35 := am H
        clear H
        go_upto_region 13 with (fail)
        go_cut [59] (fun v59 wc => ∃ (kq : Nat) (x59_34 : Bool), v59 = .bool x59_34 ∧ Aside0 (hypercubelaw1_Facts.j3 kq l3 x13_3 x14_3 x59_34 x197000_26 t195 = some (r1, r2, r3)) ∧ Aside0 (kq ≤ k3) ∧ Aside0 (Kd.S k51 51 wc w.heap.size (fun k_ => some k_ ≠ (u197000 : Value).ownBlock) u13 x13_3) ∧ Aside0 (Kd.R (Kd.int .i64) 3 wc w.heap.size (fun _ => True) u197000 x197000_26) ∧ Aside0 (wc.heap[gb194]? = some (.cells #[(.slice none 0 0), .int .i64 0] 25 (0, 0))) ∧ Aside0 (wc.heap[gb196]? = some (.cells #[u197000, .int .i64 t195] 25 (0, 0))) ∧ Aside0 (Below w.heap.size w wc))
        case first =>
         have H := HC35.out
         clear HC35
         by_cases c36 : x14_3 < (l3.length : Int)
         ·rw [if_pos c36] at H
          have c36b0 : decide (x14_3 < (l3.length : Int)) = true := decide_eq_true c36
          clear c36
          (first | rw [c36b0] | (simp only [i64_w, i32_w]; rw [c36b0]) | skip)
          have H' := am H
          clear H
          go_wp2
          go_meet
          case rel => exact ⟨_, (decide (x14_3 < 40)), (by first | rfl | (simp; done) | (simp [*]; done)), H', ⟨by have := HK1.out; have := HJ26.out; have := HK3.out; first | omega | exact Nat.le_refl _⟩, ⟨by (with_reducible repeat (first | apply Kd.S_alloc | apply Kd.S_drewN | apply Kd.S_drew)); exact HO_13.out⟩, ⟨by (with_reducible repeat (first | apply Kd.R_alloc | apply Kd.R_drewN | apply Kd.R_drew)); exact HO_197000.out⟩, ⟨by (with_reducible repeat (first | refine blk_drewN ?_ _ | refine blk_drew ?_ | refine blk_alloc ?_ _)); exact BK194.out⟩, ⟨by (with_reducible repeat (first | refine blk_drewN ?_ _ | refine blk_drew ?_ | refine blk_alloc ?_ _)); exact BK196.out⟩, ⟨by repeat (first | (with_reducible first | exact HB.out | apply below_alloc | apply pw_below_drewN | apply below_drew1 | refine below_set ?_ GE194.out | refine below_set ?_ GE196.out) | exact HB.out)⟩⟩
         ·rw [if_neg c36] at H
          have c36b0 : decide (x14_3 < (l3.length : Int)) = false := decide_eq_false c36
          clear c36
          (first | rw [c36b0] | (simp only [i64_w, i32_w]; rw [c36b0]) | skip)
          have H' := am H
          clear H
          go_wp2
          go_meet
          case rel => exact ⟨_, (false), (by first | rfl | (simp; done) | (simp [*]; done)), H', ⟨by have := HK1.out; have := HJ26.out; have := HK3.out; first | omega | exact Nat.le_refl _⟩, ⟨by (with_reducible repeat (first | apply Kd.S_alloc | apply Kd.S_drewN | apply Kd.S_drew)); exact HO_13.out⟩, ⟨by (with_reducible repeat (first | apply Kd.R_alloc | apply Kd.R_drewN | apply Kd.R_drew)); exact HO_197000.out⟩, ⟨by (with_reducible repeat (first | refine blk_drewN ?_ _ | refine blk_drew ?_ | refine blk_alloc ?_ _)); exact BK194.out⟩, ⟨by (with_reducible repeat (first | refine blk_drewN ?_ _ | refine blk_drew ?_ | refine blk_alloc ?_ _)); exact BK196.out⟩, ⟨by repeat (first | (with_reducible first | exact HB.out | apply below_alloc | apply pw_below_drewN | apply below_drew1 | refine below_set ?_ GE194.out | refine below_set ?_ GE196.out) | exact HB.out)⟩⟩
        case rest =>
         clear HC35
         try clear c1
         try clear p1
         try clear q1
         try clear hx1
         try clear c2
         try clear p2
         try clear c3
         try clear p3
         try clear q3
         try clear hx3
         try clear qi3
         try clear p6
         try clear c8
         try clear c11
         try clear c11b0
         try clear c12
         try clear c12b0
         try clear c13
         try clear c13b0
         try clear c14
         try clear c15
         try clear p19
         try clear q19
         try clear hx19
         try clear c21
         try clear c28
         try clear c28b0
         try clear c28b1
         try clear c29
         try clear c29b0
         try clear c29b1
         try clear p30
         try clear q30
         try clear hx30
         try clear qi30
         try clear hf30
         try clear c31
         try clear c36
         try clear c36b0
         try clear hcz32_0
         try clear hcz32_1
         try clear hcz9_0
         try clear hcz9_1
         try clear hfz32_0
         try clear hfz32_1
         try clear hfz9_0
         try clear hfz9_1
         try clear hx198_0
         try clear hx30_0
         try clear p1
         try clear p19
         try clear p198
         try clear p2
         try clear p3
         try clear p30
         try clear p6
         try clear q1
         try clear q19
         try clear q198
         try clear q3
         try clear q30
         obtain ⟨kq, x59_34, rfl, HA, HJ34, HO_13, HO_197000, BK194, BK196, HB⟩ := hcut
         cases kq with
         | zero => exact absurd HA.out (by simp [hypercubelaw1_Facts.j3])
         | succ kj34 =>
          have H := HA.out
          clear HA
          simp only [hypercubelaw1_Facts.j3] at H
          by_cases c37 : x59_34 = true
          ·subst c37
           have H1 : (if 0 ≤ x14_3 then (if x14_3 < (l3.length : Int) then (hypercubelaw1_Facts.l2 kj34 l3 x13_3 x14_3 (rd l3 x14_3) 0 x197000_26 t195 ([] : List Int)) else (none)) else (none)) = some (r1, r2, r3) := by rw [if_pos rfl] at H; exact H
           clear H
           have H := H1
           clear H1
           by_cases c38 : 0 ≤ x14_3
           ·rw [if_pos c38] at H
            have c38b0 : decide (0 ≤ x14_3) = true := decide_eq_true c38
            clear c38
            by_cases c39 : x14_3 < (l3.length : Int)
            ·rw [if_pos c39] at H
             have c39b0 : decide (x14_3 < (l3.length : Int)) = true := decide_eq_true c39
             clear c39
             have H' := am H
             clear H
             have p209 : 0 ≤ (x14_3 : Int) := of_decide_eq_true (by first | (with_reducible assumption) | assumption)
             have q209 : x14_3 < (l3.length : Int) := of_decide_eq_true (by first | (with_reducible assumption) | assumption)
             obtain ⟨ad209, e209, hx209_0⟩ := Kd.at_int HR3.out x14_3 p209 q209
             cases e209
             replace hx209_0 := (HB.out.cell (World.block_lt_of_cell? w _ hx209_0)).trans hx209_0
             replace p209 := eq_true p209
             replace q209 := eq_true q209
             go_wp2_with (first | ((with_reducible refine gate_dst (N := 16) rfl ?_); refine box_event ?hg (N := 16) ?hd (cs := #[.slice none 0 0, .slice none 0 0]) (t := 51) ?hr ?_; (case hd => rfl); (case hg => rfl); (case hr => first | (go_simp; done) | (go_simp; rfl)); intro gb210 hg w40 hbox hb; have n0_ := am (Kd.S_below (Kd.S_elderB (Kd.S_mv HO_13.out) gb210 (Nat.le_of_eq hg.symm)) hb); have n1_ := am (Kd.R_below (Kd.R_mv HO_197000.out) hb); have n2_ := am (blk_below (bmv BK194.out) hb); have n3_ := am (blk_below (bmv BK196.out) hb); have n4_ := am (below_step (wmv HB.out) hb); have n5_ := am (hbox); have n6_ := am ((by rw [hg]; exact (below_size (wmv HB.out)) : w.heap.size ≤ gb210)); have n7_ := am ((by rw [hg]; exact (below_size (wmv HB.out)) : w.heap.size ≤ gb210)); have n8_ := am ((by rw [hg]; exact Nat.ne_of_lt (blk_lt (bmv BK194.out)) : gb194 ≠ gb210)); have n9_ := am ((by rw [hg]; exact Nat.ne_of_gt (blk_lt (bmv BK194.out)) : gb210 ≠ gb194)); have n10_ := am ((by rw [hg]; exact Nat.ne_of_lt (blk_lt (bmv BK196.out)) : gb196 ≠ gb210)); have n11_ := am ((by rw [hg]; exact Nat.ne_of_gt (blk_lt (bmv BK196.out)) : gb210 ≠ gb196)); clear HO_13 HO_197000 BK194 BK196 HB; revert n0_ n1_ n2_ n3_ n4_ n5_ n6_ n7_ n8_ n9_ n10_ n11_; intro HO_13 HO_197000 BK194 BK196 HB BK210 GW210 GE210 NB194_210 NB210_194 NB196_210 NB210_196; clear hb hbox hg))
             go_loopg [15, 17] kj34 (fun kq v15 v17 w' => ∃ (x15_5 : Int) (x17_5 : Int) (x211000_5 : List Int) (u211000 : Value), v15 = .int .i64 x15_5 ∧ v17 = .int .i64 x17_5 ∧ Aside0 (hypercubelaw1_Facts.l2 kq l3 x13_3 x14_3 x15_5 x17_5 x197000_26 t195 x211000_5 = some (r1, r2, r3)) ∧ Aside0 (kq ≤ kj34) ∧ Aside0 (Kd.S k51 51 w' w.heap.size (fun k_ => some k_ ≠ (u197000 : Value).ownBlock ∧ some k_ ≠ (u211000 : Value).ownBlock ∧ k_ ≠ gb210) u13 x13_3) ∧ Aside0 (Kd.R (Kd.int .i64) 3 w' w.heap.size (fun k_ => some k_ ≠ (u211000 : Value).ownBlock) u197000 x197000_26) ∧ Aside0 (Kd.R (Kd.int .i64) 3 w' w.heap.size (fun k_ => some k_ ≠ (u197000 : Value).ownBlock) u211000 x211000_5) ∧ Aside0 (w'.heap[gb194]? = some (.cells #[(.slice none 0 0), .int .i64 0] 25 (0, 0))) ∧ Aside0 (w'.heap[gb196]? = some (.cells #[u197000, .int .i64 t195] 25 (0, 0))) ∧ Aside0 (w'.heap[gb210]? = some (.cells #[u211000, (.slice none 0 0)] 51 (0, 0))) ∧ Aside0 (Below w.heap.size w w'))
             case atStart => exact ⟨(rd l3 x14_3), (0), (([] : List Int)), (.slice none 0 0), (by first | rfl | (simp; done) | (simp [*]; done)), (by first | rfl | (simp; done) | (simp [*]; done)), H', ⟨Nat.le_refl _⟩, ⟨by (with_reducible repeat (first | apply Kd.S_alloc | apply Kd.S_drewN | apply Kd.S_drew)); exact Kd.S_mono HO_13.out (fun _ hk => ⟨hk.1, ⟨(by simp [Value.ownBlock]), hk.2⟩⟩)⟩, ⟨by (with_reducible repeat (first | apply Kd.R_alloc | apply Kd.R_drewN | apply Kd.R_drew)); exact Kd.R_mono HO_197000.out (fun _ hk => (by simp [Value.ownBlock]))⟩, ⟨by first | exact Kd.R_nil _ _ _ _ _ | exact Kd.N_nil _ _ _ _ _ | exact Kd.V_nil _ _ _ _ _ | exact Kd.Q_nil _ _ _ _ _ | exact Kd.S_nil _ _ _ _ _⟩, ⟨by (with_reducible repeat (first | refine blk_drewN ?_ _ | refine blk_drew ?_ | refine blk_alloc ?_ _)); exact BK194.out⟩, ⟨by (with_reducible repeat (first | refine blk_drewN ?_ _ | refine blk_drew ?_ | refine blk_alloc ?_ _)); exact BK196.out⟩, ⟨by (with_reducible repeat (first | refine blk_drewN ?_ _ | refine blk_drew ?_ | refine blk_alloc ?_ _)); exact BK210.out⟩, ⟨by repeat (first | (with_reducible first | exact HB.out | apply below_alloc | apply pw_below_drewN | apply below_drew1 | refine below_set ?_ GE194.out | refine below_set ?_ GE196.out | refine below_set ?_ GE210.out) | exact HB.out)⟩⟩
             case round =>
              clear H'
              try clear c1
              try clear p1
              try clear q1
              try clear hx1
              try clear c2
              try clear p2
              try clear q2
              try clear hx2
              try clear c3
              try clear p3
              try clear q3
              try clear hx3
              try clear qi3
              try clear p6
              try clear c8
              try clear c11
              try clear c11b0
              try clear c12
              try clear c12b0
              try clear c13
              try clear c13b0
              try clear c14
              try clear c15
              try clear p19
              try clear q19
              try clear hx19
              try clear p20
              try clear q20
              try clear hx20
              try clear c21
              try clear c28
              try clear c28b0
              try clear c28b1
              try clear c29
              try clear c29b0
              try clear c29b1
              try clear p30
              try clear q30
              try clear hx30
              try clear qi30
              try clear hf30
              try clear c31
              try clear c36
              try clear c36b0
              try clear c37
              try clear c38
              try clear c38b0
              try clear c39
              try clear c39b0
              try clear hcz32_0
              try clear hcz32_1
              try clear hcz9_0
              try clear hcz9_1
              try clear hfz32_0
              try clear hfz32_1
              try clear hfz9_0
              try clear hfz9_1
              try clear hx198_0
              try clear hx209_0
              try clear hx30_0
              try clear p1
              try clear p19
              try clear p198
              try clear p2
              try clear p209
              try clear p3
              try clear p30
              try clear p6
              try clear q1
              try clear q19
              try clear q198
              try clear q209
              try clear q3
              try clear q30
              obtain ⟨x15_5, x17_5, x211000_5, u211000, rfl, rfl, HA, HK5, HO_13, HO_197000, HO_211000, BK194, BK196, BK210, HB⟩ := hrel
              cases gk with
              | zero => exact absurd HA.out (by simp [hypercubelaw1_Facts.l2])
              | succ k5 =>
               have H := HA.out
               clear HA
               simp only [hypercubelaw1_Facts.l2] at H
               by_cases c41 : x17_5 < (x197000_26.length : Int)
               ·rw [if_pos c41] at H
                have c41b0 : decide (x17_5 < (x197000_26.length : Int)) = true := decide_eq_true c41
                clear c41
                by_cases c42 : 0 ≤ x17_5
                ·rw [if_pos c42] at H
                 have c42b0 : decide (0 ≤ x17_5) = true := decide_eq_true c42
                 clear c42
                 replace H := Option.bind_eq_some_iff.mp H
                 obtain ⟨t212, A430, H⟩ := H
                 replace H : (if x211000_5.length < 17592186044416 then (hypercubelaw1_Facts.l2 k5 l3 x13_3 x14_3 (wrap64 (Int.tdiv x15_5 5)) (wrap64 (x17_5 + 1)) x197000_26 t195 (x211000_5 ++ [t212])) else (none)) = some (r1, r2, r3) := H
                 have A43 := am A430
                 clear A430
                 by_cases c44 : x211000_5.length < 17592186044416
                 ·rw [if_pos c44] at H
                  have LMc44 := am c44
                  clear c44
                  obtain ⟨y213, hy213⟩ : ∃ y_ : List Int, y_ = (x211000_5 ++ [t212]) := ⟨_, rfl⟩
                  replace H : (hypercubelaw1_Facts.l2 k5 l3 x13_3 x14_3 (wrap64 (Int.tdiv x15_5 5)) (wrap64 (x17_5 + 1)) x197000_26 t195 y213) = some (r1, r2, r3) := by rw [hy213]; with_reducible exact H
                  have Ny213 := am hy213
                  clear hy213
                  have H' := am H
                  clear H
                  have hnb45 := NB196_194.out
                  have hnc45 := NB194_196.out
                  have hnb46 := NB196_210.out
                  have hnc46 := NB210_196.out
                  have hcz47_0 : wr.cell? ⟨gb196, 0, none⟩ = some (u197000) := (blk_cell BK196.out 0).trans rfl
                  have hcz47_1 : wr.cell? ⟨gb196, 1, none⟩ = some (.int .i64 t195) := (blk_cell BK196.out 1).trans rfl
                  have hfz47_0 := blk_frozen BK196.out 0
                  have hfz47_1 := blk_frozen BK196.out 1
                  obtain ⟨Ao48, co48, eo48⟩ := Kd.R_slice HO_197000.out
                  subst eo48
                  try go_wp2
                  have n0_ := am (Kd.S_drew HO_13.out)
                  have n1_ := am (Kd.R_drew HO_197000.out)
                  have n2_ := am (Kd.R_drew HO_211000.out)
                  have n3_ := am (blk_drew BK194.out)
                  have n4_ := am (blk_drew BK196.out)
                  have n5_ := am (blk_drew BK210.out)
                  have n6_ := am (below_drew1 HB.out)
                  clear HO_13 HO_197000 HO_211000 BK194 BK196 BK210 HB
                  revert n0_ n1_ n2_ n3_ n4_ n5_ n6_
                  intro HO_13 HO_197000 HO_211000 BK194 BK196 BK210 HB
                  have p211 : 0 ≤ (x17_5 : Int) := of_decide_eq_true (by first | (with_reducible assumption) | assumption)
                  have q211 : x17_5 < (x197000_26.length : Int) := of_decide_eq_true (by first | (with_reducible assumption) | assumption)
                  obtain ⟨ad211, e211, hx211_0⟩ := Kd.at_int (Kd.R_reads' HO_197000.out).2.2 x17_5 p211 q211
                  cases e211
                  replace p211 := eq_true p211
                  replace q211 := eq_true q211
                  refine start_ (n := 13) (S := fun w' => w'.cell? ⟨gb210, 0, none⟩ = some (u211000) ∧ w'.cell? ⟨gb210, 1, none⟩ = some (.slice none 0 0) ∧ w'.cell? ⟨gb196, 0, none⟩ = some (.slice (some ad211) x197000_26.length co48) ∧ w'.cell? ⟨gb196, 1, none⟩ = some (.int .i64 t195) ∧ w'.cell? (ad211.add (x17_5).toNat) = some (.int .i64 (rd x197000_26 x17_5))) (ds := [10, 12]) (bb 13 0) (by kernel_rfl) rfl rfl ⟨bc BK210 0, bc BK210 1, bc BK196 0, bc BK196 1, hx211_0⟩ (fun hHeld => ?_); refine with_tabW hypercubelaw1_Facts.tab20 hypercubelaw1_Facts.bits20 (fun HT_ HW_ => ?_)
                  generalize wr.drew = w49 at HO_13 HO_197000 HO_211000 BK194 BK196 BK210 HB hx211_0 hHeld ⊢
                  refine pu (i := 0) (N := some 73) (bb 13 1) HT_ ?_
                  refine pu (i := 2) (N := some 75) (bb 13 5) HT_ ?_
                  refine pu (i := 3) (N := some 76) (bb 13 13) HT_ ?_
                  refine pu (i := 5) (N := some 78) (bb 13 45) HT_ ?_
                  refine tk (i := 1) (N := some 74) (bb 13 47) HT_ HW_ hHeld ?_
                  refine tk (i := 4) (N := some 77) (bb 13 63) HT_ HW_ hHeld ?_
                  refine pu (i := 6) (N := some 79) (bb 13 127) HT_ ?_
                  refine tk (i := 7) (N := some 80) (bb 13 255) HT_ HW_ hHeld ?_
                  refine one_ (i := 8) (N := some 81) (bb 13 511) rfl rfl (one_of HT_.out (by kernel_rfl)) (by decide) (fun K hK => ?_)
                  refine goes_ Try.func28 (by kernel_rfl) rfl #[.int .i64 x15_5, .int .i64 (rd x197000_26 x17_5)] (by rfl) rfl rfl (by (try simp only [List.map_toArray, List.map_cons, List.map_nil]); first | done | rfl | (simp only [List.length_drop, List.length_take]; rfl)) ?_
                  with_reducible refine (hypercubelaw1_within.calls x15_5 (rd x197000_26 x17_5) t212 _ A43.out).mono ?_
                  rintro e w' ⟨rfl, ⟨nd, rfl⟩⟩
                  refine ⟨_, rfl, ?_⟩
                  refine hK.out _ _ ⟨bc BK210 0, bc BK210 1, bc BK196 0, bc BK196 1, hHeld.2.2.2.2⟩ (fun hHeld => ?_)
                  clear hK K
                  refine nm ?_
                  refine one_ (i := 9) (N := some 82) (bb 13 1023) rfl rfl (one_of HT_.out (by kernel_rfl)) (by decide) (fun K hK => ?_)
                  refine value_ (w1 := ?_) (v := ?_) (by rfl) rfl ?_ ?_
                  rotate_left 2
                  ·go_simp
                   constructor
                   ·rfl
                   ·rfl
                  refine hK.out _ _ ⟨(blk_cell (blk_alloc BK210.out _) 0).trans rfl, (blk_cell (blk_alloc BK210.out _) 1).trans rfl, (blk_cell (blk_alloc BK196.out _) 0).trans rfl, (blk_cell (blk_alloc BK196.out _) 1).trans rfl, (World.cell?_alloc_lt _ _ _ (World.block_lt_of_cell? _ _ (hHeld.2.2.2.2))).trans (hHeld.2.2.2.2)⟩ (fun hHeld => ?_)
                  clear hK K
                  refine nm ?_
                  refine last_ (i := 10) (N := some 83) (bb 13 2047) rfl rfl (one_of HT_.out (by kernel_rfl)) (by decide) (fun K hK => ?_)
                  refine Kd.R_append_step (Kd.int .i64) (w0 := w) w.heap.size (by rfl) (.tmp 74) (.tmp 82) 22 3 (.int .i64 0) 8 rfl Try.underlying22 info3 rfl (by decide) (by omega) u211000 x211000_5 t212 [.int .i64 t212] (fun k_ => some k_ ≠ (.slice (some ad211) x197000_26.length co48 : Value).ownBlock) (fun _ => False) rfl rfl ?aP (fun _ hk => hk.elim) ?aF ?aO ?aB ?aS ?aL ?_
                  (case aP => exact rfl)
                  (case aB => exact (wmv HB.out))
                  (case aF => exact (fun k_ hk => Kd.fresh' (Kd.R_lt (Kd.R_mv HO_197000.out)) k_ hk))
                  (case aO => exact (Kd.R_mv HO_211000.out))
                  (case aS => exact (below_size (wmv HB.out)))
                  (case aL => have := LMc44.out; omega)
                  intro v214 w50 ho hb hg hat
                  rw [← Ny213.out] at ho
                  have n0_ := am (Kd.S_after (ok := (fun k_ => some k_ ≠ (.slice (some ad211) x197000_26.length co48 : Value).ownBlock ∧ k_ ≠ gb210)) (Kd.S_mv (Kd.S_mono HO_13.out (fun _ hk => ⟨⟨hk.1, hk.2.2⟩, hk.2.1⟩))) hg hat)
                  have n1_ := am (Kd.R_after (ok := (fun _ => True)) (Kd.R_mv (Kd.R_mono HO_197000.out (fun _ hk => ⟨trivial, hk⟩))) hg hat)
                  have n2_ := am (blk_grown (bmv BK194.out) hg (Kd.R_ne HO_211000.out BK194.out (by decide)))
                  have n3_ := am (blk_grown (bmv BK196.out) hg (Kd.R_ne HO_211000.out BK196.out (by decide)))
                  have n4_ := am (blk_grown (bmv BK210.out) hg (Kd.R_ne HO_211000.out BK210.out (by decide)))
                  have n5_ := am (hb)
                  have n6_ := am (ho)
                  clear HO_13 HO_197000 BK194 BK196 BK210 HB HO_211000
                  revert n0_ n1_ n2_ n3_ n4_ n5_ n6_
                  intro HO_13 HO_197000 BK194 BK196 BK210 HB HO215
                  clear ho hb hg hat
                  obtain ⟨Ao51, co51, eo51⟩ := Kd.R_slice HO215.out
                  (first | subst eo51 | (injection eo51 with f1_ f2_ f3_; have f4_ := f1_.symm; have f5_ := f3_.symm; clear f1_ f2_ f3_; subst f4_; subst f5_))
                  refine hK.out _ _ ?_
                  clear hK K
                  refine nm ?_
                  refine pu (i := 11) (N := some 84) (bb 13 4095) HT_ ?_
                  refine last_ (i := 12) (N := none) (bb 13 8191) rfl rfl (one_of HT_.out (by kernel_rfl)) (by decide) (fun K hK => ?_)
                  have hs52 : w50.cell? ⟨gb210, 0, none⟩ = some (u211000) := (blk_cell BK210.out 0).trans rfl
                  have hfs52 := blk_frozen BK210.out 0
                  have hns52_0 := NB194_210.out
                  have hns52_1 := NB196_210.out
                  have hms52_0 := NB210_194.out
                  have hms52_1 := NB210_196.out
                  refine skip_ (w1 := ?_) (by rfl) rfl ?_ ?_
                  rotate_left
                  ·go_simp
                   rfl
                  refine hK.out _ _ ?_
                  clear hK K
                  refine done_ (done_of HT_.out (by kernel_rfl)) ?_
                  try go_wp2
                  go_roundg k5
                  case measure => have := HK1.out; have := HJ26.out; have := HK3.out; have := HJ34.out; have := HK5.out; omega
                  case rel => exact ⟨(wrap64 (Int.tdiv x15_5 5)), (wrap64 (x17_5 + 1)), (y213), (.slice Ao51 y213.length co51), (by first | rfl | (simp; done) | (simp [*]; done)), (by first | rfl | (simp; done) | (simp [*]; done)), H', ⟨by have := HK1.out; have := HJ26.out; have := HK3.out; have := HJ34.out; have := HK5.out; omega⟩, ⟨by (with_reducible repeat (first | apply Kd.S_alloc | apply Kd.S_drewN | apply Kd.S_drew)); exact Kd.S_mono (Kd.S_far (p := ⟨gb210, 0, none⟩) (Kd.S_mono HO_13.out (fun k_ hk => (⟨hk, hk.1.2⟩ : _ ∧ k_ ≠ gb210))) (fun _ hk => hk.2) (.slice Ao51 y213.length co51)) (fun _ hk => ⟨hk.1.1.1, ⟨hk.1.2, hk.1.1.2⟩⟩)⟩, ⟨by (with_reducible repeat (first | apply Kd.R_alloc | apply Kd.R_drewN | apply Kd.R_drew)); exact Kd.R_mono (Kd.R_far (p := ⟨gb210, 0, none⟩) (Kd.R_types HO_197000.out BK210.out (by decide)) (fun _ hk => hk.2) (.slice Ao51 y213.length co51)) (fun _ hk => hk.1.2)⟩, ⟨by (with_reducible repeat (first | apply Kd.R_alloc | apply Kd.R_drewN | apply Kd.R_drew)); exact Kd.R_mono (Kd.R_far (p := ⟨gb210, 0, none⟩) (Kd.R_types HO215.out BK210.out (by decide)) (fun _ hk => hk.2) (.slice Ao51 y213.length co51)) (fun _ hk => hk.1)⟩, ⟨by (with_reducible repeat (first | refine blk_drewN ?_ _ | refine blk_drew ?_ | refine blk_alloc ?_ _)); refine blk_far ?_ NB194_210.out _; (with_reducible repeat (first | refine blk_drewN ?_ _ | refine blk_drew ?_ | refine blk_alloc ?_ _)); exact BK194.out⟩, ⟨by (with_reducible repeat (first | refine blk_drewN ?_ _ | refine blk_drew ?_ | refine blk_alloc ?_ _)); refine blk_far ?_ NB196_210.out _; (with_reducible repeat (first | refine blk_drewN ?_ _ | refine blk_drew ?_ | refine blk_alloc ?_ _)); exact BK196.out⟩, ⟨by (with_reducible repeat (first | refine blk_drewN ?_ _ | refine blk_drew ?_ | refine blk_alloc ?_ _)); refine blk_put (cs := #[u211000, .slice none 0 0]) ?_ 0 _ rfl; (with_reducible repeat (first | refine blk_drewN ?_ _ | refine blk_drew ?_ | refine blk_alloc ?_ _)); exact BK210.out⟩, ⟨by repeat (first | (with_reducible first | exact HB.out | apply below_alloc | apply pw_below_drewN | apply below_drew1 | refine below_set ?_ GE194.out | refine below_set ?_ GE196.out | refine below_set ?_ GE210.out) | exact HB.out)⟩⟩
                 ·rw [if_neg c44] at H
                  exact absurd H (by simp)
                ·rw [if_neg c42] at H
                 exact absurd H (by simp)
               ·rw [if_neg c41] at H
                have c41b0 : decide (x17_5 < (x197000_26.length : Int)) = false := decide_eq_false c41
                clear c41
                have H' := am H
                clear H
                have hnb53 := NB196_194.out
                have hnc53 := NB194_196.out
                have hnb54 := NB196_210.out
                have hnc54 := NB210_196.out
                have hcz55_0 : wr.cell? ⟨gb196, 0, none⟩ = some (u197000) := (blk_cell BK196.out 0).trans rfl
                have hcz55_1 : wr.cell? ⟨gb196, 1, none⟩ = some (.int .i64 t195) := (blk_cell BK196.out 1).trans rfl
                have hfz55_0 := blk_frozen BK196.out 0
                have hfz55_1 := blk_frozen BK196.out 1
                obtain ⟨Ao56, co56, eo56⟩ := Kd.R_slice HO_197000.out
                subst eo56
                go_wp2
                go_loopg [18] k5 (fun kq v18 w' => ∃ (x18_6 : Int) (x211001_6 : List Int) (u211001 : Value), v18 = .int .i64 x18_6 ∧ Aside0 (hypercubelaw1_Facts.l3 kq l3 x13_3 x14_3 x15_5 x18_6 x197000_26 t195 x211000_5 x211001_6 = some (r1, r2, r3)) ∧ Aside0 (kq ≤ k5) ∧ Aside0 (Kd.S k51 51 w' w.heap.size (fun k_ => some k_ ≠ ((.slice Ao56 x197000_26.length co56) : Value).ownBlock ∧ some k_ ≠ (u211000 : Value).ownBlock ∧ some k_ ≠ (u211001 : Value).ownBlock ∧ k_ ≠ gb210) u13 x13_3) ∧ Aside0 (Kd.R (Kd.int .i64) 3 w' w.heap.size (fun k_ => some k_ ≠ (u211000 : Value).ownBlock ∧ some k_ ≠ (u211001 : Value).ownBlock) (.slice Ao56 x197000_26.length co56) x197000_26) ∧ Aside0 (Kd.R (Kd.int .i64) 3 w' w.heap.size (fun k_ => some k_ ≠ ((.slice Ao56 x197000_26.length co56) : Value).ownBlock ∧ some k_ ≠ (u211001 : Value).ownBlock) u211000 x211000_5) ∧ Aside0 (Kd.R (Kd.int .i64) 3 w' w.heap.size (fun k_ => some k_ ≠ ((.slice Ao56 x197000_26.length co56) : Value).ownBlock ∧ some k_ ≠ (u211000 : Value).ownBlock) u211001 x211001_6) ∧ Aside0 (w'.heap[gb194]? = some (.cells #[(.slice none 0 0), .int .i64 0] 25 (0, 0))) ∧ Aside0 (w'.heap[gb196]? = some (.cells #[(.slice Ao56 x197000_26.length co56), .int .i64 t195] 25 (0, 0))) ∧ Aside0 (w'.heap[gb210]? = some (.cells #[u211000, u211001] 51 (0, 0))) ∧ Aside0 (Below w.heap.size w w'))
                case atStart => exact ⟨(0), (([] : List Int)), (.slice none 0 0), (by first | rfl | (simp; done) | (simp [*]; done)), H', ⟨Nat.le_refl _⟩, ⟨by (with_reducible repeat (first | apply Kd.S_alloc | apply Kd.S_drewN | apply Kd.S_drew)); exact Kd.S_mono HO_13.out (fun _ hk => ⟨hk.1, ⟨hk.2.1, ⟨(by simp [Value.ownBlock]), hk.2.2⟩⟩⟩)⟩, ⟨by (with_reducible repeat (first | apply Kd.R_alloc | apply Kd.R_drewN | apply Kd.R_drew)); exact Kd.R_mono HO_197000.out (fun _ hk => ⟨hk, (by simp [Value.ownBlock])⟩)⟩, ⟨by (with_reducible repeat (first | apply Kd.R_alloc | apply Kd.R_drewN | apply Kd.R_drew)); exact Kd.R_mono HO_211000.out (fun _ hk => ⟨hk, (by simp [Value.ownBlock])⟩)⟩, ⟨by first | exact Kd.R_nil _ _ _ _ _ | exact Kd.N_nil _ _ _ _ _ | exact Kd.V_nil _ _ _ _ _ | exact Kd.Q_nil _ _ _ _ _ | exact Kd.S_nil _ _ _ _ _⟩, ⟨by (with_reducible repeat (first | refine blk_drewN ?_ _ | refine blk_drew ?_ | refine blk_alloc ?_ _)); exact BK194.out⟩, ⟨by (with_reducible repeat (first | refine blk_drewN ?_ _ | refine blk_drew ?_ | refine blk_alloc ?_ _)); exact BK196.out⟩, ⟨by (with_reducible repeat (first | refine blk_drewN ?_ _ | refine blk_drew ?_ | refine blk_alloc ?_ _)); exact BK210.out⟩, ⟨by repeat (first | (with_reducible first | exact HB.out | apply below_alloc | apply pw_below_drewN | apply below_drew1 | refine below_set ?_ GE194.out | refine below_set ?_ GE196.out | refine below_set ?_ GE210.out) | exact HB.out)⟩⟩
                case round =>
                 clear H'
                 try clear c1
                 try clear p1
                 try clear q1
                 try clear hx1
                 try clear c2
                 try clear p2
                 try clear q2
                 try clear hx2
                 try clear c3
                 try clear p3
                 try clear q3
                 try clear hx3
                 try clear qi3
                 try clear c4
                 try clear c5
                 try clear p6
                 try clear c8
                 try clear c11
                 try clear c11b0
                 try clear c12
                 try clear c12b0
                 try clear c13
                 try clear c13b0
                 try clear c14
                 try clear c15
                 try clear p19
                 try clear q19
                 try clear hx19
                 try clear p20
                 try clear q20
                 try clear hx20
                 try clear c21
                 try clear p21
                 try clear q21
                 try clear hx21
                 try clear c28
                 try clear c28b0
                 try clear c28b1
                 try clear c29
                 try clear c29b0
                 try clear c29b1
                 try clear p30
                 try clear q30
                 try clear hx30
                 try clear qi30
                 try clear hf30
                 try clear c31
                 try clear c36
                 try clear c36b0
                 try clear c37
                 try clear c38
                 try clear c38b0
                 try clear c39
                 try clear c39b0
                 try clear c41
                 try clear c41b0
                 try clear c42
                 try clear c42b0
                 try clear c44
                 try clear c45
                 try clear c46
                 try clear c53
                 try clear c54
                 try clear hcz32_0
                 try clear hcz32_1
                 try clear hcz47_0
                 try clear hcz47_1
                 try clear hcz55_0
                 try clear hcz55_1
                 try clear hcz9_0
                 try clear hcz9_1
                 try clear hfz32_0
                 try clear hfz32_1
                 try clear hfz47_0
                 try clear hfz47_1
                 try clear hfz55_0
                 try clear hfz55_1
                 try clear hfz9_0
                 try clear hfz9_1
                 try clear hx198_0
                 try clear hx209_0
                 try clear hx211_0
                 try clear hx30_0
                 try clear p1
                 try clear p19
                 try clear p198
                 try clear p2
                 try clear p20
                 try clear p209
                 try clear p211
                 try clear p3
                 try clear p30
                 try clear p6
                 try clear q1
                 try clear q19
                 try clear q198
                 try clear q2
                 try clear q20
                 try clear q209
                 try clear q211
                 try clear q3
                 try clear q30
                 obtain ⟨x18_6, x211001_6, u211001, rfl, HA, HK6, HO_13, HO_197000, HO_211000, HO_211001, BK194, BK196, BK210, HB⟩ := hrel
                 cases gk with
                 | zero => exact absurd HA.out (by simp [hypercubelaw1_Facts.l3])
                 | succ k6 =>
                  have H := HA.out
                  clear HA
                  simp only [hypercubelaw1_Facts.l3] at H
                  by_cases c57 : x18_6 < t195
                  ·rw [if_pos c57] at H
                   have c57b0 : decide (x18_6 < t195) = true := decide_eq_true c57
                   clear c57
                   replace H := Option.bind_eq_some_iff.mp H
                   obtain ⟨t216, A580, H⟩ := H
                   replace H : (if x211001_6.length < 17592186044416 then (hypercubelaw1_Facts.l3 k6 l3 x13_3 x14_3 x15_5 (wrap64 (x18_6 + 1)) x197000_26 t195 x211000_5 (x211001_6 ++ [wrap64 (t216 - 100)])) else (none)) = some (r1, r2, r3) := H
                   have A58 := am A580
                   clear A580
                   by_cases c59 : x211001_6.length < 17592186044416
                   ·rw [if_pos c59] at H
                    have LMc59 := am c59
                    clear c59
                    obtain ⟨y217, hy217⟩ : ∃ y_ : List Int, y_ = (x211001_6 ++ [wrap64 (t216 - 100)]) := ⟨_, rfl⟩
                    replace H : (hypercubelaw1_Facts.l3 k6 l3 x13_3 x14_3 x15_5 (wrap64 (x18_6 + 1)) x197000_26 t195 x211000_5 y217) = some (r1, r2, r3) := by rw [hy217]; with_reducible exact H
                    have Ny217 := am hy217
                    clear hy217
                    have H' := am H
                    clear H
                    have hnb60 := NB196_194.out
                    have hnc60 := NB194_196.out
                    have hnb61 := NB196_210.out
                    have hnc61 := NB210_196.out
                    have hcz62_0 : wr.cell? ⟨gb196, 0, none⟩ = some (.slice Ao56 x197000_26.length co56) := (blk_cell BK196.out 0).trans rfl
                    have hcz62_1 : wr.cell? ⟨gb196, 1, none⟩ = some (.int .i64 t195) := (blk_cell BK196.out 1).trans rfl
                    have hfz62_0 := blk_frozen BK196.out 0
                    have hfz62_1 := blk_frozen BK196.out 1
                    try go_wp2
                    have n0_ := am (Kd.S_drew HO_13.out)
                    have n1_ := am (Kd.R_drew HO_197000.out)
                    have n2_ := am (Kd.R_drew HO_211000.out)
                    have n3_ := am (Kd.R_drew HO_211001.out)
                    have n4_ := am (blk_drew BK194.out)
                    have n5_ := am (blk_drew BK196.out)
                    have n6_ := am (blk_drew BK210.out)
                    have n7_ := am (below_drew1 HB.out)
                    clear HO_13 HO_197000 HO_211000 HO_211001 BK194 BK196 BK210 HB
                    revert n0_ n1_ n2_ n3_ n4_ n5_ n6_ n7_
                    intro HO_13 HO_197000 HO_211000 HO_211001 BK194 BK196 BK210 HB
                    refine start_ (n := 12) (S := fun w' => w'.cell? ⟨gb210, 0, none⟩ = some (u211000) ∧ w'.cell? ⟨gb210, 1, none⟩ = some (u211001)) (ds := [11]) (bb 12 0) (by kernel_rfl) rfl rfl ⟨bc BK210 0, bc BK210 1⟩ (fun hHeld => ?_); refine with_tabW hypercubelaw1_Facts.tab25 hypercubelaw1_Facts.bits25 (fun HT_ HW_ => ?_)
                    generalize wr.drew = w63 at HO_13 HO_197000 HO_211000 HO_211001 BK194 BK196 BK210 HB hHeld ⊢
                    refine pu (i := 0) (N := some 93) (bb 12 1) HT_ ?_
                    refine pu (i := 2) (N := some 95) (bb 12 5) HT_ ?_
                    refine pu (i := 3) (N := some 96) (bb 12 13) HT_ ?_
                    refine pu (i := 4) (N := some 97) (bb 12 29) HT_ ?_
                    refine pu (i := 5) (N := some 98) (bb 12 61) HT_ ?_
                    refine tk (i := 1) (N := some 94) (bb 12 63) HT_ HW_ hHeld ?_
                    refine one_ (i := 6) (N := some 99) (bb 12 127) rfl rfl (one_of HT_.out (by kernel_rfl)) (by decide) (fun K hK => ?_)
                    refine goes_ Try.func28 (by kernel_rfl) rfl #[.int .i64 (wrap64 (x15_5 + (wrap64 (7 * x18_6)))), .int .i64 201] (by rfl) rfl rfl (by (try simp only [List.map_toArray, List.map_cons, List.map_nil]); first | done | rfl | (simp only [List.length_drop, List.length_take]; rfl)) ?_
                    with_reducible refine (hypercubelaw1_within.calls (wrap64 (x15_5 + (wrap64 (7 * x18_6)))) 201 t216 _ A58.out).mono ?_
                    rintro e w' ⟨rfl, ⟨nd, rfl⟩⟩
                    refine ⟨_, rfl, ?_⟩
                    refine hK.out _ _ ⟨bc BK210 0, bc BK210 1⟩ (fun hHeld => ?_)
                    clear hK K
                    refine nm ?_
                    refine pu (i := 7) (N := some 100) (bb 12 255) HT_ ?_
                    refine one_ (i := 8) (N := some 101) (bb 12 511) rfl rfl (one_of HT_.out (by kernel_rfl)) (by decide) (fun K hK => ?_)
                    refine value_ (w1 := ?_) (v := ?_) (by rfl) rfl ?_ ?_
                    rotate_left 2
                    ·go_simp
                     constructor
                     ·rfl
                     ·rfl
                    refine hK.out _ _ ⟨(blk_cell (blk_alloc BK210.out _) 0).trans rfl, (blk_cell (blk_alloc BK210.out _) 1).trans rfl⟩ (fun hHeld => ?_)
                    clear hK K
                    refine nm ?_
                    refine one_ (i := 9) (N := some 102) (bb 12 1023) rfl rfl (one_of HT_.out (by kernel_rfl)) (by decide) (fun K hK => ?_)
                    refine Kd.R_append_step (Kd.int .i64) (w0 := w) w.heap.size (by rfl) (.tmp 94) (.tmp 101) 22 3 (.int .i64 0) 8 rfl Try.underlying22 info3 rfl (by decide) (by omega) u211001 x211001_6 (wrap64 (t216 - 100)) [.int .i64 (wrap64 (t216 - 100))] (fun k_ => some k_ ≠ (.slice Ao56 x197000_26.length co56 : Value).ownBlock ∧ some k_ ≠ (u211000 : Value).ownBlock) (fun _ => False) rfl rfl ?aP (fun _ hk => hk.elim) ?aF ?aO ?aB ?aS ?aL ?_
                    (case aP => exact rfl)
                    (case aB => exact (wmv HB.out))
                    (case aF => exact (fun k_ hk => ⟨Kd.fresh' (Kd.R_lt (Kd.R_mv HO_197000.out)) k_ hk, Kd.fresh' (Kd.R_lt (Kd.R_mv HO_211000.out)) k_ hk⟩))
                    (case aO => exact (Kd.R_mv HO_211001.out))
                    (case aS => exact (below_size (wmv HB.out)))
                    (case aL => have := LMc59.out; omega)
                    intro v218 w64 ho hb hg hat
                    rw [← Ny217.out] at ho
                    have n0_ := am (Kd.S_after (ok := (fun k_ => some k_ ≠ (.slice Ao56 x197000_26.length co56 : Value).ownBlock ∧ some k_ ≠ (u211000 : Value).ownBlock ∧ k_ ≠ gb210)) (Kd.S_mv (Kd.S_mono HO_13.out (fun _ hk => ⟨⟨hk.1, ⟨hk.2.1, hk.2.2.2⟩⟩, hk.2.2.1⟩))) hg hat)
                    have n1_ := am (Kd.R_after (ok := (fun k_ => some k_ ≠ (u211000 : Value).ownBlock)) (Kd.R_mv HO_197000.out) hg hat)
                    have n2_ := am (Kd.R_after (ok := (fun k_ => some k_ ≠ (.slice Ao56 x197000_26.length co56 : Value).ownBlock)) (Kd.R_mv HO_211000.out) hg hat)
                    have n3_ := am (blk_grown (bmv BK194.out) hg (Kd.R_ne HO_211001.out BK194.out (by decide)))
                    have n4_ := am (blk_grown (bmv BK196.out) hg (Kd.R_ne HO_211001.out BK196.out (by decide)))
                    have n5_ := am (blk_grown (bmv BK210.out) hg (Kd.R_ne HO_211001.out BK210.out (by decide)))
                    have n6_ := am (hb)
                    have n7_ := am (ho)
                    clear HO_13 HO_197000 HO_211000 BK194 BK196 BK210 HB HO_211001
                    revert n0_ n1_ n2_ n3_ n4_ n5_ n6_ n7_
                    intro HO_13 HO_197000 HO_211000 BK194 BK196 BK210 HB HO219
                    clear ho hb hg hat
                    obtain ⟨Ao65, co65, eo65⟩ := Kd.R_slice HO219.out
                    (first | subst eo65 | (injection eo65 with f1_ f2_ f3_; have f4_ := f1_.symm; have f5_ := f3_.symm; clear f1_ f2_ f3_; subst f4_; subst f5_))
                    refine hK.out _ _ ⟨bc BK210 0, bc BK210 1⟩ (fun hHeld => ?_)
                    clear hK K
                    refine nm ?_
                    refine pu (i := 10) (N := some 103) (bb 12 2047) HT_ ?_
                    refine last_ (i := 11) (N := none) (bb 12 4095) rfl rfl (one_of HT_.out (by kernel_rfl)) (by decide) (fun K hK => ?_)
                    have hs66 : w64.cell? ⟨gb210, 1, none⟩ = some (u211001) := (blk_cell BK210.out 1).trans rfl
                    have hfs66 := blk_frozen BK210.out 1
                    have hns66_0 := NB194_210.out
                    have hns66_1 := NB196_210.out
                    have hms66_0 := NB210_194.out
                    have hms66_1 := NB210_196.out
                    refine skip_ (w1 := ?_) (by rfl) rfl ?_ ?_
                    rotate_left
                    ·go_simp
                     rfl
                    refine hK.out _ _ ?_
                    clear hK K
                    refine done_ (done_of HT_.out (by kernel_rfl)) ?_
                    try go_wp2
                    go_roundg k6
                    case measure => have := HK1.out; have := HJ26.out; have := HK3.out; have := HJ34.out; have := HK5.out; have := HK6.out; omega
                    case rel => exact ⟨(wrap64 (x18_6 + 1)), (y217), (.slice Ao65 y217.length co65), (by first | rfl | (simp; done) | (simp [*]; done)), H', ⟨by have := HK1.out; have := HJ26.out; have := HK3.out; have := HJ34.out; have := HK5.out; have := HK6.out; omega⟩, ⟨by (with_reducible repeat (first | apply Kd.S_alloc | apply Kd.S_drewN | apply Kd.S_drew)); exact Kd.S_mono (Kd.S_far (p := ⟨gb210, 1, none⟩) (Kd.S_mono HO_13.out (fun k_ hk => (⟨hk, hk.1.2.2⟩ : _ ∧ k_ ≠ gb210))) (fun _ hk => hk.2) (.slice Ao65 y217.length co65)) (fun _ hk => ⟨hk.1.1.1, ⟨hk.1.1.2.1, ⟨hk.1.2, hk.1.1.2.2⟩⟩⟩)⟩, ⟨by (with_reducible repeat (first | apply Kd.R_alloc | apply Kd.R_drewN | apply Kd.R_drew)); exact Kd.R_mono (Kd.R_far (p := ⟨gb210, 1, none⟩) (Kd.R_types HO_197000.out BK210.out (by decide)) (fun _ hk => hk.2) (.slice Ao65 y217.length co65)) (fun _ hk => ⟨hk.1.1, hk.1.2⟩)⟩, ⟨by (with_reducible repeat (first | apply Kd.R_alloc | apply Kd.R_drewN | apply Kd.R_drew)); exact Kd.R_mono (Kd.R_far (p := ⟨gb210, 1, none⟩) (Kd.R_types HO_211000.out BK210.out (by decide)) (fun _ hk => hk.2) (.slice Ao65 y217.length co65)) (fun _ hk => ⟨hk.1.1, hk.1.2⟩)⟩, ⟨by (with_reducible repeat (first | apply Kd.R_alloc | apply Kd.R_drewN | apply Kd.R_drew)); exact Kd.R_mono (Kd.R_far (p := ⟨gb210, 1, none⟩) (Kd.R_types HO219.out BK210.out (by decide)) (fun _ hk => hk.2) (.slice Ao65 y217.length co65)) (fun _ hk => ⟨hk.1.1, hk.1.2⟩)⟩, ⟨by (with_reducible repeat (first | refine blk_drewN ?_ _ | refine blk_drew ?_ | refine blk_alloc ?_ _)); refine blk_far ?_ NB194_210.out _; (with_reducible repeat (first | refine blk_drewN ?_ _ | refine blk_drew ?_ | refine blk_alloc ?_ _)); exact BK194.out⟩, ⟨by (with_reducible repeat (first | refine blk_drewN ?_ _ | refine blk_drew ?_ | refine blk_alloc ?_ _)); refine blk_far ?_ NB196_210.out _; (with_reducible repeat (first | refine blk_drewN ?_ _ | refine blk_drew ?_ | refine blk_alloc ?_ _)); exact BK196.out⟩, ⟨by (with_reducible repeat (first | refine blk_drewN ?_ _ | refine blk_drew ?_ | refine blk_alloc ?_ _)); refine blk_put (cs := #[u211000, u211001]) ?_ 1 _ rfl; (with_reducible repeat (first | refine blk_drewN ?_ _ | refine blk_drew ?_ | refine blk_alloc ?_ _)); exact BK210.out⟩, ⟨by repeat (first | (with_reducible first | exact HB.out | apply below_alloc | apply pw_below_drewN | apply below_drew1 | refine below_set ?_ GE194.out | refine below_set ?_ GE196.out | refine below_set ?_ GE210.out) | exact HB.out)⟩⟩
                   ·rw [if_neg c59] at H
                    exact absurd H (by simp)
                  ·rw [if_neg c57] at H
                   have c57b0 : decide (x18_6 < t195) = false := decide_eq_false c57
                   clear c57
                   by_cases c67 : x13_3.length < 2932031007402
                   ·rw [if_pos c67] at H
                    have LMc67 := am c67
                    clear c67
                    obtain ⟨y220, hy220⟩ : ∃ y_ : List (S51), y_ = (x13_3 ++ [(⟨x211000_5, x211001_6⟩ : S51)]) := ⟨_, rfl⟩
                    replace H : (hypercubelaw1_Facts.l1 k6 l3 y220 (wrap64 (x14_3 + 1)) x197000_26 t195) = some (r1, r2, r3) := by rw [hy220]; with_reducible exact H
                    have Ny220 := am hy220
                    clear hy220
                    have H' := am H
                    clear H
                    have hnb68 := NB196_194.out
                    have hnc68 := NB194_196.out
                    have hnb69 := NB196_210.out
                    have hnc69 := NB210_196.out
                    have hcz70_0 : wr.cell? ⟨gb196, 0, none⟩ = some (.slice Ao56 x197000_26.length co56) := (blk_cell BK196.out 0).trans rfl
                    have hcz70_1 : wr.cell? ⟨gb196, 1, none⟩ = some (.int .i64 t195) := (blk_cell BK196.out 1).trans rfl
                    have hfz70_0 := blk_frozen BK196.out 0
                    have hfz70_1 := blk_frozen BK196.out 1
                    have hnb71 := NB210_194.out
                    have hnc71 := NB194_210.out
                    have hcz72_0 : wr.cell? ⟨gb210, 0, none⟩ = some (u211000) := (blk_cell BK210.out 0).trans rfl
                    have hcz72_1 : wr.cell? ⟨gb210, 1, none⟩ = some (u211001) := (blk_cell BK210.out 1).trans rfl
                    have hfz72_0 := blk_frozen BK210.out 0
                    have hfz72_1 := blk_frozen BK210.out 1
                    obtain ⟨Ao74, co74, eo74⟩ := Kd.R_slice HO_211000.out
                    subst eo74
                    obtain ⟨Ao75, co75, eo75⟩ := Kd.R_slice HO_211001.out
                    subst eo75
                    go_wp2_with (first | ((with_reducible refine gate_builtin (b := .append) (xs := #[.tmp 104, .tmp 106]) rfl ?_); at_builtin; refine Kd.S_append k51 (w0 := w) w.heap.size rfl (.tmp 104) (.tmp 106) 26 51 (.agg #[(.slice none 0 0), (.slice none 0 0)]) 48 rfl Try.underlying26 info51 rfl (by decide) (by omega) u13 x13_3 (⟨x211000_5, x211001_6⟩ : S51) [.slice Ao74 x211000_5.length co74, .slice Ao75 x211001_6.length co75] (fun k_ => some k_ ≠ (.slice Ao56 x197000_26.length co56 : Value).ownBlock ∧ k_ ≠ gb210) (fun k_ => some k_ = (.slice Ao74 x211000_5.length co74 : Value).ownBlock ∨ some k_ = (.slice Ao75 x211001_6.length co75 : Value).ownBlock) rfl rfl ?aP (fun k_ hk_ => hk_.elim (fun h_ => ((Kd.R_mono (ok' := fun k_ => ((fun k_ => some k_ ≠ (.slice Ao56 x197000_26.length co56 : Value).ownBlock ∧ k_ ≠ gb210)) k_ ∧ some k_ ≠ (u13 : Value).ownBlock) (Kd.R_types (Kd.R_apart' (HO_211000.out) (Kd.S_typed HO_13.out) (by decide)) BK210.out (by decide)) (fun k_ hk => ⟨⟨hk.1.1.1, hk.2⟩, hk.1.2⟩))).1 k_ h_.symm) (fun h_ => ((Kd.R_mono (ok' := fun k_ => ((fun k_ => some k_ ≠ (.slice Ao56 x197000_26.length co56 : Value).ownBlock ∧ k_ ≠ gb210)) k_ ∧ some k_ ≠ (u13 : Value).ownBlock) (Kd.R_types (Kd.R_apart' (HO_211001.out) (Kd.S_typed HO_13.out) (by decide)) BK210.out (by decide)) (fun k_ hk => ⟨⟨hk.1.1.1, hk.2⟩, hk.1.2⟩))).1 k_ h_.symm)) ?aF ?aO ?aB ?aS ?aL ?_; (case aP => exact k51_mkM _ _ _ (⟨x211000_5, x211001_6⟩ : S51) (Kd.R_mono (Kd.R_tight rfl (Kd.R_mono (ok' := fun k_ => ((fun k_ => some k_ ≠ (.slice Ao56 x197000_26.length co56 : Value).ownBlock ∧ k_ ≠ gb210)) k_ ∧ some k_ ≠ (u13 : Value).ownBlock) (Kd.R_types (Kd.R_apart' (HO_211000.out) (Kd.S_typed HO_13.out) (by decide)) BK210.out (by decide)) (fun k_ hk => ⟨⟨hk.1.1.1, hk.2⟩, hk.1.2⟩))) (fun _ h_ => Or.inl h_)) (Kd.R_mono (Kd.R_tight rfl (Kd.R_mono (ok' := fun k_ => ((fun k_ => some k_ ≠ (.slice Ao56 x197000_26.length co56 : Value).ownBlock ∧ k_ ≠ gb210)) k_ ∧ some k_ ≠ (u13 : Value).ownBlock) (Kd.R_types (Kd.R_apart' (HO_211001.out) (Kd.S_typed HO_13.out) (by decide)) BK210.out (by decide)) (fun k_ hk => ⟨⟨hk.1.1.1, hk.2⟩, hk.1.2⟩))) (fun _ h_ => Or.inr (h_)))); (case aB => exact (wmv HB.out)); (case aF => exact (fun k_ hk => ⟨Kd.fresh' (Kd.R_lt (Kd.R_mv HO_197000.out)) k_ hk, Kd.freshB (bmv BK210.out) k_ hk⟩)); (case aO => exact (Kd.S_mv (Kd.S_mono HO_13.out (fun k_ hk => ⟨⟨hk.1, hk.2.2.2⟩, fun e_ => e_.elim (fun h_ => hk.2.1 h_) (fun h_ => hk.2.2.1 h_)⟩)))); (case aS => exact (below_size (wmv HB.out))); (case aL => have := LMc67.out; omega); intro v221 w73 ho hb hg hat; rw [← Ny220.out] at ho; have n0_ := am (Kd.R_over' (Kd.R_mv HO_197000.out) (Kd.S_typed (Kd.S_mv HO_13.out)) (by decide) hg); have n1_ := am (blk_grown (bmv BK194.out) hg (Kd.S_ne HO_13.out BK194.out (by decide))); have n2_ := am (blk_grown (bmv BK196.out) hg (Kd.S_ne HO_13.out BK196.out (by decide))); have n3_ := am (blk_grown (bmv BK210.out) hg (Kd.S_away HO_13.out (fun _ hk => hk.2.2.2))); have n4_ := am (hb); have n5_ := am (ho); clear HO_197000 BK194 BK196 BK210 HB HO_13 HO_211000 HO_211001; revert n0_ n1_ n2_ n3_ n4_ n5_; intro HO_197000 BK194 BK196 BK210 HB HO222; clear ho hb hg hat))
                    go_roundg k6
                    case measure => have := HK1.out; have := HJ26.out; have := HK3.out; have := HJ34.out; have := HK5.out; have := HK6.out; omega
                    case rel => exact ⟨(y220), (wrap64 (x14_3 + 1)), (by first | rfl | (simp; done) | (simp [*]; done)), H', ⟨by have := HK1.out; have := HJ26.out; have := HK3.out; have := HJ34.out; have := HK5.out; have := HK6.out; omega⟩, ⟨by (with_reducible repeat (first | apply Kd.S_alloc | apply Kd.S_drewN | apply Kd.S_drew)); exact Kd.S_mono HO222.out (fun _ hk => hk.1)⟩, ⟨by (with_reducible repeat (first | apply Kd.R_alloc | apply Kd.R_drewN | apply Kd.R_drew)); exact Kd.R_mono HO_197000.out (fun _ hk => trivial)⟩, ⟨by (with_reducible repeat (first | refine blk_drewN ?_ _ | refine blk_drew ?_ | refine blk_alloc ?_ _)); exact BK194.out⟩, ⟨by (with_reducible repeat (first | refine blk_drewN ?_ _ | refine blk_drew ?_ | refine blk_alloc ?_ _)); exact BK196.out⟩, ⟨by repeat (first | (with_reducible first | exact HB.out | apply below_alloc | apply pw_below_drewN | apply below_drew1 | refine below_set ?_ GE194.out | refine below_set ?_ GE196.out | refine below_set ?_ GE210.out) | exact HB.out)⟩⟩
                   ·rw [if_neg c67] at H
                    exact absurd H (by simp)
            ·rw [if_neg c39] at H
             exact absurd H (by simp)
           ·rw [if_neg c38] at H
            exact absurd H (by simp)
          ·replace c37 := Bool.eq_false_iff.mpr c37
           subst c37
           have H1 : (some (x197000_26, t195, x13_3)) = some (r1, r2, r3) := by rw [if_neg (show ¬ (false = true) by decide)] at H; exact H
           clear H
           have H := H1
           clear H1
           simp only [Option.some.injEq, Prod.mk.injEq] at H
           obtain ⟨rfl, rfl, rfl⟩ := H
           have hnb76 := NB196_194.out
           have hnc76 := NB194_196.out
           have hcz77_0 : wc.cell? ⟨gb196, 0, none⟩ = some (u197000) := (blk_cell BK196.out 0).trans rfl
           have hcz77_1 : wc.cell? ⟨gb196, 1, none⟩ = some (.int .i64 t195) := (blk_cell BK196.out 1).trans rfl
           have hfz77_0 := blk_frozen BK196.out 0
           have hfz77_1 := blk_frozen BK196.out 1
           obtain ⟨Ao78, co78, eo78⟩ := Kd.R_slice HO_197000.out
           subst eo78
           have hcz79_0 : wc.cell? ⟨gb194, 0, none⟩ = some (.slice none 0 0) := (blk_cell BK194.out 0).trans rfl
           have hcz79_1 : wc.cell? ⟨gb194, 1, none⟩ = some (.int .i64 0) := (blk_cell BK194.out 1).trans rfl
           have hfz79_0 := blk_frozen BK194.out 0
           have hfz79_1 := blk_frozen BK194.out 1
           go_wp2
           refine bodyPost_ret (results_ct rfl _ _ gb194 25 #[.slice Ao78 x197000_26.length co78, .int .i64 t195] (0, 0) _ rfl (by (with_reducible repeat (first | refine blk_drewN ?_ _ | refine blk_drew ?_ | refine blk_alloc ?_ _)); refine blk_put (cs := #[.slice Ao78 x197000_26.length co78, .int .i64 0]) ?_ 1 _ rfl; (with_reducible repeat (first | refine blk_drewN ?_ _ | refine blk_drew ?_ | refine blk_alloc ?_ _)); refine blk_put (cs := #[.slice none 0 0, .int .i64 0]) ?_ 0 _ rfl; (with_reducible repeat (first | refine blk_drewN ?_ _ | refine blk_drew ?_ | refine blk_alloc ?_ _)); exact BK194.out) Try.underlying25 rfl (by kernel_rfl)) rfl ?_
           exact ⟨_, _, by first | rfl | (simp [errW_none, errW_some] <;> rfl) | (simp [*, errW_none, errW_some] <;> rfl), by (with_reducible repeat (first | apply Kd.R_alloc | apply Kd.R_drewN | apply Kd.R_drew)); exact Kd.R_mono (Kd.R_far (p := ⟨gb194, 1, none⟩) (Kd.R_far (p := ⟨gb194, 0, none⟩) (Kd.R_types HO_197000.out BK194.out (by decide)) (fun _ hk => hk.2) (.slice Ao78 x197000_26.length co78)) (fun _ hk => hk.2) (.int .i64 t195)) (fun _ hk => trivial), by (with_reducible repeat (first | apply Kd.S_alloc | apply Kd.S_drewN | apply Kd.S_drew)); exact Kd.S_mono (Kd.S_far (p := ⟨gb194, 1, none⟩) (Kd.S_far (p := ⟨gb194, 0, none⟩) (Kd.S_types HO_13.out BK194.out (by decide)) (fun _ hk => hk.2) (.slice Ao78 x197000_26.length co78)) (fun _ hk => hk.2) (.int .i64 t195)) (fun _ hk => hk.1), by repeat (first | (with_reducible first | exact HB.out | apply below_alloc | apply pw_below_drewN | apply below_drew1 | refine below_set ?_ GE194.out | refine below_set ?_ GE196.out) | exact HB.out)⟩
mutual
def hypercuberef2_Less.l0 : Nat → List Int → List Int → Int → Option (Int)
 | 0, _, _, _ => none
 | k + 1, x0, x1, x5 => if x5 < (x0.length : Int) then (hypercuberef2_Less.j1 k x0 x1 x5 (decide (x5 < (x1.length : Int)))) else (hypercuberef2_Less.j1 k x0 x1 x5 false)
def hypercuberef2_Less.j1 : Nat → List Int → List Int → Int → Bool → Option (Int)
 | 0, _, _, _, _ => none
 | k + 1, x0, x1, x5, x15 => if x15 = true then (if 0 ≤ x5 then (if x5 < (x0.length : Int) then (if x5 < (x1.length : Int) then (if (rd x0 x5) < (rd x1 x5) then (some (-1)) else (if (rd x0 x5) > (rd x1 x5) then (some 1) else (hypercuberef2_Less.l0 k x0 x1 (wrap64 (x5 + 1))))) else (none)) else (none)) else (none)) else (if (x0.length : Int) < (x1.length : Int) then (some (-1)) else (if (x0.length : Int) > (x1.length : Int) then (some 1) else (some 0)))
end
def hypercuberef2_Less.f (k : Nat) (l0 : List Int) (l1 : List Int) : Option (Int) := hypercuberef2_Less.l0 k l0 l1 0
set_option maxHeartbeats 8000000 in
set_option maxRecDepth 100000 in
theorem hypercuberef2_Less.calls (k : Nat) (A0 : Option Addr) (c0 : Nat) (l0 : List Int) (A1 : Option Addr) (c1 : Nat) (l1 : List Int) (r : Int) (w : World) (hr0 : Kd.C (Kd.int .i64) w A0 l0.length l0) (hc0 : l0.length ≤ c0) (hr1 : Kd.C (Kd.int .i64) w A1 l1.length l1) (hc1 : l1.length ≤ c1) (h : hypercuberef2_Less.f k l0 l1 = some r) :
  Calls Try.prog 41 #[.slice A0 l0.length c0, .slice A1 l1.length c1] w fun e w' => e = .returned (.int .i64 r) ∧ Drawn0 w w' := by
 have HR0 := am hr0
 have HC0 := am hc0
 clear hr0 hc0
 have HR1 := am hr1
 have HC1 := am hc1
 clear hr1 hc1
 have H : (hypercuberef2_Less.l0 k l0 l1 0) = some r := h
 clear h
 have H' := am H
 clear H
 go_enter Try.func41, Try.ntmps41
 go_wp2
 repeat (go_quiet (fail); try go_wp2)
 go_loopg [5] k (fun kq v5 w' => ∃ (x5_1 : Int), v5 = .int .i64 x5_1 ∧ Aside0 (hypercuberef2_Less.l0 kq l0 l1 x5_1 = some r) ∧ Aside0 (kq ≤ k) ∧ Drawn0 w w')
 case atStart => exact ⟨(0), (by first | rfl | (simp; done) | (simp [*]; done)), H', ⟨Nat.le_refl _⟩, by repeat (first | exact Drawn0.refl _ | apply Drawn0.step)⟩
 case round =>
  clear H'
  try clear c1
  try clear p2
  obtain ⟨x5_1, rfl, HA, HK1, ⟨m1, rfl⟩⟩ := hrel
  cases gk with
  | zero => exact absurd HA.out (by simp [hypercuberef2_Less.l0])
  | succ k1 =>
   have H := HA.out
   clear HA
   simp only [hypercuberef2_Less.l0] at H
   have HC3 := am H
   clear H
   go_upto_region 2 with (fail)
   repeat (go_quiet (fail); go_upto_region 2 with (fail))
   go_cut [15] (fun v15 wc => ∃ (kq : Nat) (x15_2 : Bool), v15 = .bool x15_2 ∧ Aside0 (hypercuberef2_Less.j1 kq l0 l1 x5_1 x15_2 = some r) ∧ Aside0 (kq ≤ k1) ∧ Drawn0 w wc)
   case first =>
    have H := HC3.out
    clear HC3
    by_cases c4 : x5_1 < (l0.length : Int)
    ·rw [if_pos c4] at H
     have c4b0 : decide (x5_1 < (l0.length : Int)) = true := decide_eq_true c4
     clear c4
     (first | rw [c4b0] | (simp only [i64_w, i32_w]; rw [c4b0]) | skip)
     have H' := am H
     clear H
     go_wp2
     repeat (go_quiet (fail); try go_wp2)
     go_meet
     case rel => exact ⟨_, (decide (x5_1 < (l1.length : Int))), (by first | rfl | (simp; done) | (simp [*]; done)), H', ⟨by have := HK1.out; first | omega | exact Nat.le_refl _⟩, by repeat (first | exact Drawn0.refl _ | apply Drawn0.step)⟩
    ·rw [if_neg c4] at H
     have c4b0 : decide (x5_1 < (l0.length : Int)) = false := decide_eq_false c4
     clear c4
     (first | rw [c4b0] | (simp only [i64_w, i32_w]; rw [c4b0]) | skip)
     have H' := am H
     clear H
     go_wp2
     repeat (go_quiet (fail); try go_wp2)
     go_meet
     case rel => exact ⟨_, (false), (by first | rfl | (simp; done) | (simp [*]; done)), H', ⟨by have := HK1.out; first | omega | exact Nat.le_refl _⟩, by repeat (first | exact Drawn0.refl _ | apply Drawn0.step)⟩
   case rest =>
    clear HC3
    try clear c1
    try clear p2
    try clear c4
    try clear c4b0
    try clear p2
    obtain ⟨kq, x15_2, rfl, HA, HJ2, ⟨mc2, rfl⟩⟩ := hcut
    cases kq with
    | zero => exact absurd HA.out (by simp [hypercuberef2_Less.j1])
    | succ kj2 =>
     have H := HA.out
     clear HA
     simp only [hypercuberef2_Less.j1] at H
     by_cases c5 : x15_2 = true
     ·subst c5
      have H1 : (if 0 ≤ x5_1 then (if x5_1 < (l0.length : Int) then (if x5_1 < (l1.length : Int) then (if (rd l0 x5_1) < (rd l1 x5_1) then (some (-1)) else (if (rd l0 x5_1) > (rd l1 x5_1) then (some 1) else (hypercuberef2_Less.l0 kj2 l0 l1 (wrap64 (x5_1 + 1))))) else (none)) else (none)) else (none)) = some r := by rw [if_pos rfl] at H; exact H
      clear H
      have H := H1
      clear H1
      by_cases c6 : 0 ≤ x5_1
      ·rw [if_pos c6] at H
       have c6b0 : decide (0 ≤ x5_1) = true := decide_eq_true c6
       clear c6
       by_cases c7 : x5_1 < (l0.length : Int)
       ·rw [if_pos c7] at H
        have c7b0 : decide (x5_1 < (l0.length : Int)) = true := decide_eq_true c7
        clear c7
        by_cases c8 : x5_1 < (l1.length : Int)
        ·rw [if_pos c8] at H
         have c8b0 : decide (x5_1 < (l1.length : Int)) = true := decide_eq_true c8
         clear c8
         by_cases c9 : (rd l0 x5_1) < (rd l1 x5_1)
         ·rw [if_pos c9] at H
          have c9b0 : decide ((rd l0 x5_1) < (rd l1 x5_1)) = true := decide_eq_true c9
          clear c9
          obtain rfl := Option.some.inj H
          have p223 : 0 ≤ (x5_1 : Int) := of_decide_eq_true (by first | (with_reducible assumption) | assumption)
          have q223 : x5_1 < (l0.length : Int) := of_decide_eq_true (by first | (with_reducible assumption) | assumption)
          obtain ⟨ad223, e223, hx223_0⟩ := Kd.at_int HR0.out x5_1 p223 q223
          cases e223
          replace p223 := eq_true p223
          replace q223 := eq_true q223
          have p224 : 0 ≤ (x5_1 : Int) := of_decide_eq_true (by first | (with_reducible assumption) | assumption)
          have q224 : x5_1 < (l1.length : Int) := of_decide_eq_true (by first | (with_reducible assumption) | assumption)
          obtain ⟨ad224, e224, hx224_0⟩ := Kd.at_int HR1.out x5_1 p224 q224
          cases e224
          replace p224 := eq_true p224
          replace q224 := eq_true q224
          go_wp2
          repeat (go_quiet (fail); try go_wp2)
          go_ret
          exact ⟨by first | rfl | (simp; done) | (simp [*]; done), by repeat (first | exact Drawn0.refl _ | apply Drawn0.step)⟩
         ·rw [if_neg c9] at H
          have c9b0 : decide ((rd l0 x5_1) < (rd l1 x5_1)) = false := decide_eq_false c9
          clear c9
          by_cases c10 : (rd l0 x5_1) > (rd l1 x5_1)
          ·rw [if_pos c10] at H
           have c10b0 : decide ((rd l1 x5_1) < (rd l0 x5_1)) = true := decide_eq_true c10
           clear c10
           obtain rfl := Option.some.inj H
           have p223 : 0 ≤ (x5_1 : Int) := of_decide_eq_true (by first | (with_reducible assumption) | assumption)
           have q223 : x5_1 < (l0.length : Int) := of_decide_eq_true (by first | (with_reducible assumption) | assumption)
           obtain ⟨ad223, e223, hx223_0⟩ := Kd.at_int HR0.out x5_1 p223 q223
           cases e223
           replace p223 := eq_true p223
           replace q223 := eq_true q223
           have p224 : 0 ≤ (x5_1 : Int) := of_decide_eq_true (by first | (with_reducible assumption) | assumption)
           have q224 : x5_1 < (l1.length : Int) := of_decide_eq_true (by first | (with_reducible assumption) | assumption)
           obtain ⟨ad224, e224, hx224_0⟩ := Kd.at_int HR1.out x5_1 p224 q224
           cases e224
           replace p224 := eq_true p224
           replace q224 := eq_true q224
           have p225 : 0 ≤ (x5_1 : Int) := of_decide_eq_true (by first | (with_reducible assumption) | assumption)
           have q225 : x5_1 < (l0.length : Int) := of_decide_eq_true (by first | (with_reducible assumption) | assumption)
           obtain ⟨ad225, e225, hx225_0⟩ := Kd.at_int HR0.out x5_1 p225 q225
           obtain rfl : ad223 = ad225 := (by injection e225)
           replace p225 := eq_true p225
           replace q225 := eq_true q225
           have p226 : 0 ≤ (x5_1 : Int) := of_decide_eq_true (by first | (with_reducible assumption) | assumption)
           have q226 : x5_1 < (l1.length : Int) := of_decide_eq_true (by first | (with_reducible assumption) | assumption)
           obtain ⟨ad226, e226, hx226_0⟩ := Kd.at_int HR1.out x5_1 p226 q226
           obtain rfl : ad224 = ad226 := (by injection e226)
           replace p226 := eq_true p226
           replace q226 := eq_true q226
           go_wp2
           repeat (go_quiet (fail); try go_wp2)
           go_ret
           exact ⟨by first | rfl | (simp; done) | (simp [*]; done), by repeat (first | exact Drawn0.refl _ | apply Drawn0.step)⟩
          ·rw [if_neg c10] at H
           have c10b0 : decide ((rd l1 x5_1) < (rd l0 x5_1)) = false := decide_eq_false c10
           clear c10
           have H' := am H
           clear H
           have p223 : 0 ≤ (x5_1 : Int) := of_decide_eq_true (by first | (with_reducible assumption) | assumption)
           have q223 : x5_1 < (l0.length : Int) := of_decide_eq_true (by first | (with_reducible assumption) | assumption)
           obtain ⟨ad223, e223, hx223_0⟩ := Kd.at_int HR0.out x5_1 p223 q223
           cases e223
           replace p223 := eq_true p223
           replace q223 := eq_true q223
           have p224 : 0 ≤ (x5_1 : Int) := of_decide_eq_true (by first | (with_reducible assumption) | assumption)
           have q224 : x5_1 < (l1.length : Int) := of_decide_eq_true (by first | (with_reducible assumption) | assumption)
           obtain ⟨ad224, e224, hx224_0⟩ := Kd.at_int HR1.out x5_1 p224 q224
           cases e224
           replace p224 := eq_true p224
           replace q224 := eq_true q224
           have p225 : 0 ≤ (x5_1 : Int) := of_decide_eq_true (by first | (with_reducible assumption) | assumption)
           have q225 : x5_1 < (l0.length : Int) := of_decide_eq_true (by first | (with_reducible assumption) | assumption)
           obtain ⟨ad225, e225, hx225_0⟩ := Kd.at_int HR0.out x5_1 p225 q225
           obtain rfl : ad223 = ad225 := (by injection e225)
           replace p225 := eq_true p225
           replace q225 := eq_true q225
           have p226 : 0 ≤ (x5_1 : Int) := of_decide_eq_true (by first | (with_reducible assumption) | assumption)
           have q226 : x5_1 < (l1.length : Int) := of_decide_eq_true (by first | (with_reducible assumption) | assumption)
           obtain ⟨ad226, e226, hx226_0⟩ := Kd.at_int HR1.out x5_1 p226 q226
           obtain rfl : ad224 = ad226 := (by injection e226)
           replace p226 := eq_true p226
           replace q226 := eq_true q226
           go_wp2
           repeat (go_quiet (fail); try go_wp2)
           go_roundg kj2
           case measure => have := HK1.out; have := HJ2.out; omega
           case rel => exact ⟨(wrap64 (x5_1 + 1)), (by first | rfl | (simp; done) | (simp [*]; done)), H', ⟨by have := HK1.out; have := HJ2.out; omega⟩, by repeat (first | exact Drawn0.refl _ | apply Drawn0.step)⟩
        ·rw [if_neg c8] at H
         exact absurd H (by simp)
       ·rw [if_neg c7] at H
        exact absurd H (by simp)
      ·rw [if_neg c6] at H
       exact absurd H (by simp)
     ·replace c5 := Bool.eq_false_iff.mpr c5
      subst c5
      have H1 : (if (l0.length : Int) < (l1.length : Int) then (some (-1)) else (if (l0.length : Int) > (l1.length : Int) then (some 1) else (some 0))) = some r := by rw [if_neg (show ¬ (false = true) by decide)] at H; exact H
      clear H
      have H := H1
      clear H1
      by_cases c11 : (l0.length : Int) < (l1.length : Int)
      ·rw [if_pos c11] at H
       have c11b0 : decide ((l0.length : Int) < (l1.length : Int)) = true := decide_eq_true c11
       have c11b1 : decide (l0.length < l1.length) = true := decide_eq_true (Int.ofNat_lt.mp c11)
       clear c11
       obtain rfl := Option.some.inj H
       go_wp2
       repeat (go_quiet (fail); try go_wp2)
       go_ret
       exact ⟨by first | rfl | (simp; done) | (simp [*]; done), by repeat (first | exact Drawn0.refl _ | apply Drawn0.step)⟩
      ·rw [if_neg c11] at H
       have c11b0 : decide ((l0.length : Int) < (l1.length : Int)) = false := decide_eq_false c11
       have c11b1 : decide (l0.length < l1.length) = false := decide_eq_false (fun h => c11 (Int.ofNat_lt.mpr h))
       clear c11
       by_cases c12 : (l0.length : Int) > (l1.length : Int)
       ·rw [if_pos c12] at H
        have c12b0 : decide ((l1.length : Int) < (l0.length : Int)) = true := decide_eq_true c12
        have c12b1 : decide (l1.length < l0.length) = true := decide_eq_true (Int.ofNat_lt.mp c12)
        clear c12
        obtain rfl := Option.some.inj H
        go_wp2
        repeat (go_quiet (fail); try go_wp2)
        go_ret
        exact ⟨by first | rfl | (simp; done) | (simp [*]; done), by repeat (first | exact Drawn0.refl _ | apply Drawn0.step)⟩
       ·rw [if_neg c12] at H
        have c12b0 : decide ((l1.length : Int) < (l0.length : Int)) = false := decide_eq_false c12
        have c12b1 : decide (l1.length < l0.length) = false := decide_eq_false (fun h => c12 (Int.ofNat_lt.mpr h))
        clear c12
        obtain rfl := Option.some.inj H
        go_wp2
        repeat (go_quiet (fail); try go_wp2)
        go_ret
        exact ⟨by first | rfl | (simp; done) | (simp [*]; done), by repeat (first | exact Drawn0.refl _ | apply Drawn0.step)⟩
def hypercuberef5_has.l0 : Nat → List (S44) → List Int → Int → Option (Bool)
 | 0, _, _, _ => none
 | k + 1, x0, x1, x5 => if x5 < (x0.length : Int) then (if 0 ≤ x5 then ((hypercuberef2_Less.f k ((rd_T44 x0 x5).f0) x1).bind fun t228 => (if t228 = 0 then (some true) else (hypercuberef5_has.l0 k x0 x1 (wrap64 (x5 + 1))))) else (none)) else (some false)
def hypercuberef5_has.f (k : Nat) (l0 : List (S44)) (l1 : List Int) : Option (Bool) := hypercuberef5_has.l0 k l0 l1 0
set_option maxHeartbeats 8000000 in
set_option maxRecDepth 100000 in
theorem hypercuberef5_has.calls (k : Nat) (A0 : Option Addr) (c0 : Nat) (l0 : List (S44)) (A1 : Option Addr) (c1 : Nat) (l1 : List Int) (r : Bool) (w : World) (hr0 : Kd.C k44 w A0 l0.length l0) (hc0 : l0.length ≤ c0) (hr1 : Kd.C (Kd.int .i64) w A1 l1.length l1) (hc1 : l1.length ≤ c1) (h : hypercuberef5_has.f k l0 l1 = some r) :
  Calls Try.prog 29 #[.slice A0 l0.length c0, .slice A1 l1.length c1] w fun e w' => e = .returned (.bool r) ∧ Drawn0 w w' := by
 have HR0 := am hr0
 have HC0 := am hc0
 clear hr0 hc0
 have HR1 := am hr1
 have HC1 := am hc1
 clear hr1 hc1
 have H : (hypercuberef5_has.l0 k l0 l1 0) = some r := h
 clear h
 have H' := am H
 clear H
 go_enter Try.func29, Try.ntmps29
 go_wp2
 go_loopg [5] k (fun kq v5 w' => ∃ (x5_1 : Int), v5 = .int .i64 x5_1 ∧ Aside0 (hypercuberef5_has.l0 kq l0 l1 x5_1 = some r) ∧ Aside0 (kq ≤ k) ∧ Drawn0 w w')
 case atStart => exact ⟨(0), (by first | rfl | (simp; done) | (simp [*]; done)), H', ⟨Nat.le_refl _⟩, by repeat (first | exact Drawn0.refl _ | apply Drawn0.step)⟩
 case round =>
  clear H'
  try clear c1
  try clear c2
  try clear p2
  obtain ⟨x5_1, rfl, HA, HK1, ⟨m1, rfl⟩⟩ := hrel
  cases gk with
  | zero => exact absurd HA.out (by simp [hypercuberef5_has.l0])
  | succ k1 =>
   have H := HA.out
   clear HA
   simp only [hypercuberef5_has.l0] at H
   by_cases c3 : x5_1 < (l0.length : Int)
   ·rw [if_pos c3] at H
    have c3b0 : decide (x5_1 < (l0.length : Int)) = true := decide_eq_true c3
    clear c3
    by_cases c4 : 0 ≤ x5_1
    ·rw [if_pos c4] at H
     have c4b0 : decide (0 ≤ x5_1) = true := decide_eq_true c4
     clear c4
     replace H := Option.bind_eq_some_iff.mp H
     obtain ⟨t228, A50, H⟩ := H
     replace H : (if t228 = 0 then (some true) else (hypercuberef5_has.l0 k1 l0 l1 (wrap64 (x5_1 + 1)))) = some r := H
     have A5 := am A50
     clear A50
     by_cases c6 : t228 = 0
     ·rw [if_pos c6] at H
      have c6b0 : (t228 == 0) = true := beq_iff_eq.mpr c6
      have c6b1 : (t228 != 0) = false := bne_eq_false_iff_eq.mpr c6
      clear c6
      obtain rfl := Option.some.inj H
      have p227 : 0 ≤ (x5_1 : Int) := of_decide_eq_true (by first | (with_reducible assumption) | assumption)
      have q227 : x5_1 < (l0.length : Int) := of_decide_eq_true (by first | (with_reducible assumption) | assumption)
      obtain ⟨ad227, A227_0, c227_0, A227_2, c227_2, A227_3, c227_3, A227_4, c227_4, e227, hx227_0, hx227_1, hx227_2, hx227_3, hx227_4, hl227_0, hi227_0, hl227_2, hi227_2, hl227_3, hi227_3, hl227_4, hi227_4⟩ := at_T44 HR0.out x5_1 p227 q227
      cases e227
      have HR227_0 := am hi227_0
      have HC227_0 := am hl227_0
      clear hi227_0 hl227_0
      have HR227_2 := am hi227_2
      have HC227_2 := am hl227_2
      clear hi227_2 hl227_2
      have HR227_3 := am hi227_3
      have HC227_3 := am hl227_3
      clear hi227_3 hl227_3
      have HR227_4 := am hi227_4
      have HC227_4 := am hl227_4
      clear hi227_4 hl227_4
      replace p227 := eq_true p227
      replace q227 := eq_true q227
      go_wp2_with (first | (go_at_call 41; (with_reducible refine (hypercuberef2_Less.calls k1 _ _ ((rd_T44 l0 x5_1).f0) _ _ l1 t228 _ ?side1 ?side2 ?side3 ?side4 A5.out).mono ?_); (case side1 => repeat (first | exact HR227_0.out | (with_reducible refine Kd.C_alloc ?_ _) | (with_reducible refine Kd.C_drewN ?_ _) | (with_reducible refine Kd.C_drew ?_))); (case side2 => exact HC227_0.out); (case side3 => repeat (first | exact HR1.out | (with_reducible refine Kd.C_alloc ?_ _) | (with_reducible refine Kd.C_drewN ?_ _) | (with_reducible refine Kd.C_drew ?_))); (case side4 => exact HC1.out); rintro e w' ⟨rfl, ⟨nd, rfl⟩⟩))
      go_ret
      exact ⟨by first | rfl | (simp; done) | (simp [*]; done), by repeat (first | exact Drawn0.refl _ | apply Drawn0.step)⟩
     ·rw [if_neg c6] at H
      have c6b0 : (t228 == 0) = false := beq_eq_false_iff_ne.mpr c6
      have c6b1 : (t228 != 0) = true := bne_iff_ne.mpr c6
      have H' := am H
      clear H
      have p227 : 0 ≤ (x5_1 : Int) := of_decide_eq_true (by first | (with_reducible assumption) | assumption)
      have q227 : x5_1 < (l0.length : Int) := of_decide_eq_true (by first | (with_reducible assumption) | assumption)
      obtain ⟨ad227, A227_0, c227_0, A227_2, c227_2, A227_3, c227_3, A227_4, c227_4, e227, hx227_0, hx227_1, hx227_2, hx227_3, hx227_4, hl227_0, hi227_0, hl227_2, hi227_2, hl227_3, hi227_3, hl227_4, hi227_4⟩ := at_T44 HR0.out x5_1 p227 q227
      cases e227
      have HR227_0 := am hi227_0
      have HC227_0 := am hl227_0
      clear hi227_0 hl227_0
      have HR227_2 := am hi227_2
      have HC227_2 := am hl227_2
      clear hi227_2 hl227_2
      have HR227_3 := am hi227_3
      have HC227_3 := am hl227_3
      clear hi227_3 hl227_3
      have HR227_4 := am hi227_4
      have HC227_4 := am hl227_4
      clear hi227_4 hl227_4
      replace p227 := eq_true p227
      replace q227 := eq_true q227
      go_wp2_with (first | (go_at_call 41; (with_reducible refine (hypercuberef2_Less.calls k1 _ _ ((rd_T44 l0 x5_1).f0) _ _ l1 t228 _ ?side1 ?side2 ?side3 ?side4 A5.out).mono ?_); (case side1 => repeat (first | exact HR227_0.out | (with_reducible refine Kd.C_alloc ?_ _) | (with_reducible refine Kd.C_drewN ?_ _) | (with_reducible refine Kd.C_drew ?_))); (case side2 => exact HC227_0.out); (case side3 => repeat (first | exact HR1.out | (with_reducible refine Kd.C_alloc ?_ _) | (with_reducible refine Kd.C_drewN ?_ _) | (with_reducible refine Kd.C_drew ?_))); (case side4 => exact HC1.out); rintro e w' ⟨rfl, ⟨nd, rfl⟩⟩))
      go_roundg k1
      case measure => have := HK1.out; omega
      case rel => exact ⟨(wrap64 (x5_1 + 1)), (by first | rfl | (simp; done) | (simp [*]; done)), H', ⟨by have := HK1.out; omega⟩, by repeat (first | exact Drawn0.refl _ | apply Drawn0.step)⟩
    ·rw [if_neg c4] at H
     exact absurd H (by simp)
   ·rw [if_neg c3] at H
    have c3b0 : decide (x5_1 < (l0.length : Int)) = false := decide_eq_false c3
    clear c3
    obtain rfl := Option.some.inj H
    go_wp2
    go_ret
    exact ⟨by first | rfl | (simp; done) | (simp [*]; done), by repeat (first | exact Drawn0.refl _ | apply Drawn0.step)⟩
end Go.Proofs.Ytndkimjmbpbcmaa.Q
namespace Go.Proofs.Ytndkimjmbpbcmaa.Q
open Go.RowKit Go.Proofs.YtndkimjmbpbcmaaW.PrintWords Go.Proofs.YtndkimjmbpbcmaaW.PrintLast Go.Proofs.YtndkimjmbpbcmaaW.PrintMore
set_option linter.unusedVariables false
set_option linter.unusedSimpArgs false
section
variable {P : Program} {ops : Array Oper} {Q : Exit → Act → World → Prop}
theorem gate_callee_v {rest : List Oper} {o : Oper} {a : Act} {W : World} {x : Operand} {as_ : Array Operand} {ts : Array TypeId} (_ho : o.op = .call { callee := .value x, args := as_, argTypes := ts }) (h : wpList P ops Q (o :: rest) a W) : wpList P ops Q (o :: rest) a W := h
theorem goesv_ {oi : Oper} {N : Option Tmp} {a : Act} {w : World} {K : Act → World → Prop} {f : FuncId} {fn : Func} {x : Operand} {as_ : Array Operand} {ts : Array TypeId} (hf : P.funcs[f]? = some fn) (hname : (fn.name == "runtime.NumGoroutine") = false) (hb : fn.body.isSome = true) (args : Array Value)
  (hw : Region.wanted oi (yielded ops a.tmps) = true) (hN : oi.dst = N) (hop : oi.op = .call { callee := .value x, args := as_, argTypes := ts }) (hargs : as_.map a.eval = args)
  (h : Calls P f args w fun e w' => ∃ v, e = .returned v ∧ K (a.put N v) w') (hx : a.eval x = .func (.func f) #[] #[] := by rfl) : if Region.wanted oi (yielded ops a.tmps) = true then Oper.wp P oi a w K Q else K (a.put N undef) w := by
 refine call_ f args hw hN ?_ h
 have he := enters_ hf hname hb args w
 unfold execOp
 simp [hop, resolve, Deferred.ofValue, invoke, hx, hargs, he]
theorem goesLv_ {rest : List Oper} {oi : Oper} {a : Act} {w : World} (N : Option Tmp) (hd : oi.dst = N) (hg : oi.guard = none) {f : FuncId} {fn : Func} {x : Operand} {as_ : Array Operand} {ts : Array TypeId} (hf : P.funcs[f]? = some fn) (hname : (fn.name == "runtime.NumGoroutine") = false) (hb : fn.body.isSome = true) (args : Array Value)
  (hop : oi.op = .call { callee := .value x, args := as_, argTypes := ts }) (hargs : as_.map a.eval = args)
  (h : Calls P f args w fun e w' => ∃ v, e = .returned v ∧ wpList P ops Q rest (a.put N v) w') (hx : a.eval x = .func (.func f) #[] #[] := by rfl) : wpList P ops Q (oi :: rest) a w := by
 refine wpList_plain hg fun K hK => ?_
 have he := enters_ hf hname hb args w
 have hrun : (execOp a.eval oi).run P w = .ok (.enter f args) w := by
  unfold execOp
  simp [hop, resolve, Deferred.ofValue, invoke, hx, hargs, he]
 unfold Oper.wp
 rw [hrun, Oper.upon_enter]
 refine h.mono fun e w'' hh => ?_
 obtain ⟨v, rfl, hk⟩ := hh
 subst hd
 exact hK _ _ hk
end
theorem getD_ft {l : Array Bool} {j : Nat} (h : l.getD j false = true) : l.getD j true = true := by
 simp only [Array.getD_eq_getD_getElem?] at h ⊢
 cases e : l[j]? with
 | none => rw [e] at h; cases h
 | some b => rw [e] at h; exact h
theorem ready_at {md : Region.Mode} {ops : Array Oper} {l : Array Bool} {i : Nat} (h : i ∈ Region.ready md ops l) :
  i < ops.size ∧ l.getD i true = false ∧ ∀ o, ops[i]? = some o → ∀ e ∈ o.after, Region.binds md e = true → l.getD e.on true = true := by
 unfold Region.ready at h
 rw [List.mem_filter, List.mem_range] at h
 obtain ⟨h1, h2⟩ := h
 rw [Bool.and_eq_true] at h2
 refine ⟨h1, by simpa using h2.1, fun o ho e he hb => ?_⟩
 have h3 := h2.2
 rw [ho] at h3
 simp only [Option.map_some, Option.getD_some] at h3
 obtain ⟨j, hj, rfl⟩ := Array.mem_iff_getElem.1 he
 have := (Array.all_eq_true.1 h3) j hj
 rw [Bool.or_eq_true] at this
 rcases this with h | h
 ·rw [hb] at h; cases h
 ·exact getD_ft h
theorem getD_set {l : Array Bool} {i j : Nat} {d : Bool} (hi : i < l.size) : (l.setIfInBounds i true).getD j d = if i = j then true else l.getD j d := by
 simp only [Array.getD_eq_getD_getElem?, Array.getElem?_setIfInBounds]
 by_cases h : i = j
 ·subst h; simp [hi]
 ·simp [h]
theorem count_set_lt {l : Array Bool} {i : Nat} (h : l.getD i true = false) : ((l.setIfInBounds i true).toList.count false) + 1 = l.toList.count false := by
 have hi : i < l.size := by
  rcases Nat.lt_or_ge i l.size with h1 | h1
  ·exact h1
  ·simp [Array.getD_eq_getD_getElem?, Array.getElem?_eq_none h1] at h
 have hl : l.toList[i]'(by simpa using hi) = false := by
  simp [Array.getD_eq_getD_getElem?, hi] at h
  simpa using h
 have hpos : 0 < l.toList.count false := List.count_pos_iff.2 (hl ▸ List.getElem_mem _)
 have e := List.count_set (a := true) (b := false) (l := l.toList) (i := i) (by simpa using hi)
 rw [hl] at e
 have e1 : ((false == false) = true) := rfl
 have e2 : ¬ ((true == false) = true) := by decide
 rw [if_pos e1, if_neg e2] at e
 rw [Array.toList_setIfInBounds, e]
 omega
section
variable {P : Program} {md : Region.Mode} {ops : Array Oper} {Q : Exit → Act → World → Prop} {S : World → Prop} {ds : List Nat}
theorem anyLast_inv (Inv : Array Bool → Act → World → Prop)
  (hstep : ∀ l a w i, Inv l a w → i ∈ Region.ready md ops l → wpOp P ops Q i (fun a' w' => (i ∉ ds → S w → S w') ∧ Inv (l.setIfInBounds i true) a' w') a w)
  (hend : ∀ l a w, Inv l a w → Region.ready md ops l = [] → Q .normal a w) :
  ∀ (fuel : Nat) (l : Array Bool) (a : Act) (w : World), l.toList.count false ≤ fuel → Inv l a w → wpAnyLast P md ops Q S ds fuel l a w
 | 0, l, a, w, hc, h => by
  have hr : Region.ready md ops l = [] := by
   cases hr : Region.ready md ops l with
   | nil => rfl
   | cons i rs =>
    have hi := (ready_at (md := md) (ops := ops) (l := l) (i := i) (by rw [hr]; simp)).2.1
    have := count_set_lt hi
    omega
  exact ⟨hr, hend l a w h hr⟩
 | n + 1, l, a, w, hc, h => ⟨hend l a w h, fun i hi => wpOp_mono (fun a' w' hh => ⟨hh.1, anyLast_inv Inv hstep hend n _ a' w' (by have := count_set_lt (ready_at hi).2.1; omega) hh.2⟩) (hstep l a w i h hi)⟩
theorem none_left {l : Array Bool} (hsz : l.size = ops.size) (hlow : ∀ (i : Nat) (o : Oper), ops[i]? = some o → ∀ e ∈ o.after, e.on < i) (hr : Region.ready md ops l = []) : ∀ i, i < ops.size → l.getD i true = true := by
 intro i
 induction i using Nat.strongRecOn with
 | ind i ih =>
  intro hi
  by_cases hl : l.getD i true = true
  ·exact hl
  ·exfalso
   have hm : i ∈ Region.ready md ops l := by
    unfold Region.ready
    rw [List.mem_filter, List.mem_range]
    refine ⟨hi, ?_⟩
    rw [Bool.and_eq_true]
    refine ⟨by simpa using hl, ?_⟩
    rw [Array.getElem?_eq_getElem hi]
    simp only [Option.map_some, Option.getD_some]
    rw [Array.all_eq_true]
    intro j hj
    have hlt := hlow i _ (Array.getElem?_eq_getElem hi) _ (Array.getElem_mem hj)
    have := ih _ hlt (by omega)
    rw [Bool.or_eq_true]
    right
    simp only [Array.getD_eq_getD_getElem?] at this ⊢
    rw [Array.getElem?_eq_getElem (by omega)] at this ⊢
    simpa using this
   rw [hr] at hm
   cases hm
def lowB (ops : Array Oper) : Bool := ops.toList.zipIdx.all fun p => p.1.after.toList.all fun e => decide (e.on < p.2)
theorem low_of {ops : Array Oper} (h : lowB ops = true) : ∀ (i : Nat) (o : Oper), ops[i]? = some o → ∀ e ∈ o.after, e.on < i := by
 intro i o ho e he
 have hm : (o, i) ∈ ops.toList.zipIdx := by
  rw [List.mem_zipIdx_iff_getElem?]
  simpa using ho
 have h1 := List.all_eq_true.1 h _ hm
 have h2 := List.all_eq_true.1 h1 e (by simpa using he)
 simpa using h2
theorem op_now {i : Nat} {o : Oper} {a : Act} {w : World} {K : Act → World → Prop} (ho : ops[i]? = some o) (h : if Region.wanted o (yielded ops a.tmps) = true then Oper.wp P o a w K Q else K (a.put o.dst undef) w) : wpOp P ops Q i K a w := by
 unfold wpOp
 simp only [ho]
 split
 ·rename_i hw; rw [if_pos hw] at h; exact .inl h
 ·rename_i hw; rw [if_neg hw] at h; exact h
end
theorem eval_put_ne {a : Act} {d d' : Nat} {v : Value} (h : d ≠ d') : (a.put (some d) v).eval (.tmp d') = a.eval (.tmp d') := by
 simp [Act.put, Act.eval, Array.getD_eq_getD_getElem?, Array.getElem?_setIfInBounds_ne h]
theorem eval_put_same {a : Act} {d : Nat} {v : Value} (h : d < a.tmps.size) : (a.put (some d) v).eval (.tmp d) = v := by
 simp [Act.put, Act.eval, Array.getD_eq_getD_getElem?, h]
theorem put_size (a : Act) (d : Nat) (v : Value) : (a.put (some d) v).tmps.size = a.tmps.size := by simp [Act.put]
def hypercuberef2_Copy.f (l0_0 : List Int) (a0_1 : Int) (l0_2 : List Int) (l0_3 : List Int) (l0_4 : List Int) : Option (List Int × Int × List Int × List Int × List Int) :=
 if l0_0.length * 8 ≤ 140737488355328 ∧ l0_2.length * 8 ≤ 140737488355328 ∧ l0_3.length * 8 ≤ 140737488355328 ∧ l0_4.length * 8 ≤ 140737488355328 then some (l0_0, a0_1, l0_2, l0_3, l0_4) else none
def ref_Copy.T1 : Bool × List (List Nat × List Nat) := (true, [([], []), ([], []), ([1], [1]), ([0, 2], [0, 2]), ([], []), ([4], [4]), ([], []), ([], []), ([7], [7]), ([6, 8, 3], [6, 8]), ([], []), ([], []), ([11], [11]), ([10, 12, 9], [10, 12]), ([], []), ([], []), ([15], [15]), ([14, 16, 13], [14, 16]), ([3, 5, 9, 13, 17], [3, 5, 9, 13, 17]), ([18, 17, 0, 1, 2, 3, 4, 5, 6, 7, 8, 9, 10, 11, 12, 13, 14, 15, 16, 17, 18], [18])])
def ref_Copy.B1 : List Nat := [0, 0, 2, 7, 0, 16, 0, 0, 128, 463, 0, 0, 2048, 8143, 0, 0, 32768, 131023, 262143, 524287]
theorem ref_Copy.tab1 : rtab .any (opsOf Try.f42 1) = ref_Copy.T1 := by kernel_rfl
theorem ref_Copy.bits1 : waitsOk ref_Copy.T1.2 ref_Copy.B1 = true := by kernel_rfl
def RowSt (w0 : World) (l : Array Bool) (w : World) (f : Nat → Nat) (q B A : Nat) (vb va : Value) (y : List Int) : Prop :=
 (l.getD B true = true → l.getD A true = false → Kd.R (Kd.int .i64) 3 w w0.heap.size (fun k => f k = q) vb []) ∧ (l.getD A true = true → Kd.R (Kd.int .i64) 3 w w0.heap.size (fun k => f k = q) va y)
theorem R_refun {e base q : Nat} {f f' : Nat → Nat} {w w1 : World} {v : Value} {y : List Int} (h : Kd.R (Kd.int .i64) e w base (fun k => f k = q) v y) (hh : ∀ k, f k = q → k < w.heap.size → w1.heap[k]? = w.heap[k]?) (hf : ∀ k, k < w.heap.size → f' k = f k) : Kd.R (Kd.int .i64) e w1 base (fun k => f' k = q) v y :=
 Kd.R_mono (Kd.R_step (Kd.R_bound h) (fun k hk hlt => hh k hk.1 hlt)) (fun k hk => (hf k hk.2.2.1).trans hk.1)
theorem RowSt.keep {w0 w w1 : World} {l : Array Bool} {f f' : Nat → Nat} {q B A i : Nat} {vb va : Value} {y : List Int} (h : RowSt w0 l w f q B A vb va y) (hi : i < l.size) (hB : i ≠ B) (hA : i ≠ A) (hh : ∀ k, f k = q → k < w.heap.size → w1.heap[k]? = w.heap[k]?) (hf : ∀ k, k < w.heap.size → f' k = f k) : RowSt w0 (l.setIfInBounds i true) w1 f' q B A vb va y := by
 unfold RowSt at h ⊢
 rw [getD_set hi, getD_set hi, if_neg hB, if_neg hA]
 exact ⟨fun h1 h2 => R_refun (h.1 h1 h2) hh hf, fun h1 => R_refun (h.2 h1) hh hf⟩
theorem RowSt.made {w0 w w1 : World} {l : Array Bool} {f' : Nat → Nat} {q B A : Nat} {vb va : Value} {y : List Int} (hi : B < l.size) (hBA : B ≠ A) (hA : l.getD A true = false) (h : Kd.R (Kd.int .i64) 3 w1 w0.heap.size (fun k => f' k = q) vb []) : RowSt w0 (l.setIfInBounds B true) w1 f' q B A vb va y := by
 unfold RowSt
 rw [getD_set hi, getD_set hi, if_neg hBA, if_pos rfl]
 exact ⟨fun _ _ => h, fun h1 => (by rw [hA] at h1; cases h1)⟩
theorem RowSt.full {w0 w w1 : World} {l : Array Bool} {f' : Nat → Nat} {q B A : Nat} {vb va : Value} {y : List Int} (hi : A < l.size) (h : Kd.R (Kd.int .i64) 3 w1 w0.heap.size (fun k => f' k = q) va y) : RowSt w0 (l.setIfInBounds A true) w1 f' q B A vb va y := by
 unfold RowSt
 rw [getD_set hi, getD_set hi, if_pos rfl]
 exact ⟨fun _ h1 => (by cases h1), fun _ => h⟩
def OrdC (l : Array Bool) : Prop := ∀ A B, (A = 3 ∧ B = 0) ∨ (A = 9 ∧ B = 6) ∨ (A = 13 ∧ B = 10) ∨ (A = 17 ∧ B = 14) ∨ (A = 19 ∧ B = 18) → l.getD A true = true → l.getD B true = true
theorem ordC_set {l : Array Bool} {i : Nat} (hi : i < l.size) (h : OrdC l) (hn : ∀ B, (i = 3 ∧ B = 0) ∨ (i = 9 ∧ B = 6) ∨ (i = 13 ∧ B = 10) ∨ (i = 17 ∧ B = 14) ∨ (i = 19 ∧ B = 18) → l.getD B true = true) : OrdC (l.setIfInBounds i true) := by
 intro A B hAB h1
 rw [getD_set hi] at h1 ⊢
 split
 ·rfl
 ·by_cases c : i = A
  ·subst c
   exact hn B hAB
  ·rw [if_neg c] at h1
   exact h A B hAB h1
structure CInv (w0 : World) (xb rb : Nat) (XC : Array Value) (y0 y1 y2 y3 : List Int) (n : Int) (l : Array Bool) (a : Act) (w : World) : Prop where
 sz : l.size = 20
 old : ∀ j, j = 1 ∨ j = 2 ∨ j = 4 ∨ j = 5 ∨ j = 7 ∨ j = 8 ∨ j = 11 ∨ j = 12 ∨ j = 15 ∨ j = 16 → l.getD j true = true
 ord : OrdC l
 tsz : a.tmps.size = 22
 dfr : a.defers = []
 bel : Below w0.heap.size w0 w
 bx : w.heap[xb]? = some (.cells XC 44 (0, 0))
 e2 : a.eval (.tmp 2) = .pointer (some ⟨rb, 0, none⟩)
 e8 : a.eval (.tmp 8) = .int .i64 n
 rows : ∃ A0 c0 A1 c1 A2 c2 A3 c3, a.eval (.tmp 5) = .slice A0 y0.length c0 ∧ a.eval (.tmp 11) = .slice A1 y1.length c1 ∧ a.eval (.tmp 15) = .slice A2 y2.length c2 ∧ a.eval (.tmp 19) = .slice A3 y3.length c3 ∧
  (Kd.int .i64).C w0 A0 y0.length y0 ∧ (Kd.int .i64).C w0 A1 y1.length y1 ∧ (Kd.int .i64).C w0 A2 y2.length y2 ∧ (Kd.int .i64).C w0 A3 y3.length y3
 made : l.getD 19 true = false → w.heap[rb]? = some (.cells #[.slice none 0 0, .int .i64 0, .slice none 0 0, .slice none 0 0, .slice none 0 0] 44 (0, 0)) ∧ w0.heap.size ≤ rb ∧ ∃ f : Nat → Nat,
  RowSt w0 l w f 0 0 3 (a.eval (.tmp 3)) (a.eval (.tmp 6)) y0 ∧ RowSt w0 l w f 1 6 9 (a.eval (.tmp 9)) (a.eval (.tmp 12)) y1 ∧ RowSt w0 l w f 2 10 13 (a.eval (.tmp 13)) (a.eval (.tmp 16)) y2 ∧ RowSt w0 l w f 3 14 17 (a.eval (.tmp 17)) (a.eval (.tmp 20)) y3
 told : l.getD 18 true = true → l.getD 3 true = true ∧ l.getD 9 true = true ∧ l.getD 13 true = true ∧ l.getD 17 true = true ∧ a.eval (.tmp 21) = .agg #[a.eval (.tmp 6), .int .i64 n, a.eval (.tmp 12), a.eval (.tmp 16), a.eval (.tmp 20)]
 fin : l.getD 19 true = true → ∃ v0 v1 v2 v3 : Value, ∃ f : Nat → Nat, w.heap[rb]? = some (.cells #[v0, .int .i64 n, v1, v2, v3] 44 (0, 0)) ∧ Kd.R (Kd.int .i64) 3 w w0.heap.size (fun k => f k = 0) v0 y0 ∧ Kd.R (Kd.int .i64) 3 w w0.heap.size (fun k => f k = 1) v1 y1 ∧ Kd.R (Kd.int .i64) 3 w w0.heap.size (fun k => f k = 2) v2 y2 ∧ Kd.R (Kd.int .i64) 3 w w0.heap.size (fun k => f k = 3) v3 y3
theorem old_set {l : Array Bool} {i j : Nat} (hi : i < l.size) (h : l.getD j true = true) : (l.setIfInBounds i true).getD j true = true := by
 rw [getD_set hi]
 split
 ·rfl
 ·exact h
theorem bfalse {b : Bool} (h : b = true → False) : b = false := by
 cases b
 ·rfl
 ·exact (h rfl).elim
theorem blk_other {w w1 : World} {g : Nat} {o : Obj} (h : w.heap[g]? = some o) (hh : ∀ k, k < w.heap.size → w1.heap[k]? = w.heap[k]?) : w1.heap[g]? = some o := (hh g (blk_lt h)).trans h
theorem R_fresh (w0 w : World) (q : Nat) (hb : w0.heap.size ≤ w.heap.size) (f : Nat → Nat) : Kd.R (Kd.int .i64) 3 (w.alloc (.cells #[] 3)) w0.heap.size (fun k => (if k = w.heap.size then q else f k) = q) (.slice (some ⟨w.heap.size, 0, none⟩) 0 0) [] :=
 ⟨fun k hk => by simp only [Value.ownBlock, Option.some.injEq] at hk; subst hk; simp, [], ⟨rfl, .inr ⟨w.heap.size, 0, #[], rfl, hb, blk_new w _, Nat.le_refl _, Nat.zero_le _, rfl, rfl⟩⟩, Reps.none _ _⟩
section
variable {w0 : World} {xb rb : Nat} {XC : Array Value} {y0 y1 y2 y3 : List Int} {n : Int} {l : Array Bool} {a : Act} {w : World} {K : Act → World → Prop} {Q : Exit → Act → World → Prop}
theorem CInv.build (h : CInv w0 xb rb XC y0 y1 y2 y3 n l a w) (i d : Nat) (hid : (i = 0 ∧ d = 3) ∨ (i = 6 ∧ d = 9) ∨ (i = 10 ∧ d = 13) ∨ (i = 14 ∧ d = 17)) (hl : l.getD i true = false) :
  CInv w0 xb rb XC y0 y1 y2 y3 n (l.setIfInBounds i true) (a.put (some d) (.slice (some ⟨w.heap.size, 0, none⟩) 0 0)) (w.alloc (.cells #[] 3)) := by
 have hi : i < l.size := by rw [h.sz]; omega
 have h18 : l.getD 18 true = false := bfalse fun e => by
  obtain ⟨a3, a9, a13, a17, _⟩ := h.told e
  rcases hid with ⟨rfl, _⟩ | ⟨rfl, _⟩ | ⟨rfl, _⟩ | ⟨rfl, _⟩
  ·rw [h.ord 3 0 (by omega) a3] at hl; cases hl
  ·rw [h.ord 9 6 (by omega) a9] at hl; cases hl
  ·rw [h.ord 13 10 (by omega) a13] at hl; cases hl
  ·rw [h.ord 17 14 (by omega) a17] at hl; cases hl
 have h19 : l.getD 19 true = false := bfalse fun e => by rw [h.ord 19 18 (by omega) e] at h18; cases h18
 have hd : d < a.tmps.size := by rw [h.tsz]; omega
 have hw : ∀ k, k < w.heap.size → (w.alloc (.cells #[] 3)).heap[k]? = w.heap[k]? := fun k hk => Below.heap_alloc w _ k hk
 have ev : ∀ d', d ≠ d' → (a.put (some d) (.slice (some ⟨w.heap.size, 0, none⟩) 0 0)).eval (.tmp d') = a.eval (.tmp d') := fun d' hne => eval_put_ne hne
 have es : (a.put (some d) (.slice (some ⟨w.heap.size, 0, none⟩) 0 0)).eval (.tmp d) = .slice (some ⟨w.heap.size, 0, none⟩) 0 0 := eval_put_same hd
 obtain ⟨hr, hrb, f, r0, r1, r2, r3⟩ := h.made h19
 have hsz : w0.heap.size ≤ w.heap.size := h.bel.size
 refine ⟨by rw [Array.size_setIfInBounds]; exact h.sz, fun j hj => old_set hi (h.old j hj), ordC_set hi h.ord (fun B hB => by omega), by rw [put_size]; exact h.tsz, h.dfr, below_alloc h.bel _, blk_other h.bx hw, (ev 2 (by omega)).trans h.e2, (ev 8 (by omega)).trans h.e8, ?_, fun _ => ⟨blk_other hr hw, hrb, fun k => if k = w.heap.size then (if i = 0 then 0 else if i = 6 then 1 else if i = 10 then 2 else 3) else f k, ?_⟩, fun h2 => ?_, fun h2 => ?_⟩
 ·obtain ⟨A0, c0, A1, c1, A2, c2, A3, c3, x0, x1, x2, x3, z⟩ := h.rows
  exact ⟨A0, c0, A1, c1, A2, c2, A3, c3, (ev 5 (by omega)).trans x0, (ev 11 (by omega)).trans x1, (ev 15 (by omega)).trans x2, (ev 19 (by omega)).trans x3, z⟩
 ·have hf : ∀ k, k < w.heap.size → (if k = w.heap.size then (if i = 0 then 0 else if i = 6 then 1 else if i = 10 then 2 else 3) else f k) = f k := fun k hk => if_neg (by omega)
  rcases hid with ⟨rfl, rfl⟩ | ⟨rfl, rfl⟩ | ⟨rfl, rfl⟩ | ⟨rfl, rfl⟩
  ·rw [es, ev 6 (by omega), ev 9 (by omega), ev 12 (by omega), ev 13 (by omega), ev 16 (by omega), ev 17 (by omega), ev 20 (by omega)]
   exact ⟨RowSt.made (w := w) hi (by omega) (bfalse fun e => by rw [h.ord 3 0 (by omega) e] at hl; cases hl) (R_fresh w0 w 0 hsz f), r1.keep hi (by omega) (by omega) (fun k _ hk => hw k hk) hf, r2.keep hi (by omega) (by omega) (fun k _ hk => hw k hk) hf, r3.keep hi (by omega) (by omega) (fun k _ hk => hw k hk) hf⟩
  ·rw [es, ev 3 (by omega), ev 6 (by omega), ev 12 (by omega), ev 13 (by omega), ev 16 (by omega), ev 17 (by omega), ev 20 (by omega)]
   exact ⟨r0.keep hi (by omega) (by omega) (fun k _ hk => hw k hk) hf, RowSt.made (w := w) hi (by omega) (bfalse fun e => by rw [h.ord 9 6 (by omega) e] at hl; cases hl) (R_fresh w0 w 1 hsz f), r2.keep hi (by omega) (by omega) (fun k _ hk => hw k hk) hf, r3.keep hi (by omega) (by omega) (fun k _ hk => hw k hk) hf⟩
  ·rw [es, ev 3 (by omega), ev 6 (by omega), ev 9 (by omega), ev 12 (by omega), ev 16 (by omega), ev 17 (by omega), ev 20 (by omega)]
   exact ⟨r0.keep hi (by omega) (by omega) (fun k _ hk => hw k hk) hf, r1.keep hi (by omega) (by omega) (fun k _ hk => hw k hk) hf, RowSt.made (w := w) hi (by omega) (bfalse fun e => by rw [h.ord 13 10 (by omega) e] at hl; cases hl) (R_fresh w0 w 2 hsz f), r3.keep hi (by omega) (by omega) (fun k _ hk => hw k hk) hf⟩
  ·rw [es, ev 3 (by omega), ev 6 (by omega), ev 9 (by omega), ev 12 (by omega), ev 13 (by omega), ev 16 (by omega), ev 20 (by omega)]
   exact ⟨r0.keep hi (by omega) (by omega) (fun k _ hk => hw k hk) hf, r1.keep hi (by omega) (by omega) (fun k _ hk => hw k hk) hf, r2.keep hi (by omega) (by omega) (fun k _ hk => hw k hk) hf, RowSt.made (w := w) hi (by omega) (bfalse fun e => by rw [h.ord 17 14 (by omega) e] at hl; cases hl) (R_fresh w0 w 3 hsz f)⟩
 ·rw [getD_set hi, if_neg (by omega), h18] at h2; cases h2
 ·rw [getD_set hi, if_neg (by omega), h19] at h2; cases h2
theorem CInv.app (h : CInv w0 xb rb XC y0 y1 y2 y3 n l a w) (i d q : Nat) (hid : (i = 3 ∧ d = 6 ∧ q = 0) ∨ (i = 9 ∧ d = 12 ∧ q = 1) ∨ (i = 13 ∧ d = 16 ∧ q = 2) ∨ (i = 17 ∧ d = 20 ∧ q = 3)) (hl : l.getD i true = false) (hB : ∀ B, (i = 3 ∧ B = 0) ∨ (i = 9 ∧ B = 6) ∨ (i = 13 ∧ B = 10) ∨ (i = 17 ∧ B = 14) ∨ (i = 19 ∧ B = 18) → l.getD B true = true) (h18 : l.getD 18 true = false) (h19 : l.getD 19 true = false)
  {f f' : Nat → Nat} {v v1 : Value} {w1 : World} (hr : w.heap[rb]? = some (.cells #[.slice none 0 0, .int .i64 0, .slice none 0 0, .slice none 0 0, .slice none 0 0] 44 (0, 0))) (hrb : w0.heap.size ≤ rb) (hf : ∀ k, k < w.heap.size → f' k = f k)
  (r0 : RowSt w0 l w f 0 0 3 (a.eval (.tmp 3)) (a.eval (.tmp 6)) y0) (r1 : RowSt w0 l w f 1 6 9 (a.eval (.tmp 9)) (a.eval (.tmp 12)) y1) (r2 : RowSt w0 l w f 2 10 13 (a.eval (.tmp 13)) (a.eval (.tmp 16)) y2) (r3 : RowSt w0 l w f 3 14 17 (a.eval (.tmp 17)) (a.eval (.tmp 20)) y3)
  (hv : ∀ k, v.ownBlock = some k → f k = q ∧ ∃ cells, w.heap[k]? = some (.cells cells 3 (0, 0))) (hb : Below w0.heap.size w0 w1) (hg : w.grownBy w1 v.ownBlock)
  (ho : Kd.R (Kd.int .i64) 3 w1 w0.heap.size (fun k => f' k = q) v1 (if i = 3 then y0 else if i = 9 then y1 else if i = 13 then y2 else y3)) :
  CInv w0 xb rb XC y0 y1 y2 y3 n (l.setIfInBounds i true) (a.put (some d) v1) w1 := by
 have hi : i < l.size := by rw [h.sz]; omega
 have hd : d < a.tmps.size := by rw [h.tsz]; omega
 have ev : ∀ d', d ≠ d' → (a.put (some d) v1).eval (.tmp d') = a.eval (.tmp d') := fun d' hne => eval_put_ne hne
 have es : (a.put (some d) v1).eval (.tmp d) = v1 := eval_put_same hd
 have hfar : ∀ (g t : Nat) (cs : Array Value), w.heap[g]? = some (.cells cs t (0, 0)) → t ≠ 3 → w1.heap[g]? = some (.cells cs t (0, 0)) := fun g t cs hgc hne =>
  blk_grown hgc hg (fun e => by obtain ⟨_, cells, hc⟩ := hv g e.symm; rw [hgc] at hc; injection hc with hc; injection hc with _ hc; exact hne hc)
 have hw : ∀ q', q' ≠ q → ∀ k, f k = q' → k < w.heap.size → w1.heap[k]? = w.heap[k]? := fun q' hne k hk hlt => hg.block k hlt (fun e => by have := (hv k e.symm).1; omega)
 refine ⟨by rw [Array.size_setIfInBounds]; exact h.sz, fun j hj => old_set hi (h.old j hj), ordC_set hi h.ord hB, by rw [put_size]; exact h.tsz, h.dfr, hb, hfar _ _ _ h.bx (by decide), (ev 2 (by omega)).trans h.e2, (ev 8 (by omega)).trans h.e8, ?_, fun _ => ⟨hfar _ _ _ hr (by decide), hrb, f', ?_⟩, fun h2 => ?_, fun h2 => ?_⟩
 ·obtain ⟨A0, c0, A1, c1, A2, c2, A3, c3, x0, x1, x2, x3, z⟩ := h.rows
  exact ⟨A0, c0, A1, c1, A2, c2, A3, c3, (ev 5 (by omega)).trans x0, (ev 11 (by omega)).trans x1, (ev 15 (by omega)).trans x2, (ev 19 (by omega)).trans x3, z⟩
 ·rcases hid with ⟨rfl, rfl, rfl⟩ | ⟨rfl, rfl, rfl⟩ | ⟨rfl, rfl, rfl⟩ | ⟨rfl, rfl, rfl⟩
  ·rw [es, ev 3 (by omega), ev 9 (by omega), ev 12 (by omega), ev 13 (by omega), ev 16 (by omega), ev 17 (by omega), ev 20 (by omega)]
   exact ⟨RowSt.full (w := w) hi ho, r1.keep hi (by omega) (by omega) (hw 1 (by omega)) hf, r2.keep hi (by omega) (by omega) (hw 2 (by omega)) hf, r3.keep hi (by omega) (by omega) (hw 3 (by omega)) hf⟩
  ·rw [es, ev 3 (by omega), ev 6 (by omega), ev 9 (by omega), ev 13 (by omega), ev 16 (by omega), ev 17 (by omega), ev 20 (by omega)]
   exact ⟨r0.keep hi (by omega) (by omega) (hw 0 (by omega)) hf, RowSt.full (w := w) hi ho, r2.keep hi (by omega) (by omega) (hw 2 (by omega)) hf, r3.keep hi (by omega) (by omega) (hw 3 (by omega)) hf⟩
  ·rw [es, ev 3 (by omega), ev 6 (by omega), ev 9 (by omega), ev 12 (by omega), ev 13 (by omega), ev 17 (by omega), ev 20 (by omega)]
   exact ⟨r0.keep hi (by omega) (by omega) (hw 0 (by omega)) hf, r1.keep hi (by omega) (by omega) (hw 1 (by omega)) hf, RowSt.full (w := w) hi ho, r3.keep hi (by omega) (by omega) (hw 3 (by omega)) hf⟩
  ·rw [es, ev 3 (by omega), ev 6 (by omega), ev 9 (by omega), ev 12 (by omega), ev 13 (by omega), ev 16 (by omega), ev 17 (by omega)]
   exact ⟨r0.keep hi (by omega) (by omega) (hw 0 (by omega)) hf, r1.keep hi (by omega) (by omega) (hw 1 (by omega)) hf, r2.keep hi (by omega) (by omega) (hw 2 (by omega)) hf, RowSt.full (w := w) hi ho⟩
 ·rw [getD_set hi, if_neg (by omega), h18] at h2; cases h2
 ·rw [getD_set hi, if_neg (by omega), h19] at h2; cases h2
theorem CInv.tell (h : CInv w0 xb rb XC y0 y1 y2 y3 n l a w) (hl : l.getD 18 true = false) (h19 : l.getD 19 true = false) (a3 : l.getD 3 true = true) (a9 : l.getD 9 true = true) (a13 : l.getD 13 true = true) (a17 : l.getD 17 true = true) :
  CInv w0 xb rb XC y0 y1 y2 y3 n (l.setIfInBounds 18 true) (a.put (some 21) (.agg #[a.eval (.tmp 6), .int .i64 n, a.eval (.tmp 12), a.eval (.tmp 16), a.eval (.tmp 20)])) w := by
 have hi : 18 < l.size := by rw [h.sz]; omega
 have hd : 21 < a.tmps.size := by rw [h.tsz]; omega
 have ev : ∀ d' : Nat, (21 : Nat) ≠ d' → (a.put (some 21) (.agg #[a.eval (.tmp 6), .int .i64 n, a.eval (.tmp 12), a.eval (.tmp 16), a.eval (.tmp 20)])).eval (.tmp d') = a.eval (.tmp d') := fun d' hne => eval_put_ne hne
 have hg : ∀ j : Nat, (18 : Nat) ≠ j → (l.setIfInBounds 18 true).getD j true = l.getD j true := fun j hj => by rw [getD_set hi, if_neg hj]
 refine ⟨by rw [Array.size_setIfInBounds]; exact h.sz, fun j hj => old_set hi (h.old j hj), ordC_set hi h.ord (fun B hB => by omega), by rw [put_size]; exact h.tsz, h.dfr, h.bel, h.bx, (ev 2 (by omega)).trans h.e2, (ev 8 (by omega)).trans h.e8, ?_, fun _ => ?_, fun _ => ?_, fun h2 => ?_⟩
 ·obtain ⟨A0, c0, A1, c1, A2, c2, A3, c3, x0, x1, x2, x3, z⟩ := h.rows
  exact ⟨A0, c0, A1, c1, A2, c2, A3, c3, (ev 5 (by omega)).trans x0, (ev 11 (by omega)).trans x1, (ev 15 (by omega)).trans x2, (ev 19 (by omega)).trans x3, z⟩
 ·obtain ⟨hr, hrb, f, r0, r1, r2, r3⟩ := h.made h19
  refine ⟨hr, hrb, f, ?_⟩
  rw [ev 3 (by omega), ev 6 (by omega), ev 9 (by omega), ev 12 (by omega), ev 13 (by omega), ev 16 (by omega), ev 17 (by omega), ev 20 (by omega)]
  exact ⟨r0.keep hi (by omega) (by omega) (fun _ _ _ => rfl) (fun _ _ => rfl), r1.keep hi (by omega) (by omega) (fun _ _ _ => rfl) (fun _ _ => rfl), r2.keep hi (by omega) (by omega) (fun _ _ _ => rfl) (fun _ _ => rfl), r3.keep hi (by omega) (by omega) (fun _ _ _ => rfl) (fun _ _ => rfl)⟩
 ·rw [hg 3 (by omega), hg 9 (by omega), hg 13 (by omega), hg 17 (by omega), ev 6 (by omega), ev 12 (by omega), ev 16 (by omega), ev 20 (by omega)]
  exact ⟨a3, a9, a13, a17, eval_put_same hd⟩
 ·rw [hg 19 (by omega), h19] at h2; cases h2
theorem CInv.store (h : CInv w0 xb rb XC y0 y1 y2 y3 n l a w) (hl : l.getD 19 true = false) (hr : w.heap[rb]? = some (.cells #[.slice none 0 0, .int .i64 0, .slice none 0 0, .slice none 0 0, .slice none 0 0] 44 (0, 0))) (hrb : w0.heap.size ≤ rb) (h18 : l.getD 18 true = true) {f : Nat → Nat} {v0 v1 v2 v3 : Value}
  (r0 : Kd.R (Kd.int .i64) 3 w w0.heap.size (fun k => f k = 0) v0 y0) (r1 : Kd.R (Kd.int .i64) 3 w w0.heap.size (fun k => f k = 1) v1 y1) (r2 : Kd.R (Kd.int .i64) 3 w w0.heap.size (fun k => f k = 2) v2 y2) (r3 : Kd.R (Kd.int .i64) 3 w w0.heap.size (fun k => f k = 3) v3 y3) (hne : xb ≠ rb) :
  CInv w0 xb rb XC y0 y1 y2 y3 n (l.setIfInBounds 19 true) (a.put none undef) (w.setCells rb 0 [v0, .int .i64 n, v1, v2, v3]) := by
 have hi : 19 < l.size := by rw [h.sz]; omega
 have hg : ∀ j : Nat, (19 : Nat) ≠ j → (l.setIfInBounds 19 true).getD j true = l.getD j true := fun j hj => by rw [getD_set hi, if_neg hj]
 have hs : (l.setIfInBounds 19 true).getD 19 true = true := by rw [getD_set hi, if_pos rfl]
 obtain ⟨cur, c1, c2, c3⟩ := setCells_row [v0, .int .i64 n, v1, v2, v3] 0 w _ hr (by simp)
 obtain ⟨s1, s2, s3, s4⟩ := setCells_same rb [v0, .int .i64 n, v1, v2, v3] 0 w
 have hfar : ∀ k, k ≠ rb → (w.setCells rb 0 [v0, .int .i64 n, v1, v2, v3]).heap[k]? = w.heap[k]? := fun k hk => setCells_far _ _ k hk
 have hcur : cur = #[v0, .int .i64 n, v1, v2, v3] := by
  apply Array.toList_inj.mp
  rw [c3]
  simp
 have hR : ∀ {q : Nat} {v : Value} {y : List Int}, Kd.R (Kd.int .i64) 3 w w0.heap.size (fun k => f k = q) v y → Kd.R (Kd.int .i64) 3 (w.setCells rb 0 [v0, .int .i64 n, v1, v2, v3]) w0.heap.size (fun k => f k = q) v y := fun hv =>
  Kd.R_mono (Kd.R_step (Kd.R_types hv hr (by decide)) (fun k hk _ => hfar k hk.2)) (fun k hk => hk.1)
 refine ⟨by rw [Array.size_setIfInBounds]; exact h.sz, fun j hj => old_set hi (h.old j hj), ordC_set hi h.ord (fun B hB => by rw [show B = 18 by omega]; exact h18), h.tsz, h.dfr, h.bel.trans ⟨s1, s2, s3, by rw [s4]; exact Nat.le_refl _, fun k hk => hfar k (by omega)⟩, (hfar xb hne).trans h.bx, h.e2, h.e8, h.rows, fun h2 => (by rw [hs] at h2; cases h2), fun _ => ?_, fun _ => ?_⟩
 ·obtain ⟨a3, a9, a13, a17, e⟩ := h.told h18
  exact ⟨(hg 3 (by omega)).trans a3, (hg 9 (by omega)).trans a9, (hg 13 (by omega)).trans a13, (hg 17 (by omega)).trans a17, e⟩
 ·exact ⟨v0, v1, v2, v3, f, by rw [c1, hcur], hR r0, hR r1, hR r2, hR r3⟩
end
set_option maxHeartbeats 8000000 in
set_option maxRecDepth 100000 in
theorem hypercuberef2_Copy.calls (A0_0 : Option Addr) (c0_0 : Nat) (l0_0 : List Int) (a0_1 : Int) (A0_2 : Option Addr) (c0_2 : Nat) (l0_2 : List Int) (A0_3 : Option Addr) (c0_3 : Nat) (l0_3 : List Int) (A0_4 : Option Addr) (c0_4 : Nat) (l0_4 : List Int) (r1 : List Int) (r2 : Int) (r3 : List Int) (r4 : List Int) (r5 : List Int) (w : World) (hr0_0 : Kd.C (Kd.int .i64) w A0_0 l0_0.length l0_0) (hc0_0 : l0_0.length ≤ c0_0) (hr0_2 : Kd.C (Kd.int .i64) w A0_2 l0_2.length l0_2) (hc0_2 : l0_2.length ≤ c0_2) (hr0_3 : Kd.C (Kd.int .i64) w A0_3 l0_3.length l0_3) (hc0_3 : l0_3.length ≤ c0_3) (hr0_4 : Kd.C (Kd.int .i64) w A0_4 l0_4.length l0_4) (hc0_4 : l0_4.length ≤ c0_4) (h : hypercuberef2_Copy.f l0_0 a0_1 l0_2 l0_3 l0_4 = some (r1, r2, r3, r4, r5)) :
  Calls Try.prog 42 #[.agg #[.slice A0_0 l0_0.length c0_0, .int .i64 a0_1, .slice A0_2 l0_2.length c0_2, .slice A0_3 l0_3.length c0_3, .slice A0_4 l0_4.length c0_4]] w fun e w' => ∃ v0_ v2_ v3_ v4_ : Value, e = .returned (.agg #[v0_, .int .i64 r2, v2_, v3_, v4_]) ∧ Kd.R (Kd.int .i64) 3 w' w.heap.size (fun k_ => some k_ ≠ (v2_ : Value).ownBlock ∧ some k_ ≠ (v3_ : Value).ownBlock ∧ some k_ ≠ (v4_ : Value).ownBlock) v0_ r1 ∧ Kd.R (Kd.int .i64) 3 w' w.heap.size (fun k_ => some k_ ≠ (v0_ : Value).ownBlock ∧ some k_ ≠ (v3_ : Value).ownBlock ∧ some k_ ≠ (v4_ : Value).ownBlock) v2_ r3 ∧ Kd.R (Kd.int .i64) 3 w' w.heap.size (fun k_ => some k_ ≠ (v0_ : Value).ownBlock ∧ some k_ ≠ (v2_ : Value).ownBlock ∧ some k_ ≠ (v4_ : Value).ownBlock) v3_ r4 ∧ Kd.R (Kd.int .i64) 3 w' w.heap.size (fun k_ => some k_ ≠ (v0_ : Value).ownBlock ∧ some k_ ≠ (v2_ : Value).ownBlock ∧ some k_ ≠ (v3_ : Value).ownBlock) v4_ r5 ∧ Below w.heap.size w w' := by
 have hu30 := Try.underlying44
 unfold hypercuberef2_Copy.f at h
 have hlim : (l0_0.length * 8 ≤ 140737488355328 ∧ l0_2.length * 8 ≤ 140737488355328 ∧ l0_3.length * 8 ≤ 140737488355328 ∧ l0_4.length * 8 ≤ 140737488355328) ∧ (l0_0, a0_1, l0_2, l0_3, l0_4) = (r1, r2, r3, r4, r5) := by
  split at h
  · exact ⟨by assumption, Option.some.inj h⟩
  · cases h
 obtain ⟨hlim, he⟩ := hlim
 simp only [Prod.mk.injEq] at he
 obtain ⟨rfl, rfl, rfl, rfl, rfl⟩ := he
 have HL := am hlim
 have G0 := am hr0_0
 have G2 := am hr0_2
 have G3 := am hr0_3
 have G4 := am hr0_4
 clear h hlim hr0_0 hr0_2 hr0_3 hr0_4 hc0_0 hc0_2 hc0_3 hc0_4
 have HB := am (Below.refl w.heap.size w)
 go_enter Try.func42, Try.ntmps42
 go_wp2_with (first
  | ((with_reducible refine gate_dst (N := 1) rfl ?_); refine box_event ?hg (N := 1) ?hd (cs := #[.slice A0_0 l0_0.length c0_0, .int .i64 a0_1, .slice A0_2 l0_2.length c0_2, .slice A0_3 l0_3.length c0_3, .slice A0_4 l0_4.length c0_4]) (t := 44) ?hr ?_; (case hd => rfl); (case hg => rfl); (case hr => first | (go_simp; done) | (go_simp; rfl)); intro gx hg w3 hbox hb; have n0_ := am (below_step HB.out hb); have n1_ := am hbox; clear HB; revert n0_ n1_; intro HB BKx; clear hb hbox hg)
  | ((with_reducible refine gate_dst (N := 2) rfl ?_); refine box_event ?hg (N := 2) ?hd (cs := #[.slice none 0 0, .int .i64 0, .slice none 0 0, .slice none 0 0, .slice none 0 0]) (t := 44) ?hr ?_; (case hd => rfl); (case hg => rfl); (case hr => first | (go_simp; done) | (go_simp; rfl)); intro gr hg w4 hbox hb; have n0_ := am (below_step HB.out hb); have n1_ := am hbox; have n2_ := am (blk_below BKx.out hb); have n3_ := am (show w.heap.size ≤ gr by rw [hg]; exact HB.out.size); have NExr := am (show gx ≠ gr by rw [hg]; exact Nat.ne_of_lt (blk_lt BKx.out)); clear HB BKx; revert n0_ n1_ n2_ n3_; intro HB BKr BKx GEr; clear hb hbox hg))

 refine start_ (n := 20) (S := fun w' => w'.heap[gx]? = some (.cells #[.slice A0_0 l0_0.length c0_0, .int .i64 a0_1, .slice A0_2 l0_2.length c0_2, .slice A0_3 l0_3.length c0_3, .slice A0_4 l0_4.length c0_4] 44 (0, 0))) (ds := [19]) (bb 20 0) (by kernel_rfl) rfl rfl BKx.out (fun hHeld => ?_); refine with_tabW ref_Copy.tab1 ref_Copy.bits1 (fun HT_ HW_ => ?_)
 have n0_ := am (below_drew1 HB.out)
 have n1_ := am (blk_drew BKx.out)
 have n2_ := am (blk_drew BKr.out)
 clear HB BKx BKr
 revert n0_ n1_ n2_
 intro HB BKx BKr
 generalize w4.drew = w5 at HB BKx BKr hHeld ⊢
 refine pu (i := 1) (N := some 4) (bb 20 2) HT_ ?_
 refine pu (i := 4) (N := some 7) (bb 20 18) HT_ ?_
 refine pu (i := 7) (N := some 10) (bb 20 146) HT_ ?_
 refine pu (i := 11) (N := some 14) (bb 20 2194) HT_ ?_
 refine pu (i := 15) (N := some 18) (bb 20 34962) HT_ ?_
 refine take_ (i := 2) (N := some 5) (v := ?_) (a' := ?_) (bb 20 34966) rfl rfl (take_ofW HT_.out HW_.out (by kernel_rfl)) (fun _ _ _ h => h) (Or.inl ⟨by rfl, ?_⟩) hHeld ?_ ?_
 rotate_left
 ·intro w' hs
  have s0 := (blk_cell hs 0).trans rfl
  have s1 := (blk_cell hs 1).trans rfl
  have s2 := (blk_cell hs 2).trans rfl
  have s3 := (blk_cell hs 3).trans rfl
  have s4 := (blk_cell hs 4).trans rfl
  clear hs
  go_simp
  with_reducible rfl
 rotate_left
 ·simp only [ps]
  rfl
 refine take_ (i := 5) (N := some 8) (v := ?_) (a' := ?_) (bb 20 34998) rfl rfl (take_ofW HT_.out HW_.out (by kernel_rfl)) (fun _ _ _ h => h) (Or.inl ⟨by rfl, ?_⟩) hHeld ?_ ?_
 rotate_left
 ·intro w' hs
  have s0 := (blk_cell hs 0).trans rfl
  have s1 := (blk_cell hs 1).trans rfl
  have s2 := (blk_cell hs 2).trans rfl
  have s3 := (blk_cell hs 3).trans rfl
  have s4 := (blk_cell hs 4).trans rfl
  clear hs
  go_simp
  with_reducible rfl
 rotate_left
 ·simp only [ps]
  rfl
 refine take_ (i := 8) (N := some 11) (v := ?_) (a' := ?_) (bb 20 35254) rfl rfl (take_ofW HT_.out HW_.out (by kernel_rfl)) (fun _ _ _ h => h) (Or.inl ⟨by rfl, ?_⟩) hHeld ?_ ?_
 rotate_left
 ·intro w' hs
  have s0 := (blk_cell hs 0).trans rfl
  have s1 := (blk_cell hs 1).trans rfl
  have s2 := (blk_cell hs 2).trans rfl
  have s3 := (blk_cell hs 3).trans rfl
  have s4 := (blk_cell hs 4).trans rfl
  clear hs
  go_simp
  with_reducible rfl
 rotate_left
 ·simp only [ps]
  rfl
 refine take_ (i := 12) (N := some 15) (v := ?_) (a' := ?_) (bb 20 39350) rfl rfl (take_ofW HT_.out HW_.out (by kernel_rfl)) (fun _ _ _ h => h) (Or.inl ⟨by rfl, ?_⟩) hHeld ?_ ?_
 rotate_left
 ·intro w' hs
  have s0 := (blk_cell hs 0).trans rfl
  have s1 := (blk_cell hs 1).trans rfl
  have s2 := (blk_cell hs 2).trans rfl
  have s3 := (blk_cell hs 3).trans rfl
  have s4 := (blk_cell hs 4).trans rfl
  clear hs
  go_simp
  with_reducible rfl
 rotate_left
 ·simp only [ps]
  rfl
 refine take_ (i := 16) (N := some 19) (v := ?_) (a' := ?_) (bb 20 104886) rfl rfl (take_ofW HT_.out HW_.out (by kernel_rfl)) (fun _ _ _ h => h) (Or.inl ⟨by rfl, ?_⟩) hHeld ?_ ?_
 rotate_left
 ·intro w' hs
  have s0 := (blk_cell hs 0).trans rfl
  have s1 := (blk_cell hs 1).trans rfl
  have s2 := (blk_cell hs 2).trans rfl
  have s3 := (blk_cell hs 3).trans rfl
  have s4 := (blk_cell hs 4).trans rfl
  clear hs
  go_simp
  with_reducible rfl
 rotate_left
 ·simp only [ps]
  rfl
 refine anyLast_inv (CInv w gx gr #[.slice A0_0 l0_0.length c0_0, .int .i64 a0_1, .slice A0_2 l0_2.length c0_2, .slice A0_3 l0_3.length c0_3, .slice A0_4 l0_4.length c0_4] l0_0 l0_2 l0_3 l0_4 a0_1) ?step ?last _ _ _ _ (by decide) ?init
 case init =>
  refine ⟨rfl, ?_, ?_, rfl, rfl, HB.out, BKx.out, rfl, rfl, ⟨_, _, _, _, _, _, _, _, rfl, rfl, rfl, rfl, G0.out, G2.out, G3.out, G4.out⟩, fun _ => ⟨BKr.out, GEr.out, fun _ => 0, ?_, ?_, ?_, ?_⟩, fun h => absurd h (by decide), fun h => absurd h (by decide)⟩
  · rintro j (rfl | rfl | rfl | rfl | rfl | rfl | rfl | rfl | rfl | rfl) <;> rfl
  · intro A B hAB h1
    rcases hAB with ⟨rfl, rfl⟩ | ⟨rfl, rfl⟩ | ⟨rfl, rfl⟩ | ⟨rfl, rfl⟩ | ⟨rfl, rfl⟩ <;> exact absurd h1 (by decide)
  all_goals exact ⟨fun h => absurd h (by decide), fun h => absurd h (by decide)⟩
 case step =>
  intro l a w' i hI hr
  clear HB BKx BKr hHeld HT_ HW_
  obtain ⟨hi, hl, hn⟩ := ready_at hr
  have hcase : i = 0 ∨ i = 3 ∨ i = 6 ∨ i = 9 ∨ i = 10 ∨ i = 13 ∨ i = 14 ∨ i = 17 ∨ i = 18 ∨ i = 19 := by
   have h20 : i < 20 := hi
   have hno : ¬ (i = 1 ∨ i = 2 ∨ i = 4 ∨ i = 5 ∨ i = 7 ∨ i = 8 ∨ i = 11 ∨ i = 12 ∨ i = 15 ∨ i = 16) := fun h => by rw [hI.old i h] at hl; cases hl
   omega
  clear hi hr
  rcases hcase with rfl | rfl | rfl | rfl | rfl | rfl | rfl | rfl | rfl | rfl
  · refine op_now rfl (value_ (w1 := w'.alloc (.cells #[] 3)) (v := .slice (some ⟨w'.heap.size, 0, none⟩) 0 0) (by rfl) rfl (by go_simp; first | done | rfl | (constructor <;> rfl)) ⟨fun _ hS => blk_alloc hS _, ?_⟩)
    exact hI.build 0 3 (by omega) hl
  · have hB0 := hn _ rfl ⟨0, .data⟩ (by simp) rfl
    have h18 : l.getD 18 true = false := bfalse fun e => by
      obtain ⟨a3, a9, a13, a17, _⟩ := hI.told e
      first | (rw [a3] at hl; cases hl) | (rw [a9] at hl; cases hl) | (rw [a13] at hl; cases hl) | (rw [a17] at hl; cases hl)
    have h19 : l.getD 19 true = false := bfalse fun e => by rw [hI.ord 19 18 (by omega) e] at h18; cases h18
    obtain ⟨hr, hrb, f, r0, r1, r2, r3⟩ := hI.made h19
    obtain ⟨X0, z0, X1, z1, X2, z2, X3, z3, x0, x1, x2, x3, k0, k1, k2, k3⟩ := hI.rows
    have hHO := r0.1 hB0 hl
    have hHO2 := R_refun (f' := fun k => if w'.heap.size ≤ k then 0 else f k) hHO (fun _ _ _ => rfl) (fun k hk => if_neg (by omega))
    refine op_now rfl (Kd.R_append_rows_step (Kd.int .i64) (Rr := (Kd.int .i64).K w) (w0 := w) w.heap.size (by rfl) (.tmp 3) (.tmp 5) 22 3 (.int .i64 0) 8 rfl Try.underlying22 info3 rfl (by decide) (by decide) (a.eval (.tmp 3)) [] l0_0 X0 l0_0.length z0 (fun k => (if w'.heap.size ≤ k then 0 else f k) = 0) (fun _ => False) rfl x0 hHO2 (Kd.C_below k0 hI.bel) (fun _ _ h => h) (fun _ h => h.elim) (fun k hk => if_pos hk) hI.bel hI.bel.size (by have := HL.out.1; simp only [List.length_nil]; omega) ?_)
    intro v1 w1 ho hb hg hat
    have hv : ∀ k, (a.eval (.tmp 3)).ownBlock = some k → f k = 0 ∧ ∃ cells, w'.heap[k]? = some (.cells cells 3 (0, 0)) := fun k hk => ⟨hHO.1 k hk, Kd.R_typed hHO k hk⟩
    refine ⟨fun _ hS => blk_grown hS hg (fun e => by obtain ⟨_, cells, hc⟩ := hv gx e.symm; rw [hS] at hc; injection hc with hc; injection hc with _ hc; exact absurd hc (by decide)), ?_⟩
    exact hI.app 3 6 0 (by omega) hl (fun B hB => (show 0 = B by omega) ▸ hB0) h18 h19 hr hrb (f' := fun k => if w'.heap.size ≤ k then 0 else f k) (fun k hk => if_neg (by omega)) r0 r1 r2 r3 hv hb hg ho
  · refine op_now rfl (value_ (w1 := w'.alloc (.cells #[] 3)) (v := .slice (some ⟨w'.heap.size, 0, none⟩) 0 0) (by rfl) rfl (by go_simp; first | done | rfl | (constructor <;> rfl)) ⟨fun _ hS => blk_alloc hS _, ?_⟩)
    exact hI.build 6 9 (by omega) hl
  · have hB0 := hn _ rfl ⟨6, .data⟩ (by simp) rfl
    have h18 : l.getD 18 true = false := bfalse fun e => by
      obtain ⟨a3, a9, a13, a17, _⟩ := hI.told e
      first | (rw [a3] at hl; cases hl) | (rw [a9] at hl; cases hl) | (rw [a13] at hl; cases hl) | (rw [a17] at hl; cases hl)
    have h19 : l.getD 19 true = false := bfalse fun e => by rw [hI.ord 19 18 (by omega) e] at h18; cases h18
    obtain ⟨hr, hrb, f, r0, r1, r2, r3⟩ := hI.made h19
    obtain ⟨X0, z0, X1, z1, X2, z2, X3, z3, x0, x1, x2, x3, k0, k1, k2, k3⟩ := hI.rows
    have hHO := r1.1 hB0 hl
    have hHO2 := R_refun (f' := fun k => if w'.heap.size ≤ k then 1 else f k) hHO (fun _ _ _ => rfl) (fun k hk => if_neg (by omega))
    refine op_now rfl (Kd.R_append_rows_step (Kd.int .i64) (Rr := (Kd.int .i64).K w) (w0 := w) w.heap.size (by rfl) (.tmp 9) (.tmp 11) 22 3 (.int .i64 0) 8 rfl Try.underlying22 info3 rfl (by decide) (by decide) (a.eval (.tmp 9)) [] l0_2 X1 l0_2.length z1 (fun k => (if w'.heap.size ≤ k then 1 else f k) = 1) (fun _ => False) rfl x1 hHO2 (Kd.C_below k1 hI.bel) (fun _ _ h => h) (fun _ h => h.elim) (fun k hk => if_pos hk) hI.bel hI.bel.size (by have := HL.out.2.1; simp only [List.length_nil]; omega) ?_)
    intro v1 w1 ho hb hg hat
    have hv : ∀ k, (a.eval (.tmp 9)).ownBlock = some k → f k = 1 ∧ ∃ cells, w'.heap[k]? = some (.cells cells 3 (0, 0)) := fun k hk => ⟨hHO.1 k hk, Kd.R_typed hHO k hk⟩
    refine ⟨fun _ hS => blk_grown hS hg (fun e => by obtain ⟨_, cells, hc⟩ := hv gx e.symm; rw [hS] at hc; injection hc with hc; injection hc with _ hc; exact absurd hc (by decide)), ?_⟩
    exact hI.app 9 12 1 (by omega) hl (fun B hB => (show 6 = B by omega) ▸ hB0) h18 h19 hr hrb (f' := fun k => if w'.heap.size ≤ k then 1 else f k) (fun k hk => if_neg (by omega)) r0 r1 r2 r3 hv hb hg ho
  · refine op_now rfl (value_ (w1 := w'.alloc (.cells #[] 3)) (v := .slice (some ⟨w'.heap.size, 0, none⟩) 0 0) (by rfl) rfl (by go_simp; first | done | rfl | (constructor <;> rfl)) ⟨fun _ hS => blk_alloc hS _, ?_⟩)
    exact hI.build 10 13 (by omega) hl
  · have hB0 := hn _ rfl ⟨10, .data⟩ (by simp) rfl
    have h18 : l.getD 18 true = false := bfalse fun e => by
      obtain ⟨a3, a9, a13, a17, _⟩ := hI.told e
      first | (rw [a3] at hl; cases hl) | (rw [a9] at hl; cases hl) | (rw [a13] at hl; cases hl) | (rw [a17] at hl; cases hl)
    have h19 : l.getD 19 true = false := bfalse fun e => by rw [hI.ord 19 18 (by omega) e] at h18; cases h18
    obtain ⟨hr, hrb, f, r0, r1, r2, r3⟩ := hI.made h19
    obtain ⟨X0, z0, X1, z1, X2, z2, X3, z3, x0, x1, x2, x3, k0, k1, k2, k3⟩ := hI.rows
    have hHO := r2.1 hB0 hl
    have hHO2 := R_refun (f' := fun k => if w'.heap.size ≤ k then 2 else f k) hHO (fun _ _ _ => rfl) (fun k hk => if_neg (by omega))
    refine op_now rfl (Kd.R_append_rows_step (Kd.int .i64) (Rr := (Kd.int .i64).K w) (w0 := w) w.heap.size (by rfl) (.tmp 13) (.tmp 15) 22 3 (.int .i64 0) 8 rfl Try.underlying22 info3 rfl (by decide) (by decide) (a.eval (.tmp 13)) [] l0_3 X2 l0_3.length z2 (fun k => (if w'.heap.size ≤ k then 2 else f k) = 2) (fun _ => False) rfl x2 hHO2 (Kd.C_below k2 hI.bel) (fun _ _ h => h) (fun _ h => h.elim) (fun k hk => if_pos hk) hI.bel hI.bel.size (by have := HL.out.2.2.1; simp only [List.length_nil]; omega) ?_)
    intro v1 w1 ho hb hg hat
    have hv : ∀ k, (a.eval (.tmp 13)).ownBlock = some k → f k = 2 ∧ ∃ cells, w'.heap[k]? = some (.cells cells 3 (0, 0)) := fun k hk => ⟨hHO.1 k hk, Kd.R_typed hHO k hk⟩
    refine ⟨fun _ hS => blk_grown hS hg (fun e => by obtain ⟨_, cells, hc⟩ := hv gx e.symm; rw [hS] at hc; injection hc with hc; injection hc with _ hc; exact absurd hc (by decide)), ?_⟩
    exact hI.app 13 16 2 (by omega) hl (fun B hB => (show 10 = B by omega) ▸ hB0) h18 h19 hr hrb (f' := fun k => if w'.heap.size ≤ k then 2 else f k) (fun k hk => if_neg (by omega)) r0 r1 r2 r3 hv hb hg ho
  · refine op_now rfl (value_ (w1 := w'.alloc (.cells #[] 3)) (v := .slice (some ⟨w'.heap.size, 0, none⟩) 0 0) (by rfl) rfl (by go_simp; first | done | rfl | (constructor <;> rfl)) ⟨fun _ hS => blk_alloc hS _, ?_⟩)
    exact hI.build 14 17 (by omega) hl
  · have hB0 := hn _ rfl ⟨14, .data⟩ (by simp) rfl
    have h18 : l.getD 18 true = false := bfalse fun e => by
      obtain ⟨a3, a9, a13, a17, _⟩ := hI.told e
      first | (rw [a3] at hl; cases hl) | (rw [a9] at hl; cases hl) | (rw [a13] at hl; cases hl) | (rw [a17] at hl; cases hl)
    have h19 : l.getD 19 true = false := bfalse fun e => by rw [hI.ord 19 18 (by omega) e] at h18; cases h18
    obtain ⟨hr, hrb, f, r0, r1, r2, r3⟩ := hI.made h19
    obtain ⟨X0, z0, X1, z1, X2, z2, X3, z3, x0, x1, x2, x3, k0, k1, k2, k3⟩ := hI.rows
    have hHO := r3.1 hB0 hl
    have hHO2 := R_refun (f' := fun k => if w'.heap.size ≤ k then 3 else f k) hHO (fun _ _ _ => rfl) (fun k hk => if_neg (by omega))
    refine op_now rfl (Kd.R_append_rows_step (Kd.int .i64) (Rr := (Kd.int .i64).K w) (w0 := w) w.heap.size (by rfl) (.tmp 17) (.tmp 19) 22 3 (.int .i64 0) 8 rfl Try.underlying22 info3 rfl (by decide) (by decide) (a.eval (.tmp 17)) [] l0_4 X3 l0_4.length z3 (fun k => (if w'.heap.size ≤ k then 3 else f k) = 3) (fun _ => False) rfl x3 hHO2 (Kd.C_below k3 hI.bel) (fun _ _ h => h) (fun _ h => h.elim) (fun k hk => if_pos hk) hI.bel hI.bel.size (by have := HL.out.2.2.2; simp only [List.length_nil]; omega) ?_)
    intro v1 w1 ho hb hg hat
    have hv : ∀ k, (a.eval (.tmp 17)).ownBlock = some k → f k = 3 ∧ ∃ cells, w'.heap[k]? = some (.cells cells 3 (0, 0)) := fun k hk => ⟨hHO.1 k hk, Kd.R_typed hHO k hk⟩
    refine ⟨fun _ hS => blk_grown hS hg (fun e => by obtain ⟨_, cells, hc⟩ := hv gx e.symm; rw [hS] at hc; injection hc with hc; injection hc with _ hc; exact absurd hc (by decide)), ?_⟩
    exact hI.app 17 20 3 (by omega) hl (fun B hB => (show 14 = B by omega) ▸ hB0) h18 h19 hr hrb (f' := fun k => if w'.heap.size ≤ k then 3 else f k) (fun k hk => if_neg (by omega)) r0 r1 r2 r3 hv hb hg ho
  · have a3 := hn _ rfl ⟨3, .data⟩ (by simp) rfl
    have a9 := hn _ rfl ⟨9, .data⟩ (by simp) rfl
    have a13 := hn _ rfl ⟨13, .data⟩ (by simp) rfl
    have a17 := hn _ rfl ⟨17, .data⟩ (by simp) rfl
    have h19 : l.getD 19 true = false := bfalse fun e => by rw [hI.ord 19 18 (by omega) e] at hl; cases hl
    obtain ⟨hr, hrb, f, r0, r1, r2, r3⟩ := hI.made h19
    obtain ⟨B0, b0, e0⟩ := Kd.R_slice (r0.2 a3)
    obtain ⟨B2, b2, e2⟩ := Kd.R_slice (r1.2 a9)
    obtain ⟨B3, b3, e3⟩ := Kd.R_slice (r2.2 a13)
    obtain ⟨B4, b4, e4⟩ := Kd.R_slice (r3.2 a17)
    have t8 : a.tmps[8]?.getD undef = .int .i64 a0_1 := by simpa [Act.eval] using hI.e8
    have t6 : a.tmps[6]?.getD undef = .slice B0 l0_0.length b0 := by simpa [Act.eval] using e0
    have t12 : a.tmps[12]?.getD undef = .slice B2 l0_2.length b2 := by simpa [Act.eval] using e2
    have t16 : a.tmps[16]?.getD undef = .slice B3 l0_3.length b3 := by simpa [Act.eval] using e3
    have t20 : a.tmps[20]?.getD undef = .slice B4 l0_4.length b4 := by simpa [Act.eval] using e4
    refine op_now rfl (value_ (w1 := w') (v := .agg #[a.eval (.tmp 6), .int .i64 a0_1, a.eval (.tmp 12), a.eval (.tmp 16), a.eval (.tmp 20)]) (by rfl) rfl (by go_simp; first | done | rfl | trace_state) ⟨fun _ hS => hS, ?_⟩)
    exact hI.tell hl h19 a3 a9 a13 a17
  · have a18 := hn _ rfl ⟨18, .data⟩ (by simp) rfl
    obtain ⟨hr, hrb, f, r0, r1, r2, r3⟩ := hI.made hl
    obtain ⟨a3, a9, a13, a17, e21⟩ := hI.told a18
    obtain ⟨B0, b0, e0⟩ := Kd.R_slice (r0.2 a3)
    obtain ⟨B2, b2, e2⟩ := Kd.R_slice (r1.2 a9)
    obtain ⟨B3, b3, e3⟩ := Kd.R_slice (r2.2 a13)
    obtain ⟨B4, b4, e4⟩ := Kd.R_slice (r3.2 a17)
    rw [e0, e2, e3, e4] at e21
    have t2 : a.tmps[2]?.getD undef = .pointer (some ⟨gr, 0, none⟩) := by simpa [Act.eval] using hI.e2
    have t21 : a.tmps[21]?.getD undef = .agg #[.slice B0 l0_0.length b0, .int .i64 a0_1, .slice B2 l0_2.length b2, .slice B3 l0_3.length b3, .slice B4 l0_4.length b4] := by simpa [Act.eval] using e21
    have z0 := (blk_cell hr 0).trans rfl
    have z1 := (blk_cell hr 1).trans rfl
    have z2 := (blk_cell hr 2).trans rfl
    have z3 := (blk_cell hr 3).trans rfl
    have z4 := (blk_cell hr 4).trans rfl
    have f0 := blk_frozen hr 0
    have f1 := blk_frozen hr 1
    have f2 := blk_frozen hr 2
    have f3 := blk_frozen hr 3
    have f4 := blk_frozen hr 4
    refine op_now rfl (skip_ (w1 := w'.setCells gr 0 [.slice B0 l0_0.length b0, .int .i64 a0_1, .slice B2 l0_2.length b2, .slice B3 l0_3.length b3, .slice B4 l0_4.length b4]) (by rfl) rfl (by go_simp; rfl) ⟨fun hd => absurd (by simp) hd, ?_⟩)
    rw [e0] at r0
    rw [e2] at r1
    rw [e3] at r2
    rw [e4] at r3
    exact hI.store hl hr hrb a18 (r0.2 a3) (r1.2 a9) (r2.2 a13) (r3.2 a17) NExr.out
 case last =>
  intro l a w' hI hr
  clear HB BKx BKr hHeld HT_ HW_
  have hall := none_left (by exact hI.sz) (low_of (by kernel_rfl)) hr
  obtain ⟨v0, v1, v2, v3, f, hb, x0, x1, x2, x3⟩ := hI.fin (hall 19 (by decide))
  have he2 := hI.e2
  have hdf := hI.dfr
  go_wp2
  refine bodyPost_ret (results_cell_row rfl _ _ gr 44 #[v0, .int .i64 a0_1, v1, v2, v3] (0, 0) _ he2 hb Try.underlying44 rfl (by kernel_rfl)) hdf ?_
  exact ⟨v0, v1, v2, v3, rfl, Kd.R_mono x0 (fun k hk => ⟨fun e => by have := x1.1 k e.symm; omega, fun e => by have := x2.1 k e.symm; omega, fun e => by have := x3.1 k e.symm; omega⟩),
    Kd.R_mono x1 (fun k hk => ⟨fun e => by have := x0.1 k e.symm; omega, fun e => by have := x2.1 k e.symm; omega, fun e => by have := x3.1 k e.symm; omega⟩),
    Kd.R_mono x2 (fun k hk => ⟨fun e => by have := x0.1 k e.symm; omega, fun e => by have := x1.1 k e.symm; omega, fun e => by have := x3.1 k e.symm; omega⟩),
    Kd.R_mono x3 (fun k hk => ⟨fun e => by have := x0.1 k e.symm; omega, fun e => by have := x1.1 k e.symm; omega, fun e => by have := x2.1 k e.symm; omega⟩), hI.bel⟩
end Go.Proofs.Ytndkimjmbpbcmaa.Q
namespace Go.Proofs.Ytndkimjmbpbcmaa.Q
open Go.RowKit Go.Proofs.YtndkimjmbpbcmaaW.PrintWords Go.Proofs.YtndkimjmbpbcmaaW.PrintLast Go.Proofs.YtndkimjmbpbcmaaW.PrintMore
attribute [local go_sem] max2_int min2_int max_two min_two max_three min_three max_four min_four
set_option linter.unusedVariables false
set_option linter.unusedSimpArgs false
mutual
def hypercuberef2_Put.j1 : Nat → List (S44) → Int → List Int → Int → List Int → List Int → List Int → Option ((List (S44)))
 | 0, _, _, _, _, _, _, _ => none
 | k + 1, x0, x5, x255000, x255001, x255002, x255003, x255004 => if x5 < (x0.length : Int) then (if 0 ≤ x5 then ((hypercuberef2_Less.f k ((rd_T44 x0 x5).f0) x255000).bind fun t258 => (hypercuberef2_Put.j2 k x0 x5 (t258 == 0) x255000 x255001 x255002 x255003 x255004)) else (none)) else (hypercuberef2_Put.j2 k x0 x5 false x255000 x255001 x255002 x255003 x255004)
def hypercuberef2_Put.j2 : Nat → List (S44) → Int → Bool → List Int → Int → List Int → List Int → List Int → Option ((List (S44)))
 | 0, _, _, _, _, _, _, _, _ => none
 | k + 1, x0, x5, x38, x255000, x255001, x255002, x255003, x255004 => if x38 = true then ((some (([] : List (S44)) : List (S44))).bind fun y259 => (if y259.length + x0.length < 1353245080339 then ((some (y259 ++ x0 : List (S44))).bind fun y262 => (if 0 ≤ x5 then (if x5 < (x0.length : Int) then ((hypercuberef2_Join.f k ((rd_T44 x0 x5).f0) ((rd_T44 x0 x5).f1) ((rd_T44 x0 x5).f2) ((rd_T44 x0 x5).f3) ((rd_T44 x0 x5).f4) x255000 x255001 x255002 x255003 x255004).bind fun bt266 => (if x5 < (y262.length : Int) then (some (y262.set (x5 : Int).toNat (⟨bt266.1, bt266.2.1, bt266.2.2.1, bt266.2.2.2.1, bt266.2.2.2.2⟩ : S44))) else (none))) else (none)) else (none))) else (none))) else ((some (([] : List (S44)) : List (S44))).bind fun y280 => (if 0 ≤ x5 then (if x5 ≤ (x0.length : Int) then ((some (x0.take (x5 : Int).toNat : List (S44))).bind fun y283 => (if y280.length + y283.length < 1353245080339 then ((some (y280 ++ y283 : List (S44))).bind fun y288 => ((hypercuberef2_Copy.f x255000 x255001 x255002 x255003 x255004).bind fun bt291 => (if y288.length < 1353245080339 then ((some (y288 ++ [(⟨bt291.1, bt291.2.1, bt291.2.2.1, bt291.2.2.2.1, bt291.2.2.2.2⟩ : S44)] : List (S44))).bind fun y304 => ((some (x0.drop (x5 : Int).toNat : List (S44))).bind fun y307 => (if y304.length + y307.length < 1353245080339 then (some (y304 ++ y307)) else (none)))) else (none)))) else (none))) else (none)) else (none)))
def hypercuberef2_Put.l0 : Nat → List (S44) → Int → List Int → Int → List Int → List Int → List Int → Option ((List (S44)))
 | 0, _, _, _, _, _, _, _ => none
 | k + 1, x0, x5, x255000, x255001, x255002, x255003, x255004 => if x5 < (x0.length : Int) then (if 0 ≤ x5 then ((hypercuberef2_Less.f k ((rd_T44 x0 x5).f0) x255000).bind fun t256 => (if t256 < 0 then (hypercuberef2_Put.l0 k x0 (wrap64 (x5 + 1)) x255000 x255001 x255002 x255003 x255004) else (hypercuberef2_Put.j1 k x0 x5 x255000 x255001 x255002 x255003 x255004))) else (none)) else (hypercuberef2_Put.j1 k x0 x5 x255000 x255001 x255002 x255003 x255004)
end
def hypercuberef2_Put.f (k : Nat) (l0 : List (S44)) (l1_0 : List Int) (a1_1 : Int) (l1_2 : List Int) (l1_3 : List Int) (l1_4 : List Int) : Option ((List (S44))) := hypercuberef2_Put.l0 k l0 0 l1_0 a1_1 l1_2 l1_3 l1_4
def hypercuberef2_Put.T2 : Bool × List (List Nat × List Nat) := (true, [([], []), ([], []), ([1], [1]), ([0, 2], [0, 2]), ([3], [3]), ([4], [4]), ([4], [4]), ([5, 6, 4], [4, 5, 6]), ([7, 4], [4, 7]), ([8, 4], [4, 8]), ([4], [4]), ([10, 4], [4, 10]), ([9, 11, 4, 4], [4, 9, 11]), ([12, 4], [4, 12]), ([4, 13], [4, 13])])
def hypercuberef2_Put.B2 : List Nat := [0, 0, 2, 7, 15, 31, 31, 127, 255, 511, 31, 1055, 4095, 8191, 16383]
theorem hypercuberef2_Put.tab2 : rtab .any (opsOf Try.f30 2) = hypercuberef2_Put.T2 := by kernel_rfl
theorem hypercuberef2_Put.bits2 : waitsOk hypercuberef2_Put.T2.2 hypercuberef2_Put.B2 = true := by kernel_rfl
def hypercuberef2_Put.T4 : Bool × List (List Nat × List Nat) := (true, [([], []), ([], []), ([1], [1]), ([0, 2], [0, 2]), ([3], [3]), ([4], [4]), ([4], [4]), ([5, 6, 4], [4, 5, 6]), ([7, 4], [4, 7]), ([8, 4], [4, 8]), ([4], [4]), ([10, 4], [4, 10]), ([9, 11, 4, 4], [4, 9, 11]), ([12, 4], [4, 12]), ([4, 13], [4, 13])])
def hypercuberef2_Put.B4 : List Nat := [0, 0, 2, 7, 15, 31, 31, 127, 255, 511, 31, 1055, 4095, 8191, 16383]
theorem hypercuberef2_Put.tab4 : rtab .any (opsOf Try.f30 4) = hypercuberef2_Put.T4 := by kernel_rfl
theorem hypercuberef2_Put.bits4 : waitsOk hypercuberef2_Put.T4.2 hypercuberef2_Put.B4 = true := by kernel_rfl
def hypercuberef2_Put.T6 : Bool × List (List Nat × List Nat) := (true, [([], []), ([], []), ([], []), ([], []), ([2, 3], [2, 3]), ([4], [4]), ([], []), ([5, 6], [5, 6]), ([0, 1, 0, 1, 2, 3, 4, 5, 6, 7], [0, 1]), ([8, 7, 7, 0, 1, 2, 3, 4, 5, 6, 7], [7, 8])])
def hypercuberef2_Put.B6 : List Nat := [0, 0, 0, 0, 12, 28, 0, 124, 255, 511]
theorem hypercuberef2_Put.tab6 : rtab .any (opsOf Try.f30 6) = hypercuberef2_Put.T6 := by kernel_rfl
theorem hypercuberef2_Put.bits6 : waitsOk hypercuberef2_Put.T6.2 hypercuberef2_Put.B6 = true := by kernel_rfl
def hypercuberef2_Put.T8 : Bool × List (List Nat × List Nat) := (true, [([], []), ([], []), ([], []), ([1, 2], [1, 2]), ([0, 3], [0, 3]), ([], []), ([5, 4], [5]), ([6], [6]), ([4, 7, 6], [4, 7]), ([], []), ([], []), ([9, 10], [9, 10]), ([8, 11, 8], [8, 11]), ([12, 12, 0, 1, 2, 3, 4, 5, 6, 7, 8, 9, 10, 11, 12], [12])])
def hypercuberef2_Put.B8 : List Nat := [0, 0, 0, 6, 15, 0, 63, 127, 255, 0, 0, 1536, 4095, 8191]
theorem hypercuberef2_Put.tab8 : rtab .any (opsOf Try.f30 8) = hypercuberef2_Put.T8 := by kernel_rfl
theorem hypercuberef2_Put.bits8 : waitsOk hypercuberef2_Put.T8.2 hypercuberef2_Put.B8 = true := by kernel_rfl
set_option maxHeartbeats 8000000 in
set_option maxRecDepth 100000 in
theorem hypercuberef2_Put.calls (k : Nat) (P0_ : Nat → Prop) (A0 : Option Addr) (c0 : Nat) (l0 : List (S44)) (A1_0 : Option Addr) (c1_0 : Nat) (l1_0 : List Int) (a1_1 : Int) (A1_2 : Option Addr) (c1_2 : Nat) (l1_2 : List Int) (A1_3 : Option Addr) (c1_3 : Nat) (l1_3 : List Int) (A1_4 : Option Addr) (c1_4 : Nat) (l1_4 : List Int) (r : List (S44)) (w : World) (hs0 : Kd.V k44 44 w w.heap.size (fun k_ => P0_ k_) (.slice A0 l0.length c0) l0) (hr1_0 : Kd.C (Kd.int .i64) w A1_0 l1_0.length l1_0) (hc1_0 : l1_0.length ≤ c1_0) (hr1_2 : Kd.C (Kd.int .i64) w A1_2 l1_2.length l1_2) (hc1_2 : l1_2.length ≤ c1_2) (hr1_3 : Kd.C (Kd.int .i64) w A1_3 l1_3.length l1_3) (hc1_3 : l1_3.length ≤ c1_3) (hr1_4 : Kd.C (Kd.int .i64) w A1_4 l1_4.length l1_4) (hc1_4 : l1_4.length ≤ c1_4) (h : hypercuberef2_Put.f k l0 l1_0 a1_1 l1_2 l1_3 l1_4 = some r) :
  Calls Try.prog 30 #[.slice A0 l0.length c0, .agg #[.slice A1_0 l1_0.length c1_0, .int .i64 a1_1, .slice A1_2 l1_2.length c1_2, .slice A1_3 l1_3.length c1_3, .slice A1_4 l1_4.length c1_4]] w fun e w' => ∃ v0_ : Value, e = .returned (v0_) ∧ Kd.N k44 44 w' w.heap.size (fun k_ => (P0_ k_ ∨ w.heap.size ≤ k_)) v0_ r ∧ Below w.heap.size w w' := by
 have hu44 := Try.underlying44
 have HO0 := am (show Kd.V k44 44 w w.heap.size (fun k_ => (P0_ k_ ∨ w.heap.size ≤ k_)) (.slice A0 l0.length c0) l0 from Kd.V_mono hs0 (fun k_ hk => .inl hk))
 have HR1_0 := am hr1_0
 have HC1_0 := am hc1_0
 clear hr1_0 hc1_0
 have HR1_2 := am hr1_2
 have HC1_2 := am hc1_2
 clear hr1_2 hc1_2
 have HR1_3 := am hr1_3
 have HC1_3 := am hc1_3
 clear hr1_3 hc1_3
 have HR1_4 := am hr1_4
 have HC1_4 := am hc1_4
 clear hr1_4 hc1_4
 have HB := am (Below.refl w.heap.size w)
 have H : (hypercuberef2_Put.l0 k l0 0 l1_0 a1_1 l1_2 l1_3 l1_4) = some r := h
 clear h
 have HC3 := am H
 clear H
 go_enter Try.func30, Try.ntmps30
 go_upto_block 0 with (first | ((with_reducible refine gate_dst (N := 3) rfl ?_); refine box_event ?hg (N := 3) ?hd (cs := #[.slice A1_0 l1_0.length c1_0, .int .i64 a1_1, .slice A1_2 l1_2.length c1_2, .slice A1_3 l1_3.length c1_3, .slice A1_4 l1_4.length c1_4]) (t := 44) ?hr ?_; (case hd => rfl); (case hg => rfl); (case hr => first | (go_simp; done) | (go_simp; rfl)); intro gb254 hg w4 hbox hb; have n0_ := am (Kd.V_below (Kd.V_elderB (Kd.V_mv HO0.out) gb254 (Nat.le_of_eq hg.symm)) hb); have n1_ := am (below_step (wmv HB.out) hb); have n2_ := am (hbox); have n3_ := am ((by rw [hg]; exact (below_size (wmv HB.out)) : w.heap.size ≤ gb254)); have n4_ := am ((by rw [hg]; exact (below_size (wmv HB.out)) : w.heap.size ≤ gb254)); clear HO0 HB; revert n0_ n1_ n2_ n3_ n4_; intro HO0 HB BK254 GW254 GE254; clear hb hbox hg))
 (try simp only [Act.put, List.setIfInBounds_toArray, List.set_cons_zero, List.set_cons_succ])
 go_cut [5] (fun v5 wc => ∃ (kq : Nat) (x5_2 : Int), v5 = .int .i64 x5_2 ∧ Aside0 (hypercuberef2_Put.j1 kq l0 x5_2 l1_0 a1_1 l1_2 l1_3 l1_4 = some r) ∧ Aside0 (kq ≤ k) ∧ Aside0 (Kd.V k44 44 wc w.heap.size (fun k_ => (P0_ k_ ∨ w.heap.size ≤ k_) ∧ k_ ≠ gb254) (.slice A0 l0.length c0) l0) ∧ Aside0 (wc.heap[gb254]? = some (.cells #[(.slice A1_0 l1_0.length c1_0), .int .i64 a1_1, (.slice A1_2 l1_2.length c1_2), (.slice A1_3 l1_3.length c1_3), (.slice A1_4 l1_4.length c1_4)] 44 (0, 0))) ∧ Aside0 (Below w.heap.size w wc))
 case first =>
  have H := HC3.out
  clear HC3
  have H' := am H
  clear H
  go_wp2
  go_loopg [5] k (fun kq v5 w' => ∃ (x5_1 : Int), v5 = .int .i64 x5_1 ∧ Aside0 (hypercuberef2_Put.l0 kq l0 x5_1 l1_0 a1_1 l1_2 l1_3 l1_4 = some r) ∧ Aside0 (kq ≤ k) ∧ Aside0 (Kd.V k44 44 w' w.heap.size (fun k_ => (P0_ k_ ∨ w.heap.size ≤ k_) ∧ k_ ≠ gb254) (.slice A0 l0.length c0) l0) ∧ Aside0 (w'.heap[gb254]? = some (.cells #[(.slice A1_0 l1_0.length c1_0), .int .i64 a1_1, (.slice A1_2 l1_2.length c1_2), (.slice A1_3 l1_3.length c1_3), (.slice A1_4 l1_4.length c1_4)] 44 (0, 0))) ∧ Aside0 (Below w.heap.size w w'))
  case atStart => exact ⟨(0), (by first | rfl | (simp; done) | (simp [*]; done)), H', ⟨Nat.le_refl _⟩, ⟨by (with_reducible repeat (first | apply Kd.V_alloc | apply Kd.V_drewN | apply Kd.V_drew)); exact HO0.out⟩, ⟨by (with_reducible repeat (first | refine blk_drewN ?_ _ | refine blk_drew ?_ | refine blk_alloc ?_ _)); exact BK254.out⟩, ⟨by repeat (first | (with_reducible first | exact HB.out | apply below_alloc | apply pw_below_drewN | apply below_drew1 | refine below_set ?_ GE254.out) | exact HB.out)⟩⟩
  case round =>
   clear H'
   try clear c1
   try clear p2
   try clear c3
   obtain ⟨x5_1, rfl, HA, HK1, HO_0, BK254, HB⟩ := hrel
   cases gk with
   | zero => exact absurd HA.out (by simp [hypercuberef2_Put.l0])
   | succ k1 =>
    have H := HA.out
    clear HA
    simp only [hypercuberef2_Put.l0] at H
    by_cases c5 : x5_1 < (l0.length : Int)
    ·rw [if_pos c5] at H
     have c5b0 : decide (x5_1 < (l0.length : Int)) = true := decide_eq_true c5
     clear c5
     (first | rw [c5b0] | (simp only [i64_w, i32_w]; rw [c5b0]) | skip)
     by_cases c6 : 0 ≤ x5_1
     ·rw [if_pos c6] at H
      have c6b0 : decide (0 ≤ x5_1) = true := decide_eq_true c6
      clear c6
      replace H := Option.bind_eq_some_iff.mp H
      obtain ⟨t256, A70, H⟩ := H
      replace H : (if t256 < 0 then (hypercuberef2_Put.l0 k1 l0 (wrap64 (x5_1 + 1)) l1_0 a1_1 l1_2 l1_3 l1_4) else (hypercuberef2_Put.j1 k1 l0 x5_1 l1_0 a1_1 l1_2 l1_3 l1_4)) = some r := H
      have A7 := am A70
      clear A70
      by_cases c8 : t256 < 0
      ·rw [if_pos c8] at H
       have c8b0 : decide (t256 < 0) = true := decide_eq_true c8
       clear c8
       have H' := am H
       clear H
       try go_wp2
       have n0_ := am (Kd.V_drew HO_0.out)
       have n1_ := am (blk_drew BK254.out)
       have n2_ := am (below_drew1 HB.out)
       clear HO_0 BK254 HB
       revert n0_ n1_ n2_
       intro HO_0 BK254 HB
       have p255 : 0 ≤ (x5_1 : Int) := of_decide_eq_true (by first | (with_reducible assumption) | assumption)
       have q255 : x5_1 < (l0.length : Int) := of_decide_eq_true (by first | (with_reducible assumption) | assumption)
       obtain ⟨ad255, A255_0, c255_0, A255_2, c255_2, A255_3, c255_3, A255_4, c255_4, e255, hx255_0, hx255_1, hx255_2, hx255_3, hx255_4, hl255_0, hi255_0, hl255_2, hi255_2, hl255_3, hi255_3, hl255_4, hi255_4⟩ := at_T44 (Kd.V_reads' HO_0.out).2.2 x5_1 p255 q255
       cases e255
       obtain ⟨ce255, hce255, hMe255, hcc255⟩ := Kd.V_get HO_0.out z44 x5_1 p255 (by first | exact q255 | exact of_decide_eq_true (by first | (with_reducible assumption) | assumption) | (have e_ := (Kd.V_reads' HO_0.out).1; omega))
       obtain ⟨ua255_0, uc255_0, ua255_2, uc255_2, ua255_3, uc255_3, ua255_4, uc255_4, rfl, ul255_0, ge255_0, ul255_2, ge255_2, ul255_3, ge255_3, ul255_4, ge255_4⟩ := k44_openF hMe255
       have hv255_0 := hcc255 0 _ rfl
       rw [Nat.add_zero] at hv255_0
       replace hv255_0 := Option.some.inj (hv255_0.symm.trans hx255_0)
       injection hv255_0 with hva_ hvn_ hvc_
       rw [hva_] at ge255_0
       rw [hvc_] at ul255_0
       have HL255_0 := am (show Kd.V (Kd.int .i64) 3 _ w.heap.size _ _ ((rd_T44 l0 x5_1).f0) from Kd.V_mk ul255_0 ge255_0)
       clear hva_ hvn_ hvc_ ge255_0 ul255_0
       have hv255_2 := hcc255 2 _ rfl
       rw [add_field _ _ 2 (by omega)] at hv255_2
       replace hv255_2 := Option.some.inj (hv255_2.symm.trans hx255_2)
       injection hv255_2 with hva_ hvn_ hvc_
       rw [hva_] at ge255_2
       rw [hvc_] at ul255_2
       have HL255_2 := am (show Kd.V (Kd.int .i64) 3 _ w.heap.size _ _ ((rd_T44 l0 x5_1).f2) from Kd.V_mk ul255_2 ge255_2)
       clear hva_ hvn_ hvc_ ge255_2 ul255_2
       have hv255_3 := hcc255 3 _ rfl
       rw [add_field _ _ 3 (by omega)] at hv255_3
       replace hv255_3 := Option.some.inj (hv255_3.symm.trans hx255_3)
       injection hv255_3 with hva_ hvn_ hvc_
       rw [hva_] at ge255_3
       rw [hvc_] at ul255_3
       have HL255_3 := am (show Kd.V (Kd.int .i64) 3 _ w.heap.size _ _ ((rd_T44 l0 x5_1).f3) from Kd.V_mk ul255_3 ge255_3)
       clear hva_ hvn_ hvc_ ge255_3 ul255_3
       have hv255_4 := hcc255 4 _ rfl
       rw [add_field _ _ 4 (by omega)] at hv255_4
       replace hv255_4 := Option.some.inj (hv255_4.symm.trans hx255_4)
       injection hv255_4 with hva_ hvn_ hvc_
       rw [hva_] at ge255_4
       rw [hvc_] at ul255_4
       have HL255_4 := am (show Kd.V (Kd.int .i64) 3 _ w.heap.size _ _ ((rd_T44 l0 x5_1).f4) from Kd.V_mk ul255_4 ge255_4)
       clear hva_ hvn_ hvc_ ge255_4 ul255_4
       clear hcc255 hce255
       have HR255_0 := am hi255_0
       have HC255_0 := am hl255_0
       clear hi255_0 hl255_0
       have HR255_2 := am hi255_2
       have HC255_2 := am hl255_2
       clear hi255_2 hl255_2
       have HR255_3 := am hi255_3
       have HC255_3 := am hl255_3
       clear hi255_3 hl255_3
       have HR255_4 := am hi255_4
       have HC255_4 := am hl255_4
       clear hi255_4 hl255_4
       replace p255 := eq_true p255
       replace q255 := eq_true q255
       refine start_ (n := 15) (S := fun w' => w'.cell? ⟨gb254, 0, none⟩ = some (.slice A1_0 l1_0.length c1_0) ∧ w'.cell? ⟨gb254, 1, none⟩ = some (.int .i64 a1_1) ∧ w'.cell? ⟨gb254, 2, none⟩ = some (.slice A1_2 l1_2.length c1_2) ∧ w'.cell? ⟨gb254, 3, none⟩ = some (.slice A1_3 l1_3.length c1_3) ∧ w'.cell? ⟨gb254, 4, none⟩ = some (.slice A1_4 l1_4.length c1_4) ∧ w'.cell? (ad255.add ((x5_1).toNat * 5)) = some (.slice A255_0 ((rd_T44 l0 x5_1).f0).length c255_0) ∧ w'.cell? ⟨(ad255.add ((x5_1).toNat * 5)).block, (ad255.add ((x5_1).toNat * 5)).off + 1, none⟩ = some (.int .i64 ((rd_T44 l0 x5_1).f1)) ∧ w'.cell? ⟨(ad255.add ((x5_1).toNat * 5)).block, (ad255.add ((x5_1).toNat * 5)).off + 2, none⟩ = some (.slice A255_2 ((rd_T44 l0 x5_1).f2).length c255_2) ∧ w'.cell? ⟨(ad255.add ((x5_1).toNat * 5)).block, (ad255.add ((x5_1).toNat * 5)).off + 3, none⟩ = some (.slice A255_3 ((rd_T44 l0 x5_1).f3).length c255_3) ∧ w'.cell? ⟨(ad255.add ((x5_1).toNat * 5)).block, (ad255.add ((x5_1).toNat * 5)).off + 4, none⟩ = some (.slice A255_4 ((rd_T44 l0 x5_1).f4).length c255_4)) (ds := []) (bb 15 0) (by kernel_rfl) rfl rfl ⟨bc BK254 0, bc BK254 1, bc BK254 2, bc BK254 3, bc BK254 4, hx255_0, hx255_1, hx255_2, hx255_3, hx255_4⟩ (fun hHeld => ?_); refine with_tabW hypercuberef2_Put.tab2 hypercuberef2_Put.bits2 (fun HT_ HW_ => ?_)
       generalize wr.drew = w9 at HO_0 BK254 HB HL255_0 HL255_2 HL255_3 HL255_4 HR255_0 HR255_2 HR255_3 HR255_4 hx255_0 hx255_1 hx255_2 hx255_3 hx255_4 hHeld ⊢
       refine pu (i := 0) (N := some 7) (bb 15 1) HT_ ?_
       refine pu (i := 1) (N := some 8) (bb 15 3) HT_ ?_
       refine pu (i := 2) (N := some 9) (bb 15 7) HT_ ?_
       refine pu (i := 3) (N := some 10) (bb 15 15) HT_ ?_
       refine pu (i := 4) (N := some 11) (bb 15 31) HT_ ?_
       refine pu (i := 5) (N := some 12) (bb 15 63) HT_ ?_
       refine pu (i := 6) (N := some 13) (bb 15 127) HT_ ?_
       refine pu (i := 7) (N := some 14) (bb 15 255) HT_ ?_
       refine pu (i := 8) (N := some 15) (bb 15 511) HT_ ?_
       refine pu (i := 10) (N := some 17) (bb 15 1535) HT_ ?_
       refine tk (i := 9) (N := some 16) (bb 15 2047) HT_ HW_ hHeld ?_
       refine tk (i := 11) (N := some 18) (bb 15 4095) HT_ HW_ hHeld ?_
       refine one_ (i := 12) (N := some 19) (bb 15 8191) rfl rfl (one_of HT_.out (by kernel_rfl)) (by decide) (fun K hK => ?_)
       refine goes_ Try.func41 (by kernel_rfl) rfl #[.slice A255_0 ((rd_T44 l0 x5_1).f0).length c255_0, .slice A1_0 l1_0.length c1_0] (by rfl) rfl rfl (by (try simp only [List.map_toArray, List.map_cons, List.map_nil]); first | done | rfl | (simp only [List.length_drop, List.length_take]; rfl)) ?_
       with_reducible refine (hypercuberef2_Less.calls k1 _ _ ((rd_T44 l0 x5_1).f0) _ _ l1_0 t256 _ ?side1 ?side2 ?side3 ?side4 A7.out).mono ?_
       (case side1 => repeat (first | exact (by repeat (first | (with_reducible exact HR255_0.out) | (with_reducible refine Kd.C_alloc ?_ _) | (with_reducible refine Kd.C_drewN ?_ _) | (with_reducible refine Kd.C_drew ?_) | exact HR255_0.out)) | (with_reducible refine Kd.C_alloc ?_ _) | (with_reducible refine Kd.C_drewN ?_ _) | (with_reducible refine Kd.C_drew ?_)))
       (case side2 => exact HC255_0.out)
       (case side3 => exact Kd.Cw HR1_0.out HB.out)
       (case side4 => exact HC1_0.out)
       rintro e w' ⟨rfl, ⟨nd, rfl⟩⟩
       refine ⟨_, rfl, ?_⟩
       refine hK.out _ _ ⟨bc BK254 0, bc BK254 1, bc BK254 2, bc BK254 3, bc BK254 4, hHeld.2.2.2.2.2.1, hHeld.2.2.2.2.2.2.1, hHeld.2.2.2.2.2.2.2.1, hHeld.2.2.2.2.2.2.2.2.1, hHeld.2.2.2.2.2.2.2.2.2⟩ (fun hHeld => ?_)
       clear hK K
       refine nm ?_
       refine pu (i := 13) (N := some 20) (bb 15 16383) HT_ ?_
       refine pu (i := 14) (N := some 21) (bb 15 32767) HT_ ?_
       refine done_ (done_of HT_.out (by kernel_rfl)) ?_
       try go_wp2
       go_roundg k1
       case measure => have := HK1.out; omega
       case rel => exact ⟨(wrap64 (x5_1 + 1)), (by first | rfl | (simp; done) | (simp [*]; done)), H', ⟨by have := HK1.out; omega⟩, ⟨by (with_reducible repeat (first | apply Kd.V_alloc | apply Kd.V_drewN | apply Kd.V_drew)); exact HO_0.out⟩, ⟨by (with_reducible repeat (first | refine blk_drewN ?_ _ | refine blk_drew ?_ | refine blk_alloc ?_ _)); exact BK254.out⟩, ⟨by repeat (first | (with_reducible first | exact HB.out | apply below_alloc | apply pw_below_drewN | apply below_drew1 | refine below_set ?_ GE254.out) | exact HB.out)⟩⟩
      ·rw [if_neg c8] at H
       have c8b0 : decide (t256 < 0) = false := decide_eq_false c8
       clear c8
       have H' := am H
       clear H
       try go_wp2
       have n0_ := am (Kd.V_drew HO_0.out)
       have n1_ := am (blk_drew BK254.out)
       have n2_ := am (below_drew1 HB.out)
       clear HO_0 BK254 HB
       revert n0_ n1_ n2_
       intro HO_0 BK254 HB
       have p255 : 0 ≤ (x5_1 : Int) := of_decide_eq_true (by first | (with_reducible assumption) | assumption)
       have q255 : x5_1 < (l0.length : Int) := of_decide_eq_true (by first | (with_reducible assumption) | assumption)
       obtain ⟨ad255, A255_0, c255_0, A255_2, c255_2, A255_3, c255_3, A255_4, c255_4, e255, hx255_0, hx255_1, hx255_2, hx255_3, hx255_4, hl255_0, hi255_0, hl255_2, hi255_2, hl255_3, hi255_3, hl255_4, hi255_4⟩ := at_T44 (Kd.V_reads' HO_0.out).2.2 x5_1 p255 q255
       cases e255
       obtain ⟨ce255, hce255, hMe255, hcc255⟩ := Kd.V_get HO_0.out z44 x5_1 p255 (by first | exact q255 | exact of_decide_eq_true (by first | (with_reducible assumption) | assumption) | (have e_ := (Kd.V_reads' HO_0.out).1; omega))
       obtain ⟨ua255_0, uc255_0, ua255_2, uc255_2, ua255_3, uc255_3, ua255_4, uc255_4, rfl, ul255_0, ge255_0, ul255_2, ge255_2, ul255_3, ge255_3, ul255_4, ge255_4⟩ := k44_openF hMe255
       have hv255_0 := hcc255 0 _ rfl
       rw [Nat.add_zero] at hv255_0
       replace hv255_0 := Option.some.inj (hv255_0.symm.trans hx255_0)
       injection hv255_0 with hva_ hvn_ hvc_
       rw [hva_] at ge255_0
       rw [hvc_] at ul255_0
       have HL255_0 := am (show Kd.V (Kd.int .i64) 3 _ w.heap.size _ _ ((rd_T44 l0 x5_1).f0) from Kd.V_mk ul255_0 ge255_0)
       clear hva_ hvn_ hvc_ ge255_0 ul255_0
       have hv255_2 := hcc255 2 _ rfl
       rw [add_field _ _ 2 (by omega)] at hv255_2
       replace hv255_2 := Option.some.inj (hv255_2.symm.trans hx255_2)
       injection hv255_2 with hva_ hvn_ hvc_
       rw [hva_] at ge255_2
       rw [hvc_] at ul255_2
       have HL255_2 := am (show Kd.V (Kd.int .i64) 3 _ w.heap.size _ _ ((rd_T44 l0 x5_1).f2) from Kd.V_mk ul255_2 ge255_2)
       clear hva_ hvn_ hvc_ ge255_2 ul255_2
       have hv255_3 := hcc255 3 _ rfl
       rw [add_field _ _ 3 (by omega)] at hv255_3
       replace hv255_3 := Option.some.inj (hv255_3.symm.trans hx255_3)
       injection hv255_3 with hva_ hvn_ hvc_
       rw [hva_] at ge255_3
       rw [hvc_] at ul255_3
       have HL255_3 := am (show Kd.V (Kd.int .i64) 3 _ w.heap.size _ _ ((rd_T44 l0 x5_1).f3) from Kd.V_mk ul255_3 ge255_3)
       clear hva_ hvn_ hvc_ ge255_3 ul255_3
       have hv255_4 := hcc255 4 _ rfl
       rw [add_field _ _ 4 (by omega)] at hv255_4
       replace hv255_4 := Option.some.inj (hv255_4.symm.trans hx255_4)
       injection hv255_4 with hva_ hvn_ hvc_
       rw [hva_] at ge255_4
       rw [hvc_] at ul255_4
       have HL255_4 := am (show Kd.V (Kd.int .i64) 3 _ w.heap.size _ _ ((rd_T44 l0 x5_1).f4) from Kd.V_mk ul255_4 ge255_4)
       clear hva_ hvn_ hvc_ ge255_4 ul255_4
       clear hcc255 hce255
       have HR255_0 := am hi255_0
       have HC255_0 := am hl255_0
       clear hi255_0 hl255_0
       have HR255_2 := am hi255_2
       have HC255_2 := am hl255_2
       clear hi255_2 hl255_2
       have HR255_3 := am hi255_3
       have HC255_3 := am hl255_3
       clear hi255_3 hl255_3
       have HR255_4 := am hi255_4
       have HC255_4 := am hl255_4
       clear hi255_4 hl255_4
       replace p255 := eq_true p255
       replace q255 := eq_true q255
       refine start_ (n := 15) (S := fun w' => w'.cell? ⟨gb254, 0, none⟩ = some (.slice A1_0 l1_0.length c1_0) ∧ w'.cell? ⟨gb254, 1, none⟩ = some (.int .i64 a1_1) ∧ w'.cell? ⟨gb254, 2, none⟩ = some (.slice A1_2 l1_2.length c1_2) ∧ w'.cell? ⟨gb254, 3, none⟩ = some (.slice A1_3 l1_3.length c1_3) ∧ w'.cell? ⟨gb254, 4, none⟩ = some (.slice A1_4 l1_4.length c1_4) ∧ w'.cell? (ad255.add ((x5_1).toNat * 5)) = some (.slice A255_0 ((rd_T44 l0 x5_1).f0).length c255_0) ∧ w'.cell? ⟨(ad255.add ((x5_1).toNat * 5)).block, (ad255.add ((x5_1).toNat * 5)).off + 1, none⟩ = some (.int .i64 ((rd_T44 l0 x5_1).f1)) ∧ w'.cell? ⟨(ad255.add ((x5_1).toNat * 5)).block, (ad255.add ((x5_1).toNat * 5)).off + 2, none⟩ = some (.slice A255_2 ((rd_T44 l0 x5_1).f2).length c255_2) ∧ w'.cell? ⟨(ad255.add ((x5_1).toNat * 5)).block, (ad255.add ((x5_1).toNat * 5)).off + 3, none⟩ = some (.slice A255_3 ((rd_T44 l0 x5_1).f3).length c255_3) ∧ w'.cell? ⟨(ad255.add ((x5_1).toNat * 5)).block, (ad255.add ((x5_1).toNat * 5)).off + 4, none⟩ = some (.slice A255_4 ((rd_T44 l0 x5_1).f4).length c255_4)) (ds := []) (bb 15 0) (by kernel_rfl) rfl rfl ⟨bc BK254 0, bc BK254 1, bc BK254 2, bc BK254 3, bc BK254 4, hx255_0, hx255_1, hx255_2, hx255_3, hx255_4⟩ (fun hHeld => ?_); refine with_tabW hypercuberef2_Put.tab2 hypercuberef2_Put.bits2 (fun HT_ HW_ => ?_)
       generalize wr.drew = w10 at HO_0 BK254 HB HL255_0 HL255_2 HL255_3 HL255_4 HR255_0 HR255_2 HR255_3 HR255_4 hx255_0 hx255_1 hx255_2 hx255_3 hx255_4 hHeld ⊢
       refine pu (i := 0) (N := some 7) (bb 15 1) HT_ ?_
       refine pu (i := 1) (N := some 8) (bb 15 3) HT_ ?_
       refine pu (i := 2) (N := some 9) (bb 15 7) HT_ ?_
       refine pu (i := 3) (N := some 10) (bb 15 15) HT_ ?_
       refine pu (i := 4) (N := some 11) (bb 15 31) HT_ ?_
       refine pu (i := 5) (N := some 12) (bb 15 63) HT_ ?_
       refine pu (i := 6) (N := some 13) (bb 15 127) HT_ ?_
       refine pu (i := 7) (N := some 14) (bb 15 255) HT_ ?_
       refine pu (i := 8) (N := some 15) (bb 15 511) HT_ ?_
       refine pu (i := 10) (N := some 17) (bb 15 1535) HT_ ?_
       refine tk (i := 9) (N := some 16) (bb 15 2047) HT_ HW_ hHeld ?_
       refine tk (i := 11) (N := some 18) (bb 15 4095) HT_ HW_ hHeld ?_
       refine one_ (i := 12) (N := some 19) (bb 15 8191) rfl rfl (one_of HT_.out (by kernel_rfl)) (by decide) (fun K hK => ?_)
       refine goes_ Try.func41 (by kernel_rfl) rfl #[.slice A255_0 ((rd_T44 l0 x5_1).f0).length c255_0, .slice A1_0 l1_0.length c1_0] (by rfl) rfl rfl (by (try simp only [List.map_toArray, List.map_cons, List.map_nil]); first | done | rfl | (simp only [List.length_drop, List.length_take]; rfl)) ?_
       with_reducible refine (hypercuberef2_Less.calls k1 _ _ ((rd_T44 l0 x5_1).f0) _ _ l1_0 t256 _ ?side1 ?side2 ?side3 ?side4 A7.out).mono ?_
       (case side1 => repeat (first | exact (by repeat (first | (with_reducible exact HR255_0.out) | (with_reducible refine Kd.C_alloc ?_ _) | (with_reducible refine Kd.C_drewN ?_ _) | (with_reducible refine Kd.C_drew ?_) | exact HR255_0.out)) | (with_reducible refine Kd.C_alloc ?_ _) | (with_reducible refine Kd.C_drewN ?_ _) | (with_reducible refine Kd.C_drew ?_)))
       (case side2 => exact HC255_0.out)
       (case side3 => exact Kd.Cw HR1_0.out HB.out)
       (case side4 => exact HC1_0.out)
       rintro e w' ⟨rfl, ⟨nd, rfl⟩⟩
       refine ⟨_, rfl, ?_⟩
       refine hK.out _ _ ⟨bc BK254 0, bc BK254 1, bc BK254 2, bc BK254 3, bc BK254 4, hHeld.2.2.2.2.2.1, hHeld.2.2.2.2.2.2.1, hHeld.2.2.2.2.2.2.2.1, hHeld.2.2.2.2.2.2.2.2.1, hHeld.2.2.2.2.2.2.2.2.2⟩ (fun hHeld => ?_)
       clear hK K
       refine nm ?_
       refine pu (i := 13) (N := some 20) (bb 15 16383) HT_ ?_
       refine pu (i := 14) (N := some 21) (bb 15 32767) HT_ ?_
       refine done_ (done_of HT_.out (by kernel_rfl)) ?_
       try go_wp2
       go_meet
       case rel => exact ⟨_, (x5_1), (by first | rfl | (simp; done) | (simp [*]; done)), H', ⟨by have := HK1.out; first | omega | exact Nat.le_refl _⟩, ⟨by (with_reducible repeat (first | apply Kd.V_alloc | apply Kd.V_drewN | apply Kd.V_drew)); exact HO_0.out⟩, ⟨by (with_reducible repeat (first | refine blk_drewN ?_ _ | refine blk_drew ?_ | refine blk_alloc ?_ _)); exact BK254.out⟩, ⟨by repeat (first | (with_reducible first | exact HB.out | apply below_alloc | apply pw_below_drewN | apply below_drew1 | refine below_set ?_ GE254.out) | exact HB.out)⟩⟩
     ·rw [if_neg c6] at H
      exact absurd H (by simp)
    ·rw [if_neg c5] at H
     have c5b0 : decide (x5_1 < (l0.length : Int)) = false := decide_eq_false c5
     clear c5
     (first | rw [c5b0] | (simp only [i64_w, i32_w]; rw [c5b0]) | skip)
     have H' := am H
     clear H
     try go_wp2
     have n0_ := am (Kd.V_drew HO_0.out)
     have n1_ := am (blk_drew BK254.out)
     have n2_ := am (below_drew1 HB.out)
     clear HO_0 BK254 HB
     revert n0_ n1_ n2_
     intro HO_0 BK254 HB
     refine start_ (n := 15) (S := fun w' => True) (ds := []) (bb 15 0) (by kernel_rfl) rfl rfl trivial (fun hHeld => ?_); refine with_tabW hypercuberef2_Put.tab2 hypercuberef2_Put.bits2 (fun HT_ HW_ => ?_)
     generalize wr.drew = w11 at HO_0 BK254 HB hHeld ⊢
     refine pu (i := 0) (N := some 7) (bb 15 1) HT_ ?_
     refine pu (i := 1) (N := some 8) (bb 15 3) HT_ ?_
     refine pu (i := 2) (N := some 9) (bb 15 7) HT_ ?_
     refine pu (i := 3) (N := some 10) (bb 15 15) HT_ ?_
     refine pu (i := 4) (N := some 11) (bb 15 31) HT_ ?_
     refine pn (i := 5) (N := some 12) (bb 15 63) HT_ ?_
     refine pn (i := 6) (N := some 13) (bb 15 127) HT_ ?_
     refine pn (i := 7) (N := some 14) (bb 15 255) HT_ ?_
     refine pn (i := 8) (N := some 15) (bb 15 511) HT_ ?_
     refine pn (i := 9) (N := some 16) (bb 15 1023) HT_ ?_
     refine pn (i := 10) (N := some 17) (bb 15 2047) HT_ ?_
     refine pn (i := 11) (N := some 18) (bb 15 4095) HT_ ?_
     refine pn (i := 12) (N := some 19) (bb 15 8191) HT_ ?_
     refine pn (i := 13) (N := some 20) (bb 15 16383) HT_ ?_
     refine pu (i := 14) (N := some 21) (bb 15 32767) HT_ ?_
     refine done_ (done_of HT_.out (by kernel_rfl)) ?_
     try go_wp2
     go_meet
     case rel => exact ⟨_, (x5_1), (by first | rfl | (simp; done) | (simp [*]; done)), H', ⟨by have := HK1.out; first | omega | exact Nat.le_refl _⟩, ⟨by (with_reducible repeat (first | apply Kd.V_alloc | apply Kd.V_drewN | apply Kd.V_drew)); exact HO_0.out⟩, ⟨by (with_reducible repeat (first | refine blk_drewN ?_ _ | refine blk_drew ?_ | refine blk_alloc ?_ _)); exact BK254.out⟩, ⟨by repeat (first | (with_reducible first | exact HB.out | apply below_alloc | apply pw_below_drewN | apply below_drew1 | refine below_set ?_ GE254.out) | exact HB.out)⟩⟩
 case rest =>
  clear HC3
  try clear c1
  try clear c2
  try clear p2
  try clear q2
  try clear hx2
  try clear c3
  try clear c4
  try clear c5
  try clear c5b0
  try clear c6
  try clear c6b0
  try clear p6
  try clear c8
  try clear c8b0
  try clear hx255_0
  try clear hx255_1
  try clear hx255_2
  try clear hx255_3
  try clear hx255_4
  try clear p2
  try clear p255
  try clear q255
  obtain ⟨kq, x5_2, rfl, HA, HJ2, HO_0, BK254, HB⟩ := hcut
  cases kq with
  | zero => exact absurd HA.out (by simp [hypercuberef2_Put.j1])
  | succ kj2 =>
   have H := HA.out
   clear HA
   simp only [hypercuberef2_Put.j1] at H
   have HC12 := am H
   clear H
   go_upto_region 4 with (fail)
   go_cut [38] (fun v38 wc => ∃ (kq : Nat) (x38_11 : Bool), v38 = .bool x38_11 ∧ Aside0 (hypercuberef2_Put.j2 kq l0 x5_2 x38_11 l1_0 a1_1 l1_2 l1_3 l1_4 = some r) ∧ Aside0 (kq ≤ kj2) ∧ Aside0 (Kd.V k44 44 wc w.heap.size (fun k_ => (P0_ k_ ∨ w.heap.size ≤ k_) ∧ k_ ≠ gb254) (.slice A0 l0.length c0) l0) ∧ Aside0 (wc.heap[gb254]? = some (.cells #[(.slice A1_0 l1_0.length c1_0), .int .i64 a1_1, (.slice A1_2 l1_2.length c1_2), (.slice A1_3 l1_3.length c1_3), (.slice A1_4 l1_4.length c1_4)] 44 (0, 0))) ∧ Aside0 (Below w.heap.size w wc))
   case first =>
    have H := HC12.out
    clear HC12
    by_cases c13 : x5_2 < (l0.length : Int)
    ·rw [if_pos c13] at H
     have c13b0 : decide (x5_2 < (l0.length : Int)) = true := decide_eq_true c13
     clear c13
     (first | rw [c13b0] | (simp only [i64_w, i32_w]; rw [c13b0]) | skip)
     by_cases c14 : 0 ≤ x5_2
     ·rw [if_pos c14] at H
      have c14b0 : decide (0 ≤ x5_2) = true := decide_eq_true c14
      clear c14
      replace H := Option.bind_eq_some_iff.mp H
      obtain ⟨t258, A150, H⟩ := H
      replace H : (hypercuberef2_Put.j2 kj2 l0 x5_2 (t258 == 0) l1_0 a1_1 l1_2 l1_3 l1_4) = some r := H
      have A15 := am A150
      clear A150
      have H' := am H
      clear H
      try go_wp2
      have n0_ := am (Kd.V_drew HO_0.out)
      have n1_ := am (blk_drew BK254.out)
      have n2_ := am (below_drew1 HB.out)
      clear HO_0 BK254 HB
      revert n0_ n1_ n2_
      intro HO_0 BK254 HB
      have p257 : 0 ≤ (x5_2 : Int) := of_decide_eq_true (by first | (with_reducible assumption) | assumption)
      have q257 : x5_2 < (l0.length : Int) := of_decide_eq_true (by first | (with_reducible assumption) | assumption)
      obtain ⟨ad257, A257_0, c257_0, A257_2, c257_2, A257_3, c257_3, A257_4, c257_4, e257, hx257_0, hx257_1, hx257_2, hx257_3, hx257_4, hl257_0, hi257_0, hl257_2, hi257_2, hl257_3, hi257_3, hl257_4, hi257_4⟩ := at_T44 (Kd.V_reads' HO_0.out).2.2 x5_2 p257 q257
      cases e257
      obtain ⟨ce257, hce257, hMe257, hcc257⟩ := Kd.V_get HO_0.out z44 x5_2 p257 (by first | exact q257 | exact of_decide_eq_true (by first | (with_reducible assumption) | assumption) | (have e_ := (Kd.V_reads' HO_0.out).1; omega))
      obtain ⟨ua257_0, uc257_0, ua257_2, uc257_2, ua257_3, uc257_3, ua257_4, uc257_4, rfl, ul257_0, ge257_0, ul257_2, ge257_2, ul257_3, ge257_3, ul257_4, ge257_4⟩ := k44_openF hMe257
      have hv257_0 := hcc257 0 _ rfl
      rw [Nat.add_zero] at hv257_0
      replace hv257_0 := Option.some.inj (hv257_0.symm.trans hx257_0)
      injection hv257_0 with hva_ hvn_ hvc_
      rw [hva_] at ge257_0
      rw [hvc_] at ul257_0
      have HL257_0 := am (show Kd.V (Kd.int .i64) 3 _ w.heap.size _ _ ((rd_T44 l0 x5_2).f0) from Kd.V_mk ul257_0 ge257_0)
      clear hva_ hvn_ hvc_ ge257_0 ul257_0
      have hv257_2 := hcc257 2 _ rfl
      rw [add_field _ _ 2 (by omega)] at hv257_2
      replace hv257_2 := Option.some.inj (hv257_2.symm.trans hx257_2)
      injection hv257_2 with hva_ hvn_ hvc_
      rw [hva_] at ge257_2
      rw [hvc_] at ul257_2
      have HL257_2 := am (show Kd.V (Kd.int .i64) 3 _ w.heap.size _ _ ((rd_T44 l0 x5_2).f2) from Kd.V_mk ul257_2 ge257_2)
      clear hva_ hvn_ hvc_ ge257_2 ul257_2
      have hv257_3 := hcc257 3 _ rfl
      rw [add_field _ _ 3 (by omega)] at hv257_3
      replace hv257_3 := Option.some.inj (hv257_3.symm.trans hx257_3)
      injection hv257_3 with hva_ hvn_ hvc_
      rw [hva_] at ge257_3
      rw [hvc_] at ul257_3
      have HL257_3 := am (show Kd.V (Kd.int .i64) 3 _ w.heap.size _ _ ((rd_T44 l0 x5_2).f3) from Kd.V_mk ul257_3 ge257_3)
      clear hva_ hvn_ hvc_ ge257_3 ul257_3
      have hv257_4 := hcc257 4 _ rfl
      rw [add_field _ _ 4 (by omega)] at hv257_4
      replace hv257_4 := Option.some.inj (hv257_4.symm.trans hx257_4)
      injection hv257_4 with hva_ hvn_ hvc_
      rw [hva_] at ge257_4
      rw [hvc_] at ul257_4
      have HL257_4 := am (show Kd.V (Kd.int .i64) 3 _ w.heap.size _ _ ((rd_T44 l0 x5_2).f4) from Kd.V_mk ul257_4 ge257_4)
      clear hva_ hvn_ hvc_ ge257_4 ul257_4
      clear hcc257 hce257
      have HR257_0 := am hi257_0
      have HC257_0 := am hl257_0
      clear hi257_0 hl257_0
      have HR257_2 := am hi257_2
      have HC257_2 := am hl257_2
      clear hi257_2 hl257_2
      have HR257_3 := am hi257_3
      have HC257_3 := am hl257_3
      clear hi257_3 hl257_3
      have HR257_4 := am hi257_4
      have HC257_4 := am hl257_4
      clear hi257_4 hl257_4
      replace p257 := eq_true p257
      replace q257 := eq_true q257
      refine start_ (n := 15) (S := fun w' => w'.cell? ⟨gb254, 0, none⟩ = some (.slice A1_0 l1_0.length c1_0) ∧ w'.cell? ⟨gb254, 1, none⟩ = some (.int .i64 a1_1) ∧ w'.cell? ⟨gb254, 2, none⟩ = some (.slice A1_2 l1_2.length c1_2) ∧ w'.cell? ⟨gb254, 3, none⟩ = some (.slice A1_3 l1_3.length c1_3) ∧ w'.cell? ⟨gb254, 4, none⟩ = some (.slice A1_4 l1_4.length c1_4) ∧ w'.cell? (ad257.add ((x5_2).toNat * 5)) = some (.slice A257_0 ((rd_T44 l0 x5_2).f0).length c257_0) ∧ w'.cell? ⟨(ad257.add ((x5_2).toNat * 5)).block, (ad257.add ((x5_2).toNat * 5)).off + 1, none⟩ = some (.int .i64 ((rd_T44 l0 x5_2).f1)) ∧ w'.cell? ⟨(ad257.add ((x5_2).toNat * 5)).block, (ad257.add ((x5_2).toNat * 5)).off + 2, none⟩ = some (.slice A257_2 ((rd_T44 l0 x5_2).f2).length c257_2) ∧ w'.cell? ⟨(ad257.add ((x5_2).toNat * 5)).block, (ad257.add ((x5_2).toNat * 5)).off + 3, none⟩ = some (.slice A257_3 ((rd_T44 l0 x5_2).f3).length c257_3) ∧ w'.cell? ⟨(ad257.add ((x5_2).toNat * 5)).block, (ad257.add ((x5_2).toNat * 5)).off + 4, none⟩ = some (.slice A257_4 ((rd_T44 l0 x5_2).f4).length c257_4)) (ds := []) (bb 15 0) (by kernel_rfl) rfl rfl ⟨bc BK254 0, bc BK254 1, bc BK254 2, bc BK254 3, bc BK254 4, hx257_0, hx257_1, hx257_2, hx257_3, hx257_4⟩ (fun hHeld => ?_); refine with_tabW hypercuberef2_Put.tab4 hypercuberef2_Put.bits4 (fun HT_ HW_ => ?_)
      generalize wc.drew = w16 at HO_0 BK254 HB HL257_0 HL257_2 HL257_3 HL257_4 HR257_0 HR257_2 HR257_3 HR257_4 hx257_0 hx257_1 hx257_2 hx257_3 hx257_4 hHeld ⊢
      refine pu (i := 0) (N := some 24) (bb 15 1) HT_ ?_
      refine pu (i := 1) (N := some 25) (bb 15 3) HT_ ?_
      refine pu (i := 2) (N := some 26) (bb 15 7) HT_ ?_
      refine pu (i := 3) (N := some 27) (bb 15 15) HT_ ?_
      refine pu (i := 4) (N := some 28) (bb 15 31) HT_ ?_
      refine pu (i := 5) (N := some 29) (bb 15 63) HT_ ?_
      refine pu (i := 6) (N := some 30) (bb 15 127) HT_ ?_
      refine pu (i := 7) (N := some 31) (bb 15 255) HT_ ?_
      refine pu (i := 8) (N := some 32) (bb 15 511) HT_ ?_
      refine pu (i := 10) (N := some 34) (bb 15 1535) HT_ ?_
      refine tk (i := 9) (N := some 33) (bb 15 2047) HT_ HW_ hHeld ?_
      refine tk (i := 11) (N := some 35) (bb 15 4095) HT_ HW_ hHeld ?_
      refine one_ (i := 12) (N := some 36) (bb 15 8191) rfl rfl (one_of HT_.out (by kernel_rfl)) (by decide) (fun K hK => ?_)
      refine goes_ Try.func41 (by kernel_rfl) rfl #[.slice A257_0 ((rd_T44 l0 x5_2).f0).length c257_0, .slice A1_0 l1_0.length c1_0] (by rfl) rfl rfl (by (try simp only [List.map_toArray, List.map_cons, List.map_nil]); first | done | rfl | (simp only [List.length_drop, List.length_take]; rfl)) ?_
      with_reducible refine (hypercuberef2_Less.calls kj2 _ _ ((rd_T44 l0 x5_2).f0) _ _ l1_0 t258 _ ?side1 ?side2 ?side3 ?side4 A15.out).mono ?_
      (case side1 => repeat (first | exact (by repeat (first | (with_reducible exact HR257_0.out) | (with_reducible refine Kd.C_alloc ?_ _) | (with_reducible refine Kd.C_drewN ?_ _) | (with_reducible refine Kd.C_drew ?_) | exact HR257_0.out)) | (with_reducible refine Kd.C_alloc ?_ _) | (with_reducible refine Kd.C_drewN ?_ _) | (with_reducible refine Kd.C_drew ?_)))
      (case side2 => exact HC257_0.out)
      (case side3 => exact Kd.Cw HR1_0.out HB.out)
      (case side4 => exact HC1_0.out)
      rintro e w' ⟨rfl, ⟨nd, rfl⟩⟩
      refine ⟨_, rfl, ?_⟩
      refine hK.out _ _ ⟨bc BK254 0, bc BK254 1, bc BK254 2, bc BK254 3, bc BK254 4, hHeld.2.2.2.2.2.1, hHeld.2.2.2.2.2.2.1, hHeld.2.2.2.2.2.2.2.1, hHeld.2.2.2.2.2.2.2.2.1, hHeld.2.2.2.2.2.2.2.2.2⟩ (fun hHeld => ?_)
      clear hK K
      refine nm ?_
      refine pu (i := 13) (N := some 37) (bb 15 16383) HT_ ?_
      refine pu (i := 14) (N := some 38) (bb 15 32767) HT_ ?_
      refine done_ (done_of HT_.out (by kernel_rfl)) ?_
      try go_wp2
      go_meet
      case rel => exact ⟨_, ((t258 == 0)), (by first | rfl | (simp; done) | (simp [*]; done)), H', ⟨by have := HJ2.out; first | omega | exact Nat.le_refl _⟩, ⟨by (with_reducible repeat (first | apply Kd.V_alloc | apply Kd.V_drewN | apply Kd.V_drew)); exact HO_0.out⟩, ⟨by (with_reducible repeat (first | refine blk_drewN ?_ _ | refine blk_drew ?_ | refine blk_alloc ?_ _)); exact BK254.out⟩, ⟨by repeat (first | (with_reducible first | exact HB.out | apply below_alloc | apply pw_below_drewN | apply below_drew1 | refine below_set ?_ GE254.out) | exact HB.out)⟩⟩
     ·rw [if_neg c14] at H
      exact absurd H (by simp)
    ·rw [if_neg c13] at H
     have c13b0 : decide (x5_2 < (l0.length : Int)) = false := decide_eq_false c13
     clear c13
     (first | rw [c13b0] | (simp only [i64_w, i32_w]; rw [c13b0]) | skip)
     have H' := am H
     clear H
     try go_wp2
     have n0_ := am (Kd.V_drew HO_0.out)
     have n1_ := am (blk_drew BK254.out)
     have n2_ := am (below_drew1 HB.out)
     clear HO_0 BK254 HB
     revert n0_ n1_ n2_
     intro HO_0 BK254 HB
     refine start_ (n := 15) (S := fun w' => True) (ds := []) (bb 15 0) (by kernel_rfl) rfl rfl trivial (fun hHeld => ?_); refine with_tabW hypercuberef2_Put.tab4 hypercuberef2_Put.bits4 (fun HT_ HW_ => ?_)
     generalize wc.drew = w17 at HO_0 BK254 HB hHeld ⊢
     refine pu (i := 0) (N := some 24) (bb 15 1) HT_ ?_
     refine pu (i := 1) (N := some 25) (bb 15 3) HT_ ?_
     refine pu (i := 2) (N := some 26) (bb 15 7) HT_ ?_
     refine pu (i := 3) (N := some 27) (bb 15 15) HT_ ?_
     refine pu (i := 4) (N := some 28) (bb 15 31) HT_ ?_
     refine pn (i := 5) (N := some 29) (bb 15 63) HT_ ?_
     refine pn (i := 6) (N := some 30) (bb 15 127) HT_ ?_
     refine pn (i := 7) (N := some 31) (bb 15 255) HT_ ?_
     refine pn (i := 8) (N := some 32) (bb 15 511) HT_ ?_
     refine pn (i := 9) (N := some 33) (bb 15 1023) HT_ ?_
     refine pn (i := 10) (N := some 34) (bb 15 2047) HT_ ?_
     refine pn (i := 11) (N := some 35) (bb 15 4095) HT_ ?_
     refine pn (i := 12) (N := some 36) (bb 15 8191) HT_ ?_
     refine pn (i := 13) (N := some 37) (bb 15 16383) HT_ ?_
     refine pu (i := 14) (N := some 38) (bb 15 32767) HT_ ?_
     refine done_ (done_of HT_.out (by kernel_rfl)) ?_
     try go_wp2
     go_meet
     case rel => exact ⟨_, (false), (by first | rfl | (simp; done) | (simp [*]; done)), H', ⟨by have := HJ2.out; first | omega | exact Nat.le_refl _⟩, ⟨by (with_reducible repeat (first | apply Kd.V_alloc | apply Kd.V_drewN | apply Kd.V_drew)); exact HO_0.out⟩, ⟨by (with_reducible repeat (first | refine blk_drewN ?_ _ | refine blk_drew ?_ | refine blk_alloc ?_ _)); exact BK254.out⟩, ⟨by repeat (first | (with_reducible first | exact HB.out | apply below_alloc | apply pw_below_drewN | apply below_drew1 | refine below_set ?_ GE254.out) | exact HB.out)⟩⟩
   case rest =>
    clear HC12
    try clear c1
    try clear c2
    try clear p2
    try clear q2
    try clear hx2
    try clear c3
    try clear c4
    try clear c5
    try clear c5b0
    try clear c6
    try clear c6b0
    try clear p6
    try clear c8
    try clear c8b0
    try clear c13
    try clear c13b0
    try clear c14
    try clear c14b0
    try clear hx255_0
    try clear hx255_1
    try clear hx255_2
    try clear hx255_3
    try clear hx255_4
    try clear hx257_0
    try clear hx257_1
    try clear hx257_2
    try clear hx257_3
    try clear hx257_4
    try clear p2
    try clear p255
    try clear p257
    try clear p6
    try clear q2
    try clear q255
    try clear q257
    obtain ⟨kq, x38_11, rfl, HA, HJ11, HO_0, BK254, HB⟩ := hcut
    cases kq with
    | zero => exact absurd HA.out (by simp [hypercuberef2_Put.j2])
    | succ kj11 =>
     have H := HA.out
     clear HA
     simp only [hypercuberef2_Put.j2] at H
     by_cases c18 : x38_11 = true
     ·subst c18
      have H1 : ((some (([] : List (S44)) : List (S44))).bind fun y259 => (if y259.length + l0.length < 1353245080339 then ((some (y259 ++ l0 : List (S44))).bind fun y262 => (if 0 ≤ x5_2 then (if x5_2 < (l0.length : Int) then ((hypercuberef2_Join.f kj11 ((rd_T44 l0 x5_2).f0) ((rd_T44 l0 x5_2).f1) ((rd_T44 l0 x5_2).f2) ((rd_T44 l0 x5_2).f3) ((rd_T44 l0 x5_2).f4) l1_0 a1_1 l1_2 l1_3 l1_4).bind fun bt266 => (if x5_2 < (y262.length : Int) then (some (y262.set (x5_2 : Int).toNat (⟨bt266.1, bt266.2.1, bt266.2.2.1, bt266.2.2.2.1, bt266.2.2.2.2⟩ : S44))) else (none))) else (none)) else (none))) else (none))) = some r := by rw [if_pos rfl] at H; exact H
      clear H
      have H := H1
      clear H1
      obtain ⟨y259, hy259⟩ : ∃ y_ : List (S44), y_ = (([] : List (S44))) := ⟨_, rfl⟩
      replace H : (if y259.length + l0.length < 1353245080339 then ((some (y259 ++ l0 : List (S44))).bind fun y262 => (if 0 ≤ x5_2 then (if x5_2 < (l0.length : Int) then ((hypercuberef2_Join.f kj11 ((rd_T44 l0 x5_2).f0) ((rd_T44 l0 x5_2).f1) ((rd_T44 l0 x5_2).f2) ((rd_T44 l0 x5_2).f3) ((rd_T44 l0 x5_2).f4) l1_0 a1_1 l1_2 l1_3 l1_4).bind fun bt266 => (if x5_2 < (y262.length : Int) then (some (y262.set (x5_2 : Int).toNat (⟨bt266.1, bt266.2.1, bt266.2.2.1, bt266.2.2.2.1, bt266.2.2.2.2⟩ : S44))) else (none))) else (none)) else (none))) else (none)) = some r := by first | (rw [hy259]; with_reducible exact H) | (have H2_ := (Option.bind_some _ _).symm.trans H; rw [hy259]; with_reducible exact H2_) | (have H2_ := (Option.bind_some _ _).symm.trans H; with_reducible exact H2_) | with_reducible exact H | (rw [hy259]; exact H) | exact H
      have Ny259 := am hy259
      clear hy259
      by_cases c19 : y259.length + l0.length < 1353245080339
      ·rw [if_pos c19] at H
       have LMc19 := am c19
       clear c19
       obtain ⟨y262, hy262⟩ : ∃ y_ : List (S44), y_ = (y259 ++ l0) := ⟨_, rfl⟩
       replace H : (if 0 ≤ x5_2 then (if x5_2 < (l0.length : Int) then ((hypercuberef2_Join.f kj11 ((rd_T44 l0 x5_2).f0) ((rd_T44 l0 x5_2).f1) ((rd_T44 l0 x5_2).f2) ((rd_T44 l0 x5_2).f3) ((rd_T44 l0 x5_2).f4) l1_0 a1_1 l1_2 l1_3 l1_4).bind fun bt266 => (if x5_2 < (y262.length : Int) then (some (y262.set (x5_2 : Int).toNat (⟨bt266.1, bt266.2.1, bt266.2.2.1, bt266.2.2.2.1, bt266.2.2.2.2⟩ : S44))) else (none))) else (none)) else (none)) = some r := by first | (rw [hy262]; with_reducible exact H) | (have H2_ := (Option.bind_some _ _).symm.trans H; rw [hy262]; with_reducible exact H2_) | (have H2_ := (Option.bind_some _ _).symm.trans H; with_reducible exact H2_) | with_reducible exact H | (rw [hy262]; exact H) | exact H
       have Ny262 := am hy262
       clear hy262
       by_cases c20 : 0 ≤ x5_2
       ·rw [if_pos c20] at H
        have c20b0 : decide (0 ≤ x5_2) = true := decide_eq_true c20
        clear c20
        by_cases c21 : x5_2 < (l0.length : Int)
        ·rw [if_pos c21] at H
         have c21b0 : decide (x5_2 < (l0.length : Int)) = true := decide_eq_true c21
         clear c21
         replace H := Option.bind_eq_some_iff.mp H
         obtain ⟨⟨t266, t269, t270, t273, t276⟩, A220, H⟩ := H
         replace H : (if x5_2 < (y262.length : Int) then (some (y262.set (x5_2 : Int).toNat (⟨t266, t269, t270, t273, t276⟩ : S44))) else (none)) = some r := H
         have A22 := am A220
         clear A220
         by_cases c23 : x5_2 < (y262.length : Int)
         ·rw [if_pos c23] at H
          have c23b0 : decide (x5_2 < (y262.length : Int)) = true := decide_eq_true c23
          clear c23
          obtain ⟨y279, hy279⟩ : ∃ y_ : List (S44), y_ = (y262.set (x5_2 : Int).toNat (⟨t266, t269, t270, t273, t276⟩ : S44)) := ⟨_, rfl⟩
          replace H : (some y279) = some r := by rw [hy279]; with_reducible exact H
          have Ny279 := am hy279
          clear hy279
          obtain rfl := Option.some.inj H
          try go_wp2_with (first | ((with_reducible refine gate_dst (N := 39) rfl ?_); refine Kd.N_lit k44 _ 44 ?hg (N' := 39) ?hd (xs := ([] : List (S44))) (inner := []) (ok := (fun k_ => (P0_ k_ ∨ w.heap.size ≤ k_) ∧ k_ ≠ gb254)) (okp := (fun k_ => (P0_ k_ ∨ w.heap.size ≤ k_) ∧ k_ ≠ gb254)) ?hr ?hp (fun _ hk => hk) ((show ∀ k_, wc.heap.size ≤ k_ → (fun k_ => (P0_ k_ ∨ w.heap.size ≤ k_) ∧ k_ ≠ gb254) k_ from fun k_ hk => ⟨(.inr (Nat.le_trans (below_size (wmv HB.out)) hk)), Kd.freshB (bmv BK254.out) k_ hk⟩) _ (Nat.le_refl _)) (Below.refl _ _) (Nat.le_refl _) (by simp) ?_; (case hd => rfl); (case hg => rfl); (case hr => first | (go_simp; done) | (go_simp; rfl)); (case hp => exact (Reps.none _ _)); intro v260 w25 ho26 hb hg_ hnew_; clear hg_ hnew_; (first | rw [← Ny259.out] at ho26 | (simp only [Int.reduceToNat] at ho26; rw [← Ny259.out] at ho26)); have n0_ := am (Kd.V_elder' (Kd.V_mv HO_0.out) (by first | exact Kd.N_base ho26 | exact Kd.S_base ho26 | exact Kd.R_base ho26) hb); have n1_ := am (Kd.N_lower ho26 (below_size (wmv HB.out))); have n2_ := am (blk_below (bmv BK254.out) hb); have n3_ := am (below_step (wmv HB.out) hb); clear HO_0 BK254 HB; revert n0_ n1_ n2_ n3_; intro HO_0 HO261 BK254 HB; clear hb ho26) | ((with_reducible refine gate_builtin (b := .append) (xs := #[.tmp 39, .tmp 40]) rfl ?_); at_builtin; refine Kd.N_append_rows k44 (w0 := w) w.heap.size rfl (.tmp 39) (.tmp 40) 31 44 (.agg #[(.slice none 0 0), (.int .i64 0), (.slice none 0 0), (.slice none 0 0), (.slice none 0 0)]) 104 rfl Try.underlying31 info44 rfl (by decide) (by omega) v260 y259 l0 _ _ _ (fun k_ => (P0_ k_ ∨ w.heap.size ≤ k_) ∧ k_ ≠ gb254) (fun k_ => ((fun k_ => (P0_ k_ ∨ w.heap.size ≤ k_) ∧ k_ ≠ gb254)) k_ ∧ some k_ ≠ (v260 : Value).ownBlock) rfl rfl ?aO ?aR (fun _ hk => hk) ?aF ?aB ?aS ?aL ?_; (case aR => exact (by skip; exact Kd.V_F (Kd.V_mono (ok' := (fun k_ => ((fun k_ => (P0_ k_ ∨ w.heap.size ≤ k_) ∧ k_ ≠ gb254)) k_ ∧ some k_ ≠ (v260 : Value).ownBlock)) (HO_0.out) (fun k_ hk => ⟨⟨hk.1.1, hk.1.2⟩, hk.2⟩)))); (case aB => exact (wmv HB.out)); (case aF => exact (fun k_ hk => ⟨(.inr (Nat.le_trans (below_size (wmv HB.out)) hk)), Kd.freshB (bmv BK254.out) k_ hk⟩)); (case aO => exact (Kd.N_mv HO261.out)); (case aS => exact (below_size (wmv HB.out))); (case aL => have := LMc19.out; omega); intro v263 w27 ho hb hg hat; rw [← Ny262.out] at ho; have n0_ := am (Kd.V_afterv (ok := (fun k_ => (P0_ k_ ∨ w.heap.size ≤ k_) ∧ k_ ≠ gb254)) (Kd.V_mv HO_0.out) hg hat); have n1_ := am (blk_grown (bmv BK254.out) hg (Kd.N_away HO261.out (fun _ hk => hk.2))); have n2_ := am (hb); have n3_ := am (ho); clear HO_0 BK254 HB HO261; revert n0_ n1_ n2_ n3_; intro HO_0 BK254 HB HO264; clear ho hb hg hat))
          have n0_ := am (Kd.V_drew HO_0.out)
          have n1_ := am (Kd.N_drew HO264.out)
          have n2_ := am (blk_drew BK254.out)
          have n3_ := am (below_drew1 HB.out)
          clear HO_0 HO264 BK254 HB
          revert n0_ n1_ n2_ n3_
          intro HO_0 HO264 BK254 HB
          have p265 : 0 ≤ (x5_2 : Int) := of_decide_eq_true (by first | (with_reducible assumption) | assumption)
          have q265 : x5_2 < (l0.length : Int) := of_decide_eq_true (by first | (with_reducible assumption) | assumption)
          obtain ⟨ad265, A265_0, c265_0, A265_2, c265_2, A265_3, c265_3, A265_4, c265_4, e265, hx265_0, hx265_1, hx265_2, hx265_3, hx265_4, hl265_0, hi265_0, hl265_2, hi265_2, hl265_3, hi265_3, hl265_4, hi265_4⟩ := at_T44 (Kd.V_reads' HO_0.out).2.2 x5_2 p265 q265
          cases e265
          obtain ⟨ce265, hce265, hMe265, hcc265⟩ := Kd.V_get HO_0.out z44 x5_2 p265 (by first | exact q265 | exact of_decide_eq_true (by first | (with_reducible assumption) | assumption) | (have e_ := (Kd.V_reads' HO_0.out).1; omega))
          obtain ⟨ua265_0, uc265_0, ua265_2, uc265_2, ua265_3, uc265_3, ua265_4, uc265_4, rfl, ul265_0, ge265_0, ul265_2, ge265_2, ul265_3, ge265_3, ul265_4, ge265_4⟩ := k44_openF hMe265
          have hv265_0 := hcc265 0 _ rfl
          rw [Nat.add_zero] at hv265_0
          replace hv265_0 := Option.some.inj (hv265_0.symm.trans hx265_0)
          injection hv265_0 with hva_ hvn_ hvc_
          rw [hva_] at ge265_0
          rw [hvc_] at ul265_0
          have HL265_0 := am (show Kd.V (Kd.int .i64) 3 _ w.heap.size _ _ ((rd_T44 l0 x5_2).f0) from Kd.V_mk ul265_0 ge265_0)
          clear hva_ hvn_ hvc_ ge265_0 ul265_0
          have hv265_2 := hcc265 2 _ rfl
          rw [add_field _ _ 2 (by omega)] at hv265_2
          replace hv265_2 := Option.some.inj (hv265_2.symm.trans hx265_2)
          injection hv265_2 with hva_ hvn_ hvc_
          rw [hva_] at ge265_2
          rw [hvc_] at ul265_2
          have HL265_2 := am (show Kd.V (Kd.int .i64) 3 _ w.heap.size _ _ ((rd_T44 l0 x5_2).f2) from Kd.V_mk ul265_2 ge265_2)
          clear hva_ hvn_ hvc_ ge265_2 ul265_2
          have hv265_3 := hcc265 3 _ rfl
          rw [add_field _ _ 3 (by omega)] at hv265_3
          replace hv265_3 := Option.some.inj (hv265_3.symm.trans hx265_3)
          injection hv265_3 with hva_ hvn_ hvc_
          rw [hva_] at ge265_3
          rw [hvc_] at ul265_3
          have HL265_3 := am (show Kd.V (Kd.int .i64) 3 _ w.heap.size _ _ ((rd_T44 l0 x5_2).f3) from Kd.V_mk ul265_3 ge265_3)
          clear hva_ hvn_ hvc_ ge265_3 ul265_3
          have hv265_4 := hcc265 4 _ rfl
          rw [add_field _ _ 4 (by omega)] at hv265_4
          replace hv265_4 := Option.some.inj (hv265_4.symm.trans hx265_4)
          injection hv265_4 with hva_ hvn_ hvc_
          rw [hva_] at ge265_4
          rw [hvc_] at ul265_4
          have HL265_4 := am (show Kd.V (Kd.int .i64) 3 _ w.heap.size _ _ ((rd_T44 l0 x5_2).f4) from Kd.V_mk ul265_4 ge265_4)
          clear hva_ hvn_ hvc_ ge265_4 ul265_4
          clear hcc265 hce265
          have HR265_0 := am hi265_0
          have HC265_0 := am hl265_0
          clear hi265_0 hl265_0
          have HR265_2 := am hi265_2
          have HC265_2 := am hl265_2
          clear hi265_2 hl265_2
          have HR265_3 := am hi265_3
          have HC265_3 := am hl265_3
          clear hi265_3 hl265_3
          have HR265_4 := am hi265_4
          have HC265_4 := am hl265_4
          clear hi265_4 hl265_4
          replace p265 := eq_true p265
          replace q265 := eq_true q265
          refine start_ (n := 10) (S := fun w' => w'.cell? ⟨gb254, 0, none⟩ = some (.slice A1_0 l1_0.length c1_0) ∧ w'.cell? ⟨gb254, 1, none⟩ = some (.int .i64 a1_1) ∧ w'.cell? ⟨gb254, 2, none⟩ = some (.slice A1_2 l1_2.length c1_2) ∧ w'.cell? ⟨gb254, 3, none⟩ = some (.slice A1_3 l1_3.length c1_3) ∧ w'.cell? ⟨gb254, 4, none⟩ = some (.slice A1_4 l1_4.length c1_4) ∧ w'.cell? (ad265.add ((x5_2).toNat * 5)) = some (.slice A265_0 ((rd_T44 l0 x5_2).f0).length c265_0) ∧ w'.cell? ⟨(ad265.add ((x5_2).toNat * 5)).block, (ad265.add ((x5_2).toNat * 5)).off + 1, none⟩ = some (.int .i64 ((rd_T44 l0 x5_2).f1)) ∧ w'.cell? ⟨(ad265.add ((x5_2).toNat * 5)).block, (ad265.add ((x5_2).toNat * 5)).off + 2, none⟩ = some (.slice A265_2 ((rd_T44 l0 x5_2).f2).length c265_2) ∧ w'.cell? ⟨(ad265.add ((x5_2).toNat * 5)).block, (ad265.add ((x5_2).toNat * 5)).off + 3, none⟩ = some (.slice A265_3 ((rd_T44 l0 x5_2).f3).length c265_3) ∧ w'.cell? ⟨(ad265.add ((x5_2).toNat * 5)).block, (ad265.add ((x5_2).toNat * 5)).off + 4, none⟩ = some (.slice A265_4 ((rd_T44 l0 x5_2).f4).length c265_4)) (ds := [9]) (bb 10 0) (by kernel_rfl) rfl rfl ⟨bc BK254 0, bc BK254 1, bc BK254 2, bc BK254 3, bc BK254 4, hx265_0, hx265_1, hx265_2, hx265_3, hx265_4⟩ (fun hHeld => ?_); refine with_tabW hypercuberef2_Put.tab6 hypercuberef2_Put.bits6 (fun HT_ HW_ => ?_)
          generalize w27.drew = w28 at HO_0 HO264 BK254 HB HL265_0 HL265_2 HL265_3 HL265_4 HR265_0 HR265_2 HR265_3 HR265_4 hx265_0 hx265_1 hx265_2 hx265_3 hx265_4 hHeld ⊢
          refine pu (i := 0) (N := some 42) (bb 10 1) HT_ ?_
          refine pu (i := 1) (N := some 43) (bb 10 3) HT_ ?_
          refine pu (i := 2) (N := some 44) (bb 10 7) HT_ ?_
          refine pu (i := 3) (N := some 45) (bb 10 15) HT_ ?_
          refine pu (i := 4) (N := some 46) (bb 10 31) HT_ ?_
          refine tk (i := 5) (N := some 47) (bb 10 63) HT_ HW_ hHeld ?_
          refine tk (i := 6) (N := some 48) (bb 10 127) HT_ HW_ hHeld ?_
          refine one_ (i := 7) (N := some 49) (bb 10 255) rfl rfl (one_of HT_.out (by kernel_rfl)) (by decide) (fun K hK => ?_)
          refine goes_ Try.func43 (by kernel_rfl) rfl #[.agg #[.slice A265_0 ((rd_T44 l0 x5_2).f0).length c265_0, .int .i64 ((rd_T44 l0 x5_2).f1), .slice A265_2 ((rd_T44 l0 x5_2).f2).length c265_2, .slice A265_3 ((rd_T44 l0 x5_2).f3).length c265_3, .slice A265_4 ((rd_T44 l0 x5_2).f4).length c265_4], .agg #[.slice A1_0 l1_0.length c1_0, .int .i64 a1_1, .slice A1_2 l1_2.length c1_2, .slice A1_3 l1_3.length c1_3, .slice A1_4 l1_4.length c1_4]] (by rfl) rfl rfl (by (try simp only [List.map_toArray, List.map_cons, List.map_nil]); first | done | rfl | (simp only [List.length_drop, List.length_take]; rfl)) ?_
          with_reducible refine (hypercuberef2_Join.calls kj11 _ _ ((rd_T44 l0 x5_2).f0) ((rd_T44 l0 x5_2).f1) _ _ ((rd_T44 l0 x5_2).f2) _ _ ((rd_T44 l0 x5_2).f3) _ _ ((rd_T44 l0 x5_2).f4) _ _ l1_0 a1_1 _ _ l1_2 _ _ l1_3 _ _ l1_4 t266 t269 t270 t273 t276 _ ?side1 ?side2 ?side3 ?side4 ?side5 ?side6 ?side7 ?side8 ?side9 ?side10 ?side11 ?side12 ?side13 ?side14 ?side15 ?side16 A22.out).mono ?_
          (case side1 => repeat (first | exact (by repeat (first | (with_reducible exact HR265_0.out) | (with_reducible refine Kd.C_alloc ?_ _) | (with_reducible refine Kd.C_drewN ?_ _) | (with_reducible refine Kd.C_drew ?_) | exact HR265_0.out)) | (with_reducible refine Kd.C_alloc ?_ _) | (with_reducible refine Kd.C_drewN ?_ _) | (with_reducible refine Kd.C_drew ?_)))
          (case side2 => exact HC265_0.out)
          (case side3 => repeat (first | exact (by repeat (first | (with_reducible exact HR265_2.out) | (with_reducible refine Kd.C_alloc ?_ _) | (with_reducible refine Kd.C_drewN ?_ _) | (with_reducible refine Kd.C_drew ?_) | exact HR265_2.out)) | (with_reducible refine Kd.C_alloc ?_ _) | (with_reducible refine Kd.C_drewN ?_ _) | (with_reducible refine Kd.C_drew ?_)))
          (case side4 => exact HC265_2.out)
          (case side5 => repeat (first | exact (by repeat (first | (with_reducible exact HR265_3.out) | (with_reducible refine Kd.C_alloc ?_ _) | (with_reducible refine Kd.C_drewN ?_ _) | (with_reducible refine Kd.C_drew ?_) | exact HR265_3.out)) | (with_reducible refine Kd.C_alloc ?_ _) | (with_reducible refine Kd.C_drewN ?_ _) | (with_reducible refine Kd.C_drew ?_)))
          (case side6 => exact HC265_3.out)
          (case side7 => repeat (first | exact (by repeat (first | (with_reducible exact HR265_4.out) | (with_reducible refine Kd.C_alloc ?_ _) | (with_reducible refine Kd.C_drewN ?_ _) | (with_reducible refine Kd.C_drew ?_) | exact HR265_4.out)) | (with_reducible refine Kd.C_alloc ?_ _) | (with_reducible refine Kd.C_drewN ?_ _) | (with_reducible refine Kd.C_drew ?_)))
          (case side8 => exact HC265_4.out)
          (case side9 => exact Kd.Cw HR1_0.out HB.out)
          (case side10 => exact HC1_0.out)
          (case side11 => exact Kd.Cw HR1_2.out HB.out)
          (case side12 => exact HC1_2.out)
          (case side13 => exact Kd.Cw HR1_3.out HB.out)
          (case side14 => exact HC1_3.out)
          (case side15 => exact Kd.Cw HR1_4.out HB.out)
          (case side16 => exact HC1_4.out)
          rintro e w29 ⟨v267, v271, v274, v277, rfl, ho0, ho1, ho2, ho3, hb⟩
          have HS5_ := (hb.cell (World.block_lt_of_cell? _ _ (hHeld.2.2.2.2.2.1))).trans (hHeld.2.2.2.2.2.1)
          have HS6_ := (hb.cell (World.block_lt_of_cell? _ _ (hHeld.2.2.2.2.2.2.1))).trans (hHeld.2.2.2.2.2.2.1)
          have HS7_ := (hb.cell (World.block_lt_of_cell? _ _ (hHeld.2.2.2.2.2.2.2.1))).trans (hHeld.2.2.2.2.2.2.2.1)
          have HS8_ := (hb.cell (World.block_lt_of_cell? _ _ (hHeld.2.2.2.2.2.2.2.2.1))).trans (hHeld.2.2.2.2.2.2.2.2.1)
          have HS9_ := (hb.cell (World.block_lt_of_cell? _ _ (hHeld.2.2.2.2.2.2.2.2.2))).trans (hHeld.2.2.2.2.2.2.2.2.2)
          refine ⟨_, rfl, ?_⟩
          have n0_ := am (Kd.V_mono (Kd.V_told (Kd.V_told (Kd.V_told (Kd.V_told (Kd.V_old (Kd.V_mv HO_0.out) hb) (Kd.R_base ho0)) (Kd.R_base ho1)) (Kd.R_base ho2)) (Kd.R_base ho3)) (fun _ h_ => h_.1))
          have n1_ := am (Kd.N_mono (Kd.N_told (Kd.N_told (Kd.N_told (Kd.N_told (Kd.N_old (Kd.N_mv HO264.out) hb) (Kd.R_base ho0)) (Kd.R_base ho1)) (Kd.R_base ho2)) (Kd.R_base ho3)) (fun _ h_ => h_.1))
          have n2_ := am (Kd.V_mono (Kd.V_told (Kd.V_told (Kd.V_told (Kd.V_told (Kd.V_old (Kd.V_mv HL265_0.out) hb) (Kd.R_base ho0)) (Kd.R_base ho1)) (Kd.R_base ho2)) (Kd.R_base ho3)) (fun _ h_ => h_.1))
          have n3_ := am (Kd.V_mono (Kd.V_told (Kd.V_told (Kd.V_told (Kd.V_told (Kd.V_old (Kd.V_mv HL265_2.out) hb) (Kd.R_base ho0)) (Kd.R_base ho1)) (Kd.R_base ho2)) (Kd.R_base ho3)) (fun _ h_ => h_.1))
          have n4_ := am (Kd.V_mono (Kd.V_told (Kd.V_told (Kd.V_told (Kd.V_told (Kd.V_old (Kd.V_mv HL265_3.out) hb) (Kd.R_base ho0)) (Kd.R_base ho1)) (Kd.R_base ho2)) (Kd.R_base ho3)) (fun _ h_ => h_.1))
          have n5_ := am (Kd.V_mono (Kd.V_told (Kd.V_told (Kd.V_told (Kd.V_told (Kd.V_old (Kd.V_mv HL265_4.out) hb) (Kd.R_base ho0)) (Kd.R_base ho1)) (Kd.R_base ho2)) (Kd.R_base ho3)) (fun _ h_ => h_.1))
          have n6_ := am (Kd.R_lower (Kd.R_newM (M := fun k_ => (w.heap.size ≤ k_)) ho0 (below_size (wmv HB.out)) (fun k_ h_ => h_)) (below_size (wmv HB.out)))
          have n7_ := am (Kd.R_lower (Kd.R_newM (M := fun k_ => (w.heap.size ≤ k_)) ho1 (below_size (wmv HB.out)) (fun k_ h_ => h_)) (below_size (wmv HB.out)))
          have n8_ := am (Kd.R_lower (Kd.R_newM (M := fun k_ => (w.heap.size ≤ k_)) ho2 (below_size (wmv HB.out)) (fun k_ h_ => h_)) (below_size (wmv HB.out)))
          have n9_ := am (Kd.R_lower (Kd.R_newM (M := fun k_ => (w.heap.size ≤ k_)) ho3 (below_size (wmv HB.out)) (fun k_ h_ => h_)) (below_size (wmv HB.out)))
          have n10_ := am (blk_below (bmv BK254.out) hb)
          have n11_ := am (Kd.C_below (by repeat (first | (with_reducible exact HR265_0.out) | (with_reducible refine Kd.C_alloc ?_ _) | (with_reducible refine Kd.C_drewN ?_ _) | (with_reducible refine Kd.C_drew ?_) | exact HR265_0.out)) hb)
          have n12_ := am (Kd.C_below (by repeat (first | (with_reducible exact HR265_2.out) | (with_reducible refine Kd.C_alloc ?_ _) | (with_reducible refine Kd.C_drewN ?_ _) | (with_reducible refine Kd.C_drew ?_) | exact HR265_2.out)) hb)
          have n13_ := am (Kd.C_below (by repeat (first | (with_reducible exact HR265_3.out) | (with_reducible refine Kd.C_alloc ?_ _) | (with_reducible refine Kd.C_drewN ?_ _) | (with_reducible refine Kd.C_drew ?_) | exact HR265_3.out)) hb)
          have n14_ := am (Kd.C_below (by repeat (first | (with_reducible exact HR265_4.out) | (with_reducible refine Kd.C_alloc ?_ _) | (with_reducible refine Kd.C_drewN ?_ _) | (with_reducible refine Kd.C_drew ?_) | exact HR265_4.out)) hb)
          have n15_ := am (below_step (wmv HB.out) hb)
          clear HO_0 HO264 HL265_0 HL265_2 HL265_3 HL265_4 BK254 HR265_0 HR265_2 HR265_3 HR265_4 HB
          revert n0_ n1_ n2_ n3_ n4_ n5_ n6_ n7_ n8_ n9_ n10_ n11_ n12_ n13_ n14_ n15_
          intro HO_0 HO264 HL265_0 HL265_2 HL265_3 HL265_4 HO268 HO272 HO275 HO278 BK254 HR265_0 HR265_2 HR265_3 HR265_4 HB
          (try clear hb)
          (try clear hb2)
          (try clear hk)
          (try clear hi)
          (try clear ho0)
          (try clear ho1)
          (try clear ho2)
          (try clear ho3)
          have p24 : 0 ≤ (x5_2 : Int) := of_decide_eq_true (by first | (with_reducible assumption) | assumption)
          have q24 : (x5_2 : Int) < ((y262.length : Int) : Int) := of_decide_eq_true (by first | (with_reducible assumption) | assumption)
          obtain ⟨go24, co24, eo24, gb24, gl24, cl24, HG24⟩ := Kd.N_form HO264.out (by omega)
          (first | cases eo24 | (injection eo24 with ea_ en_ ec_; (first | subst ea_ | (injection ea_ with ea_; subst ea_)); subst ec_; clear en_))
          have GB24 := am gb24
          have GG24 := am HG24
          clear gb24 gl24 HG24
          obtain ⟨ce24, hcl24, hM24, hcc24, hfr24⟩ := Kd.N_elem HO264.out z44 (x5_2 : Int) p24 q24
          obtain ⟨ua24_0, uc24_0, ua24_2, uc24_2, ua24_3, uc24_3, ua24_4, uc24_4, rfl, ul24_0, ge24_0, ul24_2, ge24_2, ul24_3, ge24_3, ul24_4, ge24_4⟩ := k44_openF hM24
          have hx24_0 : World.cell? _ ⟨go24, (x5_2 : Int).toNat * 5, none⟩ = some (.slice ua24_0 ((rd_T44 y262 x5_2).f0).length uc24_0) := hcc24 0 _ rfl
          have hx24_1 : World.cell? _ ⟨go24, (x5_2 : Int).toNat * 5 + 1, none⟩ = some (.int .i64 ((rd_T44 y262 x5_2).f1)) := hcc24 1 _ rfl
          have hx24_2 : World.cell? _ ⟨go24, (x5_2 : Int).toNat * 5 + 2, none⟩ = some (.slice ua24_2 ((rd_T44 y262 x5_2).f2).length uc24_2) := hcc24 2 _ rfl
          have hx24_3 : World.cell? _ ⟨go24, (x5_2 : Int).toNat * 5 + 3, none⟩ = some (.slice ua24_3 ((rd_T44 y262 x5_2).f3).length uc24_3) := hcc24 3 _ rfl
          have hx24_4 : World.cell? _ ⟨go24, (x5_2 : Int).toNat * 5 + 4, none⟩ = some (.slice ua24_4 ((rd_T44 y262 x5_2).f4).length uc24_4) := hcc24 4 _ rfl
          have hf24_0 : World.frozen? _ ⟨go24, (x5_2 : Int).toNat * 5, none⟩ = false := hfr24 0
          have hf24_1 : World.frozen? _ ⟨go24, (x5_2 : Int).toNat * 5 + 1, none⟩ = false := hfr24 1
          have hf24_2 : World.frozen? _ ⟨go24, (x5_2 : Int).toNat * 5 + 2, none⟩ = false := hfr24 2
          have hf24_3 : World.frozen? _ ⟨go24, (x5_2 : Int).toNat * 5 + 3, none⟩ = false := hfr24 3
          have hf24_4 : World.frozen? _ ⟨go24, (x5_2 : Int).toNat * 5 + 4, none⟩ = false := hfr24 4
          clear hcl24 hcc24 hfr24 hM24
          replace p24 := eq_true p24
          replace q24 := eq_true q24
          obtain ⟨Bv267, bv267, ev_⟩ := Kd.R_slice HO268.out
          subst ev_
          obtain ⟨Bv271, bv271, ev_⟩ := Kd.R_slice HO272.out
          subst ev_
          obtain ⟨Bv274, bv274, ev_⟩ := Kd.R_slice HO275.out
          subst ev_
          obtain ⟨Bv277, bv277, ev_⟩ := Kd.R_slice HO278.out
          subst ev_
          have HX30 := am (show Kd.N k44 44 _ w.heap.size (fun k_ => (P0_ k_ ∨ w.heap.size ≤ k_) ∧ some k_ ≠ ((.slice Bv267 t266.length bv267) : Value).ownBlock ∧ some k_ ≠ ((.slice Bv271 t270.length bv271) : Value).ownBlock ∧ some k_ ≠ ((.slice Bv274 t273.length bv274) : Value).ownBlock ∧ some k_ ≠ ((.slice Bv277 t276.length bv277) : Value).ownBlock ∧ k_ ≠ gb254) (.slice (some ⟨go24, 0, none⟩) y262.length co24) y262 from (Kd.N_mono (HO264.out) (fun k_ hk => ⟨hk.1.1.1.1.1, ⟨hk.1.1.1.2, ⟨hk.1.1.2, ⟨hk.1.2, ⟨hk.2, hk.1.1.1.1.2⟩⟩⟩⟩⟩)))
          replace HX30 := am (show Kd.N k44 44 _ w.heap.size (fun k_ => (P0_ k_ ∨ w.heap.size ≤ k_) ∧ k_ ≠ gb254) (.slice (some ⟨go24, 0, none⟩) y262.length co24) y262 from Kd.N_mono HX30.out (fun k_ hk => ⟨hk.1, hk.2.2.2.2.2⟩))
          obtain ⟨ce30, hcl30, hM30, hcc30, hfr30⟩ := Kd.N_elem HX30.out z44 (x5_2 : Int) (of_decide_eq_true (by first | (with_reducible assumption) | assumption)) (by have h_ : (x5_2 : Int) < ((y262.length : Int) : Int) := of_decide_eq_true (by first | (with_reducible assumption) | assumption); first | exact h_ | (have e_ := (Kd.N_reads' HO264.out).1; omega) | simpa using h_)
          obtain ⟨ua30_0, uc30_0, ua30_2, uc30_2, ua30_3, uc30_3, ua30_4, uc30_4, rfl, ul30_0, ge30_0, ul30_2, ge30_2, ul30_3, ge30_3, ul30_4, ge30_4⟩ := k44_openF hM30
          have HP30 := (Kd.N_seg HX30.out (x5_2 : Int) (of_decide_eq_true (by first | (with_reducible assumption) | assumption)) (by have h_ : (x5_2 : Int) < ((y262.length : Int) : Int) := of_decide_eq_true (by first | (with_reducible assumption) | assumption); first | exact h_ | (have e_ := (Kd.N_reads' HO264.out).1; omega) | simpa using h_) (seg := [(.slice Bv267 t266.length bv267), .int .i64 t269, (.slice Bv271 t270.length bv271), (.slice Bv274 t273.length bv274), (.slice Bv277 t276.length bv277)]) (j := 0) hcl30 hcc30 (show 5 ≤ 5 from by decide) (x' := (⟨t266, t269, t270, t273, t276⟩ : S44)) (k44_mkF _ _ (⟨t266, t269, t270, t273, t276⟩ : S44) (Kd.R_reads' (Kd.R_mono (ok' := (fun k_ => ((fun k_ => (P0_ k_ ∨ w.heap.size ≤ k_) ∧ k_ ≠ gb254)) k_ ∧ k_ ≠ go24)) (Kd.R_types (Kd.R_apart' (HO268.out) (Kd.N_typed HO264.out) (by decide)) BK254.out (by decide)) (fun k_ hk => ⟨⟨(.inr (hk.1.1.1)), hk.2⟩, fun e_ => (hk.1.2) (by rw [e_]; rfl)⟩))).2.1 (Kd.R_F (Kd.R_mono (ok' := (fun k_ => ((fun k_ => (P0_ k_ ∨ w.heap.size ≤ k_) ∧ k_ ≠ gb254)) k_ ∧ k_ ≠ go24)) (Kd.R_types (Kd.R_apart' (HO268.out) (Kd.N_typed HO264.out) (by decide)) BK254.out (by decide)) (fun k_ hk => ⟨⟨(.inr (hk.1.1.1)), hk.2⟩, fun e_ => (hk.1.2) (by rw [e_]; rfl)⟩))) (Kd.R_reads' (Kd.R_mono (ok' := (fun k_ => ((fun k_ => (P0_ k_ ∨ w.heap.size ≤ k_) ∧ k_ ≠ gb254)) k_ ∧ k_ ≠ go24)) (Kd.R_types (Kd.R_apart' (HO272.out) (Kd.N_typed HO264.out) (by decide)) BK254.out (by decide)) (fun k_ hk => ⟨⟨(.inr (hk.1.1.1)), hk.2⟩, fun e_ => (hk.1.2) (by rw [e_]; rfl)⟩))).2.1 (Kd.R_F (Kd.R_mono (ok' := (fun k_ => ((fun k_ => (P0_ k_ ∨ w.heap.size ≤ k_) ∧ k_ ≠ gb254)) k_ ∧ k_ ≠ go24)) (Kd.R_types (Kd.R_apart' (HO272.out) (Kd.N_typed HO264.out) (by decide)) BK254.out (by decide)) (fun k_ hk => ⟨⟨(.inr (hk.1.1.1)), hk.2⟩, fun e_ => (hk.1.2) (by rw [e_]; rfl)⟩))) (Kd.R_reads' (Kd.R_mono (ok' := (fun k_ => ((fun k_ => (P0_ k_ ∨ w.heap.size ≤ k_) ∧ k_ ≠ gb254)) k_ ∧ k_ ≠ go24)) (Kd.R_types (Kd.R_apart' (HO275.out) (Kd.N_typed HO264.out) (by decide)) BK254.out (by decide)) (fun k_ hk => ⟨⟨(.inr (hk.1.1.1)), hk.2⟩, fun e_ => (hk.1.2) (by rw [e_]; rfl)⟩))).2.1 (Kd.R_F (Kd.R_mono (ok' := (fun k_ => ((fun k_ => (P0_ k_ ∨ w.heap.size ≤ k_) ∧ k_ ≠ gb254)) k_ ∧ k_ ≠ go24)) (Kd.R_types (Kd.R_apart' (HO275.out) (Kd.N_typed HO264.out) (by decide)) BK254.out (by decide)) (fun k_ hk => ⟨⟨(.inr (hk.1.1.1)), hk.2⟩, fun e_ => (hk.1.2) (by rw [e_]; rfl)⟩))) (Kd.R_reads' (Kd.R_mono (ok' := (fun k_ => ((fun k_ => (P0_ k_ ∨ w.heap.size ≤ k_) ∧ k_ ≠ gb254)) k_ ∧ k_ ≠ go24)) (Kd.R_types (Kd.R_apart' (HO278.out) (Kd.N_typed HO264.out) (by decide)) BK254.out (by decide)) (fun k_ hk => ⟨⟨(.inr (hk.1.1.1)), hk.2⟩, fun e_ => (hk.1.2) (by rw [e_]; rfl)⟩))).2.1 (Kd.R_F (Kd.R_mono (ok' := (fun k_ => ((fun k_ => (P0_ k_ ∨ w.heap.size ≤ k_) ∧ k_ ≠ gb254)) k_ ∧ k_ ≠ go24)) (Kd.R_types (Kd.R_apart' (HO278.out) (Kd.N_typed HO264.out) (by decide)) BK254.out (by decide)) (fun k_ hk => ⟨⟨(.inr (hk.1.1.1)), hk.2⟩, fun e_ => (hk.1.2) (by rw [e_]; rfl)⟩)))) (fun _ hk => hk)).1
          rw [← Ny279.out] at HP30
          have HQ30 := am HP30
          clear hcl30 hcc30 hfr30 hM30 HP30
          refine hK.out _ _ ⟨bc BK254 0, bc BK254 1, bc BK254 2, bc BK254 3, bc BK254 4, HS5_, HS6_, HS7_, HS8_, HS9_⟩ (fun hHeld => ?_)
          clear hK K
          refine nm ?_
          refine pu (i := 8) (N := some 50) (bb 10 511) HT_ ?_
          refine last_ (i := 9) (N := none) (bb 10 1023) rfl rfl (one_of HT_.out (by kernel_rfl)) (by decide) (fun K hK => ?_)
          refine skip_ (w1 := ?_) (by rfl) rfl ?_ ?_
          rotate_left
          ·go_simp
           rfl
          refine hK.out _ _ ?_
          clear hK K
          refine done_ (done_of HT_.out (by kernel_rfl)) ?_
          try go_wp2
          go_ret
          exact ⟨_, by first | rfl | (simp [errW_none, errW_some] <;> rfl) | (simp [*, errW_none, errW_some] <;> rfl), by (with_reducible repeat (first | apply Kd.N_alloc | apply Kd.N_drewN | apply Kd.N_drew)); exact Kd.N_mono HQ30.out (fun _ hk => hk.1), by repeat (first | (with_reducible first | exact HB.out | apply below_alloc | apply pw_below_drewN | apply below_drew1 | refine below_set ?_ GB24.out | refine below_set ?_ GB24.out | refine below_set ?_ GB24.out | refine below_set ?_ GB24.out | refine below_set ?_ GB24.out | refine below_set ?_ GE254.out) | exact HB.out)⟩
         ·rw [if_neg c23] at H
          exact absurd H (by simp)
        ·rw [if_neg c21] at H
         exact absurd H (by simp)
       ·rw [if_neg c20] at H
        exact absurd H (by simp)
      ·rw [if_neg c19] at H
       exact absurd H (by simp)
     ·replace c18 := Bool.eq_false_iff.mpr c18
      subst c18
      have H1 : ((some (([] : List (S44)) : List (S44))).bind fun y280 => (if 0 ≤ x5_2 then (if x5_2 ≤ (l0.length : Int) then ((some (l0.take (x5_2 : Int).toNat : List (S44))).bind fun y283 => (if y280.length + y283.length < 1353245080339 then ((some (y280 ++ y283 : List (S44))).bind fun y288 => ((hypercuberef2_Copy.f l1_0 a1_1 l1_2 l1_3 l1_4).bind fun bt291 => (if y288.length < 1353245080339 then ((some (y288 ++ [(⟨bt291.1, bt291.2.1, bt291.2.2.1, bt291.2.2.2.1, bt291.2.2.2.2⟩ : S44)] : List (S44))).bind fun y304 => ((some (l0.drop (x5_2 : Int).toNat : List (S44))).bind fun y307 => (if y304.length + y307.length < 1353245080339 then (some (y304 ++ y307)) else (none)))) else (none)))) else (none))) else (none)) else (none))) = some r := by rw [if_neg (show ¬ (false = true) by decide)] at H; exact H
      clear H
      have H := H1
      clear H1
      obtain ⟨y280, hy280⟩ : ∃ y_ : List (S44), y_ = (([] : List (S44))) := ⟨_, rfl⟩
      replace H : (if 0 ≤ x5_2 then (if x5_2 ≤ (l0.length : Int) then ((some (l0.take (x5_2 : Int).toNat : List (S44))).bind fun y283 => (if y280.length + y283.length < 1353245080339 then ((some (y280 ++ y283 : List (S44))).bind fun y288 => ((hypercuberef2_Copy.f l1_0 a1_1 l1_2 l1_3 l1_4).bind fun bt291 => (if y288.length < 1353245080339 then ((some (y288 ++ [(⟨bt291.1, bt291.2.1, bt291.2.2.1, bt291.2.2.2.1, bt291.2.2.2.2⟩ : S44)] : List (S44))).bind fun y304 => ((some (l0.drop (x5_2 : Int).toNat : List (S44))).bind fun y307 => (if y304.length + y307.length < 1353245080339 then (some (y304 ++ y307)) else (none)))) else (none)))) else (none))) else (none)) else (none)) = some r := by first | (rw [hy280]; with_reducible exact H) | (have H2_ := (Option.bind_some _ _).symm.trans H; rw [hy280]; with_reducible exact H2_) | (have H2_ := (Option.bind_some _ _).symm.trans H; with_reducible exact H2_) | with_reducible exact H | (rw [hy280]; exact H) | exact H
      have Ny280 := am hy280
      clear hy280
      by_cases c31 : 0 ≤ x5_2
      ·rw [if_pos c31] at H
       have c31b0 := eq_true c31
       have c31b1 : decide (0 ≤ x5_2) = true := decide_eq_true c31
       clear c31
       by_cases c32 : x5_2 ≤ (l0.length : Int)
       ·rw [if_pos c32] at H
        have c32b0 := eq_true c32
        have c32b1 : decide (x5_2 ≤ (l0.length : Int)) = true := decide_eq_true c32
        clear c32
        obtain ⟨y283, hy283⟩ : ∃ y_ : List (S44), y_ = (l0.take (x5_2 : Int).toNat) := ⟨_, rfl⟩
        replace H : (if y280.length + y283.length < 1353245080339 then ((some (y280 ++ y283 : List (S44))).bind fun y288 => ((hypercuberef2_Copy.f l1_0 a1_1 l1_2 l1_3 l1_4).bind fun bt291 => (if y288.length < 1353245080339 then ((some (y288 ++ [(⟨bt291.1, bt291.2.1, bt291.2.2.1, bt291.2.2.2.1, bt291.2.2.2.2⟩ : S44)] : List (S44))).bind fun y304 => ((some (l0.drop (x5_2 : Int).toNat : List (S44))).bind fun y307 => (if y304.length + y307.length < 1353245080339 then (some (y304 ++ y307)) else (none)))) else (none)))) else (none)) = some r := by first | (rw [hy283]; with_reducible exact H) | (have H2_ := (Option.bind_some _ _).symm.trans H; rw [hy283]; with_reducible exact H2_) | (have H2_ := (Option.bind_some _ _).symm.trans H; with_reducible exact H2_) | with_reducible exact H | (rw [hy283]; exact H) | exact H
        have Ny283 := am hy283
        clear hy283
        by_cases c33 : y280.length + y283.length < 1353245080339
        ·rw [if_pos c33] at H
         have LMc33 := am c33
         clear c33
         obtain ⟨y288, hy288⟩ : ∃ y_ : List (S44), y_ = (y280 ++ y283) := ⟨_, rfl⟩
         replace H : ((hypercuberef2_Copy.f l1_0 a1_1 l1_2 l1_3 l1_4).bind fun bt291 => (if y288.length < 1353245080339 then ((some (y288 ++ [(⟨bt291.1, bt291.2.1, bt291.2.2.1, bt291.2.2.2.1, bt291.2.2.2.2⟩ : S44)] : List (S44))).bind fun y304 => ((some (l0.drop (x5_2 : Int).toNat : List (S44))).bind fun y307 => (if y304.length + y307.length < 1353245080339 then (some (y304 ++ y307)) else (none)))) else (none))) = some r := by first | (rw [hy288]; with_reducible exact H) | (have H2_ := (Option.bind_some _ _).symm.trans H; rw [hy288]; with_reducible exact H2_) | (have H2_ := (Option.bind_some _ _).symm.trans H; with_reducible exact H2_) | with_reducible exact H | (rw [hy288]; exact H) | exact H
         have Ny288 := am hy288
         clear hy288
         replace H := Option.bind_eq_some_iff.mp H
         obtain ⟨⟨t291, t294, t295, t298, t301⟩, A340, H⟩ := H
         replace H : (if y288.length < 1353245080339 then ((some (y288 ++ [(⟨t291, t294, t295, t298, t301⟩ : S44)] : List (S44))).bind fun y304 => ((some (l0.drop (x5_2 : Int).toNat : List (S44))).bind fun y307 => (if y304.length + y307.length < 1353245080339 then (some (y304 ++ y307)) else (none)))) else (none)) = some r := H
         have A34 := am A340
         clear A340
         by_cases c35 : y288.length < 1353245080339
         ·rw [if_pos c35] at H
          have LMc35 := am c35
          clear c35
          obtain ⟨y304, hy304⟩ : ∃ y_ : List (S44), y_ = (y288 ++ [(⟨t291, t294, t295, t298, t301⟩ : S44)]) := ⟨_, rfl⟩
          replace H : ((some (l0.drop (x5_2 : Int).toNat : List (S44))).bind fun y307 => (if y304.length + y307.length < 1353245080339 then (some (y304 ++ y307)) else (none))) = some r := by first | (rw [hy304]; with_reducible exact H) | (have H2_ := (Option.bind_some _ _).symm.trans H; rw [hy304]; with_reducible exact H2_) | (have H2_ := (Option.bind_some _ _).symm.trans H; with_reducible exact H2_) | with_reducible exact H | (rw [hy304]; exact H) | exact H
          have Ny304 := am hy304
          clear hy304
          have c36b0 := eq_true (of_decide_eq_true (by first | (with_reducible assumption) | assumption) : 0 ≤ x5_2)
          have c37b0 := eq_true (of_decide_eq_true (by first | (with_reducible assumption) | assumption) : x5_2 ≤ (l0.length : Int))
          obtain ⟨y307, hy307⟩ : ∃ y_ : List (S44), y_ = (l0.drop (x5_2 : Int).toNat) := ⟨_, rfl⟩
          replace H : (if y304.length + y307.length < 1353245080339 then (some (y304 ++ y307)) else (none)) = some r := by first | (rw [hy307]; with_reducible exact H) | (have H2_ := (Option.bind_some _ _).symm.trans H; rw [hy307]; with_reducible exact H2_) | (have H2_ := (Option.bind_some _ _).symm.trans H; with_reducible exact H2_) | with_reducible exact H | (rw [hy307]; exact H) | exact H
          have Ny307 := am hy307
          clear hy307
          by_cases c38 : y304.length + y307.length < 1353245080339
          ·rw [if_pos c38] at H
           have LMc38 := am c38
           clear c38
           obtain ⟨y312, hy312⟩ : ∃ y_ : List (S44), y_ = (y304 ++ y307) := ⟨_, rfl⟩
           replace H : (some y312) = some r := by rw [hy312]; with_reducible exact H
           have Ny312 := am hy312
           clear hy312
           obtain rfl := Option.some.inj H
           try go_wp2
           have n0_ := am (Kd.V_drew HO_0.out)
           have n1_ := am (blk_drew BK254.out)
           have n2_ := am (below_drew1 HB.out)
           clear HO_0 BK254 HB
           revert n0_ n1_ n2_
           intro HO_0 BK254 HB
           have q40 : (x5_2 : Int) ≤ ((l0.length : Int) : Int) := of_decide_eq_true (by first | (with_reducible assumption) | assumption)
           obtain ⟨i040, hi040, _, hsz40, _⟩ := info_parts info44
           have hroom40 : l0.length ≤ c0 := (Kd.V_reads' HO_0.out).2.1
           have hC40 : Kd.F k44 _ _ A0 l0.length l0 := (Kd.V_at (base := w.heap.size) HO_0.out).2.2
           have hcut40 := cut_to (P := Try.prog) 31 44 .i64 Try.underlying31 hi040 A0 l0.length c0 x5_2 (of_decide_eq_true (by first | (with_reducible assumption) | assumption)) q40 hroom40
           have hr40 := Kd.F_take (m := (x5_2 : Int).toNat) hC40 (by omega)
           have hy40 : y283.length = (x5_2 : Int).toNat := (by rw [Ny283.out, List.length_take]; omega)
           rw [← Ny283.out] at hr40
           rw [← hy40] at hcut40
           have HO287 := am (show Kd.V k44 44 _ w.heap.size _ (.slice A0 y283.length c0) y283 from Kd.V_mk (by omega) hr40)
           have HC287 := am (show y283.length ≤ c0 from by omega)
           clear hr40 hC40 hroom40 hi040 hsz40
           have KY40 := am hy40
           clear hy40
           replace q40 := eq_true q40
           have q41 : (x5_2 : Int) ≤ ((l0.length : Int) : Int) := of_decide_eq_true (by first | (with_reducible assumption) | assumption)
           obtain ⟨i041, hi041, _, hsz41, _⟩ := info_parts info44
           have hroom41 : l0.length ≤ c0 := (Kd.V_reads' HO_0.out).2.1
           have hC41 : Kd.F k44 _ _ A0 l0.length l0 := (Kd.V_at (base := w.heap.size) HO_0.out).2.2
           have q041 : (0 : Int) ≤ (x5_2 : Int) := of_decide_eq_true (by first | (with_reducible assumption) | assumption)
           have hcut41 := cut_from (P := Try.prog) 31 44 .i64 Try.underlying31 hi041 5 hsz41 A0 l0.length c0 x5_2 q041 q41
           have hr41 := Kd.F_cut (m := (x5_2 : Int).toNat) (c := c0) hC41 (by omega) hroom41
           obtain ⟨A41, hA41⟩ : ∃ A1, A1 = (if c0 = (x5_2 : Int).toNat then A0 else (A0 : Option Addr).map (·.add ((x5_2 : Int).toNat * 5))) := ⟨_, rfl⟩
           obtain ⟨c41, hc41⟩ : ∃ c1, c1 = c0 - (x5_2 : Int).toNat := ⟨_, rfl⟩
           have hy41 : y307.length = l0.length - (x5_2 : Int).toNat := (by rw [Ny307.out, List.length_drop] <;> omega)
           rw [show (l0).drop (x5_2 : Int).toNat = y307 from Ny307.out.symm] at hr41
           replace hr41 : Kd.F k44 _ _ A41 y307.length y307 := (by rw [hA41]; exact hr41)
           rw [← hy41, ← hA41, ← hc41] at hcut41
           have HO311 := am (show Kd.V k44 44 _ w.heap.size _ (.slice A41 y307.length c41) y307 from Kd.V_mk (by rw [hy41, hc41]; exact Nat.sub_le_sub_right hroom41 _) hr41)
           have HC311 := am (show y307.length ≤ c41 from by rw [hy41, hc41]; exact Nat.sub_le_sub_right hroom41 _)
           clear hr41 hC41 hroom41 hi041 hsz41 hc41
           have KY41 := am hy41
           have KA41 := am hA41
           clear hy41 hA41
           replace q41 := eq_true q41
           refine start_ (n := 14) (S := fun w' => w'.cell? ⟨gb254, 0, none⟩ = some (.slice A1_0 l1_0.length c1_0) ∧ w'.cell? ⟨gb254, 1, none⟩ = some (.int .i64 a1_1) ∧ w'.cell? ⟨gb254, 2, none⟩ = some (.slice A1_2 l1_2.length c1_2) ∧ w'.cell? ⟨gb254, 3, none⟩ = some (.slice A1_3 l1_3.length c1_3) ∧ w'.cell? ⟨gb254, 4, none⟩ = some (.slice A1_4 l1_4.length c1_4)) (ds := []) (bb 14 0) (by kernel_rfl) rfl rfl ⟨bc BK254 0, bc BK254 1, bc BK254 2, bc BK254 3, bc BK254 4⟩ (fun hHeld => ?_); refine with_tabW hypercuberef2_Put.tab8 hypercuberef2_Put.bits8 (fun HT_ HW_ => ?_)
           generalize wc.drew = w39 at HO_0 BK254 HB HO287 HO311 hHeld ⊢
           refine pu (i := 1) (N := some 53) (bb 14 2) HT_ ?_
           refine pu (i := 2) (N := some 54) (bb 14 6) HT_ ?_
           refine pu (i := 3) (N := some 55) (bb 14 14) HT_ ?_
           refine pu (i := 9) (N := some 61) (bb 14 526) HT_ ?_
           refine pu (i := 10) (N := some 62) (bb 14 1550) HT_ ?_
           refine pu (i := 11) (N := some 63) (bb 14 3598) HT_ ?_
           refine tk (i := 5) (N := some 57) (bb 14 3630) HT_ HW_ hHeld ?_
           refine one_ (i := 0) (N := some 52) (bb 14 3631) rfl rfl (one_of HT_.out (by kernel_rfl)) (by decide) (fun K hK => ?_)
           refine Kd.N_lit_step k44 _ 44 ?hg (N' := 52) ?hd (xs := ([] : List (S44))) (inner := []) (ok := (fun k_ => (P0_ k_ ∨ w.heap.size ≤ k_) ∧ k_ ≠ gb254)) (okp := (fun k_ => (P0_ k_ ∨ w.heap.size ≤ k_) ∧ k_ ≠ gb254)) ?hr ?hp (fun _ hk => hk) ((show ∀ k_, w39.heap.size ≤ k_ → (fun k_ => (P0_ k_ ∨ w.heap.size ≤ k_) ∧ k_ ≠ gb254) k_ from fun k_ hk => ⟨(.inr (Nat.le_trans (below_size (wmv HB.out)) hk)), Kd.freshB (bmv BK254.out) k_ hk⟩) _ (Nat.le_refl _)) (Below.refl _ _) (Nat.le_refl _) (by simp) ?_; (case hd => rfl); (case hg => rfl); (case hr => first | (go_simp; done) | (go_simp; rfl)); (case hp => exact (Reps.none _ _))
           intro v281 w42 ho43 hb hg_ hnew_
           clear hg_ hnew_
           (first | rw [← Ny280.out] at ho43 | (simp only [Int.reduceToNat] at ho43; rw [← Ny280.out] at ho43))
           have n0_ := am (Kd.V_elder' (Kd.V_mv HO_0.out) (by first | exact Kd.N_base ho43 | exact Kd.S_base ho43 | exact Kd.R_base ho43) hb)
           have n1_ := am (Kd.V_elder' (Kd.V_mv HO287.out) (by first | exact Kd.N_base ho43 | exact Kd.S_base ho43 | exact Kd.R_base ho43) hb)
           have n2_ := am (Kd.V_elder' (Kd.V_mv HO311.out) (by first | exact Kd.N_base ho43 | exact Kd.S_base ho43 | exact Kd.R_base ho43) hb)
           have n3_ := am (Kd.N_lower ho43 (below_size (wmv HB.out)))
           have n4_ := am (blk_below (bmv BK254.out) hb)
           have n5_ := am (below_step (wmv HB.out) hb)
           clear HO_0 HO287 HO311 BK254 HB
           revert n0_ n1_ n2_ n3_ n4_ n5_
           intro HO_0 HO287 HO311 HO282 BK254 HB
           clear hb ho43
           refine hK.out _ _ ⟨bc BK254 0, bc BK254 1, bc BK254 2, bc BK254 3, bc BK254 4⟩ (fun hHeld => ?_)
           clear hK K
           refine nm ?_
           refine one_ (i := 4) (N := some 56) (bb 14 3647) rfl rfl (one_of HT_.out (by kernel_rfl)) (by decide) (fun K hK => ?_)
           refine Kd.N_append_rows_step k44 (w0 := w) w.heap.size (by rfl) (.tmp 52) (.tmp 55) 31 44 (.agg #[(.slice none 0 0), (.int .i64 0), (.slice none 0 0), (.slice none 0 0), (.slice none 0 0)]) 104 rfl Try.underlying31 info44 rfl (by decide) (by omega) v281 y280 y283 _ _ _ (fun k_ => (P0_ k_ ∨ w.heap.size ≤ k_) ∧ k_ ≠ gb254) (fun k_ => ((fun k_ => (P0_ k_ ∨ w.heap.size ≤ k_) ∧ k_ ≠ gb254)) k_ ∧ some k_ ≠ (v281 : Value).ownBlock) rfl rfl ?aO ?aR (fun _ hk => hk) ?aF ?aB ?aS ?aL ?_
           (case aR => exact (by skip; exact Kd.V_F (Kd.V_mono (ok' := (fun k_ => ((fun k_ => (P0_ k_ ∨ w.heap.size ≤ k_) ∧ k_ ≠ gb254)) k_ ∧ some k_ ≠ (v281 : Value).ownBlock)) (HO287.out) (fun k_ hk => ⟨⟨hk.1.1, hk.1.2⟩, hk.2⟩))))
           (case aB => exact (wmv HB.out))
           (case aF => exact (fun k_ hk => ⟨(.inr (Nat.le_trans (below_size (wmv HB.out)) hk)), Kd.freshB (bmv BK254.out) k_ hk⟩))
           (case aO => exact (Kd.N_mv HO282.out))
           (case aS => exact (below_size (wmv HB.out)))
           (case aL => have := LMc33.out; omega)
           intro v289 w44 ho hb hg hat
           rw [← Ny288.out] at ho
           have n0_ := am (Kd.V_afterv (ok := (fun k_ => (P0_ k_ ∨ w.heap.size ≤ k_) ∧ k_ ≠ gb254)) (Kd.V_mv HO_0.out) hg hat)
           have n1_ := am (blk_grown (bmv BK254.out) hg (Kd.N_away HO282.out (fun _ hk => hk.2)))
           have n2_ := am (Kd.V_afterv (ok := (fun k_ => (P0_ k_ ∨ w.heap.size ≤ k_) ∧ k_ ≠ gb254)) (Kd.V_mv HO287.out) hg hat)
           have n3_ := am (Kd.V_afterv (ok := (fun k_ => (P0_ k_ ∨ w.heap.size ≤ k_) ∧ k_ ≠ gb254)) (Kd.V_mv HO311.out) hg hat)
           have n4_ := am (hb)
           have n5_ := am (ho)
           clear HO_0 BK254 HO287 HO311 HB HO282
           revert n0_ n1_ n2_ n3_ n4_ n5_
           intro HO_0 BK254 HO287 HO311 HB HO290
           clear ho hb hg hat
           refine hK.out _ _ ⟨bc BK254 0, bc BK254 1, bc BK254 2, bc BK254 3, bc BK254 4⟩ (fun hHeld => ?_)
           clear hK K
           refine nm ?_
           refine one_ (i := 6) (N := some 58) (bb 14 3711) rfl rfl (one_of HT_.out (by kernel_rfl)) (by decide) (fun K hK => ?_)
           refine goes_ Try.func42 (by kernel_rfl) rfl #[.agg #[.slice A1_0 l1_0.length c1_0, .int .i64 a1_1, .slice A1_2 l1_2.length c1_2, .slice A1_3 l1_3.length c1_3, .slice A1_4 l1_4.length c1_4]] (by rfl) rfl rfl (by (try simp only [List.map_toArray, List.map_cons, List.map_nil]); first | done | rfl | (simp only [List.length_drop, List.length_take]; rfl)) ?_
           with_reducible refine (hypercuberef2_Copy.calls _ _ l1_0 a1_1 _ _ l1_2 _ _ l1_3 _ _ l1_4 t291 t294 t295 t298 t301 _ ?side1 ?side2 ?side3 ?side4 ?side5 ?side6 ?side7 ?side8 A34.out).mono ?_
           (case side1 => exact Kd.Cw HR1_0.out HB.out)
           (case side2 => exact HC1_0.out)
           (case side3 => exact Kd.Cw HR1_2.out HB.out)
           (case side4 => exact HC1_2.out)
           (case side5 => exact Kd.Cw HR1_3.out HB.out)
           (case side6 => exact HC1_3.out)
           (case side7 => exact Kd.Cw HR1_4.out HB.out)
           (case side8 => exact HC1_4.out)
           rintro e w45 ⟨v292, v296, v299, v302, rfl, ho0, ho1, ho2, ho3, hb⟩
           refine ⟨_, rfl, ?_⟩
           have n0_ := am (Kd.V_mono (Kd.V_told (Kd.V_told (Kd.V_told (Kd.V_told (Kd.V_old (Kd.V_mv HO_0.out) hb) (Kd.R_base ho0)) (Kd.R_base ho1)) (Kd.R_base ho2)) (Kd.R_base ho3)) (fun _ h_ => h_.1))
           have n1_ := am (Kd.V_mono (Kd.V_told (Kd.V_told (Kd.V_told (Kd.V_told (Kd.V_old (Kd.V_mv HO287.out) hb) (Kd.R_base ho0)) (Kd.R_base ho1)) (Kd.R_base ho2)) (Kd.R_base ho3)) (fun _ h_ => h_.1))
           have n2_ := am (Kd.V_mono (Kd.V_told (Kd.V_told (Kd.V_told (Kd.V_told (Kd.V_old (Kd.V_mv HO311.out) hb) (Kd.R_base ho0)) (Kd.R_base ho1)) (Kd.R_base ho2)) (Kd.R_base ho3)) (fun _ h_ => h_.1))
           have n3_ := am (Kd.N_mono (Kd.N_told (Kd.N_told (Kd.N_told (Kd.N_told (Kd.N_old (Kd.N_mv HO290.out) hb) (Kd.R_base ho0)) (Kd.R_base ho1)) (Kd.R_base ho2)) (Kd.R_base ho3)) (fun _ h_ => h_.1))
           have n4_ := am (Kd.R_lower (Kd.R_newM (M := fun k_ => (w.heap.size ≤ k_)) ho0 (below_size (wmv HB.out)) (fun k_ h_ => h_)) (below_size (wmv HB.out)))
           have n5_ := am (Kd.R_lower (Kd.R_newM (M := fun k_ => (w.heap.size ≤ k_)) ho1 (below_size (wmv HB.out)) (fun k_ h_ => h_)) (below_size (wmv HB.out)))
           have n6_ := am (Kd.R_lower (Kd.R_newM (M := fun k_ => (w.heap.size ≤ k_)) ho2 (below_size (wmv HB.out)) (fun k_ h_ => h_)) (below_size (wmv HB.out)))
           have n7_ := am (Kd.R_lower (Kd.R_newM (M := fun k_ => (w.heap.size ≤ k_)) ho3 (below_size (wmv HB.out)) (fun k_ h_ => h_)) (below_size (wmv HB.out)))
           have n8_ := am (blk_below (bmv BK254.out) hb)
           have n9_ := am (below_step (wmv HB.out) hb)
           clear HO_0 HO287 HO311 HO290 BK254 HB
           revert n0_ n1_ n2_ n3_ n4_ n5_ n6_ n7_ n8_ n9_
           intro HO_0 HO287 HO311 HO290 HO293 HO297 HO300 HO303 BK254 HB
           (try clear hb)
           (try clear hb2)
           (try clear hk)
           (try clear hi)
           (try clear ho0)
           (try clear ho1)
           (try clear ho2)
           (try clear ho3)
           obtain ⟨Ao47, co47, eo47⟩ := Kd.R_slice HO293.out
           (first | subst eo47 | (injection eo47 with f1_ f2_ f3_; have f4_ := f1_.symm; have f5_ := f3_.symm; clear f1_ f2_ f3_; subst f4_; subst f5_))
           obtain ⟨Ao48, co48, eo48⟩ := Kd.R_slice HO297.out
           (first | subst eo48 | (injection eo48 with f1_ f2_ f3_; have f4_ := f1_.symm; have f5_ := f3_.symm; clear f1_ f2_ f3_; subst f4_; subst f5_))
           obtain ⟨Ao49, co49, eo49⟩ := Kd.R_slice HO300.out
           (first | subst eo49 | (injection eo49 with f1_ f2_ f3_; have f4_ := f1_.symm; have f5_ := f3_.symm; clear f1_ f2_ f3_; subst f4_; subst f5_))
           obtain ⟨Ao50, co50, eo50⟩ := Kd.R_slice HO303.out
           (first | subst eo50 | (injection eo50 with f1_ f2_ f3_; have f4_ := f1_.symm; have f5_ := f3_.symm; clear f1_ f2_ f3_; subst f4_; subst f5_))
           refine hK.out _ _ ⟨bc BK254 0, bc BK254 1, bc BK254 2, bc BK254 3, bc BK254 4⟩ (fun hHeld => ?_)
           clear hK K
           refine nm ?_
           refine one_ (i := 7) (N := some 59) (bb 14 3839) rfl rfl (one_of HT_.out (by kernel_rfl)) (by decide) (fun K hK => ?_)
           refine value_ (w1 := ?_) (v := ?_) (by rfl) rfl ?_ ?_
           rotate_left 2
           ·go_simp
            constructor
            ·rfl
            ·rfl
           refine hK.out _ _ ⟨(blk_cell (blk_alloc BK254.out _) 0).trans rfl, (blk_cell (blk_alloc BK254.out _) 1).trans rfl, (blk_cell (blk_alloc BK254.out _) 2).trans rfl, (blk_cell (blk_alloc BK254.out _) 3).trans rfl, (blk_cell (blk_alloc BK254.out _) 4).trans rfl⟩ (fun hHeld => ?_)
           clear hK K
           refine nm ?_
           refine one_ (i := 8) (N := some 60) (bb 14 4095) rfl rfl (one_of HT_.out (by kernel_rfl)) (by decide) (fun K hK => ?_)
           refine Kd.N_append_step k44 (w0 := w) w.heap.size (by rfl) (.tmp 56) (.tmp 59) 31 44 (.agg #[(.slice none 0 0), (.int .i64 0), (.slice none 0 0), (.slice none 0 0), (.slice none 0 0)]) 104 rfl Try.underlying31 info44 rfl (by decide) (by omega) v289 y288 (⟨t291, t294, t295, t298, t301⟩ : S44) [.slice Ao47 t291.length co47, .int .i64 t294, .slice Ao48 t295.length co48, .slice Ao49 t298.length co49, .slice Ao50 t301.length co50] (fun k_ => (P0_ k_ ∨ w.heap.size ≤ k_) ∧ k_ ≠ gb254) (fun k_ => ((fun k_ => (P0_ k_ ∨ w.heap.size ≤ k_) ∧ k_ ≠ gb254)) k_ ∧ some k_ ≠ (v289 : Value).ownBlock) rfl rfl ?aP (fun _ hk => hk) ?aF ?aO ?aB ?aS ?aL ?_
           (case aP => exact (k44_mkF _ _ (⟨t291, t294, t295, t298, t301⟩ : S44) (Kd.R_reads' (Kd.R_mono (ok' := (fun k_ => ((fun k_ => (P0_ k_ ∨ w.heap.size ≤ k_) ∧ k_ ≠ gb254)) k_ ∧ some k_ ≠ (v289 : Value).ownBlock)) (Kd.R_types (Kd.R_apart' (HO293.out) (Kd.N_typed HO290.out) (by decide)) BK254.out (by decide)) (fun k_ hk => ⟨⟨(.inr (hk.1.1.1)), hk.2⟩, hk.1.2⟩))).2.1 (Kd.R_F (Kd.R_mono (ok' := (fun k_ => ((fun k_ => (P0_ k_ ∨ w.heap.size ≤ k_) ∧ k_ ≠ gb254)) k_ ∧ some k_ ≠ (v289 : Value).ownBlock)) (Kd.R_types (Kd.R_apart' (HO293.out) (Kd.N_typed HO290.out) (by decide)) BK254.out (by decide)) (fun k_ hk => ⟨⟨(.inr (hk.1.1.1)), hk.2⟩, hk.1.2⟩))) (Kd.R_reads' (Kd.R_mono (ok' := (fun k_ => ((fun k_ => (P0_ k_ ∨ w.heap.size ≤ k_) ∧ k_ ≠ gb254)) k_ ∧ some k_ ≠ (v289 : Value).ownBlock)) (Kd.R_types (Kd.R_apart' (HO297.out) (Kd.N_typed HO290.out) (by decide)) BK254.out (by decide)) (fun k_ hk => ⟨⟨(.inr (hk.1.1.1)), hk.2⟩, hk.1.2⟩))).2.1 (Kd.R_F (Kd.R_mono (ok' := (fun k_ => ((fun k_ => (P0_ k_ ∨ w.heap.size ≤ k_) ∧ k_ ≠ gb254)) k_ ∧ some k_ ≠ (v289 : Value).ownBlock)) (Kd.R_types (Kd.R_apart' (HO297.out) (Kd.N_typed HO290.out) (by decide)) BK254.out (by decide)) (fun k_ hk => ⟨⟨(.inr (hk.1.1.1)), hk.2⟩, hk.1.2⟩))) (Kd.R_reads' (Kd.R_mono (ok' := (fun k_ => ((fun k_ => (P0_ k_ ∨ w.heap.size ≤ k_) ∧ k_ ≠ gb254)) k_ ∧ some k_ ≠ (v289 : Value).ownBlock)) (Kd.R_types (Kd.R_apart' (HO300.out) (Kd.N_typed HO290.out) (by decide)) BK254.out (by decide)) (fun k_ hk => ⟨⟨(.inr (hk.1.1.1)), hk.2⟩, hk.1.2⟩))).2.1 (Kd.R_F (Kd.R_mono (ok' := (fun k_ => ((fun k_ => (P0_ k_ ∨ w.heap.size ≤ k_) ∧ k_ ≠ gb254)) k_ ∧ some k_ ≠ (v289 : Value).ownBlock)) (Kd.R_types (Kd.R_apart' (HO300.out) (Kd.N_typed HO290.out) (by decide)) BK254.out (by decide)) (fun k_ hk => ⟨⟨(.inr (hk.1.1.1)), hk.2⟩, hk.1.2⟩))) (Kd.R_reads' (Kd.R_mono (ok' := (fun k_ => ((fun k_ => (P0_ k_ ∨ w.heap.size ≤ k_) ∧ k_ ≠ gb254)) k_ ∧ some k_ ≠ (v289 : Value).ownBlock)) (Kd.R_types (Kd.R_apart' (HO303.out) (Kd.N_typed HO290.out) (by decide)) BK254.out (by decide)) (fun k_ hk => ⟨⟨(.inr (hk.1.1.1)), hk.2⟩, hk.1.2⟩))).2.1 (Kd.R_F (Kd.R_mono (ok' := (fun k_ => ((fun k_ => (P0_ k_ ∨ w.heap.size ≤ k_) ∧ k_ ≠ gb254)) k_ ∧ some k_ ≠ (v289 : Value).ownBlock)) (Kd.R_types (Kd.R_apart' (HO303.out) (Kd.N_typed HO290.out) (by decide)) BK254.out (by decide)) (fun k_ hk => ⟨⟨(.inr (hk.1.1.1)), hk.2⟩, hk.1.2⟩)))))
           (case aB => exact (wmv HB.out))
           (case aF => exact (fun k_ hk => ⟨(.inr (Nat.le_trans (below_size (wmv HB.out)) hk)), Kd.freshB (bmv BK254.out) k_ hk⟩))
           (case aO => exact (Kd.N_mv (Kd.N_mono HO290.out (fun _ hk => ⟨hk.1.1.1.1.1, hk.1.1.1.1.2⟩))))
           (case aS => exact (below_size (wmv HB.out)))
           (case aL => have := LMc35.out; omega)
           intro v305 w46 ho hb hg hat
           rw [← Ny304.out] at ho
           have n0_ := am (Kd.V_afterv (ok := (fun k_ => (P0_ k_ ∨ w.heap.size ≤ k_) ∧ some k_ ≠ (.slice Ao47 t291.length co47 : Value).ownBlock ∧ some k_ ≠ (.slice Ao48 t295.length co48 : Value).ownBlock ∧ some k_ ≠ (.slice Ao49 t298.length co49 : Value).ownBlock ∧ some k_ ≠ (.slice Ao50 t301.length co50 : Value).ownBlock ∧ k_ ≠ gb254)) (Kd.V_mv (Kd.V_mono HO_0.out (fun _ hk => ⟨⟨hk.1.1.1.1.1.1, ⟨hk.1.1.1.2, ⟨hk.1.1.2, ⟨hk.1.2, ⟨hk.2, hk.1.1.1.1.1.2⟩⟩⟩⟩⟩, hk.1.1.1.1.2⟩))) hg hat)
           have n1_ := am (blk_grown (bmv BK254.out) hg (Kd.N_away HO290.out (fun _ hk => hk.1.1.1.1.2)))
           have n2_ := am (Kd.V_afterv (ok := (fun k_ => (P0_ k_ ∨ w.heap.size ≤ k_) ∧ some k_ ≠ (.slice Ao47 t291.length co47 : Value).ownBlock ∧ some k_ ≠ (.slice Ao48 t295.length co48 : Value).ownBlock ∧ some k_ ≠ (.slice Ao49 t298.length co49 : Value).ownBlock ∧ some k_ ≠ (.slice Ao50 t301.length co50 : Value).ownBlock ∧ k_ ≠ gb254)) (Kd.V_mv (Kd.V_mono HO287.out (fun _ hk => ⟨⟨hk.1.1.1.1.1.1, ⟨hk.1.1.1.2, ⟨hk.1.1.2, ⟨hk.1.2, ⟨hk.2, hk.1.1.1.1.1.2⟩⟩⟩⟩⟩, hk.1.1.1.1.2⟩))) hg hat)
           have n3_ := am (Kd.V_afterv (ok := (fun k_ => (P0_ k_ ∨ w.heap.size ≤ k_) ∧ some k_ ≠ (.slice Ao47 t291.length co47 : Value).ownBlock ∧ some k_ ≠ (.slice Ao48 t295.length co48 : Value).ownBlock ∧ some k_ ≠ (.slice Ao49 t298.length co49 : Value).ownBlock ∧ some k_ ≠ (.slice Ao50 t301.length co50 : Value).ownBlock ∧ k_ ≠ gb254)) (Kd.V_mv (Kd.V_mono HO311.out (fun _ hk => ⟨⟨hk.1.1.1.1.1.1, ⟨hk.1.1.1.2, ⟨hk.1.1.2, ⟨hk.1.2, ⟨hk.2, hk.1.1.1.1.1.2⟩⟩⟩⟩⟩, hk.1.1.1.1.2⟩))) hg hat)
           have n4_ := am (hb)
           have n5_ := am (ho)
           clear HO_0 BK254 HO287 HO311 HB HO290 HO293 HO297 HO300 HO303
           revert n0_ n1_ n2_ n3_ n4_ n5_
           intro HO_0 BK254 HO287 HO311 HB HO306
           clear ho hb hg hat
           refine hK.out _ _ ⟨bc BK254 0, bc BK254 1, bc BK254 2, bc BK254 3, bc BK254 4⟩ (fun hHeld => ?_)
           clear hK K
           refine nm ?_
           refine one_ (i := 12) (N := some 64) (bb 14 8191) rfl rfl (one_of HT_.out (by kernel_rfl)) (by decide) (fun K hK => ?_)
           refine Kd.N_append_rows_step k44 (w0 := w) w.heap.size (by rfl) (.tmp 60) (.tmp 63) 31 44 (.agg #[(.slice none 0 0), (.int .i64 0), (.slice none 0 0), (.slice none 0 0), (.slice none 0 0)]) 104 rfl Try.underlying31 info44 rfl (by decide) (by omega) v305 y304 y307 _ _ _ (fun k_ => (P0_ k_ ∨ w.heap.size ≤ k_) ∧ k_ ≠ gb254) (fun k_ => ((fun k_ => (P0_ k_ ∨ w.heap.size ≤ k_) ∧ k_ ≠ gb254)) k_ ∧ some k_ ≠ (v305 : Value).ownBlock) rfl rfl ?aO ?aR (fun _ hk => hk) ?aF ?aB ?aS ?aL ?_
           (case aR => exact (by skip; exact Kd.V_F (Kd.V_mono (ok' := (fun k_ => ((fun k_ => (P0_ k_ ∨ w.heap.size ≤ k_) ∧ k_ ≠ gb254)) k_ ∧ some k_ ≠ (v305 : Value).ownBlock)) (HO311.out) (fun k_ hk => ⟨⟨hk.1.1, hk.1.2.2.2.2.2⟩, hk.2⟩))))
           (case aB => exact (wmv HB.out))
           (case aF => exact (fun k_ hk => ⟨(.inr (Nat.le_trans (below_size (wmv HB.out)) hk)), Kd.freshB (bmv BK254.out) k_ hk⟩))
           (case aO => exact (Kd.N_mv HO306.out))
           (case aS => exact (below_size (wmv HB.out)))
           (case aL => have := LMc38.out; omega)
           intro v313 w51 ho hb hg hat
           rw [← Ny312.out] at ho
           have n0_ := am (Kd.V_afterv (ok := (fun k_ => (P0_ k_ ∨ w.heap.size ≤ k_) ∧ k_ ≠ gb254)) (Kd.V_mv (Kd.V_mono HO_0.out (fun _ hk => ⟨⟨hk.1.1, hk.1.2.2.2.2.2⟩, hk.2⟩))) hg hat)
           have n1_ := am (blk_grown (bmv BK254.out) hg (Kd.N_away HO306.out (fun _ hk => hk.2)))
           have n2_ := am (Kd.V_afterv (ok := (fun k_ => (P0_ k_ ∨ w.heap.size ≤ k_) ∧ k_ ≠ gb254)) (Kd.V_mv (Kd.V_mono HO287.out (fun _ hk => ⟨⟨hk.1.1, hk.1.2.2.2.2.2⟩, hk.2⟩))) hg hat)
           have n3_ := am (Kd.V_afterv (ok := (fun k_ => (P0_ k_ ∨ w.heap.size ≤ k_) ∧ k_ ≠ gb254)) (Kd.V_mv (Kd.V_mono HO311.out (fun _ hk => ⟨⟨hk.1.1, hk.1.2.2.2.2.2⟩, hk.2⟩))) hg hat)
           have n4_ := am (hb)
           have n5_ := am (ho)
           clear HO_0 BK254 HO287 HO311 HB HO306
           revert n0_ n1_ n2_ n3_ n4_ n5_
           intro HO_0 BK254 HO287 HO311 HB HO314
           clear ho hb hg hat
           refine hK.out _ _ ⟨bc BK254 0, bc BK254 1, bc BK254 2, bc BK254 3, bc BK254 4⟩ (fun hHeld => ?_)
           clear hK K
           refine nm ?_
           refine pu (i := 13) (N := some 4) (bb 14 16383) HT_ ?_
           refine done_ (done_of HT_.out (by kernel_rfl)) ?_
           try go_wp2
           go_ret
           exact ⟨_, by first | rfl | (simp [errW_none, errW_some] <;> rfl) | (simp [*, errW_none, errW_some] <;> rfl), by (with_reducible repeat (first | apply Kd.N_alloc | apply Kd.N_drewN | apply Kd.N_drew)); exact Kd.N_mono HO314.out (fun _ hk => hk.1), by repeat (first | (with_reducible first | exact HB.out | apply below_alloc | apply pw_below_drewN | apply below_drew1 | refine below_set ?_ GE254.out) | exact HB.out)⟩
          ·rw [if_neg c38] at H
           exact absurd H (by simp)
         ·rw [if_neg c35] at H
          exact absurd H (by simp)
        ·rw [if_neg c33] at H
         exact absurd H (by simp)
       ·rw [if_neg c32] at H
        exact absurd H (by simp)
      ·rw [if_neg c31] at H
       exact absurd H (by simp)
end Go.Proofs.Ytndkimjmbpbcmaa.Q
