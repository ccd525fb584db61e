-- packed by wip/tools/pack.py (a program of this session) out of its own texts
import Derived.ArgAppend
import Derived.Below
import Derived.BigQuiet
import Derived.Deep.AppendLies
import Derived.Deep.CutBlock
import Derived.Deep.DeepCutAuto
import Derived.Deep.Draws
import Derived.Deep.LoopGhost
import Derived.Deep.OwnRows
import Derived.Deep.QuietTactic
import Derived.Deep.RegionHeld3
import Derived.KernelRfl
import Derived.Laws.BitsLemmas
import Derived.Laws.BytesArg
import Derived.Laws.IdiomCopy
import Derived.Laws.MakeOwn
import Derived.Laws.OwnMore
import Derived.Laws.Rows
import Derived.Laws.Slices
import Derived.Lib.AppendStr
import Derived.Lib.ConvBytes
import Derived.Maps.AppendAt
import Derived.OrdersHeld
import Derived.OwnWalk
import Derived.RowKit
import Derived.RowKit3
import Derived.Tactics
import Derived.Test.YtmnepkbmcnpjlaaProg
import Derived.WalkKit
import Derived.WideLaws
import Derived.Test.YtmnepkbmcnpjlaaPRunsTogether1
import Derived.Test.YtmnepkbmcnpjlaaPRunsTogether3
import Derived.Test.YtmnepkbmcnpjlaaPRunsTogether4
import Derived.Test.YtmnepkbmcnpjlaaPRunsTogether5
namespace Go.Proofs.Ytmnepkbmcnpjlaa.Q
open Go.RowKit Go.Proofs.YtmnepkbmcnpjlaaW.PrintWords Go.Proofs.YtmnepkbmcnpjlaaW.PrintLast Go.Proofs.YtmnepkbmcnpjlaaW.PrintMore
attribute [local go_sem] max2_int min2_int max_two min_two max_three min_three max_four min_four
set_option linter.unusedVariables false
set_option linter.unusedSimpArgs false
mutual
def hypercubelaw1_Facts.l0 : Nat → Int → List Int → List Int → Int → List Int → Int → Option (List Int × Int × (List (S45)))
 | 0, _, _, _, _, _, _ => none
 | k + 1, x0, x1, x3, x11, x209000, x209001 => (hypercubelaw1_within.f x0 4).bind fun t209 => (if x11 ≤ t209 then (if x11 < (x1.length : Int) then (if 0 ≤ x11 then ((hypercubelaw1_within.f (rd x1 x11) 5).bind fun t211 => (if x209000.length < 17592186044416 then (hypercubelaw1_Facts.l0 k x0 x1 x3 (wrap64 (x11 + 1)) (x209000 ++ [wrap64 (1 + t211)]) x209001) else (none))) else (none)) else ((hypercubelaw1_within.f (wrap64 (x11 + 2)) 5).bind fun t215 => (if x209000.length < 17592186044416 then (hypercubelaw1_Facts.l0 k x0 x1 x3 (wrap64 (x11 + 1)) (x209000 ++ [wrap64 (1 + t215)]) x209001) else (none)))) else ((hypercubelaw1_within.f x0 7).bind fun t219 => (if t219 = 0 then (if 0 < (x209000.length : Int) then (hypercubelaw1_Facts.j1 k x3 (x209000.set (0 : Int).toNat 16) x209001) else (none)) else (hypercubelaw1_Facts.j1 k x3 x209000 x209001))))
def hypercubelaw1_Facts.j1 : Nat → List Int → List Int → Int → Option (List Int × Int × (List (S45)))
 | 0, _, _, _ => none
 | k + 1, x3, x209000, x209001 => hypercubelaw1_Facts.l1 k x3 ([] : List (S45)) 0 x209000 x209001
def hypercubelaw1_Facts.l1 : Nat → List Int → List (S45) → Int → List Int → Int → Option (List Int × Int × (List (S45)))
 | 0, _, _, _, _, _ => none
 | k + 1, x3, x13, x14, x209000, x209001 => if x14 < (x3.length : Int) then (hypercubelaw1_Facts.j3 k x3 x13 x14 (decide (x14 < 40)) x209000 x209001) else (hypercubelaw1_Facts.j3 k x3 x13 x14 false x209000 x209001)
def hypercubelaw1_Facts.j3 : Nat → List Int → List (S45) → Int → Bool → List Int → Int → Option (List Int × Int × (List (S45)))
 | 0, _, _, _, _, _, _ => none
 | k + 1, x3, x13, x14, x59, x209000, x209001 => if x59 = true then (if 0 ≤ x14 then (if x14 < (x3.length : Int) then (hypercubelaw1_Facts.l2 k x3 x13 x14 (rd x3 x14) 0 x209000 x209001 ([] : List Int)) else (none)) else (none)) else (some (x209000, x209001, x13))
def hypercubelaw1_Facts.l2 : Nat → List Int → List (S45) → Int → Int → Int → List Int → Int → List Int → Option (List Int × Int × (List (S45)))
 | 0, _, _, _, _, _, _, _, _ => none
 | k + 1, x3, x13, x14, x15, x17, x209000, x209001, x223000 => if x17 < (x209000.length : Int) then (if 0 ≤ x17 then ((hypercubelaw1_within.f x15 (rd x209000 x17)).bind fun t224 => (if x223000.length < 17592186044416 then (hypercubelaw1_Facts.l2 k x3 x13 x14 (wrap64 (Int.tdiv x15 5)) (wrap64 (x17 + 1)) x209000 x209001 (x223000 ++ [t224])) else (none))) else (none)) else (hypercubelaw1_Facts.l3 k x3 x13 x14 x15 0 x209000 x209001 x223000 ([] : List Int))
def hypercubelaw1_Facts.l3 : Nat → List Int → List (S45) → Int → Int → Int → List Int → Int → List Int → List Int → Option (List Int × Int × (List (S45)))
 | 0, _, _, _, _, _, _, _, _, _ => none
 | k + 1, x3, x13, x14, x15, x18, x209000, x209001, x223000, x223001 => if x18 < x209001 then ((hypercubelaw1_within.f (wrap64 (x15 + (wrap64 (7 * x18)))) 201).bind fun t228 => (if x223001.length < 17592186044416 then (hypercubelaw1_Facts.l3 k x3 x13 x14 x15 (wrap64 (x18 + 1)) x209000 x209001 x223000 (x223001 ++ [wrap64 (t228 - 100)])) else (none))) else (if x13.length < 2932031007402 then (hypercubelaw1_Facts.l1 k x3 (x13 ++ [(⟨x223000, x223001⟩ : S45)]) (wrap64 (x14 + 1)) x209000 x209001) else (none))
end
def hypercubelaw1_Facts.f (k : Nat) (a0 : Int) (l1 : List Int) (a2 : Int) (l3 : List Int) : Option (List Int × Int × (List (S45))) := (hypercubelaw1_within.f a2 3).bind fun t207 => (hypercubelaw1_Facts.l0 k a0 l1 l3 0 ([] : List Int) t207)
def hypercubelaw1_Facts.T8 : Bool × List (List Nat × List Nat) := (true, [([], []), ([0], [0]), ([], []), ([2], [2]), ([3], [3]), ([4], [4]), ([1, 5, 3], [1, 5]), ([0, 1, 2, 3, 4, 5, 6], []), ([7, 6, 6, 0, 1, 2, 3, 4, 5, 6], [6, 7])])
def hypercubelaw1_Facts.B8 : List Nat := [0, 1, 0, 4, 12, 28, 63, 127, 255]
theorem hypercubelaw1_Facts.tab8 : rtab .any (opsOf Try.f13 8) = hypercubelaw1_Facts.T8 := by kernel_rfl
theorem hypercubelaw1_Facts.bits8 : waitsOk hypercubelaw1_Facts.T8.2 hypercubelaw1_Facts.B8 = true := by kernel_rfl
def hypercubelaw1_Facts.T20 : Bool × List (List Nat × List Nat) := (true, [([], []), ([0], [0]), ([], []), ([], []), ([3], [3]), ([], []), ([4, 5], [4, 5]), ([6], [6]), ([2, 7], [2, 7]), ([8], [8]), ([1, 9, 8], [1, 9]), ([0, 1, 2, 3, 4, 5, 6, 7, 8, 9, 10], []), ([11, 10, 10, 0, 1, 2, 3, 4, 5, 6, 7, 8, 9, 10], [10, 11])])
def hypercubelaw1_Facts.B20 : List Nat := [0, 1, 0, 0, 8, 0, 56, 120, 252, 508, 1023, 2047, 4095]
theorem hypercubelaw1_Facts.tab20 : rtab .any (opsOf Try.f13 20) = hypercubelaw1_Facts.T20 := by kernel_rfl
theorem hypercubelaw1_Facts.bits20 : waitsOk hypercubelaw1_Facts.T20.2 hypercubelaw1_Facts.B20 = true := by kernel_rfl
def hypercubelaw1_Facts.T25 : Bool × List (List Nat × List Nat) := (true, [([], []), ([0], [0]), ([], []), ([], []), ([3], [3]), ([2, 4], [2, 4]), ([5], [5]), ([6], [6]), ([7], [7]), ([1, 8, 6], [1, 8]), ([0, 1, 2, 3, 4, 5, 6, 7, 8, 9], []), ([10, 9, 9, 0, 1, 2, 3, 4, 5, 6, 7, 8, 9], [9, 10])])
def hypercubelaw1_Facts.B25 : List Nat := [0, 1, 0, 0, 8, 28, 60, 124, 252, 511, 1023, 2047]
theorem hypercubelaw1_Facts.tab25 : rtab .any (opsOf Try.f13 25) = hypercubelaw1_Facts.T25 := by kernel_rfl
theorem hypercubelaw1_Facts.bits25 : waitsOk hypercubelaw1_Facts.T25.2 hypercubelaw1_Facts.B25 = true := by kernel_rfl
set_option maxHeartbeats 8000000 in
set_option maxRecDepth 100000 in
theorem hypercubelaw1_Facts.calls (k : Nat) (a0 : Int) (A1 : Option Addr) (c1 : Nat) (l1 : List Int) (a2 : Int) (A3 : Option Addr) (c3 : Nat) (l3 : List Int) (r1 : List Int) (r2 : Int) (r3 : List (S45)) (w : World) (hr1 : Kd.C (Kd.int .i64) w A1 l1.length l1) (hc1 : l1.length ≤ c1) (hr3 : Kd.C (Kd.int .i64) w A3 l3.length l3) (hc3 : l3.length ≤ c3) (h : hypercubelaw1_Facts.f k a0 l1 a2 l3 = some (r1, r2, r3)) :
  Calls Try.prog 13 #[.int .i64 a0, .slice A1 l1.length c1, .int .i64 a2, .slice A3 l3.length c3] w fun e w' => ∃ v0_ v2_ : Value, e = .returned (.tuple #[.agg #[v0_, .int .i64 r2], v2_]) ∧ Kd.R (Kd.int .i64) 3 w' w.heap.size (fun _ => True) v0_ r1 ∧ Kd.S k45 45 w' w.heap.size (fun k_ => some k_ ≠ (v0_ : Value).ownBlock) v2_ r3 ∧ Below w.heap.size w w' := by
 have hu25 := Try.underlying25
 have hu45 := Try.underlying45
 have HR1 := Aside0.mk hr1
 have HC1 := Aside0.mk hc1
 clear hr1 hc1
 have HR3 := Aside0.mk hr3
 have HC3 := Aside0.mk hc3
 clear hr3 hc3
 have HB := Aside0.mk (Below.refl w.heap.size w)
 have H : ((hypercubelaw1_within.f a2 3).bind fun t207 => (hypercubelaw1_Facts.l0 k a0 l1 l3 0 ([] : List Int) t207)) = some (r1, r2, r3) := h
 clear h
 replace H := Option.bind_eq_some_iff.mp H
 obtain ⟨t207, A50, H⟩ := H
 replace H : (hypercubelaw1_Facts.l0 k a0 l1 l3 0 ([] : List Int) t207) = some (r1, r2, r3) := H
 have A5 := Aside0.mk A50
 clear A50
 have H' := Aside0.mk H
 clear H
 go_enter Try.func13, Try.ntmps13
 go_wp2_with (first | ((with_reducible refine gate_dst (N := 8) rfl ?_); refine box_event ?hg (N := 8) ?hd (cs := #[.slice none 0 0, .int .i64 0]) (t := 25) ?hr ?_; (case hd => rfl); (case hg => rfl); (case hr => first | (go_simp; done) | (go_simp; rfl)); intro gb206 hg w6 hbox hb; have n0_ := Aside0.mk (below_step (by repeat (first | (with_reducible first | exact HB.out | apply below_alloc | apply pw_below_drewN | apply below_drew1) | exact HB.out)) hb); have n1_ := Aside0.mk (hbox); have n2_ := Aside0.mk ((by rw [hg]; exact (below_size (by repeat (first | (with_reducible first | exact HB.out | apply below_alloc | apply pw_below_drewN | apply below_drew1) | exact HB.out))) : w.heap.size ≤ gb206)); have n3_ := Aside0.mk ((by rw [hg]; exact (below_size (by repeat (first | (with_reducible first | exact HB.out | apply below_alloc | apply pw_below_drewN | apply below_drew1) | exact HB.out))) : w.heap.size ≤ gb206)); clear HB; revert n0_ n1_ n2_ n3_; intro HB BK206 GW206 GE206; clear hb hbox hg) | ((with_reducible refine gate_callee (f := 25) rfl ?_); refine goesL_ (some 20) rfl rfl Try.func25 (by kernel_rfl) rfl #[.int .i64 a2, .int .i64 3] rfl (by (try simp only [List.map_toArray, List.map_cons, List.map_nil]); first | done | rfl | (simp only [List.length_drop, List.length_take]; rfl)) ?_; (with_reducible refine (hypercubelaw1_within.calls a2 3 t207 _ A5.out).mono ?_); rintro e w' ⟨rfl, ⟨nd, rfl⟩⟩; refine ⟨_, rfl, ?_⟩; (try (rw [drewN_self w6]; generalize hq_ : World.drewN w6 _ = w6; have n0_ : Aside0 (w6.heap[gb206]? = some (.cells #[.slice none 0 0, .int .i64 0] 25 (0, 0))) := ⟨by rw [← hq_]; exact (by (with_reducible repeat (first | refine blk_drewN ?_ _ | refine blk_drew ?_ | refine blk_alloc ?_ _)); exact BK206.out)⟩; have n1_ : Aside0 (Below w.heap.size w w6) := ⟨by rw [← hq_]; exact (by repeat (first | (with_reducible first | exact HB.out | apply below_alloc | apply pw_below_drewN | apply below_drew1 | refine below_set ?_ GE206.out) | exact HB.out))⟩; clear BK206 HB hq_; revert n0_ n1_; intro BK206 HB))) | ((with_reducible refine gate_dst (N := 10) rfl ?_); refine box_event ?hg (N := 10) ?hd (cs := #[.slice none 0 0, .int .i64 0]) (t := 25) ?hr ?_; (case hd => rfl); (case hg => rfl); (case hr => first | (go_simp; done) | (go_simp; rfl)); intro gb208 hg w7 hbox hb; have n0_ := Aside0.mk (blk_below (g := gb206) (o := .cells #[.slice none 0 0, .int .i64 0] 25 (0, 0)) (by (with_reducible repeat (first | refine blk_drewN ?_ _ | refine blk_drew ?_ | refine blk_alloc ?_ _)); exact BK206.out) hb); have n1_ := Aside0.mk (below_step (by repeat (first | (with_reducible first | exact HB.out | apply below_alloc | apply pw_below_drewN | apply below_drew1 | refine below_set ?_ GE206.out) | exact HB.out)) hb); have n2_ := Aside0.mk (hbox); have n3_ := Aside0.mk ((by rw [hg]; exact (below_size (by repeat (first | (with_reducible first | exact HB.out | apply below_alloc | apply pw_below_drewN | apply below_drew1 | refine below_set ?_ GE206.out) | exact HB.out))) : w.heap.size ≤ gb208)); have n4_ := Aside0.mk ((by rw [hg]; exact (below_size (by repeat (first | (with_reducible first | exact HB.out | apply below_alloc | apply pw_below_drewN | apply below_drew1 | refine below_set ?_ GE206.out) | exact HB.out))) : w.heap.size ≤ gb208)); have n5_ := Aside0.mk ((by rw [hg]; exact Nat.ne_of_lt (blk_lt (g := gb206) (o := .cells #[.slice none 0 0, .int .i64 0] 25 (0, 0)) (by (with_reducible repeat (first | refine blk_drewN ?_ _ | refine blk_drew ?_ | refine blk_alloc ?_ _)); exact BK206.out)) : gb206 ≠ gb208)); have n6_ := Aside0.mk ((by rw [hg]; exact Nat.ne_of_gt (blk_lt (g := gb206) (o := .cells #[.slice none 0 0, .int .i64 0] 25 (0, 0)) (by (with_reducible repeat (first | refine blk_drewN ?_ _ | refine blk_drew ?_ | refine blk_alloc ?_ _)); exact BK206.out)) : gb208 ≠ gb206)); clear BK206 HB; revert n0_ n1_ n2_ n3_ n4_ n5_ n6_; intro BK206 HB BK208 GW208 GE208 NB206_208 NB208_206; clear hb hbox hg; have hnb8 := NB208_206.out; have hnc8 := NB206_208.out; have hcz9_0 : w7.cell? ⟨gb208, 0, none⟩ = some (.slice none 0 0) := (blk_cell BK208.out 0).trans rfl; have hcz9_1 : w7.cell? ⟨gb208, 1, none⟩ = some (.int .i64 0) := (blk_cell BK208.out 1).trans rfl; have hfz9_0 := blk_frozen BK208.out 0; have hfz9_1 := blk_frozen BK208.out 1))
 go_loopg [11] k (fun kq v11 w' => ∃ (x11_1 : Int) (x209000_1 : List Int) (u209000 : Value), v11 = .int .i64 x11_1 ∧ Aside0 (hypercubelaw1_Facts.l0 kq a0 l1 l3 x11_1 x209000_1 t207 = some (r1, r2, r3)) ∧ Aside0 (kq ≤ k) ∧ Aside0 (Kd.R (Kd.int .i64) 3 w' w.heap.size (fun _ => True) u209000 x209000_1) ∧ Aside0 (w'.heap[gb206]? = some (.cells #[(.slice none 0 0), .int .i64 0] 25 (0, 0))) ∧ Aside0 (w'.heap[gb208]? = some (.cells #[u209000, .int .i64 t207] 25 (0, 0))) ∧ Aside0 (Below w.heap.size w w'))
 case atStart => exact ⟨(0), (([] : List Int)), (.slice none 0 0), (by first | rfl | (simp; done) | (simp [*]; done)), H', ⟨Nat.le_refl _⟩, ⟨by first | exact Kd.R_nil _ _ _ _ _ | exact Kd.N_nil _ _ _ _ _ | exact Kd.V_nil _ _ _ _ _ | exact Kd.Q_nil _ _ _ _ _ | exact Kd.S_nil _ _ _ _ _⟩, ⟨by (with_reducible repeat (first | refine blk_drewN ?_ _ | refine blk_drew ?_ | refine blk_alloc ?_ _)); refine blk_far ?_ NB206_208.out _; (with_reducible repeat (first | refine blk_drewN ?_ _ | refine blk_drew ?_ | refine blk_alloc ?_ _)); refine blk_far ?_ NB206_208.out _; (with_reducible repeat (first | refine blk_drewN ?_ _ | refine blk_drew ?_ | refine blk_alloc ?_ _)); exact BK206.out⟩, ⟨by (with_reducible repeat (first | refine blk_drewN ?_ _ | refine blk_drew ?_ | refine blk_alloc ?_ _)); refine blk_put (cs := #[.slice none 0 0, .int .i64 0]) ?_ 1 _ rfl; (with_reducible repeat (first | refine blk_drewN ?_ _ | refine blk_drew ?_ | refine blk_alloc ?_ _)); refine blk_put (cs := #[.slice none 0 0, .int .i64 0]) ?_ 0 _ rfl; (with_reducible repeat (first | refine blk_drewN ?_ _ | refine blk_drew ?_ | refine blk_alloc ?_ _)); exact BK208.out⟩, ⟨by repeat (first | (with_reducible first | exact HB.out | apply below_alloc | apply pw_below_drewN | apply below_drew1 | refine below_set ?_ GE206.out | refine below_set ?_ GE208.out) | exact HB.out)⟩⟩
 case round =>
  clear H'
  try clear c1
  try clear c2
  try clear p2
  try clear c3
  try clear c8
  try clear hcz9_0
  try clear hcz9_1
  try clear hfz9_0
  try clear hfz9_1
  obtain ⟨x11_1, x209000_1, u209000, rfl, HA, HK1, HO_209000, BK206, BK208, HB⟩ := hrel
  cases gk with
  | zero => exact absurd HA.out (by simp [hypercubelaw1_Facts.l0])
  | succ k1 =>
   have H := HA.out
   clear HA
   simp only [hypercubelaw1_Facts.l0] at H
   replace H := Option.bind_eq_some_iff.mp H
   obtain ⟨t209, A100, H⟩ := H
   replace H : (if x11_1 ≤ t209 then (if x11_1 < (l1.length : Int) then (if 0 ≤ x11_1 then ((hypercubelaw1_within.f (rd l1 x11_1) 5).bind fun t211 => (if x209000_1.length < 17592186044416 then (hypercubelaw1_Facts.l0 k1 a0 l1 l3 (wrap64 (x11_1 + 1)) (x209000_1 ++ [wrap64 (1 + t211)]) t207) else (none))) else (none)) else ((hypercubelaw1_within.f (wrap64 (x11_1 + 2)) 5).bind fun t215 => (if x209000_1.length < 17592186044416 then (hypercubelaw1_Facts.l0 k1 a0 l1 l3 (wrap64 (x11_1 + 1)) (x209000_1 ++ [wrap64 (1 + t215)]) t207) else (none)))) else ((hypercubelaw1_within.f a0 7).bind fun t219 => (if t219 = 0 then (if 0 < (x209000_1.length : Int) then (hypercubelaw1_Facts.j1 k1 l3 (x209000_1.set (0 : Int).toNat 16) t207) else (none)) else (hypercubelaw1_Facts.j1 k1 l3 x209000_1 t207)))) = some (r1, r2, r3) := H
   have A10 := Aside0.mk A100
   clear A100
   by_cases c11 : x11_1 ≤ t209
   ·rw [if_pos c11] at H
    have c11b0 : decide (x11_1 ≤ t209) = true := decide_eq_true c11
    clear c11
    by_cases c12 : x11_1 < (l1.length : Int)
    ·rw [if_pos c12] at H
     have c12b0 : decide (x11_1 < (l1.length : Int)) = true := decide_eq_true c12
     clear c12
     by_cases c13 : 0 ≤ x11_1
     ·rw [if_pos c13] at H
      have c13b0 : decide (0 ≤ x11_1) = true := decide_eq_true c13
      clear c13
      replace H := Option.bind_eq_some_iff.mp H
      obtain ⟨t211, A140, H⟩ := H
      replace H : (if x209000_1.length < 17592186044416 then (hypercubelaw1_Facts.l0 k1 a0 l1 l3 (wrap64 (x11_1 + 1)) (x209000_1 ++ [wrap64 (1 + t211)]) t207) else (none)) = some (r1, r2, r3) := H
      have A14 := Aside0.mk A140
      clear A140
      by_cases c15 : x209000_1.length < 17592186044416
      ·rw [if_pos c15] at H
       have LMc15 := Aside0.mk c15
       clear c15
       obtain ⟨y212, hy212⟩ : ∃ y_ : List Int, y_ = (x209000_1 ++ [wrap64 (1 + t211)]) := ⟨_, rfl⟩
       replace H : (hypercubelaw1_Facts.l0 k1 a0 l1 l3 (wrap64 (x11_1 + 1)) y212 t207) = some (r1, r2, r3) := by rw [hy212]; with_reducible exact H
       have Ny212 := Aside0.mk hy212
       clear hy212
       have H' := Aside0.mk H
       clear H
       try go_wp2_with (first | ((with_reducible refine gate_callee (f := 25) rfl ?_); refine goesL_ (some 24) rfl rfl Try.func25 (by kernel_rfl) rfl #[.int .i64 a0, .int .i64 4] rfl (by (try simp only [List.map_toArray, List.map_cons, List.map_nil]); first | done | rfl | (simp only [List.length_drop, List.length_take]; rfl)) ?_; (with_reducible refine (hypercubelaw1_within.calls a0 4 t209 _ A10.out).mono ?_); rintro e w' ⟨rfl, ⟨nd, rfl⟩⟩; refine ⟨_, rfl, ?_⟩; (try (rw [drewN_self wr]; generalize hq_ : World.drewN wr _ = wr; have n0_ : Aside0 (Kd.R (Kd.int .i64) 3 wr w.heap.size (fun _ => True) u209000 x209000_1) := ⟨by rw [← hq_]; exact (by (with_reducible repeat (first | apply Kd.R_alloc | apply Kd.R_drewN | apply Kd.R_drew)); exact HO_209000.out)⟩; have n1_ : Aside0 (wr.heap[gb206]? = some (.cells #[.slice none 0 0, .int .i64 0] 25 (0, 0))) := ⟨by rw [← hq_]; exact (by (with_reducible repeat (first | refine blk_drewN ?_ _ | refine blk_drew ?_ | refine blk_alloc ?_ _)); exact BK206.out)⟩; have n2_ : Aside0 (wr.heap[gb208]? = some (.cells #[u209000, .int .i64 t207] 25 (0, 0))) := ⟨by rw [← hq_]; exact (by (with_reducible repeat (first | refine blk_drewN ?_ _ | refine blk_drew ?_ | refine blk_alloc ?_ _)); exact BK208.out)⟩; have n3_ : Aside0 (Below w.heap.size w wr) := ⟨by rw [← hq_]; exact (by repeat (first | (with_reducible first | exact HB.out | apply below_alloc | apply pw_below_drewN | apply below_drew1 | refine below_set ?_ GE206.out | refine below_set ?_ GE208.out) | exact HB.out))⟩; clear HO_209000 BK206 BK208 HB hq_; revert n0_ n1_ n2_ n3_; intro HO_209000 BK206 BK208 HB)); have p210 : 0 ≤ (x11_1 : Int) := of_decide_eq_true (by first | (with_reducible assumption) | assumption); have q210 : x11_1 < (l1.length : Int) := of_decide_eq_true (by first | (with_reducible assumption) | assumption); obtain ⟨ad210, e210, hx210_0⟩ := Kd.at_int HR1.out x11_1 p210 q210; cases e210; replace hx210_0 := (HB.out.cell (World.block_lt_of_cell? w _ hx210_0)).trans hx210_0; replace p210 := eq_true p210; replace q210 := eq_true q210))
       have n0_ := Aside0.mk (Kd.R_drew HO_209000.out)
       have n1_ := Aside0.mk (blk_drew BK206.out)
       have n2_ := Aside0.mk (blk_drew BK208.out)
       have n3_ := Aside0.mk (below_drew1 HB.out)
       clear HO_209000 BK206 BK208 HB
       revert n0_ n1_ n2_ n3_
       intro HO_209000 BK206 BK208 HB
       refine start_ (n := 9) (S := fun w' => w'.cell? ⟨gb208, 0, none⟩ = some (u209000) ∧ w'.cell? ⟨gb208, 1, none⟩ = some (.int .i64 t207)) (ds := [8]) #[false, false, false, false, false, false, false, false, false] (by kernel_rfl) rfl rfl ⟨(blk_cell BK208.out 0).trans rfl, (blk_cell BK208.out 1).trans rfl⟩ (fun hHeld => ?_); refine with_tabW hypercubelaw1_Facts.tab8 hypercubelaw1_Facts.bits8 (fun HT_ HW_ => ?_)
       generalize wr.drew = w16 at HO_209000 BK206 BK208 HB hHeld ⊢
       refine pure_ (i := 0) (N := some 38) (v := ?_) (a' := ?_) #[true, false, false, false, false, false, false, false, false] rfl rfl (any_of HT_.out (by kernel_rfl)) (fun _ _ _ h => h) (Or.inl ⟨by rfl, ?_⟩) ?_ ?_
       rotate_left
       ·intro w'
        go_simp
        with_reducible rfl
       rotate_left
       ·simp only [ps]
        rfl
       refine pure_ (i := 2) (N := some 40) (v := ?_) (a' := ?_) #[true, false, true, false, false, false, false, false, false] rfl rfl (any_of HT_.out (by kernel_rfl)) (fun _ _ _ h => h) (Or.inl ⟨by rfl, ?_⟩) ?_ ?_
       rotate_left
       ·intro w'
        go_simp
        with_reducible rfl
       rotate_left
       ·simp only [ps]
        rfl
       refine take_ (i := 1) (N := some 39) (v := ?_) (a' := ?_) #[true, true, true, false, false, false, false, false, false] rfl rfl (take_ofW HT_.out HW_.out (by kernel_rfl)) (fun _ _ _ h => h) (Or.inl ⟨by rfl, ?_⟩) hHeld ?_ ?_
       rotate_left
       ·rintro w' ⟨s0, s1⟩
        go_simp
        with_reducible rfl
       rotate_left
       ·simp only [ps]
        rfl
       refine one_ (i := 3) (N := some 41) #[true, true, true, true, false, false, false, false, false] rfl rfl (one_of HT_.out (by kernel_rfl)) (by decide) (fun K hK => ?_)
       refine goes_ Try.func25 (by kernel_rfl) rfl #[.int .i64 (rd l1 x11_1), .int .i64 5] (by rfl) rfl rfl (by (try simp only [List.map_toArray, List.map_cons, List.map_nil]); first | done | rfl | (simp only [List.length_drop, List.length_take]; rfl)) ?_
       with_reducible refine (hypercubelaw1_within.calls (rd l1 x11_1) 5 t211 _ A14.out).mono ?_
       rintro e w' ⟨rfl, ⟨nd, rfl⟩⟩
       refine ⟨_, rfl, ?_⟩
       refine hK.out _ _ ⟨(blk_cell BK208.out 0).trans rfl, (blk_cell BK208.out 1).trans rfl⟩ (fun hHeld => ?_)
       clear hK K
       refine norm_ (a' := ?_) ?_ ?_
       rotate_left
       ·show Act.put _ (some 41) _ = _
        simp only [ps]
        rfl
       refine pure_ (i := 4) (N := some 42) (v := ?_) (a' := ?_) #[true, true, true, true, true, false, false, false, false] rfl rfl (any_of HT_.out (by kernel_rfl)) (fun _ _ _ h => h) (Or.inl ⟨by rfl, ?_⟩) ?_ ?_
       rotate_left
       ·intro w'
        go_simp
        with_reducible rfl
       rotate_left
       ·simp only [ps]
        rfl
       refine one_ (i := 5) (N := some 43) #[true, true, true, true, true, true, false, false, false] rfl rfl (one_of HT_.out (by kernel_rfl)) (by decide) (fun K hK => ?_)
       refine value_ (w1 := ?_) (v := ?_) (by rfl) rfl ?_ ?_
       rotate_left 2
       ·go_simp
        constructor
        ·rfl
        ·rfl
       refine hK.out _ _ ⟨(blk_cell (blk_alloc BK208.out _) 0).trans rfl, (blk_cell (blk_alloc BK208.out _) 1).trans rfl⟩ (fun hHeld => ?_)
       clear hK K
       refine norm_ (a' := ?_) ?_ ?_
       rotate_left
       ·show Act.put _ (some 43) _ = _
        simp only [ps]
        rfl
       refine one_ (i := 6) (N := some 44) #[true, true, true, true, true, true, true, false, false] rfl rfl (one_of HT_.out (by kernel_rfl)) (by decide) (fun K hK => ?_)
       refine Kd.R_append_step (Kd.int .i64) (w0 := w) w.heap.size (by rfl) (.tmp 39) (.tmp 43) 22 3 (.int .i64 0) 8 rfl Try.underlying22 info3 rfl (by decide) (by omega) u209000 x209000_1 (wrap64 (1 + t211)) [.int .i64 (wrap64 (1 + t211))] (fun _ => True) (fun _ => False) rfl rfl ?aP (fun _ hk => hk.elim) ?aF ?aO ?aB ?aS ?aL ?_
       (case aP => exact rfl)
       (case aB => exact (wmv HB.out))
       (case aF => exact (fun _ _ => trivial))
       (case aO => exact (Kd.R_mv HO_209000.out))
       (case aS => exact (below_size (wmv HB.out)))
       (case aL => have := LMc15.out; omega)
       intro v213 w17 ho hb hg hat
       rw [← Ny212.out] at ho
       have n0_ := Aside0.mk (blk_grown (bmv BK206.out) hg (Kd.R_ne HO_209000.out BK206.out (by decide)))
       have n1_ := Aside0.mk (blk_grown (bmv BK208.out) hg (Kd.R_ne HO_209000.out BK208.out (by decide)))
       have n2_ := Aside0.mk (hb)
       have n3_ := Aside0.mk (ho)
       clear BK206 BK208 HB HO_209000
       revert n0_ n1_ n2_ n3_
       intro BK206 BK208 HB HO214
       clear ho hb hg hat
       obtain ⟨Ao18, co18, eo18⟩ := Kd.R_slice HO214.out
       (first | subst eo18 | (injection eo18 with f1_ f2_ f3_; have f4_ := f1_.symm; have f5_ := f3_.symm; clear f1_ f2_ f3_; subst f4_; subst f5_))
       refine hK.out _ _ ⟨(blk_cell BK208.out 0).trans rfl, (blk_cell BK208.out 1).trans rfl⟩ (fun hHeld => ?_)
       clear hK K
       refine norm_ (a' := ?_) ?_ ?_
       rotate_left
       ·show Act.put _ (some 44) _ = _
        simp only [ps]
        rfl
       refine pure_ (i := 7) (N := some 45) (v := ?_) (a' := ?_) #[true, true, true, true, true, true, true, true, false] rfl rfl (any_of HT_.out (by kernel_rfl)) (fun _ _ _ h => h) (Or.inl ⟨by rfl, ?_⟩) ?_ ?_
       rotate_left
       ·intro w'
        go_simp
        with_reducible rfl
       rotate_left
       ·simp only [ps]
        rfl
       refine last_ (i := 8) (N := none) #[true, true, true, true, true, true, true, true, true] rfl rfl (one_of HT_.out (by kernel_rfl)) (by decide) (fun K hK => ?_)
       have hs19 : w17.cell? ⟨gb208, 0, none⟩ = some (u209000) := (blk_cell BK208.out 0).trans rfl
       have hfs19 := blk_frozen BK208.out 0
       have hns19_0 := NB206_208.out
       have hms19_0 := NB208_206.out
       refine skip_ (w1 := ?_) (by rfl) rfl ?_ ?_
       rotate_left
       ·go_simp
        rfl
       refine hK.out _ _ ?_
       clear hK K
       refine done_ (done_of HT_.out (by kernel_rfl)) ?_
       try go_wp2
       go_roundg k1
       case measure => have := HK1.out; omega
       case rel => exact ⟨(wrap64 (x11_1 + 1)), (y212), (.slice Ao18 y212.length co18), (by first | rfl | (simp; done) | (simp [*]; done)), H', ⟨by have := HK1.out; omega⟩, ⟨by (with_reducible repeat (first | apply Kd.R_alloc | apply Kd.R_drewN | apply Kd.R_drew)); exact Kd.R_mono (Kd.R_far (p := ⟨gb208, 0, none⟩) (Kd.R_types HO214.out BK208.out (by decide)) (fun _ hk => hk.2) (.slice Ao18 y212.length co18)) (fun _ hk => trivial)⟩, ⟨by (with_reducible repeat (first | refine blk_drewN ?_ _ | refine blk_drew ?_ | refine blk_alloc ?_ _)); refine blk_far ?_ NB206_208.out _; (with_reducible repeat (first | refine blk_drewN ?_ _ | refine blk_drew ?_ | refine blk_alloc ?_ _)); exact BK206.out⟩, ⟨by (with_reducible repeat (first | refine blk_drewN ?_ _ | refine blk_drew ?_ | refine blk_alloc ?_ _)); refine blk_put (cs := #[u209000, .int .i64 t207]) ?_ 0 _ rfl; (with_reducible repeat (first | refine blk_drewN ?_ _ | refine blk_drew ?_ | refine blk_alloc ?_ _)); exact BK208.out⟩, ⟨by repeat (first | (with_reducible first | exact HB.out | apply below_alloc | apply pw_below_drewN | apply below_drew1 | refine below_set ?_ GE206.out | refine below_set ?_ GE208.out) | exact HB.out)⟩⟩
      ·rw [if_neg c15] at H
       exact absurd H (by simp)
     ·rw [if_neg c13] at H
      exact absurd H (by simp)
    ·rw [if_neg c12] at H
     have c12b0 : decide (x11_1 < (l1.length : Int)) = false := decide_eq_false c12
     clear c12
     replace H := Option.bind_eq_some_iff.mp H
     obtain ⟨t215, A200, H⟩ := H
     replace H : (if x209000_1.length < 17592186044416 then (hypercubelaw1_Facts.l0 k1 a0 l1 l3 (wrap64 (x11_1 + 1)) (x209000_1 ++ [wrap64 (1 + t215)]) t207) else (none)) = some (r1, r2, r3) := H
     have A20 := Aside0.mk A200
     clear A200
     by_cases c21 : x209000_1.length < 17592186044416
     ·rw [if_pos c21] at H
      have LMc21 := Aside0.mk c21
      clear c21
      obtain ⟨y216, hy216⟩ : ∃ y_ : List Int, y_ = (x209000_1 ++ [wrap64 (1 + t215)]) := ⟨_, rfl⟩
      replace H : (hypercubelaw1_Facts.l0 k1 a0 l1 l3 (wrap64 (x11_1 + 1)) y216 t207) = some (r1, r2, r3) := by rw [hy216]; with_reducible exact H
      have Ny216 := Aside0.mk hy216
      clear hy216
      have H' := Aside0.mk H
      clear H
      try go_wp2_with (first | ((with_reducible refine gate_callee (f := 25) rfl ?_); refine goesL_ (some 24) rfl rfl Try.func25 (by kernel_rfl) rfl #[.int .i64 a0, .int .i64 4] rfl (by (try simp only [List.map_toArray, List.map_cons, List.map_nil]); first | done | rfl | (simp only [List.length_drop, List.length_take]; rfl)) ?_; (with_reducible refine (hypercubelaw1_within.calls a0 4 t209 _ A10.out).mono ?_); rintro e w' ⟨rfl, ⟨nd, rfl⟩⟩; refine ⟨_, rfl, ?_⟩; (try (rw [drewN_self wr]; generalize hq_ : World.drewN wr _ = wr; have n0_ : Aside0 (Kd.R (Kd.int .i64) 3 wr w.heap.size (fun _ => True) u209000 x209000_1) := ⟨by rw [← hq_]; exact (by (with_reducible repeat (first | apply Kd.R_alloc | apply Kd.R_drewN | apply Kd.R_drew)); exact HO_209000.out)⟩; have n1_ : Aside0 (wr.heap[gb206]? = some (.cells #[.slice none 0 0, .int .i64 0] 25 (0, 0))) := ⟨by rw [← hq_]; exact (by (with_reducible repeat (first | refine blk_drewN ?_ _ | refine blk_drew ?_ | refine blk_alloc ?_ _)); exact BK206.out)⟩; have n2_ : Aside0 (wr.heap[gb208]? = some (.cells #[u209000, .int .i64 t207] 25 (0, 0))) := ⟨by rw [← hq_]; exact (by (with_reducible repeat (first | refine blk_drewN ?_ _ | refine blk_drew ?_ | refine blk_alloc ?_ _)); exact BK208.out)⟩; have n3_ : Aside0 (Below w.heap.size w wr) := ⟨by rw [← hq_]; exact (by repeat (first | (with_reducible first | exact HB.out | apply below_alloc | apply pw_below_drewN | apply below_drew1 | refine below_set ?_ GE206.out | refine below_set ?_ GE208.out) | exact HB.out))⟩; clear HO_209000 BK206 BK208 HB hq_; revert n0_ n1_ n2_ n3_; intro HO_209000 BK206 BK208 HB))))
      have n0_ := Aside0.mk (Kd.R_drew HO_209000.out)
      have n1_ := Aside0.mk (blk_drew BK206.out)
      have n2_ := Aside0.mk (blk_drew BK208.out)
      have n3_ := Aside0.mk (below_drew1 HB.out)
      clear HO_209000 BK206 BK208 HB
      revert n0_ n1_ n2_ n3_
      intro HO_209000 BK206 BK208 HB
      refine start_ (n := 9) (S := fun w' => w'.cell? ⟨gb208, 0, none⟩ = some (u209000) ∧ w'.cell? ⟨gb208, 1, none⟩ = some (.int .i64 t207)) (ds := [8]) #[false, false, false, false, false, false, false, false, false] (by kernel_rfl) rfl rfl ⟨(blk_cell BK208.out 0).trans rfl, (blk_cell BK208.out 1).trans rfl⟩ (fun hHeld => ?_); refine with_tabW hypercubelaw1_Facts.tab8 hypercubelaw1_Facts.bits8 (fun HT_ HW_ => ?_)
      generalize wr.drew = w22 at HO_209000 BK206 BK208 HB hHeld ⊢
      refine pure_ (i := 0) (N := some 38) (v := ?_) (a' := ?_) #[true, false, false, false, false, false, false, false, false] rfl rfl (any_of HT_.out (by kernel_rfl)) (fun _ _ _ h => h) (Or.inl ⟨by rfl, ?_⟩) ?_ ?_
      rotate_left
      ·intro w'
       go_simp
       with_reducible rfl
      rotate_left
      ·simp only [ps]
       rfl
      refine pure_ (i := 2) (N := some 40) (v := ?_) (a' := ?_) #[true, false, true, false, false, false, false, false, false] rfl rfl (any_of HT_.out (by kernel_rfl)) (fun _ _ _ h => h) (Or.inl ⟨by rfl, ?_⟩) ?_ ?_
      rotate_left
      ·intro w'
       go_simp
       with_reducible rfl
      rotate_left
      ·simp only [ps]
       rfl
      refine take_ (i := 1) (N := some 39) (v := ?_) (a' := ?_) #[true, true, true, false, false, false, false, false, false] rfl rfl (take_ofW HT_.out HW_.out (by kernel_rfl)) (fun _ _ _ h => h) (Or.inl ⟨by rfl, ?_⟩) hHeld ?_ ?_
      rotate_left
      ·rintro w' ⟨s0, s1⟩
       go_simp
       with_reducible rfl
      rotate_left
      ·simp only [ps]
       rfl
      refine one_ (i := 3) (N := some 41) #[true, true, true, true, false, false, false, false, false] rfl rfl (one_of HT_.out (by kernel_rfl)) (by decide) (fun K hK => ?_)
      refine goes_ Try.func25 (by kernel_rfl) rfl #[.int .i64 (wrap64 (x11_1 + 2)), .int .i64 5] (by rfl) rfl rfl (by (try simp only [List.map_toArray, List.map_cons, List.map_nil]); first | done | rfl | (simp only [List.length_drop, List.length_take]; rfl)) ?_
      with_reducible refine (hypercubelaw1_within.calls (wrap64 (x11_1 + 2)) 5 t215 _ A20.out).mono ?_
      rintro e w' ⟨rfl, ⟨nd, rfl⟩⟩
      refine ⟨_, rfl, ?_⟩
      refine hK.out _ _ ⟨(blk_cell BK208.out 0).trans rfl, (blk_cell BK208.out 1).trans rfl⟩ (fun hHeld => ?_)
      clear hK K
      refine norm_ (a' := ?_) ?_ ?_
      rotate_left
      ·show Act.put _ (some 41) _ = _
       simp only [ps]
       rfl
      refine pure_ (i := 4) (N := some 42) (v := ?_) (a' := ?_) #[true, true, true, true, true, false, false, false, false] rfl rfl (any_of HT_.out (by kernel_rfl)) (fun _ _ _ h => h) (Or.inl ⟨by rfl, ?_⟩) ?_ ?_
      rotate_left
      ·intro w'
       go_simp
       with_reducible rfl
      rotate_left
      ·simp only [ps]
       rfl
      refine one_ (i := 5) (N := some 43) #[true, true, true, true, true, true, false, false, false] rfl rfl (one_of HT_.out (by kernel_rfl)) (by decide) (fun K hK => ?_)
      refine value_ (w1 := ?_) (v := ?_) (by rfl) rfl ?_ ?_
      rotate_left 2
      ·go_simp
       constructor
       ·rfl
       ·rfl
      refine hK.out _ _ ⟨(blk_cell (blk_alloc BK208.out _) 0).trans rfl, (blk_cell (blk_alloc BK208.out _) 1).trans rfl⟩ (fun hHeld => ?_)
      clear hK K
      refine norm_ (a' := ?_) ?_ ?_
      rotate_left
      ·show Act.put _ (some 43) _ = _
       simp only [ps]
       rfl
      refine one_ (i := 6) (N := some 44) #[true, true, true, true, true, true, true, false, false] rfl rfl (one_of HT_.out (by kernel_rfl)) (by decide) (fun K hK => ?_)
      refine Kd.R_append_step (Kd.int .i64) (w0 := w) w.heap.size (by rfl) (.tmp 39) (.tmp 43) 22 3 (.int .i64 0) 8 rfl Try.underlying22 info3 rfl (by decide) (by omega) u209000 x209000_1 (wrap64 (1 + t215)) [.int .i64 (wrap64 (1 + t215))] (fun _ => True) (fun _ => False) rfl rfl ?aP (fun _ hk => hk.elim) ?aF ?aO ?aB ?aS ?aL ?_
      (case aP => exact rfl)
      (case aB => exact (wmv HB.out))
      (case aF => exact (fun _ _ => trivial))
      (case aO => exact (Kd.R_mv HO_209000.out))
      (case aS => exact (below_size (wmv HB.out)))
      (case aL => have := LMc21.out; omega)
      intro v217 w23 ho hb hg hat
      rw [← Ny216.out] at ho
      have n0_ := Aside0.mk (blk_grown (bmv BK206.out) hg (Kd.R_ne HO_209000.out BK206.out (by decide)))
      have n1_ := Aside0.mk (blk_grown (bmv BK208.out) hg (Kd.R_ne HO_209000.out BK208.out (by decide)))
      have n2_ := Aside0.mk (hb)
      have n3_ := Aside0.mk (ho)
      clear BK206 BK208 HB HO_209000
      revert n0_ n1_ n2_ n3_
      intro BK206 BK208 HB HO218
      clear ho hb hg hat
      obtain ⟨Ao24, co24, eo24⟩ := Kd.R_slice HO218.out
      (first | subst eo24 | (injection eo24 with f1_ f2_ f3_; have f4_ := f1_.symm; have f5_ := f3_.symm; clear f1_ f2_ f3_; subst f4_; subst f5_))
      refine hK.out _ _ ⟨(blk_cell BK208.out 0).trans rfl, (blk_cell BK208.out 1).trans rfl⟩ (fun hHeld => ?_)
      clear hK K
      refine norm_ (a' := ?_) ?_ ?_
      rotate_left
      ·show Act.put _ (some 44) _ = _
       simp only [ps]
       rfl
      refine pure_ (i := 7) (N := some 45) (v := ?_) (a' := ?_) #[true, true, true, true, true, true, true, true, false] rfl rfl (any_of HT_.out (by kernel_rfl)) (fun _ _ _ h => h) (Or.inl ⟨by rfl, ?_⟩) ?_ ?_
      rotate_left
      ·intro w'
       go_simp
       with_reducible rfl
      rotate_left
      ·simp only [ps]
       rfl
      refine last_ (i := 8) (N := none) #[true, true, true, true, true, true, true, true, true] rfl rfl (one_of HT_.out (by kernel_rfl)) (by decide) (fun K hK => ?_)
      have hs25 : w23.cell? ⟨gb208, 0, none⟩ = some (u209000) := (blk_cell BK208.out 0).trans rfl
      have hfs25 := blk_frozen BK208.out 0
      have hns25_0 := NB206_208.out
      have hms25_0 := NB208_206.out
      refine skip_ (w1 := ?_) (by rfl) rfl ?_ ?_
      rotate_left
      ·go_simp
       rfl
      refine hK.out _ _ ?_
      clear hK K
      refine done_ (done_of HT_.out (by kernel_rfl)) ?_
      try go_wp2
      go_roundg k1
      case measure => have := HK1.out; omega
      case rel => exact ⟨(wrap64 (x11_1 + 1)), (y216), (.slice Ao24 y216.length co24), (by first | rfl | (simp; done) | (simp [*]; done)), H', ⟨by have := HK1.out; omega⟩, ⟨by (with_reducible repeat (first | apply Kd.R_alloc | apply Kd.R_drewN | apply Kd.R_drew)); exact Kd.R_mono (Kd.R_far (p := ⟨gb208, 0, none⟩) (Kd.R_types HO218.out BK208.out (by decide)) (fun _ hk => hk.2) (.slice Ao24 y216.length co24)) (fun _ hk => trivial)⟩, ⟨by (with_reducible repeat (first | refine blk_drewN ?_ _ | refine blk_drew ?_ | refine blk_alloc ?_ _)); refine blk_far ?_ NB206_208.out _; (with_reducible repeat (first | refine blk_drewN ?_ _ | refine blk_drew ?_ | refine blk_alloc ?_ _)); exact BK206.out⟩, ⟨by (with_reducible repeat (first | refine blk_drewN ?_ _ | refine blk_drew ?_ | refine blk_alloc ?_ _)); refine blk_put (cs := #[u209000, .int .i64 t207]) ?_ 0 _ rfl; (with_reducible repeat (first | refine blk_drewN ?_ _ | refine blk_drew ?_ | refine blk_alloc ?_ _)); exact BK208.out⟩, ⟨by repeat (first | (with_reducible first | exact HB.out | apply below_alloc | apply pw_below_drewN | apply below_drew1 | refine below_set ?_ GE206.out | refine below_set ?_ GE208.out) | exact HB.out)⟩⟩
     ·rw [if_neg c21] at H
      exact absurd H (by simp)
   ·rw [if_neg c11] at H
    have c11b0 : decide (x11_1 ≤ t209) = false := decide_eq_false c11
    clear c11
    replace H := Option.bind_eq_some_iff.mp H
    obtain ⟨t219, A260, H⟩ := H
    replace H : (if t219 = 0 then (if 0 < (x209000_1.length : Int) then (hypercubelaw1_Facts.j1 k1 l3 (x209000_1.set (0 : Int).toNat 16) t207) else (none)) else (hypercubelaw1_Facts.j1 k1 l3 x209000_1 t207)) = some (r1, r2, r3) := H
    have A26 := Aside0.mk A260
    clear A260
    have HC27 := Aside0.mk H
    clear H
    go_upto_if 48 with (first | ((with_reducible refine gate_callee (f := 25) rfl ?_); refine goesL_ (some 24) rfl rfl Try.func25 (by kernel_rfl) rfl #[.int .i64 a0, .int .i64 4] rfl (by (try simp only [List.map_toArray, List.map_cons, List.map_nil]); first | done | rfl | (simp only [List.length_drop, List.length_take]; rfl)) ?_; (with_reducible refine (hypercubelaw1_within.calls a0 4 t209 _ A10.out).mono ?_); rintro e w' ⟨rfl, ⟨nd, rfl⟩⟩; refine ⟨_, rfl, ?_⟩) | ((with_reducible refine gate_callee (f := 25) rfl ?_); refine goesL_ (some 47) rfl rfl Try.func25 (by kernel_rfl) rfl #[.int .i64 a0, .int .i64 7] rfl (by (try simp only [List.map_toArray, List.map_cons, List.map_nil]); first | done | rfl | (simp only [List.length_drop, List.length_take]; rfl)) ?_; (with_reducible refine (hypercubelaw1_within.calls a0 7 t219 _ A26.out).mono ?_); rintro e w' ⟨rfl, ⟨nd, rfl⟩⟩; refine ⟨_, rfl, ?_⟩))
    (try simp only [Act.put, List.setIfInBounds_toArray, List.set_cons_zero, List.set_cons_succ])
    go_cut [] (fun wc => ∃ (kq : Nat) (x209000_26 : List Int) (u209000 : Value), Aside0 (hypercubelaw1_Facts.j1 kq l3 x209000_26 t207 = some (r1, r2, r3)) ∧ Aside0 (kq ≤ k1) ∧ Aside0 (Kd.R (Kd.int .i64) 3 wc w.heap.size (fun _ => True) u209000 x209000_26) ∧ Aside0 (wc.heap[gb206]? = some (.cells #[(.slice none 0 0), .int .i64 0] 25 (0, 0))) ∧ Aside0 (wc.heap[gb208]? = some (.cells #[u209000, .int .i64 t207] 25 (0, 0))) ∧ Aside0 (Below w.heap.size w wc))
    case first =>
     have H := HC27.out
     clear HC27
     by_cases c28 : t219 = 0
     ·rw [if_pos c28] at H
      have c28b0 : (t219 == 0) = true := beq_iff_eq.mpr c28
      have c28b1 : (t219 != 0) = false := bne_eq_false_iff_eq.mpr c28
      clear c28
      (first | rw [c28b0] | (simp only [i64_w, i32_w]; rw [c28b0]) | skip)
      by_cases c29 : 0 < (x209000_1.length : Int)
      ·rw [if_pos c29] at H
       have c29b0 : decide (0 < (x209000_1.length : Int)) = true := decide_eq_true c29
       have c29b1 : decide (0 < x209000_1.length) = true := decide_eq_true (by omega)
       clear c29
       obtain ⟨y220, hy220⟩ : ∃ y_ : List Int, y_ = (x209000_1.set (0 : Int).toNat 16) := ⟨_, rfl⟩
       replace H : (hypercubelaw1_Facts.j1 k1 l3 y220 t207) = some (r1, r2, r3) := by rw [hy220]; with_reducible exact H
       have Ny220 := Aside0.mk hy220
       clear hy220
       have H' := Aside0.mk H
       clear H
       have hnb31 := NB208_206.out
       have hnc31 := NB206_208.out
       have hcz32_0 : wr.cell? ⟨gb208, 0, none⟩ = some (u209000) := (blk_cell BK208.out 0).trans rfl
       have hcz32_1 : wr.cell? ⟨gb208, 1, none⟩ = some (.int .i64 t207) := (blk_cell BK208.out 1).trans rfl
       have hfz32_0 := blk_frozen BK208.out 0
       have hfz32_1 := blk_frozen BK208.out 1
       have p30 : 0 ≤ (0 : Int) := (by omega)
       have q30 : (0 : Int) < ((x209000_1.length : Int) : Int) := of_decide_eq_true (by first | (with_reducible assumption) | assumption)
       have qi30 : (0 < x209000_1.length) = True := eq_true (by omega)
       obtain ⟨go30, co30, eo30, gb30, gl30, cl30, HG30⟩ := Kd.R_form HO_209000.out (by omega)
       (first | cases eo30 | (injection eo30 with ea_ en_ ec_; (first | subst ea_ | (injection ea_ with ea_; subst ea_)); subst ec_; clear en_))
       have GB30 := Aside0.mk gb30
       have GG30 := Aside0.mk HG30
       clear gb30 gl30 HG30
       obtain ⟨hx30_0, hf30_0⟩ := Kd.R_celln 0 HO_209000.out (0 : Int) p30 q30
       (try rw [show ((0 : Int)).toNat = 0 from rfl] at hx30_0)
       (try simp only [Nat.reduceMul, Nat.zero_mul, Nat.zero_add, Nat.reduceAdd] at hx30_0)
       (try rw [show ((0 : Int)).toNat = 0 from rfl] at hf30_0)
       (try simp only [Nat.reduceMul, Nat.zero_mul, Nat.zero_add, Nat.reduceAdd] at hf30_0)
       replace p30 := eq_true p30
       replace q30 := eq_true q30
       have HP33 := Kd.R_putg HO_209000.out (0 : Int) 16
       go_wp2_with (first | ((with_reducible refine gate_store (t := 3) (p := 51) rfl ?_); refine store_event (t := 3) (p := 51) (v := ?vo_w34) (w1 := (wr.setCell ⟨go30, (0 : Int).toNat, none⟩ (.int .i64 16))) ?hg ?ho ?hn ?hr ?_; (case ho => rfl); (case hg => rfl); (case hn => rfl); (case hr => first | (go_simp; done) | (go_simp; rfl)); intro w34 hw; have hg : wr.grownBy w34 (some go30) := (by rw [hw]; exact HP33.2); have hp_ : Kd.R (Kd.int .i64) 3 w34 w.heap.size (fun _ => True) (.slice (some ⟨go30, 0, none⟩) x209000_1.length co30) y220 := (by rw [hw, Ny220.out]; exact HP33.1); clear HP33; have n0_ := Aside0.mk (hp_); have n1_ := Aside0.mk (blk_grown (bmv BK206.out) hg (Kd.R_ne HO_209000.out BK206.out (by decide))); have n2_ := Aside0.mk (blk_grown (bmv BK208.out) hg (Kd.R_ne HO_209000.out BK208.out (by decide))); have n3_ := Aside0.mk ((by rw [hw]; exact below_set (HB.out) GB30.out : Below w.heap.size w w34)); clear HO_209000 BK206 BK208 HB; revert n0_ n1_ n2_ n3_; intro HO_209000 BK206 BK208 HB; clear hg hw hp_))
       go_meet
       case rel => exact ⟨_, (y220), (.slice (some ⟨go30, 0, none⟩) x209000_1.length co30), H', ⟨by have := HK1.out; first | omega | exact Nat.le_refl _⟩, ⟨by rw [Ny220.out]; exact (Kd.R_putg (Kd.R_drewN HO_209000.out _) (0 : Int) 16).1⟩, ⟨blk_grown (blk_drewN BK206.out _) (Kd.R_putg (Kd.R_drewN HO_209000.out _) (0 : Int) 16).2 (Kd.R_ne HO_209000.out BK206.out (by decide))⟩, ⟨blk_grown (blk_drewN BK208.out _) (Kd.R_putg (Kd.R_drewN HO_209000.out _) (0 : Int) 16).2 (Kd.R_ne HO_209000.out BK208.out (by decide))⟩, ⟨below_set (pw_below_drewN HB.out _) GB30.out⟩⟩
      ·rw [if_neg c29] at H
       exact absurd H (by simp)
     ·rw [if_neg c28] at H
      have c28b0 : (t219 == 0) = false := beq_eq_false_iff_ne.mpr c28
      have c28b1 : (t219 != 0) = true := bne_iff_ne.mpr c28
      (first | rw [c28b0] | (simp only [i64_w, i32_w]; rw [c28b0]) | skip)
      have H' := Aside0.mk H
      clear H
      go_wp2
      go_meet
      case rel => exact ⟨_, (x209000_1), (u209000), H', ⟨by have := HK1.out; first | omega | exact Nat.le_refl _⟩, ⟨by (with_reducible repeat (first | apply Kd.R_alloc | apply Kd.R_drewN | apply Kd.R_drew)); exact HO_209000.out⟩, ⟨by (with_reducible repeat (first | refine blk_drewN ?_ _ | refine blk_drew ?_ | refine blk_alloc ?_ _)); exact BK206.out⟩, ⟨by (with_reducible repeat (first | refine blk_drewN ?_ _ | refine blk_drew ?_ | refine blk_alloc ?_ _)); exact BK208.out⟩, ⟨by repeat (first | (with_reducible first | exact HB.out | apply below_alloc | apply pw_below_drewN | apply below_drew1 | refine below_set ?_ GE206.out | refine below_set ?_ GE208.out) | exact HB.out)⟩⟩
    case rest =>
     clear HC27
     try clear c1
     try clear c2
     try clear p2
     try clear q2
     try clear hx2
     try clear c3
     try clear p3
     try clear q3
     try clear hx3
     try clear qi3
     try clear p6
     try clear c8
     try clear c11
     try clear c11b0
     try clear c12
     try clear c12b0
     try clear c13
     try clear c13b0
     try clear c15
     try clear c21
     try clear p21
     try clear q21
     try clear hx21
     try clear c25
     try clear c28
     try clear c28b0
     try clear c28b1
     try clear c29
     try clear c29b0
     try clear c29b1
     try clear p30
     try clear q30
     try clear hx30
     try clear qi30
     try clear hf30
     try clear c31
     try clear hcz32_0
     try clear hcz32_1
     try clear hcz9_0
     try clear hcz9_1
     try clear hfz32_0
     try clear hfz32_1
     try clear hfz9_0
     try clear hfz9_1
     try clear hx210_0
     try clear hx30_0
     try clear p2
     try clear p210
     try clear p30
     try clear q210
     try clear q30
     obtain ⟨kq, x209000_26, u209000, HA, HJ26, HO_209000, BK206, BK208, HB⟩ := hcut
     cases kq with
     | zero => exact absurd HA.out (by simp [hypercubelaw1_Facts.j1])
     | succ kj26 =>
      have H := HA.out
      clear HA
      simp only [hypercubelaw1_Facts.j1] at H
      have H' := Aside0.mk H
      clear H
      go_wp2
      go_loopg [13, 14] kj26 (fun kq v13 v14 w' => ∃ (x13_3 : List (S45)) (x14_3 : Int), v14 = .int .i64 x14_3 ∧ Aside0 (hypercubelaw1_Facts.l1 kq l3 x13_3 x14_3 x209000_26 t207 = some (r1, r2, r3)) ∧ Aside0 (kq ≤ kj26) ∧ Aside0 (Kd.S k45 45 w' w.heap.size (fun k_ => some k_ ≠ (u209000 : Value).ownBlock) v13 x13_3) ∧ Aside0 (Kd.R (Kd.int .i64) 3 w' w.heap.size (fun _ => True) u209000 x209000_26) ∧ Aside0 (w'.heap[gb206]? = some (.cells #[(.slice none 0 0), .int .i64 0] 25 (0, 0))) ∧ Aside0 (w'.heap[gb208]? = some (.cells #[u209000, .int .i64 t207] 25 (0, 0))) ∧ Aside0 (Below w.heap.size w w'))
      case atStart => exact ⟨(([] : List (S45))), (0), (by first | rfl | (simp; done) | (simp [*]; done)), H', ⟨Nat.le_refl _⟩, ⟨by first | exact Kd.S_nil _ _ _ _ _ | exact Kd.N_nil _ _ _ _ _ | exact Kd.V_nil _ _ _ _ _ | exact Kd.Q_nil _ _ _ _ _ | exact Kd.R_nil _ _ _ _ _⟩, ⟨by (with_reducible repeat (first | apply Kd.R_alloc | apply Kd.R_drewN | apply Kd.R_drew)); exact HO_209000.out⟩, ⟨by (with_reducible repeat (first | refine blk_drewN ?_ _ | refine blk_drew ?_ | refine blk_alloc ?_ _)); exact BK206.out⟩, ⟨by (with_reducible repeat (first | refine blk_drewN ?_ _ | refine blk_drew ?_ | refine blk_alloc ?_ _)); exact BK208.out⟩, ⟨by repeat (first | (with_reducible first | exact HB.out | apply below_alloc | apply pw_below_drewN | apply below_drew1 | refine below_set ?_ GE206.out | refine below_set ?_ GE208.out) | exact HB.out)⟩⟩
      case round =>
       clear H'
       try clear c1
       try clear c2
       try clear p2
       try clear q2
       try clear hx2
       try clear c3
       try clear p3
       try clear q3
       try clear hx3
       try clear qi3
       try clear p6
       try clear c8
       try clear c11
       try clear c11b0
       try clear c12
       try clear c12b0
       try clear c13
       try clear c13b0
       try clear c15
       try clear c21
       try clear p21
       try clear q21
       try clear hx21
       try clear c25
       try clear c28
       try clear c28b0
       try clear c28b1
       try clear c29
       try clear c29b0
       try clear c29b1
       try clear p30
       try clear q30
       try clear hx30
       try clear qi30
       try clear hf30
       try clear c31
       try clear hcz32_0
       try clear hcz32_1
       try clear hcz9_0
       try clear hcz9_1
       try clear hfz32_0
       try clear hfz32_1
       try clear hfz9_0
       try clear hfz9_1
       try clear hx210_0
       try clear hx30_0
       try clear p2
       try clear p21
       try clear p210
       try clear p3
       try clear p30
       try clear p6
       try clear q2
       try clear q21
       try clear q210
       try clear q3
       try clear q30
       obtain ⟨x13_3, x14_3, rfl, HA, HK3, HO_13, HO_209000, BK206, BK208, HB⟩ := hrel
       cases gk with
       | zero => exact absurd HA.out (by simp [hypercubelaw1_Facts.l1])
       | succ k3 =>
        have H := HA.out
        clear HA
        simp only [hypercubelaw1_Facts.l1] at H
        have HC35 := Aside0.mk H
        clear H
        go_upto_region 13 with (fail)
        go_cut [59] (fun v59 wc => ∃ (kq : Nat) (x59_34 : Bool), v59 = .bool x59_34 ∧ Aside0 (hypercubelaw1_Facts.j3 kq l3 x13_3 x14_3 x59_34 x209000_26 t207 = some (r1, r2, r3)) ∧ Aside0 (kq ≤ k3) ∧ Aside0 (Kd.S k45 45 wc w.heap.size (fun k_ => some k_ ≠ (u209000 : Value).ownBlock) u13 x13_3) ∧ Aside0 (Kd.R (Kd.int .i64) 3 wc w.heap.size (fun _ => True) u209000 x209000_26) ∧ Aside0 (wc.heap[gb206]? = some (.cells #[(.slice none 0 0), .int .i64 0] 25 (0, 0))) ∧ Aside0 (wc.heap[gb208]? = some (.cells #[u209000, .int .i64 t207] 25 (0, 0))) ∧ Aside0 (Below w.heap.size w wc))
        case first =>
         have H := HC35.out
         clear HC35
         by_cases c36 : x14_3 < (l3.length : Int)
         ·rw [if_pos c36] at H
          have c36b0 : decide (x14_3 < (l3.length : Int)) = true := decide_eq_true c36
          clear c36
          (first | rw [c36b0] | (simp only [i64_w, i32_w]; rw [c36b0]) | skip)
          have H' := Aside0.mk H
          clear H
          go_wp2
          go_meet
          case rel => exact ⟨_, (decide (x14_3 < 40)), (by first | rfl | (simp; done) | (simp [*]; done)), H', ⟨by have := HK1.out; have := HJ26.out; have := HK3.out; first | omega | exact Nat.le_refl _⟩, ⟨by (with_reducible repeat (first | apply Kd.S_alloc | apply Kd.S_drewN | apply Kd.S_drew)); exact HO_13.out⟩, ⟨by (with_reducible repeat (first | apply Kd.R_alloc | apply Kd.R_drewN | apply Kd.R_drew)); exact HO_209000.out⟩, ⟨by (with_reducible repeat (first | refine blk_drewN ?_ _ | refine blk_drew ?_ | refine blk_alloc ?_ _)); exact BK206.out⟩, ⟨by (with_reducible repeat (first | refine blk_drewN ?_ _ | refine blk_drew ?_ | refine blk_alloc ?_ _)); exact BK208.out⟩, ⟨by repeat (first | (with_reducible first | exact HB.out | apply below_alloc | apply pw_below_drewN | apply below_drew1 | refine below_set ?_ GE206.out | refine below_set ?_ GE208.out) | exact HB.out)⟩⟩
         ·rw [if_neg c36] at H
          have c36b0 : decide (x14_3 < (l3.length : Int)) = false := decide_eq_false c36
          clear c36
          (first | rw [c36b0] | (simp only [i64_w, i32_w]; rw [c36b0]) | skip)
          have H' := Aside0.mk H
          clear H
          go_wp2
          go_meet
          case rel => exact ⟨_, (false), (by first | rfl | (simp; done) | (simp [*]; done)), H', ⟨by have := HK1.out; have := HJ26.out; have := HK3.out; first | omega | exact Nat.le_refl _⟩, ⟨by (with_reducible repeat (first | apply Kd.S_alloc | apply Kd.S_drewN | apply Kd.S_drew)); exact HO_13.out⟩, ⟨by (with_reducible repeat (first | apply Kd.R_alloc | apply Kd.R_drewN | apply Kd.R_drew)); exact HO_209000.out⟩, ⟨by (with_reducible repeat (first | refine blk_drewN ?_ _ | refine blk_drew ?_ | refine blk_alloc ?_ _)); exact BK206.out⟩, ⟨by (with_reducible repeat (first | refine blk_drewN ?_ _ | refine blk_drew ?_ | refine blk_alloc ?_ _)); exact BK208.out⟩, ⟨by repeat (first | (with_reducible first | exact HB.out | apply below_alloc | apply pw_below_drewN | apply below_drew1 | refine below_set ?_ GE206.out | refine below_set ?_ GE208.out) | exact HB.out)⟩⟩
        case rest =>
         clear HC35
         try clear c1
         try clear c2
         try clear p2
         try clear q2
         try clear hx2
         try clear c3
         try clear p3
         try clear q3
         try clear hx3
         try clear qi3
         try clear p6
         try clear c8
         try clear c11
         try clear c11b0
         try clear c12
         try clear c12b0
         try clear c13
         try clear c13b0
         try clear c15
         try clear c21
         try clear p21
         try clear q21
         try clear hx21
         try clear c25
         try clear c28
         try clear c28b0
         try clear c28b1
         try clear c29
         try clear c29b0
         try clear c29b1
         try clear p30
         try clear q30
         try clear hx30
         try clear qi30
         try clear hf30
         try clear c31
         try clear c36
         try clear c36b0
         try clear hcz32_0
         try clear hcz32_1
         try clear hcz9_0
         try clear hcz9_1
         try clear hfz32_0
         try clear hfz32_1
         try clear hfz9_0
         try clear hfz9_1
         try clear hx210_0
         try clear hx30_0
         try clear p2
         try clear p21
         try clear p210
         try clear p3
         try clear p30
         try clear p6
         try clear q2
         try clear q21
         try clear q210
         try clear q3
         try clear q30
         obtain ⟨kq, x59_34, rfl, HA, HJ34, HO_13, HO_209000, BK206, BK208, HB⟩ := hcut
         cases kq with
         | zero => exact absurd HA.out (by simp [hypercubelaw1_Facts.j3])
         | succ kj34 =>
          have H := HA.out
          clear HA
          simp only [hypercubelaw1_Facts.j3] at H
          by_cases c37 : x59_34 = true
          ·subst c37
           have H1 : (if 0 ≤ x14_3 then (if x14_3 < (l3.length : Int) then (hypercubelaw1_Facts.l2 kj34 l3 x13_3 x14_3 (rd l3 x14_3) 0 x209000_26 t207 ([] : List Int)) else (none)) else (none)) = some (r1, r2, r3) := by rw [if_pos rfl] at H; exact H
           clear H
           have H := H1
           clear H1
           by_cases c38 : 0 ≤ x14_3
           ·rw [if_pos c38] at H
            have c38b0 : decide (0 ≤ x14_3) = true := decide_eq_true c38
            clear c38
            by_cases c39 : x14_3 < (l3.length : Int)
            ·rw [if_pos c39] at H
             have c39b0 : decide (x14_3 < (l3.length : Int)) = true := decide_eq_true c39
             clear c39
             have H' := Aside0.mk H
             clear H
             have p221 : 0 ≤ (x14_3 : Int) := of_decide_eq_true (by first | (with_reducible assumption) | assumption)
             have q221 : x14_3 < (l3.length : Int) := of_decide_eq_true (by first | (with_reducible assumption) | assumption)
             obtain ⟨ad221, e221, hx221_0⟩ := Kd.at_int HR3.out x14_3 p221 q221
             cases e221
             replace hx221_0 := (HB.out.cell (World.block_lt_of_cell? w _ hx221_0)).trans hx221_0
             replace p221 := eq_true p221
             replace q221 := eq_true q221
             go_wp2_with (first | ((with_reducible refine gate_dst (N := 16) rfl ?_); refine box_event ?hg (N := 16) ?hd (cs := #[.slice none 0 0, .slice none 0 0]) (t := 45) ?hr ?_; (case hd => rfl); (case hg => rfl); (case hr => first | (go_simp; done) | (go_simp; rfl)); intro gb222 hg w40 hbox hb; have n0_ := Aside0.mk (Kd.S_below (Kd.S_elderB (Kd.S_mv HO_13.out) gb222 (Nat.le_of_eq hg.symm)) hb); have n1_ := Aside0.mk (Kd.R_below (Kd.R_mv HO_209000.out) hb); have n2_ := Aside0.mk (blk_below (bmv BK206.out) hb); have n3_ := Aside0.mk (blk_below (bmv BK208.out) hb); have n4_ := Aside0.mk (below_step (wmv HB.out) hb); have n5_ := Aside0.mk (hbox); have n6_ := Aside0.mk ((by rw [hg]; exact (below_size (wmv HB.out)) : w.heap.size ≤ gb222)); have n7_ := Aside0.mk ((by rw [hg]; exact (below_size (wmv HB.out)) : w.heap.size ≤ gb222)); have n8_ := Aside0.mk ((by rw [hg]; exact Nat.ne_of_lt (blk_lt (bmv BK206.out)) : gb206 ≠ gb222)); have n9_ := Aside0.mk ((by rw [hg]; exact Nat.ne_of_gt (blk_lt (bmv BK206.out)) : gb222 ≠ gb206)); have n10_ := Aside0.mk ((by rw [hg]; exact Nat.ne_of_lt (blk_lt (bmv BK208.out)) : gb208 ≠ gb222)); have n11_ := Aside0.mk ((by rw [hg]; exact Nat.ne_of_gt (blk_lt (bmv BK208.out)) : gb222 ≠ gb208)); clear HO_13 HO_209000 BK206 BK208 HB; revert n0_ n1_ n2_ n3_ n4_ n5_ n6_ n7_ n8_ n9_ n10_ n11_; intro HO_13 HO_209000 BK206 BK208 HB BK222 GW222 GE222 NB206_222 NB222_206 NB208_222 NB222_208; clear hb hbox hg))
             go_loopg [15, 17] kj34 (fun kq v15 v17 w' => ∃ (x15_5 : Int) (x17_5 : Int) (x223000_5 : List Int) (u223000 : Value), v15 = .int .i64 x15_5 ∧ v17 = .int .i64 x17_5 ∧ Aside0 (hypercubelaw1_Facts.l2 kq l3 x13_3 x14_3 x15_5 x17_5 x209000_26 t207 x223000_5 = some (r1, r2, r3)) ∧ Aside0 (kq ≤ kj34) ∧ Aside0 (Kd.S k45 45 w' w.heap.size (fun k_ => some k_ ≠ (u209000 : Value).ownBlock ∧ some k_ ≠ (u223000 : Value).ownBlock ∧ k_ ≠ gb222) u13 x13_3) ∧ Aside0 (Kd.R (Kd.int .i64) 3 w' w.heap.size (fun k_ => some k_ ≠ (u223000 : Value).ownBlock) u209000 x209000_26) ∧ Aside0 (Kd.R (Kd.int .i64) 3 w' w.heap.size (fun k_ => some k_ ≠ (u209000 : Value).ownBlock) u223000 x223000_5) ∧ Aside0 (w'.heap[gb206]? = some (.cells #[(.slice none 0 0), .int .i64 0] 25 (0, 0))) ∧ Aside0 (w'.heap[gb208]? = some (.cells #[u209000, .int .i64 t207] 25 (0, 0))) ∧ Aside0 (w'.heap[gb222]? = some (.cells #[u223000, (.slice none 0 0)] 45 (0, 0))) ∧ Aside0 (Below w.heap.size w w'))
             case atStart => exact ⟨(rd l3 x14_3), (0), (([] : List Int)), (.slice none 0 0), (by first | rfl | (simp; done) | (simp [*]; done)), (by first | rfl | (simp; done) | (simp [*]; done)), H', ⟨Nat.le_refl _⟩, ⟨by (with_reducible repeat (first | apply Kd.S_alloc | apply Kd.S_drewN | apply Kd.S_drew)); exact Kd.S_mono HO_13.out (fun _ hk => ⟨hk.1, ⟨(by simp [Value.ownBlock]), hk.2⟩⟩)⟩, ⟨by (with_reducible repeat (first | apply Kd.R_alloc | apply Kd.R_drewN | apply Kd.R_drew)); exact Kd.R_mono HO_209000.out (fun _ hk => (by simp [Value.ownBlock]))⟩, ⟨by first | exact Kd.R_nil _ _ _ _ _ | exact Kd.N_nil _ _ _ _ _ | exact Kd.V_nil _ _ _ _ _ | exact Kd.Q_nil _ _ _ _ _ | exact Kd.S_nil _ _ _ _ _⟩, ⟨by (with_reducible repeat (first | refine blk_drewN ?_ _ | refine blk_drew ?_ | refine blk_alloc ?_ _)); exact BK206.out⟩, ⟨by (with_reducible repeat (first | refine blk_drewN ?_ _ | refine blk_drew ?_ | refine blk_alloc ?_ _)); exact BK208.out⟩, ⟨by (with_reducible repeat (first | refine blk_drewN ?_ _ | refine blk_drew ?_ | refine blk_alloc ?_ _)); exact BK222.out⟩, ⟨by repeat (first | (with_reducible first | exact HB.out | apply below_alloc | apply pw_below_drewN | apply below_drew1 | refine below_set ?_ GE206.out | refine below_set ?_ GE208.out | refine below_set ?_ GE222.out) | exact HB.out)⟩⟩
             case round =>
              clear H'
              try clear c1
              try clear c2
              try clear p2
              try clear q2
              try clear hx2
              try clear c3
              try clear p3
              try clear q3
              try clear hx3
              try clear qi3
              try clear p6
              try clear c8
              try clear c11
              try clear c11b0
              try clear c12
              try clear c12b0
              try clear c13
              try clear c13b0
              try clear c15
              try clear c21
              try clear p21
              try clear q21
              try clear hx21
              try clear p22
              try clear q22
              try clear hx22
              try clear c25
              try clear c28
              try clear c28b0
              try clear c28b1
              try clear c29
              try clear c29b0
              try clear c29b1
              try clear p30
              try clear q30
              try clear hx30
              try clear qi30
              try clear hf30
              try clear c31
              try clear c36
              try clear c36b0
              try clear c37
              try clear c38
              try clear c38b0
              try clear c39
              try clear c39b0
              try clear hcz32_0
              try clear hcz32_1
              try clear hcz9_0
              try clear hcz9_1
              try clear hfz32_0
              try clear hfz32_1
              try clear hfz9_0
              try clear hfz9_1
              try clear hx210_0
              try clear hx221_0
              try clear hx30_0
              try clear p2
              try clear p21
              try clear p210
              try clear p221
              try clear p3
              try clear p30
              try clear p6
              try clear q2
              try clear q21
              try clear q210
              try clear q221
              try clear q3
              try clear q30
              obtain ⟨x15_5, x17_5, x223000_5, u223000, rfl, rfl, HA, HK5, HO_13, HO_209000, HO_223000, BK206, BK208, BK222, HB⟩ := hrel
              cases gk with
              | zero => exact absurd HA.out (by simp [hypercubelaw1_Facts.l2])
              | succ k5 =>
               have H := HA.out
               clear HA
               simp only [hypercubelaw1_Facts.l2] at H
               by_cases c41 : x17_5 < (x209000_26.length : Int)
               ·rw [if_pos c41] at H
                have c41b0 : decide (x17_5 < (x209000_26.length : Int)) = true := decide_eq_true c41
                clear c41
                by_cases c42 : 0 ≤ x17_5
                ·rw [if_pos c42] at H
                 have c42b0 : decide (0 ≤ x17_5) = true := decide_eq_true c42
                 clear c42
                 replace H := Option.bind_eq_some_iff.mp H
                 obtain ⟨t224, A430, H⟩ := H
                 replace H : (if x223000_5.length < 17592186044416 then (hypercubelaw1_Facts.l2 k5 l3 x13_3 x14_3 (wrap64 (Int.tdiv x15_5 5)) (wrap64 (x17_5 + 1)) x209000_26 t207 (x223000_5 ++ [t224])) else (none)) = some (r1, r2, r3) := H
                 have A43 := Aside0.mk A430
                 clear A430
                 by_cases c44 : x223000_5.length < 17592186044416
                 ·rw [if_pos c44] at H
                  have LMc44 := Aside0.mk c44
                  clear c44
                  obtain ⟨y225, hy225⟩ : ∃ y_ : List Int, y_ = (x223000_5 ++ [t224]) := ⟨_, rfl⟩
                  replace H : (hypercubelaw1_Facts.l2 k5 l3 x13_3 x14_3 (wrap64 (Int.tdiv x15_5 5)) (wrap64 (x17_5 + 1)) x209000_26 t207 y225) = some (r1, r2, r3) := by rw [hy225]; with_reducible exact H
                  have Ny225 := Aside0.mk hy225
                  clear hy225
                  have H' := Aside0.mk H
                  clear H
                  have hnb45 := NB208_206.out
                  have hnc45 := NB206_208.out
                  have hnb46 := NB208_222.out
                  have hnc46 := NB222_208.out
                  have hcz47_0 : wr.cell? ⟨gb208, 0, none⟩ = some (u209000) := (blk_cell BK208.out 0).trans rfl
                  have hcz47_1 : wr.cell? ⟨gb208, 1, none⟩ = some (.int .i64 t207) := (blk_cell BK208.out 1).trans rfl
                  have hfz47_0 := blk_frozen BK208.out 0
                  have hfz47_1 := blk_frozen BK208.out 1
                  obtain ⟨Ao48, co48, eo48⟩ := Kd.R_slice HO_209000.out
                  subst eo48
                  try go_wp2
                  have n0_ := Aside0.mk (Kd.S_drew HO_13.out)
                  have n1_ := Aside0.mk (Kd.R_drew HO_209000.out)
                  have n2_ := Aside0.mk (Kd.R_drew HO_223000.out)
                  have n3_ := Aside0.mk (blk_drew BK206.out)
                  have n4_ := Aside0.mk (blk_drew BK208.out)
                  have n5_ := Aside0.mk (blk_drew BK222.out)
                  have n6_ := Aside0.mk (below_drew1 HB.out)
                  clear HO_13 HO_209000 HO_223000 BK206 BK208 BK222 HB
                  revert n0_ n1_ n2_ n3_ n4_ n5_ n6_
                  intro HO_13 HO_209000 HO_223000 BK206 BK208 BK222 HB
                  have p223 : 0 ≤ (x17_5 : Int) := of_decide_eq_true (by first | (with_reducible assumption) | assumption)
                  have q223 : x17_5 < (x209000_26.length : Int) := of_decide_eq_true (by first | (with_reducible assumption) | assumption)
                  obtain ⟨ad223, e223, hx223_0⟩ := Kd.at_int (Kd.R_reads' HO_209000.out).2.2 x17_5 p223 q223
                  cases e223
                  replace p223 := eq_true p223
                  replace q223 := eq_true q223
                  refine start_ (n := 13) (S := fun w' => w'.cell? ⟨gb222, 0, none⟩ = some (u223000) ∧ w'.cell? ⟨gb222, 1, none⟩ = some (.slice none 0 0) ∧ w'.cell? ⟨gb208, 0, none⟩ = some (.slice (some ad223) x209000_26.length co48) ∧ w'.cell? ⟨gb208, 1, none⟩ = some (.int .i64 t207) ∧ w'.cell? (ad223.add (x17_5).toNat) = some (.int .i64 (rd x209000_26 x17_5))) (ds := [10, 12]) #[false, false, false, false, false, false, false, false, false, false, false, false, false] (by kernel_rfl) rfl rfl ⟨(blk_cell BK222.out 0).trans rfl, (blk_cell BK222.out 1).trans rfl, (blk_cell BK208.out 0).trans rfl, (blk_cell BK208.out 1).trans rfl, hx223_0⟩ (fun hHeld => ?_); refine with_tabW hypercubelaw1_Facts.tab20 hypercubelaw1_Facts.bits20 (fun HT_ HW_ => ?_)
                  generalize wr.drew = w49 at HO_13 HO_209000 HO_223000 BK206 BK208 BK222 HB hx223_0 hHeld ⊢
                  refine pure_ (i := 0) (N := some 73) (v := ?_) (a' := ?_) #[true, false, false, false, false, false, false, false, false, false, false, false, false] rfl rfl (any_of HT_.out (by kernel_rfl)) (fun _ _ _ h => h) (Or.inl ⟨by rfl, ?_⟩) ?_ ?_
                  rotate_left
                  ·intro w'
                   go_simp
                   with_reducible rfl
                  rotate_left
                  ·simp only [ps]
                   rfl
                  refine pure_ (i := 2) (N := some 75) (v := ?_) (a' := ?_) #[true, false, true, false, false, false, false, false, false, false, false, false, false] rfl rfl (any_of HT_.out (by kernel_rfl)) (fun _ _ _ h => h) (Or.inl ⟨by rfl, ?_⟩) ?_ ?_
                  rotate_left
                  ·intro w'
                   go_simp
                   with_reducible rfl
                  rotate_left
                  ·simp only [ps]
                   rfl
                  refine pure_ (i := 3) (N := some 76) (v := ?_) (a' := ?_) #[true, false, true, true, false, false, false, false, false, false, false, false, false] rfl rfl (any_of HT_.out (by kernel_rfl)) (fun _ _ _ h => h) (Or.inl ⟨by rfl, ?_⟩) ?_ ?_
                  rotate_left
                  ·intro w'
                   go_simp
                   with_reducible rfl
                  rotate_left
                  ·simp only [ps]
                   rfl
                  refine pure_ (i := 5) (N := some 78) (v := ?_) (a' := ?_) #[true, false, true, true, false, true, false, false, false, false, false, false, false] rfl rfl (any_of HT_.out (by kernel_rfl)) (fun _ _ _ h => h) (Or.inl ⟨by rfl, ?_⟩) ?_ ?_
                  rotate_left
                  ·intro w'
                   go_simp
                   with_reducible rfl
                  rotate_left
                  ·simp only [ps]
                   rfl
                  refine take_ (i := 1) (N := some 74) (v := ?_) (a' := ?_) #[true, true, true, true, false, true, false, false, false, false, false, false, false] rfl rfl (take_ofW HT_.out HW_.out (by kernel_rfl)) (fun _ _ _ h => h) (Or.inl ⟨by rfl, ?_⟩) hHeld ?_ ?_
                  rotate_left
                  ·rintro w' ⟨s0, s1, s2, s3, s4⟩
                   go_simp
                   with_reducible rfl
                  rotate_left
                  ·simp only [ps]
                   rfl
                  refine take_ (i := 4) (N := some 77) (v := ?_) (a' := ?_) #[true, true, true, true, true, true, false, false, false, false, false, false, false] rfl rfl (take_ofW HT_.out HW_.out (by kernel_rfl)) (fun _ _ _ h => h) (Or.inl ⟨by rfl, ?_⟩) hHeld ?_ ?_
                  rotate_left
                  ·rintro w' ⟨s0, s1, s2, s3, s4⟩
                   go_simp
                   with_reducible rfl
                  rotate_left
                  ·simp only [ps]
                   rfl
                  refine pure_ (i := 6) (N := some 79) (v := ?_) (a' := ?_) #[true, true, true, true, true, true, true, false, false, false, false, false, false] rfl rfl (any_of HT_.out (by kernel_rfl)) (fun _ _ _ h => h) (Or.inl ⟨by rfl, ?_⟩) ?_ ?_
                  rotate_left
                  ·intro w'
                   go_simp
                   with_reducible rfl
                  rotate_left
                  ·simp only [ps]
                   rfl
                  refine take_ (i := 7) (N := some 80) (v := ?_) (a' := ?_) #[true, true, true, true, true, true, true, true, false, false, false, false, false] rfl rfl (take_ofW HT_.out HW_.out (by kernel_rfl)) (fun _ _ _ h => h) (Or.inl ⟨by rfl, ?_⟩) hHeld ?_ ?_
                  rotate_left
                  ·rintro w' ⟨s0, s1, s2, s3, s4⟩
                   go_simp
                   with_reducible rfl
                  rotate_left
                  ·simp only [ps]
                   rfl
                  refine one_ (i := 8) (N := some 81) #[true, true, true, true, true, true, true, true, true, false, false, false, false] rfl rfl (one_of HT_.out (by kernel_rfl)) (by decide) (fun K hK => ?_)
                  refine goes_ Try.func25 (by kernel_rfl) rfl #[.int .i64 x15_5, .int .i64 (rd x209000_26 x17_5)] (by rfl) rfl rfl (by (try simp only [List.map_toArray, List.map_cons, List.map_nil]); first | done | rfl | (simp only [List.length_drop, List.length_take]; rfl)) ?_
                  with_reducible refine (hypercubelaw1_within.calls x15_5 (rd x209000_26 x17_5) t224 _ A43.out).mono ?_
                  rintro e w' ⟨rfl, ⟨nd, rfl⟩⟩
                  refine ⟨_, rfl, ?_⟩
                  refine hK.out _ _ ⟨(blk_cell BK222.out 0).trans rfl, (blk_cell BK222.out 1).trans rfl, (blk_cell BK208.out 0).trans rfl, (blk_cell BK208.out 1).trans rfl, hHeld.2.2.2.2⟩ (fun hHeld => ?_)
                  clear hK K
                  refine norm_ (a' := ?_) ?_ ?_
                  rotate_left
                  ·show Act.put _ (some 81) _ = _
                   simp only [ps]
                   rfl
                  refine one_ (i := 9) (N := some 82) #[true, true, true, true, true, true, true, true, true, true, false, false, false] rfl rfl (one_of HT_.out (by kernel_rfl)) (by decide) (fun K hK => ?_)
                  refine value_ (w1 := ?_) (v := ?_) (by rfl) rfl ?_ ?_
                  rotate_left 2
                  ·go_simp
                   constructor
                   ·rfl
                   ·rfl
                  refine hK.out _ _ ⟨(blk_cell (blk_alloc BK222.out _) 0).trans rfl, (blk_cell (blk_alloc BK222.out _) 1).trans rfl, (blk_cell (blk_alloc BK208.out _) 0).trans rfl, (blk_cell (blk_alloc BK208.out _) 1).trans rfl, (World.cell?_alloc_lt _ _ _ (World.block_lt_of_cell? _ _ (hHeld.2.2.2.2))).trans (hHeld.2.2.2.2)⟩ (fun hHeld => ?_)
                  clear hK K
                  refine norm_ (a' := ?_) ?_ ?_
                  rotate_left
                  ·show Act.put _ (some 82) _ = _
                   simp only [ps]
                   rfl
                  refine last_ (i := 10) (N := some 83) #[true, true, true, true, true, true, true, true, true, true, true, false, false] rfl rfl (one_of HT_.out (by kernel_rfl)) (by decide) (fun K hK => ?_)
                  refine Kd.R_append_step (Kd.int .i64) (w0 := w) w.heap.size (by rfl) (.tmp 74) (.tmp 82) 22 3 (.int .i64 0) 8 rfl Try.underlying22 info3 rfl (by decide) (by omega) u223000 x223000_5 t224 [.int .i64 t224] (fun k_ => some k_ ≠ (.slice (some ad223) x209000_26.length co48 : Value).ownBlock) (fun _ => False) rfl rfl ?aP (fun _ hk => hk.elim) ?aF ?aO ?aB ?aS ?aL ?_
                  (case aP => exact rfl)
                  (case aB => exact (wmv HB.out))
                  (case aF => exact (fun k_ hk => Kd.fresh' (Kd.R_lt (Kd.R_mv HO_209000.out)) k_ hk))
                  (case aO => exact (Kd.R_mv HO_223000.out))
                  (case aS => exact (below_size (wmv HB.out)))
                  (case aL => have := LMc44.out; omega)
                  intro v226 w50 ho hb hg hat
                  rw [← Ny225.out] at ho
                  have n0_ := Aside0.mk (Kd.S_after (ok := (fun k_ => some k_ ≠ (.slice (some ad223) x209000_26.length co48 : Value).ownBlock ∧ k_ ≠ gb222)) (Kd.S_mv (Kd.S_mono HO_13.out (fun _ hk => ⟨⟨hk.1, hk.2.2⟩, hk.2.1⟩))) hg hat)
                  have n1_ := Aside0.mk (Kd.R_after (ok := (fun _ => True)) (Kd.R_mv (Kd.R_mono HO_209000.out (fun _ hk => ⟨trivial, hk⟩))) hg hat)
                  have n2_ := Aside0.mk (blk_grown (bmv BK206.out) hg (Kd.R_ne HO_223000.out BK206.out (by decide)))
                  have n3_ := Aside0.mk (blk_grown (bmv BK208.out) hg (Kd.R_ne HO_223000.out BK208.out (by decide)))
                  have n4_ := Aside0.mk (blk_grown (bmv BK222.out) hg (Kd.R_ne HO_223000.out BK222.out (by decide)))
                  have n5_ := Aside0.mk (hb)
                  have n6_ := Aside0.mk (ho)
                  clear HO_13 HO_209000 BK206 BK208 BK222 HB HO_223000
                  revert n0_ n1_ n2_ n3_ n4_ n5_ n6_
                  intro HO_13 HO_209000 BK206 BK208 BK222 HB HO227
                  clear ho hb hg hat
                  obtain ⟨Ao51, co51, eo51⟩ := Kd.R_slice HO227.out
                  (first | subst eo51 | (injection eo51 with f1_ f2_ f3_; have f4_ := f1_.symm; have f5_ := f3_.symm; clear f1_ f2_ f3_; subst f4_; subst f5_))
                  refine hK.out _ _ ?_
                  clear hK K
                  refine norm_ (a' := ?_) ?_ ?_
                  rotate_left
                  ·show Act.put _ (some 83) _ = _
                   simp only [ps]
                   rfl
                  refine pure_ (i := 11) (N := some 84) (v := ?_) (a' := ?_) #[true, true, true, true, true, true, true, true, true, true, true, true, false] rfl rfl (any_of HT_.out (by kernel_rfl)) (fun _ _ _ h => h) (Or.inl ⟨by rfl, ?_⟩) ?_ ?_
                  rotate_left
                  ·intro w'
                   go_simp
                   with_reducible rfl
                  rotate_left
                  ·simp only [ps]
                   rfl
                  refine last_ (i := 12) (N := none) #[true, true, true, true, true, true, true, true, true, true, true, true, true] rfl rfl (one_of HT_.out (by kernel_rfl)) (by decide) (fun K hK => ?_)
                  have hs52 : w50.cell? ⟨gb222, 0, none⟩ = some (u223000) := (blk_cell BK222.out 0).trans rfl
                  have hfs52 := blk_frozen BK222.out 0
                  have hns52_0 := NB206_222.out
                  have hns52_1 := NB208_222.out
                  have hms52_0 := NB222_206.out
                  have hms52_1 := NB222_208.out
                  refine skip_ (w1 := ?_) (by rfl) rfl ?_ ?_
                  rotate_left
                  ·go_simp
                   rfl
                  refine hK.out _ _ ?_
                  clear hK K
                  refine done_ (done_of HT_.out (by kernel_rfl)) ?_
                  try go_wp2
                  go_roundg k5
                  case measure => have := HK1.out; have := HJ26.out; have := HK3.out; have := HJ34.out; have := HK5.out; omega
                  case rel => exact ⟨(wrap64 (Int.tdiv x15_5 5)), (wrap64 (x17_5 + 1)), (y225), (.slice Ao51 y225.length co51), (by first | rfl | (simp; done) | (simp [*]; done)), (by first | rfl | (simp; done) | (simp [*]; done)), H', ⟨by have := HK1.out; have := HJ26.out; have := HK3.out; have := HJ34.out; have := HK5.out; omega⟩, ⟨by (with_reducible repeat (first | apply Kd.S_alloc | apply Kd.S_drewN | apply Kd.S_drew)); exact Kd.S_mono (Kd.S_far (p := ⟨gb222, 0, none⟩) (Kd.S_mono HO_13.out (fun k_ hk => (⟨hk, hk.1.2⟩ : _ ∧ k_ ≠ gb222))) (fun _ hk => hk.2) (.slice Ao51 y225.length co51)) (fun _ hk => ⟨hk.1.1.1, ⟨hk.1.2, hk.1.1.2⟩⟩)⟩, ⟨by (with_reducible repeat (first | apply Kd.R_alloc | apply Kd.R_drewN | apply Kd.R_drew)); exact Kd.R_mono (Kd.R_far (p := ⟨gb222, 0, none⟩) (Kd.R_types HO_209000.out BK222.out (by decide)) (fun _ hk => hk.2) (.slice Ao51 y225.length co51)) (fun _ hk => hk.1.2)⟩, ⟨by (with_reducible repeat (first | apply Kd.R_alloc | apply Kd.R_drewN | apply Kd.R_drew)); exact Kd.R_mono (Kd.R_far (p := ⟨gb222, 0, none⟩) (Kd.R_types HO227.out BK222.out (by decide)) (fun _ hk => hk.2) (.slice Ao51 y225.length co51)) (fun _ hk => hk.1)⟩, ⟨by (with_reducible repeat (first | refine blk_drewN ?_ _ | refine blk_drew ?_ | refine blk_alloc ?_ _)); refine blk_far ?_ NB206_222.out _; (with_reducible repeat (first | refine blk_drewN ?_ _ | refine blk_drew ?_ | refine blk_alloc ?_ _)); exact BK206.out⟩, ⟨by (with_reducible repeat (first | refine blk_drewN ?_ _ | refine blk_drew ?_ | refine blk_alloc ?_ _)); refine blk_far ?_ NB208_222.out _; (with_reducible repeat (first | refine blk_drewN ?_ _ | refine blk_drew ?_ | refine blk_alloc ?_ _)); exact BK208.out⟩, ⟨by (with_reducible repeat (first | refine blk_drewN ?_ _ | refine blk_drew ?_ | refine blk_alloc ?_ _)); refine blk_put (cs := #[u223000, .slice none 0 0]) ?_ 0 _ rfl; (with_reducible repeat (first | refine blk_drewN ?_ _ | refine blk_drew ?_ | refine blk_alloc ?_ _)); exact BK222.out⟩, ⟨by repeat (first | (with_reducible first | exact HB.out | apply below_alloc | apply pw_below_drewN | apply below_drew1 | refine below_set ?_ GE206.out | refine below_set ?_ GE208.out | refine below_set ?_ GE222.out) | exact HB.out)⟩⟩
                 ·rw [if_neg c44] at H
                  exact absurd H (by simp)
                ·rw [if_neg c42] at H
                 exact absurd H (by simp)
               ·rw [if_neg c41] at H
                have c41b0 : decide (x17_5 < (x209000_26.length : Int)) = false := decide_eq_false c41
                clear c41
                have H' := Aside0.mk H
                clear H
                have hnb53 := NB208_206.out
                have hnc53 := NB206_208.out
                have hnb54 := NB208_222.out
                have hnc54 := NB222_208.out
                have hcz55_0 : wr.cell? ⟨gb208, 0, none⟩ = some (u209000) := (blk_cell BK208.out 0).trans rfl
                have hcz55_1 : wr.cell? ⟨gb208, 1, none⟩ = some (.int .i64 t207) := (blk_cell BK208.out 1).trans rfl
                have hfz55_0 := blk_frozen BK208.out 0
                have hfz55_1 := blk_frozen BK208.out 1
                obtain ⟨Ao56, co56, eo56⟩ := Kd.R_slice HO_209000.out
                subst eo56
                go_wp2
                go_loopg [18] k5 (fun kq v18 w' => ∃ (x18_6 : Int) (x223001_6 : List Int) (u223001 : Value), v18 = .int .i64 x18_6 ∧ Aside0 (hypercubelaw1_Facts.l3 kq l3 x13_3 x14_3 x15_5 x18_6 x209000_26 t207 x223000_5 x223001_6 = some (r1, r2, r3)) ∧ Aside0 (kq ≤ k5) ∧ Aside0 (Kd.S k45 45 w' w.heap.size (fun k_ => some k_ ≠ ((.slice Ao56 x209000_26.length co56) : Value).ownBlock ∧ some k_ ≠ (u223000 : Value).ownBlock ∧ some k_ ≠ (u223001 : Value).ownBlock ∧ k_ ≠ gb222) u13 x13_3) ∧ Aside0 (Kd.R (Kd.int .i64) 3 w' w.heap.size (fun k_ => some k_ ≠ (u223000 : Value).ownBlock ∧ some k_ ≠ (u223001 : Value).ownBlock) (.slice Ao56 x209000_26.length co56) x209000_26) ∧ Aside0 (Kd.R (Kd.int .i64) 3 w' w.heap.size (fun k_ => some k_ ≠ ((.slice Ao56 x209000_26.length co56) : Value).ownBlock ∧ some k_ ≠ (u223001 : Value).ownBlock) u223000 x223000_5) ∧ Aside0 (Kd.R (Kd.int .i64) 3 w' w.heap.size (fun k_ => some k_ ≠ ((.slice Ao56 x209000_26.length co56) : Value).ownBlock ∧ some k_ ≠ (u223000 : Value).ownBlock) u223001 x223001_6) ∧ Aside0 (w'.heap[gb206]? = some (.cells #[(.slice none 0 0), .int .i64 0] 25 (0, 0))) ∧ Aside0 (w'.heap[gb208]? = some (.cells #[(.slice Ao56 x209000_26.length co56), .int .i64 t207] 25 (0, 0))) ∧ Aside0 (w'.heap[gb222]? = some (.cells #[u223000, u223001] 45 (0, 0))) ∧ Aside0 (Below w.heap.size w w'))
                case atStart => exact ⟨(0), (([] : List Int)), (.slice none 0 0), (by first | rfl | (simp; done) | (simp [*]; done)), H', ⟨Nat.le_refl _⟩, ⟨by (with_reducible repeat (first | apply Kd.S_alloc | apply Kd.S_drewN | apply Kd.S_drew)); exact Kd.S_mono HO_13.out (fun _ hk => ⟨hk.1, ⟨hk.2.1, ⟨(by simp [Value.ownBlock]), hk.2.2⟩⟩⟩)⟩, ⟨by (with_reducible repeat (first | apply Kd.R_alloc | apply Kd.R_drewN | apply Kd.R_drew)); exact Kd.R_mono HO_209000.out (fun _ hk => ⟨hk, (by simp [Value.ownBlock])⟩)⟩, ⟨by (with_reducible repeat (first | apply Kd.R_alloc | apply Kd.R_drewN | apply Kd.R_drew)); exact Kd.R_mono HO_223000.out (fun _ hk => ⟨hk, (by simp [Value.ownBlock])⟩)⟩, ⟨by first | exact Kd.R_nil _ _ _ _ _ | exact Kd.N_nil _ _ _ _ _ | exact Kd.V_nil _ _ _ _ _ | exact Kd.Q_nil _ _ _ _ _ | exact Kd.S_nil _ _ _ _ _⟩, ⟨by (with_reducible repeat (first | refine blk_drewN ?_ _ | refine blk_drew ?_ | refine blk_alloc ?_ _)); exact BK206.out⟩, ⟨by (with_reducible repeat (first | refine blk_drewN ?_ _ | refine blk_drew ?_ | refine blk_alloc ?_ _)); exact BK208.out⟩, ⟨by (with_reducible repeat (first | refine blk_drewN ?_ _ | refine blk_drew ?_ | refine blk_alloc ?_ _)); exact BK222.out⟩, ⟨by repeat (first | (with_reducible first | exact HB.out | apply below_alloc | apply pw_below_drewN | apply below_drew1 | refine below_set ?_ GE206.out | refine below_set ?_ GE208.out | refine below_set ?_ GE222.out) | exact HB.out)⟩⟩
                case round =>
                 clear H'
                 try clear c1
                 try clear c2
                 try clear p2
                 try clear q2
                 try clear hx2
                 try clear c3
                 try clear p3
                 try clear q3
                 try clear hx3
                 try clear qi3
                 try clear c4
                 try clear c5
                 try clear p6
                 try clear c8
                 try clear c11
                 try clear c11b0
                 try clear c12
                 try clear c12b0
                 try clear c13
                 try clear c13b0
                 try clear c15
                 try clear c21
                 try clear p21
                 try clear q21
                 try clear hx21
                 try clear p22
                 try clear q22
                 try clear hx22
                 try clear c25
                 try clear c28
                 try clear c28b0
                 try clear c28b1
                 try clear c29
                 try clear c29b0
                 try clear c29b1
                 try clear p30
                 try clear q30
                 try clear hx30
                 try clear qi30
                 try clear hf30
                 try clear c31
                 try clear c36
                 try clear c36b0
                 try clear c37
                 try clear c38
                 try clear c38b0
                 try clear c39
                 try clear c39b0
                 try clear c41
                 try clear c41b0
                 try clear c42
                 try clear c42b0
                 try clear c44
                 try clear c45
                 try clear c46
                 try clear c53
                 try clear c54
                 try clear hcz32_0
                 try clear hcz32_1
                 try clear hcz47_0
                 try clear hcz47_1
                 try clear hcz55_0
                 try clear hcz55_1
                 try clear hcz9_0
                 try clear hcz9_1
                 try clear hfz32_0
                 try clear hfz32_1
                 try clear hfz47_0
                 try clear hfz47_1
                 try clear hfz55_0
                 try clear hfz55_1
                 try clear hfz9_0
                 try clear hfz9_1
                 try clear hx210_0
                 try clear hx221_0
                 try clear hx223_0
                 try clear hx30_0
                 try clear p2
                 try clear p21
                 try clear p210
                 try clear p22
                 try clear p221
                 try clear p223
                 try clear p3
                 try clear p30
                 try clear p6
                 try clear q2
                 try clear q21
                 try clear q210
                 try clear q22
                 try clear q221
                 try clear q223
                 try clear q3
                 try clear q30
                 obtain ⟨x18_6, x223001_6, u223001, rfl, HA, HK6, HO_13, HO_209000, HO_223000, HO_223001, BK206, BK208, BK222, HB⟩ := hrel
                 cases gk with
                 | zero => exact absurd HA.out (by simp [hypercubelaw1_Facts.l3])
                 | succ k6 =>
                  have H := HA.out
                  clear HA
                  simp only [hypercubelaw1_Facts.l3] at H
                  by_cases c57 : x18_6 < t207
                  ·rw [if_pos c57] at H
                   have c57b0 : decide (x18_6 < t207) = true := decide_eq_true c57
                   clear c57
                   replace H := Option.bind_eq_some_iff.mp H
                   obtain ⟨t228, A580, H⟩ := H
                   replace H : (if x223001_6.length < 17592186044416 then (hypercubelaw1_Facts.l3 k6 l3 x13_3 x14_3 x15_5 (wrap64 (x18_6 + 1)) x209000_26 t207 x223000_5 (x223001_6 ++ [wrap64 (t228 - 100)])) else (none)) = some (r1, r2, r3) := H
                   have A58 := Aside0.mk A580
                   clear A580
                   by_cases c59 : x223001_6.length < 17592186044416
                   ·rw [if_pos c59] at H
                    have LMc59 := Aside0.mk c59
                    clear c59
                    obtain ⟨y229, hy229⟩ : ∃ y_ : List Int, y_ = (x223001_6 ++ [wrap64 (t228 - 100)]) := ⟨_, rfl⟩
                    replace H : (hypercubelaw1_Facts.l3 k6 l3 x13_3 x14_3 x15_5 (wrap64 (x18_6 + 1)) x209000_26 t207 x223000_5 y229) = some (r1, r2, r3) := by rw [hy229]; with_reducible exact H
                    have Ny229 := Aside0.mk hy229
                    clear hy229
                    have H' := Aside0.mk H
                    clear H
                    have hnb60 := NB208_206.out
                    have hnc60 := NB206_208.out
                    have hnb61 := NB208_222.out
                    have hnc61 := NB222_208.out
                    have hcz62_0 : wr.cell? ⟨gb208, 0, none⟩ = some (.slice Ao56 x209000_26.length co56) := (blk_cell BK208.out 0).trans rfl
                    have hcz62_1 : wr.cell? ⟨gb208, 1, none⟩ = some (.int .i64 t207) := (blk_cell BK208.out 1).trans rfl
                    have hfz62_0 := blk_frozen BK208.out 0
                    have hfz62_1 := blk_frozen BK208.out 1
                    try go_wp2
                    have n0_ := Aside0.mk (Kd.S_drew HO_13.out)
                    have n1_ := Aside0.mk (Kd.R_drew HO_209000.out)
                    have n2_ := Aside0.mk (Kd.R_drew HO_223000.out)
                    have n3_ := Aside0.mk (Kd.R_drew HO_223001.out)
                    have n4_ := Aside0.mk (blk_drew BK206.out)
                    have n5_ := Aside0.mk (blk_drew BK208.out)
                    have n6_ := Aside0.mk (blk_drew BK222.out)
                    have n7_ := Aside0.mk (below_drew1 HB.out)
                    clear HO_13 HO_209000 HO_223000 HO_223001 BK206 BK208 BK222 HB
                    revert n0_ n1_ n2_ n3_ n4_ n5_ n6_ n7_
                    intro HO_13 HO_209000 HO_223000 HO_223001 BK206 BK208 BK222 HB
                    refine start_ (n := 12) (S := fun w' => w'.cell? ⟨gb222, 0, none⟩ = some (u223000) ∧ w'.cell? ⟨gb222, 1, none⟩ = some (u223001)) (ds := [11]) #[false, false, false, false, false, false, false, false, false, false, false, false] (by kernel_rfl) rfl rfl ⟨(blk_cell BK222.out 0).trans rfl, (blk_cell BK222.out 1).trans rfl⟩ (fun hHeld => ?_); refine with_tabW hypercubelaw1_Facts.tab25 hypercubelaw1_Facts.bits25 (fun HT_ HW_ => ?_)
                    generalize wr.drew = w63 at HO_13 HO_209000 HO_223000 HO_223001 BK206 BK208 BK222 HB hHeld ⊢
                    refine pure_ (i := 0) (N := some 93) (v := ?_) (a' := ?_) #[true, false, false, false, false, false, false, false, false, false, false, false] rfl rfl (any_of HT_.out (by kernel_rfl)) (fun _ _ _ h => h) (Or.inl ⟨by rfl, ?_⟩) ?_ ?_
                    rotate_left
                    ·intro w'
                     go_simp
                     with_reducible rfl
                    rotate_left
                    ·simp only [ps]
                     rfl
                    refine pure_ (i := 2) (N := some 95) (v := ?_) (a' := ?_) #[true, false, true, false, false, false, false, false, false, false, false, false] rfl rfl (any_of HT_.out (by kernel_rfl)) (fun _ _ _ h => h) (Or.inl ⟨by rfl, ?_⟩) ?_ ?_
                    rotate_left
                    ·intro w'
                     go_simp
                     with_reducible rfl
                    rotate_left
                    ·simp only [ps]
                     rfl
                    refine pure_ (i := 3) (N := some 96) (v := ?_) (a' := ?_) #[true, false, true, true, false, false, false, false, false, false, false, false] rfl rfl (any_of HT_.out (by kernel_rfl)) (fun _ _ _ h => h) (Or.inl ⟨by rfl, ?_⟩) ?_ ?_
                    rotate_left
                    ·intro w'
                     go_simp
                     with_reducible rfl
                    rotate_left
                    ·simp only [ps]
                     rfl
                    refine pure_ (i := 4) (N := some 97) (v := ?_) (a' := ?_) #[true, false, true, true, true, false, false, false, false, false, false, false] rfl rfl (any_of HT_.out (by kernel_rfl)) (fun _ _ _ h => h) (Or.inl ⟨by rfl, ?_⟩) ?_ ?_
                    rotate_left
                    ·intro w'
                     go_simp
                     with_reducible rfl
                    rotate_left
                    ·simp only [ps]
                     rfl
                    refine pure_ (i := 5) (N := some 98) (v := ?_) (a' := ?_) #[true, false, true, true, true, true, false, false, false, false, false, false] rfl rfl (any_of HT_.out (by kernel_rfl)) (fun _ _ _ h => h) (Or.inl ⟨by rfl, ?_⟩) ?_ ?_
                    rotate_left
                    ·intro w'
                     go_simp
                     with_reducible rfl
                    rotate_left
                    ·simp only [ps]
                     rfl
                    refine take_ (i := 1) (N := some 94) (v := ?_) (a' := ?_) #[true, true, true, true, true, true, false, false, false, false, false, false] rfl rfl (take_ofW HT_.out HW_.out (by kernel_rfl)) (fun _ _ _ h => h) (Or.inl ⟨by rfl, ?_⟩) hHeld ?_ ?_
                    rotate_left
                    ·rintro w' ⟨s0, s1⟩
                     go_simp
                     with_reducible rfl
                    rotate_left
                    ·simp only [ps]
                     rfl
                    refine one_ (i := 6) (N := some 99) #[true, true, true, true, true, true, true, false, false, false, false, false] rfl rfl (one_of HT_.out (by kernel_rfl)) (by decide) (fun K hK => ?_)
                    refine goes_ Try.func25 (by kernel_rfl) rfl #[.int .i64 (wrap64 (x15_5 + (wrap64 (7 * x18_6)))), .int .i64 201] (by rfl) rfl rfl (by (try simp only [List.map_toArray, List.map_cons, List.map_nil]); first | done | rfl | (simp only [List.length_drop, List.length_take]; rfl)) ?_
                    with_reducible refine (hypercubelaw1_within.calls (wrap64 (x15_5 + (wrap64 (7 * x18_6)))) 201 t228 _ A58.out).mono ?_
                    rintro e w' ⟨rfl, ⟨nd, rfl⟩⟩
                    refine ⟨_, rfl, ?_⟩
                    refine hK.out _ _ ⟨(blk_cell BK222.out 0).trans rfl, (blk_cell BK222.out 1).trans rfl⟩ (fun hHeld => ?_)
                    clear hK K
                    refine norm_ (a' := ?_) ?_ ?_
                    rotate_left
                    ·show Act.put _ (some 99) _ = _
                     simp only [ps]
                     rfl
                    refine pure_ (i := 7) (N := some 100) (v := ?_) (a' := ?_) #[true, true, true, true, true, true, true, true, false, false, false, false] rfl rfl (any_of HT_.out (by kernel_rfl)) (fun _ _ _ h => h) (Or.inl ⟨by rfl, ?_⟩) ?_ ?_
                    rotate_left
                    ·intro w'
                     go_simp
                     with_reducible rfl
                    rotate_left
                    ·simp only [ps]
                     rfl
                    refine one_ (i := 8) (N := some 101) #[true, true, true, true, true, true, true, true, true, false, false, false] rfl rfl (one_of HT_.out (by kernel_rfl)) (by decide) (fun K hK => ?_)
                    refine value_ (w1 := ?_) (v := ?_) (by rfl) rfl ?_ ?_
                    rotate_left 2
                    ·go_simp
                     constructor
                     ·rfl
                     ·rfl
                    refine hK.out _ _ ⟨(blk_cell (blk_alloc BK222.out _) 0).trans rfl, (blk_cell (blk_alloc BK222.out _) 1).trans rfl⟩ (fun hHeld => ?_)
                    clear hK K
                    refine norm_ (a' := ?_) ?_ ?_
                    rotate_left
                    ·show Act.put _ (some 101) _ = _
                     simp only [ps]
                     rfl
                    refine one_ (i := 9) (N := some 102) #[true, true, true, true, true, true, true, true, true, true, false, false] rfl rfl (one_of HT_.out (by kernel_rfl)) (by decide) (fun K hK => ?_)
                    refine Kd.R_append_step (Kd.int .i64) (w0 := w) w.heap.size (by rfl) (.tmp 94) (.tmp 101) 22 3 (.int .i64 0) 8 rfl Try.underlying22 info3 rfl (by decide) (by omega) u223001 x223001_6 (wrap64 (t228 - 100)) [.int .i64 (wrap64 (t228 - 100))] (fun k_ => some k_ ≠ (.slice Ao56 x209000_26.length co56 : Value).ownBlock ∧ some k_ ≠ (u223000 : Value).ownBlock) (fun _ => False) rfl rfl ?aP (fun _ hk => hk.elim) ?aF ?aO ?aB ?aS ?aL ?_
                    (case aP => exact rfl)
                    (case aB => exact (wmv HB.out))
                    (case aF => exact (fun k_ hk => ⟨Kd.fresh' (Kd.R_lt (Kd.R_mv HO_209000.out)) k_ hk, Kd.fresh' (Kd.R_lt (Kd.R_mv HO_223000.out)) k_ hk⟩))
                    (case aO => exact (Kd.R_mv HO_223001.out))
                    (case aS => exact (below_size (wmv HB.out)))
                    (case aL => have := LMc59.out; omega)
                    intro v230 w64 ho hb hg hat
                    rw [← Ny229.out] at ho
                    have n0_ := Aside0.mk (Kd.S_after (ok := (fun k_ => some k_ ≠ (.slice Ao56 x209000_26.length co56 : Value).ownBlock ∧ some k_ ≠ (u223000 : Value).ownBlock ∧ k_ ≠ gb222)) (Kd.S_mv (Kd.S_mono HO_13.out (fun _ hk => ⟨⟨hk.1, ⟨hk.2.1, hk.2.2.2⟩⟩, hk.2.2.1⟩))) hg hat)
                    have n1_ := Aside0.mk (Kd.R_after (ok := (fun k_ => some k_ ≠ (u223000 : Value).ownBlock)) (Kd.R_mv HO_209000.out) hg hat)
                    have n2_ := Aside0.mk (Kd.R_after (ok := (fun k_ => some k_ ≠ (.slice Ao56 x209000_26.length co56 : Value).ownBlock)) (Kd.R_mv HO_223000.out) hg hat)
                    have n3_ := Aside0.mk (blk_grown (bmv BK206.out) hg (Kd.R_ne HO_223001.out BK206.out (by decide)))
                    have n4_ := Aside0.mk (blk_grown (bmv BK208.out) hg (Kd.R_ne HO_223001.out BK208.out (by decide)))
                    have n5_ := Aside0.mk (blk_grown (bmv BK222.out) hg (Kd.R_ne HO_223001.out BK222.out (by decide)))
                    have n6_ := Aside0.mk (hb)
                    have n7_ := Aside0.mk (ho)
                    clear HO_13 HO_209000 HO_223000 BK206 BK208 BK222 HB HO_223001
                    revert n0_ n1_ n2_ n3_ n4_ n5_ n6_ n7_
                    intro HO_13 HO_209000 HO_223000 BK206 BK208 BK222 HB HO231
                    clear ho hb hg hat
                    obtain ⟨Ao65, co65, eo65⟩ := Kd.R_slice HO231.out
                    (first | subst eo65 | (injection eo65 with f1_ f2_ f3_; have f4_ := f1_.symm; have f5_ := f3_.symm; clear f1_ f2_ f3_; subst f4_; subst f5_))
                    refine hK.out _ _ ⟨(blk_cell BK222.out 0).trans rfl, (blk_cell BK222.out 1).trans rfl⟩ (fun hHeld => ?_)
                    clear hK K
                    refine norm_ (a' := ?_) ?_ ?_
                    rotate_left
                    ·show Act.put _ (some 102) _ = _
                     simp only [ps]
                     rfl
                    refine pure_ (i := 10) (N := some 103) (v := ?_) (a' := ?_) #[true, true, true, true, true, true, true, true, true, true, true, false] rfl rfl (any_of HT_.out (by kernel_rfl)) (fun _ _ _ h => h) (Or.inl ⟨by rfl, ?_⟩) ?_ ?_
                    rotate_left
                    ·intro w'
                     go_simp
                     with_reducible rfl
                    rotate_left
                    ·simp only [ps]
                     rfl
                    refine last_ (i := 11) (N := none) #[true, true, true, true, true, true, true, true, true, true, true, true] rfl rfl (one_of HT_.out (by kernel_rfl)) (by decide) (fun K hK => ?_)
                    have hs66 : w64.cell? ⟨gb222, 1, none⟩ = some (u223001) := (blk_cell BK222.out 1).trans rfl
                    have hfs66 := blk_frozen BK222.out 1
                    have hns66_0 := NB206_222.out
                    have hns66_1 := NB208_222.out
                    have hms66_0 := NB222_206.out
                    have hms66_1 := NB222_208.out
                    refine skip_ (w1 := ?_) (by rfl) rfl ?_ ?_
                    rotate_left
                    ·go_simp
                     rfl
                    refine hK.out _ _ ?_
                    clear hK K
                    refine done_ (done_of HT_.out (by kernel_rfl)) ?_
                    try go_wp2
                    go_roundg k6
                    case measure => have := HK1.out; have := HJ26.out; have := HK3.out; have := HJ34.out; have := HK5.out; have := HK6.out; omega
                    case rel => exact ⟨(wrap64 (x18_6 + 1)), (y229), (.slice Ao65 y229.length co65), (by first | rfl | (simp; done) | (simp [*]; done)), H', ⟨by have := HK1.out; have := HJ26.out; have := HK3.out; have := HJ34.out; have := HK5.out; have := HK6.out; omega⟩, ⟨by (with_reducible repeat (first | apply Kd.S_alloc | apply Kd.S_drewN | apply Kd.S_drew)); exact Kd.S_mono (Kd.S_far (p := ⟨gb222, 1, none⟩) (Kd.S_mono HO_13.out (fun k_ hk => (⟨hk, hk.1.2.2⟩ : _ ∧ k_ ≠ gb222))) (fun _ hk => hk.2) (.slice Ao65 y229.length co65)) (fun _ hk => ⟨hk.1.1.1, ⟨hk.1.1.2.1, ⟨hk.1.2, hk.1.1.2.2⟩⟩⟩)⟩, ⟨by (with_reducible repeat (first | apply Kd.R_alloc | apply Kd.R_drewN | apply Kd.R_drew)); exact Kd.R_mono (Kd.R_far (p := ⟨gb222, 1, none⟩) (Kd.R_types HO_209000.out BK222.out (by decide)) (fun _ hk => hk.2) (.slice Ao65 y229.length co65)) (fun _ hk => ⟨hk.1.1, hk.1.2⟩)⟩, ⟨by (with_reducible repeat (first | apply Kd.R_alloc | apply Kd.R_drewN | apply Kd.R_drew)); exact Kd.R_mono (Kd.R_far (p := ⟨gb222, 1, none⟩) (Kd.R_types HO_223000.out BK222.out (by decide)) (fun _ hk => hk.2) (.slice Ao65 y229.length co65)) (fun _ hk => ⟨hk.1.1, hk.1.2⟩)⟩, ⟨by (with_reducible repeat (first | apply Kd.R_alloc | apply Kd.R_drewN | apply Kd.R_drew)); exact Kd.R_mono (Kd.R_far (p := ⟨gb222, 1, none⟩) (Kd.R_types HO231.out BK222.out (by decide)) (fun _ hk => hk.2) (.slice Ao65 y229.length co65)) (fun _ hk => ⟨hk.1.1, hk.1.2⟩)⟩, ⟨by (with_reducible repeat (first | refine blk_drewN ?_ _ | refine blk_drew ?_ | refine blk_alloc ?_ _)); refine blk_far ?_ NB206_222.out _; (with_reducible repeat (first | refine blk_drewN ?_ _ | refine blk_drew ?_ | refine blk_alloc ?_ _)); exact BK206.out⟩, ⟨by (with_reducible repeat (first | refine blk_drewN ?_ _ | refine blk_drew ?_ | refine blk_alloc ?_ _)); refine blk_far ?_ NB208_222.out _; (with_reducible repeat (first | refine blk_drewN ?_ _ | refine blk_drew ?_ | refine blk_alloc ?_ _)); exact BK208.out⟩, ⟨by (with_reducible repeat (first | refine blk_drewN ?_ _ | refine blk_drew ?_ | refine blk_alloc ?_ _)); refine blk_put (cs := #[u223000, u223001]) ?_ 1 _ rfl; (with_reducible repeat (first | refine blk_drewN ?_ _ | refine blk_drew ?_ | refine blk_alloc ?_ _)); exact BK222.out⟩, ⟨by repeat (first | (with_reducible first | exact HB.out | apply below_alloc | apply pw_below_drewN | apply below_drew1 | refine below_set ?_ GE206.out | refine below_set ?_ GE208.out | refine below_set ?_ GE222.out) | exact HB.out)⟩⟩
                   ·rw [if_neg c59] at H
                    exact absurd H (by simp)
                  ·rw [if_neg c57] at H
                   have c57b0 : decide (x18_6 < t207) = false := decide_eq_false c57
                   clear c57
                   by_cases c67 : x13_3.length < 2932031007402
                   ·rw [if_pos c67] at H
                    have LMc67 := Aside0.mk c67
                    clear c67
                    obtain ⟨y232, hy232⟩ : ∃ y_ : List (S45), y_ = (x13_3 ++ [(⟨x223000_5, x223001_6⟩ : S45)]) := ⟨_, rfl⟩
                    replace H : (hypercubelaw1_Facts.l1 k6 l3 y232 (wrap64 (x14_3 + 1)) x209000_26 t207) = some (r1, r2, r3) := by rw [hy232]; with_reducible exact H
                    have Ny232 := Aside0.mk hy232
                    clear hy232
                    have H' := Aside0.mk H
                    clear H
                    have hnb68 := NB208_206.out
                    have hnc68 := NB206_208.out
                    have hnb69 := NB208_222.out
                    have hnc69 := NB222_208.out
                    have hcz70_0 : wr.cell? ⟨gb208, 0, none⟩ = some (.slice Ao56 x209000_26.length co56) := (blk_cell BK208.out 0).trans rfl
                    have hcz70_1 : wr.cell? ⟨gb208, 1, none⟩ = some (.int .i64 t207) := (blk_cell BK208.out 1).trans rfl
                    have hfz70_0 := blk_frozen BK208.out 0
                    have hfz70_1 := blk_frozen BK208.out 1
                    have hnb71 := NB222_206.out
                    have hnc71 := NB206_222.out
                    have hcz72_0 : wr.cell? ⟨gb222, 0, none⟩ = some (u223000) := (blk_cell BK222.out 0).trans rfl
                    have hcz72_1 : wr.cell? ⟨gb222, 1, none⟩ = some (u223001) := (blk_cell BK222.out 1).trans rfl
                    have hfz72_0 := blk_frozen BK222.out 0
                    have hfz72_1 := blk_frozen BK222.out 1
                    obtain ⟨Ao74, co74, eo74⟩ := Kd.R_slice HO_223000.out
                    subst eo74
                    obtain ⟨Ao75, co75, eo75⟩ := Kd.R_slice HO_223001.out
                    subst eo75
                    go_wp2_with (first | ((with_reducible refine gate_builtin (b := .append) (xs := #[.tmp 104, .tmp 106]) rfl ?_); at_builtin; refine Kd.S_append k45 (w0 := w) w.heap.size rfl (.tmp 104) (.tmp 106) 26 45 (.agg #[(.slice none 0 0), (.slice none 0 0)]) 48 rfl Try.underlying26 info45 rfl (by decide) (by omega) u13 x13_3 (⟨x223000_5, x223001_6⟩ : S45) [.slice Ao74 x223000_5.length co74, .slice Ao75 x223001_6.length co75] (fun k_ => some k_ ≠ (.slice Ao56 x209000_26.length co56 : Value).ownBlock ∧ k_ ≠ gb222) (fun k_ => some k_ = (.slice Ao74 x223000_5.length co74 : Value).ownBlock ∨ some k_ = (.slice Ao75 x223001_6.length co75 : Value).ownBlock) rfl rfl ?aP (fun k_ hk_ => hk_.elim (fun h_ => ((Kd.R_mono (ok' := fun k_ => ((fun k_ => some k_ ≠ (.slice Ao56 x209000_26.length co56 : Value).ownBlock ∧ k_ ≠ gb222)) k_ ∧ some k_ ≠ (u13 : Value).ownBlock) (Kd.R_types (Kd.R_apart' (HO_223000.out) (Kd.S_typed HO_13.out) (by decide)) BK222.out (by decide)) (fun k_ hk => ⟨⟨hk.1.1.1, hk.2⟩, hk.1.2⟩))).1 k_ h_.symm) (fun h_ => ((Kd.R_mono (ok' := fun k_ => ((fun k_ => some k_ ≠ (.slice Ao56 x209000_26.length co56 : Value).ownBlock ∧ k_ ≠ gb222)) k_ ∧ some k_ ≠ (u13 : Value).ownBlock) (Kd.R_types (Kd.R_apart' (HO_223001.out) (Kd.S_typed HO_13.out) (by decide)) BK222.out (by decide)) (fun k_ hk => ⟨⟨hk.1.1.1, hk.2⟩, hk.1.2⟩))).1 k_ h_.symm)) ?aF ?aO ?aB ?aS ?aL ?_; (case aP => exact k45_mkM _ _ _ (⟨x223000_5, x223001_6⟩ : S45) (Kd.R_mono (Kd.R_tight rfl (Kd.R_mono (ok' := fun k_ => ((fun k_ => some k_ ≠ (.slice Ao56 x209000_26.length co56 : Value).ownBlock ∧ k_ ≠ gb222)) k_ ∧ some k_ ≠ (u13 : Value).ownBlock) (Kd.R_types (Kd.R_apart' (HO_223000.out) (Kd.S_typed HO_13.out) (by decide)) BK222.out (by decide)) (fun k_ hk => ⟨⟨hk.1.1.1, hk.2⟩, hk.1.2⟩))) (fun _ h_ => Or.inl h_)) (Kd.R_mono (Kd.R_tight rfl (Kd.R_mono (ok' := fun k_ => ((fun k_ => some k_ ≠ (.slice Ao56 x209000_26.length co56 : Value).ownBlock ∧ k_ ≠ gb222)) k_ ∧ some k_ ≠ (u13 : Value).ownBlock) (Kd.R_types (Kd.R_apart' (HO_223001.out) (Kd.S_typed HO_13.out) (by decide)) BK222.out (by decide)) (fun k_ hk => ⟨⟨hk.1.1.1, hk.2⟩, hk.1.2⟩))) (fun _ h_ => Or.inr (h_)))); (case aB => exact (wmv HB.out)); (case aF => exact (fun k_ hk => ⟨Kd.fresh' (Kd.R_lt (Kd.R_mv HO_209000.out)) k_ hk, Kd.freshB (bmv BK222.out) k_ hk⟩)); (case aO => exact (Kd.S_mv (Kd.S_mono HO_13.out (fun k_ hk => ⟨⟨hk.1, hk.2.2.2⟩, fun e_ => e_.elim (fun h_ => hk.2.1 h_) (fun h_ => hk.2.2.1 h_)⟩)))); (case aS => exact (below_size (wmv HB.out))); (case aL => have := LMc67.out; omega); intro v233 w73 ho hb hg hat; rw [← Ny232.out] at ho; have n0_ := Aside0.mk (Kd.R_over' (Kd.R_mv HO_209000.out) (Kd.S_typed (Kd.S_mv HO_13.out)) (by decide) hg); have n1_ := Aside0.mk (blk_grown (bmv BK206.out) hg (Kd.S_ne HO_13.out BK206.out (by decide))); have n2_ := Aside0.mk (blk_grown (bmv BK208.out) hg (Kd.S_ne HO_13.out BK208.out (by decide))); have n3_ := Aside0.mk (blk_grown (bmv BK222.out) hg (Kd.S_away HO_13.out (fun _ hk => hk.2.2.2))); have n4_ := Aside0.mk (hb); have n5_ := Aside0.mk (ho); clear HO_209000 BK206 BK208 BK222 HB HO_13 HO_223000 HO_223001; revert n0_ n1_ n2_ n3_ n4_ n5_; intro HO_209000 BK206 BK208 BK222 HB HO234; clear ho hb hg hat))
                    go_roundg k6
                    case measure => have := HK1.out; have := HJ26.out; have := HK3.out; have := HJ34.out; have := HK5.out; have := HK6.out; omega
                    case rel => exact ⟨(y232), (wrap64 (x14_3 + 1)), (by first | rfl | (simp; done) | (simp [*]; done)), H', ⟨by have := HK1.out; have := HJ26.out; have := HK3.out; have := HJ34.out; have := HK5.out; have := HK6.out; omega⟩, ⟨by (with_reducible repeat (first | apply Kd.S_alloc | apply Kd.S_drewN | apply Kd.S_drew)); exact Kd.S_mono HO234.out (fun _ hk => hk.1)⟩, ⟨by (with_reducible repeat (first | apply Kd.R_alloc | apply Kd.R_drewN | apply Kd.R_drew)); exact Kd.R_mono HO_209000.out (fun _ hk => trivial)⟩, ⟨by (with_reducible repeat (first | refine blk_drewN ?_ _ | refine blk_drew ?_ | refine blk_alloc ?_ _)); exact BK206.out⟩, ⟨by (with_reducible repeat (first | refine blk_drewN ?_ _ | refine blk_drew ?_ | refine blk_alloc ?_ _)); exact BK208.out⟩, ⟨by repeat (first | (with_reducible first | exact HB.out | apply below_alloc | apply pw_below_drewN | apply below_drew1 | refine below_set ?_ GE206.out | refine below_set ?_ GE208.out | refine below_set ?_ GE222.out) | exact HB.out)⟩⟩
                   ·rw [if_neg c67] at H
                    exact absurd H (by simp)
            ·rw [if_neg c39] at H
             exact absurd H (by simp)
           ·rw [if_neg c38] at H
            exact absurd H (by simp)
          ·replace c37 := Bool.eq_false_iff.mpr c37
           subst c37
           have H1 : (some (x209000_26, t207, x13_3)) = some (r1, r2, r3) := by rw [if_neg (show ¬ (false = true) by decide)] at H; exact H
           clear H
           have H := H1
           clear H1
           simp only [Option.some.injEq, Prod.mk.injEq] at H
           obtain ⟨rfl, rfl, rfl⟩ := H
           have hnb76 := NB208_206.out
           have hnc76 := NB206_208.out
           have hcz77_0 : wc.cell? ⟨gb208, 0, none⟩ = some (u209000) := (blk_cell BK208.out 0).trans rfl
           have hcz77_1 : wc.cell? ⟨gb208, 1, none⟩ = some (.int .i64 t207) := (blk_cell BK208.out 1).trans rfl
           have hfz77_0 := blk_frozen BK208.out 0
           have hfz77_1 := blk_frozen BK208.out 1
           obtain ⟨Ao78, co78, eo78⟩ := Kd.R_slice HO_209000.out
           subst eo78
           have hcz79_0 : wc.cell? ⟨gb206, 0, none⟩ = some (.slice none 0 0) := (blk_cell BK206.out 0).trans rfl
           have hcz79_1 : wc.cell? ⟨gb206, 1, none⟩ = some (.int .i64 0) := (blk_cell BK206.out 1).trans rfl
           have hfz79_0 := blk_frozen BK206.out 0
           have hfz79_1 := blk_frozen BK206.out 1
           go_wp2
           refine bodyPost_ret (results_ct rfl _ _ gb206 25 #[.slice Ao78 x209000_26.length co78, .int .i64 t207] (0, 0) _ rfl (by (with_reducible repeat (first | refine blk_drewN ?_ _ | refine blk_drew ?_ | refine blk_alloc ?_ _)); refine blk_put (cs := #[.slice Ao78 x209000_26.length co78, .int .i64 0]) ?_ 1 _ rfl; (with_reducible repeat (first | refine blk_drewN ?_ _ | refine blk_drew ?_ | refine blk_alloc ?_ _)); refine blk_put (cs := #[.slice none 0 0, .int .i64 0]) ?_ 0 _ rfl; (with_reducible repeat (first | refine blk_drewN ?_ _ | refine blk_drew ?_ | refine blk_alloc ?_ _)); exact BK206.out) Try.underlying25 rfl (by kernel_rfl)) rfl ?_
           exact ⟨_, _, by first | rfl | (simp [errW_none, errW_some] <;> rfl) | (simp [*, errW_none, errW_some] <;> rfl), by (with_reducible repeat (first | apply Kd.R_alloc | apply Kd.R_drewN | apply Kd.R_drew)); exact Kd.R_mono (Kd.R_far (p := ⟨gb206, 1, none⟩) (Kd.R_far (p := ⟨gb206, 0, none⟩) (Kd.R_types HO_209000.out BK206.out (by decide)) (fun _ hk => hk.2) (.slice Ao78 x209000_26.length co78)) (fun _ hk => hk.2) (.int .i64 t207)) (fun _ hk => trivial), by (with_reducible repeat (first | apply Kd.S_alloc | apply Kd.S_drewN | apply Kd.S_drew)); exact Kd.S_mono (Kd.S_far (p := ⟨gb206, 1, none⟩) (Kd.S_far (p := ⟨gb206, 0, none⟩) (Kd.S_types HO_13.out BK206.out (by decide)) (fun _ hk => hk.2) (.slice Ao78 x209000_26.length co78)) (fun _ hk => hk.2) (.int .i64 t207)) (fun _ hk => hk.1), by repeat (first | (with_reducible first | exact HB.out | apply below_alloc | apply pw_below_drewN | apply below_drew1 | refine below_set ?_ GE206.out | refine below_set ?_ GE208.out) | exact HB.out)⟩
end Go.Proofs.Ytmnepkbmcnpjlaa.Q
namespace Go.Proofs.Ytmnepkbmcnpjlaa.Q
open Go.RowKit Go.Proofs.YtmnepkbmcnpjlaaW.PrintWords Go.Proofs.YtmnepkbmcnpjlaaW.PrintLast Go.Proofs.YtmnepkbmcnpjlaaW.PrintMore
attribute [local go_sem] max2_int min2_int max_two min_two max_three min_three max_four min_four
set_option linter.unusedVariables false
set_option linter.unusedSimpArgs false
def hypercuberef2_Of.l0 : Nat → Int → Int → List Int → List Int → List Int → Int → Option (List Int × Int × List Int × List Int × List Int)
 | 0, _, _, _, _, _, _ => none
 | k + 1, x1, x6, x236000, x236001, x238000, x238001 => if x6 < (x236000.length : Int) then (if 0 ≤ (IntKind.u64.wrap (x6)) then (if (Go.bits .and .i64 (shr .i64 x1 (IntKind.u64.wrap (x6))) 1) = 1 then (if 0 ≤ x6 then (if x238000.length < 17592186044416 then (hypercuberef2_Of.l0 k x1 (wrap64 (x6 + 1)) x236000 x236001 (x238000 ++ [rd x236000 x6]) x238001) else (none)) else (none)) else (hypercuberef2_Of.l0 k x1 (wrap64 (x6 + 1)) x236000 x236001 x238000 x238001)) else (none)) else ((some (([] : List Int) : List Int)).bind fun y242 => (if y242.length + x236001.length < 17592186044416 then ((some (([] : List Int) : List Int)).bind fun y248 => (if y248.length + x236001.length < 17592186044416 then ((some (([] : List Int) : List Int)).bind fun y254 => (if y254.length + x236001.length < 17592186044416 then (some (x238000, x238001, (y242 ++ x236001), (y248 ++ x236001), (y254 ++ x236001))) else (none))) else (none))) else (none)))
def hypercuberef2_Of.f (k : Nat) (l0_0 : List Int) (l0_1 : List Int) (a1 : Int) : Option (List Int × Int × List Int × List Int × List Int) := hypercuberef2_Of.l0 k a1 0 l0_0 l0_1 ([] : List Int) 1
def hypercuberef2_Of.T6 : Bool × List (List Nat × List Nat) := (true, [([], []), ([0], [0]), ([], []), ([2], [2]), ([], []), ([3, 4], [3, 4]), ([5], [5]), ([6], [6]), ([1, 7], [1, 7]), ([0, 1, 2, 3, 4, 5, 6, 7, 8], []), ([9, 8, 8, 0, 1, 2, 3, 4, 5, 6, 7, 8], [8, 9])])
def hypercuberef2_Of.B6 : List Nat := [0, 1, 0, 4, 0, 28, 60, 124, 255, 511, 1023]
theorem hypercuberef2_Of.tab6 : rtab .any (opsOf Try.f26 6) = hypercuberef2_Of.T6 := by kernel_rfl
theorem hypercuberef2_Of.bits6 : waitsOk hypercuberef2_Of.T6.2 hypercuberef2_Of.B6 = true := by kernel_rfl
set_option maxHeartbeats 8000000 in
set_option maxRecDepth 100000 in
theorem hypercuberef2_Of.calls (k : Nat) (A0_0 : Option Addr) (c0_0 : Nat) (l0_0 : List Int) (A0_1 : Option Addr) (c0_1 : Nat) (l0_1 : List Int) (a1 : Int) (r1 : List Int) (r2 : Int) (r3 : List Int) (r4 : List Int) (r5 : List Int) (w : World) (hr0_0 : Kd.C (Kd.int .i64) w A0_0 l0_0.length l0_0) (hc0_0 : l0_0.length ≤ c0_0) (hr0_1 : Kd.C (Kd.int .i64) w A0_1 l0_1.length l0_1) (hc0_1 : l0_1.length ≤ c0_1) (h : hypercuberef2_Of.f k l0_0 l0_1 a1 = some (r1, r2, r3, r4, r5)) :
  Calls Try.prog 26 #[.agg #[.slice A0_0 l0_0.length c0_0, .slice A0_1 l0_1.length c0_1], .int .i64 a1] w fun e w' => ∃ v0_ v2_ v3_ v4_ : Value, e = .returned (.agg #[v0_, .int .i64 r2, v2_, v3_, v4_]) ∧ Kd.R (Kd.int .i64) 3 w' w.heap.size (fun k_ => some k_ ≠ (v2_ : Value).ownBlock ∧ some k_ ≠ (v3_ : Value).ownBlock ∧ some k_ ≠ (v4_ : Value).ownBlock) v0_ r1 ∧ Kd.R (Kd.int .i64) 3 w' w.heap.size (fun k_ => some k_ ≠ (v0_ : Value).ownBlock ∧ some k_ ≠ (v3_ : Value).ownBlock ∧ some k_ ≠ (v4_ : Value).ownBlock) v2_ r3 ∧ Kd.R (Kd.int .i64) 3 w' w.heap.size (fun k_ => some k_ ≠ (v0_ : Value).ownBlock ∧ some k_ ≠ (v2_ : Value).ownBlock ∧ some k_ ≠ (v4_ : Value).ownBlock) v3_ r4 ∧ Kd.R (Kd.int .i64) 3 w' w.heap.size (fun k_ => some k_ ≠ (v0_ : Value).ownBlock ∧ some k_ ≠ (v2_ : Value).ownBlock ∧ some k_ ≠ (v3_ : Value).ownBlock) v4_ r5 ∧ Below w.heap.size w w' := by
 have hu45 := Try.underlying45
 have hu41 := Try.underlying41
 have HR0_0 := Aside0.mk hr0_0
 have HC0_0 := Aside0.mk hc0_0
 clear hr0_0 hc0_0
 have HR0_1 := Aside0.mk hr0_1
 have HC0_1 := Aside0.mk hc0_1
 clear hr0_1 hc0_1
 have HB := Aside0.mk (Below.refl w.heap.size w)
 have H : (hypercuberef2_Of.l0 k a1 0 l0_0 l0_1 ([] : List Int) 1) = some (r1, r2, r3, r4, r5) := h
 clear h
 have H' := Aside0.mk H
 clear H
 go_enter Try.func26, Try.ntmps26
 go_wp2_with (first | ((with_reducible refine gate_dst (N := 2) rfl ?_); refine box_event ?hg (N := 2) ?hd (cs := #[.slice A0_0 l0_0.length c0_0, .slice A0_1 l0_1.length c0_1]) (t := 45) ?hr ?_; (case hd => rfl); (case hg => rfl); (case hr => first | (go_simp; done) | (go_simp; rfl)); intro gb235 hg w3 hbox hb; have n0_ := Aside0.mk (below_step (wmv HB.out) hb); have n1_ := Aside0.mk (hbox); have n2_ := Aside0.mk ((by rw [hg]; exact (below_size (wmv HB.out)) : w.heap.size ≤ gb235)); have n3_ := Aside0.mk ((by rw [hg]; exact (below_size (wmv HB.out)) : w.heap.size ≤ gb235)); clear HB; revert n0_ n1_ n2_ n3_; intro HB BK235 GW235 GE235; clear hb hbox hg) | ((with_reducible refine gate_dst (N := 4) rfl ?_); refine box_event ?hg (N := 4) ?hd (cs := #[.slice none 0 0, .int .i64 0, .slice none 0 0, .slice none 0 0, .slice none 0 0]) (t := 41) ?hr ?_; (case hd => rfl); (case hg => rfl); (case hr => first | (go_simp; done) | (go_simp; rfl)); intro gb236 hg w4 hbox hb; have n0_ := Aside0.mk (blk_below (bmv BK235.out) hb); have n1_ := Aside0.mk (below_step (wmv HB.out) hb); have n2_ := Aside0.mk (hbox); have n3_ := Aside0.mk ((by rw [hg]; exact (below_size (wmv HB.out)) : w.heap.size ≤ gb236)); have n4_ := Aside0.mk ((by rw [hg]; exact (below_size (wmv HB.out)) : w.heap.size ≤ gb236)); have n5_ := Aside0.mk ((by rw [hg]; exact Nat.ne_of_lt (blk_lt (bmv BK235.out)) : gb235 ≠ gb236)); have n6_ := Aside0.mk ((by rw [hg]; exact Nat.ne_of_gt (blk_lt (bmv BK235.out)) : gb236 ≠ gb235)); clear BK235 HB; revert n0_ n1_ n2_ n3_ n4_ n5_ n6_; intro BK235 HB BK236 GW236 GE236 NB235_236 NB236_235; clear hb hbox hg) | ((with_reducible refine gate_dst (N := 5) rfl ?_); refine box_event ?hg (N := 5) ?hd (cs := #[.slice none 0 0, .int .i64 0, .slice none 0 0, .slice none 0 0, .slice none 0 0]) (t := 41) ?hr ?_; (case hd => rfl); (case hg => rfl); (case hr => first | (go_simp; done) | (go_simp; rfl)); intro gb237 hg w5 hbox hb; have n0_ := Aside0.mk (blk_below (bmv BK235.out) hb); have n1_ := Aside0.mk (blk_below (bmv BK236.out) hb); have n2_ := Aside0.mk (below_step (wmv HB.out) hb); have n3_ := Aside0.mk (hbox); have n4_ := Aside0.mk ((by rw [hg]; exact (below_size (wmv HB.out)) : w.heap.size ≤ gb237)); have n5_ := Aside0.mk ((by rw [hg]; exact (below_size (wmv HB.out)) : w.heap.size ≤ gb237)); have n6_ := Aside0.mk ((by rw [hg]; exact Nat.ne_of_lt (blk_lt (bmv BK235.out)) : gb235 ≠ gb237)); have n7_ := Aside0.mk ((by rw [hg]; exact Nat.ne_of_gt (blk_lt (bmv BK235.out)) : gb237 ≠ gb235)); have n8_ := Aside0.mk ((by rw [hg]; exact Nat.ne_of_lt (blk_lt (bmv BK236.out)) : gb236 ≠ gb237)); have n9_ := Aside0.mk ((by rw [hg]; exact Nat.ne_of_gt (blk_lt (bmv BK236.out)) : gb237 ≠ gb236)); clear BK235 BK236 HB; revert n0_ n1_ n2_ n3_ n4_ n5_ n6_ n7_ n8_ n9_; intro BK235 BK236 HB BK237 GW237 GE237 NB235_237 NB237_235 NB236_237 NB237_236; clear hb hbox hg; have hnb6 := NB237_235.out; have hnc6 := NB235_237.out; have hnb7 := NB237_236.out; have hnc7 := NB236_237.out; have hcz8_0 : w5.cell? ⟨gb237, 0, none⟩ = some (.slice none 0 0) := (blk_cell BK237.out 0).trans rfl; have hcz8_1 : w5.cell? ⟨gb237, 1, none⟩ = some (.int .i64 0) := (blk_cell BK237.out 1).trans rfl; have hcz8_2 : w5.cell? ⟨gb237, 2, none⟩ = some (.slice none 0 0) := (blk_cell BK237.out 2).trans rfl; have hcz8_3 : w5.cell? ⟨gb237, 3, none⟩ = some (.slice none 0 0) := (blk_cell BK237.out 3).trans rfl; have hcz8_4 : w5.cell? ⟨gb237, 4, none⟩ = some (.slice none 0 0) := (blk_cell BK237.out 4).trans rfl; have hfz8_0 := blk_frozen BK237.out 0; have hfz8_1 := blk_frozen BK237.out 1; have hfz8_2 := blk_frozen BK237.out 2; have hfz8_3 := blk_frozen BK237.out 3; have hfz8_4 := blk_frozen BK237.out 4))
 go_loopg [6] k (fun kq v6 w' => ∃ (x6_1 : Int) (x238000_1 : List Int) (u238000 : Value), v6 = .int .i64 x6_1 ∧ Aside0 (hypercuberef2_Of.l0 kq a1 x6_1 l0_0 l0_1 x238000_1 1 = some (r1, r2, r3, r4, r5)) ∧ Aside0 (kq ≤ k) ∧ Aside0 (Kd.R (Kd.int .i64) 3 w' w.heap.size (fun _ => True) u238000 x238000_1) ∧ Aside0 (w'.heap[gb235]? = some (.cells #[(.slice A0_0 l0_0.length c0_0), (.slice A0_1 l0_1.length c0_1)] 45 (0, 0))) ∧ Aside0 (w'.heap[gb236]? = some (.cells #[(.slice none 0 0), .int .i64 0, (.slice none 0 0), (.slice none 0 0), (.slice none 0 0)] 41 (0, 0))) ∧ Aside0 (w'.heap[gb237]? = some (.cells #[u238000, .int .i64 1, (.slice none 0 0), (.slice none 0 0), (.slice none 0 0)] 41 (0, 0))) ∧ Aside0 (Below w.heap.size w w'))
 case atStart => exact ⟨(0), (([] : List Int)), (.slice none 0 0), (by first | rfl | (simp; done) | (simp [*]; done)), H', ⟨Nat.le_refl _⟩, ⟨by first | exact Kd.R_nil _ _ _ _ _ | exact Kd.N_nil _ _ _ _ _ | exact Kd.V_nil _ _ _ _ _ | exact Kd.Q_nil _ _ _ _ _ | exact Kd.S_nil _ _ _ _ _⟩, ⟨by (with_reducible repeat (first | refine blk_drewN ?_ _ | refine blk_drew ?_ | refine blk_alloc ?_ _)); refine blk_far ?_ NB235_237.out _; (with_reducible repeat (first | refine blk_drewN ?_ _ | refine blk_drew ?_ | refine blk_alloc ?_ _)); refine blk_far ?_ NB235_237.out _; (with_reducible repeat (first | refine blk_drewN ?_ _ | refine blk_drew ?_ | refine blk_alloc ?_ _)); refine blk_far ?_ NB235_237.out _; (with_reducible repeat (first | refine blk_drewN ?_ _ | refine blk_drew ?_ | refine blk_alloc ?_ _)); refine blk_far ?_ NB235_237.out _; (with_reducible repeat (first | refine blk_drewN ?_ _ | refine blk_drew ?_ | refine blk_alloc ?_ _)); refine blk_far ?_ NB235_237.out _; (with_reducible repeat (first | refine blk_drewN ?_ _ | refine blk_drew ?_ | refine blk_alloc ?_ _)); exact BK235.out⟩, ⟨by (with_reducible repeat (first | refine blk_drewN ?_ _ | refine blk_drew ?_ | refine blk_alloc ?_ _)); refine blk_far ?_ NB236_237.out _; (with_reducible repeat (first | refine blk_drewN ?_ _ | refine blk_drew ?_ | refine blk_alloc ?_ _)); refine blk_far ?_ NB236_237.out _; (with_reducible repeat (first | refine blk_drewN ?_ _ | refine blk_drew ?_ | refine blk_alloc ?_ _)); refine blk_far ?_ NB236_237.out _; (with_reducible repeat (first | refine blk_drewN ?_ _ | refine blk_drew ?_ | refine blk_alloc ?_ _)); refine blk_far ?_ NB236_237.out _; (with_reducible repeat (first | refine blk_drewN ?_ _ | refine blk_drew ?_ | refine blk_alloc ?_ _)); refine blk_far ?_ NB236_237.out _; (with_reducible repeat (first | refine blk_drewN ?_ _ | refine blk_drew ?_ | refine blk_alloc ?_ _)); exact BK236.out⟩, ⟨by (with_reducible repeat (first | refine blk_drewN ?_ _ | refine blk_drew ?_ | refine blk_alloc ?_ _)); refine blk_put (cs := #[.slice none 0 0, .int .i64 1, .slice none 0 0, .slice none 0 0, .slice none 0 0]) ?_ 4 _ rfl; (with_reducible repeat (first | refine blk_drewN ?_ _ | refine blk_drew ?_ | refine blk_alloc ?_ _)); refine blk_put (cs := #[.slice none 0 0, .int .i64 1, .slice none 0 0, .slice none 0 0, .slice none 0 0]) ?_ 3 _ rfl; (with_reducible repeat (first | refine blk_drewN ?_ _ | refine blk_drew ?_ | refine blk_alloc ?_ _)); refine blk_put (cs := #[.slice none 0 0, .int .i64 1, .slice none 0 0, .slice none 0 0, .slice none 0 0]) ?_ 2 _ rfl; (with_reducible repeat (first | refine blk_drewN ?_ _ | refine blk_drew ?_ | refine blk_alloc ?_ _)); refine blk_put (cs := #[.slice none 0 0, .int .i64 0, .slice none 0 0, .slice none 0 0, .slice none 0 0]) ?_ 1 _ rfl; (with_reducible repeat (first | refine blk_drewN ?_ _ | refine blk_drew ?_ | refine blk_alloc ?_ _)); refine blk_put (cs := #[.slice none 0 0, .int .i64 0, .slice none 0 0, .slice none 0 0, .slice none 0 0]) ?_ 0 _ rfl; (with_reducible repeat (first | refine blk_drewN ?_ _ | refine blk_drew ?_ | refine blk_alloc ?_ _)); exact BK237.out⟩, ⟨by repeat (first | (with_reducible first | exact HB.out | apply below_alloc | apply pw_below_drewN | apply below_drew1 | refine below_set ?_ GE235.out | refine below_set ?_ GE236.out | refine below_set ?_ GE237.out) | exact HB.out)⟩⟩
 case round =>
  clear H'
  try clear c2
  try clear p2
  try clear c6
  try clear c7
  try clear hcz8_0
  try clear hcz8_1
  try clear hcz8_2
  try clear hcz8_3
  try clear hcz8_4
  try clear hfz8_0
  try clear hfz8_1
  try clear hfz8_2
  try clear hfz8_3
  try clear hfz8_4
  obtain ⟨x6_1, x238000_1, u238000, rfl, HA, HK1, HO_238000, BK235, BK236, BK237, HB⟩ := hrel
  cases gk with
  | zero => exact absurd HA.out (by simp [hypercuberef2_Of.l0])
  | succ k1 =>
   have H := HA.out
   clear HA
   simp only [hypercuberef2_Of.l0] at H
   by_cases c9 : x6_1 < (l0_0.length : Int)
   ·rw [if_pos c9] at H
    have c9b0 : decide (x6_1 < (l0_0.length : Int)) = true := decide_eq_true c9
    clear c9
    obtain ⟨ji10, hji10⟩ : ∃ j_ : Int, (IntKind.u64.wrap (x6_1)) = j_ := ⟨_, rfl⟩
    replace H : (if 0 ≤ (ji10) then (if (Go.bits .and .i64 (shr .i64 a1 (ji10)) 1) = 1 then (if 0 ≤ x6_1 then (if x238000_1.length < 17592186044416 then (hypercuberef2_Of.l0 k1 a1 (wrap64 (x6_1 + 1)) l0_0 l0_1 (x238000_1 ++ [rd l0_0 x6_1]) 1) else (none)) else (none)) else (hypercuberef2_Of.l0 k1 a1 (wrap64 (x6_1 + 1)) l0_0 l0_1 x238000_1 1)) else (none)) = some (r1, r2, r3, r4, r5) := by first | (rw [hji10] at H; exact H) | (simp only [hji10] at H ⊢; exact H)
    by_cases c11 : 0 ≤ (ji10)
    ·rw [if_pos c11] at H
     have c11b0 := eq_true c11
     have c11b1 : decide (0 ≤ (ji10)) = true := decide_eq_true c11
     clear c11
     obtain ⟨ji12, hji12⟩ : ∃ j_ : Int, (shr .i64 a1 (ji10)) = j_ := ⟨_, rfl⟩
     replace H : (if (Go.bits .and .i64 (ji12) 1) = 1 then (if 0 ≤ x6_1 then (if x238000_1.length < 17592186044416 then (hypercuberef2_Of.l0 k1 a1 (wrap64 (x6_1 + 1)) l0_0 l0_1 (x238000_1 ++ [rd l0_0 x6_1]) 1) else (none)) else (none)) else (hypercuberef2_Of.l0 k1 a1 (wrap64 (x6_1 + 1)) l0_0 l0_1 x238000_1 1)) = some (r1, r2, r3, r4, r5) := by first | (rw [hji12] at H; exact H) | (simp only [hji12] at H ⊢; exact H)
     have hji12_ : (a1 / 2 ^ min (ji10).toNat 64) = ji12 := hji12
     have hji12z : (ji10) ≤ 64 → (a1 / 2 ^ (ji10).toNat) = ji12 := shr_small hji12
     by_cases c13 : (Go.bits .and .i64 (ji12) 1) = 1
     ·rw [if_pos c13] at H
      have c13b0 : ((Go.bits .and .i64 (ji12) 1) == 1) = true := beq_iff_eq.mpr c13
      have c13b1 : ((Go.bits .and .i64 (ji12) 1) != 1) = false := bne_eq_false_iff_eq.mpr c13
      clear c13
      by_cases c14 : 0 ≤ x6_1
      ·rw [if_pos c14] at H
       have c14b0 : decide (0 ≤ x6_1) = true := decide_eq_true c14
       clear c14
       by_cases c15 : x238000_1.length < 17592186044416
       ·rw [if_pos c15] at H
        have LMc15 := Aside0.mk c15
        clear c15
        obtain ⟨y239, hy239⟩ : ∃ y_ : List Int, y_ = (x238000_1 ++ [rd l0_0 x6_1]) := ⟨_, rfl⟩
        replace H : (hypercuberef2_Of.l0 k1 a1 (wrap64 (x6_1 + 1)) l0_0 l0_1 y239 1) = some (r1, r2, r3, r4, r5) := by rw [hy239]; with_reducible exact H
        have Ny239 := Aside0.mk hy239
        clear hy239
        have H' := Aside0.mk H
        clear H
        have hnb16 := NB235_236.out
        have hnc16 := NB236_235.out
        have hnb17 := NB235_237.out
        have hnc17 := NB237_235.out
        have hcz18_0 : wr.cell? ⟨gb235, 0, none⟩ = some (.slice A0_0 l0_0.length c0_0) := (blk_cell BK235.out 0).trans rfl
        have hcz18_1 : wr.cell? ⟨gb235, 1, none⟩ = some (.slice A0_1 l0_1.length c0_1) := (blk_cell BK235.out 1).trans rfl
        have hfz18_0 := blk_frozen BK235.out 0
        have hfz18_1 := blk_frozen BK235.out 1
        try go_wp2
        have n0_ := Aside0.mk (Kd.R_drew HO_238000.out)
        have n1_ := Aside0.mk (blk_drew BK235.out)
        have n2_ := Aside0.mk (blk_drew BK236.out)
        have n3_ := Aside0.mk (blk_drew BK237.out)
        have n4_ := Aside0.mk (below_drew1 HB.out)
        clear HO_238000 BK235 BK236 BK237 HB
        revert n0_ n1_ n2_ n3_ n4_
        intro HO_238000 BK235 BK236 BK237 HB
        have p238 : 0 ≤ (x6_1 : Int) := of_decide_eq_true (by first | (with_reducible assumption) | assumption)
        have q238 : x6_1 < (l0_0.length : Int) := of_decide_eq_true (by first | (with_reducible assumption) | assumption)
        obtain ⟨ad238, e238, hx238_0⟩ := Kd.at_int HR0_0.out x6_1 p238 q238
        have hw238_0 := hx238_0
        cases e238
        replace hx238_0 := (HB.out.cell (World.block_lt_of_cell? w _ hx238_0)).trans hx238_0
        replace p238 := eq_true p238
        replace q238 := eq_true q238
        refine start_ (n := 11) (S := fun w' => w'.cell? ⟨gb237, 0, none⟩ = some (u238000) ∧ w'.cell? ⟨gb237, 1, none⟩ = some (.int .i64 1) ∧ w'.cell? ⟨gb237, 2, none⟩ = some (.slice none 0 0) ∧ w'.cell? ⟨gb237, 3, none⟩ = some (.slice none 0 0) ∧ w'.cell? ⟨gb237, 4, none⟩ = some (.slice none 0 0) ∧ w'.cell? ⟨gb235, 0, none⟩ = some (.slice (some ad238) l0_0.length c0_0) ∧ w'.cell? ⟨gb235, 1, none⟩ = some (.slice A0_1 l0_1.length c0_1) ∧ w'.cell? (ad238.add (x6_1).toNat) = some (.int .i64 (rd l0_0 x6_1))) (ds := [10]) #[false, false, false, false, false, false, false, false, false, false, false] (by kernel_rfl) rfl rfl ⟨(blk_cell BK237.out 0).trans rfl, (blk_cell BK237.out 1).trans rfl, (blk_cell BK237.out 2).trans rfl, (blk_cell BK237.out 3).trans rfl, (blk_cell BK237.out 4).trans rfl, (blk_cell BK235.out 0).trans rfl, (blk_cell BK235.out 1).trans rfl, ((HB.out.cell (World.block_lt_of_cell? w _ hw238_0)).trans hw238_0)⟩ (fun hHeld => ?_); refine with_tabW hypercuberef2_Of.tab6 hypercuberef2_Of.bits6 (fun HT_ HW_ => ?_)
        generalize wr.drew = w19 at HO_238000 BK235 BK236 BK237 HB hx238_0 hHeld ⊢
        refine pure_ (i := 0) (N := some 21) (v := ?_) (a' := ?_) #[true, false, false, false, false, false, false, false, false, false, false] rfl rfl (any_of HT_.out (by kernel_rfl)) (fun _ _ _ h => h) (Or.inl ⟨by rfl, ?_⟩) ?_ ?_
        rotate_left
        ·intro w'
         go_simp
         with_reducible rfl
        rotate_left
        ·simp only [ps]
         rfl
        refine pure_ (i := 2) (N := some 23) (v := ?_) (a' := ?_) #[true, false, true, false, false, false, false, false, false, false, false] rfl rfl (any_of HT_.out (by kernel_rfl)) (fun _ _ _ h => h) (Or.inl ⟨by rfl, ?_⟩) ?_ ?_
        rotate_left
        ·intro w'
         go_simp
         with_reducible rfl
        rotate_left
        ·simp only [ps]
         rfl
        refine pure_ (i := 4) (N := some 25) (v := ?_) (a' := ?_) #[true, false, true, false, true, false, false, false, false, false, false] rfl rfl (any_of HT_.out (by kernel_rfl)) (fun _ _ _ h => h) (Or.inl ⟨by rfl, ?_⟩) ?_ ?_
        rotate_left
        ·intro w'
         go_simp
         with_reducible rfl
        rotate_left
        ·simp only [ps]
         rfl
        refine take_ (i := 1) (N := some 22) (v := ?_) (a' := ?_) #[true, true, true, false, true, false, false, false, false, false, false] rfl rfl (take_ofW HT_.out HW_.out (by kernel_rfl)) (fun _ _ _ h => h) (Or.inl ⟨by rfl, ?_⟩) hHeld ?_ ?_
        rotate_left
        ·rintro w' ⟨s0, s1, s2, s3, s4, s5, s6, s7⟩
         go_simp
         with_reducible rfl
        rotate_left
        ·simp only [ps]
         rfl
        refine take_ (i := 3) (N := some 24) (v := ?_) (a' := ?_) #[true, true, true, true, true, false, false, false, false, false, false] rfl rfl (take_ofW HT_.out HW_.out (by kernel_rfl)) (fun _ _ _ h => h) (Or.inl ⟨by rfl, ?_⟩) hHeld ?_ ?_
        rotate_left
        ·rintro w' ⟨s0, s1, s2, s3, s4, s5, s6, s7⟩
         go_simp
         with_reducible rfl
        rotate_left
        ·simp only [ps]
         rfl
        refine pure_ (i := 5) (N := some 26) (v := ?_) (a' := ?_) #[true, true, true, true, true, true, false, false, false, false, false] rfl rfl (any_of HT_.out (by kernel_rfl)) (fun _ _ _ h => h) (Or.inl ⟨by rfl, ?_⟩) ?_ ?_
        rotate_left
        ·intro w'
         go_simp
         with_reducible rfl
        rotate_left
        ·simp only [ps]
         rfl
        refine take_ (i := 6) (N := some 27) (v := ?_) (a' := ?_) #[true, true, true, true, true, true, true, false, false, false, false] rfl rfl (take_ofW HT_.out HW_.out (by kernel_rfl)) (fun _ _ _ h => h) (Or.inl ⟨by rfl, ?_⟩) hHeld ?_ ?_
        rotate_left
        ·rintro w' ⟨s0, s1, s2, s3, s4, s5, s6, s7⟩
         go_simp
         with_reducible rfl
        rotate_left
        ·simp only [ps]
         rfl
        refine one_ (i := 7) (N := some 28) #[true, true, true, true, true, true, true, true, false, false, false] rfl rfl (one_of HT_.out (by kernel_rfl)) (by decide) (fun K hK => ?_)
        refine value_ (w1 := ?_) (v := ?_) (by rfl) rfl ?_ ?_
        rotate_left 2
        ·go_simp
         constructor
         ·rfl
         ·rfl
        refine hK.out _ _ ⟨(blk_cell (blk_alloc BK237.out _) 0).trans rfl, (blk_cell (blk_alloc BK237.out _) 1).trans rfl, (blk_cell (blk_alloc BK237.out _) 2).trans rfl, (blk_cell (blk_alloc BK237.out _) 3).trans rfl, (blk_cell (blk_alloc BK237.out _) 4).trans rfl, (blk_cell (blk_alloc BK235.out _) 0).trans rfl, (blk_cell (blk_alloc BK235.out _) 1).trans rfl, (World.cell?_alloc_lt _ _ _ (World.block_lt_of_cell? _ _ (((HB.out.cell (World.block_lt_of_cell? w _ hw238_0)).trans hw238_0)))).trans (((HB.out.cell (World.block_lt_of_cell? w _ hw238_0)).trans hw238_0))⟩ (fun hHeld => ?_)
        clear hK K
        refine norm_ (a' := ?_) ?_ ?_
        rotate_left
        ·show Act.put _ (some 28) _ = _
         simp only [ps]
         rfl
        refine one_ (i := 8) (N := some 29) #[true, true, true, true, true, true, true, true, true, false, false] rfl rfl (one_of HT_.out (by kernel_rfl)) (by decide) (fun K hK => ?_)
        refine Kd.R_append_step (Kd.int .i64) (w0 := w) w.heap.size (by rfl) (.tmp 22) (.tmp 28) 22 3 (.int .i64 0) 8 rfl Try.underlying22 info3 rfl (by decide) (by omega) u238000 x238000_1 (rd l0_0 x6_1) [.int .i64 (rd l0_0 x6_1)] (fun _ => True) (fun _ => False) rfl rfl ?aP (fun _ hk => hk.elim) ?aF ?aO ?aB ?aS ?aL ?_
        (case aP => exact rfl)
        (case aB => exact (wmv HB.out))
        (case aF => exact (fun _ _ => trivial))
        (case aO => exact (Kd.R_mv HO_238000.out))
        (case aS => exact (below_size (wmv HB.out)))
        (case aL => have := LMc15.out; omega)
        intro v240 w20 ho hb hg hat
        rw [← Ny239.out] at ho
        have n0_ := Aside0.mk (blk_grown (bmv BK235.out) hg (Kd.R_ne HO_238000.out BK235.out (by decide)))
        have n1_ := Aside0.mk (blk_grown (bmv BK236.out) hg (Kd.R_ne HO_238000.out BK236.out (by decide)))
        have n2_ := Aside0.mk (blk_grown (bmv BK237.out) hg (Kd.R_ne HO_238000.out BK237.out (by decide)))
        have n3_ := Aside0.mk (hb)
        have n4_ := Aside0.mk (ho)
        clear BK235 BK236 BK237 HB HO_238000
        revert n0_ n1_ n2_ n3_ n4_
        intro BK235 BK236 BK237 HB HO241
        clear ho hb hg hat
        obtain ⟨Ao21, co21, eo21⟩ := Kd.R_slice HO241.out
        (first | subst eo21 | (injection eo21 with f1_ f2_ f3_; have f4_ := f1_.symm; have f5_ := f3_.symm; clear f1_ f2_ f3_; subst f4_; subst f5_))
        refine hK.out _ _ ⟨(blk_cell BK237.out 0).trans rfl, (blk_cell BK237.out 1).trans rfl, (blk_cell BK237.out 2).trans rfl, (blk_cell BK237.out 3).trans rfl, (blk_cell BK237.out 4).trans rfl, (blk_cell BK235.out 0).trans rfl, (blk_cell BK235.out 1).trans rfl, ((HB.out.cell (World.block_lt_of_cell? w _ hw238_0)).trans hw238_0)⟩ (fun hHeld => ?_)
        clear hK K
        refine norm_ (a' := ?_) ?_ ?_
        rotate_left
        ·show Act.put _ (some 29) _ = _
         simp only [ps]
         rfl
        refine pure_ (i := 9) (N := some 30) (v := ?_) (a' := ?_) #[true, true, true, true, true, true, true, true, true, true, false] rfl rfl (any_of HT_.out (by kernel_rfl)) (fun _ _ _ h => h) (Or.inl ⟨by rfl, ?_⟩) ?_ ?_
        rotate_left
        ·intro w'
         go_simp
         with_reducible rfl
        rotate_left
        ·simp only [ps]
         rfl
        refine last_ (i := 10) (N := none) #[true, true, true, true, true, true, true, true, true, true, true] rfl rfl (one_of HT_.out (by kernel_rfl)) (by decide) (fun K hK => ?_)
        have hs22 : w20.cell? ⟨gb237, 0, none⟩ = some (u238000) := (blk_cell BK237.out 0).trans rfl
        have hfs22 := blk_frozen BK237.out 0
        have hns22_0 := NB235_237.out
        have hns22_1 := NB236_237.out
        have hms22_0 := NB237_235.out
        have hms22_1 := NB237_236.out
        refine skip_ (w1 := ?_) (by rfl) rfl ?_ ?_
        rotate_left
        ·go_simp
         rfl
        refine hK.out _ _ ?_
        clear hK K
        refine done_ (done_of HT_.out (by kernel_rfl)) ?_
        try go_wp2
        go_roundg k1
        case measure => have := HK1.out; omega
        case rel => exact ⟨(wrap64 (x6_1 + 1)), (y239), (.slice Ao21 y239.length co21), (by first | rfl | (simp; done) | (simp [*]; done)), H', ⟨by have := HK1.out; omega⟩, ⟨by (with_reducible repeat (first | apply Kd.R_alloc | apply Kd.R_drewN | apply Kd.R_drew)); exact Kd.R_mono (Kd.R_far (p := ⟨gb237, 0, none⟩) (Kd.R_types HO241.out BK237.out (by decide)) (fun _ hk => hk.2) (.slice Ao21 y239.length co21)) (fun _ hk => trivial)⟩, ⟨by (with_reducible repeat (first | refine blk_drewN ?_ _ | refine blk_drew ?_ | refine blk_alloc ?_ _)); refine blk_far ?_ NB235_237.out _; (with_reducible repeat (first | refine blk_drewN ?_ _ | refine blk_drew ?_ | refine blk_alloc ?_ _)); exact BK235.out⟩, ⟨by (with_reducible repeat (first | refine blk_drewN ?_ _ | refine blk_drew ?_ | refine blk_alloc ?_ _)); refine blk_far ?_ NB236_237.out _; (with_reducible repeat (first | refine blk_drewN ?_ _ | refine blk_drew ?_ | refine blk_alloc ?_ _)); exact BK236.out⟩, ⟨by (with_reducible repeat (first | refine blk_drewN ?_ _ | refine blk_drew ?_ | refine blk_alloc ?_ _)); refine blk_put (cs := #[u238000, .int .i64 1, .slice none 0 0, .slice none 0 0, .slice none 0 0]) ?_ 0 _ rfl; (with_reducible repeat (first | refine blk_drewN ?_ _ | refine blk_drew ?_ | refine blk_alloc ?_ _)); exact BK237.out⟩, ⟨by repeat (first | (with_reducible first | exact HB.out | apply below_alloc | apply pw_below_drewN | apply below_drew1 | refine below_set ?_ GE235.out | refine below_set ?_ GE236.out | refine below_set ?_ GE237.out) | exact HB.out)⟩⟩
       ·rw [if_neg c15] at H
        exact absurd H (by simp)
      ·rw [if_neg c14] at H
       exact absurd H (by simp)
     ·rw [if_neg c13] at H
      have c13b0 : ((Go.bits .and .i64 (ji12) 1) == 1) = false := beq_eq_false_iff_ne.mpr c13
      have c13b1 : ((Go.bits .and .i64 (ji12) 1) != 1) = true := bne_iff_ne.mpr c13
      have H' := Aside0.mk H
      clear H
      have hnb23 := NB235_236.out
      have hnc23 := NB236_235.out
      have hnb24 := NB235_237.out
      have hnc24 := NB237_235.out
      have hcz25_0 : wr.cell? ⟨gb235, 0, none⟩ = some (.slice A0_0 l0_0.length c0_0) := (blk_cell BK235.out 0).trans rfl
      have hcz25_1 : wr.cell? ⟨gb235, 1, none⟩ = some (.slice A0_1 l0_1.length c0_1) := (blk_cell BK235.out 1).trans rfl
      have hfz25_0 := blk_frozen BK235.out 0
      have hfz25_1 := blk_frozen BK235.out 1
      go_wp2
      go_roundg k1
      case measure => have := HK1.out; omega
      case rel => exact ⟨(wrap64 (x6_1 + 1)), (x238000_1), (u238000), (by first | rfl | (simp; done) | (simp [*]; done)), H', ⟨by have := HK1.out; omega⟩, ⟨by (with_reducible repeat (first | apply Kd.R_alloc | apply Kd.R_drewN | apply Kd.R_drew)); exact HO_238000.out⟩, ⟨by (with_reducible repeat (first | refine blk_drewN ?_ _ | refine blk_drew ?_ | refine blk_alloc ?_ _)); exact BK235.out⟩, ⟨by (with_reducible repeat (first | refine blk_drewN ?_ _ | refine blk_drew ?_ | refine blk_alloc ?_ _)); exact BK236.out⟩, ⟨by (with_reducible repeat (first | refine blk_drewN ?_ _ | refine blk_drew ?_ | refine blk_alloc ?_ _)); exact BK237.out⟩, ⟨by repeat (first | (with_reducible first | exact HB.out | apply below_alloc | apply pw_below_drewN | apply below_drew1 | refine below_set ?_ GE235.out | refine below_set ?_ GE236.out | refine below_set ?_ GE237.out) | exact HB.out)⟩⟩
    ·rw [if_neg c11] at H
     exact absurd H (by simp)
   ·rw [if_neg c9] at H
    have c9b0 : decide (x6_1 < (l0_0.length : Int)) = false := decide_eq_false c9
    clear c9
    obtain ⟨y242, hy242⟩ : ∃ y_ : List Int, y_ = (([] : List Int)) := ⟨_, rfl⟩
    replace H : (if y242.length + l0_1.length < 17592186044416 then ((some (([] : List Int) : List Int)).bind fun y248 => (if y248.length + l0_1.length < 17592186044416 then ((some (([] : List Int) : List Int)).bind fun y254 => (if y254.length + l0_1.length < 17592186044416 then (some (x238000_1, 1, (y242 ++ l0_1), (y248 ++ l0_1), (y254 ++ l0_1))) else (none))) else (none))) else (none)) = some (r1, r2, r3, r4, r5) := by first | (rw [hy242]; with_reducible exact H) | (have H2_ := (Option.bind_some _ _).symm.trans H; rw [hy242]; with_reducible exact H2_) | (have H2_ := (Option.bind_some _ _).symm.trans H; with_reducible exact H2_) | with_reducible exact H | (rw [hy242]; exact H) | exact H
    have Ny242 := Aside0.mk hy242
    clear hy242
    by_cases c26 : y242.length + l0_1.length < 17592186044416
    ·rw [if_pos c26] at H
     have LMc26 := Aside0.mk c26
     clear c26
     obtain ⟨y245, hy245⟩ : ∃ y_ : List Int, y_ = (y242 ++ l0_1) := ⟨_, rfl⟩
     replace H : ((some (([] : List Int) : List Int)).bind fun y248 => (if y248.length + l0_1.length < 17592186044416 then ((some (([] : List Int) : List Int)).bind fun y254 => (if y254.length + l0_1.length < 17592186044416 then (some (x238000_1, 1, y245, (y248 ++ l0_1), (y254 ++ l0_1))) else (none))) else (none))) = some (r1, r2, r3, r4, r5) := by rw [hy245]; with_reducible exact H
     have Ny245 := Aside0.mk hy245
     clear hy245
     obtain ⟨y248, hy248⟩ : ∃ y_ : List Int, y_ = (([] : List Int)) := ⟨_, rfl⟩
     replace H : (if y248.length + l0_1.length < 17592186044416 then ((some (([] : List Int) : List Int)).bind fun y254 => (if y254.length + l0_1.length < 17592186044416 then (some (x238000_1, 1, y245, (y248 ++ l0_1), (y254 ++ l0_1))) else (none))) else (none)) = some (r1, r2, r3, r4, r5) := by first | (rw [hy248]; with_reducible exact H) | (have H2_ := (Option.bind_some _ _).symm.trans H; rw [hy248]; with_reducible exact H2_) | (have H2_ := (Option.bind_some _ _).symm.trans H; with_reducible exact H2_) | with_reducible exact H | (rw [hy248]; exact H) | exact H
     have Ny248 := Aside0.mk hy248
     clear hy248
     by_cases c27 : y248.length + l0_1.length < 17592186044416
     ·rw [if_pos c27] at H
      have LMc27 := Aside0.mk c27
      clear c27
      obtain ⟨y251, hy251⟩ : ∃ y_ : List Int, y_ = (y248 ++ l0_1) := ⟨_, rfl⟩
      replace H : ((some (([] : List Int) : List Int)).bind fun y254 => (if y254.length + l0_1.length < 17592186044416 then (some (x238000_1, 1, y245, y251, (y254 ++ l0_1))) else (none))) = some (r1, r2, r3, r4, r5) := by rw [hy251]; with_reducible exact H
      have Ny251 := Aside0.mk hy251
      clear hy251
      obtain ⟨y254, hy254⟩ : ∃ y_ : List Int, y_ = (([] : List Int)) := ⟨_, rfl⟩
      replace H : (if y254.length + l0_1.length < 17592186044416 then (some (x238000_1, 1, y245, y251, (y254 ++ l0_1))) else (none)) = some (r1, r2, r3, r4, r5) := by first | (rw [hy254]; with_reducible exact H) | (have H2_ := (Option.bind_some _ _).symm.trans H; rw [hy254]; with_reducible exact H2_) | (have H2_ := (Option.bind_some _ _).symm.trans H; with_reducible exact H2_) | with_reducible exact H | (rw [hy254]; exact H) | exact H
      have Ny254 := Aside0.mk hy254
      clear hy254
      by_cases c28 : y254.length + l0_1.length < 17592186044416
      ·rw [if_pos c28] at H
       have LMc28 := Aside0.mk c28
       clear c28
       obtain ⟨y257, hy257⟩ : ∃ y_ : List Int, y_ = (y254 ++ l0_1) := ⟨_, rfl⟩
       replace H : (some (x238000_1, 1, y245, y251, y257)) = some (r1, r2, r3, r4, r5) := by rw [hy257]; with_reducible exact H
       have Ny257 := Aside0.mk hy257
       clear hy257
       simp only [Option.some.injEq, Prod.mk.injEq] at H
       obtain ⟨rfl, rfl, rfl, rfl, rfl⟩ := H
       have hnb29 := NB235_236.out
       have hnc29 := NB236_235.out
       have hnb30 := NB235_237.out
       have hnc30 := NB237_235.out
       have hcz31_0 : wr.cell? ⟨gb235, 0, none⟩ = some (.slice A0_0 l0_0.length c0_0) := (blk_cell BK235.out 0).trans rfl
       have hcz31_1 : wr.cell? ⟨gb235, 1, none⟩ = some (.slice A0_1 l0_1.length c0_1) := (blk_cell BK235.out 1).trans rfl
       have hfz31_0 := blk_frozen BK235.out 0
       have hfz31_1 := blk_frozen BK235.out 1
       go_wp2_with (first | ((with_reducible refine gate_dst (N := 31) rfl ?_); refine Kd.R_lit (Kd.int .i64) _ 3 ?hg (N := 31) ?hd (xs := ([] : List Int)) (inner := []) (ok := fun _ => True) (okp := fun _ => True) ?hr ?hp (fun _ hk => hk) trivial (Below.refl _ _) (Nat.le_refl _) (by simp) ?_; (case hd => rfl); (case hg => rfl); (case hr => first | (go_simp; done) | (go_simp; rfl)); (case hp => exact (Reps.none _ _)); intro v243 w32 ho33 hb hg_ hnew_; clear hg_ hnew_; (first | rw [← Ny242.out] at ho33 | (simp only [Int.reduceToNat] at ho33; rw [← Ny242.out] at ho33)); have n0_ := Aside0.mk (Kd.R_elder' (Kd.R_mv HO_238000.out) (Kd.R_base ho33) hb); have n1_ := Aside0.mk (Kd.R_lower (Kd.R_new' ho33 (Kd.R_lt (Kd.R_mv HO_238000.out))) (below_size (by repeat (first | (with_reducible first | exact HB.out | apply below_alloc | apply pw_below_drewN | apply below_drew1 | refine below_set ?_ GE235.out | refine below_set ?_ GE236.out | refine below_set ?_ GE237.out) | exact HB.out)))); have n2_ := Aside0.mk (blk_below (bmv BK235.out) hb); have n3_ := Aside0.mk (blk_below (bmv BK236.out) hb); have n4_ := Aside0.mk (blk_below (bmv BK237.out) hb); have n5_ := Aside0.mk (below_step (by repeat (first | (with_reducible first | exact HB.out | apply below_alloc | apply pw_below_drewN | apply below_drew1 | refine below_set ?_ GE235.out | refine below_set ?_ GE236.out | refine below_set ?_ GE237.out) | exact HB.out)) hb); clear HO_238000 BK235 BK236 BK237 HB; revert n0_ n1_ n2_ n3_ n4_ n5_; intro HO_238000 HO244 BK235 BK236 BK237 HB; clear hb ho33; have hcz34_0 : w32.cell? ⟨gb235, 0, none⟩ = some (.slice A0_0 l0_0.length c0_0) := (blk_cell BK235.out 0).trans rfl; have hcz34_1 : w32.cell? ⟨gb235, 1, none⟩ = some (.slice A0_1 l0_1.length c0_1) := (blk_cell BK235.out 1).trans rfl; have hfz34_0 := blk_frozen BK235.out 0; have hfz34_1 := blk_frozen BK235.out 1) | ((with_reducible refine gate_builtin (b := .append) (xs := #[.tmp 31, .tmp 33]) rfl ?_); at_builtin; refine Kd.R_append_rows (Kd.int .i64) (w0 := w) w.heap.size rfl (.tmp 31) (.tmp 33) 22 3 (.int .i64 0) 8 rfl Try.underlying22 info3 rfl (by decide) (by omega) v243 y242 l0_1 _ _ _ (fun k_ => some k_ ≠ (u238000 : Value).ownBlock) (fun _ => False) rfl rfl ?aO ?aR (fun _ _ h => h) (fun _ h => h.elim) ?aF ?aB ?aS ?aL ?_; (case aR => exact Kd.Cw HR0_1.out HB.out); (case aB => exact (by repeat (first | (with_reducible first | exact HB.out | apply below_alloc | apply pw_below_drewN | apply below_drew1 | refine below_set ?_ GE235.out | refine below_set ?_ GE236.out | refine below_set ?_ GE237.out) | exact HB.out))); (case aF => exact (fun k_ hk => Kd.fresh' (Kd.R_lt (Kd.R_mv HO_238000.out)) k_ hk)); (case aO => exact (Kd.R_mv (Kd.R_mono HO244.out (fun _ hk => hk.2)))); (case aS => exact (below_size (by repeat (first | (with_reducible first | exact HB.out | apply below_alloc | apply pw_below_drewN | apply below_drew1 | refine below_set ?_ GE235.out | refine below_set ?_ GE236.out | refine below_set ?_ GE237.out) | exact HB.out)))); (case aL => have := LMc26.out; omega); intro v246 w35 ho hb hg hat; rw [← Ny245.out] at ho; have n0_ := Aside0.mk (Kd.R_after (ok := (fun _ => True)) (Kd.R_mv HO_238000.out) hg hat); have n1_ := Aside0.mk (blk_grown (bmv BK235.out) hg (Kd.R_ne HO244.out BK235.out (by decide))); have n2_ := Aside0.mk (blk_grown (bmv BK236.out) hg (Kd.R_ne HO244.out BK236.out (by decide))); have n3_ := Aside0.mk (blk_grown (bmv BK237.out) hg (Kd.R_ne HO244.out BK237.out (by decide))); have n4_ := Aside0.mk (hb); have n5_ := Aside0.mk (ho); clear HO_238000 BK235 BK236 BK237 HB HO244; revert n0_ n1_ n2_ n3_ n4_ n5_; intro HO_238000 BK235 BK236 BK237 HB HO247; clear ho hb hg hat; obtain ⟨Ao36, co36, eo36⟩ := Kd.R_slice HO247.out; subst eo36; have hnb37 := NB237_236.out; have hnc37 := NB236_237.out; have hcz38_0 : w35.cell? ⟨gb237, 0, none⟩ = some (u238000) := (blk_cell BK237.out 0).trans rfl; have hcz38_1 : w35.cell? ⟨gb237, 1, none⟩ = some (.int .i64 1) := (blk_cell BK237.out 1).trans rfl; have hcz38_2 : w35.cell? ⟨gb237, 2, none⟩ = some (.slice none 0 0) := (blk_cell BK237.out 2).trans rfl; have hcz38_3 : w35.cell? ⟨gb237, 3, none⟩ = some (.slice none 0 0) := (blk_cell BK237.out 3).trans rfl; have hcz38_4 : w35.cell? ⟨gb237, 4, none⟩ = some (.slice none 0 0) := (blk_cell BK237.out 4).trans rfl; have hfz38_0 := blk_frozen BK237.out 0; have hfz38_1 := blk_frozen BK237.out 1; have hfz38_2 := blk_frozen BK237.out 2; have hfz38_3 := blk_frozen BK237.out 3; have hfz38_4 := blk_frozen BK237.out 4) | ((with_reducible refine gate_dst (N := 36) rfl ?_); refine Kd.R_lit (Kd.int .i64) _ 3 ?hg (N := 36) ?hd (xs := ([] : List Int)) (inner := []) (ok := fun _ => True) (okp := fun _ => True) ?hr ?hp (fun _ hk => hk) trivial (Below.refl _ _) (Nat.le_refl _) (by simp) ?_; (case hd => rfl); (case hg => rfl); (case hr => first | (go_simp; done) | (go_simp; rfl)); (case hp => exact (Reps.none _ _)); intro v249 w39 ho40 hb hg_ hnew_; clear hg_ hnew_; (first | rw [← Ny248.out] at ho40 | (simp only [Int.reduceToNat] at ho40; rw [← Ny248.out] at ho40)); have n0_ := Aside0.mk (Kd.R_elder' (Kd.R_mv (Kd.R_mono (Kd.R_far (p := ⟨gb237, 2, none⟩) (Kd.R_types HO_238000.out BK237.out (by decide)) (fun _ hk => hk.2) (.slice Ao36 y245.length co36)) (fun _ h_ => h_.1))) (Kd.R_base ho40) hb); have n1_ := Aside0.mk (Kd.R_elder' (Kd.R_mv (Kd.R_mono (Kd.R_far (p := ⟨gb237, 2, none⟩) (Kd.R_types HO247.out BK237.out (by decide)) (fun _ hk => hk.2) (.slice Ao36 y245.length co36)) (fun _ h_ => h_.1))) (Kd.R_base ho40) hb); have n2_ := Aside0.mk (Kd.R_lower (Kd.R_new' (Kd.R_new' ho40 (Kd.R_lt (Kd.R_mv (Kd.R_mono (Kd.R_far (p := ⟨gb237, 2, none⟩) (Kd.R_types HO_238000.out BK237.out (by decide)) (fun _ hk => hk.2) (.slice Ao36 y245.length co36)) (fun _ h_ => h_.1))))) (Kd.R_lt (Kd.R_mv (Kd.R_mono (Kd.R_far (p := ⟨gb237, 2, none⟩) (Kd.R_types HO247.out BK237.out (by decide)) (fun _ hk => hk.2) (.slice Ao36 y245.length co36)) (fun _ h_ => h_.1))))) (below_size (by repeat (first | (with_reducible first | exact HB.out | apply below_alloc | apply pw_below_drewN | apply below_drew1 | refine below_set ?_ GE235.out | refine below_set ?_ GE236.out | refine below_set ?_ GE237.out) | exact HB.out)))); have n3_ := Aside0.mk (blk_below (g := gb235) (o := .cells #[.slice A0_0 l0_0.length c0_0, .slice A0_1 l0_1.length c0_1] 45 (0, 0)) (by (with_reducible repeat (first | refine blk_drewN ?_ _ | refine blk_drew ?_ | refine blk_alloc ?_ _)); refine blk_far ?_ NB235_237.out _; (with_reducible repeat (first | refine blk_drewN ?_ _ | refine blk_drew ?_ | refine blk_alloc ?_ _)); exact BK235.out) hb); have n4_ := Aside0.mk (blk_below (g := gb236) (o := .cells #[.slice none 0 0, .int .i64 0, .slice none 0 0, .slice none 0 0, .slice none 0 0] 41 (0, 0)) (by (with_reducible repeat (first | refine blk_drewN ?_ _ | refine blk_drew ?_ | refine blk_alloc ?_ _)); refine blk_far ?_ NB236_237.out _; (with_reducible repeat (first | refine blk_drewN ?_ _ | refine blk_drew ?_ | refine blk_alloc ?_ _)); exact BK236.out) hb); have n5_ := Aside0.mk (blk_below (g := gb237) (o := .cells #[u238000, .int .i64 1, .slice Ao36 y245.length co36, .slice none 0 0, .slice none 0 0] 41 (0, 0)) (by (with_reducible repeat (first | refine blk_drewN ?_ _ | refine blk_drew ?_ | refine blk_alloc ?_ _)); refine blk_put (cs := #[u238000, .int .i64 1, .slice none 0 0, .slice none 0 0, .slice none 0 0]) ?_ 2 _ rfl; (with_reducible repeat (first | refine blk_drewN ?_ _ | refine blk_drew ?_ | refine blk_alloc ?_ _)); exact BK237.out) hb); have n6_ := Aside0.mk (below_step (by repeat (first | (with_reducible first | exact HB.out | apply below_alloc | apply pw_below_drewN | apply below_drew1 | refine below_set ?_ GE235.out | refine below_set ?_ GE236.out | refine below_set ?_ GE237.out) | exact HB.out)) hb); clear HO_238000 HO247 BK235 BK236 BK237 HB; revert n0_ n1_ n2_ n3_ n4_ n5_ n6_; intro HO_238000 HO247 HO250 BK235 BK236 BK237 HB; clear hb ho40; have hcz41_0 : w39.cell? ⟨gb235, 0, none⟩ = some (.slice A0_0 l0_0.length c0_0) := (blk_cell BK235.out 0).trans rfl; have hcz41_1 : w39.cell? ⟨gb235, 1, none⟩ = some (.slice A0_1 l0_1.length c0_1) := (blk_cell BK235.out 1).trans rfl; have hfz41_0 := blk_frozen BK235.out 0; have hfz41_1 := blk_frozen BK235.out 1) | ((with_reducible refine gate_builtin (b := .append) (xs := #[.tmp 36, .tmp 38]) rfl ?_); at_builtin; refine Kd.R_append_rows (Kd.int .i64) (w0 := w) w.heap.size rfl (.tmp 36) (.tmp 38) 22 3 (.int .i64 0) 8 rfl Try.underlying22 info3 rfl (by decide) (by omega) v249 y248 l0_1 _ _ _ (fun k_ => some k_ ≠ (u238000 : Value).ownBlock ∧ some k_ ≠ (.slice Ao36 y245.length co36 : Value).ownBlock) (fun _ => False) rfl rfl ?aO ?aR (fun _ _ h => h) (fun _ h => h.elim) ?aF ?aB ?aS ?aL ?_; (case aR => exact Kd.Cw HR0_1.out HB.out); (case aB => exact (by repeat (first | (with_reducible first | exact HB.out | apply below_alloc | apply pw_below_drewN | apply below_drew1 | refine below_set ?_ GE235.out | refine below_set ?_ GE236.out | refine below_set ?_ GE237.out) | exact HB.out))); (case aF => exact (fun k_ hk => ⟨Kd.fresh' (Kd.R_lt (Kd.R_mv HO_238000.out)) k_ hk, Kd.fresh' (Kd.R_lt (Kd.R_mv HO247.out)) k_ hk⟩)); (case aO => exact (Kd.R_mv (Kd.R_mono HO250.out (fun _ hk => ⟨hk.1.2, hk.2⟩)))); (case aS => exact (below_size (by repeat (first | (with_reducible first | exact HB.out | apply below_alloc | apply pw_below_drewN | apply below_drew1 | refine below_set ?_ GE235.out | refine below_set ?_ GE236.out | refine below_set ?_ GE237.out) | exact HB.out)))); (case aL => have := LMc27.out; omega); intro v252 w42 ho hb hg hat; rw [← Ny251.out] at ho; have n0_ := Aside0.mk (Kd.R_after (ok := (fun k_ => some k_ ≠ (.slice Ao36 y245.length co36 : Value).ownBlock)) (Kd.R_mv (Kd.R_mono HO_238000.out (fun _ hk => ⟨hk.1.2, hk.2⟩))) hg hat); have n1_ := Aside0.mk (blk_grown (bmv BK235.out) hg (Kd.R_ne HO250.out BK235.out (by decide))); have n2_ := Aside0.mk (blk_grown (bmv BK236.out) hg (Kd.R_ne HO250.out BK236.out (by decide))); have n3_ := Aside0.mk (blk_grown (bmv BK237.out) hg (Kd.R_ne HO250.out BK237.out (by decide))); have n4_ := Aside0.mk (Kd.R_after (ok := (fun k_ => some k_ ≠ (u238000 : Value).ownBlock)) (Kd.R_mv HO247.out) hg hat); have n5_ := Aside0.mk (hb); have n6_ := Aside0.mk (ho); clear HO_238000 BK235 BK236 BK237 HO247 HB HO250; revert n0_ n1_ n2_ n3_ n4_ n5_ n6_; intro HO_238000 BK235 BK236 BK237 HO247 HB HO253; clear ho hb hg hat; obtain ⟨Ao43, co43, eo43⟩ := Kd.R_slice HO253.out; subst eo43; have hcz44_0 : w42.cell? ⟨gb237, 0, none⟩ = some (u238000) := (blk_cell BK237.out 0).trans rfl; have hcz44_1 : w42.cell? ⟨gb237, 1, none⟩ = some (.int .i64 1) := (blk_cell BK237.out 1).trans rfl; have hcz44_2 : w42.cell? ⟨gb237, 2, none⟩ = some (.slice Ao36 y245.length co36) := (blk_cell BK237.out 2).trans rfl; have hcz44_3 : w42.cell? ⟨gb237, 3, none⟩ = some (.slice none 0 0) := (blk_cell BK237.out 3).trans rfl; have hcz44_4 : w42.cell? ⟨gb237, 4, none⟩ = some (.slice none 0 0) := (blk_cell BK237.out 4).trans rfl; have hfz44_0 := blk_frozen BK237.out 0; have hfz44_1 := blk_frozen BK237.out 1; have hfz44_2 := blk_frozen BK237.out 2; have hfz44_3 := blk_frozen BK237.out 3; have hfz44_4 := blk_frozen BK237.out 4) | ((with_reducible refine gate_dst (N := 41) rfl ?_); refine Kd.R_lit (Kd.int .i64) _ 3 ?hg (N := 41) ?hd (xs := ([] : List Int)) (inner := []) (ok := fun _ => True) (okp := fun _ => True) ?hr ?hp (fun _ hk => hk) trivial (Below.refl _ _) (Nat.le_refl _) (by simp) ?_; (case hd => rfl); (case hg => rfl); (case hr => first | (go_simp; done) | (go_simp; rfl)); (case hp => exact (Reps.none _ _)); intro v255 w45 ho46 hb hg_ hnew_; clear hg_ hnew_; (first | rw [← Ny254.out] at ho46 | (simp only [Int.reduceToNat] at ho46; rw [← Ny254.out] at ho46)); have n0_ := Aside0.mk (Kd.R_elder' (Kd.R_mv (Kd.R_mono (Kd.R_far (p := ⟨gb237, 3, none⟩) (Kd.R_types HO_238000.out BK237.out (by decide)) (fun _ hk => hk.2) (.slice Ao43 y251.length co43)) (fun _ h_ => h_.1))) (Kd.R_base ho46) hb); have n1_ := Aside0.mk (Kd.R_elder' (Kd.R_mv (Kd.R_mono (Kd.R_far (p := ⟨gb237, 3, none⟩) (Kd.R_types HO247.out BK237.out (by decide)) (fun _ hk => hk.2) (.slice Ao43 y251.length co43)) (fun _ h_ => h_.1))) (Kd.R_base ho46) hb); have n2_ := Aside0.mk (Kd.R_elder' (Kd.R_mv (Kd.R_mono (Kd.R_far (p := ⟨gb237, 3, none⟩) (Kd.R_types HO253.out BK237.out (by decide)) (fun _ hk => hk.2) (.slice Ao43 y251.length co43)) (fun _ h_ => h_.1))) (Kd.R_base ho46) hb); have n3_ := Aside0.mk (Kd.R_lower (Kd.R_new' (Kd.R_new' (Kd.R_new' ho46 (Kd.R_lt (Kd.R_mv (Kd.R_mono (Kd.R_far (p := ⟨gb237, 3, none⟩) (Kd.R_types HO_238000.out BK237.out (by decide)) (fun _ hk => hk.2) (.slice Ao43 y251.length co43)) (fun _ h_ => h_.1))))) (Kd.R_lt (Kd.R_mv (Kd.R_mono (Kd.R_far (p := ⟨gb237, 3, none⟩) (Kd.R_types HO247.out BK237.out (by decide)) (fun _ hk => hk.2) (.slice Ao43 y251.length co43)) (fun _ h_ => h_.1))))) (Kd.R_lt (Kd.R_mv (Kd.R_mono (Kd.R_far (p := ⟨gb237, 3, none⟩) (Kd.R_types HO253.out BK237.out (by decide)) (fun _ hk => hk.2) (.slice Ao43 y251.length co43)) (fun _ h_ => h_.1))))) (below_size (by repeat (first | (with_reducible first | exact HB.out | apply below_alloc | apply pw_below_drewN | apply below_drew1 | refine below_set ?_ GE235.out | refine below_set ?_ GE236.out | refine below_set ?_ GE237.out) | exact HB.out)))); have n4_ := Aside0.mk (blk_below (g := gb235) (o := .cells #[.slice A0_0 l0_0.length c0_0, .slice A0_1 l0_1.length c0_1] 45 (0, 0)) (by (with_reducible repeat (first | refine blk_drewN ?_ _ | refine blk_drew ?_ | refine blk_alloc ?_ _)); refine blk_far ?_ NB235_237.out _; (with_reducible repeat (first | refine blk_drewN ?_ _ | refine blk_drew ?_ | refine blk_alloc ?_ _)); exact BK235.out) hb); have n5_ := Aside0.mk (blk_below (g := gb236) (o := .cells #[.slice none 0 0, .int .i64 0, .slice none 0 0, .slice none 0 0, .slice none 0 0] 41 (0, 0)) (by (with_reducible repeat (first | refine blk_drewN ?_ _ | refine blk_drew ?_ | refine blk_alloc ?_ _)); refine blk_far ?_ NB236_237.out _; (with_reducible repeat (first | refine blk_drewN ?_ _ | refine blk_drew ?_ | refine blk_alloc ?_ _)); exact BK236.out) hb); have n6_ := Aside0.mk (blk_below (g := gb237) (o := .cells #[u238000, .int .i64 1, .slice Ao36 y245.length co36, .slice Ao43 y251.length co43, .slice none 0 0] 41 (0, 0)) (by (with_reducible repeat (first | refine blk_drewN ?_ _ | refine blk_drew ?_ | refine blk_alloc ?_ _)); refine blk_put (cs := #[u238000, .int .i64 1, .slice Ao36 y245.length co36, .slice none 0 0, .slice none 0 0]) ?_ 3 _ rfl; (with_reducible repeat (first | refine blk_drewN ?_ _ | refine blk_drew ?_ | refine blk_alloc ?_ _)); exact BK237.out) hb); have n7_ := Aside0.mk (below_step (by repeat (first | (with_reducible first | exact HB.out | apply below_alloc | apply pw_below_drewN | apply below_drew1 | refine below_set ?_ GE235.out | refine below_set ?_ GE236.out | refine below_set ?_ GE237.out) | exact HB.out)) hb); clear HO_238000 HO247 HO253 BK235 BK236 BK237 HB; revert n0_ n1_ n2_ n3_ n4_ n5_ n6_ n7_; intro HO_238000 HO247 HO253 HO256 BK235 BK236 BK237 HB; clear hb ho46; have hcz47_0 : w45.cell? ⟨gb235, 0, none⟩ = some (.slice A0_0 l0_0.length c0_0) := (blk_cell BK235.out 0).trans rfl; have hcz47_1 : w45.cell? ⟨gb235, 1, none⟩ = some (.slice A0_1 l0_1.length c0_1) := (blk_cell BK235.out 1).trans rfl; have hfz47_0 := blk_frozen BK235.out 0; have hfz47_1 := blk_frozen BK235.out 1) | ((with_reducible refine gate_builtin (b := .append) (xs := #[.tmp 41, .tmp 43]) rfl ?_); at_builtin; refine Kd.R_append_rows (Kd.int .i64) (w0 := w) w.heap.size rfl (.tmp 41) (.tmp 43) 22 3 (.int .i64 0) 8 rfl Try.underlying22 info3 rfl (by decide) (by omega) v255 y254 l0_1 _ _ _ (fun k_ => some k_ ≠ (u238000 : Value).ownBlock ∧ some k_ ≠ (.slice Ao36 y245.length co36 : Value).ownBlock ∧ some k_ ≠ (.slice Ao43 y251.length co43 : Value).ownBlock) (fun _ => False) rfl rfl ?aO ?aR (fun _ _ h => h) (fun _ h => h.elim) ?aF ?aB ?aS ?aL ?_; (case aR => exact Kd.Cw HR0_1.out HB.out); (case aB => exact (by repeat (first | (with_reducible first | exact HB.out | apply below_alloc | apply pw_below_drewN | apply below_drew1 | refine below_set ?_ GE235.out | refine below_set ?_ GE236.out | refine below_set ?_ GE237.out) | exact HB.out))); (case aF => exact (fun k_ hk => ⟨Kd.fresh' (Kd.R_lt (Kd.R_mv HO_238000.out)) k_ hk, Kd.fresh' (Kd.R_lt (Kd.R_mv HO247.out)) k_ hk, Kd.fresh' (Kd.R_lt (Kd.R_mv HO253.out)) k_ hk⟩)); (case aO => exact (Kd.R_mv (Kd.R_mono HO256.out (fun _ hk => ⟨hk.1.1.2, ⟨hk.1.2, hk.2⟩⟩)))); (case aS => exact (below_size (by repeat (first | (with_reducible first | exact HB.out | apply below_alloc | apply pw_below_drewN | apply below_drew1 | refine below_set ?_ GE235.out | refine below_set ?_ GE236.out | refine below_set ?_ GE237.out) | exact HB.out)))); (case aL => have := LMc28.out; omega); intro v258 w48 ho hb hg hat; rw [← Ny257.out] at ho; have n0_ := Aside0.mk (Kd.R_after (ok := (fun k_ => some k_ ≠ (.slice Ao36 y245.length co36 : Value).ownBlock ∧ some k_ ≠ (.slice Ao43 y251.length co43 : Value).ownBlock)) (Kd.R_mv HO_238000.out) hg hat); have n1_ := Aside0.mk (blk_grown (bmv BK235.out) hg (Kd.R_ne HO256.out BK235.out (by decide))); have n2_ := Aside0.mk (blk_grown (bmv BK236.out) hg (Kd.R_ne HO256.out BK236.out (by decide))); have n3_ := Aside0.mk (blk_grown (bmv BK237.out) hg (Kd.R_ne HO256.out BK237.out (by decide))); have n4_ := Aside0.mk (Kd.R_after (ok := (fun k_ => some k_ ≠ (u238000 : Value).ownBlock ∧ some k_ ≠ (.slice Ao43 y251.length co43 : Value).ownBlock)) (Kd.R_mv HO247.out) hg hat); have n5_ := Aside0.mk (Kd.R_after (ok := (fun k_ => some k_ ≠ (u238000 : Value).ownBlock ∧ some k_ ≠ (.slice Ao36 y245.length co36 : Value).ownBlock)) (Kd.R_mv HO253.out) hg hat); have n6_ := Aside0.mk (hb); have n7_ := Aside0.mk (ho); clear HO_238000 BK235 BK236 BK237 HO247 HO253 HB HO256; revert n0_ n1_ n2_ n3_ n4_ n5_ n6_ n7_; intro HO_238000 BK235 BK236 BK237 HO247 HO253 HB HO259; clear ho hb hg hat; obtain ⟨Ao49, co49, eo49⟩ := Kd.R_slice HO259.out; subst eo49; have hcz50_0 : w48.cell? ⟨gb237, 0, none⟩ = some (u238000) := (blk_cell BK237.out 0).trans rfl; have hcz50_1 : w48.cell? ⟨gb237, 1, none⟩ = some (.int .i64 1) := (blk_cell BK237.out 1).trans rfl; have hcz50_2 : w48.cell? ⟨gb237, 2, none⟩ = some (.slice Ao36 y245.length co36) := (blk_cell BK237.out 2).trans rfl; have hcz50_3 : w48.cell? ⟨gb237, 3, none⟩ = some (.slice Ao43 y251.length co43) := (blk_cell BK237.out 3).trans rfl; have hcz50_4 : w48.cell? ⟨gb237, 4, none⟩ = some (.slice none 0 0) := (blk_cell BK237.out 4).trans rfl; have hfz50_0 := blk_frozen BK237.out 0; have hfz50_1 := blk_frozen BK237.out 1; have hfz50_2 := blk_frozen BK237.out 2; have hfz50_3 := blk_frozen BK237.out 3; have hfz50_4 := blk_frozen BK237.out 4; obtain ⟨Ao51, co51, eo51⟩ := Kd.R_slice HO_238000.out; subst eo51; have hcz52_0 : w48.cell? ⟨gb236, 0, none⟩ = some (.slice none 0 0) := (blk_cell BK236.out 0).trans rfl; have hcz52_1 : w48.cell? ⟨gb236, 1, none⟩ = some (.int .i64 0) := (blk_cell BK236.out 1).trans rfl; have hcz52_2 : w48.cell? ⟨gb236, 2, none⟩ = some (.slice none 0 0) := (blk_cell BK236.out 2).trans rfl; have hcz52_3 : w48.cell? ⟨gb236, 3, none⟩ = some (.slice none 0 0) := (blk_cell BK236.out 3).trans rfl; have hcz52_4 : w48.cell? ⟨gb236, 4, none⟩ = some (.slice none 0 0) := (blk_cell BK236.out 4).trans rfl; have hfz52_0 := blk_frozen BK236.out 0; have hfz52_1 := blk_frozen BK236.out 1; have hfz52_2 := blk_frozen BK236.out 2; have hfz52_3 := blk_frozen BK236.out 3; have hfz52_4 := blk_frozen BK236.out 4))
       refine bodyPost_ret (results_cell_row rfl _ _ gb236 41 #[.slice Ao51 x238000_1.length co51, .int .i64 1, .slice Ao36 y245.length co36, .slice Ao43 y251.length co43, .slice Ao49 y257.length co49] (0, 0) _ rfl (by (with_reducible repeat (first | refine blk_drewN ?_ _ | refine blk_drew ?_ | refine blk_alloc ?_ _)); refine blk_put (cs := #[.slice Ao51 x238000_1.length co51, .int .i64 1, .slice Ao36 y245.length co36, .slice Ao43 y251.length co43, .slice none 0 0]) ?_ 4 _ rfl; (with_reducible repeat (first | refine blk_drewN ?_ _ | refine blk_drew ?_ | refine blk_alloc ?_ _)); refine blk_put (cs := #[.slice Ao51 x238000_1.length co51, .int .i64 1, .slice Ao36 y245.length co36, .slice none 0 0, .slice none 0 0]) ?_ 3 _ rfl; (with_reducible repeat (first | refine blk_drewN ?_ _ | refine blk_drew ?_ | refine blk_alloc ?_ _)); refine blk_put (cs := #[.slice Ao51 x238000_1.length co51, .int .i64 1, .slice none 0 0, .slice none 0 0, .slice none 0 0]) ?_ 2 _ rfl; (with_reducible repeat (first | refine blk_drewN ?_ _ | refine blk_drew ?_ | refine blk_alloc ?_ _)); refine blk_put (cs := #[.slice Ao51 x238000_1.length co51, .int .i64 0, .slice none 0 0, .slice none 0 0, .slice none 0 0]) ?_ 1 _ rfl; (with_reducible repeat (first | refine blk_drewN ?_ _ | refine blk_drew ?_ | refine blk_alloc ?_ _)); refine blk_put (cs := #[.slice none 0 0, .int .i64 0, .slice none 0 0, .slice none 0 0, .slice none 0 0]) ?_ 0 _ rfl; (with_reducible repeat (first | refine blk_drewN ?_ _ | refine blk_drew ?_ | refine blk_alloc ?_ _)); refine blk_far ?_ NB236_237.out _; (with_reducible repeat (first | refine blk_drewN ?_ _ | refine blk_drew ?_ | refine blk_alloc ?_ _)); exact BK236.out) Try.underlying41 rfl (by kernel_rfl)) rfl ?_
       exact ⟨_, _, _, _, by first | rfl | (simp [errW_none, errW_some] <;> rfl) | (simp [*, errW_none, errW_some] <;> rfl), by (with_reducible repeat (first | apply Kd.R_alloc | apply Kd.R_drewN | apply Kd.R_drew)); exact Kd.R_mono (Kd.R_far (p := ⟨gb236, 4, none⟩) (Kd.R_far (p := ⟨gb236, 3, none⟩) (Kd.R_far (p := ⟨gb236, 2, none⟩) (Kd.R_far (p := ⟨gb236, 1, none⟩) (Kd.R_far (p := ⟨gb236, 0, none⟩) (Kd.R_far (p := ⟨gb237, 4, none⟩) (Kd.R_types (Kd.R_types HO_238000.out BK237.out (by decide)) BK236.out (by decide)) (fun _ hk => hk.1.2) (.slice Ao49 y257.length co49)) (fun _ hk => hk.2) (.slice Ao51 x238000_1.length co51)) (fun _ hk => hk.2) (.int .i64 1)) (fun _ hk => hk.2) (.slice Ao36 y245.length co36)) (fun _ hk => hk.2) (.slice Ao43 y251.length co43)) (fun _ hk => hk.2) (.slice Ao49 y257.length co49)) (fun _ hk => ⟨hk.1.1.1.1, ⟨hk.1.1.1.2, hk.1.1.2⟩⟩), by (with_reducible repeat (first | apply Kd.R_alloc | apply Kd.R_drewN | apply Kd.R_drew)); exact Kd.R_mono (Kd.R_far (p := ⟨gb236, 4, none⟩) (Kd.R_far (p := ⟨gb236, 3, none⟩) (Kd.R_far (p := ⟨gb236, 2, none⟩) (Kd.R_far (p := ⟨gb236, 1, none⟩) (Kd.R_far (p := ⟨gb236, 0, none⟩) (Kd.R_far (p := ⟨gb237, 4, none⟩) (Kd.R_types (Kd.R_types HO247.out BK237.out (by decide)) BK236.out (by decide)) (fun _ hk => hk.1.2) (.slice Ao49 y257.length co49)) (fun _ hk => hk.2) (.slice Ao51 x238000_1.length co51)) (fun _ hk => hk.2) (.int .i64 1)) (fun _ hk => hk.2) (.slice Ao36 y245.length co36)) (fun _ hk => hk.2) (.slice Ao43 y251.length co43)) (fun _ hk => hk.2) (.slice Ao49 y257.length co49)) (fun _ hk => ⟨hk.1.1.1.1, ⟨hk.1.1.1.2, hk.1.1.2⟩⟩), by (with_reducible repeat (first | apply Kd.R_alloc | apply Kd.R_drewN | apply Kd.R_drew)); exact Kd.R_mono (Kd.R_far (p := ⟨gb236, 4, none⟩) (Kd.R_far (p := ⟨gb236, 3, none⟩) (Kd.R_far (p := ⟨gb236, 2, none⟩) (Kd.R_far (p := ⟨gb236, 1, none⟩) (Kd.R_far (p := ⟨gb236, 0, none⟩) (Kd.R_far (p := ⟨gb237, 4, none⟩) (Kd.R_types (Kd.R_types HO253.out BK237.out (by decide)) BK236.out (by decide)) (fun _ hk => hk.1.2) (.slice Ao49 y257.length co49)) (fun _ hk => hk.2) (.slice Ao51 x238000_1.length co51)) (fun _ hk => hk.2) (.int .i64 1)) (fun _ hk => hk.2) (.slice Ao36 y245.length co36)) (fun _ hk => hk.2) (.slice Ao43 y251.length co43)) (fun _ hk => hk.2) (.slice Ao49 y257.length co49)) (fun _ hk => ⟨hk.1.1.1.1, ⟨hk.1.1.1.2, hk.1.1.2⟩⟩), by (with_reducible repeat (first | apply Kd.R_alloc | apply Kd.R_drewN | apply Kd.R_drew)); exact Kd.R_mono (Kd.R_far (p := ⟨gb236, 4, none⟩) (Kd.R_far (p := ⟨gb236, 3, none⟩) (Kd.R_far (p := ⟨gb236, 2, none⟩) (Kd.R_far (p := ⟨gb236, 1, none⟩) (Kd.R_far (p := ⟨gb236, 0, none⟩) (Kd.R_far (p := ⟨gb237, 4, none⟩) (Kd.R_types (Kd.R_types HO259.out BK237.out (by decide)) BK236.out (by decide)) (fun _ hk => hk.1.2) (.slice Ao49 y257.length co49)) (fun _ hk => hk.2) (.slice Ao51 x238000_1.length co51)) (fun _ hk => hk.2) (.int .i64 1)) (fun _ hk => hk.2) (.slice Ao36 y245.length co36)) (fun _ hk => hk.2) (.slice Ao43 y251.length co43)) (fun _ hk => hk.2) (.slice Ao49 y257.length co49)) (fun _ hk => ⟨hk.1.1.1, ⟨hk.1.1.2.1, hk.1.1.2.2⟩⟩), by repeat (first | (with_reducible first | exact HB.out | apply below_alloc | apply pw_below_drewN | apply below_drew1 | refine below_set ?_ GE235.out | refine below_set ?_ GE236.out | refine below_set ?_ GE237.out) | exact HB.out)⟩
      ·rw [if_neg c28] at H
       exact absurd H (by simp)
     ·rw [if_neg c27] at H
      exact absurd H (by simp)
    ·rw [if_neg c26] at H
     exact absurd H (by simp)
def hypercubelaw2_Make.l0 : Nat → List (S45) → Int → List (S41) → Int → Option ((List (S41)))
 | 0, _, _, _, _ => none
 | k + 1, x0, x1, x5, x6 => if x6 < (x0.length : Int) then (if 0 ≤ x6 then ((hypercuberef2_Of.f k ((rd_T45 x0 x6).f0) ((rd_T45 x0 x6).f1) x1).bind fun bt261 => (if x5.length < 1353245080339 then (hypercubelaw2_Make.l0 k x0 x1 (x5 ++ [(⟨bt261.1, bt261.2.1, bt261.2.2.1, bt261.2.2.2.1, bt261.2.2.2.2⟩ : S41)]) (wrap64 (x6 + 1))) else (none))) else (none)) else (some x5)
def hypercubelaw2_Make.f (k : Nat) (l0 : List (S45)) (a1 : Int) : Option ((List (S41))) := hypercubelaw2_Make.l0 k l0 a1 ([] : List (S41)) 0
set_option maxHeartbeats 8000000 in
set_option maxRecDepth 100000 in
theorem hypercubelaw2_Make.calls (k : Nat) (A0 : Option Addr) (c0 : Nat) (l0 : List (S45)) (a1 : Int) (r : List (S41)) (w : World) (hr0 : Kd.C k45 w A0 l0.length l0) (hc0 : l0.length ≤ c0) (h : hypercubelaw2_Make.f k l0 a1 = some r) :
  Calls Try.prog 14 #[.slice A0 l0.length c0, .int .i64 a1] w fun e w' => ∃ v0_ : Value, e = .returned (v0_) ∧ Kd.S k41 41 w' w.heap.size (fun _ => True) v0_ r ∧ Below w.heap.size w w' := by
 have hu45 := Try.underlying45
 have HR0 := Aside0.mk hr0
 have HC0 := Aside0.mk hc0
 clear hr0 hc0
 have HB := Aside0.mk (Below.refl w.heap.size w)
 have H : (hypercubelaw2_Make.l0 k l0 a1 ([] : List (S41)) 0) = some r := h
 clear h
 have H' := Aside0.mk H
 clear H
 go_enter Try.func14, Try.ntmps14
 go_wp2
 go_loopg [5, 6] k (fun kq v5 v6 w' => ∃ (x5_1 : List (S41)) (x6_1 : Int), v6 = .int .i64 x6_1 ∧ Aside0 (hypercubelaw2_Make.l0 kq l0 a1 x5_1 x6_1 = some r) ∧ Aside0 (kq ≤ k) ∧ Aside0 (Kd.S k41 41 w' w.heap.size (fun _ => True) v5 x5_1) ∧ Aside0 (Below w.heap.size w w'))
 case atStart => exact ⟨(([] : List (S41))), (0), (by first | rfl | (simp; done) | (simp [*]; done)), H', ⟨Nat.le_refl _⟩, ⟨by first | exact Kd.S_nil _ _ _ _ _ | exact Kd.N_nil _ _ _ _ _ | exact Kd.V_nil _ _ _ _ _ | exact Kd.Q_nil _ _ _ _ _ | exact Kd.R_nil _ _ _ _ _⟩, ⟨by repeat (first | (with_reducible first | exact HB.out | apply below_alloc | apply pw_below_drewN | apply below_drew1) | exact HB.out)⟩⟩
 case round =>
  clear H'
  try clear c1
  try clear p2
  obtain ⟨x5_1, x6_1, rfl, HA, HK1, HO_5, HB⟩ := hrel
  cases gk with
  | zero => exact absurd HA.out (by simp [hypercubelaw2_Make.l0])
  | succ k1 =>
   have H := HA.out
   clear HA
   simp only [hypercubelaw2_Make.l0] at H
   by_cases c3 : x6_1 < (l0.length : Int)
   ·rw [if_pos c3] at H
    have c3b0 : decide (x6_1 < (l0.length : Int)) = true := decide_eq_true c3
    clear c3
    by_cases c4 : 0 ≤ x6_1
    ·rw [if_pos c4] at H
     have c4b0 : decide (0 ≤ x6_1) = true := decide_eq_true c4
     clear c4
     replace H := Option.bind_eq_some_iff.mp H
     obtain ⟨⟨t261, t264, t265, t268, t271⟩, A50, H⟩ := H
     replace H : (if x5_1.length < 1353245080339 then (hypercubelaw2_Make.l0 k1 l0 a1 (x5_1 ++ [(⟨t261, t264, t265, t268, t271⟩ : S41)]) (wrap64 (x6_1 + 1))) else (none)) = some r := H
     have A5 := Aside0.mk A50
     clear A50
     by_cases c6 : x5_1.length < 1353245080339
     ·rw [if_pos c6] at H
      have LMc6 := Aside0.mk c6
      clear c6
      obtain ⟨y274, hy274⟩ : ∃ y_ : List (S41), y_ = (x5_1 ++ [(⟨t261, t264, t265, t268, t271⟩ : S41)]) := ⟨_, rfl⟩
      replace H : (hypercubelaw2_Make.l0 k1 l0 a1 y274 (wrap64 (x6_1 + 1))) = some r := by rw [hy274]; with_reducible exact H
      have Ny274 := Aside0.mk hy274
      clear hy274
      have H' := Aside0.mk H
      clear H
      have p260 : 0 ≤ (x6_1 : Int) := of_decide_eq_true (by first | (with_reducible assumption) | assumption)
      have q260 : x6_1 < (l0.length : Int) := of_decide_eq_true (by first | (with_reducible assumption) | assumption)
      obtain ⟨ad260, A260_0, c260_0, A260_1, c260_1, e260, hx260_0, hx260_1, hl260_0, hi260_0, hl260_1, hi260_1⟩ := at_T45 HR0.out x6_1 p260 q260
      cases e260
      replace hx260_0 := (HB.out.cell (World.block_lt_of_cell? w _ hx260_0)).trans hx260_0
      replace hx260_1 := (HB.out.cell (World.block_lt_of_cell? w _ hx260_1)).trans hx260_1
      have HR260_0 := Aside0.mk hi260_0
      have HC260_0 := Aside0.mk hl260_0
      clear hi260_0 hl260_0
      have HR260_1 := Aside0.mk hi260_1
      have HC260_1 := Aside0.mk hl260_1
      clear hi260_1 hl260_1
      replace p260 := eq_true p260
      replace q260 := eq_true q260
      go_wp2_with (first | ((with_reducible refine gate_callee (f := 26) rfl ?_); refine goesL_ (some 19) rfl rfl Try.func26 (by kernel_rfl) rfl #[.agg #[.slice A260_0 ((rd_T45 l0 x6_1).f0).length c260_0, .slice A260_1 ((rd_T45 l0 x6_1).f1).length c260_1], .int .i64 a1] rfl (by (try simp only [List.map_toArray, List.map_cons, List.map_nil]); first | done | rfl | (simp only [List.length_drop, List.length_take]; rfl)) ?_; (with_reducible refine (hypercuberef2_Of.calls k1 _ _ ((rd_T45 l0 x6_1).f0) _ _ ((rd_T45 l0 x6_1).f1) a1 t261 t264 t265 t268 t271 _ ?side1 ?side2 ?side3 ?side4 A5.out).mono ?_); (case side1 => repeat (first | exact (Kd.C_below HR260_0.out HB.out) | (with_reducible refine Kd.C_alloc ?_ _) | (with_reducible refine Kd.C_drewN ?_ _) | (with_reducible refine Kd.C_drew ?_))); (case side2 => exact HC260_0.out); (case side3 => repeat (first | exact (Kd.C_below HR260_1.out HB.out) | (with_reducible refine Kd.C_alloc ?_ _) | (with_reducible refine Kd.C_drewN ?_ _) | (with_reducible refine Kd.C_drew ?_))); (case side4 => exact HC260_1.out); rintro e w7 ⟨v262, v266, v269, v272, rfl, ho0, ho1, ho2, ho3, hb⟩; refine ⟨_, rfl, ?_⟩; have n0_ := Aside0.mk (Kd.S_mono (Kd.S_told (Kd.S_told (Kd.S_told (Kd.S_told (Kd.S_old (by (with_reducible repeat (first | apply Kd.S_alloc | apply Kd.S_drewN | apply Kd.S_drew)); exact HO_5.out) hb) (Kd.R_base ho0)) (Kd.R_base ho1)) (Kd.R_base ho2)) (Kd.R_base ho3)) (fun _ h_ => h_.1)); have n1_ := Aside0.mk (Kd.R_lower ho0 (below_size (by repeat (first | (with_reducible first | exact HB.out | apply below_alloc | apply pw_below_drewN | apply below_drew1) | exact HB.out)))); have n2_ := Aside0.mk (Kd.R_lower ho1 (below_size (by repeat (first | (with_reducible first | exact HB.out | apply below_alloc | apply pw_below_drewN | apply below_drew1) | exact HB.out)))); have n3_ := Aside0.mk (Kd.R_lower ho2 (below_size (by repeat (first | (with_reducible first | exact HB.out | apply below_alloc | apply pw_below_drewN | apply below_drew1) | exact HB.out)))); have n4_ := Aside0.mk (Kd.R_lower ho3 (below_size (by repeat (first | (with_reducible first | exact HB.out | apply below_alloc | apply pw_below_drewN | apply below_drew1) | exact HB.out)))); have n5_ := Aside0.mk (below_step (by repeat (first | (with_reducible first | exact HB.out | apply below_alloc | apply pw_below_drewN | apply below_drew1) | exact HB.out)) hb); clear HO_5 HB; revert n0_ n1_ n2_ n3_ n4_ n5_; intro HO_5 HO263 HO267 HO270 HO273 HB; (try clear hb); (try clear hb2); (try clear hk); (try clear hi); (try clear ho0); (try clear ho1); (try clear ho2); (try clear ho3); obtain ⟨Ao9, co9, eo9⟩ := Kd.R_slice HO263.out; subst eo9; obtain ⟨Ao10, co10, eo10⟩ := Kd.R_slice HO267.out; subst eo10; obtain ⟨Ao11, co11, eo11⟩ := Kd.R_slice HO270.out; subst eo11; obtain ⟨Ao12, co12, eo12⟩ := Kd.R_slice HO273.out; subst eo12) | ((with_reducible refine gate_builtin (b := .append) (xs := #[.tmp 13, .tmp 20]) rfl ?_); at_builtin; refine Kd.S_append k41 (w0 := w) w.heap.size rfl (.tmp 13) (.tmp 20) 29 41 (.agg #[(.slice none 0 0), (.int .i64 0), (.slice none 0 0), (.slice none 0 0), (.slice none 0 0)]) 104 rfl Try.underlying29 info41 rfl (by decide) (by omega) u5 x5_1 (⟨t261, t264, t265, t268, t271⟩ : S41) [.slice Ao9 t261.length co9, .int .i64 t264, .slice Ao10 t265.length co10, .slice Ao11 t268.length co11, .slice Ao12 t271.length co12] (fun _ => True) (fun k_ => some k_ = (.slice Ao9 t261.length co9 : Value).ownBlock ∨ some k_ = (.slice Ao10 t265.length co10 : Value).ownBlock ∨ some k_ = (.slice Ao11 t268.length co11 : Value).ownBlock ∨ some k_ = (.slice Ao12 t271.length co12 : Value).ownBlock) rfl rfl ?aP (fun k_ hk_ => hk_.elim (fun h_ => ((Kd.R_mono (ok' := fun k_ => ((fun _ => True)) k_ ∧ some k_ ≠ (u5 : Value).ownBlock) (Kd.R_apart' (HO263.out) (Kd.S_typed HO_5.out) (by decide)) (fun k_ hk => ⟨trivial, hk.2⟩))).1 k_ h_.symm) (fun h_ => h_.elim (fun h_ => ((Kd.R_mono (ok' := fun k_ => ((fun _ => True)) k_ ∧ some k_ ≠ (u5 : Value).ownBlock) (Kd.R_apart' (HO267.out) (Kd.S_typed HO_5.out) (by decide)) (fun k_ hk => ⟨trivial, hk.2⟩))).1 k_ h_.symm) (fun h_ => h_.elim (fun h_ => ((Kd.R_mono (ok' := fun k_ => ((fun _ => True)) k_ ∧ some k_ ≠ (u5 : Value).ownBlock) (Kd.R_apart' (HO270.out) (Kd.S_typed HO_5.out) (by decide)) (fun k_ hk => ⟨trivial, hk.2⟩))).1 k_ h_.symm) (fun h_ => ((Kd.R_mono (ok' := fun k_ => ((fun _ => True)) k_ ∧ some k_ ≠ (u5 : Value).ownBlock) (Kd.R_apart' (HO273.out) (Kd.S_typed HO_5.out) (by decide)) (fun k_ hk => ⟨trivial, hk.2⟩))).1 k_ h_.symm)))) ?aF ?aO ?aB ?aS ?aL ?_; (case aP => exact k41_mkM _ _ _ (⟨t261, t264, t265, t268, t271⟩ : S41) (Kd.R_mono (Kd.R_tight rfl (Kd.R_mono (ok' := fun k_ => ((fun _ => True)) k_ ∧ some k_ ≠ (u5 : Value).ownBlock) (Kd.R_apart' (HO263.out) (Kd.S_typed HO_5.out) (by decide)) (fun k_ hk => ⟨trivial, hk.2⟩))) (fun _ h_ => Or.inl h_)) (Kd.R_mono (Kd.R_tight rfl (Kd.R_mono (ok' := fun k_ => ((fun _ => True)) k_ ∧ some k_ ≠ (u5 : Value).ownBlock) (Kd.R_apart' (HO267.out) (Kd.S_typed HO_5.out) (by decide)) (fun k_ hk => ⟨trivial, hk.2⟩))) (fun _ h_ => Or.inr (Or.inl h_))) (Kd.R_mono (Kd.R_tight rfl (Kd.R_mono (ok' := fun k_ => ((fun _ => True)) k_ ∧ some k_ ≠ (u5 : Value).ownBlock) (Kd.R_apart' (HO270.out) (Kd.S_typed HO_5.out) (by decide)) (fun k_ hk => ⟨trivial, hk.2⟩))) (fun _ h_ => Or.inr (Or.inr (Or.inl h_)))) (Kd.R_mono (Kd.R_tight rfl (Kd.R_mono (ok' := fun k_ => ((fun _ => True)) k_ ∧ some k_ ≠ (u5 : Value).ownBlock) (Kd.R_apart' (HO273.out) (Kd.S_typed HO_5.out) (by decide)) (fun k_ hk => ⟨trivial, hk.2⟩))) (fun _ h_ => Or.inr (Or.inr (Or.inr (h_)))))); (case aB => exact (by repeat (first | (with_reducible first | exact HB.out | apply below_alloc | apply pw_below_drewN | apply below_drew1) | exact HB.out))); (case aF => exact (fun _ _ => trivial)); (case aO => exact (by (with_reducible repeat (first | apply Kd.S_alloc | apply Kd.S_drewN | apply Kd.S_drew)); exact Kd.S_mono HO_5.out (fun k_ hk => ⟨trivial, fun e_ => e_.elim (fun h_ => hk.1.1.1.2 h_) (fun h_ => h_.elim (fun h_ => hk.1.1.2 h_) (fun h_ => h_.elim (fun h_ => hk.1.2 h_) (fun h_ => hk.2 h_)))⟩))); (case aS => exact (below_size (by repeat (first | (with_reducible first | exact HB.out | apply below_alloc | apply pw_below_drewN | apply below_drew1) | exact HB.out)))); (case aL => have := LMc6.out; omega); intro v275 w8 ho hb hg hat; rw [← Ny274.out] at ho; have n0_ := Aside0.mk (hb); have n1_ := Aside0.mk (ho); clear HB HO_5 HO263 HO267 HO270 HO273; revert n0_ n1_; intro HB HO276; clear ho hb hg hat))
      go_roundg k1
      case measure => have := HK1.out; omega
      case rel => exact ⟨(y274), (wrap64 (x6_1 + 1)), (by first | rfl | (simp; done) | (simp [*]; done)), H', ⟨by have := HK1.out; omega⟩, ⟨by (with_reducible repeat (first | apply Kd.S_alloc | apply Kd.S_drewN | apply Kd.S_drew)); exact HO276.out⟩, ⟨by repeat (first | (with_reducible first | exact HB.out | apply below_alloc | apply pw_below_drewN | apply below_drew1) | exact HB.out)⟩⟩
     ·rw [if_neg c6] at H
      exact absurd H (by simp)
    ·rw [if_neg c4] at H
     exact absurd H (by simp)
   ·rw [if_neg c3] at H
    have c3b0 : decide (x6_1 < (l0.length : Int)) = false := decide_eq_false c3
    clear c3
    obtain rfl := Option.some.inj H
    go_wp2
    go_ret
    exact ⟨_, by first | rfl | (simp [errW_none, errW_some] <;> rfl) | (simp [*, errW_none, errW_some] <;> rfl), by (with_reducible repeat (first | apply Kd.S_alloc | apply Kd.S_drewN | apply Kd.S_drew)); exact HO_5.out, by repeat (first | (with_reducible first | exact HB.out | apply below_alloc | apply pw_below_drewN | apply below_drew1) | exact HB.out)⟩
def hypercubelaw2_within.f (a0 : Int) (a1 : Int) : Option (Int) := if a1 = 0 then (none) else (if (Int.tmod a0 a1) < 0 then (some (wrap64 ((Int.tmod a0 a1) + a1))) else (some (Int.tmod a0 a1)))
set_option maxHeartbeats 8000000 in
set_option maxRecDepth 100000 in
theorem hypercubelaw2_within.calls (a0 : Int) (a1 : Int) (r : Int) (w : World) (h : hypercubelaw2_within.f a0 a1 = some r) :
  Calls Try.prog 27 #[.int .i64 a0, .int .i64 a1] w fun e w' => e = .returned (.int .i64 r) ∧ Drawn0 w w' := by
 have H : (if a1 = 0 then (none) else (if (Int.tmod a0 a1) < 0 then (some (wrap64 ((Int.tmod a0 a1) + a1))) else (some (Int.tmod a0 a1)))) = some r := h
 clear h
 by_cases c3 : a1 = 0
 ·rw [if_pos c3] at H
  exact absurd H (by simp)
 ·rw [if_neg c3] at H
  have c3b0 : (a1 == 0) = false := beq_eq_false_iff_ne.mpr c3
  have c3b1 : (a1 != 0) = true := bne_iff_ne.mpr c3
  by_cases c4 : (Int.tmod a0 a1) < 0
  ·rw [if_pos c4] at H
   have c4b0 : decide ((Int.tmod a0 a1) < 0) = true := decide_eq_true c4
   clear c4
   obtain rfl := Option.some.inj H
   go_enter Try.func27, Try.ntmps27
   go_wp2
   go_ret
   exact ⟨by first | rfl | (simp; done) | (simp [*]; done), by repeat (first | exact Drawn0.refl _ | apply Drawn0.step)⟩
  ·rw [if_neg c4] at H
   have c4b0 : decide ((Int.tmod a0 a1) < 0) = false := decide_eq_false c4
   clear c4
   obtain rfl := Option.some.inj H
   go_enter Try.func27, Try.ntmps27
   go_wp2
   go_ret
   exact ⟨by first | rfl | (simp; done) | (simp [*]; done), by repeat (first | exact Drawn0.refl _ | apply Drawn0.step)⟩
def hypercubelaw2_Set.f (l0_0 : List Int) (a0_1 : Int) (a1 : Int) : Option (Int) := if 0 ≤ (IntKind.u64.wrap ((l0_0.length : Int))) then ((hypercubelaw2_within.f a1 (shl .i64 1 (IntKind.u64.wrap ((l0_0.length : Int))))).bind fun t278 => (some t278)) else (none)
set_option maxHeartbeats 8000000 in
set_option maxRecDepth 100000 in
theorem hypercubelaw2_Set.calls (A0_0 : Option Addr) (c0_0 : Nat) (l0_0 : List Int) (a0_1 : Int) (a1 : Int) (r : Int) (w : World) (hr0_0 : Kd.C (Kd.int .i64) w A0_0 l0_0.length l0_0) (hc0_0 : l0_0.length ≤ c0_0) (h : hypercubelaw2_Set.f l0_0 a0_1 a1 = some r) :
  Calls Try.prog 15 #[.agg #[.slice A0_0 l0_0.length c0_0, .int .i64 a0_1], .int .i64 a1] w fun e w' => e = .returned (.int .i64 r) ∧ Below w.heap.size w w' := by
 have hu25 := Try.underlying25
 have HR0_0 := Aside0.mk hr0_0
 have HC0_0 := Aside0.mk hc0_0
 clear hr0_0 hc0_0
 have HB := Aside0.mk (Below.refl w.heap.size w)
 have H : (if 0 ≤ (IntKind.u64.wrap ((l0_0.length : Int))) then ((hypercubelaw2_within.f a1 (shl .i64 1 (IntKind.u64.wrap ((l0_0.length : Int))))).bind fun t278 => (some t278)) else (none)) = some r := h
 clear h
 obtain ⟨ji3, hji3⟩ : ∃ j_ : Int, (IntKind.u64.wrap ((l0_0.length : Int))) = j_ := ⟨_, rfl⟩
 replace H : (if 0 ≤ (ji3) then ((hypercubelaw2_within.f a1 (shl .i64 1 (ji3))).bind fun t278 => (some t278)) else (none)) = some r := by first | (rw [hji3] at H; exact H) | (simp only [hji3] at H ⊢; exact H)
 by_cases c4 : 0 ≤ (ji3)
 ·rw [if_pos c4] at H
  have c4b0 := eq_true c4
  have c4b1 : decide (0 ≤ (ji3)) = true := decide_eq_true c4
  clear c4
  obtain ⟨ji5, hji5⟩ : ∃ j_ : Int, (shl .i64 1 (ji3)) = j_ := ⟨_, rfl⟩
  replace H : ((hypercubelaw2_within.f a1 (ji5)).bind fun t278 => (some t278)) = some r := by first | (rw [hji5] at H; exact H) | (simp only [hji5] at H ⊢; exact H)
  have hji5_ : (IntKind.i64.wrap (1 * 2 ^ min (ji3).toNat 64)) = ji5 := hji5
  have hji5z : (ji3) ≤ 64 → (IntKind.i64.wrap (1 * 2 ^ (ji3).toNat)) = ji5 := shl_small hji5
  have hji5u : (IntKind.i64.wrap (2 ^ min (ji3).toNat 64)) = ji5 := by have h_ := hji5_; rw [Int.one_mul] at h_; exact h_
  have hji5v : (ji3) ≤ 64 → (IntKind.i64.wrap (2 ^ (ji3).toNat)) = ji5 := fun hle_ => by have h_ := hji5z hle_; rw [Int.one_mul] at h_; exact h_
  have hji5y : (wrap64 (1 * 2 ^ min (ji3).toNat 64)) = ji5 := (i64_w _).symm.trans hji5_
  have hji5x : (ji3) ≤ 64 → (wrap64 (1 * 2 ^ (ji3).toNat)) = ji5 := fun h_ => (i64_w _).symm.trans (hji5z h_)
  replace H := Option.bind_eq_some_iff.mp H
  obtain ⟨t278, A60, H⟩ := H
  replace H : (some t278) = some r := H
  have A6 := Aside0.mk A60
  clear A60
  obtain rfl := Option.some.inj H
  go_enter Try.func15, Try.ntmps15
  go_wp2_with (first | ((with_reducible refine gate_dst (N := 2) rfl ?_); refine box_event ?hg (N := 2) ?hd (cs := #[.slice A0_0 l0_0.length c0_0, .int .i64 a0_1]) (t := 25) ?hr ?_; (case hd => rfl); (case hg => rfl); (case hr => first | (go_simp; done) | (go_simp; rfl)); intro gb277 hg w7 hbox hb; have n0_ := Aside0.mk (below_step (wmv HB.out) hb); have n1_ := Aside0.mk (hbox); have n2_ := Aside0.mk ((by rw [hg]; exact (below_size (wmv HB.out)) : w.heap.size ≤ gb277)); have n3_ := Aside0.mk ((by rw [hg]; exact (below_size (wmv HB.out)) : w.heap.size ≤ gb277)); clear HB; revert n0_ n1_ n2_ n3_; intro HB BK277 GW277 GE277; clear hb hbox hg; have hcz8_0 : w7.cell? ⟨gb277, 0, none⟩ = some (.slice A0_0 l0_0.length c0_0) := (blk_cell BK277.out 0).trans rfl; have hcz8_1 : w7.cell? ⟨gb277, 1, none⟩ = some (.int .i64 a0_1) := (blk_cell BK277.out 1).trans rfl; have hfz8_0 := blk_frozen BK277.out 0; have hfz8_1 := blk_frozen BK277.out 1) | ((with_reducible refine gate_callee (f := 27) rfl ?_); refine goesL_ (some 11) rfl rfl Try.func27 (by kernel_rfl) rfl #[.int .i64 a1, .int .i64 ji5] rfl (by (try simp only [List.map_toArray, List.map_cons, List.map_nil]); first | done | (simp only [hji5]; rfl) | rfl | (simp only [List.length_drop, List.length_take]; rfl)) ?_; (with_reducible refine (hypercubelaw2_within.calls a1 ji5 t278 _ A6.out).mono ?_); rintro e w' ⟨rfl, ⟨nd, rfl⟩⟩; refine ⟨_, rfl, ?_⟩))
  go_ret
  exact ⟨by first | rfl | (simp [errW_none, errW_some] <;> rfl) | (simp only [← hji3, ← hji5]; first | rfl | (simp [errW_none, errW_some] <;> rfl)) | (simp [*, errW_none, errW_some] <;> rfl), by repeat (first | (with_reducible first | exact HB.out | apply below_alloc | apply pw_below_drewN | apply below_drew1 | refine below_set ?_ GE277.out) | exact HB.out)⟩
 ·rw [if_neg c4] at H
  exact absurd H (by simp)
def hypercubelaw5_within.f (a0 : Int) (a1 : Int) : Option (Int) := if a1 = 0 then (none) else (if (Int.tmod a0 a1) < 0 then (some (wrap64 ((Int.tmod a0 a1) + a1))) else (some (Int.tmod a0 a1)))
set_option maxHeartbeats 8000000 in
set_option maxRecDepth 100000 in
theorem hypercubelaw5_within.calls (a0 : Int) (a1 : Int) (r : Int) (w : World) (h : hypercubelaw5_within.f a0 a1 = some r) :
  Calls Try.prog 16 #[.int .i64 a0, .int .i64 a1] w fun e w' => e = .returned (.int .i64 r) ∧ Drawn0 w w' := by
 have H : (if a1 = 0 then (none) else (if (Int.tmod a0 a1) < 0 then (some (wrap64 ((Int.tmod a0 a1) + a1))) else (some (Int.tmod a0 a1)))) = some r := h
 clear h
 by_cases c3 : a1 = 0
 ·rw [if_pos c3] at H
  exact absurd H (by simp)
 ·rw [if_neg c3] at H
  have c3b0 : (a1 == 0) = false := beq_eq_false_iff_ne.mpr c3
  have c3b1 : (a1 != 0) = true := bne_iff_ne.mpr c3
  by_cases c4 : (Int.tmod a0 a1) < 0
  ·rw [if_pos c4] at H
   have c4b0 : decide ((Int.tmod a0 a1) < 0) = true := decide_eq_true c4
   clear c4
   obtain rfl := Option.some.inj H
   go_enter Try.func16, Try.ntmps16
   go_wp2
   go_ret
   exact ⟨by first | rfl | (simp; done) | (simp [*]; done), by repeat (first | exact Drawn0.refl _ | apply Drawn0.step)⟩
  ·rw [if_neg c4] at H
   have c4b0 : decide ((Int.tmod a0 a1) < 0) = false := decide_eq_false c4
   clear c4
   obtain rfl := Option.some.inj H
   go_enter Try.func16, Try.ntmps16
   go_wp2
   go_ret
   exact ⟨by first | rfl | (simp; done) | (simp [*]; done), by repeat (first | exact Drawn0.refl _ | apply Drawn0.step)⟩
end Go.Proofs.Ytmnepkbmcnpjlaa.Q
namespace Go.Proofs.Ytmnepkbmcnpjlaa.Q
open Go.RowKit Go.Proofs.YtmnepkbmcnpjlaaW.PrintWords Go.Proofs.YtmnepkbmcnpjlaaW.PrintLast Go.Proofs.YtmnepkbmcnpjlaaW.PrintMore
attribute [local go_sem] max2_int min2_int max_two min_two max_three min_three max_four min_four
set_option linter.unusedVariables false
set_option linter.unusedSimpArgs false
def hypercuberef1_Ints.l0 : Nat → List Int → List Int → Int → Option (Bool)
 | 0, _, _, _ => none
 | k + 1, x0, x1, x5 => if x5 < (x0.length : Int) then (if 0 ≤ x5 then (if x5 < (x1.length : Int) then (if (rd x0 x5) = (rd x1 x5) then (hypercuberef1_Ints.l0 k x0 x1 (wrap64 (x5 + 1))) else (some false)) else (none)) else (none)) else (some true)
def hypercuberef1_Ints.f (k : Nat) (l0 : List Int) (l1 : List Int) : Option (Bool) := if (l0.length : Int) = (l1.length : Int) then (hypercuberef1_Ints.l0 k l0 l1 0) else (some false)
set_option maxHeartbeats 8000000 in
set_option maxRecDepth 100000 in
theorem hypercuberef1_Ints.calls (k : Nat) (A0 : Option Addr) (c0 : Nat) (l0 : List Int) (A1 : Option Addr) (c1 : Nat) (l1 : List Int) (r : Bool) (w : World) (hr0 : Kd.C (Kd.int .i64) w A0 l0.length l0) (hc0 : l0.length ≤ c0) (hr1 : Kd.C (Kd.int .i64) w A1 l1.length l1) (hc1 : l1.length ≤ c1) (h : hypercuberef1_Ints.f k l0 l1 = some r) :
  Calls Try.prog 45 #[.slice A0 l0.length c0, .slice A1 l1.length c1] w fun e w' => e = .returned (.bool r) ∧ Drawn0 w w' := by
 have HR0 := Aside0.mk hr0
 have HC0 := Aside0.mk hc0
 clear hr0 hc0
 have HR1 := Aside0.mk hr1
 have HC1 := Aside0.mk hc1
 clear hr1 hc1
 have H : (if (l0.length : Int) = (l1.length : Int) then (hypercuberef1_Ints.l0 k l0 l1 0) else (some false)) = some r := h
 clear h
 by_cases c3 : (l0.length : Int) = (l1.length : Int)
 ·rw [if_pos c3] at H
  have c3b0 : ((l0.length : Int) == (l1.length : Int)) = true := beq_iff_eq.mpr c3
  have c3b1 : ((l0.length : Int) != (l1.length : Int)) = false := bne_eq_false_iff_eq.mpr c3
  have c3b2 : (l0.length == l1.length) = true := by first | simpa using c3 | (simp at c3 ⊢; omega)
  clear c3
  have H' := Aside0.mk H
  clear H
  go_enter Try.func45, Try.ntmps45
  go_wp2
  repeat (go_quiet (fail); try go_wp2)
  go_loopg [5] k (fun kq v5 w' => ∃ (x5_1 : Int), v5 = .int .i64 x5_1 ∧ Aside0 (hypercuberef1_Ints.l0 kq l0 l1 x5_1 = some r) ∧ Aside0 (kq ≤ k) ∧ Drawn0 w w')
  case atStart => exact ⟨(0), (by first | rfl | (simp; done) | (simp [*]; done)), H', ⟨Nat.le_refl _⟩, by repeat (first | exact Drawn0.refl _ | apply Drawn0.step)⟩
  case round =>
   clear H'
   try clear c1
   try clear p2
   try clear c3
   try clear c3b0
   try clear c3b1
   try clear c3b2
   obtain ⟨x5_1, rfl, HA, HK1, ⟨m1, rfl⟩⟩ := hrel
   cases gk with
   | zero => exact absurd HA.out (by simp [hypercuberef1_Ints.l0])
   | succ k1 =>
    have H := HA.out
    clear HA
    simp only [hypercuberef1_Ints.l0] at H
    by_cases c4 : x5_1 < (l0.length : Int)
    ·rw [if_pos c4] at H
     have c4b0 : decide (x5_1 < (l0.length : Int)) = true := decide_eq_true c4
     clear c4
     by_cases c5 : 0 ≤ x5_1
     ·rw [if_pos c5] at H
      have c5b0 : decide (0 ≤ x5_1) = true := decide_eq_true c5
      clear c5
      by_cases c6 : x5_1 < (l1.length : Int)
      ·rw [if_pos c6] at H
       have c6b0 : decide (x5_1 < (l1.length : Int)) = true := decide_eq_true c6
       clear c6
       by_cases c7 : (rd l0 x5_1) = (rd l1 x5_1)
       ·rw [if_pos c7] at H
        have c7b0 : ((rd l0 x5_1) == (rd l1 x5_1)) = true := beq_iff_eq.mpr c7
        have c7b1 : ((rd l0 x5_1) != (rd l1 x5_1)) = false := bne_eq_false_iff_eq.mpr c7
        clear c7
        have H' := Aside0.mk H
        clear H
        have p279 : 0 ≤ (x5_1 : Int) := of_decide_eq_true (by first | (with_reducible assumption) | assumption)
        have q279 : x5_1 < (l0.length : Int) := of_decide_eq_true (by first | (with_reducible assumption) | assumption)
        obtain ⟨ad279, e279, hx279_0⟩ := Kd.at_int HR0.out x5_1 p279 q279
        cases e279
        replace p279 := eq_true p279
        replace q279 := eq_true q279
        have p280 : 0 ≤ (x5_1 : Int) := of_decide_eq_true (by first | (with_reducible assumption) | assumption)
        have q280 : x5_1 < (l1.length : Int) := of_decide_eq_true (by first | (with_reducible assumption) | assumption)
        obtain ⟨ad280, e280, hx280_0⟩ := Kd.at_int HR1.out x5_1 p280 q280
        cases e280
        replace p280 := eq_true p280
        replace q280 := eq_true q280
        go_wp2
        repeat (go_quiet (fail); try go_wp2)
        go_roundg k1
        case measure => have := HK1.out; omega
        case rel => exact ⟨(wrap64 (x5_1 + 1)), (by first | rfl | (simp; done) | (simp [*]; done)), H', ⟨by have := HK1.out; omega⟩, by repeat (first | exact Drawn0.refl _ | apply Drawn0.step)⟩
       ·rw [if_neg c7] at H
        have c7b0 : ((rd l0 x5_1) == (rd l1 x5_1)) = false := beq_eq_false_iff_ne.mpr c7
        have c7b1 : ((rd l0 x5_1) != (rd l1 x5_1)) = true := bne_iff_ne.mpr c7
        obtain rfl := Option.some.inj H
        have p279 : 0 ≤ (x5_1 : Int) := of_decide_eq_true (by first | (with_reducible assumption) | assumption)
        have q279 : x5_1 < (l0.length : Int) := of_decide_eq_true (by first | (with_reducible assumption) | assumption)
        obtain ⟨ad279, e279, hx279_0⟩ := Kd.at_int HR0.out x5_1 p279 q279
        cases e279
        replace p279 := eq_true p279
        replace q279 := eq_true q279
        have p280 : 0 ≤ (x5_1 : Int) := of_decide_eq_true (by first | (with_reducible assumption) | assumption)
        have q280 : x5_1 < (l1.length : Int) := of_decide_eq_true (by first | (with_reducible assumption) | assumption)
        obtain ⟨ad280, e280, hx280_0⟩ := Kd.at_int HR1.out x5_1 p280 q280
        cases e280
        replace p280 := eq_true p280
        replace q280 := eq_true q280
        go_wp2
        repeat (go_quiet (fail); try go_wp2)
        go_ret
        exact ⟨by first | rfl | (simp; done) | (simp [*]; done), by repeat (first | exact Drawn0.refl _ | apply Drawn0.step)⟩
      ·rw [if_neg c6] at H
       exact absurd H (by simp)
     ·rw [if_neg c5] at H
      exact absurd H (by simp)
    ·rw [if_neg c4] at H
     have c4b0 : decide (x5_1 < (l0.length : Int)) = false := decide_eq_false c4
     clear c4
     obtain rfl := Option.some.inj H
     go_wp2
     repeat (go_quiet (fail); try go_wp2)
     go_ret
     exact ⟨by first | rfl | (simp; done) | (simp [*]; done), by repeat (first | exact Drawn0.refl _ | apply Drawn0.step)⟩
 ·rw [if_neg c3] at H
  have c3b0 : ((l0.length : Int) == (l1.length : Int)) = false := beq_eq_false_iff_ne.mpr c3
  have c3b1 : ((l0.length : Int) != (l1.length : Int)) = true := bne_iff_ne.mpr c3
  have c3b2 : (l0.length == l1.length) = false := by first | simpa using c3 | (simp at c3 ⊢; omega)
  obtain rfl := Option.some.inj H
  go_enter Try.func45, Try.ntmps45
  go_wp2
  repeat (go_quiet (fail); try go_wp2)
  go_ret
  exact ⟨by first | rfl | (simp; done) | (simp [*]; done), by repeat (first | exact Drawn0.refl _ | apply Drawn0.step)⟩
def hypercuberef2_Equal.f (k : Nat) (l0_0 : List Int) (a0_1 : Int) (l0_2 : List Int) (l0_3 : List Int) (l0_4 : List Int) (l1_0 : List Int) (a1_1 : Int) (l1_2 : List Int) (l1_3 : List Int) (l1_4 : List Int) : Option (Bool) := if a0_1 = a1_1 then ((hypercuberef1_Ints.f k l0_0 l1_0).bind fun t283 => (if t283 = true then ((hypercuberef1_Ints.f k l0_2 l1_2).bind fun t284 => (if t284 = true then ((hypercuberef1_Ints.f k l0_3 l1_3).bind fun t285 => (if t285 = true then ((hypercuberef1_Ints.f k l0_4 l1_4).bind fun t286 => (some t286)) else (some false))) else (some false))) else (some false))) else (some false)
set_option maxHeartbeats 8000000 in
set_option maxRecDepth 100000 in
theorem hypercuberef2_Equal.calls (k : Nat) (A0_0 : Option Addr) (c0_0 : Nat) (l0_0 : List Int) (a0_1 : Int) (A0_2 : Option Addr) (c0_2 : Nat) (l0_2 : List Int) (A0_3 : Option Addr) (c0_3 : Nat) (l0_3 : List Int) (A0_4 : Option Addr) (c0_4 : Nat) (l0_4 : List Int) (A1_0 : Option Addr) (c1_0 : Nat) (l1_0 : List Int) (a1_1 : Int) (A1_2 : Option Addr) (c1_2 : Nat) (l1_2 : List Int) (A1_3 : Option Addr) (c1_3 : Nat) (l1_3 : List Int) (A1_4 : Option Addr) (c1_4 : Nat) (l1_4 : List Int) (r : Bool) (w : World) (hr0_0 : Kd.C (Kd.int .i64) w A0_0 l0_0.length l0_0) (hc0_0 : l0_0.length ≤ c0_0) (hr0_2 : Kd.C (Kd.int .i64) w A0_2 l0_2.length l0_2) (hc0_2 : l0_2.length ≤ c0_2) (hr0_3 : Kd.C (Kd.int .i64) w A0_3 l0_3.length l0_3) (hc0_3 : l0_3.length ≤ c0_3) (hr0_4 : Kd.C (Kd.int .i64) w A0_4 l0_4.length l0_4) (hc0_4 : l0_4.length ≤ c0_4) (hr1_0 : Kd.C (Kd.int .i64) w A1_0 l1_0.length l1_0) (hc1_0 : l1_0.length ≤ c1_0) (hr1_2 : Kd.C (Kd.int .i64) w A1_2 l1_2.length l1_2) (hc1_2 : l1_2.length ≤ c1_2) (hr1_3 : Kd.C (Kd.int .i64) w A1_3 l1_3.length l1_3) (hc1_3 : l1_3.length ≤ c1_3) (hr1_4 : Kd.C (Kd.int .i64) w A1_4 l1_4.length l1_4) (hc1_4 : l1_4.length ≤ c1_4) (h : hypercuberef2_Equal.f k l0_0 a0_1 l0_2 l0_3 l0_4 l1_0 a1_1 l1_2 l1_3 l1_4 = some r) :
  Calls Try.prog 36 #[.agg #[.slice A0_0 l0_0.length c0_0, .int .i64 a0_1, .slice A0_2 l0_2.length c0_2, .slice A0_3 l0_3.length c0_3, .slice A0_4 l0_4.length c0_4], .agg #[.slice A1_0 l1_0.length c1_0, .int .i64 a1_1, .slice A1_2 l1_2.length c1_2, .slice A1_3 l1_3.length c1_3, .slice A1_4 l1_4.length c1_4]] w fun e w' => e = .returned (.bool r) ∧ Below w.heap.size w w' := by
 have hu41 := Try.underlying41
 have HR0_0 := Aside0.mk hr0_0
 have HC0_0 := Aside0.mk hc0_0
 clear hr0_0 hc0_0
 have HR0_2 := Aside0.mk hr0_2
 have HC0_2 := Aside0.mk hc0_2
 clear hr0_2 hc0_2
 have HR0_3 := Aside0.mk hr0_3
 have HC0_3 := Aside0.mk hc0_3
 clear hr0_3 hc0_3
 have HR0_4 := Aside0.mk hr0_4
 have HC0_4 := Aside0.mk hc0_4
 clear hr0_4 hc0_4
 have HR1_0 := Aside0.mk hr1_0
 have HC1_0 := Aside0.mk hc1_0
 clear hr1_0 hc1_0
 have HR1_2 := Aside0.mk hr1_2
 have HC1_2 := Aside0.mk hc1_2
 clear hr1_2 hc1_2
 have HR1_3 := Aside0.mk hr1_3
 have HC1_3 := Aside0.mk hc1_3
 clear hr1_3 hc1_3
 have HR1_4 := Aside0.mk hr1_4
 have HC1_4 := Aside0.mk hc1_4
 clear hr1_4 hc1_4
 have HB := Aside0.mk (Below.refl w.heap.size w)
 have H : (if a0_1 = a1_1 then ((hypercuberef1_Ints.f k l0_0 l1_0).bind fun t283 => (if t283 = true then ((hypercuberef1_Ints.f k l0_2 l1_2).bind fun t284 => (if t284 = true then ((hypercuberef1_Ints.f k l0_3 l1_3).bind fun t285 => (if t285 = true then ((hypercuberef1_Ints.f k l0_4 l1_4).bind fun t286 => (some t286)) else (some false))) else (some false))) else (some false))) else (some false)) = some r := h
 clear h
 by_cases c3 : a0_1 = a1_1
 ·rw [if_pos c3] at H
  have c3b0 : (a0_1 == a1_1) = true := beq_iff_eq.mpr c3
  have c3b1 : (a0_1 != a1_1) = false := bne_eq_false_iff_eq.mpr c3
  clear c3
  replace H := Option.bind_eq_some_iff.mp H
  obtain ⟨t283, A40, H⟩ := H
  replace H : (if t283 = true then ((hypercuberef1_Ints.f k l0_2 l1_2).bind fun t284 => (if t284 = true then ((hypercuberef1_Ints.f k l0_3 l1_3).bind fun t285 => (if t285 = true then ((hypercuberef1_Ints.f k l0_4 l1_4).bind fun t286 => (some t286)) else (some false))) else (some false))) else (some false)) = some r := H
  have A4 := Aside0.mk A40
  clear A40
  by_cases c5 : t283 = true
  ·subst c5
   have H1 : ((hypercuberef1_Ints.f k l0_2 l1_2).bind fun t284 => (if t284 = true then ((hypercuberef1_Ints.f k l0_3 l1_3).bind fun t285 => (if t285 = true then ((hypercuberef1_Ints.f k l0_4 l1_4).bind fun t286 => (some t286)) else (some false))) else (some false))) = some r := by rw [if_pos rfl] at H; exact H
   clear H
   have H := H1
   clear H1
   replace H := Option.bind_eq_some_iff.mp H
   obtain ⟨t284, A60, H⟩ := H
   replace H : (if t284 = true then ((hypercuberef1_Ints.f k l0_3 l1_3).bind fun t285 => (if t285 = true then ((hypercuberef1_Ints.f k l0_4 l1_4).bind fun t286 => (some t286)) else (some false))) else (some false)) = some r := H
   have A6 := Aside0.mk A60
   clear A60
   by_cases c7 : t284 = true
   ·subst c7
    have H1 : ((hypercuberef1_Ints.f k l0_3 l1_3).bind fun t285 => (if t285 = true then ((hypercuberef1_Ints.f k l0_4 l1_4).bind fun t286 => (some t286)) else (some false))) = some r := by rw [if_pos rfl] at H; exact H
    clear H
    have H := H1
    clear H1
    replace H := Option.bind_eq_some_iff.mp H
    obtain ⟨t285, A80, H⟩ := H
    replace H : (if t285 = true then ((hypercuberef1_Ints.f k l0_4 l1_4).bind fun t286 => (some t286)) else (some false)) = some r := H
    have A8 := Aside0.mk A80
    clear A80
    by_cases c9 : t285 = true
    ·subst c9
     have H1 : ((hypercuberef1_Ints.f k l0_4 l1_4).bind fun t286 => (some t286)) = some r := by rw [if_pos rfl] at H; exact H
     clear H
     have H := H1
     clear H1
     replace H := Option.bind_eq_some_iff.mp H
     obtain ⟨t286, A100, H⟩ := H
     replace H : (some t286) = some r := H
     have A10 := Aside0.mk A100
     clear A100
     obtain rfl := Option.some.inj H
     go_enter Try.func36, Try.ntmps36
     go_wp2_with (first | ((with_reducible refine gate_dst (N := 2) rfl ?_); refine box_event ?hg (N := 2) ?hd (cs := #[.slice A0_0 l0_0.length c0_0, .int .i64 a0_1, .slice A0_2 l0_2.length c0_2, .slice A0_3 l0_3.length c0_3, .slice A0_4 l0_4.length c0_4]) (t := 41) ?hr ?_; (case hd => rfl); (case hg => rfl); (case hr => first | (go_simp; done) | (go_simp; rfl)); intro gb281 hg w11 hbox hb; have n0_ := Aside0.mk (below_step (wmv HB.out) hb); have n1_ := Aside0.mk (hbox); have n2_ := Aside0.mk ((by rw [hg]; exact (below_size (wmv HB.out)) : w.heap.size ≤ gb281)); have n3_ := Aside0.mk ((by rw [hg]; exact (below_size (wmv HB.out)) : w.heap.size ≤ gb281)); clear HB; revert n0_ n1_ n2_ n3_; intro HB BK281 GW281 GE281; clear hb hbox hg) | ((with_reducible refine gate_dst (N := 3) rfl ?_); refine box_event ?hg (N := 3) ?hd (cs := #[.slice A1_0 l1_0.length c1_0, .int .i64 a1_1, .slice A1_2 l1_2.length c1_2, .slice A1_3 l1_3.length c1_3, .slice A1_4 l1_4.length c1_4]) (t := 41) ?hr ?_; (case hd => rfl); (case hg => rfl); (case hr => first | (go_simp; done) | (go_simp; rfl)); intro gb282 hg w12 hbox hb; have n0_ := Aside0.mk (blk_below (bmv BK281.out) hb); have n1_ := Aside0.mk (below_step (wmv HB.out) hb); have n2_ := Aside0.mk (hbox); have n3_ := Aside0.mk ((by rw [hg]; exact (below_size (wmv HB.out)) : w.heap.size ≤ gb282)); have n4_ := Aside0.mk ((by rw [hg]; exact (below_size (wmv HB.out)) : w.heap.size ≤ gb282)); have n5_ := Aside0.mk ((by rw [hg]; exact Nat.ne_of_lt (blk_lt (bmv BK281.out)) : gb281 ≠ gb282)); have n6_ := Aside0.mk ((by rw [hg]; exact Nat.ne_of_gt (blk_lt (bmv BK281.out)) : gb282 ≠ gb281)); clear BK281 HB; revert n0_ n1_ n2_ n3_ n4_ n5_ n6_; intro BK281 HB BK282 GW282 GE282 NB281_282 NB282_281; clear hb hbox hg; have hnb13 := NB281_282.out; have hnc13 := NB282_281.out; have hcz14_0 : w12.cell? ⟨gb281, 0, none⟩ = some (.slice A0_0 l0_0.length c0_0) := (blk_cell BK281.out 0).trans rfl; have hcz14_1 : w12.cell? ⟨gb281, 1, none⟩ = some (.int .i64 a0_1) := (blk_cell BK281.out 1).trans rfl; have hcz14_2 : w12.cell? ⟨gb281, 2, none⟩ = some (.slice A0_2 l0_2.length c0_2) := (blk_cell BK281.out 2).trans rfl; have hcz14_3 : w12.cell? ⟨gb281, 3, none⟩ = some (.slice A0_3 l0_3.length c0_3) := (blk_cell BK281.out 3).trans rfl; have hcz14_4 : w12.cell? ⟨gb281, 4, none⟩ = some (.slice A0_4 l0_4.length c0_4) := (blk_cell BK281.out 4).trans rfl; have hfz14_0 := blk_frozen BK281.out 0; have hfz14_1 := blk_frozen BK281.out 1; have hfz14_2 := blk_frozen BK281.out 2; have hfz14_3 := blk_frozen BK281.out 3; have hfz14_4 := blk_frozen BK281.out 4; have hcz15_0 : w12.cell? ⟨gb282, 0, none⟩ = some (.slice A1_0 l1_0.length c1_0) := (blk_cell BK282.out 0).trans rfl; have hcz15_1 : w12.cell? ⟨gb282, 1, none⟩ = some (.int .i64 a1_1) := (blk_cell BK282.out 1).trans rfl; have hcz15_2 : w12.cell? ⟨gb282, 2, none⟩ = some (.slice A1_2 l1_2.length c1_2) := (blk_cell BK282.out 2).trans rfl; have hcz15_3 : w12.cell? ⟨gb282, 3, none⟩ = some (.slice A1_3 l1_3.length c1_3) := (blk_cell BK282.out 3).trans rfl; have hcz15_4 : w12.cell? ⟨gb282, 4, none⟩ = some (.slice A1_4 l1_4.length c1_4) := (blk_cell BK282.out 4).trans rfl; have hfz15_0 := blk_frozen BK282.out 0; have hfz15_1 := blk_frozen BK282.out 1; have hfz15_2 := blk_frozen BK282.out 2; have hfz15_3 := blk_frozen BK282.out 3; have hfz15_4 := blk_frozen BK282.out 4) | (go_at_call 45; (with_reducible refine (hypercuberef1_Ints.calls k _ _ l0_0 _ _ l1_0 true _ ?side1 ?side2 ?side3 ?side4 A4.out).mono ?_); (case side1 => exact Kd.Cw HR0_0.out HB.out); (case side2 => exact HC0_0.out); (case side3 => exact Kd.Cw HR1_0.out HB.out); (case side4 => exact HC1_0.out); rintro e w' ⟨rfl, ⟨nd, rfl⟩⟩) | (go_at_call 45; (with_reducible refine (hypercuberef1_Ints.calls k _ _ l0_2 _ _ l1_2 true _ ?side1 ?side2 ?side3 ?side4 A6.out).mono ?_); (case side1 => repeat (first | exact (Kd.C_below HR0_2.out (wmv HB.out)) | (with_reducible refine Kd.C_alloc ?_ _) | (with_reducible refine Kd.C_drewN ?_ _) | (with_reducible refine Kd.C_drew ?_))); (case side2 => exact HC0_2.out); (case side3 => repeat (first | exact (Kd.C_below HR1_2.out (wmv HB.out)) | (with_reducible refine Kd.C_alloc ?_ _) | (with_reducible refine Kd.C_drewN ?_ _) | (with_reducible refine Kd.C_drew ?_))); (case side4 => exact HC1_2.out); rintro e w' ⟨rfl, ⟨nd, rfl⟩⟩) | (go_at_call 45; (with_reducible refine (hypercuberef1_Ints.calls k _ _ l0_3 _ _ l1_3 true _ ?side1 ?side2 ?side3 ?side4 A8.out).mono ?_); (case side1 => repeat (first | exact (Kd.C_below HR0_3.out (wmv HB.out)) | (with_reducible refine Kd.C_alloc ?_ _) | (with_reducible refine Kd.C_drewN ?_ _) | (with_reducible refine Kd.C_drew ?_))); (case side2 => exact HC0_3.out); (case side3 => repeat (first | exact (Kd.C_below HR1_3.out (wmv HB.out)) | (with_reducible refine Kd.C_alloc ?_ _) | (with_reducible refine Kd.C_drewN ?_ _) | (with_reducible refine Kd.C_drew ?_))); (case side4 => exact HC1_3.out); rintro e w' ⟨rfl, ⟨nd, rfl⟩⟩) | (go_at_call 45; (with_reducible refine (hypercuberef1_Ints.calls k _ _ l0_4 _ _ l1_4 t286 _ ?side1 ?side2 ?side3 ?side4 A10.out).mono ?_); (case side1 => repeat (first | exact (Kd.C_below HR0_4.out (wmv HB.out)) | (with_reducible refine Kd.C_alloc ?_ _) | (with_reducible refine Kd.C_drewN ?_ _) | (with_reducible refine Kd.C_drew ?_))); (case side2 => exact HC0_4.out); (case side3 => repeat (first | exact (Kd.C_below HR1_4.out (wmv HB.out)) | (with_reducible refine Kd.C_alloc ?_ _) | (with_reducible refine Kd.C_drewN ?_ _) | (with_reducible refine Kd.C_drew ?_))); (case side4 => exact HC1_4.out); rintro e w' ⟨rfl, ⟨nd, rfl⟩⟩))
     go_ret
     exact ⟨by first | rfl | (simp [errW_none, errW_some] <;> rfl) | (simp [*, errW_none, errW_some] <;> rfl), by repeat (first | (with_reducible first | exact HB.out | apply below_alloc | apply pw_below_drewN | apply below_drew1 | refine below_set ?_ GE281.out | refine below_set ?_ GE282.out) | exact HB.out)⟩
    ·replace c9 := Bool.eq_false_iff.mpr c9
     subst c9
     have H1 : (some false) = some r := by rw [if_neg (show ¬ (false = true) by decide)] at H; exact H
     clear H
     have H := H1
     clear H1
     obtain rfl := Option.some.inj H
     go_enter Try.func36, Try.ntmps36
     go_wp2_with (first | ((with_reducible refine gate_dst (N := 2) rfl ?_); refine box_event ?hg (N := 2) ?hd (cs := #[.slice A0_0 l0_0.length c0_0, .int .i64 a0_1, .slice A0_2 l0_2.length c0_2, .slice A0_3 l0_3.length c0_3, .slice A0_4 l0_4.length c0_4]) (t := 41) ?hr ?_; (case hd => rfl); (case hg => rfl); (case hr => first | (go_simp; done) | (go_simp; rfl)); intro gb281 hg w16 hbox hb; have n0_ := Aside0.mk (below_step (wmv HB.out) hb); have n1_ := Aside0.mk (hbox); have n2_ := Aside0.mk ((by rw [hg]; exact (below_size (wmv HB.out)) : w.heap.size ≤ gb281)); have n3_ := Aside0.mk ((by rw [hg]; exact (below_size (wmv HB.out)) : w.heap.size ≤ gb281)); clear HB; revert n0_ n1_ n2_ n3_; intro HB BK281 GW281 GE281; clear hb hbox hg) | ((with_reducible refine gate_dst (N := 3) rfl ?_); refine box_event ?hg (N := 3) ?hd (cs := #[.slice A1_0 l1_0.length c1_0, .int .i64 a1_1, .slice A1_2 l1_2.length c1_2, .slice A1_3 l1_3.length c1_3, .slice A1_4 l1_4.length c1_4]) (t := 41) ?hr ?_; (case hd => rfl); (case hg => rfl); (case hr => first | (go_simp; done) | (go_simp; rfl)); intro gb282 hg w17 hbox hb; have n0_ := Aside0.mk (blk_below (bmv BK281.out) hb); have n1_ := Aside0.mk (below_step (wmv HB.out) hb); have n2_ := Aside0.mk (hbox); have n3_ := Aside0.mk ((by rw [hg]; exact (below_size (wmv HB.out)) : w.heap.size ≤ gb282)); have n4_ := Aside0.mk ((by rw [hg]; exact (below_size (wmv HB.out)) : w.heap.size ≤ gb282)); have n5_ := Aside0.mk ((by rw [hg]; exact Nat.ne_of_lt (blk_lt (bmv BK281.out)) : gb281 ≠ gb282)); have n6_ := Aside0.mk ((by rw [hg]; exact Nat.ne_of_gt (blk_lt (bmv BK281.out)) : gb282 ≠ gb281)); clear BK281 HB; revert n0_ n1_ n2_ n3_ n4_ n5_ n6_; intro BK281 HB BK282 GW282 GE282 NB281_282 NB282_281; clear hb hbox hg; have hnb18 := NB281_282.out; have hnc18 := NB282_281.out; have hcz19_0 : w17.cell? ⟨gb281, 0, none⟩ = some (.slice A0_0 l0_0.length c0_0) := (blk_cell BK281.out 0).trans rfl; have hcz19_1 : w17.cell? ⟨gb281, 1, none⟩ = some (.int .i64 a0_1) := (blk_cell BK281.out 1).trans rfl; have hcz19_2 : w17.cell? ⟨gb281, 2, none⟩ = some (.slice A0_2 l0_2.length c0_2) := (blk_cell BK281.out 2).trans rfl; have hcz19_3 : w17.cell? ⟨gb281, 3, none⟩ = some (.slice A0_3 l0_3.length c0_3) := (blk_cell BK281.out 3).trans rfl; have hcz19_4 : w17.cell? ⟨gb281, 4, none⟩ = some (.slice A0_4 l0_4.length c0_4) := (blk_cell BK281.out 4).trans rfl; have hfz19_0 := blk_frozen BK281.out 0; have hfz19_1 := blk_frozen BK281.out 1; have hfz19_2 := blk_frozen BK281.out 2; have hfz19_3 := blk_frozen BK281.out 3; have hfz19_4 := blk_frozen BK281.out 4; have hcz20_0 : w17.cell? ⟨gb282, 0, none⟩ = some (.slice A1_0 l1_0.length c1_0) := (blk_cell BK282.out 0).trans rfl; have hcz20_1 : w17.cell? ⟨gb282, 1, none⟩ = some (.int .i64 a1_1) := (blk_cell BK282.out 1).trans rfl; have hcz20_2 : w17.cell? ⟨gb282, 2, none⟩ = some (.slice A1_2 l1_2.length c1_2) := (blk_cell BK282.out 2).trans rfl; have hcz20_3 : w17.cell? ⟨gb282, 3, none⟩ = some (.slice A1_3 l1_3.length c1_3) := (blk_cell BK282.out 3).trans rfl; have hcz20_4 : w17.cell? ⟨gb282, 4, none⟩ = some (.slice A1_4 l1_4.length c1_4) := (blk_cell BK282.out 4).trans rfl; have hfz20_0 := blk_frozen BK282.out 0; have hfz20_1 := blk_frozen BK282.out 1; have hfz20_2 := blk_frozen BK282.out 2; have hfz20_3 := blk_frozen BK282.out 3; have hfz20_4 := blk_frozen BK282.out 4) | (go_at_call 45; (with_reducible refine (hypercuberef1_Ints.calls k _ _ l0_0 _ _ l1_0 true _ ?side1 ?side2 ?side3 ?side4 A4.out).mono ?_); (case side1 => exact Kd.Cw HR0_0.out HB.out); (case side2 => exact HC0_0.out); (case side3 => exact Kd.Cw HR1_0.out HB.out); (case side4 => exact HC1_0.out); rintro e w' ⟨rfl, ⟨nd, rfl⟩⟩) | (go_at_call 45; (with_reducible refine (hypercuberef1_Ints.calls k _ _ l0_2 _ _ l1_2 true _ ?side1 ?side2 ?side3 ?side4 A6.out).mono ?_); (case side1 => repeat (first | exact (Kd.C_below HR0_2.out (wmv HB.out)) | (with_reducible refine Kd.C_alloc ?_ _) | (with_reducible refine Kd.C_drewN ?_ _) | (with_reducible refine Kd.C_drew ?_))); (case side2 => exact HC0_2.out); (case side3 => repeat (first | exact (Kd.C_below HR1_2.out (wmv HB.out)) | (with_reducible refine Kd.C_alloc ?_ _) | (with_reducible refine Kd.C_drewN ?_ _) | (with_reducible refine Kd.C_drew ?_))); (case side4 => exact HC1_2.out); rintro e w' ⟨rfl, ⟨nd, rfl⟩⟩) | (go_at_call 45; (with_reducible refine (hypercuberef1_Ints.calls k _ _ l0_3 _ _ l1_3 false _ ?side1 ?side2 ?side3 ?side4 A8.out).mono ?_); (case side1 => repeat (first | exact (Kd.C_below HR0_3.out (wmv HB.out)) | (with_reducible refine Kd.C_alloc ?_ _) | (with_reducible refine Kd.C_drewN ?_ _) | (with_reducible refine Kd.C_drew ?_))); (case side2 => exact HC0_3.out); (case side3 => repeat (first | exact (Kd.C_below HR1_3.out (wmv HB.out)) | (with_reducible refine Kd.C_alloc ?_ _) | (with_reducible refine Kd.C_drewN ?_ _) | (with_reducible refine Kd.C_drew ?_))); (case side4 => exact HC1_3.out); rintro e w' ⟨rfl, ⟨nd, rfl⟩⟩))
     go_ret
     exact ⟨by first | rfl | (simp [errW_none, errW_some] <;> rfl) | (simp [*, errW_none, errW_some] <;> rfl), by repeat (first | (with_reducible first | exact HB.out | apply below_alloc | apply pw_below_drewN | apply below_drew1 | refine below_set ?_ GE281.out | refine below_set ?_ GE282.out) | exact HB.out)⟩
   ·replace c7 := Bool.eq_false_iff.mpr c7
    subst c7
    have H1 : (some false) = some r := by rw [if_neg (show ¬ (false = true) by decide)] at H; exact H
    clear H
    have H := H1
    clear H1
    obtain rfl := Option.some.inj H
    go_enter Try.func36, Try.ntmps36
    go_wp2_with (first | ((with_reducible refine gate_dst (N := 2) rfl ?_); refine box_event ?hg (N := 2) ?hd (cs := #[.slice A0_0 l0_0.length c0_0, .int .i64 a0_1, .slice A0_2 l0_2.length c0_2, .slice A0_3 l0_3.length c0_3, .slice A0_4 l0_4.length c0_4]) (t := 41) ?hr ?_; (case hd => rfl); (case hg => rfl); (case hr => first | (go_simp; done) | (go_simp; rfl)); intro gb281 hg w21 hbox hb; have n0_ := Aside0.mk (below_step (wmv HB.out) hb); have n1_ := Aside0.mk (hbox); have n2_ := Aside0.mk ((by rw [hg]; exact (below_size (wmv HB.out)) : w.heap.size ≤ gb281)); have n3_ := Aside0.mk ((by rw [hg]; exact (below_size (wmv HB.out)) : w.heap.size ≤ gb281)); clear HB; revert n0_ n1_ n2_ n3_; intro HB BK281 GW281 GE281; clear hb hbox hg) | ((with_reducible refine gate_dst (N := 3) rfl ?_); refine box_event ?hg (N := 3) ?hd (cs := #[.slice A1_0 l1_0.length c1_0, .int .i64 a1_1, .slice A1_2 l1_2.length c1_2, .slice A1_3 l1_3.length c1_3, .slice A1_4 l1_4.length c1_4]) (t := 41) ?hr ?_; (case hd => rfl); (case hg => rfl); (case hr => first | (go_simp; done) | (go_simp; rfl)); intro gb282 hg w22 hbox hb; have n0_ := Aside0.mk (blk_below (bmv BK281.out) hb); have n1_ := Aside0.mk (below_step (wmv HB.out) hb); have n2_ := Aside0.mk (hbox); have n3_ := Aside0.mk ((by rw [hg]; exact (below_size (wmv HB.out)) : w.heap.size ≤ gb282)); have n4_ := Aside0.mk ((by rw [hg]; exact (below_size (wmv HB.out)) : w.heap.size ≤ gb282)); have n5_ := Aside0.mk ((by rw [hg]; exact Nat.ne_of_lt (blk_lt (bmv BK281.out)) : gb281 ≠ gb282)); have n6_ := Aside0.mk ((by rw [hg]; exact Nat.ne_of_gt (blk_lt (bmv BK281.out)) : gb282 ≠ gb281)); clear BK281 HB; revert n0_ n1_ n2_ n3_ n4_ n5_ n6_; intro BK281 HB BK282 GW282 GE282 NB281_282 NB282_281; clear hb hbox hg; have hnb23 := NB281_282.out; have hnc23 := NB282_281.out; have hcz24_0 : w22.cell? ⟨gb281, 0, none⟩ = some (.slice A0_0 l0_0.length c0_0) := (blk_cell BK281.out 0).trans rfl; have hcz24_1 : w22.cell? ⟨gb281, 1, none⟩ = some (.int .i64 a0_1) := (blk_cell BK281.out 1).trans rfl; have hcz24_2 : w22.cell? ⟨gb281, 2, none⟩ = some (.slice A0_2 l0_2.length c0_2) := (blk_cell BK281.out 2).trans rfl; have hcz24_3 : w22.cell? ⟨gb281, 3, none⟩ = some (.slice A0_3 l0_3.length c0_3) := (blk_cell BK281.out 3).trans rfl; have hcz24_4 : w22.cell? ⟨gb281, 4, none⟩ = some (.slice A0_4 l0_4.length c0_4) := (blk_cell BK281.out 4).trans rfl; have hfz24_0 := blk_frozen BK281.out 0; have hfz24_1 := blk_frozen BK281.out 1; have hfz24_2 := blk_frozen BK281.out 2; have hfz24_3 := blk_frozen BK281.out 3; have hfz24_4 := blk_frozen BK281.out 4; have hcz25_0 : w22.cell? ⟨gb282, 0, none⟩ = some (.slice A1_0 l1_0.length c1_0) := (blk_cell BK282.out 0).trans rfl; have hcz25_1 : w22.cell? ⟨gb282, 1, none⟩ = some (.int .i64 a1_1) := (blk_cell BK282.out 1).trans rfl; have hcz25_2 : w22.cell? ⟨gb282, 2, none⟩ = some (.slice A1_2 l1_2.length c1_2) := (blk_cell BK282.out 2).trans rfl; have hcz25_3 : w22.cell? ⟨gb282, 3, none⟩ = some (.slice A1_3 l1_3.length c1_3) := (blk_cell BK282.out 3).trans rfl; have hcz25_4 : w22.cell? ⟨gb282, 4, none⟩ = some (.slice A1_4 l1_4.length c1_4) := (blk_cell BK282.out 4).trans rfl; have hfz25_0 := blk_frozen BK282.out 0; have hfz25_1 := blk_frozen BK282.out 1; have hfz25_2 := blk_frozen BK282.out 2; have hfz25_3 := blk_frozen BK282.out 3; have hfz25_4 := blk_frozen BK282.out 4) | (go_at_call 45; (with_reducible refine (hypercuberef1_Ints.calls k _ _ l0_0 _ _ l1_0 true _ ?side1 ?side2 ?side3 ?side4 A4.out).mono ?_); (case side1 => exact Kd.Cw HR0_0.out HB.out); (case side2 => exact HC0_0.out); (case side3 => exact Kd.Cw HR1_0.out HB.out); (case side4 => exact HC1_0.out); rintro e w' ⟨rfl, ⟨nd, rfl⟩⟩) | (go_at_call 45; (with_reducible refine (hypercuberef1_Ints.calls k _ _ l0_2 _ _ l1_2 false _ ?side1 ?side2 ?side3 ?side4 A6.out).mono ?_); (case side1 => repeat (first | exact (Kd.C_below HR0_2.out (wmv HB.out)) | (with_reducible refine Kd.C_alloc ?_ _) | (with_reducible refine Kd.C_drewN ?_ _) | (with_reducible refine Kd.C_drew ?_))); (case side2 => exact HC0_2.out); (case side3 => repeat (first | exact (Kd.C_below HR1_2.out (wmv HB.out)) | (with_reducible refine Kd.C_alloc ?_ _) | (with_reducible refine Kd.C_drewN ?_ _) | (with_reducible refine Kd.C_drew ?_))); (case side4 => exact HC1_2.out); rintro e w' ⟨rfl, ⟨nd, rfl⟩⟩))
    go_ret
    exact ⟨by first | rfl | (simp [errW_none, errW_some] <;> rfl) | (simp [*, errW_none, errW_some] <;> rfl), by repeat (first | (with_reducible first | exact HB.out | apply below_alloc | apply pw_below_drewN | apply below_drew1 | refine below_set ?_ GE281.out | refine below_set ?_ GE282.out) | exact HB.out)⟩
  ·replace c5 := Bool.eq_false_iff.mpr c5
   subst c5
   have H1 : (some false) = some r := by rw [if_neg (show ¬ (false = true) by decide)] at H; exact H
   clear H
   have H := H1
   clear H1
   obtain rfl := Option.some.inj H
   go_enter Try.func36, Try.ntmps36
   go_wp2_with (first | ((with_reducible refine gate_dst (N := 2) rfl ?_); refine box_event ?hg (N := 2) ?hd (cs := #[.slice A0_0 l0_0.length c0_0, .int .i64 a0_1, .slice A0_2 l0_2.length c0_2, .slice A0_3 l0_3.length c0_3, .slice A0_4 l0_4.length c0_4]) (t := 41) ?hr ?_; (case hd => rfl); (case hg => rfl); (case hr => first | (go_simp; done) | (go_simp; rfl)); intro gb281 hg w26 hbox hb; have n0_ := Aside0.mk (below_step (wmv HB.out) hb); have n1_ := Aside0.mk (hbox); have n2_ := Aside0.mk ((by rw [hg]; exact (below_size (wmv HB.out)) : w.heap.size ≤ gb281)); have n3_ := Aside0.mk ((by rw [hg]; exact (below_size (wmv HB.out)) : w.heap.size ≤ gb281)); clear HB; revert n0_ n1_ n2_ n3_; intro HB BK281 GW281 GE281; clear hb hbox hg) | ((with_reducible refine gate_dst (N := 3) rfl ?_); refine box_event ?hg (N := 3) ?hd (cs := #[.slice A1_0 l1_0.length c1_0, .int .i64 a1_1, .slice A1_2 l1_2.length c1_2, .slice A1_3 l1_3.length c1_3, .slice A1_4 l1_4.length c1_4]) (t := 41) ?hr ?_; (case hd => rfl); (case hg => rfl); (case hr => first | (go_simp; done) | (go_simp; rfl)); intro gb282 hg w27 hbox hb; have n0_ := Aside0.mk (blk_below (bmv BK281.out) hb); have n1_ := Aside0.mk (below_step (wmv HB.out) hb); have n2_ := Aside0.mk (hbox); have n3_ := Aside0.mk ((by rw [hg]; exact (below_size (wmv HB.out)) : w.heap.size ≤ gb282)); have n4_ := Aside0.mk ((by rw [hg]; exact (below_size (wmv HB.out)) : w.heap.size ≤ gb282)); have n5_ := Aside0.mk ((by rw [hg]; exact Nat.ne_of_lt (blk_lt (bmv BK281.out)) : gb281 ≠ gb282)); have n6_ := Aside0.mk ((by rw [hg]; exact Nat.ne_of_gt (blk_lt (bmv BK281.out)) : gb282 ≠ gb281)); clear BK281 HB; revert n0_ n1_ n2_ n3_ n4_ n5_ n6_; intro BK281 HB BK282 GW282 GE282 NB281_282 NB282_281; clear hb hbox hg; have hnb28 := NB281_282.out; have hnc28 := NB282_281.out; have hcz29_0 : w27.cell? ⟨gb281, 0, none⟩ = some (.slice A0_0 l0_0.length c0_0) := (blk_cell BK281.out 0).trans rfl; have hcz29_1 : w27.cell? ⟨gb281, 1, none⟩ = some (.int .i64 a0_1) := (blk_cell BK281.out 1).trans rfl; have hcz29_2 : w27.cell? ⟨gb281, 2, none⟩ = some (.slice A0_2 l0_2.length c0_2) := (blk_cell BK281.out 2).trans rfl; have hcz29_3 : w27.cell? ⟨gb281, 3, none⟩ = some (.slice A0_3 l0_3.length c0_3) := (blk_cell BK281.out 3).trans rfl; have hcz29_4 : w27.cell? ⟨gb281, 4, none⟩ = some (.slice A0_4 l0_4.length c0_4) := (blk_cell BK281.out 4).trans rfl; have hfz29_0 := blk_frozen BK281.out 0; have hfz29_1 := blk_frozen BK281.out 1; have hfz29_2 := blk_frozen BK281.out 2; have hfz29_3 := blk_frozen BK281.out 3; have hfz29_4 := blk_frozen BK281.out 4; have hcz30_0 : w27.cell? ⟨gb282, 0, none⟩ = some (.slice A1_0 l1_0.length c1_0) := (blk_cell BK282.out 0).trans rfl; have hcz30_1 : w27.cell? ⟨gb282, 1, none⟩ = some (.int .i64 a1_1) := (blk_cell BK282.out 1).trans rfl; have hcz30_2 : w27.cell? ⟨gb282, 2, none⟩ = some (.slice A1_2 l1_2.length c1_2) := (blk_cell BK282.out 2).trans rfl; have hcz30_3 : w27.cell? ⟨gb282, 3, none⟩ = some (.slice A1_3 l1_3.length c1_3) := (blk_cell BK282.out 3).trans rfl; have hcz30_4 : w27.cell? ⟨gb282, 4, none⟩ = some (.slice A1_4 l1_4.length c1_4) := (blk_cell BK282.out 4).trans rfl; have hfz30_0 := blk_frozen BK282.out 0; have hfz30_1 := blk_frozen BK282.out 1; have hfz30_2 := blk_frozen BK282.out 2; have hfz30_3 := blk_frozen BK282.out 3; have hfz30_4 := blk_frozen BK282.out 4) | (go_at_call 45; (with_reducible refine (hypercuberef1_Ints.calls k _ _ l0_0 _ _ l1_0 false _ ?side1 ?side2 ?side3 ?side4 A4.out).mono ?_); (case side1 => exact Kd.Cw HR0_0.out HB.out); (case side2 => exact HC0_0.out); (case side3 => exact Kd.Cw HR1_0.out HB.out); (case side4 => exact HC1_0.out); rintro e w' ⟨rfl, ⟨nd, rfl⟩⟩))
   go_ret
   exact ⟨by first | rfl | (simp [errW_none, errW_some] <;> rfl) | (simp [*, errW_none, errW_some] <;> rfl), by repeat (first | (with_reducible first | exact HB.out | apply below_alloc | apply pw_below_drewN | apply below_drew1 | refine below_set ?_ GE281.out | refine below_set ?_ GE282.out) | exact HB.out)⟩
 ·rw [if_neg c3] at H
  have c3b0 : (a0_1 == a1_1) = false := beq_eq_false_iff_ne.mpr c3
  have c3b1 : (a0_1 != a1_1) = true := bne_iff_ne.mpr c3
  obtain rfl := Option.some.inj H
  go_enter Try.func36, Try.ntmps36
  go_wp2_with (first | ((with_reducible refine gate_dst (N := 2) rfl ?_); refine box_event ?hg (N := 2) ?hd (cs := #[.slice A0_0 l0_0.length c0_0, .int .i64 a0_1, .slice A0_2 l0_2.length c0_2, .slice A0_3 l0_3.length c0_3, .slice A0_4 l0_4.length c0_4]) (t := 41) ?hr ?_; (case hd => rfl); (case hg => rfl); (case hr => first | (go_simp; done) | (go_simp; rfl)); intro gb281 hg w31 hbox hb; have n0_ := Aside0.mk (below_step (wmv HB.out) hb); have n1_ := Aside0.mk (hbox); have n2_ := Aside0.mk ((by rw [hg]; exact (below_size (wmv HB.out)) : w.heap.size ≤ gb281)); have n3_ := Aside0.mk ((by rw [hg]; exact (below_size (wmv HB.out)) : w.heap.size ≤ gb281)); clear HB; revert n0_ n1_ n2_ n3_; intro HB BK281 GW281 GE281; clear hb hbox hg) | ((with_reducible refine gate_dst (N := 3) rfl ?_); refine box_event ?hg (N := 3) ?hd (cs := #[.slice A1_0 l1_0.length c1_0, .int .i64 a1_1, .slice A1_2 l1_2.length c1_2, .slice A1_3 l1_3.length c1_3, .slice A1_4 l1_4.length c1_4]) (t := 41) ?hr ?_; (case hd => rfl); (case hg => rfl); (case hr => first | (go_simp; done) | (go_simp; rfl)); intro gb282 hg w32 hbox hb; have n0_ := Aside0.mk (blk_below (bmv BK281.out) hb); have n1_ := Aside0.mk (below_step (wmv HB.out) hb); have n2_ := Aside0.mk (hbox); have n3_ := Aside0.mk ((by rw [hg]; exact (below_size (wmv HB.out)) : w.heap.size ≤ gb282)); have n4_ := Aside0.mk ((by rw [hg]; exact (below_size (wmv HB.out)) : w.heap.size ≤ gb282)); have n5_ := Aside0.mk ((by rw [hg]; exact Nat.ne_of_lt (blk_lt (bmv BK281.out)) : gb281 ≠ gb282)); have n6_ := Aside0.mk ((by rw [hg]; exact Nat.ne_of_gt (blk_lt (bmv BK281.out)) : gb282 ≠ gb281)); clear BK281 HB; revert n0_ n1_ n2_ n3_ n4_ n5_ n6_; intro BK281 HB BK282 GW282 GE282 NB281_282 NB282_281; clear hb hbox hg; have hnb33 := NB281_282.out; have hnc33 := NB282_281.out; have hcz34_0 : w32.cell? ⟨gb281, 0, none⟩ = some (.slice A0_0 l0_0.length c0_0) := (blk_cell BK281.out 0).trans rfl; have hcz34_1 : w32.cell? ⟨gb281, 1, none⟩ = some (.int .i64 a0_1) := (blk_cell BK281.out 1).trans rfl; have hcz34_2 : w32.cell? ⟨gb281, 2, none⟩ = some (.slice A0_2 l0_2.length c0_2) := (blk_cell BK281.out 2).trans rfl; have hcz34_3 : w32.cell? ⟨gb281, 3, none⟩ = some (.slice A0_3 l0_3.length c0_3) := (blk_cell BK281.out 3).trans rfl; have hcz34_4 : w32.cell? ⟨gb281, 4, none⟩ = some (.slice A0_4 l0_4.length c0_4) := (blk_cell BK281.out 4).trans rfl; have hfz34_0 := blk_frozen BK281.out 0; have hfz34_1 := blk_frozen BK281.out 1; have hfz34_2 := blk_frozen BK281.out 2; have hfz34_3 := blk_frozen BK281.out 3; have hfz34_4 := blk_frozen BK281.out 4; have hcz35_0 : w32.cell? ⟨gb282, 0, none⟩ = some (.slice A1_0 l1_0.length c1_0) := (blk_cell BK282.out 0).trans rfl; have hcz35_1 : w32.cell? ⟨gb282, 1, none⟩ = some (.int .i64 a1_1) := (blk_cell BK282.out 1).trans rfl; have hcz35_2 : w32.cell? ⟨gb282, 2, none⟩ = some (.slice A1_2 l1_2.length c1_2) := (blk_cell BK282.out 2).trans rfl; have hcz35_3 : w32.cell? ⟨gb282, 3, none⟩ = some (.slice A1_3 l1_3.length c1_3) := (blk_cell BK282.out 3).trans rfl; have hcz35_4 : w32.cell? ⟨gb282, 4, none⟩ = some (.slice A1_4 l1_4.length c1_4) := (blk_cell BK282.out 4).trans rfl; have hfz35_0 := blk_frozen BK282.out 0; have hfz35_1 := blk_frozen BK282.out 1; have hfz35_2 := blk_frozen BK282.out 2; have hfz35_3 := blk_frozen BK282.out 3; have hfz35_4 := blk_frozen BK282.out 4))
  go_ret
  exact ⟨by first | rfl | (simp [errW_none, errW_some] <;> rfl) | (simp [*, errW_none, errW_some] <;> rfl), by repeat (first | (with_reducible first | exact HB.out | apply below_alloc | apply pw_below_drewN | apply below_drew1 | refine below_set ?_ GE281.out | refine below_set ?_ GE282.out) | exact HB.out)⟩
def hypercuberef2_Same.l0 : Nat → List (S41) → List (S41) → Int → Option (Bool)
 | 0, _, _, _ => none
 | k + 1, x0, x1, x5 => if x5 < (x0.length : Int) then (if 0 ≤ x5 then (if x5 < (x1.length : Int) then ((hypercuberef2_Equal.f k ((rd_T41 x0 x5).f0) ((rd_T41 x0 x5).f1) ((rd_T41 x0 x5).f2) ((rd_T41 x0 x5).f3) ((rd_T41 x0 x5).f4) ((rd_T41 x1 x5).f0) ((rd_T41 x1 x5).f1) ((rd_T41 x1 x5).f2) ((rd_T41 x1 x5).f3) ((rd_T41 x1 x5).f4)).bind fun t289 => (if t289 = true then (hypercuberef2_Same.l0 k x0 x1 (wrap64 (x5 + 1))) else (some false))) else (none)) else (none)) else (some true)
def hypercuberef2_Same.f (k : Nat) (l0 : List (S41)) (l1 : List (S41)) : Option (Bool) := if (l0.length : Int) = (l1.length : Int) then (hypercuberef2_Same.l0 k l0 l1 0) else (some false)
def hypercuberef2_Same.T6 : Bool × List (List Nat × List Nat) := (true, [([], []), ([], []), ([0, 1], [0, 1]), ([2], [2]), ([], []), ([], []), ([4, 5], [4, 5]), ([6], [6]), ([3, 7], [3, 7]), ([8], [8])])
def hypercuberef2_Same.B6 : List Nat := [0, 0, 3, 7, 0, 0, 48, 112, 255, 511]
theorem hypercuberef2_Same.tab6 : rtab .any (opsOf Try.f22 6) = hypercuberef2_Same.T6 := by kernel_rfl
theorem hypercuberef2_Same.bits6 : waitsOk hypercuberef2_Same.T6.2 hypercuberef2_Same.B6 = true := by kernel_rfl
set_option maxHeartbeats 8000000 in
set_option maxRecDepth 100000 in
theorem hypercuberef2_Same.calls (k : Nat) (A0 : Option Addr) (c0 : Nat) (l0 : List (S41)) (A1 : Option Addr) (c1 : Nat) (l1 : List (S41)) (r : Bool) (w : World) (hr0 : Kd.C k41 w A0 l0.length l0) (hc0 : l0.length ≤ c0) (hr1 : Kd.C k41 w A1 l1.length l1) (hc1 : l1.length ≤ c1) (h : hypercuberef2_Same.f k l0 l1 = some r) :
  Calls Try.prog 22 #[.slice A0 l0.length c0, .slice A1 l1.length c1] w fun e w' => e = .returned (.bool r) ∧ Below w.heap.size w w' := by
 have hu41 := Try.underlying41
 have HR0 := Aside0.mk hr0
 have HC0 := Aside0.mk hc0
 clear hr0 hc0
 have HR1 := Aside0.mk hr1
 have HC1 := Aside0.mk hc1
 clear hr1 hc1
 have HB := Aside0.mk (Below.refl w.heap.size w)
 have H : (if (l0.length : Int) = (l1.length : Int) then (hypercuberef2_Same.l0 k l0 l1 0) else (some false)) = some r := h
 clear h
 by_cases c3 : (l0.length : Int) = (l1.length : Int)
 ·rw [if_pos c3] at H
  have c3b0 : ((l0.length : Int) == (l1.length : Int)) = true := beq_iff_eq.mpr c3
  have c3b1 : ((l0.length : Int) != (l1.length : Int)) = false := bne_eq_false_iff_eq.mpr c3
  have c3b2 : (l0.length == l1.length) = true := by first | simpa using c3 | (simp at c3 ⊢; omega)
  clear c3
  have H' := Aside0.mk H
  clear H
  go_enter Try.func22, Try.ntmps22
  go_wp2
  go_loopg [5] k (fun kq v5 w' => ∃ (x5_1 : Int), v5 = .int .i64 x5_1 ∧ Aside0 (hypercuberef2_Same.l0 kq l0 l1 x5_1 = some r) ∧ Aside0 (kq ≤ k) ∧ Aside0 (Below w.heap.size w w'))
  case atStart => exact ⟨(0), (by first | rfl | (simp; done) | (simp [*]; done)), H', ⟨Nat.le_refl _⟩, ⟨by repeat (first | (with_reducible first | exact HB.out | apply below_alloc | apply pw_below_drewN | apply below_drew1) | exact HB.out)⟩⟩
  case round =>
   clear H'
   try clear c1
   try clear c2
   try clear p2
   try clear c3
   try clear c3b0
   try clear c3b1
   try clear c3b2
   obtain ⟨x5_1, rfl, HA, HK1, HB⟩ := hrel
   cases gk with
   | zero => exact absurd HA.out (by simp [hypercuberef2_Same.l0])
   | succ k1 =>
    have H := HA.out
    clear HA
    simp only [hypercuberef2_Same.l0] at H
    by_cases c4 : x5_1 < (l0.length : Int)
    ·rw [if_pos c4] at H
     have c4b0 : decide (x5_1 < (l0.length : Int)) = true := decide_eq_true c4
     clear c4
     by_cases c5 : 0 ≤ x5_1
     ·rw [if_pos c5] at H
      have c5b0 : decide (0 ≤ x5_1) = true := decide_eq_true c5
      clear c5
      by_cases c6 : x5_1 < (l1.length : Int)
      ·rw [if_pos c6] at H
       have c6b0 : decide (x5_1 < (l1.length : Int)) = true := decide_eq_true c6
       clear c6
       replace H := Option.bind_eq_some_iff.mp H
       obtain ⟨t289, A70, H⟩ := H
       replace H : (if t289 = true then (hypercuberef2_Same.l0 k1 l0 l1 (wrap64 (x5_1 + 1))) else (some false)) = some r := H
       have A7 := Aside0.mk A70
       clear A70
       by_cases c8 : t289 = true
       ·subst c8
        have H1 : (hypercuberef2_Same.l0 k1 l0 l1 (wrap64 (x5_1 + 1))) = some r := by rw [if_pos rfl] at H; exact H
        clear H
        have H := H1
        clear H1
        have H' := Aside0.mk H
        clear H
        try go_wp2
        have n0_ := Aside0.mk (below_drew1 HB.out)
        clear HB
        revert n0_
        intro HB
        have p287 : 0 ≤ (x5_1 : Int) := of_decide_eq_true (by first | (with_reducible assumption) | assumption)
        have q287 : x5_1 < (l0.length : Int) := of_decide_eq_true (by first | (with_reducible assumption) | assumption)
        obtain ⟨ad287, A287_0, c287_0, A287_2, c287_2, A287_3, c287_3, A287_4, c287_4, e287, hx287_0, hx287_1, hx287_2, hx287_3, hx287_4, hl287_0, hi287_0, hl287_2, hi287_2, hl287_3, hi287_3, hl287_4, hi287_4⟩ := at_T41 HR0.out x5_1 p287 q287
        have hw287_4 := hx287_4
        have hw287_3 := hx287_3
        have hw287_2 := hx287_2
        have hw287_1 := hx287_1
        have hw287_0 := hx287_0
        cases e287
        replace hx287_0 := (HB.out.cell (World.block_lt_of_cell? w _ hx287_0)).trans hx287_0
        replace hx287_1 := (HB.out.cell (World.block_lt_of_cell? w _ hx287_1)).trans hx287_1
        replace hx287_2 := (HB.out.cell (World.block_lt_of_cell? w _ hx287_2)).trans hx287_2
        replace hx287_3 := (HB.out.cell (World.block_lt_of_cell? w _ hx287_3)).trans hx287_3
        replace hx287_4 := (HB.out.cell (World.block_lt_of_cell? w _ hx287_4)).trans hx287_4
        have HR287_0 := Aside0.mk hi287_0
        have HC287_0 := Aside0.mk hl287_0
        clear hi287_0 hl287_0
        have HR287_2 := Aside0.mk hi287_2
        have HC287_2 := Aside0.mk hl287_2
        clear hi287_2 hl287_2
        have HR287_3 := Aside0.mk hi287_3
        have HC287_3 := Aside0.mk hl287_3
        clear hi287_3 hl287_3
        have HR287_4 := Aside0.mk hi287_4
        have HC287_4 := Aside0.mk hl287_4
        clear hi287_4 hl287_4
        replace p287 := eq_true p287
        replace q287 := eq_true q287
        have p288 : 0 ≤ (x5_1 : Int) := of_decide_eq_true (by first | (with_reducible assumption) | assumption)
        have q288 : x5_1 < (l1.length : Int) := of_decide_eq_true (by first | (with_reducible assumption) | assumption)
        obtain ⟨ad288, A288_0, c288_0, A288_2, c288_2, A288_3, c288_3, A288_4, c288_4, e288, hx288_0, hx288_1, hx288_2, hx288_3, hx288_4, hl288_0, hi288_0, hl288_2, hi288_2, hl288_3, hi288_3, hl288_4, hi288_4⟩ := at_T41 HR1.out x5_1 p288 q288
        have hw288_4 := hx288_4
        have hw288_3 := hx288_3
        have hw288_2 := hx288_2
        have hw288_1 := hx288_1
        have hw288_0 := hx288_0
        cases e288
        replace hx288_0 := (HB.out.cell (World.block_lt_of_cell? w _ hx288_0)).trans hx288_0
        replace hx288_1 := (HB.out.cell (World.block_lt_of_cell? w _ hx288_1)).trans hx288_1
        replace hx288_2 := (HB.out.cell (World.block_lt_of_cell? w _ hx288_2)).trans hx288_2
        replace hx288_3 := (HB.out.cell (World.block_lt_of_cell? w _ hx288_3)).trans hx288_3
        replace hx288_4 := (HB.out.cell (World.block_lt_of_cell? w _ hx288_4)).trans hx288_4
        have HR288_0 := Aside0.mk hi288_0
        have HC288_0 := Aside0.mk hl288_0
        clear hi288_0 hl288_0
        have HR288_2 := Aside0.mk hi288_2
        have HC288_2 := Aside0.mk hl288_2
        clear hi288_2 hl288_2
        have HR288_3 := Aside0.mk hi288_3
        have HC288_3 := Aside0.mk hl288_3
        clear hi288_3 hl288_3
        have HR288_4 := Aside0.mk hi288_4
        have HC288_4 := Aside0.mk hl288_4
        clear hi288_4 hl288_4
        replace p288 := eq_true p288
        replace q288 := eq_true q288
        refine start_ (n := 10) (S := fun w' => w'.cell? (ad287.add ((x5_1).toNat * 5)) = some (.slice A287_0 ((rd_T41 l0 x5_1).f0).length c287_0) ∧ w'.cell? ⟨(ad287.add ((x5_1).toNat * 5)).block, (ad287.add ((x5_1).toNat * 5)).off + 1, none⟩ = some (.int .i64 ((rd_T41 l0 x5_1).f1)) ∧ w'.cell? ⟨(ad287.add ((x5_1).toNat * 5)).block, (ad287.add ((x5_1).toNat * 5)).off + 2, none⟩ = some (.slice A287_2 ((rd_T41 l0 x5_1).f2).length c287_2) ∧ w'.cell? ⟨(ad287.add ((x5_1).toNat * 5)).block, (ad287.add ((x5_1).toNat * 5)).off + 3, none⟩ = some (.slice A287_3 ((rd_T41 l0 x5_1).f3).length c287_3) ∧ w'.cell? ⟨(ad287.add ((x5_1).toNat * 5)).block, (ad287.add ((x5_1).toNat * 5)).off + 4, none⟩ = some (.slice A287_4 ((rd_T41 l0 x5_1).f4).length c287_4) ∧ w'.cell? (ad288.add ((x5_1).toNat * 5)) = some (.slice A288_0 ((rd_T41 l1 x5_1).f0).length c288_0) ∧ w'.cell? ⟨(ad288.add ((x5_1).toNat * 5)).block, (ad288.add ((x5_1).toNat * 5)).off + 1, none⟩ = some (.int .i64 ((rd_T41 l1 x5_1).f1)) ∧ w'.cell? ⟨(ad288.add ((x5_1).toNat * 5)).block, (ad288.add ((x5_1).toNat * 5)).off + 2, none⟩ = some (.slice A288_2 ((rd_T41 l1 x5_1).f2).length c288_2) ∧ w'.cell? ⟨(ad288.add ((x5_1).toNat * 5)).block, (ad288.add ((x5_1).toNat * 5)).off + 3, none⟩ = some (.slice A288_3 ((rd_T41 l1 x5_1).f3).length c288_3) ∧ w'.cell? ⟨(ad288.add ((x5_1).toNat * 5)).block, (ad288.add ((x5_1).toNat * 5)).off + 4, none⟩ = some (.slice A288_4 ((rd_T41 l1 x5_1).f4).length c288_4)) (ds := []) #[false, false, false, false, false, false, false, false, false, false] (by kernel_rfl) rfl rfl ⟨((HB.out.cell (World.block_lt_of_cell? w _ hw287_0)).trans hw287_0), ((HB.out.cell (World.block_lt_of_cell? w _ hw287_1)).trans hw287_1), ((HB.out.cell (World.block_lt_of_cell? w _ hw287_2)).trans hw287_2), ((HB.out.cell (World.block_lt_of_cell? w _ hw287_3)).trans hw287_3), ((HB.out.cell (World.block_lt_of_cell? w _ hw287_4)).trans hw287_4), ((HB.out.cell (World.block_lt_of_cell? w _ hw288_0)).trans hw288_0), ((HB.out.cell (World.block_lt_of_cell? w _ hw288_1)).trans hw288_1), ((HB.out.cell (World.block_lt_of_cell? w _ hw288_2)).trans hw288_2), ((HB.out.cell (World.block_lt_of_cell? w _ hw288_3)).trans hw288_3), ((HB.out.cell (World.block_lt_of_cell? w _ hw288_4)).trans hw288_4)⟩ (fun hHeld => ?_); refine with_tabW hypercuberef2_Same.tab6 hypercuberef2_Same.bits6 (fun HT_ HW_ => ?_)
        generalize wr.drew = w9 at HB HR287_0 HR287_2 HR287_3 HR287_4 HR288_0 HR288_2 HR288_3 HR288_4 hx287_0 hx287_1 hx287_2 hx287_3 hx287_4 hx288_0 hx288_1 hx288_2 hx288_3 hx288_4 hHeld ⊢
        refine pure_ (i := 0) (N := some 17) (v := ?_) (a' := ?_) #[true, false, false, false, false, false, false, false, false, false] rfl rfl (any_of HT_.out (by kernel_rfl)) (fun _ _ _ h => h) (Or.inl ⟨by rfl, ?_⟩) ?_ ?_
        rotate_left
        ·intro w'
         go_simp
         with_reducible rfl
        rotate_left
        ·simp only [ps]
         rfl
        refine pure_ (i := 1) (N := some 18) (v := ?_) (a' := ?_) #[true, true, false, false, false, false, false, false, false, false] rfl rfl (any_of HT_.out (by kernel_rfl)) (fun _ _ _ h => h) (Or.inl ⟨by rfl, ?_⟩) ?_ ?_
        rotate_left
        ·intro w'
         go_simp
         with_reducible rfl
        rotate_left
        ·simp only [ps]
         rfl
        refine pure_ (i := 2) (N := some 19) (v := ?_) (a' := ?_) #[true, true, true, false, false, false, false, false, false, false] rfl rfl (any_of HT_.out (by kernel_rfl)) (fun _ _ _ h => h) (Or.inl ⟨by rfl, ?_⟩) ?_ ?_
        rotate_left
        ·intro w'
         go_simp
         with_reducible rfl
        rotate_left
        ·simp only [ps]
         rfl
        refine pure_ (i := 4) (N := some 21) (v := ?_) (a' := ?_) #[true, true, true, false, true, false, false, false, false, false] rfl rfl (any_of HT_.out (by kernel_rfl)) (fun _ _ _ h => h) (Or.inl ⟨by rfl, ?_⟩) ?_ ?_
        rotate_left
        ·intro w'
         go_simp
         with_reducible rfl
        rotate_left
        ·simp only [ps]
         rfl
        refine pure_ (i := 5) (N := some 22) (v := ?_) (a' := ?_) #[true, true, true, false, true, true, false, false, false, false] rfl rfl (any_of HT_.out (by kernel_rfl)) (fun _ _ _ h => h) (Or.inl ⟨by rfl, ?_⟩) ?_ ?_
        rotate_left
        ·intro w'
         go_simp
         with_reducible rfl
        rotate_left
        ·simp only [ps]
         rfl
        refine pure_ (i := 6) (N := some 23) (v := ?_) (a' := ?_) #[true, true, true, false, true, true, true, false, false, false] rfl rfl (any_of HT_.out (by kernel_rfl)) (fun _ _ _ h => h) (Or.inl ⟨by rfl, ?_⟩) ?_ ?_
        rotate_left
        ·intro w'
         go_simp
         with_reducible rfl
        rotate_left
        ·simp only [ps]
         rfl
        refine take_ (i := 3) (N := some 20) (v := ?_) (a' := ?_) #[true, true, true, true, true, true, true, false, false, false] rfl rfl (take_ofW HT_.out HW_.out (by kernel_rfl)) (fun _ _ _ h => h) (Or.inl ⟨by rfl, ?_⟩) hHeld ?_ ?_
        rotate_left
        ·rintro w' ⟨s0, s1, s2, s3, s4, s5, s6, s7, s8, s9⟩
         go_simp
         with_reducible rfl
        rotate_left
        ·simp only [ps]
         rfl
        refine take_ (i := 7) (N := some 24) (v := ?_) (a' := ?_) #[true, true, true, true, true, true, true, true, false, false] rfl rfl (take_ofW HT_.out HW_.out (by kernel_rfl)) (fun _ _ _ h => h) (Or.inl ⟨by rfl, ?_⟩) hHeld ?_ ?_
        rotate_left
        ·rintro w' ⟨s0, s1, s2, s3, s4, s5, s6, s7, s8, s9⟩
         go_simp
         with_reducible rfl
        rotate_left
        ·simp only [ps]
         rfl
        refine one_ (i := 8) (N := some 25) #[true, true, true, true, true, true, true, true, true, false] rfl rfl (one_of HT_.out (by kernel_rfl)) (by decide) (fun K hK => ?_)
        refine goes_ Try.func36 (by kernel_rfl) rfl #[.agg #[.slice A287_0 ((rd_T41 l0 x5_1).f0).length c287_0, .int .i64 ((rd_T41 l0 x5_1).f1), .slice A287_2 ((rd_T41 l0 x5_1).f2).length c287_2, .slice A287_3 ((rd_T41 l0 x5_1).f3).length c287_3, .slice A287_4 ((rd_T41 l0 x5_1).f4).length c287_4], .agg #[.slice A288_0 ((rd_T41 l1 x5_1).f0).length c288_0, .int .i64 ((rd_T41 l1 x5_1).f1), .slice A288_2 ((rd_T41 l1 x5_1).f2).length c288_2, .slice A288_3 ((rd_T41 l1 x5_1).f3).length c288_3, .slice A288_4 ((rd_T41 l1 x5_1).f4).length c288_4]] (by rfl) rfl rfl (by (try simp only [List.map_toArray, List.map_cons, List.map_nil]); first | done | rfl | (simp only [List.length_drop, List.length_take]; rfl)) ?_
        with_reducible refine (hypercuberef2_Equal.calls k1 _ _ ((rd_T41 l0 x5_1).f0) ((rd_T41 l0 x5_1).f1) _ _ ((rd_T41 l0 x5_1).f2) _ _ ((rd_T41 l0 x5_1).f3) _ _ ((rd_T41 l0 x5_1).f4) _ _ ((rd_T41 l1 x5_1).f0) ((rd_T41 l1 x5_1).f1) _ _ ((rd_T41 l1 x5_1).f2) _ _ ((rd_T41 l1 x5_1).f3) _ _ ((rd_T41 l1 x5_1).f4) true _ ?side1 ?side2 ?side3 ?side4 ?side5 ?side6 ?side7 ?side8 ?side9 ?side10 ?side11 ?side12 ?side13 ?side14 ?side15 ?side16 A7.out).mono ?_
        (case side1 => exact Kd.Cw HR287_0.out HB.out)
        (case side2 => exact HC287_0.out)
        (case side3 => exact Kd.Cw HR287_2.out HB.out)
        (case side4 => exact HC287_2.out)
        (case side5 => exact Kd.Cw HR287_3.out HB.out)
        (case side6 => exact HC287_3.out)
        (case side7 => exact Kd.Cw HR287_4.out HB.out)
        (case side8 => exact HC287_4.out)
        (case side9 => exact Kd.Cw HR288_0.out HB.out)
        (case side10 => exact HC288_0.out)
        (case side11 => exact Kd.Cw HR288_2.out HB.out)
        (case side12 => exact HC288_2.out)
        (case side13 => exact Kd.Cw HR288_3.out HB.out)
        (case side14 => exact HC288_3.out)
        (case side15 => exact Kd.Cw HR288_4.out HB.out)
        (case side16 => exact HC288_4.out)
        rintro e w10 ⟨rfl, hb⟩
        refine ⟨_, rfl, ?_⟩
        have n0_ := Aside0.mk (below_step (wmv HB.out) hb)
        clear HB
        revert n0_
        intro HB
        (try clear hb)
        (try clear hb2)
        (try clear hk)
        (try clear hi)
        refine hK.out _ _ ⟨((HB.out.cell (World.block_lt_of_cell? w _ hw287_0)).trans hw287_0), ((HB.out.cell (World.block_lt_of_cell? w _ hw287_1)).trans hw287_1), ((HB.out.cell (World.block_lt_of_cell? w _ hw287_2)).trans hw287_2), ((HB.out.cell (World.block_lt_of_cell? w _ hw287_3)).trans hw287_3), ((HB.out.cell (World.block_lt_of_cell? w _ hw287_4)).trans hw287_4), ((HB.out.cell (World.block_lt_of_cell? w _ hw288_0)).trans hw288_0), ((HB.out.cell (World.block_lt_of_cell? w _ hw288_1)).trans hw288_1), ((HB.out.cell (World.block_lt_of_cell? w _ hw288_2)).trans hw288_2), ((HB.out.cell (World.block_lt_of_cell? w _ hw288_3)).trans hw288_3), ((HB.out.cell (World.block_lt_of_cell? w _ hw288_4)).trans hw288_4)⟩ (fun hHeld => ?_)
        clear hK K
        refine norm_ (a' := ?_) ?_ ?_
        rotate_left
        ·show Act.put _ (some 25) _ = _
         simp only [ps]
         rfl
        refine pure_ (i := 9) (N := some 26) (v := ?_) (a' := ?_) #[true, true, true, true, true, true, true, true, true, true] rfl rfl (any_of HT_.out (by kernel_rfl)) (fun _ _ _ h => h) (Or.inl ⟨by rfl, ?_⟩) ?_ ?_
        rotate_left
        ·intro w'
         go_simp
         with_reducible rfl
        rotate_left
        ·simp only [ps]
         rfl
        refine done_ (done_of HT_.out (by kernel_rfl)) ?_
        try go_wp2
        go_roundg k1
        case measure => have := HK1.out; omega
        case rel => exact ⟨(wrap64 (x5_1 + 1)), (by first | rfl | (simp; done) | (simp [*]; done)), H', ⟨by have := HK1.out; omega⟩, ⟨by repeat (first | (with_reducible first | exact HB.out | apply below_alloc | apply pw_below_drewN | apply below_drew1) | exact HB.out)⟩⟩
       ·replace c8 := Bool.eq_false_iff.mpr c8
        subst c8
        have H1 : (some false) = some r := by rw [if_neg (show ¬ (false = true) by decide)] at H; exact H
        clear H
        have H := H1
        clear H1
        obtain rfl := Option.some.inj H
        try go_wp2
        have n0_ := Aside0.mk (below_drew1 HB.out)
        clear HB
        revert n0_
        intro HB
        have p287 : 0 ≤ (x5_1 : Int) := of_decide_eq_true (by first | (with_reducible assumption) | assumption)
        have q287 : x5_1 < (l0.length : Int) := of_decide_eq_true (by first | (with_reducible assumption) | assumption)
        obtain ⟨ad287, A287_0, c287_0, A287_2, c287_2, A287_3, c287_3, A287_4, c287_4, e287, hx287_0, hx287_1, hx287_2, hx287_3, hx287_4, hl287_0, hi287_0, hl287_2, hi287_2, hl287_3, hi287_3, hl287_4, hi287_4⟩ := at_T41 HR0.out x5_1 p287 q287
        have hw287_4 := hx287_4
        have hw287_3 := hx287_3
        have hw287_2 := hx287_2
        have hw287_1 := hx287_1
        have hw287_0 := hx287_0
        cases e287
        replace hx287_0 := (HB.out.cell (World.block_lt_of_cell? w _ hx287_0)).trans hx287_0
        replace hx287_1 := (HB.out.cell (World.block_lt_of_cell? w _ hx287_1)).trans hx287_1
        replace hx287_2 := (HB.out.cell (World.block_lt_of_cell? w _ hx287_2)).trans hx287_2
        replace hx287_3 := (HB.out.cell (World.block_lt_of_cell? w _ hx287_3)).trans hx287_3
        replace hx287_4 := (HB.out.cell (World.block_lt_of_cell? w _ hx287_4)).trans hx287_4
        have HR287_0 := Aside0.mk hi287_0
        have HC287_0 := Aside0.mk hl287_0
        clear hi287_0 hl287_0
        have HR287_2 := Aside0.mk hi287_2
        have HC287_2 := Aside0.mk hl287_2
        clear hi287_2 hl287_2
        have HR287_3 := Aside0.mk hi287_3
        have HC287_3 := Aside0.mk hl287_3
        clear hi287_3 hl287_3
        have HR287_4 := Aside0.mk hi287_4
        have HC287_4 := Aside0.mk hl287_4
        clear hi287_4 hl287_4
        replace p287 := eq_true p287
        replace q287 := eq_true q287
        have p288 : 0 ≤ (x5_1 : Int) := of_decide_eq_true (by first | (with_reducible assumption) | assumption)
        have q288 : x5_1 < (l1.length : Int) := of_decide_eq_true (by first | (with_reducible assumption) | assumption)
        obtain ⟨ad288, A288_0, c288_0, A288_2, c288_2, A288_3, c288_3, A288_4, c288_4, e288, hx288_0, hx288_1, hx288_2, hx288_3, hx288_4, hl288_0, hi288_0, hl288_2, hi288_2, hl288_3, hi288_3, hl288_4, hi288_4⟩ := at_T41 HR1.out x5_1 p288 q288
        have hw288_4 := hx288_4
        have hw288_3 := hx288_3
        have hw288_2 := hx288_2
        have hw288_1 := hx288_1
        have hw288_0 := hx288_0
        cases e288
        replace hx288_0 := (HB.out.cell (World.block_lt_of_cell? w _ hx288_0)).trans hx288_0
        replace hx288_1 := (HB.out.cell (World.block_lt_of_cell? w _ hx288_1)).trans hx288_1
        replace hx288_2 := (HB.out.cell (World.block_lt_of_cell? w _ hx288_2)).trans hx288_2
        replace hx288_3 := (HB.out.cell (World.block_lt_of_cell? w _ hx288_3)).trans hx288_3
        replace hx288_4 := (HB.out.cell (World.block_lt_of_cell? w _ hx288_4)).trans hx288_4
        have HR288_0 := Aside0.mk hi288_0
        have HC288_0 := Aside0.mk hl288_0
        clear hi288_0 hl288_0
        have HR288_2 := Aside0.mk hi288_2
        have HC288_2 := Aside0.mk hl288_2
        clear hi288_2 hl288_2
        have HR288_3 := Aside0.mk hi288_3
        have HC288_3 := Aside0.mk hl288_3
        clear hi288_3 hl288_3
        have HR288_4 := Aside0.mk hi288_4
        have HC288_4 := Aside0.mk hl288_4
        clear hi288_4 hl288_4
        replace p288 := eq_true p288
        replace q288 := eq_true q288
        refine start_ (n := 10) (S := fun w' => w'.cell? (ad287.add ((x5_1).toNat * 5)) = some (.slice A287_0 ((rd_T41 l0 x5_1).f0).length c287_0) ∧ w'.cell? ⟨(ad287.add ((x5_1).toNat * 5)).block, (ad287.add ((x5_1).toNat * 5)).off + 1, none⟩ = some (.int .i64 ((rd_T41 l0 x5_1).f1)) ∧ w'.cell? ⟨(ad287.add ((x5_1).toNat * 5)).block, (ad287.add ((x5_1).toNat * 5)).off + 2, none⟩ = some (.slice A287_2 ((rd_T41 l0 x5_1).f2).length c287_2) ∧ w'.cell? ⟨(ad287.add ((x5_1).toNat * 5)).block, (ad287.add ((x5_1).toNat * 5)).off + 3, none⟩ = some (.slice A287_3 ((rd_T41 l0 x5_1).f3).length c287_3) ∧ w'.cell? ⟨(ad287.add ((x5_1).toNat * 5)).block, (ad287.add ((x5_1).toNat * 5)).off + 4, none⟩ = some (.slice A287_4 ((rd_T41 l0 x5_1).f4).length c287_4) ∧ w'.cell? (ad288.add ((x5_1).toNat * 5)) = some (.slice A288_0 ((rd_T41 l1 x5_1).f0).length c288_0) ∧ w'.cell? ⟨(ad288.add ((x5_1).toNat * 5)).block, (ad288.add ((x5_1).toNat * 5)).off + 1, none⟩ = some (.int .i64 ((rd_T41 l1 x5_1).f1)) ∧ w'.cell? ⟨(ad288.add ((x5_1).toNat * 5)).block, (ad288.add ((x5_1).toNat * 5)).off + 2, none⟩ = some (.slice A288_2 ((rd_T41 l1 x5_1).f2).length c288_2) ∧ w'.cell? ⟨(ad288.add ((x5_1).toNat * 5)).block, (ad288.add ((x5_1).toNat * 5)).off + 3, none⟩ = some (.slice A288_3 ((rd_T41 l1 x5_1).f3).length c288_3) ∧ w'.cell? ⟨(ad288.add ((x5_1).toNat * 5)).block, (ad288.add ((x5_1).toNat * 5)).off + 4, none⟩ = some (.slice A288_4 ((rd_T41 l1 x5_1).f4).length c288_4)) (ds := []) #[false, false, false, false, false, false, false, false, false, false] (by kernel_rfl) rfl rfl ⟨((HB.out.cell (World.block_lt_of_cell? w _ hw287_0)).trans hw287_0), ((HB.out.cell (World.block_lt_of_cell? w _ hw287_1)).trans hw287_1), ((HB.out.cell (World.block_lt_of_cell? w _ hw287_2)).trans hw287_2), ((HB.out.cell (World.block_lt_of_cell? w _ hw287_3)).trans hw287_3), ((HB.out.cell (World.block_lt_of_cell? w _ hw287_4)).trans hw287_4), ((HB.out.cell (World.block_lt_of_cell? w _ hw288_0)).trans hw288_0), ((HB.out.cell (World.block_lt_of_cell? w _ hw288_1)).trans hw288_1), ((HB.out.cell (World.block_lt_of_cell? w _ hw288_2)).trans hw288_2), ((HB.out.cell (World.block_lt_of_cell? w _ hw288_3)).trans hw288_3), ((HB.out.cell (World.block_lt_of_cell? w _ hw288_4)).trans hw288_4)⟩ (fun hHeld => ?_); refine with_tabW hypercuberef2_Same.tab6 hypercuberef2_Same.bits6 (fun HT_ HW_ => ?_)
        generalize wr.drew = w11 at HB HR287_0 HR287_2 HR287_3 HR287_4 HR288_0 HR288_2 HR288_3 HR288_4 hx287_0 hx287_1 hx287_2 hx287_3 hx287_4 hx288_0 hx288_1 hx288_2 hx288_3 hx288_4 hHeld ⊢
        refine pure_ (i := 0) (N := some 17) (v := ?_) (a' := ?_) #[true, false, false, false, false, false, false, false, false, false] rfl rfl (any_of HT_.out (by kernel_rfl)) (fun _ _ _ h => h) (Or.inl ⟨by rfl, ?_⟩) ?_ ?_
        rotate_left
        ·intro w'
         go_simp
         with_reducible rfl
        rotate_left
        ·simp only [ps]
         rfl
        refine pure_ (i := 1) (N := some 18) (v := ?_) (a' := ?_) #[true, true, false, false, false, false, false, false, false, false] rfl rfl (any_of HT_.out (by kernel_rfl)) (fun _ _ _ h => h) (Or.inl ⟨by rfl, ?_⟩) ?_ ?_
        rotate_left
        ·intro w'
         go_simp
         with_reducible rfl
        rotate_left
        ·simp only [ps]
         rfl
        refine pure_ (i := 2) (N := some 19) (v := ?_) (a' := ?_) #[true, true, true, false, false, false, false, false, false, false] rfl rfl (any_of HT_.out (by kernel_rfl)) (fun _ _ _ h => h) (Or.inl ⟨by rfl, ?_⟩) ?_ ?_
        rotate_left
        ·intro w'
         go_simp
         with_reducible rfl
        rotate_left
        ·simp only [ps]
         rfl
        refine pure_ (i := 4) (N := some 21) (v := ?_) (a' := ?_) #[true, true, true, false, true, false, false, false, false, false] rfl rfl (any_of HT_.out (by kernel_rfl)) (fun _ _ _ h => h) (Or.inl ⟨by rfl, ?_⟩) ?_ ?_
        rotate_left
        ·intro w'
         go_simp
         with_reducible rfl
        rotate_left
        ·simp only [ps]
         rfl
        refine pure_ (i := 5) (N := some 22) (v := ?_) (a' := ?_) #[true, true, true, false, true, true, false, false, false, false] rfl rfl (any_of HT_.out (by kernel_rfl)) (fun _ _ _ h => h) (Or.inl ⟨by rfl, ?_⟩) ?_ ?_
        rotate_left
        ·intro w'
         go_simp
         with_reducible rfl
        rotate_left
        ·simp only [ps]
         rfl
        refine pure_ (i := 6) (N := some 23) (v := ?_) (a' := ?_) #[true, true, true, false, true, true, true, false, false, false] rfl rfl (any_of HT_.out (by kernel_rfl)) (fun _ _ _ h => h) (Or.inl ⟨by rfl, ?_⟩) ?_ ?_
        rotate_left
        ·intro w'
         go_simp
         with_reducible rfl
        rotate_left
        ·simp only [ps]
         rfl
        refine take_ (i := 3) (N := some 20) (v := ?_) (a' := ?_) #[true, true, true, true, true, true, true, false, false, false] rfl rfl (take_ofW HT_.out HW_.out (by kernel_rfl)) (fun _ _ _ h => h) (Or.inl ⟨by rfl, ?_⟩) hHeld ?_ ?_
        rotate_left
        ·rintro w' ⟨s0, s1, s2, s3, s4, s5, s6, s7, s8, s9⟩
         go_simp
         with_reducible rfl
        rotate_left
        ·simp only [ps]
         rfl
        refine take_ (i := 7) (N := some 24) (v := ?_) (a' := ?_) #[true, true, true, true, true, true, true, true, false, false] rfl rfl (take_ofW HT_.out HW_.out (by kernel_rfl)) (fun _ _ _ h => h) (Or.inl ⟨by rfl, ?_⟩) hHeld ?_ ?_
        rotate_left
        ·rintro w' ⟨s0, s1, s2, s3, s4, s5, s6, s7, s8, s9⟩
         go_simp
         with_reducible rfl
        rotate_left
        ·simp only [ps]
         rfl
        refine one_ (i := 8) (N := some 25) #[true, true, true, true, true, true, true, true, true, false] rfl rfl (one_of HT_.out (by kernel_rfl)) (by decide) (fun K hK => ?_)
        refine goes_ Try.func36 (by kernel_rfl) rfl #[.agg #[.slice A287_0 ((rd_T41 l0 x5_1).f0).length c287_0, .int .i64 ((rd_T41 l0 x5_1).f1), .slice A287_2 ((rd_T41 l0 x5_1).f2).length c287_2, .slice A287_3 ((rd_T41 l0 x5_1).f3).length c287_3, .slice A287_4 ((rd_T41 l0 x5_1).f4).length c287_4], .agg #[.slice A288_0 ((rd_T41 l1 x5_1).f0).length c288_0, .int .i64 ((rd_T41 l1 x5_1).f1), .slice A288_2 ((rd_T41 l1 x5_1).f2).length c288_2, .slice A288_3 ((rd_T41 l1 x5_1).f3).length c288_3, .slice A288_4 ((rd_T41 l1 x5_1).f4).length c288_4]] (by rfl) rfl rfl (by (try simp only [List.map_toArray, List.map_cons, List.map_nil]); first | done | rfl | (simp only [List.length_drop, List.length_take]; rfl)) ?_
        with_reducible refine (hypercuberef2_Equal.calls k1 _ _ ((rd_T41 l0 x5_1).f0) ((rd_T41 l0 x5_1).f1) _ _ ((rd_T41 l0 x5_1).f2) _ _ ((rd_T41 l0 x5_1).f3) _ _ ((rd_T41 l0 x5_1).f4) _ _ ((rd_T41 l1 x5_1).f0) ((rd_T41 l1 x5_1).f1) _ _ ((rd_T41 l1 x5_1).f2) _ _ ((rd_T41 l1 x5_1).f3) _ _ ((rd_T41 l1 x5_1).f4) false _ ?side1 ?side2 ?side3 ?side4 ?side5 ?side6 ?side7 ?side8 ?side9 ?side10 ?side11 ?side12 ?side13 ?side14 ?side15 ?side16 A7.out).mono ?_
        (case side1 => exact Kd.Cw HR287_0.out HB.out)
        (case side2 => exact HC287_0.out)
        (case side3 => exact Kd.Cw HR287_2.out HB.out)
        (case side4 => exact HC287_2.out)
        (case side5 => exact Kd.Cw HR287_3.out HB.out)
        (case side6 => exact HC287_3.out)
        (case side7 => exact Kd.Cw HR287_4.out HB.out)
        (case side8 => exact HC287_4.out)
        (case side9 => exact Kd.Cw HR288_0.out HB.out)
        (case side10 => exact HC288_0.out)
        (case side11 => exact Kd.Cw HR288_2.out HB.out)
        (case side12 => exact HC288_2.out)
        (case side13 => exact Kd.Cw HR288_3.out HB.out)
        (case side14 => exact HC288_3.out)
        (case side15 => exact Kd.Cw HR288_4.out HB.out)
        (case side16 => exact HC288_4.out)
        rintro e w12 ⟨rfl, hb⟩
        refine ⟨_, rfl, ?_⟩
        have n0_ := Aside0.mk (below_step (wmv HB.out) hb)
        clear HB
        revert n0_
        intro HB
        (try clear hb)
        (try clear hb2)
        (try clear hk)
        (try clear hi)
        refine hK.out _ _ ⟨((HB.out.cell (World.block_lt_of_cell? w _ hw287_0)).trans hw287_0), ((HB.out.cell (World.block_lt_of_cell? w _ hw287_1)).trans hw287_1), ((HB.out.cell (World.block_lt_of_cell? w _ hw287_2)).trans hw287_2), ((HB.out.cell (World.block_lt_of_cell? w _ hw287_3)).trans hw287_3), ((HB.out.cell (World.block_lt_of_cell? w _ hw287_4)).trans hw287_4), ((HB.out.cell (World.block_lt_of_cell? w _ hw288_0)).trans hw288_0), ((HB.out.cell (World.block_lt_of_cell? w _ hw288_1)).trans hw288_1), ((HB.out.cell (World.block_lt_of_cell? w _ hw288_2)).trans hw288_2), ((HB.out.cell (World.block_lt_of_cell? w _ hw288_3)).trans hw288_3), ((HB.out.cell (World.block_lt_of_cell? w _ hw288_4)).trans hw288_4)⟩ (fun hHeld => ?_)
        clear hK K
        refine norm_ (a' := ?_) ?_ ?_
        rotate_left
        ·show Act.put _ (some 25) _ = _
         simp only [ps]
         rfl
        refine pure_ (i := 9) (N := some 26) (v := ?_) (a' := ?_) #[true, true, true, true, true, true, true, true, true, true] rfl rfl (any_of HT_.out (by kernel_rfl)) (fun _ _ _ h => h) (Or.inl ⟨by rfl, ?_⟩) ?_ ?_
        rotate_left
        ·intro w'
         go_simp
         with_reducible rfl
        rotate_left
        ·simp only [ps]
         rfl
        refine done_ (done_of HT_.out (by kernel_rfl)) ?_
        try go_wp2
        go_ret
        exact ⟨by first | rfl | (simp [errW_none, errW_some] <;> rfl) | (simp [*, errW_none, errW_some] <;> rfl), by repeat (first | (with_reducible first | exact HB.out | apply below_alloc | apply pw_below_drewN | apply below_drew1) | exact HB.out)⟩
      ·rw [if_neg c6] at H
       exact absurd H (by simp)
     ·rw [if_neg c5] at H
      exact absurd H (by simp)
    ·rw [if_neg c4] at H
     have c4b0 : decide (x5_1 < (l0.length : Int)) = false := decide_eq_false c4
     clear c4
     obtain rfl := Option.some.inj H
     go_wp2
     go_ret
     exact ⟨by first | rfl | (simp [errW_none, errW_some] <;> rfl) | (simp [*, errW_none, errW_some] <;> rfl), by repeat (first | (with_reducible first | exact HB.out | apply below_alloc | apply pw_below_drewN | apply below_drew1) | exact HB.out)⟩
 ·rw [if_neg c3] at H
  have c3b0 : ((l0.length : Int) == (l1.length : Int)) = false := beq_eq_false_iff_ne.mpr c3
  have c3b1 : ((l0.length : Int) != (l1.length : Int)) = true := bne_iff_ne.mpr c3
  have c3b2 : (l0.length == l1.length) = false := by first | simpa using c3 | (simp at c3 ⊢; omega)
  obtain rfl := Option.some.inj H
  go_enter Try.func22, Try.ntmps22
  go_wp2
  go_ret
  exact ⟨by first | rfl | (simp [errW_none, errW_some] <;> rfl) | (simp [*, errW_none, errW_some] <;> rfl), by repeat (first | (with_reducible first | exact HB.out | apply below_alloc | apply pw_below_drewN | apply below_drew1) | exact HB.out)⟩
end Go.Proofs.Ytmnepkbmcnpjlaa.Q
namespace Go.Proofs.Ytmnepkbmcnpjlaa.Q
open Go.RowKit Go.Proofs.YtmnepkbmcnpjlaaW.PrintWords Go.Proofs.YtmnepkbmcnpjlaaW.PrintLast Go.Proofs.YtmnepkbmcnpjlaaW.PrintMore
attribute [local go_sem] max2_int min2_int max_two min_two max_three min_three max_four min_four
set_option linter.unusedVariables false
set_option linter.unusedSimpArgs false
mutual
def hypercuberef2_Less.l0 : Nat → List Int → List Int → Int → Option (Int)
 | 0, _, _, _ => none
 | k + 1, x0, x1, x5 => if x5 < (x0.length : Int) then (hypercuberef2_Less.j1 k x0 x1 x5 (decide (x5 < (x1.length : Int)))) else (hypercuberef2_Less.j1 k x0 x1 x5 false)
def hypercuberef2_Less.j1 : Nat → List Int → List Int → Int → Bool → Option (Int)
 | 0, _, _, _, _ => none
 | k + 1, x0, x1, x5, x15 => if x15 = true then (if 0 ≤ x5 then (if x5 < (x0.length : Int) then (if x5 < (x1.length : Int) then (if (rd x0 x5) < (rd x1 x5) then (some (-1)) else (if (rd x0 x5) > (rd x1 x5) then (some 1) else (hypercuberef2_Less.l0 k x0 x1 (wrap64 (x5 + 1))))) else (none)) else (none)) else (none)) else (if (x0.length : Int) < (x1.length : Int) then (some (-1)) else (if (x0.length : Int) > (x1.length : Int) then (some 1) else (some 0)))
end
def hypercuberef2_Less.f (k : Nat) (l0 : List Int) (l1 : List Int) : Option (Int) := hypercuberef2_Less.l0 k l0 l1 0
set_option maxHeartbeats 8000000 in
set_option maxRecDepth 100000 in
theorem hypercuberef2_Less.calls (k : Nat) (A0 : Option Addr) (c0 : Nat) (l0 : List Int) (A1 : Option Addr) (c1 : Nat) (l1 : List Int) (r : Int) (w : World) (hr0 : Kd.C (Kd.int .i64) w A0 l0.length l0) (hc0 : l0.length ≤ c0) (hr1 : Kd.C (Kd.int .i64) w A1 l1.length l1) (hc1 : l1.length ≤ c1) (h : hypercuberef2_Less.f k l0 l1 = some r) :
  Calls Try.prog 35 #[.slice A0 l0.length c0, .slice A1 l1.length c1] w fun e w' => e = .returned (.int .i64 r) ∧ Drawn0 w w' := by
 have HR0 := Aside0.mk hr0
 have HC0 := Aside0.mk hc0
 clear hr0 hc0
 have HR1 := Aside0.mk hr1
 have HC1 := Aside0.mk hc1
 clear hr1 hc1
 have H : (hypercuberef2_Less.l0 k l0 l1 0) = some r := h
 clear h
 have H' := Aside0.mk H
 clear H
 go_enter Try.func35, Try.ntmps35
 go_wp2
 repeat (go_quiet (fail); try go_wp2)
 go_loopg [5] k (fun kq v5 w' => ∃ (x5_1 : Int), v5 = .int .i64 x5_1 ∧ Aside0 (hypercuberef2_Less.l0 kq l0 l1 x5_1 = some r) ∧ Aside0 (kq ≤ k) ∧ Drawn0 w w')
 case atStart => exact ⟨(0), (by first | rfl | (simp; done) | (simp [*]; done)), H', ⟨Nat.le_refl _⟩, by repeat (first | exact Drawn0.refl _ | apply Drawn0.step)⟩
 case round =>
  clear H'
  try clear c1
  try clear p2
  obtain ⟨x5_1, rfl, HA, HK1, ⟨m1, rfl⟩⟩ := hrel
  cases gk with
  | zero => exact absurd HA.out (by simp [hypercuberef2_Less.l0])
  | succ k1 =>
   have H := HA.out
   clear HA
   simp only [hypercuberef2_Less.l0] at H
   have HC3 := Aside0.mk H
   clear H
   go_upto_region 2 with (fail)
   repeat (go_quiet (fail); go_upto_region 2 with (fail))
   go_cut [15] (fun v15 wc => ∃ (kq : Nat) (x15_2 : Bool), v15 = .bool x15_2 ∧ Aside0 (hypercuberef2_Less.j1 kq l0 l1 x5_1 x15_2 = some r) ∧ Aside0 (kq ≤ k1) ∧ Drawn0 w wc)
   case first =>
    have H := HC3.out
    clear HC3
    by_cases c4 : x5_1 < (l0.length : Int)
    ·rw [if_pos c4] at H
     have c4b0 : decide (x5_1 < (l0.length : Int)) = true := decide_eq_true c4
     clear c4
     (first | rw [c4b0] | (simp only [i64_w, i32_w]; rw [c4b0]) | skip)
     have H' := Aside0.mk H
     clear H
     go_wp2
     repeat (go_quiet (fail); try go_wp2)
     go_meet
     case rel => exact ⟨_, (decide (x5_1 < (l1.length : Int))), (by first | rfl | (simp; done) | (simp [*]; done)), H', ⟨by have := HK1.out; first | omega | exact Nat.le_refl _⟩, by repeat (first | exact Drawn0.refl _ | apply Drawn0.step)⟩
    ·rw [if_neg c4] at H
     have c4b0 : decide (x5_1 < (l0.length : Int)) = false := decide_eq_false c4
     clear c4
     (first | rw [c4b0] | (simp only [i64_w, i32_w]; rw [c4b0]) | skip)
     have H' := Aside0.mk H
     clear H
     go_wp2
     repeat (go_quiet (fail); try go_wp2)
     go_meet
     case rel => exact ⟨_, (false), (by first | rfl | (simp; done) | (simp [*]; done)), H', ⟨by have := HK1.out; first | omega | exact Nat.le_refl _⟩, by repeat (first | exact Drawn0.refl _ | apply Drawn0.step)⟩
   case rest =>
    clear HC3
    try clear c1
    try clear p2
    try clear c3
    try clear c4
    try clear c4b0
    try clear p2
    obtain ⟨kq, x15_2, rfl, HA, HJ2, ⟨mc2, rfl⟩⟩ := hcut
    cases kq with
    | zero => exact absurd HA.out (by simp [hypercuberef2_Less.j1])
    | succ kj2 =>
     have H := HA.out
     clear HA
     simp only [hypercuberef2_Less.j1] at H
     by_cases c5 : x15_2 = true
     ·subst c5
      have H1 : (if 0 ≤ x5_1 then (if x5_1 < (l0.length : Int) then (if x5_1 < (l1.length : Int) then (if (rd l0 x5_1) < (rd l1 x5_1) then (some (-1)) else (if (rd l0 x5_1) > (rd l1 x5_1) then (some 1) else (hypercuberef2_Less.l0 kj2 l0 l1 (wrap64 (x5_1 + 1))))) else (none)) else (none)) else (none)) = some r := by rw [if_pos rfl] at H; exact H
      clear H
      have H := H1
      clear H1
      by_cases c6 : 0 ≤ x5_1
      ·rw [if_pos c6] at H
       have c6b0 : decide (0 ≤ x5_1) = true := decide_eq_true c6
       clear c6
       by_cases c7 : x5_1 < (l0.length : Int)
       ·rw [if_pos c7] at H
        have c7b0 : decide (x5_1 < (l0.length : Int)) = true := decide_eq_true c7
        clear c7
        by_cases c8 : x5_1 < (l1.length : Int)
        ·rw [if_pos c8] at H
         have c8b0 : decide (x5_1 < (l1.length : Int)) = true := decide_eq_true c8
         clear c8
         by_cases c9 : (rd l0 x5_1) < (rd l1 x5_1)
         ·rw [if_pos c9] at H
          have c9b0 : decide ((rd l0 x5_1) < (rd l1 x5_1)) = true := decide_eq_true c9
          clear c9
          obtain rfl := Option.some.inj H
          have p293 : 0 ≤ (x5_1 : Int) := of_decide_eq_true (by first | (with_reducible assumption) | assumption)
          have q293 : x5_1 < (l0.length : Int) := of_decide_eq_true (by first | (with_reducible assumption) | assumption)
          obtain ⟨ad293, e293, hx293_0⟩ := Kd.at_int HR0.out x5_1 p293 q293
          cases e293
          replace p293 := eq_true p293
          replace q293 := eq_true q293
          have p294 : 0 ≤ (x5_1 : Int) := of_decide_eq_true (by first | (with_reducible assumption) | assumption)
          have q294 : x5_1 < (l1.length : Int) := of_decide_eq_true (by first | (with_reducible assumption) | assumption)
          obtain ⟨ad294, e294, hx294_0⟩ := Kd.at_int HR1.out x5_1 p294 q294
          cases e294
          replace p294 := eq_true p294
          replace q294 := eq_true q294
          go_wp2
          repeat (go_quiet (fail); try go_wp2)
          go_ret
          exact ⟨by first | rfl | (simp; done) | (simp [*]; done), by repeat (first | exact Drawn0.refl _ | apply Drawn0.step)⟩
         ·rw [if_neg c9] at H
          have c9b0 : decide ((rd l0 x5_1) < (rd l1 x5_1)) = false := decide_eq_false c9
          clear c9
          by_cases c10 : (rd l0 x5_1) > (rd l1 x5_1)
          ·rw [if_pos c10] at H
           have c10b0 : decide ((rd l1 x5_1) < (rd l0 x5_1)) = true := decide_eq_true c10
           clear c10
           obtain rfl := Option.some.inj H
           have p293 : 0 ≤ (x5_1 : Int) := of_decide_eq_true (by first | (with_reducible assumption) | assumption)
           have q293 : x5_1 < (l0.length : Int) := of_decide_eq_true (by first | (with_reducible assumption) | assumption)
           obtain ⟨ad293, e293, hx293_0⟩ := Kd.at_int HR0.out x5_1 p293 q293
           cases e293
           replace p293 := eq_true p293
           replace q293 := eq_true q293
           have p294 : 0 ≤ (x5_1 : Int) := of_decide_eq_true (by first | (with_reducible assumption) | assumption)
           have q294 : x5_1 < (l1.length : Int) := of_decide_eq_true (by first | (with_reducible assumption) | assumption)
           obtain ⟨ad294, e294, hx294_0⟩ := Kd.at_int HR1.out x5_1 p294 q294
           cases e294
           replace p294 := eq_true p294
           replace q294 := eq_true q294
           have p295 : 0 ≤ (x5_1 : Int) := of_decide_eq_true (by first | (with_reducible assumption) | assumption)
           have q295 : x5_1 < (l0.length : Int) := of_decide_eq_true (by first | (with_reducible assumption) | assumption)
           obtain ⟨ad295, e295, hx295_0⟩ := Kd.at_int HR0.out x5_1 p295 q295
           obtain rfl : ad293 = ad295 := (by injection e295)
           replace p295 := eq_true p295
           replace q295 := eq_true q295
           have p296 : 0 ≤ (x5_1 : Int) := of_decide_eq_true (by first | (with_reducible assumption) | assumption)
           have q296 : x5_1 < (l1.length : Int) := of_decide_eq_true (by first | (with_reducible assumption) | assumption)
           obtain ⟨ad296, e296, hx296_0⟩ := Kd.at_int HR1.out x5_1 p296 q296
           obtain rfl : ad294 = ad296 := (by injection e296)
           replace p296 := eq_true p296
           replace q296 := eq_true q296
           go_wp2
           repeat (go_quiet (fail); try go_wp2)
           go_ret
           exact ⟨by first | rfl | (simp; done) | (simp [*]; done), by repeat (first | exact Drawn0.refl _ | apply Drawn0.step)⟩
          ·rw [if_neg c10] at H
           have c10b0 : decide ((rd l1 x5_1) < (rd l0 x5_1)) = false := decide_eq_false c10
           clear c10
           have H' := Aside0.mk H
           clear H
           have p293 : 0 ≤ (x5_1 : Int) := of_decide_eq_true (by first | (with_reducible assumption) | assumption)
           have q293 : x5_1 < (l0.length : Int) := of_decide_eq_true (by first | (with_reducible assumption) | assumption)
           obtain ⟨ad293, e293, hx293_0⟩ := Kd.at_int HR0.out x5_1 p293 q293
           cases e293
           replace p293 := eq_true p293
           replace q293 := eq_true q293
           have p294 : 0 ≤ (x5_1 : Int) := of_decide_eq_true (by first | (with_reducible assumption) | assumption)
           have q294 : x5_1 < (l1.length : Int) := of_decide_eq_true (by first | (with_reducible assumption) | assumption)
           obtain ⟨ad294, e294, hx294_0⟩ := Kd.at_int HR1.out x5_1 p294 q294
           cases e294
           replace p294 := eq_true p294
           replace q294 := eq_true q294
           have p295 : 0 ≤ (x5_1 : Int) := of_decide_eq_true (by first | (with_reducible assumption) | assumption)
           have q295 : x5_1 < (l0.length : Int) := of_decide_eq_true (by first | (with_reducible assumption) | assumption)
           obtain ⟨ad295, e295, hx295_0⟩ := Kd.at_int HR0.out x5_1 p295 q295
           obtain rfl : ad293 = ad295 := (by injection e295)
           replace p295 := eq_true p295
           replace q295 := eq_true q295
           have p296 : 0 ≤ (x5_1 : Int) := of_decide_eq_true (by first | (with_reducible assumption) | assumption)
           have q296 : x5_1 < (l1.length : Int) := of_decide_eq_true (by first | (with_reducible assumption) | assumption)
           obtain ⟨ad296, e296, hx296_0⟩ := Kd.at_int HR1.out x5_1 p296 q296
           obtain rfl : ad294 = ad296 := (by injection e296)
           replace p296 := eq_true p296
           replace q296 := eq_true q296
           go_wp2
           repeat (go_quiet (fail); try go_wp2)
           go_roundg kj2
           case measure => have := HK1.out; have := HJ2.out; omega
           case rel => exact ⟨(wrap64 (x5_1 + 1)), (by first | rfl | (simp; done) | (simp [*]; done)), H', ⟨by have := HK1.out; have := HJ2.out; omega⟩, by repeat (first | exact Drawn0.refl _ | apply Drawn0.step)⟩
        ·rw [if_neg c8] at H
         exact absurd H (by simp)
       ·rw [if_neg c7] at H
        exact absurd H (by simp)
      ·rw [if_neg c6] at H
       exact absurd H (by simp)
     ·replace c5 := Bool.eq_false_iff.mpr c5
      subst c5
      have H1 : (if (l0.length : Int) < (l1.length : Int) then (some (-1)) else (if (l0.length : Int) > (l1.length : Int) then (some 1) else (some 0))) = some r := by rw [if_neg (show ¬ (false = true) by decide)] at H; exact H
      clear H
      have H := H1
      clear H1
      by_cases c11 : (l0.length : Int) < (l1.length : Int)
      ·rw [if_pos c11] at H
       have c11b0 : decide ((l0.length : Int) < (l1.length : Int)) = true := decide_eq_true c11
       have c11b1 : decide (l0.length < l1.length) = true := decide_eq_true (Int.ofNat_lt.mp c11)
       clear c11
       obtain rfl := Option.some.inj H
       go_wp2
       repeat (go_quiet (fail); try go_wp2)
       go_ret
       exact ⟨by first | rfl | (simp; done) | (simp [*]; done), by repeat (first | exact Drawn0.refl _ | apply Drawn0.step)⟩
      ·rw [if_neg c11] at H
       have c11b0 : decide ((l0.length : Int) < (l1.length : Int)) = false := decide_eq_false c11
       have c11b1 : decide (l0.length < l1.length) = false := decide_eq_false (fun h => c11 (Int.ofNat_lt.mpr h))
       clear c11
       by_cases c12 : (l0.length : Int) > (l1.length : Int)
       ·rw [if_pos c12] at H
        have c12b0 : decide ((l1.length : Int) < (l0.length : Int)) = true := decide_eq_true c12
        have c12b1 : decide (l1.length < l0.length) = true := decide_eq_true (Int.ofNat_lt.mp c12)
        clear c12
        obtain rfl := Option.some.inj H
        go_wp2
        repeat (go_quiet (fail); try go_wp2)
        go_ret
        exact ⟨by first | rfl | (simp; done) | (simp [*]; done), by repeat (first | exact Drawn0.refl _ | apply Drawn0.step)⟩
       ·rw [if_neg c12] at H
        have c12b0 : decide ((l1.length : Int) < (l0.length : Int)) = false := decide_eq_false c12
        have c12b1 : decide (l1.length < l0.length) = false := decide_eq_false (fun h => c12 (Int.ofNat_lt.mpr h))
        clear c12
        obtain rfl := Option.some.inj H
        go_wp2
        repeat (go_quiet (fail); try go_wp2)
        go_ret
        exact ⟨by first | rfl | (simp; done) | (simp [*]; done), by repeat (first | exact Drawn0.refl _ | apply Drawn0.step)⟩
end Go.Proofs.Ytmnepkbmcnpjlaa.Q
namespace Go.Proofs.Ytmnepkbmcnpjlaa.Q
open Go.RowKit Go.Proofs.YtmnepkbmcnpjlaaW.PrintWords Go.Proofs.YtmnepkbmcnpjlaaW.PrintLast Go.Proofs.YtmnepkbmcnpjlaaW.PrintMore
set_option linter.unusedVariables false
set_option linter.unusedSimpArgs false
section
variable {P : Program} {ops : Array Oper} {Q : Exit → Act → World → Prop}
theorem gate_callee_v {rest : List Oper} {o : Oper} {a : Act} {W : World} {x : Operand} {as_ : Array Operand} {ts : Array TypeId} (_ho : o.op = .call { callee := .value x, args := as_, argTypes := ts }) (h : wpList P ops Q (o :: rest) a W) : wpList P ops Q (o :: rest) a W := h
theorem goesv_ {oi : Oper} {N : Option Tmp} {a : Act} {w : World} {K : Act → World → Prop} {f : FuncId} {fn : Func} {x : Operand} {as_ : Array Operand} {ts : Array TypeId} (hf : P.funcs[f]? = some fn) (hname : (fn.name == "runtime.NumGoroutine") = false) (hb : fn.body.isSome = true) (args : Array Value)
  (hw : Region.wanted oi (yielded ops a.tmps) = true) (hN : oi.dst = N) (hop : oi.op = .call { callee := .value x, args := as_, argTypes := ts }) (hargs : as_.map a.eval = args)
  (h : Calls P f args w fun e w' => ∃ v, e = .returned v ∧ K (a.put N v) w') (hx : a.eval x = .func (.func f) #[] #[] := by rfl) : if Region.wanted oi (yielded ops a.tmps) = true then Oper.wp P oi a w K Q else K (a.put N undef) w := by
 refine call_ f args hw hN ?_ h
 have he := enters_ hf hname hb args w
 unfold execOp
 simp [hop, resolve, Deferred.ofValue, invoke, hx, hargs, he]
theorem goesLv_ {rest : List Oper} {oi : Oper} {a : Act} {w : World} (N : Option Tmp) (hd : oi.dst = N) (hg : oi.guard = none) {f : FuncId} {fn : Func} {x : Operand} {as_ : Array Operand} {ts : Array TypeId} (hf : P.funcs[f]? = some fn) (hname : (fn.name == "runtime.NumGoroutine") = false) (hb : fn.body.isSome = true) (args : Array Value)
  (hop : oi.op = .call { callee := .value x, args := as_, argTypes := ts }) (hargs : as_.map a.eval = args)
  (h : Calls P f args w fun e w' => ∃ v, e = .returned v ∧ wpList P ops Q rest (a.put N v) w') (hx : a.eval x = .func (.func f) #[] #[] := by rfl) : wpList P ops Q (oi :: rest) a w := by
 refine wpList_plain hg fun K hK => ?_
 have he := enters_ hf hname hb args w
 have hrun : (execOp a.eval oi).run P w = .ok (.enter f args) w := by
  unfold execOp
  simp [hop, resolve, Deferred.ofValue, invoke, hx, hargs, he]
 unfold Oper.wp
 rw [hrun, Oper.upon_enter]
 refine h.mono fun e w'' hh => ?_
 obtain ⟨v, rfl, hk⟩ := hh
 subst hd
 exact hK _ _ hk
end
end Go.Proofs.Ytmnepkbmcnpjlaa.Q
