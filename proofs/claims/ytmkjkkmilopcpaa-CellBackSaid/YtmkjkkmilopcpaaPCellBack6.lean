-- packed by wip/tools/pack.py (a program of this session) out of its own texts
import Derived.Test.YtmkjkkmilopcpaaPCellBack0
import Derived.ArgAppend
import Derived.Below
import Derived.BigQuiet
import Derived.Deep.AppendLies
import Derived.Deep.CutBlock
import Derived.Deep.DeepCutAuto
import Derived.Deep.Draws
import Derived.Deep.LoopGhost
import Derived.Deep.OwnRows
import Derived.Deep.QuietTactic
import Derived.Deep.RegionHeld3
import Derived.KernelRfl
import Derived.Laws.BitsLemmas
import Derived.Laws.BytesArg
import Derived.Laws.IdiomCopy
import Derived.Laws.MakeOwn
import Derived.Laws.OwnMore
import Derived.Laws.Rows
import Derived.Laws.Slices
import Derived.Lib.AppendStr
import Derived.Lib.ConvBytes
import Derived.Maps.AppendAt
import Derived.OrdersHeld
import Derived.OwnWalk
import Derived.RowKit
import Derived.RowKit3
import Derived.Tactics
import Derived.Test.YtmkjkkmilopcpaaProg
import Derived.WalkKit
import Derived.WideLaws
import Derived.Test.YtmkjkkmilopcpaaPCellBack1
import Derived.Test.YtmkjkkmilopcpaaPCellBack3
import Derived.Test.YtmkjkkmilopcpaaPCellBack4
import Derived.Test.YtmkjkkmilopcpaaPCellBack5
namespace Go.Proofs.Ytmkjkkmilopcpaa.Q
open Go.RowKit Go.Proofs.YtmkjkkmilopcpaaW.PrintWords Go.Proofs.YtmkjkkmilopcpaaW.PrintLast Go.Proofs.YtmkjkkmilopcpaaW.PrintMore
attribute [local go_sem] max2_int min2_int max_two min_two max_three min_three max_four min_four
set_option linter.unusedVariables false
set_option linter.unusedSimpArgs false
mutual
def hypercubelaw1_Facts.l0 : Nat → Int → List Int → List Int → Int → List Int → Int → Option (List Int × Int × (List (S45)))
 | 0, _, _, _, _, _, _ => none
 | k + 1, x0, x1, x3, x11, x206000, x206001 => (hypercubelaw1_within.f x0 4).bind fun t206 => (if x11 ≤ t206 then (if x11 < (x1.length : Int) then (if 0 ≤ x11 then ((hypercubelaw1_within.f (rd x1 x11) 5).bind fun t208 => (if x206000.length < 17592186044416 then (hypercubelaw1_Facts.l0 k x0 x1 x3 (wrap64 (x11 + 1)) (x206000 ++ [wrap64 (1 + t208)]) x206001) else (none))) else (none)) else ((hypercubelaw1_within.f (wrap64 (x11 + 2)) 5).bind fun t212 => (if x206000.length < 17592186044416 then (hypercubelaw1_Facts.l0 k x0 x1 x3 (wrap64 (x11 + 1)) (x206000 ++ [wrap64 (1 + t212)]) x206001) else (none)))) else ((hypercubelaw1_within.f x0 7).bind fun t216 => (if t216 = 0 then (if 0 < (x206000.length : Int) then (hypercubelaw1_Facts.j1 k x3 (x206000.set (0 : Int).toNat 16) x206001) else (none)) else (hypercubelaw1_Facts.j1 k x3 x206000 x206001))))
def hypercubelaw1_Facts.j1 : Nat → List Int → List Int → Int → Option (List Int × Int × (List (S45)))
 | 0, _, _, _ => none
 | k + 1, x3, x206000, x206001 => hypercubelaw1_Facts.l1 k x3 ([] : List (S45)) 0 x206000 x206001
def hypercubelaw1_Facts.l1 : Nat → List Int → List (S45) → Int → List Int → Int → Option (List Int × Int × (List (S45)))
 | 0, _, _, _, _, _ => none
 | k + 1, x3, x13, x14, x206000, x206001 => if x14 < (x3.length : Int) then (hypercubelaw1_Facts.j3 k x3 x13 x14 (decide (x14 < 40)) x206000 x206001) else (hypercubelaw1_Facts.j3 k x3 x13 x14 false x206000 x206001)
def hypercubelaw1_Facts.j3 : Nat → List Int → List (S45) → Int → Bool → List Int → Int → Option (List Int × Int × (List (S45)))
 | 0, _, _, _, _, _, _ => none
 | k + 1, x3, x13, x14, x59, x206000, x206001 => if x59 = true then (if 0 ≤ x14 then (if x14 < (x3.length : Int) then (hypercubelaw1_Facts.l2 k x3 x13 x14 (rd x3 x14) 0 x206000 x206001 ([] : List Int)) else (none)) else (none)) else (some (x206000, x206001, x13))
def hypercubelaw1_Facts.l2 : Nat → List Int → List (S45) → Int → Int → Int → List Int → Int → List Int → Option (List Int × Int × (List (S45)))
 | 0, _, _, _, _, _, _, _, _ => none
 | k + 1, x3, x13, x14, x15, x17, x206000, x206001, x220000 => if x17 < (x206000.length : Int) then (if 0 ≤ x17 then ((hypercubelaw1_within.f x15 (rd x206000 x17)).bind fun t221 => (if x220000.length < 17592186044416 then (hypercubelaw1_Facts.l2 k x3 x13 x14 (wrap64 (Int.tdiv x15 5)) (wrap64 (x17 + 1)) x206000 x206001 (x220000 ++ [t221])) else (none))) else (none)) else (hypercubelaw1_Facts.l3 k x3 x13 x14 x15 0 x206000 x206001 x220000 ([] : List Int))
def hypercubelaw1_Facts.l3 : Nat → List Int → List (S45) → Int → Int → Int → List Int → Int → List Int → List Int → Option (List Int × Int × (List (S45)))
 | 0, _, _, _, _, _, _, _, _, _ => none
 | k + 1, x3, x13, x14, x15, x18, x206000, x206001, x220000, x220001 => if x18 < x206001 then ((hypercubelaw1_within.f (wrap64 (x15 + (wrap64 (7 * x18)))) 201).bind fun t225 => (if x220001.length < 17592186044416 then (hypercubelaw1_Facts.l3 k x3 x13 x14 x15 (wrap64 (x18 + 1)) x206000 x206001 x220000 (x220001 ++ [wrap64 (t225 - 100)])) else (none))) else (if x13.length < 2932031007402 then (hypercubelaw1_Facts.l1 k x3 (x13 ++ [(⟨x220000, x220001⟩ : S45)]) (wrap64 (x14 + 1)) x206000 x206001) else (none))
end
def hypercubelaw1_Facts.f (k : Nat) (a0 : Int) (l1 : List Int) (a2 : Int) (l3 : List Int) : Option (List Int × Int × (List (S45))) := (hypercubelaw1_within.f a2 3).bind fun t204 => (hypercubelaw1_Facts.l0 k a0 l1 l3 0 ([] : List Int) t204)
def hypercubelaw1_Facts.T8 : Bool × List (List Nat × List Nat) := (true, [([], []), ([0], [0]), ([], []), ([2], [2]), ([3], [3]), ([4], [4]), ([1, 5, 3], [1, 5]), ([0, 1, 2, 3, 4, 5, 6], []), ([7, 6, 6, 0, 1, 2, 3, 4, 5, 6], [6, 7])])
def hypercubelaw1_Facts.B8 : List Nat := [0, 1, 0, 4, 12, 28, 63, 127, 255]
theorem hypercubelaw1_Facts.tab8 : rtab .any (opsOf Try.f23 8) = hypercubelaw1_Facts.T8 := by kernel_rfl
theorem hypercubelaw1_Facts.bits8 : waitsOk hypercubelaw1_Facts.T8.2 hypercubelaw1_Facts.B8 = true := by kernel_rfl
def hypercubelaw1_Facts.T20 : Bool × List (List Nat × List Nat) := (true, [([], []), ([0], [0]), ([], []), ([], []), ([3], [3]), ([], []), ([4, 5], [4, 5]), ([6], [6]), ([2, 7], [2, 7]), ([8], [8]), ([1, 9, 8], [1, 9]), ([0, 1, 2, 3, 4, 5, 6, 7, 8, 9, 10], []), ([11, 10, 10, 0, 1, 2, 3, 4, 5, 6, 7, 8, 9, 10], [10, 11])])
def hypercubelaw1_Facts.B20 : List Nat := [0, 1, 0, 0, 8, 0, 56, 120, 252, 508, 1023, 2047, 4095]
theorem hypercubelaw1_Facts.tab20 : rtab .any (opsOf Try.f23 20) = hypercubelaw1_Facts.T20 := by kernel_rfl
theorem hypercubelaw1_Facts.bits20 : waitsOk hypercubelaw1_Facts.T20.2 hypercubelaw1_Facts.B20 = true := by kernel_rfl
def hypercubelaw1_Facts.T25 : Bool × List (List Nat × List Nat) := (true, [([], []), ([0], [0]), ([], []), ([], []), ([3], [3]), ([2, 4], [2, 4]), ([5], [5]), ([6], [6]), ([7], [7]), ([1, 8, 6], [1, 8]), ([0, 1, 2, 3, 4, 5, 6, 7, 8, 9], []), ([10, 9, 9, 0, 1, 2, 3, 4, 5, 6, 7, 8, 9], [9, 10])])
def hypercubelaw1_Facts.B25 : List Nat := [0, 1, 0, 0, 8, 28, 60, 124, 252, 511, 1023, 2047]
theorem hypercubelaw1_Facts.tab25 : rtab .any (opsOf Try.f23 25) = hypercubelaw1_Facts.T25 := by kernel_rfl
theorem hypercubelaw1_Facts.bits25 : waitsOk hypercubelaw1_Facts.T25.2 hypercubelaw1_Facts.B25 = true := by kernel_rfl
set_option maxHeartbeats 8000000 in
set_option maxRecDepth 100000 in
theorem hypercubelaw1_Facts.calls (k : Nat) (a0 : Int) (A1 : Option Addr) (c1 : Nat) (l1 : List Int) (a2 : Int) (A3 : Option Addr) (c3 : Nat) (l3 : List Int) (r1 : List Int) (r2 : Int) (r3 : List (S45)) (w : World) (hr1 : Kd.C (Kd.int .i64) w A1 l1.length l1) (hc1 : l1.length ≤ c1) (hr3 : Kd.C (Kd.int .i64) w A3 l3.length l3) (hc3 : l3.length ≤ c3) (h : hypercubelaw1_Facts.f k a0 l1 a2 l3 = some (r1, r2, r3)) :
  Calls Try.prog 23 #[.int .i64 a0, .slice A1 l1.length c1, .int .i64 a2, .slice A3 l3.length c3] w fun e w' => ∃ v0_ v2_ : Value, e = .returned (.tuple #[.agg #[v0_, .int .i64 r2], v2_]) ∧ Kd.R (Kd.int .i64) 3 w' w.heap.size (fun _ => True) v0_ r1 ∧ Kd.S k45 45 w' w.heap.size (fun k_ => some k_ ≠ (v0_ : Value).ownBlock) v2_ r3 ∧ Below w.heap.size w w' := by
 have hu35 := Try.underlying35
 have hu45 := Try.underlying45
 have HR1 := am hr1
 have HC1 := am hc1
 clear hr1 hc1
 have HR3 := am hr3
 have HC3 := am hc3
 clear hr3 hc3
 have HB := am (Below.refl w.heap.size w)
 have H : ((hypercubelaw1_within.f a2 3).bind fun t204 => (hypercubelaw1_Facts.l0 k a0 l1 l3 0 ([] : List Int) t204)) = some (r1, r2, r3) := h
 clear h
 replace H := Option.bind_eq_some_iff.mp H
 obtain ⟨t204, A50, H⟩ := H
 replace H : (hypercubelaw1_Facts.l0 k a0 l1 l3 0 ([] : List Int) t204) = some (r1, r2, r3) := H
 have A5 := am A50
 clear A50
 have H' := am H
 clear H
 go_enter Try.func23, Try.ntmps23
 go_wp2_with (first | ((with_reducible refine gate_dst (N := 8) rfl ?_); refine zX #[.slice none 0 0, .int .i64 0] 35 ?_; intro gb203 hg w6 hbox hb; have n0_ := am (below_step (zw HB) hb); have n1_ := am (hbox); have n2_ := am ((by rw [hg]; exact (below_size (zw HB)) : w.heap.size ≤ gb203)); have n3_ := am ((by rw [hg]; exact (below_size (zw HB)) : w.heap.size ≤ gb203)); clear HB; revert n0_ n1_ n2_ n3_; intro HB BK203 GW203 GE203; clear hb hbox hg) | (go_at_call 45; (with_reducible refine (hypercubelaw1_within.calls a2 3 t204 _ A5.out).mono ?_); rintro e w' ⟨rfl, ⟨nd, rfl⟩⟩; (try (rw [drewN_self w6]; generalize hq_ : World.drewN w6 _ = w6; have n0_ : Aside0 (w6.heap[gb203]? = some (.cells #[.slice none 0 0, .int .i64 0] 35 (0, 0))) := ⟨by rw [← hq_]; exact (zb BK203)⟩; have n1_ : Aside0 (Below w.heap.size w w6) := ⟨by rw [← hq_]; exact (zw HB)⟩; clear BK203 HB hq_; revert n0_ n1_; intro BK203 HB))) | ((with_reducible refine gate_dst (N := 10) rfl ?_); refine zX #[.slice none 0 0, .int .i64 0] 35 ?_; intro gb205 hg w7 hbox hb; have n0_ := am (blk_below (g := gb203) (o := .cells #[.slice none 0 0, .int .i64 0] 35 (0, 0)) (zb BK203) hb); have n1_ := am (below_step (zw HB) hb); have n2_ := am (hbox); have n3_ := am ((by rw [hg]; exact (below_size (zw HB)) : w.heap.size ≤ gb205)); have n4_ := am ((by rw [hg]; exact (below_size (zw HB)) : w.heap.size ≤ gb205)); have n5_ := am ((by rw [hg]; exact Nat.ne_of_lt (blk_lt (g := gb203) (o := .cells #[.slice none 0 0, .int .i64 0] 35 (0, 0)) (zb BK203)) : gb203 ≠ gb205)); have n6_ := am ((by rw [hg]; exact Nat.ne_of_gt (blk_lt (g := gb203) (o := .cells #[.slice none 0 0, .int .i64 0] 35 (0, 0)) (zb BK203)) : gb205 ≠ gb203)); clear BK203 HB; revert n0_ n1_ n2_ n3_ n4_ n5_ n6_; intro BK203 HB BK205 GW205 GE205 NB203_205 NB205_203; clear hb hbox hg; have hnb8 := NB205_203.out; have hnc8 := NB203_205.out; have hcz9_0 : w7.cell? ⟨gb205, 0, none⟩ = some (.slice none 0 0) := (blk_cell BK205.out 0).trans rfl; have hcz9_1 : w7.cell? ⟨gb205, 1, none⟩ = some (.int .i64 0) := (blk_cell BK205.out 1).trans rfl; have hfz9_0 := blk_frozen BK205.out 0; have hfz9_1 := blk_frozen BK205.out 1))
 go_loopg [11] k (fun kq v11 w' => ∃ (x11_1 : Int) (x206000_1 : List Int) (u206000 : Value), v11 = .int .i64 x11_1 ∧ Aside0 (hypercubelaw1_Facts.l0 kq a0 l1 l3 x11_1 x206000_1 t204 = some (r1, r2, r3)) ∧ Aside0 (kq ≤ k) ∧ Aside0 (Kd.R (Kd.int .i64) 3 w' w.heap.size (fun _ => True) u206000 x206000_1) ∧ Aside0 (w'.heap[gb203]? = some (.cells #[(.slice none 0 0), .int .i64 0] 35 (0, 0))) ∧ Aside0 (w'.heap[gb205]? = some (.cells #[u206000, .int .i64 t204] 35 (0, 0))) ∧ Aside0 (Below w.heap.size w w'))
 case atStart => exact ⟨(0), (([] : List Int)), (.slice none 0 0), zz, H', ⟨Nat.le_refl _⟩, ⟨by first | exact Kd.R_nil _ _ _ _ _ | exact Kd.N_nil _ _ _ _ _ | exact Kd.V_nil _ _ _ _ _ | exact Kd.Q_nil _ _ _ _ _ | exact Kd.S_nil _ _ _ _ _⟩, ⟨by refine zq ?_; refine blk_far ?_ NB203_205.out _; refine zq ?_; refine blk_far ?_ NB203_205.out _; refine zq ?_; exact BK203.out⟩, ⟨by refine zq ?_; refine blk_put (cs := #[.slice none 0 0, .int .i64 0]) ?_ 1 _ rfl; refine zq ?_; refine blk_put (cs := #[.slice none 0 0, .int .i64 0]) ?_ 0 _ rfl; refine zq ?_; exact BK205.out⟩, ⟨zw HB⟩⟩
 case round =>
  clear H'
  try clear c1
  try clear c2
  try clear p2
  try clear c3
  try clear c4
  try clear c8
  try clear hcz9_0
  try clear hcz9_1
  try clear hfz9_0
  try clear hfz9_1
  obtain ⟨x11_1, x206000_1, u206000, rfl, HA, HK1, HO_206000, BK203, BK205, HB⟩ := hrel
  cases gk with
  | zero => exact absurd HA.out (by simp [hypercubelaw1_Facts.l0])
  | succ k1 =>
   have H := HA.out
   clear HA
   simp only [hypercubelaw1_Facts.l0] at H
   replace H := Option.bind_eq_some_iff.mp H
   obtain ⟨t206, A100, H⟩ := H
   replace H : (if x11_1 ≤ t206 then (if x11_1 < (l1.length : Int) then (if 0 ≤ x11_1 then ((hypercubelaw1_within.f (rd l1 x11_1) 5).bind fun t208 => (if x206000_1.length < 17592186044416 then (hypercubelaw1_Facts.l0 k1 a0 l1 l3 (wrap64 (x11_1 + 1)) (x206000_1 ++ [wrap64 (1 + t208)]) t204) else (none))) else (none)) else ((hypercubelaw1_within.f (wrap64 (x11_1 + 2)) 5).bind fun t212 => (if x206000_1.length < 17592186044416 then (hypercubelaw1_Facts.l0 k1 a0 l1 l3 (wrap64 (x11_1 + 1)) (x206000_1 ++ [wrap64 (1 + t212)]) t204) else (none)))) else ((hypercubelaw1_within.f a0 7).bind fun t216 => (if t216 = 0 then (if 0 < (x206000_1.length : Int) then (hypercubelaw1_Facts.j1 k1 l3 (x206000_1.set (0 : Int).toNat 16) t204) else (none)) else (hypercubelaw1_Facts.j1 k1 l3 x206000_1 t204)))) = some (r1, r2, r3) := H
   have A10 := am A100
   clear A100
   by_cases c11 : x11_1 ≤ t206
   ·rw [if_pos c11] at H
    have c11b0 : decide (x11_1 ≤ t206) = true := decide_eq_true c11
    clear c11
    by_cases c12 : x11_1 < (l1.length : Int)
    ·rw [if_pos c12] at H
     have c12b0 : decide (x11_1 < (l1.length : Int)) = true := decide_eq_true c12
     clear c12
     by_cases c13 : 0 ≤ x11_1
     ·rw [if_pos c13] at H
      have c13b0 : decide (0 ≤ x11_1) = true := decide_eq_true c13
      clear c13
      replace H := Option.bind_eq_some_iff.mp H
      obtain ⟨t208, A140, H⟩ := H
      replace H : (if x206000_1.length < 17592186044416 then (hypercubelaw1_Facts.l0 k1 a0 l1 l3 (wrap64 (x11_1 + 1)) (x206000_1 ++ [wrap64 (1 + t208)]) t204) else (none)) = some (r1, r2, r3) := H
      have A14 := am A140
      clear A140
      by_cases c15 : x206000_1.length < 17592186044416
      ·rw [if_pos c15] at H
       have LMc15 := am c15
       clear c15
       obtain ⟨y209, hy209⟩ : ∃ y_ : List Int, y_ = (x206000_1 ++ [wrap64 (1 + t208)]) := ⟨_, rfl⟩
       replace H : (hypercubelaw1_Facts.l0 k1 a0 l1 l3 (wrap64 (x11_1 + 1)) y209 t204) = some (r1, r2, r3) := by rw [hy209]; with_reducible exact H
       have Ny209 := am hy209
       clear hy209
       have H' := am H
       clear H
       try go_wp2_with (first | (go_at_call 45; (with_reducible refine (hypercubelaw1_within.calls a0 4 t206 _ A10.out).mono ?_); rintro e w' ⟨rfl, ⟨nd, rfl⟩⟩; (try (rw [drewN_self wr]; generalize hq_ : World.drewN wr _ = wr; have n0_ : Aside0 (Kd.R (Kd.int .i64) 3 wr w.heap.size (fun _ => True) u206000 x206000_1) := ⟨by rw [← hq_]; exact (ze HO_206000)⟩; have n1_ : Aside0 (wr.heap[gb203]? = some (.cells #[.slice none 0 0, .int .i64 0] 35 (0, 0))) := ⟨by rw [← hq_]; exact (zb BK203)⟩; have n2_ : Aside0 (wr.heap[gb205]? = some (.cells #[u206000, .int .i64 t204] 35 (0, 0))) := ⟨by rw [← hq_]; exact (zb BK205)⟩; have n3_ : Aside0 (Below w.heap.size w wr) := ⟨by rw [← hq_]; exact (zw HB)⟩; clear HO_206000 BK203 BK205 HB hq_; revert n0_ n1_ n2_ n3_; intro HO_206000 BK203 BK205 HB)); have p207 : 0 ≤ (x11_1 : Int) := zd; have q207 : x11_1 < (l1.length : Int) := zd; obtain ⟨ad207, e207, hx207_0⟩ := Kd.at_int HR1.out x11_1 p207 q207; cases e207; replace hx207_0 := zc HB hx207_0; replace p207 := eq_true p207; replace q207 := eq_true q207))
       have n0_ := am (Kd.R_drew HO_206000.out)
       have n1_ := am (blk_drew BK203.out)
       have n2_ := am (blk_drew BK205.out)
       have n3_ := am (below_drew1 HB.out)
       clear HO_206000 BK203 BK205 HB
       revert n0_ n1_ n2_ n3_
       intro HO_206000 BK203 BK205 HB
       refine start_ (n := 9) (S := fun w' => w'.cell? ⟨gb205, 0, none⟩ = some (u206000) ∧ w'.cell? ⟨gb205, 1, none⟩ = some (.int .i64 t204)) (ds := [8]) (bb 9 0) (by kernel_rfl) rfl rfl ⟨bc BK205 0, bc BK205 1⟩ (fun hHeld => ?_); refine with_tabW hypercubelaw1_Facts.tab8 hypercubelaw1_Facts.bits8 (fun HT_ HW_ => ?_)
       generalize wr.drew = w16 at HO_206000 BK203 BK205 HB hHeld ⊢
       refine zu 0 (some 38) (bb 9 1) HT_ ?_
       refine zu 2 (some 40) (bb 9 5) HT_ ?_
       refine zk 1 (some 39) (bb 9 7) HT_ HW_ hHeld ?_
       refine zo 3 (some 41) (bb 9 15) HT_ (fun K hK => ?_)
       refine goes_ Try.func45 (by kernel_rfl) rfl #[.int .i64 (rd l1 x11_1), .int .i64 5] (by rfl) rfl rfl zm ?_
       with_reducible refine (hypercubelaw1_within.calls (rd l1 x11_1) 5 t208 _ A14.out).mono ?_
       rintro e w' ⟨rfl, ⟨nd, rfl⟩⟩
       refine ⟨_, rfl, ?_⟩
       refine hK.out _ _ ⟨bc BK205 0, bc BK205 1⟩ (fun hHeld => ?_)
       clear hK K
       refine nm ?_
       refine zu 4 (some 42) (bb 9 31) HT_ ?_
       refine zo 5 (some 43) (bb 9 63) HT_ (fun K hK => ?_)
       refine value_ (w1 := ?_) (v := ?_) (by rfl) rfl ?_ ?_
       rotate_left 2
       ·go_simp
        constructor
        ·rfl
        ·rfl
       refine hK.out _ _ ⟨(blk_cell (blk_alloc BK205.out _) 0).trans rfl, (blk_cell (blk_alloc BK205.out _) 1).trans rfl⟩ (fun hHeld => ?_)
       clear hK K
       refine nm ?_
       refine zo 6 (some 44) (bb 9 127) HT_ (fun K hK => ?_)
       refine Kd.R_append_step (Kd.int .i64) (w0 := w) w.heap.size (by rfl) (.tmp 39) (.tmp 43) 22 3 (.int .i64 0) 8 rfl Try.underlying22 info3 rfl (by decide) (by omega) u206000 x206000_1 (wrap64 (1 + t208)) [.int .i64 (wrap64 (1 + t208))] (fun _ => True) (fun _ => False) rfl rfl ?aP (fun _ hk => hk.elim) ?aF ?aO ?aB ?aS ?aL ?_
       (case aP => exact rfl)
       (case aB => exact (wmv HB.out))
       (case aF => exact (fun _ _ => trivial))
       (case aO => exact (Kd.R_mv HO_206000.out))
       (case aS => exact (below_size (wmv HB.out)))
       (case aL => have := LMc15.out; omega)
       intro v210 w17 ho hb hg hat
       rw [← Ny209.out] at ho
       have n0_ := am (blk_grown (bmv BK203.out) hg (Kd.R_ne HO_206000.out BK203.out (by decide)))
       have n1_ := am (blk_grown (bmv BK205.out) hg (Kd.R_ne HO_206000.out BK205.out (by decide)))
       have n2_ := am (hb)
       have n3_ := am (ho)
       clear BK203 BK205 HB HO_206000
       revert n0_ n1_ n2_ n3_
       intro BK203 BK205 HB HO211
       clear ho hb hg hat
       obtain ⟨Ao18, co18, eo18⟩ := Kd.R_slice HO211.out
       (first | subst eo18 | (injection eo18 with f1_ f2_ f3_; have f4_ := f1_.symm; have f5_ := f3_.symm; clear f1_ f2_ f3_; subst f4_; subst f5_))
       refine hK.out _ _ ⟨bc BK205 0, bc BK205 1⟩ (fun hHeld => ?_)
       clear hK K
       refine nm ?_
       refine zu 7 (some 45) (bb 9 255) HT_ ?_
       refine last_ (i := 8) (N := none) (bb 9 511) rfl rfl (one_of HT_.out (by kernel_rfl)) (by decide) (fun K hK => ?_)
       have hs19 : w17.cell? ⟨gb205, 0, none⟩ = some (u206000) := (blk_cell BK205.out 0).trans rfl
       have hfs19 := blk_frozen BK205.out 0
       have hns19_0 := NB203_205.out
       have hms19_0 := NB205_203.out
       refine skip_ (w1 := ?_) (by rfl) rfl ?_ ?_
       rotate_left
       ·go_simp
        rfl
       refine hK.out _ _ ?_
       clear hK K
       refine done_ (done_of HT_.out (by kernel_rfl)) ?_
       try go_wp2
       go_roundg k1
       case measure => have := HK1.out; omega
       case rel => exact ⟨(wrap64 (x11_1 + 1)), (y209), (.slice Ao18 y209.length co18), zz, H', ⟨by have := HK1.out; omega⟩, ⟨by refine zr ?_; exact Kd.R_mono (Kd.R_far (p := ⟨gb205, 0, none⟩) (Kd.R_types HO211.out BK205.out (by decide)) (fun _ hk => hk.2) (.slice Ao18 y209.length co18)) (fun _ hk => trivial)⟩, ⟨by refine zq ?_; refine blk_far ?_ NB203_205.out _; refine zq ?_; exact BK203.out⟩, ⟨by refine zq ?_; refine blk_put (cs := #[u206000, .int .i64 t204]) ?_ 0 _ rfl; refine zq ?_; exact BK205.out⟩, ⟨zw HB⟩⟩
      ·rw [if_neg c15] at H
       exact absurd H (by simp)
     ·rw [if_neg c13] at H
      exact absurd H (by simp)
    ·rw [if_neg c12] at H
     have c12b0 : decide (x11_1 < (l1.length : Int)) = false := decide_eq_false c12
     clear c12
     replace H := Option.bind_eq_some_iff.mp H
     obtain ⟨t212, A200, H⟩ := H
     replace H : (if x206000_1.length < 17592186044416 then (hypercubelaw1_Facts.l0 k1 a0 l1 l3 (wrap64 (x11_1 + 1)) (x206000_1 ++ [wrap64 (1 + t212)]) t204) else (none)) = some (r1, r2, r3) := H
     have A20 := am A200
     clear A200
     by_cases c21 : x206000_1.length < 17592186044416
     ·rw [if_pos c21] at H
      have LMc21 := am c21
      clear c21
      obtain ⟨y213, hy213⟩ : ∃ y_ : List Int, y_ = (x206000_1 ++ [wrap64 (1 + t212)]) := ⟨_, rfl⟩
      replace H : (hypercubelaw1_Facts.l0 k1 a0 l1 l3 (wrap64 (x11_1 + 1)) y213 t204) = some (r1, r2, r3) := by rw [hy213]; with_reducible exact H
      have Ny213 := am hy213
      clear hy213
      have H' := am H
      clear H
      try go_wp2_with (first | (go_at_call 45; (with_reducible refine (hypercubelaw1_within.calls a0 4 t206 _ A10.out).mono ?_); rintro e w' ⟨rfl, ⟨nd, rfl⟩⟩; (try (rw [drewN_self wr]; generalize hq_ : World.drewN wr _ = wr; have n0_ : Aside0 (Kd.R (Kd.int .i64) 3 wr w.heap.size (fun _ => True) u206000 x206000_1) := ⟨by rw [← hq_]; exact (ze HO_206000)⟩; have n1_ : Aside0 (wr.heap[gb203]? = some (.cells #[.slice none 0 0, .int .i64 0] 35 (0, 0))) := ⟨by rw [← hq_]; exact (zb BK203)⟩; have n2_ : Aside0 (wr.heap[gb205]? = some (.cells #[u206000, .int .i64 t204] 35 (0, 0))) := ⟨by rw [← hq_]; exact (zb BK205)⟩; have n3_ : Aside0 (Below w.heap.size w wr) := ⟨by rw [← hq_]; exact (zw HB)⟩; clear HO_206000 BK203 BK205 HB hq_; revert n0_ n1_ n2_ n3_; intro HO_206000 BK203 BK205 HB))))
      have n0_ := am (Kd.R_drew HO_206000.out)
      have n1_ := am (blk_drew BK203.out)
      have n2_ := am (blk_drew BK205.out)
      have n3_ := am (below_drew1 HB.out)
      clear HO_206000 BK203 BK205 HB
      revert n0_ n1_ n2_ n3_
      intro HO_206000 BK203 BK205 HB
      refine start_ (n := 9) (S := fun w' => w'.cell? ⟨gb205, 0, none⟩ = some (u206000) ∧ w'.cell? ⟨gb205, 1, none⟩ = some (.int .i64 t204)) (ds := [8]) (bb 9 0) (by kernel_rfl) rfl rfl ⟨bc BK205 0, bc BK205 1⟩ (fun hHeld => ?_); refine with_tabW hypercubelaw1_Facts.tab8 hypercubelaw1_Facts.bits8 (fun HT_ HW_ => ?_)
      generalize wr.drew = w22 at HO_206000 BK203 BK205 HB hHeld ⊢
      refine zu 0 (some 38) (bb 9 1) HT_ ?_
      refine zu 2 (some 40) (bb 9 5) HT_ ?_
      refine zk 1 (some 39) (bb 9 7) HT_ HW_ hHeld ?_
      refine zo 3 (some 41) (bb 9 15) HT_ (fun K hK => ?_)
      refine goes_ Try.func45 (by kernel_rfl) rfl #[.int .i64 (wrap64 (x11_1 + 2)), .int .i64 5] (by rfl) rfl rfl zm ?_
      with_reducible refine (hypercubelaw1_within.calls (wrap64 (x11_1 + 2)) 5 t212 _ A20.out).mono ?_
      rintro e w' ⟨rfl, ⟨nd, rfl⟩⟩
      refine ⟨_, rfl, ?_⟩
      refine hK.out _ _ ⟨bc BK205 0, bc BK205 1⟩ (fun hHeld => ?_)
      clear hK K
      refine nm ?_
      refine zu 4 (some 42) (bb 9 31) HT_ ?_
      refine zo 5 (some 43) (bb 9 63) HT_ (fun K hK => ?_)
      refine value_ (w1 := ?_) (v := ?_) (by rfl) rfl ?_ ?_
      rotate_left 2
      ·go_simp
       constructor
       ·rfl
       ·rfl
      refine hK.out _ _ ⟨(blk_cell (blk_alloc BK205.out _) 0).trans rfl, (blk_cell (blk_alloc BK205.out _) 1).trans rfl⟩ (fun hHeld => ?_)
      clear hK K
      refine nm ?_
      refine zo 6 (some 44) (bb 9 127) HT_ (fun K hK => ?_)
      refine Kd.R_append_step (Kd.int .i64) (w0 := w) w.heap.size (by rfl) (.tmp 39) (.tmp 43) 22 3 (.int .i64 0) 8 rfl Try.underlying22 info3 rfl (by decide) (by omega) u206000 x206000_1 (wrap64 (1 + t212)) [.int .i64 (wrap64 (1 + t212))] (fun _ => True) (fun _ => False) rfl rfl ?aP (fun _ hk => hk.elim) ?aF ?aO ?aB ?aS ?aL ?_
      (case aP => exact rfl)
      (case aB => exact (wmv HB.out))
      (case aF => exact (fun _ _ => trivial))
      (case aO => exact (Kd.R_mv HO_206000.out))
      (case aS => exact (below_size (wmv HB.out)))
      (case aL => have := LMc21.out; omega)
      intro v214 w23 ho hb hg hat
      rw [← Ny213.out] at ho
      have n0_ := am (blk_grown (bmv BK203.out) hg (Kd.R_ne HO_206000.out BK203.out (by decide)))
      have n1_ := am (blk_grown (bmv BK205.out) hg (Kd.R_ne HO_206000.out BK205.out (by decide)))
      have n2_ := am (hb)
      have n3_ := am (ho)
      clear BK203 BK205 HB HO_206000
      revert n0_ n1_ n2_ n3_
      intro BK203 BK205 HB HO215
      clear ho hb hg hat
      obtain ⟨Ao24, co24, eo24⟩ := Kd.R_slice HO215.out
      (first | subst eo24 | (injection eo24 with f1_ f2_ f3_; have f4_ := f1_.symm; have f5_ := f3_.symm; clear f1_ f2_ f3_; subst f4_; subst f5_))
      refine hK.out _ _ ⟨bc BK205 0, bc BK205 1⟩ (fun hHeld => ?_)
      clear hK K
      refine nm ?_
      refine zu 7 (some 45) (bb 9 255) HT_ ?_
      refine last_ (i := 8) (N := none) (bb 9 511) rfl rfl (one_of HT_.out (by kernel_rfl)) (by decide) (fun K hK => ?_)
      have hs25 : w23.cell? ⟨gb205, 0, none⟩ = some (u206000) := (blk_cell BK205.out 0).trans rfl
      have hfs25 := blk_frozen BK205.out 0
      have hns25_0 := NB203_205.out
      have hms25_0 := NB205_203.out
      refine skip_ (w1 := ?_) (by rfl) rfl ?_ ?_
      rotate_left
      ·go_simp
       rfl
      refine hK.out _ _ ?_
      clear hK K
      refine done_ (done_of HT_.out (by kernel_rfl)) ?_
      try go_wp2
      go_roundg k1
      case measure => have := HK1.out; omega
      case rel => exact ⟨(wrap64 (x11_1 + 1)), (y213), (.slice Ao24 y213.length co24), zz, H', ⟨by have := HK1.out; omega⟩, ⟨by refine zr ?_; exact Kd.R_mono (Kd.R_far (p := ⟨gb205, 0, none⟩) (Kd.R_types HO215.out BK205.out (by decide)) (fun _ hk => hk.2) (.slice Ao24 y213.length co24)) (fun _ hk => trivial)⟩, ⟨by refine zq ?_; refine blk_far ?_ NB203_205.out _; refine zq ?_; exact BK203.out⟩, ⟨by refine zq ?_; refine blk_put (cs := #[u206000, .int .i64 t204]) ?_ 0 _ rfl; refine zq ?_; exact BK205.out⟩, ⟨zw HB⟩⟩
     ·rw [if_neg c21] at H
      exact absurd H (by simp)
   ·rw [if_neg c11] at H
    have c11b0 : decide (x11_1 ≤ t206) = false := decide_eq_false c11
    clear c11
    replace H := Option.bind_eq_some_iff.mp H
    obtain ⟨t216, A260, H⟩ := H
    replace H : (if t216 = 0 then (if 0 < (x206000_1.length : Int) then (hypercubelaw1_Facts.j1 k1 l3 (x206000_1.set (0 : Int).toNat 16) t204) else (none)) else (hypercubelaw1_Facts.j1 k1 l3 x206000_1 t204)) = some (r1, r2, r3) := H
    have A26 := am A260
    clear A260
    have HC27 := am H
    clear H
    go_upto_if 48 with (first | (go_at_call 45; (with_reducible refine (hypercubelaw1_within.calls a0 4 t206 _ A10.out).mono ?_); rintro e w' ⟨rfl, ⟨nd, rfl⟩⟩) | (go_at_call 45; (with_reducible refine (hypercubelaw1_within.calls a0 7 t216 _ A26.out).mono ?_); rintro e w' ⟨rfl, ⟨nd, rfl⟩⟩))
    (try simp only [Act.put, List.setIfInBounds_toArray, List.set_cons_zero, List.set_cons_succ])
    go_cut [] (fun wc => ∃ (kq : Nat) (x206000_26 : List Int) (u206000 : Value), Aside0 (hypercubelaw1_Facts.j1 kq l3 x206000_26 t204 = some (r1, r2, r3)) ∧ Aside0 (kq ≤ k1) ∧ Aside0 (Kd.R (Kd.int .i64) 3 wc w.heap.size (fun _ => True) u206000 x206000_26) ∧ Aside0 (wc.heap[gb203]? = some (.cells #[(.slice none 0 0), .int .i64 0] 35 (0, 0))) ∧ Aside0 (wc.heap[gb205]? = some (.cells #[u206000, .int .i64 t204] 35 (0, 0))) ∧ Aside0 (Below w.heap.size w wc))
    case first =>
     have H := HC27.out
     clear HC27
     by_cases c28 : t216 = 0
     ·rw [if_pos c28] at H
      have c28b0 : (t216 == 0) = true := beq_iff_eq.mpr c28
      have c28b1 : (t216 != 0) = false := bne_eq_false_iff_eq.mpr c28
      clear c28
      (first | rw [c28b0] | (simp only [i64_w, i32_w]; rw [c28b0]) | skip)
      by_cases c29 : 0 < (x206000_1.length : Int)
      ·rw [if_pos c29] at H
       have c29b0 : decide (0 < (x206000_1.length : Int)) = true := decide_eq_true c29
       have c29b1 : decide (0 < x206000_1.length) = true := decide_eq_true (by omega)
       clear c29
       obtain ⟨y217, hy217⟩ : ∃ y_ : List Int, y_ = (x206000_1.set (0 : Int).toNat 16) := ⟨_, rfl⟩
       replace H : (hypercubelaw1_Facts.j1 k1 l3 y217 t204) = some (r1, r2, r3) := by rw [hy217]; with_reducible exact H
       have Ny217 := am hy217
       clear hy217
       have H' := am H
       clear H
       have hnb31 := NB205_203.out
       have hnc31 := NB203_205.out
       have hcz32_0 : wr.cell? ⟨gb205, 0, none⟩ = some (u206000) := (blk_cell BK205.out 0).trans rfl
       have hcz32_1 : wr.cell? ⟨gb205, 1, none⟩ = some (.int .i64 t204) := (blk_cell BK205.out 1).trans rfl
       have hfz32_0 := blk_frozen BK205.out 0
       have hfz32_1 := blk_frozen BK205.out 1
       have p30 : 0 ≤ (0 : Int) := (by omega)
       have q30 : (0 : Int) < ((x206000_1.length : Int) : Int) := zd
       have qi30 : (0 < x206000_1.length) = True := eq_true (by omega)
       obtain ⟨go30, co30, eo30, gb30, gl30, cl30, HG30⟩ := Kd.R_form HO_206000.out (by omega)
       (first | cases eo30 | (injection eo30 with ea_ en_ ec_; (first | subst ea_ | (injection ea_ with ea_; subst ea_)); subst ec_; clear en_))
       have GB30 := am gb30
       have GG30 := am HG30
       clear gb30 gl30 HG30
       obtain ⟨hx30_0, hf30_0⟩ := Kd.R_celln 0 HO_206000.out (0 : Int) p30 q30
       (try rw [show ((0 : Int)).toNat = 0 from rfl] at hx30_0)
       (try simp only [Nat.reduceMul, Nat.zero_mul, Nat.zero_add, Nat.reduceAdd] at hx30_0)
       (try rw [show ((0 : Int)).toNat = 0 from rfl] at hf30_0)
       (try simp only [Nat.reduceMul, Nat.zero_mul, Nat.zero_add, Nat.reduceAdd] at hf30_0)
       replace p30 := eq_true p30
       replace q30 := eq_true q30
       have HP33 := Kd.R_putg HO_206000.out (0 : Int) 16
       go_wp2_with (first | ((with_reducible refine gate_store (t := 3) (p := 51) rfl ?_); refine store_event (t := 3) (p := 51) (v := ?vo_w34) (w1 := (wr.setCell ⟨go30, (0 : Int).toNat, none⟩ (.int .i64 16))) ?hg ?ho ?hn ?hr ?_; (case ho => rfl); (case hg => rfl); (case hn => rfl); (case hr => first | (go_simp; done) | (go_simp; rfl)); intro w34 hw; have hg : wr.grownBy w34 (some go30) := (by rw [hw]; exact HP33.2); have hp_ : Kd.R (Kd.int .i64) 3 w34 w.heap.size (fun _ => True) (.slice (some ⟨go30, 0, none⟩) x206000_1.length co30) y217 := (by rw [hw, Ny217.out]; exact HP33.1); clear HP33; have n0_ := am (hp_); have n1_ := am (blk_grown (bmv BK203.out) hg (Kd.R_ne HO_206000.out BK203.out (by decide))); have n2_ := am (blk_grown (bmv BK205.out) hg (Kd.R_ne HO_206000.out BK205.out (by decide))); have n3_ := am ((by rw [hw]; exact below_set (HB.out) GB30.out : Below w.heap.size w w34)); clear HO_206000 BK203 BK205 HB; revert n0_ n1_ n2_ n3_; intro HO_206000 BK203 BK205 HB; clear hg hw hp_))
       go_meet
       case rel => exact ⟨_, (y217), (.slice (some ⟨go30, 0, none⟩) x206000_1.length co30), H', ⟨by have := HK1.out; first | omega | exact Nat.le_refl _⟩, ⟨by rw [Ny217.out]; exact (Kd.R_putg (Kd.R_drewN HO_206000.out _) (0 : Int) 16).1⟩, ⟨blk_grown (blk_drewN BK203.out _) (Kd.R_putg (Kd.R_drewN HO_206000.out _) (0 : Int) 16).2 (Kd.R_ne HO_206000.out BK203.out (by decide))⟩, ⟨blk_grown (blk_drewN BK205.out _) (Kd.R_putg (Kd.R_drewN HO_206000.out _) (0 : Int) 16).2 (Kd.R_ne HO_206000.out BK205.out (by decide))⟩, ⟨below_set (pw_below_drewN HB.out _) GB30.out⟩⟩
      ·rw [if_neg c29] at H
       exact absurd H (by simp)
     ·rw [if_neg c28] at H
      have c28b0 : (t216 == 0) = false := beq_eq_false_iff_ne.mpr c28
      have c28b1 : (t216 != 0) = true := bne_iff_ne.mpr c28
      (first | rw [c28b0] | (simp only [i64_w, i32_w]; rw [c28b0]) | skip)
      have H' := am H
      clear H
      go_wp2
      go_meet
      case rel => exact ⟨_, (x206000_1), (u206000), H', ⟨by have := HK1.out; first | omega | exact Nat.le_refl _⟩, ⟨by refine zr ?_; exact HO_206000.out⟩, ⟨by refine zq ?_; exact BK203.out⟩, ⟨by refine zq ?_; exact BK205.out⟩, ⟨zw HB⟩⟩
    case rest =>
     clear HC27
     try clear c1
     try clear c2
     try clear p2
     try clear q2
     try clear hx2
     try clear c3
     try clear p3
     try clear q3
     try clear hx3
     try clear qi3
     try clear c4
     try clear p6
     try clear c8
     try clear c11
     try clear c11b0
     try clear c12
     try clear c12b0
     try clear c13
     try clear c13b0
     try clear c15
     try clear p20
     try clear q20
     try clear hx20
     try clear c21
     try clear c23
     try clear c28
     try clear c28b0
     try clear c28b1
     try clear c29
     try clear c29b0
     try clear c29b1
     try clear p30
     try clear q30
     try clear hx30
     try clear qi30
     try clear hf30
     try clear c31
     try clear hcz32_0
     try clear hcz32_1
     try clear hcz9_0
     try clear hcz9_1
     try clear hfz32_0
     try clear hfz32_1
     try clear hfz9_0
     try clear hfz9_1
     try clear hx207_0
     try clear hx30_0
     try clear p2
     try clear p207
     try clear p30
     try clear q207
     try clear q30
     obtain ⟨kq, x206000_26, u206000, HA, HJ26, HO_206000, BK203, BK205, HB⟩ := hcut
     cases kq with
     | zero => exact absurd HA.out (by simp [hypercubelaw1_Facts.j1])
     | succ kj26 =>
      have H := HA.out
      clear HA
      simp only [hypercubelaw1_Facts.j1] at H
      have H' := am H
      clear H
      go_wp2
      go_loopg [13, 14] kj26 (fun kq v13 v14 w' => ∃ (x13_3 : List (S45)) (x14_3 : Int), v14 = .int .i64 x14_3 ∧ Aside0 (hypercubelaw1_Facts.l1 kq l3 x13_3 x14_3 x206000_26 t204 = some (r1, r2, r3)) ∧ Aside0 (kq ≤ kj26) ∧ Aside0 (Kd.S k45 45 w' w.heap.size (fun k_ => some k_ ≠ (u206000 : Value).ownBlock) v13 x13_3) ∧ Aside0 (Kd.R (Kd.int .i64) 3 w' w.heap.size (fun _ => True) u206000 x206000_26) ∧ Aside0 (w'.heap[gb203]? = some (.cells #[(.slice none 0 0), .int .i64 0] 35 (0, 0))) ∧ Aside0 (w'.heap[gb205]? = some (.cells #[u206000, .int .i64 t204] 35 (0, 0))) ∧ Aside0 (Below w.heap.size w w'))
      case atStart => exact ⟨(([] : List (S45))), (0), zz, H', ⟨Nat.le_refl _⟩, ⟨by first | exact Kd.S_nil _ _ _ _ _ | exact Kd.N_nil _ _ _ _ _ | exact Kd.V_nil _ _ _ _ _ | exact Kd.Q_nil _ _ _ _ _ | exact Kd.R_nil _ _ _ _ _⟩, ⟨by refine zr ?_; exact HO_206000.out⟩, ⟨by refine zq ?_; exact BK203.out⟩, ⟨by refine zq ?_; exact BK205.out⟩, ⟨zw HB⟩⟩
      case round =>
       clear H'
       try clear c1
       try clear c2
       try clear p2
       try clear q2
       try clear hx2
       try clear c3
       try clear p3
       try clear q3
       try clear hx3
       try clear qi3
       try clear c4
       try clear p6
       try clear c8
       try clear c11
       try clear c11b0
       try clear c12
       try clear c12b0
       try clear c13
       try clear c13b0
       try clear c15
       try clear p20
       try clear q20
       try clear hx20
       try clear c21
       try clear c23
       try clear c28
       try clear c28b0
       try clear c28b1
       try clear c29
       try clear c29b0
       try clear c29b1
       try clear p30
       try clear q30
       try clear hx30
       try clear qi30
       try clear hf30
       try clear c31
       try clear hcz32_0
       try clear hcz32_1
       try clear hcz9_0
       try clear hcz9_1
       try clear hfz32_0
       try clear hfz32_1
       try clear hfz9_0
       try clear hfz9_1
       try clear hx207_0
       try clear hx30_0
       try clear p2
       try clear p20
       try clear p207
       try clear p3
       try clear p30
       try clear p6
       try clear q2
       try clear q20
       try clear q207
       try clear q3
       try clear q30
       obtain ⟨x13_3, x14_3, rfl, HA, HK3, HO_13, HO_206000, BK203, BK205, HB⟩ := hrel
       cases gk with
       | zero => exact absurd HA.out (by simp [hypercubelaw1_Facts.l1])
       | succ k3 =>
        have H := HA.out
        clear HA
        simp only [hypercubelaw1_Facts.l1] at H
        have HC35 := am H
        clear H
        go_upto_region 13 with (fail)
        go_cut [59] (fun v59 wc => ∃ (kq : Nat) (x59_34 : Bool), v59 = .bool x59_34 ∧ Aside0 (hypercubelaw1_Facts.j3 kq l3 x13_3 x14_3 x59_34 x206000_26 t204 = some (r1, r2, r3)) ∧ Aside0 (kq ≤ k3) ∧ Aside0 (Kd.S k45 45 wc w.heap.size (fun k_ => some k_ ≠ (u206000 : Value).ownBlock) u13 x13_3) ∧ Aside0 (Kd.R (Kd.int .i64) 3 wc w.heap.size (fun _ => True) u206000 x206000_26) ∧ Aside0 (wc.heap[gb203]? = some (.cells #[(.slice none 0 0), .int .i64 0] 35 (0, 0))) ∧ Aside0 (wc.heap[gb205]? = some (.cells #[u206000, .int .i64 t204] 35 (0, 0))) ∧ Aside0 (Below w.heap.size w wc))
        case first =>
         have H := HC35.out
         clear HC35
         by_cases c36 : x14_3 < (l3.length : Int)
         ·rw [if_pos c36] at H
          have c36b0 : decide (x14_3 < (l3.length : Int)) = true := decide_eq_true c36
          clear c36
          (first | rw [c36b0] | (simp only [i64_w, i32_w]; rw [c36b0]) | skip)
          have H' := am H
          clear H
          go_wp2
          go_meet
          case rel => exact ⟨_, (decide (x14_3 < 40)), zz, H', ⟨by have := HK1.out; have := HJ26.out; have := HK3.out; first | omega | exact Nat.le_refl _⟩, ⟨by (with_reducible repeat (first | apply Kd.S_alloc | apply Kd.S_drewN | apply Kd.S_drew)); exact HO_13.out⟩, ⟨by refine zr ?_; exact HO_206000.out⟩, ⟨by refine zq ?_; exact BK203.out⟩, ⟨by refine zq ?_; exact BK205.out⟩, ⟨zw HB⟩⟩
         ·rw [if_neg c36] at H
          have c36b0 : decide (x14_3 < (l3.length : Int)) = false := decide_eq_false c36
          clear c36
          (first | rw [c36b0] | (simp only [i64_w, i32_w]; rw [c36b0]) | skip)
          have H' := am H
          clear H
          go_wp2
          go_meet
          case rel => exact ⟨_, (false), zz, H', ⟨by have := HK1.out; have := HJ26.out; have := HK3.out; first | omega | exact Nat.le_refl _⟩, ⟨by (with_reducible repeat (first | apply Kd.S_alloc | apply Kd.S_drewN | apply Kd.S_drew)); exact HO_13.out⟩, ⟨by refine zr ?_; exact HO_206000.out⟩, ⟨by refine zq ?_; exact BK203.out⟩, ⟨by refine zq ?_; exact BK205.out⟩, ⟨zw HB⟩⟩
        case rest =>
         clear HC35
         try clear c1
         try clear c2
         try clear p2
         try clear q2
         try clear hx2
         try clear c3
         try clear p3
         try clear q3
         try clear hx3
         try clear qi3
         try clear c4
         try clear p6
         try clear c8
         try clear c11
         try clear c11b0
         try clear c12
         try clear c12b0
         try clear c13
         try clear c13b0
         try clear c15
         try clear p20
         try clear q20
         try clear hx20
         try clear c21
         try clear c23
         try clear c28
         try clear c28b0
         try clear c28b1
         try clear c29
         try clear c29b0
         try clear c29b1
         try clear p30
         try clear q30
         try clear hx30
         try clear qi30
         try clear hf30
         try clear c31
         try clear c36
         try clear c36b0
         try clear hcz32_0
         try clear hcz32_1
         try clear hcz9_0
         try clear hcz9_1
         try clear hfz32_0
         try clear hfz32_1
         try clear hfz9_0
         try clear hfz9_1
         try clear hx207_0
         try clear hx30_0
         try clear p2
         try clear p20
         try clear p207
         try clear p3
         try clear p30
         try clear p6
         try clear q2
         try clear q20
         try clear q207
         try clear q3
         try clear q30
         obtain ⟨kq, x59_34, rfl, HA, HJ34, HO_13, HO_206000, BK203, BK205, HB⟩ := hcut
         cases kq with
         | zero => exact absurd HA.out (by simp [hypercubelaw1_Facts.j3])
         | succ kj34 =>
          have H := HA.out
          clear HA
          simp only [hypercubelaw1_Facts.j3] at H
          by_cases c37 : x59_34 = true
          ·subst c37
           have H1 : (if 0 ≤ x14_3 then (if x14_3 < (l3.length : Int) then (hypercubelaw1_Facts.l2 kj34 l3 x13_3 x14_3 (rd l3 x14_3) 0 x206000_26 t204 ([] : List Int)) else (none)) else (none)) = some (r1, r2, r3) := by rw [if_pos rfl] at H; exact H
           clear H
           have H := H1
           clear H1
           by_cases c38 : 0 ≤ x14_3
           ·rw [if_pos c38] at H
            have c38b0 : decide (0 ≤ x14_3) = true := decide_eq_true c38
            clear c38
            by_cases c39 : x14_3 < (l3.length : Int)
            ·rw [if_pos c39] at H
             have c39b0 : decide (x14_3 < (l3.length : Int)) = true := decide_eq_true c39
             clear c39
             have H' := am H
             clear H
             have p218 : 0 ≤ (x14_3 : Int) := zd
             have q218 : x14_3 < (l3.length : Int) := zd
             obtain ⟨ad218, e218, hx218_0⟩ := Kd.at_int HR3.out x14_3 p218 q218
             cases e218
             replace hx218_0 := zc HB hx218_0
             replace p218 := eq_true p218
             replace q218 := eq_true q218
             go_wp2_with (first | ((with_reducible refine gate_dst (N := 16) rfl ?_); refine zX #[.slice none 0 0, .slice none 0 0] 45 ?_; intro gb219 hg w40 hbox hb; have n0_ := am (Kd.S_below (Kd.S_elderB (Kd.S_mv HO_13.out) gb219 (Nat.le_of_eq hg.symm)) hb); have n1_ := am (Kd.R_below (Kd.R_mv HO_206000.out) hb); have n2_ := am (blk_below (bmv BK203.out) hb); have n3_ := am (blk_below (bmv BK205.out) hb); have n4_ := am (below_step (wmv HB.out) hb); have n5_ := am (hbox); have n6_ := am ((by rw [hg]; exact (below_size (wmv HB.out)) : w.heap.size ≤ gb219)); have n7_ := am ((by rw [hg]; exact (below_size (wmv HB.out)) : w.heap.size ≤ gb219)); have n8_ := am ((by rw [hg]; exact Nat.ne_of_lt (blk_lt (bmv BK203.out)) : gb203 ≠ gb219)); have n9_ := am ((by rw [hg]; exact Nat.ne_of_gt (blk_lt (bmv BK203.out)) : gb219 ≠ gb203)); have n10_ := am ((by rw [hg]; exact Nat.ne_of_lt (blk_lt (bmv BK205.out)) : gb205 ≠ gb219)); have n11_ := am ((by rw [hg]; exact Nat.ne_of_gt (blk_lt (bmv BK205.out)) : gb219 ≠ gb205)); clear HO_13 HO_206000 BK203 BK205 HB; revert n0_ n1_ n2_ n3_ n4_ n5_ n6_ n7_ n8_ n9_ n10_ n11_; intro HO_13 HO_206000 BK203 BK205 HB BK219 GW219 GE219 NB203_219 NB219_203 NB205_219 NB219_205; clear hb hbox hg))
             go_loopg [15, 17] kj34 (fun kq v15 v17 w' => ∃ (x15_5 : Int) (x17_5 : Int) (x220000_5 : List Int) (u220000 : Value), v15 = .int .i64 x15_5 ∧ v17 = .int .i64 x17_5 ∧ Aside0 (hypercubelaw1_Facts.l2 kq l3 x13_3 x14_3 x15_5 x17_5 x206000_26 t204 x220000_5 = some (r1, r2, r3)) ∧ Aside0 (kq ≤ kj34) ∧ Aside0 (Kd.S k45 45 w' w.heap.size (fun k_ => some k_ ≠ (u206000 : Value).ownBlock ∧ some k_ ≠ (u220000 : Value).ownBlock ∧ k_ ≠ gb219) u13 x13_3) ∧ Aside0 (Kd.R (Kd.int .i64) 3 w' w.heap.size (fun k_ => some k_ ≠ (u220000 : Value).ownBlock) u206000 x206000_26) ∧ Aside0 (Kd.R (Kd.int .i64) 3 w' w.heap.size (fun k_ => some k_ ≠ (u206000 : Value).ownBlock) u220000 x220000_5) ∧ Aside0 (w'.heap[gb203]? = some (.cells #[(.slice none 0 0), .int .i64 0] 35 (0, 0))) ∧ Aside0 (w'.heap[gb205]? = some (.cells #[u206000, .int .i64 t204] 35 (0, 0))) ∧ Aside0 (w'.heap[gb219]? = some (.cells #[u220000, (.slice none 0 0)] 45 (0, 0))) ∧ Aside0 (Below w.heap.size w w'))
             case atStart => exact ⟨(rd l3 x14_3), (0), (([] : List Int)), (.slice none 0 0), zz, zz, H', ⟨Nat.le_refl _⟩, ⟨by (with_reducible repeat (first | apply Kd.S_alloc | apply Kd.S_drewN | apply Kd.S_drew)); exact Kd.S_mono HO_13.out (fun _ hk => ⟨hk.1, ⟨(by simp [Value.ownBlock]), hk.2⟩⟩)⟩, ⟨by refine zr ?_; exact Kd.R_mono HO_206000.out (fun _ hk => (by simp [Value.ownBlock]))⟩, ⟨by first | exact Kd.R_nil _ _ _ _ _ | exact Kd.N_nil _ _ _ _ _ | exact Kd.V_nil _ _ _ _ _ | exact Kd.Q_nil _ _ _ _ _ | exact Kd.S_nil _ _ _ _ _⟩, ⟨by refine zq ?_; exact BK203.out⟩, ⟨by refine zq ?_; exact BK205.out⟩, ⟨by refine zq ?_; exact BK219.out⟩, ⟨zw HB⟩⟩
             case round =>
              clear H'
              try clear c1
              try clear c2
              try clear p2
              try clear q2
              try clear hx2
              try clear c3
              try clear p3
              try clear q3
              try clear hx3
              try clear qi3
              try clear c4
              try clear p6
              try clear c8
              try clear c11
              try clear c11b0
              try clear c12
              try clear c12b0
              try clear c13
              try clear c13b0
              try clear c15
              try clear p20
              try clear q20
              try clear hx20
              try clear c21
              try clear p21
              try clear q21
              try clear hx21
              try clear c23
              try clear c28
              try clear c28b0
              try clear c28b1
              try clear c29
              try clear c29b0
              try clear c29b1
              try clear p30
              try clear q30
              try clear hx30
              try clear qi30
              try clear hf30
              try clear c31
              try clear c36
              try clear c36b0
              try clear c37
              try clear c38
              try clear c38b0
              try clear c39
              try clear c39b0
              try clear hcz32_0
              try clear hcz32_1
              try clear hcz9_0
              try clear hcz9_1
              try clear hfz32_0
              try clear hfz32_1
              try clear hfz9_0
              try clear hfz9_1
              try clear hx207_0
              try clear hx218_0
              try clear hx30_0
              try clear p2
              try clear p20
              try clear p207
              try clear p218
              try clear p3
              try clear p30
              try clear p6
              try clear q2
              try clear q20
              try clear q207
              try clear q218
              try clear q3
              try clear q30
              obtain ⟨x15_5, x17_5, x220000_5, u220000, rfl, rfl, HA, HK5, HO_13, HO_206000, HO_220000, BK203, BK205, BK219, HB⟩ := hrel
              cases gk with
              | zero => exact absurd HA.out (by simp [hypercubelaw1_Facts.l2])
              | succ k5 =>
               have H := HA.out
               clear HA
               simp only [hypercubelaw1_Facts.l2] at H
               by_cases c41 : x17_5 < (x206000_26.length : Int)
               ·rw [if_pos c41] at H
                have c41b0 : decide (x17_5 < (x206000_26.length : Int)) = true := decide_eq_true c41
                clear c41
                by_cases c42 : 0 ≤ x17_5
                ·rw [if_pos c42] at H
                 have c42b0 : decide (0 ≤ x17_5) = true := decide_eq_true c42
                 clear c42
                 replace H := Option.bind_eq_some_iff.mp H
                 obtain ⟨t221, A430, H⟩ := H
                 replace H : (if x220000_5.length < 17592186044416 then (hypercubelaw1_Facts.l2 k5 l3 x13_3 x14_3 (wrap64 (Int.tdiv x15_5 5)) (wrap64 (x17_5 + 1)) x206000_26 t204 (x220000_5 ++ [t221])) else (none)) = some (r1, r2, r3) := H
                 have A43 := am A430
                 clear A430
                 by_cases c44 : x220000_5.length < 17592186044416
                 ·rw [if_pos c44] at H
                  have LMc44 := am c44
                  clear c44
                  obtain ⟨y222, hy222⟩ : ∃ y_ : List Int, y_ = (x220000_5 ++ [t221]) := ⟨_, rfl⟩
                  replace H : (hypercubelaw1_Facts.l2 k5 l3 x13_3 x14_3 (wrap64 (Int.tdiv x15_5 5)) (wrap64 (x17_5 + 1)) x206000_26 t204 y222) = some (r1, r2, r3) := by rw [hy222]; with_reducible exact H
                  have Ny222 := am hy222
                  clear hy222
                  have H' := am H
                  clear H
                  have hnb45 := NB205_203.out
                  have hnc45 := NB203_205.out
                  have hnb46 := NB205_219.out
                  have hnc46 := NB219_205.out
                  have hcz47_0 : wr.cell? ⟨gb205, 0, none⟩ = some (u206000) := (blk_cell BK205.out 0).trans rfl
                  have hcz47_1 : wr.cell? ⟨gb205, 1, none⟩ = some (.int .i64 t204) := (blk_cell BK205.out 1).trans rfl
                  have hfz47_0 := blk_frozen BK205.out 0
                  have hfz47_1 := blk_frozen BK205.out 1
                  obtain ⟨Ao48, co48, eo48⟩ := Kd.R_slice HO_206000.out
                  subst eo48
                  try go_wp2
                  have n0_ := am (Kd.S_drew HO_13.out)
                  have n1_ := am (Kd.R_drew HO_206000.out)
                  have n2_ := am (Kd.R_drew HO_220000.out)
                  have n3_ := am (blk_drew BK203.out)
                  have n4_ := am (blk_drew BK205.out)
                  have n5_ := am (blk_drew BK219.out)
                  have n6_ := am (below_drew1 HB.out)
                  clear HO_13 HO_206000 HO_220000 BK203 BK205 BK219 HB
                  revert n0_ n1_ n2_ n3_ n4_ n5_ n6_
                  intro HO_13 HO_206000 HO_220000 BK203 BK205 BK219 HB
                  have p220 : 0 ≤ (x17_5 : Int) := zd
                  have q220 : x17_5 < (x206000_26.length : Int) := zd
                  obtain ⟨ad220, e220, hx220_0⟩ := Kd.at_int (Kd.R_reads' HO_206000.out).2.2 x17_5 p220 q220
                  cases e220
                  replace p220 := eq_true p220
                  replace q220 := eq_true q220
                  refine start_ (n := 13) (S := fun w' => w'.cell? ⟨gb219, 0, none⟩ = some (u220000) ∧ w'.cell? ⟨gb219, 1, none⟩ = some (.slice none 0 0) ∧ w'.cell? ⟨gb205, 0, none⟩ = some (.slice (some ad220) x206000_26.length co48) ∧ w'.cell? ⟨gb205, 1, none⟩ = some (.int .i64 t204) ∧ w'.cell? (ad220.add (x17_5).toNat) = some (.int .i64 (rd x206000_26 x17_5))) (ds := [10, 12]) (bb 13 0) (by kernel_rfl) rfl rfl ⟨bc BK219 0, bc BK219 1, bc BK205 0, bc BK205 1, hx220_0⟩ (fun hHeld => ?_); refine with_tabW hypercubelaw1_Facts.tab20 hypercubelaw1_Facts.bits20 (fun HT_ HW_ => ?_)
                  generalize wr.drew = w49 at HO_13 HO_206000 HO_220000 BK203 BK205 BK219 HB hx220_0 hHeld ⊢
                  refine zu 0 (some 73) (bb 13 1) HT_ ?_
                  refine zu 2 (some 75) (bb 13 5) HT_ ?_
                  refine zu 3 (some 76) (bb 13 13) HT_ ?_
                  refine zu 5 (some 78) (bb 13 45) HT_ ?_
                  refine zk 1 (some 74) (bb 13 47) HT_ HW_ hHeld ?_
                  refine zk 4 (some 77) (bb 13 63) HT_ HW_ hHeld ?_
                  refine zu 6 (some 79) (bb 13 127) HT_ ?_
                  refine zk 7 (some 80) (bb 13 255) HT_ HW_ hHeld ?_
                  refine zo 8 (some 81) (bb 13 511) HT_ (fun K hK => ?_)
                  refine goes_ Try.func45 (by kernel_rfl) rfl #[.int .i64 x15_5, .int .i64 (rd x206000_26 x17_5)] (by rfl) rfl rfl zm ?_
                  with_reducible refine (hypercubelaw1_within.calls x15_5 (rd x206000_26 x17_5) t221 _ A43.out).mono ?_
                  rintro e w' ⟨rfl, ⟨nd, rfl⟩⟩
                  refine ⟨_, rfl, ?_⟩
                  refine hK.out _ _ ⟨bc BK219 0, bc BK219 1, bc BK205 0, bc BK205 1, hHeld.2.2.2.2⟩ (fun hHeld => ?_)
                  clear hK K
                  refine nm ?_
                  refine zo 9 (some 82) (bb 13 1023) HT_ (fun K hK => ?_)
                  refine value_ (w1 := ?_) (v := ?_) (by rfl) rfl ?_ ?_
                  rotate_left 2
                  ·go_simp
                   constructor
                   ·rfl
                   ·rfl
                  refine hK.out _ _ ⟨(blk_cell (blk_alloc BK219.out _) 0).trans rfl, (blk_cell (blk_alloc BK219.out _) 1).trans rfl, (blk_cell (blk_alloc BK205.out _) 0).trans rfl, (blk_cell (blk_alloc BK205.out _) 1).trans rfl, (World.cell?_alloc_lt _ _ _ (World.block_lt_of_cell? _ _ (hHeld.2.2.2.2))).trans (hHeld.2.2.2.2)⟩ (fun hHeld => ?_)
                  clear hK K
                  refine nm ?_
                  refine last_ (i := 10) (N := some 83) (bb 13 2047) rfl rfl (one_of HT_.out (by kernel_rfl)) (by decide) (fun K hK => ?_)
                  refine Kd.R_append_step (Kd.int .i64) (w0 := w) w.heap.size (by rfl) (.tmp 74) (.tmp 82) 22 3 (.int .i64 0) 8 rfl Try.underlying22 info3 rfl (by decide) (by omega) u220000 x220000_5 t221 [.int .i64 t221] (fun k_ => some k_ ≠ (.slice (some ad220) x206000_26.length co48 : Value).ownBlock) (fun _ => False) rfl rfl ?aP (fun _ hk => hk.elim) ?aF ?aO ?aB ?aS ?aL ?_
                  (case aP => exact rfl)
                  (case aB => exact (wmv HB.out))
                  (case aF => exact (fun k_ hk => Kd.fresh' (Kd.R_lt (Kd.R_mv HO_206000.out)) k_ hk))
                  (case aO => exact (Kd.R_mv HO_220000.out))
                  (case aS => exact (below_size (wmv HB.out)))
                  (case aL => have := LMc44.out; omega)
                  intro v223 w50 ho hb hg hat
                  rw [← Ny222.out] at ho
                  have n0_ := am (Kd.S_after (ok := (fun k_ => some k_ ≠ (.slice (some ad220) x206000_26.length co48 : Value).ownBlock ∧ k_ ≠ gb219)) (Kd.S_mv (Kd.S_mono HO_13.out (fun _ hk => ⟨⟨hk.1, hk.2.2⟩, hk.2.1⟩))) hg hat)
                  have n1_ := am (Kd.R_after (ok := (fun _ => True)) (Kd.R_mv (Kd.R_mono HO_206000.out (fun _ hk => ⟨trivial, hk⟩))) hg hat)
                  have n2_ := am (blk_grown (bmv BK203.out) hg (Kd.R_ne HO_220000.out BK203.out (by decide)))
                  have n3_ := am (blk_grown (bmv BK205.out) hg (Kd.R_ne HO_220000.out BK205.out (by decide)))
                  have n4_ := am (blk_grown (bmv BK219.out) hg (Kd.R_ne HO_220000.out BK219.out (by decide)))
                  have n5_ := am (hb)
                  have n6_ := am (ho)
                  clear HO_13 HO_206000 BK203 BK205 BK219 HB HO_220000
                  revert n0_ n1_ n2_ n3_ n4_ n5_ n6_
                  intro HO_13 HO_206000 BK203 BK205 BK219 HB HO224
                  clear ho hb hg hat
                  obtain ⟨Ao51, co51, eo51⟩ := Kd.R_slice HO224.out
                  (first | subst eo51 | (injection eo51 with f1_ f2_ f3_; have f4_ := f1_.symm; have f5_ := f3_.symm; clear f1_ f2_ f3_; subst f4_; subst f5_))
                  refine hK.out _ _ ?_
                  clear hK K
                  refine nm ?_
                  refine zu 11 (some 84) (bb 13 4095) HT_ ?_
                  refine last_ (i := 12) (N := none) (bb 13 8191) rfl rfl (one_of HT_.out (by kernel_rfl)) (by decide) (fun K hK => ?_)
                  have hs52 : w50.cell? ⟨gb219, 0, none⟩ = some (u220000) := (blk_cell BK219.out 0).trans rfl
                  have hfs52 := blk_frozen BK219.out 0
                  have hns52_0 := NB203_219.out
                  have hns52_1 := NB205_219.out
                  have hms52_0 := NB219_203.out
                  have hms52_1 := NB219_205.out
                  refine skip_ (w1 := ?_) (by rfl) rfl ?_ ?_
                  rotate_left
                  ·go_simp
                   rfl
                  refine hK.out _ _ ?_
                  clear hK K
                  refine done_ (done_of HT_.out (by kernel_rfl)) ?_
                  try go_wp2
                  go_roundg k5
                  case measure => have := HK1.out; have := HJ26.out; have := HK3.out; have := HJ34.out; have := HK5.out; omega
                  case rel => exact ⟨(wrap64 (Int.tdiv x15_5 5)), (wrap64 (x17_5 + 1)), (y222), (.slice Ao51 y222.length co51), zz, zz, H', ⟨by have := HK1.out; have := HJ26.out; have := HK3.out; have := HJ34.out; have := HK5.out; omega⟩, ⟨by (with_reducible repeat (first | apply Kd.S_alloc | apply Kd.S_drewN | apply Kd.S_drew)); exact Kd.S_mono (Kd.S_far (p := ⟨gb219, 0, none⟩) (Kd.S_mono HO_13.out (fun k_ hk => (⟨hk, hk.1.2⟩ : _ ∧ k_ ≠ gb219))) (fun _ hk => hk.2) (.slice Ao51 y222.length co51)) (fun _ hk => ⟨hk.1.1.1, ⟨hk.1.2, hk.1.1.2⟩⟩)⟩, ⟨by refine zr ?_; exact Kd.R_mono (Kd.R_far (p := ⟨gb219, 0, none⟩) (Kd.R_types HO_206000.out BK219.out (by decide)) (fun _ hk => hk.2) (.slice Ao51 y222.length co51)) (fun _ hk => hk.1.2)⟩, ⟨by refine zr ?_; exact Kd.R_mono (Kd.R_far (p := ⟨gb219, 0, none⟩) (Kd.R_types HO224.out BK219.out (by decide)) (fun _ hk => hk.2) (.slice Ao51 y222.length co51)) (fun _ hk => hk.1)⟩, ⟨by refine zq ?_; refine blk_far ?_ NB203_219.out _; refine zq ?_; exact BK203.out⟩, ⟨by refine zq ?_; refine blk_far ?_ NB205_219.out _; refine zq ?_; exact BK205.out⟩, ⟨by refine zq ?_; refine blk_put (cs := #[u220000, .slice none 0 0]) ?_ 0 _ rfl; refine zq ?_; exact BK219.out⟩, ⟨zw HB⟩⟩
                 ·rw [if_neg c44] at H
                  exact absurd H (by simp)
                ·rw [if_neg c42] at H
                 exact absurd H (by simp)
               ·rw [if_neg c41] at H
                have c41b0 : decide (x17_5 < (x206000_26.length : Int)) = false := decide_eq_false c41
                clear c41
                have H' := am H
                clear H
                have hnb53 := NB205_203.out
                have hnc53 := NB203_205.out
                have hnb54 := NB205_219.out
                have hnc54 := NB219_205.out
                have hcz55_0 : wr.cell? ⟨gb205, 0, none⟩ = some (u206000) := (blk_cell BK205.out 0).trans rfl
                have hcz55_1 : wr.cell? ⟨gb205, 1, none⟩ = some (.int .i64 t204) := (blk_cell BK205.out 1).trans rfl
                have hfz55_0 := blk_frozen BK205.out 0
                have hfz55_1 := blk_frozen BK205.out 1
                obtain ⟨Ao56, co56, eo56⟩ := Kd.R_slice HO_206000.out
                subst eo56
                go_wp2
                go_loopg [18] k5 (fun kq v18 w' => ∃ (x18_6 : Int) (x220001_6 : List Int) (u220001 : Value), v18 = .int .i64 x18_6 ∧ Aside0 (hypercubelaw1_Facts.l3 kq l3 x13_3 x14_3 x15_5 x18_6 x206000_26 t204 x220000_5 x220001_6 = some (r1, r2, r3)) ∧ Aside0 (kq ≤ k5) ∧ Aside0 (Kd.S k45 45 w' w.heap.size (fun k_ => some k_ ≠ ((.slice Ao56 x206000_26.length co56) : Value).ownBlock ∧ some k_ ≠ (u220000 : Value).ownBlock ∧ some k_ ≠ (u220001 : Value).ownBlock ∧ k_ ≠ gb219) u13 x13_3) ∧ Aside0 (Kd.R (Kd.int .i64) 3 w' w.heap.size (fun k_ => some k_ ≠ (u220000 : Value).ownBlock ∧ some k_ ≠ (u220001 : Value).ownBlock) (.slice Ao56 x206000_26.length co56) x206000_26) ∧ Aside0 (Kd.R (Kd.int .i64) 3 w' w.heap.size (fun k_ => some k_ ≠ ((.slice Ao56 x206000_26.length co56) : Value).ownBlock ∧ some k_ ≠ (u220001 : Value).ownBlock) u220000 x220000_5) ∧ Aside0 (Kd.R (Kd.int .i64) 3 w' w.heap.size (fun k_ => some k_ ≠ ((.slice Ao56 x206000_26.length co56) : Value).ownBlock ∧ some k_ ≠ (u220000 : Value).ownBlock) u220001 x220001_6) ∧ Aside0 (w'.heap[gb203]? = some (.cells #[(.slice none 0 0), .int .i64 0] 35 (0, 0))) ∧ Aside0 (w'.heap[gb205]? = some (.cells #[(.slice Ao56 x206000_26.length co56), .int .i64 t204] 35 (0, 0))) ∧ Aside0 (w'.heap[gb219]? = some (.cells #[u220000, u220001] 45 (0, 0))) ∧ Aside0 (Below w.heap.size w w'))
                case atStart => exact ⟨(0), (([] : List Int)), (.slice none 0 0), zz, H', ⟨Nat.le_refl _⟩, ⟨by (with_reducible repeat (first | apply Kd.S_alloc | apply Kd.S_drewN | apply Kd.S_drew)); exact Kd.S_mono HO_13.out (fun _ hk => ⟨hk.1, ⟨hk.2.1, ⟨(by simp [Value.ownBlock]), hk.2.2⟩⟩⟩)⟩, ⟨by refine zr ?_; exact Kd.R_mono HO_206000.out (fun _ hk => ⟨hk, (by simp [Value.ownBlock])⟩)⟩, ⟨by refine zr ?_; exact Kd.R_mono HO_220000.out (fun _ hk => ⟨hk, (by simp [Value.ownBlock])⟩)⟩, ⟨by first | exact Kd.R_nil _ _ _ _ _ | exact Kd.N_nil _ _ _ _ _ | exact Kd.V_nil _ _ _ _ _ | exact Kd.Q_nil _ _ _ _ _ | exact Kd.S_nil _ _ _ _ _⟩, ⟨by refine zq ?_; exact BK203.out⟩, ⟨by refine zq ?_; exact BK205.out⟩, ⟨by refine zq ?_; exact BK219.out⟩, ⟨zw HB⟩⟩
                case round =>
                 clear H'
                 try clear c1
                 try clear c2
                 try clear p2
                 try clear q2
                 try clear hx2
                 try clear c3
                 try clear p3
                 try clear q3
                 try clear hx3
                 try clear qi3
                 try clear c4
                 try clear c5
                 try clear p6
                 try clear c8
                 try clear c11
                 try clear c11b0
                 try clear c12
                 try clear c12b0
                 try clear c13
                 try clear c13b0
                 try clear c15
                 try clear p20
                 try clear q20
                 try clear hx20
                 try clear c21
                 try clear p21
                 try clear q21
                 try clear hx21
                 try clear p22
                 try clear q22
                 try clear hx22
                 try clear c23
                 try clear c28
                 try clear c28b0
                 try clear c28b1
                 try clear c29
                 try clear c29b0
                 try clear c29b1
                 try clear p30
                 try clear q30
                 try clear hx30
                 try clear qi30
                 try clear hf30
                 try clear c31
                 try clear c36
                 try clear c36b0
                 try clear c37
                 try clear c38
                 try clear c38b0
                 try clear c39
                 try clear c39b0
                 try clear c41
                 try clear c41b0
                 try clear c42
                 try clear c42b0
                 try clear c44
                 try clear c45
                 try clear c46
                 try clear c53
                 try clear c54
                 try clear hcz32_0
                 try clear hcz32_1
                 try clear hcz47_0
                 try clear hcz47_1
                 try clear hcz55_0
                 try clear hcz55_1
                 try clear hcz9_0
                 try clear hcz9_1
                 try clear hfz32_0
                 try clear hfz32_1
                 try clear hfz47_0
                 try clear hfz47_1
                 try clear hfz55_0
                 try clear hfz55_1
                 try clear hfz9_0
                 try clear hfz9_1
                 try clear hx207_0
                 try clear hx218_0
                 try clear hx220_0
                 try clear hx30_0
                 try clear p2
                 try clear p20
                 try clear p207
                 try clear p21
                 try clear p218
                 try clear p220
                 try clear p3
                 try clear p30
                 try clear p6
                 try clear q2
                 try clear q20
                 try clear q207
                 try clear q21
                 try clear q218
                 try clear q220
                 try clear q3
                 try clear q30
                 obtain ⟨x18_6, x220001_6, u220001, rfl, HA, HK6, HO_13, HO_206000, HO_220000, HO_220001, BK203, BK205, BK219, HB⟩ := hrel
                 cases gk with
                 | zero => exact absurd HA.out (by simp [hypercubelaw1_Facts.l3])
                 | succ k6 =>
                  have H := HA.out
                  clear HA
                  simp only [hypercubelaw1_Facts.l3] at H
                  by_cases c57 : x18_6 < t204
                  ·rw [if_pos c57] at H
                   have c57b0 : decide (x18_6 < t204) = true := decide_eq_true c57
                   clear c57
                   replace H := Option.bind_eq_some_iff.mp H
                   obtain ⟨t225, A580, H⟩ := H
                   replace H : (if x220001_6.length < 17592186044416 then (hypercubelaw1_Facts.l3 k6 l3 x13_3 x14_3 x15_5 (wrap64 (x18_6 + 1)) x206000_26 t204 x220000_5 (x220001_6 ++ [wrap64 (t225 - 100)])) else (none)) = some (r1, r2, r3) := H
                   have A58 := am A580
                   clear A580
                   by_cases c59 : x220001_6.length < 17592186044416
                   ·rw [if_pos c59] at H
                    have LMc59 := am c59
                    clear c59
                    obtain ⟨y226, hy226⟩ : ∃ y_ : List Int, y_ = (x220001_6 ++ [wrap64 (t225 - 100)]) := ⟨_, rfl⟩
                    replace H : (hypercubelaw1_Facts.l3 k6 l3 x13_3 x14_3 x15_5 (wrap64 (x18_6 + 1)) x206000_26 t204 x220000_5 y226) = some (r1, r2, r3) := by rw [hy226]; with_reducible exact H
                    have Ny226 := am hy226
                    clear hy226
                    have H' := am H
                    clear H
                    have hnb60 := NB205_203.out
                    have hnc60 := NB203_205.out
                    have hnb61 := NB205_219.out
                    have hnc61 := NB219_205.out
                    have hcz62_0 : wr.cell? ⟨gb205, 0, none⟩ = some (.slice Ao56 x206000_26.length co56) := (blk_cell BK205.out 0).trans rfl
                    have hcz62_1 : wr.cell? ⟨gb205, 1, none⟩ = some (.int .i64 t204) := (blk_cell BK205.out 1).trans rfl
                    have hfz62_0 := blk_frozen BK205.out 0
                    have hfz62_1 := blk_frozen BK205.out 1
                    try go_wp2
                    have n0_ := am (Kd.S_drew HO_13.out)
                    have n1_ := am (Kd.R_drew HO_206000.out)
                    have n2_ := am (Kd.R_drew HO_220000.out)
                    have n3_ := am (Kd.R_drew HO_220001.out)
                    have n4_ := am (blk_drew BK203.out)
                    have n5_ := am (blk_drew BK205.out)
                    have n6_ := am (blk_drew BK219.out)
                    have n7_ := am (below_drew1 HB.out)
                    clear HO_13 HO_206000 HO_220000 HO_220001 BK203 BK205 BK219 HB
                    revert n0_ n1_ n2_ n3_ n4_ n5_ n6_ n7_
                    intro HO_13 HO_206000 HO_220000 HO_220001 BK203 BK205 BK219 HB
                    refine start_ (n := 12) (S := fun w' => w'.cell? ⟨gb219, 0, none⟩ = some (u220000) ∧ w'.cell? ⟨gb219, 1, none⟩ = some (u220001)) (ds := [11]) (bb 12 0) (by kernel_rfl) rfl rfl ⟨bc BK219 0, bc BK219 1⟩ (fun hHeld => ?_); refine with_tabW hypercubelaw1_Facts.tab25 hypercubelaw1_Facts.bits25 (fun HT_ HW_ => ?_)
                    generalize wr.drew = w63 at HO_13 HO_206000 HO_220000 HO_220001 BK203 BK205 BK219 HB hHeld ⊢
                    refine zu 0 (some 93) (bb 12 1) HT_ ?_
                    refine zu 2 (some 95) (bb 12 5) HT_ ?_
                    refine zu 3 (some 96) (bb 12 13) HT_ ?_
                    refine zu 4 (some 97) (bb 12 29) HT_ ?_
                    refine zu 5 (some 98) (bb 12 61) HT_ ?_
                    refine zk 1 (some 94) (bb 12 63) HT_ HW_ hHeld ?_
                    refine zo 6 (some 99) (bb 12 127) HT_ (fun K hK => ?_)
                    refine goes_ Try.func45 (by kernel_rfl) rfl #[.int .i64 (wrap64 (x15_5 + (wrap64 (7 * x18_6)))), .int .i64 201] (by rfl) rfl rfl zm ?_
                    with_reducible refine (hypercubelaw1_within.calls (wrap64 (x15_5 + (wrap64 (7 * x18_6)))) 201 t225 _ A58.out).mono ?_
                    rintro e w' ⟨rfl, ⟨nd, rfl⟩⟩
                    refine ⟨_, rfl, ?_⟩
                    refine hK.out _ _ ⟨bc BK219 0, bc BK219 1⟩ (fun hHeld => ?_)
                    clear hK K
                    refine nm ?_
                    refine zu 7 (some 100) (bb 12 255) HT_ ?_
                    refine zo 8 (some 101) (bb 12 511) HT_ (fun K hK => ?_)
                    refine value_ (w1 := ?_) (v := ?_) (by rfl) rfl ?_ ?_
                    rotate_left 2
                    ·go_simp
                     constructor
                     ·rfl
                     ·rfl
                    refine hK.out _ _ ⟨(blk_cell (blk_alloc BK219.out _) 0).trans rfl, (blk_cell (blk_alloc BK219.out _) 1).trans rfl⟩ (fun hHeld => ?_)
                    clear hK K
                    refine nm ?_
                    refine zo 9 (some 102) (bb 12 1023) HT_ (fun K hK => ?_)
                    refine Kd.R_append_step (Kd.int .i64) (w0 := w) w.heap.size (by rfl) (.tmp 94) (.tmp 101) 22 3 (.int .i64 0) 8 rfl Try.underlying22 info3 rfl (by decide) (by omega) u220001 x220001_6 (wrap64 (t225 - 100)) [.int .i64 (wrap64 (t225 - 100))] (fun k_ => some k_ ≠ (.slice Ao56 x206000_26.length co56 : Value).ownBlock ∧ some k_ ≠ (u220000 : Value).ownBlock) (fun _ => False) rfl rfl ?aP (fun _ hk => hk.elim) ?aF ?aO ?aB ?aS ?aL ?_
                    (case aP => exact rfl)
                    (case aB => exact (wmv HB.out))
                    (case aF => exact (fun k_ hk => ⟨Kd.fresh' (Kd.R_lt (Kd.R_mv HO_206000.out)) k_ hk, Kd.fresh' (Kd.R_lt (Kd.R_mv HO_220000.out)) k_ hk⟩))
                    (case aO => exact (Kd.R_mv HO_220001.out))
                    (case aS => exact (below_size (wmv HB.out)))
                    (case aL => have := LMc59.out; omega)
                    intro v227 w64 ho hb hg hat
                    rw [← Ny226.out] at ho
                    have n0_ := am (Kd.S_after (ok := (fun k_ => some k_ ≠ (.slice Ao56 x206000_26.length co56 : Value).ownBlock ∧ some k_ ≠ (u220000 : Value).ownBlock ∧ k_ ≠ gb219)) (Kd.S_mv (Kd.S_mono HO_13.out (fun _ hk => ⟨⟨hk.1, ⟨hk.2.1, hk.2.2.2⟩⟩, hk.2.2.1⟩))) hg hat)
                    have n1_ := am (Kd.R_after (ok := (fun k_ => some k_ ≠ (u220000 : Value).ownBlock)) (Kd.R_mv HO_206000.out) hg hat)
                    have n2_ := am (Kd.R_after (ok := (fun k_ => some k_ ≠ (.slice Ao56 x206000_26.length co56 : Value).ownBlock)) (Kd.R_mv HO_220000.out) hg hat)
                    have n3_ := am (blk_grown (bmv BK203.out) hg (Kd.R_ne HO_220001.out BK203.out (by decide)))
                    have n4_ := am (blk_grown (bmv BK205.out) hg (Kd.R_ne HO_220001.out BK205.out (by decide)))
                    have n5_ := am (blk_grown (bmv BK219.out) hg (Kd.R_ne HO_220001.out BK219.out (by decide)))
                    have n6_ := am (hb)
                    have n7_ := am (ho)
                    clear HO_13 HO_206000 HO_220000 BK203 BK205 BK219 HB HO_220001
                    revert n0_ n1_ n2_ n3_ n4_ n5_ n6_ n7_
                    intro HO_13 HO_206000 HO_220000 BK203 BK205 BK219 HB HO228
                    clear ho hb hg hat
                    obtain ⟨Ao65, co65, eo65⟩ := Kd.R_slice HO228.out
                    (first | subst eo65 | (injection eo65 with f1_ f2_ f3_; have f4_ := f1_.symm; have f5_ := f3_.symm; clear f1_ f2_ f3_; subst f4_; subst f5_))
                    refine hK.out _ _ ⟨bc BK219 0, bc BK219 1⟩ (fun hHeld => ?_)
                    clear hK K
                    refine nm ?_
                    refine zu 10 (some 103) (bb 12 2047) HT_ ?_
                    refine last_ (i := 11) (N := none) (bb 12 4095) rfl rfl (one_of HT_.out (by kernel_rfl)) (by decide) (fun K hK => ?_)
                    have hs66 : w64.cell? ⟨gb219, 1, none⟩ = some (u220001) := (blk_cell BK219.out 1).trans rfl
                    have hfs66 := blk_frozen BK219.out 1
                    have hns66_0 := NB203_219.out
                    have hns66_1 := NB205_219.out
                    have hms66_0 := NB219_203.out
                    have hms66_1 := NB219_205.out
                    refine skip_ (w1 := ?_) (by rfl) rfl ?_ ?_
                    rotate_left
                    ·go_simp
                     rfl
                    refine hK.out _ _ ?_
                    clear hK K
                    refine done_ (done_of HT_.out (by kernel_rfl)) ?_
                    try go_wp2
                    go_roundg k6
                    case measure => have := HK1.out; have := HJ26.out; have := HK3.out; have := HJ34.out; have := HK5.out; have := HK6.out; omega
                    case rel => exact ⟨(wrap64 (x18_6 + 1)), (y226), (.slice Ao65 y226.length co65), zz, H', ⟨by have := HK1.out; have := HJ26.out; have := HK3.out; have := HJ34.out; have := HK5.out; have := HK6.out; omega⟩, ⟨by (with_reducible repeat (first | apply Kd.S_alloc | apply Kd.S_drewN | apply Kd.S_drew)); exact Kd.S_mono (Kd.S_far (p := ⟨gb219, 1, none⟩) (Kd.S_mono HO_13.out (fun k_ hk => (⟨hk, hk.1.2.2⟩ : _ ∧ k_ ≠ gb219))) (fun _ hk => hk.2) (.slice Ao65 y226.length co65)) (fun _ hk => ⟨hk.1.1.1, ⟨hk.1.1.2.1, ⟨hk.1.2, hk.1.1.2.2⟩⟩⟩)⟩, ⟨by refine zr ?_; exact Kd.R_mono (Kd.R_far (p := ⟨gb219, 1, none⟩) (Kd.R_types HO_206000.out BK219.out (by decide)) (fun _ hk => hk.2) (.slice Ao65 y226.length co65)) (fun _ hk => ⟨hk.1.1, hk.1.2⟩)⟩, ⟨by refine zr ?_; exact Kd.R_mono (Kd.R_far (p := ⟨gb219, 1, none⟩) (Kd.R_types HO_220000.out BK219.out (by decide)) (fun _ hk => hk.2) (.slice Ao65 y226.length co65)) (fun _ hk => ⟨hk.1.1, hk.1.2⟩)⟩, ⟨by refine zr ?_; exact Kd.R_mono (Kd.R_far (p := ⟨gb219, 1, none⟩) (Kd.R_types HO228.out BK219.out (by decide)) (fun _ hk => hk.2) (.slice Ao65 y226.length co65)) (fun _ hk => ⟨hk.1.1, hk.1.2⟩)⟩, ⟨by refine zq ?_; refine blk_far ?_ NB203_219.out _; refine zq ?_; exact BK203.out⟩, ⟨by refine zq ?_; refine blk_far ?_ NB205_219.out _; refine zq ?_; exact BK205.out⟩, ⟨by refine zq ?_; refine blk_put (cs := #[u220000, u220001]) ?_ 1 _ rfl; refine zq ?_; exact BK219.out⟩, ⟨zw HB⟩⟩
                   ·rw [if_neg c59] at H
                    exact absurd H (by simp)
                  ·rw [if_neg c57] at H
                   have c57b0 : decide (x18_6 < t204) = false := decide_eq_false c57
                   clear c57
                   by_cases c67 : x13_3.length < 2932031007402
                   ·rw [if_pos c67] at H
                    have LMc67 := am c67
                    clear c67
                    obtain ⟨y229, hy229⟩ : ∃ y_ : List (S45), y_ = (x13_3 ++ [(⟨x220000_5, x220001_6⟩ : S45)]) := ⟨_, rfl⟩
                    replace H : (hypercubelaw1_Facts.l1 k6 l3 y229 (wrap64 (x14_3 + 1)) x206000_26 t204) = some (r1, r2, r3) := by rw [hy229]; with_reducible exact H
                    have Ny229 := am hy229
                    clear hy229
                    have H' := am H
                    clear H
                    have hnb68 := NB205_203.out
                    have hnc68 := NB203_205.out
                    have hnb69 := NB205_219.out
                    have hnc69 := NB219_205.out
                    have hcz70_0 : wr.cell? ⟨gb205, 0, none⟩ = some (.slice Ao56 x206000_26.length co56) := (blk_cell BK205.out 0).trans rfl
                    have hcz70_1 : wr.cell? ⟨gb205, 1, none⟩ = some (.int .i64 t204) := (blk_cell BK205.out 1).trans rfl
                    have hfz70_0 := blk_frozen BK205.out 0
                    have hfz70_1 := blk_frozen BK205.out 1
                    have hnb71 := NB219_203.out
                    have hnc71 := NB203_219.out
                    have hcz72_0 : wr.cell? ⟨gb219, 0, none⟩ = some (u220000) := (blk_cell BK219.out 0).trans rfl
                    have hcz72_1 : wr.cell? ⟨gb219, 1, none⟩ = some (u220001) := (blk_cell BK219.out 1).trans rfl
                    have hfz72_0 := blk_frozen BK219.out 0
                    have hfz72_1 := blk_frozen BK219.out 1
                    obtain ⟨Ao74, co74, eo74⟩ := Kd.R_slice HO_220000.out
                    subst eo74
                    obtain ⟨Ao75, co75, eo75⟩ := Kd.R_slice HO_220001.out
                    subst eo75
                    go_wp2_with (first | ((with_reducible refine gate_builtin (b := .append) (xs := #[.tmp 104, .tmp 106]) rfl ?_); at_builtin; refine Kd.S_append k45 (w0 := w) w.heap.size rfl (.tmp 104) (.tmp 106) 36 45 (.agg #[(.slice none 0 0), (.slice none 0 0)]) 48 rfl Try.underlying36 info45 rfl (by decide) (by omega) u13 x13_3 (⟨x220000_5, x220001_6⟩ : S45) [.slice Ao74 x220000_5.length co74, .slice Ao75 x220001_6.length co75] (fun k_ => some k_ ≠ (.slice Ao56 x206000_26.length co56 : Value).ownBlock ∧ k_ ≠ gb219) (fun k_ => some k_ = (.slice Ao74 x220000_5.length co74 : Value).ownBlock ∨ some k_ = (.slice Ao75 x220001_6.length co75 : Value).ownBlock) rfl rfl ?aP (fun k_ hk_ => hk_.elim (fun h_ => ((Kd.R_mono (ok' := fun k_ => ((fun k_ => some k_ ≠ (.slice Ao56 x206000_26.length co56 : Value).ownBlock ∧ k_ ≠ gb219)) k_ ∧ some k_ ≠ (u13 : Value).ownBlock) (Kd.R_types (Kd.R_apart' (HO_220000.out) (Kd.S_typed HO_13.out) (by decide)) BK219.out (by decide)) (fun k_ hk => ⟨⟨hk.1.1.1, hk.2⟩, hk.1.2⟩))).1 k_ h_.symm) (fun h_ => ((Kd.R_mono (ok' := fun k_ => ((fun k_ => some k_ ≠ (.slice Ao56 x206000_26.length co56 : Value).ownBlock ∧ k_ ≠ gb219)) k_ ∧ some k_ ≠ (u13 : Value).ownBlock) (Kd.R_types (Kd.R_apart' (HO_220001.out) (Kd.S_typed HO_13.out) (by decide)) BK219.out (by decide)) (fun k_ hk => ⟨⟨hk.1.1.1, hk.2⟩, hk.1.2⟩))).1 k_ h_.symm)) ?aF ?aO ?aB ?aS ?aL ?_; (case aP => exact k45_mkM _ _ _ (⟨x220000_5, x220001_6⟩ : S45) (Kd.R_mono (Kd.R_tight rfl (Kd.R_mono (ok' := fun k_ => ((fun k_ => some k_ ≠ (.slice Ao56 x206000_26.length co56 : Value).ownBlock ∧ k_ ≠ gb219)) k_ ∧ some k_ ≠ (u13 : Value).ownBlock) (Kd.R_types (Kd.R_apart' (HO_220000.out) (Kd.S_typed HO_13.out) (by decide)) BK219.out (by decide)) (fun k_ hk => ⟨⟨hk.1.1.1, hk.2⟩, hk.1.2⟩))) (fun _ h_ => Or.inl h_)) (Kd.R_mono (Kd.R_tight rfl (Kd.R_mono (ok' := fun k_ => ((fun k_ => some k_ ≠ (.slice Ao56 x206000_26.length co56 : Value).ownBlock ∧ k_ ≠ gb219)) k_ ∧ some k_ ≠ (u13 : Value).ownBlock) (Kd.R_types (Kd.R_apart' (HO_220001.out) (Kd.S_typed HO_13.out) (by decide)) BK219.out (by decide)) (fun k_ hk => ⟨⟨hk.1.1.1, hk.2⟩, hk.1.2⟩))) (fun _ h_ => Or.inr (h_)))); (case aB => exact (wmv HB.out)); (case aF => exact (fun k_ hk => ⟨Kd.fresh' (Kd.R_lt (Kd.R_mv HO_206000.out)) k_ hk, Kd.freshB (bmv BK219.out) k_ hk⟩)); (case aO => exact (Kd.S_mv (Kd.S_mono HO_13.out (fun k_ hk => ⟨⟨hk.1, hk.2.2.2⟩, fun e_ => e_.elim (fun h_ => hk.2.1 h_) (fun h_ => hk.2.2.1 h_)⟩)))); (case aS => exact (below_size (wmv HB.out))); (case aL => have := LMc67.out; omega); intro v230 w73 ho hb hg hat; rw [← Ny229.out] at ho; have n0_ := am (Kd.R_over' (Kd.R_mv HO_206000.out) (Kd.S_typed (Kd.S_mv HO_13.out)) (by decide) hg); have n1_ := am (blk_grown (bmv BK203.out) hg (Kd.S_ne HO_13.out BK203.out (by decide))); have n2_ := am (blk_grown (bmv BK205.out) hg (Kd.S_ne HO_13.out BK205.out (by decide))); have n3_ := am (blk_grown (bmv BK219.out) hg (Kd.S_away HO_13.out (fun _ hk => hk.2.2.2))); have n4_ := am (hb); have n5_ := am (ho); clear HO_206000 BK203 BK205 BK219 HB HO_13 HO_220000 HO_220001; revert n0_ n1_ n2_ n3_ n4_ n5_; intro HO_206000 BK203 BK205 BK219 HB HO231; clear ho hb hg hat))
                    go_roundg k6
                    case measure => have := HK1.out; have := HJ26.out; have := HK3.out; have := HJ34.out; have := HK5.out; have := HK6.out; omega
                    case rel => exact ⟨(y229), (wrap64 (x14_3 + 1)), zz, H', ⟨by have := HK1.out; have := HJ26.out; have := HK3.out; have := HJ34.out; have := HK5.out; have := HK6.out; omega⟩, ⟨by (with_reducible repeat (first | apply Kd.S_alloc | apply Kd.S_drewN | apply Kd.S_drew)); exact Kd.S_mono HO231.out (fun _ hk => hk.1)⟩, ⟨by refine zr ?_; exact Kd.R_mono HO_206000.out (fun _ hk => trivial)⟩, ⟨by refine zq ?_; exact BK203.out⟩, ⟨by refine zq ?_; exact BK205.out⟩, ⟨zw HB⟩⟩
                   ·rw [if_neg c67] at H
                    exact absurd H (by simp)
            ·rw [if_neg c39] at H
             exact absurd H (by simp)
           ·rw [if_neg c38] at H
            exact absurd H (by simp)
          ·replace c37 := Bool.eq_false_iff.mpr c37
           subst c37
           have H1 : (some (x206000_26, t204, x13_3)) = some (r1, r2, r3) := by rw [if_neg (show ¬ (false = true) by decide)] at H; exact H
           clear H
           have H := H1
           clear H1
           simp only [Option.some.injEq, Prod.mk.injEq] at H
           obtain ⟨rfl, rfl, rfl⟩ := H
           have hnb76 := NB205_203.out
           have hnc76 := NB203_205.out
           have hcz77_0 : wc.cell? ⟨gb205, 0, none⟩ = some (u206000) := (blk_cell BK205.out 0).trans rfl
           have hcz77_1 : wc.cell? ⟨gb205, 1, none⟩ = some (.int .i64 t204) := (blk_cell BK205.out 1).trans rfl
           have hfz77_0 := blk_frozen BK205.out 0
           have hfz77_1 := blk_frozen BK205.out 1
           obtain ⟨Ao78, co78, eo78⟩ := Kd.R_slice HO_206000.out
           subst eo78
           have hcz79_0 : wc.cell? ⟨gb203, 0, none⟩ = some (.slice none 0 0) := (blk_cell BK203.out 0).trans rfl
           have hcz79_1 : wc.cell? ⟨gb203, 1, none⟩ = some (.int .i64 0) := (blk_cell BK203.out 1).trans rfl
           have hfz79_0 := blk_frozen BK203.out 0
           have hfz79_1 := blk_frozen BK203.out 1
           go_wp2
           refine bodyPost_ret (results_ct rfl _ _ gb203 35 #[.slice Ao78 x206000_26.length co78, .int .i64 t204] (0, 0) _ rfl (by refine zq ?_; refine blk_put (cs := #[.slice Ao78 x206000_26.length co78, .int .i64 0]) ?_ 1 _ rfl; refine zq ?_; refine blk_put (cs := #[.slice none 0 0, .int .i64 0]) ?_ 0 _ rfl; refine zq ?_; exact BK203.out) Try.underlying35 rfl (by kernel_rfl)) rfl ?_
           exact ⟨_, _, by first | rfl | (simp [errW_none, errW_some] <;> rfl) | (simp [*, errW_none, errW_some] <;> rfl), by refine zr ?_; exact Kd.R_mono (Kd.R_far (p := ⟨gb203, 1, none⟩) (Kd.R_far (p := ⟨gb203, 0, none⟩) (Kd.R_types HO_206000.out BK203.out (by decide)) (fun _ hk => hk.2) (.slice Ao78 x206000_26.length co78)) (fun _ hk => hk.2) (.int .i64 t204)) (fun _ hk => trivial), by (with_reducible repeat (first | apply Kd.S_alloc | apply Kd.S_drewN | apply Kd.S_drew)); exact Kd.S_mono (Kd.S_far (p := ⟨gb203, 1, none⟩) (Kd.S_far (p := ⟨gb203, 0, none⟩) (Kd.S_types HO_13.out BK203.out (by decide)) (fun _ hk => hk.2) (.slice Ao78 x206000_26.length co78)) (fun _ hk => hk.2) (.int .i64 t204)) (fun _ hk => hk.1), zw HB⟩
end Go.Proofs.Ytmkjkkmilopcpaa.Q
namespace Go.Proofs.Ytmkjkkmilopcpaa.Q
open Go.RowKit Go.Proofs.YtmkjkkmilopcpaaW.PrintWords Go.Proofs.YtmkjkkmilopcpaaW.PrintLast Go.Proofs.YtmkjkkmilopcpaaW.PrintMore
set_option linter.unusedVariables false
set_option linter.unusedSimpArgs false
def gv : List Int → Int → Int
 | [], x => x
 | y :: t, x => gv t (Go.bits .or .i64 (wrap64 (x * 256)) (wrap64 y))
theorem gv_snoc (l : List Int) (x y : Int) : gv (l ++ [y]) x = Go.bits .or .i64 (wrap64 (gv l x * 256)) (wrap64 y) := by
 induction l generalizing x with
 | nil => rfl
 | cons z t ih => exact ih _
theorem gv_take (l : List Int) (j : Nat) (h : j < l.length) : gv (l.take (j + 1)) 0 = Go.bits .or .i64 (wrap64 (gv (l.take j) 0 * 256)) (wrap64 (rd l (j : Int))) := by
 have h2 : rd l (j : Int) = l[j] := by simp [rd, h]
 rw [List.take_add_one, List.getElem?_eq_getElem h, h2]
 exact gv_snoc _ _ _
set_option maxHeartbeats 8000000 in
set_option maxRecDepth 100000 in
theorem cell_get.callsC (A : Option Addr) (c : Nat) (l : List Int) (a1 : Int) (w0 w : World) (hB : Below w0.heap.size w0 w) (hr : Kd.C (Kd.int .u8) w0 A l.length l) (hc : l.length ≤ c) (h0 : 0 ≤ a1) (h1 : a1 ≤ (l.length : Int)) (hm : l.length ≤ 4611686018427387904) :
  Calls Try.prog 56 #[.slice A l.length c, .int .i64 a1] w fun e w' => ∃ A1 c1, e = .returned (.tuple #[.int .i64 (gv (l.take a1.toNat) 0), .slice A1 (l.drop a1.toNat).length c1]) ∧ (l.drop a1.toNat).length ≤ c1 ∧ Kd.C (Kd.int .u8) w0 A1 (l.drop a1.toNat).length (l.drop a1.toNat) ∧ Drawn0 w w' := by
 have HR := am hr
 have HBW := am hB
 have HC := am hc
 have HM := am hm
 obtain ⟨y, hy⟩ : ∃ y : List Int, y = l.take a1.toNat := ⟨_, rfl⟩
 obtain ⟨z, hz⟩ : ∃ z : List Int, z = l.drop a1.toNat := ⟨_, rfl⟩
 obtain ⟨i05, hi05, _, hsz5, _⟩ := info_parts info5
 have hcut5 := cut_to (P := Try.prog) 51 5 .i64 Try.underlying51 hi05 A l.length c a1 h0 h1 hc
 have hcut12 := cut_from (P := Try.prog) 51 5 .i64 Try.underlying51 hi05 1 hsz5 A l.length c a1 h0 h1
 have hr5 := Kd.C_take (m := a1.toNat) hr (by omega)
 have hr12 := Kd.C_drop (m := a1.toNat) hr (by omega) hc
 have hy5 : y.length = a1.toNat := by rw [hy, List.length_take]; omega
 have hz5 : z.length = l.length - a1.toNat := by rw [hz, List.length_drop]
 rw [← hy] at hr5
 rw [← hy5] at hcut5
 obtain ⟨A12, hA12⟩ : ∃ A1, A1 = (if c = a1.toNat then A else A.map (·.add (a1.toNat * 1))) := ⟨_, rfl⟩
 obtain ⟨c12, hc12⟩ : ∃ c1, c1 = c - a1.toNat := ⟨_, rfl⟩
 rw [← hz5, ← hA12, ← hc12] at hcut12
 have hr13 : Kd.C (Kd.int .u8) w0 A12 z.length z := by rw [hA12, hz]; exact hr12
 have HZ := am hr13
 have HZC : Aside0 (z.length ≤ c12) := ⟨by rw [hz5, hc12]; omega⟩
 have HY := am hr5
 have HYL : Aside0 (y.length ≤ l.length) := ⟨by omega⟩
 rw [← hy, ← hz]
 have q5 := eq_true h1
 have q0 := eq_true h0
 clear hB hr hc hm h0 h1 hr5 hr12 hr13 hy hz hy5 hz5 hA12 hc12 hi05 hsz5
 go_enter Try.func56, Try.ntmps56
 go_wp2
 repeat (go_quiet (fail); try go_wp2)
 go_loopg [6, 13] (y.length + 1) (fun kq v6 v13 w' => ∃ j : Nat, v6 = .int .i64 (gv (y.take j) 0) ∧ v13 = .int .i64 (j : Int) ∧ Aside0 (j + kq = y.length + 1 ∧ j ≤ y.length) ∧ Aside0 (Drawn0 w w'))
 case atStart => exact ⟨0, rfl, rfl, ⟨by omega, by omega⟩, ⟨by first | exact Drawn0.refl _ | exact ⟨_, rfl⟩⟩⟩
 case round =>
  obtain ⟨j, rfl, rfl, HJ, HD⟩ := hrel
  cases gk with
  | zero => exact absurd HJ.out (by omega)
  | succ k1 =>
   by_cases hj : j < y.length
   ·have c1 : decide ((j : Int) < (y.length : Int)) = true := decide_eq_true (by omega)
    have pj := eq_true (show (0 : Int) ≤ (j : Int) by omega)
    have qj := eq_true (show (j : Int) < (y.length : Int) by omega)
    obtain ⟨ad, e1, hx⟩ := Kd.at_int (Kd.C_below HY.out (below_step HBW.out HD.out.below)) (j : Int) (by omega) (by omega)
    cases e1
    rw [Int.toNat_natCast] at hx
    have hwj : wrap64 ((j : Int) + 1) = ((j + 1 : Nat) : Int) := by have := HYL.out; have := HM.out; unfold wrap64; omega
    have hg := gv_take y j hj
    have HHJ := am hj
    clear hj
    go_wp2
    repeat (go_quiet (fail); try go_wp2)
    go_roundg k1
    case measure => have := HJ.out; omega
    case rel => exact ⟨j + 1, by first | (rw [hg]; rfl) | (simp [hg]; done), by first | rfl | simp [hwj], ⟨by have := HJ.out; omega, by have := HHJ.out; omega⟩, ⟨by first | exact HD.out | exact HD.out.drew⟩⟩
   ·have c1 : decide ((j : Int) < (y.length : Int)) = false := decide_eq_false (by omega)
    have hjy : j = y.length := by have := HJ.out; omega
    subst hjy
    rw [List.take_length] at *
    clear hj
    go_wp2
    repeat (go_quiet (fail); try go_wp2)
    go_ret2
    exact ⟨A12, c12, by first | rfl | (simp [*]; done), HZC.out, HZ.out, by first | exact HD.out | exact HD.out.step 1 | exact HD.out.step _⟩
section
variable {P : Program} {ops : Array Oper} {Q : Exit → Act → World → Prop}
theorem gate_callee_v {rest : List Oper} {o : Oper} {a : Act} {W : World} {x : Operand} {as_ : Array Operand} {ts : Array TypeId} (_ho : o.op = .call { callee := .value x, args := as_, argTypes := ts }) (h : wpList P ops Q (o :: rest) a W) : wpList P ops Q (o :: rest) a W := h
theorem goesv_ {oi : Oper} {N : Option Tmp} {a : Act} {w : World} {K : Act → World → Prop} {f : FuncId} {fn : Func} {x : Operand} {as_ : Array Operand} {ts : Array TypeId} (hf : P.funcs[f]? = some fn) (hname : (fn.name == "runtime.NumGoroutine") = false) (hb : fn.body.isSome = true) (args : Array Value)
  (hw : Region.wanted oi (yielded ops a.tmps) = true) (hN : oi.dst = N) (hop : oi.op = .call { callee := .value x, args := as_, argTypes := ts }) (hargs : as_.map a.eval = args)
  (h : Calls P f args w fun e w' => ∃ v, e = .returned v ∧ K (a.put N v) w') (hx : a.eval x = .func (.func f) #[] #[] := by rfl) : if Region.wanted oi (yielded ops a.tmps) = true then Oper.wp P oi a w K Q else K (a.put N undef) w := by
 refine call_ f args hw hN ?_ h
 have he := enters_ hf hname hb args w
 unfold execOp
 simp [hop, resolve, Deferred.ofValue, invoke, hx, hargs, he]
theorem goesLv_ {rest : List Oper} {oi : Oper} {a : Act} {w : World} (N : Option Tmp) (hd : oi.dst = N) (hg : oi.guard = none) {f : FuncId} {fn : Func} {x : Operand} {as_ : Array Operand} {ts : Array TypeId} (hf : P.funcs[f]? = some fn) (hname : (fn.name == "runtime.NumGoroutine") = false) (hb : fn.body.isSome = true) (args : Array Value)
  (hop : oi.op = .call { callee := .value x, args := as_, argTypes := ts }) (hargs : as_.map a.eval = args)
  (h : Calls P f args w fun e w' => ∃ v, e = .returned v ∧ wpList P ops Q rest (a.put N v) w') (hx : a.eval x = .func (.func f) #[] #[] := by rfl) : wpList P ops Q (oi :: rest) a w := by
 refine wpList_plain hg fun K hK => ?_
 have he := enters_ hf hname hb args w
 have hrun : (execOp a.eval oi).run P w = .ok (.enter f args) w := by
  unfold execOp
  simp [hop, resolve, Deferred.ofValue, invoke, hx, hargs, he]
 unfold Oper.wp
 rw [hrun, Oper.upon_enter]
 refine h.mono fun e w'' hh => ?_
 obtain ⟨v, rfl, hk⟩ := hh
 subst hd
 exact hK _ _ hk
end
def ow (f : Nat → Nat) (n q : Nat) : Nat → Nat := fun k => if k < n then f k else q
theorem ow_old {f : Nat → Nat} {n q k : Nat} (h : k < n) : ow f n q k = f k := if_pos h
theorem ow_new {f : Nat → Nat} {n q k : Nat} (h : n ≤ k) : ow f n q k = q := if_neg (by omega)
section
variable {f f' : Nat → Nat} {q q0 q' b g : Nat} {w w1 w0 : World} {v v0 : Value} {xs xs0 : List Int} {o : Obj}
theorem r_re (h : Kd.R (Kd.int .i64) 3 w b (fun k => f k = q) v xs) (hh : ∀ k, f k = q → k < w.heap.size → w1.heap[k]? = w.heap[k]?) (hf : ∀ k, k < w.heap.size → f' k = f k) : Kd.R (Kd.int .i64) 3 w1 b (fun k => f' k = q) v xs :=
 Kd.R_mono (Kd.R_step (Kd.R_bound h) (fun k hk hlt => hh k hk.1 hlt)) (fun k hk => (hf k hk.2.2.1).trans hk.1)
theorem r_fresh (h : Kd.R (Kd.int .i64) 3 w b (fun k => f k = q) v xs) (hb : Below w.heap.size w w1) (q' : Nat) : Kd.R (Kd.int .i64) 3 w1 b (fun k => ow f w.heap.size q' k = q) v xs := r_re h (fun k _ hlt => hb.block k hlt) (fun k hk => ow_old hk)
theorem r_lit (f : Nat → Nat) (hr : Kd.R (Kd.int .i64) 3 w1 w.heap.size (fun _ => True) v xs) (hle : b ≤ w.heap.size) (q : Nat) : Kd.R (Kd.int .i64) 3 w1 b (fun k => ow f w.heap.size q k = q) v xs := Kd.R_mono (Kd.R_lower (Kd.R_bound hr) hle) (fun k hk => ow_new hk.2.1)
theorem r_same (h : Kd.R (Kd.int .i64) 3 w b (fun k => f k = q) v xs) (q' : Nat) : Kd.R (Kd.int .i64) 3 w b (fun k => ow f w.heap.size q' k = q) v xs := r_re h (fun _ _ _ => rfl) (fun k hk => ow_old hk)
theorem r_app (h : Kd.R (Kd.int .i64) 3 w b (fun k => f k = q) v xs) (h0 : Kd.R (Kd.int .i64) 3 w b (fun k => f k = q0) v0 xs0) (hne : q ≠ q0) (hg : w.grownBy w1 v0.ownBlock) (q' : Nat) : Kd.R (Kd.int .i64) 3 w1 b (fun k => ow f w.heap.size q' k = q) v xs :=
 r_re h (fun k hk hlt => hg.block k hlt (fun e => hne (hk.symm.trans (h0.1 k e.symm)))) (fun k hk => ow_old hk)
theorem r_box (h : Kd.R (Kd.int .i64) 3 w b (fun k => f k = q) v xs) (hg : f g = 9) (hq : q ≠ 9) (seg : List Value) (o : Nat) : Kd.R (Kd.int .i64) 3 (w.setCells g o seg) b (fun k => f k = q) v xs :=
 r_re h (fun k hk _ => setCells_far seg o k (fun e => hq (by rw [← hk, e, hg]))) (fun _ _ => rfl)
theorem b_fresh (h : w.heap[g]? = some o ∧ f g = 9) (hb : Below w.heap.size w w1) (q' : Nat) : w1.heap[g]? = some o ∧ ow f w.heap.size q' g = 9 := ⟨blk_below h.1 hb, (ow_old (blk_lt h.1)).trans h.2⟩
theorem b_app (h : w.heap[g]? = some o ∧ f g = 9) (h0 : Kd.R (Kd.int .i64) 3 w b (fun k => f k = q0) v0 xs0) (hne : q0 ≠ 9) (hg : w.grownBy w1 v0.ownBlock) (q' : Nat) : w1.heap[g]? = some o ∧ ow f w.heap.size q' g = 9 :=
 ⟨blk_grown h.1 hg (fun e => hne ((h0.1 g e.symm).symm.trans h.2)), (ow_old (blk_lt h.1)).trans h.2⟩
end
theorem box_runO {P : Program} {oi : Oper} {a : Act} {t e : TypeId} {p x : Operand} {W : World} {g : Nat} {cur : Array Value} (ho : oi.op = .store t p x) {u : Value} {seg : List Value} (o : Nat) (hh : W.heap[g]? = some (.cells cur e (0, 0))) (hs : o + seg.length ≤ cur.size)
  (haddr : a.eval p = .pointer (some ⟨g, o, none⟩)) (hx : a.eval x = u) (hu : u.cells.toList = seg) (ht : (P.info? t).map (·.size) = some seg.length) (h1 : ∀ q ∈ seg, q.oneCell' = true) :
  (execOp a.eval oi).run P W = .ok .skip (W.setCells g o seg) := by
 have hrun : (Instr.storeAt t (.pointer (some ⟨g, o, none⟩)) u).run P W = .ok () (W.setCells g o seg) := run_store_run t u seg hh hu ht hs h1
 unfold execOp
 simp only [ho, haddr, hx, Sem.run_bind, Sem.run_pure, Result.andThen_ok, hrun]
theorem box_farO {W w0 : World} {g base : Nat} (seg : List Value) (o : Nat) (hg : base ≤ g) (hB : Below base w0 W) : Below base w0 (W.setCells g o seg) := by
 obtain ⟨h1, h2, h3, h4⟩ := setCells_same g seg o W
 exact ⟨h1.trans hB.os, h2.trans hB.tape, h3.trans hB.output, by rw [h4]; exact hB.size, fun k hk => (setCells_far seg o k (by omega)).trans (hB.block k hk)⟩
section
variable {P : Program} {ops : Array Oper} {Q : Exit → Act → World → Prop} {Kc : Act → World → Prop} {o : Oper} {a : Act} {W : World}
theorem lit1 {x : Int} (hw : Region.wanted o (yielded ops a.tmps) = true) {N : Tmp} (hd : o.dst = some N) (hrun : (execOp a.eval o).run P W = .ok (.value (.slice (some ⟨W.heap.size, 0, none⟩) ([x] : List Int).length ([x] : List Int).length)) (W.alloc (.cells #[.int .i64 x] 3)))
  (h : ∀ v1 w1, Kd.R (Kd.int .i64) 3 w1 W.heap.size (fun _ => True) v1 [x] → Below W.heap.size W w1 → Kc (a.put o.dst v1) w1) : if Region.wanted o (yielded ops a.tmps) = true then Oper.wp P o a W Kc Q else Kc (a.put o.dst undef) W :=
 Kd.R_lit_step (Kd.int .i64) _ 3 hw hd (xs := [x]) (inner := [.int .i64 x]) (ok := fun _ => True) (okp := fun _ => True) hrun (Reps.one (show Kd.M (Kd.int .i64) _ _ _ x [.int .i64 x] from rfl) (Reps.none _ _)) (fun _ h => h) trivial (Below.refl _ _) (Nat.le_refl _) (by simp) (fun v w ho hb _ _ => h v w ho hb)
theorem app1 {ops : Array Oper} {Q : Exit → Act → World → Prop} {Kc : Act → World → Prop} {o : Oper} {a : Act} {W w0 : World} {base : Nat} {f : Nat → Nat} {q q0 : Nat} {v : Value} {xs : List Int} {y : Int} {A : Option Addr} {c : Nat} (hw : Region.wanted o (yielded ops a.tmps) = true) (s x : Operand)
  (ho : o.op = .call { callee := .builtin .append, args := #[s, x], argTypes := #[22, 22] }) (hs : a.eval s = v) (hx : a.eval x = .slice A ([y] : List Int).length c) (HR : Kd.R (Kd.int .i64) 3 W base (fun k => f k = q) v xs) (HS : Kd.R (Kd.int .i64) 3 W base (fun k => f k = q0) (.slice A ([y] : List Int).length c) [y])
  (HB : Below base w0 W) (hbase : base ≤ W.heap.size) (hl : xs.length ≤ 1000) (h : ∀ v1 w1, Kd.R (Kd.int .i64) 3 w1 base (fun k => ow f W.heap.size q k = q) v1 (xs ++ [y]) → Below base w0 w1 → W.grownBy w1 v.ownBlock → Kc (a.put o.dst v1) w1) :
  if Region.wanted o (yielded ops a.tmps) = true then Oper.wp Try.prog o a W Kc Q else Kc (a.put o.dst undef) W :=
 Kd.R_append_rows_step (Kd.int .i64) (w0 := w0) base hw s x 22 3 (.int .i64 0) 8 ho Try.underlying22 info3 rfl (by decide) (by omega) v xs [y] A _ c (fun k_ => ow f W.heap.size q k_ = q) (fun _ => False) hs hx (r_same HR q) (Kd.R_reads' HS).2.2 (fun _ _ h => h) (fun _ h => h.elim) (fun k_ hk => ow_new hk) HB hbase (by simp only [List.length_cons, List.length_nil]; omega) (fun v w ho hb hg _ => h v w ho hb hg)
end
theorem getD_ft {l : Array Bool} {j : Nat} (h : l.getD j false = true) : l.getD j true = true := by
 simp only [Array.getD_eq_getD_getElem?] at h ⊢
 cases e : l[j]? with
 | none => rw [e] at h; cases h
 | some b => rw [e] at h; exact h
theorem ready_at {md : Region.Mode} {ops : Array Oper} {l : Array Bool} {i : Nat} (h : i ∈ Region.ready md ops l) :
  i < ops.size ∧ l.getD i true = false ∧ ∀ o, ops[i]? = some o → ∀ e ∈ o.after, Region.binds md e = true → l.getD e.on true = true := by
 unfold Region.ready at h
 rw [List.mem_filter, List.mem_range] at h
 obtain ⟨h1, h2⟩ := h
 rw [Bool.and_eq_true] at h2
 refine ⟨h1, by simpa using h2.1, fun o ho e he hb => ?_⟩
 have h3 := h2.2
 rw [ho] at h3
 simp only [Option.map_some, Option.getD_some] at h3
 obtain ⟨j, hj, rfl⟩ := Array.mem_iff_getElem.1 he
 have := (Array.all_eq_true.1 h3) j hj
 rw [Bool.or_eq_true] at this
 rcases this with h | h
 ·rw [hb] at h; cases h
 ·exact getD_ft h
theorem getD_set {l : Array Bool} {i j : Nat} {d : Bool} (hi : i < l.size) : (l.setIfInBounds i true).getD j d = if i = j then true else l.getD j d := by
 simp only [Array.getD_eq_getD_getElem?, Array.getElem?_setIfInBounds]
 by_cases h : i = j
 ·subst h; simp [hi]
 ·simp [h]
theorem count_set_lt {l : Array Bool} {i : Nat} (h : l.getD i true = false) : ((l.setIfInBounds i true).toList.count false) + 1 = l.toList.count false := by
 have hi : i < l.size := by
  rcases Nat.lt_or_ge i l.size with h1 | h1
  ·exact h1
  ·simp [Array.getD_eq_getD_getElem?, Array.getElem?_eq_none h1] at h
 have hl : l.toList[i]'(by simpa using hi) = false := by
  simp [Array.getD_eq_getD_getElem?, hi] at h
  simpa using h
 have hpos : 0 < l.toList.count false := List.count_pos_iff.2 (hl ▸ List.getElem_mem _)
 have e := List.count_set (a := true) (b := false) (l := l.toList) (i := i) (by simpa using hi)
 rw [hl] at e
 have e1 : ((false == false) = true) := rfl
 have e2 : ¬ ((true == false) = true) := by decide
 rw [if_pos e1, if_neg e2] at e
 rw [Array.toList_setIfInBounds, e]
 omega
section
variable {P : Program} {md : Region.Mode} {ops : Array Oper} {Q : Exit → Act → World → Prop} {S : World → Prop} {ds : List Nat}
theorem anyLast_inv (Inv : Array Bool → Act → World → Prop)
  (hstep : ∀ l a w i, Inv l a w → i ∈ Region.ready md ops l → wpOp P ops Q i (fun a' w' => (i ∉ ds → S w → S w') ∧ Inv (l.setIfInBounds i true) a' w') a w)
  (hend : ∀ l a w, Inv l a w → Region.ready md ops l = [] → Q .normal a w) :
  ∀ (fuel : Nat) (l : Array Bool) (a : Act) (w : World), l.toList.count false ≤ fuel → Inv l a w → wpAnyLast P md ops Q S ds fuel l a w
 | 0, l, a, w, hc, h => by
  have hr : Region.ready md ops l = [] := by
   cases hr : Region.ready md ops l with
   | nil => rfl
   | cons i rs =>
    have hi := (ready_at (md := md) (ops := ops) (l := l) (i := i) (by rw [hr]; simp)).2.1
    have := count_set_lt hi
    omega
  exact ⟨hr, hend l a w h hr⟩
 | n + 1, l, a, w, hc, h => ⟨hend l a w h, fun i hi => wpOp_mono (fun a' w' hh => ⟨hh.1, anyLast_inv Inv hstep hend n _ a' w' (by have := count_set_lt (ready_at hi).2.1; omega) hh.2⟩) (hstep l a w i h hi)⟩
theorem none_left {l : Array Bool} (hsz : l.size = ops.size) (hlow : ∀ (i : Nat) (o : Oper), ops[i]? = some o → ∀ e ∈ o.after, e.on < i) (hr : Region.ready md ops l = []) : ∀ i, i < ops.size → l.getD i true = true := by
 intro i
 induction i using Nat.strongRecOn with
 | ind i ih =>
  intro hi
  by_cases hl : l.getD i true = true
  ·exact hl
  ·exfalso
   have hm : i ∈ Region.ready md ops l := by
    unfold Region.ready
    rw [List.mem_filter, List.mem_range]
    refine ⟨hi, ?_⟩
    rw [Bool.and_eq_true]
    refine ⟨by simpa using hl, ?_⟩
    rw [Array.getElem?_eq_getElem hi]
    simp only [Option.map_some, Option.getD_some]
    rw [Array.all_eq_true]
    intro j hj
    have hlt := hlow i _ (Array.getElem?_eq_getElem hi) _ (Array.getElem_mem hj)
    have := ih _ hlt (by omega)
    rw [Bool.or_eq_true]
    right
    simp only [Array.getD_eq_getD_getElem?] at this ⊢
    rw [Array.getElem?_eq_getElem (by omega)] at this ⊢
    simpa using this
   rw [hr] at hm
   cases hm
def lowB (ops : Array Oper) : Bool := ops.toList.zipIdx.all fun p => p.1.after.toList.all fun e => decide (e.on < p.2)
theorem low_of {ops : Array Oper} (h : lowB ops = true) : ∀ (i : Nat) (o : Oper), ops[i]? = some o → ∀ e ∈ o.after, e.on < i := by
 intro i o ho e he
 have hm : (o, i) ∈ ops.toList.zipIdx := by
  rw [List.mem_zipIdx_iff_getElem?]
  simpa using ho
 have h1 := List.all_eq_true.1 h _ hm
 have h2 := List.all_eq_true.1 h1 e (by simpa using he)
 simpa using h2
theorem op_now {i : Nat} {o : Oper} {a : Act} {w : World} {K : Act → World → Prop} (ho : ops[i]? = some o) (h : if Region.wanted o (yielded ops a.tmps) = true then Oper.wp P o a w K Q else K (a.put o.dst undef) w) : wpOp P ops Q i K a w := by
 unfold wpOp
 simp only [ho]
 split
 ·rename_i hw; rw [if_pos hw] at h; exact .inl h
 ·rename_i hw; rw [if_neg hw] at h; exact h
end
theorem eval_put_ne {a : Act} {d d' : Nat} {v : Value} (h : d ≠ d') : (a.put (some d) v).eval (.tmp d') = a.eval (.tmp d') := by
 simp [Act.put, Act.eval, Array.getD_eq_getD_getElem?, Array.getElem?_setIfInBounds_ne h]
theorem eval_put_same {a : Act} {d : Nat} {v : Value} (h : d < a.tmps.size) : (a.put (some d) v).eval (.tmp d) = v := by
 simp [Act.put, Act.eval, Array.getD_eq_getD_getElem?, h]
theorem put_size (a : Act) (d : Nat) (v : Value) : (a.put (some d) v).tmps.size = a.tmps.size := by simp [Act.put]
def hypercuberef2_Copy.f (l0_0 : List Int) (a0_1 : Int) (l0_2 : List Int) (l0_3 : List Int) (l0_4 : List Int) : Option (List Int × Int × List Int × List Int × List Int) :=
 if l0_0.length * 8 ≤ 140737488355328 ∧ l0_2.length * 8 ≤ 140737488355328 ∧ l0_3.length * 8 ≤ 140737488355328 ∧ l0_4.length * 8 ≤ 140737488355328 then some (l0_0, a0_1, l0_2, l0_3, l0_4) else none
def ref_Copy.T1 : Bool × List (List Nat × List Nat) := (true, [([], []), ([], []), ([1], [1]), ([0, 2], [0, 2]), ([], []), ([4], [4]), ([], []), ([], []), ([7], [7]), ([6, 8, 3], [6, 8]), ([], []), ([], []), ([11], [11]), ([10, 12, 9], [10, 12]), ([], []), ([], []), ([15], [15]), ([14, 16, 13], [14, 16]), ([3, 5, 9, 13, 17], [3, 5, 9, 13, 17]), ([18, 17, 0, 1, 2, 3, 4, 5, 6, 7, 8, 9, 10, 11, 12, 13, 14, 15, 16, 17, 18], [18])])
def ref_Copy.B1 : List Nat := [0, 0, 2, 7, 0, 16, 0, 0, 128, 463, 0, 0, 2048, 8143, 0, 0, 32768, 131023, 262143, 524287]
theorem ref_Copy.tab1 : rtab .any (opsOf Try.f52 1) = ref_Copy.T1 := by kernel_rfl
theorem ref_Copy.bits1 : waitsOk ref_Copy.T1.2 ref_Copy.B1 = true := by kernel_rfl
def RowSt (w0 : World) (l : Array Bool) (w : World) (f : Nat → Nat) (q B A : Nat) (vb va : Value) (y : List Int) : Prop :=
 (l.getD B true = true → l.getD A true = false → Kd.R (Kd.int .i64) 3 w w0.heap.size (fun k => f k = q) vb []) ∧ (l.getD A true = true → Kd.R (Kd.int .i64) 3 w w0.heap.size (fun k => f k = q) va y)
theorem R_refun {e base q : Nat} {f f' : Nat → Nat} {w w1 : World} {v : Value} {y : List Int} (h : Kd.R (Kd.int .i64) e w base (fun k => f k = q) v y) (hh : ∀ k, f k = q → k < w.heap.size → w1.heap[k]? = w.heap[k]?) (hf : ∀ k, k < w.heap.size → f' k = f k) : Kd.R (Kd.int .i64) e w1 base (fun k => f' k = q) v y :=
 Kd.R_mono (Kd.R_step (Kd.R_bound h) (fun k hk hlt => hh k hk.1 hlt)) (fun k hk => (hf k hk.2.2.1).trans hk.1)
theorem RowSt.keep {w0 w w1 : World} {l : Array Bool} {f f' : Nat → Nat} {q B A i : Nat} {vb va : Value} {y : List Int} (h : RowSt w0 l w f q B A vb va y) (hi : i < l.size) (hB : i ≠ B) (hA : i ≠ A) (hh : ∀ k, f k = q → k < w.heap.size → w1.heap[k]? = w.heap[k]?) (hf : ∀ k, k < w.heap.size → f' k = f k) : RowSt w0 (l.setIfInBounds i true) w1 f' q B A vb va y := by
 unfold RowSt at h ⊢
 rw [getD_set hi, getD_set hi, if_neg hB, if_neg hA]
 exact ⟨fun h1 h2 => R_refun (h.1 h1 h2) hh hf, fun h1 => R_refun (h.2 h1) hh hf⟩
theorem RowSt.made {w0 w w1 : World} {l : Array Bool} {f' : Nat → Nat} {q B A : Nat} {vb va : Value} {y : List Int} (hi : B < l.size) (hBA : B ≠ A) (hA : l.getD A true = false) (h : Kd.R (Kd.int .i64) 3 w1 w0.heap.size (fun k => f' k = q) vb []) : RowSt w0 (l.setIfInBounds B true) w1 f' q B A vb va y := by
 unfold RowSt
 rw [getD_set hi, getD_set hi, if_neg hBA, if_pos rfl]
 exact ⟨fun _ _ => h, fun h1 => (by rw [hA] at h1; cases h1)⟩
theorem RowSt.full {w0 w w1 : World} {l : Array Bool} {f' : Nat → Nat} {q B A : Nat} {vb va : Value} {y : List Int} (hi : A < l.size) (h : Kd.R (Kd.int .i64) 3 w1 w0.heap.size (fun k => f' k = q) va y) : RowSt w0 (l.setIfInBounds A true) w1 f' q B A vb va y := by
 unfold RowSt
 rw [getD_set hi, getD_set hi, if_pos rfl]
 exact ⟨fun _ h1 => (by cases h1), fun _ => h⟩
def OrdC (l : Array Bool) : Prop := ∀ A B, (A = 3 ∧ B = 0) ∨ (A = 9 ∧ B = 6) ∨ (A = 13 ∧ B = 10) ∨ (A = 17 ∧ B = 14) ∨ (A = 19 ∧ B = 18) → l.getD A true = true → l.getD B true = true
theorem ordC_set {l : Array Bool} {i : Nat} (hi : i < l.size) (h : OrdC l) (hn : ∀ B, (i = 3 ∧ B = 0) ∨ (i = 9 ∧ B = 6) ∨ (i = 13 ∧ B = 10) ∨ (i = 17 ∧ B = 14) ∨ (i = 19 ∧ B = 18) → l.getD B true = true) : OrdC (l.setIfInBounds i true) := by
 intro A B hAB h1
 rw [getD_set hi] at h1 ⊢
 split
 ·rfl
 ·by_cases c : i = A
  ·subst c
   exact hn B hAB
  ·rw [if_neg c] at h1
   exact h A B hAB h1
structure CInv (w0 : World) (xb rb : Nat) (XC : Array Value) (y0 y1 y2 y3 : List Int) (n : Int) (l : Array Bool) (a : Act) (w : World) : Prop where
 sz : l.size = 20
 old : ∀ j, j = 1 ∨ j = 2 ∨ j = 4 ∨ j = 5 ∨ j = 7 ∨ j = 8 ∨ j = 11 ∨ j = 12 ∨ j = 15 ∨ j = 16 → l.getD j true = true
 ord : OrdC l
 tsz : a.tmps.size = 22
 dfr : a.defers = []
 bel : Below w0.heap.size w0 w
 bx : w.heap[xb]? = some (.cells XC 30 (0, 0))
 e2 : a.eval (.tmp 2) = .pointer (some ⟨rb, 0, none⟩)
 e8 : a.eval (.tmp 8) = .int .i64 n
 rows : ∃ A0 c0 A1 c1 A2 c2 A3 c3, a.eval (.tmp 5) = .slice A0 y0.length c0 ∧ a.eval (.tmp 11) = .slice A1 y1.length c1 ∧ a.eval (.tmp 15) = .slice A2 y2.length c2 ∧ a.eval (.tmp 19) = .slice A3 y3.length c3 ∧
  (Kd.int .i64).C w0 A0 y0.length y0 ∧ (Kd.int .i64).C w0 A1 y1.length y1 ∧ (Kd.int .i64).C w0 A2 y2.length y2 ∧ (Kd.int .i64).C w0 A3 y3.length y3
 made : l.getD 19 true = false → w.heap[rb]? = some (.cells #[.slice none 0 0, .int .i64 0, .slice none 0 0, .slice none 0 0, .slice none 0 0] 30 (0, 0)) ∧ w0.heap.size ≤ rb ∧ ∃ f : Nat → Nat,
  RowSt w0 l w f 0 0 3 (a.eval (.tmp 3)) (a.eval (.tmp 6)) y0 ∧ RowSt w0 l w f 1 6 9 (a.eval (.tmp 9)) (a.eval (.tmp 12)) y1 ∧ RowSt w0 l w f 2 10 13 (a.eval (.tmp 13)) (a.eval (.tmp 16)) y2 ∧ RowSt w0 l w f 3 14 17 (a.eval (.tmp 17)) (a.eval (.tmp 20)) y3
 told : l.getD 18 true = true → l.getD 3 true = true ∧ l.getD 9 true = true ∧ l.getD 13 true = true ∧ l.getD 17 true = true ∧ a.eval (.tmp 21) = .agg #[a.eval (.tmp 6), .int .i64 n, a.eval (.tmp 12), a.eval (.tmp 16), a.eval (.tmp 20)]
 fin : l.getD 19 true = true → ∃ v0 v1 v2 v3 : Value, ∃ f : Nat → Nat, w.heap[rb]? = some (.cells #[v0, .int .i64 n, v1, v2, v3] 30 (0, 0)) ∧ Kd.R (Kd.int .i64) 3 w w0.heap.size (fun k => f k = 0) v0 y0 ∧ Kd.R (Kd.int .i64) 3 w w0.heap.size (fun k => f k = 1) v1 y1 ∧ Kd.R (Kd.int .i64) 3 w w0.heap.size (fun k => f k = 2) v2 y2 ∧ Kd.R (Kd.int .i64) 3 w w0.heap.size (fun k => f k = 3) v3 y3
theorem old_set {l : Array Bool} {i j : Nat} (hi : i < l.size) (h : l.getD j true = true) : (l.setIfInBounds i true).getD j true = true := by
 rw [getD_set hi]
 split
 ·rfl
 ·exact h
theorem bfalse {b : Bool} (h : b = true → False) : b = false := by
 cases b
 ·rfl
 ·exact (h rfl).elim
theorem blk_other {w w1 : World} {g : Nat} {o : Obj} (h : w.heap[g]? = some o) (hh : ∀ k, k < w.heap.size → w1.heap[k]? = w.heap[k]?) : w1.heap[g]? = some o := (hh g (blk_lt h)).trans h
theorem R_fresh (w0 w : World) (q : Nat) (hb : w0.heap.size ≤ w.heap.size) (f : Nat → Nat) : Kd.R (Kd.int .i64) 3 (w.alloc (.cells #[] 3)) w0.heap.size (fun k => (if k = w.heap.size then q else f k) = q) (.slice (some ⟨w.heap.size, 0, none⟩) 0 0) [] :=
 ⟨fun k hk => by simp only [Value.ownBlock, Option.some.injEq] at hk; subst hk; simp, [], ⟨rfl, .inr ⟨w.heap.size, 0, #[], rfl, hb, blk_new w _, Nat.le_refl _, Nat.zero_le _, rfl, rfl⟩⟩, Reps.none _ _⟩
section
variable {w0 : World} {xb rb : Nat} {XC : Array Value} {y0 y1 y2 y3 : List Int} {n : Int} {l : Array Bool} {a : Act} {w : World} {K : Act → World → Prop} {Q : Exit → Act → World → Prop}
theorem CInv.build (h : CInv w0 xb rb XC y0 y1 y2 y3 n l a w) (i d : Nat) (hid : (i = 0 ∧ d = 3) ∨ (i = 6 ∧ d = 9) ∨ (i = 10 ∧ d = 13) ∨ (i = 14 ∧ d = 17)) (hl : l.getD i true = false) :
  CInv w0 xb rb XC y0 y1 y2 y3 n (l.setIfInBounds i true) (a.put (some d) (.slice (some ⟨w.heap.size, 0, none⟩) 0 0)) (w.alloc (.cells #[] 3)) := by
 have hi : i < l.size := by rw [h.sz]; omega
 have h18 : l.getD 18 true = false := bfalse fun e => by
  obtain ⟨a3, a9, a13, a17, _⟩ := h.told e
  rcases hid with ⟨rfl, _⟩ | ⟨rfl, _⟩ | ⟨rfl, _⟩ | ⟨rfl, _⟩
  ·rw [h.ord 3 0 (by omega) a3] at hl; cases hl
  ·rw [h.ord 9 6 (by omega) a9] at hl; cases hl
  ·rw [h.ord 13 10 (by omega) a13] at hl; cases hl
  ·rw [h.ord 17 14 (by omega) a17] at hl; cases hl
 have h19 : l.getD 19 true = false := bfalse fun e => by rw [h.ord 19 18 (by omega) e] at h18; cases h18
 have hd : d < a.tmps.size := by rw [h.tsz]; omega
 have hw : ∀ k, k < w.heap.size → (w.alloc (.cells #[] 3)).heap[k]? = w.heap[k]? := fun k hk => Below.heap_alloc w _ k hk
 have ev : ∀ d', d ≠ d' → (a.put (some d) (.slice (some ⟨w.heap.size, 0, none⟩) 0 0)).eval (.tmp d') = a.eval (.tmp d') := fun d' hne => eval_put_ne hne
 have es : (a.put (some d) (.slice (some ⟨w.heap.size, 0, none⟩) 0 0)).eval (.tmp d) = .slice (some ⟨w.heap.size, 0, none⟩) 0 0 := eval_put_same hd
 obtain ⟨hr, hrb, f, r0, r1, r2, r3⟩ := h.made h19
 have hsz : w0.heap.size ≤ w.heap.size := h.bel.size
 refine ⟨by rw [Array.size_setIfInBounds]; exact h.sz, fun j hj => old_set hi (h.old j hj), ordC_set hi h.ord (fun B hB => by omega), by rw [put_size]; exact h.tsz, h.dfr, below_alloc h.bel _, blk_other h.bx hw, (ev 2 (by omega)).trans h.e2, (ev 8 (by omega)).trans h.e8, ?_, fun _ => ⟨blk_other hr hw, hrb, fun k => if k = w.heap.size then (if i = 0 then 0 else if i = 6 then 1 else if i = 10 then 2 else 3) else f k, ?_⟩, fun h2 => ?_, fun h2 => ?_⟩
 ·obtain ⟨A0, c0, A1, c1, A2, c2, A3, c3, x0, x1, x2, x3, z⟩ := h.rows
  exact ⟨A0, c0, A1, c1, A2, c2, A3, c3, (ev 5 (by omega)).trans x0, (ev 11 (by omega)).trans x1, (ev 15 (by omega)).trans x2, (ev 19 (by omega)).trans x3, z⟩
 ·have hf : ∀ k, k < w.heap.size → (if k = w.heap.size then (if i = 0 then 0 else if i = 6 then 1 else if i = 10 then 2 else 3) else f k) = f k := fun k hk => if_neg (by omega)
  rcases hid with ⟨rfl, rfl⟩ | ⟨rfl, rfl⟩ | ⟨rfl, rfl⟩ | ⟨rfl, rfl⟩
  ·rw [es, ev 6 (by omega), ev 9 (by omega), ev 12 (by omega), ev 13 (by omega), ev 16 (by omega), ev 17 (by omega), ev 20 (by omega)]
   exact ⟨RowSt.made (w := w) hi (by omega) (bfalse fun e => by rw [h.ord 3 0 (by omega) e] at hl; cases hl) (R_fresh w0 w 0 hsz f), r1.keep hi (by omega) (by omega) (fun k _ hk => hw k hk) hf, r2.keep hi (by omega) (by omega) (fun k _ hk => hw k hk) hf, r3.keep hi (by omega) (by omega) (fun k _ hk => hw k hk) hf⟩
  ·rw [es, ev 3 (by omega), ev 6 (by omega), ev 12 (by omega), ev 13 (by omega), ev 16 (by omega), ev 17 (by omega), ev 20 (by omega)]
   exact ⟨r0.keep hi (by omega) (by omega) (fun k _ hk => hw k hk) hf, RowSt.made (w := w) hi (by omega) (bfalse fun e => by rw [h.ord 9 6 (by omega) e] at hl; cases hl) (R_fresh w0 w 1 hsz f), r2.keep hi (by omega) (by omega) (fun k _ hk => hw k hk) hf, r3.keep hi (by omega) (by omega) (fun k _ hk => hw k hk) hf⟩
  ·rw [es, ev 3 (by omega), ev 6 (by omega), ev 9 (by omega), ev 12 (by omega), ev 16 (by omega), ev 17 (by omega), ev 20 (by omega)]
   exact ⟨r0.keep hi (by omega) (by omega) (fun k _ hk => hw k hk) hf, r1.keep hi (by omega) (by omega) (fun k _ hk => hw k hk) hf, RowSt.made (w := w) hi (by omega) (bfalse fun e => by rw [h.ord 13 10 (by omega) e] at hl; cases hl) (R_fresh w0 w 2 hsz f), r3.keep hi (by omega) (by omega) (fun k _ hk => hw k hk) hf⟩
  ·rw [es, ev 3 (by omega), ev 6 (by omega), ev 9 (by omega), ev 12 (by omega), ev 13 (by omega), ev 16 (by omega), ev 20 (by omega)]
   exact ⟨r0.keep hi (by omega) (by omega) (fun k _ hk => hw k hk) hf, r1.keep hi (by omega) (by omega) (fun k _ hk => hw k hk) hf, r2.keep hi (by omega) (by omega) (fun k _ hk => hw k hk) hf, RowSt.made (w := w) hi (by omega) (bfalse fun e => by rw [h.ord 17 14 (by omega) e] at hl; cases hl) (R_fresh w0 w 3 hsz f)⟩
 ·rw [getD_set hi, if_neg (by omega), h18] at h2; cases h2
 ·rw [getD_set hi, if_neg (by omega), h19] at h2; cases h2
theorem CInv.app (h : CInv w0 xb rb XC y0 y1 y2 y3 n l a w) (i d q : Nat) (hid : (i = 3 ∧ d = 6 ∧ q = 0) ∨ (i = 9 ∧ d = 12 ∧ q = 1) ∨ (i = 13 ∧ d = 16 ∧ q = 2) ∨ (i = 17 ∧ d = 20 ∧ q = 3)) (hl : l.getD i true = false) (hB : ∀ B, (i = 3 ∧ B = 0) ∨ (i = 9 ∧ B = 6) ∨ (i = 13 ∧ B = 10) ∨ (i = 17 ∧ B = 14) ∨ (i = 19 ∧ B = 18) → l.getD B true = true) (h18 : l.getD 18 true = false) (h19 : l.getD 19 true = false)
  {f f' : Nat → Nat} {v v1 : Value} {w1 : World} (hr : w.heap[rb]? = some (.cells #[.slice none 0 0, .int .i64 0, .slice none 0 0, .slice none 0 0, .slice none 0 0] 30 (0, 0))) (hrb : w0.heap.size ≤ rb) (hf : ∀ k, k < w.heap.size → f' k = f k)
  (r0 : RowSt w0 l w f 0 0 3 (a.eval (.tmp 3)) (a.eval (.tmp 6)) y0) (r1 : RowSt w0 l w f 1 6 9 (a.eval (.tmp 9)) (a.eval (.tmp 12)) y1) (r2 : RowSt w0 l w f 2 10 13 (a.eval (.tmp 13)) (a.eval (.tmp 16)) y2) (r3 : RowSt w0 l w f 3 14 17 (a.eval (.tmp 17)) (a.eval (.tmp 20)) y3)
  (hv : ∀ k, v.ownBlock = some k → f k = q ∧ ∃ cells, w.heap[k]? = some (.cells cells 3 (0, 0))) (hb : Below w0.heap.size w0 w1) (hg : w.grownBy w1 v.ownBlock)
  (ho : Kd.R (Kd.int .i64) 3 w1 w0.heap.size (fun k => f' k = q) v1 (if i = 3 then y0 else if i = 9 then y1 else if i = 13 then y2 else y3)) :
  CInv w0 xb rb XC y0 y1 y2 y3 n (l.setIfInBounds i true) (a.put (some d) v1) w1 := by
 have hi : i < l.size := by rw [h.sz]; omega
 have hd : d < a.tmps.size := by rw [h.tsz]; omega
 have ev : ∀ d', d ≠ d' → (a.put (some d) v1).eval (.tmp d') = a.eval (.tmp d') := fun d' hne => eval_put_ne hne
 have es : (a.put (some d) v1).eval (.tmp d) = v1 := eval_put_same hd
 have hfar : ∀ (g t : Nat) (cs : Array Value), w.heap[g]? = some (.cells cs t (0, 0)) → t ≠ 3 → w1.heap[g]? = some (.cells cs t (0, 0)) := fun g t cs hgc hne =>
  blk_grown hgc hg (fun e => by obtain ⟨_, cells, hc⟩ := hv g e.symm; rw [hgc] at hc; injection hc with hc; injection hc with _ hc; exact hne hc)
 have hw : ∀ q', q' ≠ q → ∀ k, f k = q' → k < w.heap.size → w1.heap[k]? = w.heap[k]? := fun q' hne k hk hlt => hg.block k hlt (fun e => by have := (hv k e.symm).1; omega)
 refine ⟨by rw [Array.size_setIfInBounds]; exact h.sz, fun j hj => old_set hi (h.old j hj), ordC_set hi h.ord hB, by rw [put_size]; exact h.tsz, h.dfr, hb, hfar _ _ _ h.bx (by decide), (ev 2 (by omega)).trans h.e2, (ev 8 (by omega)).trans h.e8, ?_, fun _ => ⟨hfar _ _ _ hr (by decide), hrb, f', ?_⟩, fun h2 => ?_, fun h2 => ?_⟩
 ·obtain ⟨A0, c0, A1, c1, A2, c2, A3, c3, x0, x1, x2, x3, z⟩ := h.rows
  exact ⟨A0, c0, A1, c1, A2, c2, A3, c3, (ev 5 (by omega)).trans x0, (ev 11 (by omega)).trans x1, (ev 15 (by omega)).trans x2, (ev 19 (by omega)).trans x3, z⟩
 ·rcases hid with ⟨rfl, rfl, rfl⟩ | ⟨rfl, rfl, rfl⟩ | ⟨rfl, rfl, rfl⟩ | ⟨rfl, rfl, rfl⟩
  ·rw [es, ev 3 (by omega), ev 9 (by omega), ev 12 (by omega), ev 13 (by omega), ev 16 (by omega), ev 17 (by omega), ev 20 (by omega)]
   exact ⟨RowSt.full (w := w) hi ho, r1.keep hi (by omega) (by omega) (hw 1 (by omega)) hf, r2.keep hi (by omega) (by omega) (hw 2 (by omega)) hf, r3.keep hi (by omega) (by omega) (hw 3 (by omega)) hf⟩
  ·rw [es, ev 3 (by omega), ev 6 (by omega), ev 9 (by omega), ev 13 (by omega), ev 16 (by omega), ev 17 (by omega), ev 20 (by omega)]
   exact ⟨r0.keep hi (by omega) (by omega) (hw 0 (by omega)) hf, RowSt.full (w := w) hi ho, r2.keep hi (by omega) (by omega) (hw 2 (by omega)) hf, r3.keep hi (by omega) (by omega) (hw 3 (by omega)) hf⟩
  ·rw [es, ev 3 (by omega), ev 6 (by omega), ev 9 (by omega), ev 12 (by omega), ev 13 (by omega), ev 17 (by omega), ev 20 (by omega)]
   exact ⟨r0.keep hi (by omega) (by omega) (hw 0 (by omega)) hf, r1.keep hi (by omega) (by omega) (hw 1 (by omega)) hf, RowSt.full (w := w) hi ho, r3.keep hi (by omega) (by omega) (hw 3 (by omega)) hf⟩
  ·rw [es, ev 3 (by omega), ev 6 (by omega), ev 9 (by omega), ev 12 (by omega), ev 13 (by omega), ev 16 (by omega), ev 17 (by omega)]
   exact ⟨r0.keep hi (by omega) (by omega) (hw 0 (by omega)) hf, r1.keep hi (by omega) (by omega) (hw 1 (by omega)) hf, r2.keep hi (by omega) (by omega) (hw 2 (by omega)) hf, RowSt.full (w := w) hi ho⟩
 ·rw [getD_set hi, if_neg (by omega), h18] at h2; cases h2
 ·rw [getD_set hi, if_neg (by omega), h19] at h2; cases h2
theorem CInv.tell (h : CInv w0 xb rb XC y0 y1 y2 y3 n l a w) (hl : l.getD 18 true = false) (h19 : l.getD 19 true = false) (a3 : l.getD 3 true = true) (a9 : l.getD 9 true = true) (a13 : l.getD 13 true = true) (a17 : l.getD 17 true = true) :
  CInv w0 xb rb XC y0 y1 y2 y3 n (l.setIfInBounds 18 true) (a.put (some 21) (.agg #[a.eval (.tmp 6), .int .i64 n, a.eval (.tmp 12), a.eval (.tmp 16), a.eval (.tmp 20)])) w := by
 have hi : 18 < l.size := by rw [h.sz]; omega
 have hd : 21 < a.tmps.size := by rw [h.tsz]; omega
 have ev : ∀ d' : Nat, (21 : Nat) ≠ d' → (a.put (some 21) (.agg #[a.eval (.tmp 6), .int .i64 n, a.eval (.tmp 12), a.eval (.tmp 16), a.eval (.tmp 20)])).eval (.tmp d') = a.eval (.tmp d') := fun d' hne => eval_put_ne hne
 have hg : ∀ j : Nat, (18 : Nat) ≠ j → (l.setIfInBounds 18 true).getD j true = l.getD j true := fun j hj => by rw [getD_set hi, if_neg hj]
 refine ⟨by rw [Array.size_setIfInBounds]; exact h.sz, fun j hj => old_set hi (h.old j hj), ordC_set hi h.ord (fun B hB => by omega), by rw [put_size]; exact h.tsz, h.dfr, h.bel, h.bx, (ev 2 (by omega)).trans h.e2, (ev 8 (by omega)).trans h.e8, ?_, fun _ => ?_, fun _ => ?_, fun h2 => ?_⟩
 ·obtain ⟨A0, c0, A1, c1, A2, c2, A3, c3, x0, x1, x2, x3, z⟩ := h.rows
  exact ⟨A0, c0, A1, c1, A2, c2, A3, c3, (ev 5 (by omega)).trans x0, (ev 11 (by omega)).trans x1, (ev 15 (by omega)).trans x2, (ev 19 (by omega)).trans x3, z⟩
 ·obtain ⟨hr, hrb, f, r0, r1, r2, r3⟩ := h.made h19
  refine ⟨hr, hrb, f, ?_⟩
  rw [ev 3 (by omega), ev 6 (by omega), ev 9 (by omega), ev 12 (by omega), ev 13 (by omega), ev 16 (by omega), ev 17 (by omega), ev 20 (by omega)]
  exact ⟨r0.keep hi (by omega) (by omega) (fun _ _ _ => rfl) (fun _ _ => rfl), r1.keep hi (by omega) (by omega) (fun _ _ _ => rfl) (fun _ _ => rfl), r2.keep hi (by omega) (by omega) (fun _ _ _ => rfl) (fun _ _ => rfl), r3.keep hi (by omega) (by omega) (fun _ _ _ => rfl) (fun _ _ => rfl)⟩
 ·rw [hg 3 (by omega), hg 9 (by omega), hg 13 (by omega), hg 17 (by omega), ev 6 (by omega), ev 12 (by omega), ev 16 (by omega), ev 20 (by omega)]
  exact ⟨a3, a9, a13, a17, eval_put_same hd⟩
 ·rw [hg 19 (by omega), h19] at h2; cases h2
theorem CInv.store (h : CInv w0 xb rb XC y0 y1 y2 y3 n l a w) (hl : l.getD 19 true = false) (hr : w.heap[rb]? = some (.cells #[.slice none 0 0, .int .i64 0, .slice none 0 0, .slice none 0 0, .slice none 0 0] 30 (0, 0))) (hrb : w0.heap.size ≤ rb) (h18 : l.getD 18 true = true) {f : Nat → Nat} {v0 v1 v2 v3 : Value}
  (r0 : Kd.R (Kd.int .i64) 3 w w0.heap.size (fun k => f k = 0) v0 y0) (r1 : Kd.R (Kd.int .i64) 3 w w0.heap.size (fun k => f k = 1) v1 y1) (r2 : Kd.R (Kd.int .i64) 3 w w0.heap.size (fun k => f k = 2) v2 y2) (r3 : Kd.R (Kd.int .i64) 3 w w0.heap.size (fun k => f k = 3) v3 y3) (hne : xb ≠ rb) :
  CInv w0 xb rb XC y0 y1 y2 y3 n (l.setIfInBounds 19 true) (a.put none undef) (w.setCells rb 0 [v0, .int .i64 n, v1, v2, v3]) := by
 have hi : 19 < l.size := by rw [h.sz]; omega
 have hg : ∀ j : Nat, (19 : Nat) ≠ j → (l.setIfInBounds 19 true).getD j true = l.getD j true := fun j hj => by rw [getD_set hi, if_neg hj]
 have hs : (l.setIfInBounds 19 true).getD 19 true = true := by rw [getD_set hi, if_pos rfl]
 obtain ⟨cur, c1, c2, c3⟩ := setCells_row [v0, .int .i64 n, v1, v2, v3] 0 w _ hr (by simp)
 obtain ⟨s1, s2, s3, s4⟩ := setCells_same rb [v0, .int .i64 n, v1, v2, v3] 0 w
 have hfar : ∀ k, k ≠ rb → (w.setCells rb 0 [v0, .int .i64 n, v1, v2, v3]).heap[k]? = w.heap[k]? := fun k hk => setCells_far _ _ k hk
 have hcur : cur = #[v0, .int .i64 n, v1, v2, v3] := by
  apply Array.toList_inj.mp
  rw [c3]
  simp
 have hR : ∀ {q : Nat} {v : Value} {y : List Int}, Kd.R (Kd.int .i64) 3 w w0.heap.size (fun k => f k = q) v y → Kd.R (Kd.int .i64) 3 (w.setCells rb 0 [v0, .int .i64 n, v1, v2, v3]) w0.heap.size (fun k => f k = q) v y := fun hv =>
  Kd.R_mono (Kd.R_step (Kd.R_types hv hr (by decide)) (fun k hk _ => hfar k hk.2)) (fun k hk => hk.1)
 refine ⟨by rw [Array.size_setIfInBounds]; exact h.sz, fun j hj => old_set hi (h.old j hj), ordC_set hi h.ord (fun B hB => by rw [show B = 18 by omega]; exact h18), h.tsz, h.dfr, h.bel.trans ⟨s1, s2, s3, by rw [s4]; exact Nat.le_refl _, fun k hk => hfar k (by omega)⟩, (hfar xb hne).trans h.bx, h.e2, h.e8, h.rows, fun h2 => (by rw [hs] at h2; cases h2), fun _ => ?_, fun _ => ?_⟩
 ·obtain ⟨a3, a9, a13, a17, e⟩ := h.told h18
  exact ⟨(hg 3 (by omega)).trans a3, (hg 9 (by omega)).trans a9, (hg 13 (by omega)).trans a13, (hg 17 (by omega)).trans a17, e⟩
 ·exact ⟨v0, v1, v2, v3, f, by rw [c1, hcur], hR r0, hR r1, hR r2, hR r3⟩
end
set_option maxHeartbeats 8000000 in
set_option maxRecDepth 100000 in
theorem hypercuberef2_Copy.calls (A0_0 : Option Addr) (c0_0 : Nat) (l0_0 : List Int) (a0_1 : Int) (A0_2 : Option Addr) (c0_2 : Nat) (l0_2 : List Int) (A0_3 : Option Addr) (c0_3 : Nat) (l0_3 : List Int) (A0_4 : Option Addr) (c0_4 : Nat) (l0_4 : List Int) (r1 : List Int) (r2 : Int) (r3 : List Int) (r4 : List Int) (r5 : List Int) (w : World) (hr0_0 : Kd.C (Kd.int .i64) w A0_0 l0_0.length l0_0) (hc0_0 : l0_0.length ≤ c0_0) (hr0_2 : Kd.C (Kd.int .i64) w A0_2 l0_2.length l0_2) (hc0_2 : l0_2.length ≤ c0_2) (hr0_3 : Kd.C (Kd.int .i64) w A0_3 l0_3.length l0_3) (hc0_3 : l0_3.length ≤ c0_3) (hr0_4 : Kd.C (Kd.int .i64) w A0_4 l0_4.length l0_4) (hc0_4 : l0_4.length ≤ c0_4) (h : hypercuberef2_Copy.f l0_0 a0_1 l0_2 l0_3 l0_4 = some (r1, r2, r3, r4, r5)) :
  Calls Try.prog 52 #[.agg #[.slice A0_0 l0_0.length c0_0, .int .i64 a0_1, .slice A0_2 l0_2.length c0_2, .slice A0_3 l0_3.length c0_3, .slice A0_4 l0_4.length c0_4]] w fun e w' => ∃ v0_ v2_ v3_ v4_ : Value, e = .returned (.agg #[v0_, .int .i64 r2, v2_, v3_, v4_]) ∧ Kd.R (Kd.int .i64) 3 w' w.heap.size (fun k_ => some k_ ≠ (v2_ : Value).ownBlock ∧ some k_ ≠ (v3_ : Value).ownBlock ∧ some k_ ≠ (v4_ : Value).ownBlock) v0_ r1 ∧ Kd.R (Kd.int .i64) 3 w' w.heap.size (fun k_ => some k_ ≠ (v0_ : Value).ownBlock ∧ some k_ ≠ (v3_ : Value).ownBlock ∧ some k_ ≠ (v4_ : Value).ownBlock) v2_ r3 ∧ Kd.R (Kd.int .i64) 3 w' w.heap.size (fun k_ => some k_ ≠ (v0_ : Value).ownBlock ∧ some k_ ≠ (v2_ : Value).ownBlock ∧ some k_ ≠ (v4_ : Value).ownBlock) v3_ r4 ∧ Kd.R (Kd.int .i64) 3 w' w.heap.size (fun k_ => some k_ ≠ (v0_ : Value).ownBlock ∧ some k_ ≠ (v2_ : Value).ownBlock ∧ some k_ ≠ (v3_ : Value).ownBlock) v4_ r5 ∧ Below w.heap.size w w' := by
 have hu30 := Try.underlying30
 unfold hypercuberef2_Copy.f at h
 have hlim : (l0_0.length * 8 ≤ 140737488355328 ∧ l0_2.length * 8 ≤ 140737488355328 ∧ l0_3.length * 8 ≤ 140737488355328 ∧ l0_4.length * 8 ≤ 140737488355328) ∧ (l0_0, a0_1, l0_2, l0_3, l0_4) = (r1, r2, r3, r4, r5) := by
  split at h
  · exact ⟨by assumption, Option.some.inj h⟩
  · cases h
 obtain ⟨hlim, he⟩ := hlim
 simp only [Prod.mk.injEq] at he
 obtain ⟨rfl, rfl, rfl, rfl, rfl⟩ := he
 have HL := am hlim
 have G0 := am hr0_0
 have G2 := am hr0_2
 have G3 := am hr0_3
 have G4 := am hr0_4
 clear h hlim hr0_0 hr0_2 hr0_3 hr0_4 hc0_0 hc0_2 hc0_3 hc0_4
 have HB := am (Below.refl w.heap.size w)
 go_enter Try.func52, Try.ntmps52
 go_wp2_with (first
  | ((with_reducible refine gate_dst (N := 1) rfl ?_); refine zX #[.slice A0_0 l0_0.length c0_0, .int .i64 a0_1, .slice A0_2 l0_2.length c0_2, .slice A0_3 l0_3.length c0_3, .slice A0_4 l0_4.length c0_4] 30 ?_; intro gx hg w3 hbox hb; have n0_ := am (below_step HB.out hb); have n1_ := am hbox; clear HB; revert n0_ n1_; intro HB BKx; clear hb hbox hg)
  | ((with_reducible refine gate_dst (N := 2) rfl ?_); refine zX #[.slice none 0 0, .int .i64 0, .slice none 0 0, .slice none 0 0, .slice none 0 0] 30 ?_; intro gr hg w4 hbox hb; have n0_ := am (below_step HB.out hb); have n1_ := am hbox; have n2_ := am (blk_below BKx.out hb); have n3_ := am (show w.heap.size ≤ gr by rw [hg]; exact HB.out.size); have NExr := am (show gx ≠ gr by rw [hg]; exact Nat.ne_of_lt (blk_lt BKx.out)); clear HB BKx; revert n0_ n1_ n2_ n3_; intro HB BKr BKx GEr; clear hb hbox hg))

 refine start_ (n := 20) (S := fun w' => w'.heap[gx]? = some (.cells #[.slice A0_0 l0_0.length c0_0, .int .i64 a0_1, .slice A0_2 l0_2.length c0_2, .slice A0_3 l0_3.length c0_3, .slice A0_4 l0_4.length c0_4] 30 (0, 0))) (ds := [19]) (bb 20 0) (by kernel_rfl) rfl rfl BKx.out (fun hHeld => ?_); refine with_tabW ref_Copy.tab1 ref_Copy.bits1 (fun HT_ HW_ => ?_)
 have n0_ := am (below_drew1 HB.out)
 have n1_ := am (blk_drew BKx.out)
 have n2_ := am (blk_drew BKr.out)
 clear HB BKx BKr
 revert n0_ n1_ n2_
 intro HB BKx BKr
 generalize w4.drew = w5 at HB BKx BKr hHeld ⊢
 refine pure_ (i := 1) (N := some 4) (v := ?_) (a' := ?_) (bb 20 2) rfl rfl (any_of HT_.out (by kernel_rfl)) (fun _ _ _ h => h) (Or.inl ⟨by rfl, ?_⟩) ?_ ?_
 rotate_left
 ·intro w'
  go_simp
  with_reducible rfl
 rotate_left
 ·simp only [ps]
  rfl
 refine pure_ (i := 4) (N := some 7) (v := ?_) (a' := ?_) (bb 20 18) rfl rfl (any_of HT_.out (by kernel_rfl)) (fun _ _ _ h => h) (Or.inl ⟨by rfl, ?_⟩) ?_ ?_
 rotate_left
 ·intro w'
  go_simp
  with_reducible rfl
 rotate_left
 ·simp only [ps]
  rfl
 refine pure_ (i := 7) (N := some 10) (v := ?_) (a' := ?_) (bb 20 146) rfl rfl (any_of HT_.out (by kernel_rfl)) (fun _ _ _ h => h) (Or.inl ⟨by rfl, ?_⟩) ?_ ?_
 rotate_left
 ·intro w'
  go_simp
  with_reducible rfl
 rotate_left
 ·simp only [ps]
  rfl
 refine pure_ (i := 11) (N := some 14) (v := ?_) (a' := ?_) (bb 20 2194) rfl rfl (any_of HT_.out (by kernel_rfl)) (fun _ _ _ h => h) (Or.inl ⟨by rfl, ?_⟩) ?_ ?_
 rotate_left
 ·intro w'
  go_simp
  with_reducible rfl
 rotate_left
 ·simp only [ps]
  rfl
 refine pure_ (i := 15) (N := some 18) (v := ?_) (a' := ?_) (bb 20 34962) rfl rfl (any_of HT_.out (by kernel_rfl)) (fun _ _ _ h => h) (Or.inl ⟨by rfl, ?_⟩) ?_ ?_
 rotate_left
 ·intro w'
  go_simp
  with_reducible rfl
 rotate_left
 ·simp only [ps]
  rfl
 refine take_ (i := 2) (N := some 5) (v := ?_) (a' := ?_) (bb 20 34966) rfl rfl (take_ofW HT_.out HW_.out (by kernel_rfl)) (fun _ _ _ h => h) (Or.inl ⟨by rfl, ?_⟩) hHeld ?_ ?_
 rotate_left
 ·intro w' hs
  have s0 := (blk_cell hs 0).trans rfl
  have s1 := (blk_cell hs 1).trans rfl
  have s2 := (blk_cell hs 2).trans rfl
  have s3 := (blk_cell hs 3).trans rfl
  have s4 := (blk_cell hs 4).trans rfl
  clear hs
  go_simp
  with_reducible rfl
 rotate_left
 ·simp only [ps]
  rfl
 refine take_ (i := 5) (N := some 8) (v := ?_) (a' := ?_) (bb 20 34998) rfl rfl (take_ofW HT_.out HW_.out (by kernel_rfl)) (fun _ _ _ h => h) (Or.inl ⟨by rfl, ?_⟩) hHeld ?_ ?_
 rotate_left
 ·intro w' hs
  have s0 := (blk_cell hs 0).trans rfl
  have s1 := (blk_cell hs 1).trans rfl
  have s2 := (blk_cell hs 2).trans rfl
  have s3 := (blk_cell hs 3).trans rfl
  have s4 := (blk_cell hs 4).trans rfl
  clear hs
  go_simp
  with_reducible rfl
 rotate_left
 ·simp only [ps]
  rfl
 refine take_ (i := 8) (N := some 11) (v := ?_) (a' := ?_) (bb 20 35254) rfl rfl (take_ofW HT_.out HW_.out (by kernel_rfl)) (fun _ _ _ h => h) (Or.inl ⟨by rfl, ?_⟩) hHeld ?_ ?_
 rotate_left
 ·intro w' hs
  have s0 := (blk_cell hs 0).trans rfl
  have s1 := (blk_cell hs 1).trans rfl
  have s2 := (blk_cell hs 2).trans rfl
  have s3 := (blk_cell hs 3).trans rfl
  have s4 := (blk_cell hs 4).trans rfl
  clear hs
  go_simp
  with_reducible rfl
 rotate_left
 ·simp only [ps]
  rfl
 refine take_ (i := 12) (N := some 15) (v := ?_) (a' := ?_) (bb 20 39350) rfl rfl (take_ofW HT_.out HW_.out (by kernel_rfl)) (fun _ _ _ h => h) (Or.inl ⟨by rfl, ?_⟩) hHeld ?_ ?_
 rotate_left
 ·intro w' hs
  have s0 := (blk_cell hs 0).trans rfl
  have s1 := (blk_cell hs 1).trans rfl
  have s2 := (blk_cell hs 2).trans rfl
  have s3 := (blk_cell hs 3).trans rfl
  have s4 := (blk_cell hs 4).trans rfl
  clear hs
  go_simp
  with_reducible rfl
 rotate_left
 ·simp only [ps]
  rfl
 refine take_ (i := 16) (N := some 19) (v := ?_) (a' := ?_) (bb 20 104886) rfl rfl (take_ofW HT_.out HW_.out (by kernel_rfl)) (fun _ _ _ h => h) (Or.inl ⟨by rfl, ?_⟩) hHeld ?_ ?_
 rotate_left
 ·intro w' hs
  have s0 := (blk_cell hs 0).trans rfl
  have s1 := (blk_cell hs 1).trans rfl
  have s2 := (blk_cell hs 2).trans rfl
  have s3 := (blk_cell hs 3).trans rfl
  have s4 := (blk_cell hs 4).trans rfl
  clear hs
  go_simp
  with_reducible rfl
 rotate_left
 ·simp only [ps]
  rfl
 refine anyLast_inv (CInv w gx gr #[.slice A0_0 l0_0.length c0_0, .int .i64 a0_1, .slice A0_2 l0_2.length c0_2, .slice A0_3 l0_3.length c0_3, .slice A0_4 l0_4.length c0_4] l0_0 l0_2 l0_3 l0_4 a0_1) ?step ?last _ _ _ _ (by decide) ?init
 case init =>
  refine ⟨rfl, ?_, ?_, rfl, rfl, HB.out, BKx.out, rfl, rfl, ⟨_, _, _, _, _, _, _, _, rfl, rfl, rfl, rfl, G0.out, G2.out, G3.out, G4.out⟩, fun _ => ⟨BKr.out, GEr.out, fun _ => 0, ?_, ?_, ?_, ?_⟩, fun h => absurd h (by decide), fun h => absurd h (by decide)⟩
  · rintro j (rfl | rfl | rfl | rfl | rfl | rfl | rfl | rfl | rfl | rfl) <;> rfl
  · intro A B hAB h1
    rcases hAB with ⟨rfl, rfl⟩ | ⟨rfl, rfl⟩ | ⟨rfl, rfl⟩ | ⟨rfl, rfl⟩ | ⟨rfl, rfl⟩ <;> exact absurd h1 (by decide)
  all_goals exact ⟨fun h => absurd h (by decide), fun h => absurd h (by decide)⟩
 case step =>
  intro l a w' i hI hr
  clear HB BKx BKr hHeld HT_ HW_
  obtain ⟨hi, hl, hn⟩ := ready_at hr
  have hcase : i = 0 ∨ i = 3 ∨ i = 6 ∨ i = 9 ∨ i = 10 ∨ i = 13 ∨ i = 14 ∨ i = 17 ∨ i = 18 ∨ i = 19 := by
   have h20 : i < 20 := hi
   have hno : ¬ (i = 1 ∨ i = 2 ∨ i = 4 ∨ i = 5 ∨ i = 7 ∨ i = 8 ∨ i = 11 ∨ i = 12 ∨ i = 15 ∨ i = 16) := fun h => by rw [hI.old i h] at hl; cases hl
   omega
  clear hi hr
  rcases hcase with rfl | rfl | rfl | rfl | rfl | rfl | rfl | rfl | rfl | rfl
  · refine op_now rfl (value_ (w1 := w'.alloc (.cells #[] 3)) (v := .slice (some ⟨w'.heap.size, 0, none⟩) 0 0) (by rfl) rfl (by go_simp; first | done | rfl | (constructor <;> rfl)) ⟨fun _ hS => blk_alloc hS _, ?_⟩)
    exact hI.build 0 3 (by omega) hl
  · have hB0 := hn _ rfl ⟨0, .data⟩ (by simp) rfl
    have h18 : l.getD 18 true = false := bfalse fun e => by
      obtain ⟨a3, a9, a13, a17, _⟩ := hI.told e
      first | (rw [a3] at hl; cases hl) | (rw [a9] at hl; cases hl) | (rw [a13] at hl; cases hl) | (rw [a17] at hl; cases hl)
    have h19 : l.getD 19 true = false := bfalse fun e => by rw [hI.ord 19 18 (by omega) e] at h18; cases h18
    obtain ⟨hr, hrb, f, r0, r1, r2, r3⟩ := hI.made h19
    obtain ⟨X0, z0, X1, z1, X2, z2, X3, z3, x0, x1, x2, x3, k0, k1, k2, k3⟩ := hI.rows
    have hHO := r0.1 hB0 hl
    have hHO2 := R_refun (f' := fun k => if w'.heap.size ≤ k then 0 else f k) hHO (fun _ _ _ => rfl) (fun k hk => if_neg (by omega))
    refine op_now rfl (Kd.R_append_rows_step (Kd.int .i64) (Rr := (Kd.int .i64).K w) (w0 := w) w.heap.size (by rfl) (.tmp 3) (.tmp 5) 22 3 (.int .i64 0) 8 rfl Try.underlying22 info3 rfl (by decide) (by decide) (a.eval (.tmp 3)) [] l0_0 X0 l0_0.length z0 (fun k => (if w'.heap.size ≤ k then 0 else f k) = 0) (fun _ => False) rfl x0 hHO2 (Kd.C_below k0 hI.bel) (fun _ _ h => h) (fun _ h => h.elim) (fun k hk => if_pos hk) hI.bel hI.bel.size (by have := HL.out.1; simp only [List.length_nil]; omega) ?_)
    intro v1 w1 ho hb hg hat
    have hv : ∀ k, (a.eval (.tmp 3)).ownBlock = some k → f k = 0 ∧ ∃ cells, w'.heap[k]? = some (.cells cells 3 (0, 0)) := fun k hk => ⟨hHO.1 k hk, Kd.R_typed hHO k hk⟩
    refine ⟨fun _ hS => blk_grown hS hg (fun e => by obtain ⟨_, cells, hc⟩ := hv gx e.symm; rw [hS] at hc; injection hc with hc; injection hc with _ hc; exact absurd hc (by decide)), ?_⟩
    exact hI.app 3 6 0 (by omega) hl (fun B hB => (show 0 = B by omega) ▸ hB0) h18 h19 hr hrb (f' := fun k => if w'.heap.size ≤ k then 0 else f k) (fun k hk => if_neg (by omega)) r0 r1 r2 r3 hv hb hg ho
  · refine op_now rfl (value_ (w1 := w'.alloc (.cells #[] 3)) (v := .slice (some ⟨w'.heap.size, 0, none⟩) 0 0) (by rfl) rfl (by go_simp; first | done | rfl | (constructor <;> rfl)) ⟨fun _ hS => blk_alloc hS _, ?_⟩)
    exact hI.build 6 9 (by omega) hl
  · have hB0 := hn _ rfl ⟨6, .data⟩ (by simp) rfl
    have h18 : l.getD 18 true = false := bfalse fun e => by
      obtain ⟨a3, a9, a13, a17, _⟩ := hI.told e
      first | (rw [a3] at hl; cases hl) | (rw [a9] at hl; cases hl) | (rw [a13] at hl; cases hl) | (rw [a17] at hl; cases hl)
    have h19 : l.getD 19 true = false := bfalse fun e => by rw [hI.ord 19 18 (by omega) e] at h18; cases h18
    obtain ⟨hr, hrb, f, r0, r1, r2, r3⟩ := hI.made h19
    obtain ⟨X0, z0, X1, z1, X2, z2, X3, z3, x0, x1, x2, x3, k0, k1, k2, k3⟩ := hI.rows
    have hHO := r1.1 hB0 hl
    have hHO2 := R_refun (f' := fun k => if w'.heap.size ≤ k then 1 else f k) hHO (fun _ _ _ => rfl) (fun k hk => if_neg (by omega))
    refine op_now rfl (Kd.R_append_rows_step (Kd.int .i64) (Rr := (Kd.int .i64).K w) (w0 := w) w.heap.size (by rfl) (.tmp 9) (.tmp 11) 22 3 (.int .i64 0) 8 rfl Try.underlying22 info3 rfl (by decide) (by decide) (a.eval (.tmp 9)) [] l0_2 X1 l0_2.length z1 (fun k => (if w'.heap.size ≤ k then 1 else f k) = 1) (fun _ => False) rfl x1 hHO2 (Kd.C_below k1 hI.bel) (fun _ _ h => h) (fun _ h => h.elim) (fun k hk => if_pos hk) hI.bel hI.bel.size (by have := HL.out.2.1; simp only [List.length_nil]; omega) ?_)
    intro v1 w1 ho hb hg hat
    have hv : ∀ k, (a.eval (.tmp 9)).ownBlock = some k → f k = 1 ∧ ∃ cells, w'.heap[k]? = some (.cells cells 3 (0, 0)) := fun k hk => ⟨hHO.1 k hk, Kd.R_typed hHO k hk⟩
    refine ⟨fun _ hS => blk_grown hS hg (fun e => by obtain ⟨_, cells, hc⟩ := hv gx e.symm; rw [hS] at hc; injection hc with hc; injection hc with _ hc; exact absurd hc (by decide)), ?_⟩
    exact hI.app 9 12 1 (by omega) hl (fun B hB => (show 6 = B by omega) ▸ hB0) h18 h19 hr hrb (f' := fun k => if w'.heap.size ≤ k then 1 else f k) (fun k hk => if_neg (by omega)) r0 r1 r2 r3 hv hb hg ho
  · refine op_now rfl (value_ (w1 := w'.alloc (.cells #[] 3)) (v := .slice (some ⟨w'.heap.size, 0, none⟩) 0 0) (by rfl) rfl (by go_simp; first | done | rfl | (constructor <;> rfl)) ⟨fun _ hS => blk_alloc hS _, ?_⟩)
    exact hI.build 10 13 (by omega) hl
  · have hB0 := hn _ rfl ⟨10, .data⟩ (by simp) rfl
    have h18 : l.getD 18 true = false := bfalse fun e => by
      obtain ⟨a3, a9, a13, a17, _⟩ := hI.told e
      first | (rw [a3] at hl; cases hl) | (rw [a9] at hl; cases hl) | (rw [a13] at hl; cases hl) | (rw [a17] at hl; cases hl)
    have h19 : l.getD 19 true = false := bfalse fun e => by rw [hI.ord 19 18 (by omega) e] at h18; cases h18
    obtain ⟨hr, hrb, f, r0, r1, r2, r3⟩ := hI.made h19
    obtain ⟨X0, z0, X1, z1, X2, z2, X3, z3, x0, x1, x2, x3, k0, k1, k2, k3⟩ := hI.rows
    have hHO := r2.1 hB0 hl
    have hHO2 := R_refun (f' := fun k => if w'.heap.size ≤ k then 2 else f k) hHO (fun _ _ _ => rfl) (fun k hk => if_neg (by omega))
    refine op_now rfl (Kd.R_append_rows_step (Kd.int .i64) (Rr := (Kd.int .i64).K w) (w0 := w) w.heap.size (by rfl) (.tmp 13) (.tmp 15) 22 3 (.int .i64 0) 8 rfl Try.underlying22 info3 rfl (by decide) (by decide) (a.eval (.tmp 13)) [] l0_3 X2 l0_3.length z2 (fun k => (if w'.heap.size ≤ k then 2 else f k) = 2) (fun _ => False) rfl x2 hHO2 (Kd.C_below k2 hI.bel) (fun _ _ h => h) (fun _ h => h.elim) (fun k hk => if_pos hk) hI.bel hI.bel.size (by have := HL.out.2.2.1; simp only [List.length_nil]; omega) ?_)
    intro v1 w1 ho hb hg hat
    have hv : ∀ k, (a.eval (.tmp 13)).ownBlock = some k → f k = 2 ∧ ∃ cells, w'.heap[k]? = some (.cells cells 3 (0, 0)) := fun k hk => ⟨hHO.1 k hk, Kd.R_typed hHO k hk⟩
    refine ⟨fun _ hS => blk_grown hS hg (fun e => by obtain ⟨_, cells, hc⟩ := hv gx e.symm; rw [hS] at hc; injection hc with hc; injection hc with _ hc; exact absurd hc (by decide)), ?_⟩
    exact hI.app 13 16 2 (by omega) hl (fun B hB => (show 10 = B by omega) ▸ hB0) h18 h19 hr hrb (f' := fun k => if w'.heap.size ≤ k then 2 else f k) (fun k hk => if_neg (by omega)) r0 r1 r2 r3 hv hb hg ho
  · refine op_now rfl (value_ (w1 := w'.alloc (.cells #[] 3)) (v := .slice (some ⟨w'.heap.size, 0, none⟩) 0 0) (by rfl) rfl (by go_simp; first | done | rfl | (constructor <;> rfl)) ⟨fun _ hS => blk_alloc hS _, ?_⟩)
    exact hI.build 14 17 (by omega) hl
  · have hB0 := hn _ rfl ⟨14, .data⟩ (by simp) rfl
    have h18 : l.getD 18 true = false := bfalse fun e => by
      obtain ⟨a3, a9, a13, a17, _⟩ := hI.told e
      first | (rw [a3] at hl; cases hl) | (rw [a9] at hl; cases hl) | (rw [a13] at hl; cases hl) | (rw [a17] at hl; cases hl)
    have h19 : l.getD 19 true = false := bfalse fun e => by rw [hI.ord 19 18 (by omega) e] at h18; cases h18
    obtain ⟨hr, hrb, f, r0, r1, r2, r3⟩ := hI.made h19
    obtain ⟨X0, z0, X1, z1, X2, z2, X3, z3, x0, x1, x2, x3, k0, k1, k2, k3⟩ := hI.rows
    have hHO := r3.1 hB0 hl
    have hHO2 := R_refun (f' := fun k => if w'.heap.size ≤ k then 3 else f k) hHO (fun _ _ _ => rfl) (fun k hk => if_neg (by omega))
    refine op_now rfl (Kd.R_append_rows_step (Kd.int .i64) (Rr := (Kd.int .i64).K w) (w0 := w) w.heap.size (by rfl) (.tmp 17) (.tmp 19) 22 3 (.int .i64 0) 8 rfl Try.underlying22 info3 rfl (by decide) (by decide) (a.eval (.tmp 17)) [] l0_4 X3 l0_4.length z3 (fun k => (if w'.heap.size ≤ k then 3 else f k) = 3) (fun _ => False) rfl x3 hHO2 (Kd.C_below k3 hI.bel) (fun _ _ h => h) (fun _ h => h.elim) (fun k hk => if_pos hk) hI.bel hI.bel.size (by have := HL.out.2.2.2; simp only [List.length_nil]; omega) ?_)
    intro v1 w1 ho hb hg hat
    have hv : ∀ k, (a.eval (.tmp 17)).ownBlock = some k → f k = 3 ∧ ∃ cells, w'.heap[k]? = some (.cells cells 3 (0, 0)) := fun k hk => ⟨hHO.1 k hk, Kd.R_typed hHO k hk⟩
    refine ⟨fun _ hS => blk_grown hS hg (fun e => by obtain ⟨_, cells, hc⟩ := hv gx e.symm; rw [hS] at hc; injection hc with hc; injection hc with _ hc; exact absurd hc (by decide)), ?_⟩
    exact hI.app 17 20 3 (by omega) hl (fun B hB => (show 14 = B by omega) ▸ hB0) h18 h19 hr hrb (f' := fun k => if w'.heap.size ≤ k then 3 else f k) (fun k hk => if_neg (by omega)) r0 r1 r2 r3 hv hb hg ho
  · have a3 := hn _ rfl ⟨3, .data⟩ (by simp) rfl
    have a9 := hn _ rfl ⟨9, .data⟩ (by simp) rfl
    have a13 := hn _ rfl ⟨13, .data⟩ (by simp) rfl
    have a17 := hn _ rfl ⟨17, .data⟩ (by simp) rfl
    have h19 : l.getD 19 true = false := bfalse fun e => by rw [hI.ord 19 18 (by omega) e] at hl; cases hl
    obtain ⟨hr, hrb, f, r0, r1, r2, r3⟩ := hI.made h19
    obtain ⟨B0, b0, e0⟩ := Kd.R_slice (r0.2 a3)
    obtain ⟨B2, b2, e2⟩ := Kd.R_slice (r1.2 a9)
    obtain ⟨B3, b3, e3⟩ := Kd.R_slice (r2.2 a13)
    obtain ⟨B4, b4, e4⟩ := Kd.R_slice (r3.2 a17)
    have t8 : a.tmps[8]?.getD undef = .int .i64 a0_1 := by simpa [Act.eval] using hI.e8
    have t6 : a.tmps[6]?.getD undef = .slice B0 l0_0.length b0 := by simpa [Act.eval] using e0
    have t12 : a.tmps[12]?.getD undef = .slice B2 l0_2.length b2 := by simpa [Act.eval] using e2
    have t16 : a.tmps[16]?.getD undef = .slice B3 l0_3.length b3 := by simpa [Act.eval] using e3
    have t20 : a.tmps[20]?.getD undef = .slice B4 l0_4.length b4 := by simpa [Act.eval] using e4
    refine op_now rfl (value_ (w1 := w') (v := .agg #[a.eval (.tmp 6), .int .i64 a0_1, a.eval (.tmp 12), a.eval (.tmp 16), a.eval (.tmp 20)]) (by rfl) rfl (by go_simp; first | done | rfl | trace_state) ⟨fun _ hS => hS, ?_⟩)
    exact hI.tell hl h19 a3 a9 a13 a17
  · have a18 := hn _ rfl ⟨18, .data⟩ (by simp) rfl
    obtain ⟨hr, hrb, f, r0, r1, r2, r3⟩ := hI.made hl
    obtain ⟨a3, a9, a13, a17, e21⟩ := hI.told a18
    obtain ⟨B0, b0, e0⟩ := Kd.R_slice (r0.2 a3)
    obtain ⟨B2, b2, e2⟩ := Kd.R_slice (r1.2 a9)
    obtain ⟨B3, b3, e3⟩ := Kd.R_slice (r2.2 a13)
    obtain ⟨B4, b4, e4⟩ := Kd.R_slice (r3.2 a17)
    rw [e0, e2, e3, e4] at e21
    have t2 : a.tmps[2]?.getD undef = .pointer (some ⟨gr, 0, none⟩) := by simpa [Act.eval] using hI.e2
    have t21 : a.tmps[21]?.getD undef = .agg #[.slice B0 l0_0.length b0, .int .i64 a0_1, .slice B2 l0_2.length b2, .slice B3 l0_3.length b3, .slice B4 l0_4.length b4] := by simpa [Act.eval] using e21
    have z0 := (blk_cell hr 0).trans rfl
    have z1 := (blk_cell hr 1).trans rfl
    have z2 := (blk_cell hr 2).trans rfl
    have z3 := (blk_cell hr 3).trans rfl
    have z4 := (blk_cell hr 4).trans rfl
    have f0 := blk_frozen hr 0
    have f1 := blk_frozen hr 1
    have f2 := blk_frozen hr 2
    have f3 := blk_frozen hr 3
    have f4 := blk_frozen hr 4
    refine op_now rfl (skip_ (w1 := w'.setCells gr 0 [.slice B0 l0_0.length b0, .int .i64 a0_1, .slice B2 l0_2.length b2, .slice B3 l0_3.length b3, .slice B4 l0_4.length b4]) (by rfl) rfl (by go_simp; rfl) ⟨fun hd => absurd (by simp) hd, ?_⟩)
    rw [e0] at r0
    rw [e2] at r1
    rw [e3] at r2
    rw [e4] at r3
    exact hI.store hl hr hrb a18 (r0.2 a3) (r1.2 a9) (r2.2 a13) (r3.2 a17) NExr.out
 case last =>
  intro l a w' hI hr
  clear HB BKx BKr hHeld HT_ HW_
  have hall := none_left (by exact hI.sz) (low_of (by kernel_rfl)) hr
  obtain ⟨v0, v1, v2, v3, f, hb, x0, x1, x2, x3⟩ := hI.fin (hall 19 (by decide))
  have he2 := hI.e2
  have hdf := hI.dfr
  go_wp2
  refine bodyPost_ret (results_cell_row rfl _ _ gr 30 #[v0, .int .i64 a0_1, v1, v2, v3] (0, 0) _ he2 hb Try.underlying30 rfl (by kernel_rfl)) hdf ?_
  exact ⟨v0, v1, v2, v3, rfl, Kd.R_mono x0 (fun k hk => ⟨fun e => by have := x1.1 k e.symm; omega, fun e => by have := x2.1 k e.symm; omega, fun e => by have := x3.1 k e.symm; omega⟩),
    Kd.R_mono x1 (fun k hk => ⟨fun e => by have := x0.1 k e.symm; omega, fun e => by have := x2.1 k e.symm; omega, fun e => by have := x3.1 k e.symm; omega⟩),
    Kd.R_mono x2 (fun k hk => ⟨fun e => by have := x0.1 k e.symm; omega, fun e => by have := x1.1 k e.symm; omega, fun e => by have := x3.1 k e.symm; omega⟩),
    Kd.R_mono x3 (fun k hk => ⟨fun e => by have := x0.1 k e.symm; omega, fun e => by have := x1.1 k e.symm; omega, fun e => by have := x2.1 k e.symm; omega⟩), hI.bel⟩
end Go.Proofs.Ytmkjkkmilopcpaa.Q
