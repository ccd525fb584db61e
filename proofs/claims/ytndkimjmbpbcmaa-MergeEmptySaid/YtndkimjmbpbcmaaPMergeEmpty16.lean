-- packed by wip/tools/pack.py (a program of this session) out of its own texts
import Derived.Test.YtndkimjmbpbcmaaPMergeEmpty0
import Derived.ArgAppend
import Derived.Below
import Derived.BigQuiet
import Derived.Deep.AppendLies
import Derived.Deep.CutBlock
import Derived.Deep.DeepCutAuto
import Derived.Deep.Draws
import Derived.Deep.LoopGhost
import Derived.Deep.OwnRows
import Derived.Deep.QuietTactic
import Derived.Deep.RegionHeld3
import Derived.KernelRfl
import Derived.Laws.BitsLemmas
import Derived.Laws.BytesArg
import Derived.Laws.EntriesVeiled
import Derived.Laws.Externs
import Derived.Laws.IdiomCopy
import Derived.Laws.MakeOwn
import Derived.Laws.OwnMore
import Derived.Laws.Rows
import Derived.Laws.Slices
import Derived.Lib.AppendStr
import Derived.Lib.AppendZeros
import Derived.Lib.AppendZerosOnto
import Derived.Lib.ConvBytes
import Derived.Lib.JoinLaws
import Derived.Lib.Overlaps
import Derived.Lib.SliceRun
import Derived.Lib.Walk
import Derived.LoopIn
import Derived.LoopNIn
import Derived.Maps.AppendAt
import Derived.OrdersHeld
import Derived.OrdersIn
import Derived.OwnWalk
import Derived.OwnWalkIn
import Derived.RangeFuncBound
import Derived.RangeFuncBox
import Derived.RangeFuncCalls
import Derived.RangeFuncLeaves
import Derived.RangeFuncNested
import Derived.RangeFuncOwn
import Derived.RowKit
import Derived.RowKit3
import Derived.Shelf.Abstract
import Derived.Shelf.RegionOpen
import Derived.Shelf.RegionOpenPlain
import Derived.Tactics
import Derived.TacticsInMore
import Derived.Test.YtndkimjmbpbcmaaProg
import Derived.WalkKit
import Derived.WalkSpells
import Derived.WideLaws
import Derived.Test.YtndkimjmbpbcmaaPMergeEmpty1
import Derived.Test.YtndkimjmbpbcmaaPMergeEmpty3
import Derived.Test.YtndkimjmbpbcmaaPMergeEmpty4
import Derived.Test.YtndkimjmbpbcmaaPMergeEmpty5
import Derived.Test.YtndkimjmbpbcmaaPMergeEmpty6
import Derived.Test.YtndkimjmbpbcmaaPMergeEmpty7
import Derived.Test.YtndkimjmbpbcmaaPMergeEmpty8
import Derived.Test.YtndkimjmbpbcmaaPMergeEmpty9
import Derived.Test.YtndkimjmbpbcmaaPMergeEmpty10
import Derived.Test.YtndkimjmbpbcmaaPMergeEmpty11
import Derived.Test.YtndkimjmbpbcmaaPMergeEmpty12
import Derived.Test.YtndkimjmbpbcmaaPMergeEmpty13
import Derived.Test.YtndkimjmbpbcmaaPMergeEmpty14
import Derived.Test.YtndkimjmbpbcmaaPMergeEmpty15
namespace Go.Proofs.Ytndkimjmbpbcmaa.Q
open Go.RowKit Go.Proofs.YtndkimjmbpbcmaaW.PrintWords Go.Proofs.YtndkimjmbpbcmaaW.PrintLast Go.Proofs.YtndkimjmbpbcmaaW.PrintMore
attribute [local go_sem] max2_int min2_int max_two min_two max_three min_three max_four min_four
set_option linter.unusedVariables false
set_option linter.unusedSimpArgs false
mutual
def hypercubelaw6_MergeEmpty.l0 : Nat → List Int → List (S51) → Int → List (List (S44)) → List (List (S44)) → Int → Option (Bool)
 | 0, _, _, _, _, _, _ => none
 | k + 1, x5, x14, x15, x16, x17, x18 => if x18 < (x16.length : Int) then (hypercubelaw6_MergeEmpty.l1 k x5 x14 x15 x16 x17 x18 0) else ((merge_Merge.f k x17 3).bind fun bt570 => ((hypercuberef2_Facts.f k x14 x15).bind fun t574 => ((hypercuberef2_Same.f k bt570.1 t574).bind fun t577 => (some t577))))
def hypercubelaw6_MergeEmpty.l1 : Nat → List Int → List (S51) → Int → List (List (S44)) → List (List (S44)) → Int → Int → Option (Bool)
 | 0, _, _, _, _, _, _, _ => none
 | k + 1, x5, x14, x15, x16, x17, x18, x19 => if x18 < (x5.length : Int) then (if 0 ≤ x18 then ((hypercubelaw6_within.f (rd x5 x18) 3).bind fun t579 => (if x19 < t579 then (if x17.length < 5864062014805 then (hypercubelaw6_MergeEmpty.l1 k x5 x14 x15 x16 (x17 ++ [[]]) x18 (wrap64 (x19 + 1))) else (none)) else (if x18 < (x16.length : Int) then (if x17.length < 5864062014805 then (hypercubelaw6_MergeEmpty.l0 k x5 x14 x15 x16 (x17 ++ [rd_L3 x16 x18]) (wrap64 (x18 + 1))) else (none)) else (none)))) else (none)) else (if 0 ≤ x18 then (if x18 < (x16.length : Int) then (if x17.length < 5864062014805 then (hypercubelaw6_MergeEmpty.l0 k x5 x14 x15 x16 (x17 ++ [rd_L3 x16 x18]) (wrap64 (x18 + 1))) else (none)) else (none)) else (none))
end
def hypercubelaw6_MergeEmpty.f (k : Nat) (a0 : Int) (l1 : List Int) (a2 : Int) (l3 : List Int) (a4 : Int) (l5 : List Int) : Option (Bool) := (hypercubelaw6_known.f).bind fun t554 => (if t554 = true then ((hypercubelaw1_Facts.f k a0 l1 a2 l3).bind fun bt555 => ((hypercubelaw2_Set.f bt555.1 bt555.2.1 a4).bind fun t563 => ((hypercubelaw2_Make.f k bt555.2.2 t563).bind fun t564 => ((hypercuberef5_Runs.f k t564 3).bind fun t567 => (hypercubelaw6_MergeEmpty.l0 k l5 bt555.2.2 t563 t567 ([] : List (List (S44))) 0))))) else (none))
set_option maxHeartbeats 8000000 in
set_option maxRecDepth 100000 in
theorem hypercubelaw6_MergeEmpty.calls (k : Nat) (a0 : Int) (A1 : Option Addr) (c1 : Nat) (l1 : List Int) (a2 : Int) (A3 : Option Addr) (c3 : Nat) (l3 : List Int) (a4 : Int) (A5 : Option Addr) (c5 : Nat) (l5 : List Int) (r : Bool) (w : World) (hr1 : Kd.C (Kd.int .i64) w A1 l1.length l1) (hc1 : l1.length ≤ c1) (hr3 : Kd.C (Kd.int .i64) w A3 l3.length l3) (hc3 : l3.length ≤ c3) (hr5 : Kd.C (Kd.int .i64) w A5 l5.length l5) (hc5 : l5.length ≤ c5) (h : hypercubelaw6_MergeEmpty.f k a0 l1 a2 l3 a4 l5 = some r) :
  Calls Try.prog 7 #[.int .i64 a0, .slice A1 l1.length c1, .int .i64 a2, .slice A3 l3.length c3, .int .i64 a4, .slice A5 l5.length c5] w fun e w' => e = .returned (.bool r) ∧ Below w.heap.size w w' := by
 have hu25 := Try.underlying25
 have HR1 := am hr1
 have HC1 := am hc1
 clear hr1 hc1
 have HR3 := am hr3
 have HC3 := am hc3
 clear hr3 hc3
 have HR5 := am hr5
 have HC5 := am hc5
 clear hr5 hc5
 have HB := am (Below.refl w.heap.size w)
 have H : ((hypercubelaw6_known.f).bind fun t554 => (if t554 = true then ((hypercubelaw1_Facts.f k a0 l1 a2 l3).bind fun bt555 => ((hypercubelaw2_Set.f bt555.1 bt555.2.1 a4).bind fun t563 => ((hypercubelaw2_Make.f k bt555.2.2 t563).bind fun t564 => ((hypercuberef5_Runs.f k t564 3).bind fun t567 => (hypercubelaw6_MergeEmpty.l0 k l5 bt555.2.2 t563 t567 ([] : List (List (S44))) 0))))) else (none))) = some r := h
 clear h
 replace H := Option.bind_eq_some_iff.mp H
 obtain ⟨t554, A70, H⟩ := H
 replace H : (if t554 = true then ((hypercubelaw1_Facts.f k a0 l1 a2 l3).bind fun bt555 => ((hypercubelaw2_Set.f bt555.1 bt555.2.1 a4).bind fun t563 => ((hypercubelaw2_Make.f k bt555.2.2 t563).bind fun t564 => ((hypercuberef5_Runs.f k t564 3).bind fun t567 => (hypercubelaw6_MergeEmpty.l0 k l5 bt555.2.2 t563 t567 ([] : List (List (S44))) 0))))) else (none)) = some r := H
 have A7 := am A70
 clear A70
 by_cases c8 : t554 = true
 ·subst c8
  have H1 : ((hypercubelaw1_Facts.f k a0 l1 a2 l3).bind fun bt555 => ((hypercubelaw2_Set.f bt555.1 bt555.2.1 a4).bind fun t563 => ((hypercubelaw2_Make.f k bt555.2.2 t563).bind fun t564 => ((hypercuberef5_Runs.f k t564 3).bind fun t567 => (hypercubelaw6_MergeEmpty.l0 k l5 bt555.2.2 t563 t567 ([] : List (List (S44))) 0))))) = some r := by rw [if_pos rfl] at H; exact H
  clear H
  have H := H1
  clear H1
  replace H := Option.bind_eq_some_iff.mp H
  obtain ⟨⟨t555, t558, t559⟩, A90, H⟩ := H
  replace H : ((hypercubelaw2_Set.f t555 t558 a4).bind fun t563 => ((hypercubelaw2_Make.f k t559 t563).bind fun t564 => ((hypercuberef5_Runs.f k t564 3).bind fun t567 => (hypercubelaw6_MergeEmpty.l0 k l5 t559 t563 t567 ([] : List (List (S44))) 0)))) = some r := H
  have A9 := am A90
  clear A90
  replace H := Option.bind_eq_some_iff.mp H
  obtain ⟨t563, A100, H⟩ := H
  replace H : ((hypercubelaw2_Make.f k t559 t563).bind fun t564 => ((hypercuberef5_Runs.f k t564 3).bind fun t567 => (hypercubelaw6_MergeEmpty.l0 k l5 t559 t563 t567 ([] : List (List (S44))) 0))) = some r := H
  have A10 := am A100
  clear A100
  replace H := Option.bind_eq_some_iff.mp H
  obtain ⟨t564, A110, H⟩ := H
  replace H : ((hypercuberef5_Runs.f k t564 3).bind fun t567 => (hypercubelaw6_MergeEmpty.l0 k l5 t559 t563 t567 ([] : List (List (S44))) 0)) = some r := H
  have A11 := am A110
  clear A110
  replace H := Option.bind_eq_some_iff.mp H
  obtain ⟨t567, A120, H⟩ := H
  replace H : (hypercubelaw6_MergeEmpty.l0 k l5 t559 t563 t567 ([] : List (List (S44))) 0) = some r := H
  have A12 := am A120
  clear A120
  have H' := am H
  clear H
  go_enter Try.func7, Try.ntmps7
  go_wp2_with (first | (go_at_call 13; (with_reducible refine (hypercubelaw6_known.calls  true _ A7.out).mono ?_); rintro e w13 ⟨rfl, hb⟩; have n0_ := am (below_step (by repeat (first | (with_reducible first | exact HB.out | apply below_alloc | apply pw_below_drewN | apply below_drew1) | exact HB.out)) hb); clear HB; have HB := n0_; clear n0_; (try clear hb); (try clear hb2); (try clear hk); (try clear hi)) | (go_at_call 14; (with_reducible refine (hypercubelaw1_Facts.calls k a0 _ _ l1 a2 _ _ l3 t555 t558 t559 _ ?side1 ?side2 ?side3 ?side4 A9.out).mono ?_); (case side1 => repeat (first | exact (Kd.C_below HR1.out HB.out) | (with_reducible refine Kd.C_alloc ?_ _) | (with_reducible refine Kd.C_drewN ?_ _) | (with_reducible refine Kd.C_drew ?_))); (case side2 => exact HC1.out); (case side3 => repeat (first | exact (Kd.C_below HR3.out HB.out) | (with_reducible refine Kd.C_alloc ?_ _) | (with_reducible refine Kd.C_drewN ?_ _) | (with_reducible refine Kd.C_drew ?_))); (case side4 => exact HC3.out); rintro e w14 ⟨v556, v560, rfl, ho0, ho1, hb⟩; have n0_ := am (Kd.R_lower ho0 (below_size (by repeat (first | (with_reducible first | exact HB.out | apply below_alloc | apply pw_below_drewN | apply below_drew1) | exact HB.out)))); have n1_ := am (Kd.N_lower (Kd.N_mono (ok' := fun k_ => some k_ ≠ (v556 : Value).ownBlock) (Kd.S_N (Kd.S_bound ho1)) (fun k_ hk_ => hk_.1)) (below_size (by repeat (first | (with_reducible first | exact HB.out | apply below_alloc | apply pw_below_drewN | apply below_drew1) | exact HB.out)))); have n2_ := am (below_step (by repeat (first | (with_reducible first | exact HB.out | apply below_alloc | apply pw_below_drewN | apply below_drew1) | exact HB.out)) hb); clear HB; have HO557 := n0_; have HO561 := n1_; have HB := n2_; clear n0_ n1_ n2_; (try clear hb); (try clear hb2); (try clear hk); (try clear hi); (try clear ho0); (try clear ho1)) | ((with_reducible refine gate_dst (N := 13) rfl ?_); refine box_event ?hg (N := 13) ?hd (cs := #[.slice none 0 0, .int .i64 0]) (t := 25) ?hr ?_; (case hd => rfl); (case hg => rfl); (case hr => first | (go_simp; done) | (go_simp; rfl)); intro gb562 hg w15 hbox hb; have n0_ := am (Kd.R_below (by (with_reducible repeat (first | apply Kd.R_alloc | apply Kd.R_drewN | apply Kd.R_drew)); exact HO557.out) hb); have n1_ := am (Kd.N_below (Kd.N_elderB (by (with_reducible repeat (first | apply Kd.N_alloc | apply Kd.N_drewN | apply Kd.N_drew)); exact HO561.out) gb562 (Nat.le_of_eq hg.symm)) hb); have n2_ := am (below_step (by repeat (first | (with_reducible first | exact HB.out | apply below_alloc | apply pw_below_drewN | apply below_drew1) | exact HB.out)) hb); have n3_ := am (hbox); have n4_ := am ((by rw [hg]; exact (below_size (by repeat (first | (with_reducible first | exact HB.out | apply below_alloc | apply pw_below_drewN | apply below_drew1) | exact HB.out))) : w.heap.size ≤ gb562)); have n5_ := am ((by rw [hg]; exact (below_size (by repeat (first | (with_reducible first | exact HB.out | apply below_alloc | apply pw_below_drewN | apply below_drew1) | exact HB.out))) : w.heap.size ≤ gb562)); clear HO557; clear HO561; clear HB; have HO557 := n0_; have HO561 := n1_; have HB := n2_; have BK562 := n3_; have GW562 := n4_; have GE562 := n5_; clear n0_ n1_ n2_ n3_ n4_ n5_; clear hb hbox hg; obtain ⟨Ao16, co16, eo16⟩ := Kd.R_slice HO557.out; subst eo16; have hcz17_0 : w15.cell? ⟨gb562, 0, none⟩ = some (.slice none 0 0) := (blk_cell BK562.out 0).trans rfl; have hcz17_1 : w15.cell? ⟨gb562, 1, none⟩ = some (.int .i64 0) := (blk_cell BK562.out 1).trans rfl; have hfz17_0 := blk_frozen BK562.out 0; have hfz17_1 := blk_frozen BK562.out 1) | (go_at_call 17; (with_reducible refine (hypercubelaw2_Set.calls _ _ t555 t558 a4 t563 _ ?side1 ?side2 A10.out).mono ?_); (case side1 => refine (Kd.R_reads' (e := 3) (base := w.heap.size) (ok := fun k_ => True) (n := t555.length) (c := co16) ?_).2.2; exact (by (with_reducible repeat (first | apply Kd.R_alloc | apply Kd.R_drewN | apply Kd.R_drew)); exact (Kd.R_mono (Kd.R_far (p := ⟨gb562, 1, none⟩) (Kd.R_far (p := ⟨gb562, 0, none⟩) (Kd.R_types HO557.out BK562.out (by decide)) (fun _ hk => hk.2) (.slice Ao16 t555.length co16)) (fun _ hk => hk.2) (.int .i64 t558)) (fun _ h_ => h_.1)))); (case side2 => exact (Kd.R_reads' HO557.out).2.1); rintro e w18 ⟨rfl, hb⟩; have n0_ := am (Kd.R_below (by (with_reducible repeat (first | apply Kd.R_alloc | apply Kd.R_drewN | apply Kd.R_drew)); exact (Kd.R_mono (Kd.R_far (p := ⟨gb562, 1, none⟩) (Kd.R_far (p := ⟨gb562, 0, none⟩) (Kd.R_types HO557.out BK562.out (by decide)) (fun _ hk => hk.2) (.slice Ao16 t555.length co16)) (fun _ hk => hk.2) (.int .i64 t558)) (fun _ h_ => h_.1))) hb); have n1_ := am (Kd.N_below (by (with_reducible repeat (first | apply Kd.N_alloc | apply Kd.N_drewN | apply Kd.N_drew)); exact (Kd.N_mono (Kd.N_far (p := ⟨gb562, 1, none⟩) (Kd.N_far (p := ⟨gb562, 0, none⟩) (Kd.N_mono HO561.out (fun k_ hk => (⟨hk, hk.2⟩ : _ ∧ k_ ≠ gb562))) (fun _ hk => hk.2) (.slice Ao16 t555.length co16)) (fun _ hk => hk.2) (.int .i64 t558)) (fun _ h_ => h_.1))) hb); have n2_ := am (blk_below (g := gb562) (o := .cells #[.slice Ao16 t555.length co16, .int .i64 t558] 25 (0, 0)) (by (with_reducible repeat (first | refine blk_drewN ?_ _ | refine blk_drew ?_ | refine blk_alloc ?_ _)); refine blk_put (cs := #[.slice Ao16 t555.length co16, .int .i64 0]) ?_ 1 _ rfl; (with_reducible repeat (first | refine blk_drewN ?_ _ | refine blk_drew ?_ | refine blk_alloc ?_ _)); refine blk_put (cs := #[.slice none 0 0, .int .i64 0]) ?_ 0 _ rfl; (with_reducible repeat (first | refine blk_drewN ?_ _ | refine blk_drew ?_ | refine blk_alloc ?_ _)); exact BK562.out) hb); have n3_ := am (below_step (by repeat (first | (with_reducible first | exact HB.out | apply below_alloc | apply pw_below_drewN | apply below_drew1 | refine below_set ?_ GE562.out) | exact HB.out)) hb); clear HO557; clear HO561; clear BK562; clear HB; have HO557 := n0_; have HO561 := n1_; have BK562 := n2_; have HB := n3_; clear n0_ n1_ n2_ n3_; (try clear hb); (try clear hb2); (try clear hk); (try clear hi); obtain ⟨Ao19, co19, eo19⟩ := Kd.N_slice HO561.out; subst eo19) | (go_at_call 16; (with_reducible refine (hypercubelaw2_Make.calls k _ _ t559 t563 t564 _ ?side1 ?side2 A11.out).mono ?_); (case side1 => repeat (first | exact (Kd.N_reads' HO561.out).2.2 | (with_reducible refine Kd.C_alloc ?_ _) | (with_reducible refine Kd.C_drewN ?_ _) | (with_reducible refine Kd.C_drew ?_))); (case side2 => exact (Kd.N_reads' HO561.out).2.1); rintro e w20 ⟨v565, rfl, ho0, hb⟩; have n0_ := am (Kd.R_below (by (with_reducible repeat (first | apply Kd.R_alloc | apply Kd.R_drewN | apply Kd.R_drew)); exact HO557.out) hb); have n1_ := am (Kd.N_elder' (by (with_reducible repeat (first | apply Kd.N_alloc | apply Kd.N_drewN | apply Kd.N_drew)); exact HO561.out) (by first | exact Kd.N_base ho0 | exact Kd.S_base ho0 | exact Kd.R_base ho0) hb); have n2_ := am (Kd.N_lower (Kd.N_mono (ok' := fun k_ => some k_ ≠ (.slice Ao16 t555.length co16 : Value).ownBlock ∧ some k_ ≠ (.slice Ao19 t559.length co19 : Value).ownBlock ∧ k_ ≠ gb562) (Kd.S_N (Kd.S_bound ho0)) (fun k_ hk_ => ⟨(Kd.fresh' (Kd.R_lt (by (with_reducible repeat (first | apply Kd.R_alloc | apply Kd.R_drewN | apply Kd.R_drew)); exact HO557.out)) k_ hk_.2.1), (Kd.fresh' (Kd.N_lt (by (with_reducible repeat (first | apply Kd.N_alloc | apply Kd.N_drewN | apply Kd.N_drew)); exact HO561.out)) k_ hk_.2.1), (Kd.freshB (g := gb562) (o := .cells #[.slice Ao16 t555.length co16, .int .i64 t558] 25 (0, 0)) (by (with_reducible repeat (first | refine blk_drewN ?_ _ | refine blk_drew ?_ | refine blk_alloc ?_ _)); exact BK562.out) k_ hk_.2.1)⟩)) (below_size (by repeat (first | (with_reducible first | exact HB.out | apply below_alloc | apply pw_below_drewN | apply below_drew1 | refine below_set ?_ GE562.out) | exact HB.out)))); have n3_ := am (blk_below (g := gb562) (o := .cells #[.slice Ao16 t555.length co16, .int .i64 t558] 25 (0, 0)) (by (with_reducible repeat (first | refine blk_drewN ?_ _ | refine blk_drew ?_ | refine blk_alloc ?_ _)); exact BK562.out) hb); have n4_ := am (below_step (by repeat (first | (with_reducible first | exact HB.out | apply below_alloc | apply pw_below_drewN | apply below_drew1 | refine below_set ?_ GE562.out) | exact HB.out)) hb); clear HO557; clear HO561; clear BK562; clear HB; have HO557 := n0_; have HO561 := n1_; have HO566 := n2_; have BK562 := n3_; have HB := n4_; clear n0_ n1_ n2_ n3_ n4_; (try clear hb); (try clear hb2); (try clear hk); (try clear hi); (try clear ho0); obtain ⟨Ao21, co21, eo21⟩ := Kd.N_slice HO566.out; subst eo21) | (go_at_call 15; (with_reducible refine (hypercuberef5_Runs.calls k _ _ t564 3 t567 _ ?side1 ?side2 A12.out).mono ?_); (case side1 => repeat (first | exact (Kd.N_reads' HO566.out).2.2 | (with_reducible refine Kd.C_alloc ?_ _) | (with_reducible refine Kd.C_drewN ?_ _) | (with_reducible refine Kd.C_drew ?_))); (case side2 => exact (Kd.N_reads' HO566.out).2.1); rintro e w22 ⟨v568, rfl, ho0, hb⟩; have n0_ := am (Kd.R_below (by (with_reducible repeat (first | apply Kd.R_alloc | apply Kd.R_drewN | apply Kd.R_drew)); exact HO557.out) hb); have n1_ := am (Kd.N_elder' (by (with_reducible repeat (first | apply Kd.N_alloc | apply Kd.N_drewN | apply Kd.N_drew)); exact HO561.out) (by first | exact Kd.N_base ho0 | exact Kd.S_base ho0 | exact Kd.R_base ho0) hb); have n2_ := am (Kd.N_elder' (by (with_reducible repeat (first | apply Kd.N_alloc | apply Kd.N_drewN | apply Kd.N_drew)); exact HO566.out) (by first | exact Kd.N_base ho0 | exact Kd.S_base ho0 | exact Kd.R_base ho0) hb); have n3_ := am (Kd.N_lower (Kd.N_mono (ok' := fun k_ => some k_ ≠ (.slice Ao16 t555.length co16 : Value).ownBlock ∧ some k_ ≠ (.slice Ao19 t559.length co19 : Value).ownBlock ∧ some k_ ≠ (.slice Ao21 t564.length co21 : Value).ownBlock ∧ k_ ≠ gb562) ho0 (fun k_ hk_ => ⟨(Kd.fresh' (Kd.R_lt (by (with_reducible repeat (first | apply Kd.R_alloc | apply Kd.R_drewN | apply Kd.R_drew)); exact HO557.out)) k_ hk_), (Kd.fresh' (Kd.N_lt (by (with_reducible repeat (first | apply Kd.N_alloc | apply Kd.N_drewN | apply Kd.N_drew)); exact HO561.out)) k_ hk_), (Kd.fresh' (Kd.N_lt (by (with_reducible repeat (first | apply Kd.N_alloc | apply Kd.N_drewN | apply Kd.N_drew)); exact HO566.out)) k_ hk_), (Kd.freshB (g := gb562) (o := .cells #[.slice Ao16 t555.length co16, .int .i64 t558] 25 (0, 0)) (by (with_reducible repeat (first | refine blk_drewN ?_ _ | refine blk_drew ?_ | refine blk_alloc ?_ _)); exact BK562.out) k_ hk_)⟩)) (below_size (by repeat (first | (with_reducible first | exact HB.out | apply below_alloc | apply pw_below_drewN | apply below_drew1 | refine below_set ?_ GE562.out) | exact HB.out)))); have n4_ := am (blk_below (g := gb562) (o := .cells #[.slice Ao16 t555.length co16, .int .i64 t558] 25 (0, 0)) (by (with_reducible repeat (first | refine blk_drewN ?_ _ | refine blk_drew ?_ | refine blk_alloc ?_ _)); exact BK562.out) hb); have n5_ := am (below_step (by repeat (first | (with_reducible first | exact HB.out | apply below_alloc | apply pw_below_drewN | apply below_drew1 | refine below_set ?_ GE562.out) | exact HB.out)) hb); clear HO557; clear HO561; clear HO566; clear BK562; clear HB; have HO557 := n0_; have HO561 := n1_; have HO566 := n2_; have HO569 := n3_; have BK562 := n4_; have HB := n5_; clear n0_ n1_ n2_ n3_ n4_ n5_; (try clear hb); (try clear hb2); (try clear hk); (try clear hi); (try clear ho0)))
  go_loopg [17, 18] k (fun kq v17 v18 w' => ∃ (x17_1 : List (List (S44))) (x18_1 : Int), v18 = .int .i64 x18_1 ∧ Aside0 (hypercubelaw6_MergeEmpty.l0 kq l5 t559 t563 t567 x17_1 x18_1 = some r) ∧ Aside0 (kq ≤ k) ∧ Aside0 (Kd.N k51 51 w' w.heap.size (fun k_ => some k_ ≠ (v568 : Value).ownBlock ∧ some k_ ≠ (v17 : Value).ownBlock ∧ some k_ ≠ ((.slice Ao16 t555.length co16) : Value).ownBlock ∧ k_ ≠ gb562) (.slice Ao19 t559.length co19) t559) ∧ Aside0 (Kd.N (Kd.slice 44 k44) 31 w' w.heap.size (fun k_ => some k_ ≠ ((.slice Ao19 t559.length co19) : Value).ownBlock ∧ some k_ ≠ (v17 : Value).ownBlock ∧ some k_ ≠ ((.slice Ao16 t555.length co16) : Value).ownBlock ∧ k_ ≠ gb562) v568 t567) ∧ Aside0 (Kd.N (Kd.slice 44 k44) 31 w' w.heap.size (fun k_ => some k_ ≠ ((.slice Ao19 t559.length co19) : Value).ownBlock ∧ some k_ ≠ (v568 : Value).ownBlock ∧ some k_ ≠ ((.slice Ao16 t555.length co16) : Value).ownBlock ∧ k_ ≠ gb562) v17 x17_1) ∧ Aside0 (Kd.R (Kd.int .i64) 3 w' w.heap.size (fun _ => True) (.slice Ao16 t555.length co16) t555) ∧ Aside0 (w'.heap[gb562]? = some (.cells #[(.slice Ao16 t555.length co16), .int .i64 t558] 25 (0, 0))) ∧ Aside0 (Below w.heap.size w w'))
  case atStart => exact ⟨(([] : List (List (S44)))), (0), (by first | rfl | (simp; done) | (simp [*]; done)), H', ⟨Nat.le_refl _⟩, ⟨by (with_reducible repeat (first | apply Kd.N_alloc | apply Kd.N_drewN | apply Kd.N_drew)); exact Kd.N_mono HO561.out (fun _ hk => ⟨hk.2, ⟨(by simp [Value.ownBlock]), ⟨hk.1.1.1, hk.1.1.2⟩⟩⟩)⟩, ⟨by (with_reducible repeat (first | apply Kd.N_alloc | apply Kd.N_drewN | apply Kd.N_drew)); exact Kd.N_mono HO569.out (fun _ hk => ⟨hk.2.1, ⟨(by simp [Value.ownBlock]), ⟨hk.1, hk.2.2.2⟩⟩⟩)⟩, ⟨by first | exact Kd.R_nil _ _ _ _ _ | exact Kd.N_nil _ _ _ _ _ | exact Kd.V_nil _ _ _ _ _ | exact Kd.Q_nil _ _ _ _ _ | exact Kd.S_nil _ _ _ _ _⟩, ⟨by (with_reducible repeat (first | apply Kd.R_alloc | apply Kd.R_drewN | apply Kd.R_drew)); exact HO557.out⟩, ⟨by (with_reducible repeat (first | refine blk_drewN ?_ _ | refine blk_drew ?_ | refine blk_alloc ?_ _)); exact BK562.out⟩, ⟨by repeat (first | (with_reducible first | exact HB.out | apply below_alloc | apply pw_below_drewN | apply below_drew1 | refine below_set ?_ GE562.out) | exact HB.out)⟩⟩
  case round =>
   clear H'
   try clear c1
   try clear p2
   try clear c3
   try clear c5
   try clear c7
   try clear c8
   try clear c13
   try clear c14
   try clear c15
   try clear c16
   try clear c17
   try clear hcz17_0
   try clear hcz17_1
   try clear hfz17_0
   try clear hfz17_1
   obtain ⟨x17_1, x18_1, rfl, HA, HK1, HO_14, HO_16, HO_17, HO_563000, BK562, HB⟩ := hrel
   cases gk with
   | zero => exact absurd HA.out (by simp [hypercubelaw6_MergeEmpty.l0])
   | succ k1 =>
    have H := HA.out
    clear HA
    simp only [hypercubelaw6_MergeEmpty.l0] at H
    by_cases c23 : x18_1 < (t567.length : Int)
    ·rw [if_pos c23] at H
     have c23b0 : decide (x18_1 < (t567.length : Int)) = true := decide_eq_true c23
     clear c23
     have H' := am H
     clear H
     obtain ⟨Ao24, co24, eo24⟩ := Kd.N_slice HO_16.out
     subst eo24
     go_wp2
     go_loopg [17, 19] k1 (fun kq v17 v19 w' => ∃ (x17_2 : List (List (S44))) (x19_2 : Int), v19 = .int .i64 x19_2 ∧ Aside0 (hypercubelaw6_MergeEmpty.l1 kq l5 t559 t563 t567 x17_2 x18_1 x19_2 = some r) ∧ Aside0 (kq ≤ k1) ∧ Aside0 (Kd.N k51 51 w' w.heap.size (fun k_ => some k_ ≠ ((.slice Ao24 t567.length co24) : Value).ownBlock ∧ some k_ ≠ (v17 : Value).ownBlock ∧ some k_ ≠ ((.slice Ao16 t555.length co16) : Value).ownBlock ∧ k_ ≠ gb562) (.slice Ao19 t559.length co19) t559) ∧ Aside0 (Kd.N (Kd.slice 44 k44) 31 w' w.heap.size (fun k_ => some k_ ≠ ((.slice Ao19 t559.length co19) : Value).ownBlock ∧ some k_ ≠ (v17 : Value).ownBlock ∧ some k_ ≠ ((.slice Ao16 t555.length co16) : Value).ownBlock ∧ k_ ≠ gb562) (.slice Ao24 t567.length co24) t567) ∧ Aside0 (Kd.N (Kd.slice 44 k44) 31 w' w.heap.size (fun k_ => some k_ ≠ ((.slice Ao19 t559.length co19) : Value).ownBlock ∧ some k_ ≠ ((.slice Ao24 t567.length co24) : Value).ownBlock ∧ some k_ ≠ ((.slice Ao16 t555.length co16) : Value).ownBlock ∧ k_ ≠ gb562) v17 x17_2) ∧ Aside0 (Kd.R (Kd.int .i64) 3 w' w.heap.size (fun _ => True) (.slice Ao16 t555.length co16) t555) ∧ Aside0 (w'.heap[gb562]? = some (.cells #[(.slice Ao16 t555.length co16), .int .i64 t558] 25 (0, 0))) ∧ Aside0 (Below w.heap.size w w'))
     case atStart => exact ⟨(x17_1), (0), (by first | rfl | (simp; done) | (simp [*]; done)), H', ⟨Nat.le_refl _⟩, ⟨by (with_reducible repeat (first | apply Kd.N_alloc | apply Kd.N_drewN | apply Kd.N_drew)); exact HO_14.out⟩, ⟨by (with_reducible repeat (first | apply Kd.N_alloc | apply Kd.N_drewN | apply Kd.N_drew)); exact HO_16.out⟩, ⟨by (with_reducible repeat (first | apply Kd.N_alloc | apply Kd.N_drewN | apply Kd.N_drew)); exact HO_17.out⟩, ⟨by (with_reducible repeat (first | apply Kd.R_alloc | apply Kd.R_drewN | apply Kd.R_drew)); exact HO_563000.out⟩, ⟨by (with_reducible repeat (first | refine blk_drewN ?_ _ | refine blk_drew ?_ | refine blk_alloc ?_ _)); exact BK562.out⟩, ⟨by repeat (first | (with_reducible first | exact HB.out | apply below_alloc | apply pw_below_drewN | apply below_drew1 | refine below_set ?_ GE562.out) | exact HB.out)⟩⟩
     case round =>
      clear H'
      try clear c1
      try clear c2
      try clear p2
      try clear c3
      try clear c5
      try clear c7
      try clear c8
      try clear c13
      try clear c14
      try clear c15
      try clear c16
      try clear c17
      try clear c23
      try clear c23b0
      try clear hcz17_0
      try clear hcz17_1
      try clear hfz17_0
      try clear hfz17_1
      try clear p2
      obtain ⟨x17_2, x19_2, rfl, HA, HK2, HO_14, HO_16, HO_17, HO_563000, BK562, HB⟩ := hrel
      cases gk with
      | zero => exact absurd HA.out (by simp [hypercubelaw6_MergeEmpty.l1])
      | succ k2 =>
       have H := HA.out
       clear HA
       simp only [hypercubelaw6_MergeEmpty.l1] at H
       by_cases c25 : x18_1 < (l5.length : Int)
       ·rw [if_pos c25] at H
        have c25b0 : decide (x18_1 < (l5.length : Int)) = true := decide_eq_true c25
        clear c25
        by_cases c26 : 0 ≤ x18_1
        ·rw [if_pos c26] at H
         have c26b0 : decide (0 ≤ x18_1) = true := decide_eq_true c26
         clear c26
         replace H := Option.bind_eq_some_iff.mp H
         obtain ⟨t579, A270, H⟩ := H
         replace H : (if x19_2 < t579 then (if x17_2.length < 5864062014805 then (hypercubelaw6_MergeEmpty.l1 k2 l5 t559 t563 t567 (x17_2 ++ [[]]) x18_1 (wrap64 (x19_2 + 1))) else (none)) else (if x18_1 < (t567.length : Int) then (if x17_2.length < 5864062014805 then (hypercubelaw6_MergeEmpty.l0 k2 l5 t559 t563 t567 (x17_2 ++ [rd_L3 t567 x18_1]) (wrap64 (x18_1 + 1))) else (none)) else (none))) = some r := H
         have A27 := am A270
         clear A270
         by_cases c28 : x19_2 < t579
         ·rw [if_pos c28] at H
          have c28b0 : decide (x19_2 < t579) = true := decide_eq_true c28
          clear c28
          by_cases c29 : x17_2.length < 5864062014805
          ·rw [if_pos c29] at H
           have LMc29 := am c29
           clear c29
           obtain ⟨y580, hy580⟩ : ∃ y_ : List (List (S44)), y_ = (x17_2 ++ [[]]) := ⟨_, rfl⟩
           replace H : (hypercubelaw6_MergeEmpty.l1 k2 l5 t559 t563 t567 y580 x18_1 (wrap64 (x19_2 + 1))) = some r := by first | (rw [hy580]; with_reducible exact H) | (have H2_ := (Option.bind_some _ _).symm.trans H; rw [hy580]; with_reducible exact H2_) | (have H2_ := (Option.bind_some _ _).symm.trans H; with_reducible exact H2_) | with_reducible exact H | (rw [hy580]; exact H) | exact H
           have Ny580 := am hy580
           clear hy580
           have H' := am H
           clear H
           have p578 : 0 ≤ (x18_1 : Int) := of_decide_eq_true (by first | (with_reducible assumption) | assumption)
           have q578 : x18_1 < (l5.length : Int) := of_decide_eq_true (by first | (with_reducible assumption) | assumption)
           obtain ⟨ad578, e578, hx578_0⟩ := Kd.at_int HR5.out x18_1 p578 q578
           cases e578
           replace hx578_0 := (HB.out.cell (World.block_lt_of_cell? w _ hx578_0)).trans hx578_0
           replace p578 := eq_true p578
           replace q578 := eq_true q578
           go_wp2_with (first | (go_at_call 18; (with_reducible refine (hypercubelaw6_within.calls (rd l5 x18_1) 3 t579 _ A27.out).mono ?_); rintro e w' ⟨rfl, ⟨nd, rfl⟩⟩) | ((with_reducible refine gate_builtin (b := .append) (xs := #[.tmp 60, .tmp 61]) rfl ?_); at_builtin; refine Kd.N_append (Kd.slice 44 k44) (w0 := w) w.heap.size rfl (.tmp 60) (.tmp 61) 29 31 (.slice none 0 0) 24 rfl Try.underlying29 info31 rfl (by decide) (by omega) u17 x17_2 [] [.slice none 0 0] (fun k_ => some k_ ≠ (.slice Ao19 t559.length co19 : Value).ownBlock ∧ some k_ ≠ (.slice Ao24 t567.length co24 : Value).ownBlock ∧ some k_ ≠ (.slice Ao16 t555.length co16 : Value).ownBlock ∧ k_ ≠ gb562) (fun _ => False) rfl rfl ?aP (fun _ hk => hk.elim) ?aF ?aO ?aB ?aS ?aL ?_; (case aP => exact (Kd.FK_slice_mk (Nat.le_refl _) (Kd.F_nil _ _ _))); (case aB => exact (by repeat (first | (with_reducible first | exact HB.out | apply below_alloc | apply pw_below_drewN | apply below_drew1 | refine below_set ?_ GE562.out) | exact HB.out))); (case aF => exact (fun k_ hk => ⟨Kd.fresh' (Kd.N_lt (by (with_reducible repeat (first | apply Kd.N_alloc | apply Kd.N_drewN | apply Kd.N_drew)); exact HO_14.out)) k_ hk, Kd.fresh' (Kd.N_lt (by (with_reducible repeat (first | apply Kd.N_alloc | apply Kd.N_drewN | apply Kd.N_drew)); exact HO_16.out)) k_ hk, Kd.fresh' (Kd.R_lt (by (with_reducible repeat (first | apply Kd.R_alloc | apply Kd.R_drewN | apply Kd.R_drew)); exact HO_563000.out)) k_ hk, Kd.freshB (g := gb562) (o := .cells #[.slice Ao16 t555.length co16, .int .i64 t558] 25 (0, 0)) (by (with_reducible repeat (first | refine blk_drewN ?_ _ | refine blk_drew ?_ | refine blk_alloc ?_ _)); exact BK562.out) k_ hk⟩)); (case aO => exact (by (with_reducible repeat (first | apply Kd.N_alloc | apply Kd.N_drewN | apply Kd.N_drew)); exact HO_17.out)); (case aS => exact (below_size (by repeat (first | (with_reducible first | exact HB.out | apply below_alloc | apply pw_below_drewN | apply below_drew1 | refine below_set ?_ GE562.out) | exact HB.out)))); (case aL => have := LMc29.out; omega); intro v581 w30 ho hb hg hat; rw [← Ny580.out] at ho; have n0_ := am (Kd.N_afterv (ok := (fun k_ => some k_ ≠ (.slice Ao24 t567.length co24 : Value).ownBlock ∧ some k_ ≠ (.slice Ao16 t555.length co16 : Value).ownBlock ∧ k_ ≠ gb562)) (by (with_reducible repeat (first | apply Kd.N_alloc | apply Kd.N_drewN | apply Kd.N_drew)); exact Kd.N_mono HO_14.out (fun _ hk => ⟨⟨hk.1, ⟨hk.2.2.1, hk.2.2.2⟩⟩, hk.2.1⟩)) hg hat); have n1_ := am (Kd.N_afterv (ok := (fun k_ => some k_ ≠ (.slice Ao19 t559.length co19 : Value).ownBlock ∧ some k_ ≠ (.slice Ao16 t555.length co16 : Value).ownBlock ∧ k_ ≠ gb562)) (by (with_reducible repeat (first | apply Kd.N_alloc | apply Kd.N_drewN | apply Kd.N_drew)); exact Kd.N_mono HO_16.out (fun _ hk => ⟨⟨hk.1, ⟨hk.2.2.1, hk.2.2.2⟩⟩, hk.2.1⟩)) hg hat); have n2_ := am (Kd.R_over' (by (with_reducible repeat (first | apply Kd.R_alloc | apply Kd.R_drewN | apply Kd.R_drew)); exact HO_563000.out) (Kd.N_typed (by (with_reducible repeat (first | apply Kd.N_alloc | apply Kd.N_drewN | apply Kd.N_drew)); exact HO_17.out)) (by decide) hg); have n3_ := am (blk_grown (g := gb562) (o := .cells #[.slice Ao16 t555.length co16, .int .i64 t558] 25 (0, 0)) (by (with_reducible repeat (first | refine blk_drewN ?_ _ | refine blk_drew ?_ | refine blk_alloc ?_ _)); exact BK562.out) hg (Kd.N_ne HO_17.out BK562.out (by decide))); have n4_ := am (hb); have n5_ := am (ho); clear HO_14; clear HO_16; clear HO_563000; clear BK562; clear HB; clear HO_17; have HO_14 := n0_; have HO_16 := n1_; have HO_563000 := n2_; have BK562 := n3_; have HB := n4_; have HO582 := n5_; clear n0_ n1_ n2_ n3_ n4_ n5_; clear ho hb hg hat))
           go_roundg k2
           case measure => have := HK1.out; have := HK2.out; omega
           case rel => exact ⟨(y580), (wrap64 (x19_2 + 1)), (by first | rfl | (simp; done) | (simp [*]; done)), H', ⟨by have := HK1.out; have := HK2.out; omega⟩, ⟨by (with_reducible repeat (first | apply Kd.N_alloc | apply Kd.N_drewN | apply Kd.N_drew)); exact Kd.N_mono HO_14.out (fun _ hk => ⟨hk.1.1, ⟨hk.2, ⟨hk.1.2.1, hk.1.2.2⟩⟩⟩)⟩, ⟨by (with_reducible repeat (first | apply Kd.N_alloc | apply Kd.N_drewN | apply Kd.N_drew)); exact Kd.N_mono HO_16.out (fun _ hk => ⟨hk.1.1, ⟨hk.2, ⟨hk.1.2.1, hk.1.2.2⟩⟩⟩)⟩, ⟨by (with_reducible repeat (first | apply Kd.N_alloc | apply Kd.N_drewN | apply Kd.N_drew)); exact HO582.out⟩, ⟨by (with_reducible repeat (first | apply Kd.R_alloc | apply Kd.R_drewN | apply Kd.R_drew)); exact HO_563000.out⟩, ⟨by (with_reducible repeat (first | refine blk_drewN ?_ _ | refine blk_drew ?_ | refine blk_alloc ?_ _)); exact BK562.out⟩, ⟨by repeat (first | (with_reducible first | exact HB.out | apply below_alloc | apply pw_below_drewN | apply below_drew1 | refine below_set ?_ GE562.out) | exact HB.out)⟩⟩
          ·rw [if_neg c29] at H
           exact absurd H (by simp)
         ·rw [if_neg c28] at H
          have c28b0 : decide (x19_2 < t579) = false := decide_eq_false c28
          clear c28
          by_cases c31 : x18_1 < (t567.length : Int)
          ·rw [if_pos c31] at H
           have c31b0 : decide (x18_1 < (t567.length : Int)) = true := decide_eq_true c31
           clear c31
           by_cases c32 : x17_2.length < 5864062014805
           ·rw [if_pos c32] at H
            have LMc32 := am c32
            clear c32
            obtain ⟨y584, hy584⟩ : ∃ y_ : List (List (S44)), y_ = (x17_2 ++ [rd_L3 t567 x18_1]) := ⟨_, rfl⟩
            replace H : (hypercubelaw6_MergeEmpty.l0 k2 l5 t559 t563 t567 y584 (wrap64 (x18_1 + 1))) = some r := by first | (rw [hy584]; with_reducible exact H) | (have H2_ := (Option.bind_some _ _).symm.trans H; rw [hy584]; with_reducible exact H2_) | (have H2_ := (Option.bind_some _ _).symm.trans H; with_reducible exact H2_) | with_reducible exact H | (rw [hy584]; exact H) | exact H
            have Ny584 := am hy584
            clear hy584
            have H' := am H
            clear H
            have p578 : 0 ≤ (x18_1 : Int) := of_decide_eq_true (by first | (with_reducible assumption) | assumption)
            have q578 : x18_1 < (l5.length : Int) := of_decide_eq_true (by first | (with_reducible assumption) | assumption)
            obtain ⟨ad578, e578, hx578_0⟩ := Kd.at_int HR5.out x18_1 p578 q578
            cases e578
            replace hx578_0 := (HB.out.cell (World.block_lt_of_cell? w _ hx578_0)).trans hx578_0
            replace p578 := eq_true p578
            replace q578 := eq_true q578
            go_wp2_with (first | (go_at_call 18; (with_reducible refine (hypercubelaw6_within.calls (rd l5 x18_1) 3 t579 _ A27.out).mono ?_); rintro e w' ⟨rfl, ⟨nd, rfl⟩⟩; have p583 : 0 ≤ (x18_1 : Int) := of_decide_eq_true (by first | (with_reducible assumption) | assumption); have q583 : x18_1 < (t567.length : Int) := of_decide_eq_true (by first | (with_reducible assumption) | assumption); obtain ⟨ad583, A583_0, c583_0, e583, hx583_0, hl583_0, hi583_0⟩ := at_L3 (Kd.N_reads' HO_16.out).2.2 x18_1 p583 q583; cases e583; obtain ⟨ce583, hce583, hMe583, hcc583⟩ := Kd.N_get HO_16.out [] x18_1 p583 (by first | exact q583 | exact of_decide_eq_true (by first | (with_reducible assumption) | assumption) | (have e_ := (Kd.N_reads' HO_16.out).1; omega)); obtain ⟨ua583_0, uc583_0, rfl, ul583_0, ge583_0⟩ := Kd.FK_slice_open hMe583; have hv583_0 := hcc583 0 _ rfl; rw [Nat.add_zero, show ((Kd.slice 44 k44)).sz = 1 from rfl, Nat.mul_one] at hv583_0; replace hv583_0 := Option.some.inj (hv583_0.symm.trans hx583_0); injection hv583_0 with hva_ hvn_ hvc_; rw [hva_] at ge583_0; rw [hvc_] at ul583_0; have HL583_0 := am (show Kd.V k44 44 _ w.heap.size _ _ (rd_L3 t567 x18_1) from Kd.V_mk ul583_0 ge583_0); clear hva_ hvn_ hvc_ ge583_0 ul583_0; clear hcc583 hce583; have HR583_0 := am hi583_0; have HC583_0 := am hl583_0; clear hi583_0 hl583_0; replace p583 := eq_true p583; replace q583 := eq_true q583) | ((with_reducible refine gate_builtin (b := .append) (xs := #[.tmp 63, .tmp 68]) rfl ?_); at_builtin; refine Kd.N_append (Kd.slice 44 k44) (w0 := w) w.heap.size rfl (.tmp 63) (.tmp 68) 29 31 (.slice none 0 0) 24 rfl Try.underlying29 info31 rfl (by decide) (by omega) u17 x17_2 (rd_L3 t567 x18_1) [.slice A583_0 (rd_L3 t567 x18_1).length c583_0] (fun k_ => some k_ ≠ (.slice Ao19 t559.length co19 : Value).ownBlock ∧ some k_ ≠ (.slice (some ad583) t567.length co24 : Value).ownBlock ∧ some k_ ≠ (.slice Ao16 t555.length co16 : Value).ownBlock ∧ k_ ≠ gb562) (fun k_ => ((fun k_ => some k_ ≠ (.slice Ao19 t559.length co19 : Value).ownBlock ∧ some k_ ≠ (.slice (some ad583) t567.length co24 : Value).ownBlock ∧ some k_ ≠ (.slice Ao16 t555.length co16 : Value).ownBlock ∧ k_ ≠ gb562)) k_ ∧ some k_ ≠ (u17 : Value).ownBlock) rfl rfl ?aP (fun _ hk => hk) ?aF ?aO ?aB ?aS ?aL ?_; (case aP => exact (Kd.FK_slice_mk (Kd.V_reads' (Kd.V_mono (ok' := (fun k_ => ((fun k_ => some k_ ≠ (.slice Ao19 t559.length co19 : Value).ownBlock ∧ some k_ ≠ (.slice (some ad583) t567.length co24 : Value).ownBlock ∧ some k_ ≠ (.slice Ao16 t555.length co16 : Value).ownBlock ∧ k_ ≠ gb562)) k_ ∧ some k_ ≠ (u17 : Value).ownBlock)) (Kd.V_drewN HL583_0.out nd) (fun k_ hk => ⟨⟨hk.1.1, ⟨hk.2, ⟨hk.1.2.2.1, hk.1.2.2.2⟩⟩⟩, hk.1.2.1⟩))).2.1 (Kd.V_F (Kd.V_mono (ok' := (fun k_ => ((fun k_ => some k_ ≠ (.slice Ao19 t559.length co19 : Value).ownBlock ∧ some k_ ≠ (.slice (some ad583) t567.length co24 : Value).ownBlock ∧ some k_ ≠ (.slice Ao16 t555.length co16 : Value).ownBlock ∧ k_ ≠ gb562)) k_ ∧ some k_ ≠ (u17 : Value).ownBlock)) (Kd.V_drewN HL583_0.out nd) (fun k_ hk => ⟨⟨hk.1.1, ⟨hk.2, ⟨hk.1.2.2.1, hk.1.2.2.2⟩⟩⟩, hk.1.2.1⟩))))); (case aB => exact (by repeat (first | (with_reducible first | exact HB.out | apply below_alloc | apply pw_below_drewN | apply below_drew1 | refine below_set ?_ GE562.out) | exact HB.out))); (case aF => exact (fun k_ hk => ⟨Kd.fresh' (Kd.N_lt (by (with_reducible repeat (first | apply Kd.N_alloc | apply Kd.N_drewN | apply Kd.N_drew)); exact HO_14.out)) k_ hk, Kd.fresh' (Kd.N_lt (by (with_reducible repeat (first | apply Kd.N_alloc | apply Kd.N_drewN | apply Kd.N_drew)); exact HO_16.out)) k_ hk, Kd.fresh' (Kd.R_lt (by (with_reducible repeat (first | apply Kd.R_alloc | apply Kd.R_drewN | apply Kd.R_drew)); exact HO_563000.out)) k_ hk, Kd.freshB (g := gb562) (o := .cells #[.slice Ao16 t555.length co16, .int .i64 t558] 25 (0, 0)) (by (with_reducible repeat (first | refine blk_drewN ?_ _ | refine blk_drew ?_ | refine blk_alloc ?_ _)); exact BK562.out) k_ hk⟩)); (case aO => exact (by (with_reducible repeat (first | apply Kd.N_alloc | apply Kd.N_drewN | apply Kd.N_drew)); exact HO_17.out)); (case aS => exact (below_size (by repeat (first | (with_reducible first | exact HB.out | apply below_alloc | apply pw_below_drewN | apply below_drew1 | refine below_set ?_ GE562.out) | exact HB.out)))); (case aL => have := LMc32.out; omega); intro v585 w33 ho hb hg hat; rw [← Ny584.out] at ho; have n0_ := am (Kd.N_afterv (ok := (fun k_ => some k_ ≠ (.slice (some ad583) t567.length co24 : Value).ownBlock ∧ some k_ ≠ (.slice Ao16 t555.length co16 : Value).ownBlock ∧ k_ ≠ gb562)) (by (with_reducible repeat (first | apply Kd.N_alloc | apply Kd.N_drewN | apply Kd.N_drew)); exact Kd.N_mono HO_14.out (fun _ hk => ⟨⟨hk.1, ⟨hk.2.2.1, hk.2.2.2⟩⟩, hk.2.1⟩)) hg hat); have n1_ := am (Kd.N_afterv (ok := (fun k_ => some k_ ≠ (.slice Ao19 t559.length co19 : Value).ownBlock ∧ some k_ ≠ (.slice Ao16 t555.length co16 : Value).ownBlock ∧ k_ ≠ gb562)) (by (with_reducible repeat (first | apply Kd.N_alloc | apply Kd.N_drewN | apply Kd.N_drew)); exact Kd.N_mono HO_16.out (fun _ hk => ⟨⟨hk.1, ⟨hk.2.2.1, hk.2.2.2⟩⟩, hk.2.1⟩)) hg hat); have n2_ := am (Kd.R_over' (by (with_reducible repeat (first | apply Kd.R_alloc | apply Kd.R_drewN | apply Kd.R_drew)); exact HO_563000.out) (Kd.N_typed (by (with_reducible repeat (first | apply Kd.N_alloc | apply Kd.N_drewN | apply Kd.N_drew)); exact HO_17.out)) (by decide) hg); have n3_ := am (blk_grown (g := gb562) (o := .cells #[.slice Ao16 t555.length co16, .int .i64 t558] 25 (0, 0)) (by (with_reducible repeat (first | refine blk_drewN ?_ _ | refine blk_drew ?_ | refine blk_alloc ?_ _)); exact BK562.out) hg (Kd.N_ne HO_17.out BK562.out (by decide))); have n4_ := am (Kd.V_afterv (ok := (fun k_ => some k_ ≠ (.slice Ao19 t559.length co19 : Value).ownBlock ∧ some k_ ≠ (.slice (some ad583) t567.length co24 : Value).ownBlock ∧ some k_ ≠ (.slice Ao16 t555.length co16 : Value).ownBlock ∧ k_ ≠ gb562)) (by (with_reducible repeat (first | apply Kd.V_alloc | apply Kd.V_drewN | apply Kd.V_drew)); exact Kd.V_mono HL583_0.out (fun _ hk => ⟨⟨hk.1.1, ⟨hk.2, ⟨hk.1.2.2.1, hk.1.2.2.2⟩⟩⟩, hk.1.2.1⟩)) hg hat); have n5_ := am (hb); have n6_ := am (ho); clear HO_14; clear HO_16; clear HO_563000; clear BK562; clear HL583_0; clear HB; clear HO_17; have HO_14 := n0_; have HO_16 := n1_; have HO_563000 := n2_; have BK562 := n3_; have HL583_0 := n4_; have HB := n5_; have HO586 := n6_; clear n0_ n1_ n2_ n3_ n4_ n5_ n6_; clear ho hb hg hat))
            go_roundg k2
            case measure => have := HK1.out; have := HK2.out; omega
            case rel => exact ⟨(y584), (wrap64 (x18_1 + 1)), (by first | rfl | (simp; done) | (simp [*]; done)), H', ⟨by have := HK1.out; have := HK2.out; omega⟩, ⟨by (with_reducible repeat (first | apply Kd.N_alloc | apply Kd.N_drewN | apply Kd.N_drew)); exact Kd.N_mono HO_14.out (fun _ hk => ⟨hk.1.1, ⟨hk.2, ⟨hk.1.2.1, hk.1.2.2⟩⟩⟩)⟩, ⟨by (with_reducible repeat (first | apply Kd.N_alloc | apply Kd.N_drewN | apply Kd.N_drew)); exact Kd.N_mono HO_16.out (fun _ hk => ⟨hk.1.1, ⟨hk.2, ⟨hk.1.2.1, hk.1.2.2⟩⟩⟩)⟩, ⟨by (with_reducible repeat (first | apply Kd.N_alloc | apply Kd.N_drewN | apply Kd.N_drew)); exact HO586.out⟩, ⟨by (with_reducible repeat (first | apply Kd.R_alloc | apply Kd.R_drewN | apply Kd.R_drew)); exact HO_563000.out⟩, ⟨by (with_reducible repeat (first | refine blk_drewN ?_ _ | refine blk_drew ?_ | refine blk_alloc ?_ _)); exact BK562.out⟩, ⟨by repeat (first | (with_reducible first | exact HB.out | apply below_alloc | apply pw_below_drewN | apply below_drew1 | refine below_set ?_ GE562.out) | exact HB.out)⟩⟩
           ·rw [if_neg c32] at H
            exact absurd H (by simp)
          ·rw [if_neg c31] at H
           exact absurd H (by simp)
        ·rw [if_neg c26] at H
         exact absurd H (by simp)
       ·rw [if_neg c25] at H
        have c25b0 : decide (x18_1 < (l5.length : Int)) = false := decide_eq_false c25
        clear c25
        by_cases c34 : 0 ≤ x18_1
        ·rw [if_pos c34] at H
         have c34b0 : decide (0 ≤ x18_1) = true := decide_eq_true c34
         clear c34
         by_cases c35 : x18_1 < (t567.length : Int)
         ·rw [if_pos c35] at H
          have c35b0 : decide (x18_1 < (t567.length : Int)) = true := decide_eq_true c35
          clear c35
          by_cases c36 : x17_2.length < 5864062014805
          ·rw [if_pos c36] at H
           have LMc36 := am c36
           clear c36
           obtain ⟨y588, hy588⟩ : ∃ y_ : List (List (S44)), y_ = (x17_2 ++ [rd_L3 t567 x18_1]) := ⟨_, rfl⟩
           replace H : (hypercubelaw6_MergeEmpty.l0 k2 l5 t559 t563 t567 y588 (wrap64 (x18_1 + 1))) = some r := by first | (rw [hy588]; with_reducible exact H) | (have H2_ := (Option.bind_some _ _).symm.trans H; rw [hy588]; with_reducible exact H2_) | (have H2_ := (Option.bind_some _ _).symm.trans H; with_reducible exact H2_) | with_reducible exact H | (rw [hy588]; exact H) | exact H
           have Ny588 := am hy588
           clear hy588
           have H' := am H
           clear H
           have p587 : 0 ≤ (x18_1 : Int) := of_decide_eq_true (by first | (with_reducible assumption) | assumption)
           have q587 : x18_1 < (t567.length : Int) := of_decide_eq_true (by first | (with_reducible assumption) | assumption)
           obtain ⟨ad587, A587_0, c587_0, e587, hx587_0, hl587_0, hi587_0⟩ := at_L3 (Kd.N_reads' HO_16.out).2.2 x18_1 p587 q587
           cases e587
           obtain ⟨ce587, hce587, hMe587, hcc587⟩ := Kd.N_get HO_16.out [] x18_1 p587 (by first | exact q587 | exact of_decide_eq_true (by first | (with_reducible assumption) | assumption) | (have e_ := (Kd.N_reads' HO_16.out).1; omega))
           obtain ⟨ua587_0, uc587_0, rfl, ul587_0, ge587_0⟩ := Kd.FK_slice_open hMe587
           have hv587_0 := hcc587 0 _ rfl
           rw [Nat.add_zero, show ((Kd.slice 44 k44)).sz = 1 from rfl, Nat.mul_one] at hv587_0
           replace hv587_0 := Option.some.inj (hv587_0.symm.trans hx587_0)
           injection hv587_0 with hva_ hvn_ hvc_
           rw [hva_] at ge587_0
           rw [hvc_] at ul587_0
           have HL587_0 := am (show Kd.V k44 44 _ w.heap.size _ _ (rd_L3 t567 x18_1) from Kd.V_mk ul587_0 ge587_0)
           clear hva_ hvn_ hvc_ ge587_0 ul587_0
           clear hcc587 hce587
           have HR587_0 := am hi587_0
           have HC587_0 := am hl587_0
           clear hi587_0 hl587_0
           replace p587 := eq_true p587
           replace q587 := eq_true q587
           go_wp2_with (first | ((with_reducible refine gate_builtin (b := .append) (xs := #[.tmp 63, .tmp 68]) rfl ?_); at_builtin; refine Kd.N_append (Kd.slice 44 k44) (w0 := w) w.heap.size rfl (.tmp 63) (.tmp 68) 29 31 (.slice none 0 0) 24 rfl Try.underlying29 info31 rfl (by decide) (by omega) u17 x17_2 (rd_L3 t567 x18_1) [.slice A587_0 (rd_L3 t567 x18_1).length c587_0] (fun k_ => some k_ ≠ (.slice Ao19 t559.length co19 : Value).ownBlock ∧ some k_ ≠ (.slice (some ad587) t567.length co24 : Value).ownBlock ∧ some k_ ≠ (.slice Ao16 t555.length co16 : Value).ownBlock ∧ k_ ≠ gb562) (fun k_ => ((fun k_ => some k_ ≠ (.slice Ao19 t559.length co19 : Value).ownBlock ∧ some k_ ≠ (.slice (some ad587) t567.length co24 : Value).ownBlock ∧ some k_ ≠ (.slice Ao16 t555.length co16 : Value).ownBlock ∧ k_ ≠ gb562)) k_ ∧ some k_ ≠ (u17 : Value).ownBlock) rfl rfl ?aP (fun _ hk => hk) ?aF ?aO ?aB ?aS ?aL ?_; (case aP => exact (Kd.FK_slice_mk (Kd.V_reads' (Kd.V_mono (ok' := (fun k_ => ((fun k_ => some k_ ≠ (.slice Ao19 t559.length co19 : Value).ownBlock ∧ some k_ ≠ (.slice (some ad587) t567.length co24 : Value).ownBlock ∧ some k_ ≠ (.slice Ao16 t555.length co16 : Value).ownBlock ∧ k_ ≠ gb562)) k_ ∧ some k_ ≠ (u17 : Value).ownBlock)) (HL587_0.out) (fun k_ hk => ⟨⟨hk.1.1, ⟨hk.2, ⟨hk.1.2.2.1, hk.1.2.2.2⟩⟩⟩, hk.1.2.1⟩))).2.1 (Kd.V_F (Kd.V_mono (ok' := (fun k_ => ((fun k_ => some k_ ≠ (.slice Ao19 t559.length co19 : Value).ownBlock ∧ some k_ ≠ (.slice (some ad587) t567.length co24 : Value).ownBlock ∧ some k_ ≠ (.slice Ao16 t555.length co16 : Value).ownBlock ∧ k_ ≠ gb562)) k_ ∧ some k_ ≠ (u17 : Value).ownBlock)) (HL587_0.out) (fun k_ hk => ⟨⟨hk.1.1, ⟨hk.2, ⟨hk.1.2.2.1, hk.1.2.2.2⟩⟩⟩, hk.1.2.1⟩))))); (case aB => exact (by repeat (first | (with_reducible first | exact HB.out | apply below_alloc | apply pw_below_drewN | apply below_drew1 | refine below_set ?_ GE562.out) | exact HB.out))); (case aF => exact (fun k_ hk => ⟨Kd.fresh' (Kd.N_lt (by (with_reducible repeat (first | apply Kd.N_alloc | apply Kd.N_drewN | apply Kd.N_drew)); exact HO_14.out)) k_ hk, Kd.fresh' (Kd.N_lt (by (with_reducible repeat (first | apply Kd.N_alloc | apply Kd.N_drewN | apply Kd.N_drew)); exact HO_16.out)) k_ hk, Kd.fresh' (Kd.R_lt (by (with_reducible repeat (first | apply Kd.R_alloc | apply Kd.R_drewN | apply Kd.R_drew)); exact HO_563000.out)) k_ hk, Kd.freshB (g := gb562) (o := .cells #[.slice Ao16 t555.length co16, .int .i64 t558] 25 (0, 0)) (by (with_reducible repeat (first | refine blk_drewN ?_ _ | refine blk_drew ?_ | refine blk_alloc ?_ _)); exact BK562.out) k_ hk⟩)); (case aO => exact (by (with_reducible repeat (first | apply Kd.N_alloc | apply Kd.N_drewN | apply Kd.N_drew)); exact HO_17.out)); (case aS => exact (below_size (by repeat (first | (with_reducible first | exact HB.out | apply below_alloc | apply pw_below_drewN | apply below_drew1 | refine below_set ?_ GE562.out) | exact HB.out)))); (case aL => have := LMc36.out; omega); intro v589 w37 ho hb hg hat; rw [← Ny588.out] at ho; have n0_ := am (Kd.N_afterv (ok := (fun k_ => some k_ ≠ (.slice (some ad587) t567.length co24 : Value).ownBlock ∧ some k_ ≠ (.slice Ao16 t555.length co16 : Value).ownBlock ∧ k_ ≠ gb562)) (by (with_reducible repeat (first | apply Kd.N_alloc | apply Kd.N_drewN | apply Kd.N_drew)); exact Kd.N_mono HO_14.out (fun _ hk => ⟨⟨hk.1, ⟨hk.2.2.1, hk.2.2.2⟩⟩, hk.2.1⟩)) hg hat); have n1_ := am (Kd.N_afterv (ok := (fun k_ => some k_ ≠ (.slice Ao19 t559.length co19 : Value).ownBlock ∧ some k_ ≠ (.slice Ao16 t555.length co16 : Value).ownBlock ∧ k_ ≠ gb562)) (by (with_reducible repeat (first | apply Kd.N_alloc | apply Kd.N_drewN | apply Kd.N_drew)); exact Kd.N_mono HO_16.out (fun _ hk => ⟨⟨hk.1, ⟨hk.2.2.1, hk.2.2.2⟩⟩, hk.2.1⟩)) hg hat); have n2_ := am (Kd.R_over' (by (with_reducible repeat (first | apply Kd.R_alloc | apply Kd.R_drewN | apply Kd.R_drew)); exact HO_563000.out) (Kd.N_typed (by (with_reducible repeat (first | apply Kd.N_alloc | apply Kd.N_drewN | apply Kd.N_drew)); exact HO_17.out)) (by decide) hg); have n3_ := am (blk_grown (g := gb562) (o := .cells #[.slice Ao16 t555.length co16, .int .i64 t558] 25 (0, 0)) (by (with_reducible repeat (first | refine blk_drewN ?_ _ | refine blk_drew ?_ | refine blk_alloc ?_ _)); exact BK562.out) hg (Kd.N_ne HO_17.out BK562.out (by decide))); have n4_ := am (Kd.V_afterv (ok := (fun k_ => some k_ ≠ (.slice Ao19 t559.length co19 : Value).ownBlock ∧ some k_ ≠ (.slice (some ad587) t567.length co24 : Value).ownBlock ∧ some k_ ≠ (.slice Ao16 t555.length co16 : Value).ownBlock ∧ k_ ≠ gb562)) (by (with_reducible repeat (first | apply Kd.V_alloc | apply Kd.V_drewN | apply Kd.V_drew)); exact Kd.V_mono HL587_0.out (fun _ hk => ⟨⟨hk.1.1, ⟨hk.2, ⟨hk.1.2.2.1, hk.1.2.2.2⟩⟩⟩, hk.1.2.1⟩)) hg hat); have n5_ := am (hb); have n6_ := am (ho); clear HO_14; clear HO_16; clear HO_563000; clear BK562; clear HL587_0; clear HB; clear HO_17; have HO_14 := n0_; have HO_16 := n1_; have HO_563000 := n2_; have BK562 := n3_; have HL587_0 := n4_; have HB := n5_; have HO590 := n6_; clear n0_ n1_ n2_ n3_ n4_ n5_ n6_; clear ho hb hg hat))
           go_roundg k2
           case measure => have := HK1.out; have := HK2.out; omega
           case rel => exact ⟨(y588), (wrap64 (x18_1 + 1)), (by first | rfl | (simp; done) | (simp [*]; done)), H', ⟨by have := HK1.out; have := HK2.out; omega⟩, ⟨by (with_reducible repeat (first | apply Kd.N_alloc | apply Kd.N_drewN | apply Kd.N_drew)); exact Kd.N_mono HO_14.out (fun _ hk => ⟨hk.1.1, ⟨hk.2, ⟨hk.1.2.1, hk.1.2.2⟩⟩⟩)⟩, ⟨by (with_reducible repeat (first | apply Kd.N_alloc | apply Kd.N_drewN | apply Kd.N_drew)); exact Kd.N_mono HO_16.out (fun _ hk => ⟨hk.1.1, ⟨hk.2, ⟨hk.1.2.1, hk.1.2.2⟩⟩⟩)⟩, ⟨by (with_reducible repeat (first | apply Kd.N_alloc | apply Kd.N_drewN | apply Kd.N_drew)); exact HO590.out⟩, ⟨by (with_reducible repeat (first | apply Kd.R_alloc | apply Kd.R_drewN | apply Kd.R_drew)); exact HO_563000.out⟩, ⟨by (with_reducible repeat (first | refine blk_drewN ?_ _ | refine blk_drew ?_ | refine blk_alloc ?_ _)); exact BK562.out⟩, ⟨by repeat (first | (with_reducible first | exact HB.out | apply below_alloc | apply pw_below_drewN | apply below_drew1 | refine below_set ?_ GE562.out) | exact HB.out)⟩⟩
          ·rw [if_neg c36] at H
           exact absurd H (by simp)
         ·rw [if_neg c35] at H
          exact absurd H (by simp)
        ·rw [if_neg c34] at H
         exact absurd H (by simp)
    ·rw [if_neg c23] at H
     have c23b0 : decide (x18_1 < (t567.length : Int)) = false := decide_eq_false c23
     clear c23
     replace H := Option.bind_eq_some_iff.mp H
     obtain ⟨⟨t570, t571⟩, A380, H⟩ := H
     replace H : ((hypercuberef2_Facts.f k1 t559 t563).bind fun t574 => ((hypercuberef2_Same.f k1 t570 t574).bind fun t577 => (some t577))) = some r := H
     have A38 := am A380
     clear A380
     replace H := Option.bind_eq_some_iff.mp H
     obtain ⟨t574, A390, H⟩ := H
     replace H : ((hypercuberef2_Same.f k1 t570 t574).bind fun t577 => (some t577)) = some r := H
     have A39 := am A390
     clear A390
     replace H := Option.bind_eq_some_iff.mp H
     obtain ⟨t577, A400, H⟩ := H
     replace H : (some t577) = some r := H
     have A40 := am A400
     clear A400
     obtain rfl := Option.some.inj H
     obtain ⟨Ao41, co41, eo41⟩ := Kd.N_slice HO_16.out
     subst eo41
     obtain ⟨Ao42, co42, eo42⟩ := Kd.N_slice HO_17.out
     subst eo42
     go_wp2_with (first | (go_at_call 19; (with_reducible refine (merge_Merge.calls k1 _ _ x17_1 3 t570 t571 _ ?side1 ?side2 A38.out).mono ?_); (case side1 => repeat (first | exact (Kd.N_reads' HO_17.out).2.2 | (with_reducible refine Kd.C_alloc ?_ _) | (with_reducible refine Kd.C_drewN ?_ _) | (with_reducible refine Kd.C_drew ?_))); (case side2 => exact (Kd.N_reads' HO_17.out).2.1); rintro e w43 ⟨v572, rfl, ho0, hb⟩; have n0_ := am (Kd.N_elder' (by (with_reducible repeat (first | apply Kd.N_alloc | apply Kd.N_drewN | apply Kd.N_drew)); exact HO_14.out) (by first | exact Kd.N_base ho0 | exact Kd.S_base ho0 | exact Kd.R_base ho0) hb); have n1_ := am (Kd.N_elder' (by (with_reducible repeat (first | apply Kd.N_alloc | apply Kd.N_drewN | apply Kd.N_drew)); exact HO_16.out) (by first | exact Kd.N_base ho0 | exact Kd.S_base ho0 | exact Kd.R_base ho0) hb); have n2_ := am (Kd.N_elder' (by (with_reducible repeat (first | apply Kd.N_alloc | apply Kd.N_drewN | apply Kd.N_drew)); exact HO_17.out) (by first | exact Kd.N_base ho0 | exact Kd.S_base ho0 | exact Kd.R_base ho0) hb); have n3_ := am (Kd.R_below (by (with_reducible repeat (first | apply Kd.R_alloc | apply Kd.R_drewN | apply Kd.R_drew)); exact HO_563000.out) hb); have n4_ := am (Kd.N_lower (Kd.N_mono (ok' := fun k_ => some k_ ≠ (.slice Ao19 t559.length co19 : Value).ownBlock ∧ some k_ ≠ (.slice Ao41 t567.length co41 : Value).ownBlock ∧ some k_ ≠ (.slice Ao42 x17_1.length co42 : Value).ownBlock ∧ some k_ ≠ (.slice Ao16 t555.length co16 : Value).ownBlock ∧ k_ ≠ gb562) (Kd.S_N (Kd.S_bound ho0)) (fun k_ hk_ => ⟨(Kd.fresh' (Kd.N_lt (by (with_reducible repeat (first | apply Kd.N_alloc | apply Kd.N_drewN | apply Kd.N_drew)); exact HO_14.out)) k_ hk_.2.1), (Kd.fresh' (Kd.N_lt (by (with_reducible repeat (first | apply Kd.N_alloc | apply Kd.N_drewN | apply Kd.N_drew)); exact HO_16.out)) k_ hk_.2.1), (Kd.fresh' (Kd.N_lt (by (with_reducible repeat (first | apply Kd.N_alloc | apply Kd.N_drewN | apply Kd.N_drew)); exact HO_17.out)) k_ hk_.2.1), (Kd.fresh' (Kd.R_lt (by (with_reducible repeat (first | apply Kd.R_alloc | apply Kd.R_drewN | apply Kd.R_drew)); exact HO_563000.out)) k_ hk_.2.1), (Kd.freshB (g := gb562) (o := .cells #[.slice Ao16 t555.length co16, .int .i64 t558] 25 (0, 0)) (by (with_reducible repeat (first | refine blk_drewN ?_ _ | refine blk_drew ?_ | refine blk_alloc ?_ _)); exact BK562.out) k_ hk_.2.1)⟩)) (below_size (by repeat (first | (with_reducible first | exact HB.out | apply below_alloc | apply pw_below_drewN | apply below_drew1 | refine below_set ?_ GE562.out) | exact HB.out)))); have n5_ := am (blk_below (g := gb562) (o := .cells #[.slice Ao16 t555.length co16, .int .i64 t558] 25 (0, 0)) (by (with_reducible repeat (first | refine blk_drewN ?_ _ | refine blk_drew ?_ | refine blk_alloc ?_ _)); exact BK562.out) hb); have n6_ := am (below_step (by repeat (first | (with_reducible first | exact HB.out | apply below_alloc | apply pw_below_drewN | apply below_drew1 | refine below_set ?_ GE562.out) | exact HB.out)) hb); clear HO_14; clear HO_16; clear HO_17; clear HO_563000; clear BK562; clear HB; have HO_14 := n0_; have HO_16 := n1_; have HO_17 := n2_; have HO_563000 := n3_; have HO573 := n4_; have BK562 := n5_; have HB := n6_; clear n0_ n1_ n2_ n3_ n4_ n5_ n6_; (try clear hb); (try clear hb2); (try clear hk); (try clear hi); (try clear ho0)) | (go_at_call 22; (with_reducible refine (hypercuberef2_Facts.calls k1 _ _ t559 t563 t574 _ ?side1 ?side2 A39.out).mono ?_); (case side1 => repeat (first | exact (Kd.N_reads' HO_14.out).2.2 | (with_reducible refine Kd.C_alloc ?_ _) | (with_reducible refine Kd.C_drewN ?_ _) | (with_reducible refine Kd.C_drew ?_))); (case side2 => exact (Kd.N_reads' HO_14.out).2.1); rintro e w44 ⟨v575, rfl, ho0, hb⟩; have n0_ := am (Kd.N_elder' (by (with_reducible repeat (first | apply Kd.N_alloc | apply Kd.N_drewN | apply Kd.N_drew)); exact HO_14.out) (by first | exact Kd.N_base ho0 | exact Kd.S_base ho0 | exact Kd.R_base ho0) hb); have n1_ := am (Kd.N_elder' (by (with_reducible repeat (first | apply Kd.N_alloc | apply Kd.N_drewN | apply Kd.N_drew)); exact HO_16.out) (by first | exact Kd.N_base ho0 | exact Kd.S_base ho0 | exact Kd.R_base ho0) hb); have n2_ := am (Kd.N_elder' (by (with_reducible repeat (first | apply Kd.N_alloc | apply Kd.N_drewN | apply Kd.N_drew)); exact HO_17.out) (by first | exact Kd.N_base ho0 | exact Kd.S_base ho0 | exact Kd.R_base ho0) hb); have n3_ := am (Kd.R_below (by (with_reducible repeat (first | apply Kd.R_alloc | apply Kd.R_drewN | apply Kd.R_drew)); exact HO_563000.out) hb); have n4_ := am (Kd.N_elder' (by (with_reducible repeat (first | apply Kd.N_alloc | apply Kd.N_drewN | apply Kd.N_drew)); exact HO573.out) (by first | exact Kd.N_base ho0 | exact Kd.S_base ho0 | exact Kd.R_base ho0) hb); have n5_ := am (Kd.N_lower (Kd.N_mono (ok' := fun k_ => some k_ ≠ (.slice Ao19 t559.length co19 : Value).ownBlock ∧ some k_ ≠ (.slice Ao41 t567.length co41 : Value).ownBlock ∧ some k_ ≠ (.slice Ao42 x17_1.length co42 : Value).ownBlock ∧ some k_ ≠ (.slice Ao16 t555.length co16 : Value).ownBlock ∧ some k_ ≠ (v572 : Value).ownBlock ∧ k_ ≠ gb562) ho0 (fun k_ hk_ => ⟨(Kd.fresh' (Kd.N_lt (by (with_reducible repeat (first | apply Kd.N_alloc | apply Kd.N_drewN | apply Kd.N_drew)); exact HO_14.out)) k_ hk_), (Kd.fresh' (Kd.N_lt (by (with_reducible repeat (first | apply Kd.N_alloc | apply Kd.N_drewN | apply Kd.N_drew)); exact HO_16.out)) k_ hk_), (Kd.fresh' (Kd.N_lt (by (with_reducible repeat (first | apply Kd.N_alloc | apply Kd.N_drewN | apply Kd.N_drew)); exact HO_17.out)) k_ hk_), (Kd.fresh' (Kd.R_lt (by (with_reducible repeat (first | apply Kd.R_alloc | apply Kd.R_drewN | apply Kd.R_drew)); exact HO_563000.out)) k_ hk_), (Kd.fresh' (Kd.N_lt (by (with_reducible repeat (first | apply Kd.N_alloc | apply Kd.N_drewN | apply Kd.N_drew)); exact HO573.out)) k_ hk_), (Kd.freshB (g := gb562) (o := .cells #[.slice Ao16 t555.length co16, .int .i64 t558] 25 (0, 0)) (by (with_reducible repeat (first | refine blk_drewN ?_ _ | refine blk_drew ?_ | refine blk_alloc ?_ _)); exact BK562.out) k_ hk_)⟩)) (below_size (by repeat (first | (with_reducible first | exact HB.out | apply below_alloc | apply pw_below_drewN | apply below_drew1 | refine below_set ?_ GE562.out) | exact HB.out)))); have n6_ := am (blk_below (g := gb562) (o := .cells #[.slice Ao16 t555.length co16, .int .i64 t558] 25 (0, 0)) (by (with_reducible repeat (first | refine blk_drewN ?_ _ | refine blk_drew ?_ | refine blk_alloc ?_ _)); exact BK562.out) hb); have n7_ := am (below_step (by repeat (first | (with_reducible first | exact HB.out | apply below_alloc | apply pw_below_drewN | apply below_drew1 | refine below_set ?_ GE562.out) | exact HB.out)) hb); clear HO_14; clear HO_16; clear HO_17; clear HO_563000; clear HO573; clear BK562; clear HB; have HO_14 := n0_; have HO_16 := n1_; have HO_17 := n2_; have HO_563000 := n3_; have HO573 := n4_; have HO576 := n5_; have BK562 := n6_; have HB := n7_; clear n0_ n1_ n2_ n3_ n4_ n5_ n6_ n7_; (try clear hb); (try clear hb2); (try clear hk); (try clear hi); (try clear ho0); obtain ⟨Ao45, co45, eo45⟩ := Kd.N_slice HO573.out; subst eo45; obtain ⟨Ao46, co46, eo46⟩ := Kd.N_slice HO576.out; subst eo46) | (go_at_call 21; (with_reducible refine (hypercuberef2_Same.calls k1 _ _ t570 _ _ t574 t577 _ ?side1 ?side2 ?side3 ?side4 A40.out).mono ?_); (case side1 => repeat (first | exact (Kd.N_reads' HO573.out).2.2 | (with_reducible refine Kd.C_alloc ?_ _) | (with_reducible refine Kd.C_drewN ?_ _) | (with_reducible refine Kd.C_drew ?_))); (case side2 => exact (Kd.N_reads' HO573.out).2.1); (case side3 => repeat (first | exact (Kd.N_reads' HO576.out).2.2 | (with_reducible refine Kd.C_alloc ?_ _) | (with_reducible refine Kd.C_drewN ?_ _) | (with_reducible refine Kd.C_drew ?_))); (case side4 => exact (Kd.N_reads' HO576.out).2.1); rintro e w47 ⟨rfl, hb⟩; have n0_ := am (Kd.N_below (by (with_reducible repeat (first | apply Kd.N_alloc | apply Kd.N_drewN | apply Kd.N_drew)); exact HO_14.out) hb); have n1_ := am (Kd.N_below (by (with_reducible repeat (first | apply Kd.N_alloc | apply Kd.N_drewN | apply Kd.N_drew)); exact HO_16.out) hb); have n2_ := am (Kd.N_below (by (with_reducible repeat (first | apply Kd.N_alloc | apply Kd.N_drewN | apply Kd.N_drew)); exact HO_17.out) hb); have n3_ := am (Kd.R_below (by (with_reducible repeat (first | apply Kd.R_alloc | apply Kd.R_drewN | apply Kd.R_drew)); exact HO_563000.out) hb); have n4_ := am (Kd.N_below (by (with_reducible repeat (first | apply Kd.N_alloc | apply Kd.N_drewN | apply Kd.N_drew)); exact HO573.out) hb); have n5_ := am (Kd.N_below (by (with_reducible repeat (first | apply Kd.N_alloc | apply Kd.N_drewN | apply Kd.N_drew)); exact HO576.out) hb); have n6_ := am (blk_below (g := gb562) (o := .cells #[.slice Ao16 t555.length co16, .int .i64 t558] 25 (0, 0)) (by (with_reducible repeat (first | refine blk_drewN ?_ _ | refine blk_drew ?_ | refine blk_alloc ?_ _)); exact BK562.out) hb); have n7_ := am (below_step (by repeat (first | (with_reducible first | exact HB.out | apply below_alloc | apply pw_below_drewN | apply below_drew1 | refine below_set ?_ GE562.out) | exact HB.out)) hb); clear HO_14; clear HO_16; clear HO_17; clear HO_563000; clear HO573; clear HO576; clear BK562; clear HB; have HO_14 := n0_; have HO_16 := n1_; have HO_17 := n2_; have HO_563000 := n3_; have HO573 := n4_; have HO576 := n5_; have BK562 := n6_; have HB := n7_; clear n0_ n1_ n2_ n3_ n4_ n5_ n6_ n7_; (try clear hb); (try clear hb2); (try clear hk); (try clear hi)))
     go_ret
     exact ⟨by first | rfl | (simp [errW_none, errW_some] <;> rfl) | (simp [*, errW_none, errW_some] <;> rfl), by repeat (first | (with_reducible first | exact HB.out | apply below_alloc | apply pw_below_drewN | apply below_drew1 | refine below_set ?_ GE562.out) | exact HB.out)⟩
 ·replace c8 := Bool.eq_false_iff.mpr c8
  subst c8
  have H1 : (none) = some r := by rw [if_neg (show ¬ (false = true) by decide)] at H; exact H
  clear H
  have H := H1
  clear H1
  exact absurd H (by simp)
def hypercubelaw6_MergeEmpty.Pure : Prop := ∀ (a0 : Int) (l1 : List Int) (a2 : Int) (l3 : List Int) (a4 : Int) (l5 : List Int), (Lit.int .i64 a0).wf = true → l1.length ≤ maxLen → l1.length * 8 ≤ 140737488351232 → (∀ x ∈ l1, (Lit.int .i64 x).wf = true) → (Lit.int .i64 a2).wf = true → l3.length ≤ maxLen → l3.length * 8 ≤ 140737488351232 → (∀ x ∈ l3, (Lit.int .i64 x).wf = true) → (Lit.int .i64 a4).wf = true → l5.length ≤ maxLen → l5.length * 8 ≤ 140737488351232 → (∀ x ∈ l5, (Lit.int .i64 x).wf = true) → ∃ k, hypercubelaw6_MergeEmpty.f k a0 l1 a2 l3 a4 l5 = some true
theorem hypercubelaw6_MergeEmpty.walk (P : hypercubelaw6_MergeEmpty.Pure) (a0 : Int) (a1 : Option Addr) (len1 cap1 : Nat) (z1 : List Int) (a2 : Int) (a3 : Option Addr) (len3 cap3 : Nat) (z3 : List Int) (a4 : Int) (a5 : Option Addr) (len5 cap5 : Nat) (z5 : List Int) (w : World) (w0 : (Lit.int .i64 a0).wf = true) (w1 : (a1 = none ∧ len1 = 0 ∧ cap1 = 0 ∧ z1 = []) ∨ ∃ x, a1 = some x ∧ len1 ≤ cap1 ∧ cap1 ≤ maxLen ∧ z1.length = cap1 ∧ (∀ i, i < z1.length → w.cell? (x.add i) = some (.int .i64 (z1.getD i 0))) ∧ ∀ n ∈ z1, (Lit.int .i64 n).wf = true) (y1 : len1 * 8 ≤ 140737488351232) (w2 : (Lit.int .i64 a2).wf = true) (w3 : (a3 = none ∧ len3 = 0 ∧ cap3 = 0 ∧ z3 = []) ∨ ∃ x, a3 = some x ∧ len3 ≤ cap3 ∧ cap3 ≤ maxLen ∧ z3.length = cap3 ∧ (∀ i, i < z3.length → w.cell? (x.add i) = some (.int .i64 (z3.getD i 0))) ∧ ∀ n ∈ z3, (Lit.int .i64 n).wf = true) (y3 : len3 * 8 ≤ 140737488351232) (w4 : (Lit.int .i64 a4).wf = true) (w5 : (a5 = none ∧ len5 = 0 ∧ cap5 = 0 ∧ z5 = []) ∨ ∃ x, a5 = some x ∧ len5 ≤ cap5 ∧ cap5 ≤ maxLen ∧ z5.length = cap5 ∧ (∀ i, i < z5.length → w.cell? (x.add i) = some (.int .i64 (z5.getD i 0))) ∧ ∀ n ∈ z5, (Lit.int .i64 n).wf = true) (y5 : len5 * 8 ≤ 140737488351232) :
  Calls Try.prog 7 #[.int .i64 a0, .slice a1 len1 cap1, .int .i64 a2, .slice a3 len3 cap3, .int .i64 a4, .slice a5 len5 cap5] w fun e w' => e = .returned (.bool true) ∧ Below w.heap.size w w' := by
 obtain ⟨l1, rfl, hr1, hm1, hw1, hc1⟩ := ReadsInt.ofRowC w1
 obtain ⟨l3, rfl, hr3, hm3, hw3, hc3⟩ := ReadsInt.ofRowC w3
 obtain ⟨l5, rfl, hr5, hm5, hw5, hc5⟩ := ReadsInt.ofRowC w5
 obtain ⟨k, h⟩ := P a0 l1 a2 l3 a4 l5 w0 hm1 y1 hw1 w2 hm3 y3 hw3 w4 hm5 y5 hw5
 refine (hypercubelaw6_MergeEmpty.calls k a0 _ _ l1 a2 _ _ l3 a4 _ _ l5 true w (Kd.C_of_reads (d := (0 : Int)) (h1 := fun _ => rfl) hr1) hc1 (Kd.C_of_reads (d := (0 : Int)) (h1 := fun _ => rfl) hr3) hc3 (Kd.C_of_reads (d := (0 : Int)) (h1 := fun _ => rfl) hr5) hc5 h).mono ?_
 rintro e w' ⟨rfl, hd⟩
 exact ⟨rfl, hd⟩
end Go.Proofs.Ytndkimjmbpbcmaa.Q
namespace Go.Proofs.Ytndkimjmbpbcmaa.Q
open Go.RowKit Go.Proofs.YtndkimjmbpbcmaaW.PrintWords Go.Proofs.YtndkimjmbpbcmaaW.PrintLast Go.Proofs.YtndkimjmbpbcmaaW.PrintMore
set_option linter.unusedVariables false
set_option linter.unusedSimpArgs false
theorem ref_join_l0 (n : Nat) (hn : n ≤ 100) (a b : S44) (ha : RegC n a) (hb : RegC n b) (f0 : List Int) (f1 : Int) (d : Nat) : ∀ (i : Nat) (s m x : List Int), n - i = d → i ≤ n → s.length = i → m.length = i → x.length = i →
  Ev (fun k => hypercuberef2_Join.l0 k (i : Int) a.f0 a.f1 a.f2 a.f3 a.f4 b.f0 b.f1 b.f2 b.f3 b.f4 f0 f1 s m x)
   (f0, f1, s ++ List.zipWith (fun x y => wrap64 (x + y)) (a.f2.drop i) (b.f2.drop i), m ++ List.zipWith mn (a.f3.drop i) (b.f3.drop i), x ++ List.zipWith mx (a.f4.drop i) (b.f4.drop i)) := by
 obtain ⟨a0, a2, a3, a4⟩ := ha
 obtain ⟨b0, b2, b3, b4⟩ := hb
 induction d with
 | zero =>
  intro i s m x hd hi hs hm hx
  have e2 : a.f2.drop i = [] := List.drop_eq_nil_of_le (by omega)
  have e3 : a.f3.drop i = [] := List.drop_eq_nil_of_le (by omega)
  have e4 : a.f4.drop i = [] := List.drop_eq_nil_of_le (by omega)
  rw [e2, e3, e4, List.zipWith_nil_left, List.zipWith_nil_left, List.zipWith_nil_left, List.append_nil, List.append_nil, List.append_nil]
  exact Ev.step (f := fun _ => some (f0, f1, s, m, x)) (fun k => by simp only [hypercuberef2_Join.l0]; rw [if_neg (by omega)]) (Ev.now _)
 | succ d ih =>
  intro i s m x hd hi hs hm hx
  have ia2 : i < a.f2.length := by omega
  have ia3 : i < a.f3.length := by omega
  have ia4 : i < a.f4.length := by omega
  have ib2 : i < b.f2.length := by omega
  have ib3 : i < b.f3.length := by omega
  have ib4 : i < b.f4.length := by omega
  have h := ih (i + 1) (s ++ [wrap64 (a.f2[i] + b.f2[i])]) (m ++ [mn a.f3[i] b.f3[i]]) (x ++ [mx a.f4[i] b.f4[i]]) (by omega) (by omega) (by simp; omega) (by simp; omega) (by simp; omega)
  rw [List.append_assoc, List.append_assoc, List.append_assoc, List.singleton_append, List.singleton_append, List.singleton_append] at h
  rw [drop_cons ia2, drop_cons ia3, drop_cons ia4, drop_cons ib2, drop_cons ib3, drop_cons ib4, List.zipWith_cons_cons, List.zipWith_cons_cons, List.zipWith_cons_cons]
  exact Ev.step (fun k => by
   simp only [hypercuberef2_Join.l0]
   rw [if_pos (by omega), if_pos (by omega), if_pos (by omega), if_pos (by omega), if_pos (by omega), if_pos (by omega), if_pos (by omega), if_pos (by omega), if_pos (by omega), if_pos (by omega), rd_get ia2, rd_get ia3, rd_get ia4, rd_get ib2, rd_get ib3, rd_get ib4, w64s ia2 (by omega)]) h
theorem ref_join_ev {n : Nat} (hn : n ≤ 100) {a b : S44} (ha : RegC n a) (hb : RegC n b) : Ev (fun k => hypercuberef2_Join.f k a.f0 a.f1 a.f2 a.f3 a.f4 b.f0 b.f1 b.f2 b.f3 b.f4) (tupC (joinC a b)) := by
 have h := ref_join_l0 n hn a b ha hb a.f0 (wrap64 (a.f1 + b.f1)) n 0 [] [] [] (by omega) (by omega) rfl rfl rfl
 simp only [List.drop_zero, List.nil_append] at h
 refine Ev.congr (fun k => ?_) h
 unfold hypercuberef2_Join.f
 rw [Option.bind_some, if_pos (by have := ha.1; simp only [List.length_nil]; omega), List.nil_append]
 rfl
theorem ref_copy_eq {c : S44} (h : SmallC c) : hypercuberef2_Copy.f c.f0 c.f1 c.f2 c.f3 c.f4 = some (tupC c) := by
 obtain ⟨h0, h2, h3, h4⟩ := h
 unfold hypercuberef2_Copy.f
 rw [if_pos ⟨by omega, by omega, by omega, by omega⟩]
 rfl
theorem ref_put_end {n : Nat} (hn : n ≤ 100) {xs : List S44} {x : S44} (hl : xs.length ≤ 1000000) (hr : RegL n xs) (hx : RegC n x) (i : Nat) (hi : i ≤ xs.length) (h1 : ∀ m (h : m < xs.length), m < i → lexC (xs[m]).f0 x.f0 < 0) (h2 : ∀ (h : i < xs.length), 0 ≤ lexC (xs[i]).f0 x.f0) :
  Ev (fun k => hypercuberef2_Put.j1 k xs (i : Int) x.f0 x.f1 x.f2 x.f3 x.f4) (putL x xs) := by
 have hput := putL_at x i xs hi h1 h2
 have hcat : xs.take i ++ [x] ++ xs.drop i = xs.take i ++ x :: xs.drop i := by simp
 have hins : Ev (fun k => hypercuberef2_Put.j2 k xs (i : Int) false x.f0 x.f1 x.f2 x.f3 x.f4) (xs.take i ++ x :: xs.drop i) := by
  refine Ev.step (f := fun _ => some (xs.take i ++ x :: xs.drop i)) (fun k => ?_) (Ev.now _)
  simp only [hypercuberef2_Put.j2]
  rw [if_neg (by simp), Option.bind_some, if_pos (by omega), if_pos (by omega), Option.bind_some, if_pos (by simp; omega), Option.bind_some, ref_copy_eq (hx.small hn), Option.bind_some, if_pos (by simp; omega), Option.bind_some, Option.bind_some, if_pos (by simp; omega)]
  simp only [List.nil_append, Int.toNat_natCast, tupC, ← hcat]
 by_cases hlt : i < xs.length
 ·have hc := ref_less_ev (xs[i]).f0 x.f0 (by have := (hr _ (List.getElem_mem hlt)).1; omega)
  refine Ev.step (f := fun k => (hypercuberef2_Less.f k (xs[i]).f0 x.f0).bind fun t => hypercuberef2_Put.j2 k xs (i : Int) (t == 0) x.f0 x.f1 x.f2 x.f3 x.f4) (fun k => ?_) (Ev.bind hc ?_)
  ·simp only [hypercuberef2_Put.j1]
   rw [if_pos (by omega), if_pos (by omega), rdC_get hlt]
  ·rw [hput, dif_pos hlt]
   by_cases c : lexC (xs[i]).f0 x.f0 = 0
   ·rw [if_pos c, show (lexC (xs[i]).f0 x.f0 == 0) = true by simp [c]]
    have hj := ref_join_ev hn (hr _ (List.getElem_mem hlt)) hx
    refine Ev.step (f := fun k => (hypercuberef2_Join.f k (xs[i]).f0 (xs[i]).f1 (xs[i]).f2 (xs[i]).f3 (xs[i]).f4 x.f0 x.f1 x.f2 x.f3 x.f4).bind fun bt => some (xs.set i (⟨bt.1, bt.2.1, bt.2.2.1, bt.2.2.2.1, bt.2.2.2.2⟩ : S44))) (fun k => ?_) (Ev.bind hj (Ev.now _))
    simp only [hypercuberef2_Put.j2]
    rw [if_pos trivial, Option.bind_some, if_pos (by simp; omega), Option.bind_some, if_pos (by omega), if_pos (by omega), rdC_get hlt, List.nil_append]
    congr 1
    funext bt
    rw [if_pos (by omega), Int.toNat_natCast]
   ·rw [if_neg c, show (lexC (xs[i]).f0 x.f0 == 0) = false by simp [c]]
    exact hins
 ·rw [hput, dif_neg hlt]
  refine Ev.step (fun k => ?_) hins
  simp only [hypercuberef2_Put.j1]
  rw [if_neg (by omega)]
theorem ref_put_l0 {n : Nat} (hn : n ≤ 100) {xs : List S44} {x : S44} (hl : xs.length ≤ 1000000) (hr : RegL n xs) (hx : RegC n x) (d : Nat) : ∀ i : Nat, xs.length - i = d → i ≤ xs.length → (∀ m (h : m < xs.length), m < i → lexC (xs[m]).f0 x.f0 < 0) →
  Ev (fun k => hypercuberef2_Put.l0 k xs (i : Int) x.f0 x.f1 x.f2 x.f3 x.f4) (putL x xs) := by
 induction d with
 | zero =>
  intro i hd hi h1
  refine Ev.step (fun k => ?_) (ref_put_end hn hl hr hx i hi h1 (fun h => by omega))
  simp only [hypercuberef2_Put.l0]
  rw [if_neg (by omega)]
 | succ d ih =>
  intro i hd hi h1
  have hlt : i < xs.length := by omega
  have hc := ref_less_ev (xs[i]).f0 x.f0 (by have := (hr _ (List.getElem_mem hlt)).1; omega)
  refine Ev.step (f := fun k => (hypercuberef2_Less.f k (xs[i]).f0 x.f0).bind fun t => if t < 0 then hypercuberef2_Put.l0 k xs ((i + 1 : Nat) : Int) x.f0 x.f1 x.f2 x.f3 x.f4 else hypercuberef2_Put.j1 k xs (i : Int) x.f0 x.f1 x.f2 x.f3 x.f4) (fun k => ?_) (Ev.bind hc ?_)
  ·simp only [hypercuberef2_Put.l0]
   rw [if_pos (by omega), if_pos (by omega), rdC_get hlt, w64s hlt (by omega)]
  ·by_cases c : lexC (xs[i]).f0 x.f0 < 0
   ·refine Ev.congr (fun k => by rw [if_pos c]) (ih (i + 1) (by omega) (by omega) (fun m h hm => ?_))
    by_cases e : m = i
    ·subst e; exact c
    ·exact h1 m h (by omega)
   ·exact Ev.congr (fun k => by rw [if_neg c]) (ref_put_end hn hl hr hx i hi h1 (fun _ => by omega))
theorem ref_put_ev {n : Nat} (hn : n ≤ 100) {xs : List S44} {x : S44} (hl : xs.length ≤ 1000000) (hr : RegL n xs) (hx : RegC n x) : Ev (fun k => hypercuberef2_Put.f k xs x.f0 x.f1 x.f2 x.f3 x.f4) (putL x xs) :=
 Ev.congr (fun k => by unfold hypercuberef2_Put.f; rfl) (ref_put_l0 hn hl hr hx xs.length 0 (by omega) (by omega) (fun m h hm => by omega))
theorem equal_true {c : S44} (ha : SmallC c) : Ev (fun k => hypercuberef2_Equal.f k c.f0 c.f1 c.f2 c.f3 c.f4 c.f0 c.f1 c.f2 c.f3 c.f4) true := by
 obtain ⟨h0, h2, h3, h4⟩ := ha
 have e : ∀ l : List Int, l.length ≤ 100000 → Ev (fun k => hypercuberef1_Ints.f k l l) true := fun l hl => by
  have := ints_ev l l (by omega)
  rw [decide_eq_true rfl] at this
  exact this
 refine Ev.congr (fun k => by unfold hypercuberef2_Equal.f; rw [if_pos rfl]) ?_
 refine Ev.bind (e _ h0) (Ev.congr (fun k => by rw [if_pos rfl]) ?_)
 refine Ev.bind (e _ h2) (Ev.congr (fun k => by rw [if_pos rfl]) ?_)
 refine Ev.bind (e _ h3) (Ev.congr (fun k => by rw [if_pos rfl]) ?_)
 exact Ev.bind (e _ h4) (Ev.now _)
theorem same_l0 (l : List S44) (hl : l.length ≤ 1000000) (hs : ∀ c ∈ l, SmallC c) (d : Nat) : ∀ i : Nat, l.length - i = d → i ≤ l.length → Ev (fun k => hypercuberef2_Same.l0 k l l (i : Int)) true := by
 induction d with
 | zero =>
  intro i hd hi
  exact Ev.step (f := fun _ => some true) (fun k => by simp only [hypercuberef2_Same.l0]; rw [if_neg (by omega)]) (Ev.now _)
 | succ d ih =>
  intro i hd hi
  have hlt : i < l.length := by omega
  refine Ev.step (f := fun k => (hypercuberef2_Equal.f k (l[i]).f0 (l[i]).f1 (l[i]).f2 (l[i]).f3 (l[i]).f4 (l[i]).f0 (l[i]).f1 (l[i]).f2 (l[i]).f3 (l[i]).f4).bind fun t => if t = true then hypercuberef2_Same.l0 k l l ((i + 1 : Nat) : Int) else some false) (fun k => ?_) (Ev.bind (equal_true (hs _ (List.getElem_mem hlt))) ?_)
  ·simp only [hypercuberef2_Same.l0]
   rw [if_pos (by omega), if_pos (by omega), if_pos (by omega), rdC_get hlt, w64s hlt (by omega)]
  ·exact Ev.congr (fun k => by rw [if_pos rfl]) (ih (i + 1) (by omega) (by omega))
theorem same_true {l l' : List S44} (h : l = l') (hl : l.length ≤ 1000000) (hs : ∀ c ∈ l, SmallC c) : Ev (fun k => hypercuberef2_Same.f k l l') true := by
 subst h
 exact Ev.congr (fun k => by unfold hypercuberef2_Same.f; rw [if_pos rfl]; rfl) (same_l0 l hl hs l.length 0 (by omega) (by omega))
theorem within_eq (a n : Int) (h0 : 0 < n) (h1 : n ≤ 4611686018427387904) : hypercubelaw1_within.f a n = some (a % n) := by
 unfold hypercubelaw1_within.f
 rw [if_neg (by omega)]
 have hb := Int.emod_nonneg a (show n ≠ 0 by omega)
 have hl := Int.emod_lt_of_pos a h0
 by_cases ha : 0 ≤ a
 ·rw [Int.tmod_eq_emod_of_nonneg ha, if_neg (by omega)]
 ·have ht : Int.tmod a n = if a % n = 0 then 0 else a % n - n := by
   rw [Int.tmod_eq_emod]
   split
   ·rename_i h
    rcases h with h | h
    ·omega
    ·rw [Int.emod_eq_zero_of_dvd h]; simp
   ·rename_i h
    have : a % n ≠ 0 := fun e => h (.inr (Int.dvd_of_emod_eq_zero e))
    rw [if_neg this, Int.natAbs_of_nonneg (by omega)]
  by_cases hz : a % n = 0
  ·rw [ht, if_pos hz, if_neg (by omega), hz]
  ·rw [ht, if_neg hz, if_pos (by omega)]
   congr 1
   rw [w64 (by omega) (by omega)]
   omega
def checkP (cards : List Int) (meas : Int) : Bool := decide (1 ≤ cards.length) && decide (cards.length ≤ 4) && (cards.all fun x => decide (1 ≤ x) && decide (x ≤ 16)) && decide (0 ≤ meas) && decide (meas ≤ 2)
def rightP (cards : List Int) (meas : Int) (x : S51) : Bool := decide (x.f0.length = cards.length) && decide ((x.f1.length : Int) = meas) && (List.range x.f0.length).all fun i => decide (0 ≤ rd x.f0 i) && decide (rd x.f0 i < rd cards i)
theorem check_open {cards : List Int} {meas : Int} (h : checkP cards meas = true) : 1 ≤ cards.length ∧ cards.length ≤ 4 ∧ (∀ x ∈ cards, 1 ≤ x ∧ x ≤ 16) ∧ 0 ≤ meas ∧ meas ≤ 2 := by
 unfold checkP at h
 simp only [Bool.and_eq_true, decide_eq_true_eq, List.all_eq_true] at h
 exact ⟨h.1.1.1.1, h.1.1.1.2, fun x hx => h.1.1.2 x hx, h.1.2, h.2⟩
theorem check_mk {cards : List Int} {meas : Int} (h1 : 1 ≤ cards.length) (h2 : cards.length ≤ 4) (h3 : ∀ x ∈ cards, 1 ≤ x ∧ x ≤ 16) (h4 : 0 ≤ meas) (h5 : meas ≤ 2) : checkP cards meas = true := by
 unfold checkP
 simp only [Bool.and_eq_true, decide_eq_true_eq, List.all_eq_true]
 exact ⟨⟨⟨⟨h1, h2⟩, h3⟩, h4⟩, h5⟩
theorem right_open {cards : List Int} {meas : Int} {x : S51} (h : rightP cards meas x = true) : x.f0.length = cards.length ∧ (x.f1.length : Int) = meas ∧ ∀ i : Nat, i < x.f0.length → 0 ≤ rd x.f0 i ∧ rd x.f0 i < rd cards i := by
 unfold rightP at h
 simp only [Bool.and_eq_true, decide_eq_true_eq, List.all_eq_true, List.mem_range] at h
 exact ⟨h.1.1, h.1.2, fun i hi => h.2 i hi⟩
theorem right_mk {cards : List Int} {meas : Int} {x : S51} (h1 : x.f0.length = cards.length) (h2 : (x.f1.length : Int) = meas) (h3 : ∀ i : Nat, i < x.f0.length → 0 ≤ rd x.f0 i ∧ rd x.f0 i < rd cards i) : rightP cards meas x = true := by
 unfold rightP
 simp only [Bool.and_eq_true, decide_eq_true_eq, List.all_eq_true, List.mem_range]
 exact ⟨⟨h1, h2⟩, fun i hi => h3 i hi⟩
abbrev FR := List Int × Int × List S51
def RowOk (cards : List Int) (meas : Int) (x : S51) : Prop := rightP cards meas x = true ∧ ∀ y ∈ x.f1, -100 ≤ y ∧ y ≤ 100
theorem facts_l3 (x3 : List Int) (rows : List S51) (i : Nat) (hi : i < 1000) (kk : Int) (cards : List Int) (meas : Int) (hm0 : 0 ≤ meas) (hm : meas ≤ 2) (hrl : rows.length ≤ 1000) (key : List Int) {Q : FR → Prop}
  (H : ∀ ms : List Int, (ms.length : Int) = meas → (∀ y ∈ ms, -100 ≤ y ∧ y ≤ 100) → ∃ p, Ev (fun k => hypercubelaw1_Facts.l1 k x3 (rows ++ [⟨key, ms⟩]) ((i + 1 : Nat) : Int) cards meas) p ∧ Q p) (d : Nat) :
  ∀ (j : Nat) (ms : List Int), (meas.toNat - j) = d → (j : Int) ≤ meas → ms.length = j → (∀ y ∈ ms, -100 ≤ y ∧ y ≤ 100) → ∃ p, Ev (fun k => hypercubelaw1_Facts.l3 k x3 rows (i : Int) kk (j : Int) cards meas key ms) p ∧ Q p := by
 induction d with
 | zero =>
  intro j ms hd hj hl hb
  obtain ⟨p, h1, h2⟩ := H ms (by omega) hb
  exact ⟨p, Ev.step (fun k => by simp only [hypercubelaw1_Facts.l3]; rw [if_neg (by omega), if_pos (by omega), w64s hi (by omega)]) h1, h2⟩
 | succ d ih =>
  intro j ms hd hj hl hb
  have hw := within_eq (wrap64 (kk + (wrap64 (7 * (j : Int))))) 201 (by omega) (by omega)
  have b0 := Int.emod_nonneg (wrap64 (kk + (wrap64 (7 * (j : Int))))) (show (201 : Int) ≠ 0 by omega)
  have b1 := Int.emod_lt_of_pos (wrap64 (kk + (wrap64 (7 * (j : Int))))) (show (0 : Int) < 201 by omega)
  generalize (wrap64 (kk + (wrap64 (7 * (j : Int))))) % 201 = q at hw b0 b1
  obtain ⟨p, h1, h2⟩ := ih (j + 1) (ms ++ [wrap64 (q - 100)]) (by omega) (by omega) (by simp; omega) (fun y hy => by
   rcases List.mem_append.1 hy with hy | hy
   ·exact hb y hy
   ·rw [List.mem_singleton.1 hy, w64 (by omega) (by omega)]; omega)
  refine ⟨p, Ev.step (fun k => by simp only [hypercubelaw1_Facts.l3]; rw [if_pos (by omega), hw]; simp only [Option.bind_some]; rw [if_pos (by omega), w64s (show j < 1000 by omega) (by omega)]) h1, h2⟩
theorem facts_l2 (x3 : List Int) (rows : List S51) (i : Nat) (hi : i < 1000) (cards : List Int) (meas : Int) (hc : checkP cards meas = true) (hrl : rows.length ≤ 1000) {Q : FR → Prop}
  (H : ∀ x, RowOk cards meas x → ∃ p, Ev (fun k => hypercubelaw1_Facts.l1 k x3 (rows ++ [x]) ((i + 1 : Nat) : Int) cards meas) p ∧ Q p) (d : Nat) :
  ∀ (j : Nat) (kk : Int) (key : List Int), cards.length - j = d → j ≤ cards.length → key.length = j → (∀ a : Nat, a < key.length → 0 ≤ rd key a ∧ rd key a < rd cards a) →
   ∃ p, Ev (fun k => hypercubelaw1_Facts.l2 k x3 rows (i : Int) kk (j : Int) cards meas key) p ∧ Q p := by
 obtain ⟨h1, h2, h3, h4, h5⟩ := check_open hc
 induction d with
 | zero =>
  intro j kk key hd hj hl hb
  have := facts_l3 x3 rows i hi kk cards meas h4 h5 hrl key (fun ms hml hmb => H ⟨key, ms⟩ ⟨right_mk (by show key.length = _; omega) hml hb, hmb⟩) meas.toNat 0 [] (by omega) (by omega) rfl (by simp)
  obtain ⟨p, e1, e2⟩ := this
  exact ⟨p, Ev.step (fun k => by simp only [hypercubelaw1_Facts.l2]; rw [if_neg (by omega)]; rfl) e1, e2⟩
 | succ d ih =>
  intro j kk key hd hj hl hb
  have hja : j < cards.length := by omega
  have hcd := h3 cards[j] (List.getElem_mem hja)
  have hw := within_eq kk cards[j] (by omega) (by omega)
  have b0 := Int.emod_nonneg kk (show cards[j] ≠ 0 by omega)
  have b1 := Int.emod_lt_of_pos kk (show (0 : Int) < cards[j] by omega)
  generalize kk % cards[j] = q at hw b0 b1
  obtain ⟨p, e1, e2⟩ := ih (j + 1) (wrap64 (Int.tdiv kk 5)) (key ++ [q]) (by omega) (by omega) (by simp; omega) (fun a ha => by
   by_cases hak : a < key.length
   ·have hb1 := hb a hak
    have : rd (key ++ [q]) (a : Int) = rd key (a : Int) := by rw [rd_get ha, rd_get hak, List.getElem_append_left hak]
    rw [this]; exact hb1
   ·have hae : a = key.length := by simp at ha; omega
    subst hae
    have : rd (key ++ [q]) (key.length : Int) = q := by rw [rd_get ha]; simp
    rw [this, hl, rd_get hja]; exact ⟨b0, b1⟩)
  refine ⟨p, Ev.step (fun k => by simp only [hypercubelaw1_Facts.l2]; rw [if_pos (by omega), if_pos (by omega), rd_get hja, hw]; simp only [Option.bind_some]; rw [if_pos (by omega), w64s hja (by omega)]) e1, e2⟩
theorem facts_l1 (x3 : List Int) (cards : List Int) (meas : Int) (hc : checkP cards meas = true) (d : Nat) : ∀ (i : Nat) (rows : List S51), (min x3.length 40) - i = d → i ≤ min x3.length 40 → rows.length = i → (∀ x ∈ rows, RowOk cards meas x) →
  ∃ p, Ev (fun k => hypercubelaw1_Facts.l1 k x3 rows (i : Int) cards meas) p ∧ (p.1 = cards ∧ p.2.1 = meas ∧ p.2.2.length = min x3.length 40 ∧ ∀ x ∈ p.2.2, RowOk cards meas x) := by
 induction d with
 | zero =>
  intro i rows hd hi hl hr
  have fin : Ev (fun k => hypercubelaw1_Facts.j3 k x3 rows (i : Int) false cards meas) (cards, meas, rows) := Ev.step (fun k => by simp only [hypercubelaw1_Facts.j3]; rw [if_neg (by simp)]) (Ev.now _)
  refine ⟨(cards, meas, rows), ?_, rfl, rfl, by show rows.length = _; omega, hr⟩
  by_cases h : (i : Int) < x3.length
  ·have : decide ((i : Int) < 40) = false := decide_eq_false (by omega)
   exact Ev.step (fun k => by simp only [hypercubelaw1_Facts.l1]; rw [if_pos h, this]) fin
  ·exact Ev.step (fun k => by simp only [hypercubelaw1_Facts.l1]; rw [if_neg h]) fin
 | succ d ih =>
  intro i rows hd hi hl hr
  have hia : i < x3.length := by omega
  have hdec : decide ((i : Int) < 40) = true := decide_eq_true (by omega)
  obtain ⟨p, e1, e2⟩ := facts_l2 x3 rows i (by omega) cards meas hc (by omega) (fun x hx => ih (i + 1) (rows ++ [x]) (by omega) (by omega) (by simp; omega) (fun y hy => by
   rcases List.mem_append.1 hy with hy | hy
   ·exact hr y hy
   ·rw [List.mem_singleton.1 hy]; exact hx)) cards.length 0 (rd x3 i) [] (by omega) (by omega) rfl (fun a ha => by simp at ha)
  refine ⟨p, ?_, e2⟩
  refine Ev.step (fun k => by simp only [hypercubelaw1_Facts.l1]; rw [if_pos (by omega), hdec]) ?_
  exact Ev.step (fun k => by simp only [hypercubelaw1_Facts.j3]; rw [if_pos trivial, if_pos (by omega), if_pos (by omega)]; rfl) e1
theorem facts_l0 (x0 : Int) (x1 x3 : List Int) (meas : Int) (hm0 : 0 ≤ meas) (hm : meas ≤ 2) (d : Nat) : ∀ (i : Nat) (cards : List Int), (x0 % 4 + 1).toNat - i = d → (i : Int) ≤ x0 % 4 + 1 → cards.length = i → (∀ x ∈ cards, 1 ≤ x ∧ x ≤ 5) →
  ∃ p, Ev (fun k => hypercubelaw1_Facts.l0 k x0 x1 x3 (i : Int) cards meas) p ∧ (checkP p.1 p.2.1 = true ∧ p.2.1 = meas ∧ (p.1.length : Int) = x0 % 4 + 1 ∧ p.2.2.length = min x3.length 40 ∧ ∀ x ∈ p.2.2, RowOk p.1 p.2.1 x) := by
 have b0 := Int.emod_nonneg x0 (show (4 : Int) ≠ 0 by omega)
 have b1 := Int.emod_lt_of_pos x0 (show (0 : Int) < 4 by omega)
 have hw4 := within_eq x0 4 (by omega) (by omega)
 have hw7 := within_eq x0 7 (by omega) (by omega)
 induction d with
 | zero =>
  intro i cards hd hi hl hc
  have go : ∀ cs : List Int, cs.length = cards.length → (∀ x ∈ cs, 1 ≤ x ∧ x ≤ 16) → ∃ p, Ev (fun k => hypercubelaw1_Facts.j1 k x3 cs meas) p ∧ (checkP p.1 p.2.1 = true ∧ p.2.1 = meas ∧ (p.1.length : Int) = x0 % 4 + 1 ∧ p.2.2.length = min x3.length 40 ∧ ∀ x ∈ p.2.2, RowOk p.1 p.2.1 x) := by
   intro cs h1 h2
   have hck : checkP cs meas = true := check_mk (by omega) (by omega) h2 hm0 hm
   obtain ⟨p, e1, e2, e3, e4, e5⟩ := facts_l1 x3 cs meas hck (min x3.length 40) 0 [] (by omega) (by omega) rfl (by simp)
   refine ⟨p, Ev.step (fun k => by simp only [hypercubelaw1_Facts.j1]; rfl) e1, ?_, e3, ?_, e4, ?_⟩
   ·rw [e2, e3]; exact hck
   ·rw [e2]; omega
   ·rw [e2, e3]; exact e5
  by_cases h7 : x0 % 7 = 0
  ·obtain ⟨p, e1, e2⟩ := go (cards.set (0 : Int).toNat 16) (by simp) (fun x hx => by
    rcases List.mem_or_eq_of_mem_set hx with hx | rfl
    ·have := hc x hx; omega
    ·omega)
   refine ⟨p, ?_, e2⟩
   exact Ev.step (fun k => by simp only [hypercubelaw1_Facts.l0]; rw [hw4]; simp only [Option.bind_some]; rw [if_neg (by omega), hw7]; simp only [Option.bind_some]; rw [if_pos h7, if_pos (by omega)]) e1
  ·obtain ⟨p, e1, e2⟩ := go cards rfl (fun x hx => by have := hc x hx; omega)
   refine ⟨p, ?_, e2⟩
   exact Ev.step (fun k => by simp only [hypercubelaw1_Facts.l0]; rw [hw4]; simp only [Option.bind_some]; rw [if_neg (by omega), hw7]; simp only [Option.bind_some]; rw [if_neg h7]) e1
 | succ d ih =>
  intro i cards hd hi hl hc
  have next : ∀ q : Int, 0 ≤ q → q < 5 → ∃ p, Ev (fun k => hypercubelaw1_Facts.l0 k x0 x1 x3 ((i + 1 : Nat) : Int) (cards ++ [wrap64 (1 + q)]) meas) p ∧ (checkP p.1 p.2.1 = true ∧ p.2.1 = meas ∧ (p.1.length : Int) = x0 % 4 + 1 ∧ p.2.2.length = min x3.length 40 ∧ ∀ x ∈ p.2.2, RowOk p.1 p.2.1 x) := by
   intro q q0 q1
   refine ih (i + 1) (cards ++ [wrap64 (1 + q)]) (by omega) (by omega) (by simp; omega) (fun x hx => ?_)
   rcases List.mem_append.1 hx with hx | hx
   ·exact hc x hx
   ·rw [List.mem_singleton.1 hx, w64 (by omega) (by omega)]; omega
  by_cases h1 : (i : Int) < x1.length
  ·have hw := within_eq (rd x1 (i : Int)) 5 (by omega) (by omega)
   obtain ⟨p, e1, e2⟩ := next (rd x1 (i : Int) % 5) (by omega) (by omega)
   refine ⟨p, ?_, e2⟩
   exact Ev.step (fun k => by simp only [hypercubelaw1_Facts.l0]; rw [hw4]; simp only [Option.bind_some]; rw [if_pos (by omega), if_pos h1, if_pos (by omega), hw]; simp only [Option.bind_some]; rw [if_pos (by omega), w64s (show i < 1000 by omega) (by omega)]) e1
  ·have hw := within_eq (wrap64 ((i : Int) + 2)) 5 (by omega) (by omega)
   obtain ⟨p, e1, e2⟩ := next (wrap64 ((i : Int) + 2) % 5) (by omega) (by omega)
   refine ⟨p, ?_, e2⟩
   exact Ev.step (fun k => by simp only [hypercubelaw1_Facts.l0]; rw [hw4]; simp only [Option.bind_some]; rw [if_pos (by omega), if_neg h1, hw]; simp only [Option.bind_some]; rw [if_pos (by omega), w64s (show i < 1000 by omega) (by omega)]) e1
theorem facts_ev (a0 : Int) (l1 : List Int) (a2 : Int) (l3 : List Int) : ∃ cards meas rows, Ev (fun k => hypercubelaw1_Facts.f k a0 l1 a2 l3) (cards, meas, rows) ∧ checkP cards meas = true ∧ meas = a2 % 3 ∧ (cards.length : Int) = a0 % 4 + 1 ∧ rows.length = min l3.length 40 ∧ ∀ x ∈ rows, RowOk cards meas x := by
 have hw := within_eq a2 3 (by omega) (by omega)
 obtain ⟨⟨cards, meas, rows⟩, e1, e2, e3, e4, e5, e6⟩ := facts_l0 a0 l1 l3 (a2 % 3) (by omega) (by omega) (a0 % 4 + 1).toNat 0 [] (by omega) (by omega) rfl (by simp)
 refine ⟨cards, meas, rows, ?_, e2, e3, e4, e5, e6⟩
 exact Ev.congr (fun k => by unfold hypercubelaw1_Facts.f; rw [hw]; rfl) e1
theorem set_eq {cards : List Int} {meas : Int} (hc : checkP cards meas = true) (a : Int) : ∃ s, hypercubelaw2_Set.f cards meas a = some s ∧ 0 ≤ s ∧ s < 16 := by
 obtain ⟨h1, h2, _⟩ := check_open hc
 have go : ∀ n : Int, 0 < n → n ≤ 16 → ∃ s, ((hypercubelaw2_within.f a n).bind fun t => some t) = some s ∧ 0 ≤ s ∧ s < 16 := fun n h0 h16 => by
  rw [within2_eq a n h0 (by omega)]
  have := Int.emod_nonneg a (show n ≠ 0 by omega)
  have := Int.emod_lt_of_pos a h0
  exact ⟨a % n, rfl, by omega, by omega⟩
 unfold hypercubelaw2_Set.f
 have hl : cards.length = 1 ∨ cards.length = 2 ∨ cards.length = 3 ∨ cards.length = 4 := by omega
 rcases hl with h | h | h | h
 ·rw [h, if_pos (by decide), show shl .i64 1 (IntKind.u64.wrap ((1 : Nat) : Int)) = 2 by decide]; exact go 2 (by omega) (by omega)
 ·rw [h, if_pos (by decide), show shl .i64 1 (IntKind.u64.wrap ((2 : Nat) : Int)) = 4 by decide]; exact go 4 (by omega) (by omega)
 ·rw [h, if_pos (by decide), show shl .i64 1 (IntKind.u64.wrap ((3 : Nat) : Int)) = 8 by decide]; exact go 8 (by omega) (by omega)
 ·rw [h, if_pos (by decide), show shl .i64 1 (IntKind.u64.wrap ((4 : Nat) : Int)) = 16 by decide]; exact go 16 (by omega) (by omega)
def bitR (s : Int) (i : Nat) : Bool := decide (Go.bits .and .i64 (shr .i64 s (IntKind.u64.wrap (i : Int))) 1 = 1)
def keysR (s : Int) : Nat → List Int → List Int
 | _, [] => []
 | i, x :: xs => if bitR s i = true then x :: keysR s (i + 1) xs else keysR s (i + 1) xs
theorem keysR_length (s : Int) : ∀ (i : Nat) (l : List Int), (keysR s i l).length ≤ l.length
 | _, [] => by simp [keysR]
 | i, x :: xs => by
  have := keysR_length s (i + 1) xs
  unfold keysR
  split <;> simp <;> omega
def ofR (s : Int) (r : S51) : S44 := ⟨keysR s 0 r.f0, 1, r.f1, r.f1, r.f1⟩
def RegR (n : Nat) (r : S51) : Prop := r.f0.length ≤ 4 ∧ r.f1.length = n
theorem u64_nat (i : Nat) (h : i ≤ 1000) : 0 ≤ IntKind.u64.wrap (i : Int) := by
 have e : IntKind.u64.wrap (i : Int) = (i : Int) % 18446744073709551616 := rfl
 rw [e]; omega
theorem of_l0 (s : Int) (f0 f1 : List Int) (h0 : f0.length ≤ 4) (h1 : f1.length ≤ 100) (d : Nat) : ∀ (i : Nat) (acc : List Int), f0.length - i = d → i ≤ f0.length → acc.length ≤ i →
  Ev (fun k => hypercuberef2_Of.l0 k s (i : Int) f0 f1 acc 1) (acc ++ keysR s i (f0.drop i), 1, f1, f1, f1) := by
 induction d with
 | zero =>
  intro i acc hd hi ha
  have e : f0.drop i = [] := List.drop_eq_nil_of_le (by omega)
  rw [e]
  refine Ev.step (f := fun _ => some (acc, 1, f1, f1, f1)) (fun k => ?_) (by simp only [keysR, List.append_nil]; exact Ev.now _)
  simp only [hypercuberef2_Of.l0]
  rw [if_neg (by omega), Option.bind_some, if_pos (by simp; omega), Option.bind_some, if_pos (by simp; omega), Option.bind_some, if_pos (by simp; omega)]
  rfl
 | succ d ih =>
  intro i acc hd hi ha
  have hlt : i < f0.length := by omega
  rw [drop_cons hlt]
  unfold keysR
  by_cases hb : bitR s i = true
  ·have hb' : Go.bits .and .i64 (shr .i64 s (IntKind.u64.wrap (i : Int))) 1 = 1 := by unfold bitR at hb; simpa using hb
   have h := ih (i + 1) (acc ++ [f0[i]]) (by omega) (by omega) (by simp; omega)
   rw [List.append_assoc, List.singleton_append] at h
   rw [if_pos hb]
   exact Ev.step (fun k => by simp only [hypercuberef2_Of.l0]; rw [if_pos (by omega), if_pos (u64_nat i (by omega)), if_pos hb', if_pos (by omega), if_pos (by omega), rd_get hlt, w64s hlt (by omega)]) h
  ·have hb' : ¬ Go.bits .and .i64 (shr .i64 s (IntKind.u64.wrap (i : Int))) 1 = 1 := by unfold bitR at hb; simpa using hb
   have h := ih (i + 1) acc (by omega) (by omega) (by omega)
   rw [if_neg hb]
   exact Ev.step (fun k => by simp only [hypercuberef2_Of.l0]; rw [if_pos (by omega), if_pos (u64_nat i (by omega)), if_neg hb', w64s hlt (by omega)]) h
theorem of_ev {n : Nat} (hn : n ≤ 100) {r : S51} (hr : RegR n r) (s : Int) : Ev (fun k => hypercuberef2_Of.f k r.f0 r.f1 s) (tupC (ofR s r)) := by
 have h := of_l0 s r.f0 r.f1 hr.1 (by rw [hr.2]; exact hn) r.f0.length 0 [] (by omega) (by omega) (by simp)
 simp only [List.drop_zero, List.nil_append] at h
 exact Ev.congr (fun k => by unfold hypercuberef2_Of.f; rfl) h
theorem ofR_reg {n : Nat} {r : S51} (hr : RegR n r) (s : Int) : RegC n (ofR s r) := ⟨Nat.le_trans (keysR_length _ _ _) hr.1, hr.2, hr.2, hr.2⟩
def makeL (s : Int) (rows : List S51) : List S44 := rows.map (ofR s)
theorem makeL_reg {n : Nat} {rows : List S51} (hr : ∀ r ∈ rows, RegR n r) (s : Int) : RegL n (makeL s rows) := fun c hc => by
 obtain ⟨r, h, rfl⟩ := List.mem_map.1 hc
 exact ofR_reg (hr r h) s
theorem makeL_length (s : Int) (rows : List S51) : (makeL s rows).length = rows.length := by simp [makeL]
theorem rdR_get {l : List S51} {i : Nat} (h : i < l.length) : rd_T51 l (i : Int) = l[i] := by simp [rd_T51, List.getD_eq_getElem?_getD, h]
theorem make_l0 {n : Nat} (hn : n ≤ 100) (s : Int) (rows : List S51) (hl : rows.length ≤ 1000000) (hr : ∀ r ∈ rows, RegR n r) (d : Nat) : ∀ (i : Nat) (acc : List S44), rows.length - i = d → i ≤ rows.length → acc.length ≤ i →
  Ev (fun k => hypercubelaw2_Make.l0 k rows s acc (i : Int)) (acc ++ makeL s (rows.drop i)) := by
 induction d with
 | zero =>
  intro i acc hd hi ha
  have e : rows.drop i = [] := List.drop_eq_nil_of_le (by omega)
  rw [e]
  refine Ev.step (f := fun _ => some acc) (fun k => ?_) (by simp only [makeL, List.map_nil, List.append_nil]; exact Ev.now _)
  simp only [hypercubelaw2_Make.l0]
  rw [if_neg (by omega)]
 | succ d ih =>
  intro i acc hd hi ha
  have hlt : i < rows.length := by omega
  have h := ih (i + 1) (acc ++ [ofR s rows[i]]) (by omega) (by omega) (by simp; omega)
  rw [List.append_assoc, List.singleton_append] at h
  rw [drop_cons hlt]
  refine Ev.step (f := fun k => (hypercuberef2_Of.f k (rows[i]).f0 (rows[i]).f1 s).bind fun bt => hypercubelaw2_Make.l0 k rows s (acc ++ [(⟨bt.1, bt.2.1, bt.2.2.1, bt.2.2.2.1, bt.2.2.2.2⟩ : S44)]) ((i + 1 : Nat) : Int)) (fun k => ?_) (Ev.bind (of_ev hn (hr _ (List.getElem_mem hlt)) s) h)
  simp only [hypercubelaw2_Make.l0]
  rw [if_pos (by omega), if_pos (by omega), rdR_get hlt, w64s hlt (by omega)]
  congr 1
  funext bt
  rw [if_pos (by omega)]
theorem make_ev {n : Nat} (hn : n ≤ 100) (s : Int) (rows : List S51) (hl : rows.length ≤ 1000000) (hr : ∀ r ∈ rows, RegR n r) : Ev (fun k => hypercubelaw2_Make.f k rows s) (makeL s rows) := by
 have h := make_l0 hn s rows hl hr rows.length 0 [] (by omega) (by omega) (by simp)
 simp only [List.drop_zero, List.nil_append] at h
 exact Ev.congr (fun k => by unfold hypercubelaw2_Make.f; rfl) h
theorem facts_set (a0 : Int) (l1 : List Int) (a2 : Int) (l3 : List Int) (a4 : Int) : ∃ cards meas rows s n, Ev (fun k => hypercubelaw1_Facts.f k a0 l1 a2 l3) (cards, meas, rows) ∧ hypercubelaw2_Set.f cards meas a4 = some s ∧ checkP cards meas = true ∧ n ≤ 100 ∧ rows.length ≤ 40 ∧ (∀ r ∈ rows, RegR n r) ∧ (0 ≤ s ∧ s < 16) ∧ (∀ r ∈ rows, RowOk cards meas r) := by
 obtain ⟨cards, meas, rows, h1, h2, h3, h4, h5, h6⟩ := facts_ev a0 l1 a2 l3
 obtain ⟨s, hs, hs0⟩ := set_eq h2 a4
 obtain ⟨c1, c2, c3, c4, c5⟩ := check_open h2
 refine ⟨cards, meas, rows, s, meas.toNat, h1, hs, h2, by omega, by omega, fun r hr => ?_, hs0, h6⟩
 obtain ⟨r1, r2, _⟩ := right_open (h6 r hr).1
 exact ⟨by omega, by omega⟩
theorem ref_facts_l0 {n : Nat} (hn : n ≤ 100) (s : Int) (rows : List S51) (hr : ∀ r ∈ rows, RegR n r) (d : Nat) : ∀ (i : Nat) (acc : List S44), rows.length - i = d → i ≤ rows.length → RegL n acc → acc.length + (rows.length - i) ≤ 1000000 → rows.length ≤ 1000000 →
  Ev (fun k => hypercuberef2_Facts.l0 k rows s acc (i : Int)) (putAll acc (makeL s (rows.drop i))) := by
 induction d with
 | zero =>
  intro i acc hd hi ha hb hl
  have e : rows.drop i = [] := List.drop_eq_nil_of_le (by omega)
  rw [e]
  exact Ev.step (f := fun _ => some acc) (fun k => by simp only [hypercuberef2_Facts.l0]; rw [if_neg (by omega)]) (Ev.now _)
 | succ d ih =>
  intro i acc hd hi ha hb hl
  have hlt : i < rows.length := by omega
  have hx := hr _ (List.getElem_mem hlt)
  have hc := ofR_reg hx s
  have := putL_length (ofR s rows[i]) acc
  rw [drop_cons hlt]
  show Ev _ (putAll acc (ofR s rows[i] :: makeL s (rows.drop (i + 1))))
  rw [putAll_cons]
  have hp : Ev (fun k => hypercuberef2_Put.f k acc (tupC (ofR s rows[i])).1 (tupC (ofR s rows[i])).2.1 (tupC (ofR s rows[i])).2.2.1 (tupC (ofR s rows[i])).2.2.2.1 (tupC (ofR s rows[i])).2.2.2.2) (putL (ofR s rows[i]) acc) := ref_put_ev hn (by omega) ha hc
  refine Ev.step (f := fun k => (hypercuberef2_Of.f k (rows[i]).f0 (rows[i]).f1 s).bind fun bt => (hypercuberef2_Put.f k acc bt.1 bt.2.1 bt.2.2.1 bt.2.2.2.1 bt.2.2.2.2).bind fun t => hypercuberef2_Facts.l0 k rows s t ((i + 1 : Nat) : Int)) (fun k => ?_) (Ev.bind (of_ev hn hx s) (Ev.bind hp (ih (i + 1) _ (by omega) (by omega) (regL_put hc ha) (by omega) hl)))
  simp only [hypercuberef2_Facts.l0]
  rw [if_pos (by omega), if_pos (by omega), rdR_get hlt, w64s hlt (by omega)]
theorem ref_facts_ev {n : Nat} (hn : n ≤ 100) {rows : List S51} (hr : ∀ r ∈ rows, RegR n r) (hl : rows.length ≤ 1000000) (s : Int) : Ev (fun k => hypercuberef2_Facts.f k rows s) (groupL (makeL s rows)) := by
 have h := ref_facts_l0 hn s rows hr rows.length 0 [] (by omega) (by omega) (regL_nil n) (by simpa using hl) hl
 simp only [List.drop_zero] at h
 exact Ev.congr (fun k => by unfold hypercuberef2_Facts.f; rfl) h
def runsR (most : Nat) : List S44 → List S44 → List (List S44)
 | held, [] => if 0 < held.length then [held] else []
 | held, c :: cs => if hasK held c = true ∨ held.length < most then runsR most (putL c held) cs else held :: runsR most [c] cs
theorem putL_le {most : Nat} {held : List S44} {c : S44} (ho : SortedC held) (hm : held.length ≤ most) (h : hasK held c = true ∨ held.length < most) : (putL c held).length ≤ most := by
 by_cases hh : hasK held c = true
 ·rw [putL_old c held ho hh]; exact hm
 ·have := putL_length c held
  have := h.resolve_left hh
  omega
theorem sorted_one (c : S44) : SortedC [c] := List.pairwise_singleton _ _
theorem has_l0 (l : List S44) (c : S44) (hs : ∀ y ∈ l, SmallC y) (hl : l.length ≤ 1000000) (d : Nat) : ∀ i : Nat, l.length - i = d → i ≤ l.length → Ev (fun k => hypercuberef5_has.l0 k l c.f0 (i : Int)) (hasK (l.drop i) c) := by
 induction d with
 | zero =>
  intro i hd hi
  have e : l.drop i = [] := List.drop_eq_nil_of_le (by omega)
  rw [e]
  exact Ev.step (f := fun _ => some false) (fun k => by simp only [hypercuberef5_has.l0]; rw [if_neg (by omega)]) (Ev.now _)
 | succ d ih =>
  intro i hd hi
  have hlt : i < l.length := by omega
  rw [drop_cons hlt, hasK_cons]
  refine Ev.step (f := fun k => (hypercuberef2_Less.f k (l[i]).f0 c.f0).bind fun t => if t = 0 then some true else hypercuberef5_has.l0 k l c.f0 ((i + 1 : Nat) : Int)) (fun k => ?_) (Ev.bind (ref_less_ev (l[i]).f0 c.f0 (by have := (hs _ (List.getElem_mem hlt)).1; omega)) ?_)
  ·simp only [hypercuberef5_has.l0]
   rw [if_pos (by omega), if_pos (by omega), rdC_get hlt, w64s hlt (by omega)]
  ·by_cases e : lexC (l[i]).f0 c.f0 = 0
   ·rw [show (lexC (l[i]).f0 c.f0 == 0) = true by simp [e], Bool.true_or]
    exact Ev.congr (fun k => by rw [if_pos e]) (Ev.now _)
   ·rw [show (lexC (l[i]).f0 c.f0 == 0) = false by simp [e], Bool.false_or]
    exact Ev.congr (fun k => by rw [if_neg e]) (ih (i + 1) (by omega) (by omega))
theorem has_ev (l : List S44) (c : S44) (hs : ∀ y ∈ l, SmallC y) (hl : l.length ≤ 1000000) : Ev (fun k => hypercuberef5_has.f k l c.f0) (hasK l c) := by
 have h := has_l0 l c hs hl l.length 0 (by omega) (by omega)
 simp only [List.drop_zero] at h
 exact Ev.congr (fun k => by unfold hypercuberef5_has.f; rfl) h
theorem ref_runs_l0 {n : Nat} (hn : n ≤ 100) (most : Nat) (h1 : 1 ≤ most) (l : List S44) (hr : RegL n l) (hl : l.length ≤ 100000) (d : Nat) : ∀ (i : Nat) (out : List (List S44)) (held : List S44), l.length - i = d → i ≤ l.length → RegL n held → SortedC held → held.length ≤ most → held.length ≤ i → out.length ≤ i →
  Ev (fun k => hypercuberef5_Runs.l0 k l (most : Int) out held (i : Int)) (out ++ runsR most held (l.drop i)) := by
 induction d with
 | zero =>
  intro i out held hd hi hh ho hm hb hb2
  have e : l.drop i = [] := List.drop_eq_nil_of_le (by omega)
  rw [e]
  refine Ev.step (f := fun _ => some (out ++ runsR most held [])) (fun k => ?_) (Ev.now _)
  simp only [hypercuberef5_Runs.l0, runsR]
  rw [if_neg (by omega)]
  by_cases c : 0 < held.length
  ·rw [if_pos (by omega), if_pos (by omega), if_pos c]
  ·rw [if_neg (by omega), if_neg c, List.append_nil]
 | succ d ih =>
  intro i out held hd hi hh ho hm hb hb2
  have hlt : i < l.length := by omega
  have hx := hr _ (List.getElem_mem hlt)
  rw [drop_cons hlt]
  have hput : ∀ held', RegL n held' → held'.length ≤ 100000 → Ev (fun k => hypercuberef2_Put.f k held' (l[i]).f0 (l[i]).f1 (l[i]).f2 (l[i]).f3 (l[i]).f4) (putL l[i] held') := fun held' hh' hb' => ref_put_ev hn (by omega) hh' hx
  refine Ev.step (f := fun k => (hypercuberef5_has.f k held (l[i]).f0).bind fun t389 => (if t389 = true then ((hypercuberef2_Put.f k held (l[i]).f0 (l[i]).f1 (l[i]).f2 (l[i]).f3 (l[i]).f4).bind fun t391 => (hypercuberef5_Runs.l0 k l (most : Int) out t391 ((i + 1 : Nat) : Int))) else (if (held.length : Int) = (most : Int) then (if out.length < 5864062014805 then ((hypercuberef2_Put.f k ([] : List S44) (l[i]).f0 (l[i]).f1 (l[i]).f2 (l[i]).f3 (l[i]).f4).bind fun t398 => (hypercuberef5_Runs.l0 k l (most : Int) (out ++ [held]) t398 ((i + 1 : Nat) : Int))) else (none)) else ((hypercuberef2_Put.f k held (l[i]).f0 (l[i]).f1 (l[i]).f2 (l[i]).f3 (l[i]).f4).bind fun t402 => (hypercuberef5_Runs.l0 k l (most : Int) out t402 ((i + 1 : Nat) : Int)))))) (fun k => ?_) (Ev.bind (has_ev held l[i] (hh.small hn) (by omega)) ?_)
  ·simp only [hypercuberef5_Runs.l0]
   rw [if_pos (by omega), if_pos (by omega), rdC_get hlt, w64s hlt (by omega)]
  ·have hgo := ih (i + 1) out (putL l[i] held) (by omega) (by omega) (regL_put hx hh) (putL_sorted _ _ ho)
   have := putL_length l[i] held
   by_cases e : hasK held l[i] = true
   ·simp only [runsR]
    rw [if_pos (Or.inl e)]
    exact Ev.congr (fun k => by rw [if_pos e]) (Ev.bind (hput held hh (by omega)) (hgo (putL_le ho hm (.inl e)) (by omega) (by omega)))
   ·by_cases hf : held.length < most
    ·simp only [runsR]
     rw [if_pos (Or.inr hf)]
     exact Ev.congr (fun k => by rw [if_neg e, if_neg (by omega)]) (Ev.bind (hput held hh (by omega)) (hgo (putL_le ho hm (.inr hf)) (by omega) (by omega)))
    ·simp only [runsR]
     rw [if_neg (by simp [e]; omega)]
     have hgo2 := ih (i + 1) (out ++ [held]) [l[i]] (by omega) (by omega) (fun c hc => by rw [List.mem_singleton.1 hc]; exact hx) (sorted_one _) (by simpa using h1) (by simp) (by simp; omega)
     rw [List.append_assoc, List.singleton_append] at hgo2
     refine Ev.congr (fun k => by rw [if_neg e, if_pos (by omega), if_pos (by omega)]) (Ev.bind (hput [] (regL_nil n) (by simp)) ?_)
     exact hgo2
theorem ref_runs_ev {n : Nat} (hn : n ≤ 100) (most : Nat) (h1 : 1 ≤ most) {l : List S44} (hr : RegL n l) (hl : l.length ≤ 100000) : Ev (fun k => hypercuberef5_Runs.f k l (most : Int)) (runsR most [] l) := by
 have h := ref_runs_l0 hn most h1 l hr hl l.length 0 [] [] (by omega) (by omega) (regL_nil n) List.Pairwise.nil (by simp) (by simp) (by simp)
 simp only [List.drop_zero, List.nil_append] at h
 exact Ev.congr (fun k => by unfold hypercuberef5_Runs.f; rfl) h
theorem rdL_get {l : List (List S44)} {i : Nat} (h : i < l.length) : rd_L3 l (i : Int) = l[i] := by simp [rd_L3, List.getD_eq_getElem?_getD, h]
theorem runsR_bounds (most : Nat) (h1 : 1 ≤ most) : ∀ (cs held : List S44), SortedC held → held.length ≤ most → (held = [] ∨ 0 < held.length) →
  ∀ (i : Nat) (h : i < (runsR most held cs).length), 1 ≤ ((runsR most held cs)[i]).length ∧ ((runsR most held cs)[i]).length ≤ most ∧ (i + 1 < (runsR most held cs).length → ((runsR most held cs)[i]).length = most) ∧ SortedC ((runsR most held cs)[i])
 | [], held, ho, hm, _, i, h => by
  unfold runsR at h ⊢
  by_cases c : 0 < held.length
  ·simp only [if_pos c] at h ⊢
   have : i = 0 := by simpa using h
   subst this
   exact ⟨c, hm, fun h => by simp at h, ho⟩
  ·simp only [if_neg c] at h; simp at h
 | c :: cs, held, ho, hm, hne, i, h => by
  by_cases hc : hasK held c = true ∨ held.length < most
  ·have e : runsR most held (c :: cs) = runsR most (putL c held) cs := by simp only [runsR]; rw [if_pos hc]
   have ih := runsR_bounds most h1 cs (putL c held) (putL_sorted c held ho) (putL_le ho hm hc) (by cases h : putL c held <;> simp)
   simp only [e] at h ⊢
   exact ih i h
  ·have e : runsR most held (c :: cs) = held :: runsR most [c] cs := by simp only [runsR]; rw [if_neg hc]
   have ih := runsR_bounds most h1 cs [c] (sorted_one c) (by simpa using h1) (.inr (by simp))
   have hfull : held.length = most := by
    have : ¬ held.length < most := fun h => hc (.inr h)
    omega
   simp only [e] at h ⊢
   cases i with
   | zero => simp only [List.getElem_cons_zero]; exact ⟨by omega, hm, fun _ => hfull, ho⟩
   | succ i =>
    simp only [List.getElem_cons_succ, List.length_cons] at h ⊢
    have := ih i (by omega)
    exact ⟨this.1, this.2.1, fun h => this.2.2.1 (by omega), this.2.2.2⟩
theorem runsR_flat (most : Nat) : ∀ (cs held acc : List S44), putAll acc (runsR most held cs).flatten = putAll (putAll acc held) cs
 | [], held, acc => by
  unfold runsR
  by_cases c : 0 < held.length
  ·rw [if_pos c]; simp [putAll_nil]
  ·rw [if_neg c]
   have : held = [] := by cases held <;> simp_all
   rw [this]; rfl
 | c :: cs, held, acc => by
  simp only [runsR]
  split
  ·rw [runsR_flat most cs, putAll_putL, putAll_cons]
  ·rw [List.flatten_cons, putAll_append, runsR_flat most cs, putAll_cons]; rfl
theorem runsR_group (most : Nat) (cs : List S44) : groupL (runsR most [] cs).flatten = groupL cs := by rw [groupL_all, runsR_flat]; rfl
theorem runsR_total (most : Nat) : ∀ (cs held : List S44), (runsR most held cs).flatten.length ≤ held.length + cs.length
 | [], held => by unfold runsR; split <;> simp
 | c :: cs, held => by
  simp only [runsR]
  split
  ·have := runsR_total most cs (putL c held)
   have := putL_length c held
   simp only [List.length_cons]; omega
  ·have := runsR_total most cs [c]
   have e1 : ([c] : List S44).length = 1 := rfl
   rw [List.flatten_cons, List.length_append, List.length_cons]
   omega
theorem runsR_reg {n : Nat} (most : Nat) : ∀ (cs held : List S44), RegL n cs → RegL n held → ∀ r ∈ runsR most held cs, RegL n r
 | [], held, _, hh, r, hr => by
  unfold runsR at hr
  split at hr
  ·rw [List.mem_singleton.1 hr]; exact hh
  ·simp at hr
 | c :: cs, held, hc, hh, r, hr => by
  have hcs : RegL n cs := fun x hx => hc x (List.mem_cons_of_mem _ hx)
  simp only [runsR] at hr
  split at hr
  ·exact runsR_reg most cs (putL c held) hcs (regL_put (hc c (by simp)) hh) r hr
  ·rcases List.mem_cons.1 hr with e | e
   ·rw [e]; exact hh
   ·exact runsR_reg most cs [c] hcs (fun x hx => by rw [List.mem_singleton.1 hx]; exact hc c (by simp)) r e
theorem runsR_len (most : Nat) (h1 : 1 ≤ most) (cs : List S44) : (runsR most [] cs).length ≤ cs.length ∧ ∀ r ∈ runsR most [] cs, r.length ≤ cs.length := by
 have ht := runsR_total most cs []
 simp only [List.length_nil, Nat.zero_add] at ht
 have hb := runsR_bounds most h1 cs [] List.Pairwise.nil (by simp) (.inl rfl)
 generalize runsR most [] cs = rs at ht hb
 have hsum : ∀ l : List (List S44), (∀ r ∈ l, 1 ≤ r.length) → l.length ≤ l.flatten.length ∧ ∀ r ∈ l, r.length ≤ l.flatten.length := by
  intro l
  induction l with
  | nil => intro _; exact ⟨by simp, fun r h => by simp at h⟩
  | cons x l ih =>
   intro h
   obtain ⟨i1, i2⟩ := ih (fun r hr => h r (List.mem_cons_of_mem _ hr))
   have := h x (by simp)
   refine ⟨by simp only [List.length_cons, List.flatten_cons, List.length_append]; omega, fun r hr => ?_⟩
   rcases List.mem_cons.1 hr with e | e
   ·rw [e]; simp
   ·have := i2 r e; simp only [List.flatten_cons, List.length_append]; omega
 obtain ⟨s1, s2⟩ := hsum rs (fun r hr => by
  obtain ⟨i, hi, rfl⟩ := List.getElem_of_mem hr
  exact (hb i hi).1)
 exact ⟨by omega, fun r hr => by have := s2 r hr; omega⟩
def EvB (f : Nat → Bool) : Prop := ∃ K, ∀ k, K ≤ k → f k = true
theorem EvB.all {α : Type} (l : List α) (f : Nat → α → Bool) (h : ∀ x ∈ l, EvB (fun k => f k x)) : EvB (fun k => l.all (f k)) := by
 induction l with
 | nil => exact ⟨0, fun _ _ => rfl⟩
 | cons x t ih =>
  obtain ⟨K1, h1⟩ := h x (List.mem_cons_self ..)
  obtain ⟨K2, h2⟩ := ih (fun y hy => h y (List.mem_cons_of_mem _ hy))
  exact ⟨max K1 K2, fun k hk => by
   have a1 : f k x = true := h1 k (by omega)
   have a2 : t.all (f k) = true := h2 k (by omega)
   show (f k x && t.all (f k)) = true
   rw [a1, a2]; rfl⟩
theorem EvB.and {f g : Nat → Bool} (h1 : EvB f) (h2 : EvB g) : EvB (fun k => f k && g k) := by
 obtain ⟨K1, h1⟩ := h1
 obtain ⟨K2, h2⟩ := h2
 exact ⟨max K1 K2, fun k hk => by
  have a1 : f k = true := h1 k (by omega)
  have a2 : g k = true := h2 k (by omega)
  show (f k && g k) = true
  rw [a1, a2]; rfl⟩
theorem EvB.some_ {α : Type} {g : Nat → Option α} {r : α} (h : Ev g r) : EvB (fun k => (g k).isSome) := by
 obtain ⟨K, h⟩ := h
 exact ⟨K, fun k hk => by
  show (g k).isSome = true
  rw [h k hk]; rfl⟩
theorem EvB.if_ {α : Type} {c : Nat → Bool} {g f : Nat → Option α} {r : α} (h : EvB c) (hg : Ev g r) : Ev (fun k => if c k = true then g k else f k) r := by
 obtain ⟨K1, h1⟩ := h
 obtain ⟨K2, h2⟩ := hg
 exact ⟨max K1 K2, fun k hk => by
  show (if c k = true then g k else f k) = some r
  rw [if_pos (h1 k (by omega)), h2 k (by omega)]⟩
theorem ownM_ev {x : S44} (h : SmallC x) : Ev (fun k => ownM.f k x) x :=
 Ev.congr (fun k => by unfold ownM.f; rfl) (Ev.bind (f := fun _ g => match g with
  | [y] => some y
  | _ => none) (group_ev [x] (by simp) (fun y hy => by rw [List.mem_singleton.1 hy]; exact h)) (Ev.now x))
theorem less_small {e x : S44} (he : SmallC e) : Ev (fun k => cell_Less.f k e.f0 x.f0) (lexC e.f0 x.f0) := cell_less_ev e.f0 x.f0 (by have := he.1; omega)
theorem twoSkip_ev {x : S44} : ∀ (l out : List S44), (∀ e ∈ l, SmallC e) → out.length + l.length ≤ 1000000000 → ∃ s r, l = s ++ r ∧ (∀ e ∈ s, lexC e.f0 x.f0 < 0) ∧ (∀ e t, r = e :: t → 0 ≤ lexC e.f0 x.f0) ∧ Ev (fun k => twoSkip k x l out) (out ++ s, r)
 | [], out, _, _ => ⟨[], [], rfl, by simp, by simp, Ev.congr (f := fun _ => some (out ++ [], [])) (fun k => by simp [twoSkip]) (Ev.now _)⟩
 | e :: t, out, h, hl => by
  have he := h e (List.mem_cons_self ..)
  have h1 := less_small (x := x) he
  simp only [List.length_cons] at hl
  by_cases c : lexC e.f0 x.f0 < 0
  ·obtain ⟨s, r, h2, h3, h4, h5⟩ := twoSkip_ev (x := x) t (out ++ [e]) (fun y hy => h y (List.mem_cons_of_mem _ hy)) (by rw [List.length_append, List.length_singleton]; omega)
   refine ⟨e :: s, r, by rw [h2]; rfl, ?_, h4, ?_⟩
   ·intro y hy
    rcases List.mem_cons.1 hy with rfl | hy
    ·exact c
    ·exact h3 y hy
   ·rw [List.append_assoc] at h5
    refine Ev.congr (fun k => by simp only [twoSkip]) (Ev.bind (f := fun k r => if r < 0 then (ownM.f k e).bind fun y => (addC out y).bind fun o => twoSkip k x t o else some (out, e :: t)) h1 ?_)
    refine Ev.congr (f := fun k => (ownM.f k e).bind fun y => (addC out y).bind fun o => twoSkip k x t o) (fun k => if_pos c) (Ev.bind (ownM_ev he) ?_)
    exact Ev.congr (f := fun k => twoSkip k x t (out ++ [e])) (fun k => by rw [addC_ok (by omega)]; try rfl) h5
  ·refine ⟨[], e :: t, rfl, by simp, fun a b hab => by injection hab with h _; rw [← h]; omega, ?_⟩
   rw [List.append_nil]
   refine Ev.congr (fun k => by simp only [twoSkip]) (Ev.bind (f := fun k r => if r < 0 then (ownM.f k e).bind fun y => (addC out y).bind fun o => twoSkip k x t o else some (out, e :: t)) h1 ?_)
   exact Ev.congr (f := fun _ => some (out, e :: t)) (fun k => if_neg c) (Ev.now _)
theorem putL_app (x : S44) : ∀ (p a : List S44), (∀ y ∈ p, lexC y.f0 x.f0 < 0) → putL x (p ++ a) = p ++ putL x a
 | [], _, _ => rfl
 | y :: p, a, h => by
  rw [List.cons_append, putL_lt _ (h y (by simp)), putL_app x p a (fun z hz => h z (List.mem_cons_of_mem _ hz))]
  rfl
theorem putAll_app (p : List S44) : ∀ (b a : List S44), (∀ y ∈ p, ∀ x ∈ b, lexC y.f0 x.f0 < 0) → putAll (p ++ a) b = p ++ putAll a b
 | [], _, _ => rfl
 | x :: b, a, h => by
  rw [putAll_cons, putAll_cons, putL_app x p a (fun y hy => h y hy x (by simp)), putAll_app p b _ (fun y hy z hz => h y hy z (List.mem_cons_of_mem _ hz))]
theorem lexC_trans_lt {a b c : List Int} (h1 : lexC a b < 0) (h2 : lexC b c < 0) : lexC a c < 0 := lexC_lt_trans (b := b) h1 h2
theorem front {x : S44} {t s : List S44} (ha : SortedC (x :: t)) (hs : SortedC s) (h : ∀ e ∈ s, lexC e.f0 x.f0 < 0) : putAll (x :: t) s = s ++ x :: t := by
 have hx := (List.pairwise_cons.1 ha).1
 have hsort : SortedC (s ++ x :: t) := List.pairwise_append.2 ⟨hs, ha, fun e he y hy => by
  rcases List.mem_cons.1 hy with rfl | hy
  ·exact h e he
  ·exact lexC_trans_lt (h e he) (hx y hy)⟩
 have h1 : putAll (x :: t) s = groupL (x :: t ++ s) := by rw [group_append, group_rising ha]
 rw [h1, group_perm (List.perm_append_comm : (x :: t ++ s).Perm (s ++ x :: t)), group_rising hsort]
theorem two_gt {x : S44} {t s r : List S44} (ha : SortedC (x :: t)) (hb : SortedC (s ++ r)) (h : ∀ e ∈ s, lexC e.f0 x.f0 < 0) (hr : ∀ e u, r = e :: u → 0 < lexC e.f0 x.f0) : putAll (x :: t) (s ++ r) = (s ++ [x]) ++ putAll t r := by
 obtain ⟨hs, hr2, hsr⟩ := List.pairwise_append.1 hb
 rw [putAll_append, front ha hs h, show s ++ x :: t = (s ++ [x]) ++ t by simp]
 refine putAll_app _ _ _ (fun y hy z hz => ?_)
 rcases List.mem_append.1 hy with hy | hy
 ·exact hsr y hy z hz
 ·rw [List.mem_singleton.1 hy]
  cases r with
  | nil => cases hz
  | cons e u =>
   have h1 := hr e u rfl
   have h2 := lexC_swap e.f0 x.f0
   have h3 : lexC x.f0 e.f0 < 0 := by omega
   rcases List.mem_cons.1 hz with rfl | hz
   ·exact h3
   ·exact lexC_trans_lt h3 ((List.pairwise_cons.1 hr2).1 z hz)
theorem two_eq {x e : S44} {t s r : List S44} (ha : SortedC (x :: t)) (hb : SortedC (s ++ e :: r)) (h : ∀ e ∈ s, lexC e.f0 x.f0 < 0) (he : lexC e.f0 x.f0 = 0) : putAll (x :: t) (s ++ e :: r) = (s ++ [joinC x e]) ++ putAll t r := by
 obtain ⟨hs, hr2, hsr⟩ := List.pairwise_append.1 hb
 have e1 := (lexC_zero _ _).1 he
 have h0 : lexC x.f0 e.f0 = 0 := by rw [e1]; exact lexC_self _
 rw [putAll_append, front ha hs h, putAll_cons, putL_app e s _ (fun y hy => by rw [e1]; exact h y hy), putL_eq _ h0, show s ++ joinC x e :: t = (s ++ [joinC x e]) ++ t by simp]
 refine putAll_app _ _ _ (fun y hy z hz => ?_)
 rcases List.mem_append.1 hy with hy | hy
 ·exact hsr y hy z (List.mem_cons_of_mem _ hz)
 ·rw [List.mem_singleton.1 hy]
  show lexC x.f0 z.f0 < 0
  rw [← e1]
  exact (List.pairwise_cons.1 hr2).1 z hz
theorem twoGo_ev : ∀ (a b out : List S44), SortedC a → SortedC b → (∀ e ∈ a, SmallC e) → (∀ e ∈ b, SmallC e) → out.length + a.length + b.length ≤ 1000000000 →
  ∃ o t, Ev (fun k => twoGo k a (out, b)) (o, t) ∧ o ++ t = out ++ putAll a b ∧ (∀ e ∈ t, e ∈ b)
 | [], b, out, _, hb, _, _, _ => ⟨out, b, Ev.now _, by rw [← groupL_all, group_rising hb], fun _ h => h⟩
 | x :: a, b, out, ha, hb, sa, sb, hl => by
  have hx := sa x (List.mem_cons_self ..)
  have ha' := (List.pairwise_cons.1 ha).2
  have sa' : ∀ e ∈ a, SmallC e := fun e he => sa e (List.mem_cons_of_mem _ he)
  simp only [List.length_cons] at hl
  obtain ⟨s, r, h1, h2, h3, h4⟩ := twoSkip_ev (x := x) b out sb (by omega)
  subst h1
  rw [List.length_append] at hl
  have hr := (List.pairwise_append.1 hb).2.1
  have hmem : ∀ e ∈ r, e ∈ s ++ r := fun e he => List.mem_append_right _ he
  have hlo : (out ++ s).length = out.length + s.length := List.length_append
  have own_case : (∀ e u, r = e :: u → 0 < lexC e.f0 x.f0) → ∃ o t, Ev (fun k => twoGo k (x :: a) (out, s ++ r)) (o, t) ∧ o ++ t = out ++ putAll (x :: a) (s ++ r) ∧ (∀ e ∈ t, e ∈ s ++ r) := fun hgt => by
   obtain ⟨o, t, h5, h6, h7⟩ := twoGo_ev a r (out ++ s ++ [x]) ha' hr sa' (fun e he => sb e (hmem e he)) (by rw [List.length_append, List.length_singleton]; omega)
   refine ⟨o, t, ?_, by rw [h6, two_gt ha hb h2 hgt]; simp, fun e he => hmem e (h7 e he)⟩
   refine Ev.bind (f := fun k s => twoGo k a s) (Ev.congr (fun k => by unfold twoStep; rfl) (Ev.bind (f := fun k s => twoPut k x s.2 s.1) h4 ?_)) h5
   cases r with
   | nil =>
    refine Ev.congr (fun k => by simp only [twoPut]) (Ev.bind (f := fun _ y => (addC (out ++ s) y).bind fun o => some (o, [])) (ownM_ev hx) ?_)
    exact Ev.congr (f := fun _ => some (out ++ s ++ [x], [])) (fun k => by rw [addC_ok (by omega)]; try rfl) (Ev.now _)
   | cons e u =>
    have hg := hgt e u rfl
    have he := sb e (hmem e (by simp))
    refine Ev.congr (fun k => by simp only [twoPut]) (Ev.bind (f := fun k r => if r = 0 then (cell_Join.f k x.f0 x.f1 x.f2 x.f3 x.f4 e.f0 e.f1 e.f2 e.f3 e.f4).bind fun j => (addC (out ++ s) ⟨j.1, j.2.1, j.2.2.1, j.2.2.2.1, j.2.2.2.2⟩).bind fun o => some (o, u) else (ownM.f k x).bind fun y => (addC (out ++ s) y).bind fun o => some (o, e :: u)) (less_small (x := x) he) ?_)
    refine Ev.congr (f := fun k => (ownM.f k x).bind fun y => (addC (out ++ s) y).bind fun o => some (o, e :: u)) (fun k => if_neg (by omega)) (Ev.bind (ownM_ev hx) ?_)
    exact Ev.congr (f := fun _ => some (out ++ s ++ [x], e :: u)) (fun k => by rw [addC_ok (by omega)]; try rfl) (Ev.now _)
  cases hrr : r with
  | nil => exact hrr ▸ own_case (fun e u h => by rw [hrr] at h; cases h)
  | cons e u =>
   subst hrr
   have h0 := h3 e u rfl
   by_cases c : lexC e.f0 x.f0 = 0
   ·have he := sb e (hmem e (by simp))
    simp only [List.length_cons] at hl
    obtain ⟨o, t, h5, h6, h7⟩ := twoGo_ev a u (out ++ s ++ [joinC x e]) ha' (List.pairwise_cons.1 hr).2 sa' (fun y hy => sb y (hmem y (List.mem_cons_of_mem _ hy))) (by rw [List.length_append, List.length_singleton]; omega)
    refine ⟨o, t, ?_, by rw [h6, two_eq ha hb h2 c]; simp, fun y hy => hmem y (List.mem_cons_of_mem _ (h7 y hy))⟩
    refine Ev.bind (f := fun k s => twoGo k a s) (Ev.congr (fun k => by unfold twoStep; rfl) (Ev.bind (f := fun k s => twoPut k x s.2 s.1) h4 ?_)) h5
    refine Ev.congr (fun k => by simp only [twoPut]) (Ev.bind (f := fun k r => if r = 0 then (cell_Join.f k x.f0 x.f1 x.f2 x.f3 x.f4 e.f0 e.f1 e.f2 e.f3 e.f4).bind fun j => (addC (out ++ s) ⟨j.1, j.2.1, j.2.2.1, j.2.2.2.1, j.2.2.2.2⟩).bind fun o => some (o, u) else (ownM.f k x).bind fun y => (addC (out ++ s) y).bind fun o => some (o, e :: u)) (less_small (x := x) he) ?_)
    refine Ev.congr (f := fun k => (cell_Join.f k x.f0 x.f1 x.f2 x.f3 x.f4 e.f0 e.f1 e.f2 e.f3 e.f4).bind fun j => (addC (out ++ s) ⟨j.1, j.2.1, j.2.2.1, j.2.2.2.1, j.2.2.2.2⟩).bind fun o => some (o, u)) (fun k => if_pos c) (Ev.bind (join_ev x e hx) ?_)
    exact Ev.congr (f := fun _ => some (out ++ s ++ [joinC x e], u)) (fun k => by rw [addC_ok (by omega)]; try rfl) (Ev.now _)
   ·exact own_case (fun e' u' h => by injection h with h _; rw [← h]; omega)
theorem twoRest_ev : ∀ (l out : List S44), (∀ e ∈ l, SmallC e) → out.length + l.length ≤ 1000000000 → Ev (fun k => twoRest k l out) (out ++ l)
 | [], out, _, _ => by rw [List.append_nil]; exact Ev.now _
 | x :: t, out, h, hl => by
  simp only [List.length_cons] at hl
  have h1 := twoRest_ev t (out ++ [x]) (fun e he => h e (List.mem_cons_of_mem _ he)) (by rw [List.length_append, List.length_singleton]; omega)
  rw [List.append_assoc] at h1
  refine Ev.congr (fun k => by simp only [twoRest]) (Ev.bind (f := fun k y => (addC out y).bind fun o => twoRest k t o) (ownM_ev (h x (List.mem_cons_self ..))) ?_)
  exact Ev.congr (f := fun k => twoRest k t (out ++ [x])) (fun k => by rw [addC_ok (by omega)]; try rfl) h1
theorem two_small {a b : List S44} (sa : ∀ e ∈ a, SmallC e) (sb : ∀ e ∈ b, SmallC e) (ha : SortedC a) (hb : SortedC b) (hl : a.length + b.length ≤ 1000000000) : Ev (fun k => Two.f k a b) (putAll a b) := by
 have hok : EvB (fun k => twoOk k a b) := by
  refine EvB.and (EvB.and ⟨0, fun _ _ => decide_eq_true (by omega)⟩ (EvB.all b _ (fun e he => EvB.some_ (ownM_ev (sb e he))))) (EvB.all a _ (fun x hx => EvB.and (EvB.some_ (ownM_ev (sa x hx))) (EvB.all b _ (fun e he => EvB.and (EvB.some_ (less_small (sb e he))) (EvB.some_ (join_ev x e (sa x hx)))))))
 obtain ⟨o, t, h1, h2, h3⟩ := twoGo_ev a b [] ha hb sa sb (by simpa using hl)
 rw [List.nil_append] at h2
 have hlen := putAll_length b a
 have hlot : o.length + t.length = (putAll a b).length := by rw [← h2, List.length_append]
 refine EvB.if_ (g := fun k => (twoGo k a ([], b)).bind fun s => (twoRest k s.2 s.1).bind fun o => if o.length * 104 ≤ 140737488355328 then some o else none) hok ?_
 refine Ev.bind (f := fun k s => (twoRest k s.2 s.1).bind fun o => if o.length * 104 ≤ 140737488355328 then some o else none) h1 ?_
 refine Ev.bind (f := fun _ o => if o.length * 104 ≤ 140737488355328 then some o else none) (twoRest_ev t o (fun e he => sb e (h3 e he)) (by omega)) ?_
 rw [h2]
 exact Ev.congr (f := fun _ => some (putAll a b)) (fun _ => if_pos (by omega)) (Ev.now _)
def GoodL (n B : Nat) (l : List (List S44)) : Prop := ∀ x ∈ l, SortedC x ∧ RegL n x ∧ x.length ≤ B
theorem two_ev {n : Nat} (hn : n ≤ 100) {a b : List S44} (ra : RegL n a) (rb : RegL n b) (ha : SortedC a) (hb : SortedC b) (hl : a.length + b.length ≤ 1000000000) : Ev (fun k => Two.f k a b) (putAll a b) := two_small (ra.small hn) (rb.small hn) ha hb hl
theorem EvB.match_ {g : Nat → Option (List S44)} {f : Nat → List S44 → Bool} {r : List S44} (h : Ev g r) (hf : EvB (fun k => f k r)) : EvB (fun k => match g k with
  | some o2 => f k o2
  | none => false) := by
 obtain ⟨K1, h1⟩ := h
 obtain ⟨K2, h2⟩ := hf
 exact ⟨max K1 K2, fun k hk => by
  show (match g k with
   | some o2 => f k o2
   | none => false) = true
  rw [h1 k (by omega)]
  exact h2 k (by omega)⟩
theorem oneOk_ev {n B : Nat} (hn : n ≤ 100) {l : List (List S44)} (hl : GoodL n B l) : ∀ (m : Nat) (o : List S44), SortedC o → RegL n o → o.length + m * B ≤ 1000000000 → EvB (fun k => oneOk k l m o)
 | 0, o, _, _, _ => ⟨0, fun _ _ => rfl⟩
 | m + 1, o, ho, ro, hb => by
  have e : (m + 1) * B = m * B + B := Nat.succ_mul m B
  rw [e] at hb
  refine EvB.all l (fun k x => match Two.f k o x with
   | some o2 => oneOk k l m o2
   | none => false) (fun x hx => ?_)
  obtain ⟨h1, h2, h3⟩ := hl x hx
  have hp := putAll_length x o
  exact EvB.match_ (f := fun k o2 => oneOk k l m o2) (two_ev hn ro h2 ho h1 (by omega)) (oneOk_ev hn hl m (putAll o x) (putAll_sorted x o ho) (regL_all h2 ro) (by omega))
theorem oneGo_ev {n B : Nat} (hn : n ≤ 100) : ∀ (l : List (List S44)) (o : List S44), GoodL n B l → SortedC o → RegL n o → o.length + l.length * B ≤ 1000000000 → Ev (fun k => oneGo k l o) (putAll o l.flatten)
 | [], o, _, _, _, _ => Ev.now _
 | x :: t, o, hl, ho, ro, hb => by
  have e : (t.length + 1) * B = t.length * B + B := Nat.succ_mul _ B
  rw [List.length_cons, e] at hb
  obtain ⟨h1, h2, h3⟩ := hl x (List.mem_cons_self ..)
  have hp := putAll_length x o
  rw [List.flatten_cons, putAll_append]
  exact Ev.bind (f := fun k o => oneGo k t o) (two_ev hn ro h2 ho h1 (by omega)) (oneGo_ev hn t (putAll o x) (fun y hy => hl y (List.mem_cons_of_mem _ hy)) (putAll_sorted x o ho) (regL_all h2 ro) (by omega))
theorem one_ev {n B : Nat} (hn : n ≤ 100) {l : List (List S44)} (h0 : l ≠ []) (hl : GoodL n B l) (hb : l.length * B ≤ 1000000000) : Ev (fun k => one.f k l) (groupL l.flatten) := by
 cases l with
 | nil => exact absurd rfl h0
 | cons r t =>
  have e : (t.length + 1) * B = t.length * B + B := Nat.succ_mul _ B
  rw [List.length_cons, e] at hb
  obtain ⟨h1, h2, h3⟩ := hl r (List.mem_cons_self ..)
  have ht : GoodL n B t := fun y hy => hl y (List.mem_cons_of_mem _ hy)
  have hr := two_ev hn h2 (regL_nil n) h1 List.Pairwise.nil (by simp; omega)
  rw [putAll_nil] at hr
  have hg : groupL (r :: t).flatten = putAll r t.flatten := by rw [List.flatten_cons, group_append, group_rising h1]
  rw [hg]
  refine Ev.bind (f := fun k o => if oneOk k t t.length o = true then oneGo k t o else none) hr ?_
  exact EvB.if_ (oneOk_ev hn ht t.length r h1 h2 (by omega)) (oneGo_ev hn t r ht h1 h2 (by omega))
def pieceG (l : List (List S44)) (m q : Nat) : List S44 := groupL (pieceL l m q).flatten
def passR (m : Nat) (l : List (List S44)) : List (List S44) := (List.range (pieces l.length m)).map (pieceG l m)
def passN (m : Nat) : Nat → Nat → Nat
 | 0, _ => 0
 | f + 1, n => if 1 < n then passN m f (pieces n m) + 1 else 0
theorem pieces_flat (l : List (List S44)) (m : Nat) : ∀ c, ((List.range c).map (pieceL l m)).flatten = l.take (c * m)
 | 0 => by simp
 | c + 1 => by
  rw [List.range_succ, List.map_append, List.flatten_append, pieces_flat l m c, Nat.succ_mul, List.take_add]
  simp [pieceL]
theorem parts_flat : ∀ ps : List (List (List S44)), groupL ((ps.map fun p => groupL p.flatten).flatten) = groupL ps.flatten.flatten ∧ ((ps.map fun p => groupL p.flatten).flatten).length ≤ ps.flatten.flatten.length
 | [] => ⟨rfl, Nat.le_refl _⟩
 | p :: ps => by
  obtain ⟨h1, h2⟩ := parts_flat ps
  refine ⟨?_, ?_⟩
  ·rw [List.map_cons, List.flatten_cons, List.flatten_cons, List.flatten_append, group_append, group_group, ← group_parts, group_append, group_group, ← putAll_group, h1, ← putAll_group (groupL p.flatten) (groupL _), group_group]
  ·have := putAll_length p.flatten []
   rw [← groupL_all] at this
   simp only [List.map_cons, List.flatten_cons, List.flatten_append, List.length_append, List.length_nil] at this ⊢
   omega
theorem passR_parts (m : Nat) (hm : 1 ≤ m) (l : List (List S44)) : groupL (passR m l).flatten = groupL l.flatten ∧ (passR m l).flatten.length ≤ l.flatten.length := by
 have h := parts_flat ((List.range (pieces l.length m)).map (pieceL l m))
 have hc : ¬ pieces l.length m * m < l.length := fun h => absurd ((pieces_lt hm).2 h) (Nat.lt_irrefl _)
 rw [pieces_flat, List.take_of_length_le (by omega), List.map_map] at h
 exact h
theorem mem_flat_len {l : List (List S44)} {x : List S44} (h : x ∈ l) : x.length ≤ l.flatten.length := by
 induction l with
 | nil => cases h
 | cons y t ih =>
  rw [List.flatten_cons, List.length_append]
  rcases List.mem_cons.1 h with rfl | h
  ·omega
  ·have := ih h; omega
theorem regL_flat {n B : Nat} {l : List (List S44)} (h : GoodL n B l) : RegL n l.flatten := fun c hc => by
 obtain ⟨x, hx, hcx⟩ := List.mem_flatten.1 hc
 exact (h x hx).2.1 c hcx
theorem piece_mem {l : List (List S44)} {m q : Nat} {x : List S44} (h : x ∈ pieceL l m q) : x ∈ l := List.mem_of_mem_drop (List.mem_of_mem_take h)
theorem piece_good {n B : Nat} {l : List (List S44)} (h : GoodL n B l) (m q : Nat) : GoodL n B (pieceL l m q) := fun x hx => h x (piece_mem hx)
theorem passR_good {n T : Nat} {m : Nat} (hm : 1 ≤ m) {l : List (List S44)} (h : GoodL n T l) (hT : l.flatten.length ≤ T) : GoodL n T (passR m l) := fun x hx => by
 have h2 := mem_flat_len hx
 have h3 := (passR_parts m hm l).2
 obtain ⟨q, hq, rfl⟩ := List.mem_map.1 hx
 exact ⟨groupL_sorted _, regL_group (regL_flat (piece_good h m q)), by omega⟩
theorem passR_length (m : Nat) (l : List (List S44)) : (passR m l).length = pieces l.length m := by simp [passR]
theorem piece_ne {l : List (List S44)} {m q : Nat} (hm : 1 ≤ m) (hq : q < pieces l.length m) : pieceL l m q ≠ [] := by
 have h := (pieces_lt hm).1 hq
 intro e
 have := congrArg List.length e
 simp only [pieceL, List.length_take, List.length_drop, List.length_nil] at this
 omega
theorem mapQ_ev {n T : Nat} (hn : n ≤ 100) {l : List (List S44)} (h : GoodL n T l) {m : Nat} (hm : 1 ≤ m) (hb : l.length * T ≤ 1000000000) : ∀ t : List Nat, (∀ q ∈ t, q < pieces l.length m) → Ev (fun k => mapQ k l m t) (t.map (pieceG l m))
 | [], _ => Ev.now _
 | q :: t, ht => by
  have hlen : (pieceL l m q).length ≤ l.length := by simp only [pieceL, List.length_take, List.length_drop]; omega
  have hmul := Nat.mul_le_mul_right T hlen
  have h1 := one_ev hn (piece_ne hm (ht q (List.mem_cons_self ..))) (piece_good h m q) (by omega)
  have h2 := mapQ_ev hn h hm hb t (fun x hx => ht x (List.mem_cons_of_mem _ hx))
  refine Ev.congr (fun k => by simp only [mapQ]) (Ev.bind (f := fun k y => (mapQ k l m t).bind fun r => some (y :: r)) h1 (Ev.bind (f := fun _ r => some (groupL (pieceL l m q).flatten :: r)) h2 (Ev.now _)))
theorem mg_ev {n T L m : Nat} (hn : n ≤ 100) (hm : 2 ≤ m) (hLT : L * T ≤ 1000000000) (hL : L ≤ 1000000) : ∀ (f : Nat) (l : List (List S44)) (p : Nat), GoodL n T l → l.flatten.length ≤ T → l.length ≤ f → l.length ≤ L → p + f ≤ 1000000000 →
  Ev (fun k => mgGo m k l (p : Int)) (groupL l.flatten, ((p + passN m f l.length : Nat) : Int))
 | f, [], p, _, _, _, _, _ => by
  have e : passN m f ([] : List (List S44)).length = 0 := by cases f <;> rfl
  rw [e]
  exact Ev.step (f := fun _ => some ([], (p : Int))) (fun k => rfl) (Ev.now _)
 | 0, _ :: _, _, _, _, h, _, _ => absurd h (by simp)
 | f + 1, [r], p, hg, hT, _, hl, _ => by
  have e : passN m (f + 1) [r].length = 0 := rfl
  have hmul := Nat.mul_le_mul_right T hl
  rw [e]
  exact Ev.step (f := fun k => (one.f k [r]).bind fun r => some (r, (p : Int))) (fun k => rfl) (Ev.bind (one_ev hn (by simp) hg (by omega)) (Ev.now _))
 | f + 1, a :: b :: t, p, hg, hT, hf, hl, hp => by
  have hlt : 1 < (a :: b :: t).length := by simp
  generalize hll : a :: b :: t = l at *
  have hmul := Nat.mul_le_mul_right T hl
  have e : passN m (f + 1) l.length = passN m f (pieces l.length m) + 1 := by show (if 1 < l.length then _ else _) = _; rw [if_pos hlt]
  have hple := pieces_less hm hlt
  have hpa := passR_parts m (by omega) l
  have ih := mg_ev hn hm hLT hL f (passR m l) (p + 1) (passR_good (by omega) hg hT) (by omega) (by rw [passR_length]; omega) (by rw [passR_length]; omega) (by omega)
  rw [hpa.1, passR_length, show p + 1 + passN m f (pieces l.length m) = p + passN m (f + 1) l.length by rw [e]; omega] at ih
  refine Ev.step (f := fun k => (mgPass k l m).bind fun l2 => mgGo m k l2 (wrap64 ((p : Int) + 1))) (fun k => ?_) (Ev.bind (mapQ_ev hn hg (by omega) (by omega) _ (fun q hq => List.mem_range.1 hq)) ?_)
  ·show (if 1 < l.length then _ else _) = _
   rw [if_pos hlt, if_pos (by omega)]
  ·rw [w64s (Nat.lt_succ_self p) (by omega)]
   exact ih
theorem merge_ev {n T : Nat} (hn : n ≤ 100) {m : Nat} (hm : 2 ≤ m) (hm2 : m ≤ 1000000) {l : List (List S44)} (hg : GoodL n T l) (hT : l.flatten.length ≤ T) (hb : l.length * T ≤ 1000000000) (hl : l.length ≤ 1000000) : Ev (fun k => merge_Merge.f k l (m : Int)) (groupL l.flatten, ((passN m l.length l.length : Nat) : Int)) := by
 have h := mg_ev hn hm hb hl l.length l 0 hg hT (Nat.le_refl _) (Nat.le_refl _) (by omega)
 rw [Nat.zero_add] at h
 have e : max (m : Int) 2 = (m : Int) := by omega
 refine Ev.congr (fun k => ?_) h
 unfold merge_Merge.f
 rw [e, if_pos (by omega), Int.toNat_natCast]
 rfl
theorem within6_eq (a n : Int) (h0 : 0 < n) (h1 : n ≤ 4611686018427387904) : hypercubelaw6_within.f a n = some (a % n) := by
 have := within2_eq a n h0 h1
 unfold hypercubelaw2_within.f at this
 unfold hypercubelaw6_within.f
 exact this
theorem runs_good {n : Nat} (most : Nat) (h1 : 1 ≤ most) {cs : List S44} (hr : RegL n cs) : GoodL n cs.length (runsR most [] cs) := fun x hx => by
 have h2 := runsR_bounds most h1 cs [] List.Pairwise.nil (by simp) (.inl rfl)
 obtain ⟨i, hi, rfl⟩ := List.getElem_of_mem hx
 exact ⟨(h2 i hi).2.2.2, runsR_reg most cs [] hr (regL_nil n) _ hx, (runsR_len most h1 cs).2 _ hx⟩
theorem runs_flat_len (most : Nat) (cs : List S44) : (runsR most [] cs).flatten.length ≤ cs.length := by
 have := runsR_total most cs []
 simpa using this
end Go.Proofs.Ytndkimjmbpbcmaa.Q
