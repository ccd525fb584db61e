/- MergeSorted, in plain Lean: what is merged rises by keys; its counts are together those of all runs; for every input. -/
import Derived.ArgAppend
import Derived.Below
import Derived.BigQuiet
import Derived.Deep.AppendLies
import Derived.Deep.CutBlock
import Derived.Deep.DeepCutAuto
import Derived.Deep.Draws
import Derived.Deep.LoopGhost
import Derived.Deep.OwnRows
import Derived.Deep.QuietTactic
import Derived.Deep.RegionHeld3
import Derived.KernelRfl
import Derived.Laws.BitsLemmas
import Derived.Laws.BytesArg
import Derived.Laws.EntriesVeiled
import Derived.Laws.Externs
import Derived.Laws.IdiomCopy
import Derived.Laws.MakeOwn
import Derived.Laws.OwnMore
import Derived.Laws.Rows
import Derived.Laws.Slices
import Derived.Lib.AppendStr
import Derived.Lib.AppendZeros
import Derived.Lib.AppendZerosOnto
import Derived.Lib.ConvBytes
import Derived.Lib.JoinLaws
import Derived.Lib.Overlaps
import Derived.Lib.SliceRun
import Derived.Lib.Walk
import Derived.LoopIn
import Derived.LoopNIn
import Derived.Maps.AppendAt
import Derived.OrdersHeld
import Derived.OrdersIn
import Derived.OwnWalk
import Derived.OwnWalkIn
import Derived.RangeFuncBound
import Derived.RangeFuncBox
import Derived.RangeFuncCalls
import Derived.RangeFuncLeaves
import Derived.RangeFuncNested
import Derived.RangeFuncOwn
import Derived.RowKit
import Derived.RowKit3
import Derived.Shelf.Abstract
import Derived.Shelf.RegionOpen
import Derived.Shelf.RegionOpenPlain
import Derived.Tactics
import Derived.TacticsInMore
import Derived.Test.YtndkimjmbpbcmaaProg
import Derived.WalkKit
import Derived.WalkSpells
import Derived.WideLaws
import Derived.Test.YtndkimjmbpbcmaaPMergeSorted1
import Derived.Test.YtndkimjmbpbcmaaPMergeSorted3
import Derived.Test.YtndkimjmbpbcmaaPMergeSorted4
import Derived.Test.YtndkimjmbpbcmaaPMergeSorted5
import Derived.Test.YtndkimjmbpbcmaaPMergeSorted6
import Derived.Test.YtndkimjmbpbcmaaPMergeSorted7
import Derived.Test.YtndkimjmbpbcmaaPMergeSorted8
import Derived.Test.YtndkimjmbpbcmaaPMergeSorted9
import Derived.Test.YtndkimjmbpbcmaaPMergeSorted10
import Derived.Test.YtndkimjmbpbcmaaPMergeSorted11
import Derived.Test.YtndkimjmbpbcmaaPMergeSorted12
import Derived.Test.YtndkimjmbpbcmaaPMergeSorted13
import Derived.Test.YtndkimjmbpbcmaaPMergeSorted14
import Derived.Test.YtndkimjmbpbcmaaPMergeSorted15
import Derived.Test.YtndkimjmbpbcmaaPMergeSorted16
namespace Go.Proofs.Ytndkimjmbpbcmaa.Pure
open Go.RowKit Go.Proofs.Ytndkimjmbpbcmaa.Q Go.Proofs.YtndkimjmbpbcmaaW.PrintWords Go.Proofs.YtndkimjmbpbcmaaW.PrintLast Go.Proofs.YtndkimjmbpbcmaaW.PrintMore
theorem sorted_l0 (rows : List S51) (hrl : rows.length ≤ 1000) (c : List S44) (hs : SortedC c) (hsm : ∀ y ∈ c, SmallC y) (hnn : NonNeg c) (hl : c.length ≤ 1000) (d : Nat) : ∀ (i : Nat) (x : Int), c.length - i = d → i ≤ c.length → 0 ≤ x → x + cnt (c.drop i) = (rows.length : Int) → Ev (fun k => hypercubelaw6_MergeSorted.l0 k rows c x (i : Int)) true := by
  induction d with
  | zero =>
    intro i x hd hi h0 hx
    rw [List.drop_eq_nil_of_le (show c.length ≤ i by omega)] at hx
    have hx' : x = (rows.length : Int) := by simpa [cnt] using hx
    refine Ev.step (f := fun k => (hypercuberef5_Sorted.f k c).bind fun t => if t = true then some (x == (rows.length : Int)) else none) (fun k => ?_) (Ev.bind (ref_sorted_ev hsm (by omega)) ?_)
    · simp only [hypercubelaw6_MergeSorted.l0]
      rw [if_neg (by omega)]
    · rw [srtB_sorted c hs]
      exact Ev.congr (f := fun _ => some true) (fun k => by rw [if_pos rfl, hx']; simp) (Ev.now _)
  | succ d ih =>
    intro i x hd hi h0 hx
    have hlt : i < c.length := by omega
    rw [drop_cons hlt, cnt_cons] at hx
    have hc0 := hnn _ (List.getElem_mem hlt)
    have hn2 : 0 ≤ cnt (c.drop (i + 1)) := cnt_nn _ (fun y hy => hnn y (List.mem_of_mem_drop hy))
    have hw : wrap64 (x + (c[i]).f1) = x + (c[i]).f1 := w64 (by omega) (by omega)
    refine Ev.step (fun k => ?_) (ih (i + 1) (x + (c[i]).f1) (by omega) (by omega) (by omega) (by omega))
    simp only [hypercubelaw6_MergeSorted.l0]
    rw [if_pos (by omega), if_pos (by omega), rdC_get hlt, hw, w64s hlt (by omega)]
theorem MergeSorted : hypercubelaw6_MergeSorted.Pure := by
  intro a0 l1 a2 l3 a4 a5 a6 _ _ _ _ _ _ _ _ _ _ _
  obtain ⟨cards, meas, rows, s, n, hf, hs, hc, hn, hl, hr, _⟩ := facts_set a0 l1 a2 l3 a4
  obtain ⟨m, hm1, hm2, hw, hm⟩ := some_eq 1 a5 5 (by omega) (by omega) (by omega)
  obtain ⟨q, hq1, hq2, hwq, hq⟩ := some_eq 2 a6 5 (by omega) (by omega) (by omega)
  have hw' : hypercubelaw6_within.f a5 5 = some (a5 % 5) := hw
  have hm' : wrap64 (1 + a5 % 5) = (m : Int) := hm
  have hwq' : hypercubelaw6_within.f a6 5 = some (a6 % 5) := hwq
  have hq' : wrap64 (2 + a6 % 5) = (q : Int) := hq
  have hreg := makeL_reg hr s
  have hlen := makeL_length s rows
  have hrl := runsR_len m hm1 (makeL s rows)
  have hgood := runs_good m hm1 hreg
  have hfl := runs_flat_len m (makeL s rows)
  have hmul := Nat.mul_le_mul (show (runsR m [] (makeL s rows)).length ≤ 40 by omega) (show (makeL s rows).length ≤ 40 by omega)
  have hgl := putAll_length (runsR m [] (makeL s rows)).flatten []
  rw [← groupL_all, List.length_nil] at hgl
  have hcn := makeL_cnt s rows
  obtain ⟨hc1, hc2⟩ := cnt_group (makeL s rows) (makeL_nn s rows) (by omega)
  refine Ev.rounds ?_
  refine Ev.congr (fun k => by unfold hypercubelaw6_MergeSorted.f hypercubelaw6_known.f; rw [Option.bind_some, if_pos rfl]) ?_
  refine Ev.bind hf ?_
  refine Ev.congr (fun k => by rw [hs, Option.bind_some]) ?_
  refine Ev.bind (make_ev hn s rows (by omega) hr) ?_
  refine Ev.congr (fun k => by rw [hw', Option.bind_some, hm']) ?_
  refine Ev.bind (ref_runs_ev hn m hm1 hreg (by omega)) ?_
  refine Ev.congr (fun k => by rw [hwq', Option.bind_some, hq']) ?_
  refine Ev.bind (merge_ev hn hq1 (by omega) hgood hfl (by omega) (by omega)) ?_
  refine sorted_l0 rows (by omega) _ (groupL_sorted _) ((regL_group (regL_flat hgood)).small hn) ?_ (by show (groupL _).length ≤ _; omega) _ 0 0 rfl (Nat.zero_le _) (by omega) ?_
  · show NonNeg (groupL _)
    rw [runsR_group]
    exact hc2
  · rw [List.drop_zero]
    show 0 + cnt (groupL _) = _
    rw [runsR_group, hc1, hcn]
    omega
end Go.Proofs.Ytndkimjmbpbcmaa.Pure
