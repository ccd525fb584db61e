/- MergeAll, in plain Lean: of any runs, as many at once as one likes, what they come to, in how many passes, is the document's; for every input. -/
import Derived.ArgAppend
import Derived.Below
import Derived.BigQuiet
import Derived.Deep.AppendLies
import Derived.Deep.CutBlock
import Derived.Deep.DeepCutAuto
import Derived.Deep.Draws
import Derived.Deep.LoopGhost
import Derived.Deep.OwnRows
import Derived.Deep.QuietTactic
import Derived.Deep.RegionHeld3
import Derived.KernelRfl
import Derived.Laws.BitsLemmas
import Derived.Laws.BytesArg
import Derived.Laws.EntriesVeiled
import Derived.Laws.Externs
import Derived.Laws.IdiomCopy
import Derived.Laws.MakeOwn
import Derived.Laws.OwnMore
import Derived.Laws.Rows
import Derived.Laws.Slices
import Derived.Lib.AppendStr
import Derived.Lib.AppendZeros
import Derived.Lib.AppendZerosOnto
import Derived.Lib.ConvBytes
import Derived.Lib.JoinLaws
import Derived.Lib.Overlaps
import Derived.Lib.SliceRun
import Derived.Lib.Walk
import Derived.LoopIn
import Derived.LoopNIn
import Derived.Maps.AppendAt
import Derived.OrdersHeld
import Derived.OrdersIn
import Derived.OwnWalk
import Derived.OwnWalkIn
import Derived.RangeFuncBound
import Derived.RangeFuncBox
import Derived.RangeFuncCalls
import Derived.RangeFuncLeaves
import Derived.RangeFuncNested
import Derived.RangeFuncOwn
import Derived.RowKit
import Derived.RowKit3
import Derived.Shelf.Abstract
import Derived.Shelf.RegionOpen
import Derived.Shelf.RegionOpenPlain
import Derived.Tactics
import Derived.TacticsInMore
import Derived.Test.YtndkimjmbpbcmaaProg
import Derived.WalkKit
import Derived.WalkSpells
import Derived.WideLaws
import Derived.Test.YtndkimjmbpbcmaaPMergeAll1
import Derived.Test.YtndkimjmbpbcmaaPMergeAll3
import Derived.Test.YtndkimjmbpbcmaaPMergeAll4
import Derived.Test.YtndkimjmbpbcmaaPMergeAll5
import Derived.Test.YtndkimjmbpbcmaaPMergeAll6
import Derived.Test.YtndkimjmbpbcmaaPMergeAll7
import Derived.Test.YtndkimjmbpbcmaaPMergeAll8
import Derived.Test.YtndkimjmbpbcmaaPMergeAll9
import Derived.Test.YtndkimjmbpbcmaaPMergeAll10
import Derived.Test.YtndkimjmbpbcmaaPMergeAll11
import Derived.Test.YtndkimjmbpbcmaaPMergeAll12
import Derived.Test.YtndkimjmbpbcmaaPMergeAll13
import Derived.Test.YtndkimjmbpbcmaaPMergeAll14
import Derived.Test.YtndkimjmbpbcmaaPMergeAll15
import Derived.Test.YtndkimjmbpbcmaaPMergeAll16
namespace Go.Proofs.Ytndkimjmbpbcmaa.Pure
open Go.RowKit Go.Proofs.Ytndkimjmbpbcmaa.Q Go.Proofs.YtndkimjmbpbcmaaW.PrintWords Go.Proofs.YtndkimjmbpbcmaaW.PrintLast Go.Proofs.YtndkimjmbpbcmaaW.PrintMore
theorem MergeAll : hypercubelaw6_MergeAllH.Pure := by
  intro a0 l1 a2 l3 a4 a5 a6 _ _ _ _ _ _ _ _ _ _ _
  obtain ⟨cards, meas, rows, s, n, hf, hs, hc, hn, hl, hr, _⟩ := facts_set a0 l1 a2 l3 a4
  obtain ⟨m, hm1, hm2, hw, hm⟩ := some_eq 1 a5 6 (by omega) (by omega) (by omega)
  obtain ⟨q, hq1, hq2, hwq, hq⟩ := some_eq 2 a6 6 (by omega) (by omega) (by omega)
  have hw' : hypercubelaw6_within.f a5 6 = some (a5 % 6) := hw
  have hm' : wrap64 (1 + a5 % 6) = (m : Int) := hm
  have hwq' : hypercubelaw6_within.f a6 6 = some (a6 % 6) := hwq
  have hq' : wrap64 (2 + a6 % 6) = (q : Int) := hq
  have hreg := makeL_reg hr s
  have hlen := makeL_length s rows
  have hrl := runsR_len m hm1 (makeL s rows)
  have hgood := runs_good m hm1 hreg
  have hfl := runs_flat_len m (makeL s rows)
  have hmul := Nat.mul_le_mul (show (runsR m [] (makeL s rows)).length ≤ 40 by omega) (show (makeL s rows).length ≤ 40 by omega)
  have hgl := putAll_length (runsR m [] (makeL s rows)).flatten []
  rw [← groupL_all, List.length_nil] at hgl
  obtain ⟨K1, e1⟩ := hf
  obtain ⟨K2, e2⟩ := make_ev hn s rows (by omega) hr
  obtain ⟨K3, e3⟩ := ref_runs_ev hn m hm1 hreg (by omega)
  obtain ⟨K4, e4⟩ := merge_ev hn hq1 (by omega) hgood hfl (by omega) (by omega)
  obtain ⟨K5, e5⟩ := ref_merge_ev hn hq1 (by omega) hgood hfl (by omega) (by omega)
  obtain ⟨K6, e6⟩ := same_true (l := groupL (runsR m [] (makeL s rows)).flatten) rfl (by omega) ((regL_group (regL_flat hgood)).small hn)
  refine ⟨K1 + K2 + K3 + K4 + K5 + K6, cards, meas, rows, s, makeL s rows, a5 % 6, a6 % 6, runsR m [] (makeL s rows), groupL (runsR m [] (makeL s rows)).flatten, groupL (runsR m [] (makeL s rows)).flatten, ((passN q (runsR m [] (makeL s rows)).length (runsR m [] (makeL s rows)).length : Nat) : Int), e1 _ (by omega), hs, e2 _ (by omega), hw', ?_, hwq', ?_, ?_, e6 _ (by omega)⟩
  · rw [hm']; exact e3 _ (by omega)
  · rw [hq']; exact e4 _ (by omega)
  · rw [hq']; exact e5 _ (by omega)
end Go.Proofs.Ytndkimjmbpbcmaa.Pure
