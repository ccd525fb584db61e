/- MergeOwn, in plain Lean: runs that were handed in are not changed, what was told may be; for every input. -/
import Derived.ArgAppend
import Derived.Below
import Derived.BigQuiet
import Derived.Deep.AppendLies
import Derived.Deep.CutBlock
import Derived.Deep.DeepCutAuto
import Derived.Deep.Draws
import Derived.Deep.LoopGhost
import Derived.Deep.OwnRows
import Derived.Deep.QuietTactic
import Derived.Deep.RegionHeld3
import Derived.KernelRfl
import Derived.Laws.BitsLemmas
import Derived.Laws.BytesArg
import Derived.Laws.EntriesVeiled
import Derived.Laws.Externs
import Derived.Laws.IdiomCopy
import Derived.Laws.MakeOwn
import Derived.Laws.OwnMore
import Derived.Laws.Rows
import Derived.Laws.Slices
import Derived.Lib.AppendStr
import Derived.Lib.AppendZeros
import Derived.Lib.AppendZerosOnto
import Derived.Lib.ConvBytes
import Derived.Lib.JoinLaws
import Derived.Lib.Overlaps
import Derived.Lib.SliceRun
import Derived.Lib.Walk
import Derived.LoopIn
import Derived.LoopNIn
import Derived.Maps.AppendAt
import Derived.OrdersHeld
import Derived.OrdersIn
import Derived.OwnWalk
import Derived.OwnWalkIn
import Derived.RangeFuncBound
import Derived.RangeFuncBox
import Derived.RangeFuncCalls
import Derived.RangeFuncLeaves
import Derived.RangeFuncNested
import Derived.RangeFuncOwn
import Derived.RowKit
import Derived.RowKit3
import Derived.Shelf.Abstract
import Derived.Shelf.RegionOpen
import Derived.Shelf.RegionOpenPlain
import Derived.Tactics
import Derived.TacticsInMore
import Derived.Test.YtndkimjmbpbcmaaProg
import Derived.WalkKit
import Derived.WalkSpells
import Derived.WideLaws
import Derived.Test.YtndkimjmbpbcmaaPMergeOwn1
import Derived.Test.YtndkimjmbpbcmaaPMergeOwn3
import Derived.Test.YtndkimjmbpbcmaaPMergeOwn4
import Derived.Test.YtndkimjmbpbcmaaPMergeOwn5
import Derived.Test.YtndkimjmbpbcmaaPMergeOwn6
import Derived.Test.YtndkimjmbpbcmaaPMergeOwn7
import Derived.Test.YtndkimjmbpbcmaaPMergeOwn8
import Derived.Test.YtndkimjmbpbcmaaPMergeOwn9
import Derived.Test.YtndkimjmbpbcmaaPMergeOwn10
import Derived.Test.YtndkimjmbpbcmaaPMergeOwn11
import Derived.Test.YtndkimjmbpbcmaaPMergeOwn12
import Derived.Test.YtndkimjmbpbcmaaPMergeOwn13
import Derived.Test.YtndkimjmbpbcmaaPMergeOwn14
import Derived.Test.YtndkimjmbpbcmaaPMergeOwn15
import Derived.Test.YtndkimjmbpbcmaaPMergeOwn16
namespace Go.Proofs.Ytndkimjmbpbcmaa.Pure
open Go.RowKit Go.Proofs.Ytndkimjmbpbcmaa.Q Go.Proofs.YtndkimjmbpbcmaaW.PrintWords Go.Proofs.YtndkimjmbpbcmaaW.PrintLast Go.Proofs.YtndkimjmbpbcmaaW.PrintMore
theorem MergeOwn : hypercubelaw6_MergeOwn.Pure := by
  intro a0 l1 a2 l3 a4 a5 _ _ _ _ _ _ _ _ _ _
  obtain ⟨cards, meas, rows, s, n, hf, hs, hc, hn, hl, hr, _⟩ := facts_set a0 l1 a2 l3 a4
  have hreg := makeL_reg hr s
  have hlen := makeL_length s rows
  have hrl := runsR_len 4 (by omega) (makeL s rows)
  have hgood := runs_good 4 (by omega) hreg
  have hfl := runs_flat_len 4 (makeL s rows)
  have hmul := Nat.mul_le_mul (show (runsR 4 [] (makeL s rows)).length ≤ 40 by omega) (show (makeL s rows).length ≤ 40 by omega)
  obtain ⟨K1, e1⟩ := hf
  obtain ⟨K2, e2⟩ := make_ev hn s rows (by omega) hr
  obtain ⟨K3, e3⟩ := ref_runs_ev hn 4 (by omega) hreg (by omega)
  obtain ⟨K4, e4⟩ := merge_ev (m := 2) hn (by omega) (by omega) hgood hfl (by omega) (by omega)
  obtain ⟨K5, e5⟩ := same5_true (l := runsR 4 [] (makeL s rows)) rfl (by omega) (fun r hr2 => ⟨by have := hrl.2 r hr2; omega, (hgood r hr2).2.1.small hn⟩)
  exact ⟨K1 + K2 + K3 + K4 + K5, cards, meas, rows, s, makeL s rows, _, _, _, e1 _ (by omega), hs, e2 _ (by omega), e3 _ (by omega), e4 _ (by omega), e5 _ (by omega)⟩
end Go.Proofs.Ytndkimjmbpbcmaa.Pure
