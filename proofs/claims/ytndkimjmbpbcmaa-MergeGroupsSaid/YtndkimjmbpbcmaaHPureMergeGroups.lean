/- MergeGroups, in plain Lean: runs of facts merged are the group-by, whatever was held, however many are merged at once; for every input. -/
import Derived.ArgAppend
import Derived.Below
import Derived.BigQuiet
import Derived.Deep.AppendLies
import Derived.Deep.CutBlock
import Derived.Deep.DeepCutAuto
import Derived.Deep.Draws
import Derived.Deep.LoopGhost
import Derived.Deep.OwnRows
import Derived.Deep.QuietTactic
import Derived.Deep.RegionHeld3
import Derived.KernelRfl
import Derived.Laws.BitsLemmas
import Derived.Laws.BytesArg
import Derived.Laws.EntriesVeiled
import Derived.Laws.Externs
import Derived.Laws.IdiomCopy
import Derived.Laws.MakeOwn
import Derived.Laws.OwnMore
import Derived.Laws.Rows
import Derived.Laws.Slices
import Derived.Lib.AppendStr
import Derived.Lib.AppendZeros
import Derived.Lib.AppendZerosOnto
import Derived.Lib.ConvBytes
import Derived.Lib.JoinLaws
import Derived.Lib.Overlaps
import Derived.Lib.SliceRun
import Derived.Lib.Walk
import Derived.LoopIn
import Derived.LoopNIn
import Derived.Maps.AppendAt
import Derived.OrdersHeld
import Derived.OrdersIn
import Derived.OwnWalk
import Derived.OwnWalkIn
import Derived.RangeFuncBound
import Derived.RangeFuncBox
import Derived.RangeFuncCalls
import Derived.RangeFuncLeaves
import Derived.RangeFuncNested
import Derived.RangeFuncOwn
import Derived.RowKit
import Derived.RowKit3
import Derived.Shelf.Abstract
import Derived.Shelf.RegionOpen
import Derived.Shelf.RegionOpenPlain
import Derived.Tactics
import Derived.TacticsInMore
import Derived.Test.YtndkimjmbpbcmaaProg
import Derived.WalkKit
import Derived.WalkSpells
import Derived.WideLaws
import Derived.Test.YtndkimjmbpbcmaaPMergeGroups1
import Derived.Test.YtndkimjmbpbcmaaPMergeGroups3
import Derived.Test.YtndkimjmbpbcmaaPMergeGroups4
import Derived.Test.YtndkimjmbpbcmaaPMergeGroups5
import Derived.Test.YtndkimjmbpbcmaaPMergeGroups6
import Derived.Test.YtndkimjmbpbcmaaPMergeGroups7
import Derived.Test.YtndkimjmbpbcmaaPMergeGroups8
import Derived.Test.YtndkimjmbpbcmaaPMergeGroups9
import Derived.Test.YtndkimjmbpbcmaaPMergeGroups10
import Derived.Test.YtndkimjmbpbcmaaPMergeGroups11
import Derived.Test.YtndkimjmbpbcmaaPMergeGroups12
import Derived.Test.YtndkimjmbpbcmaaPMergeGroups13
import Derived.Test.YtndkimjmbpbcmaaPMergeGroups14
import Derived.Test.YtndkimjmbpbcmaaPMergeGroups15
import Derived.Test.YtndkimjmbpbcmaaPMergeGroups16
namespace Go.Proofs.Ytndkimjmbpbcmaa.Pure
open Go.RowKit Go.Proofs.Ytndkimjmbpbcmaa.Q Go.Proofs.YtndkimjmbpbcmaaW.PrintWords Go.Proofs.YtndkimjmbpbcmaaW.PrintLast Go.Proofs.YtndkimjmbpbcmaaW.PrintMore
theorem MergeGroups : hypercubelaw6_MergeGroups.Pure := by
  intro a0 l1 a2 l3 a4 a5 a6 _ _ _ _ _ _ _ _ _ _ _
  obtain ⟨cards, meas, rows, s, n, hf, hs, hc, hn, hl, hr, _⟩ := facts_set a0 l1 a2 l3 a4
  obtain ⟨m, hm1, hm2, hw, hm⟩ := some_eq 1 a5 8 (by omega) (by omega) (by omega)
  obtain ⟨q, hq1, hq2, hwq, hq⟩ := some_eq 2 a6 8 (by omega) (by omega) (by omega)
  have hw' : hypercubelaw6_within.f a5 8 = some (a5 % 8) := hw
  have hm' : wrap64 (1 + a5 % 8) = (m : Int) := hm
  have hwq' : hypercubelaw6_within.f a6 8 = some (a6 % 8) := hwq
  have hq' : wrap64 (2 + a6 % 8) = (q : Int) := hq
  have hreg := makeL_reg hr s
  have hlen := makeL_length s rows
  have hrl := runsR_len m hm1 (makeL s rows)
  have hgood := runs_good m hm1 hreg
  have hfl := runs_flat_len m (makeL s rows)
  have hmul := Nat.mul_le_mul (show (runsR m [] (makeL s rows)).length ≤ 40 by omega) (show (makeL s rows).length ≤ 40 by omega)
  have hgl := putAll_length (runsR m [] (makeL s rows)).flatten []
  rw [← groupL_all, List.length_nil] at hgl
  refine Ev.rounds ?_
  refine Ev.congr (fun k => by unfold hypercubelaw6_MergeGroups.f hypercubelaw6_known.f; rw [Option.bind_some, if_pos rfl]) ?_
  refine Ev.bind hf ?_
  refine Ev.congr (fun k => by rw [hs, Option.bind_some]) ?_
  refine Ev.bind (make_ev hn s rows (by omega) hr) ?_
  refine Ev.congr (fun k => by rw [hw', Option.bind_some, hm']) ?_
  refine Ev.bind (ref_runs_ev hn m hm1 hreg (by omega)) ?_
  refine Ev.congr (fun k => by rw [hwq', Option.bind_some, hq']) ?_
  refine Ev.bind (merge_ev hn hq1 (by omega) hgood hfl (by omega) (by omega)) ?_
  refine Ev.bind (ref_facts_ev hn hr (by omega) s) ?_
  exact Ev.bind (same_true (runsR_group m (makeL s rows)) (by show (groupL _).length ≤ _; omega) ((regL_group (regL_flat hgood)).small hn)) (Ev.now _)
end Go.Proofs.Ytndkimjmbpbcmaa.Pure
