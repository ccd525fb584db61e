/- MergeThree, in plain Lean: of three it does not matter which two are made one first; for every input. -/
import Derived.ArgAppend
import Derived.Below
import Derived.BigQuiet
import Derived.Deep.AppendLies
import Derived.Deep.CutBlock
import Derived.Deep.DeepCutAuto
import Derived.Deep.Draws
import Derived.Deep.LoopGhost
import Derived.Deep.OwnRows
import Derived.Deep.QuietTactic
import Derived.Deep.RegionHeld3
import Derived.KernelRfl
import Derived.Laws.BitsLemmas
import Derived.Laws.BytesArg
import Derived.Laws.EntriesVeiled
import Derived.Laws.Externs
import Derived.Laws.IdiomCopy
import Derived.Laws.MakeOwn
import Derived.Laws.OwnMore
import Derived.Laws.Rows
import Derived.Laws.Slices
import Derived.Lib.AppendStr
import Derived.Lib.AppendZeros
import Derived.Lib.AppendZerosOnto
import Derived.Lib.ConvBytes
import Derived.Lib.JoinLaws
import Derived.Lib.Overlaps
import Derived.Lib.SliceRun
import Derived.Lib.Walk
import Derived.LoopIn
import Derived.LoopNIn
import Derived.Maps.AppendAt
import Derived.OrdersHeld
import Derived.OrdersIn
import Derived.OwnWalk
import Derived.OwnWalkIn
import Derived.RangeFuncBound
import Derived.RangeFuncBox
import Derived.RangeFuncCalls
import Derived.RangeFuncLeaves
import Derived.RangeFuncNested
import Derived.RangeFuncOwn
import Derived.RowKit
import Derived.RowKit3
import Derived.Shelf.Abstract
import Derived.Shelf.RegionOpen
import Derived.Shelf.RegionOpenPlain
import Derived.Tactics
import Derived.TacticsInMore
import Derived.Test.YtndkimjmbpbcmaaProg
import Derived.WalkKit
import Derived.WalkSpells
import Derived.WideLaws
import Derived.Test.YtndkimjmbpbcmaaPMergeThree1
import Derived.Test.YtndkimjmbpbcmaaPMergeThree3
import Derived.Test.YtndkimjmbpbcmaaPMergeThree4
import Derived.Test.YtndkimjmbpbcmaaPMergeThree5
import Derived.Test.YtndkimjmbpbcmaaPMergeThree6
import Derived.Test.YtndkimjmbpbcmaaPMergeThree7
import Derived.Test.YtndkimjmbpbcmaaPMergeThree8
import Derived.Test.YtndkimjmbpbcmaaPMergeThree9
import Derived.Test.YtndkimjmbpbcmaaPMergeThree10
import Derived.Test.YtndkimjmbpbcmaaPMergeThree11
import Derived.Test.YtndkimjmbpbcmaaPMergeThree12
import Derived.Test.YtndkimjmbpbcmaaPMergeThree13
import Derived.Test.YtndkimjmbpbcmaaPMergeThree14
import Derived.Test.YtndkimjmbpbcmaaPMergeThree15
import Derived.Test.YtndkimjmbpbcmaaPMergeThree16
namespace Go.Proofs.Ytndkimjmbpbcmaa.Pure
open Go.RowKit Go.Proofs.Ytndkimjmbpbcmaa.Q Go.Proofs.YtndkimjmbpbcmaaW.PrintWords Go.Proofs.YtndkimjmbpbcmaaW.PrintLast Go.Proofs.YtndkimjmbpbcmaaW.PrintMore
theorem more_facts (a0 : Int) (l1 : List Int) (a2 : Int) (l4 : List Int) : ∃ cards meas rows, Ev (fun k => hypercubelaw1_Facts.f k a0 l1 a2 l4) (cards, meas, rows) ∧ checkP cards meas = true ∧ rows.length ≤ 40 ∧ ∀ r ∈ rows, RegR (a2 % 3).toNat r := by
  obtain ⟨cards, meas, rows, h1, h2, h3, h4, h5, h6⟩ := facts_ev a0 l1 a2 l4
  obtain ⟨c1, c2, c3, c4, c5⟩ := check_open h2
  refine ⟨cards, meas, rows, h1, h2, by omega, fun r hr => ?_⟩
  obtain ⟨r1, r2, _⟩ := right_open (h6 r hr).1
  exact ⟨by omega, by omega⟩
theorem MergeThree : hypercubelaw6_MergeThree.Pure := by
  intro a0 l1 a2 l3 l4 l5 a6 _ _ _ _ _ _ _ _ _ _ _ _ _ _ _
  obtain ⟨cards, meas, rows, h1, h2, h3, h4⟩ := more_facts a0 l1 a2 l3
  obtain ⟨cards', meas', rows', h1', h2', h3', h4'⟩ := more_facts a0 l1 a2 l4
  obtain ⟨cards'', meas'', rows'', h1'', h2'', h3'', h4''⟩ := more_facts a0 l1 a2 l5
  obtain ⟨s, hs, _⟩ := set_eq h2 a6
  have hn : (a2 % 3).toNat ≤ 100 := by omega
  generalize (a2 % 3).toNat = n at *
  have hl := makeL_length s rows
  have hl' := makeL_length s rows'
  have hl'' := makeL_length s rows''
  have ra := regL_group (makeL_reg h4 s)
  have rb := regL_group (makeL_reg h4' s)
  have rc := regL_group (makeL_reg h4'' s)
  have sa := groupL_sorted (makeL s rows)
  have sb := groupL_sorted (makeL s rows')
  have sc := groupL_sorted (makeL s rows'')
  have la := putAll_length (makeL s rows) []
  have lb := putAll_length (makeL s rows') []
  have lc := putAll_length (makeL s rows'') []
  rw [← groupL_all, List.length_nil] at la lb lc
  have ea := ref_facts_ev hn h4 (by omega) s
  have eb := ref_facts_ev hn h4' (by omega) s
  have ec := ref_facts_ev hn h4'' (by omega) s
  generalize groupL (makeL s rows) = A at *
  generalize groupL (makeL s rows') = B at *
  generalize groupL (makeL s rows'') = C at *
  have l1 := putAll_length B A
  have l2 := putAll_length C B
  have l3 := putAll_length C (putAll A B)
  have sab := putAll_sorted B A sa
  have sbc := putAll_sorted C B sb
  have rab := regL_all rb ra
  have rbc := regL_all rc rb
  have e1 : putAll (putAll A B) C = putAll A (putAll B C) := (putAll_all C B A).symm
  refine Ev.rounds ?_
  refine Ev.congr (fun k => by unfold hypercubelaw6_MergeThree.f hypercubelaw6_known.f; rw [Option.bind_some, if_pos rfl]) ?_
  refine Ev.bind h1 (Ev.bind h1' (Ev.bind h1'' ?_))
  refine Ev.congr (fun k => by rw [hs, Option.bind_some]) ?_
  refine Ev.bind ea (Ev.bind eb (Ev.bind ec ?_))
  refine Ev.bind (two_ev hn ra rb sa sb (by omega)) (Ev.bind (two_ev hn rab rc sab sc (by omega)) (Ev.bind (two_ev hn rb rc sb sc (by omega)) (Ev.bind (two_ev hn ra rbc sa sbc (by omega)) ?_)))
  exact Ev.bind (same_true e1 (by omega) ((regL_all rc rab).small hn)) (Ev.now _)
end Go.Proofs.Ytndkimjmbpbcmaa.Pure
