/- CellOwn, in plain Lean: cells that were handed in are not changed, what was told may be; for every input. -/
import Derived.ArgAppend
import Derived.Below
import Derived.BigQuiet
import Derived.Deep.AppendLies
import Derived.Deep.CutBlock
import Derived.Deep.DeepCutAuto
import Derived.Deep.Draws
import Derived.Deep.LoopGhost
import Derived.Deep.OwnRows
import Derived.Deep.QuietTactic
import Derived.Deep.RegionHeld3
import Derived.KernelRfl
import Derived.Laws.BitsLemmas
import Derived.Laws.BytesArg
import Derived.Laws.EntriesVeiled
import Derived.Laws.Externs
import Derived.Laws.IdiomCopy
import Derived.Laws.MakeOwn
import Derived.Laws.OwnMore
import Derived.Laws.Rows
import Derived.Laws.Slices
import Derived.Lib.AppendStr
import Derived.Lib.AppendZeros
import Derived.Lib.AppendZerosOnto
import Derived.Lib.ConvBytes
import Derived.Lib.JoinLaws
import Derived.Lib.Overlaps
import Derived.Lib.SliceRun
import Derived.Lib.Walk
import Derived.LoopIn
import Derived.LoopNIn
import Derived.Maps.AppendAt
import Derived.OrdersHeld
import Derived.OrdersIn
import Derived.OwnWalk
import Derived.OwnWalkIn
import Derived.RangeFuncBound
import Derived.RangeFuncBox
import Derived.RangeFuncCalls
import Derived.RangeFuncLeaves
import Derived.RangeFuncNested
import Derived.RangeFuncOwn
import Derived.RowKit
import Derived.RowKit3
import Derived.Shelf.Abstract
import Derived.Shelf.RegionOpen
import Derived.Shelf.RegionOpenPlain
import Derived.Tactics
import Derived.TacticsInMore
import Derived.Test.YtmkjkkmilopcpaaProg
import Derived.WalkKit
import Derived.WalkSpells
import Derived.WideLaws
import Derived.Test.YtmkjkkmilopcpaaPCellOwn1
import Derived.Test.YtmkjkkmilopcpaaPCellOwn3
import Derived.Test.YtmkjkkmilopcpaaPCellOwn4
import Derived.Test.YtmkjkkmilopcpaaPCellOwn5
import Derived.Test.YtmkjkkmilopcpaaPCellOwn6
import Derived.Test.YtmkjkkmilopcpaaPCellOwn7
import Derived.Test.YtmkjkkmilopcpaaPCellOwn8
import Derived.Test.YtmkjkkmilopcpaaPCellOwn9
import Derived.Test.YtmkjkkmilopcpaaPCellOwn10
import Derived.Test.YtmkjkkmilopcpaaPCellOwn11
import Derived.Test.YtmkjkkmilopcpaaPCellOwn12
import Derived.Test.YtmkjkkmilopcpaaPCellOwn13
import Derived.Test.YtmkjkkmilopcpaaPCellOwn14
import Derived.Test.YtmkjkkmilopcpaaPCellOwn15
namespace Go.Proofs.Ytmkjkkmilopcpaa.Pure
open Go.RowKit Go.Proofs.Ytmkjkkmilopcpaa.Q Go.Proofs.YtmkjkkmilopcpaaW.PrintWords Go.Proofs.YtmkjkkmilopcpaaW.PrintLast Go.Proofs.YtmkjkkmilopcpaaW.PrintMore
theorem CellOwn : hypercubelaw2_CellOwn.Pure := by
  intro a0 l1 a2 l3 a4 a5 _ _ _ _ _ _ _ _ _ _
  obtain ⟨cards, meas, rows, s, n, hf, hs, hc, hn, hl, hr, _⟩ := facts_set a0 l1 a2 l3 a4
  have hreg := makeL_reg hr s
  have hlen := makeL_length s rows
  have hgl := putAll_length (makeL s rows) []
  rw [← groupL_all, List.length_nil] at hgl
  obtain ⟨K1, e1⟩ := hf
  obtain ⟨K2, e2⟩ := make_ev hn s rows (by omega) hr
  obtain ⟨K3, e3⟩ := group_ev (makeL s rows) (by omega) (hreg.small hn)
  obtain ⟨K4, e4⟩ := same_true (l := makeL s rows) rfl (by omega) (hreg.small hn)
  obtain ⟨K5, e5⟩ := ref_facts_ev hn hr (by omega) s
  obtain ⟨K6, e6⟩ := same_true (l := groupL (makeL s rows)) rfl (by omega) ((regL_group hreg).small hn)
  exact ⟨K1 + K2 + K3 + K4 + K5 + K6, cards, meas, rows, s, makeL s rows, groupL (makeL s rows), groupL (makeL s rows), e1 _ (by omega), hs, e2 _ (by omega), e3 _ (by omega), e4 _ (by omega), e5 _ (by omega), e6 _ (by omega)⟩
end Go.Proofs.Ytmkjkkmilopcpaa.Pure
