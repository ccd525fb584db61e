/- RunsOwn, in plain Lean: cells that were handed in are not changed, runs that were told may be; for every input. -/
import Derived.ArgAppend
import Derived.Below
import Derived.BigQuiet
import Derived.Deep.AppendLies
import Derived.Deep.CutBlock
import Derived.Deep.DeepCutAuto
import Derived.Deep.Draws
import Derived.Deep.LoopGhost
import Derived.Deep.OwnRows
import Derived.Deep.QuietTactic
import Derived.Deep.RegionHeld3
import Derived.KernelRfl
import Derived.Laws.BitsLemmas
import Derived.Laws.BytesArg
import Derived.Laws.EntriesVeiled
import Derived.Laws.Externs
import Derived.Laws.IdiomCopy
import Derived.Laws.MakeOwn
import Derived.Laws.OwnMore
import Derived.Laws.Rows
import Derived.Laws.Slices
import Derived.Lib.AppendStr
import Derived.Lib.AppendZeros
import Derived.Lib.AppendZerosOnto
import Derived.Lib.ConvBytes
import Derived.Lib.JoinLaws
import Derived.Lib.Overlaps
import Derived.Lib.SliceRun
import Derived.Lib.Walk
import Derived.LoopIn
import Derived.LoopNIn
import Derived.Maps.AppendAt
import Derived.OrdersHeld
import Derived.OrdersIn
import Derived.OwnWalk
import Derived.OwnWalkIn
import Derived.RangeFuncBound
import Derived.RangeFuncBox
import Derived.RangeFuncCalls
import Derived.RangeFuncLeaves
import Derived.RangeFuncNested
import Derived.RangeFuncOwn
import Derived.RowKit
import Derived.RowKit3
import Derived.Shelf.Abstract
import Derived.Shelf.RegionOpen
import Derived.Shelf.RegionOpenPlain
import Derived.Tactics
import Derived.TacticsInMore
import Derived.Test.YtmnepkbmcnpjlaaProg
import Derived.WalkKit
import Derived.WalkSpells
import Derived.WideLaws
import Derived.Test.YtmnepkbmcnpjlaaPRunsOwn1
import Derived.Test.YtmnepkbmcnpjlaaPRunsOwn3
import Derived.Test.YtmnepkbmcnpjlaaPRunsOwn4
import Derived.Test.YtmnepkbmcnpjlaaPRunsOwn5
import Derived.Test.YtmnepkbmcnpjlaaPRunsOwn6
import Derived.Test.YtmnepkbmcnpjlaaPRunsOwn7
import Derived.Test.YtmnepkbmcnpjlaaPRunsOwn8
import Derived.Test.YtmnepkbmcnpjlaaPRunsOwn9
import Derived.Test.YtmnepkbmcnpjlaaPRunsOwn10
import Derived.Test.YtmnepkbmcnpjlaaPRunsOwn11
import Derived.Test.YtmnepkbmcnpjlaaPRunsOwn12
import Derived.Test.YtmnepkbmcnpjlaaPRunsOwn13
import Derived.Test.YtmnepkbmcnpjlaaPRunsOwn14
import Derived.Test.YtmnepkbmcnpjlaaPRunsOwn15
namespace Go.Proofs.Ytmnepkbmcnpjlaa.Pure
open Go.RowKit Go.Proofs.Ytmnepkbmcnpjlaa.Q Go.Proofs.YtmnepkbmcnpjlaaW.PrintWords Go.Proofs.YtmnepkbmcnpjlaaW.PrintLast Go.Proofs.YtmnepkbmcnpjlaaW.PrintMore
theorem RunsOwn : hypercubelaw5_RunsOwn.Pure := by
  intro a0 l1 a2 l3 a4 a5 _ _ _ _ _ _ _ _ _ _
  obtain ⟨cards, meas, rows, s, n, hf, hs, hc, hn, hl, hr, _⟩ := facts_set a0 l1 a2 l3 a4
  have hreg := makeL_reg hr s
  have hlen := makeL_length s rows
  obtain ⟨h1, h2⟩ := runsR_len 3 (by omega) (makeL s rows)
  have hrg := runsR_reg 3 _ _ hreg (regL_nil n)
  obtain ⟨K1, e1⟩ := hf
  obtain ⟨K2, e2⟩ := make_ev hn s rows (by omega) hr
  obtain ⟨K3, e3⟩ := runs_ev 3 (by omega) (makeL s rows) (hreg.small hn) (by omega)
  obtain ⟨K4, e4⟩ := same_true (l := makeL s rows) rfl (by omega) (hreg.small hn)
  obtain ⟨K5, e5⟩ := ref_runs_ev hn 3 (by omega) hreg (by omega)
  obtain ⟨K6, e6⟩ := same5_true (l := runsR 3 [] (makeL s rows)) rfl (by omega) (fun r hr2 => ⟨by have := h2 r hr2; omega, (hrg r hr2).small hn⟩)
  exact ⟨K1 + K2 + K3 + K4 + K5 + K6, cards, meas, rows, s, makeL s rows, runsR 3 [] (makeL s rows), runsR 3 [] (makeL s rows), e1 _ (by omega), hs, e2 _ (by omega), e3 _ (by omega), fun t ht c hc => by
    have hcc := hrg t ht c hc
    exact ⟨hcc.2.1.trans hcc.2.2.1.symm, by rw [hcc.2.2.1]; omega⟩, e4 _ (by omega), e5 _ (by omega), e6 _ (by omega)⟩
end Go.Proofs.Ytmnepkbmcnpjlaa.Pure
