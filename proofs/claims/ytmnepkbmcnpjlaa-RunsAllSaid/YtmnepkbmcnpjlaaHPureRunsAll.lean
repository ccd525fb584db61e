/- RunsAll, in plain Lean: of any cells, held as many at once as one likes, the runs are the document's; for every input. -/
import Derived.ArgAppend
import Derived.Below
import Derived.BigQuiet
import Derived.Deep.AppendLies
import Derived.Deep.CutBlock
import Derived.Deep.DeepCutAuto
import Derived.Deep.Draws
import Derived.Deep.LoopGhost
import Derived.Deep.OwnRows
import Derived.Deep.QuietTactic
import Derived.Deep.RegionHeld3
import Derived.KernelRfl
import Derived.Laws.BitsLemmas
import Derived.Laws.BytesArg
import Derived.Laws.EntriesVeiled
import Derived.Laws.Externs
import Derived.Laws.IdiomCopy
import Derived.Laws.MakeOwn
import Derived.Laws.OwnMore
import Derived.Laws.Rows
import Derived.Laws.Slices
import Derived.Lib.AppendStr
import Derived.Lib.AppendZeros
import Derived.Lib.AppendZerosOnto
import Derived.Lib.ConvBytes
import Derived.Lib.JoinLaws
import Derived.Lib.Overlaps
import Derived.Lib.SliceRun
import Derived.Lib.Walk
import Derived.LoopIn
import Derived.LoopNIn
import Derived.Maps.AppendAt
import Derived.OrdersHeld
import Derived.OrdersIn
import Derived.OwnWalk
import Derived.OwnWalkIn
import Derived.RangeFuncBound
import Derived.RangeFuncBox
import Derived.RangeFuncCalls
import Derived.RangeFuncLeaves
import Derived.RangeFuncNested
import Derived.RangeFuncOwn
import Derived.RowKit
import Derived.RowKit3
import Derived.Shelf.Abstract
import Derived.Shelf.RegionOpen
import Derived.Shelf.RegionOpenPlain
import Derived.Tactics
import Derived.TacticsInMore
import Derived.Test.YtmnepkbmcnpjlaaProg
import Derived.WalkKit
import Derived.WalkSpells
import Derived.WideLaws
import Derived.Test.YtmnepkbmcnpjlaaPRunsAll1
import Derived.Test.YtmnepkbmcnpjlaaPRunsAll3
import Derived.Test.YtmnepkbmcnpjlaaPRunsAll4
import Derived.Test.YtmnepkbmcnpjlaaPRunsAll5
import Derived.Test.YtmnepkbmcnpjlaaPRunsAll6
import Derived.Test.YtmnepkbmcnpjlaaPRunsAll7
import Derived.Test.YtmnepkbmcnpjlaaPRunsAll8
import Derived.Test.YtmnepkbmcnpjlaaPRunsAll9
import Derived.Test.YtmnepkbmcnpjlaaPRunsAll10
import Derived.Test.YtmnepkbmcnpjlaaPRunsAll11
import Derived.Test.YtmnepkbmcnpjlaaPRunsAll12
import Derived.Test.YtmnepkbmcnpjlaaPRunsAll13
import Derived.Test.YtmnepkbmcnpjlaaPRunsAll14
import Derived.Test.YtmnepkbmcnpjlaaPRunsAll15
namespace Go.Proofs.Ytmnepkbmcnpjlaa.Pure
open Go.RowKit Go.Proofs.Ytmnepkbmcnpjlaa.Q Go.Proofs.YtmnepkbmcnpjlaaW.PrintWords Go.Proofs.YtmnepkbmcnpjlaaW.PrintLast Go.Proofs.YtmnepkbmcnpjlaaW.PrintMore
theorem RunsAll : hypercubelaw5_RunsAll.Pure := by
  intro a0 l1 a2 l3 a4 a5 _ _ _ _ _ _ _ _ _ _
  obtain ⟨cards, meas, rows, s, n, hf, hs, hc, hn, hl, hr, _⟩ := facts_set a0 l1 a2 l3 a4
  obtain ⟨m, hm1, hm2, hw, hm⟩ := most_eq a5 12 (by omega) (by omega)
  have hw' : hypercubelaw5_within.f a5 12 = some (a5 % 12) := hw
  have hm' : wrap64 (1 + a5 % 12) = (m : Int) := hm
  have hreg := makeL_reg hr s
  have hlen := makeL_length s rows
  have hsm : ∀ k : Nat, 1 ≤ k → (runsR k [] (makeL s rows)).length ≤ 1000000 ∧ ∀ r ∈ runsR k [] (makeL s rows), r.length ≤ 1000000 ∧ ∀ c ∈ r, SmallC c := fun k hk => by
    obtain ⟨h1, h2⟩ := runsR_len k hk (makeL s rows)
    exact ⟨by omega, fun r hr2 => ⟨by have := h2 r hr2; omega, (runsR_reg k _ _ hreg (regL_nil n) r hr2).small hn⟩⟩
  refine Ev.rounds ?_
  refine Ev.congr (fun k => by unfold hypercubelaw5_RunsAll.f hypercubelaw5_known.f; rw [Option.bind_some, if_pos rfl]) ?_
  refine Ev.bind hf ?_
  refine Ev.congr (fun k => by rw [hs, Option.bind_some]) ?_
  refine Ev.bind (make_ev hn s rows (by omega) hr) ?_
  refine Ev.congr (fun k => by rw [hw', Option.bind_some, hm']) ?_
  refine Ev.bind (runs_ev m hm1 _ (hreg.small hn) (by omega)) ?_
  refine Ev.bind (ref_runs_ev hn m hm1 hreg (by omega)) ?_
  refine Ev.bind (same5_true rfl (hsm m hm1).1 (hsm m hm1).2) ?_
  refine Ev.congr (fun k => by rw [if_pos rfl]) ?_
  refine Ev.bind (runs_ev 500 (by omega) _ (hreg.small hn) (by omega)) ?_
  refine Ev.bind (ref_runs_ev hn 500 (by omega) hreg (by omega)) ?_
  refine Ev.bind (same5_true rfl (hsm 500 (by omega)).1 (hsm 500 (by omega)).2) ?_
  refine Ev.congr (fun k => by rw [if_pos rfl]) ?_
  refine Ev.bind (sorted_ev (hreg.small hn)) ?_
  refine Ev.bind (ref_sorted_ev (hreg.small hn) (by omega)) ?_
  exact Ev.congr (f := fun _ => some true) (fun k => by simp) (Ev.now _)
end Go.Proofs.Ytmnepkbmcnpjlaa.Pure
