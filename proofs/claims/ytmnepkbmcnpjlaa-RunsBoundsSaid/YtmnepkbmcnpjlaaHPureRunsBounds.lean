/- RunsBounds, in plain Lean: no run has more than may be held, none is empty, each rises by keys; all but the last one are full; for every input. -/
import Derived.ArgAppend
import Derived.Below
import Derived.BigQuiet
import Derived.Deep.AppendLies
import Derived.Deep.CutBlock
import Derived.Deep.DeepCutAuto
import Derived.Deep.Draws
import Derived.Deep.LoopGhost
import Derived.Deep.OwnRows
import Derived.Deep.QuietTactic
import Derived.Deep.RegionHeld3
import Derived.KernelRfl
import Derived.Laws.BitsLemmas
import Derived.Laws.BytesArg
import Derived.Laws.EntriesVeiled
import Derived.Laws.Externs
import Derived.Laws.IdiomCopy
import Derived.Laws.MakeOwn
import Derived.Laws.OwnMore
import Derived.Laws.Rows
import Derived.Laws.Slices
import Derived.Lib.AppendStr
import Derived.Lib.AppendZeros
import Derived.Lib.AppendZerosOnto
import Derived.Lib.ConvBytes
import Derived.Lib.JoinLaws
import Derived.Lib.Overlaps
import Derived.Lib.SliceRun
import Derived.Lib.Walk
import Derived.LoopIn
import Derived.LoopNIn
import Derived.Maps.AppendAt
import Derived.OrdersHeld
import Derived.OrdersIn
import Derived.OwnWalk
import Derived.OwnWalkIn
import Derived.RangeFuncBound
import Derived.RangeFuncBox
import Derived.RangeFuncCalls
import Derived.RangeFuncLeaves
import Derived.RangeFuncNested
import Derived.RangeFuncOwn
import Derived.RowKit
import Derived.RowKit3
import Derived.Shelf.Abstract
import Derived.Shelf.RegionOpen
import Derived.Shelf.RegionOpenPlain
import Derived.Tactics
import Derived.TacticsInMore
import Derived.Test.YtmnepkbmcnpjlaaProg
import Derived.WalkKit
import Derived.WalkSpells
import Derived.WideLaws
import Derived.Test.YtmnepkbmcnpjlaaPRunsBounds1
import Derived.Test.YtmnepkbmcnpjlaaPRunsBounds3
import Derived.Test.YtmnepkbmcnpjlaaPRunsBounds4
import Derived.Test.YtmnepkbmcnpjlaaPRunsBounds5
import Derived.Test.YtmnepkbmcnpjlaaPRunsBounds6
import Derived.Test.YtmnepkbmcnpjlaaPRunsBounds7
import Derived.Test.YtmnepkbmcnpjlaaPRunsBounds8
import Derived.Test.YtmnepkbmcnpjlaaPRunsBounds9
import Derived.Test.YtmnepkbmcnpjlaaPRunsBounds10
import Derived.Test.YtmnepkbmcnpjlaaPRunsBounds11
import Derived.Test.YtmnepkbmcnpjlaaPRunsBounds12
import Derived.Test.YtmnepkbmcnpjlaaPRunsBounds13
import Derived.Test.YtmnepkbmcnpjlaaPRunsBounds14
namespace Go.Proofs.Ytmnepkbmcnpjlaa.Pure
open Go.RowKit Go.Proofs.Ytmnepkbmcnpjlaa.Q Go.Proofs.YtmnepkbmcnpjlaaW.PrintWords Go.Proofs.YtmnepkbmcnpjlaaW.PrintLast Go.Proofs.YtmnepkbmcnpjlaaW.PrintMore
theorem bounds_l0 (m : Nat) (rs : List (List S41)) (hl : rs.length ≤ 1000000) (hs : ∀ r ∈ rs, ∀ c ∈ r, SmallC c)
    (hb : ∀ (i : Nat) (h : i < rs.length), 1 ≤ (rs[i]).length ∧ (rs[i]).length ≤ m ∧ (i + 1 < rs.length → (rs[i]).length = m) ∧ SortedC (rs[i])) (d : Nat) : ∀ i : Nat, rs.length - i = d → i ≤ rs.length → Ev (fun k => hypercubelaw5_RunsBounds.l0 k (m : Int) rs (i : Int)) true := by
  induction d with
  | zero =>
    intro i hd hi
    exact Ev.step (f := fun _ => some true) (fun k => by simp only [hypercubelaw5_RunsBounds.l0]; rw [if_neg (by omega)]) (Ev.now _)
  | succ d ih =>
    intro i hd hi
    have hlt : i < rs.length := by omega
    obtain ⟨b1, b2, b3, b4⟩ := hb i hlt
    have hsr : Ev (fun k => runs_Sorted.f k rs[i]) true := by
      have := sorted_ev (hs _ (List.getElem_mem hlt))
      rwa [srtB_sorted _ b4] at this
    have hw : wrap64 ((rs.length : Int) - 1) = (rs.length : Int) - 1 := w64 (by omega) (by omega)
    refine Ev.step (f := fun k => (runs_Sorted.f k rs[i]).bind fun t => if t = true then hypercubelaw5_RunsBounds.l0 k (m : Int) rs ((i + 1 : Nat) : Int) else none) (fun k => ?_) (Ev.bind hsr (Ev.congr (fun k => by rw [if_pos rfl]) (ih (i + 1) (by omega) (by omega))))
    simp only [hypercubelaw5_RunsBounds.l0]
    rw [if_pos (by omega), if_pos (by omega), rdL_get hlt, if_neg (by omega), if_neg (by omega), hw, w64s hlt (by omega)]
    by_cases c : i + 1 < rs.length
    · rw [if_pos (by omega), if_pos (by rw [b3 c])]
    · rw [if_neg (by omega)]
theorem RunsBounds : hypercubelaw5_RunsBounds.Pure := by
  intro a0 l1 a2 l3 a4 a5 _ _ _ _ _ _ _ _ _ _
  obtain ⟨cards, meas, rows, s, n, hf, hs, hc, hn, hl, hr, _⟩ := facts_set a0 l1 a2 l3 a4
  obtain ⟨m, hm1, hm2, hw, hm⟩ := most_eq a5 12 (by omega) (by omega)
  have hw' : hypercubelaw5_within.f a5 12 = some (a5 % 12) := hw
  have hm' : wrap64 (1 + a5 % 12) = (m : Int) := hm
  have hreg := makeL_reg hr s
  have hlen := makeL_length s rows
  obtain ⟨h1, h2⟩ := runsR_len m hm1 (makeL s rows)
  refine Ev.rounds ?_
  refine Ev.congr (fun k => by unfold hypercubelaw5_RunsBounds.f hypercubelaw5_known.f; rw [Option.bind_some, if_pos rfl]) ?_
  refine Ev.bind hf ?_
  refine Ev.congr (fun k => by rw [hw', Option.bind_some, hs, Option.bind_some, hm']) ?_
  refine Ev.bind (make_ev hn s rows (by omega) hr) ?_
  refine Ev.bind (runs_ev m hm1 _ (hreg.small hn) (by omega)) ?_
  exact bounds_l0 m _ (by omega) (fun r hr2 => (runsR_reg m _ _ hreg (regL_nil n) r hr2).small hn) (runsR_bounds m hm1 _ [] List.Pairwise.nil (by simp) (.inl rfl)) _ 0 rfl (by omega)
end Go.Proofs.Ytmnepkbmcnpjlaa.Pure
