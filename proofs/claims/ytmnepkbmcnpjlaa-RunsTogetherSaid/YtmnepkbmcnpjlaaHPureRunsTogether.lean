/- RunsTogether, in plain Lean: all runs together come to what the cells come to; for every input. -/
import Derived.ArgAppend
import Derived.Below
import Derived.BigQuiet
import Derived.Deep.AppendLies
import Derived.Deep.CutBlock
import Derived.Deep.DeepCutAuto
import Derived.Deep.Draws
import Derived.Deep.LoopGhost
import Derived.Deep.OwnRows
import Derived.Deep.QuietTactic
import Derived.Deep.RegionHeld3
import Derived.KernelRfl
import Derived.Laws.BitsLemmas
import Derived.Laws.BytesArg
import Derived.Laws.EntriesVeiled
import Derived.Laws.Externs
import Derived.Laws.IdiomCopy
import Derived.Laws.MakeOwn
import Derived.Laws.OwnMore
import Derived.Laws.Rows
import Derived.Laws.Slices
import Derived.Lib.AppendStr
import Derived.Lib.AppendZeros
import Derived.Lib.AppendZerosOnto
import Derived.Lib.ConvBytes
import Derived.Lib.JoinLaws
import Derived.Lib.Overlaps
import Derived.Lib.SliceRun
import Derived.Lib.Walk
import Derived.LoopIn
import Derived.LoopNIn
import Derived.Maps.AppendAt
import Derived.OrdersHeld
import Derived.OrdersIn
import Derived.OwnWalk
import Derived.OwnWalkIn
import Derived.RangeFuncBound
import Derived.RangeFuncBox
import Derived.RangeFuncCalls
import Derived.RangeFuncLeaves
import Derived.RangeFuncNested
import Derived.RangeFuncOwn
import Derived.RowKit
import Derived.RowKit3
import Derived.Shelf.Abstract
import Derived.Shelf.RegionOpen
import Derived.Shelf.RegionOpenPlain
import Derived.Tactics
import Derived.TacticsInMore
import Derived.Test.YtmnepkbmcnpjlaaProg
import Derived.WalkKit
import Derived.WalkSpells
import Derived.WideLaws
import Derived.Test.YtmnepkbmcnpjlaaPRunsTogether1
import Derived.Test.YtmnepkbmcnpjlaaPRunsTogether3
import Derived.Test.YtmnepkbmcnpjlaaPRunsTogether4
import Derived.Test.YtmnepkbmcnpjlaaPRunsTogether5
import Derived.Test.YtmnepkbmcnpjlaaPRunsTogether6
import Derived.Test.YtmnepkbmcnpjlaaPRunsTogether7
import Derived.Test.YtmnepkbmcnpjlaaPRunsTogether8
import Derived.Test.YtmnepkbmcnpjlaaPRunsTogether9
import Derived.Test.YtmnepkbmcnpjlaaPRunsTogether10
import Derived.Test.YtmnepkbmcnpjlaaPRunsTogether11
import Derived.Test.YtmnepkbmcnpjlaaPRunsTogether12
import Derived.Test.YtmnepkbmcnpjlaaPRunsTogether13
import Derived.Test.YtmnepkbmcnpjlaaPRunsTogether14
import Derived.Test.YtmnepkbmcnpjlaaPRunsTogether15
import Derived.Test.YtmnepkbmcnpjlaaPRunsTogether16
namespace Go.Proofs.Ytmnepkbmcnpjlaa.Pure
open Go.RowKit Go.Proofs.Ytmnepkbmcnpjlaa.Q Go.Proofs.YtmnepkbmcnpjlaaW.PrintWords Go.Proofs.YtmnepkbmcnpjlaaW.PrintLast Go.Proofs.YtmnepkbmcnpjlaaW.PrintMore
theorem together_l0 {n : Nat} (hn : n ≤ 100) (s : Int) (rows : List S45) (hr : ∀ r ∈ rows, RegR n r) (hrl : rows.length ≤ 1000) (rs : List (List S41)) (hreg : ∀ r ∈ rs, RegL n r) (hl : rs.length ≤ 1000) (hrs : ∀ r ∈ rs, r.length ≤ 100) (d : Nat) : ∀ (i : Nat) (acc : List S41), rs.length - i = d → i ≤ rs.length → RegL n acc → acc.length ≤ 100 * i →
    groupL (acc ++ (rs.drop i).flatten) = groupL (makeL s rows) → Ev (fun k => hypercubelaw5_RunsTogether.l0 k rows s rs acc (i : Int)) true := by
  induction d with
  | zero =>
    intro i acc hd hi ha hb hg
    have e : rs.drop i = [] := List.drop_eq_nil_of_le (by omega)
    rw [e, List.flatten_nil, List.append_nil] at hg
    refine Ev.step (f := fun k => (hypercuberef2_Group.f k acc).bind fun t504 => ((hypercuberef2_Facts.f k rows s).bind fun t507 => ((hypercuberef2_Same.f k t504 t507).bind fun t510 => (some t510)))) (fun k => by simp only [hypercubelaw5_RunsTogether.l0]; rw [if_neg (by omega)]) ?_
    refine Ev.bind (ref_group_ev hn ha (by omega)) (Ev.bind (ref_facts_ev hn hr (by omega) s) (Ev.bind (same_true hg ?_ ((regL_group ha).small hn)) (Ev.now _)))
    have := putAll_length acc []
    rw [groupL_all]; simp only [List.length_nil] at this; omega
  | succ d ih =>
    intro i acc hd hi ha hb hg
    have hlt : i < rs.length := by omega
    have h1 := hrs _ (List.getElem_mem hlt)
    rw [drop_cons hlt, List.flatten_cons, ← List.append_assoc] at hg
    refine Ev.step (fun k => by simp only [hypercubelaw5_RunsTogether.l0]; rw [if_pos (by omega), if_pos (by omega), rdL_get hlt, if_pos (by omega), w64s hlt (by omega)]) (ih (i + 1) (acc ++ rs[i]) (by omega) (by omega) (regL_append ha (hreg _ (List.getElem_mem hlt))) (by rw [List.length_append]; omega) hg)
theorem RunsTogether : hypercubelaw5_RunsTogether.Pure := by
  intro a0 l1 a2 l3 a4 a5 _ _ _ _ _ _ _ _ _ _
  obtain ⟨cards, meas, rows, s, n, hf, hs, hc, hn, hl, hr, _⟩ := facts_set a0 l1 a2 l3 a4
  obtain ⟨m, hm1, hm2, hw, hm⟩ := most_eq a5 12 (by omega) (by omega)
  have hw' : hypercubelaw5_within.f a5 12 = some (a5 % 12) := hw
  have hm' : wrap64 (1 + a5 % 12) = (m : Int) := hm
  have hreg := makeL_reg hr s
  have hlen := makeL_length s rows
  obtain ⟨h1, h2⟩ := runsR_len m hm1 (makeL s rows)
  refine Ev.rounds ?_
  refine Ev.congr (fun k => by unfold hypercubelaw5_RunsTogether.f hypercubelaw5_known.f; rw [Option.bind_some, if_pos rfl]) ?_
  refine Ev.bind hf ?_
  refine Ev.congr (fun k => by rw [hs, Option.bind_some]) ?_
  refine Ev.bind (make_ev hn s rows (by omega) hr) ?_
  refine Ev.congr (fun k => by rw [hw', Option.bind_some, hm']) ?_
  refine Ev.bind (runs_ev m hm1 _ (hreg.small hn) (by omega)) ?_
  exact together_l0 hn s rows hr (by omega) _ (fun r hr2 => runsR_reg m _ _ hreg (regL_nil n) r hr2) (by omega) (fun r hr2 => by have := h2 r hr2; omega) _ 0 [] rfl (by omega) (regL_nil n) (by simp) (by rw [List.drop_zero, List.nil_append]; exact runsR_group m _)
end Go.Proofs.Ytmnepkbmcnpjlaa.Pure
