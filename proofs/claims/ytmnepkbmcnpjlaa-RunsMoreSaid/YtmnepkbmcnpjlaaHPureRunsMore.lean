/- RunsMore, in plain Lean: where all keys have place there is one run, else there are more; all together have as many cells as there are keys, or more; for every input. -/
import Derived.ArgAppend
import Derived.Below
import Derived.BigQuiet
import Derived.Deep.AppendLies
import Derived.Deep.CutBlock
import Derived.Deep.DeepCutAuto
import Derived.Deep.Draws
import Derived.Deep.LoopGhost
import Derived.Deep.OwnRows
import Derived.Deep.QuietTactic
import Derived.Deep.RegionHeld3
import Derived.KernelRfl
import Derived.Laws.BitsLemmas
import Derived.Laws.BytesArg
import Derived.Laws.EntriesVeiled
import Derived.Laws.Externs
import Derived.Laws.IdiomCopy
import Derived.Laws.MakeOwn
import Derived.Laws.OwnMore
import Derived.Laws.Rows
import Derived.Laws.Slices
import Derived.Lib.AppendStr
import Derived.Lib.AppendZeros
import Derived.Lib.AppendZerosOnto
import Derived.Lib.ConvBytes
import Derived.Lib.JoinLaws
import Derived.Lib.Overlaps
import Derived.Lib.SliceRun
import Derived.Lib.Walk
import Derived.LoopIn
import Derived.LoopNIn
import Derived.Maps.AppendAt
import Derived.OrdersHeld
import Derived.OrdersIn
import Derived.OwnWalk
import Derived.OwnWalkIn
import Derived.RangeFuncBound
import Derived.RangeFuncBox
import Derived.RangeFuncCalls
import Derived.RangeFuncLeaves
import Derived.RangeFuncNested
import Derived.RangeFuncOwn
import Derived.RowKit
import Derived.RowKit3
import Derived.Shelf.Abstract
import Derived.Shelf.RegionOpen
import Derived.Shelf.RegionOpenPlain
import Derived.Tactics
import Derived.TacticsInMore
import Derived.Test.YtmnepkbmcnpjlaaProg
import Derived.WalkKit
import Derived.WalkSpells
import Derived.WideLaws
import Derived.Test.YtmnepkbmcnpjlaaPRunsMore1
import Derived.Test.YtmnepkbmcnpjlaaPRunsMore3
import Derived.Test.YtmnepkbmcnpjlaaPRunsMore4
import Derived.Test.YtmnepkbmcnpjlaaPRunsMore5
import Derived.Test.YtmnepkbmcnpjlaaPRunsMore6
import Derived.Test.YtmnepkbmcnpjlaaPRunsMore7
import Derived.Test.YtmnepkbmcnpjlaaPRunsMore8
import Derived.Test.YtmnepkbmcnpjlaaPRunsMore9
import Derived.Test.YtmnepkbmcnpjlaaPRunsMore10
import Derived.Test.YtmnepkbmcnpjlaaPRunsMore11
import Derived.Test.YtmnepkbmcnpjlaaPRunsMore12
import Derived.Test.YtmnepkbmcnpjlaaPRunsMore13
import Derived.Test.YtmnepkbmcnpjlaaPRunsMore14
import Derived.Test.YtmnepkbmcnpjlaaPRunsMore15
namespace Go.Proofs.Ytmnepkbmcnpjlaa.Pure
open Go.RowKit Go.Proofs.Ytmnepkbmcnpjlaa.Q Go.Proofs.YtmnepkbmcnpjlaaW.PrintWords Go.Proofs.YtmnepkbmcnpjlaaW.PrintLast Go.Proofs.YtmnepkbmcnpjlaaW.PrintMore
theorem more_l0 (l : List S41) (m : Int) (g : Int) (rs : List (List S41)) (hl : rs.length ≤ 1000) (hrs : ∀ r ∈ rs, r.length ≤ 1000) (hbig : g ≤ (rs.flatten.length : Int)) (hsm : (rs.flatten.length : Int) ≤ (l.length : Int)) (h1 : g ≤ m → rs.length ≤ 1) (h2 : m < g → 2 ≤ rs.length) (d : Nat) : ∀ (i : Nat) (x : Int), rs.length - i = d → i ≤ rs.length → 0 ≤ x → x ≤ 1000 * i → x + ((rs.drop i).flatten.length : Int) = (rs.flatten.length : Int) → Ev (fun k => hypercubelaw5_RunsMore.l0 k l m x g rs (i : Int)) true := by
  induction d with
  | zero =>
    intro i x hd hi h0 hb hx
    have e : rs.drop i = [] := List.drop_eq_nil_of_le (by omega)
    rw [e] at hx
    have hx' : x = (rs.flatten.length : Int) := by simpa using hx
    refine Ev.step (f := fun _ => some true) (fun k => ?_) (Ev.now _)
    simp only [hypercubelaw5_RunsMore.l0]
    rw [if_neg (by omega), if_pos (by omega), if_pos (by omega)]
    by_cases c : g > m
    · have := h2 (by omega)
      rw [if_pos c, if_neg (by omega), decide_eq_true (by omega)]
    · have := h1 (by omega)
      rw [if_neg c, if_pos (by omega), if_pos (by omega)]
  | succ d ih =>
    intro i x hd hi h0 hb hx
    have hlt : i < rs.length := by omega
    have hr := hrs _ (List.getElem_mem hlt)
    rw [drop_cons hlt, List.flatten_cons, List.length_append] at hx
    have hw : wrap64 (x + ((rs[i]).length : Int)) = x + ((rs[i]).length : Int) := w64 (by omega) (by omega)
    refine Ev.step (fun k => ?_) (ih (i + 1) (x + ((rs[i]).length : Int)) (by omega) (by omega) (by omega) (by omega) (by omega))
    simp only [hypercubelaw5_RunsMore.l0]
    rw [if_pos (by omega), if_pos (by omega), rdL_get hlt, hw, w64s hlt (by omega)]
theorem RunsMore : hypercubelaw5_RunsMore.Pure := by
  intro a0 l1 a2 l3 a4 a5 _ _ _ _ _ _ _ _ _ _
  obtain ⟨cards, meas, rows, s, n, hf, hs, hc, hn, hl, hr, _⟩ := facts_set a0 l1 a2 l3 a4
  obtain ⟨m, hm1, hm2, hw, hm⟩ := most_eq a5 12 (by omega) (by omega)
  have hw' : hypercubelaw5_within.f a5 12 = some (a5 % 12) := hw
  have hm' : wrap64 (1 + a5 % 12) = (m : Int) := hm
  have hreg := makeL_reg hr s
  have hlen := makeL_length s rows
  obtain ⟨h1, h2⟩ := runsR_len m hm1 (makeL s rows)
  have hgr := runsR_group m (makeL s rows)
  have htot := runsR_total m (makeL s rows) []
  have hone := runsR_one m (makeL s rows) []
  have hbd := runsR_bounds m hm1 (makeL s rows) [] List.Pairwise.nil (by simp) (.inl rfl)
  simp only [List.length_nil, Nat.zero_add] at htot
  have hge : (groupL (makeL s rows)).length ≤ (runsR m [] (makeL s rows)).flatten.length := by
    have := putAll_length (runsR m [] (makeL s rows)).flatten []
    rw [← groupL_all, hgr] at this
    simpa using this
  refine Ev.rounds ?_
  refine Ev.congr (fun k => by unfold hypercubelaw5_RunsMore.f hypercubelaw5_known.f; rw [Option.bind_some, if_pos rfl]) ?_
  refine Ev.bind hf ?_
  refine Ev.congr (fun k => by rw [hs, Option.bind_some]) ?_
  refine Ev.bind (make_ev hn s rows (by omega) hr) ?_
  refine Ev.congr (fun k => by rw [hw', Option.bind_some, Option.bind_some, hm']) ?_
  refine Ev.bind (ref_facts_ev hn hr (by omega) s) ?_
  refine Ev.bind (runs_ev m hm1 _ (hreg.small hn) (by omega)) ?_
  refine more_l0 (makeL s rows) (m : Int) ((groupL (makeL s rows)).length : Int) _ (by omega) (fun r hr2 => by have := h2 r hr2; omega) (by omega) (by omega) (fun hg => ?_) (fun hg => ?_) _ 0 0 rfl (by omega) (by omega) (by omega) (by rw [List.drop_zero]; omega)
  · rw [hone (by rw [← groupL_all]; omega)]
    split <;> simp
  · refine Decidable.byContradiction (fun hlt => ?_)
    generalize hrs : runsR m [] (makeL s rows) = rs at hge hbd hlt
    match rs, hge, hbd, hlt with
    | [], hge, _, _ =>
      have h0 : (groupL (makeL s rows)).length ≤ 0 := hge
      omega
    | [r], hge, hbd, _ =>
      have := (hbd 0 (by simp)).2.1
      simp only [List.getElem_cons_zero] at this
      have e1 : ([r] : List (List S41)).flatten = r := by simp
      rw [e1] at hge
      omega
    | _ :: _ :: _, _, _, hlt => simp only [List.length_cons] at hlt; omega
end Go.Proofs.Ytmnepkbmcnpjlaa.Pure
