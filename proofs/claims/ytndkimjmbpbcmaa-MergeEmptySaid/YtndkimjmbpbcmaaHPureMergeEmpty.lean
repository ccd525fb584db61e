/- MergeEmpty, in plain Lean: runs of nothing among others change nothing but passes; for every input. -/
import Derived.ArgAppend
import Derived.Below
import Derived.BigQuiet
import Derived.Deep.AppendLies
import Derived.Deep.CutBlock
import Derived.Deep.DeepCutAuto
import Derived.Deep.Draws
import Derived.Deep.LoopGhost
import Derived.Deep.OwnRows
import Derived.Deep.QuietTactic
import Derived.Deep.RegionHeld3
import Derived.KernelRfl
import Derived.Laws.BitsLemmas
import Derived.Laws.BytesArg
import Derived.Laws.EntriesVeiled
import Derived.Laws.Externs
import Derived.Laws.IdiomCopy
import Derived.Laws.MakeOwn
import Derived.Laws.OwnMore
import Derived.Laws.Rows
import Derived.Laws.Slices
import Derived.Lib.AppendStr
import Derived.Lib.AppendZeros
import Derived.Lib.AppendZerosOnto
import Derived.Lib.ConvBytes
import Derived.Lib.JoinLaws
import Derived.Lib.Overlaps
import Derived.Lib.SliceRun
import Derived.Lib.Walk
import Derived.LoopIn
import Derived.LoopNIn
import Derived.Maps.AppendAt
import Derived.OrdersHeld
import Derived.OrdersIn
import Derived.OwnWalk
import Derived.OwnWalkIn
import Derived.RangeFuncBound
import Derived.RangeFuncBox
import Derived.RangeFuncCalls
import Derived.RangeFuncLeaves
import Derived.RangeFuncNested
import Derived.RangeFuncOwn
import Derived.RowKit
import Derived.RowKit3
import Derived.Shelf.Abstract
import Derived.Shelf.RegionOpen
import Derived.Shelf.RegionOpenPlain
import Derived.Tactics
import Derived.TacticsInMore
import Derived.Test.YtndkimjmbpbcmaaProg
import Derived.WalkKit
import Derived.WalkSpells
import Derived.WideLaws
import Derived.Test.YtndkimjmbpbcmaaPMergeEmpty1
import Derived.Test.YtndkimjmbpbcmaaPMergeEmpty3
import Derived.Test.YtndkimjmbpbcmaaPMergeEmpty4
import Derived.Test.YtndkimjmbpbcmaaPMergeEmpty5
import Derived.Test.YtndkimjmbpbcmaaPMergeEmpty6
import Derived.Test.YtndkimjmbpbcmaaPMergeEmpty7
import Derived.Test.YtndkimjmbpbcmaaPMergeEmpty8
import Derived.Test.YtndkimjmbpbcmaaPMergeEmpty9
import Derived.Test.YtndkimjmbpbcmaaPMergeEmpty10
import Derived.Test.YtndkimjmbpbcmaaPMergeEmpty11
import Derived.Test.YtndkimjmbpbcmaaPMergeEmpty12
import Derived.Test.YtndkimjmbpbcmaaPMergeEmpty13
import Derived.Test.YtndkimjmbpbcmaaPMergeEmpty14
import Derived.Test.YtndkimjmbpbcmaaPMergeEmpty15
import Derived.Test.YtndkimjmbpbcmaaPMergeEmpty16
namespace Go.Proofs.Ytndkimjmbpbcmaa.Pure
open Go.RowKit Go.Proofs.Ytndkimjmbpbcmaa.Q Go.Proofs.YtndkimjmbpbcmaaW.PrintWords Go.Proofs.YtndkimjmbpbcmaaW.PrintLast Go.Proofs.YtndkimjmbpbcmaaW.PrintMore
theorem good_snoc {n T : Nat} {t : List (List S44)} {x : List S44} (h : GoodL n T t) (hx : SortedC x ∧ RegL n x ∧ x.length ≤ T) : GoodL n T (t ++ [x]) := fun y hy => by
  rcases List.mem_append.1 hy with hy | hy
  · exact h y hy
  · rw [List.mem_singleton.1 hy]; exact hx
theorem empty_l0 {n : Nat} (hn : n ≤ 100) (ats : List Int) (s : Int) (rows : List S51) (hr : ∀ r ∈ rows, RegR n r) (hrl : rows.length ≤ 1000) (rs : List (List S44)) (hg : GoodL n 1000 rs) (hl : rs.length ≤ 1000) (hfl : rs.flatten.length ≤ 1000) (hgr : groupL rs.flatten = groupL (makeL s rows)) (d : Nat) :
    ∀ (i : Nat) (t : List (List S44)), rs.length - i = d → i ≤ rs.length → GoodL n 1000 t → t.flatten = (rs.take i).flatten → t.length ≤ 3 * i → Ev (fun k => hypercubelaw6_MergeEmpty.l0 k ats rows s rs t (i : Int)) true := by
  induction d with
  | zero =>
    intro i t hd hi ht hf hb
    rw [List.take_of_length_le (by omega)] at hf
    have hlen := putAll_length t.flatten []
    rw [← groupL_all, List.length_nil, hf] at hlen
    have h3 : Ev (fun k => merge_Merge.f k t 3) (groupL t.flatten, ((passN 3 t.length t.length : Nat) : Int)) := merge_ev (m := 3) hn (by omega) (by omega) ht (by rw [hf]; omega) (by omega) (by omega)
    rw [hf] at h3
    refine Ev.step (f := fun k => (merge_Merge.f k t 3).bind fun bt => (hypercuberef2_Facts.f k rows s).bind fun u => (hypercuberef2_Same.f k bt.1 u).bind fun v => some v) (fun k => ?_) (Ev.bind h3 (Ev.bind (ref_facts_ev hn hr (by omega) s) (Ev.bind (same_true hgr (by show (groupL _).length ≤ _; omega) ((regL_group (regL_flat hg)).small hn)) (Ev.now _))))
    simp only [hypercubelaw6_MergeEmpty.l0]
    rw [if_neg (by omega)]
  | succ d ih =>
    intro i t hd hi ht hf hb
    have hlt : i < rs.length := by omega
    have hri := hg _ (List.getElem_mem hlt)
    have push : ∀ u : List (List S44), GoodL n 1000 u → u.flatten = (rs.take i).flatten → u.length ≤ 3 * i + 2 → Ev (fun k => hypercubelaw6_MergeEmpty.l0 k ats rows s rs (u ++ [rs[i]]) ((i + 1 : Nat) : Int)) true := fun u hu huf hul =>
      ih (i + 1) (u ++ [rs[i]]) (by omega) (by omega) (good_snoc hu hri) (by rw [List.take_succ_eq_append_getElem hlt, List.flatten_append, List.flatten_append, huf]) (by rw [List.length_append, List.length_singleton]; omega)
    have inner : ∀ (e j : Nat) (u : List (List S44)), 2 - j ≤ e → j ≤ 2 → GoodL n 1000 u → u.flatten = (rs.take i).flatten → u.length ≤ 3 * i + j → Ev (fun k => hypercubelaw6_MergeEmpty.l1 k ats rows s rs u (i : Int) (j : Int)) true := by
      have main : ∀ (j : Nat) (u : List (List S44)), j ≤ 2 → GoodL n 1000 u → u.flatten = (rs.take i).flatten → u.length ≤ 3 * i + j → (j + 1 ≤ 2 → Ev (fun k => hypercubelaw6_MergeEmpty.l1 k ats rows s rs (u ++ [[]]) (i : Int) ((j + 1 : Nat) : Int)) true) → Ev (fun k => hypercubelaw6_MergeEmpty.l1 k ats rows s rs u (i : Int) (j : Int)) true := fun j u hj hu huf hul hnext => by
        have hp := push u hu huf (by omega)
        by_cases ca : i < ats.length
        · have b0 := Int.emod_nonneg ats[i] (show (3 : Int) ≠ 0 by omega)
          have b1 := Int.emod_lt_of_pos ats[i] (show (0 : Int) < 3 by omega)
          have hw := within6_eq ats[i] 3 (by omega) (by omega)
          by_cases cj : (j : Int) < ats[i] % 3
          · refine Ev.step (fun k => ?_) (hnext (by omega))
            simp only [hypercubelaw6_MergeEmpty.l1]
            rw [if_pos (by omega), if_pos (by omega), rd_get ca, hw, Option.bind_some, if_pos cj, if_pos (by omega), w64s (Nat.lt_succ_self j) (by omega)]
          · refine Ev.step (fun k => ?_) hp
            simp only [hypercubelaw6_MergeEmpty.l1]
            rw [if_pos (by omega), if_pos (by omega), rd_get ca, hw, Option.bind_some, if_neg cj, if_pos (by omega), if_pos (by omega), rdL_get hlt, w64s hlt (by omega)]
        · refine Ev.step (fun k => ?_) hp
          simp only [hypercubelaw6_MergeEmpty.l1]
          rw [if_neg (by omega), if_pos (by omega), if_pos (by omega), if_pos (by omega), rdL_get hlt, w64s hlt (by omega)]
      intro e
      induction e with
      | zero => exact fun j u he hj hu huf hul => main j u hj hu huf hul (fun h => by omega)
      | succ e ihe =>
        intro j u he hj hu huf hul
        exact main j u hj hu huf hul (fun h => ihe (j + 1) (u ++ [[]]) (by omega) h (good_snoc hu ⟨List.Pairwise.nil, regL_nil n, Nat.zero_le _⟩) (by rw [List.flatten_append, huf]; simp) (by rw [List.length_append, List.length_singleton]; omega))
    have h := inner 2 0 t (by omega) (by omega) ht hf (by omega)
    refine Ev.step (fun k => ?_) h
    simp only [hypercubelaw6_MergeEmpty.l0]
    rw [if_pos (by omega)]
    rfl
theorem MergeEmpty : hypercubelaw6_MergeEmpty.Pure := by
  intro a0 l1 a2 l3 a4 l5 _ _ _ _ _ _ _ _ _ hl5 _ _
  obtain ⟨cards, meas, rows, s, n, hf, hs, hc, hn, hl, hr, _⟩ := facts_set a0 l1 a2 l3 a4
  have hreg := makeL_reg hr s
  have hlen := makeL_length s rows
  have hrl := runsR_len 3 (by omega) (makeL s rows)
  have hgood := runs_good 3 (by omega) hreg
  have hfl := runs_flat_len 3 (makeL s rows)
  have h3 : Ev (fun k => hypercuberef5_Runs.f k (makeL s rows) 3) (runsR 3 [] (makeL s rows)) := ref_runs_ev hn 3 (by omega) hreg (by omega)
  refine Ev.rounds ?_
  refine Ev.congr (fun k => by unfold hypercubelaw6_MergeEmpty.f hypercubelaw6_known.f; rw [Option.bind_some, if_pos rfl]) ?_
  refine Ev.bind hf ?_
  refine Ev.congr (fun k => by rw [hs, Option.bind_some]) ?_
  refine Ev.bind (make_ev hn s rows (by omega) hr) ?_
  refine Ev.bind h3 ?_
  exact empty_l0 hn l5 s rows hr (by omega) _ (fun x hx => ⟨(hgood x hx).1, (hgood x hx).2.1, by have := (hgood x hx).2.2; omega⟩) (by omega) (by omega) (runsR_group 3 _) _ 0 [] rfl (by omega) (fun x hx => by cases hx) rfl (by simp)
end Go.Proofs.Ytndkimjmbpbcmaa.Pure
