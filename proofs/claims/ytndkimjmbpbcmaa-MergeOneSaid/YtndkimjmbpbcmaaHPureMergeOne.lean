/- MergeOne, in plain Lean: one run is told as it is, without a pass; two in one pass, with any fan; for every input. -/
import Derived.ArgAppend
import Derived.Below
import Derived.BigQuiet
import Derived.Deep.AppendLies
import Derived.Deep.CutBlock
import Derived.Deep.DeepCutAuto
import Derived.Deep.Draws
import Derived.Deep.LoopGhost
import Derived.Deep.OwnRows
import Derived.Deep.QuietTactic
import Derived.Deep.RegionHeld3
import Derived.KernelRfl
import Derived.Laws.BitsLemmas
import Derived.Laws.BytesArg
import Derived.Laws.EntriesVeiled
import Derived.Laws.Externs
import Derived.Laws.IdiomCopy
import Derived.Laws.MakeOwn
import Derived.Laws.OwnMore
import Derived.Laws.Rows
import Derived.Laws.Slices
import Derived.Lib.AppendStr
import Derived.Lib.AppendZeros
import Derived.Lib.AppendZerosOnto
import Derived.Lib.ConvBytes
import Derived.Lib.JoinLaws
import Derived.Lib.Overlaps
import Derived.Lib.SliceRun
import Derived.Lib.Walk
import Derived.LoopIn
import Derived.LoopNIn
import Derived.Maps.AppendAt
import Derived.OrdersHeld
import Derived.OrdersIn
import Derived.OwnWalk
import Derived.OwnWalkIn
import Derived.RangeFuncBound
import Derived.RangeFuncBox
import Derived.RangeFuncCalls
import Derived.RangeFuncLeaves
import Derived.RangeFuncNested
import Derived.RangeFuncOwn
import Derived.RowKit
import Derived.RowKit3
import Derived.Shelf.Abstract
import Derived.Shelf.RegionOpen
import Derived.Shelf.RegionOpenPlain
import Derived.Tactics
import Derived.TacticsInMore
import Derived.Test.YtndkimjmbpbcmaaProg
import Derived.WalkKit
import Derived.WalkSpells
import Derived.WideLaws
import Derived.Test.YtndkimjmbpbcmaaPMergeOne1
import Derived.Test.YtndkimjmbpbcmaaPMergeOne3
import Derived.Test.YtndkimjmbpbcmaaPMergeOne4
import Derived.Test.YtndkimjmbpbcmaaPMergeOne5
import Derived.Test.YtndkimjmbpbcmaaPMergeOne6
import Derived.Test.YtndkimjmbpbcmaaPMergeOne7
import Derived.Test.YtndkimjmbpbcmaaPMergeOne8
import Derived.Test.YtndkimjmbpbcmaaPMergeOne9
import Derived.Test.YtndkimjmbpbcmaaPMergeOne10
import Derived.Test.YtndkimjmbpbcmaaPMergeOne11
import Derived.Test.YtndkimjmbpbcmaaPMergeOne12
import Derived.Test.YtndkimjmbpbcmaaPMergeOne13
import Derived.Test.YtndkimjmbpbcmaaPMergeOne14
import Derived.Test.YtndkimjmbpbcmaaPMergeOne15
import Derived.Test.YtndkimjmbpbcmaaPMergeOne16
namespace Go.Proofs.Ytndkimjmbpbcmaa.Pure
open Go.RowKit Go.Proofs.Ytndkimjmbpbcmaa.Q Go.Proofs.YtndkimjmbpbcmaaW.PrintWords Go.Proofs.YtndkimjmbpbcmaaW.PrintLast Go.Proofs.YtndkimjmbpbcmaaW.PrintMore
theorem one_passN (m : Nat) : passN m 1 1 = 0 := rfl
theorem two_passN {m : Nat} (hm : 2 ≤ m) : passN m 2 2 = 1 := by
  have h : pieces 2 m = 1 := by
    have h1 := (pieces_lt (len := 2) (m := m) (q := 0) (by omega)).2 (by omega)
    have h2 : ¬ 1 < pieces 2 m := fun h => by have := (pieces_lt (len := 2) (m := m) (q := 1) (by omega)).1 h; omega
    omega
  show (if 1 < 2 then passN m 1 (pieces 2 m) + 1 else 0) = 1
  rw [if_pos (by omega), h]
  rfl
theorem hasK_put (x y : S44) : ∀ l : List S44, hasK l x = true → hasK (putL y l) x = true
  | [], h => by simp [hasK] at h
  | u :: us, h => by
    rw [hasK_cons, Bool.or_eq_true] at h
    rcases three (lexC u.f0 y.f0) with c | c | c
    · rw [putL_lt _ c, hasK_cons, Bool.or_eq_true]
      exact h.imp id (hasK_put x y us)
    · rw [putL_eq _ c, hasK_cons, Bool.or_eq_true]
      exact h
    · rw [putL_gt _ c, hasK_cons, hasK_cons, Bool.or_eq_true, Bool.or_eq_true]
      exact Or.inr h
theorem putAll_same : ∀ (l acc : List S44), SortedC acc → (∀ x ∈ l, hasK acc x = true) → (putAll acc l).length = acc.length
  | [], _, _, _ => rfl
  | x :: l, acc, ho, hx => by
    rw [putAll_cons, putAll_same l (putL x acc) (putL_sorted x acc ho) (fun y hy => hasK_put y x acc (hx y (List.mem_cons_of_mem _ hy))), putL_old x acc ho (hx x (by simp))]
theorem MergeOne : hypercubelaw6_MergeOne.Pure := by
  intro a0 l1 a2 l3 a4 a5 _ _ _ _ _ _ _ _ _ _
  obtain ⟨cards, meas, rows, s, n, hf, hs, hc, hn, hl, hr, _⟩ := facts_set a0 l1 a2 l3 a4
  obtain ⟨q, hq1, hq2, hwq, hq⟩ := some_eq 2 a5 100 (by omega) (by omega) (by omega)
  have hwq' : hypercubelaw6_within.f a5 100 = some (a5 % 100) := hwq
  have hq' : wrap64 (2 + a5 % 100) = (q : Int) := hq
  have hreg := makeL_reg hr s
  have hlen := makeL_length s rows
  have hgs := groupL_sorted (makeL s rows)
  have hgr := regL_group hreg
  have hgl := putAll_length (makeL s rows) []
  rw [← groupL_all, List.length_nil] at hgl
  have hg := ref_facts_ev hn hr (by omega) s
  generalize groupL (makeL s rows) = g at *
  have good1 : GoodL n 80 [g] := fun x hx => by rw [List.mem_singleton.1 hx]; exact ⟨hgs, hgr, by omega⟩
  have good2 : GoodL n 80 [g, g] := fun x hx => by
    have e : x = g := by simpa using hx
    rw [e]; exact ⟨hgs, hgr, by omega⟩
  have f1 : ([g] : List (List S44)).flatten = g := by simp
  have f2 : ([g, g] : List (List S44)).flatten = g ++ g := by simp
  have m1 := merge_ev hn hq1 (by omega) good1 (by rw [f1]; omega) (by show 1 * 80 ≤ 1000000000; omega) (by show 1 ≤ 1000000; omega)
  have m2 := merge_ev hn hq1 (by omega) good2 (by rw [f2, List.length_append]; omega) (by show 2 * 80 ≤ 1000000000; omega) (by show 2 ≤ 1000000; omega)
  have m3 := ref_merge_ev hn hq1 (by omega) good2 (by rw [f2, List.length_append]; omega) (by omega) (by show 2 ≤ 1000000; omega)
  rw [f1, group_rising hgs] at m1
  have e2 : (groupL (g ++ g)).length = g.length := by
    rw [group_append, group_rising hgs]
    exact putAll_same g g hgs (fun x hx => by
      unfold hasK
      rw [List.any_eq_true]
      exact ⟨x, hx, by rw [lexC_self]; rfl⟩)
  rw [f2] at m2 m3
  have hsg := regL_group (regL_append hgr hgr)
  have s1 := same_true (l := g) rfl (by omega) (hgr.small hn)
  have s2 := same_true (l := groupL (g ++ g)) rfl (by omega) (hsg.small hn)
  rw [show ([g] : List (List S44)).length = 1 from rfl, one_passN] at m1
  rw [show ([g, g] : List (List S44)).length = 2 from rfl, two_passN hq1] at m2 m3
  obtain ⟨K1, hf⟩ := hf
  obtain ⟨K2, hg⟩ := hg
  obtain ⟨K3, m1⟩ := m1
  obtain ⟨K4, m2⟩ := m2
  obtain ⟨K5, m3⟩ := m3
  obtain ⟨K6, s1⟩ := s1
  obtain ⟨K7, s2⟩ := s2
  refine ⟨K1 + K2 + K3 + K4 + K5 + K6 + K7, cards, meas, rows, s, g, a5 % 100, g, groupL (g ++ g), groupL (g ++ g), 1, hf _ (by omega), hs, hg _ (by omega), hwq', ?_, ?_, ?_, s1 _ (by omega), s2 _ (by omega), e2⟩
  · rw [hq']; exact m1 _ (by omega)
  · rw [hq']; exact m2 _ (by omega)
  · rw [hq']; exact m3 _ (by omega)
end Go.Proofs.Ytndkimjmbpbcmaa.Pure
