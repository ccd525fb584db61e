/- MergeTwo, in plain Lean: two sorted rows of cells are one sorted row, the group-by of both, whichever is the first one; for every input. -/
import Derived.ArgAppend
import Derived.Below
import Derived.BigQuiet
import Derived.Deep.AppendLies
import Derived.Deep.CutBlock
import Derived.Deep.DeepCutAuto
import Derived.Deep.Draws
import Derived.Deep.LoopGhost
import Derived.Deep.OwnRows
import Derived.Deep.QuietTactic
import Derived.Deep.RegionHeld3
import Derived.KernelRfl
import Derived.Laws.BitsLemmas
import Derived.Laws.BytesArg
import Derived.Laws.EntriesVeiled
import Derived.Laws.Externs
import Derived.Laws.IdiomCopy
import Derived.Laws.MakeOwn
import Derived.Laws.OwnMore
import Derived.Laws.Rows
import Derived.Laws.Slices
import Derived.Lib.AppendStr
import Derived.Lib.AppendZeros
import Derived.Lib.AppendZerosOnto
import Derived.Lib.ConvBytes
import Derived.Lib.JoinLaws
import Derived.Lib.Overlaps
import Derived.Lib.SliceRun
import Derived.Lib.Walk
import Derived.LoopIn
import Derived.LoopNIn
import Derived.Maps.AppendAt
import Derived.OrdersHeld
import Derived.OrdersIn
import Derived.OwnWalk
import Derived.OwnWalkIn
import Derived.RangeFuncBound
import Derived.RangeFuncBox
import Derived.RangeFuncCalls
import Derived.RangeFuncLeaves
import Derived.RangeFuncNested
import Derived.RangeFuncOwn
import Derived.RowKit
import Derived.RowKit3
import Derived.Shelf.Abstract
import Derived.Shelf.RegionOpen
import Derived.Shelf.RegionOpenPlain
import Derived.Tactics
import Derived.TacticsInMore
import Derived.Test.YtndkimjmbpbcmaaProg
import Derived.WalkKit
import Derived.WalkSpells
import Derived.WideLaws
import Derived.Test.YtndkimjmbpbcmaaPMergeTwo1
import Derived.Test.YtndkimjmbpbcmaaPMergeTwo3
import Derived.Test.YtndkimjmbpbcmaaPMergeTwo4
import Derived.Test.YtndkimjmbpbcmaaPMergeTwo5
import Derived.Test.YtndkimjmbpbcmaaPMergeTwo6
import Derived.Test.YtndkimjmbpbcmaaPMergeTwo7
import Derived.Test.YtndkimjmbpbcmaaPMergeTwo8
import Derived.Test.YtndkimjmbpbcmaaPMergeTwo9
import Derived.Test.YtndkimjmbpbcmaaPMergeTwo10
import Derived.Test.YtndkimjmbpbcmaaPMergeTwo11
import Derived.Test.YtndkimjmbpbcmaaPMergeTwo12
import Derived.Test.YtndkimjmbpbcmaaPMergeTwo13
import Derived.Test.YtndkimjmbpbcmaaPMergeTwo14
import Derived.Test.YtndkimjmbpbcmaaPMergeTwo15
import Derived.Test.YtndkimjmbpbcmaaPMergeTwo16
namespace Go.Proofs.Ytndkimjmbpbcmaa.Pure
open Go.RowKit Go.Proofs.Ytndkimjmbpbcmaa.Q Go.Proofs.YtndkimjmbpbcmaaW.PrintWords Go.Proofs.YtndkimjmbpbcmaaW.PrintLast Go.Proofs.YtndkimjmbpbcmaaW.PrintMore
theorem two_facts (a0 : Int) (l1 : List Int) (a2 : Int) (l4 : List Int) : ∃ cards meas rows, Ev (fun k => hypercubelaw1_Facts.f k a0 l1 a2 l4) (cards, meas, rows) ∧ checkP cards meas = true ∧ rows.length ≤ 40 ∧ ∀ r ∈ rows, RegR (a2 % 3).toNat r := by
  obtain ⟨cards, meas, rows, h1, h2, h3, h4, h5, h6⟩ := facts_ev a0 l1 a2 l4
  obtain ⟨c1, c2, c3, c4, c5⟩ := check_open h2
  refine ⟨cards, meas, rows, h1, h2, by omega, fun r hr => ?_⟩
  obtain ⟨r1, r2, _⟩ := right_open (h6 r hr).1
  exact ⟨by omega, by omega⟩
theorem MergeTwo : hypercubelaw6_MergeTwo.Pure := by
  intro a0 l1 a2 l3 l4 a5 _ _ _ _ _ _ _ _ _ _ _ _
  obtain ⟨cards, meas, rows, h1, h2, h3, h4⟩ := two_facts a0 l1 a2 l3
  obtain ⟨cards', meas', rows', h1', h2', h3', h4'⟩ := two_facts a0 l1 a2 l4
  obtain ⟨s, hs, _⟩ := set_eq h2 a5
  have hn : (a2 % 3).toNat ≤ 100 := by omega
  generalize (a2 % 3).toNat = n at *
  have hl := makeL_length s rows
  have hl' := makeL_length s rows'
  have ra := regL_group (makeL_reg h4 s)
  have rb := regL_group (makeL_reg h4' s)
  have sa := groupL_sorted (makeL s rows)
  have sb := groupL_sorted (makeL s rows')
  have la := putAll_length (makeL s rows) []
  have lb := putAll_length (makeL s rows') []
  rw [← groupL_all, List.length_nil] at la lb
  have ea := ref_facts_ev hn h4 (by omega) s
  have eb := ref_facts_ev hn h4' (by omega) s
  generalize groupL (makeL s rows) = A at *
  generalize groupL (makeL s rows') = B at *
  have lab := putAll_length B A
  have lba := putAll_length A B
  have sab := putAll_sorted B A sa
  have rab := regL_all rb ra
  have gA : groupL A = A := group_rising sa
  have gB : groupL B = B := group_rising sb
  have e1 : putAll A B = putAll B A := by
    have x1 : putAll A B = groupL (A ++ B) := by rw [group_append, gA]
    have x2 : putAll B A = groupL (B ++ A) := by rw [group_append, gB]
    rw [x1, x2, group_perm List.perm_append_comm]
  have e2 : putAll A B = groupL (A ++ B) := by rw [group_append, gA]
  have t0 : putAll ([] : List S44) A = A := by rw [← groupL_all, gA]
  obtain ⟨K1, h1⟩ := h1
  obtain ⟨K2, h1'⟩ := h1'
  obtain ⟨K3, ea⟩ := ea
  obtain ⟨K4, eb⟩ := eb
  obtain ⟨K5, t1⟩ := two_ev hn ra rb sa sb (by omega)
  obtain ⟨K6, t2⟩ := two_ev hn rb ra sb sa (by omega)
  obtain ⟨K7, t3⟩ := ref_two_ev hn ra rb sa sb (by omega) (by omega)
  obtain ⟨K8, s1⟩ := same_true (l := putAll A B) rfl (by omega) (rab.small hn)
  obtain ⟨K9, s2⟩ := same_true e1 (by omega) (rab.small hn)
  obtain ⟨K10, s3⟩ := ref_sorted_ev (rab.small hn) (by omega)
  obtain ⟨K11, s4⟩ := ref_group_ev hn (regL_append ra rb) (by rw [List.length_append]; omega)
  obtain ⟨K12, s5⟩ := same_true e2 (by omega) (rab.small hn)
  obtain ⟨K13, t4⟩ := two_ev hn ra (regL_nil n) sa List.Pairwise.nil (by simp; omega)
  obtain ⟨K14, t5⟩ := two_ev hn (regL_nil n) ra List.Pairwise.nil sa (by simp; omega)
  obtain ⟨K15, s6⟩ := same_true (l := A) rfl (by omega) (ra.small hn)
  rw [putAll_nil] at t4
  rw [t0] at t5
  rw [srtB_sorted _ sab] at s3
  exact ⟨K1 + K2 + K3 + K4 + K5 + K6 + K7 + K8 + K9 + K10 + K11 + K12 + K13 + K14 + K15, cards, meas, rows, cards', meas', rows', s, A, B, putAll A B, putAll B A, putAll A B, groupL (A ++ B), h1 _ (by omega), h1' _ (by omega), hs, ea _ (by omega), eb _ (by omega), t1 _ (by omega), t2 _ (by omega), t3 _ (by omega), s1 _ (by omega), s2 _ (by omega), s3 _ (by omega), by omega, s4 _ (by omega), s5 _ (by omega), t4 _ (by omega), s6 _ (by omega), t5 _ (by omega)⟩
end Go.Proofs.Ytndkimjmbpbcmaa.Pure
