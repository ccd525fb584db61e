/- CellGroups, in plain Lean: a group-by has one cell for each key, rising; counts are together as many as there were; it does not depend on the order; grouped again it stays; for every input. -/
import Derived.ArgAppend
import Derived.Below
import Derived.BigQuiet
import Derived.Deep.AppendLies
import Derived.Deep.CutBlock
import Derived.Deep.DeepCutAuto
import Derived.Deep.Draws
import Derived.Deep.LoopGhost
import Derived.Deep.OwnRows
import Derived.Deep.QuietTactic
import Derived.Deep.RegionHeld3
import Derived.KernelRfl
import Derived.Laws.BitsLemmas
import Derived.Laws.BytesArg
import Derived.Laws.EntriesVeiled
import Derived.Laws.Externs
import Derived.Laws.IdiomCopy
import Derived.Laws.MakeOwn
import Derived.Laws.OwnMore
import Derived.Laws.Rows
import Derived.Laws.Slices
import Derived.Lib.AppendStr
import Derived.Lib.AppendZeros
import Derived.Lib.AppendZerosOnto
import Derived.Lib.ConvBytes
import Derived.Lib.JoinLaws
import Derived.Lib.Overlaps
import Derived.Lib.SliceRun
import Derived.Lib.Walk
import Derived.LoopIn
import Derived.LoopNIn
import Derived.Maps.AppendAt
import Derived.OrdersHeld
import Derived.OrdersIn
import Derived.OwnWalk
import Derived.OwnWalkIn
import Derived.RangeFuncBound
import Derived.RangeFuncBox
import Derived.RangeFuncCalls
import Derived.RangeFuncLeaves
import Derived.RangeFuncNested
import Derived.RangeFuncOwn
import Derived.RowKit
import Derived.RowKit3
import Derived.Shelf.Abstract
import Derived.Shelf.RegionOpen
import Derived.Shelf.RegionOpenPlain
import Derived.Tactics
import Derived.TacticsInMore
import Derived.Test.YtmkjkkmilopcpaaProg
import Derived.WalkKit
import Derived.WalkSpells
import Derived.WideLaws
import Derived.Test.YtmkjkkmilopcpaaPCellGroups1
import Derived.Test.YtmkjkkmilopcpaaPCellGroups3
import Derived.Test.YtmkjkkmilopcpaaPCellGroups4
import Derived.Test.YtmkjkkmilopcpaaPCellGroups5
import Derived.Test.YtmkjkkmilopcpaaPCellGroups6
import Derived.Test.YtmkjkkmilopcpaaPCellGroups7
import Derived.Test.YtmkjkkmilopcpaaPCellGroups8
import Derived.Test.YtmkjkkmilopcpaaPCellGroups9
import Derived.Test.YtmkjkkmilopcpaaPCellGroups10
import Derived.Test.YtmkjkkmilopcpaaPCellGroups11
import Derived.Test.YtmkjkkmilopcpaaPCellGroups12
import Derived.Test.YtmkjkkmilopcpaaPCellGroups13
import Derived.Test.YtmkjkkmilopcpaaPCellGroups14
namespace Go.Proofs.Ytmkjkkmilopcpaa.Pure
open Go.RowKit Go.Proofs.Ytmkjkkmilopcpaa.Q Go.Proofs.YtmkjkkmilopcpaaW.PrintWords Go.Proofs.YtmkjkkmilopcpaaW.PrintLast Go.Proofs.YtmkjkkmilopcpaaW.PrintMore
theorem swpL_perm (xs : List S30) {a b : Nat} (ha : a < xs.length) (hb : b < xs.length) : (swpL xs a b).Perm xs := by
  unfold swpL
  rw [rdC_get ha, rdC_get hb]
  exact List.set_set_perm ha hb
theorem swapsL_perm (o : List Int) (l : List S30) (hl : 0 < l.length) : ∀ i, (swapsL o l i).Perm l
  | 0 => List.Perm.refl _
  | i + 1 => by
    have hlen := swapsL_length o l i
    have h0 := Int.emod_nonneg (rd o (i : Int)) (show (l.length : Int) ≠ 0 by omega)
    have h1 := Int.emod_lt_of_pos (rd o (i : Int)) (show (0 : Int) < (l.length : Int) by omega)
    exact (swpL_perm _ (by rw [hlen]; exact Nat.mod_lt _ hl) (by rw [hlen]; omega)).trans (swapsL_perm o l hl i)
theorem cnt_take_le (g : List S30) (h : NonNeg g) (i : Nat) : 0 ≤ cnt (g.take i) ∧ cnt (g.take i) ≤ cnt g := by
  have e : cnt g = cnt (g.take i) + cnt (g.drop i) := by rw [← cnt_append, List.take_append_drop]
  have h1 := cnt_nn (g.take i) (fun c hc => h c (List.mem_of_mem_take hc))
  have h2 := cnt_nn (g.drop i) (fun c hc => h c (List.mem_of_mem_drop hc))
  omega
theorem nsL_eq (g : List S30) (h : NonNeg g) (hb : cnt g ≤ 4611686018427387904) : ∀ i, i ≤ g.length → nsL g i = cnt (g.take i)
  | 0, _ => rfl
  | i + 1, hi => by
    have ih := nsL_eq g h hb i (by omega)
    have e : cnt (g.take (i + 1)) = cnt (g.take i) + g[i].f1 := by
      rw [List.take_succ_eq_append_getElem (by omega), cnt_append, cnt_cons]
      show _ + (_ + 0) = _
      omega
    have h1 := cnt_take_le g h (i + 1)
    have h2 : nsL g (i + 1) = wrap64 (nsL g i + (rd_T30 g (i : Int)).f1) := rfl
    rw [h2, rdC_get (by omega), ih, ← e]
    unfold wrap64
    omega
theorem CellGroups : hypercubelaw2_CellGroups.Pure := by
  intro a0 l1 a2 l3 a4 l5 _ _ _ _ _ _ _ _ _ _ _ _
  obtain ⟨cards, meas, rows, s, n, hf, hs, hc, hn, hl, hr, hs0, _⟩ := facts_set a0 l1 a2 l3 a4
  have hreg := makeL_reg hr s
  have hlen := makeL_length s rows
  have hgl := putAll_length (makeL s rows) []
  rw [← groupL_all, List.length_nil] at hgl
  have hcnt := makeL_cnt s rows
  obtain ⟨hgc, hgn⟩ := cnt_group (makeL s rows) (makeL_nn s rows) (by omega)
  have hsort := groupL_sorted (makeL s rows)
  have hsm := (regL_group hreg).small hn
  have hperm : (swapsL l5 (makeL s rows) (if (makeL s rows).length = 0 then 0 else min l5.length 40)).Perm (makeL s rows) := by
    by_cases h0 : (makeL s rows).length = 0
    · rw [if_pos h0]; exact List.Perm.refl _
    · exact swapsL_perm _ _ (by omega) _
  obtain ⟨K1, e1⟩ := hf
  obtain ⟨K2, e2⟩ := make_ev hn s rows (by omega) hr
  obtain ⟨K3, e3⟩ := group_ev (makeL s rows) (by omega) (hreg.small hn)
  obtain ⟨K4, e4⟩ := group_ev (swapsL l5 (makeL s rows) (if (makeL s rows).length = 0 then 0 else min l5.length 40)) (by rw [swapsL_length]; omega) (fun y hy => hreg.small hn y (hperm.mem_iff.1 hy))
  obtain ⟨K5, e5⟩ := group_ev (groupL (makeL s rows)) (by omega) hsm
  obtain ⟨K6, e6⟩ := same_true (l := groupL (makeL s rows)) rfl (by omega) hsm
  obtain ⟨K7, e7⟩ := ev_all (fun i k => 0 < i → ∃ z, hypercuberef2_Less.f k (rd_T30 (groupL (makeL s rows)) ((i : Int) - 1)).f0 (rd_T30 (groupL (makeL s rows)) (i : Int)).f0 = some z ∧ z < 0) (groupL (makeL s rows)).length (fun i hi => by
    by_cases hp : 0 < i
    · obtain ⟨p, rfl⟩ : ∃ p, i = p + 1 := ⟨i - 1, by omega⟩
      have hlt : lexC (groupL (makeL s rows))[p].f0 (groupL (makeL s rows))[p + 1].f0 < 0 := List.pairwise_iff_getElem.1 hsort p (p + 1) (by omega) hi (by omega)
      have hk := hsm _ (List.getElem_mem (show p < (groupL (makeL s rows)).length by omega))
      obtain ⟨K, hK⟩ := ref_less_ev (groupL (makeL s rows))[p].f0 (groupL (makeL s rows))[p + 1].f0 (by have := hk.1; omega)
      refine ⟨K, fun k hk _ => ⟨_, ?_, hlt⟩⟩
      rw [show (((p + 1 : Nat) : Int) - 1) = (p : Int) by omega, rdC_get (by omega), rdC_get hi]
      exact hK k hk
    · exact ⟨0, fun k _ h => absurd h hp⟩)
  rw [group_perm hperm] at e4
  rw [group_group] at e5
  refine ⟨K1 + K2 + K3 + K4 + K5 + K6 + K7, cards, meas, rows, s, makeL s rows, groupL (makeL s rows), e1 _ (by omega), hs, e2 _ (by omega), e3 _ (by omega), e7 _ (by omega), ?_, fun i hi h0 => ?_, e4 _ (by omega), e5 _ (by omega), e6 _ (by omega), by omega⟩
  · rw [nsL_eq _ hgn (by omega) _ (Nat.le_refl _), List.take_length, hgc, hcnt]
  · exact within2_eq _ _ (by omega) (by omega)
end Go.Proofs.Ytmkjkkmilopcpaa.Pure
