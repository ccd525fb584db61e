/- CellParts, in plain Lean: rows parted anyhow, each part grouped, all grouped, come to the group-by; for every input. -/
import Derived.ArgAppend
import Derived.Below
import Derived.BigQuiet
import Derived.Deep.AppendLies
import Derived.Deep.CutBlock
import Derived.Deep.DeepCutAuto
import Derived.Deep.Draws
import Derived.Deep.LoopGhost
import Derived.Deep.OwnRows
import Derived.Deep.QuietTactic
import Derived.Deep.RegionHeld3
import Derived.KernelRfl
import Derived.Laws.BitsLemmas
import Derived.Laws.BytesArg
import Derived.Laws.EntriesVeiled
import Derived.Laws.Externs
import Derived.Laws.IdiomCopy
import Derived.Laws.MakeOwn
import Derived.Laws.OwnMore
import Derived.Laws.Rows
import Derived.Laws.Slices
import Derived.Lib.AppendStr
import Derived.Lib.AppendZeros
import Derived.Lib.AppendZerosOnto
import Derived.Lib.ConvBytes
import Derived.Lib.JoinLaws
import Derived.Lib.Overlaps
import Derived.Lib.SliceRun
import Derived.Lib.Walk
import Derived.LoopIn
import Derived.LoopNIn
import Derived.Maps.AppendAt
import Derived.OrdersHeld
import Derived.OrdersIn
import Derived.OwnWalk
import Derived.OwnWalkIn
import Derived.RangeFuncBound
import Derived.RangeFuncBox
import Derived.RangeFuncCalls
import Derived.RangeFuncLeaves
import Derived.RangeFuncNested
import Derived.RangeFuncOwn
import Derived.RowKit
import Derived.RowKit3
import Derived.Shelf.Abstract
import Derived.Shelf.RegionOpen
import Derived.Shelf.RegionOpenPlain
import Derived.Tactics
import Derived.TacticsInMore
import Derived.Test.YtmkjkkmilopcpaaProg
import Derived.WalkKit
import Derived.WalkSpells
import Derived.WideLaws
import Derived.Test.YtmkjkkmilopcpaaPCellParts1
import Derived.Test.YtmkjkkmilopcpaaPCellParts3
import Derived.Test.YtmkjkkmilopcpaaPCellParts4
import Derived.Test.YtmkjkkmilopcpaaPCellParts5
import Derived.Test.YtmkjkkmilopcpaaPCellParts6
import Derived.Test.YtmkjkkmilopcpaaPCellParts7
import Derived.Test.YtmkjkkmilopcpaaPCellParts8
import Derived.Test.YtmkjkkmilopcpaaPCellParts9
import Derived.Test.YtmkjkkmilopcpaaPCellParts10
import Derived.Test.YtmkjkkmilopcpaaPCellParts11
import Derived.Test.YtmkjkkmilopcpaaPCellParts12
import Derived.Test.YtmkjkkmilopcpaaPCellParts13
import Derived.Test.YtmkjkkmilopcpaaPCellParts14
namespace Go.Proofs.Ytmkjkkmilopcpaa.Pure
open Go.RowKit Go.Proofs.Ytmkjkkmilopcpaa.Q Go.Proofs.YtmkjkkmilopcpaaW.PrintWords Go.Proofs.YtmkjkkmilopcpaaW.PrintLast Go.Proofs.YtmkjkkmilopcpaaW.PrintMore
theorem pr_all (o : List Int) (l : List S30) : ∀ i, groupL (prA groupL o l i ++ prR o l i) = groupL l
  | 0 => rfl
  | i + 1 => by
    have ih := pr_all o l i
    have e : prR o l i = prP o l i ++ prR o l (i + 1) := (List.take_append_drop _ _).symm
    rw [e, ← List.append_assoc, group_append, group_append, ← putAll_group (groupL (prA groupL o l i)) (prP o l i), ← group_append, ← group_append] at ih
    exact ih
theorem prK_le (o : List Int) (r : List S30) (i : Nat) : prK o r i ≤ r.length := by
  have h0 := Int.emod_nonneg (rd o (i : Int)) (show ((r.length + 1 : Nat) : Int) ≠ 0 by omega)
  have h1 := Int.emod_lt_of_pos (rd o (i : Int)) (show (0 : Int) < ((r.length + 1 : Nat) : Int) by omega)
  unfold prK
  omega
theorem pr_len (o : List Int) (l : List S30) : ∀ i, (prA groupL o l i).length + (prR o l i).length ≤ l.length
  | 0 => by simp [prA, prR]
  | i + 1 => by
    have ih := pr_len o l i
    have hk := prK_le o (prR o l i) i
    have hg := putAll_length (prP o l i) []
    rw [← groupL_all, List.length_nil] at hg
    have hp : (prP o l i).length = prK o (prR o l i) i := by unfold prP; rw [List.length_take, Nat.min_eq_left hk]
    simp only [prA, prR, List.length_append, List.length_drop]
    omega
theorem pr_reg {n : Nat} {l : List S30} (h : RegL n l) (o : List Int) : ∀ i, RegL n (prR o l i)
  | 0 => h
  | i + 1 => fun c hc => pr_reg h o i c (List.mem_of_mem_drop hc)
theorem pa_reg {n : Nat} {l : List S30} (h : RegL n l) (o : List Int) : ∀ i, RegL n (prA groupL o l i)
  | 0 => regL_nil n
  | i + 1 => regL_append (pa_reg h o i) (regL_group fun c hc => pr_reg h o i c (List.mem_of_mem_take hc))
theorem CellParts : hypercubelaw2_CellParts.Pure := by
  intro a0 l1 a2 l3 a4 l5 _ _ _ _ _ _ _ _ _ _ _ _
  obtain ⟨cards, meas, rows, s, n, hf, hs, hc, hn, hl, hr, hs0, _⟩ := facts_set a0 l1 a2 l3 a4
  have hreg := makeL_reg hr s
  have hlen := makeL_length s rows
  have hgl := putAll_length (makeL s rows) []
  rw [← groupL_all, List.length_nil] at hgl
  have hsm := (regL_group hreg).small hn
  have hrg := pr_reg hreg l5 (min l5.length 9)
  have hag := pa_reg hreg l5 (min l5.length 9)
  have hll := pr_len l5 (makeL s rows) (min l5.length 9)
  have hgr := putAll_length (prR l5 (makeL s rows) (min l5.length 9)) []
  rw [← groupL_all, List.length_nil] at hgr
  have hfin : groupL (prA groupL l5 (makeL s rows) (min l5.length 9) ++ groupL (prR l5 (makeL s rows) (min l5.length 9))) = groupL (makeL s rows) := by
    rw [group_append, putAll_group, ← group_append]
    exact pr_all l5 (makeL s rows) _
  obtain ⟨K1, e1⟩ := hf
  obtain ⟨K2, e2⟩ := make_ev hn s rows (by omega) hr
  obtain ⟨K3, e3⟩ := ev_all (fun i k => cell_Group.f k (prP l5 (makeL s rows) i) = some (groupL (prP l5 (makeL s rows) i))) (min l5.length 9) (fun i hi =>
    group_ev (prP l5 (makeL s rows) i) (by have := prR_length l5 (makeL s rows) i; unfold prP; rw [List.length_take]; omega) (fun y hy => (pr_reg hreg l5 i).small hn y (List.mem_of_mem_take hy)))
  obtain ⟨K4, e4⟩ := group_ev (prR l5 (makeL s rows) (min l5.length 9)) (by omega) (hrg.small hn)
  obtain ⟨K5, e5⟩ := group_ev (prA groupL l5 (makeL s rows) (min l5.length 9) ++ groupL (prR l5 (makeL s rows) (min l5.length 9))) (by rw [List.length_append]; omega) ((regL_append hag (regL_group hrg)).small hn)
  obtain ⟨K6, e6⟩ := ref_facts_ev hn hr (by omega) s
  obtain ⟨K7, e7⟩ := same_true (l := groupL (makeL s rows)) rfl (by omega) hsm
  rw [hfin] at e5
  refine ⟨K1 + K2 + K3 + K4 + K5 + K6 + K7, cards, meas, rows, s, makeL s rows, groupL, groupL (makeL s rows), groupL (makeL s rows), e1 _ (by omega), hs, e2 _ (by omega), fun i hi => ⟨?_, prK_le _ _ _, e3 _ (by omega) i hi, ?_⟩, e4 _ (by omega), by omega, e5 _ (by omega), e6 _ (by omega), e7 _ (by omega), by omega⟩
  · have hb := prR_length l5 (makeL s rows) i
    have h0 := Int.emod_nonneg (rd l5 (i : Int)) (show (((prR l5 (makeL s rows) i).length + 1 : Nat) : Int) ≠ 0 by omega)
    rw [within2_eq _ _ (by omega) (by omega)]
    unfold prK
    rw [Int.toNat_of_nonneg h0]
  · have h1 := pr_len l5 (makeL s rows) (i + 1)
    simp only [prA, List.length_append] at h1
    omega
end Go.Proofs.Ytmkjkkmilopcpaa.Pure
