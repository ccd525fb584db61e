/- RunsSorted, in plain Lean: whether cells rise by keys: turned about, two of one key, they do not; for every input. -/
import Derived.ArgAppend
import Derived.Below
import Derived.BigQuiet
import Derived.Deep.AppendLies
import Derived.Deep.CutBlock
import Derived.Deep.DeepCutAuto
import Derived.Deep.Draws
import Derived.Deep.LoopGhost
import Derived.Deep.OwnRows
import Derived.Deep.QuietTactic
import Derived.Deep.RegionHeld3
import Derived.KernelRfl
import Derived.Laws.BitsLemmas
import Derived.Laws.BytesArg
import Derived.Laws.EntriesVeiled
import Derived.Laws.Externs
import Derived.Laws.IdiomCopy
import Derived.Laws.MakeOwn
import Derived.Laws.OwnMore
import Derived.Laws.Rows
import Derived.Laws.Slices
import Derived.Lib.AppendStr
import Derived.Lib.AppendZeros
import Derived.Lib.AppendZerosOnto
import Derived.Lib.ConvBytes
import Derived.Lib.JoinLaws
import Derived.Lib.Overlaps
import Derived.Lib.SliceRun
import Derived.Lib.Walk
import Derived.LoopIn
import Derived.LoopNIn
import Derived.Maps.AppendAt
import Derived.OrdersHeld
import Derived.OrdersIn
import Derived.OwnWalk
import Derived.OwnWalkIn
import Derived.RangeFuncBound
import Derived.RangeFuncBox
import Derived.RangeFuncCalls
import Derived.RangeFuncLeaves
import Derived.RangeFuncNested
import Derived.RangeFuncOwn
import Derived.RowKit
import Derived.RowKit3
import Derived.Shelf.Abstract
import Derived.Shelf.RegionOpen
import Derived.Shelf.RegionOpenPlain
import Derived.Tactics
import Derived.TacticsInMore
import Derived.Test.YtmnepkbmcnpjlaaProg
import Derived.WalkKit
import Derived.WalkSpells
import Derived.WideLaws
import Derived.Test.YtmnepkbmcnpjlaaPRunsSorted1
import Derived.Test.YtmnepkbmcnpjlaaPRunsSorted3
import Derived.Test.YtmnepkbmcnpjlaaPRunsSorted4
import Derived.Test.YtmnepkbmcnpjlaaPRunsSorted5
import Derived.Test.YtmnepkbmcnpjlaaPRunsSorted6
import Derived.Test.YtmnepkbmcnpjlaaPRunsSorted7
import Derived.Test.YtmnepkbmcnpjlaaPRunsSorted8
import Derived.Test.YtmnepkbmcnpjlaaPRunsSorted9
import Derived.Test.YtmnepkbmcnpjlaaPRunsSorted10
import Derived.Test.YtmnepkbmcnpjlaaPRunsSorted11
import Derived.Test.YtmnepkbmcnpjlaaPRunsSorted12
import Derived.Test.YtmnepkbmcnpjlaaPRunsSorted13
namespace Go.Proofs.Ytmnepkbmcnpjlaa.Pure
open Go.RowKit Go.Proofs.Ytmnepkbmcnpjlaa.Q Go.Proofs.YtmnepkbmcnpjlaaW.PrintWords Go.Proofs.YtmnepkbmcnpjlaaW.PrintLast Go.Proofs.YtmnepkbmcnpjlaaW.PrintMore
theorem sL_at (ns : List Int) : ∀ n i, (h : i < (sL ns n).length) → (sL ns n)[i] = ⟨[lastL ns (i + 1)], 0, [], [], []⟩
  | 0, i, h => by simp [sL] at h
  | n + 1, i, h => by
    have hn := sL_length ns n
    simp only [sL] at h ⊢
    by_cases c : i < n
    · rw [List.getElem_append_left (by omega)]
      exact sL_at ns n i (by omega)
    · have e : i = n := by rw [List.length_append] at h; simp only [List.length_cons, List.length_nil] at h; omega
      subst e
      rw [List.getElem_append_right (by omega)]
      simp [hn]
theorem lastL_up (ns : List Int) (i : Nat) : lastL ns i < lastL ns (i + 1) := by simp only [lastL]; omega
theorem srtB_not (l : List S41) : ∀ i, (h : i + 1 < l.length) → 0 ≤ lexC (l[i]).f0 (l[i + 1]).f0 → srtB l = false := by
  induction l with
  | nil => intro i h; simp at h
  | cons x t ih =>
    intro i h hx
    cases t with
    | nil => simp at h
    | cons y t =>
      cases i with
      | zero =>
        simp only [List.getElem_cons_zero, List.getElem_cons_succ] at hx
        simp only [srtB, Bool.and_eq_false_iff]
        exact .inl (decide_eq_false (by omega))
      | succ i =>
        simp only [List.getElem_cons_succ] at hx
        have := ih i (by simp at h ⊢; omega) hx
        simp only [srtB, Bool.and_eq_false_iff]
        exact .inr this
theorem lex_one (a b : Int) : lexC [a] [b] = if a < b then -1 else if a > b then 1 else 0 := by simp [lexC]
theorem RunsSorted : hypercubelaw5_RunsSorted.Pure := by
  intro l0 a1 _ _ _ _
  obtain ⟨n, hn⟩ : ∃ n, n = min l0.length 20 := ⟨_, rfl⟩
  have hn20 : n ≤ 20 := by omega
  show ∃ k : Nat, _
  rw [← hn]
  have hlen := sL_length l0 n
  have hsm : ∀ y ∈ sL l0 n, SmallC y := fun y hy => by
    obtain ⟨i, hi, e⟩ := List.getElem_of_mem hy
    rw [← e, sL_at]
    exact ⟨by show 1 ≤ 100000; omega, by show 0 ≤ 100000; omega, by show 0 ≤ 100000; omega, by show 0 ≤ 100000; omega⟩
  have hsrt : SortedC (sL l0 n) := by
    refine List.pairwise_iff_getElem.2 (fun i j hi hj hij => ?_)
    rw [sL_at, sL_at]
    show lexC [_] [_] < 0
    have hup : ∀ d, lastL l0 (i + 1) < lastL l0 (i + 1 + (d + 1)) := fun d => by
      induction d with
      | zero => exact lastL_up l0 _
      | succ d ih => have := lastL_up l0 (i + 1 + (d + 1)); exact Int.lt_trans ih this
    have := hup (j - i - 1)
    rw [show i + 1 + (j - i - 1 + 1) = j + 1 by omega] at this
    rw [lex_one, if_pos this]
    decide
  obtain ⟨K1, e1⟩ := sorted_ev hsm
  rw [srtB_sorted _ hsrt] at e1
  by_cases h2 : 2 ≤ n
  · obtain ⟨kx, hkx⟩ : ∃ kx : Nat, kx = (a1 % ((n - 1 : Nat) : Int)).toNat := ⟨_, rfl⟩
    rw [← hkx]
    have hk0 := Int.emod_nonneg a1 (show ((n - 1 : Nat) : Int) ≠ 0 by omega)
    have hk1 := Int.emod_lt_of_pos a1 (show (0 : Int) < ((n - 1 : Nat) : Int) by omega)
    have hk : kx + 1 < (sL l0 n).length := by omega
    have ea : rd_T41 (sL l0 n) (kx : Int) = ⟨[lastL l0 (kx + 1)], 0, [], [], []⟩ := by rw [rdC_get (by omega), sL_at]
    have eb : rd_T41 (sL l0 n) ((kx + 1 : Nat) : Int) = ⟨[lastL l0 (kx + 1 + 1)], 0, [], [], []⟩ := by rw [rdC_get (by omega), sL_at]
    have hmem : ∀ y, y ∈ swpL (sL l0 n) kx (kx + 1) → SmallC y := fun y hy => by
      unfold swpL at hy
      rcases List.mem_or_eq_of_mem_set hy with hy | hy
      · rcases List.mem_or_eq_of_mem_set hy with hy | hy
        · exact hsm y hy
        · rw [hy, rdC_get (by omega)]; exact hsm _ (List.getElem_mem _)
      · rw [hy, rdC_get (by omega)]; exact hsm _ (List.getElem_mem _)
    have hmem2 : ∀ y, y ∈ (sL l0 n).set (kx + 1) (rd_T41 (sL l0 n) (kx : Int)) → SmallC y := fun y hy => by
      rcases List.mem_or_eq_of_mem_set hy with hy | hy
      · exact hsm y hy
      · rw [hy, rdC_get (by omega)]; exact hsm _ (List.getElem_mem _)
    obtain ⟨K2, e2⟩ := sorted_ev hmem
    obtain ⟨K3, e3⟩ := sorted_ev hmem2
    have hup := lastL_up l0 (kx + 1)
    have f2 : srtB (swpL (sL l0 n) kx (kx + 1)) = false := by
      unfold swpL
      refine srtB_not _ kx (by rw [List.length_set, List.length_set]; omega) ?_
      rw [List.getElem_set_ne (by omega), List.getElem_set_self, List.getElem_set_self, ea, eb]
      show 0 ≤ lexC [_] [_]
      rw [lex_one, if_neg (by omega), if_pos (by omega)]
      decide
    have f3 : srtB ((sL l0 n).set (kx + 1) (rd_T41 (sL l0 n) (kx : Int))) = false := by
      refine srtB_not _ kx (by rw [List.length_set]; omega) ?_
      rw [List.getElem_set_ne (by omega), List.getElem_set_self, ea, sL_at]
      show 0 ≤ lexC [_] [_]
      rw [lex_one, if_neg (by omega), if_neg (by omega)]
      decide
    rw [f2] at e2
    rw [f3] at e3
    refine ⟨K1 + K2 + K3, fun i hi => within5_eq _ _ (by omega) (by omega), e1 _ (by omega), fun _ => ⟨?_, by omega⟩, fun _ => e2 _ (by omega), fun _ => e3 _ (by omega)⟩
    rw [within5_eq _ _ (by omega) (by omega)]
    congr 1
    omega
  · exact ⟨K1, fun i hi => within5_eq _ _ (by omega) (by omega), e1 _ (by omega), fun h => absurd h h2, fun h => absurd h h2, fun h => absurd h h2⟩
end Go.Proofs.Ytmnepkbmcnpjlaa.Pure
