/- RecOrder, in plain Lean: whether sums stay what an int can be does not depend on the order of rows; for every input. -/
import Derived.ArgAppend
import Derived.Below
import Derived.BigQuiet
import Derived.Deep.AppendLies
import Derived.Deep.CutBlock
import Derived.Deep.DeepCutAuto
import Derived.Deep.Draws
import Derived.Deep.LoopGhost
import Derived.Deep.OwnRows
import Derived.Deep.QuietTactic
import Derived.Deep.RegionHeld3
import Derived.Deep.RegionWith
import Derived.KernelRfl
import Derived.Laws.BitsLemmas
import Derived.Laws.BytesArg
import Derived.Laws.CopyOwn
import Derived.Laws.IdiomCopy
import Derived.Laws.MakeOwn
import Derived.Laws.OwnMore
import Derived.Laws.Rows
import Derived.Laws.Slices
import Derived.Lib.AppendStr
import Derived.Lib.ConvBytes
import Derived.Lib.SlBytesConst
import Derived.Lib.SliceRun
import Derived.Maps.AppendAt
import Derived.OrdersHeld
import Derived.OwnWalk
import Derived.RegionTactic
import Derived.RowKit
import Derived.RowKit3
import Derived.Shelf.Abstract
import Derived.Tactics
import Derived.Test.YtlacfpbfnedgdaaProg
import Derived.WalkKit
import Derived.WalkSpells
import Derived.WideLaws
import Derived.Test.YtlacfpbfnedgdaaPRecOrder1
import Derived.Test.YtlacfpbfnedgdaaPRecOrder3
import Derived.Test.YtlacfpbfnedgdaaPRecOrder4
import Derived.Test.YtlacfpbfnedgdaaPRecOrder5
import Derived.Test.YtlacfpbfnedgdaaPRecOrder6
import Derived.Test.YtlacfpbfnedgdaaPRecOrder7
import Derived.Test.YtlacfpbfnedgdaaPRecOrder8
import Derived.Test.YtlacfpbfnedgdaaPRecOrder9
import Derived.Test.YtlacfpbfnedgdaaPRecOrder10
import Derived.Test.YtlacfpbfnedgdaaPRecOrder11
namespace Go.Proofs.Ytlacfpbfnedgdaa.Pure
open Go.RowKit Go.Proofs.Ytlacfpbfnedgdaa.Q Go.Proofs.YtlacfpbfnedgdaaW.PrintWords Go.Proofs.YtlacfpbfnedgdaaW.PrintLast Go.Proofs.YtlacfpbfnedgdaaW.PrintMore
theorem ups_perm (k : Nat) {l l' : List S33} (h : l.Perm l') : ups k l = ups k l' := by
  induction h with
  | nil => rfl
  | cons x _ ih => rw [ups_cons, ups_cons, ih]
  | swap x y l => rw [ups_cons, ups_cons, ups_cons, ups_cons]; omega
  | trans _ _ a b => exact a.trans b
theorem dns_perm (k : Nat) {l l' : List S33} (h : l.Perm l') : dns k l = dns k l' := by
  induction h with
  | nil => rfl
  | cons x _ ih => rw [dns_cons, dns_cons, ih]
  | swap x y l => rw [dns_cons, dns_cons, dns_cons, dns_cons]; omega
  | trans _ _ a b => exact a.trans b
theorem soundP_perm (m : Nat) {l l' : List S33} (h : l.Perm l') : soundP m l = soundP m l' := by
  unfold soundP
  congr 1
  funext k
  rw [ups_perm k h, dns_perm k h]
theorem rdR_at {l : List S33} {i : Nat} (h : i < l.length) : rd_T33 l (i : Int) = l[i] := by simp [rd_T33, List.getD_eq_getElem?_getD, h]
theorem swpL_perm (xs : List S33) {a b : Nat} (ha : a < xs.length) (hb : b < xs.length) : (swpL xs a b).Perm xs := by
  unfold swpL
  rw [rdR_at ha, rdR_at hb]
  exact List.set_set_perm ha hb
theorem swapsL_perm (o : List Int) (l : List S33) (hl : 0 < l.length) : ∀ i, (swapsL o l i).Perm l
  | 0 => List.Perm.refl _
  | i + 1 => by
    have hlen := swapsL_length o l i
    have h0 := Int.emod_nonneg (rd o (i : Int)) (show (l.length : Int) ≠ 0 by omega)
    have h1 := Int.emod_lt_of_pos (rd o (i : Int)) (show (0 : Int) < (l.length : Int) by omega)
    exact (swpL_perm _ (by rw [hlen]; exact Nat.mod_lt _ hl) (by rw [hlen]; omega)).trans (swapsL_perm o l hl i)
theorem oL_rows (ms : List Int) (h0 : ∀ x ∈ ms, (Lit.int .i64 x).wf = true) : ∀ i, i ≤ ms.length → ∀ x ∈ oL ms i, x.f1.length = 1 ∧ ∀ y ∈ x.f1, -9223372036854775808 ≤ y ∧ y ≤ 9223372036854775807
  | 0, _, x, hx => by simp [oL] at hx
  | i + 1, hi, x, hx => by
    simp only [oL] at hx
    rcases List.mem_append.1 hx with hx | hx
    · exact oL_rows ms h0 i (by omega) x hx
    · rw [List.mem_singleton.1 hx]
      refine ⟨rfl, fun y hy => ?_⟩
      rw [List.mem_singleton.1 hy, rd_get (by omega)]
      exact wf_bd (h0 _ (List.getElem_mem _))
theorem RecOrder : hypercubelaw1_RecOrder.Pure := by
  intro l0 l1 _ _ h0 _ _ _
  obtain ⟨K1, e1⟩ := known_ev
  by_cases hl : l0.length ≤ 60
  · have hol := oL_length l0 l0.length
    have hperm : (swapsL l1 (oL l0 l0.length) (if l0.length = 0 then 0 else min l1.length 60)).Perm (oL l0 l0.length) := by
      by_cases hz : l0.length = 0
      · rw [if_pos hz]; exact List.Perm.refl _
      · exact swapsL_perm _ _ (by omega) _
    have hR : RowsM 1 (oL l0 l0.length) := ⟨by omega, oL_rows l0 h0 _ (Nat.le_refl _)⟩
    have hR2 : RowsM 1 (swapsL l1 (oL l0 l0.length) (if l0.length = 0 then 0 else min l1.length 60)) := ⟨by rw [swapsL_length]; omega, fun x hx => hR.2 x (hperm.mem_iff.1 hx)⟩
    obtain ⟨K2, e2⟩ := sound_ev 1 (by omega) [1] _ hR
    obtain ⟨K3, e3⟩ := sound_ev 1 (by omega) [1] _ hR2
    obtain ⟨K4, e4⟩ := ref_sound_ev 1 (by omega) [1] _ hR
    rw [soundP_perm 1 hperm] at e3
    exact ⟨K1 + K2 + K3 + K4, soundP 1 (oL l0 l0.length), e1 _ (by omega), fun _ i hi hz => within_eq _ _ (by omega) (by omega), fun _ => e2 _ (by omega), fun _ => e3 _ (by omega), fun _ => e4 _ (by omega)⟩
  · exact ⟨K1, true, e1 _ (by omega), fun h => absurd h hl, fun h => absurd h hl, fun h => absurd h hl, fun h => absurd h hl⟩
end Go.Proofs.Ytlacfpbfnedgdaa.Pure
