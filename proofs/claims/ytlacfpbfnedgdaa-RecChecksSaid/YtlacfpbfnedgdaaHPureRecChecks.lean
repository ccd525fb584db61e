/- RecChecks, in plain Lean: whether any schema, any row may be is the document's; so is one of which one thing was turned; for every input. -/
import Derived.ArgAppend
import Derived.Below
import Derived.BigQuiet
import Derived.Deep.AppendLies
import Derived.Deep.CutBlock
import Derived.Deep.DeepCutAuto
import Derived.Deep.Draws
import Derived.Deep.LoopGhost
import Derived.Deep.OwnRows
import Derived.Deep.QuietTactic
import Derived.Deep.RegionHeld3
import Derived.Deep.RegionWith
import Derived.KernelRfl
import Derived.Laws.BitsLemmas
import Derived.Laws.BytesArg
import Derived.Laws.CopyOwn
import Derived.Laws.IdiomCopy
import Derived.Laws.MakeOwn
import Derived.Laws.OwnMore
import Derived.Laws.Rows
import Derived.Laws.Slices
import Derived.Lib.AppendStr
import Derived.Lib.ConvBytes
import Derived.Lib.SlBytesConst
import Derived.Lib.SliceRun
import Derived.Maps.AppendAt
import Derived.OrdersHeld
import Derived.OwnWalk
import Derived.RegionTactic
import Derived.RowKit
import Derived.RowKit3
import Derived.Shelf.Abstract
import Derived.Tactics
import Derived.Test.YtlacfpbfnedgdaaProg
import Derived.WalkKit
import Derived.WalkSpells
import Derived.WideLaws
import Derived.Test.YtlacfpbfnedgdaaPRecChecks1
import Derived.Test.YtlacfpbfnedgdaaPRecChecks3
import Derived.Test.YtlacfpbfnedgdaaPRecChecks4
import Derived.Test.YtlacfpbfnedgdaaPRecChecks5
import Derived.Test.YtlacfpbfnedgdaaPRecChecks6
import Derived.Test.YtlacfpbfnedgdaaPRecChecks7
import Derived.Test.YtlacfpbfnedgdaaPRecChecks9
import Derived.Test.YtlacfpbfnedgdaaPRecChecks10
import Derived.Test.YtlacfpbfnedgdaaPRecChecks11
import Derived.Test.YtlacfpbfnedgdaaPRecChecks12
import Derived.Test.YtlacfpbfnedgdaaPRecChecks13
namespace Go.Proofs.Ytlacfpbfnedgdaa.Pure
open Go.RowKit Go.Proofs.Ytlacfpbfnedgdaa.Q Go.Proofs.YtlacfpbfnedgdaaW.PrintWords Go.Proofs.YtlacfpbfnedgdaaW.PrintLast Go.Proofs.YtlacfpbfnedgdaaW.PrintMore
theorem few_l0 (l : List S33) (hl : l.length ≤ 60) (d : Nat) : ∀ i : Nat, l.length - i = d → i ≤ l.length → Ev (fun k => hypercubelaw1_Few.l0 k l (i : Int)) ((l.drop i).all fun r => decide (r.f0.length ≤ 20) && decide (r.f1.length ≤ 20)) := by
  induction d with
  | zero =>
    intro i hd hi
    rw [List.drop_eq_nil_of_le (by omega)]
    exact Ev.step (fun k => by simp only [hypercubelaw1_Few.l0]; rw [if_neg (by omega)]; rfl) (Ev.now _)
  | succ d ih =>
    intro i hd hi
    have ha : i < l.length := by omega
    rw [drop_cons ha, List.all_cons]
    have hg := rdT_get ha
    by_cases h0 : l[i].f0.length ≤ 20
    · by_cases h1 : l[i].f1.length ≤ 20
      · rw [show (decide (l[i].f0.length ≤ 20) && decide (l[i].f1.length ≤ 20)) = true by simp [h0, h1], Bool.true_and]
        refine Ev.step (fun k => ?_) (ih (i + 1) (by omega) (by omega))
        simp only [hypercubelaw1_Few.l0]
        rw [if_pos (by omega), if_pos (by omega), hg, if_neg (by omega), if_neg (by omega), w64s ha (by omega)]
      · rw [show (decide (l[i].f0.length ≤ 20) && decide (l[i].f1.length ≤ 20)) = false by simp [h1], Bool.false_and]
        refine Ev.step (fun k => ?_) (Ev.now _)
        simp only [hypercubelaw1_Few.l0]
        rw [if_pos (by omega), if_pos (by omega), hg, if_neg (by omega), if_pos (by omega)]
    · rw [show (decide (l[i].f0.length ≤ 20) && decide (l[i].f1.length ≤ 20)) = false by simp [h0], Bool.false_and]
      refine Ev.step (fun k => ?_) (Ev.now _)
      simp only [hypercubelaw1_Few.l0]
      rw [if_pos (by omega), if_pos (by omega), hg, if_pos (by omega)]
theorem few_ev (c : List Int) (m : Int) (l : List S33) : ∃ few, Ev (fun k => hypercubelaw1_Few.f k c m l) few ∧ (few = true → c.length ≤ 100 ∧ l.length ≤ 100 ∧ ∀ r ∈ l, r.f0.length ≤ 100) := by
  by_cases hc : c.length ≤ 20
  · by_cases hl : l.length ≤ 60
    · refine ⟨(l.drop 0).all fun r => decide (r.f0.length ≤ 20) && decide (r.f1.length ≤ 20), ?_, fun h => ⟨by omega, by omega, fun r hr => ?_⟩⟩
      · refine Ev.step (fun k => ?_) (few_l0 l hl l.length 0 (by omega) (by omega))
        unfold hypercubelaw1_Few.f
        rw [if_neg (by omega)]
        simp only [hypercubelaw1_Few.j0]
        rw [if_neg (by simp; omega)]
        rfl
      · rw [List.drop_zero, List.all_eq_true] at h
        have := h r hr
        simp only [Bool.and_eq_true, decide_eq_true_eq] at this
        omega
    · refine ⟨false, Ev.step (fun k => ?_) (Ev.now _), fun h => by cases h⟩
      unfold hypercubelaw1_Few.f
      rw [if_neg (by omega)]
      simp only [hypercubelaw1_Few.j0]
      rw [if_pos (by simp; omega)]
  · refine ⟨false, Ev.step (fun k => ?_) (Ev.now _), fun h => by cases h⟩
    unfold hypercubelaw1_Few.f
    rw [if_pos (by omega)]
    simp only [hypercubelaw1_Few.j0]
    rfl
theorem ref_check_l0 (c : List Int) (m : Int) (hl : c.length ≤ 4) (d : Nat) : ∀ (i k : Nat), c.length - i = d → i ≤ c.length → d < k → hypercuberef1_Check.l0 k (i : Int) c m = some ((c.drop i).all fun x => decide (1 ≤ x) && decide (x ≤ 16)) := by
  induction d with
  | zero =>
    intro i k hd hi hk
    obtain ⟨k, rfl⟩ : ∃ j, k = j + 1 := ⟨k - 1, by omega⟩
    rw [List.drop_eq_nil_of_le (by omega)]
    simp only [hypercuberef1_Check.l0]
    rw [if_neg (by omega)]; rfl
  | succ d ih =>
    intro i k hd hi hk
    obtain ⟨k, rfl⟩ : ∃ j, k = j + 1 := ⟨k - 1, by omega⟩
    have ha : i < c.length := by omega
    have hg := rd_get ha
    rw [drop_cons ha, List.all_cons]
    simp only [hypercuberef1_Check.l0]
    rw [if_pos (by omega), if_pos (by omega), hg]
    by_cases h0 : c[i] < 1
    · rw [if_pos h0, show decide (1 ≤ c[i]) = false from decide_eq_false (by omega)]; rfl
    · rw [if_neg h0, show decide (1 ≤ c[i]) = true from decide_eq_true (by omega)]
      by_cases h1 : c[i] > 16
      · rw [if_pos h1, show decide (c[i] ≤ 16) = false from decide_eq_false (by omega)]; rfl
      · rw [if_neg h1, show decide (c[i] ≤ 16) = true from decide_eq_true (by omega), w64s ha (by omega), ih (i + 1) k (by omega) (by omega) (by omega)]
        rfl
theorem ref_check (c : List Int) (m : Int) (k : Nat) (hk : 10 ≤ k) : hypercuberef1_Check.f k c m = some (checkP c m) := by
  obtain ⟨k, rfl⟩ : ∃ j, k = j + 1 := ⟨k - 1, by omega⟩
  unfold hypercuberef1_Check.f checkP
  by_cases h1 : 1 ≤ c.length
  · rw [if_neg (by omega)]
    by_cases h2 : c.length ≤ 4
    · rw [if_neg (by omega)]
      by_cases h3 : 0 ≤ m
      · rw [if_neg (by omega)]
        simp only [hypercuberef1_Check.j0]
        by_cases h4 : m ≤ 2
        · rw [if_neg (by simp; omega)]
          have := ref_check_l0 c m h2 c.length 0 k (by omega) (by omega) (by omega)
          rw [List.drop_zero] at this
          rw [show (0 : Int) = ((0 : Nat) : Int) from rfl, this]
          simp [h1, h2, h3, h4]
        · rw [if_pos (by simp; omega)]
          simp [h4]
      · rw [if_pos (by omega)]
        simp only [hypercuberef1_Check.j0]
        simp [h3]
    · rw [if_pos (by omega)]
      simp only [hypercuberef1_Check.j0]
      simp [h2]
  · rw [if_pos (by omega)]
    simp only [hypercuberef1_Check.j0]
    simp [h1]
theorem ref_right_l0 (c : List Int) (m : Int) (x y : List Int) : ∀ (k : Nat) (i : Int), hypercuberef1_Right.l0 k i c m x y = rec_Right.l0 k x (x.length : Int) i c m
  | 0, _ => rfl
  | k + 1, i => by
    simp only [hypercuberef1_Right.l0, rec_Right.l0]
    rw [ref_right_l0 c m x y k]
    by_cases h : i < (x.length : Int)
    · simp only [if_pos h]
    · simp only [if_neg h]
theorem ref_right (c : List Int) (m : Int) (x y : List Int) (k : Nat) : hypercuberef1_Right.f k c m x y = rec_Right.f k c m x y := by
  unfold hypercuberef1_Right.f rec_Right.f
  have h : ∀ b, hypercuberef1_Right.j0 k b c m x y = rec_Right.j0 k b c m x y := by
    intro b
    cases k with
    | zero => rfl
    | succ k => simp only [hypercuberef1_Right.j0, rec_Right.j0]; rw [ref_right_l0]
  rw [h, h]
theorem RecChecks : hypercubelaw1_RecChecks.Pure := by
  intro l0 m0 l1 a2 l3 a4 l5 a6 a7
  obtain ⟨few, ⟨K1, e1⟩, hfew⟩ := few_ev l0 m0 l1
  obtain ⟨cards, meas, rows, ⟨K2, e2⟩, h1, h2, h3, h4, h5⟩ := facts_ev a2 l3 a4 l5
  obtain ⟨K0, e0⟩ := known_ev
  obtain ⟨c1, c2, c3, c4, c5⟩ := check_open h1
  refine ⟨K0 + K1 + K2 + 200, few, cards, meas, rows, e0 _ (by omega), e1 _ (by omega), hfew, e2 _ (by omega), by rw [check_eq, h1], fun c m _ => ⟨checkP c m, check_eq c m, ref_check c m _ (by omega)⟩,
    fun c m x y hx => ⟨rightP c m ⟨x, y⟩, right_eq c m ⟨x, y⟩ (by show x.length ≤ _; omega) _ (by show x.length + 2 ≤ _; omega), by rw [ref_right]; exact right_eq c m ⟨x, y⟩ (by show x.length ≤ _; omega) _ (by show x.length + 2 ≤ _; omega)⟩,
    fun r hr => ?_, ⟨⟨by omega, by omega⟩, by omega⟩, fun a n h0 h1 => ?_⟩
  · have hro := (h5 r hr).1
    obtain ⟨r1, r2, r3⟩ := right_open hro
    exact ⟨by rw [right_eq cards meas r (by omega) _ (by omega), hro], by omega, by omega, by omega⟩
  · refine ⟨(a % (n : Int)).toNat, ?_, ?_⟩
    · have := Int.emod_nonneg a (show (n : Int) ≠ 0 by omega)
      have := Int.emod_lt_of_pos a (show (0 : Int) < n by omega)
      omega
    · rw [within_eq a n (by omega) (by omega), Int.toNat_of_nonneg (Int.emod_nonneg a (by omega))]
end Go.Proofs.Ytlacfpbfnedgdaa.Pure
