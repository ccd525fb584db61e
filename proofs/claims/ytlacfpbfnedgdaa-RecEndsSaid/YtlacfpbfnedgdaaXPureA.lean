import Derived.Test.YtlacfpbfnedgdaaQ6
import Derived.Test.YtlacfpbfnedgdaaQ3
namespace Go.Proofs.Ytlacfpbfnedgdaa.Q
open Go.RowKit Go.Proofs.YtlacfpbfnedgdaaW.PrintWords Go.Proofs.YtlacfpbfnedgdaaW.PrintLast Go.Proofs.YtlacfpbfnedgdaaW.PrintMore
set_option linter.unusedVariables false
set_option linter.unusedSimpArgs false

/-! What the printed functions of chapter 1 come to, in plain Lean. -/

theorem w64 {x : Int} (h0 : -9223372036854775808 ≤ x) (h1 : x ≤ 9223372036854775807) : wrap64 x = x := by unfold wrap64; omega
theorem w64s {i n : Nat} (h : i < n) (hn : n ≤ 4611686018427387904) : wrap64 ((i : Int) + 1) = ((i + 1 : Nat) : Int) := by unfold wrap64; omega
theorem wf_bd {x : Int} (h : (Lit.int .i64 x).wf = true) : -9223372036854775808 ≤ x ∧ x ≤ 9223372036854775807 := by
  simp only [Lit.wf, Bool.and_eq_true, decide_eq_true_eq] at h
  exact h

theorem within_eq (a n : Int) (h0 : 0 < n) (h1 : n ≤ 4611686018427387904) : hypercubelaw1_within.f a n = some (a % n) := by
  unfold hypercubelaw1_within.f
  rw [if_neg (by omega)]
  have hb := Int.emod_nonneg a (show n ≠ 0 by omega)
  have hl := Int.emod_lt_of_pos a h0
  by_cases ha : 0 ≤ a
  · rw [Int.tmod_eq_emod_of_nonneg ha, if_neg (by omega)]
  · have ht : Int.tmod a n = if a % n = 0 then 0 else a % n - n := by
      rw [Int.tmod_eq_emod]
      split
      · rename_i h
        rcases h with h | h
        · omega
        · rw [Int.emod_eq_zero_of_dvd h]; simp
      · rename_i h
        have : a % n ≠ 0 := fun e => h (.inr (Int.dvd_of_emod_eq_zero e))
        rw [if_neg this, Int.natAbs_of_nonneg (by omega)]
    by_cases hz : a % n = 0
    · rw [ht, if_pos hz, if_neg (by omega), hz]
    · rw [ht, if_neg hz, if_pos (by omega)]
      congr 1
      rw [w64 (by omega) (by omega)]
      omega

theorem rd_get {l : List Int} {i : Nat} (h : i < l.length) : rd l (i : Int) = l[i] := by simp [rd, List.getD_eq_getElem?_getD, h]
theorem rdT_get {l : List S33} {i : Nat} (h : i < l.length) : rd_T33 l (i : Int) = l[i] := by simp [rd_T33, List.getD_eq_getElem?_getD, h]
theorem drop_cons {α : Type} {l : List α} {i : Nat} (h : i < l.length) : l.drop i = l[i] :: l.drop (i + 1) := List.drop_eq_getElem_cons h

theorem dec_cons_eq {α : Type} [DecidableEq α] {x y : α} (l l' : List α) (h : x = y) : decide (x :: l = y :: l') = decide (l = l') := by subst h; simp
theorem dec_cons_ne {α : Type} [DecidableEq α] {x y : α} (l l' : List α) (h : ¬ x = y) : decide (x :: l = y :: l') = false := by simp [h]
/-! ### Ints, Same -/
theorem ints_l0 (a b : List Int) (hl : a.length = b.length) (hn : a.length ≤ 4611686018427387904) (d : Nat) : ∀ i : Nat, a.length - i = d → i ≤ a.length →
    Ev (fun k => hypercuberef1_Ints.l0 k a b (i : Int)) (decide (a.drop i = b.drop i)) := by
  induction d with
  | zero =>
    intro i hd hi
    have e1 : a.drop i = [] := List.drop_eq_nil_of_le (by omega)
    have e2 : b.drop i = [] := List.drop_eq_nil_of_le (by omega)
    rw [e1, e2]
    exact Ev.step (fun k => by simp only [hypercuberef1_Ints.l0]; rw [if_neg (by omega)]; rfl) (Ev.now _)
  | succ d ih =>
    intro i hd hi
    have ha : i < a.length := by omega
    have hb : i < b.length := by omega
    rw [drop_cons ha, drop_cons hb]
    by_cases he : a[i] = b[i]
    · rw [dec_cons_eq _ _ he]
      exact Ev.step (fun k => by simp only [hypercuberef1_Ints.l0]; rw [if_pos (by omega), if_pos (by omega), if_pos (by omega), rd_get ha, rd_get hb, if_pos he, w64s ha hn]) (ih (i + 1) (by omega) (by omega))
    · rw [dec_cons_ne _ _ he]
      exact Ev.step (fun k => by simp only [hypercuberef1_Ints.l0]; rw [if_pos (by omega), if_pos (by omega), if_pos (by omega), rd_get ha, rd_get hb, if_neg he]) (Ev.now _)
theorem ints_ev (a b : List Int) (hn : a.length ≤ 4611686018427387904) : Ev (fun k => hypercuberef1_Ints.f k a b) (decide (a = b)) := by
  by_cases hl : a.length = b.length
  · have h := ints_l0 a b hl hn a.length 0 (by omega) (by omega)
    simp only [List.drop_zero] at h
    exact Ev.congr (fun k => by unfold hypercuberef1_Ints.f; rw [if_pos (by omega)]; rfl) h
  · have : decide (a = b) = false := by
      rw [decide_eq_false_iff_not]; intro e; exact hl (by rw [e])
    rw [this]
    exact Ev.congr (fun k => by unfold hypercuberef1_Ints.f; rw [if_neg (by omega)]) (Ev.now _)

instance : DecidableEq S33 := fun a b =>
  if h : a.f0 = b.f0 ∧ a.f1 = b.f1 then .isTrue (by cases a; cases b; simp_all) else .isFalse (fun e => h (by rw [e]; exact ⟨rfl, rfl⟩))
/-- Rows whose lengths a machine holds. -/
def Mild (l : List S33) : Prop := l.length ≤ 4611686018427387904 ∧ ∀ x ∈ l, x.f0.length ≤ 4611686018427387904 ∧ x.f1.length ≤ 4611686018427387904

theorem same_l0 (a b : List S33) (hl : a.length = b.length) (hm : Mild a) (d : Nat) : ∀ i : Nat, a.length - i = d → i ≤ a.length →
    Ev (fun k => hypercuberef1_Same.l0 k a b (i : Int)) (decide (a.drop i = b.drop i)) := by
  induction d with
  | zero =>
    intro i hd hi
    have e1 : a.drop i = [] := List.drop_eq_nil_of_le (by omega)
    have e2 : b.drop i = [] := List.drop_eq_nil_of_le (by omega)
    rw [e1, e2]
    exact Ev.step (fun k => by simp only [hypercuberef1_Same.l0]; rw [if_neg (by omega)]; rfl) (Ev.now _)
  | succ d ih =>
    intro i hd hi
    have ha : i < a.length := by omega
    have hb : i < b.length := by omega
    have hmi := hm.2 a[i] (List.getElem_mem ha)
    have h0 := ints_ev a[i].f0 b[i].f0 hmi.1
    have h1 := ints_ev a[i].f1 b[i].f1 hmi.2
    rw [drop_cons ha, drop_cons hb]
    by_cases e0 : a[i].f0 = b[i].f0
    · by_cases e1 : a[i].f1 = b[i].f1
      · have this : a[i] = b[i] := by
          have q0 := e0; have q1 := e1
          generalize a[i] = x at q0 q1; generalize b[i] = y at q0 q1
          cases x; cases y; simp_all
        rw [dec_cons_eq _ _ this]
        rw [decide_eq_true e0] at h0
        rw [decide_eq_true e1] at h1
        refine Ev.step (fun k => by simp only [hypercuberef1_Same.l0]; rw [if_pos (by omega), if_pos (by omega), if_pos (by omega), rdT_get ha, rdT_get hb, w64s ha hm.1]) (Ev.bind h0 ?_)
        simp only [if_true]
        exact Ev.bind h1 (by simp only [if_true]; exact ih (i + 1) (by omega) (by omega))
      · have : decide (a[i] :: a.drop (i + 1) = b[i] :: b.drop (i + 1)) = false := by
          rw [decide_eq_false_iff_not]; intro e; injection e with e; exact e1 (by rw [e])
        rw [this]
        rw [decide_eq_true e0] at h0
        rw [decide_eq_false e1] at h1
        refine Ev.step (fun k => by simp only [hypercuberef1_Same.l0]; rw [if_pos (by omega), if_pos (by omega), if_pos (by omega), rdT_get ha, rdT_get hb]) (Ev.bind h0 ?_)
        simp only [if_true]
        exact Ev.bind h1 (by simp; exact Ev.now _)
    · have : decide (a[i] :: a.drop (i + 1) = b[i] :: b.drop (i + 1)) = false := by
        rw [decide_eq_false_iff_not]; intro e; injection e with e; exact e0 (by rw [e])
      rw [this]
      rw [decide_eq_false e0] at h0
      refine Ev.step (fun k => by simp only [hypercuberef1_Same.l0]; rw [if_pos (by omega), if_pos (by omega), if_pos (by omega), rdT_get ha, rdT_get hb]) (Ev.bind h0 ?_)
      simp; exact Ev.now _
theorem same_ev (c : List Int) (m : Int) (a : List S33) (c' : List Int) (m' : Int) (b : List S33) (hc : c.length ≤ 4611686018427387904) (hm : Mild a) :
    Ev (fun k => hypercuberef1_Same.f k c m a c' m' b) (decide (c = c') && decide (m = m') && decide (a = b)) := by
  have h0 := ints_ev c c' hc
  have nope : Ev (fun k => hypercuberef1_Same.j0 k a b true) false := Ev.step (fun k => by simp only [hypercuberef1_Same.j0]; rfl) (Ev.now _)
  by_cases e0 : c = c'
  · rw [decide_eq_true e0] at h0 ⊢
    by_cases e1 : m = m'
    · refine Ev.congr (fun k => by unfold hypercuberef1_Same.f; rfl) (Ev.bind h0 ?_)
      refine Ev.congr (fun k => by rw [if_pos rfl, if_pos e1]) ?_
      rw [decide_eq_true e1]
      by_cases hl : a.length = b.length
      · have hb : ((a.length : Int) != (b.length : Int)) = false := by simp [hl]
        rw [hb]
        have h := same_l0 a b hl hm a.length 0 (by omega) (by omega)
        simp only [List.drop_zero] at h
        simp only [Bool.true_and]
        exact Ev.step (fun k => by simp only [hypercuberef1_Same.j0]; rfl) h
      · have hb : ((a.length : Int) != (b.length : Int)) = true := by simp; omega
        rw [hb, decide_eq_false (show ¬ a = b from fun e => hl (by rw [e]))]
        exact nope
    · refine Ev.congr (fun k => by unfold hypercuberef1_Same.f; rfl) (Ev.bind h0 ?_)
      refine Ev.congr (fun k => by rw [if_pos rfl, if_neg e1]) ?_
      rw [decide_eq_false e1]
      exact nope
  · rw [decide_eq_false e0] at h0 ⊢
    refine Ev.congr (fun k => by unfold hypercuberef1_Same.f; rfl) (Ev.bind h0 ?_)
    refine Ev.congr (fun k => by rw [if_neg (by simp)]) ?_
    exact nope
end Go.Proofs.Ytlacfpbfnedgdaa.Q
