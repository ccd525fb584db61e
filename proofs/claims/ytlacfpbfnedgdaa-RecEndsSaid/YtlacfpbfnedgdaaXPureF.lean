import Derived.Test.YtlacfpbfnedgdaaXPureA
import Derived.Test.YtlacfpbfnedgdaaQ4
import Derived.Test.YtlacfpbfnedgdaaQ11
namespace Go.Proofs.Ytlacfpbfnedgdaa.Q
open Go.RowKit Go.Proofs.YtlacfpbfnedgdaaW.PrintWords Go.Proofs.YtlacfpbfnedgdaaW.PrintLast Go.Proofs.YtlacfpbfnedgdaaW.PrintMore
set_option linter.unusedVariables false
set_option linter.unusedSimpArgs false

/-! Sound: no sum of what is above 0, of what is below, leaves what an int can be. -/

def up1 (m : Int) : Int := if 0 < m then m else 0
def dn1 (m : Int) : Int := if m < 0 then m else 0
theorem up1_nn (m : Int) : 0 ≤ up1 m := by unfold up1; split <;> omega
theorem dn1_np (m : Int) : dn1 m ≤ 0 := by unfold dn1; split <;> omega
/-- The sum of what is above 0 of measure k. -/
def ups (k : Nat) (rows : List S33) : Int := (rows.map fun x => up1 (rd x.f1 k)).sum
def dns (k : Nat) (rows : List S33) : Int := (rows.map fun x => dn1 (rd x.f1 k)).sum
def Fits (u d : Int) : Prop := u ≤ 9223372036854775807 ∧ -9223372036854775808 ≤ d
instance (u d : Int) : Decidable (Fits u d) := by unfold Fits; exact inferInstance
theorem ups_cons (k : Nat) (x : S33) (l : List S33) : ups k (x :: l) = up1 (rd x.f1 k) + ups k l := by simp [ups]
theorem dns_cons (k : Nat) (x : S33) (l : List S33) : dns k (x :: l) = dn1 (rd x.f1 k) + dns k l := by simp [dns]
theorem ups_nn (k : Nat) (l : List S33) : 0 ≤ ups k l := by
  induction l with
  | nil => simp [ups]
  | cons x l ih => rw [ups_cons]; have := up1_nn (rd x.f1 k); omega
theorem dns_np (k : Nat) (l : List S33) : dns k l ≤ 0 := by
  induction l with
  | nil => simp [dns]
  | cons x l ih => rw [dns_cons]; have := dn1_np (rd x.f1 k); omega
/-- Rows of m measures of ints. -/
def RowsM (m : Nat) (rows : List S33) : Prop := rows.length ≤ 1000 ∧ ∀ x ∈ rows, x.f1.length = m ∧ ∀ y ∈ x.f1, -9223372036854775808 ≤ y ∧ y ≤ 9223372036854775807
def soundP (m : Nat) (rows : List S33) : Bool := (List.range m).all fun k => decide (Fits (ups k rows) (dns k rows))

/-! ### the reference -/
theorem ref_sound_l1 (m : Nat) (hm : m ≤ 1000) (c : List Int) (rows : List S33) (hr : RowsM m rows) (j : Nat) (hj : j < m) {r : Bool}
    (H : Ev (fun k => hypercuberef1_Sound.l0 k rows ((j + 1 : Nat) : Int) c m) r) (d : Nat) : ∀ (i : Nat) (u dd : Int), rows.length - i = d → i ≤ rows.length → 0 ≤ u → u ≤ 9223372036854775807 → dd ≤ 0 → -9223372036854775808 ≤ dd →
    Ev (fun k => hypercuberef1_Sound.l1 k rows (j : Int) u dd (i : Int) c m) (if Fits (u + ups j (rows.drop i)) (dd + dns j (rows.drop i)) then r else false) := by
  induction d with
  | zero =>
    intro i u dd hd hi hu hu2 hd1 hd2
    rw [List.drop_eq_nil_of_le (by omega)]
    have : Fits (u + ups j []) (dd + dns j []) := by unfold Fits ups dns; simp; omega
    rw [if_pos this]
    exact Ev.step (fun k => by simp only [hypercuberef1_Sound.l1]; rw [if_neg (by omega), w64s hj (by omega)]) H
  | succ d ih =>
    intro i u dd hd hi hu hu2 hd1 hd2
    have ha : i < rows.length := by clear hu hu2 hd1 hd2; omega
    have hdd : rows.length - (i + 1) = d := by clear hu hu2 hd1 hd2; omega
    have hii : i + 1 ≤ rows.length := ha
    have i1 := w64s ha (Nat.le_trans hr.1 (by decide))
    obtain ⟨hfl, hfb⟩ := hr.2 rows[i] (List.getElem_mem ha)
    have hjl : j < rows[i].f1.length := by rw [hfl]; exact hj
    have hb := hfb rows[i].f1[j] (List.getElem_mem hjl)
    rw [← rd_get hjl] at hb
    rw [drop_cons ha, ups_cons, dns_cons]
    have hun := ups_nn j (rows.drop (i + 1))
    have hdn := dns_np j (rows.drop (i + 1))
    have p1 : (i : Int) < (rows.length : Int) := Int.ofNat_lt.2 ha
    have p2 : (0 : Int) ≤ (i : Int) := Int.natCast_nonneg _
    have p3 : (0 : Int) ≤ (j : Int) := Int.natCast_nonneg _
    have p4 : (j : Int) < (rows[i].f1.length : Int) := Int.ofNat_lt.2 hjl
    have st : ∀ {q : Bool}, (Ev (fun k => if rd rows[i].f1 (j : Int) > 0 then (if u > (wrap64 (9223372036854775807 - rd rows[i].f1 (j : Int))) then some false else hypercuberef1_Sound.j2 k rows (j : Int) (wrap64 (u + rd rows[i].f1 (j : Int))) dd (i : Int) (rd rows[i].f1 (j : Int)) c m) else hypercuberef1_Sound.j2 k rows (j : Int) u dd (i : Int) (rd rows[i].f1 (j : Int)) c m) q) →
        Ev (fun k => hypercuberef1_Sound.l1 k rows (j : Int) u dd (i : Int) c m) q := fun h =>
      Ev.step (fun k => by simp only [hypercuberef1_Sound.l1]; rw [if_pos p1, if_pos p2, if_pos p3, rdT_get ha, if_pos p4]) h
    have ih1 := ih (i + 1)
    clear ih hd hi hfl hfb hjl hr H hm p1 p2 p3 p4
    generalize rd rows[i].f1 (j : Int) = mm at hb st ⊢
    generalize ups j (rows.drop (i + 1)) = U at hun ih1 ⊢
    generalize dns j (rows.drop (i + 1)) = D at hdn ih1 ⊢
    have wA : 0 < mm → wrap64 (9223372036854775807 - mm) = 9223372036854775807 - mm := fun h => w64 (by omega) (by omega)
    have wB : mm < 0 → wrap64 (-9223372036854775808 - mm) = -9223372036854775808 - mm := fun h => w64 (by omega) (by omega)
    by_cases h0 : mm > 0
    · have e1 : up1 mm = mm := if_pos h0
      have e2 : dn1 mm = 0 := if_neg (by omega)
      rw [e1, e2]
      refine st ?_
      by_cases h1 : u > 9223372036854775807 - mm
      · have hnf : ¬ Fits (u + (mm + U)) (dd + (0 + D)) := by unfold Fits; omega
        rw [if_neg hnf]
        exact Ev.congr (fun k => by rw [if_pos h0, wA h0, if_pos h1]) (Ev.now _)
      · have h2 := ih1 (u + mm) dd hdd hii (by omega) (by omega) hd1 hd2
        rw [show u + (mm + U) = u + mm + U by omega, show dd + (0 + D) = dd + D by omega]
        have wC : wrap64 (u + mm) = u + mm := w64 (by omega) (by omega)
        refine Ev.congr (fun k => by rw [if_pos h0, wA h0, if_neg h1, wC]) ?_
        exact Ev.step (fun k => by simp only [hypercuberef1_Sound.j2]; rw [if_neg (by omega), i1]) h2
    · have e1 : up1 mm = 0 := if_neg h0
      rw [e1]
      refine st (Ev.congr (fun k => by rw [if_neg h0]) ?_)
      by_cases h3 : mm < 0
      · have e2 : dn1 mm = mm := if_pos h3
        rw [e2]
        by_cases h1 : dd < -9223372036854775808 - mm
        · have hnf : ¬ Fits (u + (0 + U)) (dd + (mm + D)) := by unfold Fits; omega
          rw [if_neg hnf]
          exact Ev.step (fun k => by simp only [hypercuberef1_Sound.j2]; rw [if_pos h3, wB h3, if_pos h1]) (Ev.now _)
        · have h2 := ih1 u (dd + mm) hdd hii hu hu2 (by omega) (by omega)
          rw [show u + (0 + U) = u + U by omega, show dd + (mm + D) = dd + mm + D by omega]
          have wC : wrap64 (dd + mm) = dd + mm := w64 (by omega) (by omega)
          exact Ev.step (fun k => by simp only [hypercuberef1_Sound.j2]; rw [if_pos h3, wB h3, if_neg h1, wC, i1]) h2
      · have e2 : dn1 mm = 0 := if_neg h3
        rw [e2]
        have h2 := ih1 u dd hdd hii hu hu2 hd1 hd2
        rw [show u + (0 + U) = u + U by omega, show dd + (0 + D) = dd + D by omega]
        exact Ev.step (fun k => by simp only [hypercuberef1_Sound.j2]; rw [if_neg h3, i1]) h2

theorem ref_sound_l0 (m : Nat) (hm : m ≤ 1000) (c : List Int) (rows : List S33) (hr : RowsM m rows) (d : Nat) : ∀ j : Nat, m - j = d → j ≤ m → Ev (fun k => hypercuberef1_Sound.l0 k rows (j : Int) c m) ((List.range' j (m - j)).all fun k => decide (Fits (ups k rows) (dns k rows))) := by
  induction d with
  | zero =>
    intro j hd hj
    rw [hd]
    exact Ev.step (fun k => by simp only [hypercuberef1_Sound.l0]; rw [if_neg (by omega)]; rfl) (Ev.now _)
  | succ d ih =>
    intro j hd hj
    have h1 := ref_sound_l1 m hm c rows hr j (by omega) (ih (j + 1) (by omega) (by omega)) rows.length 0 0 0 (by omega) (by omega) (by omega) (by omega) (by omega) (by omega)
    rw [hd, List.range'_succ, List.all_cons]
    have e : (if Fits (0 + ups j (rows.drop 0)) (0 + dns j (rows.drop 0)) then ((List.range' (j + 1) (m - (j + 1))).all fun k => decide (Fits (ups k rows) (dns k rows))) else false) = (decide (Fits (ups j rows) (dns j rows)) && (List.range' (j + 1) d).all fun k => decide (Fits (ups k rows) (dns k rows))) := by
      rw [List.drop_zero, Int.zero_add, Int.zero_add, show m - (j + 1) = d by omega]
      by_cases h : Fits (ups j rows) (dns j rows)
      · rw [if_pos h, decide_eq_true h, Bool.true_and]
      · rw [if_neg h, decide_eq_false h, Bool.false_and]
    rw [← e]
    exact Ev.step (fun k => by simp only [hypercuberef1_Sound.l0]; rw [if_pos (by omega)]; rfl) h1
theorem ref_sound_ev (m : Nat) (hm : m ≤ 1000) (c : List Int) (rows : List S33) (hr : RowsM m rows) : Ev (fun k => hypercuberef1_Sound.f k c m rows) (soundP m rows) := by
  have := ref_sound_l0 m hm c rows hr m 0 (by omega) (by omega)
  rw [Nat.sub_zero, ← List.range_eq_range'] at this
  exact Ev.congr (fun k => by unfold hypercuberef1_Sound.f; rfl) this
end Go.Proofs.Ytlacfpbfnedgdaa.Q
