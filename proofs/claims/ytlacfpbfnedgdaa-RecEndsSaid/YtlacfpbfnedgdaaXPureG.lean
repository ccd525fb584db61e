import Derived.Test.YtlacfpbfnedgdaaXPureF
namespace Go.Proofs.Ytlacfpbfnedgdaa.Q
open Go.RowKit Go.Proofs.YtlacfpbfnedgdaaW.PrintWords Go.Proofs.YtlacfpbfnedgdaaW.PrintLast Go.Proofs.YtlacfpbfnedgdaaW.PrintMore
set_option linter.unusedVariables false
set_option linter.unusedSimpArgs false

/-! rec.Sound, row by row. -/

theorem mx_up (m : Int) : mx m 0 = up1 m := by unfold mx up1; split <;> split <;> omega
theorem mn_dn (m : Int) : mn m 0 = dn1 m := by unfold mn dn1; split <;> split <;> omega
theorem rd_set_same {l : List Int} {j : Nat} (h : j < l.length) (v : Int) : rd (l.set j v) (j : Int) = v := by rw [rd_get (by simpa using h)]; simp
theorem rd_set_ne {l : List Int} {j k : Nat} (h : k ≠ j) (v : Int) : rd (l.set j v) (k : Int) = rd l (k : Int) := by
  simp only [rd, Int.toNat_natCast, List.getD_eq_getElem?_getD]
  rw [List.getElem?_set_ne (by omega)]
/-- Two rows of sums, of ints. -/
def Sums (m : Nat) (a b : List Int) : Prop := a.length = m ∧ b.length = m ∧ ∀ k : Nat, k < m → 0 ≤ rd a k ∧ rd a k ≤ 9223372036854775807 ∧ rd b k ≤ 0 ∧ -9223372036854775808 ≤ rd b k
def fitsAll (m : Nat) (a b : List Int) (f g : Nat → Int) : Bool := (List.range m).all fun k => decide (Fits (rd a k + f k) (rd b k + g k))
theorem fitsAll_congr {m : Nat} {a b a' b' : List Int} {f g f' g' : Nat → Int} (h : ∀ k, k < m → rd a k + f k = rd a' k + f' k ∧ rd b k + g k = rd b' k + g' k) : fitsAll m a b f g = fitsAll m a' b' f' g' := by
  unfold fitsAll
  rw [Bool.eq_iff_iff, List.all_eq_true, List.all_eq_true]
  constructor <;> intro hh k hk <;> have := hh k hk <;> rw [List.mem_range] at hk <;> obtain ⟨h1, h2⟩ := h k hk
  · rw [← h1, ← h2]; exact this
  · rw [h1, h2]; exact this
theorem fitsAll_false {m : Nat} {a b : List Int} {f g : Nat → Int} (k : Nat) (hk : k < m) (h : ¬ Fits (rd a k + f k) (rd b k + g k)) : fitsAll m a b f g = false := by
  unfold fitsAll
  rw [Bool.eq_false_iff]
  intro hh
  have := List.all_eq_true.1 hh k (List.mem_range.2 hk)
  exact h (of_decide_eq_true this)
/-- Of the row at hand, what is still to come from measure j on. -/
def onF (j : Nat) (ms : List Int) (u : Nat → Int) (k : Nat) : Int := if j ≤ k then up1 (rd ms k) + u k else u k
def onG (j : Nat) (ms : List Int) (u : Nat → Int) (k : Nat) : Int := if j ≤ k then dn1 (rd ms k) + u k else u k
theorem Sums.set {m : Nat} {a b : List Int} (h : Sums m a b) {j : Nat} (hj : j < m) {u d : Int} (hu0 : 0 ≤ u) (hu : u ≤ 9223372036854775807) (hd0 : d ≤ 0) (hd : -9223372036854775808 ≤ d) : Sums m (a.set j u) (b.set j d) := by
  obtain ⟨h1, h2, h3⟩ := h
  refine ⟨by simpa using h1, by simpa using h2, fun k hk => ?_⟩
  by_cases e : k = j
  · subst e
    rw [rd_set_same (by omega), rd_set_same (by omega)]
    exact ⟨hu0, hu, hd0, hd⟩
  · rw [rd_set_ne e, rd_set_ne e]; exact h3 k hk

theorem sound_l1 (m : Nat) (hm : m ≤ 1000) (rows : List S33) (n i : Int) (ms : List Int) (hl : ms.length = m) (hb : ∀ y ∈ ms, -9223372036854775808 ≤ y ∧ y ≤ 9223372036854775807) (U D : Nat → Int) (hU : ∀ k, 0 ≤ U k) (hD : ∀ k, D k ≤ 0)
    (H : ∀ a b, Sums m a b → Ev (fun k => rec_Sound.l0 k a b rows n (wrap64 (i + 1))) (fitsAll m a b U D)) (d : Nat) : ∀ (j : Nat) (a b : List Int), m - j = d → j ≤ m → Sums m a b →
    Ev (fun k => rec_Sound.l1 k a b rows n i ms (m : Int) (j : Int)) (fitsAll m a b (onF j ms U) (onG j ms D)) := by
  induction d with
  | zero =>
    intro j a b hd hj hs
    have e : fitsAll m a b (onF j ms U) (onG j ms D) = fitsAll m a b U D := fitsAll_congr (fun k hk => by
      unfold onF onG
      rw [if_neg (by omega), if_neg (by omega)]
      exact ⟨rfl, rfl⟩)
    rw [e]
    exact Ev.step (fun k => by simp only [rec_Sound.l1]; rw [if_neg (by omega)]) (H a b hs)
  | succ d ih =>
    intro j a b hd hj hs
    have hjm : j < m := by omega
    have hdd : m - (j + 1) = d := by omega
    have i1 := w64s hjm (by omega)
    have hjl : j < ms.length := by omega
    have hmb := hb ms[j] (List.getElem_mem hjl)
    rw [← rd_get hjl] at hmb
    have hsj := hs.2.2 j hjm
    have p0 : (j : Int) < (m : Int) := by omega
    have p1 : (0 : Int) ≤ (j : Int) := by omega
    have p2 : (j : Int) < (ms.length : Int) := by omega
    have p3 : (j : Int) < (a.length : Int) := by have := hs.1; omega
    have p4 : (j : Int) < (b.length : Int) := by have := hs.2.1; omega
    have hUj := hU j
    have hDj := hD j
    have hF : onF j ms U j = up1 (rd ms j) + U j := if_pos (Nat.le_refl _)
    have hG : onG j ms D j = dn1 (rd ms j) + D j := if_pos (Nat.le_refl _)
    -- the round that goes on
    have next : rd a j + up1 (rd ms j) ≤ 9223372036854775807 → -9223372036854775808 ≤ rd b j + dn1 (rd ms j) →
        Ev (fun k => rec_Sound.l1 k (a.set (j : Int).toNat (wrap64 ((rd a (j : Int)) + (mx (rd ms (j : Int)) 0)))) (b.set (j : Int).toNat (wrap64 ((rd b (j : Int)) + (mn (rd ms (j : Int)) 0)))) rows n i ms (m : Int) (wrap64 ((j : Int) + 1))) (fitsAll m a b (onF j ms U) (onG j ms D)) := by
      intro h1 h2
      have hu := up1_nn (rd ms j)
      have hd' := dn1_np (rd ms j)
      have w1 : wrap64 (rd a (j : Int) + up1 (rd ms (j : Int))) = rd a (j : Int) + up1 (rd ms (j : Int)) := w64 (by omega) h1
      have w2 : wrap64 (rd b (j : Int) + dn1 (rd ms (j : Int))) = rd b (j : Int) + dn1 (rd ms (j : Int)) := w64 h2 (by omega)
      have hs' := hs.set hjm (u := rd a j + up1 (rd ms j)) (d := rd b j + dn1 (rd ms j)) (by omega) h1 (by omega) h2
      have h3 := ih (j + 1) _ _ hdd hjm hs'
      have e : fitsAll m (a.set j (rd a j + up1 (rd ms j))) (b.set j (rd b j + dn1 (rd ms j))) (onF (j + 1) ms U) (onG (j + 1) ms D) = fitsAll m a b (onF j ms U) (onG j ms D) := fitsAll_congr (fun k hk => by
        by_cases e : k = j
        · subst e
          rw [rd_set_same (by have := hs.1; omega), rd_set_same (by have := hs.2.1; omega), hF, hG]
          unfold onF onG
          rw [if_neg (by omega), if_neg (by omega)]
          constructor <;> omega
        · rw [rd_set_ne e, rd_set_ne e]
          unfold onF onG
          by_cases hk2 : j ≤ k
          · rw [if_pos hk2, if_pos hk2, if_pos (by omega), if_pos (by omega)]; exact ⟨rfl, rfl⟩
          · rw [if_neg hk2, if_neg hk2, if_neg (by omega), if_neg (by omega)]; exact ⟨rfl, rfl⟩)
      rw [e] at h3
      refine Ev.congr (fun k => ?_) h3
      rw [mx_up, mn_dn, w1, w2, i1, Int.toNat_natCast]
    have bad : (¬ Fits (rd a j + up1 (rd ms j)) (rd b j + dn1 (rd ms j))) → fitsAll m a b (onF j ms U) (onG j ms D) = false := fun h =>
      fitsAll_false j hjm (by rw [hF, hG]; unfold Fits at h ⊢; omega)
    generalize hmm : rd ms (j : Int) = mm at hmb next bad
    generalize fitsAll m a b (onF j ms U) (onG j ms D) = res at next bad ⊢
    clear ih H hF hG hs hU hD hl hb hd hj
    have wA : 0 < mm → wrap64 (9223372036854775807 - mm) = 9223372036854775807 - mm := fun h => w64 (by omega) (by omega)
    have wB : mm < 0 → wrap64 (-9223372036854775808 - mm) = -9223372036854775808 - mm := fun h => w64 (by omega) (by omega)
    by_cases h0 : mm > 0
    · have e1 : up1 mm = mm := if_pos h0
      have e2 : dn1 mm = 0 := if_neg (by omega)
      have h0' : ¬ mm < 0 := by omega
      rw [e1, e2] at next bad
      by_cases h1 : rd a (j : Int) > 9223372036854775807 - mm
      · rw [bad (by unfold Fits; omega)]
        exact Ev.step (fun k => by simp only [rec_Sound.l1]; rw [if_pos p0, if_pos p1, if_pos p2, hmm, if_pos h0, if_pos p3, wA h0, if_pos h1]) (Ev.now _)
      · exact Ev.step (fun k => by simp only [rec_Sound.l1]; rw [if_pos p0, if_pos p1, if_pos p2, hmm, if_pos h0, if_pos p3, wA h0, if_neg h1, if_neg h0', if_pos p4]) (next (by omega) (by omega))
    · have e1 : up1 mm = 0 := if_neg h0
      rw [e1] at next bad
      by_cases h3 : mm < 0
      · have e2 : dn1 mm = mm := if_pos h3
        rw [e2] at next bad
        by_cases h1 : rd b (j : Int) < -9223372036854775808 - mm
        · rw [bad (by unfold Fits; omega)]
          exact Ev.step (fun k => by simp only [rec_Sound.l1]; rw [if_pos p0, if_pos p1, if_pos p2, hmm, if_neg h0, if_pos h3, if_pos p4, wB h3, if_pos h1]) (Ev.now _)
        · exact Ev.step (fun k => by simp only [rec_Sound.l1]; rw [if_pos p0, if_pos p1, if_pos p2, hmm, if_neg h0, if_pos h3, if_pos p4, wB h3, if_neg h1, if_pos p3]) (next (by omega) (by omega))
      · have e2 : dn1 mm = 0 := if_neg h3
        rw [e2] at next
        exact Ev.step (fun k => by simp only [rec_Sound.l1]; rw [if_pos p0, if_pos p1, if_pos p2, hmm, if_neg h0, if_neg h3, if_pos p3, if_pos p4]) (next (by omega) (by omega))

theorem sound_l0 (m : Nat) (hm : m ≤ 1000) (rows : List S33) (hr : RowsM m rows) (d : Nat) : ∀ (i : Nat) (a b : List Int), rows.length - i = d → i ≤ rows.length → Sums m a b →
    Ev (fun k => rec_Sound.l0 k a b rows (rows.length : Int) (i : Int)) (fitsAll m a b (fun k => ups k (rows.drop i)) (fun k => dns k (rows.drop i))) := by
  induction d with
  | zero =>
    intro i a b hd hi hs
    rw [List.drop_eq_nil_of_le (by omega)]
    have : fitsAll m a b (fun k => ups k []) (fun k => dns k []) = true := by
      unfold fitsAll
      rw [List.all_eq_true]
      intro k hk
      have := hs.2.2 k (List.mem_range.1 hk)
      refine decide_eq_true ?_
      unfold Fits ups dns
      simp
      omega
    rw [this]
    exact Ev.step (fun k => by simp only [rec_Sound.l0]; rw [if_neg (by omega)]) (Ev.now _)
  | succ d ih =>
    intro i a b hd hi hs
    have ha : i < rows.length := by omega
    obtain ⟨hfl, hfb⟩ := hr.2 rows[i] (List.getElem_mem ha)
    have i1 := w64s ha (Nat.le_trans hr.1 (by decide))
    have h1 := sound_l1 m hm rows (rows.length : Int) (i : Int) rows[i].f1 hfl hfb (fun k => ups k (rows.drop (i + 1))) (fun k => dns k (rows.drop (i + 1))) (fun k => ups_nn k _) (fun k => dns_np k _)
      (fun a b hs => by rw [i1]; exact ih (i + 1) a b (by omega) (by omega) hs) m 0 a b (by omega) (by omega) hs
    have e : fitsAll m a b (fun k => ups k (rows.drop i)) (fun k => dns k (rows.drop i)) = fitsAll m a b (onF 0 rows[i].f1 fun k => ups k (rows.drop (i + 1))) (onG 0 rows[i].f1 fun k => dns k (rows.drop (i + 1))) := fitsAll_congr (fun k hk => by
      unfold onF onG
      rw [if_pos (Nat.zero_le _), if_pos (Nat.zero_le _), drop_cons ha, ups_cons, dns_cons]
      exact ⟨rfl, rfl⟩)
    rw [e]
    refine Ev.step (fun k => ?_) h1
    simp only [rec_Sound.l0]
    rw [if_pos (by omega), if_pos (by omega), if_pos (by omega), rdT_get ha, hfl]
    rfl
theorem sound_ev (m : Nat) (hm : m ≤ 1000) (c : List Int) (rows : List S33) (hr : RowsM m rows) : Ev (fun k => rec_Sound.f k c (m : Int) rows) (soundP m rows) := by
  have h0 : ∀ k : Nat, rd (List.replicate m 0) (k : Int) = 0 := fun k => by
    simp only [rd, Int.toNat_natCast, List.getD_eq_getElem?_getD, List.getElem?_replicate]
    split <;> rfl
  have hs : Sums m (List.replicate m 0) (List.replicate m 0) := ⟨by simp, by simp, fun k _ => by rw [h0]; omega⟩
  have := sound_l0 m hm rows hr rows.length 0 _ _ (by omega) (by omega) hs
  have e : fitsAll m (List.replicate m 0) (List.replicate m 0) (fun k => ups k (rows.drop 0)) (fun k => dns k (rows.drop 0)) = soundP m rows := by
    unfold fitsAll soundP
    simp only [h0, Int.zero_add, List.drop_zero]
  rw [e] at this
  refine Ev.congr (fun k => ?_) this
  unfold rec_Sound.f
  rw [if_pos (by omega), if_pos (by omega), Int.toNat_natCast]
  rfl
end Go.Proofs.Ytlacfpbfnedgdaa.Q
