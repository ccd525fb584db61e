import Derived.Test.YtmkjkkmilopcpaaXPureCA
import Derived.Test.YtmkjkkmilopcpaaXGroup
namespace Go.Proofs.Ytmkjkkmilopcpaa.Q
open Go.RowKit Go.Proofs.YtmkjkkmilopcpaaW.PrintWords Go.Proofs.YtmkjkkmilopcpaaW.PrintLast Go.Proofs.YtmkjkkmilopcpaaW.PrintMore
set_option linter.unusedVariables false
set_option linter.unusedSimpArgs false

/-! What the printed functions of chapter 2 come to, in plain Lean: cells joined, put, grouped. -/
theorem clone_eq (l : List Int) (h : l.length ≤ 1000000) : slices_Clone_int_int.f l = some l := by
  unfold slices_Clone_int_int.f
  rw [if_pos (by omega)]
theorem rdC_get {l : List S30} {i : Nat} (h : i < l.length) : rd_T30 l (i : Int) = l[i] := by simp [rd_T30, List.getD_eq_getElem?_getD, h]
theorem both_gen (op : Int → Int → Int) (L : Nat → List Int → List Int → List Int → Int → Int → Option (List Int))
    (h : ∀ k x1 x7 x10 x11 x12, L (k + 1) x1 x7 x10 x11 x12 = if x12 < x11 then (if 0 ≤ x12 then (if x12 < (x10.length : Int) then (if x12 < (x1.length : Int) then (if x7.length < 17592186044416 then (L k x1 (x7 ++ [op (rd x10 x12) (rd x1 x12)]) x10 x11 (wrap64 (x12 + 1))) else (none)) else (L k x1 x7 x10 x11 (wrap64 (x12 + 1)))) else (none)) else (none)) else ((slices_Clone_int_int.f x7).bind fun t => (some t)))
    (a b : List Int) (ha : a.length ≤ 100000) (d : Nat) : ∀ (i : Nat) (acc : List Int), a.length - i = d → i ≤ a.length → acc.length ≤ i →
    Ev (fun k => L k b acc a (a.length : Int) (i : Int)) (acc ++ List.zipWith op (a.drop i) (b.drop i)) := by
  induction d with
  | zero =>
    intro i acc hd hi hacc
    have e1 : a.drop i = [] := List.drop_eq_nil_of_le (by omega)
    rw [e1, List.zipWith_nil_left, List.append_nil]
    exact Ev.step (f := fun _ => some acc) (fun k => by rw [h, if_neg (by omega), clone_eq _ (by omega)]; rfl) (Ev.now _)
  | succ d ih =>
    intro i acc hd hi hacc
    have hia : i < a.length := by omega
    by_cases hib : i < b.length
    · rw [drop_cons hia, drop_cons hib, List.zipWith_cons_cons]
      have := ih (i + 1) (acc ++ [op a[i] b[i]]) (by omega) (by omega) (by simp; omega)
      rw [List.append_assoc, List.singleton_append] at this
      exact Ev.step (fun k => by rw [h, if_pos (by omega), if_pos (by omega), if_pos (by omega), if_pos (by omega), if_pos (by omega), rd_get hia, rd_get hib, w64s hia (by omega)]) this
    · have e2 : b.drop i = [] := List.drop_eq_nil_of_le (by omega)
      have e3 : b.drop (i + 1) = [] := List.drop_eq_nil_of_le (by omega)
      have := ih (i + 1) acc (by omega) (by omega) (by omega)
      rw [e3, List.zipWith_nil_right] at this
      rw [e2, List.zipWith_nil_right]
      exact Ev.step (fun k => by rw [h, if_pos (by omega), if_pos (by omega), if_pos (by omega), if_neg (by omega), w64s hia (by omega)]) this
theorem both1_ev (a b : List Int) (ha : a.length ≤ 100000) : Ev (fun k => cell_both_J1.f k a b) (List.zipWith (fun x y => wrap64 (x + y)) a b) := by
  have := both_gen (fun x y => wrap64 (x + y)) cell_both_J1.l0 (fun k x1 x7 x10 x11 x12 => by simp only [cell_both_J1.l0, cell_Join_1.f, Option.bind_some]) a b ha a.length 0 [] (by omega) (by omega) (by simp)
  simp only [List.drop_zero, List.nil_append] at this
  exact this
theorem both2_ev (a b : List Int) (ha : a.length ≤ 100000) : Ev (fun k => cell_both_J2.f k a b) (List.zipWith mn a b) := by
  have := both_gen mn cell_both_J2.l0 (fun k x1 x7 x10 x11 x12 => by simp only [cell_both_J2.l0, cell_Join_2.f, Option.bind_some]) a b ha a.length 0 [] (by omega) (by omega) (by simp)
  simp only [List.drop_zero, List.nil_append] at this
  exact this
theorem both3_ev (a b : List Int) (ha : a.length ≤ 100000) : Ev (fun k => cell_both_J3.f k a b) (List.zipWith mx a b) := by
  have := both_gen mx cell_both_J3.l0 (fun k x1 x7 x10 x11 x12 => by simp only [cell_both_J3.l0, cell_Join_3.f, Option.bind_some]) a b ha a.length 0 [] (by omega) (by omega) (by simp)
  simp only [List.drop_zero, List.nil_append] at this
  exact this
/-- Two cells as one. -/
def joinC (a b : S30) : S30 := ⟨a.f0, wrap64 (a.f1 + b.f1), List.zipWith (fun x y => wrap64 (x + y)) a.f2 b.f2, List.zipWith mn a.f3 b.f3, List.zipWith mx a.f4 b.f4⟩
/-- Rows of numbers that a machine holds. -/
def SmallC (c : S30) : Prop := c.f0.length ≤ 100000 ∧ c.f2.length ≤ 100000 ∧ c.f3.length ≤ 100000 ∧ c.f4.length ≤ 100000
def tupC (c : S30) : List Int × Int × List Int × List Int × List Int := (c.f0, c.f1, c.f2, c.f3, c.f4)
theorem join_ev (a b : S30) (ha : SmallC a) : Ev (fun k => cell_Join.f k a.f0 a.f1 a.f2 a.f3 a.f4 b.f0 b.f1 b.f2 b.f3 b.f4) (tupC (joinC a b)) := by
  obtain ⟨h0, h2, h3, h4⟩ := ha
  refine Ev.congr (f := fun k => (cell_both_J1.f k a.f2 b.f2).bind fun t140 => ((cell_both_J2.f k a.f3 b.f3).bind fun t143 => ((cell_both_J3.f k a.f4 b.f4).bind fun t146 => (some (a.f0, wrap64 (a.f1 + b.f1), t140, t143, t146))))) (fun k => by unfold cell_Join.f; rw [clone_eq _ (by omega), Option.bind_some]) ?_
  exact Ev.bind (both1_ev _ _ h2) (Ev.bind (both2_ev _ _ h3) (Ev.bind (both3_ev _ _ h4) (Ev.now _)))
theorem own_eq (c : S30) (h : SmallC c) : cell_own.f c.f0 c.f1 c.f2 c.f3 c.f4 = some (tupC c) := by
  obtain ⟨h0, h2, h3, h4⟩ := h
  unfold cell_own.f
  rw [clone_eq _ (by omega), clone_eq _ (by omega), clone_eq _ (by omega), clone_eq _ (by omega)]
  rfl
theorem joinC_small {a b : S30} (h : SmallC a) : SmallC (joinC a b) := by
  obtain ⟨h0, h2, h3, h4⟩ := h
  refine ⟨h0, ?_, ?_, ?_⟩ <;> (simp only [joinC, List.length_zipWith]; omega)
/-! ### A cell put among others -/
def putL (x : S30) : List S30 → List S30
  | [] => [x]
  | y :: ys => if lexC y.f0 x.f0 < 0 then y :: putL x ys else if lexC y.f0 x.f0 = 0 then joinC y x :: ys else x :: y :: ys
def groupL (l : List S30) : List S30 := l.foldl (fun acc x => putL x acc) []
def SortedC (l : List S30) : Prop := l.Pairwise fun a b => lexC a.f0 b.f0 < 0
theorem lexC_lt_trans {a b c : List Int} (h1 : lexC a b < 0) (h2 : lexC b c < 0) : lexC a c < 0 := by
  have h := lexC_trans a b c (by omega) (by omega)
  by_cases e : lexC a c = 0
  · rw [lexC_zero] at e
    subst e
    have := lexC_swap a b
    omega
  · omega
theorem putL_keys (x : S30) : ∀ (l : List S30) (z : S30), z ∈ putL x l → z.f0 = x.f0 ∨ ∃ y ∈ l, z.f0 = y.f0
  | [], z, h => by simp [putL] at h; exact .inl (by rw [h])
  | y :: ys, z, h => by
    unfold putL at h
    split at h
    · rcases List.mem_cons.1 h with h | h
      · exact .inr ⟨y, by simp, by rw [h]⟩
      · rcases putL_keys x ys z h with h | ⟨q, hq, he⟩
        · exact .inl h
        · exact .inr ⟨q, List.mem_cons_of_mem _ hq, he⟩
    · split at h
      · rcases List.mem_cons.1 h with h | h
        · exact .inr ⟨y, by simp, by rw [h]; rfl⟩
        · exact .inr ⟨z, List.mem_cons_of_mem _ h, rfl⟩
      · rcases List.mem_cons.1 h with h | h
        · exact .inl (by rw [h])
        · exact .inr ⟨z, h, rfl⟩
theorem putL_sorted (x : S30) : ∀ (l : List S30), SortedC l → SortedC (putL x l)
  | [], _ => by simp [putL, SortedC]
  | y :: ys, h => by
    obtain ⟨h1, h2⟩ := List.pairwise_cons.1 h
    unfold putL
    split
    · rename_i c1
      refine List.pairwise_cons.2 ⟨fun z hz => ?_, putL_sorted x ys h2⟩
      rcases putL_keys x ys z hz with e | ⟨q, hq, e⟩
      · rw [e]; exact c1
      · rw [e]; exact h1 q hq
    · rename_i c1
      split
      · exact List.pairwise_cons.2 ⟨h1, h2⟩
      · rename_i c2
        have hlt : lexC x.f0 y.f0 < 0 := by rw [lexC_swap]; omega
        refine List.pairwise_cons.2 ⟨fun z hz => ?_, h⟩
        rcases List.mem_cons.1 hz with e | e
        · rw [e]; exact hlt
        · exact lexC_lt_trans hlt (h1 z e)
theorem putL_small (x : S30) (hx : SmallC x) : ∀ (l : List S30), (∀ y ∈ l, SmallC y) → ∀ y ∈ putL x l, SmallC y
  | [], _, y, h => by simp [putL] at h; rw [h]; exact hx
  | z :: zs, hl, y, h => by
    have hz := hl z (by simp)
    have hzs := fun y h => hl y (List.mem_cons_of_mem _ h)
    unfold putL at h
    split at h
    · rcases List.mem_cons.1 h with h | h
      · rw [h]; exact hz
      · exact putL_small x hx zs hzs y h
    · split at h
      · rcases List.mem_cons.1 h with h | h
        · rw [h]; exact joinC_small hz
        · exact hzs y h
      · rcases List.mem_cons.1 h with h | h
        · rw [h]; exact hx
        · exact hl y h
theorem putL_length (x : S30) : ∀ (l : List S30), (putL x l).length ≤ l.length + 1
  | [] => by simp [putL]
  | y :: ys => by
    unfold putL
    have := putL_length x ys
    split
    · simp; omega
    · split <;> simp
/-- Where x belongs: p, all ahead of it are less, none from it on. -/
theorem putL_at (x : S30) : ∀ (p : Nat) (l : List S30), p ≤ l.length → (∀ m (h : m < l.length), m < p → lexC (l[m]).f0 x.f0 < 0) → (∀ (h : p < l.length), 0 ≤ lexC (l[p]).f0 x.f0) →
    putL x l = if h : p < l.length then (if lexC (l[p]).f0 x.f0 = 0 then l.set p (joinC l[p] x) else l.take p ++ x :: l.drop p) else l.take p ++ x :: l.drop p
  | 0, [], _, _, _ => by simp [putL]
  | 0, y :: ys, _, _, h2 => by
    have := h2 (by simp)
    simp only [List.getElem_cons_zero] at this
    unfold putL
    rw [if_neg (by omega)]
    simp only [List.length_cons, Nat.zero_lt_succ, dite_true, List.getElem_cons_zero, List.set_cons_zero, List.take_zero, List.drop_zero, List.nil_append]
  | p + 1, [], h, _, _ => by simp at h
  | p + 1, y :: ys, hp, h1, h2 => by
    have hy := h1 0 (by simp) (by omega)
    simp only [List.getElem_cons_zero] at hy
    have ih := putL_at x p ys (by simpa using hp) (fun m h hm => by have := h1 (m + 1) (by simpa using h) (by omega); simpa using this) (fun h => by have := h2 (by simpa using h); simpa using this)
    unfold putL
    rw [if_pos hy, ih]
    by_cases hlt : p < ys.length
    · rw [dif_pos hlt, dif_pos (by simpa using hlt)]
      simp only [List.getElem_cons_succ, List.set_cons_succ, List.take_succ_cons, List.drop_succ_cons, List.cons_append]
      split <;> rfl
    · rw [dif_neg hlt, dif_neg (by simpa using hlt)]
      simp
theorem wrap_mid (i j : Nat) (h : i + j ≤ 4000000) : wrap64 ((IntKind.u64.wrap (wrap64 ((i : Int) + (j : Int)))) / 2) = (((i + j) / 2 : Nat) : Int) := by
  have h1 : wrap64 ((i : Int) + (j : Int)) = ((i + j : Nat) : Int) := by rw [w64 (by omega) (by omega)]; omega
  have h2 : IntKind.u64.wrap ((i + j : Nat) : Int) = ((i + j : Nat) : Int) := by
    have e : IntKind.u64.wrap ((i + j : Nat) : Int) = ((i + j : Nat) : Int) % 18446744073709551616 := rfl
    rw [e]
    omega
  rw [h1, h2, w64 (by omega) (by omega)]
  omega
theorem bsf_l0 (xs : List S30) (x : S30) (hn : xs.length ≤ 1000000) (hs : ∀ y ∈ xs, SmallC y) (p : Nat) (hp : p ≤ xs.length) (h1 : ∀ m (h : m < xs.length), m < p → lexC (xs[m]).f0 x.f0 < 0) (h2 : ∀ m (h : m < xs.length), p ≤ m → 0 ≤ lexC (xs[m]).f0 x.f0) (d : Nat) :
    ∀ i j : Nat, j - i ≤ d → i ≤ p → p ≤ j → j ≤ xs.length → Ev (fun k => bsf_G1.l0 k xs (xs.length : Int) (i : Int) (j : Int) x.f0 x.f1 x.f2 x.f3 x.f4) ((p : Int), if h : p < xs.length then lexC (xs[p]).f0 x.f0 == 0 else false) := by
  have hcmp : ∀ m (h : m < xs.length), Ev (fun k => cell_Group_1.f k (xs[m]).f0 (xs[m]).f1 (xs[m]).f2 (xs[m]).f3 (xs[m]).f4 x.f0 x.f1 x.f2 x.f3 x.f4) (lexC (xs[m]).f0 x.f0) := fun m h => by
    refine Ev.congr (f := fun k => (cell_Less.f k (xs[m]).f0 x.f0).bind fun t => some t) (fun k => rfl) ?_
    exact Ev.bind (cell_less_ev _ _ (by have := (hs _ (List.getElem_mem h)).1; omega)) (Ev.now _)
  induction d with
  | zero =>
    intro i j hd hip hpj hjn
    have e1 : i = p := by omega
    have e2 : j = p := by omega
    rw [e1, e2]
    by_cases hlt : p < xs.length
    · rw [dif_pos hlt]
      refine Ev.step (f := fun k => (cell_Group_1.f k (xs[p]).f0 (xs[p]).f1 (xs[p]).f2 (xs[p]).f3 (xs[p]).f4 x.f0 x.f1 x.f2 x.f3 x.f4).bind fun t => some ((p : Int), t == 0)) (fun k => by simp only [bsf_G1.l0]; rw [if_neg (by omega), if_pos (by omega), if_pos (by omega), if_pos (by omega), rdC_get hlt]) (Ev.bind (hcmp p hlt) (Ev.now _))
    · rw [dif_neg hlt]
      exact Ev.step (f := fun _ => some ((p : Int), false)) (fun k => by simp only [bsf_G1.l0]; rw [if_neg (by omega), if_neg (by omega)]) (Ev.now _)
  | succ d ih =>
    intro i j hd hip hpj hjn
    by_cases hij : i < j
    · have hh : (i + j) / 2 < xs.length := by omega
      have hstep : ∀ k, bsf_G1.l0 (k + 1) xs (xs.length : Int) (i : Int) (j : Int) x.f0 x.f1 x.f2 x.f3 x.f4 = (cell_Group_1.f k (xs[(i + j) / 2]).f0 (xs[(i + j) / 2]).f1 (xs[(i + j) / 2]).f2 (xs[(i + j) / 2]).f3 (xs[(i + j) / 2]).f4 x.f0 x.f1 x.f2 x.f3 x.f4).bind fun t => if t < 0 then bsf_G1.l0 k xs (xs.length : Int) (((i + j) / 2 + 1 : Nat) : Int) (j : Int) x.f0 x.f1 x.f2 x.f3 x.f4 else bsf_G1.l0 k xs (xs.length : Int) (i : Int) (((i + j) / 2 : Nat) : Int) x.f0 x.f1 x.f2 x.f3 x.f4 := fun k => by
        simp only [bsf_G1.l0]
        rw [if_pos (by omega), wrap_mid i j (by omega), if_pos (by omega), if_pos (by omega), rdC_get hh, w64s hh (by omega)]
      refine Ev.step hstep ?_
      by_cases hlt : (i + j) / 2 < p
      · have c := h1 _ hh hlt
        exact Ev.bind (hcmp _ hh) (Ev.congr (fun k => by rw [if_pos c]) (ih ((i + j) / 2 + 1) j (by omega) (by omega) hpj hjn))
      · have c := h2 _ hh (by omega)
        exact Ev.bind (hcmp _ hh) (Ev.congr (fun k => by rw [if_neg (by omega)]) (ih i ((i + j) / 2) (by omega) hip (by omega) (by omega)))
    · exact ih i j (by omega) hip hpj hjn
/-- In a row that rises there is a place where x belongs. -/
theorem place (x : S30) : ∀ (l : List S30), SortedC l → ∃ p, p ≤ l.length ∧ (∀ m (h : m < l.length), m < p → lexC (l[m]).f0 x.f0 < 0) ∧ (∀ m (h : m < l.length), p ≤ m → 0 ≤ lexC (l[m]).f0 x.f0)
  | [], _ => ⟨0, by simp, fun m h => by simp at h, fun m h => by simp at h⟩
  | y :: ys, hs => by
    obtain ⟨h1, h2⟩ := List.pairwise_cons.1 hs
    by_cases c : lexC y.f0 x.f0 < 0
    · obtain ⟨p, hp, a, b⟩ := place x ys h2
      refine ⟨p + 1, by simpa using hp, fun m h hm => ?_, fun m h hm => ?_⟩
      · cases m with
        | zero => exact c
        | succ m => exact a m (by simpa using h) (by omega)
      · cases m with
        | zero => omega
        | succ m => exact b m (by simpa using h) (by omega)
    · refine ⟨0, by omega, fun m h hm => by omega, fun m h _ => ?_⟩
      cases m with
      | zero => simp only [List.getElem_cons_zero]; omega
      | succ m =>
        simp only [List.getElem_cons_succ]
        have hy := h1 (ys[m]'(by simpa using h)) (List.getElem_mem _)
        rcases Int.lt_or_le (lexC (ys[m]'(by simpa using h)).f0 x.f0) 0 with q | q
        · exact absurd (lexC_lt_trans hy q) c
        · exact q
theorem put_ev (xs : List S30) (x : S30) (hn : xs.length ≤ 1000000) (hs : ∀ y ∈ xs, SmallC y) (ho : SortedC xs) : Ev (fun k => cellPut.f k xs x) (putL x xs) := by
  obtain ⟨p, hp, h1, h2⟩ := place x xs ho
  have hb := bsf_l0 xs x hn hs p hp h1 h2 xs.length 0 xs.length (by omega) (by omega) hp (by omega)
  have hb' : Ev (fun k => bsf_G1.f k xs x.f0 x.f1 x.f2 x.f3 x.f4) ((p : Int), if h : p < xs.length then lexC (xs[p]).f0 x.f0 == 0 else false) := hb
  have hput := putL_at x p xs hp h1 (fun h => h2 p h (by omega))
  unfold cellPut.f
  refine Ev.bind hb' ?_
  by_cases hlt : p < xs.length
  · rw [dif_pos hlt] at hput
    simp only [dif_pos hlt]
    by_cases c : lexC (xs[p]).f0 x.f0 = 0
    · rw [if_pos c] at hput
      have hj := Ev.bind (f := fun (_ : Nat) (j : List Int × Int × List Int × List Int × List Int) => some (xs.set p (⟨j.1, j.2.1, j.2.2.1, j.2.2.2.1, j.2.2.2.2⟩ : S30))) (join_ev (xs[p]) x (hs _ (List.getElem_mem hlt))) (Ev.now _)
      rw [hput]
      exact Ev.congr (fun k => by rw [if_pos (by simp [c]), if_pos (by omega), rdC_get hlt, Int.toNat_natCast]) hj
    · rw [if_neg c] at hput
      rw [hput]
      exact Ev.congr (f := fun _ => some (xs.take p ++ x :: xs.drop p)) (fun k => by rw [if_neg (by simp [c]), if_pos (by omega), Int.toNat_natCast]) (Ev.now _)
  · rw [dif_neg hlt] at hput
    simp only [dif_neg hlt]
    rw [hput]
    exact Ev.congr (f := fun _ => some (xs.take p ++ x :: xs.drop p)) (fun k => by rw [if_neg (by simp), if_pos (by omega), Int.toNat_natCast]) (Ev.now _)
theorem grp_ev : ∀ (l acc : List S30), acc.length + l.length ≤ 1000000 → (∀ y ∈ l, SmallC y) → (∀ y ∈ acc, SmallC y) → SortedC acc → Ev (fun k => grpGo k acc l) (l.foldl (fun acc x => putL x acc) acc)
  | [], acc, _, _, _, _ => Ev.now _
  | c :: cs, acc, hn, hl, ha, ho => by
    have hc := hl c (by simp)
    simp only [List.length_cons] at hn
    have ih := grp_ev cs (putL c acc) (by have := putL_length c acc; omega) (fun y h => hl y (List.mem_cons_of_mem _ h)) (putL_small c hc acc ha) (putL_sorted c acc ho)
    refine Ev.congr (f := fun k => (cellPut.f k acc c).bind fun acc' => grpGo k acc' cs) (fun k => by simp only [grpGo]; rw [own_eq c hc, Option.bind_some]; rfl) ?_
    exact Ev.bind (put_ev acc c (by omega) ha ho) ih
theorem foldl_put_length : ∀ (l acc : List S30), (l.foldl (fun acc x => putL x acc) acc).length ≤ acc.length + l.length
  | [], acc => by simp
  | c :: cs, acc => by
    have := foldl_put_length cs (putL c acc)
    have := putL_length c acc
    simp only [List.foldl_cons, List.length_cons]
    omega
theorem group_ev (l : List S30) (hn : l.length ≤ 1000000) (hl : ∀ y ∈ l, SmallC y) : Ev (fun k => cell_Group.f k l) (groupL l) := by
  have h := grp_ev l [] (by simpa using hn) hl (fun y h => by simp at h) List.Pairwise.nil
  have hlen := foldl_put_length l []
  refine Ev.bind h (Ev.congr (f := fun _ => some (groupL l)) (fun k => ?_) (Ev.now _))
  rw [if_pos (by simp only [List.length_nil] at hlen; omega)]
  rfl
theorem foldl_put_sorted : ∀ (l acc : List S30), SortedC acc → SortedC (l.foldl (fun acc x => putL x acc) acc)
  | [], acc, h => h
  | c :: cs, acc, h => foldl_put_sorted cs _ (putL_sorted c acc h)
theorem groupL_sorted (l : List S30) : SortedC (groupL l) := foldl_put_sorted l [] List.Pairwise.nil
end Go.Proofs.Ytmkjkkmilopcpaa.Q
