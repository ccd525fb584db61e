import Derived.Test.YtlacfpbfnedgdaaXPureC
namespace Go.Proofs.Ytlacfpbfnedgdaa.Q
open Go.RowKit Go.Proofs.YtlacfpbfnedgdaaW.PrintWords Go.Proofs.YtlacfpbfnedgdaaW.PrintLast Go.Proofs.YtlacfpbfnedgdaaW.PrintMore
set_option linter.unusedVariables false
set_option linter.unusedSimpArgs false

/-! Chapter 1: what was written is read as it was. -/

theorem numOf_one (c : Int) (h0 : 0 ≤ c) (h1 : c < 256) : numOf [c] = c := by
  unfold numOf
  simp only [List.foldl_cons, List.foldl_nil]
  rw [numOf_step _ _ h0 h1]
  unfold wrap64
  omega
theorem numOf_two (a c : Int) (h0 : 0 ≤ a) (h1 : a < 256) (h2 : 0 ≤ c) (h3 : c < 256) : numOf [a, c] = a * 256 + c := by
  unfold numOf
  simp only [List.foldl_cons, List.foldl_nil]
  rw [numOf_step _ _ h0 h1, numOf_step _ _ h2 h3]
  unfold wrap64
  omega
theorem take1 (c : Int) (l : List Int) (h0 : 0 ≤ c) (h1 : c < 256) : takeV (c :: l) 1 = c ∧ takeL (c :: l) 1 = l ∧ ∀ b, takeB (c :: l) 1 b = b := by
  have h : ¬ (c :: l).length < 1 := by simp
  refine ⟨?_, ?_, fun b => ?_⟩
  · unfold takeV; rw [if_neg h]; exact numOf_one c h0 h1
  · unfold takeL; rw [if_neg h]; rfl
  · unfold takeB; rw [if_neg h]
theorem take2 (a c : Int) (l : List Int) (h0 : 0 ≤ a) (h1 : a < 256) (h2 : 0 ≤ c) (h3 : c < 256) : takeV (a :: c :: l) 2 = a * 256 + c ∧ takeL (a :: c :: l) 2 = l ∧ ∀ b, takeB (a :: c :: l) 2 b = b := by
  have h : ¬ (a :: c :: l).length < 2 := by simp
  refine ⟨?_, ?_, fun b => ?_⟩
  · unfold takeV; rw [if_neg h]; exact numOf_two a c h0 h1 h2 h3
  · unfold takeL; rw [if_neg h]; rfl
  · unfold takeB; rw [if_neg h]
theorem take8 (x : Int) (l : List Int) (h0 : -9223372036854775808 ≤ x) (h1 : x ≤ 9223372036854775807) : takeV (eight x ++ l) 8 = x ∧ takeL (eight x ++ l) 8 = l ∧ ∀ b, takeB (eight x ++ l) 8 b = b := by
  have h : ¬ (eight x ++ l).length < 8 := by rw [List.length_append, eight_length]; omega
  refine ⟨?_, ?_, fun b => ?_⟩
  · unfold takeV; rw [if_neg h, List.take_left' (eight_length x)]; exact numOf_eight x h0 h1
  · unfold takeL; rw [if_neg h, List.drop_left' (eight_length x)]
  · unfold takeB; rw [if_neg h]
/-- Numbers of one byte are read. -/
theorem list1 (l : List Int) : ∀ (ks acc : List Int), (∀ x ∈ ks, 0 ≤ x ∧ x < 256) → listL 1 ks.length (ks ++ l) false acc = (acc ++ ks, l, false)
  | [], acc, _ => by simp [listL]
  | c :: ks, acc, h => by
    have hc := h c List.mem_cons_self
    obtain ⟨h1, h2, h3⟩ := take1 c (ks ++ l) hc.1 hc.2
    rw [List.length_cons, listL_go, List.cons_append, h1, h2, h3, list1 l ks (acc ++ [c]) (fun x hx => h x (List.mem_cons_of_mem _ hx))]
    simp
theorem list8 (l : List Int) : ∀ (ks acc : List Int), (∀ x ∈ ks, -9223372036854775808 ≤ x ∧ x ≤ 9223372036854775807) → listL 8 ks.length (ks.flatMap eight ++ l) false acc = (acc ++ ks, l, false)
  | [], acc, _ => by simp [listL]
  | c :: ks, acc, h => by
    have hc := h c List.mem_cons_self
    obtain ⟨h1, h2, h3⟩ := take8 c (ks.flatMap eight ++ l) hc.1 hc.2
    rw [List.length_cons, listL_go, List.flatMap_cons, List.append_assoc, h1, h2, h3, list8 l ks (acc ++ [c]) (fun x hx => h x (List.mem_cons_of_mem _ hx))]
    simp
theorem map_mod {l : List Int} (h : ∀ x ∈ l, 0 ≤ x ∧ x < 256) : l.map (· % 256) = l := by
  induction l with
  | nil => rfl
  | cons x l ih =>
    have hx := h x List.mem_cons_self
    rw [List.map_cons, ih (fun y hy => h y (List.mem_cons_of_mem _ hy)), Int.emod_eq_of_lt hx.1 hx.2]
/-- The facts are such as may be. -/
def GoodF (cards : List Int) (meas : Int) (rows : List S33) : Prop :=
  checkP cards meas = true ∧ rows.length ≤ 300 ∧ ∀ x ∈ rows, rightP cards meas x = true ∧ ∀ y ∈ x.f1, -9223372036854775808 ≤ y ∧ y ≤ 9223372036854775807
theorem check_open {cards : List Int} {meas : Int} (h : checkP cards meas = true) : 1 ≤ cards.length ∧ cards.length ≤ 4 ∧ (∀ x ∈ cards, 1 ≤ x ∧ x ≤ 16) ∧ 0 ≤ meas ∧ meas ≤ 2 := by
  unfold checkP at h
  simp only [Bool.and_eq_true, decide_eq_true_eq, List.all_eq_true] at h
  exact ⟨h.1.1.1.1, h.1.1.1.2, fun x hx => h.1.1.2 x hx, h.1.2, h.2⟩
theorem check_mk {cards : List Int} {meas : Int} (h1 : 1 ≤ cards.length) (h2 : cards.length ≤ 4) (h3 : ∀ x ∈ cards, 1 ≤ x ∧ x ≤ 16) (h4 : 0 ≤ meas) (h5 : meas ≤ 2) : checkP cards meas = true := by
  unfold checkP
  simp only [Bool.and_eq_true, decide_eq_true_eq, List.all_eq_true]
  exact ⟨⟨⟨⟨h1, h2⟩, h3⟩, h4⟩, h5⟩
theorem right_open {cards : List Int} {meas : Int} {x : S33} (h : rightP cards meas x = true) : x.f0.length = cards.length ∧ (x.f1.length : Int) = meas ∧ ∀ i : Nat, i < x.f0.length → 0 ≤ rd x.f0 i ∧ rd x.f0 i < rd cards i := by
  unfold rightP at h
  simp only [Bool.and_eq_true, decide_eq_true_eq, List.all_eq_true, List.mem_range] at h
  exact ⟨h.1.1, h.1.2, fun i hi => h.2 i hi⟩
theorem right_mk {cards : List Int} {meas : Int} {x : S33} (h1 : x.f0.length = cards.length) (h2 : (x.f1.length : Int) = meas) (h3 : ∀ i : Nat, i < x.f0.length → 0 ≤ rd x.f0 i ∧ rd x.f0 i < rd cards i) : rightP cards meas x = true := by
  unfold rightP
  simp only [Bool.and_eq_true, decide_eq_true_eq, List.all_eq_true, List.mem_range]
  exact ⟨⟨h1, h2⟩, fun i hi => h3 i hi⟩
theorem right_keys {cards : List Int} {meas : Int} {x : S33} (hc : checkP cards meas = true) (h : rightP cards meas x = true) : ∀ y ∈ x.f0, 0 ≤ y ∧ y < 256 := by
  obtain ⟨_, _, hcs, _, _⟩ := check_open hc
  obtain ⟨hl, _, hr⟩ := right_open h
  intro y hy
  obtain ⟨i, hi, rfl⟩ := List.getElem_of_mem hy
  have := hr i hi
  rw [rd_get hi, rd_get (by omega)] at this
  have h2 := hcs cards[i] (List.getElem_mem _)
  omega
theorem GoodF.small {cards : List Int} {meas : Int} {rows : List S33} (h : GoodF cards meas rows) : Small cards rows := by
  obtain ⟨hc, hl, hr⟩ := h
  obtain ⟨h1, h2, h3, h4, h5⟩ := check_open hc
  refine ⟨by omega, by omega, fun x hx => ?_⟩
  obtain ⟨h6, h7, _⟩ := right_open (hr x hx).1
  omega
theorem GoodF.mild {cards : List Int} {meas : Int} {rows : List S33} (h : GoodF cards meas rows) : Mild rows := by
  obtain ⟨h1, h2, h3⟩ := h.small
  exact ⟨by omega, fun x hx => by have := h3 x hx; omega⟩
theorem rows_back (cards : List Int) (meas : Int) (hc : checkP cards meas = true) (l : List Int) : ∀ (rows acc : List S33), (∀ x ∈ rows, rightP cards meas x = true ∧ ∀ y ∈ x.f1, -9223372036854775808 ≤ y ∧ y ≤ 9223372036854775807) →
    rowsL cards meas rows.length (rows.flatMap encRow ++ l) acc = some (acc ++ rows, l)
  | [], acc, _ => by simp [rowsL]
  | x :: rows, acc, h => by
    obtain ⟨hr, hm⟩ := h x List.mem_cons_self
    obtain ⟨hl, hml, _⟩ := right_open hr
    have hk := right_keys hc hr
    have e1 := list1 (x.f1.flatMap eight ++ (rows.flatMap encRow ++ l)) x.f0 [] hk
    have e2 := list8 (rows.flatMap encRow ++ l) x.f1 [] hm
    rw [List.length_cons]
    unfold rowsL
    have e0 : (x :: rows).flatMap encRow ++ l = x.f0 ++ (x.f1.flatMap eight ++ (rows.flatMap encRow ++ l)) := by
      rw [List.flatMap_cons]; unfold encRow; rw [map_mod hk]; simp
    rw [e0, ← hl, e1]
    simp only []
    have hmn : meas.toNat = x.f1.length := by omega
    rw [hmn, e2]
    simp only [List.nil_append]
    have hx : (⟨x.f0, x.f1⟩ : S33) = x := by cases x; rfl
    rw [if_neg (by simp), hx, if_pos hr, rows_back cards meas hc l rows (acc ++ [x]) (fun y hy => h y (List.mem_cons_of_mem _ hy))]
    simp
theorem back {cards : List Int} {meas : Int} {rows : List S33} (h : GoodF cards meas rows) : rec_Decode.f (encP cards meas rows) = some (cards, meas, rows, 0) := by
  have hsm := h.small
  obtain ⟨hc, hl, hr⟩ := h
  obtain ⟨h1, h2, h3, h4, h5⟩ := check_open hc
  have hcm : cards.map (· % 256) = cards := map_mod (fun x hx => by have := h3 x hx; omega)
  have hm : meas % 256 = meas := Int.emod_eq_of_lt h4 (by omega)
  have hcl : (cards.length : Int) % 256 = cards.length := Int.emod_eq_of_lt (by omega) (by omega)
  have he : encP cards meas rows = [67, 85, 66, 49] ++ ((cards.length : Int) :: (cards ++ (meas :: (rows.length : Int) / 256 % 256 :: (rows.length : Int) % 256 :: (rows.flatMap encRow ++ [])))) := by
    unfold encP
    rw [hcm, hm, hcl]
    simp
  have hlen : (encP cards meas rows).length ≤ 100000000000 := by
    have hb : (rows.flatMap encRow).length ≤ 900 * rows.length := by
      have : ∀ (l : List S33), (∀ x ∈ l, x.f0.length ≤ 100 ∧ x.f1.length ≤ 100) → (l.flatMap encRow).length ≤ 900 * l.length := by
        intro l
        induction l with
        | nil => intro _; simp
        | cons x l ih =>
          intro hx
          rw [List.flatMap_cons, List.length_append, List.length_cons]
          have a1 := encRow_le (hx x List.mem_cons_self)
          have a2 := ih (fun y hy => hx y (List.mem_cons_of_mem _ hy))
          omega
      exact this rows hsm.2.2
    rw [he]
    simp only [List.length_append, List.length_cons, List.length_nil]
    omega
  unfold rec_Decode.f
  rw [if_pos hlen]
  congr 1
  unfold decodeP
  rw [he, if_neg (by simp), List.drop_left' (by rfl)]
  have hmk : markP ([67, 85, 66, 49] ++ ((cards.length : Int) :: (cards ++ (meas :: (rows.length : Int) / 256 % 256 :: (rows.length : Int) % 256 :: (rows.flatMap encRow ++ []))))) = true := by
    unfold markP
    rw [List.take_left' (by rfl)]
    decide +kernel
  rw [hmk, if_neg (by simp)]
  unfold decHead
  obtain ⟨t1, t2, t3⟩ := take1 (cards.length : Int) (cards ++ (meas :: (rows.length : Int) / 256 % 256 :: (rows.length : Int) % 256 :: (rows.flatMap encRow ++ []))) (by omega) (by omega)
  rw [t1, t2, t3, Int.toNat_natCast, list1 _ cards [] (fun x hx => by have := h3 x hx; omega)]
  unfold decTail
  simp only [List.nil_append]
  obtain ⟨t4, t5, t6⟩ := take1 meas ((rows.length : Int) / 256 % 256 :: (rows.length : Int) % 256 :: (rows.flatMap encRow ++ [])) h4 (by omega)
  rw [t4, t5, t6]
  unfold decM
  obtain ⟨t7, t8, t9⟩ := take2 ((rows.length : Int) / 256 % 256) ((rows.length : Int) % 256) (rows.flatMap encRow ++ []) (by omega) (by omega) (by omega) (by omega)
  rw [t7, t8, t9]
  have hn : (rows.length : Int) / 256 % 256 * 256 + (rows.length : Int) % 256 = rows.length := by omega
  rw [hn]
  unfold decRows
  rw [if_neg (by simp), hc, if_neg (by simp), if_neg (by omega), Int.toNat_natCast, rows_back cards meas hc [] rows [] hr]
  simp
end Go.Proofs.Ytlacfpbfnedgdaa.Q
