/- RecEnds, in plain Lean: sums that just stay are sound, one more is not, what is on the other side does not help; for every input. -/
import Derived.Test.YtlacfpbfnedgdaaQ13
import Derived.Test.YtlacfpbfnedgdaaXPureG
import Derived.Test.YtlacfpbfnedgdaaXPureB
namespace Go.Proofs.Ytlacfpbfnedgdaa.Pure
open Go.RowKit Go.Proofs.Ytlacfpbfnedgdaa.Q Go.Proofs.YtlacfpbfnedgdaaW.PrintWords Go.Proofs.YtlacfpbfnedgdaaW.PrintLast

abbrev R1 (x : Int) : S33 := ⟨[0], [x]⟩
theorem ups_app (k : Nat) (a b : List S33) : ups k (a ++ b) = ups k a + ups k b := by simp [ups]
theorem dns_app (k : Nat) (a b : List S33) : dns k (a ++ b) = dns k a + dns k b := by simp [dns]
theorem ups_one (x : Int) : ups 0 [R1 x] = up1 x := by simp [ups, rd]
theorem dns_one (x : Int) : dns 0 [R1 x] = dn1 x := by simp [dns, rd]
theorem sound1 (l : List S33) (b : Bool) (h : decide (Fits (ups 0 l) (dns 0 l)) = b) : soundP 1 l = b := by
  unfold soundP
  rw [show List.range 1 = [0] from rfl, List.all_cons, List.all_nil, Bool.and_true]
  exact h
/-- The i-th number. -/
def num (down : Bool) (m left : Int) (i : Nat) : Int := if (i : Int) < left then (if down = true then -(m + 1) else m + 1) else (if down = true then -m else m)
def endRows (down : Bool) (m left : Int) (n : Nat) : List S33 := (List.range n).map fun i => R1 (num down m left i)
theorem ends_sum (down : Bool) (m left : Int) (hm : 0 ≤ m) (hl : 0 ≤ left) (n : Nat) : (down = false → ups 0 (endRows down m left n) = n * m + min (n : Int) left ∧ dns 0 (endRows down m left n) = 0) ∧ (down = true → dns 0 (endRows down m left n) = -(n * m + min (n : Int) left) ∧ ups 0 (endRows down m left n) = 0) := by
  induction n with
  | zero => simp [endRows, ups, dns]; omega
  | succ n ih =>
    have e : endRows down m left (n + 1) = endRows down m left n ++ [R1 (num down m left n)] := by unfold endRows; rw [List.range_succ, List.map_append]; rfl
    rw [e, ups_app, dns_app, ups_one, dns_one]
    have hmul : ((n + 1 : Nat) : Int) * m = n * m + m := by rw [Int.natCast_add, Int.add_mul]; simp
    rw [hmul]
    generalize (n : Int) * m = P at ih ⊢
    constructor
    · intro hd
      obtain ⟨h1, h2⟩ := ih.1 hd
      rw [h1, h2]
      unfold num
      rw [hd]
      simp only [Bool.false_eq_true, if_false]
      by_cases h : (n : Int) < left
      · rw [if_pos h]
        have : up1 (m + 1) = m + 1 := if_pos (by omega)
        have h3 : dn1 (m + 1) = 0 := if_neg (by omega)
        rw [this, h3]; omega
      · rw [if_neg h]
        have h3 : dn1 m = 0 := if_neg (by omega)
        have : up1 m = m := by unfold up1; split <;> omega
        rw [this, h3]; omega
    · intro hd
      obtain ⟨h1, h2⟩ := ih.2 hd
      rw [h1, h2]
      unfold num
      rw [hd]
      simp only [if_true]
      by_cases h : (n : Int) < left
      · rw [if_pos h]
        have : dn1 (-(m + 1)) = -(m + 1) := if_pos (by omega)
        have h3 : up1 (-(m + 1)) = 0 := if_neg (by omega)
        rw [this, h3]; omega
      · rw [if_neg h]
        have h3 : up1 (-m) = 0 := if_neg (by omega)
        have : dn1 (-m) = -m := by unfold dn1; split <;> omega
        rw [this, h3]; omega

/-- What is proved of the rows, behind the loop. -/
theorem ends_end (a2 : Int) (l : List S33) (hl : l.length ≤ 60) (hr : RowsM 1 l) (more : Int) (c : List Int)
    (hm : (more = 1 ∧ ups 0 l = 9223372036854775807 ∧ dns 0 l = 0) ∨ (more = -2 ∧ dns 0 l = -9223372036854775807 ∧ ups 0 l = 0)) : Ev (fun k => hypercubelaw1_RecEnds.j1 k a2 l more c 1) true := by
  have hw := within_eq a2 99 (by omega) (by omega)
  have b0 := Int.emod_nonneg a2 (show (99 : Int) ≠ 0 by omega)
  have b1 := Int.emod_lt_of_pos a2 (show (0 : Int) < 99 by omega)
  generalize a2 % 99 = t at hw b0 b1
  have hone : ∀ (l : List S33) (x : Int), l.length ≤ 100 → RowsM 1 l → -9223372036854775808 ≤ x → x ≤ 9223372036854775807 → RowsM 1 (l ++ [R1 x]) := fun l x h0 h1 h2 h3 => ⟨by simp; omega, fun y hy => by
    rcases List.mem_append.1 hy with hy | hy
    · exact h1.2 y hy
    · rw [List.mem_singleton.1 hy]; exact ⟨rfl, fun z hz => by rw [List.mem_singleton.1 hz]; exact ⟨h2, h3⟩⟩⟩
  obtain ⟨q, hq⟩ : ∃ q, q = wrap64 (-(wrap64 (more * t))) := ⟨_, rfl⟩
  have hqb : q = -(more * t) := by
    rw [hq]
    rcases hm with ⟨rfl, _⟩ | ⟨rfl, _⟩
    · rw [w64 (x := 1 * t) (by omega) (by omega), w64 (by omega) (by omega)]
    · rw [w64 (x := -2 * t) (by omega) (by omega), w64 (by omega) (by omega)]
  have hq2 : -9223372036854775808 ≤ q ∧ q ≤ 9223372036854775807 := by
    rw [hqb]
    rcases hm with ⟨rfl, _⟩ | ⟨rfl, _⟩ <;> omega
  have hmb : -9223372036854775808 ≤ more ∧ more ≤ 9223372036854775807 := by rcases hm with ⟨rfl, _⟩ | ⟨rfl, _⟩ <;> omega
  have hr2 := hone l more (by omega) hr hmb.1 hmb.2
  have hr3 := hone (l ++ [R1 more]) q (by simp; omega) hr2 hq2.1 hq2.2
  have s1 := sound_ev 1 (by decide) c l hr
  have s2 := sound_ev 1 (by decide) c (l ++ [R1 more]) hr2
  have s3 := sound_ev 1 (by decide) c (l ++ [R1 more] ++ [R1 q]) hr3
  have e1 : soundP 1 l = true := sound1 _ _ (decide_eq_true (by unfold Fits; rcases hm with ⟨_, h1, h2⟩ | ⟨_, h1, h2⟩ <;> rw [h1, h2] <;> omega))
  have hqs : (more = 1 → up1 q = 0) ∧ (more = -2 → dn1 q = 0) := by
    rw [hqb]
    constructor
    · rintro rfl; unfold up1; split <;> omega
    · rintro rfl; unfold dn1; split <;> omega
  have e2 : soundP 1 (l ++ [R1 more]) = false := sound1 _ _ (decide_eq_false (by
    rw [ups_app, dns_app, ups_one, dns_one]
    unfold Fits
    rcases hm with ⟨rfl, h1, h2⟩ | ⟨rfl, h1, h2⟩
    · rw [h1, show up1 1 = 1 from rfl]; omega
    · rw [h1, show dn1 (-2) = -2 from rfl]; omega))
  have e3 : soundP 1 (l ++ [R1 more] ++ [R1 q]) = false := sound1 _ _ (decide_eq_false (by
    rw [ups_app, dns_app, ups_app, dns_app, ups_one, dns_one, ups_one, dns_one]
    unfold Fits
    rcases hm with ⟨rfl, h1, h2⟩ | ⟨rfl, h1, h2⟩
    · rw [h1, show up1 1 = 1 from rfl, hqs.1 rfl]; omega
    · rw [h1, show dn1 (-2) = -2 from rfl, hqs.2 rfl]; omega))
  rw [e1] at s1; rw [e2] at s2; rw [e3] at s3
  have p1 : ([] : List S33).length + l.length < 2932031007402 := by simp; omega
  have p2 : ([] ++ l : List S33).length < 2932031007402 := by simp; omega
  have p3 : ([] : List S33).length + ([] ++ l ++ [R1 more]).length < 2932031007402 := by simp; omega
  have p4 : ([] ++ ([] ++ l ++ [R1 more]) : List S33).length < 2932031007402 := by simp; omega
  have f3 : Ev (fun k => (rec_Sound.f k c 1 (l ++ [R1 more] ++ [R1 q])).bind fun t => some (!t)) true := Ev.bind s3 (Ev.now _)
  have f2 : Ev (fun k => (rec_Sound.f k c 1 (l ++ [R1 more])).bind fun t => if t = true then none else ((rec_Sound.f k c 1 (l ++ [R1 more] ++ [R1 q])).bind fun t => some (!t))) true :=
    Ev.bind s2 (Ev.congr (fun k => if_neg (by simp)) f3)
  have f1 : Ev (fun k => (rec_Sound.f k c 1 l).bind fun t => if t = true then ((rec_Sound.f k c 1 (l ++ [R1 more])).bind fun t => if t = true then none else ((rec_Sound.f k c 1 (l ++ [R1 more] ++ [R1 q])).bind fun t => some (!t))) else none) true :=
    Ev.bind s1 (Ev.congr (fun k => if_pos rfl) f2)
  refine Ev.step (fun k => ?_) f1
  simp only [hypercubelaw1_RecEnds.j1, Option.bind_some]
  rw [if_pos p1, if_pos p2, if_pos p3, hw]
  simp only [Option.bind_some]
  rw [if_pos p4, ← hq]
  rfl
theorem ends_l0 (down : Bool) (a2 : Int) (n : Nat) (h1 : 1 ≤ n) (hn : n ≤ 50) (m left : Int) (hm : 0 ≤ m) (hm2 : m ≤ 9223372036854775807) (hlf : 0 ≤ left) (hlf2 : left < n) (hsum : (n : Int) * m + left = 9223372036854775807) (c : List Int) (d : Nat) :
    ∀ (i : Nat), n - i = d → i ≤ n → Ev (fun k => hypercubelaw1_RecEnds.l0 k down a2 (n : Int) m left (endRows down m left i) (i : Int) c 1) true := by
  have hm3 : ∀ {i : Nat}, (i : Int) < left → m + 1 ≤ 9223372036854775807 := by
    intro i hx
    rcases Int.lt_or_le m 9223372036854775807 with h | h
    · omega
    · have : m = 9223372036854775807 := by omega
      subst this
      have : 9223372036854775807 ≤ (n : Int) * 9223372036854775807 := by omega
      omega
  have hnb : ∀ i, -9223372036854775808 ≤ num down m left i ∧ num down m left i ≤ 9223372036854775807 := by
    intro i
    have hmm : left = 0 ∨ m ≤ 9223372036854775806 := by
      rcases Int.lt_or_le m 9223372036854775807 with h | h
      · right; omega
      · left
        have : m = 9223372036854775807 := by omega
        subst this
        have : 9223372036854775807 ≤ (n : Int) * 9223372036854775807 := by omega
        omega
    unfold num
    split <;> split <;> omega
  have hrow : ∀ i, i ≤ n → RowsM 1 (endRows down m left i) := fun i hi => ⟨by unfold endRows; simp; omega, fun x hx => by
    unfold endRows at hx
    obtain ⟨j, _, rfl⟩ := List.mem_map.1 hx
    exact ⟨rfl, fun z hz => by rw [List.mem_singleton.1 hz]; exact hnb j⟩⟩
  induction d with
  | zero =>
    intro i hd hi
    obtain rfl : i = n := by omega
    obtain ⟨s1, s2⟩ := ends_sum down m left hm hlf i
    have hmin : min (i : Int) left = left := by omega
    rw [hmin] at s1 s2
    have hlen : (endRows down m left i).length ≤ 60 := by unfold endRows; simp; omega
    cases down with
    | false =>
      obtain ⟨q1, q2⟩ := s1 rfl
      exact Ev.step (fun k => by simp only [hypercubelaw1_RecEnds.l0]; rw [if_neg (by omega), if_neg (by simp)]) (ends_end a2 _ hlen (hrow i (Nat.le_refl _)) 1 c (.inl ⟨rfl, by rw [q1]; exact hsum, q2⟩))
    | true =>
      obtain ⟨q1, q2⟩ := s2 rfl
      exact Ev.step (fun k => by simp only [hypercubelaw1_RecEnds.l0]; rw [if_neg (by omega), if_pos trivial]) (ends_end a2 _ hlen (hrow i (Nat.le_refl _)) (-2) c (.inr ⟨rfl, by rw [q1, hsum], q2⟩))
  | succ d ih =>
    intro i hd hi
    have hi' : i < n := by omega
    have hlen : (endRows down m left i).length < 2932031007402 := by unfold endRows; simp; omega
    have e : endRows down m left (i + 1) = endRows down m left i ++ [R1 (num down m left i)] := by unfold endRows; rw [List.range_succ, List.map_append]; rfl
    have w := w64s hi' (by omega)
    have hb := hnb i
    have p : (i : Int) < (n : Int) := by omega
    refine Ev.step (fun k => ?_) (ih (i + 1) (by omega) (by omega))
    simp only [hypercubelaw1_RecEnds.l0]
    rw [if_pos p, w, e]
    unfold num at hb ⊢
    by_cases hx : (i : Int) < left
    · rw [if_pos hx]
      rw [if_pos hx] at hb ⊢
      have wm : wrap64 (m + 1) = m + 1 := w64 (by omega) (hm3 hx)
      cases down with
      | false => rw [if_neg (by simp), if_pos hlen, wm]; rfl
      | true => rw [if_pos (rfl : true = true), if_pos hlen, wm, w64 (x := -(m + 1)) (by simp only [if_true] at hb; omega) (by omega)]; rfl
    · rw [if_neg hx]
      rw [if_neg hx] at hb ⊢
      cases down with
      | false => rw [if_neg (by simp), if_pos hlen]; rfl
      | true => rw [if_pos (rfl : true = true), if_pos hlen, w64 (x := -m) (by omega) (by omega)]; rfl
theorem RecEnds : hypercubelaw1_RecEnds.Pure := by
  intro a0 down a2 _ _
  have hw := within_eq a0 50 (by omega) (by omega)
  obtain ⟨n, hn⟩ : ∃ n : Nat, a0 % 50 = n := ⟨(a0 % 50).toNat, by omega⟩
  have hn50 : n < 50 := by omega
  rw [hn] at hw
  have w1 : wrap64 (1 + (n : Int)) = ((n + 1 : Nat) : Int) := by rw [w64 (by omega) (by omega)]; omega
  obtain ⟨m, hm⟩ : ∃ m : Int, m = 9223372036854775807 / ((n + 1 : Nat) : Int) := ⟨_, rfl⟩
  obtain ⟨lf, hlf⟩ : ∃ lf : Int, lf = 9223372036854775807 % ((n + 1 : Nat) : Int) := ⟨_, rfl⟩
  have hdiv := Int.mul_ediv_add_emod 9223372036854775807 ((n + 1 : Nat) : Int)
  have hl0 := Int.emod_nonneg 9223372036854775807 (show ((n + 1 : Nat) : Int) ≠ 0 by omega)
  have hl1 := Int.emod_lt_of_pos 9223372036854775807 (show (0 : Int) < ((n + 1 : Nat) : Int) by omega)
  rw [← hm, ← hlf] at hdiv
  rw [← hlf] at hl0 hl1
  have hm0 : 0 ≤ m := by rw [hm]; exact Int.ediv_nonneg (by omega) (by omega)
  have hm1 : m ≤ 9223372036854775807 := by rw [hm]; exact Int.ediv_le_self _ (by omega)
  have wq : wrap64 (Int.tdiv 9223372036854775807 ((n + 1 : Nat) : Int)) = m := by
    rw [Int.tdiv_eq_ediv_of_nonneg (by omega), ← hm]; exact w64 (by omega) hm1
  have main := ends_l0 down a2 (n + 1) (by omega) (by omega) m lf hm0 hm1 hl0 hl1 hdiv [1] (n + 1) 0 (by omega) (by omega)
  rw [show endRows down m lf 0 = [] from rfl, show ((0 : Nat) : Int) = 0 from rfl] at main
  clear hdiv hl0 hl1 hm0 hm1
  have ne : ¬ ((n + 1 : Nat) : Int) = 0 := by omega
  have f2 : Ev (fun k => (hypercubelaw1_within.f a0 50).bind fun t569 => (if (wrap64 (1 + t569)) = 0 then (none) else (hypercubelaw1_RecEnds.l0 k down a2 (wrap64 (1 + t569)) (wrap64 (Int.tdiv (9223372036854775807 : Int) (wrap64 (1 + t569)))) ((9223372036854775807 : Int) % (wrap64 (1 + t569))) ([] : List S33) 0 (([1] : List Int)) 1))) true := by
    refine Ev.congr (fun k => ?_) main
    rw [hw, Option.bind_some, w1, if_neg ne, wq, ← hlf]
  refine Ev.rounds (Ev.bind known_ev (Ev.congr (fun k => ?_) f2))
  exact if_pos (rfl : true = true)

end Go.Proofs.Ytlacfpbfnedgdaa.Pure
