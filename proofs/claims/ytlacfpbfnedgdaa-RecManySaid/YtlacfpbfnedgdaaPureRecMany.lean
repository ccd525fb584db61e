/- RecMany, in plain Lean: three hundred rows are read, more are refused; for every input. -/
import Derived.Test.YtlacfpbfnedgdaaQ14
import Derived.Test.YtlacfpbfnedgdaaXPureE
namespace Go.Proofs.Ytlacfpbfnedgdaa.Pure
open Go.RowKit Go.Proofs.Ytlacfpbfnedgdaa.Q Go.Proofs.YtlacfpbfnedgdaaW.PrintWords Go.Proofs.YtlacfpbfnedgdaaW.PrintLast

/-- The bytes: the head, then so many keys. -/
def keysN (n : Nat) : List Int := (List.range n).map fun i => ((i % 2 : Nat) : Int)
def manyB (n : Nat) (i : Nat) : List Int := [67, 85, 66, 49, 1, 2, 0, (n : Int) / 256 % 256, (n : Int) % 256] ++ keysN i
theorem rowsN (n : Nat) : ∀ (acc : List S33) (ks : List Int), ks.length = n → (∀ y ∈ ks, 0 ≤ y ∧ y < 2) → ∃ rows, rowsL [2] 0 n ks acc = some (rows, []) ∧ rows.length = acc.length + n := by
  induction n with
  | zero => intro acc ks hk _; exact ⟨acc, by obtain rfl := List.eq_nil_of_length_eq_zero hk; rfl, rfl⟩
  | succ n ih =>
    intro acc ks hk hb
    obtain ⟨y, ks, rfl⟩ : ∃ y l, ks = y :: l := by cases ks with | nil => simp at hk | cons y l => exact ⟨y, l, rfl⟩
    have hy := hb y List.mem_cons_self
    obtain ⟨rows, h1, h2⟩ := ih (acc ++ [⟨[y], []⟩]) ks (by simpa using hk) (fun z hz => hb z (List.mem_cons_of_mem _ hz))
    refine ⟨rows, ?_, by rw [h2]; simp; omega⟩
    have e1 := list1 ks [y] [] (fun z hz => by rw [List.mem_singleton.1 hz]; omega)
    have e1' : listL 1 1 (y :: ks) false [] = ([y], ks, false) := e1
    unfold rowsL
    rw [show ([2] : List Int).length = 1 from rfl, e1']
    simp only []
    have hq : listL 8 (0 : Int).toNat ks false [] = ([], ks, false) := rfl
    rw [hq]
    simp only []
    have hr : rightP [2] 0 ⟨[y], []⟩ = true := right_mk rfl rfl (fun i hi => by
      have : i = 0 := by simp at hi; omega
      subst this
      simp [rd]; omega)
    rw [if_neg (by simp), if_pos hr]
    exact h1
theorem many_dec (n : Nat) (hn : n ≤ 1000) : ∃ c m rows e, rec_Decode.f (manyB n n) = some (c, m, rows, e) ∧ (300 < n → e = 1 ∧ rows.length = 0) ∧ (n ≤ 300 → e = 0 ∧ rows.length = n) := by
  have hkl : (keysN n).length = n := by unfold keysN; simp
  have hkb : ∀ y ∈ keysN n, 0 ≤ y ∧ y < 2 := by
    intro y hy
    unfold keysN at hy
    obtain ⟨i, _, rfl⟩ := List.mem_map.1 hy
    omega
  have hlen : (manyB n n).length ≤ 100000000000 := by unfold manyB; rw [List.length_append, hkl]; simp; omega
  have e0 : decodeP (manyB n n) = decRows [2] 0 (n : Int) (keysN n) false := by
    unfold decodeP manyB
    rw [if_neg (by simp), show ([67, 85, 66, 49, 1, 2, 0, (n : Int) / 256 % 256, (n : Int) % 256] ++ keysN n : List Int) = [67, 85, 66, 49] ++ (1 :: 2 :: 0 :: ((n : Int) / 256 % 256) :: ((n : Int) % 256) :: keysN n) from rfl]
    have hmk : markP ([67, 85, 66, 49] ++ (1 :: 2 :: 0 :: ((n : Int) / 256 % 256) :: ((n : Int) % 256) :: keysN n)) = true := by
      unfold markP
      rw [List.take_left' (by rfl)]
      decide +kernel
    rw [hmk, if_neg (by simp), List.drop_left' (by rfl)]
    unfold decHead
    obtain ⟨t1, t2, t3⟩ := take1 1 (2 :: 0 :: ((n : Int) / 256 % 256) :: ((n : Int) % 256) :: keysN n) (by omega) (by omega)
    rw [t1, t2, t3]
    have e1 := list1 (0 :: ((n : Int) / 256 % 256) :: ((n : Int) % 256) :: keysN n) [2] [] (fun z hz => by rw [List.mem_singleton.1 hz]; omega)
    have e1' : listL 1 (1 : Int).toNat (2 :: 0 :: ((n : Int) / 256 % 256) :: ((n : Int) % 256) :: keysN n) false [] = ([2], 0 :: ((n : Int) / 256 % 256) :: ((n : Int) % 256) :: keysN n, false) := e1
    rw [e1']
    unfold decTail
    simp only []
    obtain ⟨t4, t5, t6⟩ := take1 0 (((n : Int) / 256 % 256) :: ((n : Int) % 256) :: keysN n) (by omega) (by omega)
    rw [t4, t5, t6]
    unfold decM
    obtain ⟨t7, t8, t9⟩ := take2 ((n : Int) / 256 % 256) ((n : Int) % 256) (keysN n) (by omega) (by omega) (by omega) (by omega)
    rw [t7, t8, t9, show (n : Int) / 256 % 256 * 256 + (n : Int) % 256 = n by omega]
  have e2 : rec_Decode.f (manyB n n) = some (decRows [2] 0 (n : Int) (keysN n) false) := by
    unfold rec_Decode.f
    rw [if_pos hlen, e0]
  by_cases h : 300 < n
  · have : decRows [2] 0 (n : Int) (keysN n) false = badP := by
      unfold decRows
      rw [if_neg (by simp), show checkP [2] 0 = true by decide, if_neg (by simp), if_pos (by omega)]
    rw [this] at e2
    exact ⟨[], 0, [], 1, e2, fun _ => ⟨rfl, rfl⟩, fun h2 => by omega⟩
  · obtain ⟨rows, h1, h2⟩ := rowsN n [] (keysN n) hkl hkb
    have : decRows [2] 0 (n : Int) (keysN n) false = ([2], 0, rows, 0) := by
      unfold decRows
      rw [if_neg (by simp), show checkP [2] 0 = true by decide, if_neg (by simp), if_neg (by omega), Int.toNat_natCast, h1]
      simp
    rw [this] at e2
    exact ⟨[2], 0, rows, 0, e2, fun h2 => by omega, fun _ => ⟨rfl, by simpa using h2⟩⟩
theorem many_l0 (n : Nat) (hn : n ≤ 1000) (d : Nat) : ∀ i : Nat, n - i = d → i ≤ n → Ev (fun k => hypercubelaw1_RecMany.l0 k (n : Int) (manyB n i) (i : Int)) true := by
  induction d with
  | zero =>
    intro i hd hi
    obtain rfl : i = n := by omega
    obtain ⟨c, m, rows, e, h1, h2, h3⟩ := many_dec i hn
    refine Ev.step (fun k => by simp only [hypercubelaw1_RecMany.l0]; rw [if_neg (by omega), h1]) ?_
    by_cases h : 300 < i
    · obtain ⟨rfl, h4⟩ := h2 h
      refine Ev.congr (fun k => by simp only [Option.bind_some]; rw [if_pos (by omega), if_pos trivial, h4]; rfl) (Ev.now _)
    · obtain ⟨rfl, h4⟩ := h3 (by omega)
      refine Ev.congr (fun k => by simp only [Option.bind_some]; rw [if_neg (by omega), if_pos trivial, h4, beq_self_eq_true]) (Ev.now _)
  | succ d ih =>
    intro i hd hi
    have hi' : i < n := by omega
    have hl : (manyB n i).length = 9 + i := by unfold manyB keysN; simp; omega
    have hk : manyB n i ++ [(Int.tmod (i : Int) 2) % 256] = manyB n (i + 1) := by
      unfold manyB keysN
      rw [List.range_succ, List.map_append, List.append_assoc]
      have : (Int.tmod (i : Int) 2) % 256 = ((i % 2 : Nat) : Int) := by
        rw [Int.tmod_eq_emod_of_nonneg (by omega)]; omega
      rw [this]
      rfl
    refine Ev.step (fun k => ?_) (ih (i + 1) (by omega) (by omega))
    simp only [hypercubelaw1_RecMany.l0]
    rw [if_pos (by omega), if_pos (by omega), hk, w64s hi' (by omega)]
theorem RecMany : hypercubelaw1_RecMany.Pure := by
  intro a _
  have hw := within_eq a 12 (by omega) (by omega)
  obtain ⟨n, hn⟩ : ∃ n : Nat, a % 12 = n := ⟨(a % 12).toNat, by omega⟩
  have hn12 : n < 12 := by omega
  rw [hn] at hw
  refine Ev.rounds (Ev.congr (fun k => by unfold hypercubelaw1_RecMany.f; rfl) (Ev.bind known_ev ?_))
  refine Ev.congr (fun k => by rw [if_pos rfl, hw]; simp only [Option.bind_some]; rfl) (Ev.bind (ref_encode_ev [2] 0 [] ⟨by decide, by decide, by simp⟩) ?_)
  have he : encP [2] 0 [] = [67, 85, 66, 49, 1, 2, 0, 0, 0] := by decide +kernel
  have hm := many_l0 (295 + n) (by omega) (295 + n) 0 (by omega) (by omega)
  refine Ev.congr (fun k => ?_) hm
  rw [he]
  have w1 : wrap64 ((([67, 85, 66, 49, 1, 2, 0, 0, 0] : List Int).length : Int) - 2) = 7 := by decide +kernel
  have w2 : wrap64 ((([67, 85, 66, 49, 1, 2, 0, 0, 0] : List Int).length : Int) - 1) = 8 := by decide +kernel
  have w3 : wrap64 (295 + (n : Int)) = ((295 + n : Nat) : Int) := by rw [w64 (by omega) (by omega)]; omega
  rw [w1, w2, w3, if_pos (by omega), if_pos (by decide), if_pos (by omega), if_pos (by decide)]
  rfl

end Go.Proofs.Ytlacfpbfnedgdaa.Pure
