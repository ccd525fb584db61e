/- CellSorts, in plain Lean: keys in the order of Less are in the order of their bytes; for every input. -/
import Derived.Test.YtmkjkkmilopcpaaXPureCA
import Derived.Laws.Strings
import Derived.Test.YtmkjkkmilopcpaaQ14
namespace Go.Proofs.Ytmkjkkmilopcpaa.Pure
open Go.RowKit Go.Proofs.Ytmkjkkmilopcpaa.Q Go.Proofs.YtmkjkkmilopcpaaW.PrintWords Go.Proofs.YtmkjkkmilopcpaaW.PrintLast Go.Proofs.YtmkjkkmilopcpaaW.PrintMore

def Nib (l : List Int) : Prop := ∀ x ∈ l, 0 ≤ x ∧ x < 16
theorem nib_lt {x y : Int} (hx : 0 ≤ x ∧ x < 16) (hy : 0 ≤ y ∧ y < 16) : (UInt8.ofNat x.toNat < UInt8.ofNat y.toNat ↔ x < y) ∧ (UInt8.ofNat x.toNat = UInt8.ofNat y.toNat ↔ x = y) := by
  have h1 : (UInt8.ofNat x.toNat).toNat = x.toNat := by rw [UInt8.toNat_ofNat']; omega
  have h2 : (UInt8.ofNat y.toNat).toNat = y.toNat := by rw [UInt8.toNat_ofNat']; omega
  refine ⟨?_, ?_⟩
  · rw [UInt8.lt_iff_toNat_lt, h1, h2]
    omega
  · rw [← UInt8.toNat_inj, h1, h2]
    omega
theorem bytes_less : ∀ a b : List Int, Nib a → Nib b → Op.bytesLess (a.map fun n => UInt8.ofNat n.toNat) (b.map fun n => UInt8.ofNat n.toNat) = decide (lexC a b < 0)
  | [], [], _, _ => rfl
  | [], _ :: _, _, _ => rfl
  | _ :: _, [], _, _ => rfl
  | x :: xs, y :: ys, ha, hb => by
    obtain ⟨h1, h2⟩ := nib_lt (ha x (by simp)) (hb y (by simp))
    have ih := bytes_less xs ys (fun z h => ha z (List.mem_cons_of_mem _ h)) (fun z h => hb z (List.mem_cons_of_mem _ h))
    simp only [List.map_cons, Op.bytesLess, ih]
    rw [show lexC (x :: xs) (y :: ys) = if x < y then -1 else if x > y then 1 else lexC xs ys from rfl]
    by_cases c1 : x < y
    · rw [if_pos c1, decide_eq_true (h1.2 c1)]
      rfl
    · rw [if_neg c1, decide_eq_false (fun h => c1 (h1.1 h))]
      by_cases c2 : x > y
      · have hne : ¬ UInt8.ofNat x.toNat = UInt8.ofNat y.toNat := fun h => by have := h2.1 h; omega
        rw [if_pos c2, beq_eq_false_iff_ne.2 hne]
        rfl
      · have he : x = y := by omega
        rw [if_neg c2, he, beq_self_eq_true]
        rfl
theorem nib_snoc {l : List Int} {x : Int} (h : Nib l) (hx : 0 ≤ x ∧ x < 16) : Nib (l ++ [x]) := fun z hz => by
  rcases List.mem_append.1 hz with hz | hz
  · exact h z hz
  · rw [List.mem_singleton.1 hz]; exact hx
theorem sorts_l0 (a b : List Int) (n : Nat) (hna : n ≤ a.length) (hnb : n ≤ b.length) (hn : n ≤ 20) (d : Nat) : ∀ (i : Nat) (x y : List Int), n - i = d → i ≤ n → x.length = i → y.length = i → Nib x → Nib y →
    Ev (fun k => hypercubelaw2_CellSorts.l0 k a b (n : Int) x y x y (i : Int)) true := by
  induction d with
  | zero =>
    intro i x y hd hi hx hy nx ny
    refine Ev.step (f := fun k => (cell_Less.f k x y).bind fun t835 => (if ((decide (t835 < 0)) == (Op.bytesLess ((strOfNums x).toList) ((strOfNums y).toList))) = true then ((hypercuberef1_Ints.f k x y).bind fun t836 => (some ((t835 == 0) == t836))) else (none))) (fun k => by simp only [hypercubelaw2_CellSorts.l0]; rw [if_neg (by omega)]) ?_
    refine Ev.bind (cell_less_ev x y (by omega)) ?_
    have hb : Op.bytesLess ((strOfNums x).toList) ((strOfNums y).toList) = decide (lexC x y < 0) := by
      rw [ByteArray.toList_eq, ByteArray.toList_eq]
      exact bytes_less x y nx ny
    refine Ev.congr (fun k => by rw [hb, if_pos (by simp)]) ?_
    have hres : ((lexC x y == 0) == decide (x = y)) = true := by
      by_cases e : x = y
      · subst e; rw [lexC_self]; simp
      · have : lexC x y ≠ 0 := fun h => e ((lexC_zero x y).1 h)
        simp [e, this]
    have := Ev.bind (f := fun _ t => some ((lexC x y == 0) == t)) (ints_ev x y (by omega)) (Ev.now _)
    rw [hres] at this
    exact this
  | succ d ih =>
    intro i x y hd hi hx hy nx ny
    have hia : i < a.length := by omega
    have hib : i < b.length := by omega
    have b1 := Int.emod_nonneg a[i] (show (16 : Int) ≠ 0 by omega)
    have b2 := Int.emod_lt_of_pos a[i] (show (0 : Int) < 16 by omega)
    have b3 := Int.emod_nonneg b[i] (show (16 : Int) ≠ 0 by omega)
    have b4 := Int.emod_lt_of_pos b[i] (show (0 : Int) < 16 by omega)
    have := ih (i + 1) (x ++ [a[i] % 16]) (y ++ [b[i] % 16]) (by omega) (by omega) (by simp [hx]) (by simp [hy]) (nib_snoc nx ⟨b1, b2⟩) (nib_snoc ny ⟨b3, b4⟩)
    have m1 : a[i] % 16 % 256 = a[i] % 16 := by omega
    have m2 : b[i] % 16 % 256 = b[i] % 16 := by omega
    exact Ev.step (fun k => by
      simp only [hypercubelaw2_CellSorts.l0]
      rw [if_pos (by omega), if_pos (by omega), if_pos (by omega), rd_get hia, within2_eq _ _ (by omega) (by omega), Option.bind_some, if_pos (by omega), rd_get hib, within2_eq _ _ (by omega) (by omega), Option.bind_some, if_pos (by omega), if_pos (by omega), if_pos (by omega), if_pos (by omega), m1, m2, w64s (show i < n by omega) (by omega)]) this
theorem CellSorts : hypercubelaw2_CellSorts.Pure := by
  intro a b _ ha _ _ hb _
  refine Ev.rounds ?_
  obtain ⟨n, hn⟩ : ∃ n : Nat, (n : Int) = mn (mn (a.length : Int) (b.length : Int)) 20 := by
    refine ⟨(mn (mn (a.length : Int) (b.length : Int)) 20).toNat, ?_⟩
    unfold mn
    repeat' split
    all_goals omega
  have hb : n ≤ a.length ∧ n ≤ b.length ∧ n ≤ 20 := by
    unfold mn at hn
    repeat' split at hn
    all_goals omega
  refine Ev.congr (f := fun k => hypercubelaw2_CellSorts.l0 k a b (n : Int) [] [] [] [] ((0 : Nat) : Int)) (fun k => by unfold hypercubelaw2_CellSorts.f hypercubelaw2_known.f; rw [Option.bind_some, if_pos rfl, hn]; rfl) ?_
  exact sorts_l0 a b n hb.1 hb.2.1 hb.2.2 n 0 [] [] (by omega) (by omega) rfl rfl (fun x h => by simp at h) (fun x h => by simp at h)
end Go.Proofs.Ytmkjkkmilopcpaa.Pure
