/- RecSize, in plain Lean: how many bytes Encode writes, by dimensions, measures and rows; for every input. -/
import Derived.Test.YtlacfpbfnedgdaaQ14
import Derived.Test.YtlacfpbfnedgdaaXPureE
namespace Go.Proofs.Ytlacfpbfnedgdaa.Pure
open Go.RowKit Go.Proofs.Ytlacfpbfnedgdaa.Q Go.Proofs.YtlacfpbfnedgdaaW.PrintWords Go.Proofs.YtlacfpbfnedgdaaW.PrintLast

theorem eights_len (l : List Int) : (l.flatMap eight).length = 8 * l.length := by
  induction l with
  | nil => rfl
  | cons x l ih => rw [List.flatMap_cons, List.length_append, eight_length, ih, List.length_cons]; omega
theorem rows_len (d m : Nat) : ∀ (rows : List S33), (∀ x ∈ rows, x.f0.length = d ∧ x.f1.length = m) → (rows.flatMap encRow).length = rows.length * (d + 8 * m)
  | [], _ => by simp
  | x :: rows, h => by
    obtain ⟨h0, h1⟩ := h x List.mem_cons_self
    rw [List.flatMap_cons, List.length_append, rows_len d m rows (fun y hy => h y (List.mem_cons_of_mem _ hy)), List.length_cons, Nat.add_mul, Nat.one_mul]
    have : (encRow x).length = d + 8 * m := by unfold encRow; rw [List.length_append, List.length_map, eights_len, h0, h1]
    rw [this]
    omega
theorem RecSize : hypercubelaw1_RecSize.Pure := by
  intro a0 l1 a2 l3 _ _ _ _ _ _ _ _
  obtain ⟨cards, meas, rows, hF, hc, _, _, hl, hr⟩ := facts_ev a0 l1 a2 l3
  have hg := facts_good hc hl hr
  obtain ⟨h1, h2, _, h4, h5⟩ := check_open hc
  refine Ev.rounds (Ev.congr (fun k => by unfold hypercubelaw1_RecSize.f; rfl) (Ev.bind known_ev ?_))
  refine Ev.congr (fun k => by rw [if_pos rfl]) (Ev.bind hF ?_)
  dsimp only
  refine Ev.bind (rec_encode_ev cards meas rows hg.small) ?_
  have hlen : (encP cards meas rows).length = 8 + cards.length + rows.length * (cards.length + 8 * meas.toNat) := by
    unfold encP
    rw [List.length_append, List.length_append, List.length_append, List.length_map, rows_len cards.length meas.toNat rows (fun x hx => by
      obtain ⟨q1, q2, _⟩ := right_open (hr x hx).1
      exact ⟨q1, by omega⟩)]
    simp only [List.length_cons, List.length_nil]
    omega
  have hm : meas.toNat = 0 ∨ meas.toNat = 1 ∨ meas.toNat = 2 := by omega
  have hrl : rows.length ≤ 40 := by omega
  have hmul : 0 ≤ (rows.length : Int) * ((cards.length : Int) + 8 * meas) ∧ (rows.length : Int) * ((cards.length : Int) + 8 * meas) ≤ 40 * 20 :=
    ⟨Int.mul_nonneg (by omega) (by omega), Int.mul_le_mul (by omega) (by omega) (by omega) (by omega)⟩
  have hlen2 : ((encP cards meas rows).length : Int) = 8 + (cards.length : Int) + (rows.length : Int) * ((cards.length : Int) + 8 * meas) := by
    rw [hlen]
    push_cast
    rw [show ((meas.toNat : Nat) : Int) = meas by omega]
  have e1 : wrap64 (8 * meas) = 8 * meas := w64 (by omega) (by omega)
  have e2 : wrap64 ((cards.length : Int) + 8 * meas) = (cards.length : Int) + 8 * meas := w64 (by omega) (by omega)
  have e3 : wrap64 (8 + (cards.length : Int)) = 8 + (cards.length : Int) := w64 (by omega) (by omega)
  have hb : ((encP cards meas rows).length : Int) = wrap64 ((wrap64 (8 + (cards.length : Int))) + (wrap64 ((rows.length : Int) * (wrap64 ((cards.length : Int) + (wrap64 (8 * meas))))))) := by
    rw [e1, e2, e3, hlen2]
    clear hlen hlen2 e1 e2 e3
    generalize (rows.length : Int) * ((cards.length : Int) + 8 * meas) = P at hmul ⊢
    rw [w64 (x := P) (by omega) (by omega), w64 (by omega) (by omega)]
  exact Ev.congr (fun k => by rw [show (((encP cards meas rows).length : Int) == _) = true from by rw [beq_iff_eq]; exact hb]) (Ev.now _)

end Go.Proofs.Ytlacfpbfnedgdaa.Pure
