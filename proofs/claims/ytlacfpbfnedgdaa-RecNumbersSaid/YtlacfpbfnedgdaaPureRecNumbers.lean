/- RecNumbers, in plain Lean: each number comes back, whatever it is; for every input. -/
import Derived.Test.YtlacfpbfnedgdaaQ15
import Derived.Test.YtlacfpbfnedgdaaXPureE
namespace Go.Proofs.Ytlacfpbfnedgdaa.Pure
open Go.RowKit Go.Proofs.Ytlacfpbfnedgdaa.Q Go.Proofs.YtlacfpbfnedgdaaW.PrintWords Go.Proofs.YtlacfpbfnedgdaaW.PrintLast

def nrows (l : List Int) : List S33 := l.map fun x => ⟨[0], [x, -9223372036854775808]⟩
theorem nums_l0 (l : List Int) (hl : l.length ≤ 100) (hb : ∀ x ∈ l, -9223372036854775808 ≤ x ∧ x ≤ 9223372036854775807) (d : Nat) : ∀ (i : Nat) (acc : List S33), l.length - i = d → i ≤ l.length → acc = nrows (l.take i) →
    Ev (fun k => hypercubelaw1_RecNumbers.l0 k l acc (i : Int) [1] 2) true := by
  induction d with
  | zero =>
    intro i acc hd hi ha
    rw [List.take_of_length_le (by omega)] at ha
    subst ha
    have hg : GoodF [1] 2 (nrows l) := by
      refine ⟨by decide, by unfold nrows; rw [List.length_map]; omega, fun x hx => ?_⟩
      unfold nrows at hx
      obtain ⟨y, hy, rfl⟩ := List.mem_map.1 hx
      refine ⟨right_mk rfl rfl (fun i hi => ?_), fun z hz => ?_⟩
      · have : i = 0 := by simp at hi; omega
        subst this
        exact ⟨by simp [rd], by simp [rd]⟩
      · have := hb y hy
        simp at hz
        omega
    refine Ev.step (fun k => by simp only [hypercubelaw1_RecNumbers.l0]; rw [if_neg (by omega)]) (Ev.bind (rec_encode_ev [1] 2 (nrows l) hg.small) ?_)
    have hs := same_ev [1] 2 (nrows l) [1] 2 (nrows l) (by decide) hg.mild
    rw [show (decide (([1] : List Int) = [1]) && decide ((2 : Int) = 2) && decide (nrows l = nrows l)) = true by simp] at hs
    refine Ev.congr (fun k => by rw [back hg]; simp only [Option.bind_some]; rw [if_pos trivial]) (Ev.bind hs (Ev.now _))
  | succ d ih =>
    intro i acc hd hi ha
    have hia : i < l.length := by omega
    have hal : acc.length = i := by rw [ha]; unfold nrows; rw [List.length_map, List.length_take]; omega
    have := ih (i + 1) (acc ++ [⟨[0], [l[i], -9223372036854775808]⟩]) (by omega) (by omega) (by
      rw [List.take_succ_eq_append_getElem hia, ha]; unfold nrows; rw [List.map_append]; rfl)
    exact Ev.step (fun k => by simp only [hypercubelaw1_RecNumbers.l0]; rw [if_pos (by omega), if_pos (by omega), if_pos (by omega), rd_get hia, w64s hia (by omega)]) this
theorem RecNumbers : hypercubelaw1_RecNumbers.Pure := by
  intro l _ _ hw
  refine Ev.rounds (Ev.congr (fun k => by unfold hypercubelaw1_RecNumbers.f; rfl) (Ev.bind known_ev ?_))
  by_cases h : (l.length : Int) > 100
  · exact Ev.congr (fun k => by rw [if_pos rfl, if_pos h]) (Ev.now _)
  · exact Ev.congr (fun k => by rw [if_pos rfl, if_neg h]; rfl) (nums_l0 l (by omega) (fun x hx => wf_bd (hw x hx)) l.length 0 [] (by omega) (by omega) rfl)

end Go.Proofs.Ytlacfpbfnedgdaa.Pure
