/- RecSound, in plain Lean: whether the sums stay what an int can be is told as the reference tells it; for every input. -/
import Derived.Test.YtlacfpbfnedgdaaQ12
import Derived.Test.YtlacfpbfnedgdaaXPureG
namespace Go.Proofs.Ytlacfpbfnedgdaa.Pure
open Go.RowKit Go.Proofs.Ytlacfpbfnedgdaa.Q Go.Proofs.YtlacfpbfnedgdaaW.PrintWords Go.Proofs.YtlacfpbfnedgdaaW.PrintLast

theorem rd_wf {l : List Int} (h : ∀ x ∈ l, (Lit.int .i64 x).wf = true) {i : Nat} (hi : i < l.length) : -9223372036854775808 ≤ rd l i ∧ rd l i ≤ 9223372036854775807 := by
  rw [rd_get hi]; exact wf_bd (h _ (List.getElem_mem hi))
theorem sound_law (l0 l1 : List Int) (two : Bool) (hl : l0.length ≤ 100) (h0 : ∀ x ∈ l0, (Lit.int .i64 x).wf = true) (h1 : ∀ x ∈ l1, (Lit.int .i64 x).wf = true) (c : List Int) (d : Nat) :
    ∀ (i : Nat) (acc : List S33), l0.length - i = d → i ≤ l0.length → acc.length = i → (∀ x ∈ acc, x.f1.length = (if two = true then 2 else 1) ∧ ∀ y ∈ x.f1, -9223372036854775808 ≤ y ∧ y ≤ 9223372036854775807) →
      Ev (fun k => hypercubelaw1_RecSound.l0 k l0 l1 two acc (i : Int) c (if two = true then 2 else 1)) true := by
  induction d with
  | zero =>
    intro i acc hd hi hal hb
    have hr : RowsM (if two = true then 2 else 1) acc := ⟨by omega, hb⟩
    have hm : (if two = true then 2 else 1) ≤ 1000 := by split <;> omega
    have e : ((if two = true then (2 : Nat) else 1 : Nat) : Int) = (if two = true then (2 : Int) else 1) := by split <;> rfl
    have s1 := sound_ev _ hm c acc hr
    have s2 := ref_sound_ev _ hm c acc hr
    rw [e] at s1 s2
    refine Ev.step (fun k => by simp only [hypercubelaw1_RecSound.l0]; rw [if_neg (by omega)]) (Ev.bind s1 (Ev.bind s2 ?_))
    exact Ev.congr (fun k => by rw [beq_self_eq_true]) (Ev.now _)
  | succ d ih =>
    intro i acc hd hi hal hb
    have hia : i < l0.length := by omega
    have w := w64s hia (by omega)
    have p0 : (i : Int) < (l0.length : Int) := by omega
    have p1 : (0 : Int) ≤ (i : Int) := by omega
    have p2 : acc.length < 2932031007402 := by omega
    have b0 := rd_wf h0 hia
    have one : ∀ (k0 q : List Int), q.length = (if two = true then 2 else 1) → (∀ y ∈ q, -9223372036854775808 ≤ y ∧ y ≤ 9223372036854775807) → Ev (fun k => hypercubelaw1_RecSound.l0 k l0 l1 two (acc ++ [⟨k0, q⟩]) ((i + 1 : Nat) : Int) c (if two = true then 2 else 1)) true := fun k0 q hq hqb =>
      ih (i + 1) _ (by omega) (by omega) (by simp; omega) (fun x hx => by
        rcases List.mem_append.1 hx with hx | hx
        · exact hb x hx
        · rw [List.mem_singleton.1 hx]; exact ⟨hq, hqb⟩)
    cases two with
    | false =>
      refine Ev.step (fun k => ?_) (one [Int.tmod (i : Int) 2] [rd l0 (i : Int)] rfl (fun y hy => by rw [List.mem_singleton.1 hy]; exact b0))
      simp only [hypercubelaw1_RecSound.l0, Option.bind_some]
      rw [if_pos p0, if_pos p1, if_neg (by simp), if_pos p2, w]
    | true =>
      by_cases h : (i : Int) < (l1.length : Int)
      · have b1 := rd_wf h1 (show i < l1.length by omega)
        refine Ev.step (fun k => ?_) (one [Int.tmod (i : Int) 2] ([rd l0 (i : Int)] ++ [rd l1 (i : Int)]) rfl (fun y hy => by
          rcases List.mem_append.1 hy with hy | hy <;> rw [List.mem_singleton.1 hy]
          · exact b0
          · exact b1))
        simp only [hypercubelaw1_RecSound.l0, Option.bind_some]
        rw [if_pos p0, if_pos p1, if_pos trivial, if_pos h, if_pos (by simp), if_pos p2, w]
      · refine Ev.step (fun k => ?_) (one [Int.tmod (i : Int) 2] ([rd l0 (i : Int)] ++ [(i : Int)]) rfl (fun y hy => by
          rcases List.mem_append.1 hy with hy | hy <;> rw [List.mem_singleton.1 hy]
          · exact b0
          · omega))
        simp only [hypercubelaw1_RecSound.l0, Option.bind_some]
        rw [if_pos p0, if_pos p1, if_pos trivial, if_neg h, if_pos (by simp), if_pos p2, w]
theorem RecSound : hypercubelaw1_RecSound.Pure := by
  intro l0 l1 two _ _ h0 _ _ h1
  refine Ev.rounds (Ev.congr (fun k => by unfold hypercubelaw1_RecSound.f; rfl) (Ev.bind known_ev ?_))
  by_cases h : (l0.length : Int) > 100
  · exact Ev.congr (fun k => by rw [if_pos rfl, if_pos h]) (Ev.now _)
  · have main := sound_law l0 l1 two (by omega) h0 h1 [2] l0.length 0 [] (by omega) (by omega) rfl (by simp)
    cases two with
    | false =>
      refine Ev.congr (fun k => by rw [if_pos rfl, if_neg h]) (Ev.step (fun k => ?_) main)
      simp [hypercubelaw1_RecSound.j0]
    | true =>
      refine Ev.congr (fun k => by rw [if_pos rfl, if_neg h]) (Ev.step (fun k => ?_) main)
      simp [hypercubelaw1_RecSound.j0]

end Go.Proofs.Ytlacfpbfnedgdaa.Pure
