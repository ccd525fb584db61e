/- CellLess, in plain Lean: two keys are held as the document says, whichever way about; for every input. -/
import Derived.Test.YtmkjkkmilopcpaaXPureCA
import Derived.Test.YtmkjkkmilopcpaaQ6
namespace Go.Proofs.Ytmkjkkmilopcpaa.Pure
open Go.RowKit Go.Proofs.Ytmkjkkmilopcpaa.Q Go.Proofs.YtmkjkkmilopcpaaW.PrintWords Go.Proofs.YtmkjkkmilopcpaaW.PrintLast

theorem CellLess : hypercubelaw2_CellLess.Pure := by
  intro a b c ha _ _ hb _ _ hc _ _
  simp only [maxLen] at ha hb hc
  have hj0 : Ev (fun k => hypercubelaw2_CellLess.j0 k a b c true) true := Ev.step (f := fun _ => some true) (fun k => by simp only [hypercubelaw2_CellLess.j0]; rw [if_pos trivial]) (Ev.now _)
  refine Ev.rounds ?_
  have h1 : ∀ k, hypercubelaw2_CellLess.f k a b c = (if (a.length : Int) > 50 then (hypercubelaw2_CellLess.j0 k a b c true) else (if (b.length : Int) > 50 then (hypercubelaw2_CellLess.j0 k a b c true) else (hypercubelaw2_CellLess.j0 k a b c (decide ((c.length : Int) > 50))))) := fun k => by
    unfold hypercubelaw2_CellLess.f hypercubelaw2_known.f
    rw [Option.bind_some, if_pos rfl]
  by_cases c1 : (a.length : Int) > 50
  · exact Ev.congr (fun k => by rw [h1, if_pos c1]) hj0
  by_cases c2 : (b.length : Int) > 50
  · exact Ev.congr (fun k => by rw [h1, if_neg c1, if_pos c2]) hj0
  by_cases c3 : (c.length : Int) > 50
  · exact Ev.congr (fun k => by rw [h1, if_neg c1, if_neg c2, decide_eq_true c3]) hj0
  refine Ev.congr (f := fun k => hypercubelaw2_CellLess.j0 k a b c false) (fun k => by rw [h1, if_neg c1, if_neg c2, decide_eq_false c3]) ?_
  have hab := lexC_bd a b
  have hres : ((lexC a b == 0) == decide (a = b)) = true := by
    by_cases e : a = b
    · subst e; rw [lexC_self]; simp
    · have : lexC a b ≠ 0 := fun h => e ((lexC_zero a b).1 h)
      simp [e, this]
  have hints : Ev (fun k => (hypercuberef1_Ints.f k a b).bind fun t => some ((lexC a b == 0) == t)) true := by
    have := Ev.bind (f := fun _ t => some ((lexC a b == 0) == t)) (ints_ev a b (by omega)) (Ev.now _)
    rw [hres] at this
    exact this
  have hw : wrap64 (-lexC a b) = 0 - lexC a b := by unfold wrap64; omega
  refine Ev.step (f := fun k => (cell_Less.f k a b).bind fun t188 => ((hypercuberef2_Less.f k a b).bind fun t189 => (if t188 = t189 then ((cell_Less.f k b a).bind fun t190 => (if t190 = (wrap64 (-t188)) then ((cell_Less.f k a a).bind fun t191 => (if t191 = 0 then (if t188 > 0 then ((hypercuberef1_Ints.f k a b).bind fun t192 => (some ((t188 == 0) == t192))) else ((cell_Less.f k b c).bind fun t193 => (if t193 > 0 then ((hypercuberef1_Ints.f k a b).bind fun t194 => (some ((t188 == 0) == t194))) else ((cell_Less.f k a c).bind fun t195 => (if t195 ≤ 0 then ((hypercuberef1_Ints.f k a b).bind fun t196 => (some ((t188 == 0) == t196))) else (none)))))) else (none))) else (none))) else (none)))) (fun k => by simp only [hypercubelaw2_CellLess.j0]; rw [if_neg (by simp)]) ?_
  refine Ev.bind (cell_less_ev a b (by omega)) ?_
  refine Ev.bind (ref_less_ev a b (by omega)) ?_
  refine Ev.congr (fun k => by rw [if_pos rfl]) ?_
  refine Ev.bind (cell_less_ev b a (by omega)) ?_
  refine Ev.congr (fun k => by rw [hw, if_pos (lexC_swap a b)]) ?_
  refine Ev.bind (cell_less_ev a a (by omega)) ?_
  refine Ev.congr (fun k => by rw [if_pos (lexC_self a)]) ?_
  by_cases c4 : lexC a b > 0
  · exact Ev.congr (fun k => by rw [if_pos c4]) hints
  refine Ev.congr (fun k => by rw [if_neg c4]) ?_
  refine Ev.bind (cell_less_ev b c (by omega)) ?_
  by_cases c5 : lexC b c > 0
  · exact Ev.congr (fun k => by rw [if_pos c5]) hints
  refine Ev.congr (fun k => by rw [if_neg c5]) ?_
  refine Ev.bind (cell_less_ev a c (by omega)) ?_
  exact Ev.congr (fun k => by rw [if_pos (lexC_trans a b c (by omega) (by omega))]) hints
end Go.Proofs.Ytmkjkkmilopcpaa.Pure
