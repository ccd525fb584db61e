/- CellKnown, in plain Lean: these rows come to just these cells, whichever set is asked for; for every input. -/
import Derived.Test.YtmkjkkmilopcpaaXPureCA
import Derived.Test.YtmkjkkmilopcpaaQ11
namespace Go.Proofs.Ytmkjkkmilopcpaa.Pure
open Go.RowKit Go.Proofs.Ytmkjkkmilopcpaa.Q Go.Proofs.YtmkjkkmilopcpaaW.PrintWords Go.Proofs.YtmkjkkmilopcpaaW.PrintLast

theorem CellKnown : hypercubelaw2_CellKnown.Pure := by
  intro a0 _
  refine ⟨60, ?_⟩
  unfold hypercubelaw2_CellKnown.f hypercubelaw2_known.f
  rw [Option.bind_some, if_pos rfl, within2_eq a0 4 (by omega) (by omega), Option.bind_some]
  have h : a0 % 4 = 0 ∨ a0 % 4 = 1 ∨ a0 % 4 = 2 ∨ a0 % 4 = 3 := by omega
  rcases h with h | h | h | h <;> (rw [h]; decide +kernel)
end Go.Proofs.Ytmkjkkmilopcpaa.Pure
