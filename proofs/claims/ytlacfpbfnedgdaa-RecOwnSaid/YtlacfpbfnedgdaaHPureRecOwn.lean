/- RecOwn, in plain Lean: facts that were handed in, bytes that were, may be changed, what was told is not; for every input. -/
import Derived.ArgAppend
import Derived.Below
import Derived.BigQuiet
import Derived.Deep.AppendLies
import Derived.Deep.CutBlock
import Derived.Deep.DeepCutAuto
import Derived.Deep.Draws
import Derived.Deep.LoopGhost
import Derived.Deep.OwnRows
import Derived.Deep.QuietTactic
import Derived.Deep.RegionHeld3
import Derived.Deep.RegionWith
import Derived.KernelRfl
import Derived.Laws.BitsLemmas
import Derived.Laws.BytesArg
import Derived.Laws.CopyOwn
import Derived.Laws.IdiomCopy
import Derived.Laws.MakeOwn
import Derived.Laws.OwnMore
import Derived.Laws.Rows
import Derived.Laws.Slices
import Derived.Lib.AppendStr
import Derived.Lib.ConvBytes
import Derived.Lib.SlBytesConst
import Derived.Lib.SliceRun
import Derived.Maps.AppendAt
import Derived.OrdersHeld
import Derived.OwnWalk
import Derived.RegionTactic
import Derived.RowKit
import Derived.RowKit3
import Derived.Shelf.Abstract
import Derived.Tactics
import Derived.Test.YtlacfpbfnedgdaaProg
import Derived.WalkKit
import Derived.WalkSpells
import Derived.WideLaws
import Derived.Test.YtlacfpbfnedgdaaPRecOwn1
import Derived.Test.YtlacfpbfnedgdaaPRecOwn3
import Derived.Test.YtlacfpbfnedgdaaPRecOwn4
import Derived.Test.YtlacfpbfnedgdaaPRecOwn5
import Derived.Test.YtlacfpbfnedgdaaPRecOwn6
import Derived.Test.YtlacfpbfnedgdaaPRecOwn7
import Derived.Test.YtlacfpbfnedgdaaPRecOwn8
import Derived.Test.YtlacfpbfnedgdaaPRecOwn9
import Derived.Test.YtlacfpbfnedgdaaPRecOwn10
import Derived.Test.YtlacfpbfnedgdaaPRecOwn11
import Derived.Test.YtlacfpbfnedgdaaPRecOwn12
namespace Go.Proofs.Ytlacfpbfnedgdaa.Pure
open Go.RowKit Go.Proofs.Ytlacfpbfnedgdaa.Q Go.Proofs.YtlacfpbfnedgdaaW.PrintWords Go.Proofs.YtlacfpbfnedgdaaW.PrintLast Go.Proofs.YtlacfpbfnedgdaaW.PrintMore
theorem flat_le : ∀ rows : List S33, (∀ x ∈ rows, x.f0.length ≤ 100 ∧ x.f1.length ≤ 100) → (rows.flatMap encRow).length ≤ 900 * rows.length
  | [], _ => by simp
  | x :: t, h => by
    have ih := flat_le t (fun y hy => h y (List.mem_cons_of_mem _ hy))
    have hx := encRow_le (h x List.mem_cons_self)
    rw [List.flatMap_cons, List.length_append, List.length_cons]
    omega
theorem RecOwn : hypercubelaw1_RecOwn.Pure := by
  intro a0 l1 a2 l3 a4 _ _ _ _ _ _ _ _ _
  obtain ⟨cards, meas, rows, hf, h1, h2, h3, h4, h5⟩ := facts_ev a0 l1 a2 l3
  have hg := facts_good h1 h4 h5
  have hsm := hg.small
  obtain ⟨c1, c2, c3, c4, c5⟩ := check_open h1
  have hlen : 0 < (encP cards meas rows).length ∧ (encP cards meas rows).length ≤ 1000000 := by
    have hfl := flat_le rows hsm.2.2
    unfold encP
    simp only [List.length_append, List.length_cons, List.length_nil, List.length_map]
    omega
  obtain ⟨K0, e0⟩ := known_ev
  obtain ⟨K1, e1⟩ := hf
  obtain ⟨K2, e2⟩ := rec_encode_ev cards meas rows hsm
  obtain ⟨K3, e3⟩ := same_ev cards meas rows cards meas rows (by omega) hg.mild
  obtain ⟨K4, e4⟩ := ref_encode_ev cards meas rows hsm
  rw [show (decide (cards = cards) && decide (meas = meas) && decide (rows = rows)) = true by simp] at e3
  exact ⟨K0 + K1 + K2 + K3 + K4, cards, meas, rows, encP cards meas rows, e0 _ (by omega), e1 _ (by omega), e2 _ (by omega), back hg, fun r hr => by
    have := (right_open (h5 r hr).1).1
    omega, ⟨hlen, by omega⟩, e3 _ (by omega), e4 _ (by omega)⟩
end Go.Proofs.Ytlacfpbfnedgdaa.Pure
