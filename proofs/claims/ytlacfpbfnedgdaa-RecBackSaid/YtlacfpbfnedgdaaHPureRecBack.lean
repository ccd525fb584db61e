/- RecBack, in plain Lean: any facts are written as the document says, and read as they were; for every input. -/
import Derived.ArgAppend
import Derived.Below
import Derived.BigQuiet
import Derived.Deep.AppendLies
import Derived.Deep.CutBlock
import Derived.Deep.DeepCutAuto
import Derived.Deep.Draws
import Derived.Deep.LoopGhost
import Derived.Deep.OwnRows
import Derived.Deep.QuietTactic
import Derived.Deep.RegionHeld3
import Derived.Deep.RegionWith
import Derived.KernelRfl
import Derived.Laws.BitsLemmas
import Derived.Laws.BytesArg
import Derived.Laws.CopyOwn
import Derived.Laws.IdiomCopy
import Derived.Laws.MakeOwn
import Derived.Laws.OwnMore
import Derived.Laws.Rows
import Derived.Laws.Slices
import Derived.Lib.AppendStr
import Derived.Lib.ConvBytes
import Derived.Lib.SlBytesConst
import Derived.Lib.SliceRun
import Derived.Maps.AppendAt
import Derived.OrdersHeld
import Derived.OwnWalk
import Derived.RegionTactic
import Derived.RowKit
import Derived.RowKit3
import Derived.Shelf.Abstract
import Derived.Tactics
import Derived.Test.YtlacfpbfnedgdaaProg
import Derived.WalkKit
import Derived.WalkSpells
import Derived.WideLaws
import Derived.Test.YtlacfpbfnedgdaaPRecBack1
import Derived.Test.YtlacfpbfnedgdaaPRecBack3
import Derived.Test.YtlacfpbfnedgdaaPRecBack4
import Derived.Test.YtlacfpbfnedgdaaPRecBack5
import Derived.Test.YtlacfpbfnedgdaaPRecBack6
import Derived.Test.YtlacfpbfnedgdaaPRecBack7
import Derived.Test.YtlacfpbfnedgdaaPRecBack8
import Derived.Test.YtlacfpbfnedgdaaPRecBack9
import Derived.Test.YtlacfpbfnedgdaaPRecBack10
import Derived.Test.YtlacfpbfnedgdaaPRecBack11
import Derived.Test.YtlacfpbfnedgdaaPRecBack12
namespace Go.Proofs.Ytlacfpbfnedgdaa.Pure
open Go.RowKit Go.Proofs.Ytlacfpbfnedgdaa.Q Go.Proofs.YtlacfpbfnedgdaaW.PrintWords Go.Proofs.YtlacfpbfnedgdaaW.PrintLast Go.Proofs.YtlacfpbfnedgdaaW.PrintMore
theorem bk_good {cards : List Int} {meas : Int} {rows : List S33} (h : GoodF cards meas rows) {big : Int} (hb : (Lit.int .i64 big).wf = true) : GoodF cards meas (bkR rows meas big) := by
  obtain ⟨h1, h2, h3⟩ := h
  refine ⟨h1, by rw [bkR_length]; exact h2, fun x hx => ?_⟩
  unfold bkR at hx
  split at hx
  · rename_i hc
    have h0 : rows.getD 0 z33 ∈ rows := by rw [List.getD_eq_getElem?_getD, List.getElem?_eq_getElem hc.1]; exact List.getElem_mem hc.1
    rcases List.mem_or_eq_of_mem_set hx with hx | hx
    · exact h3 x hx
    · obtain ⟨r1, r2, r3⟩ := right_open (h3 _ h0).1
      rw [hx]
      refine ⟨right_mk r1 (by show (((rows.getD 0 z33).f1.set 0 big).length : Int) = meas; rw [List.length_set]; exact r2) r3, fun y hy => ?_⟩
      rcases List.mem_or_eq_of_mem_set hy with hy | hy
      · exact (h3 _ h0).2 y hy
      · rw [hy]; exact wf_bd hb
  · exact h3 x hx
theorem RecBack : hypercubelaw1_RecBack.Pure := by
  intro a0 l1 a2 l3 a4 _ _ _ _ _ _ _ _ hw4
  obtain ⟨cards, meas, rows, hf, h1, h2, h3, h4, h5⟩ := facts_ev a0 l1 a2 l3
  have hg := bk_good (facts_good h1 h4 h5) hw4
  have hsm := hg.small
  obtain ⟨c1, c2, c3, c4, c5⟩ := check_open h1
  obtain ⟨K0, e0⟩ := known_ev
  obtain ⟨K1, e1⟩ := hf
  obtain ⟨K2, e2⟩ := rec_encode_ev cards meas (bkR rows meas a4) hsm
  obtain ⟨K3, e3⟩ := same_ev cards meas (bkR rows meas a4) cards meas (bkR rows meas a4) (by omega) hg.mild
  obtain ⟨K4, e4⟩ := ref_encode_ev cards meas (bkR rows meas a4) hsm
  rw [show (decide (cards = cards) && decide (meas = meas) && decide (bkR rows meas a4 = bkR rows meas a4)) = true by simp] at e3
  exact ⟨K0 + K1 + K2 + K3 + K4, cards, meas, rows, encP cards meas (bkR rows meas a4), e0 _ (by omega), e1 _ (by omega), fun hm r hr => by
    have := (right_open (h5 r hr).1).2.1
    omega, e2 _ (by omega), back hg, e4 _ (by omega), e3 _ (by omega)⟩
end Go.Proofs.Ytlacfpbfnedgdaa.Pure
