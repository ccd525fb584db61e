/- RecReads, in plain Lean: any bytes, facts' with bytes turned, cut off, others laid in, are read, or refused, as the document says; for every input. -/
import Derived.ArgAppend
import Derived.Below
import Derived.BigQuiet
import Derived.Deep.AppendLies
import Derived.Deep.CutBlock
import Derived.Deep.DeepCutAuto
import Derived.Deep.Draws
import Derived.Deep.LoopGhost
import Derived.Deep.OwnRows
import Derived.Deep.QuietTactic
import Derived.Deep.RegionHeld3
import Derived.Deep.RegionWith
import Derived.KernelRfl
import Derived.Laws.BitsLemmas
import Derived.Laws.BytesArg
import Derived.Laws.CopyOwn
import Derived.Laws.IdiomCopy
import Derived.Laws.MakeOwn
import Derived.Laws.OwnMore
import Derived.Laws.Rows
import Derived.Laws.Slices
import Derived.Lib.AppendStr
import Derived.Lib.ConvBytes
import Derived.Lib.SlBytesConst
import Derived.Lib.SliceRun
import Derived.Maps.AppendAt
import Derived.OrdersHeld
import Derived.OwnWalk
import Derived.RegionTactic
import Derived.RowKit
import Derived.RowKit3
import Derived.Shelf.Abstract
import Derived.Tactics
import Derived.Test.YtlacfpbfnedgdaaProg
import Derived.WalkKit
import Derived.WalkSpells
import Derived.WideLaws
import Derived.Test.YtlacfpbfnedgdaaPRecReads1
import Derived.Test.YtlacfpbfnedgdaaPRecReads3
import Derived.Test.YtlacfpbfnedgdaaPRecReads4
import Derived.Test.YtlacfpbfnedgdaaPRecReads5
import Derived.Test.YtlacfpbfnedgdaaPRecReads6
import Derived.Test.YtlacfpbfnedgdaaPRecReads7
import Derived.Test.YtlacfpbfnedgdaaPRecReads8
import Derived.Test.YtlacfpbfnedgdaaPRecReads9
import Derived.Test.YtlacfpbfnedgdaaPRecReads10
import Derived.Test.YtlacfpbfnedgdaaPRecReads11
import Derived.Test.YtlacfpbfnedgdaaPRecReads12
import Derived.Test.YtlacfpbfnedgdaaPRecReads13
import Derived.Test.YtlacfpbfnedgdaaPRecReads14
namespace Go.Proofs.Ytlacfpbfnedgdaa.Pure
open Go.RowKit Go.Proofs.Ytlacfpbfnedgdaa.Q Go.Proofs.YtlacfpbfnedgdaaW.PrintWords Go.Proofs.YtlacfpbfnedgdaaW.PrintLast Go.Proofs.YtlacfpbfnedgdaaW.PrintMore
theorem wf_u8 {x : Int} (h : (Lit.int .u8 x).wf = true) : 0 ≤ x ∧ x ≤ 255 := by
  simp only [Lit.wf, Bool.and_eq_true, decide_eq_true_eq] at h
  exact h
theorem flat_le : ∀ rows : List S33, (∀ x ∈ rows, x.f0.length ≤ 100 ∧ x.f1.length ≤ 100) → (rows.flatMap encRow).length ≤ 900 * rows.length
  | [], _ => by simp
  | x :: t, h => by
    have ih := flat_le t (fun y hy => h y (List.mem_cons_of_mem _ hy))
    have hx := encRow_le (h x List.mem_cons_self)
    rw [List.flatMap_cons, List.length_append, List.length_cons]
    omega
theorem mod_byte (x : Int) : 0 ≤ x % 256 ∧ x % 256 ≤ 255 := by omega
theorem enc_bytes (cards : List Int) (meas : Int) (rows : List S33) : BytesOk (encP cards meas rows) := by
  intro x hx
  unfold encP at hx
  simp only [List.mem_append, List.mem_cons, List.not_mem_nil, or_false, List.mem_map, List.mem_flatMap] at hx
  rcases hx with ((h | ⟨y, _, rfl⟩) | h) | ⟨r, _, h⟩
  · rcases h with rfl | rfl | rfl | rfl | rfl
    · decide
    · decide
    · decide
    · decide
    · exact mod_byte _
  · exact mod_byte _
  · rcases h with rfl | rfl | rfl <;> exact mod_byte _
  · unfold encRow eight at h
    simp only [List.mem_append, List.mem_cons, List.not_mem_nil, or_false, List.mem_map, List.mem_flatMap] at h
    rcases h with ⟨y, _, rfl⟩ | ⟨y, _, h⟩
    · exact mod_byte _
    · rcases h with rfl | rfl | rfl | rfl | rfl | rfl | rfl | rfl <;> exact mod_byte _
theorem dec_same (z : List Int) (hz : BytesOk z) (hl : z.length ≤ 2000000) : rec_Decode.f z = some (refDecP z) ∧ ∃ q, hypercuberef1_Same.f q (refDecP z).1 (refDecP z).2.1 (refDecP z).2.2.1 (refDecP z).1 (refDecP z).2.1 (refDecP z).2.2.1 = some true := by
  refine ⟨by unfold rec_Decode.f; rw [if_pos (by omega), decode_ref hz], ?_⟩
  have hmild : (refDecP z).1.length ≤ 4611686018427387904 ∧ Mild (refDecP z).2.2.1 := by
    unfold refDecP
    split
    · rename_i h
      refine ⟨by have := check_len h.2.1; show (hdTo z (hdD z).toNat).length ≤ _; omega, ?_, fun x hx => ?_⟩
      · show (refRows z (hdN z).toNat).length ≤ _
        have := h.2.2.1
        simp [refRows]; omega
      · obtain ⟨i, hi, rfl⟩ := List.mem_map.1 (show x ∈ (List.range (hdN z).toNat).map (refAt z) from hx)
        obtain ⟨r1, r2, _⟩ := right_open (h.2.2.2.2 i (List.mem_range.1 hi))
        obtain ⟨c1, c2, c3, c4, c5⟩ := check_open h.2.1
        omega
    · exact ⟨by simp [badP], by simp [badP], fun x hx => by simp [badP] at hx⟩
  obtain ⟨q, e⟩ := same_ev (refDecP z).1 (refDecP z).2.1 (refDecP z).2.2.1 (refDecP z).1 (refDecP z).2.1 (refDecP z).2.2.1 hmild.1 hmild.2
  refine ⟨q, ?_⟩
  have h := e q (Nat.le_refl _)
  simpa using h
theorem RecReads : hypercubelaw1_RecReads.Pure := by
  intro a0 l1 a2 l3 l4 l5 a6 l7 l8 _ _ _ _ _ _ _ _ _ _ _ _ _ w5 _ _ _ w7 _ _ w8
  obtain ⟨cards, meas, rows, hf, h1, h2, h3, h4, h5⟩ := facts_ev a0 l1 a2 l3
  have hg := facts_good h1 h4 h5
  have hsm := hg.small
  have hlen : 1 ≤ (encP cards meas rows).length ∧ (encP cards meas rows).length ≤ 1000000 := by
    have hfl := flat_le rows hsm.2.2
    obtain ⟨c1, c2, c3, c4, c5⟩ := check_open h1
    unfold encP
    simp only [List.length_append, List.length_cons, List.length_nil, List.length_map]
    omega
  obtain ⟨K0, e0⟩ := known_ev
  obtain ⟨K1, e1⟩ := hf
  obtain ⟨K4, e4⟩ := ref_encode_ev cards meas rows hsm
  refine ⟨K0 + K1 + K4, cards, meas, rows, encP cards meas rows, e0 _ (by omega), e1 _ (by omega), e4 _ (by omega), ⟨hlen, enc_bytes cards meas rows, fun x hx => wf_u8 (w5 x hx), fun x hx => wf_u8 (w7 x hx), fun x hx => wf_u8 (w8 x hx)⟩, dec_same, fun a n hn hl => ⟨(a % (n : Int)).toNat, ?_, ?_⟩⟩
  · have := Int.emod_lt_of_pos a (show (0 : Int) < n by omega)
    have := Int.emod_nonneg a (show (n : Int) ≠ 0 by omega)
    omega
  · rw [within_eq a n (by omega) (by omega), Int.toNat_of_nonneg (Int.emod_nonneg a (by omega))]
end Go.Proofs.Ytlacfpbfnedgdaa.Pure
