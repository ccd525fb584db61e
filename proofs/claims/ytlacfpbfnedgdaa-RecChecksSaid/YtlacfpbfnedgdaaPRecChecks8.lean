-- packed by wip/tools/pack.py (a program of this session) out of its own texts
import Derived.Test.YtlacfpbfnedgdaaPRecChecks0
import Derived.ArgAppend
import Derived.Below
import Derived.BigQuiet
import Derived.Deep.AppendLies
import Derived.Deep.CutBlock
import Derived.Deep.DeepCutAuto
import Derived.Deep.Draws
import Derived.Deep.LoopGhost
import Derived.Deep.OwnRows
import Derived.Deep.QuietTactic
import Derived.Deep.RegionHeld3
import Derived.Deep.Slices
import Derived.KernelRfl
import Derived.Laws.BitsLemmas
import Derived.Laws.BytesArg
import Derived.Laws.IdiomCopy
import Derived.Laws.MakeOwn
import Derived.Laws.OwnMore
import Derived.Laws.Rows
import Derived.Laws.Slices
import Derived.Lib.AppendStr
import Derived.Lib.ConvBytes
import Derived.Lib.SmallJoins
import Derived.Maps.AppendAt
import Derived.OrdersHeld
import Derived.OwnWalk
import Derived.RowKit
import Derived.RowKit3
import Derived.Tactics
import Derived.Test.YtlacfpbfnedgdaaProg
import Derived.WalkKit
import Derived.WideLaws
import Derived.Test.YtlacfpbfnedgdaaPRecChecks1
import Derived.Test.YtlacfpbfnedgdaaPRecChecks3
import Derived.Test.YtlacfpbfnedgdaaPRecChecks4
import Derived.Test.YtlacfpbfnedgdaaPRecChecks5
namespace Go.Proofs.Ytlacfpbfnedgdaa.Q
open Go.RowKit Go.ChangeShapes Go.WideShapes Go.Joins Go.Proofs.YtlacfpbfnedgdaaW.PrintWords Go.Proofs.YtlacfpbfnedgdaaW.PrintLast Go.Proofs.YtlacfpbfnedgdaaW.PrintMore
set_option linter.unusedVariables false
set_option linter.unusedSimpArgs false
section
variable {H : Type} {enc : TypeId × Value → H} {w : World} {fuel : Nat} {cs : List Value} {x : DataW H × List MemPlace}
theorem row_in (h : DataW.trod enc Try.prog w 0 (fun _ => true) true fuel 22 cs = some x) : ∃ (A : Option Addr) (l : List Int) (c : Nat), cs = [.slice A l.length c] ∧ Kd.C (Kd.int .i64) w A l.length l ∧ l.length ≤ c := by
 rcases open_ints Try.underlying22 Try.underlying3 (by kernel_rfl) h with ⟨rfl, _⟩ | ⟨a, len, cap, zs, rfl, _, hl, hm, hz, _, hcell, hwz⟩
 ·exact ⟨none, [], 0, rfl, (Kd.R_reads' (Kd.R_nil (Kd.int .i64) 3 w 0 (fun _ => True))).2.2, Nat.le_refl _⟩
 ·obtain ⟨l, rfl, h1, h2, h3, h4⟩ := ReadsInt.ofRowC (k := .i64) (w := w) (a := some a) (len := len) (cap := cap) (zs := zs) (.inr ⟨a, rfl, hl, hm, by simpa using hz, hcell, hwz⟩)
  exact ⟨some a, l, cap, rfl, Kd.C_of_reads (d := (0 : Int)) (h1 := fun _ => rfl) h1, h4⟩
theorem element_in (h : DataW.trod enc Try.prog w 0 (fun _ => true) true fuel 33 cs = some x) (hl : cs.length = 2) : ∃ r : S33, k33.K w r cs := by
 match cs, hl with
 | [c0, c1], _ =>
  obtain ⟨y0, y1, n, _, _, h0, h1⟩ := trod_struct2 Try.underlying33 h
  have h0' : DataW.trod enc Try.prog w 0 (fun _ => true) true n 22 [c0] = some y0 := h0
  have h1' : DataW.trod enc Try.prog w 0 (fun _ => true) true n 22 [c1] = some y1 := h1
  obtain ⟨A0, l0, d0, e0, r0, m0⟩ := row_in h0'
  obtain ⟨A1, l1, d1, e1, r1, m1⟩ := row_in h1'
  injection e0 with e0 _
  injection e1 with e1 _
  subst e0 e1
  exact ⟨⟨l0, l1⟩, k33_mk w ⟨l0, l1⟩ m0 r0 m1 r1⟩
theorem rows_in (h : DataW.trod enc Try.prog w 0 (fun _ => true) true fuel 25 cs = some x) : ∃ (A : Option Addr) (l : List S33) (c : Nat), cs = [.slice A l.length c] ∧ Kd.C k33 w A l.length l ∧ l.length ≤ c := by
 rcases Go.Deep.open_slice Try.underlying25 h with ⟨rfl, _⟩ | ⟨a, len, cap, m, n, D, Pl, rfl, hb, hl, hm, hmm, hx, hi⟩
 ·exact ⟨none, [], 0, rfl, ⟨rfl, by simp, fun h => absurd h (by simp)⟩, Nat.le_refl _⟩
 ·have hC : Try.prog.cellsOf 33 = 2 := by kernel_rfl
  have key : ∀ i : Nat, ∃ r : S33, i < len → ∃ c : List Value, c.length = 2 ∧ k33.K w r c ∧ ∀ j u, c[j]? = some u → w.cell? (a.add (i * 2 + j)) = some u := by
   intro i
   by_cases hlt : i < len
   ·obtain ⟨cs', hc, ht⟩ := hi i (by simp only [if_true] at hmm; omega)
    rw [hC] at hc
    obtain ⟨_, hcl, hat⟩ := World.cells?_some hc
    obtain ⟨r, hr⟩ := element_in ht hcl
    refine ⟨r, fun _ => ⟨cs', hcl, hr, fun j u hu => ?_⟩⟩
    have hj : j < 2 := by have := (List.getElem?_eq_some_iff.1 hu).1; omega
    rw [← Go.Deep.add_add, hat j hj, hu]
   ·exact ⟨z33, fun h => absurd h hlt⟩
  refine ⟨some a, (List.range len).map fun i => Classical.choose (key i), cap, by rw [List.length_map, List.length_range], ⟨rfl, ?_, fun _ => ⟨a, rfl, fun j p hj => ?_⟩⟩, by rw [List.length_map, List.length_range]; exact hl⟩
  ·rw [List.length_map, List.length_range]
   have : maxLen ≤ 9223372036854775807 := by decide
   omega
  ·rw [List.getElem?_map] at hj
   have hjl : j < len := by
    rcases Nat.lt_or_ge j len with h | h
    ·exact h
    ·rw [List.getElem?_eq_none (by simpa using h)] at hj; cases hj
   rw [List.getElem?_range hjl] at hj
   injection hj with hj
   subst hj
   exact Classical.choose_spec (key j) hjl
end
end Go.Proofs.Ytlacfpbfnedgdaa.Q
