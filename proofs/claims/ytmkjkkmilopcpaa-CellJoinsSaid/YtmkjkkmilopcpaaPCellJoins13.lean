-- packed by wip/tools/pack.py (a program of this session) out of its own texts
import Derived.Test.YtmkjkkmilopcpaaPCellJoins0
import Derived.ArgAppend
import Derived.Below
import Derived.BigQuiet
import Derived.Deep.AppendLies
import Derived.Deep.CutBlock
import Derived.Deep.DeepCutAuto
import Derived.Deep.Draws
import Derived.Deep.LoopGhost
import Derived.Deep.OwnRows
import Derived.Deep.QuietTactic
import Derived.Deep.RegionHeld3
import Derived.KernelRfl
import Derived.Laws.BitsLemmas
import Derived.Laws.BytesArg
import Derived.Laws.EntriesVeiled
import Derived.Laws.Externs
import Derived.Laws.IdiomCopy
import Derived.Laws.MakeOwn
import Derived.Laws.OwnMore
import Derived.Laws.Rows
import Derived.Laws.Slices
import Derived.Lib.AppendStr
import Derived.Lib.AppendZeros
import Derived.Lib.AppendZerosOnto
import Derived.Lib.ConvBytes
import Derived.Lib.JoinLaws
import Derived.Lib.Overlaps
import Derived.Lib.SliceRun
import Derived.Lib.Walk
import Derived.LoopIn
import Derived.LoopNIn
import Derived.Maps.AppendAt
import Derived.OrdersHeld
import Derived.OrdersIn
import Derived.OwnWalk
import Derived.OwnWalkIn
import Derived.RangeFuncBound
import Derived.RangeFuncBox
import Derived.RangeFuncCalls
import Derived.RangeFuncLeaves
import Derived.RangeFuncNested
import Derived.RangeFuncOwn
import Derived.RowKit
import Derived.RowKit3
import Derived.Shelf.Abstract
import Derived.Shelf.RegionOpen
import Derived.Shelf.RegionOpenPlain
import Derived.Tactics
import Derived.TacticsInMore
import Derived.Test.YtmkjkkmilopcpaaProg
import Derived.WalkKit
import Derived.WalkSpells
import Derived.WideLaws
import Derived.Test.YtmkjkkmilopcpaaPCellJoins1
import Derived.Test.YtmkjkkmilopcpaaPCellJoins3
import Derived.Test.YtmkjkkmilopcpaaPCellJoins4
import Derived.Test.YtmkjkkmilopcpaaPCellJoins5
import Derived.Test.YtmkjkkmilopcpaaPCellJoins6
import Derived.Test.YtmkjkkmilopcpaaPCellJoins7
import Derived.Test.YtmkjkkmilopcpaaPCellJoins8
import Derived.Test.YtmkjkkmilopcpaaPCellJoins9
import Derived.Test.YtmkjkkmilopcpaaPCellJoins10
import Derived.Test.YtmkjkkmilopcpaaPCellJoins11
import Derived.Test.YtmkjkkmilopcpaaPCellJoins12
namespace Go.Proofs.Ytmkjkkmilopcpaa.Q
open Go.RowKit Go.Proofs.YtmkjkkmilopcpaaW.PrintWords Go.Proofs.YtmkjkkmilopcpaaW.PrintLast Go.Proofs.YtmkjkkmilopcpaaW.PrintMore
set_option linter.unusedVariables false
set_option linter.unusedSimpArgs false
theorem known_of : cell_Of.f [4, 5] [3] 2 = some ([5], 1, [3], [3], [3]) := by decide
theorem known_group : cell_Group.f 9 [⟨[5], 1, [3], [3], [3]⟩, ⟨[5], 1, [3], [3], [3]⟩] = some [⟨[5], 2, [6], [3], [3]⟩] := by kernel_rfl
theorem known_less : cell_Less.f 3 [] [] = some 0 := by kernel_rfl
theorem C_of_blk {w : World} {g : Nat} {xs : List Int} (h : w.heap[g]? = some (.cells (encs (Value.int .i64) xs).toArray 3 (0, 0))) (hl : xs.length ≤ maxLen) : Kd.C (Kd.int .i64) w (some ⟨g, 0, none⟩) xs.length xs := by
 have hR : Kd.R (Kd.int .i64) 3 w 0 (fun _ => True) (.slice (some ⟨g, 0, none⟩) xs.length xs.length) xs := by
  refine Kd.R_of_own (h1 := fun _ => rfl) ⟨by rw [encs_length, Nat.mul_one], .inr ⟨g, xs.length, _, rfl, Nat.zero_le _, h, Nat.le_refl _, hl, ?_, ?_⟩⟩ (fun _ _ => trivial)
  ·rw [List.size_toArray, encs_length, Nat.mul_one]
  ·rw [Nat.mul_one, ← encs_length (enc := Value.int .i64) xs]
   exact List.take_length
 exact (Kd.R_reads' hR).2.2
theorem C_two {w : World} {g : Nat} {x : S30} {cs : List Value} (h : w.heap[g]? = some (.cells (cs ++ cs).toArray 30 (0, 0))) (hx : k30.K w x cs) : Kd.C k30 w (some ⟨g, 0, none⟩) [x, x].length [x, x] := by
 have hl : cs.length = 5 := k30.K_len hx
 refine ⟨rfl, by simp, fun _ => ⟨_, rfl, fun j p hj => ⟨cs, hl, ?_, fun i u hu => ?_⟩⟩⟩
 ·have hm : p = x := by
   have hj2 : j < 2 := (List.getElem?_eq_some_iff.1 hj).1
   match j, hj2, hj with
   | 0, _, hj => simpa using hj.symm
   | 1, _, hj => simpa using hj.symm
  rw [hm]; exact hx
 ·have hi : i < cs.length := (List.getElem?_eq_some_iff.1 hu).1
  rw [Addr.add_lit, cell_of_row w g _ _ _ _ h, List.getElem?_toArray]
  have hj2 : j < 2 := (List.getElem?_eq_some_iff.1 hj).1
  match j, hj2 with
  | 0, _ => rw [Nat.zero_add]; rw [show 0 * k30.sz + i = i by omega, List.getElem?_append_left hi]; exact hu
  | 1, _ => rw [Nat.zero_add, show 1 * k30.sz + i = cs.length + i by rw [hl]; rfl, List.getElem?_append_right (by omega), Nat.add_sub_cancel_left]; exact hu
def hypercubelaw2_known.f : Option Bool := some true
set_option maxHeartbeats 8000000 in
set_option maxRecDepth 100000 in
theorem hypercubelaw2_known.calls (r : Bool) (w : World) (h : hypercubelaw2_known.f = some r) :
    Calls Try.prog 16 #[] w fun e w' => e = .returned (.bool r) ∧ Below w.heap.size w w' := by
 have e : true = r := Option.some.inj h
 subst e
 clear h
 have HB := am (Below.refl w.heap.size w)
 go_enter Try.func16, Try.ntmps16
 go_wp2_with (first
  | ((with_reducible refine gate_callee (f := 28) rfl ?_)
     refine goesL_ (some 6) rfl rfl Try.func28 (by kernel_rfl) rfl #[.agg #[.slice (some ⟨w.heap.size, 0, none⟩) 2 2, .slice (some ⟨w.heap.size + 1, 0, none⟩) 1 1], .int .i64 2] rfl (by (try simp only [List.map_toArray, List.map_cons, List.map_nil]); first | done | rfl) ?_
     refine name_calls ?_
     intro w2 hw2
     have h1 : w2.heap[w.heap.size]? = some (.cells (encs (Value.int .i64) [4, 5]).toArray 3 (0, 0)) := by rw [hw2]; exact (Below.heap_alloc _ _ _ (by rw [World.size_alloc]; omega)).trans (blk_new w _)
     have h2 : w2.heap[w.heap.size + 1]? = some (.cells (encs (Value.int .i64) [3]).toArray 3 (0, 0)) := by rw [hw2]; have := blk_new (w.alloc (.cells #[.int .i64 4, .int .i64 5] 3)) (.cells #[.int .i64 3] 3); rw [World.size_alloc] at this; exact this
     have n0_ : Aside0 (Below w.heap.size w w2) := am (by rw [hw2]; exact below_alloc (below_alloc HB.out _) _)
     clear HB
     have HB := n0_
     clear n0_ hw2
     refine (cell_Of.calls (some ⟨w.heap.size, 0, none⟩) 2 [4, 5] (some ⟨w.heap.size + 1, 0, none⟩) 1 [3] 2 [5] 1 [3] [3] [3] w2 (C_of_blk h1 (by decide)) (by decide) (C_of_blk h2 (by decide)) (by decide) known_of).mono ?_
     rintro e w3 ⟨v0, v2, v3, v4, rfl, p0, p2, p3, p4, hb⟩
     refine ⟨_, rfl, ?_⟩
     obtain ⟨B0, b0, rfl⟩ := Kd.R_slice p0
     obtain ⟨B2, b2, rfl⟩ := Kd.R_slice p2
     obtain ⟨B3, b3, rfl⟩ := Kd.R_slice p3
     obtain ⟨B4, b4, rfl⟩ := Kd.R_slice p4
     have G0 := am p0
     have G2 := am p2
     have G3 := am p3
     have G4 := am p4
     have n0_ := am (below_step HB.out hb)
     clear HB h1 h2 p0 p2 p3 p4 hb
     have HB := n0_
     clear n0_)
  | ((with_reducible refine gate_dst (N := 1) rfl ?_); refine box_event ?hg (N := 1) ?hd (cs := #[.slice none 0 0, .int .i64 0, .slice none 0 0, .slice none 0 0, .slice none 0 0]) (t := 30) ?hr ?_; (case hd => rfl); (case hg => rfl); (case hr => first | (go_simp; done) | (go_simp; rfl)); intro gb hg w4 hbox hb; have n0_ := am (below_step HB.out hb); have n3_ := am hbox; have n4_ := am (show w.heap.size ≤ gb by rw [hg]; have := HB.out.size; omega); have m0_ := am (Kd.R_below (Kd.R_mono (Kd.R_bound G0.out) (ok' := fun k => k < gb) (fun k hk => by rw [hg]; exact hk.2.2.1)) hb); have m2_ := am (Kd.R_below (Kd.R_mono (Kd.R_bound G2.out) (ok' := fun k => k < gb) (fun k hk => by rw [hg]; exact hk.2.2.1)) hb); have m3_ := am (Kd.R_below (Kd.R_mono (Kd.R_bound G3.out) (ok' := fun k => k < gb) (fun k hk => by rw [hg]; exact hk.2.2.1)) hb); have m4_ := am (Kd.R_below (Kd.R_mono (Kd.R_bound G4.out) (ok' := fun k => k < gb) (fun k hk => by rw [hg]; exact hk.2.2.1)) hb); clear G0 G2 G3 G4; have G0 := m0_; have G2 := m2_; have G3 := m3_; have G4 := m4_; clear m0_ m2_ m3_ m4_; clear HB; have HB := n0_; have BKb := n3_; have GEb := n4_; clear n0_ n3_ n4_; clear hb hbox hg; have hcz0 := (blk_cell BKb.out 0).trans rfl; have hcz1 := (blk_cell BKb.out 1).trans rfl; have hcz2 := (blk_cell BKb.out 2).trans rfl; have hcz3 := (blk_cell BKb.out 3).trans rfl; have hcz4 := (blk_cell BKb.out 4).trans rfl; have hfz0 := blk_frozen BKb.out 0; have hfz1 := blk_frozen BKb.out 1; have hfz2 := blk_frozen BKb.out 2; have hfz3 := blk_frozen BKb.out 3; have hfz4 := blk_frozen BKb.out 4)
  | ((with_reducible refine gate_callee (f := 26) rfl ?_)
     refine goesL_ (some 10) rfl rfl Try.func26 (by kernel_rfl) rfl #[.slice (some ⟨w4.heap.size, 0, none⟩) 2 2] rfl (by (try simp only [List.map_toArray, List.map_cons, List.map_nil]); first | done | rfl) ?_
     refine name_calls ?_
     intro w5 hw5
     have hw5' : w5 = (((((w4.setCell ⟨gb, 0, none⟩ (.slice B0 1 b0)).setCell ⟨gb, 1, none⟩ (.int .i64 1)).setCell ⟨gb, 2, none⟩ (.slice B2 1 b2)).setCell ⟨gb, 3, none⟩ (.slice B3 1 b3)).setCell ⟨gb, 4, none⟩ (.slice B4 1 b4)).alloc (.cells #[.slice B0 1 b0, .int .i64 1, .slice B2 1 b2, .slice B3 1 b3, .slice B4 1 b4, .slice B0 1 b0, .int .i64 1, .slice B2 1 b2, .slice B3 1 b3, .slice B4 1 b4] 30) := hw5
     have hs : (((((w4.setCell ⟨gb, 0, none⟩ (.slice B0 1 b0)).setCell ⟨gb, 1, none⟩ (.int .i64 1)).setCell ⟨gb, 2, none⟩ (.slice B2 1 b2)).setCell ⟨gb, 3, none⟩ (.slice B3 1 b3)).setCell ⟨gb, 4, none⟩ (.slice B4 1 b4)).heap.size = w4.heap.size := by simp
     have hk5 : Kept w4 w5 (fun k => k = gb) := by
      rw [hw5']
      refine Kept.alloc ?_ _
      refine Kept.setCell (S := fun k => k = gb) (p := ⟨gb, 4, none⟩) ?_ (.inl rfl) _
      refine Kept.setCell (S := fun k => k = gb) (p := ⟨gb, 3, none⟩) ?_ (.inl rfl) _
      refine Kept.setCell (S := fun k => k = gb) (p := ⟨gb, 2, none⟩) ?_ (.inl rfl) _
      refine Kept.setCell (S := fun k => k = gb) (p := ⟨gb, 1, none⟩) ?_ (.inl rfl) _
      refine Kept.setCell (S := fun k => k = gb) (p := ⟨gb, 0, none⟩) ?_ (.inl rfl) _
      exact Kept.refl _ _
     have hl5 : w5.heap[w4.heap.size]? = some (.cells (([.slice B0 1 b0, .int .i64 1, .slice B2 1 b2, .slice B3 1 b3, .slice B4 1 b4] : List Value) ++ ([.slice B0 1 b0, .int .i64 1, .slice B2 1 b2, .slice B3 1 b3, .slice B4 1 b4] : List Value)).toArray 30 (0, 0)) := by
      rw [hw5']
      have := blk_new (((((w4.setCell ⟨gb, 0, none⟩ (.slice B0 1 b0)).setCell ⟨gb, 1, none⟩ (.int .i64 1)).setCell ⟨gb, 2, none⟩ (.slice B2 1 b2)).setCell ⟨gb, 3, none⟩ (.slice B3 1 b3)).setCell ⟨gb, 4, none⟩ (.slice B4 1 b4)) (.cells #[.slice B0 1 b0, .int .i64 1, .slice B2 1 b2, .slice B3 1 b3, .slice B4 1 b4, .slice B0 1 b0, .int .i64 1, .slice B2 1 b2, .slice B3 1 b3, .slice B4 1 b4] 30)
      rw [hs] at this
      exact this
     have hg5 : w5.heap[gb]? = some (.cells #[.slice B0 1 b0, .int .i64 1, .slice B2 1 b2, .slice B3 1 b3, .slice B4 1 b4] 30 (0, 0)) := by
      rw [hw5']
      refine blk_alloc ?_ _
      refine blk_put (cs := #[.slice B0 1 b0, .int .i64 1, .slice B2 1 b2, .slice B3 1 b3, .slice none 0 0]) ?_ 4 _ rfl
      refine blk_put (cs := #[.slice B0 1 b0, .int .i64 1, .slice B2 1 b2, .slice none 0 0, .slice none 0 0]) ?_ 3 _ rfl
      refine blk_put (cs := #[.slice B0 1 b0, .int .i64 1, .slice none 0 0, .slice none 0 0, .slice none 0 0]) ?_ 2 _ rfl
      refine blk_put (cs := #[.slice B0 1 b0, .int .i64 0, .slice none 0 0, .slice none 0 0, .slice none 0 0]) ?_ 1 _ rfl
      refine blk_put (cs := #[.slice none 0 0, .int .i64 0, .slice none 0 0, .slice none 0 0, .slice none 0 0]) ?_ 0 _ rfl
      exact BKb.out
     have n0_ : Aside0 (Below w.heap.size w w5) := am (by
      rw [hw5']
      refine below_alloc ?_ _
      refine below_set (g := gb) (j := 4) ?_ GEb.out
      refine below_set (g := gb) (j := 3) ?_ GEb.out
      refine below_set (g := gb) (j := 2) ?_ GEb.out
      refine below_set (g := gb) (j := 1) ?_ GEb.out
      refine below_set (g := gb) (j := 0) ?_ GEb.out
      exact HB.out)
     have p0 := Kd.R_kept G0.out hk5 (fun k hk e => by omega)
     have p2 := Kd.R_kept G2.out hk5 (fun k hk e => by omega)
     have p3 := Kd.R_kept G3.out hk5 (fun k hk e => by omega)
     have p4 := Kd.R_kept G4.out hk5 (fun k hk e => by omega)
     clear HB G0 G2 G3 G4 BKb hs hk5 hw5' hw5
     have HB := n0_
     clear n0_
     refine (cell_Group.calls 9 (some ⟨w4.heap.size, 0, none⟩) 2 [(⟨[5], 1, [3], [3], [3]⟩ : S30), ⟨[5], 1, [3], [3], [3]⟩] _ w5 (C_two hl5 (k30_mk w5 (⟨[5], 1, [3], [3], [3]⟩ : S30) (Kd.R_reads' p0).2.1 (Kd.R_reads' p0).2.2 (Kd.R_reads' p2).2.1 (Kd.R_reads' p2).2.2 (Kd.R_reads' p3).2.1 (Kd.R_reads' p3).2.2 (Kd.R_reads' p4).2.1 (Kd.R_reads' p4).2.2)) (by decide) known_group).mono ?_
     rintro e w6 ⟨v, rfl, hS, hb⟩
     refine ⟨_, rfl, ?_⟩
     obtain ⟨A, c, rfl⟩ := Kd.S_slice hS
     have hC := (Kd.S_reads' hS).2.2
     obtain ⟨ad, E0, d0, E2, d2, E3, d3, E4, d4, eA, q0, q1, q2, q3, q4, g0, K0, g2, K2, g3, K3, g4, K4⟩ := at_T30 hC 0 (by decide) (by decide)
     cases eA
     obtain ⟨g, rfl⟩ := Kd.R_head (Kd.S_R hS)
     obtain ⟨a2, e2, z2⟩ := Kd.at_int K2 0 (by decide) (by decide)
     cases e2
     obtain ⟨a0, e0, z0⟩ := Kd.at_int (Kd.R_reads' p0).2.2 0 (by decide) (by decide)
     cases e0
     have z0' := (hb.cell (World.block_lt_of_cell? _ _ z0)).trans z0
     have z00 : w6.cell? a0 = some (.int .i64 5) := by rw [← show a0.add (0 : Int).toNat = a0 by simp [Addr.add]]; exact z0'
     have z22 : w6.cell? a2 = some (.int .i64 6) := by rw [← show a2.add (0 : Int).toNat = a2 by simp [Addr.add]]; exact z2
     have y1 : w6.cell? ⟨g, 1, none⟩ = some (.int .i64 2) := q1
     have y2 : w6.cell? ⟨g, 2, none⟩ = some (.slice (some a2) 1 d2) := q2
     have b6 := blk_below hg5 hb
     have x0 : w6.cell? ⟨gb, 0, none⟩ = some (.slice (some a0) 1 b0) := (blk_cell b6 0).trans rfl
     have x1 : w6.cell? ⟨gb, 1, none⟩ = some (.int .i64 1) := (blk_cell b6 1).trans rfl
     have n0_ := am (below_step HB.out hb)
     clear HB hg5 hl5 p0 p2 p3 p4 hS hb hC q0 q1 q2 q3 q4 g0 K0 g2 K2 g3 K3 g4 K4 z0 z0' z2 b6
     have HB := n0_
     clear n0_)
  | ((with_reducible refine gate_callee (f := 17) rfl ?_)
     refine goesL_ (some 11) rfl rfl Try.func17 (by kernel_rfl) rfl #[.slice none 0 0, .slice none 0 0] rfl (by (try simp only [List.map_toArray, List.map_cons, List.map_nil]); first | done | rfl) ?_
     refine (cell_Less.calls 3 none 0 [] none 0 [] 0 _ (Kd.C_nil _ _) (by decide) (Kd.C_nil _ _) (by decide) known_less).mono ?_
     rintro e w7 ⟨rfl, ⟨nd, rfl⟩⟩
     refine ⟨_, rfl, ?_⟩))
 go_ret
 exact ⟨rfl, by (with_reducible repeat (first | exact HB.out | apply pw_below_drewN))⟩
end Go.Proofs.Ytmkjkkmilopcpaa.Q
namespace Go.Proofs.Ytmkjkkmilopcpaa.Q
open Go.RowKit Go.Proofs.YtmkjkkmilopcpaaW.PrintWords Go.Proofs.YtmkjkkmilopcpaaW.PrintLast Go.Proofs.YtmkjkkmilopcpaaW.PrintMore
attribute [local go_sem] max2_int min2_int max_two min_two max_three min_three max_four min_four
set_option linter.unusedVariables false
set_option linter.unusedSimpArgs false
def hypercuberef1_Ints.l0 : Nat → List Int → List Int → Int → Option (Bool)
 | 0, _, _, _ => none
 | k + 1, x0, x1, x5 => if x5 < (x0.length : Int) then (if 0 ≤ x5 then (if x5 < (x1.length : Int) then (if (rd x0 x5) = (rd x1 x5) then (hypercuberef1_Ints.l0 k x0 x1 (wrap64 (x5 + 1))) else (some false)) else (none)) else (none)) else (some true)
def hypercuberef1_Ints.f (k : Nat) (l0 : List Int) (l1 : List Int) : Option (Bool) := if (l0.length : Int) = (l1.length : Int) then (hypercuberef1_Ints.l0 k l0 l1 0) else (some false)
set_option maxHeartbeats 8000000 in
set_option maxRecDepth 100000 in
theorem hypercuberef1_Ints.calls (k : Nat) (A0 : Option Addr) (c0 : Nat) (l0 : List Int) (A1 : Option Addr) (c1 : Nat) (l1 : List Int) (r : Bool) (w : World) (hr0 : Kd.C (Kd.int .i64) w A0 l0.length l0) (hc0 : l0.length ≤ c0) (hr1 : Kd.C (Kd.int .i64) w A1 l1.length l1) (hc1 : l1.length ≤ c1) (h : hypercuberef1_Ints.f k l0 l1 = some r) :
  Calls Try.prog 19 #[.slice A0 l0.length c0, .slice A1 l1.length c1] w fun e w' => e = .returned (.bool r) ∧ Drawn0 w w' := by
 have HR0 := am hr0
 have HC0 := am hc0
 clear hr0 hc0
 have HR1 := am hr1
 have HC1 := am hc1
 clear hr1 hc1
 have H : (if (l0.length : Int) = (l1.length : Int) then (hypercuberef1_Ints.l0 k l0 l1 0) else (some false)) = some r := h
 clear h
 by_cases c3 : (l0.length : Int) = (l1.length : Int)
 ·rw [if_pos c3] at H
  have c3b0 : ((l0.length : Int) == (l1.length : Int)) = true := beq_iff_eq.mpr c3
  have c3b1 : ((l0.length : Int) != (l1.length : Int)) = false := bne_eq_false_iff_eq.mpr c3
  have c3b2 : (l0.length == l1.length) = true := by first | simpa using c3 | (simp at c3 ⊢; omega)
  clear c3
  have H' := am H
  clear H
  go_enter Try.func19, Try.ntmps19
  go_wp2
  repeat (go_quiet (fail); try go_wp2)
  go_loopg [5] k (fun kq v5 w' => ∃ (x5_1 : Int), v5 = .int .i64 x5_1 ∧ Aside0 (hypercuberef1_Ints.l0 kq l0 l1 x5_1 = some r) ∧ Aside0 (kq ≤ k) ∧ Drawn0 w w')
  case atStart => exact ⟨(0), (by first | rfl | (simp; done) | (simp [*]; done)), H', ⟨Nat.le_refl _⟩, by repeat (first | exact Drawn0.refl _ | apply Drawn0.step)⟩
  case round =>
   clear H'
   try clear c1
   try clear p2
   try clear c3
   try clear c3b0
   try clear c3b1
   try clear c3b2
   obtain ⟨x5_1, rfl, HA, HK1, ⟨m1, rfl⟩⟩ := hrel
   cases gk with
   | zero => exact absurd HA.out (by simp [hypercuberef1_Ints.l0])
   | succ k1 =>
    have H := HA.out
    clear HA
    simp only [hypercuberef1_Ints.l0] at H
    by_cases c4 : x5_1 < (l0.length : Int)
    ·rw [if_pos c4] at H
     have c4b0 : decide (x5_1 < (l0.length : Int)) = true := decide_eq_true c4
     clear c4
     by_cases c5 : 0 ≤ x5_1
     ·rw [if_pos c5] at H
      have c5b0 : decide (0 ≤ x5_1) = true := decide_eq_true c5
      clear c5
      by_cases c6 : x5_1 < (l1.length : Int)
      ·rw [if_pos c6] at H
       have c6b0 : decide (x5_1 < (l1.length : Int)) = true := decide_eq_true c6
       clear c6
       by_cases c7 : (rd l0 x5_1) = (rd l1 x5_1)
       ·rw [if_pos c7] at H
        have c7b0 : ((rd l0 x5_1) == (rd l1 x5_1)) = true := beq_iff_eq.mpr c7
        have c7b1 : ((rd l0 x5_1) != (rd l1 x5_1)) = false := bne_eq_false_iff_eq.mpr c7
        clear c7
        have H' := am H
        clear H
        have p185 : 0 ≤ (x5_1 : Int) := of_decide_eq_true (by first | (with_reducible assumption) | assumption)
        have q185 : x5_1 < (l0.length : Int) := of_decide_eq_true (by first | (with_reducible assumption) | assumption)
        obtain ⟨ad185, e185, hx185_0⟩ := Kd.at_int HR0.out x5_1 p185 q185
        cases e185
        replace p185 := eq_true p185
        replace q185 := eq_true q185
        have p186 : 0 ≤ (x5_1 : Int) := of_decide_eq_true (by first | (with_reducible assumption) | assumption)
        have q186 : x5_1 < (l1.length : Int) := of_decide_eq_true (by first | (with_reducible assumption) | assumption)
        obtain ⟨ad186, e186, hx186_0⟩ := Kd.at_int HR1.out x5_1 p186 q186
        cases e186
        replace p186 := eq_true p186
        replace q186 := eq_true q186
        go_wp2
        repeat (go_quiet (fail); try go_wp2)
        go_roundg k1
        case measure => have := HK1.out; omega
        case rel => exact ⟨(wrap64 (x5_1 + 1)), (by first | rfl | (simp; done) | (simp [*]; done)), H', ⟨by have := HK1.out; omega⟩, by repeat (first | exact Drawn0.refl _ | apply Drawn0.step)⟩
       ·rw [if_neg c7] at H
        have c7b0 : ((rd l0 x5_1) == (rd l1 x5_1)) = false := beq_eq_false_iff_ne.mpr c7
        have c7b1 : ((rd l0 x5_1) != (rd l1 x5_1)) = true := bne_iff_ne.mpr c7
        obtain rfl := Option.some.inj H
        have p185 : 0 ≤ (x5_1 : Int) := of_decide_eq_true (by first | (with_reducible assumption) | assumption)
        have q185 : x5_1 < (l0.length : Int) := of_decide_eq_true (by first | (with_reducible assumption) | assumption)
        obtain ⟨ad185, e185, hx185_0⟩ := Kd.at_int HR0.out x5_1 p185 q185
        cases e185
        replace p185 := eq_true p185
        replace q185 := eq_true q185
        have p186 : 0 ≤ (x5_1 : Int) := of_decide_eq_true (by first | (with_reducible assumption) | assumption)
        have q186 : x5_1 < (l1.length : Int) := of_decide_eq_true (by first | (with_reducible assumption) | assumption)
        obtain ⟨ad186, e186, hx186_0⟩ := Kd.at_int HR1.out x5_1 p186 q186
        cases e186
        replace p186 := eq_true p186
        replace q186 := eq_true q186
        go_wp2
        repeat (go_quiet (fail); try go_wp2)
        go_ret
        exact ⟨by first | rfl | (simp; done) | (simp [*]; done), by repeat (first | exact Drawn0.refl _ | apply Drawn0.step)⟩
      ·rw [if_neg c6] at H
       exact absurd H (by simp)
     ·rw [if_neg c5] at H
      exact absurd H (by simp)
    ·rw [if_neg c4] at H
     have c4b0 : decide (x5_1 < (l0.length : Int)) = false := decide_eq_false c4
     clear c4
     obtain rfl := Option.some.inj H
     go_wp2
     repeat (go_quiet (fail); try go_wp2)
     go_ret
     exact ⟨by first | rfl | (simp; done) | (simp [*]; done), by repeat (first | exact Drawn0.refl _ | apply Drawn0.step)⟩
 ·rw [if_neg c3] at H
  have c3b0 : ((l0.length : Int) == (l1.length : Int)) = false := beq_eq_false_iff_ne.mpr c3
  have c3b1 : ((l0.length : Int) != (l1.length : Int)) = true := bne_iff_ne.mpr c3
  have c3b2 : (l0.length == l1.length) = false := by first | simpa using c3 | (simp at c3 ⊢; omega)
  obtain rfl := Option.some.inj H
  go_enter Try.func19, Try.ntmps19
  go_wp2
  repeat (go_quiet (fail); try go_wp2)
  go_ret
  exact ⟨by first | rfl | (simp; done) | (simp [*]; done), by repeat (first | exact Drawn0.refl _ | apply Drawn0.step)⟩
def hypercubelaw2_within.f (a0 : Int) (a1 : Int) : Option (Int) := if a1 = 0 then (none) else (if (Int.tmod a0 a1) < 0 then (some (wrap64 ((Int.tmod a0 a1) + a1))) else (some (Int.tmod a0 a1)))
set_option maxHeartbeats 8000000 in
set_option maxRecDepth 100000 in
theorem hypercubelaw2_within.calls (a0 : Int) (a1 : Int) (r : Int) (w : World) (h : hypercubelaw2_within.f a0 a1 = some r) :
  Calls Try.prog 20 #[.int .i64 a0, .int .i64 a1] w fun e w' => e = .returned (.int .i64 r) ∧ Drawn0 w w' := by
 have H : (if a1 = 0 then (none) else (if (Int.tmod a0 a1) < 0 then (some (wrap64 ((Int.tmod a0 a1) + a1))) else (some (Int.tmod a0 a1)))) = some r := h
 clear h
 by_cases c3 : a1 = 0
 ·rw [if_pos c3] at H
  exact absurd H (by simp)
 ·rw [if_neg c3] at H
  have c3b0 : (a1 == 0) = false := beq_eq_false_iff_ne.mpr c3
  have c3b1 : (a1 != 0) = true := bne_iff_ne.mpr c3
  by_cases c4 : (Int.tmod a0 a1) < 0
  ·rw [if_pos c4] at H
   have c4b0 : decide ((Int.tmod a0 a1) < 0) = true := decide_eq_true c4
   clear c4
   obtain rfl := Option.some.inj H
   go_enter Try.func20, Try.ntmps20
   go_wp2
   go_ret
   exact ⟨by first | rfl | (simp; done) | (simp [*]; done), by repeat (first | exact Drawn0.refl _ | apply Drawn0.step)⟩
  ·rw [if_neg c4] at H
   have c4b0 : decide ((Int.tmod a0 a1) < 0) = false := decide_eq_false c4
   clear c4
   obtain rfl := Option.some.inj H
   go_enter Try.func20, Try.ntmps20
   go_wp2
   go_ret
   exact ⟨by first | rfl | (simp; done) | (simp [*]; done), by repeat (first | exact Drawn0.refl _ | apply Drawn0.step)⟩
def hypercuberef2_Narrow.l0 : Nat → Int → Int → Int → Int → List Int → Int → List Int → List Int → List Int → List Int → Int → List Int → List Int → List Int → Option (List Int × Int × List Int × List Int × List Int)
 | 0, _, _, _, _, _, _, _, _, _, _, _, _, _, _ => none
 | k + 1, x1, x2, x8, x9, x809000, x809001, x809002, x809003, x809004, x824000, x824001, x824002, x824003, x824004 => if x9 < 4 then (if 0 ≤ x9 then (if (Go.bits .and .i64 (shr .i64 x1 x9) 1) = 1 then (if (Go.bits .and .i64 (shr .i64 x2 x9) 1) = 1 then (if 0 ≤ x8 then (if x8 < (x809000.length : Int) then (if x824000.length < 17592186044416 then (hypercuberef2_Narrow.l0 k x1 x2 (wrap64 (x8 + 1)) (IntKind.u64.wrap (x9 + 1)) x809000 x809001 x809002 x809003 x809004 (x824000 ++ [rd x809000 x8]) x824001 x824002 x824003 x824004) else (none)) else (none)) else (none)) else (hypercuberef2_Narrow.l0 k x1 x2 (wrap64 (x8 + 1)) (IntKind.u64.wrap (x9 + 1)) x809000 x809001 x809002 x809003 x809004 x824000 x824001 x824002 x824003 x824004)) else (hypercuberef2_Narrow.l0 k x1 x2 x8 (IntKind.u64.wrap (x9 + 1)) x809000 x809001 x809002 x809003 x809004 x824000 x824001 x824002 x824003 x824004)) else (none)) else (some (x824000, x824001, x824002, x824003, x824004))
def hypercuberef2_Narrow.f (k : Nat) (l0_0 : List Int) (a0_1 : Int) (l0_2 : List Int) (l0_3 : List Int) (l0_4 : List Int) (a1 : Int) (a2 : Int) : Option (List Int × Int × List Int × List Int × List Int) := (hypercuberef2_Copy.f l0_0 a0_1 l0_2 l0_3 l0_4).bind fun bt810 => (hypercuberef2_Narrow.l0 k a1 a2 0 0 l0_0 a0_1 l0_2 l0_3 l0_4 ([] : List Int) bt810.2.1 bt810.2.2.1 bt810.2.2.2.1 bt810.2.2.2.2)
def hypercuberef2_Narrow.T9 : Bool × List (List Nat × List Nat) := (true, [([], []), ([0], [0]), ([], []), ([2], [2]), ([], []), ([3, 4], [3, 4]), ([5], [5]), ([6], [6]), ([1, 7], [1, 7]), ([0, 1, 2, 3, 4, 5, 6, 7, 8], []), ([9, 8, 8, 0, 1, 2, 3, 4, 5, 6, 7, 8], [8, 9])])
def hypercuberef2_Narrow.B9 : List Nat := [0, 1, 0, 4, 0, 28, 60, 124, 255, 511, 1023]
theorem hypercuberef2_Narrow.tab9 : rtab .any (opsOf Try.f32 9) = hypercuberef2_Narrow.T9 := by kernel_rfl
theorem hypercuberef2_Narrow.bits9 : waitsOk hypercuberef2_Narrow.T9.2 hypercuberef2_Narrow.B9 = true := by kernel_rfl
set_option maxHeartbeats 8000000 in
set_option maxRecDepth 100000 in
theorem hypercuberef2_Narrow.calls (k : Nat) (A0_0 : Option Addr) (c0_0 : Nat) (l0_0 : List Int) (a0_1 : Int) (A0_2 : Option Addr) (c0_2 : Nat) (l0_2 : List Int) (A0_3 : Option Addr) (c0_3 : Nat) (l0_3 : List Int) (A0_4 : Option Addr) (c0_4 : Nat) (l0_4 : List Int) (a1 : Int) (a2 : Int) (r1 : List Int) (r2 : Int) (r3 : List Int) (r4 : List Int) (r5 : List Int) (w : World) (hr0_0 : Kd.C (Kd.int .i64) w A0_0 l0_0.length l0_0) (hc0_0 : l0_0.length ≤ c0_0) (hr0_2 : Kd.C (Kd.int .i64) w A0_2 l0_2.length l0_2) (hc0_2 : l0_2.length ≤ c0_2) (hr0_3 : Kd.C (Kd.int .i64) w A0_3 l0_3.length l0_3) (hc0_3 : l0_3.length ≤ c0_3) (hr0_4 : Kd.C (Kd.int .i64) w A0_4 l0_4.length l0_4) (hc0_4 : l0_4.length ≤ c0_4) (h : hypercuberef2_Narrow.f k l0_0 a0_1 l0_2 l0_3 l0_4 a1 a2 = some (r1, r2, r3, r4, r5)) :
  Calls Try.prog 32 #[.agg #[.slice A0_0 l0_0.length c0_0, .int .i64 a0_1, .slice A0_2 l0_2.length c0_2, .slice A0_3 l0_3.length c0_3, .slice A0_4 l0_4.length c0_4], .int .i64 a1, .int .i64 a2] w fun e w' => ∃ v0_ v2_ v3_ v4_ : Value, e = .returned (.agg #[v0_, .int .i64 r2, v2_, v3_, v4_]) ∧ Kd.R (Kd.int .i64) 3 w' w.heap.size (fun k_ => some k_ ≠ (v2_ : Value).ownBlock ∧ some k_ ≠ (v3_ : Value).ownBlock ∧ some k_ ≠ (v4_ : Value).ownBlock) v0_ r1 ∧ Kd.R (Kd.int .i64) 3 w' w.heap.size (fun k_ => some k_ ≠ (v0_ : Value).ownBlock ∧ some k_ ≠ (v3_ : Value).ownBlock ∧ some k_ ≠ (v4_ : Value).ownBlock) v2_ r3 ∧ Kd.R (Kd.int .i64) 3 w' w.heap.size (fun k_ => some k_ ≠ (v0_ : Value).ownBlock ∧ some k_ ≠ (v2_ : Value).ownBlock ∧ some k_ ≠ (v4_ : Value).ownBlock) v3_ r4 ∧ Kd.R (Kd.int .i64) 3 w' w.heap.size (fun k_ => some k_ ≠ (v0_ : Value).ownBlock ∧ some k_ ≠ (v2_ : Value).ownBlock ∧ some k_ ≠ (v3_ : Value).ownBlock) v4_ r5 ∧ Below w.heap.size w w' := by
 have hu30 := Try.underlying30
 have HR0_0 := am hr0_0
 have HC0_0 := am hc0_0
 clear hr0_0 hc0_0
 have HR0_2 := am hr0_2
 have HC0_2 := am hc0_2
 clear hr0_2 hc0_2
 have HR0_3 := am hr0_3
 have HC0_3 := am hc0_3
 clear hr0_3 hc0_3
 have HR0_4 := am hr0_4
 have HC0_4 := am hc0_4
 clear hr0_4 hc0_4
 have HB := am (Below.refl w.heap.size w)
 have H : ((hypercuberef2_Copy.f l0_0 a0_1 l0_2 l0_3 l0_4).bind fun bt810 => (hypercuberef2_Narrow.l0 k a1 a2 0 0 l0_0 a0_1 l0_2 l0_3 l0_4 ([] : List Int) bt810.2.1 bt810.2.2.1 bt810.2.2.2.1 bt810.2.2.2.2)) = some (r1, r2, r3, r4, r5) := h
 clear h
 replace H := Option.bind_eq_some_iff.mp H
 obtain ⟨⟨t810, t813, t814, t817, t820⟩, A40, H⟩ := H
 replace H : (hypercuberef2_Narrow.l0 k a1 a2 0 0 l0_0 a0_1 l0_2 l0_3 l0_4 ([] : List Int) t813 t814 t817 t820) = some (r1, r2, r3, r4, r5) := H
 have A4 := am A40
 clear A40
 have H' := am H
 clear H
 go_enter Try.func32, Try.ntmps32
 go_wp2_with (first | ((with_reducible refine gate_dst (N := 3) rfl ?_); refine box_event ?hg (N := 3) ?hd (cs := #[.slice A0_0 l0_0.length c0_0, .int .i64 a0_1, .slice A0_2 l0_2.length c0_2, .slice A0_3 l0_3.length c0_3, .slice A0_4 l0_4.length c0_4]) (t := 30) ?hr ?_; (case hd => rfl); (case hg => rfl); (case hr => first | (go_simp; done) | (go_simp; rfl)); intro gb808 hg w5 hbox hb; have n0_ := am (below_step (by repeat (first | (with_reducible first | exact HB.out | apply below_alloc | apply pw_below_drewN | apply below_drew1) | exact HB.out)) hb); have n1_ := am (hbox); have n2_ := am ((by rw [hg]; exact (below_size (by repeat (first | (with_reducible first | exact HB.out | apply below_alloc | apply pw_below_drewN | apply below_drew1) | exact HB.out))) : w.heap.size ≤ gb808)); have n3_ := am ((by rw [hg]; exact (below_size (by repeat (first | (with_reducible first | exact HB.out | apply below_alloc | apply pw_below_drewN | apply below_drew1) | exact HB.out))) : w.heap.size ≤ gb808)); clear HB; revert n0_ n1_ n2_ n3_; intro HB BK808 GW808 GE808; clear hb hbox hg) | ((with_reducible refine gate_dst (N := 6) rfl ?_); refine box_event ?hg (N := 6) ?hd (cs := #[.slice none 0 0, .int .i64 0, .slice none 0 0, .slice none 0 0, .slice none 0 0]) (t := 30) ?hr ?_; (case hd => rfl); (case hg => rfl); (case hr => first | (go_simp; done) | (go_simp; rfl)); intro gb809 hg w6 hbox hb; have n0_ := am (blk_below (g := gb808) (o := .cells #[.slice A0_0 l0_0.length c0_0, .int .i64 a0_1, .slice A0_2 l0_2.length c0_2, .slice A0_3 l0_3.length c0_3, .slice A0_4 l0_4.length c0_4] 30 (0, 0)) (by (with_reducible repeat (first | refine blk_drewN ?_ _ | refine blk_drew ?_ | refine blk_alloc ?_ _)); exact BK808.out) hb); have n1_ := am (below_step (by repeat (first | (with_reducible first | exact HB.out | apply below_alloc | apply pw_below_drewN | apply below_drew1 | refine below_set ?_ GE808.out) | exact HB.out)) hb); have n2_ := am (hbox); have n3_ := am ((by rw [hg]; exact (below_size (by repeat (first | (with_reducible first | exact HB.out | apply below_alloc | apply pw_below_drewN | apply below_drew1 | refine below_set ?_ GE808.out) | exact HB.out))) : w.heap.size ≤ gb809)); have n4_ := am ((by rw [hg]; exact (below_size (by repeat (first | (with_reducible first | exact HB.out | apply below_alloc | apply pw_below_drewN | apply below_drew1 | refine below_set ?_ GE808.out) | exact HB.out))) : w.heap.size ≤ gb809)); have n5_ := am ((by rw [hg]; exact Nat.ne_of_lt (blk_lt (g := gb808) (o := .cells #[.slice A0_0 l0_0.length c0_0, .int .i64 a0_1, .slice A0_2 l0_2.length c0_2, .slice A0_3 l0_3.length c0_3, .slice A0_4 l0_4.length c0_4] 30 (0, 0)) (by (with_reducible repeat (first | refine blk_drewN ?_ _ | refine blk_drew ?_ | refine blk_alloc ?_ _)); exact BK808.out)) : gb808 ≠ gb809)); have n6_ := am ((by rw [hg]; exact Nat.ne_of_gt (blk_lt (g := gb808) (o := .cells #[.slice A0_0 l0_0.length c0_0, .int .i64 a0_1, .slice A0_2 l0_2.length c0_2, .slice A0_3 l0_3.length c0_3, .slice A0_4 l0_4.length c0_4] 30 (0, 0)) (by (with_reducible repeat (first | refine blk_drewN ?_ _ | refine blk_drew ?_ | refine blk_alloc ?_ _)); exact BK808.out)) : gb809 ≠ gb808)); clear BK808 HB; revert n0_ n1_ n2_ n3_ n4_ n5_ n6_; intro BK808 HB BK809 GW809 GE809 NB808_809 NB809_808; clear hb hbox hg; have hnb7 := NB808_809.out; have hnc7 := NB809_808.out; have hcz8_0 : w6.cell? ⟨gb808, 0, none⟩ = some (.slice A0_0 l0_0.length c0_0) := (blk_cell BK808.out 0).trans rfl; have hcz8_1 : w6.cell? ⟨gb808, 1, none⟩ = some (.int .i64 a0_1) := (blk_cell BK808.out 1).trans rfl; have hcz8_2 : w6.cell? ⟨gb808, 2, none⟩ = some (.slice A0_2 l0_2.length c0_2) := (blk_cell BK808.out 2).trans rfl; have hcz8_3 : w6.cell? ⟨gb808, 3, none⟩ = some (.slice A0_3 l0_3.length c0_3) := (blk_cell BK808.out 3).trans rfl; have hcz8_4 : w6.cell? ⟨gb808, 4, none⟩ = some (.slice A0_4 l0_4.length c0_4) := (blk_cell BK808.out 4).trans rfl; have hfz8_0 := blk_frozen BK808.out 0; have hfz8_1 := blk_frozen BK808.out 1; have hfz8_2 := blk_frozen BK808.out 2; have hfz8_3 := blk_frozen BK808.out 3; have hfz8_4 := blk_frozen BK808.out 4) | (go_at_call 52; (with_reducible refine (hypercuberef2_Copy.calls _ _ l0_0 a0_1 _ _ l0_2 _ _ l0_3 _ _ l0_4 t810 t813 t814 t817 t820 _ ?side1 ?side2 ?side3 ?side4 ?side5 ?side6 ?side7 ?side8 A4.out).mono ?_); (case side1 => repeat (first | exact (Kd.C_below HR0_0.out HB.out) | (with_reducible refine Kd.C_alloc ?_ _) | (with_reducible refine Kd.C_drewN ?_ _) | (with_reducible refine Kd.C_drew ?_))); (case side2 => exact HC0_0.out); (case side3 => repeat (first | exact (Kd.C_below HR0_2.out HB.out) | (with_reducible refine Kd.C_alloc ?_ _) | (with_reducible refine Kd.C_drewN ?_ _) | (with_reducible refine Kd.C_drew ?_))); (case side4 => exact HC0_2.out); (case side5 => repeat (first | exact (Kd.C_below HR0_3.out HB.out) | (with_reducible refine Kd.C_alloc ?_ _) | (with_reducible refine Kd.C_drewN ?_ _) | (with_reducible refine Kd.C_drew ?_))); (case side6 => exact HC0_3.out); (case side7 => repeat (first | exact (Kd.C_below HR0_4.out HB.out) | (with_reducible refine Kd.C_alloc ?_ _) | (with_reducible refine Kd.C_drewN ?_ _) | (with_reducible refine Kd.C_drew ?_))); (case side8 => exact HC0_4.out); rintro e w9 ⟨v811, v815, v818, v821, rfl, ho0, ho1, ho2, ho3, hb⟩; have n0_ := am (Kd.R_lower ho0 (below_size (by repeat (first | (with_reducible first | exact HB.out | apply below_alloc | apply pw_below_drewN | apply below_drew1 | refine below_set ?_ GE808.out | refine below_set ?_ GE809.out) | exact HB.out)))); have n1_ := am (Kd.R_lower ho1 (below_size (by repeat (first | (with_reducible first | exact HB.out | apply below_alloc | apply pw_below_drewN | apply below_drew1 | refine below_set ?_ GE808.out | refine below_set ?_ GE809.out) | exact HB.out)))); have n2_ := am (Kd.R_lower ho2 (below_size (by repeat (first | (with_reducible first | exact HB.out | apply below_alloc | apply pw_below_drewN | apply below_drew1 | refine below_set ?_ GE808.out | refine below_set ?_ GE809.out) | exact HB.out)))); have n3_ := am (Kd.R_lower ho3 (below_size (by repeat (first | (with_reducible first | exact HB.out | apply below_alloc | apply pw_below_drewN | apply below_drew1 | refine below_set ?_ GE808.out | refine below_set ?_ GE809.out) | exact HB.out)))); have n4_ := am (blk_below (g := gb808) (o := .cells #[.slice A0_0 l0_0.length c0_0, .int .i64 a0_1, .slice A0_2 l0_2.length c0_2, .slice A0_3 l0_3.length c0_3, .slice A0_4 l0_4.length c0_4] 30 (0, 0)) (by (with_reducible repeat (first | refine blk_drewN ?_ _ | refine blk_drew ?_ | refine blk_alloc ?_ _)); exact BK808.out) hb); have n5_ := am (blk_below (g := gb809) (o := .cells #[.slice none 0 0, .int .i64 0, .slice none 0 0, .slice none 0 0, .slice none 0 0] 30 (0, 0)) (by (with_reducible repeat (first | refine blk_drewN ?_ _ | refine blk_drew ?_ | refine blk_alloc ?_ _)); exact BK809.out) hb); have n6_ := am (below_step (by repeat (first | (with_reducible first | exact HB.out | apply below_alloc | apply pw_below_drewN | apply below_drew1 | refine below_set ?_ GE808.out | refine below_set ?_ GE809.out) | exact HB.out)) hb); clear BK808 BK809 HB; revert n0_ n1_ n2_ n3_ n4_ n5_ n6_; intro HO812 HO816 HO819 HO822 BK808 BK809 HB; (try clear hb); (try clear hb2); (try clear hk); (try clear hi); (try clear ho0); (try clear ho1); (try clear ho2); (try clear ho3)) | ((with_reducible refine gate_dst (N := 7) rfl ?_); refine box_event ?hg (N := 7) ?hd (cs := #[.slice none 0 0, .int .i64 0, .slice none 0 0, .slice none 0 0, .slice none 0 0]) (t := 30) ?hr ?_; (case hd => rfl); (case hg => rfl); (case hr => first | (go_simp; done) | (go_simp; rfl)); intro gb823 hg w10 hbox hb; have n0_ := am (Kd.R_below (by (with_reducible repeat (first | apply Kd.R_alloc | apply Kd.R_drewN | apply Kd.R_drew)); exact HO812.out) hb); have n1_ := am (Kd.R_below (by (with_reducible repeat (first | apply Kd.R_alloc | apply Kd.R_drewN | apply Kd.R_drew)); exact HO816.out) hb); have n2_ := am (Kd.R_below (by (with_reducible repeat (first | apply Kd.R_alloc | apply Kd.R_drewN | apply Kd.R_drew)); exact HO819.out) hb); have n3_ := am (Kd.R_below (by (with_reducible repeat (first | apply Kd.R_alloc | apply Kd.R_drewN | apply Kd.R_drew)); exact HO822.out) hb); have n4_ := am (blk_below (g := gb808) (o := .cells #[.slice A0_0 l0_0.length c0_0, .int .i64 a0_1, .slice A0_2 l0_2.length c0_2, .slice A0_3 l0_3.length c0_3, .slice A0_4 l0_4.length c0_4] 30 (0, 0)) (by (with_reducible repeat (first | refine blk_drewN ?_ _ | refine blk_drew ?_ | refine blk_alloc ?_ _)); exact BK808.out) hb); have n5_ := am (blk_below (g := gb809) (o := .cells #[.slice none 0 0, .int .i64 0, .slice none 0 0, .slice none 0 0, .slice none 0 0] 30 (0, 0)) (by (with_reducible repeat (first | refine blk_drewN ?_ _ | refine blk_drew ?_ | refine blk_alloc ?_ _)); exact BK809.out) hb); have n6_ := am (below_step (by repeat (first | (with_reducible first | exact HB.out | apply below_alloc | apply pw_below_drewN | apply below_drew1 | refine below_set ?_ GE808.out | refine below_set ?_ GE809.out) | exact HB.out)) hb); have n7_ := am (hbox); have n8_ := am ((by rw [hg]; exact (below_size (by repeat (first | (with_reducible first | exact HB.out | apply below_alloc | apply pw_below_drewN | apply below_drew1 | refine below_set ?_ GE808.out | refine below_set ?_ GE809.out) | exact HB.out))) : w.heap.size ≤ gb823)); have n9_ := am ((by rw [hg]; exact (below_size (by repeat (first | (with_reducible first | exact HB.out | apply below_alloc | apply pw_below_drewN | apply below_drew1 | refine below_set ?_ GE808.out | refine below_set ?_ GE809.out) | exact HB.out))) : w.heap.size ≤ gb823)); have n10_ := am ((by rw [hg]; exact Nat.ne_of_lt (blk_lt (g := gb808) (o := .cells #[.slice A0_0 l0_0.length c0_0, .int .i64 a0_1, .slice A0_2 l0_2.length c0_2, .slice A0_3 l0_3.length c0_3, .slice A0_4 l0_4.length c0_4] 30 (0, 0)) (by (with_reducible repeat (first | refine blk_drewN ?_ _ | refine blk_drew ?_ | refine blk_alloc ?_ _)); exact BK808.out)) : gb808 ≠ gb823)); have n11_ := am ((by rw [hg]; exact Nat.ne_of_gt (blk_lt (g := gb808) (o := .cells #[.slice A0_0 l0_0.length c0_0, .int .i64 a0_1, .slice A0_2 l0_2.length c0_2, .slice A0_3 l0_3.length c0_3, .slice A0_4 l0_4.length c0_4] 30 (0, 0)) (by (with_reducible repeat (first | refine blk_drewN ?_ _ | refine blk_drew ?_ | refine blk_alloc ?_ _)); exact BK808.out)) : gb823 ≠ gb808)); have n12_ := am ((by rw [hg]; exact Nat.ne_of_lt (blk_lt (g := gb809) (o := .cells #[.slice none 0 0, .int .i64 0, .slice none 0 0, .slice none 0 0, .slice none 0 0] 30 (0, 0)) (by (with_reducible repeat (first | refine blk_drewN ?_ _ | refine blk_drew ?_ | refine blk_alloc ?_ _)); exact BK809.out)) : gb809 ≠ gb823)); have n13_ := am ((by rw [hg]; exact Nat.ne_of_gt (blk_lt (g := gb809) (o := .cells #[.slice none 0 0, .int .i64 0, .slice none 0 0, .slice none 0 0, .slice none 0 0] 30 (0, 0)) (by (with_reducible repeat (first | refine blk_drewN ?_ _ | refine blk_drew ?_ | refine blk_alloc ?_ _)); exact BK809.out)) : gb823 ≠ gb809)); clear HO812 HO816 HO819 HO822 BK808 BK809 HB; revert n0_ n1_ n2_ n3_ n4_ n5_ n6_ n7_ n8_ n9_ n10_ n11_ n12_ n13_; intro HO812 HO816 HO819 HO822 BK808 BK809 HB BK823 GW823 GE823 NB808_823 NB823_808 NB809_823 NB823_809; clear hb hbox hg; obtain ⟨Ao11, co11, eo11⟩ := Kd.R_slice HO812.out; subst eo11; have hnb12 := NB823_808.out; have hnc12 := NB808_823.out; have hnb13 := NB823_809.out; have hnc13 := NB809_823.out; have hcz14_0 : w10.cell? ⟨gb823, 0, none⟩ = some (.slice none 0 0) := (blk_cell BK823.out 0).trans rfl; have hcz14_1 : w10.cell? ⟨gb823, 1, none⟩ = some (.int .i64 0) := (blk_cell BK823.out 1).trans rfl; have hcz14_2 : w10.cell? ⟨gb823, 2, none⟩ = some (.slice none 0 0) := (blk_cell BK823.out 2).trans rfl; have hcz14_3 : w10.cell? ⟨gb823, 3, none⟩ = some (.slice none 0 0) := (blk_cell BK823.out 3).trans rfl; have hcz14_4 : w10.cell? ⟨gb823, 4, none⟩ = some (.slice none 0 0) := (blk_cell BK823.out 4).trans rfl; have hfz14_0 := blk_frozen BK823.out 0; have hfz14_1 := blk_frozen BK823.out 1; have hfz14_2 := blk_frozen BK823.out 2; have hfz14_3 := blk_frozen BK823.out 3; have hfz14_4 := blk_frozen BK823.out 4; obtain ⟨Ao15, co15, eo15⟩ := Kd.R_slice HO816.out; subst eo15; obtain ⟨Ao16, co16, eo16⟩ := Kd.R_slice HO819.out; subst eo16; obtain ⟨Ao17, co17, eo17⟩ := Kd.R_slice HO822.out; subst eo17))
 go_loopg [8, 9] k (fun kq v8 v9 w' => ∃ (x8_1 : Int) (x9_1 : Int) (x824000_1 : List Int) (u824000 : Value), v8 = .int .i64 x8_1 ∧ v9 = .int .u64 x9_1 ∧ Aside0 (hypercuberef2_Narrow.l0 kq a1 a2 x8_1 x9_1 l0_0 a0_1 l0_2 l0_3 l0_4 x824000_1 t813 t814 t817 t820 = some (r1, r2, r3, r4, r5)) ∧ Aside0 (kq ≤ k) ∧ Aside0 (Kd.R (Kd.int .i64) 3 w' w.heap.size (fun k_ => some k_ ≠ ((.slice Ao15 t814.length co15) : Value).ownBlock ∧ some k_ ≠ ((.slice Ao16 t817.length co16) : Value).ownBlock ∧ some k_ ≠ ((.slice Ao17 t820.length co17) : Value).ownBlock) u824000 x824000_1) ∧ Aside0 (Kd.R (Kd.int .i64) 3 w' w.heap.size (fun k_ => some k_ ≠ (u824000 : Value).ownBlock ∧ some k_ ≠ ((.slice Ao16 t817.length co16) : Value).ownBlock ∧ some k_ ≠ ((.slice Ao17 t820.length co17) : Value).ownBlock) (.slice Ao15 t814.length co15) t814) ∧ Aside0 (Kd.R (Kd.int .i64) 3 w' w.heap.size (fun k_ => some k_ ≠ (u824000 : Value).ownBlock ∧ some k_ ≠ ((.slice Ao15 t814.length co15) : Value).ownBlock ∧ some k_ ≠ ((.slice Ao17 t820.length co17) : Value).ownBlock) (.slice Ao16 t817.length co16) t817) ∧ Aside0 (Kd.R (Kd.int .i64) 3 w' w.heap.size (fun k_ => some k_ ≠ (u824000 : Value).ownBlock ∧ some k_ ≠ ((.slice Ao15 t814.length co15) : Value).ownBlock ∧ some k_ ≠ ((.slice Ao16 t817.length co16) : Value).ownBlock) (.slice Ao17 t820.length co17) t820) ∧ Aside0 (w'.heap[gb808]? = some (.cells #[(.slice A0_0 l0_0.length c0_0), .int .i64 a0_1, (.slice A0_2 l0_2.length c0_2), (.slice A0_3 l0_3.length c0_3), (.slice A0_4 l0_4.length c0_4)] 30 (0, 0))) ∧ Aside0 (w'.heap[gb809]? = some (.cells #[(.slice none 0 0), .int .i64 0, (.slice none 0 0), (.slice none 0 0), (.slice none 0 0)] 30 (0, 0))) ∧ Aside0 (w'.heap[gb823]? = some (.cells #[u824000, .int .i64 t813, (.slice Ao15 t814.length co15), (.slice Ao16 t817.length co16), (.slice Ao17 t820.length co17)] 30 (0, 0))) ∧ Aside0 (Below w.heap.size w w'))
 case atStart => exact ⟨(0), (0), (([] : List Int)), (.slice none 0 0), (by first | rfl | (simp; done) | (simp [*]; done)), (by first | rfl | (simp; done) | (simp [*]; done)), H', ⟨Nat.le_refl _⟩, ⟨by first | exact Kd.R_nil _ _ _ _ _ | exact Kd.N_nil _ _ _ _ _ | exact Kd.V_nil _ _ _ _ _ | exact Kd.Q_nil _ _ _ _ _ | exact Kd.S_nil _ _ _ _ _⟩, ⟨by (with_reducible repeat (first | apply Kd.R_alloc | apply Kd.R_drewN | apply Kd.R_drew)); exact Kd.R_mono (Kd.R_far (p := ⟨gb823, 0, none⟩) (Kd.R_far (p := ⟨gb823, 4, none⟩) (Kd.R_far (p := ⟨gb823, 3, none⟩) (Kd.R_far (p := ⟨gb823, 2, none⟩) (Kd.R_far (p := ⟨gb823, 1, none⟩) (Kd.R_far (p := ⟨gb823, 0, none⟩) (Kd.R_types HO816.out BK823.out (by decide)) (fun _ hk => hk.2) (.slice Ao11 t810.length co11)) (fun _ hk => hk.2) (.int .i64 t813)) (fun _ hk => hk.2) (.slice Ao15 t814.length co15)) (fun _ hk => hk.2) (.slice Ao16 t817.length co16)) (fun _ hk => hk.2) (.slice Ao17 t820.length co17)) (fun _ hk => hk.2) (.slice none 0 0)) (fun _ hk => ⟨(by simp [Value.ownBlock]), ⟨hk.1.2.1, hk.1.2.2⟩⟩)⟩, ⟨by (with_reducible repeat (first | apply Kd.R_alloc | apply Kd.R_drewN | apply Kd.R_drew)); exact Kd.R_mono (Kd.R_far (p := ⟨gb823, 0, none⟩) (Kd.R_far (p := ⟨gb823, 4, none⟩) (Kd.R_far (p := ⟨gb823, 3, none⟩) (Kd.R_far (p := ⟨gb823, 2, none⟩) (Kd.R_far (p := ⟨gb823, 1, none⟩) (Kd.R_far (p := ⟨gb823, 0, none⟩) (Kd.R_types HO819.out BK823.out (by decide)) (fun _ hk => hk.2) (.slice Ao11 t810.length co11)) (fun _ hk => hk.2) (.int .i64 t813)) (fun _ hk => hk.2) (.slice Ao15 t814.length co15)) (fun _ hk => hk.2) (.slice Ao16 t817.length co16)) (fun _ hk => hk.2) (.slice Ao17 t820.length co17)) (fun _ hk => hk.2) (.slice none 0 0)) (fun _ hk => ⟨(by simp [Value.ownBlock]), ⟨hk.1.2.1, hk.1.2.2⟩⟩)⟩, ⟨by (with_reducible repeat (first | apply Kd.R_alloc | apply Kd.R_drewN | apply Kd.R_drew)); exact Kd.R_mono (Kd.R_far (p := ⟨gb823, 0, none⟩) (Kd.R_far (p := ⟨gb823, 4, none⟩) (Kd.R_far (p := ⟨gb823, 3, none⟩) (Kd.R_far (p := ⟨gb823, 2, none⟩) (Kd.R_far (p := ⟨gb823, 1, none⟩) (Kd.R_far (p := ⟨gb823, 0, none⟩) (Kd.R_types HO822.out BK823.out (by decide)) (fun _ hk => hk.2) (.slice Ao11 t810.length co11)) (fun _ hk => hk.2) (.int .i64 t813)) (fun _ hk => hk.2) (.slice Ao15 t814.length co15)) (fun _ hk => hk.2) (.slice Ao16 t817.length co16)) (fun _ hk => hk.2) (.slice Ao17 t820.length co17)) (fun _ hk => hk.2) (.slice none 0 0)) (fun _ hk => ⟨(by simp [Value.ownBlock]), ⟨hk.1.2.1, hk.1.2.2⟩⟩)⟩, ⟨by (with_reducible repeat (first | refine blk_drewN ?_ _ | refine blk_drew ?_ | refine blk_alloc ?_ _)); refine blk_far ?_ NB808_823.out _; (with_reducible repeat (first | refine blk_drewN ?_ _ | refine blk_drew ?_ | refine blk_alloc ?_ _)); refine blk_far ?_ NB808_823.out _; (with_reducible repeat (first | refine blk_drewN ?_ _ | refine blk_drew ?_ | refine blk_alloc ?_ _)); refine blk_far ?_ NB808_823.out _; (with_reducible repeat (first | refine blk_drewN ?_ _ | refine blk_drew ?_ | refine blk_alloc ?_ _)); refine blk_far ?_ NB808_823.out _; (with_reducible repeat (first | refine blk_drewN ?_ _ | refine blk_drew ?_ | refine blk_alloc ?_ _)); refine blk_far ?_ NB808_823.out _; (with_reducible repeat (first | refine blk_drewN ?_ _ | refine blk_drew ?_ | refine blk_alloc ?_ _)); refine blk_far ?_ NB808_823.out _; (with_reducible repeat (first | refine blk_drewN ?_ _ | refine blk_drew ?_ | refine blk_alloc ?_ _)); exact BK808.out⟩, ⟨by (with_reducible repeat (first | refine blk_drewN ?_ _ | refine blk_drew ?_ | refine blk_alloc ?_ _)); refine blk_far ?_ NB809_823.out _; (with_reducible repeat (first | refine blk_drewN ?_ _ | refine blk_drew ?_ | refine blk_alloc ?_ _)); refine blk_far ?_ NB809_823.out _; (with_reducible repeat (first | refine blk_drewN ?_ _ | refine blk_drew ?_ | refine blk_alloc ?_ _)); refine blk_far ?_ NB809_823.out _; (with_reducible repeat (first | refine blk_drewN ?_ _ | refine blk_drew ?_ | refine blk_alloc ?_ _)); refine blk_far ?_ NB809_823.out _; (with_reducible repeat (first | refine blk_drewN ?_ _ | refine blk_drew ?_ | refine blk_alloc ?_ _)); refine blk_far ?_ NB809_823.out _; (with_reducible repeat (first | refine blk_drewN ?_ _ | refine blk_drew ?_ | refine blk_alloc ?_ _)); refine blk_far ?_ NB809_823.out _; (with_reducible repeat (first | refine blk_drewN ?_ _ | refine blk_drew ?_ | refine blk_alloc ?_ _)); exact BK809.out⟩, ⟨by (with_reducible repeat (first | refine blk_drewN ?_ _ | refine blk_drew ?_ | refine blk_alloc ?_ _)); refine blk_put (cs := #[.slice Ao11 t810.length co11, .int .i64 t813, .slice Ao15 t814.length co15, .slice Ao16 t817.length co16, .slice Ao17 t820.length co17]) ?_ 0 _ rfl; (with_reducible repeat (first | refine blk_drewN ?_ _ | refine blk_drew ?_ | refine blk_alloc ?_ _)); refine blk_put (cs := #[.slice Ao11 t810.length co11, .int .i64 t813, .slice Ao15 t814.length co15, .slice Ao16 t817.length co16, .slice none 0 0]) ?_ 4 _ rfl; (with_reducible repeat (first | refine blk_drewN ?_ _ | refine blk_drew ?_ | refine blk_alloc ?_ _)); refine blk_put (cs := #[.slice Ao11 t810.length co11, .int .i64 t813, .slice Ao15 t814.length co15, .slice none 0 0, .slice none 0 0]) ?_ 3 _ rfl; (with_reducible repeat (first | refine blk_drewN ?_ _ | refine blk_drew ?_ | refine blk_alloc ?_ _)); refine blk_put (cs := #[.slice Ao11 t810.length co11, .int .i64 t813, .slice none 0 0, .slice none 0 0, .slice none 0 0]) ?_ 2 _ rfl; (with_reducible repeat (first | refine blk_drewN ?_ _ | refine blk_drew ?_ | refine blk_alloc ?_ _)); refine blk_put (cs := #[.slice Ao11 t810.length co11, .int .i64 0, .slice none 0 0, .slice none 0 0, .slice none 0 0]) ?_ 1 _ rfl; (with_reducible repeat (first | refine blk_drewN ?_ _ | refine blk_drew ?_ | refine blk_alloc ?_ _)); refine blk_put (cs := #[.slice none 0 0, .int .i64 0, .slice none 0 0, .slice none 0 0, .slice none 0 0]) ?_ 0 _ rfl; (with_reducible repeat (first | refine blk_drewN ?_ _ | refine blk_drew ?_ | refine blk_alloc ?_ _)); exact BK823.out⟩, ⟨by repeat (first | (with_reducible first | exact HB.out | apply below_alloc | apply pw_below_drewN | apply below_drew1 | refine below_set ?_ GE808.out | refine below_set ?_ GE809.out | refine below_set ?_ GE823.out) | exact HB.out)⟩⟩
 case round =>
  clear H'
  try clear c1
  try clear p2
  try clear c3
  try clear c5
  try clear c7
  try clear c12
  try clear c13
  try clear hcz14_0
  try clear hcz14_1
  try clear hcz14_2
  try clear hcz14_3
  try clear hcz14_4
  try clear hcz8_0
  try clear hcz8_1
  try clear hcz8_2
  try clear hcz8_3
  try clear hcz8_4
  try clear hfz14_0
  try clear hfz14_1
  try clear hfz14_2
  try clear hfz14_3
  try clear hfz14_4
  try clear hfz8_0
  try clear hfz8_1
  try clear hfz8_2
  try clear hfz8_3
  try clear hfz8_4
  obtain ⟨x8_1, x9_1, x824000_1, u824000, rfl, rfl, HA, HK1, HO_824000, HO_824002, HO_824003, HO_824004, BK808, BK809, BK823, HB⟩ := hrel
  cases gk with
  | zero => exact absurd HA.out (by simp [hypercuberef2_Narrow.l0])
  | succ k1 =>
   have H := HA.out
   clear HA
   simp only [hypercuberef2_Narrow.l0] at H
   by_cases c18 : x9_1 < 4
   ·rw [if_pos c18] at H
    have c18b0 : decide (x9_1 < 4) = true := decide_eq_true c18
    clear c18
    by_cases c19 : 0 ≤ x9_1
    ·rw [if_pos c19] at H
     have c19b0 := eq_true c19
     have c19b1 : decide (0 ≤ x9_1) = true := decide_eq_true c19
     clear c19
     obtain ⟨ji20, hji20⟩ : ∃ j_ : Int, (shr .i64 a1 x9_1) = j_ := ⟨_, rfl⟩
     replace H : (if (Go.bits .and .i64 (ji20) 1) = 1 then (if (Go.bits .and .i64 (shr .i64 a2 x9_1) 1) = 1 then (if 0 ≤ x8_1 then (if x8_1 < (l0_0.length : Int) then (if x824000_1.length < 17592186044416 then (hypercuberef2_Narrow.l0 k1 a1 a2 (wrap64 (x8_1 + 1)) (IntKind.u64.wrap (x9_1 + 1)) l0_0 a0_1 l0_2 l0_3 l0_4 (x824000_1 ++ [rd l0_0 x8_1]) t813 t814 t817 t820) else (none)) else (none)) else (none)) else (hypercuberef2_Narrow.l0 k1 a1 a2 (wrap64 (x8_1 + 1)) (IntKind.u64.wrap (x9_1 + 1)) l0_0 a0_1 l0_2 l0_3 l0_4 x824000_1 t813 t814 t817 t820)) else (hypercuberef2_Narrow.l0 k1 a1 a2 x8_1 (IntKind.u64.wrap (x9_1 + 1)) l0_0 a0_1 l0_2 l0_3 l0_4 x824000_1 t813 t814 t817 t820)) = some (r1, r2, r3, r4, r5) := by first | (rw [hji20] at H; exact H) | (simp only [hji20] at H ⊢; exact H)
     have hji20_ : (a1 / 2 ^ min x9_1.toNat 64) = ji20 := hji20
     have hji20z : x9_1 ≤ 64 → (a1 / 2 ^ x9_1.toNat) = ji20 := shr_small hji20
     by_cases c21 : (Go.bits .and .i64 (ji20) 1) = 1
     ·rw [if_pos c21] at H
      have c21b0 : ((Go.bits .and .i64 (ji20) 1) == 1) = true := beq_iff_eq.mpr c21
      have c21b1 : ((Go.bits .and .i64 (ji20) 1) != 1) = false := bne_eq_false_iff_eq.mpr c21
      clear c21
      have c22b0 := eq_true (of_decide_eq_true (by first | (with_reducible assumption) | assumption) : 0 ≤ x9_1)
      obtain ⟨ji23, hji23⟩ : ∃ j_ : Int, (shr .i64 a2 x9_1) = j_ := ⟨_, rfl⟩
      replace H : (if (Go.bits .and .i64 (ji23) 1) = 1 then (if 0 ≤ x8_1 then (if x8_1 < (l0_0.length : Int) then (if x824000_1.length < 17592186044416 then (hypercuberef2_Narrow.l0 k1 a1 a2 (wrap64 (x8_1 + 1)) (IntKind.u64.wrap (x9_1 + 1)) l0_0 a0_1 l0_2 l0_3 l0_4 (x824000_1 ++ [rd l0_0 x8_1]) t813 t814 t817 t820) else (none)) else (none)) else (none)) else (hypercuberef2_Narrow.l0 k1 a1 a2 (wrap64 (x8_1 + 1)) (IntKind.u64.wrap (x9_1 + 1)) l0_0 a0_1 l0_2 l0_3 l0_4 x824000_1 t813 t814 t817 t820)) = some (r1, r2, r3, r4, r5) := by first | (rw [hji23] at H; exact H) | (simp only [hji23] at H ⊢; exact H)
      have hji23_ : (a2 / 2 ^ min x9_1.toNat 64) = ji23 := hji23
      have hji23z : x9_1 ≤ 64 → (a2 / 2 ^ x9_1.toNat) = ji23 := shr_small hji23
      by_cases c24 : (Go.bits .and .i64 (ji23) 1) = 1
      ·rw [if_pos c24] at H
       have c24b0 : ((Go.bits .and .i64 (ji23) 1) == 1) = true := beq_iff_eq.mpr c24
       have c24b1 : ((Go.bits .and .i64 (ji23) 1) != 1) = false := bne_eq_false_iff_eq.mpr c24
       clear c24
       by_cases c25 : 0 ≤ x8_1
       ·rw [if_pos c25] at H
        have c25b0 : decide (0 ≤ x8_1) = true := decide_eq_true c25
        clear c25
        by_cases c26 : x8_1 < (l0_0.length : Int)
        ·rw [if_pos c26] at H
         have c26b0 : decide (x8_1 < (l0_0.length : Int)) = true := decide_eq_true c26
         clear c26
         by_cases c27 : x824000_1.length < 17592186044416
         ·rw [if_pos c27] at H
          have LMc27 := am c27
          clear c27
          obtain ⟨y825, hy825⟩ : ∃ y_ : List Int, y_ = (x824000_1 ++ [rd l0_0 x8_1]) := ⟨_, rfl⟩
          replace H : (hypercuberef2_Narrow.l0 k1 a1 a2 (wrap64 (x8_1 + 1)) (IntKind.u64.wrap (x9_1 + 1)) l0_0 a0_1 l0_2 l0_3 l0_4 y825 t813 t814 t817 t820) = some (r1, r2, r3, r4, r5) := by rw [hy825]; with_reducible exact H
          have Ny825 := am hy825
          clear hy825
          have H' := am H
          clear H
          try go_wp2
          have n0_ := am (Kd.R_drew HO_824000.out)
          have n1_ := am (Kd.R_drew HO_824002.out)
          have n2_ := am (Kd.R_drew HO_824003.out)
          have n3_ := am (Kd.R_drew HO_824004.out)
          have n4_ := am (blk_drew BK808.out)
          have n5_ := am (blk_drew BK809.out)
          have n6_ := am (blk_drew BK823.out)
          have n7_ := am (below_drew1 HB.out)
          clear HO_824000 HO_824002 HO_824003 HO_824004 BK808 BK809 BK823 HB
          revert n0_ n1_ n2_ n3_ n4_ n5_ n6_ n7_
          intro HO_824000 HO_824002 HO_824003 HO_824004 BK808 BK809 BK823 HB
          have p824 : 0 ≤ (x8_1 : Int) := of_decide_eq_true (by first | (with_reducible assumption) | assumption)
          have q824 : x8_1 < (l0_0.length : Int) := of_decide_eq_true (by first | (with_reducible assumption) | assumption)
          obtain ⟨ad824, e824, hx824_0⟩ := Kd.at_int HR0_0.out x8_1 p824 q824
          have hw824_0 := hx824_0
          cases e824
          replace hx824_0 := (HB.out.cell (World.block_lt_of_cell? w _ hx824_0)).trans hx824_0
          replace p824 := eq_true p824
          replace q824 := eq_true q824
          refine start_ (n := 11) (S := fun w' => w'.cell? ⟨gb823, 0, none⟩ = some (u824000) ∧ w'.cell? ⟨gb823, 1, none⟩ = some (.int .i64 t813) ∧ w'.cell? ⟨gb823, 2, none⟩ = some (.slice Ao15 t814.length co15) ∧ w'.cell? ⟨gb823, 3, none⟩ = some (.slice Ao16 t817.length co16) ∧ w'.cell? ⟨gb823, 4, none⟩ = some (.slice Ao17 t820.length co17) ∧ w'.cell? ⟨gb808, 0, none⟩ = some (.slice (some ad824) l0_0.length c0_0) ∧ w'.cell? ⟨gb808, 1, none⟩ = some (.int .i64 a0_1) ∧ w'.cell? ⟨gb808, 2, none⟩ = some (.slice A0_2 l0_2.length c0_2) ∧ w'.cell? ⟨gb808, 3, none⟩ = some (.slice A0_3 l0_3.length c0_3) ∧ w'.cell? ⟨gb808, 4, none⟩ = some (.slice A0_4 l0_4.length c0_4) ∧ w'.cell? (ad824.add (x8_1).toNat) = some (.int .i64 (rd l0_0 x8_1))) (ds := [10]) (bb 11 0) (by kernel_rfl) rfl rfl ⟨bc BK823 0, bc BK823 1, bc BK823 2, bc BK823 3, bc BK823 4, bc BK808 0, bc BK808 1, bc BK808 2, bc BK808 3, bc BK808 4, ((HB.out.cell (World.block_lt_of_cell? w _ hw824_0)).trans hw824_0)⟩ (fun hHeld => ?_); refine with_tabW hypercuberef2_Narrow.tab9 hypercuberef2_Narrow.bits9 (fun HT_ HW_ => ?_)
          generalize wr.drew = w28 at HO_824000 HO_824002 HO_824003 HO_824004 BK808 BK809 BK823 HB hx824_0 hHeld ⊢
          refine pu (i := 0) (N := some 27) (bb 11 1) HT_ ?_
          refine pu (i := 2) (N := some 29) (bb 11 5) HT_ ?_
          refine pu (i := 4) (N := some 31) (bb 11 21) HT_ ?_
          refine tk (i := 1) (N := some 28) (bb 11 23) HT_ HW_ hHeld ?_
          refine tk (i := 3) (N := some 30) (bb 11 31) HT_ HW_ hHeld ?_
          refine pu (i := 5) (N := some 32) (bb 11 63) HT_ ?_
          refine tk (i := 6) (N := some 33) (bb 11 127) HT_ HW_ hHeld ?_
          refine one_ (i := 7) (N := some 34) (bb 11 255) rfl rfl (one_of HT_.out (by kernel_rfl)) (by decide) (fun K hK => ?_)
          refine value_ (w1 := ?_) (v := ?_) (by rfl) rfl ?_ ?_
          rotate_left 2
          ·go_simp
           constructor
           ·rfl
           ·rfl
          refine hK.out _ _ ⟨(blk_cell (blk_alloc BK823.out _) 0).trans rfl, (blk_cell (blk_alloc BK823.out _) 1).trans rfl, (blk_cell (blk_alloc BK823.out _) 2).trans rfl, (blk_cell (blk_alloc BK823.out _) 3).trans rfl, (blk_cell (blk_alloc BK823.out _) 4).trans rfl, (blk_cell (blk_alloc BK808.out _) 0).trans rfl, (blk_cell (blk_alloc BK808.out _) 1).trans rfl, (blk_cell (blk_alloc BK808.out _) 2).trans rfl, (blk_cell (blk_alloc BK808.out _) 3).trans rfl, (blk_cell (blk_alloc BK808.out _) 4).trans rfl, (World.cell?_alloc_lt _ _ _ (World.block_lt_of_cell? _ _ (((HB.out.cell (World.block_lt_of_cell? w _ hw824_0)).trans hw824_0)))).trans (((HB.out.cell (World.block_lt_of_cell? w _ hw824_0)).trans hw824_0))⟩ (fun hHeld => ?_)
          clear hK K
          refine nm ?_
          refine one_ (i := 8) (N := some 35) (bb 11 511) rfl rfl (one_of HT_.out (by kernel_rfl)) (by decide) (fun K hK => ?_)
          refine Kd.R_append_step (Kd.int .i64) (w0 := w) w.heap.size (by rfl) (.tmp 28) (.tmp 34) 22 3 (.int .i64 0) 8 rfl Try.underlying22 info3 rfl (by decide) (by omega) u824000 x824000_1 (rd l0_0 x8_1) [.int .i64 (rd l0_0 x8_1)] (fun k_ => some k_ ≠ (.slice Ao15 t814.length co15 : Value).ownBlock ∧ some k_ ≠ (.slice Ao16 t817.length co16 : Value).ownBlock ∧ some k_ ≠ (.slice Ao17 t820.length co17 : Value).ownBlock) (fun _ => False) rfl rfl ?aP (fun _ hk => hk.elim) ?aF ?aO ?aB ?aS ?aL ?_
          (case aP => exact rfl)
          (case aB => exact (wmv HB.out))
          (case aF => exact (fun k_ hk => ⟨Kd.fresh' (Kd.R_lt (Kd.R_mv HO_824002.out)) k_ hk, Kd.fresh' (Kd.R_lt (Kd.R_mv HO_824003.out)) k_ hk, Kd.fresh' (Kd.R_lt (Kd.R_mv HO_824004.out)) k_ hk⟩))
          (case aO => exact (Kd.R_mv HO_824000.out))
          (case aS => exact (below_size (wmv HB.out)))
          (case aL => have := LMc27.out; omega)
          intro v826 w29 ho hb hg hat
          rw [← Ny825.out] at ho
          have n0_ := am (Kd.R_after (ok := (fun k_ => some k_ ≠ (.slice Ao16 t817.length co16 : Value).ownBlock ∧ some k_ ≠ (.slice Ao17 t820.length co17 : Value).ownBlock)) (Kd.R_mv (Kd.R_mono HO_824002.out (fun _ hk => ⟨⟨hk.2.1, hk.2.2⟩, hk.1⟩))) hg hat)
          have n1_ := am (Kd.R_after (ok := (fun k_ => some k_ ≠ (.slice Ao15 t814.length co15 : Value).ownBlock ∧ some k_ ≠ (.slice Ao17 t820.length co17 : Value).ownBlock)) (Kd.R_mv (Kd.R_mono HO_824003.out (fun _ hk => ⟨⟨hk.2.1, hk.2.2⟩, hk.1⟩))) hg hat)
          have n2_ := am (Kd.R_after (ok := (fun k_ => some k_ ≠ (.slice Ao15 t814.length co15 : Value).ownBlock ∧ some k_ ≠ (.slice Ao16 t817.length co16 : Value).ownBlock)) (Kd.R_mv (Kd.R_mono HO_824004.out (fun _ hk => ⟨⟨hk.2.1, hk.2.2⟩, hk.1⟩))) hg hat)
          have n3_ := am (blk_grown (bmv BK808.out) hg (Kd.R_ne HO_824000.out BK808.out (by decide)))
          have n4_ := am (blk_grown (bmv BK809.out) hg (Kd.R_ne HO_824000.out BK809.out (by decide)))
          have n5_ := am (blk_grown (bmv BK823.out) hg (Kd.R_ne HO_824000.out BK823.out (by decide)))
          have n6_ := am (hb)
          have n7_ := am (ho)
          clear HO_824002 HO_824003 HO_824004 BK808 BK809 BK823 HB HO_824000
          revert n0_ n1_ n2_ n3_ n4_ n5_ n6_ n7_
          intro HO_824002 HO_824003 HO_824004 BK808 BK809 BK823 HB HO827
          clear ho hb hg hat
          obtain ⟨Ao30, co30, eo30⟩ := Kd.R_slice HO827.out
          (first | subst eo30 | (injection eo30 with f1_ f2_ f3_; have f4_ := f1_.symm; have f5_ := f3_.symm; clear f1_ f2_ f3_; subst f4_; subst f5_))
          refine hK.out _ _ ⟨bc BK823 0, bc BK823 1, bc BK823 2, bc BK823 3, bc BK823 4, bc BK808 0, bc BK808 1, bc BK808 2, bc BK808 3, bc BK808 4, ((HB.out.cell (World.block_lt_of_cell? w _ hw824_0)).trans hw824_0)⟩ (fun hHeld => ?_)
          clear hK K
          refine nm ?_
          refine pu (i := 9) (N := some 36) (bb 11 1023) HT_ ?_
          refine last_ (i := 10) (N := none) (bb 11 2047) rfl rfl (one_of HT_.out (by kernel_rfl)) (by decide) (fun K hK => ?_)
          have hs31 : w29.cell? ⟨gb823, 0, none⟩ = some (u824000) := (blk_cell BK823.out 0).trans rfl
          have hfs31 := blk_frozen BK823.out 0
          have hns31_0 := NB808_823.out
          have hns31_1 := NB809_823.out
          have hms31_0 := NB823_808.out
          have hms31_1 := NB823_809.out
          refine skip_ (w1 := ?_) (by rfl) rfl ?_ ?_
          rotate_left
          ·go_simp
           rfl
          refine hK.out _ _ ?_
          clear hK K
          refine done_ (done_of HT_.out (by kernel_rfl)) ?_
          try go_wp2
          go_roundg k1
          case measure => have := HK1.out; omega
          case rel => exact ⟨(wrap64 (x8_1 + 1)), (IntKind.u64.wrap (x9_1 + 1)), (y825), (.slice Ao30 y825.length co30), (by first | rfl | (simp; done) | (simp [*]; done)), (by first | rfl | (simp; done) | (simp [*]; done)), H', ⟨by have := HK1.out; omega⟩, ⟨by (with_reducible repeat (first | apply Kd.R_alloc | apply Kd.R_drewN | apply Kd.R_drew)); exact Kd.R_mono (Kd.R_far (p := ⟨gb823, 0, none⟩) (Kd.R_types HO827.out BK823.out (by decide)) (fun _ hk => hk.2) (.slice Ao30 y825.length co30)) (fun _ hk => ⟨hk.1.1, ⟨hk.1.2.1, hk.1.2.2⟩⟩)⟩, ⟨by (with_reducible repeat (first | apply Kd.R_alloc | apply Kd.R_drewN | apply Kd.R_drew)); exact Kd.R_mono (Kd.R_far (p := ⟨gb823, 0, none⟩) (Kd.R_types HO_824002.out BK823.out (by decide)) (fun _ hk => hk.2) (.slice Ao30 y825.length co30)) (fun _ hk => ⟨hk.1.2, ⟨hk.1.1.1, hk.1.1.2⟩⟩)⟩, ⟨by (with_reducible repeat (first | apply Kd.R_alloc | apply Kd.R_drewN | apply Kd.R_drew)); exact Kd.R_mono (Kd.R_far (p := ⟨gb823, 0, none⟩) (Kd.R_types HO_824003.out BK823.out (by decide)) (fun _ hk => hk.2) (.slice Ao30 y825.length co30)) (fun _ hk => ⟨hk.1.2, ⟨hk.1.1.1, hk.1.1.2⟩⟩)⟩, ⟨by (with_reducible repeat (first | apply Kd.R_alloc | apply Kd.R_drewN | apply Kd.R_drew)); exact Kd.R_mono (Kd.R_far (p := ⟨gb823, 0, none⟩) (Kd.R_types HO_824004.out BK823.out (by decide)) (fun _ hk => hk.2) (.slice Ao30 y825.length co30)) (fun _ hk => ⟨hk.1.2, ⟨hk.1.1.1, hk.1.1.2⟩⟩)⟩, ⟨by (with_reducible repeat (first | refine blk_drewN ?_ _ | refine blk_drew ?_ | refine blk_alloc ?_ _)); refine blk_far ?_ NB808_823.out _; (with_reducible repeat (first | refine blk_drewN ?_ _ | refine blk_drew ?_ | refine blk_alloc ?_ _)); exact BK808.out⟩, ⟨by (with_reducible repeat (first | refine blk_drewN ?_ _ | refine blk_drew ?_ | refine blk_alloc ?_ _)); refine blk_far ?_ NB809_823.out _; (with_reducible repeat (first | refine blk_drewN ?_ _ | refine blk_drew ?_ | refine blk_alloc ?_ _)); exact BK809.out⟩, ⟨by (with_reducible repeat (first | refine blk_drewN ?_ _ | refine blk_drew ?_ | refine blk_alloc ?_ _)); refine blk_put (cs := #[u824000, .int .i64 t813, .slice Ao15 t814.length co15, .slice Ao16 t817.length co16, .slice Ao17 t820.length co17]) ?_ 0 _ rfl; (with_reducible repeat (first | refine blk_drewN ?_ _ | refine blk_drew ?_ | refine blk_alloc ?_ _)); exact BK823.out⟩, ⟨by repeat (first | (with_reducible first | exact HB.out | apply below_alloc | apply pw_below_drewN | apply below_drew1 | refine below_set ?_ GE808.out | refine below_set ?_ GE809.out | refine below_set ?_ GE823.out) | exact HB.out)⟩⟩
         ·rw [if_neg c27] at H
          exact absurd H (by simp)
        ·rw [if_neg c26] at H
         exact absurd H (by simp)
       ·rw [if_neg c25] at H
        exact absurd H (by simp)
      ·rw [if_neg c24] at H
       have c24b0 : ((Go.bits .and .i64 (ji23) 1) == 1) = false := beq_eq_false_iff_ne.mpr c24
       have c24b1 : ((Go.bits .and .i64 (ji23) 1) != 1) = true := bne_iff_ne.mpr c24
       have H' := am H
       clear H
       go_wp2
       go_roundg k1
       case measure => have := HK1.out; omega
       case rel => exact ⟨(wrap64 (x8_1 + 1)), (IntKind.u64.wrap (x9_1 + 1)), (x824000_1), (u824000), (by first | rfl | (simp; done) | (simp [*]; done)), (by first | rfl | (simp; done) | (simp [*]; done)), H', ⟨by have := HK1.out; omega⟩, ⟨by (with_reducible repeat (first | apply Kd.R_alloc | apply Kd.R_drewN | apply Kd.R_drew)); exact HO_824000.out⟩, ⟨by (with_reducible repeat (first | apply Kd.R_alloc | apply Kd.R_drewN | apply Kd.R_drew)); exact HO_824002.out⟩, ⟨by (with_reducible repeat (first | apply Kd.R_alloc | apply Kd.R_drewN | apply Kd.R_drew)); exact HO_824003.out⟩, ⟨by (with_reducible repeat (first | apply Kd.R_alloc | apply Kd.R_drewN | apply Kd.R_drew)); exact HO_824004.out⟩, ⟨by (with_reducible repeat (first | refine blk_drewN ?_ _ | refine blk_drew ?_ | refine blk_alloc ?_ _)); exact BK808.out⟩, ⟨by (with_reducible repeat (first | refine blk_drewN ?_ _ | refine blk_drew ?_ | refine blk_alloc ?_ _)); exact BK809.out⟩, ⟨by (with_reducible repeat (first | refine blk_drewN ?_ _ | refine blk_drew ?_ | refine blk_alloc ?_ _)); exact BK823.out⟩, ⟨by repeat (first | (with_reducible first | exact HB.out | apply below_alloc | apply pw_below_drewN | apply below_drew1 | refine below_set ?_ GE808.out | refine below_set ?_ GE809.out | refine below_set ?_ GE823.out) | exact HB.out)⟩⟩
     ·rw [if_neg c21] at H
      have c21b0 : ((Go.bits .and .i64 (ji20) 1) == 1) = false := beq_eq_false_iff_ne.mpr c21
      have c21b1 : ((Go.bits .and .i64 (ji20) 1) != 1) = true := bne_iff_ne.mpr c21
      have H' := am H
      clear H
      go_wp2
      go_roundg k1
      case measure => have := HK1.out; omega
      case rel => exact ⟨(x8_1), (IntKind.u64.wrap (x9_1 + 1)), (x824000_1), (u824000), (by first | rfl | (simp; done) | (simp [*]; done)), (by first | rfl | (simp; done) | (simp [*]; done)), H', ⟨by have := HK1.out; omega⟩, ⟨by (with_reducible repeat (first | apply Kd.R_alloc | apply Kd.R_drewN | apply Kd.R_drew)); exact HO_824000.out⟩, ⟨by (with_reducible repeat (first | apply Kd.R_alloc | apply Kd.R_drewN | apply Kd.R_drew)); exact HO_824002.out⟩, ⟨by (with_reducible repeat (first | apply Kd.R_alloc | apply Kd.R_drewN | apply Kd.R_drew)); exact HO_824003.out⟩, ⟨by (with_reducible repeat (first | apply Kd.R_alloc | apply Kd.R_drewN | apply Kd.R_drew)); exact HO_824004.out⟩, ⟨by (with_reducible repeat (first | refine blk_drewN ?_ _ | refine blk_drew ?_ | refine blk_alloc ?_ _)); exact BK808.out⟩, ⟨by (with_reducible repeat (first | refine blk_drewN ?_ _ | refine blk_drew ?_ | refine blk_alloc ?_ _)); exact BK809.out⟩, ⟨by (with_reducible repeat (first | refine blk_drewN ?_ _ | refine blk_drew ?_ | refine blk_alloc ?_ _)); exact BK823.out⟩, ⟨by repeat (first | (with_reducible first | exact HB.out | apply below_alloc | apply pw_below_drewN | apply below_drew1 | refine below_set ?_ GE808.out | refine below_set ?_ GE809.out | refine below_set ?_ GE823.out) | exact HB.out)⟩⟩
    ·rw [if_neg c19] at H
     exact absurd H (by simp)
   ·rw [if_neg c18] at H
    have c18b0 : decide (x9_1 < 4) = false := decide_eq_false c18
    clear c18
    simp only [Option.some.injEq, Prod.mk.injEq] at H
    obtain ⟨rfl, rfl, rfl, rfl, rfl⟩ := H
    have hnb32 := NB823_808.out
    have hnc32 := NB808_823.out
    have hnb33 := NB823_809.out
    have hnc33 := NB809_823.out
    have hcz34_0 : wr.cell? ⟨gb823, 0, none⟩ = some (u824000) := (blk_cell BK823.out 0).trans rfl
    have hcz34_1 : wr.cell? ⟨gb823, 1, none⟩ = some (.int .i64 t813) := (blk_cell BK823.out 1).trans rfl
    have hcz34_2 : wr.cell? ⟨gb823, 2, none⟩ = some (.slice Ao15 t814.length co15) := (blk_cell BK823.out 2).trans rfl
    have hcz34_3 : wr.cell? ⟨gb823, 3, none⟩ = some (.slice Ao16 t817.length co16) := (blk_cell BK823.out 3).trans rfl
    have hcz34_4 : wr.cell? ⟨gb823, 4, none⟩ = some (.slice Ao17 t820.length co17) := (blk_cell BK823.out 4).trans rfl
    have hfz34_0 := blk_frozen BK823.out 0
    have hfz34_1 := blk_frozen BK823.out 1
    have hfz34_2 := blk_frozen BK823.out 2
    have hfz34_3 := blk_frozen BK823.out 3
    have hfz34_4 := blk_frozen BK823.out 4
    obtain ⟨Ao35, co35, eo35⟩ := Kd.R_slice HO_824000.out
    subst eo35
    have hnb36 := NB809_808.out
    have hnc36 := NB808_809.out
    have hcz37_0 : wr.cell? ⟨gb809, 0, none⟩ = some (.slice none 0 0) := (blk_cell BK809.out 0).trans rfl
    have hcz37_1 : wr.cell? ⟨gb809, 1, none⟩ = some (.int .i64 0) := (blk_cell BK809.out 1).trans rfl
    have hcz37_2 : wr.cell? ⟨gb809, 2, none⟩ = some (.slice none 0 0) := (blk_cell BK809.out 2).trans rfl
    have hcz37_3 : wr.cell? ⟨gb809, 3, none⟩ = some (.slice none 0 0) := (blk_cell BK809.out 3).trans rfl
    have hcz37_4 : wr.cell? ⟨gb809, 4, none⟩ = some (.slice none 0 0) := (blk_cell BK809.out 4).trans rfl
    have hfz37_0 := blk_frozen BK809.out 0
    have hfz37_1 := blk_frozen BK809.out 1
    have hfz37_2 := blk_frozen BK809.out 2
    have hfz37_3 := blk_frozen BK809.out 3
    have hfz37_4 := blk_frozen BK809.out 4
    go_wp2
    refine bodyPost_ret (results_cell_row rfl _ _ gb809 30 #[.slice Ao35 x824000_1.length co35, .int .i64 t813, .slice Ao15 t814.length co15, .slice Ao16 t817.length co16, .slice Ao17 t820.length co17] (0, 0) _ rfl (by (with_reducible repeat (first | refine blk_drewN ?_ _ | refine blk_drew ?_ | refine blk_alloc ?_ _)); refine blk_put (cs := #[.slice Ao35 x824000_1.length co35, .int .i64 t813, .slice Ao15 t814.length co15, .slice Ao16 t817.length co16, .slice none 0 0]) ?_ 4 _ rfl; (with_reducible repeat (first | refine blk_drewN ?_ _ | refine blk_drew ?_ | refine blk_alloc ?_ _)); refine blk_put (cs := #[.slice Ao35 x824000_1.length co35, .int .i64 t813, .slice Ao15 t814.length co15, .slice none 0 0, .slice none 0 0]) ?_ 3 _ rfl; (with_reducible repeat (first | refine blk_drewN ?_ _ | refine blk_drew ?_ | refine blk_alloc ?_ _)); refine blk_put (cs := #[.slice Ao35 x824000_1.length co35, .int .i64 t813, .slice none 0 0, .slice none 0 0, .slice none 0 0]) ?_ 2 _ rfl; (with_reducible repeat (first | refine blk_drewN ?_ _ | refine blk_drew ?_ | refine blk_alloc ?_ _)); refine blk_put (cs := #[.slice Ao35 x824000_1.length co35, .int .i64 0, .slice none 0 0, .slice none 0 0, .slice none 0 0]) ?_ 1 _ rfl; (with_reducible repeat (first | refine blk_drewN ?_ _ | refine blk_drew ?_ | refine blk_alloc ?_ _)); refine blk_put (cs := #[.slice none 0 0, .int .i64 0, .slice none 0 0, .slice none 0 0, .slice none 0 0]) ?_ 0 _ rfl; (with_reducible repeat (first | refine blk_drewN ?_ _ | refine blk_drew ?_ | refine blk_alloc ?_ _)); exact BK809.out) Try.underlying30 rfl (by kernel_rfl)) rfl ?_
    exact ⟨_, _, _, _, by first | rfl | (simp [errW_none, errW_some] <;> rfl) | (simp [*, errW_none, errW_some] <;> rfl), by (with_reducible repeat (first | apply Kd.R_alloc | apply Kd.R_drewN | apply Kd.R_drew)); exact Kd.R_mono (Kd.R_far (p := ⟨gb809, 4, none⟩) (Kd.R_far (p := ⟨gb809, 3, none⟩) (Kd.R_far (p := ⟨gb809, 2, none⟩) (Kd.R_far (p := ⟨gb809, 1, none⟩) (Kd.R_far (p := ⟨gb809, 0, none⟩) (Kd.R_types HO_824000.out BK809.out (by decide)) (fun _ hk => hk.2) (.slice Ao35 x824000_1.length co35)) (fun _ hk => hk.2) (.int .i64 t813)) (fun _ hk => hk.2) (.slice Ao15 t814.length co15)) (fun _ hk => hk.2) (.slice Ao16 t817.length co16)) (fun _ hk => hk.2) (.slice Ao17 t820.length co17)) (fun _ hk => ⟨hk.1.1, ⟨hk.1.2.1, hk.1.2.2⟩⟩), by (with_reducible repeat (first | apply Kd.R_alloc | apply Kd.R_drewN | apply Kd.R_drew)); exact Kd.R_mono (Kd.R_far (p := ⟨gb809, 4, none⟩) (Kd.R_far (p := ⟨gb809, 3, none⟩) (Kd.R_far (p := ⟨gb809, 2, none⟩) (Kd.R_far (p := ⟨gb809, 1, none⟩) (Kd.R_far (p := ⟨gb809, 0, none⟩) (Kd.R_types HO_824002.out BK809.out (by decide)) (fun _ hk => hk.2) (.slice Ao35 x824000_1.length co35)) (fun _ hk => hk.2) (.int .i64 t813)) (fun _ hk => hk.2) (.slice Ao15 t814.length co15)) (fun _ hk => hk.2) (.slice Ao16 t817.length co16)) (fun _ hk => hk.2) (.slice Ao17 t820.length co17)) (fun _ hk => ⟨hk.1.1, ⟨hk.1.2.1, hk.1.2.2⟩⟩), by (with_reducible repeat (first | apply Kd.R_alloc | apply Kd.R_drewN | apply Kd.R_drew)); exact Kd.R_mono (Kd.R_far (p := ⟨gb809, 4, none⟩) (Kd.R_far (p := ⟨gb809, 3, none⟩) (Kd.R_far (p := ⟨gb809, 2, none⟩) (Kd.R_far (p := ⟨gb809, 1, none⟩) (Kd.R_far (p := ⟨gb809, 0, none⟩) (Kd.R_types HO_824003.out BK809.out (by decide)) (fun _ hk => hk.2) (.slice Ao35 x824000_1.length co35)) (fun _ hk => hk.2) (.int .i64 t813)) (fun _ hk => hk.2) (.slice Ao15 t814.length co15)) (fun _ hk => hk.2) (.slice Ao16 t817.length co16)) (fun _ hk => hk.2) (.slice Ao17 t820.length co17)) (fun _ hk => ⟨hk.1.1, ⟨hk.1.2.1, hk.1.2.2⟩⟩), by (with_reducible repeat (first | apply Kd.R_alloc | apply Kd.R_drewN | apply Kd.R_drew)); exact Kd.R_mono (Kd.R_far (p := ⟨gb809, 4, none⟩) (Kd.R_far (p := ⟨gb809, 3, none⟩) (Kd.R_far (p := ⟨gb809, 2, none⟩) (Kd.R_far (p := ⟨gb809, 1, none⟩) (Kd.R_far (p := ⟨gb809, 0, none⟩) (Kd.R_types HO_824004.out BK809.out (by decide)) (fun _ hk => hk.2) (.slice Ao35 x824000_1.length co35)) (fun _ hk => hk.2) (.int .i64 t813)) (fun _ hk => hk.2) (.slice Ao15 t814.length co15)) (fun _ hk => hk.2) (.slice Ao16 t817.length co16)) (fun _ hk => hk.2) (.slice Ao17 t820.length co17)) (fun _ hk => ⟨hk.1.1, ⟨hk.1.2.1, hk.1.2.2⟩⟩), by repeat (first | (with_reducible first | exact HB.out | apply below_alloc | apply pw_below_drewN | apply below_drew1 | refine below_set ?_ GE808.out | refine below_set ?_ GE809.out | refine below_set ?_ GE823.out) | exact HB.out)⟩
def hypercuberef2_Equal.f (k : Nat) (l0_0 : List Int) (a0_1 : Int) (l0_2 : List Int) (l0_3 : List Int) (l0_4 : List Int) (l1_0 : List Int) (a1_1 : Int) (l1_2 : List Int) (l1_3 : List Int) (l1_4 : List Int) : Option (Bool) := if a0_1 = a1_1 then ((hypercuberef1_Ints.f k l0_0 l1_0).bind fun t199 => (if t199 = true then ((hypercuberef1_Ints.f k l0_2 l1_2).bind fun t200 => (if t200 = true then ((hypercuberef1_Ints.f k l0_3 l1_3).bind fun t201 => (if t201 = true then ((hypercuberef1_Ints.f k l0_4 l1_4).bind fun t202 => (some t202)) else (some false))) else (some false))) else (some false))) else (some false)
set_option maxHeartbeats 8000000 in
set_option maxRecDepth 100000 in
theorem hypercuberef2_Equal.calls (k : Nat) (A0_0 : Option Addr) (c0_0 : Nat) (l0_0 : List Int) (a0_1 : Int) (A0_2 : Option Addr) (c0_2 : Nat) (l0_2 : List Int) (A0_3 : Option Addr) (c0_3 : Nat) (l0_3 : List Int) (A0_4 : Option Addr) (c0_4 : Nat) (l0_4 : List Int) (A1_0 : Option Addr) (c1_0 : Nat) (l1_0 : List Int) (a1_1 : Int) (A1_2 : Option Addr) (c1_2 : Nat) (l1_2 : List Int) (A1_3 : Option Addr) (c1_3 : Nat) (l1_3 : List Int) (A1_4 : Option Addr) (c1_4 : Nat) (l1_4 : List Int) (r : Bool) (w : World) (hr0_0 : Kd.C (Kd.int .i64) w A0_0 l0_0.length l0_0) (hc0_0 : l0_0.length ≤ c0_0) (hr0_2 : Kd.C (Kd.int .i64) w A0_2 l0_2.length l0_2) (hc0_2 : l0_2.length ≤ c0_2) (hr0_3 : Kd.C (Kd.int .i64) w A0_3 l0_3.length l0_3) (hc0_3 : l0_3.length ≤ c0_3) (hr0_4 : Kd.C (Kd.int .i64) w A0_4 l0_4.length l0_4) (hc0_4 : l0_4.length ≤ c0_4) (hr1_0 : Kd.C (Kd.int .i64) w A1_0 l1_0.length l1_0) (hc1_0 : l1_0.length ≤ c1_0) (hr1_2 : Kd.C (Kd.int .i64) w A1_2 l1_2.length l1_2) (hc1_2 : l1_2.length ≤ c1_2) (hr1_3 : Kd.C (Kd.int .i64) w A1_3 l1_3.length l1_3) (hc1_3 : l1_3.length ≤ c1_3) (hr1_4 : Kd.C (Kd.int .i64) w A1_4 l1_4.length l1_4) (hc1_4 : l1_4.length ≤ c1_4) (h : hypercuberef2_Equal.f k l0_0 a0_1 l0_2 l0_3 l0_4 l1_0 a1_1 l1_2 l1_3 l1_4 = some r) :
  Calls Try.prog 22 #[.agg #[.slice A0_0 l0_0.length c0_0, .int .i64 a0_1, .slice A0_2 l0_2.length c0_2, .slice A0_3 l0_3.length c0_3, .slice A0_4 l0_4.length c0_4], .agg #[.slice A1_0 l1_0.length c1_0, .int .i64 a1_1, .slice A1_2 l1_2.length c1_2, .slice A1_3 l1_3.length c1_3, .slice A1_4 l1_4.length c1_4]] w fun e w' => e = .returned (.bool r) ∧ Below w.heap.size w w' := by
 have hu30 := Try.underlying30
 have HR0_0 := am hr0_0
 have HC0_0 := am hc0_0
 clear hr0_0 hc0_0
 have HR0_2 := am hr0_2
 have HC0_2 := am hc0_2
 clear hr0_2 hc0_2
 have HR0_3 := am hr0_3
 have HC0_3 := am hc0_3
 clear hr0_3 hc0_3
 have HR0_4 := am hr0_4
 have HC0_4 := am hc0_4
 clear hr0_4 hc0_4
 have HR1_0 := am hr1_0
 have HC1_0 := am hc1_0
 clear hr1_0 hc1_0
 have HR1_2 := am hr1_2
 have HC1_2 := am hc1_2
 clear hr1_2 hc1_2
 have HR1_3 := am hr1_3
 have HC1_3 := am hc1_3
 clear hr1_3 hc1_3
 have HR1_4 := am hr1_4
 have HC1_4 := am hc1_4
 clear hr1_4 hc1_4
 have HB := am (Below.refl w.heap.size w)
 have H : (if a0_1 = a1_1 then ((hypercuberef1_Ints.f k l0_0 l1_0).bind fun t199 => (if t199 = true then ((hypercuberef1_Ints.f k l0_2 l1_2).bind fun t200 => (if t200 = true then ((hypercuberef1_Ints.f k l0_3 l1_3).bind fun t201 => (if t201 = true then ((hypercuberef1_Ints.f k l0_4 l1_4).bind fun t202 => (some t202)) else (some false))) else (some false))) else (some false))) else (some false)) = some r := h
 clear h
 by_cases c3 : a0_1 = a1_1
 ·rw [if_pos c3] at H
  have c3b0 : (a0_1 == a1_1) = true := beq_iff_eq.mpr c3
  have c3b1 : (a0_1 != a1_1) = false := bne_eq_false_iff_eq.mpr c3
  clear c3
  replace H := Option.bind_eq_some_iff.mp H
  obtain ⟨t199, A40, H⟩ := H
  replace H : (if t199 = true then ((hypercuberef1_Ints.f k l0_2 l1_2).bind fun t200 => (if t200 = true then ((hypercuberef1_Ints.f k l0_3 l1_3).bind fun t201 => (if t201 = true then ((hypercuberef1_Ints.f k l0_4 l1_4).bind fun t202 => (some t202)) else (some false))) else (some false))) else (some false)) = some r := H
  have A4 := am A40
  clear A40
  by_cases c5 : t199 = true
  ·subst c5
   have H1 : ((hypercuberef1_Ints.f k l0_2 l1_2).bind fun t200 => (if t200 = true then ((hypercuberef1_Ints.f k l0_3 l1_3).bind fun t201 => (if t201 = true then ((hypercuberef1_Ints.f k l0_4 l1_4).bind fun t202 => (some t202)) else (some false))) else (some false))) = some r := by rw [if_pos rfl] at H; exact H
   clear H
   have H := H1
   clear H1
   replace H := Option.bind_eq_some_iff.mp H
   obtain ⟨t200, A60, H⟩ := H
   replace H : (if t200 = true then ((hypercuberef1_Ints.f k l0_3 l1_3).bind fun t201 => (if t201 = true then ((hypercuberef1_Ints.f k l0_4 l1_4).bind fun t202 => (some t202)) else (some false))) else (some false)) = some r := H
   have A6 := am A60
   clear A60
   by_cases c7 : t200 = true
   ·subst c7
    have H1 : ((hypercuberef1_Ints.f k l0_3 l1_3).bind fun t201 => (if t201 = true then ((hypercuberef1_Ints.f k l0_4 l1_4).bind fun t202 => (some t202)) else (some false))) = some r := by rw [if_pos rfl] at H; exact H
    clear H
    have H := H1
    clear H1
    replace H := Option.bind_eq_some_iff.mp H
    obtain ⟨t201, A80, H⟩ := H
    replace H : (if t201 = true then ((hypercuberef1_Ints.f k l0_4 l1_4).bind fun t202 => (some t202)) else (some false)) = some r := H
    have A8 := am A80
    clear A80
    by_cases c9 : t201 = true
    ·subst c9
     have H1 : ((hypercuberef1_Ints.f k l0_4 l1_4).bind fun t202 => (some t202)) = some r := by rw [if_pos rfl] at H; exact H
     clear H
     have H := H1
     clear H1
     replace H := Option.bind_eq_some_iff.mp H
     obtain ⟨t202, A100, H⟩ := H
     replace H : (some t202) = some r := H
     have A10 := am A100
     clear A100
     obtain rfl := Option.some.inj H
     go_enter Try.func22, Try.ntmps22
     go_wp2_with (first | ((with_reducible refine gate_dst (N := 2) rfl ?_); refine box_event ?hg (N := 2) ?hd (cs := #[.slice A0_0 l0_0.length c0_0, .int .i64 a0_1, .slice A0_2 l0_2.length c0_2, .slice A0_3 l0_3.length c0_3, .slice A0_4 l0_4.length c0_4]) (t := 30) ?hr ?_; (case hd => rfl); (case hg => rfl); (case hr => first | (go_simp; done) | (go_simp; rfl)); intro gb197 hg w11 hbox hb; have n0_ := am (below_step (by repeat (first | (with_reducible first | exact HB.out | apply below_alloc | apply pw_below_drewN | apply below_drew1) | exact HB.out)) hb); have n1_ := am (hbox); have n2_ := am ((by rw [hg]; exact (below_size (by repeat (first | (with_reducible first | exact HB.out | apply below_alloc | apply pw_below_drewN | apply below_drew1) | exact HB.out))) : w.heap.size ≤ gb197)); have n3_ := am ((by rw [hg]; exact (below_size (by repeat (first | (with_reducible first | exact HB.out | apply below_alloc | apply pw_below_drewN | apply below_drew1) | exact HB.out))) : w.heap.size ≤ gb197)); clear HB; have HB := n0_; have BK197 := n1_; have GW197 := n2_; have GE197 := n3_; clear n0_ n1_ n2_ n3_; clear hb hbox hg) | ((with_reducible refine gate_dst (N := 3) rfl ?_); refine box_event ?hg (N := 3) ?hd (cs := #[.slice A1_0 l1_0.length c1_0, .int .i64 a1_1, .slice A1_2 l1_2.length c1_2, .slice A1_3 l1_3.length c1_3, .slice A1_4 l1_4.length c1_4]) (t := 30) ?hr ?_; (case hd => rfl); (case hg => rfl); (case hr => first | (go_simp; done) | (go_simp; rfl)); intro gb198 hg w12 hbox hb; have n0_ := am (blk_below (g := gb197) (o := .cells #[.slice A0_0 l0_0.length c0_0, .int .i64 a0_1, .slice A0_2 l0_2.length c0_2, .slice A0_3 l0_3.length c0_3, .slice A0_4 l0_4.length c0_4] 30 (0, 0)) (by (with_reducible repeat (first | refine blk_drewN ?_ _ | refine blk_drew ?_ | refine blk_alloc ?_ _)); exact BK197.out) hb); have n1_ := am (below_step (by repeat (first | (with_reducible first | exact HB.out | apply below_alloc | apply pw_below_drewN | apply below_drew1 | refine below_set ?_ GE197.out) | exact HB.out)) hb); have n2_ := am (hbox); have n3_ := am ((by rw [hg]; exact (below_size (by repeat (first | (with_reducible first | exact HB.out | apply below_alloc | apply pw_below_drewN | apply below_drew1 | refine below_set ?_ GE197.out) | exact HB.out))) : w.heap.size ≤ gb198)); have n4_ := am ((by rw [hg]; exact (below_size (by repeat (first | (with_reducible first | exact HB.out | apply below_alloc | apply pw_below_drewN | apply below_drew1 | refine below_set ?_ GE197.out) | exact HB.out))) : w.heap.size ≤ gb198)); have n5_ := am ((by rw [hg]; exact Nat.ne_of_lt (blk_lt (g := gb197) (o := .cells #[.slice A0_0 l0_0.length c0_0, .int .i64 a0_1, .slice A0_2 l0_2.length c0_2, .slice A0_3 l0_3.length c0_3, .slice A0_4 l0_4.length c0_4] 30 (0, 0)) (by (with_reducible repeat (first | refine blk_drewN ?_ _ | refine blk_drew ?_ | refine blk_alloc ?_ _)); exact BK197.out)) : gb197 ≠ gb198)); have n6_ := am ((by rw [hg]; exact Nat.ne_of_gt (blk_lt (g := gb197) (o := .cells #[.slice A0_0 l0_0.length c0_0, .int .i64 a0_1, .slice A0_2 l0_2.length c0_2, .slice A0_3 l0_3.length c0_3, .slice A0_4 l0_4.length c0_4] 30 (0, 0)) (by (with_reducible repeat (first | refine blk_drewN ?_ _ | refine blk_drew ?_ | refine blk_alloc ?_ _)); exact BK197.out)) : gb198 ≠ gb197)); clear BK197; clear HB; have BK197 := n0_; have HB := n1_; have BK198 := n2_; have GW198 := n3_; have GE198 := n4_; have NB197_198 := n5_; have NB198_197 := n6_; clear n0_ n1_ n2_ n3_ n4_ n5_ n6_; clear hb hbox hg; have hnb13 := NB197_198.out; have hnc13 := NB198_197.out; have hcz14_0 : w12.cell? ⟨gb197, 0, none⟩ = some (.slice A0_0 l0_0.length c0_0) := (blk_cell BK197.out 0).trans rfl; have hcz14_1 : w12.cell? ⟨gb197, 1, none⟩ = some (.int .i64 a0_1) := (blk_cell BK197.out 1).trans rfl; have hcz14_2 : w12.cell? ⟨gb197, 2, none⟩ = some (.slice A0_2 l0_2.length c0_2) := (blk_cell BK197.out 2).trans rfl; have hcz14_3 : w12.cell? ⟨gb197, 3, none⟩ = some (.slice A0_3 l0_3.length c0_3) := (blk_cell BK197.out 3).trans rfl; have hcz14_4 : w12.cell? ⟨gb197, 4, none⟩ = some (.slice A0_4 l0_4.length c0_4) := (blk_cell BK197.out 4).trans rfl; have hfz14_0 := blk_frozen BK197.out 0; have hfz14_1 := blk_frozen BK197.out 1; have hfz14_2 := blk_frozen BK197.out 2; have hfz14_3 := blk_frozen BK197.out 3; have hfz14_4 := blk_frozen BK197.out 4; have hcz15_0 : w12.cell? ⟨gb198, 0, none⟩ = some (.slice A1_0 l1_0.length c1_0) := (blk_cell BK198.out 0).trans rfl; have hcz15_1 : w12.cell? ⟨gb198, 1, none⟩ = some (.int .i64 a1_1) := (blk_cell BK198.out 1).trans rfl; have hcz15_2 : w12.cell? ⟨gb198, 2, none⟩ = some (.slice A1_2 l1_2.length c1_2) := (blk_cell BK198.out 2).trans rfl; have hcz15_3 : w12.cell? ⟨gb198, 3, none⟩ = some (.slice A1_3 l1_3.length c1_3) := (blk_cell BK198.out 3).trans rfl; have hcz15_4 : w12.cell? ⟨gb198, 4, none⟩ = some (.slice A1_4 l1_4.length c1_4) := (blk_cell BK198.out 4).trans rfl; have hfz15_0 := blk_frozen BK198.out 0; have hfz15_1 := blk_frozen BK198.out 1; have hfz15_2 := blk_frozen BK198.out 2; have hfz15_3 := blk_frozen BK198.out 3; have hfz15_4 := blk_frozen BK198.out 4) | (go_at_call 19; (with_reducible refine (hypercuberef1_Ints.calls k _ _ l0_0 _ _ l1_0 true _ ?side1 ?side2 ?side3 ?side4 A4.out).mono ?_); (case side1 => repeat (first | exact (Kd.C_below HR0_0.out HB.out) | (with_reducible refine Kd.C_alloc ?_ _) | (with_reducible refine Kd.C_drewN ?_ _) | (with_reducible refine Kd.C_drew ?_))); (case side2 => exact HC0_0.out); (case side3 => repeat (first | exact (Kd.C_below HR1_0.out HB.out) | (with_reducible refine Kd.C_alloc ?_ _) | (with_reducible refine Kd.C_drewN ?_ _) | (with_reducible refine Kd.C_drew ?_))); (case side4 => exact HC1_0.out); rintro e w' ⟨rfl, ⟨nd, rfl⟩⟩) | (go_at_call 19; (with_reducible refine (hypercuberef1_Ints.calls k _ _ l0_2 _ _ l1_2 true _ ?side1 ?side2 ?side3 ?side4 A6.out).mono ?_); (case side1 => repeat (first | exact (Kd.C_below HR0_2.out (by repeat (first | (with_reducible first | exact HB.out | apply below_alloc | apply pw_below_drewN | apply below_drew1 | refine below_set ?_ GE197.out | refine below_set ?_ GE198.out) | exact HB.out))) | (with_reducible refine Kd.C_alloc ?_ _) | (with_reducible refine Kd.C_drewN ?_ _) | (with_reducible refine Kd.C_drew ?_))); (case side2 => exact HC0_2.out); (case side3 => repeat (first | exact (Kd.C_below HR1_2.out (by repeat (first | (with_reducible first | exact HB.out | apply below_alloc | apply pw_below_drewN | apply below_drew1 | refine below_set ?_ GE197.out | refine below_set ?_ GE198.out) | exact HB.out))) | (with_reducible refine Kd.C_alloc ?_ _) | (with_reducible refine Kd.C_drewN ?_ _) | (with_reducible refine Kd.C_drew ?_))); (case side4 => exact HC1_2.out); rintro e w' ⟨rfl, ⟨nd, rfl⟩⟩) | (go_at_call 19; (with_reducible refine (hypercuberef1_Ints.calls k _ _ l0_3 _ _ l1_3 true _ ?side1 ?side2 ?side3 ?side4 A8.out).mono ?_); (case side1 => repeat (first | exact (Kd.C_below HR0_3.out (by repeat (first | (with_reducible first | exact HB.out | apply below_alloc | apply pw_below_drewN | apply below_drew1 | refine below_set ?_ GE197.out | refine below_set ?_ GE198.out) | exact HB.out))) | (with_reducible refine Kd.C_alloc ?_ _) | (with_reducible refine Kd.C_drewN ?_ _) | (with_reducible refine Kd.C_drew ?_))); (case side2 => exact HC0_3.out); (case side3 => repeat (first | exact (Kd.C_below HR1_3.out (by repeat (first | (with_reducible first | exact HB.out | apply below_alloc | apply pw_below_drewN | apply below_drew1 | refine below_set ?_ GE197.out | refine below_set ?_ GE198.out) | exact HB.out))) | (with_reducible refine Kd.C_alloc ?_ _) | (with_reducible refine Kd.C_drewN ?_ _) | (with_reducible refine Kd.C_drew ?_))); (case side4 => exact HC1_3.out); rintro e w' ⟨rfl, ⟨nd, rfl⟩⟩) | (go_at_call 19; (with_reducible refine (hypercuberef1_Ints.calls k _ _ l0_4 _ _ l1_4 t202 _ ?side1 ?side2 ?side3 ?side4 A10.out).mono ?_); (case side1 => repeat (first | exact (Kd.C_below HR0_4.out (by repeat (first | (with_reducible first | exact HB.out | apply below_alloc | apply pw_below_drewN | apply below_drew1 | refine below_set ?_ GE197.out | refine below_set ?_ GE198.out) | exact HB.out))) | (with_reducible refine Kd.C_alloc ?_ _) | (with_reducible refine Kd.C_drewN ?_ _) | (with_reducible refine Kd.C_drew ?_))); (case side2 => exact HC0_4.out); (case side3 => repeat (first | exact (Kd.C_below HR1_4.out (by repeat (first | (with_reducible first | exact HB.out | apply below_alloc | apply pw_below_drewN | apply below_drew1 | refine below_set ?_ GE197.out | refine below_set ?_ GE198.out) | exact HB.out))) | (with_reducible refine Kd.C_alloc ?_ _) | (with_reducible refine Kd.C_drewN ?_ _) | (with_reducible refine Kd.C_drew ?_))); (case side4 => exact HC1_4.out); rintro e w' ⟨rfl, ⟨nd, rfl⟩⟩))
     go_ret
     exact ⟨by first | rfl | (simp [errW_none, errW_some] <;> rfl) | (simp [*, errW_none, errW_some] <;> rfl), by repeat (first | (with_reducible first | exact HB.out | apply below_alloc | apply pw_below_drewN | apply below_drew1 | refine below_set ?_ GE197.out | refine below_set ?_ GE198.out) | exact HB.out)⟩
    ·replace c9 := Bool.eq_false_iff.mpr c9
     subst c9
     have H1 : (some false) = some r := by rw [if_neg (show ¬ (false = true) by decide)] at H; exact H
     clear H
     have H := H1
     clear H1
     obtain rfl := Option.some.inj H
     go_enter Try.func22, Try.ntmps22
     go_wp2_with (first | ((with_reducible refine gate_dst (N := 2) rfl ?_); refine box_event ?hg (N := 2) ?hd (cs := #[.slice A0_0 l0_0.length c0_0, .int .i64 a0_1, .slice A0_2 l0_2.length c0_2, .slice A0_3 l0_3.length c0_3, .slice A0_4 l0_4.length c0_4]) (t := 30) ?hr ?_; (case hd => rfl); (case hg => rfl); (case hr => first | (go_simp; done) | (go_simp; rfl)); intro gb197 hg w16 hbox hb; have n0_ := am (below_step (by repeat (first | (with_reducible first | exact HB.out | apply below_alloc | apply pw_below_drewN | apply below_drew1) | exact HB.out)) hb); have n1_ := am (hbox); have n2_ := am ((by rw [hg]; exact (below_size (by repeat (first | (with_reducible first | exact HB.out | apply below_alloc | apply pw_below_drewN | apply below_drew1) | exact HB.out))) : w.heap.size ≤ gb197)); have n3_ := am ((by rw [hg]; exact (below_size (by repeat (first | (with_reducible first | exact HB.out | apply below_alloc | apply pw_below_drewN | apply below_drew1) | exact HB.out))) : w.heap.size ≤ gb197)); clear HB; have HB := n0_; have BK197 := n1_; have GW197 := n2_; have GE197 := n3_; clear n0_ n1_ n2_ n3_; clear hb hbox hg) | ((with_reducible refine gate_dst (N := 3) rfl ?_); refine box_event ?hg (N := 3) ?hd (cs := #[.slice A1_0 l1_0.length c1_0, .int .i64 a1_1, .slice A1_2 l1_2.length c1_2, .slice A1_3 l1_3.length c1_3, .slice A1_4 l1_4.length c1_4]) (t := 30) ?hr ?_; (case hd => rfl); (case hg => rfl); (case hr => first | (go_simp; done) | (go_simp; rfl)); intro gb198 hg w17 hbox hb; have n0_ := am (blk_below (g := gb197) (o := .cells #[.slice A0_0 l0_0.length c0_0, .int .i64 a0_1, .slice A0_2 l0_2.length c0_2, .slice A0_3 l0_3.length c0_3, .slice A0_4 l0_4.length c0_4] 30 (0, 0)) (by (with_reducible repeat (first | refine blk_drewN ?_ _ | refine blk_drew ?_ | refine blk_alloc ?_ _)); exact BK197.out) hb); have n1_ := am (below_step (by repeat (first | (with_reducible first | exact HB.out | apply below_alloc | apply pw_below_drewN | apply below_drew1 | refine below_set ?_ GE197.out) | exact HB.out)) hb); have n2_ := am (hbox); have n3_ := am ((by rw [hg]; exact (below_size (by repeat (first | (with_reducible first | exact HB.out | apply below_alloc | apply pw_below_drewN | apply below_drew1 | refine below_set ?_ GE197.out) | exact HB.out))) : w.heap.size ≤ gb198)); have n4_ := am ((by rw [hg]; exact (below_size (by repeat (first | (with_reducible first | exact HB.out | apply below_alloc | apply pw_below_drewN | apply below_drew1 | refine below_set ?_ GE197.out) | exact HB.out))) : w.heap.size ≤ gb198)); have n5_ := am ((by rw [hg]; exact Nat.ne_of_lt (blk_lt (g := gb197) (o := .cells #[.slice A0_0 l0_0.length c0_0, .int .i64 a0_1, .slice A0_2 l0_2.length c0_2, .slice A0_3 l0_3.length c0_3, .slice A0_4 l0_4.length c0_4] 30 (0, 0)) (by (with_reducible repeat (first | refine blk_drewN ?_ _ | refine blk_drew ?_ | refine blk_alloc ?_ _)); exact BK197.out)) : gb197 ≠ gb198)); have n6_ := am ((by rw [hg]; exact Nat.ne_of_gt (blk_lt (g := gb197) (o := .cells #[.slice A0_0 l0_0.length c0_0, .int .i64 a0_1, .slice A0_2 l0_2.length c0_2, .slice A0_3 l0_3.length c0_3, .slice A0_4 l0_4.length c0_4] 30 (0, 0)) (by (with_reducible repeat (first | refine blk_drewN ?_ _ | refine blk_drew ?_ | refine blk_alloc ?_ _)); exact BK197.out)) : gb198 ≠ gb197)); clear BK197; clear HB; have BK197 := n0_; have HB := n1_; have BK198 := n2_; have GW198 := n3_; have GE198 := n4_; have NB197_198 := n5_; have NB198_197 := n6_; clear n0_ n1_ n2_ n3_ n4_ n5_ n6_; clear hb hbox hg; have hnb18 := NB197_198.out; have hnc18 := NB198_197.out; have hcz19_0 : w17.cell? ⟨gb197, 0, none⟩ = some (.slice A0_0 l0_0.length c0_0) := (blk_cell BK197.out 0).trans rfl; have hcz19_1 : w17.cell? ⟨gb197, 1, none⟩ = some (.int .i64 a0_1) := (blk_cell BK197.out 1).trans rfl; have hcz19_2 : w17.cell? ⟨gb197, 2, none⟩ = some (.slice A0_2 l0_2.length c0_2) := (blk_cell BK197.out 2).trans rfl; have hcz19_3 : w17.cell? ⟨gb197, 3, none⟩ = some (.slice A0_3 l0_3.length c0_3) := (blk_cell BK197.out 3).trans rfl; have hcz19_4 : w17.cell? ⟨gb197, 4, none⟩ = some (.slice A0_4 l0_4.length c0_4) := (blk_cell BK197.out 4).trans rfl; have hfz19_0 := blk_frozen BK197.out 0; have hfz19_1 := blk_frozen BK197.out 1; have hfz19_2 := blk_frozen BK197.out 2; have hfz19_3 := blk_frozen BK197.out 3; have hfz19_4 := blk_frozen BK197.out 4; have hcz20_0 : w17.cell? ⟨gb198, 0, none⟩ = some (.slice A1_0 l1_0.length c1_0) := (blk_cell BK198.out 0).trans rfl; have hcz20_1 : w17.cell? ⟨gb198, 1, none⟩ = some (.int .i64 a1_1) := (blk_cell BK198.out 1).trans rfl; have hcz20_2 : w17.cell? ⟨gb198, 2, none⟩ = some (.slice A1_2 l1_2.length c1_2) := (blk_cell BK198.out 2).trans rfl; have hcz20_3 : w17.cell? ⟨gb198, 3, none⟩ = some (.slice A1_3 l1_3.length c1_3) := (blk_cell BK198.out 3).trans rfl; have hcz20_4 : w17.cell? ⟨gb198, 4, none⟩ = some (.slice A1_4 l1_4.length c1_4) := (blk_cell BK198.out 4).trans rfl; have hfz20_0 := blk_frozen BK198.out 0; have hfz20_1 := blk_frozen BK198.out 1; have hfz20_2 := blk_frozen BK198.out 2; have hfz20_3 := blk_frozen BK198.out 3; have hfz20_4 := blk_frozen BK198.out 4) | (go_at_call 19; (with_reducible refine (hypercuberef1_Ints.calls k _ _ l0_0 _ _ l1_0 true _ ?side1 ?side2 ?side3 ?side4 A4.out).mono ?_); (case side1 => repeat (first | exact (Kd.C_below HR0_0.out HB.out) | (with_reducible refine Kd.C_alloc ?_ _) | (with_reducible refine Kd.C_drewN ?_ _) | (with_reducible refine Kd.C_drew ?_))); (case side2 => exact HC0_0.out); (case side3 => repeat (first | exact (Kd.C_below HR1_0.out HB.out) | (with_reducible refine Kd.C_alloc ?_ _) | (with_reducible refine Kd.C_drewN ?_ _) | (with_reducible refine Kd.C_drew ?_))); (case side4 => exact HC1_0.out); rintro e w' ⟨rfl, ⟨nd, rfl⟩⟩) | (go_at_call 19; (with_reducible refine (hypercuberef1_Ints.calls k _ _ l0_2 _ _ l1_2 true _ ?side1 ?side2 ?side3 ?side4 A6.out).mono ?_); (case side1 => repeat (first | exact (Kd.C_below HR0_2.out (by repeat (first | (with_reducible first | exact HB.out | apply below_alloc | apply pw_below_drewN | apply below_drew1 | refine below_set ?_ GE197.out | refine below_set ?_ GE198.out) | exact HB.out))) | (with_reducible refine Kd.C_alloc ?_ _) | (with_reducible refine Kd.C_drewN ?_ _) | (with_reducible refine Kd.C_drew ?_))); (case side2 => exact HC0_2.out); (case side3 => repeat (first | exact (Kd.C_below HR1_2.out (by repeat (first | (with_reducible first | exact HB.out | apply below_alloc | apply pw_below_drewN | apply below_drew1 | refine below_set ?_ GE197.out | refine below_set ?_ GE198.out) | exact HB.out))) | (with_reducible refine Kd.C_alloc ?_ _) | (with_reducible refine Kd.C_drewN ?_ _) | (with_reducible refine Kd.C_drew ?_))); (case side4 => exact HC1_2.out); rintro e w' ⟨rfl, ⟨nd, rfl⟩⟩) | (go_at_call 19; (with_reducible refine (hypercuberef1_Ints.calls k _ _ l0_3 _ _ l1_3 false _ ?side1 ?side2 ?side3 ?side4 A8.out).mono ?_); (case side1 => repeat (first | exact (Kd.C_below HR0_3.out (by repeat (first | (with_reducible first | exact HB.out | apply below_alloc | apply pw_below_drewN | apply below_drew1 | refine below_set ?_ GE197.out | refine below_set ?_ GE198.out) | exact HB.out))) | (with_reducible refine Kd.C_alloc ?_ _) | (with_reducible refine Kd.C_drewN ?_ _) | (with_reducible refine Kd.C_drew ?_))); (case side2 => exact HC0_3.out); (case side3 => repeat (first | exact (Kd.C_below HR1_3.out (by repeat (first | (with_reducible first | exact HB.out | apply below_alloc | apply pw_below_drewN | apply below_drew1 | refine below_set ?_ GE197.out | refine below_set ?_ GE198.out) | exact HB.out))) | (with_reducible refine Kd.C_alloc ?_ _) | (with_reducible refine Kd.C_drewN ?_ _) | (with_reducible refine Kd.C_drew ?_))); (case side4 => exact HC1_3.out); rintro e w' ⟨rfl, ⟨nd, rfl⟩⟩))
     go_ret
     exact ⟨by first | rfl | (simp [errW_none, errW_some] <;> rfl) | (simp [*, errW_none, errW_some] <;> rfl), by repeat (first | (with_reducible first | exact HB.out | apply below_alloc | apply pw_below_drewN | apply below_drew1 | refine below_set ?_ GE197.out | refine below_set ?_ GE198.out) | exact HB.out)⟩
   ·replace c7 := Bool.eq_false_iff.mpr c7
    subst c7
    have H1 : (some false) = some r := by rw [if_neg (show ¬ (false = true) by decide)] at H; exact H
    clear H
    have H := H1
    clear H1
    obtain rfl := Option.some.inj H
    go_enter Try.func22, Try.ntmps22
    go_wp2_with (first | ((with_reducible refine gate_dst (N := 2) rfl ?_); refine box_event ?hg (N := 2) ?hd (cs := #[.slice A0_0 l0_0.length c0_0, .int .i64 a0_1, .slice A0_2 l0_2.length c0_2, .slice A0_3 l0_3.length c0_3, .slice A0_4 l0_4.length c0_4]) (t := 30) ?hr ?_; (case hd => rfl); (case hg => rfl); (case hr => first | (go_simp; done) | (go_simp; rfl)); intro gb197 hg w21 hbox hb; have n0_ := am (below_step (by repeat (first | (with_reducible first | exact HB.out | apply below_alloc | apply pw_below_drewN | apply below_drew1) | exact HB.out)) hb); have n1_ := am (hbox); have n2_ := am ((by rw [hg]; exact (below_size (by repeat (first | (with_reducible first | exact HB.out | apply below_alloc | apply pw_below_drewN | apply below_drew1) | exact HB.out))) : w.heap.size ≤ gb197)); have n3_ := am ((by rw [hg]; exact (below_size (by repeat (first | (with_reducible first | exact HB.out | apply below_alloc | apply pw_below_drewN | apply below_drew1) | exact HB.out))) : w.heap.size ≤ gb197)); clear HB; have HB := n0_; have BK197 := n1_; have GW197 := n2_; have GE197 := n3_; clear n0_ n1_ n2_ n3_; clear hb hbox hg) | ((with_reducible refine gate_dst (N := 3) rfl ?_); refine box_event ?hg (N := 3) ?hd (cs := #[.slice A1_0 l1_0.length c1_0, .int .i64 a1_1, .slice A1_2 l1_2.length c1_2, .slice A1_3 l1_3.length c1_3, .slice A1_4 l1_4.length c1_4]) (t := 30) ?hr ?_; (case hd => rfl); (case hg => rfl); (case hr => first | (go_simp; done) | (go_simp; rfl)); intro gb198 hg w22 hbox hb; have n0_ := am (blk_below (g := gb197) (o := .cells #[.slice A0_0 l0_0.length c0_0, .int .i64 a0_1, .slice A0_2 l0_2.length c0_2, .slice A0_3 l0_3.length c0_3, .slice A0_4 l0_4.length c0_4] 30 (0, 0)) (by (with_reducible repeat (first | refine blk_drewN ?_ _ | refine blk_drew ?_ | refine blk_alloc ?_ _)); exact BK197.out) hb); have n1_ := am (below_step (by repeat (first | (with_reducible first | exact HB.out | apply below_alloc | apply pw_below_drewN | apply below_drew1 | refine below_set ?_ GE197.out) | exact HB.out)) hb); have n2_ := am (hbox); have n3_ := am ((by rw [hg]; exact (below_size (by repeat (first | (with_reducible first | exact HB.out | apply below_alloc | apply pw_below_drewN | apply below_drew1 | refine below_set ?_ GE197.out) | exact HB.out))) : w.heap.size ≤ gb198)); have n4_ := am ((by rw [hg]; exact (below_size (by repeat (first | (with_reducible first | exact HB.out | apply below_alloc | apply pw_below_drewN | apply below_drew1 | refine below_set ?_ GE197.out) | exact HB.out))) : w.heap.size ≤ gb198)); have n5_ := am ((by rw [hg]; exact Nat.ne_of_lt (blk_lt (g := gb197) (o := .cells #[.slice A0_0 l0_0.length c0_0, .int .i64 a0_1, .slice A0_2 l0_2.length c0_2, .slice A0_3 l0_3.length c0_3, .slice A0_4 l0_4.length c0_4] 30 (0, 0)) (by (with_reducible repeat (first | refine blk_drewN ?_ _ | refine blk_drew ?_ | refine blk_alloc ?_ _)); exact BK197.out)) : gb197 ≠ gb198)); have n6_ := am ((by rw [hg]; exact Nat.ne_of_gt (blk_lt (g := gb197) (o := .cells #[.slice A0_0 l0_0.length c0_0, .int .i64 a0_1, .slice A0_2 l0_2.length c0_2, .slice A0_3 l0_3.length c0_3, .slice A0_4 l0_4.length c0_4] 30 (0, 0)) (by (with_reducible repeat (first | refine blk_drewN ?_ _ | refine blk_drew ?_ | refine blk_alloc ?_ _)); exact BK197.out)) : gb198 ≠ gb197)); clear BK197; clear HB; have BK197 := n0_; have HB := n1_; have BK198 := n2_; have GW198 := n3_; have GE198 := n4_; have NB197_198 := n5_; have NB198_197 := n6_; clear n0_ n1_ n2_ n3_ n4_ n5_ n6_; clear hb hbox hg; have hnb23 := NB197_198.out; have hnc23 := NB198_197.out; have hcz24_0 : w22.cell? ⟨gb197, 0, none⟩ = some (.slice A0_0 l0_0.length c0_0) := (blk_cell BK197.out 0).trans rfl; have hcz24_1 : w22.cell? ⟨gb197, 1, none⟩ = some (.int .i64 a0_1) := (blk_cell BK197.out 1).trans rfl; have hcz24_2 : w22.cell? ⟨gb197, 2, none⟩ = some (.slice A0_2 l0_2.length c0_2) := (blk_cell BK197.out 2).trans rfl; have hcz24_3 : w22.cell? ⟨gb197, 3, none⟩ = some (.slice A0_3 l0_3.length c0_3) := (blk_cell BK197.out 3).trans rfl; have hcz24_4 : w22.cell? ⟨gb197, 4, none⟩ = some (.slice A0_4 l0_4.length c0_4) := (blk_cell BK197.out 4).trans rfl; have hfz24_0 := blk_frozen BK197.out 0; have hfz24_1 := blk_frozen BK197.out 1; have hfz24_2 := blk_frozen BK197.out 2; have hfz24_3 := blk_frozen BK197.out 3; have hfz24_4 := blk_frozen BK197.out 4; have hcz25_0 : w22.cell? ⟨gb198, 0, none⟩ = some (.slice A1_0 l1_0.length c1_0) := (blk_cell BK198.out 0).trans rfl; have hcz25_1 : w22.cell? ⟨gb198, 1, none⟩ = some (.int .i64 a1_1) := (blk_cell BK198.out 1).trans rfl; have hcz25_2 : w22.cell? ⟨gb198, 2, none⟩ = some (.slice A1_2 l1_2.length c1_2) := (blk_cell BK198.out 2).trans rfl; have hcz25_3 : w22.cell? ⟨gb198, 3, none⟩ = some (.slice A1_3 l1_3.length c1_3) := (blk_cell BK198.out 3).trans rfl; have hcz25_4 : w22.cell? ⟨gb198, 4, none⟩ = some (.slice A1_4 l1_4.length c1_4) := (blk_cell BK198.out 4).trans rfl; have hfz25_0 := blk_frozen BK198.out 0; have hfz25_1 := blk_frozen BK198.out 1; have hfz25_2 := blk_frozen BK198.out 2; have hfz25_3 := blk_frozen BK198.out 3; have hfz25_4 := blk_frozen BK198.out 4) | (go_at_call 19; (with_reducible refine (hypercuberef1_Ints.calls k _ _ l0_0 _ _ l1_0 true _ ?side1 ?side2 ?side3 ?side4 A4.out).mono ?_); (case side1 => repeat (first | exact (Kd.C_below HR0_0.out HB.out) | (with_reducible refine Kd.C_alloc ?_ _) | (with_reducible refine Kd.C_drewN ?_ _) | (with_reducible refine Kd.C_drew ?_))); (case side2 => exact HC0_0.out); (case side3 => repeat (first | exact (Kd.C_below HR1_0.out HB.out) | (with_reducible refine Kd.C_alloc ?_ _) | (with_reducible refine Kd.C_drewN ?_ _) | (with_reducible refine Kd.C_drew ?_))); (case side4 => exact HC1_0.out); rintro e w' ⟨rfl, ⟨nd, rfl⟩⟩) | (go_at_call 19; (with_reducible refine (hypercuberef1_Ints.calls k _ _ l0_2 _ _ l1_2 false _ ?side1 ?side2 ?side3 ?side4 A6.out).mono ?_); (case side1 => repeat (first | exact (Kd.C_below HR0_2.out (by repeat (first | (with_reducible first | exact HB.out | apply below_alloc | apply pw_below_drewN | apply below_drew1 | refine below_set ?_ GE197.out | refine below_set ?_ GE198.out) | exact HB.out))) | (with_reducible refine Kd.C_alloc ?_ _) | (with_reducible refine Kd.C_drewN ?_ _) | (with_reducible refine Kd.C_drew ?_))); (case side2 => exact HC0_2.out); (case side3 => repeat (first | exact (Kd.C_below HR1_2.out (by repeat (first | (with_reducible first | exact HB.out | apply below_alloc | apply pw_below_drewN | apply below_drew1 | refine below_set ?_ GE197.out | refine below_set ?_ GE198.out) | exact HB.out))) | (with_reducible refine Kd.C_alloc ?_ _) | (with_reducible refine Kd.C_drewN ?_ _) | (with_reducible refine Kd.C_drew ?_))); (case side4 => exact HC1_2.out); rintro e w' ⟨rfl, ⟨nd, rfl⟩⟩))
    go_ret
    exact ⟨by first | rfl | (simp [errW_none, errW_some] <;> rfl) | (simp [*, errW_none, errW_some] <;> rfl), by repeat (first | (with_reducible first | exact HB.out | apply below_alloc | apply pw_below_drewN | apply below_drew1 | refine below_set ?_ GE197.out | refine below_set ?_ GE198.out) | exact HB.out)⟩
  ·replace c5 := Bool.eq_false_iff.mpr c5
   subst c5
   have H1 : (some false) = some r := by rw [if_neg (show ¬ (false = true) by decide)] at H; exact H
   clear H
   have H := H1
   clear H1
   obtain rfl := Option.some.inj H
   go_enter Try.func22, Try.ntmps22
   go_wp2_with (first | ((with_reducible refine gate_dst (N := 2) rfl ?_); refine box_event ?hg (N := 2) ?hd (cs := #[.slice A0_0 l0_0.length c0_0, .int .i64 a0_1, .slice A0_2 l0_2.length c0_2, .slice A0_3 l0_3.length c0_3, .slice A0_4 l0_4.length c0_4]) (t := 30) ?hr ?_; (case hd => rfl); (case hg => rfl); (case hr => first | (go_simp; done) | (go_simp; rfl)); intro gb197 hg w26 hbox hb; have n0_ := am (below_step (by repeat (first | (with_reducible first | exact HB.out | apply below_alloc | apply pw_below_drewN | apply below_drew1) | exact HB.out)) hb); have n1_ := am (hbox); have n2_ := am ((by rw [hg]; exact (below_size (by repeat (first | (with_reducible first | exact HB.out | apply below_alloc | apply pw_below_drewN | apply below_drew1) | exact HB.out))) : w.heap.size ≤ gb197)); have n3_ := am ((by rw [hg]; exact (below_size (by repeat (first | (with_reducible first | exact HB.out | apply below_alloc | apply pw_below_drewN | apply below_drew1) | exact HB.out))) : w.heap.size ≤ gb197)); clear HB; have HB := n0_; have BK197 := n1_; have GW197 := n2_; have GE197 := n3_; clear n0_ n1_ n2_ n3_; clear hb hbox hg) | ((with_reducible refine gate_dst (N := 3) rfl ?_); refine box_event ?hg (N := 3) ?hd (cs := #[.slice A1_0 l1_0.length c1_0, .int .i64 a1_1, .slice A1_2 l1_2.length c1_2, .slice A1_3 l1_3.length c1_3, .slice A1_4 l1_4.length c1_4]) (t := 30) ?hr ?_; (case hd => rfl); (case hg => rfl); (case hr => first | (go_simp; done) | (go_simp; rfl)); intro gb198 hg w27 hbox hb; have n0_ := am (blk_below (g := gb197) (o := .cells #[.slice A0_0 l0_0.length c0_0, .int .i64 a0_1, .slice A0_2 l0_2.length c0_2, .slice A0_3 l0_3.length c0_3, .slice A0_4 l0_4.length c0_4] 30 (0, 0)) (by (with_reducible repeat (first | refine blk_drewN ?_ _ | refine blk_drew ?_ | refine blk_alloc ?_ _)); exact BK197.out) hb); have n1_ := am (below_step (by repeat (first | (with_reducible first | exact HB.out | apply below_alloc | apply pw_below_drewN | apply below_drew1 | refine below_set ?_ GE197.out) | exact HB.out)) hb); have n2_ := am (hbox); have n3_ := am ((by rw [hg]; exact (below_size (by repeat (first | (with_reducible first | exact HB.out | apply below_alloc | apply pw_below_drewN | apply below_drew1 | refine below_set ?_ GE197.out) | exact HB.out))) : w.heap.size ≤ gb198)); have n4_ := am ((by rw [hg]; exact (below_size (by repeat (first | (with_reducible first | exact HB.out | apply below_alloc | apply pw_below_drewN | apply below_drew1 | refine below_set ?_ GE197.out) | exact HB.out))) : w.heap.size ≤ gb198)); have n5_ := am ((by rw [hg]; exact Nat.ne_of_lt (blk_lt (g := gb197) (o := .cells #[.slice A0_0 l0_0.length c0_0, .int .i64 a0_1, .slice A0_2 l0_2.length c0_2, .slice A0_3 l0_3.length c0_3, .slice A0_4 l0_4.length c0_4] 30 (0, 0)) (by (with_reducible repeat (first | refine blk_drewN ?_ _ | refine blk_drew ?_ | refine blk_alloc ?_ _)); exact BK197.out)) : gb197 ≠ gb198)); have n6_ := am ((by rw [hg]; exact Nat.ne_of_gt (blk_lt (g := gb197) (o := .cells #[.slice A0_0 l0_0.length c0_0, .int .i64 a0_1, .slice A0_2 l0_2.length c0_2, .slice A0_3 l0_3.length c0_3, .slice A0_4 l0_4.length c0_4] 30 (0, 0)) (by (with_reducible repeat (first | refine blk_drewN ?_ _ | refine blk_drew ?_ | refine blk_alloc ?_ _)); exact BK197.out)) : gb198 ≠ gb197)); clear BK197; clear HB; have BK197 := n0_; have HB := n1_; have BK198 := n2_; have GW198 := n3_; have GE198 := n4_; have NB197_198 := n5_; have NB198_197 := n6_; clear n0_ n1_ n2_ n3_ n4_ n5_ n6_; clear hb hbox hg; have hnb28 := NB197_198.out; have hnc28 := NB198_197.out; have hcz29_0 : w27.cell? ⟨gb197, 0, none⟩ = some (.slice A0_0 l0_0.length c0_0) := (blk_cell BK197.out 0).trans rfl; have hcz29_1 : w27.cell? ⟨gb197, 1, none⟩ = some (.int .i64 a0_1) := (blk_cell BK197.out 1).trans rfl; have hcz29_2 : w27.cell? ⟨gb197, 2, none⟩ = some (.slice A0_2 l0_2.length c0_2) := (blk_cell BK197.out 2).trans rfl; have hcz29_3 : w27.cell? ⟨gb197, 3, none⟩ = some (.slice A0_3 l0_3.length c0_3) := (blk_cell BK197.out 3).trans rfl; have hcz29_4 : w27.cell? ⟨gb197, 4, none⟩ = some (.slice A0_4 l0_4.length c0_4) := (blk_cell BK197.out 4).trans rfl; have hfz29_0 := blk_frozen BK197.out 0; have hfz29_1 := blk_frozen BK197.out 1; have hfz29_2 := blk_frozen BK197.out 2; have hfz29_3 := blk_frozen BK197.out 3; have hfz29_4 := blk_frozen BK197.out 4; have hcz30_0 : w27.cell? ⟨gb198, 0, none⟩ = some (.slice A1_0 l1_0.length c1_0) := (blk_cell BK198.out 0).trans rfl; have hcz30_1 : w27.cell? ⟨gb198, 1, none⟩ = some (.int .i64 a1_1) := (blk_cell BK198.out 1).trans rfl; have hcz30_2 : w27.cell? ⟨gb198, 2, none⟩ = some (.slice A1_2 l1_2.length c1_2) := (blk_cell BK198.out 2).trans rfl; have hcz30_3 : w27.cell? ⟨gb198, 3, none⟩ = some (.slice A1_3 l1_3.length c1_3) := (blk_cell BK198.out 3).trans rfl; have hcz30_4 : w27.cell? ⟨gb198, 4, none⟩ = some (.slice A1_4 l1_4.length c1_4) := (blk_cell BK198.out 4).trans rfl; have hfz30_0 := blk_frozen BK198.out 0; have hfz30_1 := blk_frozen BK198.out 1; have hfz30_2 := blk_frozen BK198.out 2; have hfz30_3 := blk_frozen BK198.out 3; have hfz30_4 := blk_frozen BK198.out 4) | (go_at_call 19; (with_reducible refine (hypercuberef1_Ints.calls k _ _ l0_0 _ _ l1_0 false _ ?side1 ?side2 ?side3 ?side4 A4.out).mono ?_); (case side1 => repeat (first | exact (Kd.C_below HR0_0.out HB.out) | (with_reducible refine Kd.C_alloc ?_ _) | (with_reducible refine Kd.C_drewN ?_ _) | (with_reducible refine Kd.C_drew ?_))); (case side2 => exact HC0_0.out); (case side3 => repeat (first | exact (Kd.C_below HR1_0.out HB.out) | (with_reducible refine Kd.C_alloc ?_ _) | (with_reducible refine Kd.C_drewN ?_ _) | (with_reducible refine Kd.C_drew ?_))); (case side4 => exact HC1_0.out); rintro e w' ⟨rfl, ⟨nd, rfl⟩⟩))
   go_ret
   exact ⟨by first | rfl | (simp [errW_none, errW_some] <;> rfl) | (simp [*, errW_none, errW_some] <;> rfl), by repeat (first | (with_reducible first | exact HB.out | apply below_alloc | apply pw_below_drewN | apply below_drew1 | refine below_set ?_ GE197.out | refine below_set ?_ GE198.out) | exact HB.out)⟩
 ·rw [if_neg c3] at H
  have c3b0 : (a0_1 == a1_1) = false := beq_eq_false_iff_ne.mpr c3
  have c3b1 : (a0_1 != a1_1) = true := bne_iff_ne.mpr c3
  obtain rfl := Option.some.inj H
  go_enter Try.func22, Try.ntmps22
  go_wp2_with (first | ((with_reducible refine gate_dst (N := 2) rfl ?_); refine box_event ?hg (N := 2) ?hd (cs := #[.slice A0_0 l0_0.length c0_0, .int .i64 a0_1, .slice A0_2 l0_2.length c0_2, .slice A0_3 l0_3.length c0_3, .slice A0_4 l0_4.length c0_4]) (t := 30) ?hr ?_; (case hd => rfl); (case hg => rfl); (case hr => first | (go_simp; done) | (go_simp; rfl)); intro gb197 hg w31 hbox hb; have n0_ := am (below_step (by repeat (first | (with_reducible first | exact HB.out | apply below_alloc | apply pw_below_drewN | apply below_drew1) | exact HB.out)) hb); have n1_ := am (hbox); have n2_ := am ((by rw [hg]; exact (below_size (by repeat (first | (with_reducible first | exact HB.out | apply below_alloc | apply pw_below_drewN | apply below_drew1) | exact HB.out))) : w.heap.size ≤ gb197)); have n3_ := am ((by rw [hg]; exact (below_size (by repeat (first | (with_reducible first | exact HB.out | apply below_alloc | apply pw_below_drewN | apply below_drew1) | exact HB.out))) : w.heap.size ≤ gb197)); clear HB; have HB := n0_; have BK197 := n1_; have GW197 := n2_; have GE197 := n3_; clear n0_ n1_ n2_ n3_; clear hb hbox hg) | ((with_reducible refine gate_dst (N := 3) rfl ?_); refine box_event ?hg (N := 3) ?hd (cs := #[.slice A1_0 l1_0.length c1_0, .int .i64 a1_1, .slice A1_2 l1_2.length c1_2, .slice A1_3 l1_3.length c1_3, .slice A1_4 l1_4.length c1_4]) (t := 30) ?hr ?_; (case hd => rfl); (case hg => rfl); (case hr => first | (go_simp; done) | (go_simp; rfl)); intro gb198 hg w32 hbox hb; have n0_ := am (blk_below (g := gb197) (o := .cells #[.slice A0_0 l0_0.length c0_0, .int .i64 a0_1, .slice A0_2 l0_2.length c0_2, .slice A0_3 l0_3.length c0_3, .slice A0_4 l0_4.length c0_4] 30 (0, 0)) (by (with_reducible repeat (first | refine blk_drewN ?_ _ | refine blk_drew ?_ | refine blk_alloc ?_ _)); exact BK197.out) hb); have n1_ := am (below_step (by repeat (first | (with_reducible first | exact HB.out | apply below_alloc | apply pw_below_drewN | apply below_drew1 | refine below_set ?_ GE197.out) | exact HB.out)) hb); have n2_ := am (hbox); have n3_ := am ((by rw [hg]; exact (below_size (by repeat (first | (with_reducible first | exact HB.out | apply below_alloc | apply pw_below_drewN | apply below_drew1 | refine below_set ?_ GE197.out) | exact HB.out))) : w.heap.size ≤ gb198)); have n4_ := am ((by rw [hg]; exact (below_size (by repeat (first | (with_reducible first | exact HB.out | apply below_alloc | apply pw_below_drewN | apply below_drew1 | refine below_set ?_ GE197.out) | exact HB.out))) : w.heap.size ≤ gb198)); have n5_ := am ((by rw [hg]; exact Nat.ne_of_lt (blk_lt (g := gb197) (o := .cells #[.slice A0_0 l0_0.length c0_0, .int .i64 a0_1, .slice A0_2 l0_2.length c0_2, .slice A0_3 l0_3.length c0_3, .slice A0_4 l0_4.length c0_4] 30 (0, 0)) (by (with_reducible repeat (first | refine blk_drewN ?_ _ | refine blk_drew ?_ | refine blk_alloc ?_ _)); exact BK197.out)) : gb197 ≠ gb198)); have n6_ := am ((by rw [hg]; exact Nat.ne_of_gt (blk_lt (g := gb197) (o := .cells #[.slice A0_0 l0_0.length c0_0, .int .i64 a0_1, .slice A0_2 l0_2.length c0_2, .slice A0_3 l0_3.length c0_3, .slice A0_4 l0_4.length c0_4] 30 (0, 0)) (by (with_reducible repeat (first | refine blk_drewN ?_ _ | refine blk_drew ?_ | refine blk_alloc ?_ _)); exact BK197.out)) : gb198 ≠ gb197)); clear BK197; clear HB; have BK197 := n0_; have HB := n1_; have BK198 := n2_; have GW198 := n3_; have GE198 := n4_; have NB197_198 := n5_; have NB198_197 := n6_; clear n0_ n1_ n2_ n3_ n4_ n5_ n6_; clear hb hbox hg; have hnb33 := NB197_198.out; have hnc33 := NB198_197.out; have hcz34_0 : w32.cell? ⟨gb197, 0, none⟩ = some (.slice A0_0 l0_0.length c0_0) := (blk_cell BK197.out 0).trans rfl; have hcz34_1 : w32.cell? ⟨gb197, 1, none⟩ = some (.int .i64 a0_1) := (blk_cell BK197.out 1).trans rfl; have hcz34_2 : w32.cell? ⟨gb197, 2, none⟩ = some (.slice A0_2 l0_2.length c0_2) := (blk_cell BK197.out 2).trans rfl; have hcz34_3 : w32.cell? ⟨gb197, 3, none⟩ = some (.slice A0_3 l0_3.length c0_3) := (blk_cell BK197.out 3).trans rfl; have hcz34_4 : w32.cell? ⟨gb197, 4, none⟩ = some (.slice A0_4 l0_4.length c0_4) := (blk_cell BK197.out 4).trans rfl; have hfz34_0 := blk_frozen BK197.out 0; have hfz34_1 := blk_frozen BK197.out 1; have hfz34_2 := blk_frozen BK197.out 2; have hfz34_3 := blk_frozen BK197.out 3; have hfz34_4 := blk_frozen BK197.out 4; have hcz35_0 : w32.cell? ⟨gb198, 0, none⟩ = some (.slice A1_0 l1_0.length c1_0) := (blk_cell BK198.out 0).trans rfl; have hcz35_1 : w32.cell? ⟨gb198, 1, none⟩ = some (.int .i64 a1_1) := (blk_cell BK198.out 1).trans rfl; have hcz35_2 : w32.cell? ⟨gb198, 2, none⟩ = some (.slice A1_2 l1_2.length c1_2) := (blk_cell BK198.out 2).trans rfl; have hcz35_3 : w32.cell? ⟨gb198, 3, none⟩ = some (.slice A1_3 l1_3.length c1_3) := (blk_cell BK198.out 3).trans rfl; have hcz35_4 : w32.cell? ⟨gb198, 4, none⟩ = some (.slice A1_4 l1_4.length c1_4) := (blk_cell BK198.out 4).trans rfl; have hfz35_0 := blk_frozen BK198.out 0; have hfz35_1 := blk_frozen BK198.out 1; have hfz35_2 := blk_frozen BK198.out 2; have hfz35_3 := blk_frozen BK198.out 3; have hfz35_4 := blk_frozen BK198.out 4))
  go_ret
  exact ⟨by first | rfl | (simp [errW_none, errW_some] <;> rfl) | (simp [*, errW_none, errW_some] <;> rfl), by repeat (first | (with_reducible first | exact HB.out | apply below_alloc | apply pw_below_drewN | apply below_drew1 | refine below_set ?_ GE197.out | refine below_set ?_ GE198.out) | exact HB.out)⟩
def hypercuberef2_Of.l0 : Nat → Int → Int → List Int → List Int → List Int → Int → Option (List Int × Int × List Int × List Int × List Int)
 | 0, _, _, _, _, _, _ => none
 | k + 1, x1, x6, x359000, x359001, x361000, x361001 => if x6 < (x359000.length : Int) then (if 0 ≤ (IntKind.u64.wrap (x6)) then (if (Go.bits .and .i64 (shr .i64 x1 (IntKind.u64.wrap (x6))) 1) = 1 then (if 0 ≤ x6 then (if x361000.length < 17592186044416 then (hypercuberef2_Of.l0 k x1 (wrap64 (x6 + 1)) x359000 x359001 (x361000 ++ [rd x359000 x6]) x361001) else (none)) else (none)) else (hypercuberef2_Of.l0 k x1 (wrap64 (x6 + 1)) x359000 x359001 x361000 x361001)) else (none)) else ((some (([] : List Int) : List Int)).bind fun y365 => (if y365.length + x359001.length < 17592186044416 then ((some (([] : List Int) : List Int)).bind fun y371 => (if y371.length + x359001.length < 17592186044416 then ((some (([] : List Int) : List Int)).bind fun y377 => (if y377.length + x359001.length < 17592186044416 then (some (x361000, x361001, (y365 ++ x359001), (y371 ++ x359001), (y377 ++ x359001))) else (none))) else (none))) else (none)))
def hypercuberef2_Of.f (k : Nat) (l0_0 : List Int) (l0_1 : List Int) (a1 : Int) : Option (List Int × Int × List Int × List Int × List Int) := hypercuberef2_Of.l0 k a1 0 l0_0 l0_1 ([] : List Int) 1
def hypercuberef2_Of.T6 : Bool × List (List Nat × List Nat) := (true, [([], []), ([0], [0]), ([], []), ([2], [2]), ([], []), ([3, 4], [3, 4]), ([5], [5]), ([6], [6]), ([1, 7], [1, 7]), ([0, 1, 2, 3, 4, 5, 6, 7, 8], []), ([9, 8, 8, 0, 1, 2, 3, 4, 5, 6, 7, 8], [8, 9])])
def hypercuberef2_Of.B6 : List Nat := [0, 1, 0, 4, 0, 28, 60, 124, 255, 511, 1023]
theorem hypercuberef2_Of.tab6 : rtab .any (opsOf Try.f30 6) = hypercuberef2_Of.T6 := by kernel_rfl
theorem hypercuberef2_Of.bits6 : waitsOk hypercuberef2_Of.T6.2 hypercuberef2_Of.B6 = true := by kernel_rfl
set_option maxHeartbeats 8000000 in
set_option maxRecDepth 100000 in
theorem hypercuberef2_Of.calls (k : Nat) (A0_0 : Option Addr) (c0_0 : Nat) (l0_0 : List Int) (A0_1 : Option Addr) (c0_1 : Nat) (l0_1 : List Int) (a1 : Int) (r1 : List Int) (r2 : Int) (r3 : List Int) (r4 : List Int) (r5 : List Int) (w : World) (hr0_0 : Kd.C (Kd.int .i64) w A0_0 l0_0.length l0_0) (hc0_0 : l0_0.length ≤ c0_0) (hr0_1 : Kd.C (Kd.int .i64) w A0_1 l0_1.length l0_1) (hc0_1 : l0_1.length ≤ c0_1) (h : hypercuberef2_Of.f k l0_0 l0_1 a1 = some (r1, r2, r3, r4, r5)) :
  Calls Try.prog 30 #[.agg #[.slice A0_0 l0_0.length c0_0, .slice A0_1 l0_1.length c0_1], .int .i64 a1] w fun e w' => ∃ v0_ v2_ v3_ v4_ : Value, e = .returned (.agg #[v0_, .int .i64 r2, v2_, v3_, v4_]) ∧ Kd.R (Kd.int .i64) 3 w' w.heap.size (fun k_ => some k_ ≠ (v2_ : Value).ownBlock ∧ some k_ ≠ (v3_ : Value).ownBlock ∧ some k_ ≠ (v4_ : Value).ownBlock) v0_ r1 ∧ Kd.R (Kd.int .i64) 3 w' w.heap.size (fun k_ => some k_ ≠ (v0_ : Value).ownBlock ∧ some k_ ≠ (v3_ : Value).ownBlock ∧ some k_ ≠ (v4_ : Value).ownBlock) v2_ r3 ∧ Kd.R (Kd.int .i64) 3 w' w.heap.size (fun k_ => some k_ ≠ (v0_ : Value).ownBlock ∧ some k_ ≠ (v2_ : Value).ownBlock ∧ some k_ ≠ (v4_ : Value).ownBlock) v3_ r4 ∧ Kd.R (Kd.int .i64) 3 w' w.heap.size (fun k_ => some k_ ≠ (v0_ : Value).ownBlock ∧ some k_ ≠ (v2_ : Value).ownBlock ∧ some k_ ≠ (v3_ : Value).ownBlock) v4_ r5 ∧ Below w.heap.size w w' := by
 have hu45 := Try.underlying45
 have hu30 := Try.underlying30
 have HR0_0 := am hr0_0
 have HC0_0 := am hc0_0
 clear hr0_0 hc0_0
 have HR0_1 := am hr0_1
 have HC0_1 := am hc0_1
 clear hr0_1 hc0_1
 have HB := am (Below.refl w.heap.size w)
 have H : (hypercuberef2_Of.l0 k a1 0 l0_0 l0_1 ([] : List Int) 1) = some (r1, r2, r3, r4, r5) := h
 clear h
 have H' := am H
 clear H
 go_enter Try.func30, Try.ntmps30
 go_wp2_with (first | ((with_reducible refine gate_dst (N := 2) rfl ?_); refine box_event ?hg (N := 2) ?hd (cs := #[.slice A0_0 l0_0.length c0_0, .slice A0_1 l0_1.length c0_1]) (t := 45) ?hr ?_; (case hd => rfl); (case hg => rfl); (case hr => first | (go_simp; done) | (go_simp; rfl)); intro gb358 hg w3 hbox hb; have n0_ := am (below_step (wmv HB.out) hb); have n1_ := am (hbox); have n2_ := am ((by rw [hg]; exact (below_size (wmv HB.out)) : w.heap.size ≤ gb358)); have n3_ := am ((by rw [hg]; exact (below_size (wmv HB.out)) : w.heap.size ≤ gb358)); clear HB; revert n0_ n1_ n2_ n3_; intro HB BK358 GW358 GE358; clear hb hbox hg) | ((with_reducible refine gate_dst (N := 4) rfl ?_); refine box_event ?hg (N := 4) ?hd (cs := #[.slice none 0 0, .int .i64 0, .slice none 0 0, .slice none 0 0, .slice none 0 0]) (t := 30) ?hr ?_; (case hd => rfl); (case hg => rfl); (case hr => first | (go_simp; done) | (go_simp; rfl)); intro gb359 hg w4 hbox hb; have n0_ := am (blk_below (bmv BK358.out) hb); have n1_ := am (below_step (wmv HB.out) hb); have n2_ := am (hbox); have n3_ := am ((by rw [hg]; exact (below_size (wmv HB.out)) : w.heap.size ≤ gb359)); have n4_ := am ((by rw [hg]; exact (below_size (wmv HB.out)) : w.heap.size ≤ gb359)); have n5_ := am ((by rw [hg]; exact Nat.ne_of_lt (blk_lt (bmv BK358.out)) : gb358 ≠ gb359)); have n6_ := am ((by rw [hg]; exact Nat.ne_of_gt (blk_lt (bmv BK358.out)) : gb359 ≠ gb358)); clear BK358 HB; revert n0_ n1_ n2_ n3_ n4_ n5_ n6_; intro BK358 HB BK359 GW359 GE359 NB358_359 NB359_358; clear hb hbox hg) | ((with_reducible refine gate_dst (N := 5) rfl ?_); refine box_event ?hg (N := 5) ?hd (cs := #[.slice none 0 0, .int .i64 0, .slice none 0 0, .slice none 0 0, .slice none 0 0]) (t := 30) ?hr ?_; (case hd => rfl); (case hg => rfl); (case hr => first | (go_simp; done) | (go_simp; rfl)); intro gb360 hg w5 hbox hb; have n0_ := am (blk_below (bmv BK358.out) hb); have n1_ := am (blk_below (bmv BK359.out) hb); have n2_ := am (below_step (wmv HB.out) hb); have n3_ := am (hbox); have n4_ := am ((by rw [hg]; exact (below_size (wmv HB.out)) : w.heap.size ≤ gb360)); have n5_ := am ((by rw [hg]; exact (below_size (wmv HB.out)) : w.heap.size ≤ gb360)); have n6_ := am ((by rw [hg]; exact Nat.ne_of_lt (blk_lt (bmv BK358.out)) : gb358 ≠ gb360)); have n7_ := am ((by rw [hg]; exact Nat.ne_of_gt (blk_lt (bmv BK358.out)) : gb360 ≠ gb358)); have n8_ := am ((by rw [hg]; exact Nat.ne_of_lt (blk_lt (bmv BK359.out)) : gb359 ≠ gb360)); have n9_ := am ((by rw [hg]; exact Nat.ne_of_gt (blk_lt (bmv BK359.out)) : gb360 ≠ gb359)); clear BK358 BK359 HB; revert n0_ n1_ n2_ n3_ n4_ n5_ n6_ n7_ n8_ n9_; intro BK358 BK359 HB BK360 GW360 GE360 NB358_360 NB360_358 NB359_360 NB360_359; clear hb hbox hg; have hnb6 := NB360_358.out; have hnc6 := NB358_360.out; have hnb7 := NB360_359.out; have hnc7 := NB359_360.out; have hcz8_0 : w5.cell? ⟨gb360, 0, none⟩ = some (.slice none 0 0) := (blk_cell BK360.out 0).trans rfl; have hcz8_1 : w5.cell? ⟨gb360, 1, none⟩ = some (.int .i64 0) := (blk_cell BK360.out 1).trans rfl; have hcz8_2 : w5.cell? ⟨gb360, 2, none⟩ = some (.slice none 0 0) := (blk_cell BK360.out 2).trans rfl; have hcz8_3 : w5.cell? ⟨gb360, 3, none⟩ = some (.slice none 0 0) := (blk_cell BK360.out 3).trans rfl; have hcz8_4 : w5.cell? ⟨gb360, 4, none⟩ = some (.slice none 0 0) := (blk_cell BK360.out 4).trans rfl; have hfz8_0 := blk_frozen BK360.out 0; have hfz8_1 := blk_frozen BK360.out 1; have hfz8_2 := blk_frozen BK360.out 2; have hfz8_3 := blk_frozen BK360.out 3; have hfz8_4 := blk_frozen BK360.out 4))
 go_loopg [6] k (fun kq v6 w' => ∃ (x6_1 : Int) (x361000_1 : List Int) (u361000 : Value), v6 = .int .i64 x6_1 ∧ Aside0 (hypercuberef2_Of.l0 kq a1 x6_1 l0_0 l0_1 x361000_1 1 = some (r1, r2, r3, r4, r5)) ∧ Aside0 (kq ≤ k) ∧ Aside0 (Kd.R (Kd.int .i64) 3 w' w.heap.size (fun _ => True) u361000 x361000_1) ∧ Aside0 (w'.heap[gb358]? = some (.cells #[(.slice A0_0 l0_0.length c0_0), (.slice A0_1 l0_1.length c0_1)] 45 (0, 0))) ∧ Aside0 (w'.heap[gb359]? = some (.cells #[(.slice none 0 0), .int .i64 0, (.slice none 0 0), (.slice none 0 0), (.slice none 0 0)] 30 (0, 0))) ∧ Aside0 (w'.heap[gb360]? = some (.cells #[u361000, .int .i64 1, (.slice none 0 0), (.slice none 0 0), (.slice none 0 0)] 30 (0, 0))) ∧ Aside0 (Below w.heap.size w w'))
 case atStart => exact ⟨(0), (([] : List Int)), (.slice none 0 0), (by first | rfl | (simp; done) | (simp [*]; done)), H', ⟨Nat.le_refl _⟩, ⟨by first | exact Kd.R_nil _ _ _ _ _ | exact Kd.N_nil _ _ _ _ _ | exact Kd.V_nil _ _ _ _ _ | exact Kd.Q_nil _ _ _ _ _ | exact Kd.S_nil _ _ _ _ _⟩, ⟨by (with_reducible repeat (first | refine blk_drewN ?_ _ | refine blk_drew ?_ | refine blk_alloc ?_ _)); refine blk_far ?_ NB358_360.out _; (with_reducible repeat (first | refine blk_drewN ?_ _ | refine blk_drew ?_ | refine blk_alloc ?_ _)); refine blk_far ?_ NB358_360.out _; (with_reducible repeat (first | refine blk_drewN ?_ _ | refine blk_drew ?_ | refine blk_alloc ?_ _)); refine blk_far ?_ NB358_360.out _; (with_reducible repeat (first | refine blk_drewN ?_ _ | refine blk_drew ?_ | refine blk_alloc ?_ _)); refine blk_far ?_ NB358_360.out _; (with_reducible repeat (first | refine blk_drewN ?_ _ | refine blk_drew ?_ | refine blk_alloc ?_ _)); refine blk_far ?_ NB358_360.out _; (with_reducible repeat (first | refine blk_drewN ?_ _ | refine blk_drew ?_ | refine blk_alloc ?_ _)); exact BK358.out⟩, ⟨by (with_reducible repeat (first | refine blk_drewN ?_ _ | refine blk_drew ?_ | refine blk_alloc ?_ _)); refine blk_far ?_ NB359_360.out _; (with_reducible repeat (first | refine blk_drewN ?_ _ | refine blk_drew ?_ | refine blk_alloc ?_ _)); refine blk_far ?_ NB359_360.out _; (with_reducible repeat (first | refine blk_drewN ?_ _ | refine blk_drew ?_ | refine blk_alloc ?_ _)); refine blk_far ?_ NB359_360.out _; (with_reducible repeat (first | refine blk_drewN ?_ _ | refine blk_drew ?_ | refine blk_alloc ?_ _)); refine blk_far ?_ NB359_360.out _; (with_reducible repeat (first | refine blk_drewN ?_ _ | refine blk_drew ?_ | refine blk_alloc ?_ _)); refine blk_far ?_ NB359_360.out _; (with_reducible repeat (first | refine blk_drewN ?_ _ | refine blk_drew ?_ | refine blk_alloc ?_ _)); exact BK359.out⟩, ⟨by (with_reducible repeat (first | refine blk_drewN ?_ _ | refine blk_drew ?_ | refine blk_alloc ?_ _)); refine blk_put (cs := #[.slice none 0 0, .int .i64 1, .slice none 0 0, .slice none 0 0, .slice none 0 0]) ?_ 4 _ rfl; (with_reducible repeat (first | refine blk_drewN ?_ _ | refine blk_drew ?_ | refine blk_alloc ?_ _)); refine blk_put (cs := #[.slice none 0 0, .int .i64 1, .slice none 0 0, .slice none 0 0, .slice none 0 0]) ?_ 3 _ rfl; (with_reducible repeat (first | refine blk_drewN ?_ _ | refine blk_drew ?_ | refine blk_alloc ?_ _)); refine blk_put (cs := #[.slice none 0 0, .int .i64 1, .slice none 0 0, .slice none 0 0, .slice none 0 0]) ?_ 2 _ rfl; (with_reducible repeat (first | refine blk_drewN ?_ _ | refine blk_drew ?_ | refine blk_alloc ?_ _)); refine blk_put (cs := #[.slice none 0 0, .int .i64 0, .slice none 0 0, .slice none 0 0, .slice none 0 0]) ?_ 1 _ rfl; (with_reducible repeat (first | refine blk_drewN ?_ _ | refine blk_drew ?_ | refine blk_alloc ?_ _)); refine blk_put (cs := #[.slice none 0 0, .int .i64 0, .slice none 0 0, .slice none 0 0, .slice none 0 0]) ?_ 0 _ rfl; (with_reducible repeat (first | refine blk_drewN ?_ _ | refine blk_drew ?_ | refine blk_alloc ?_ _)); exact BK360.out⟩, ⟨by repeat (first | (with_reducible first | exact HB.out | apply below_alloc | apply pw_below_drewN | apply below_drew1 | refine below_set ?_ GE358.out | refine below_set ?_ GE359.out | refine below_set ?_ GE360.out) | exact HB.out)⟩⟩
 case round =>
  clear H'
  try clear p2
  try clear c3
  try clear c6
  try clear c7
  try clear hcz8_0
  try clear hcz8_1
  try clear hcz8_2
  try clear hcz8_3
  try clear hcz8_4
  try clear hfz8_0
  try clear hfz8_1
  try clear hfz8_2
  try clear hfz8_3
  try clear hfz8_4
  obtain ⟨x6_1, x361000_1, u361000, rfl, HA, HK1, HO_361000, BK358, BK359, BK360, HB⟩ := hrel
  cases gk with
  | zero => exact absurd HA.out (by simp [hypercuberef2_Of.l0])
  | succ k1 =>
   have H := HA.out
   clear HA
   simp only [hypercuberef2_Of.l0] at H
   by_cases c9 : x6_1 < (l0_0.length : Int)
   ·rw [if_pos c9] at H
    have c9b0 : decide (x6_1 < (l0_0.length : Int)) = true := decide_eq_true c9
    clear c9
    obtain ⟨ji10, hji10⟩ : ∃ j_ : Int, (IntKind.u64.wrap (x6_1)) = j_ := ⟨_, rfl⟩
    replace H : (if 0 ≤ (ji10) then (if (Go.bits .and .i64 (shr .i64 a1 (ji10)) 1) = 1 then (if 0 ≤ x6_1 then (if x361000_1.length < 17592186044416 then (hypercuberef2_Of.l0 k1 a1 (wrap64 (x6_1 + 1)) l0_0 l0_1 (x361000_1 ++ [rd l0_0 x6_1]) 1) else (none)) else (none)) else (hypercuberef2_Of.l0 k1 a1 (wrap64 (x6_1 + 1)) l0_0 l0_1 x361000_1 1)) else (none)) = some (r1, r2, r3, r4, r5) := by first | (rw [hji10] at H; exact H) | (simp only [hji10] at H ⊢; exact H)
    by_cases c11 : 0 ≤ (ji10)
    ·rw [if_pos c11] at H
     have c11b0 := eq_true c11
     have c11b1 : decide (0 ≤ (ji10)) = true := decide_eq_true c11
     clear c11
     obtain ⟨ji12, hji12⟩ : ∃ j_ : Int, (shr .i64 a1 (ji10)) = j_ := ⟨_, rfl⟩
     replace H : (if (Go.bits .and .i64 (ji12) 1) = 1 then (if 0 ≤ x6_1 then (if x361000_1.length < 17592186044416 then (hypercuberef2_Of.l0 k1 a1 (wrap64 (x6_1 + 1)) l0_0 l0_1 (x361000_1 ++ [rd l0_0 x6_1]) 1) else (none)) else (none)) else (hypercuberef2_Of.l0 k1 a1 (wrap64 (x6_1 + 1)) l0_0 l0_1 x361000_1 1)) = some (r1, r2, r3, r4, r5) := by first | (rw [hji12] at H; exact H) | (simp only [hji12] at H ⊢; exact H)
     have hji12_ : (a1 / 2 ^ min (ji10).toNat 64) = ji12 := hji12
     have hji12z : (ji10) ≤ 64 → (a1 / 2 ^ (ji10).toNat) = ji12 := shr_small hji12
     by_cases c13 : (Go.bits .and .i64 (ji12) 1) = 1
     ·rw [if_pos c13] at H
      have c13b0 : ((Go.bits .and .i64 (ji12) 1) == 1) = true := beq_iff_eq.mpr c13
      have c13b1 : ((Go.bits .and .i64 (ji12) 1) != 1) = false := bne_eq_false_iff_eq.mpr c13
      clear c13
      by_cases c14 : 0 ≤ x6_1
      ·rw [if_pos c14] at H
       have c14b0 : decide (0 ≤ x6_1) = true := decide_eq_true c14
       clear c14
       by_cases c15 : x361000_1.length < 17592186044416
       ·rw [if_pos c15] at H
        have LMc15 := am c15
        clear c15
        obtain ⟨y362, hy362⟩ : ∃ y_ : List Int, y_ = (x361000_1 ++ [rd l0_0 x6_1]) := ⟨_, rfl⟩
        replace H : (hypercuberef2_Of.l0 k1 a1 (wrap64 (x6_1 + 1)) l0_0 l0_1 y362 1) = some (r1, r2, r3, r4, r5) := by rw [hy362]; with_reducible exact H
        have Ny362 := am hy362
        clear hy362
        have H' := am H
        clear H
        have hnb16 := NB358_359.out
        have hnc16 := NB359_358.out
        have hnb17 := NB358_360.out
        have hnc17 := NB360_358.out
        have hcz18_0 : wr.cell? ⟨gb358, 0, none⟩ = some (.slice A0_0 l0_0.length c0_0) := (blk_cell BK358.out 0).trans rfl
        have hcz18_1 : wr.cell? ⟨gb358, 1, none⟩ = some (.slice A0_1 l0_1.length c0_1) := (blk_cell BK358.out 1).trans rfl
        have hfz18_0 := blk_frozen BK358.out 0
        have hfz18_1 := blk_frozen BK358.out 1
        try go_wp2
        have n0_ := am (Kd.R_drew HO_361000.out)
        have n1_ := am (blk_drew BK358.out)
        have n2_ := am (blk_drew BK359.out)
        have n3_ := am (blk_drew BK360.out)
        have n4_ := am (below_drew1 HB.out)
        clear HO_361000 BK358 BK359 BK360 HB
        revert n0_ n1_ n2_ n3_ n4_
        intro HO_361000 BK358 BK359 BK360 HB
        have p361 : 0 ≤ (x6_1 : Int) := of_decide_eq_true (by first | (with_reducible assumption) | assumption)
        have q361 : x6_1 < (l0_0.length : Int) := of_decide_eq_true (by first | (with_reducible assumption) | assumption)
        obtain ⟨ad361, e361, hx361_0⟩ := Kd.at_int HR0_0.out x6_1 p361 q361
        have hw361_0 := hx361_0
        cases e361
        replace hx361_0 := (HB.out.cell (World.block_lt_of_cell? w _ hx361_0)).trans hx361_0
        replace p361 := eq_true p361
        replace q361 := eq_true q361
        refine start_ (n := 11) (S := fun w' => w'.cell? ⟨gb360, 0, none⟩ = some (u361000) ∧ w'.cell? ⟨gb360, 1, none⟩ = some (.int .i64 1) ∧ w'.cell? ⟨gb360, 2, none⟩ = some (.slice none 0 0) ∧ w'.cell? ⟨gb360, 3, none⟩ = some (.slice none 0 0) ∧ w'.cell? ⟨gb360, 4, none⟩ = some (.slice none 0 0) ∧ w'.cell? ⟨gb358, 0, none⟩ = some (.slice (some ad361) l0_0.length c0_0) ∧ w'.cell? ⟨gb358, 1, none⟩ = some (.slice A0_1 l0_1.length c0_1) ∧ w'.cell? (ad361.add (x6_1).toNat) = some (.int .i64 (rd l0_0 x6_1))) (ds := [10]) (bb 11 0) (by kernel_rfl) rfl rfl ⟨bc BK360 0, bc BK360 1, bc BK360 2, bc BK360 3, bc BK360 4, bc BK358 0, bc BK358 1, ((HB.out.cell (World.block_lt_of_cell? w _ hw361_0)).trans hw361_0)⟩ (fun hHeld => ?_); refine with_tabW hypercuberef2_Of.tab6 hypercuberef2_Of.bits6 (fun HT_ HW_ => ?_)
        generalize wr.drew = w19 at HO_361000 BK358 BK359 BK360 HB hx361_0 hHeld ⊢
        refine pu (i := 0) (N := some 21) (bb 11 1) HT_ ?_
        refine pu (i := 2) (N := some 23) (bb 11 5) HT_ ?_
        refine pu (i := 4) (N := some 25) (bb 11 21) HT_ ?_
        refine tk (i := 1) (N := some 22) (bb 11 23) HT_ HW_ hHeld ?_
        refine tk (i := 3) (N := some 24) (bb 11 31) HT_ HW_ hHeld ?_
        refine pu (i := 5) (N := some 26) (bb 11 63) HT_ ?_
        refine tk (i := 6) (N := some 27) (bb 11 127) HT_ HW_ hHeld ?_
        refine one_ (i := 7) (N := some 28) (bb 11 255) rfl rfl (one_of HT_.out (by kernel_rfl)) (by decide) (fun K hK => ?_)
        refine value_ (w1 := ?_) (v := ?_) (by rfl) rfl ?_ ?_
        rotate_left 2
        ·go_simp
         constructor
         ·rfl
         ·rfl
        refine hK.out _ _ ⟨(blk_cell (blk_alloc BK360.out _) 0).trans rfl, (blk_cell (blk_alloc BK360.out _) 1).trans rfl, (blk_cell (blk_alloc BK360.out _) 2).trans rfl, (blk_cell (blk_alloc BK360.out _) 3).trans rfl, (blk_cell (blk_alloc BK360.out _) 4).trans rfl, (blk_cell (blk_alloc BK358.out _) 0).trans rfl, (blk_cell (blk_alloc BK358.out _) 1).trans rfl, (World.cell?_alloc_lt _ _ _ (World.block_lt_of_cell? _ _ (((HB.out.cell (World.block_lt_of_cell? w _ hw361_0)).trans hw361_0)))).trans (((HB.out.cell (World.block_lt_of_cell? w _ hw361_0)).trans hw361_0))⟩ (fun hHeld => ?_)
        clear hK K
        refine nm ?_
        refine one_ (i := 8) (N := some 29) (bb 11 511) rfl rfl (one_of HT_.out (by kernel_rfl)) (by decide) (fun K hK => ?_)
        refine Kd.R_append_step (Kd.int .i64) (w0 := w) w.heap.size (by rfl) (.tmp 22) (.tmp 28) 22 3 (.int .i64 0) 8 rfl Try.underlying22 info3 rfl (by decide) (by omega) u361000 x361000_1 (rd l0_0 x6_1) [.int .i64 (rd l0_0 x6_1)] (fun _ => True) (fun _ => False) rfl rfl ?aP (fun _ hk => hk.elim) ?aF ?aO ?aB ?aS ?aL ?_
        (case aP => exact rfl)
        (case aB => exact (wmv HB.out))
        (case aF => exact (fun _ _ => trivial))
        (case aO => exact (Kd.R_mv HO_361000.out))
        (case aS => exact (below_size (wmv HB.out)))
        (case aL => have := LMc15.out; omega)
        intro v363 w20 ho hb hg hat
        rw [← Ny362.out] at ho
        have n0_ := am (blk_grown (bmv BK358.out) hg (Kd.R_ne HO_361000.out BK358.out (by decide)))
        have n1_ := am (blk_grown (bmv BK359.out) hg (Kd.R_ne HO_361000.out BK359.out (by decide)))
        have n2_ := am (blk_grown (bmv BK360.out) hg (Kd.R_ne HO_361000.out BK360.out (by decide)))
        have n3_ := am (hb)
        have n4_ := am (ho)
        clear BK358 BK359 BK360 HB HO_361000
        revert n0_ n1_ n2_ n3_ n4_
        intro BK358 BK359 BK360 HB HO364
        clear ho hb hg hat
        obtain ⟨Ao21, co21, eo21⟩ := Kd.R_slice HO364.out
        (first | subst eo21 | (injection eo21 with f1_ f2_ f3_; have f4_ := f1_.symm; have f5_ := f3_.symm; clear f1_ f2_ f3_; subst f4_; subst f5_))
        refine hK.out _ _ ⟨bc BK360 0, bc BK360 1, bc BK360 2, bc BK360 3, bc BK360 4, bc BK358 0, bc BK358 1, ((HB.out.cell (World.block_lt_of_cell? w _ hw361_0)).trans hw361_0)⟩ (fun hHeld => ?_)
        clear hK K
        refine nm ?_
        refine pu (i := 9) (N := some 30) (bb 11 1023) HT_ ?_
        refine last_ (i := 10) (N := none) (bb 11 2047) rfl rfl (one_of HT_.out (by kernel_rfl)) (by decide) (fun K hK => ?_)
        have hs22 : w20.cell? ⟨gb360, 0, none⟩ = some (u361000) := (blk_cell BK360.out 0).trans rfl
        have hfs22 := blk_frozen BK360.out 0
        have hns22_0 := NB358_360.out
        have hns22_1 := NB359_360.out
        have hms22_0 := NB360_358.out
        have hms22_1 := NB360_359.out
        refine skip_ (w1 := ?_) (by rfl) rfl ?_ ?_
        rotate_left
        ·go_simp
         rfl
        refine hK.out _ _ ?_
        clear hK K
        refine done_ (done_of HT_.out (by kernel_rfl)) ?_
        try go_wp2
        go_roundg k1
        case measure => have := HK1.out; omega
        case rel => exact ⟨(wrap64 (x6_1 + 1)), (y362), (.slice Ao21 y362.length co21), (by first | rfl | (simp; done) | (simp [*]; done)), H', ⟨by have := HK1.out; omega⟩, ⟨by (with_reducible repeat (first | apply Kd.R_alloc | apply Kd.R_drewN | apply Kd.R_drew)); exact Kd.R_mono (Kd.R_far (p := ⟨gb360, 0, none⟩) (Kd.R_types HO364.out BK360.out (by decide)) (fun _ hk => hk.2) (.slice Ao21 y362.length co21)) (fun _ hk => trivial)⟩, ⟨by (with_reducible repeat (first | refine blk_drewN ?_ _ | refine blk_drew ?_ | refine blk_alloc ?_ _)); refine blk_far ?_ NB358_360.out _; (with_reducible repeat (first | refine blk_drewN ?_ _ | refine blk_drew ?_ | refine blk_alloc ?_ _)); exact BK358.out⟩, ⟨by (with_reducible repeat (first | refine blk_drewN ?_ _ | refine blk_drew ?_ | refine blk_alloc ?_ _)); refine blk_far ?_ NB359_360.out _; (with_reducible repeat (first | refine blk_drewN ?_ _ | refine blk_drew ?_ | refine blk_alloc ?_ _)); exact BK359.out⟩, ⟨by (with_reducible repeat (first | refine blk_drewN ?_ _ | refine blk_drew ?_ | refine blk_alloc ?_ _)); refine blk_put (cs := #[u361000, .int .i64 1, .slice none 0 0, .slice none 0 0, .slice none 0 0]) ?_ 0 _ rfl; (with_reducible repeat (first | refine blk_drewN ?_ _ | refine blk_drew ?_ | refine blk_alloc ?_ _)); exact BK360.out⟩, ⟨by repeat (first | (with_reducible first | exact HB.out | apply below_alloc | apply pw_below_drewN | apply below_drew1 | refine below_set ?_ GE358.out | refine below_set ?_ GE359.out | refine below_set ?_ GE360.out) | exact HB.out)⟩⟩
       ·rw [if_neg c15] at H
        exact absurd H (by simp)
      ·rw [if_neg c14] at H
       exact absurd H (by simp)
     ·rw [if_neg c13] at H
      have c13b0 : ((Go.bits .and .i64 (ji12) 1) == 1) = false := beq_eq_false_iff_ne.mpr c13
      have c13b1 : ((Go.bits .and .i64 (ji12) 1) != 1) = true := bne_iff_ne.mpr c13
      have H' := am H
      clear H
      have hnb23 := NB358_359.out
      have hnc23 := NB359_358.out
      have hnb24 := NB358_360.out
      have hnc24 := NB360_358.out
      have hcz25_0 : wr.cell? ⟨gb358, 0, none⟩ = some (.slice A0_0 l0_0.length c0_0) := (blk_cell BK358.out 0).trans rfl
      have hcz25_1 : wr.cell? ⟨gb358, 1, none⟩ = some (.slice A0_1 l0_1.length c0_1) := (blk_cell BK358.out 1).trans rfl
      have hfz25_0 := blk_frozen BK358.out 0
      have hfz25_1 := blk_frozen BK358.out 1
      go_wp2
      go_roundg k1
      case measure => have := HK1.out; omega
      case rel => exact ⟨(wrap64 (x6_1 + 1)), (x361000_1), (u361000), (by first | rfl | (simp; done) | (simp [*]; done)), H', ⟨by have := HK1.out; omega⟩, ⟨by (with_reducible repeat (first | apply Kd.R_alloc | apply Kd.R_drewN | apply Kd.R_drew)); exact HO_361000.out⟩, ⟨by (with_reducible repeat (first | refine blk_drewN ?_ _ | refine blk_drew ?_ | refine blk_alloc ?_ _)); exact BK358.out⟩, ⟨by (with_reducible repeat (first | refine blk_drewN ?_ _ | refine blk_drew ?_ | refine blk_alloc ?_ _)); exact BK359.out⟩, ⟨by (with_reducible repeat (first | refine blk_drewN ?_ _ | refine blk_drew ?_ | refine blk_alloc ?_ _)); exact BK360.out⟩, ⟨by repeat (first | (with_reducible first | exact HB.out | apply below_alloc | apply pw_below_drewN | apply below_drew1 | refine below_set ?_ GE358.out | refine below_set ?_ GE359.out | refine below_set ?_ GE360.out) | exact HB.out)⟩⟩
    ·rw [if_neg c11] at H
     exact absurd H (by simp)
   ·rw [if_neg c9] at H
    have c9b0 : decide (x6_1 < (l0_0.length : Int)) = false := decide_eq_false c9
    clear c9
    obtain ⟨y365, hy365⟩ : ∃ y_ : List Int, y_ = (([] : List Int)) := ⟨_, rfl⟩
    replace H : (if y365.length + l0_1.length < 17592186044416 then ((some (([] : List Int) : List Int)).bind fun y371 => (if y371.length + l0_1.length < 17592186044416 then ((some (([] : List Int) : List Int)).bind fun y377 => (if y377.length + l0_1.length < 17592186044416 then (some (x361000_1, 1, (y365 ++ l0_1), (y371 ++ l0_1), (y377 ++ l0_1))) else (none))) else (none))) else (none)) = some (r1, r2, r3, r4, r5) := by first | (rw [hy365]; with_reducible exact H) | (have H2_ := (Option.bind_some _ _).symm.trans H; rw [hy365]; with_reducible exact H2_) | (have H2_ := (Option.bind_some _ _).symm.trans H; with_reducible exact H2_) | with_reducible exact H | (rw [hy365]; exact H) | exact H
    have Ny365 := am hy365
    clear hy365
    by_cases c26 : y365.length + l0_1.length < 17592186044416
    ·rw [if_pos c26] at H
     have LMc26 := am c26
     clear c26
     obtain ⟨y368, hy368⟩ : ∃ y_ : List Int, y_ = (y365 ++ l0_1) := ⟨_, rfl⟩
     replace H : ((some (([] : List Int) : List Int)).bind fun y371 => (if y371.length + l0_1.length < 17592186044416 then ((some (([] : List Int) : List Int)).bind fun y377 => (if y377.length + l0_1.length < 17592186044416 then (some (x361000_1, 1, y368, (y371 ++ l0_1), (y377 ++ l0_1))) else (none))) else (none))) = some (r1, r2, r3, r4, r5) := by rw [hy368]; with_reducible exact H
     have Ny368 := am hy368
     clear hy368
     obtain ⟨y371, hy371⟩ : ∃ y_ : List Int, y_ = (([] : List Int)) := ⟨_, rfl⟩
     replace H : (if y371.length + l0_1.length < 17592186044416 then ((some (([] : List Int) : List Int)).bind fun y377 => (if y377.length + l0_1.length < 17592186044416 then (some (x361000_1, 1, y368, (y371 ++ l0_1), (y377 ++ l0_1))) else (none))) else (none)) = some (r1, r2, r3, r4, r5) := by first | (rw [hy371]; with_reducible exact H) | (have H2_ := (Option.bind_some _ _).symm.trans H; rw [hy371]; with_reducible exact H2_) | (have H2_ := (Option.bind_some _ _).symm.trans H; with_reducible exact H2_) | with_reducible exact H | (rw [hy371]; exact H) | exact H
     have Ny371 := am hy371
     clear hy371
     by_cases c27 : y371.length + l0_1.length < 17592186044416
     ·rw [if_pos c27] at H
      have LMc27 := am c27
      clear c27
      obtain ⟨y374, hy374⟩ : ∃ y_ : List Int, y_ = (y371 ++ l0_1) := ⟨_, rfl⟩
      replace H : ((some (([] : List Int) : List Int)).bind fun y377 => (if y377.length + l0_1.length < 17592186044416 then (some (x361000_1, 1, y368, y374, (y377 ++ l0_1))) else (none))) = some (r1, r2, r3, r4, r5) := by rw [hy374]; with_reducible exact H
      have Ny374 := am hy374
      clear hy374
      obtain ⟨y377, hy377⟩ : ∃ y_ : List Int, y_ = (([] : List Int)) := ⟨_, rfl⟩
      replace H : (if y377.length + l0_1.length < 17592186044416 then (some (x361000_1, 1, y368, y374, (y377 ++ l0_1))) else (none)) = some (r1, r2, r3, r4, r5) := by first | (rw [hy377]; with_reducible exact H) | (have H2_ := (Option.bind_some _ _).symm.trans H; rw [hy377]; with_reducible exact H2_) | (have H2_ := (Option.bind_some _ _).symm.trans H; with_reducible exact H2_) | with_reducible exact H | (rw [hy377]; exact H) | exact H
      have Ny377 := am hy377
      clear hy377
      by_cases c28 : y377.length + l0_1.length < 17592186044416
      ·rw [if_pos c28] at H
       have LMc28 := am c28
       clear c28
       obtain ⟨y380, hy380⟩ : ∃ y_ : List Int, y_ = (y377 ++ l0_1) := ⟨_, rfl⟩
       replace H : (some (x361000_1, 1, y368, y374, y380)) = some (r1, r2, r3, r4, r5) := by rw [hy380]; with_reducible exact H
       have Ny380 := am hy380
       clear hy380
       simp only [Option.some.injEq, Prod.mk.injEq] at H
       obtain ⟨rfl, rfl, rfl, rfl, rfl⟩ := H
       have hnb29 := NB358_359.out
       have hnc29 := NB359_358.out
       have hnb30 := NB358_360.out
       have hnc30 := NB360_358.out
       have hcz31_0 : wr.cell? ⟨gb358, 0, none⟩ = some (.slice A0_0 l0_0.length c0_0) := (blk_cell BK358.out 0).trans rfl
       have hcz31_1 : wr.cell? ⟨gb358, 1, none⟩ = some (.slice A0_1 l0_1.length c0_1) := (blk_cell BK358.out 1).trans rfl
       have hfz31_0 := blk_frozen BK358.out 0
       have hfz31_1 := blk_frozen BK358.out 1
       go_wp2_with (first | ((with_reducible refine gate_dst (N := 31) rfl ?_); refine Kd.R_lit (Kd.int .i64) _ 3 ?hg (N := 31) ?hd (xs := ([] : List Int)) (inner := []) (ok := fun _ => True) (okp := fun _ => True) ?hr ?hp (fun _ hk => hk) trivial (Below.refl _ _) (Nat.le_refl _) (by simp) ?_; (case hd => rfl); (case hg => rfl); (case hr => first | (go_simp; done) | (go_simp; rfl)); (case hp => exact (Reps.none _ _)); intro v366 w32 ho33 hb hg_ hnew_; clear hg_ hnew_; (first | rw [← Ny365.out] at ho33 | (simp only [Int.reduceToNat] at ho33; rw [← Ny365.out] at ho33)); have n0_ := am (Kd.R_elder' (Kd.R_mv HO_361000.out) (Kd.R_base ho33) hb); have n1_ := am (Kd.R_lower (Kd.R_new' ho33 (Kd.R_lt (Kd.R_mv HO_361000.out))) (below_size (by repeat (first | (with_reducible first | exact HB.out | apply below_alloc | apply pw_below_drewN | apply below_drew1 | refine below_set ?_ GE358.out | refine below_set ?_ GE359.out | refine below_set ?_ GE360.out) | exact HB.out)))); have n2_ := am (blk_below (bmv BK358.out) hb); have n3_ := am (blk_below (bmv BK359.out) hb); have n4_ := am (blk_below (bmv BK360.out) hb); have n5_ := am (below_step (by repeat (first | (with_reducible first | exact HB.out | apply below_alloc | apply pw_below_drewN | apply below_drew1 | refine below_set ?_ GE358.out | refine below_set ?_ GE359.out | refine below_set ?_ GE360.out) | exact HB.out)) hb); clear HO_361000 BK358 BK359 BK360 HB; revert n0_ n1_ n2_ n3_ n4_ n5_; intro HO_361000 HO367 BK358 BK359 BK360 HB; clear hb ho33; have hcz34_0 : w32.cell? ⟨gb358, 0, none⟩ = some (.slice A0_0 l0_0.length c0_0) := (blk_cell BK358.out 0).trans rfl; have hcz34_1 : w32.cell? ⟨gb358, 1, none⟩ = some (.slice A0_1 l0_1.length c0_1) := (blk_cell BK358.out 1).trans rfl; have hfz34_0 := blk_frozen BK358.out 0; have hfz34_1 := blk_frozen BK358.out 1) | ((with_reducible refine gate_builtin (b := .append) (xs := #[.tmp 31, .tmp 33]) rfl ?_); at_builtin; refine Kd.R_append_rows (Kd.int .i64) (w0 := w) w.heap.size rfl (.tmp 31) (.tmp 33) 22 3 (.int .i64 0) 8 rfl Try.underlying22 info3 rfl (by decide) (by omega) v366 y365 l0_1 _ _ _ (fun k_ => some k_ ≠ (u361000 : Value).ownBlock) (fun _ => False) rfl rfl ?aO ?aR (fun _ _ h => h) (fun _ h => h.elim) ?aF ?aB ?aS ?aL ?_; (case aR => exact Kd.Cw HR0_1.out HB.out); (case aB => exact (by repeat (first | (with_reducible first | exact HB.out | apply below_alloc | apply pw_below_drewN | apply below_drew1 | refine below_set ?_ GE358.out | refine below_set ?_ GE359.out | refine below_set ?_ GE360.out) | exact HB.out))); (case aF => exact (fun k_ hk => Kd.fresh' (Kd.R_lt (Kd.R_mv HO_361000.out)) k_ hk)); (case aO => exact (Kd.R_mv (Kd.R_mono HO367.out (fun _ hk => hk.2)))); (case aS => exact (below_size (by repeat (first | (with_reducible first | exact HB.out | apply below_alloc | apply pw_below_drewN | apply below_drew1 | refine below_set ?_ GE358.out | refine below_set ?_ GE359.out | refine below_set ?_ GE360.out) | exact HB.out)))); (case aL => have := LMc26.out; omega); intro v369 w35 ho hb hg hat; rw [← Ny368.out] at ho; have n0_ := am (Kd.R_after (ok := (fun _ => True)) (Kd.R_mv HO_361000.out) hg hat); have n1_ := am (blk_grown (bmv BK358.out) hg (Kd.R_ne HO367.out BK358.out (by decide))); have n2_ := am (blk_grown (bmv BK359.out) hg (Kd.R_ne HO367.out BK359.out (by decide))); have n3_ := am (blk_grown (bmv BK360.out) hg (Kd.R_ne HO367.out BK360.out (by decide))); have n4_ := am (hb); have n5_ := am (ho); clear HO_361000 BK358 BK359 BK360 HB HO367; revert n0_ n1_ n2_ n3_ n4_ n5_; intro HO_361000 BK358 BK359 BK360 HB HO370; clear ho hb hg hat; obtain ⟨Ao36, co36, eo36⟩ := Kd.R_slice HO370.out; subst eo36; have hnb37 := NB360_359.out; have hnc37 := NB359_360.out; have hcz38_0 : w35.cell? ⟨gb360, 0, none⟩ = some (u361000) := (blk_cell BK360.out 0).trans rfl; have hcz38_1 : w35.cell? ⟨gb360, 1, none⟩ = some (.int .i64 1) := (blk_cell BK360.out 1).trans rfl; have hcz38_2 : w35.cell? ⟨gb360, 2, none⟩ = some (.slice none 0 0) := (blk_cell BK360.out 2).trans rfl; have hcz38_3 : w35.cell? ⟨gb360, 3, none⟩ = some (.slice none 0 0) := (blk_cell BK360.out 3).trans rfl; have hcz38_4 : w35.cell? ⟨gb360, 4, none⟩ = some (.slice none 0 0) := (blk_cell BK360.out 4).trans rfl; have hfz38_0 := blk_frozen BK360.out 0; have hfz38_1 := blk_frozen BK360.out 1; have hfz38_2 := blk_frozen BK360.out 2; have hfz38_3 := blk_frozen BK360.out 3; have hfz38_4 := blk_frozen BK360.out 4) | ((with_reducible refine gate_dst (N := 36) rfl ?_); refine Kd.R_lit (Kd.int .i64) _ 3 ?hg (N := 36) ?hd (xs := ([] : List Int)) (inner := []) (ok := fun _ => True) (okp := fun _ => True) ?hr ?hp (fun _ hk => hk) trivial (Below.refl _ _) (Nat.le_refl _) (by simp) ?_; (case hd => rfl); (case hg => rfl); (case hr => first | (go_simp; done) | (go_simp; rfl)); (case hp => exact (Reps.none _ _)); intro v372 w39 ho40 hb hg_ hnew_; clear hg_ hnew_; (first | rw [← Ny371.out] at ho40 | (simp only [Int.reduceToNat] at ho40; rw [← Ny371.out] at ho40)); have n0_ := am (Kd.R_elder' (Kd.R_mv (Kd.R_mono (Kd.R_far (p := ⟨gb360, 2, none⟩) (Kd.R_types HO_361000.out BK360.out (by decide)) (fun _ hk => hk.2) (.slice Ao36 y368.length co36)) (fun _ h_ => h_.1))) (Kd.R_base ho40) hb); have n1_ := am (Kd.R_elder' (Kd.R_mv (Kd.R_mono (Kd.R_far (p := ⟨gb360, 2, none⟩) (Kd.R_types HO370.out BK360.out (by decide)) (fun _ hk => hk.2) (.slice Ao36 y368.length co36)) (fun _ h_ => h_.1))) (Kd.R_base ho40) hb); have n2_ := am (Kd.R_lower (Kd.R_new' (Kd.R_new' ho40 (Kd.R_lt (Kd.R_mv (Kd.R_mono (Kd.R_far (p := ⟨gb360, 2, none⟩) (Kd.R_types HO_361000.out BK360.out (by decide)) (fun _ hk => hk.2) (.slice Ao36 y368.length co36)) (fun _ h_ => h_.1))))) (Kd.R_lt (Kd.R_mv (Kd.R_mono (Kd.R_far (p := ⟨gb360, 2, none⟩) (Kd.R_types HO370.out BK360.out (by decide)) (fun _ hk => hk.2) (.slice Ao36 y368.length co36)) (fun _ h_ => h_.1))))) (below_size (by repeat (first | (with_reducible first | exact HB.out | apply below_alloc | apply pw_below_drewN | apply below_drew1 | refine below_set ?_ GE358.out | refine below_set ?_ GE359.out | refine below_set ?_ GE360.out) | exact HB.out)))); have n3_ := am (blk_below (g := gb358) (o := .cells #[.slice A0_0 l0_0.length c0_0, .slice A0_1 l0_1.length c0_1] 45 (0, 0)) (by (with_reducible repeat (first | refine blk_drewN ?_ _ | refine blk_drew ?_ | refine blk_alloc ?_ _)); refine blk_far ?_ NB358_360.out _; (with_reducible repeat (first | refine blk_drewN ?_ _ | refine blk_drew ?_ | refine blk_alloc ?_ _)); exact BK358.out) hb); have n4_ := am (blk_below (g := gb359) (o := .cells #[.slice none 0 0, .int .i64 0, .slice none 0 0, .slice none 0 0, .slice none 0 0] 30 (0, 0)) (by (with_reducible repeat (first | refine blk_drewN ?_ _ | refine blk_drew ?_ | refine blk_alloc ?_ _)); refine blk_far ?_ NB359_360.out _; (with_reducible repeat (first | refine blk_drewN ?_ _ | refine blk_drew ?_ | refine blk_alloc ?_ _)); exact BK359.out) hb); have n5_ := am (blk_below (g := gb360) (o := .cells #[u361000, .int .i64 1, .slice Ao36 y368.length co36, .slice none 0 0, .slice none 0 0] 30 (0, 0)) (by (with_reducible repeat (first | refine blk_drewN ?_ _ | refine blk_drew ?_ | refine blk_alloc ?_ _)); refine blk_put (cs := #[u361000, .int .i64 1, .slice none 0 0, .slice none 0 0, .slice none 0 0]) ?_ 2 _ rfl; (with_reducible repeat (first | refine blk_drewN ?_ _ | refine blk_drew ?_ | refine blk_alloc ?_ _)); exact BK360.out) hb); have n6_ := am (below_step (by repeat (first | (with_reducible first | exact HB.out | apply below_alloc | apply pw_below_drewN | apply below_drew1 | refine below_set ?_ GE358.out | refine below_set ?_ GE359.out | refine below_set ?_ GE360.out) | exact HB.out)) hb); clear HO_361000 HO370 BK358 BK359 BK360 HB; revert n0_ n1_ n2_ n3_ n4_ n5_ n6_; intro HO_361000 HO370 HO373 BK358 BK359 BK360 HB; clear hb ho40; have hcz41_0 : w39.cell? ⟨gb358, 0, none⟩ = some (.slice A0_0 l0_0.length c0_0) := (blk_cell BK358.out 0).trans rfl; have hcz41_1 : w39.cell? ⟨gb358, 1, none⟩ = some (.slice A0_1 l0_1.length c0_1) := (blk_cell BK358.out 1).trans rfl; have hfz41_0 := blk_frozen BK358.out 0; have hfz41_1 := blk_frozen BK358.out 1) | ((with_reducible refine gate_builtin (b := .append) (xs := #[.tmp 36, .tmp 38]) rfl ?_); at_builtin; refine Kd.R_append_rows (Kd.int .i64) (w0 := w) w.heap.size rfl (.tmp 36) (.tmp 38) 22 3 (.int .i64 0) 8 rfl Try.underlying22 info3 rfl (by decide) (by omega) v372 y371 l0_1 _ _ _ (fun k_ => some k_ ≠ (u361000 : Value).ownBlock ∧ some k_ ≠ (.slice Ao36 y368.length co36 : Value).ownBlock) (fun _ => False) rfl rfl ?aO ?aR (fun _ _ h => h) (fun _ h => h.elim) ?aF ?aB ?aS ?aL ?_; (case aR => exact Kd.Cw HR0_1.out HB.out); (case aB => exact (by repeat (first | (with_reducible first | exact HB.out | apply below_alloc | apply pw_below_drewN | apply below_drew1 | refine below_set ?_ GE358.out | refine below_set ?_ GE359.out | refine below_set ?_ GE360.out) | exact HB.out))); (case aF => exact (fun k_ hk => ⟨Kd.fresh' (Kd.R_lt (Kd.R_mv HO_361000.out)) k_ hk, Kd.fresh' (Kd.R_lt (Kd.R_mv HO370.out)) k_ hk⟩)); (case aO => exact (Kd.R_mv (Kd.R_mono HO373.out (fun _ hk => ⟨hk.1.2, hk.2⟩)))); (case aS => exact (below_size (by repeat (first | (with_reducible first | exact HB.out | apply below_alloc | apply pw_below_drewN | apply below_drew1 | refine below_set ?_ GE358.out | refine below_set ?_ GE359.out | refine below_set ?_ GE360.out) | exact HB.out)))); (case aL => have := LMc27.out; omega); intro v375 w42 ho hb hg hat; rw [← Ny374.out] at ho; have n0_ := am (Kd.R_after (ok := (fun k_ => some k_ ≠ (.slice Ao36 y368.length co36 : Value).ownBlock)) (Kd.R_mv (Kd.R_mono HO_361000.out (fun _ hk => ⟨hk.1.2, hk.2⟩))) hg hat); have n1_ := am (blk_grown (bmv BK358.out) hg (Kd.R_ne HO373.out BK358.out (by decide))); have n2_ := am (blk_grown (bmv BK359.out) hg (Kd.R_ne HO373.out BK359.out (by decide))); have n3_ := am (blk_grown (bmv BK360.out) hg (Kd.R_ne HO373.out BK360.out (by decide))); have n4_ := am (Kd.R_after (ok := (fun k_ => some k_ ≠ (u361000 : Value).ownBlock)) (Kd.R_mv HO370.out) hg hat); have n5_ := am (hb); have n6_ := am (ho); clear HO_361000 BK358 BK359 BK360 HO370 HB HO373; revert n0_ n1_ n2_ n3_ n4_ n5_ n6_; intro HO_361000 BK358 BK359 BK360 HO370 HB HO376; clear ho hb hg hat; obtain ⟨Ao43, co43, eo43⟩ := Kd.R_slice HO376.out; subst eo43; have hcz44_0 : w42.cell? ⟨gb360, 0, none⟩ = some (u361000) := (blk_cell BK360.out 0).trans rfl; have hcz44_1 : w42.cell? ⟨gb360, 1, none⟩ = some (.int .i64 1) := (blk_cell BK360.out 1).trans rfl; have hcz44_2 : w42.cell? ⟨gb360, 2, none⟩ = some (.slice Ao36 y368.length co36) := (blk_cell BK360.out 2).trans rfl; have hcz44_3 : w42.cell? ⟨gb360, 3, none⟩ = some (.slice none 0 0) := (blk_cell BK360.out 3).trans rfl; have hcz44_4 : w42.cell? ⟨gb360, 4, none⟩ = some (.slice none 0 0) := (blk_cell BK360.out 4).trans rfl; have hfz44_0 := blk_frozen BK360.out 0; have hfz44_1 := blk_frozen BK360.out 1; have hfz44_2 := blk_frozen BK360.out 2; have hfz44_3 := blk_frozen BK360.out 3; have hfz44_4 := blk_frozen BK360.out 4) | ((with_reducible refine gate_dst (N := 41) rfl ?_); refine Kd.R_lit (Kd.int .i64) _ 3 ?hg (N := 41) ?hd (xs := ([] : List Int)) (inner := []) (ok := fun _ => True) (okp := fun _ => True) ?hr ?hp (fun _ hk => hk) trivial (Below.refl _ _) (Nat.le_refl _) (by simp) ?_; (case hd => rfl); (case hg => rfl); (case hr => first | (go_simp; done) | (go_simp; rfl)); (case hp => exact (Reps.none _ _)); intro v378 w45 ho46 hb hg_ hnew_; clear hg_ hnew_; (first | rw [← Ny377.out] at ho46 | (simp only [Int.reduceToNat] at ho46; rw [← Ny377.out] at ho46)); have n0_ := am (Kd.R_elder' (Kd.R_mv (Kd.R_mono (Kd.R_far (p := ⟨gb360, 3, none⟩) (Kd.R_types HO_361000.out BK360.out (by decide)) (fun _ hk => hk.2) (.slice Ao43 y374.length co43)) (fun _ h_ => h_.1))) (Kd.R_base ho46) hb); have n1_ := am (Kd.R_elder' (Kd.R_mv (Kd.R_mono (Kd.R_far (p := ⟨gb360, 3, none⟩) (Kd.R_types HO370.out BK360.out (by decide)) (fun _ hk => hk.2) (.slice Ao43 y374.length co43)) (fun _ h_ => h_.1))) (Kd.R_base ho46) hb); have n2_ := am (Kd.R_elder' (Kd.R_mv (Kd.R_mono (Kd.R_far (p := ⟨gb360, 3, none⟩) (Kd.R_types HO376.out BK360.out (by decide)) (fun _ hk => hk.2) (.slice Ao43 y374.length co43)) (fun _ h_ => h_.1))) (Kd.R_base ho46) hb); have n3_ := am (Kd.R_lower (Kd.R_new' (Kd.R_new' (Kd.R_new' ho46 (Kd.R_lt (Kd.R_mv (Kd.R_mono (Kd.R_far (p := ⟨gb360, 3, none⟩) (Kd.R_types HO_361000.out BK360.out (by decide)) (fun _ hk => hk.2) (.slice Ao43 y374.length co43)) (fun _ h_ => h_.1))))) (Kd.R_lt (Kd.R_mv (Kd.R_mono (Kd.R_far (p := ⟨gb360, 3, none⟩) (Kd.R_types HO370.out BK360.out (by decide)) (fun _ hk => hk.2) (.slice Ao43 y374.length co43)) (fun _ h_ => h_.1))))) (Kd.R_lt (Kd.R_mv (Kd.R_mono (Kd.R_far (p := ⟨gb360, 3, none⟩) (Kd.R_types HO376.out BK360.out (by decide)) (fun _ hk => hk.2) (.slice Ao43 y374.length co43)) (fun _ h_ => h_.1))))) (below_size (by repeat (first | (with_reducible first | exact HB.out | apply below_alloc | apply pw_below_drewN | apply below_drew1 | refine below_set ?_ GE358.out | refine below_set ?_ GE359.out | refine below_set ?_ GE360.out) | exact HB.out)))); have n4_ := am (blk_below (g := gb358) (o := .cells #[.slice A0_0 l0_0.length c0_0, .slice A0_1 l0_1.length c0_1] 45 (0, 0)) (by (with_reducible repeat (first | refine blk_drewN ?_ _ | refine blk_drew ?_ | refine blk_alloc ?_ _)); refine blk_far ?_ NB358_360.out _; (with_reducible repeat (first | refine blk_drewN ?_ _ | refine blk_drew ?_ | refine blk_alloc ?_ _)); exact BK358.out) hb); have n5_ := am (blk_below (g := gb359) (o := .cells #[.slice none 0 0, .int .i64 0, .slice none 0 0, .slice none 0 0, .slice none 0 0] 30 (0, 0)) (by (with_reducible repeat (first | refine blk_drewN ?_ _ | refine blk_drew ?_ | refine blk_alloc ?_ _)); refine blk_far ?_ NB359_360.out _; (with_reducible repeat (first | refine blk_drewN ?_ _ | refine blk_drew ?_ | refine blk_alloc ?_ _)); exact BK359.out) hb); have n6_ := am (blk_below (g := gb360) (o := .cells #[u361000, .int .i64 1, .slice Ao36 y368.length co36, .slice Ao43 y374.length co43, .slice none 0 0] 30 (0, 0)) (by (with_reducible repeat (first | refine blk_drewN ?_ _ | refine blk_drew ?_ | refine blk_alloc ?_ _)); refine blk_put (cs := #[u361000, .int .i64 1, .slice Ao36 y368.length co36, .slice none 0 0, .slice none 0 0]) ?_ 3 _ rfl; (with_reducible repeat (first | refine blk_drewN ?_ _ | refine blk_drew ?_ | refine blk_alloc ?_ _)); exact BK360.out) hb); have n7_ := am (below_step (by repeat (first | (with_reducible first | exact HB.out | apply below_alloc | apply pw_below_drewN | apply below_drew1 | refine below_set ?_ GE358.out | refine below_set ?_ GE359.out | refine below_set ?_ GE360.out) | exact HB.out)) hb); clear HO_361000 HO370 HO376 BK358 BK359 BK360 HB; revert n0_ n1_ n2_ n3_ n4_ n5_ n6_ n7_; intro HO_361000 HO370 HO376 HO379 BK358 BK359 BK360 HB; clear hb ho46; have hcz47_0 : w45.cell? ⟨gb358, 0, none⟩ = some (.slice A0_0 l0_0.length c0_0) := (blk_cell BK358.out 0).trans rfl; have hcz47_1 : w45.cell? ⟨gb358, 1, none⟩ = some (.slice A0_1 l0_1.length c0_1) := (blk_cell BK358.out 1).trans rfl; have hfz47_0 := blk_frozen BK358.out 0; have hfz47_1 := blk_frozen BK358.out 1) | ((with_reducible refine gate_builtin (b := .append) (xs := #[.tmp 41, .tmp 43]) rfl ?_); at_builtin; refine Kd.R_append_rows (Kd.int .i64) (w0 := w) w.heap.size rfl (.tmp 41) (.tmp 43) 22 3 (.int .i64 0) 8 rfl Try.underlying22 info3 rfl (by decide) (by omega) v378 y377 l0_1 _ _ _ (fun k_ => some k_ ≠ (u361000 : Value).ownBlock ∧ some k_ ≠ (.slice Ao36 y368.length co36 : Value).ownBlock ∧ some k_ ≠ (.slice Ao43 y374.length co43 : Value).ownBlock) (fun _ => False) rfl rfl ?aO ?aR (fun _ _ h => h) (fun _ h => h.elim) ?aF ?aB ?aS ?aL ?_; (case aR => exact Kd.Cw HR0_1.out HB.out); (case aB => exact (by repeat (first | (with_reducible first | exact HB.out | apply below_alloc | apply pw_below_drewN | apply below_drew1 | refine below_set ?_ GE358.out | refine below_set ?_ GE359.out | refine below_set ?_ GE360.out) | exact HB.out))); (case aF => exact (fun k_ hk => ⟨Kd.fresh' (Kd.R_lt (Kd.R_mv HO_361000.out)) k_ hk, Kd.fresh' (Kd.R_lt (Kd.R_mv HO370.out)) k_ hk, Kd.fresh' (Kd.R_lt (Kd.R_mv HO376.out)) k_ hk⟩)); (case aO => exact (Kd.R_mv (Kd.R_mono HO379.out (fun _ hk => ⟨hk.1.1.2, ⟨hk.1.2, hk.2⟩⟩)))); (case aS => exact (below_size (by repeat (first | (with_reducible first | exact HB.out | apply below_alloc | apply pw_below_drewN | apply below_drew1 | refine below_set ?_ GE358.out | refine below_set ?_ GE359.out | refine below_set ?_ GE360.out) | exact HB.out)))); (case aL => have := LMc28.out; omega); intro v381 w48 ho hb hg hat; rw [← Ny380.out] at ho; have n0_ := am (Kd.R_after (ok := (fun k_ => some k_ ≠ (.slice Ao36 y368.length co36 : Value).ownBlock ∧ some k_ ≠ (.slice Ao43 y374.length co43 : Value).ownBlock)) (Kd.R_mv HO_361000.out) hg hat); have n1_ := am (blk_grown (bmv BK358.out) hg (Kd.R_ne HO379.out BK358.out (by decide))); have n2_ := am (blk_grown (bmv BK359.out) hg (Kd.R_ne HO379.out BK359.out (by decide))); have n3_ := am (blk_grown (bmv BK360.out) hg (Kd.R_ne HO379.out BK360.out (by decide))); have n4_ := am (Kd.R_after (ok := (fun k_ => some k_ ≠ (u361000 : Value).ownBlock ∧ some k_ ≠ (.slice Ao43 y374.length co43 : Value).ownBlock)) (Kd.R_mv HO370.out) hg hat); have n5_ := am (Kd.R_after (ok := (fun k_ => some k_ ≠ (u361000 : Value).ownBlock ∧ some k_ ≠ (.slice Ao36 y368.length co36 : Value).ownBlock)) (Kd.R_mv HO376.out) hg hat); have n6_ := am (hb); have n7_ := am (ho); clear HO_361000 BK358 BK359 BK360 HO370 HO376 HB HO379; revert n0_ n1_ n2_ n3_ n4_ n5_ n6_ n7_; intro HO_361000 BK358 BK359 BK360 HO370 HO376 HB HO382; clear ho hb hg hat; obtain ⟨Ao49, co49, eo49⟩ := Kd.R_slice HO382.out; subst eo49; have hcz50_0 : w48.cell? ⟨gb360, 0, none⟩ = some (u361000) := (blk_cell BK360.out 0).trans rfl; have hcz50_1 : w48.cell? ⟨gb360, 1, none⟩ = some (.int .i64 1) := (blk_cell BK360.out 1).trans rfl; have hcz50_2 : w48.cell? ⟨gb360, 2, none⟩ = some (.slice Ao36 y368.length co36) := (blk_cell BK360.out 2).trans rfl; have hcz50_3 : w48.cell? ⟨gb360, 3, none⟩ = some (.slice Ao43 y374.length co43) := (blk_cell BK360.out 3).trans rfl; have hcz50_4 : w48.cell? ⟨gb360, 4, none⟩ = some (.slice none 0 0) := (blk_cell BK360.out 4).trans rfl; have hfz50_0 := blk_frozen BK360.out 0; have hfz50_1 := blk_frozen BK360.out 1; have hfz50_2 := blk_frozen BK360.out 2; have hfz50_3 := blk_frozen BK360.out 3; have hfz50_4 := blk_frozen BK360.out 4; obtain ⟨Ao51, co51, eo51⟩ := Kd.R_slice HO_361000.out; subst eo51; have hcz52_0 : w48.cell? ⟨gb359, 0, none⟩ = some (.slice none 0 0) := (blk_cell BK359.out 0).trans rfl; have hcz52_1 : w48.cell? ⟨gb359, 1, none⟩ = some (.int .i64 0) := (blk_cell BK359.out 1).trans rfl; have hcz52_2 : w48.cell? ⟨gb359, 2, none⟩ = some (.slice none 0 0) := (blk_cell BK359.out 2).trans rfl; have hcz52_3 : w48.cell? ⟨gb359, 3, none⟩ = some (.slice none 0 0) := (blk_cell BK359.out 3).trans rfl; have hcz52_4 : w48.cell? ⟨gb359, 4, none⟩ = some (.slice none 0 0) := (blk_cell BK359.out 4).trans rfl; have hfz52_0 := blk_frozen BK359.out 0; have hfz52_1 := blk_frozen BK359.out 1; have hfz52_2 := blk_frozen BK359.out 2; have hfz52_3 := blk_frozen BK359.out 3; have hfz52_4 := blk_frozen BK359.out 4))
       refine bodyPost_ret (results_cell_row rfl _ _ gb359 30 #[.slice Ao51 x361000_1.length co51, .int .i64 1, .slice Ao36 y368.length co36, .slice Ao43 y374.length co43, .slice Ao49 y380.length co49] (0, 0) _ rfl (by (with_reducible repeat (first | refine blk_drewN ?_ _ | refine blk_drew ?_ | refine blk_alloc ?_ _)); refine blk_put (cs := #[.slice Ao51 x361000_1.length co51, .int .i64 1, .slice Ao36 y368.length co36, .slice Ao43 y374.length co43, .slice none 0 0]) ?_ 4 _ rfl; (with_reducible repeat (first | refine blk_drewN ?_ _ | refine blk_drew ?_ | refine blk_alloc ?_ _)); refine blk_put (cs := #[.slice Ao51 x361000_1.length co51, .int .i64 1, .slice Ao36 y368.length co36, .slice none 0 0, .slice none 0 0]) ?_ 3 _ rfl; (with_reducible repeat (first | refine blk_drewN ?_ _ | refine blk_drew ?_ | refine blk_alloc ?_ _)); refine blk_put (cs := #[.slice Ao51 x361000_1.length co51, .int .i64 1, .slice none 0 0, .slice none 0 0, .slice none 0 0]) ?_ 2 _ rfl; (with_reducible repeat (first | refine blk_drewN ?_ _ | refine blk_drew ?_ | refine blk_alloc ?_ _)); refine blk_put (cs := #[.slice Ao51 x361000_1.length co51, .int .i64 0, .slice none 0 0, .slice none 0 0, .slice none 0 0]) ?_ 1 _ rfl; (with_reducible repeat (first | refine blk_drewN ?_ _ | refine blk_drew ?_ | refine blk_alloc ?_ _)); refine blk_put (cs := #[.slice none 0 0, .int .i64 0, .slice none 0 0, .slice none 0 0, .slice none 0 0]) ?_ 0 _ rfl; (with_reducible repeat (first | refine blk_drewN ?_ _ | refine blk_drew ?_ | refine blk_alloc ?_ _)); refine blk_far ?_ NB359_360.out _; (with_reducible repeat (first | refine blk_drewN ?_ _ | refine blk_drew ?_ | refine blk_alloc ?_ _)); exact BK359.out) Try.underlying30 rfl (by kernel_rfl)) rfl ?_
       exact ⟨_, _, _, _, by first | rfl | (simp [errW_none, errW_some] <;> rfl) | (simp [*, errW_none, errW_some] <;> rfl), by (with_reducible repeat (first | apply Kd.R_alloc | apply Kd.R_drewN | apply Kd.R_drew)); exact Kd.R_mono (Kd.R_far (p := ⟨gb359, 4, none⟩) (Kd.R_far (p := ⟨gb359, 3, none⟩) (Kd.R_far (p := ⟨gb359, 2, none⟩) (Kd.R_far (p := ⟨gb359, 1, none⟩) (Kd.R_far (p := ⟨gb359, 0, none⟩) (Kd.R_far (p := ⟨gb360, 4, none⟩) (Kd.R_types (Kd.R_types HO_361000.out BK360.out (by decide)) BK359.out (by decide)) (fun _ hk => hk.1.2) (.slice Ao49 y380.length co49)) (fun _ hk => hk.2) (.slice Ao51 x361000_1.length co51)) (fun _ hk => hk.2) (.int .i64 1)) (fun _ hk => hk.2) (.slice Ao36 y368.length co36)) (fun _ hk => hk.2) (.slice Ao43 y374.length co43)) (fun _ hk => hk.2) (.slice Ao49 y380.length co49)) (fun _ hk => ⟨hk.1.1.1.1, ⟨hk.1.1.1.2, hk.1.1.2⟩⟩), by (with_reducible repeat (first | apply Kd.R_alloc | apply Kd.R_drewN | apply Kd.R_drew)); exact Kd.R_mono (Kd.R_far (p := ⟨gb359, 4, none⟩) (Kd.R_far (p := ⟨gb359, 3, none⟩) (Kd.R_far (p := ⟨gb359, 2, none⟩) (Kd.R_far (p := ⟨gb359, 1, none⟩) (Kd.R_far (p := ⟨gb359, 0, none⟩) (Kd.R_far (p := ⟨gb360, 4, none⟩) (Kd.R_types (Kd.R_types HO370.out BK360.out (by decide)) BK359.out (by decide)) (fun _ hk => hk.1.2) (.slice Ao49 y380.length co49)) (fun _ hk => hk.2) (.slice Ao51 x361000_1.length co51)) (fun _ hk => hk.2) (.int .i64 1)) (fun _ hk => hk.2) (.slice Ao36 y368.length co36)) (fun _ hk => hk.2) (.slice Ao43 y374.length co43)) (fun _ hk => hk.2) (.slice Ao49 y380.length co49)) (fun _ hk => ⟨hk.1.1.1.1, ⟨hk.1.1.1.2, hk.1.1.2⟩⟩), by (with_reducible repeat (first | apply Kd.R_alloc | apply Kd.R_drewN | apply Kd.R_drew)); exact Kd.R_mono (Kd.R_far (p := ⟨gb359, 4, none⟩) (Kd.R_far (p := ⟨gb359, 3, none⟩) (Kd.R_far (p := ⟨gb359, 2, none⟩) (Kd.R_far (p := ⟨gb359, 1, none⟩) (Kd.R_far (p := ⟨gb359, 0, none⟩) (Kd.R_far (p := ⟨gb360, 4, none⟩) (Kd.R_types (Kd.R_types HO376.out BK360.out (by decide)) BK359.out (by decide)) (fun _ hk => hk.1.2) (.slice Ao49 y380.length co49)) (fun _ hk => hk.2) (.slice Ao51 x361000_1.length co51)) (fun _ hk => hk.2) (.int .i64 1)) (fun _ hk => hk.2) (.slice Ao36 y368.length co36)) (fun _ hk => hk.2) (.slice Ao43 y374.length co43)) (fun _ hk => hk.2) (.slice Ao49 y380.length co49)) (fun _ hk => ⟨hk.1.1.1.1, ⟨hk.1.1.1.2, hk.1.1.2⟩⟩), by (with_reducible repeat (first | apply Kd.R_alloc | apply Kd.R_drewN | apply Kd.R_drew)); exact Kd.R_mono (Kd.R_far (p := ⟨gb359, 4, none⟩) (Kd.R_far (p := ⟨gb359, 3, none⟩) (Kd.R_far (p := ⟨gb359, 2, none⟩) (Kd.R_far (p := ⟨gb359, 1, none⟩) (Kd.R_far (p := ⟨gb359, 0, none⟩) (Kd.R_far (p := ⟨gb360, 4, none⟩) (Kd.R_types (Kd.R_types HO382.out BK360.out (by decide)) BK359.out (by decide)) (fun _ hk => hk.1.2) (.slice Ao49 y380.length co49)) (fun _ hk => hk.2) (.slice Ao51 x361000_1.length co51)) (fun _ hk => hk.2) (.int .i64 1)) (fun _ hk => hk.2) (.slice Ao36 y368.length co36)) (fun _ hk => hk.2) (.slice Ao43 y374.length co43)) (fun _ hk => hk.2) (.slice Ao49 y380.length co49)) (fun _ hk => ⟨hk.1.1.1, ⟨hk.1.1.2.1, hk.1.1.2.2⟩⟩), by repeat (first | (with_reducible first | exact HB.out | apply below_alloc | apply pw_below_drewN | apply below_drew1 | refine below_set ?_ GE358.out | refine below_set ?_ GE359.out | refine below_set ?_ GE360.out) | exact HB.out)⟩
      ·rw [if_neg c28] at H
       exact absurd H (by simp)
     ·rw [if_neg c27] at H
      exact absurd H (by simp)
    ·rw [if_neg c26] at H
     exact absurd H (by simp)
end Go.Proofs.Ytmkjkkmilopcpaa.Q
namespace Go.Proofs.Ytmkjkkmilopcpaa.Q
open Go.RowKit Go.Proofs.YtmkjkkmilopcpaaW.PrintWords Go.Proofs.YtmkjkkmilopcpaaW.PrintLast Go.Proofs.YtmkjkkmilopcpaaW.PrintMore
set_option linter.unusedVariables false
set_option linter.unusedSimpArgs false
theorem cell_Narrow.callsV {v : CV} {x r : S30} (a b : Int) (w : World) (h : v.rd x w) (hf : cell_Narrow.f x.f0 x.f1 x.f2 x.f3 x.f4 a b = some (r.f0, r.f1, r.f2, r.f3, r.f4)) :
  Calls Try.prog 31 #[v.val x, .int .i64 a, .int .i64 b] w fun e w' => ∃ u : CV, e = .returned (u.val r) ∧ u.ok r w' (fun k_ => w.heap.size ≤ k_) ∧ Below w.heap.size w w' := by
 refine (cell_Narrow.calls v.A0 v.c0 x.f0 x.f1 v.A2 v.c2 x.f2 v.A3 v.c3 x.f3 v.A4 v.c4 x.f4 a b r.f0 r.f1 r.f2 r.f3 r.f4 w h.r0 h.l0 h.r2 h.l2 h.r3 h.l3 h.r4 h.l4 hf).mono ?_
 rintro e w' ⟨v0, v2, v3, v4, rfl, g0, g2, g3, g4, hb⟩
 obtain ⟨u, hu, ho⟩ := CV.told g0 g2 g3 g4
 exact ⟨u, by rw [hu], ho, hb⟩
theorem hypercuberef2_Narrow.callsV (k : Nat) {v : CV} {x r : S30} (a b : Int) (w : World) (h : v.rd x w) (hf : hypercuberef2_Narrow.f k x.f0 x.f1 x.f2 x.f3 x.f4 a b = some (r.f0, r.f1, r.f2, r.f3, r.f4)) :
  Calls Try.prog 32 #[v.val x, .int .i64 a, .int .i64 b] w fun e w' => ∃ u : CV, e = .returned (u.val r) ∧ u.ok r w' (fun k_ => w.heap.size ≤ k_) ∧ Below w.heap.size w w' := by
 refine (hypercuberef2_Narrow.calls k v.A0 v.c0 x.f0 x.f1 v.A2 v.c2 x.f2 v.A3 v.c3 x.f3 v.A4 v.c4 x.f4 a b r.f0 r.f1 r.f2 r.f3 r.f4 w h.r0 h.l0 h.r2 h.l2 h.r3 h.l3 h.r4 h.l4 hf).mono ?_
 rintro e w' ⟨v0, v2, v3, v4, rfl, g0, g2, g3, g4, hb⟩
 obtain ⟨u, hu, ho⟩ := CV.told g0 g2 g3 g4
 exact ⟨u, by rw [hu], ho, hb⟩
theorem cell_Join.callsV (k : Nat) {v v' : CV} {x y r : S30} (w : World) (h : v.rd x w) (h' : v'.rd y w) (hf : cell_Join.f k x.f0 x.f1 x.f2 x.f3 x.f4 y.f0 y.f1 y.f2 y.f3 y.f4 = some (r.f0, r.f1, r.f2, r.f3, r.f4)) :
  Calls Try.prog 21 #[v.val x, v'.val y] w fun e w' => ∃ u : CV, e = .returned (u.val r) ∧ u.ok r w' (fun k_ => w.heap.size ≤ k_) ∧ Below w.heap.size w w' := by
 refine (cell_Join.calls k v.A0 v.c0 x.f0 x.f1 v.A2 v.c2 x.f2 v.A3 v.c3 x.f3 v.A4 v.c4 x.f4 v'.A0 v'.c0 y.f0 y.f1 v'.A2 v'.c2 y.f2 v'.A3 v'.c3 y.f3 v'.A4 v'.c4 y.f4 r.f0 r.f1 r.f2 r.f3 r.f4 w h.r0 h.l0 h.r2 h.l2 h.r3 h.l3 h.r4 h.l4 h'.r0 h'.l0 h'.r2 h'.l2 h'.r3 h'.l3 h'.r4 h'.l4 hf).mono ?_
 rintro e w' ⟨v0, v2, v3, v4, rfl, g0, g2, g3, g4, hb⟩
 obtain ⟨u, hu, ho⟩ := CV.told g0 g2 g3 g4
 exact ⟨u, by rw [hu], ho, hb⟩
theorem hypercuberef2_Join.callsV (k : Nat) {v v' : CV} {x y r : S30} (w : World) (h : v.rd x w) (h' : v'.rd y w) (hf : hypercuberef2_Join.f k x.f0 x.f1 x.f2 x.f3 x.f4 y.f0 y.f1 y.f2 y.f3 y.f4 = some (r.f0, r.f1, r.f2, r.f3, r.f4)) :
  Calls Try.prog 33 #[v.val x, v'.val y] w fun e w' => ∃ u : CV, e = .returned (u.val r) ∧ u.ok r w' (fun k_ => w.heap.size ≤ k_) ∧ Below w.heap.size w w' := by
 refine (hypercuberef2_Join.calls k v.A0 v.c0 x.f0 x.f1 v.A2 v.c2 x.f2 v.A3 v.c3 x.f3 v.A4 v.c4 x.f4 v'.A0 v'.c0 y.f0 y.f1 v'.A2 v'.c2 y.f2 v'.A3 v'.c3 y.f3 v'.A4 v'.c4 y.f4 r.f0 r.f1 r.f2 r.f3 r.f4 w h.r0 h.l0 h.r2 h.l2 h.r3 h.l3 h.r4 h.l4 h'.r0 h'.l0 h'.r2 h'.l2 h'.r3 h'.l3 h'.r4 h'.l4 hf).mono ?_
 rintro e w' ⟨v0, v2, v3, v4, rfl, g0, g2, g3, g4, hb⟩
 obtain ⟨u, hu, ho⟩ := CV.told g0 g2 g3 g4
 exact ⟨u, by rw [hu], ho, hb⟩
theorem cell_Of.callsV {B0 B1 : Option Addr} {d0 d1 : Nat} {y : S45} {r : S30} (s : Int) (w : World) (r0 : Kd.C (Kd.int .i64) w B0 y.f0.length y.f0) (l0 : y.f0.length ≤ d0) (r1 : Kd.C (Kd.int .i64) w B1 y.f1.length y.f1) (l1 : y.f1.length ≤ d1) (hf : cell_Of.f y.f0 y.f1 s = some (r.f0, r.f1, r.f2, r.f3, r.f4)) :
  Calls Try.prog 28 #[.agg #[.slice B0 y.f0.length d0, .slice B1 y.f1.length d1], .int .i64 s] w fun e w' => ∃ u : CV, e = .returned (u.val r) ∧ u.ok r w' (fun k_ => w.heap.size ≤ k_) ∧ Below w.heap.size w w' := by
 refine (cell_Of.calls B0 d0 y.f0 B1 d1 y.f1 s r.f0 r.f1 r.f2 r.f3 r.f4 w r0 l0 r1 l1 hf).mono ?_
 rintro e w' ⟨v0, v2, v3, v4, rfl, g0, g2, g3, g4, hb⟩
 obtain ⟨u, hu, ho⟩ := CV.told g0 g2 g3 g4
 exact ⟨u, by rw [hu], ho, hb⟩
theorem hypercuberef2_Of.callsV (k : Nat) {B0 B1 : Option Addr} {d0 d1 : Nat} {y : S45} {r : S30} (s : Int) (w : World) (r0 : Kd.C (Kd.int .i64) w B0 y.f0.length y.f0) (l0 : y.f0.length ≤ d0) (r1 : Kd.C (Kd.int .i64) w B1 y.f1.length y.f1) (l1 : y.f1.length ≤ d1) (hf : hypercuberef2_Of.f k y.f0 y.f1 s = some (r.f0, r.f1, r.f2, r.f3, r.f4)) :
  Calls Try.prog 30 #[.agg #[.slice B0 y.f0.length d0, .slice B1 y.f1.length d1], .int .i64 s] w fun e w' => ∃ u : CV, e = .returned (u.val r) ∧ u.ok r w' (fun k_ => w.heap.size ≤ k_) ∧ Below w.heap.size w w' := by
 refine (hypercuberef2_Of.calls k B0 d0 y.f0 B1 d1 y.f1 s r.f0 r.f1 r.f2 r.f3 r.f4 w r0 l0 r1 l1 hf).mono ?_
 rintro e w' ⟨v0, v2, v3, v4, rfl, g0, g2, g3, g4, hb⟩
 obtain ⟨u, hu, ho⟩ := CV.told g0 g2 g3 g4
 exact ⟨u, by rw [hu], ho, hb⟩
theorem hypercuberef2_Equal.callsV (k : Nat) {v v' : CV} {x y : S30} {b : Bool} (w : World) (h : v.rd x w) (h' : v'.rd y w) (hf : hypercuberef2_Equal.f k x.f0 x.f1 x.f2 x.f3 x.f4 y.f0 y.f1 y.f2 y.f3 y.f4 = some b) :
  Calls Try.prog 22 #[v.val x, v'.val y] w fun e w' => e = .returned (.bool b) ∧ Below w.heap.size w w' := hypercuberef2_Equal.calls k v.A0 v.c0 x.f0 x.f1 v.A2 v.c2 x.f2 v.A3 v.c3 x.f3 v.A4 v.c4 x.f4 v'.A0 v'.c0 y.f0 y.f1 v'.A2 v'.c2 y.f2 v'.A3 v'.c3 y.f3 v'.A4 v'.c4 y.f4 b w h.r0 h.l0 h.r2 h.l2 h.r3 h.l3 h.r4 h.l4 h'.r0 h'.l0 h'.r2 h'.l2 h'.r3 h'.l3 h'.r4 h'.l4 hf
end Go.Proofs.Ytmkjkkmilopcpaa.Q
