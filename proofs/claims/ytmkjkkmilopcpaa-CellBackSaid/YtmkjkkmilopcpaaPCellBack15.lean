-- packed by wip/tools/pack.py (a program of this session) out of its own texts
import Derived.Test.YtmkjkkmilopcpaaPCellBack0
import Derived.ArgAppend
import Derived.Below
import Derived.BigQuiet
import Derived.Deep.AppendLies
import Derived.Deep.CutBlock
import Derived.Deep.DeepCutAuto
import Derived.Deep.Draws
import Derived.Deep.LoopGhost
import Derived.Deep.OwnRows
import Derived.Deep.QuietTactic
import Derived.Deep.RegionHeld3
import Derived.KernelRfl
import Derived.Laws.BitsLemmas
import Derived.Laws.BytesArg
import Derived.Laws.EntriesVeiled
import Derived.Laws.Externs
import Derived.Laws.IdiomCopy
import Derived.Laws.MakeOwn
import Derived.Laws.OwnMore
import Derived.Laws.Rows
import Derived.Laws.Slices
import Derived.Lib.AppendStr
import Derived.Lib.AppendZeros
import Derived.Lib.AppendZerosOnto
import Derived.Lib.ConvBytes
import Derived.Lib.JoinLaws
import Derived.Lib.Overlaps
import Derived.Lib.SliceRun
import Derived.Lib.Walk
import Derived.LoopIn
import Derived.LoopNIn
import Derived.Maps.AppendAt
import Derived.OrdersHeld
import Derived.OrdersIn
import Derived.OwnWalk
import Derived.OwnWalkIn
import Derived.RangeFuncBound
import Derived.RangeFuncBox
import Derived.RangeFuncCalls
import Derived.RangeFuncLeaves
import Derived.RangeFuncNested
import Derived.RangeFuncOwn
import Derived.RowKit
import Derived.RowKit3
import Derived.Shelf.Abstract
import Derived.Shelf.RegionOpen
import Derived.Shelf.RegionOpenPlain
import Derived.Tactics
import Derived.TacticsInMore
import Derived.Test.YtmkjkkmilopcpaaProg
import Derived.WalkKit
import Derived.WalkSpells
import Derived.WideLaws
import Derived.Test.YtmkjkkmilopcpaaPCellBack1
import Derived.Test.YtmkjkkmilopcpaaPCellBack3
import Derived.Test.YtmkjkkmilopcpaaPCellBack4
import Derived.Test.YtmkjkkmilopcpaaPCellBack5
import Derived.Test.YtmkjkkmilopcpaaPCellBack6
import Derived.Test.YtmkjkkmilopcpaaPCellBack7
import Derived.Test.YtmkjkkmilopcpaaPCellBack8
import Derived.Test.YtmkjkkmilopcpaaPCellBack9
import Derived.Test.YtmkjkkmilopcpaaPCellBack10
import Derived.Test.YtmkjkkmilopcpaaPCellBack11
import Derived.Test.YtmkjkkmilopcpaaPCellBack12
import Derived.Test.YtmkjkkmilopcpaaPCellBack14
namespace Go.Proofs.Ytmkjkkmilopcpaa.Q
open Go.RowKit Go.Proofs.YtmkjkkmilopcpaaW.PrintWords Go.Proofs.YtmkjkkmilopcpaaW.PrintLast Go.Proofs.YtmkjkkmilopcpaaW.PrintMore
set_option linter.unusedVariables false
set_option linter.unusedSimpArgs false
theorem known_of : cell_Of.f [4, 5] [3] 2 = some ([5], 1, [3], [3], [3]) := by decide
theorem known_group : cell_Group.f 9 [⟨[5], 1, [3], [3], [3]⟩, ⟨[5], 1, [3], [3], [3]⟩] = some [⟨[5], 2, [6], [3], [3]⟩] := by kernel_rfl
theorem known_less : cell_Less.f 3 [] [] = some 0 := by kernel_rfl
theorem C_of_blk {w : World} {g : Nat} {xs : List Int} (h : w.heap[g]? = some (.cells (encs (Value.int .i64) xs).toArray 3 (0, 0))) (hl : xs.length ≤ maxLen) : Kd.C (Kd.int .i64) w (some ⟨g, 0, none⟩) xs.length xs := by
 have hR : Kd.R (Kd.int .i64) 3 w 0 (fun _ => True) (.slice (some ⟨g, 0, none⟩) xs.length xs.length) xs := by
  refine Kd.R_of_own (h1 := fun _ => rfl) ⟨by rw [encs_length, Nat.mul_one], .inr ⟨g, xs.length, _, rfl, Nat.zero_le _, h, Nat.le_refl _, hl, ?_, ?_⟩⟩ (fun _ _ => trivial)
  ·rw [List.size_toArray, encs_length, Nat.mul_one]
  ·rw [Nat.mul_one, ← encs_length (enc := Value.int .i64) xs]
   exact List.take_length
 exact (Kd.R_reads' hR).2.2
theorem C_two {w : World} {g : Nat} {x : S30} {cs : List Value} (h : w.heap[g]? = some (.cells (cs ++ cs).toArray 30 (0, 0))) (hx : k30.K w x cs) : Kd.C k30 w (some ⟨g, 0, none⟩) [x, x].length [x, x] := by
 have hl : cs.length = 5 := k30.K_len hx
 refine ⟨rfl, by simp, fun _ => ⟨_, rfl, fun j p hj => ⟨cs, hl, ?_, fun i u hu => ?_⟩⟩⟩
 ·have hm : p = x := by
   have hj2 : j < 2 := (List.getElem?_eq_some_iff.1 hj).1
   match j, hj2, hj with
   | 0, _, hj => simpa using hj.symm
   | 1, _, hj => simpa using hj.symm
  rw [hm]; exact hx
 ·have hi : i < cs.length := (List.getElem?_eq_some_iff.1 hu).1
  rw [Addr.add_lit, cell_of_row w g _ _ _ _ h, List.getElem?_toArray]
  have hj2 : j < 2 := (List.getElem?_eq_some_iff.1 hj).1
  match j, hj2 with
  | 0, _ => rw [Nat.zero_add]; rw [show 0 * k30.sz + i = i by omega, List.getElem?_append_left hi]; exact hu
  | 1, _ => rw [Nat.zero_add, show 1 * k30.sz + i = cs.length + i by rw [hl]; rfl, List.getElem?_append_right (by omega), Nat.add_sub_cancel_left]; exact hu
def hypercubelaw2_known.f : Option Bool := some true
set_option maxHeartbeats 8000000 in
set_option maxRecDepth 100000 in
theorem hypercubelaw2_known.calls (r : Bool) (w : World) (h : hypercubelaw2_known.f = some r) :
    Calls Try.prog 16 #[] w fun e w' => e = .returned (.bool r) ∧ Below w.heap.size w w' := by
 have e : true = r := Option.some.inj h
 subst e
 clear h
 have HB := am (Below.refl w.heap.size w)
 go_enter Try.func16, Try.ntmps16
 go_wp2_with (first
  | ((with_reducible refine gate_callee (f := 28) rfl ?_)
     refine goesL_ (some 6) rfl rfl Try.func28 (by kernel_rfl) rfl #[.agg #[.slice (some ⟨w.heap.size, 0, none⟩) 2 2, .slice (some ⟨w.heap.size + 1, 0, none⟩) 1 1], .int .i64 2] rfl (by (try simp only [List.map_toArray, List.map_cons, List.map_nil]); first | done | rfl) ?_
     refine name_calls ?_
     intro w2 hw2
     have h1 : w2.heap[w.heap.size]? = some (.cells (encs (Value.int .i64) [4, 5]).toArray 3 (0, 0)) := by rw [hw2]; exact (Below.heap_alloc _ _ _ (by rw [World.size_alloc]; omega)).trans (blk_new w _)
     have h2 : w2.heap[w.heap.size + 1]? = some (.cells (encs (Value.int .i64) [3]).toArray 3 (0, 0)) := by rw [hw2]; have := blk_new (w.alloc (.cells #[.int .i64 4, .int .i64 5] 3)) (.cells #[.int .i64 3] 3); rw [World.size_alloc] at this; exact this
     have n0_ : Aside0 (Below w.heap.size w w2) := am (by rw [hw2]; exact below_alloc (below_alloc HB.out _) _)
     clear HB
     have HB := n0_
     clear n0_ hw2
     refine (cell_Of.calls (some ⟨w.heap.size, 0, none⟩) 2 [4, 5] (some ⟨w.heap.size + 1, 0, none⟩) 1 [3] 2 [5] 1 [3] [3] [3] w2 (C_of_blk h1 (by decide)) (by decide) (C_of_blk h2 (by decide)) (by decide) known_of).mono ?_
     rintro e w3 ⟨v0, v2, v3, v4, rfl, p0, p2, p3, p4, hb⟩
     refine ⟨_, rfl, ?_⟩
     obtain ⟨B0, b0, rfl⟩ := Kd.R_slice p0
     obtain ⟨B2, b2, rfl⟩ := Kd.R_slice p2
     obtain ⟨B3, b3, rfl⟩ := Kd.R_slice p3
     obtain ⟨B4, b4, rfl⟩ := Kd.R_slice p4
     have G0 := am p0
     have G2 := am p2
     have G3 := am p3
     have G4 := am p4
     have n0_ := am (below_step HB.out hb)
     clear HB h1 h2 p0 p2 p3 p4 hb
     have HB := n0_
     clear n0_)
  | ((with_reducible refine gate_dst (N := 1) rfl ?_); refine zX #[.slice none 0 0, .int .i64 0, .slice none 0 0, .slice none 0 0, .slice none 0 0] 30 ?_; intro gb hg w4 hbox hb; have n0_ := am (below_step HB.out hb); have n3_ := am hbox; have n4_ := am (show w.heap.size ≤ gb by rw [hg]; have := HB.out.size; omega); have m0_ := am (Kd.R_below (Kd.R_mono (Kd.R_bound G0.out) (ok' := fun k => k < gb) (fun k hk => by rw [hg]; exact hk.2.2.1)) hb); have m2_ := am (Kd.R_below (Kd.R_mono (Kd.R_bound G2.out) (ok' := fun k => k < gb) (fun k hk => by rw [hg]; exact hk.2.2.1)) hb); have m3_ := am (Kd.R_below (Kd.R_mono (Kd.R_bound G3.out) (ok' := fun k => k < gb) (fun k hk => by rw [hg]; exact hk.2.2.1)) hb); have m4_ := am (Kd.R_below (Kd.R_mono (Kd.R_bound G4.out) (ok' := fun k => k < gb) (fun k hk => by rw [hg]; exact hk.2.2.1)) hb); clear G0 G2 G3 G4; have G0 := m0_; have G2 := m2_; have G3 := m3_; have G4 := m4_; clear m0_ m2_ m3_ m4_; clear HB; have HB := n0_; have BKb := n3_; have GEb := n4_; clear n0_ n3_ n4_; clear hb hbox hg; have hcz0 := (blk_cell BKb.out 0).trans rfl; have hcz1 := (blk_cell BKb.out 1).trans rfl; have hcz2 := (blk_cell BKb.out 2).trans rfl; have hcz3 := (blk_cell BKb.out 3).trans rfl; have hcz4 := (blk_cell BKb.out 4).trans rfl; have hfz0 := blk_frozen BKb.out 0; have hfz1 := blk_frozen BKb.out 1; have hfz2 := blk_frozen BKb.out 2; have hfz3 := blk_frozen BKb.out 3; have hfz4 := blk_frozen BKb.out 4)
  | ((with_reducible refine gate_callee (f := 26) rfl ?_)
     refine goesL_ (some 10) rfl rfl Try.func26 (by kernel_rfl) rfl #[.slice (some ⟨w4.heap.size, 0, none⟩) 2 2] rfl (by (try simp only [List.map_toArray, List.map_cons, List.map_nil]); first | done | rfl) ?_
     refine name_calls ?_
     intro w5 hw5
     have hw5' : w5 = (((((w4.setCell ⟨gb, 0, none⟩ (.slice B0 1 b0)).setCell ⟨gb, 1, none⟩ (.int .i64 1)).setCell ⟨gb, 2, none⟩ (.slice B2 1 b2)).setCell ⟨gb, 3, none⟩ (.slice B3 1 b3)).setCell ⟨gb, 4, none⟩ (.slice B4 1 b4)).alloc (.cells #[.slice B0 1 b0, .int .i64 1, .slice B2 1 b2, .slice B3 1 b3, .slice B4 1 b4, .slice B0 1 b0, .int .i64 1, .slice B2 1 b2, .slice B3 1 b3, .slice B4 1 b4] 30) := hw5
     have hs : (((((w4.setCell ⟨gb, 0, none⟩ (.slice B0 1 b0)).setCell ⟨gb, 1, none⟩ (.int .i64 1)).setCell ⟨gb, 2, none⟩ (.slice B2 1 b2)).setCell ⟨gb, 3, none⟩ (.slice B3 1 b3)).setCell ⟨gb, 4, none⟩ (.slice B4 1 b4)).heap.size = w4.heap.size := by simp
     have hk5 : Kept w4 w5 (fun k => k = gb) := by
      rw [hw5']
      refine Kept.alloc ?_ _
      refine Kept.setCell (S := fun k => k = gb) (p := ⟨gb, 4, none⟩) ?_ (.inl rfl) _
      refine Kept.setCell (S := fun k => k = gb) (p := ⟨gb, 3, none⟩) ?_ (.inl rfl) _
      refine Kept.setCell (S := fun k => k = gb) (p := ⟨gb, 2, none⟩) ?_ (.inl rfl) _
      refine Kept.setCell (S := fun k => k = gb) (p := ⟨gb, 1, none⟩) ?_ (.inl rfl) _
      refine Kept.setCell (S := fun k => k = gb) (p := ⟨gb, 0, none⟩) ?_ (.inl rfl) _
      exact Kept.refl _ _
     have hl5 : w5.heap[w4.heap.size]? = some (.cells (([.slice B0 1 b0, .int .i64 1, .slice B2 1 b2, .slice B3 1 b3, .slice B4 1 b4] : List Value) ++ ([.slice B0 1 b0, .int .i64 1, .slice B2 1 b2, .slice B3 1 b3, .slice B4 1 b4] : List Value)).toArray 30 (0, 0)) := by
      rw [hw5']
      have := blk_new (((((w4.setCell ⟨gb, 0, none⟩ (.slice B0 1 b0)).setCell ⟨gb, 1, none⟩ (.int .i64 1)).setCell ⟨gb, 2, none⟩ (.slice B2 1 b2)).setCell ⟨gb, 3, none⟩ (.slice B3 1 b3)).setCell ⟨gb, 4, none⟩ (.slice B4 1 b4)) (.cells #[.slice B0 1 b0, .int .i64 1, .slice B2 1 b2, .slice B3 1 b3, .slice B4 1 b4, .slice B0 1 b0, .int .i64 1, .slice B2 1 b2, .slice B3 1 b3, .slice B4 1 b4] 30)
      rw [hs] at this
      exact this
     have hg5 : w5.heap[gb]? = some (.cells #[.slice B0 1 b0, .int .i64 1, .slice B2 1 b2, .slice B3 1 b3, .slice B4 1 b4] 30 (0, 0)) := by
      rw [hw5']
      refine blk_alloc ?_ _
      refine blk_put (cs := #[.slice B0 1 b0, .int .i64 1, .slice B2 1 b2, .slice B3 1 b3, .slice none 0 0]) ?_ 4 _ rfl
      refine blk_put (cs := #[.slice B0 1 b0, .int .i64 1, .slice B2 1 b2, .slice none 0 0, .slice none 0 0]) ?_ 3 _ rfl
      refine blk_put (cs := #[.slice B0 1 b0, .int .i64 1, .slice none 0 0, .slice none 0 0, .slice none 0 0]) ?_ 2 _ rfl
      refine blk_put (cs := #[.slice B0 1 b0, .int .i64 0, .slice none 0 0, .slice none 0 0, .slice none 0 0]) ?_ 1 _ rfl
      refine blk_put (cs := #[.slice none 0 0, .int .i64 0, .slice none 0 0, .slice none 0 0, .slice none 0 0]) ?_ 0 _ rfl
      exact BKb.out
     have n0_ : Aside0 (Below w.heap.size w w5) := am (by
      rw [hw5']
      refine below_alloc ?_ _
      refine below_set (g := gb) (j := 4) ?_ GEb.out
      refine below_set (g := gb) (j := 3) ?_ GEb.out
      refine below_set (g := gb) (j := 2) ?_ GEb.out
      refine below_set (g := gb) (j := 1) ?_ GEb.out
      refine below_set (g := gb) (j := 0) ?_ GEb.out
      exact HB.out)
     have p0 := Kd.R_kept G0.out hk5 (fun k hk e => by omega)
     have p2 := Kd.R_kept G2.out hk5 (fun k hk e => by omega)
     have p3 := Kd.R_kept G3.out hk5 (fun k hk e => by omega)
     have p4 := Kd.R_kept G4.out hk5 (fun k hk e => by omega)
     clear HB G0 G2 G3 G4 BKb hs hk5 hw5' hw5
     have HB := n0_
     clear n0_
     refine (cell_Group.calls 9 (some ⟨w4.heap.size, 0, none⟩) 2 [(⟨[5], 1, [3], [3], [3]⟩ : S30), ⟨[5], 1, [3], [3], [3]⟩] _ w5 (C_two hl5 (k30_mk w5 (⟨[5], 1, [3], [3], [3]⟩ : S30) (Kd.R_reads' p0).2.1 (Kd.R_reads' p0).2.2 (Kd.R_reads' p2).2.1 (Kd.R_reads' p2).2.2 (Kd.R_reads' p3).2.1 (Kd.R_reads' p3).2.2 (Kd.R_reads' p4).2.1 (Kd.R_reads' p4).2.2)) (by decide) known_group).mono ?_
     rintro e w6 ⟨v, rfl, hS, hb⟩
     refine ⟨_, rfl, ?_⟩
     obtain ⟨A, c, rfl⟩ := Kd.S_slice hS
     have hC := (Kd.S_reads' hS).2.2
     obtain ⟨ad, E0, d0, E2, d2, E3, d3, E4, d4, eA, q0, q1, q2, q3, q4, g0, K0, g2, K2, g3, K3, g4, K4⟩ := at_T30 hC 0 (by decide) (by decide)
     cases eA
     obtain ⟨g, rfl⟩ := Kd.R_head (Kd.S_R hS)
     obtain ⟨a2, e2, z2⟩ := Kd.at_int K2 0 (by decide) (by decide)
     cases e2
     obtain ⟨a0, e0, z0⟩ := Kd.at_int (Kd.R_reads' p0).2.2 0 (by decide) (by decide)
     cases e0
     have z0' := (hb.cell (World.block_lt_of_cell? _ _ z0)).trans z0
     have z00 : w6.cell? a0 = some (.int .i64 5) := by rw [← show a0.add (0 : Int).toNat = a0 by simp [Addr.add]]; exact z0'
     have z22 : w6.cell? a2 = some (.int .i64 6) := by rw [← show a2.add (0 : Int).toNat = a2 by simp [Addr.add]]; exact z2
     have y1 : w6.cell? ⟨g, 1, none⟩ = some (.int .i64 2) := q1
     have y2 : w6.cell? ⟨g, 2, none⟩ = some (.slice (some a2) 1 d2) := q2
     have b6 := blk_below hg5 hb
     have x0 : w6.cell? ⟨gb, 0, none⟩ = some (.slice (some a0) 1 b0) := (blk_cell b6 0).trans rfl
     have x1 : w6.cell? ⟨gb, 1, none⟩ = some (.int .i64 1) := (blk_cell b6 1).trans rfl
     have n0_ := am (below_step HB.out hb)
     clear HB hg5 hl5 p0 p2 p3 p4 hS hb hC q0 q1 q2 q3 q4 g0 K0 g2 K2 g3 K3 g4 K4 z0 z0' z2 b6
     have HB := n0_
     clear n0_)
  | ((with_reducible refine gate_callee (f := 17) rfl ?_)
     refine goesL_ (some 11) rfl rfl Try.func17 (by kernel_rfl) rfl #[.slice none 0 0, .slice none 0 0] rfl (by (try simp only [List.map_toArray, List.map_cons, List.map_nil]); first | done | rfl) ?_
     refine (cell_Less.calls 3 none 0 [] none 0 [] 0 _ (Kd.C_nil _ _) (by decide) (Kd.C_nil _ _) (by decide) known_less).mono ?_
     rintro e w7 ⟨rfl, ⟨nd, rfl⟩⟩
     refine ⟨_, rfl, ?_⟩))
 go_ret
 exact ⟨rfl, by (with_reducible repeat (first | exact HB.out | apply pw_below_drewN))⟩
end Go.Proofs.Ytmkjkkmilopcpaa.Q
namespace Go.Proofs.Ytmkjkkmilopcpaa.Q
open Go.RowKit Go.Proofs.YtmkjkkmilopcpaaW.PrintWords Go.Proofs.YtmkjkkmilopcpaaW.PrintLast Go.Proofs.YtmkjkkmilopcpaaW.PrintMore
attribute [local go_sem] max2_int min2_int max_two min_two max_three min_three max_four min_four
set_option linter.unusedVariables false
set_option linter.unusedSimpArgs false
mutual
def hypercuberef2_Less.l0 : Nat → List Int → List Int → Int → Option (Int)
 | 0, _, _, _ => none
 | k + 1, x0, x1, x5 => if x5 < (x0.length : Int) then (hypercuberef2_Less.j1 k x0 x1 x5 (decide (x5 < (x1.length : Int)))) else (hypercuberef2_Less.j1 k x0 x1 x5 false)
def hypercuberef2_Less.j1 : Nat → List Int → List Int → Int → Bool → Option (Int)
 | 0, _, _, _, _ => none
 | k + 1, x0, x1, x5, x15 => if x15 = true then (if 0 ≤ x5 then (if x5 < (x0.length : Int) then (if x5 < (x1.length : Int) then (if (rd x0 x5) < (rd x1 x5) then (some (-1)) else (if (rd x0 x5) > (rd x1 x5) then (some 1) else (hypercuberef2_Less.l0 k x0 x1 (wrap64 (x5 + 1))))) else (none)) else (none)) else (none)) else (if (x0.length : Int) < (x1.length : Int) then (some (-1)) else (if (x0.length : Int) > (x1.length : Int) then (some 1) else (some 0)))
end
def hypercuberef2_Less.f (k : Nat) (l0 : List Int) (l1 : List Int) : Option (Int) := hypercuberef2_Less.l0 k l0 l1 0
set_option maxHeartbeats 8000000 in
set_option maxRecDepth 100000 in
theorem hypercuberef2_Less.calls (k : Nat) (A0 : Option Addr) (c0 : Nat) (l0 : List Int) (A1 : Option Addr) (c1 : Nat) (l1 : List Int) (r : Int) (w : World) (hr0 : Kd.C (Kd.int .i64) w A0 l0.length l0) (hc0 : l0.length ≤ c0) (hr1 : Kd.C (Kd.int .i64) w A1 l1.length l1) (hc1 : l1.length ≤ c1) (h : hypercuberef2_Less.f k l0 l1 = some r) :
  Calls Try.prog 18 #[.slice A0 l0.length c0, .slice A1 l1.length c1] w fun e w' => e = .returned (.int .i64 r) ∧ Drawn0 w w' := by
 have HR0 := am hr0
 have HC0 := am hc0
 clear hr0 hc0
 have HR1 := am hr1
 have HC1 := am hc1
 clear hr1 hc1
 have H : (hypercuberef2_Less.l0 k l0 l1 0) = some r := h
 clear h
 have H' := am H
 clear H
 go_enter Try.func18, Try.ntmps18
 go_wp2
 repeat (go_quiet (fail); try go_wp2)
 go_loopg [5] k (fun kq v5 w' => ∃ (x5_1 : Int), v5 = .int .i64 x5_1 ∧ Aside0 (hypercuberef2_Less.l0 kq l0 l1 x5_1 = some r) ∧ Aside0 (kq ≤ k) ∧ Drawn0 w w')
 case atStart => exact ⟨(0), zz, H', ⟨Nat.le_refl _⟩, by repeat (first | exact Drawn0.refl _ | apply Drawn0.step)⟩
 case round =>
  clear H'
  try clear c1
  try clear p2
  obtain ⟨x5_1, rfl, HA, HK1, ⟨m1, rfl⟩⟩ := hrel
  cases gk with
  | zero => exact absurd HA.out (by simp [hypercuberef2_Less.l0])
  | succ k1 =>
   have H := HA.out
   clear HA
   simp only [hypercuberef2_Less.l0] at H
   have HC3 := am H
   clear H
   go_upto_region 2 with (fail)
   repeat (go_quiet (fail); go_upto_region 2 with (fail))
   go_cut [15] (fun v15 wc => ∃ (kq : Nat) (x15_2 : Bool), v15 = .bool x15_2 ∧ Aside0 (hypercuberef2_Less.j1 kq l0 l1 x5_1 x15_2 = some r) ∧ Aside0 (kq ≤ k1) ∧ Drawn0 w wc)
   case first =>
    have H := HC3.out
    clear HC3
    by_cases c4 : x5_1 < (l0.length : Int)
    ·rw [if_pos c4] at H
     have c4b0 : decide (x5_1 < (l0.length : Int)) = true := decide_eq_true c4
     clear c4
     (first | rw [c4b0] | (simp only [i64_w, i32_w]; rw [c4b0]) | skip)
     have H' := am H
     clear H
     go_wp2
     repeat (go_quiet (fail); try go_wp2)
     go_meet
     case rel => exact ⟨_, (decide (x5_1 < (l1.length : Int))), zz, H', ⟨by have := HK1.out; first | omega | exact Nat.le_refl _⟩, by repeat (first | exact Drawn0.refl _ | apply Drawn0.step)⟩
    ·rw [if_neg c4] at H
     have c4b0 : decide (x5_1 < (l0.length : Int)) = false := decide_eq_false c4
     clear c4
     (first | rw [c4b0] | (simp only [i64_w, i32_w]; rw [c4b0]) | skip)
     have H' := am H
     clear H
     go_wp2
     repeat (go_quiet (fail); try go_wp2)
     go_meet
     case rel => exact ⟨_, (false), zz, H', ⟨by have := HK1.out; first | omega | exact Nat.le_refl _⟩, by repeat (first | exact Drawn0.refl _ | apply Drawn0.step)⟩
   case rest =>
    clear HC3
    try clear c1
    try clear p2
    try clear c4
    try clear c4b0
    try clear p2
    obtain ⟨kq, x15_2, rfl, HA, HJ2, ⟨mc2, rfl⟩⟩ := hcut
    cases kq with
    | zero => exact absurd HA.out (by simp [hypercuberef2_Less.j1])
    | succ kj2 =>
     have H := HA.out
     clear HA
     simp only [hypercuberef2_Less.j1] at H
     by_cases c5 : x15_2 = true
     ·subst c5
      have H1 : (if 0 ≤ x5_1 then (if x5_1 < (l0.length : Int) then (if x5_1 < (l1.length : Int) then (if (rd l0 x5_1) < (rd l1 x5_1) then (some (-1)) else (if (rd l0 x5_1) > (rd l1 x5_1) then (some 1) else (hypercuberef2_Less.l0 kj2 l0 l1 (wrap64 (x5_1 + 1))))) else (none)) else (none)) else (none)) = some r := by rw [if_pos rfl] at H; exact H
      clear H
      have H := H1
      clear H1
      by_cases c6 : 0 ≤ x5_1
      ·rw [if_pos c6] at H
       have c6b0 : decide (0 ≤ x5_1) = true := decide_eq_true c6
       clear c6
       by_cases c7 : x5_1 < (l0.length : Int)
       ·rw [if_pos c7] at H
        have c7b0 : decide (x5_1 < (l0.length : Int)) = true := decide_eq_true c7
        clear c7
        by_cases c8 : x5_1 < (l1.length : Int)
        ·rw [if_pos c8] at H
         have c8b0 : decide (x5_1 < (l1.length : Int)) = true := decide_eq_true c8
         clear c8
         by_cases c9 : (rd l0 x5_1) < (rd l1 x5_1)
         ·rw [if_pos c9] at H
          have c9b0 : decide ((rd l0 x5_1) < (rd l1 x5_1)) = true := decide_eq_true c9
          clear c9
          obtain rfl := Option.some.inj H
          have p181 : 0 ≤ (x5_1 : Int) := zd
          have q181 : x5_1 < (l0.length : Int) := zd
          obtain ⟨ad181, e181, hx181_0⟩ := Kd.at_int HR0.out x5_1 p181 q181
          cases e181
          replace p181 := eq_true p181
          replace q181 := eq_true q181
          have p182 : 0 ≤ (x5_1 : Int) := zd
          have q182 : x5_1 < (l1.length : Int) := zd
          obtain ⟨ad182, e182, hx182_0⟩ := Kd.at_int HR1.out x5_1 p182 q182
          cases e182
          replace p182 := eq_true p182
          replace q182 := eq_true q182
          go_wp2
          repeat (go_quiet (fail); try go_wp2)
          go_ret
          exact ⟨by first | rfl | (simp; done) | (simp [*]; done), by repeat (first | exact Drawn0.refl _ | apply Drawn0.step)⟩
         ·rw [if_neg c9] at H
          have c9b0 : decide ((rd l0 x5_1) < (rd l1 x5_1)) = false := decide_eq_false c9
          clear c9
          by_cases c10 : (rd l0 x5_1) > (rd l1 x5_1)
          ·rw [if_pos c10] at H
           have c10b0 : decide ((rd l1 x5_1) < (rd l0 x5_1)) = true := decide_eq_true c10
           clear c10
           obtain rfl := Option.some.inj H
           have p181 : 0 ≤ (x5_1 : Int) := zd
           have q181 : x5_1 < (l0.length : Int) := zd
           obtain ⟨ad181, e181, hx181_0⟩ := Kd.at_int HR0.out x5_1 p181 q181
           cases e181
           replace p181 := eq_true p181
           replace q181 := eq_true q181
           have p182 : 0 ≤ (x5_1 : Int) := zd
           have q182 : x5_1 < (l1.length : Int) := zd
           obtain ⟨ad182, e182, hx182_0⟩ := Kd.at_int HR1.out x5_1 p182 q182
           cases e182
           replace p182 := eq_true p182
           replace q182 := eq_true q182
           have p183 : 0 ≤ (x5_1 : Int) := zd
           have q183 : x5_1 < (l0.length : Int) := zd
           obtain ⟨ad183, e183, hx183_0⟩ := Kd.at_int HR0.out x5_1 p183 q183
           obtain rfl : ad181 = ad183 := (by injection e183)
           replace p183 := eq_true p183
           replace q183 := eq_true q183
           have p184 : 0 ≤ (x5_1 : Int) := zd
           have q184 : x5_1 < (l1.length : Int) := zd
           obtain ⟨ad184, e184, hx184_0⟩ := Kd.at_int HR1.out x5_1 p184 q184
           obtain rfl : ad182 = ad184 := (by injection e184)
           replace p184 := eq_true p184
           replace q184 := eq_true q184
           go_wp2
           repeat (go_quiet (fail); try go_wp2)
           go_ret
           exact ⟨by first | rfl | (simp; done) | (simp [*]; done), by repeat (first | exact Drawn0.refl _ | apply Drawn0.step)⟩
          ·rw [if_neg c10] at H
           have c10b0 : decide ((rd l1 x5_1) < (rd l0 x5_1)) = false := decide_eq_false c10
           clear c10
           have H' := am H
           clear H
           have p181 : 0 ≤ (x5_1 : Int) := zd
           have q181 : x5_1 < (l0.length : Int) := zd
           obtain ⟨ad181, e181, hx181_0⟩ := Kd.at_int HR0.out x5_1 p181 q181
           cases e181
           replace p181 := eq_true p181
           replace q181 := eq_true q181
           have p182 : 0 ≤ (x5_1 : Int) := zd
           have q182 : x5_1 < (l1.length : Int) := zd
           obtain ⟨ad182, e182, hx182_0⟩ := Kd.at_int HR1.out x5_1 p182 q182
           cases e182
           replace p182 := eq_true p182
           replace q182 := eq_true q182
           have p183 : 0 ≤ (x5_1 : Int) := zd
           have q183 : x5_1 < (l0.length : Int) := zd
           obtain ⟨ad183, e183, hx183_0⟩ := Kd.at_int HR0.out x5_1 p183 q183
           obtain rfl : ad181 = ad183 := (by injection e183)
           replace p183 := eq_true p183
           replace q183 := eq_true q183
           have p184 : 0 ≤ (x5_1 : Int) := zd
           have q184 : x5_1 < (l1.length : Int) := zd
           obtain ⟨ad184, e184, hx184_0⟩ := Kd.at_int HR1.out x5_1 p184 q184
           obtain rfl : ad182 = ad184 := (by injection e184)
           replace p184 := eq_true p184
           replace q184 := eq_true q184
           go_wp2
           repeat (go_quiet (fail); try go_wp2)
           go_roundg kj2
           case measure => have := HK1.out; have := HJ2.out; omega
           case rel => exact ⟨(wrap64 (x5_1 + 1)), zz, H', ⟨by have := HK1.out; have := HJ2.out; omega⟩, by repeat (first | exact Drawn0.refl _ | apply Drawn0.step)⟩
        ·rw [if_neg c8] at H
         exact absurd H (by simp)
       ·rw [if_neg c7] at H
        exact absurd H (by simp)
      ·rw [if_neg c6] at H
       exact absurd H (by simp)
     ·replace c5 := Bool.eq_false_iff.mpr c5
      subst c5
      have H1 : (if (l0.length : Int) < (l1.length : Int) then (some (-1)) else (if (l0.length : Int) > (l1.length : Int) then (some 1) else (some 0))) = some r := by rw [if_neg (show ¬ (false = true) by decide)] at H; exact H
      clear H
      have H := H1
      clear H1
      by_cases c11 : (l0.length : Int) < (l1.length : Int)
      ·rw [if_pos c11] at H
       have c11b0 : decide ((l0.length : Int) < (l1.length : Int)) = true := decide_eq_true c11
       have c11b1 : decide (l0.length < l1.length) = true := decide_eq_true (Int.ofNat_lt.mp c11)
       clear c11
       obtain rfl := Option.some.inj H
       go_wp2
       repeat (go_quiet (fail); try go_wp2)
       go_ret
       exact ⟨by first | rfl | (simp; done) | (simp [*]; done), by repeat (first | exact Drawn0.refl _ | apply Drawn0.step)⟩
      ·rw [if_neg c11] at H
       have c11b0 : decide ((l0.length : Int) < (l1.length : Int)) = false := decide_eq_false c11
       have c11b1 : decide (l0.length < l1.length) = false := decide_eq_false (fun h => c11 (Int.ofNat_lt.mpr h))
       clear c11
       by_cases c12 : (l0.length : Int) > (l1.length : Int)
       ·rw [if_pos c12] at H
        have c12b0 : decide ((l1.length : Int) < (l0.length : Int)) = true := decide_eq_true c12
        have c12b1 : decide (l1.length < l0.length) = true := decide_eq_true (Int.ofNat_lt.mp c12)
        clear c12
        obtain rfl := Option.some.inj H
        go_wp2
        repeat (go_quiet (fail); try go_wp2)
        go_ret
        exact ⟨by first | rfl | (simp; done) | (simp [*]; done), by repeat (first | exact Drawn0.refl _ | apply Drawn0.step)⟩
       ·rw [if_neg c12] at H
        have c12b0 : decide ((l1.length : Int) < (l0.length : Int)) = false := decide_eq_false c12
        have c12b1 : decide (l1.length < l0.length) = false := decide_eq_false (fun h => c12 (Int.ofNat_lt.mpr h))
        clear c12
        obtain rfl := Option.some.inj H
        go_wp2
        repeat (go_quiet (fail); try go_wp2)
        go_ret
        exact ⟨by first | rfl | (simp; done) | (simp [*]; done), by repeat (first | exact Drawn0.refl _ | apply Drawn0.step)⟩
def hypercuberef1_Ints.l0 : Nat → List Int → List Int → Int → Option (Bool)
 | 0, _, _, _ => none
 | k + 1, x0, x1, x5 => if x5 < (x0.length : Int) then (if 0 ≤ x5 then (if x5 < (x1.length : Int) then (if (rd x0 x5) = (rd x1 x5) then (hypercuberef1_Ints.l0 k x0 x1 (wrap64 (x5 + 1))) else (some false)) else (none)) else (none)) else (some true)
def hypercuberef1_Ints.f (k : Nat) (l0 : List Int) (l1 : List Int) : Option (Bool) := if (l0.length : Int) = (l1.length : Int) then (hypercuberef1_Ints.l0 k l0 l1 0) else (some false)
set_option maxHeartbeats 8000000 in
set_option maxRecDepth 100000 in
theorem hypercuberef1_Ints.calls (k : Nat) (A0 : Option Addr) (c0 : Nat) (l0 : List Int) (A1 : Option Addr) (c1 : Nat) (l1 : List Int) (r : Bool) (w : World) (hr0 : Kd.C (Kd.int .i64) w A0 l0.length l0) (hc0 : l0.length ≤ c0) (hr1 : Kd.C (Kd.int .i64) w A1 l1.length l1) (hc1 : l1.length ≤ c1) (h : hypercuberef1_Ints.f k l0 l1 = some r) :
  Calls Try.prog 19 #[.slice A0 l0.length c0, .slice A1 l1.length c1] w fun e w' => e = .returned (.bool r) ∧ Drawn0 w w' := by
 have HR0 := am hr0
 have HC0 := am hc0
 clear hr0 hc0
 have HR1 := am hr1
 have HC1 := am hc1
 clear hr1 hc1
 have H : (if (l0.length : Int) = (l1.length : Int) then (hypercuberef1_Ints.l0 k l0 l1 0) else (some false)) = some r := h
 clear h
 by_cases c3 : (l0.length : Int) = (l1.length : Int)
 ·rw [if_pos c3] at H
  have c3b0 : ((l0.length : Int) == (l1.length : Int)) = true := beq_iff_eq.mpr c3
  have c3b1 : ((l0.length : Int) != (l1.length : Int)) = false := bne_eq_false_iff_eq.mpr c3
  have c3b2 : (l0.length == l1.length) = true := by first | simpa using c3 | (simp at c3 ⊢; omega)
  clear c3
  have H' := am H
  clear H
  go_enter Try.func19, Try.ntmps19
  go_wp2
  repeat (go_quiet (fail); try go_wp2)
  go_loopg [5] k (fun kq v5 w' => ∃ (x5_1 : Int), v5 = .int .i64 x5_1 ∧ Aside0 (hypercuberef1_Ints.l0 kq l0 l1 x5_1 = some r) ∧ Aside0 (kq ≤ k) ∧ Drawn0 w w')
  case atStart => exact ⟨(0), zz, H', ⟨Nat.le_refl _⟩, by repeat (first | exact Drawn0.refl _ | apply Drawn0.step)⟩
  case round =>
   clear H'
   try clear c1
   try clear p2
   try clear c3
   try clear c3b0
   try clear c3b1
   try clear c3b2
   obtain ⟨x5_1, rfl, HA, HK1, ⟨m1, rfl⟩⟩ := hrel
   cases gk with
   | zero => exact absurd HA.out (by simp [hypercuberef1_Ints.l0])
   | succ k1 =>
    have H := HA.out
    clear HA
    simp only [hypercuberef1_Ints.l0] at H
    by_cases c4 : x5_1 < (l0.length : Int)
    ·rw [if_pos c4] at H
     have c4b0 : decide (x5_1 < (l0.length : Int)) = true := decide_eq_true c4
     clear c4
     by_cases c5 : 0 ≤ x5_1
     ·rw [if_pos c5] at H
      have c5b0 : decide (0 ≤ x5_1) = true := decide_eq_true c5
      clear c5
      by_cases c6 : x5_1 < (l1.length : Int)
      ·rw [if_pos c6] at H
       have c6b0 : decide (x5_1 < (l1.length : Int)) = true := decide_eq_true c6
       clear c6
       by_cases c7 : (rd l0 x5_1) = (rd l1 x5_1)
       ·rw [if_pos c7] at H
        have c7b0 : ((rd l0 x5_1) == (rd l1 x5_1)) = true := beq_iff_eq.mpr c7
        have c7b1 : ((rd l0 x5_1) != (rd l1 x5_1)) = false := bne_eq_false_iff_eq.mpr c7
        clear c7
        have H' := am H
        clear H
        have p185 : 0 ≤ (x5_1 : Int) := zd
        have q185 : x5_1 < (l0.length : Int) := zd
        obtain ⟨ad185, e185, hx185_0⟩ := Kd.at_int HR0.out x5_1 p185 q185
        cases e185
        replace p185 := eq_true p185
        replace q185 := eq_true q185
        have p186 : 0 ≤ (x5_1 : Int) := zd
        have q186 : x5_1 < (l1.length : Int) := zd
        obtain ⟨ad186, e186, hx186_0⟩ := Kd.at_int HR1.out x5_1 p186 q186
        cases e186
        replace p186 := eq_true p186
        replace q186 := eq_true q186
        go_wp2
        repeat (go_quiet (fail); try go_wp2)
        go_roundg k1
        case measure => have := HK1.out; omega
        case rel => exact ⟨(wrap64 (x5_1 + 1)), zz, H', ⟨by have := HK1.out; omega⟩, by repeat (first | exact Drawn0.refl _ | apply Drawn0.step)⟩
       ·rw [if_neg c7] at H
        have c7b0 : ((rd l0 x5_1) == (rd l1 x5_1)) = false := beq_eq_false_iff_ne.mpr c7
        have c7b1 : ((rd l0 x5_1) != (rd l1 x5_1)) = true := bne_iff_ne.mpr c7
        obtain rfl := Option.some.inj H
        have p185 : 0 ≤ (x5_1 : Int) := zd
        have q185 : x5_1 < (l0.length : Int) := zd
        obtain ⟨ad185, e185, hx185_0⟩ := Kd.at_int HR0.out x5_1 p185 q185
        cases e185
        replace p185 := eq_true p185
        replace q185 := eq_true q185
        have p186 : 0 ≤ (x5_1 : Int) := zd
        have q186 : x5_1 < (l1.length : Int) := zd
        obtain ⟨ad186, e186, hx186_0⟩ := Kd.at_int HR1.out x5_1 p186 q186
        cases e186
        replace p186 := eq_true p186
        replace q186 := eq_true q186
        go_wp2
        repeat (go_quiet (fail); try go_wp2)
        go_ret
        exact ⟨by first | rfl | (simp; done) | (simp [*]; done), by repeat (first | exact Drawn0.refl _ | apply Drawn0.step)⟩
      ·rw [if_neg c6] at H
       exact absurd H (by simp)
     ·rw [if_neg c5] at H
      exact absurd H (by simp)
    ·rw [if_neg c4] at H
     have c4b0 : decide (x5_1 < (l0.length : Int)) = false := decide_eq_false c4
     clear c4
     obtain rfl := Option.some.inj H
     go_wp2
     repeat (go_quiet (fail); try go_wp2)
     go_ret
     exact ⟨by first | rfl | (simp; done) | (simp [*]; done), by repeat (first | exact Drawn0.refl _ | apply Drawn0.step)⟩
 ·rw [if_neg c3] at H
  have c3b0 : ((l0.length : Int) == (l1.length : Int)) = false := beq_eq_false_iff_ne.mpr c3
  have c3b1 : ((l0.length : Int) != (l1.length : Int)) = true := bne_iff_ne.mpr c3
  have c3b2 : (l0.length == l1.length) = false := by first | simpa using c3 | (simp at c3 ⊢; omega)
  obtain rfl := Option.some.inj H
  go_enter Try.func19, Try.ntmps19
  go_wp2
  repeat (go_quiet (fail); try go_wp2)
  go_ret
  exact ⟨by first | rfl | (simp; done) | (simp [*]; done), by repeat (first | exact Drawn0.refl _ | apply Drawn0.step)⟩
def hypercubelaw2_within.f (a0 : Int) (a1 : Int) : Option (Int) := if a1 = 0 then (none) else (if (Int.tmod a0 a1) < 0 then (some (wrap64 ((Int.tmod a0 a1) + a1))) else (some (Int.tmod a0 a1)))
set_option maxHeartbeats 8000000 in
set_option maxRecDepth 100000 in
theorem hypercubelaw2_within.calls (a0 : Int) (a1 : Int) (r : Int) (w : World) (h : hypercubelaw2_within.f a0 a1 = some r) :
  Calls Try.prog 20 #[.int .i64 a0, .int .i64 a1] w fun e w' => e = .returned (.int .i64 r) ∧ Drawn0 w w' := by
 have H : (if a1 = 0 then (none) else (if (Int.tmod a0 a1) < 0 then (some (wrap64 ((Int.tmod a0 a1) + a1))) else (some (Int.tmod a0 a1)))) = some r := h
 clear h
 by_cases c3 : a1 = 0
 ·rw [if_pos c3] at H
  exact absurd H (by simp)
 ·rw [if_neg c3] at H
  have c3b0 : (a1 == 0) = false := beq_eq_false_iff_ne.mpr c3
  have c3b1 : (a1 != 0) = true := bne_iff_ne.mpr c3
  by_cases c4 : (Int.tmod a0 a1) < 0
  ·rw [if_pos c4] at H
   have c4b0 : decide ((Int.tmod a0 a1) < 0) = true := decide_eq_true c4
   clear c4
   obtain rfl := Option.some.inj H
   go_enter Try.func20, Try.ntmps20
   go_wp2
   go_ret
   exact ⟨by first | rfl | (simp; done) | (simp [*]; done), by repeat (first | exact Drawn0.refl _ | apply Drawn0.step)⟩
  ·rw [if_neg c4] at H
   have c4b0 : decide ((Int.tmod a0 a1) < 0) = false := decide_eq_false c4
   clear c4
   obtain rfl := Option.some.inj H
   go_enter Try.func20, Try.ntmps20
   go_wp2
   go_ret
   exact ⟨by first | rfl | (simp; done) | (simp [*]; done), by repeat (first | exact Drawn0.refl _ | apply Drawn0.step)⟩
def hypercuberef2_Of.l0 : Nat → Int → Int → List Int → List Int → List Int → Int → Option (List Int × Int × List Int × List Int × List Int)
 | 0, _, _, _, _, _, _ => none
 | k + 1, x1, x6, x233000, x233001, x235000, x235001 => if x6 < (x233000.length : Int) then (if 0 ≤ (IntKind.u64.wrap (x6)) then (if (Go.bits .and .i64 (shr .i64 x1 (IntKind.u64.wrap (x6))) 1) = 1 then (if 0 ≤ x6 then (if x235000.length < 17592186044416 then (hypercuberef2_Of.l0 k x1 (wrap64 (x6 + 1)) x233000 x233001 (x235000 ++ [rd x233000 x6]) x235001) else (none)) else (none)) else (hypercuberef2_Of.l0 k x1 (wrap64 (x6 + 1)) x233000 x233001 x235000 x235001)) else (none)) else ((some (([] : List Int) : List Int)).bind fun y239 => (if y239.length + x233001.length < 17592186044416 then ((some (([] : List Int) : List Int)).bind fun y245 => (if y245.length + x233001.length < 17592186044416 then ((some (([] : List Int) : List Int)).bind fun y251 => (if y251.length + x233001.length < 17592186044416 then (some (x235000, x235001, (y239 ++ x233001), (y245 ++ x233001), (y251 ++ x233001))) else (none))) else (none))) else (none)))
def hypercuberef2_Of.f (k : Nat) (l0_0 : List Int) (l0_1 : List Int) (a1 : Int) : Option (List Int × Int × List Int × List Int × List Int) := hypercuberef2_Of.l0 k a1 0 l0_0 l0_1 ([] : List Int) 1
def hypercuberef2_Of.T6 : Bool × List (List Nat × List Nat) := (true, [([], []), ([0], [0]), ([], []), ([2], [2]), ([], []), ([3, 4], [3, 4]), ([5], [5]), ([6], [6]), ([1, 7], [1, 7]), ([0, 1, 2, 3, 4, 5, 6, 7, 8], []), ([9, 8, 8, 0, 1, 2, 3, 4, 5, 6, 7, 8], [8, 9])])
def hypercuberef2_Of.B6 : List Nat := [0, 1, 0, 4, 0, 28, 60, 124, 255, 511, 1023]
theorem hypercuberef2_Of.tab6 : rtab .any (opsOf Try.f30 6) = hypercuberef2_Of.T6 := by kernel_rfl
theorem hypercuberef2_Of.bits6 : waitsOk hypercuberef2_Of.T6.2 hypercuberef2_Of.B6 = true := by kernel_rfl
set_option maxHeartbeats 8000000 in
set_option maxRecDepth 100000 in
theorem hypercuberef2_Of.calls (k : Nat) (A0_0 : Option Addr) (c0_0 : Nat) (l0_0 : List Int) (A0_1 : Option Addr) (c0_1 : Nat) (l0_1 : List Int) (a1 : Int) (r1 : List Int) (r2 : Int) (r3 : List Int) (r4 : List Int) (r5 : List Int) (w : World) (hr0_0 : Kd.C (Kd.int .i64) w A0_0 l0_0.length l0_0) (hc0_0 : l0_0.length ≤ c0_0) (hr0_1 : Kd.C (Kd.int .i64) w A0_1 l0_1.length l0_1) (hc0_1 : l0_1.length ≤ c0_1) (h : hypercuberef2_Of.f k l0_0 l0_1 a1 = some (r1, r2, r3, r4, r5)) :
  Calls Try.prog 30 #[.agg #[.slice A0_0 l0_0.length c0_0, .slice A0_1 l0_1.length c0_1], .int .i64 a1] w fun e w' => ∃ v0_ v2_ v3_ v4_ : Value, e = .returned (.agg #[v0_, .int .i64 r2, v2_, v3_, v4_]) ∧ Kd.R (Kd.int .i64) 3 w' w.heap.size (fun k_ => some k_ ≠ (v2_ : Value).ownBlock ∧ some k_ ≠ (v3_ : Value).ownBlock ∧ some k_ ≠ (v4_ : Value).ownBlock) v0_ r1 ∧ Kd.R (Kd.int .i64) 3 w' w.heap.size (fun k_ => some k_ ≠ (v0_ : Value).ownBlock ∧ some k_ ≠ (v3_ : Value).ownBlock ∧ some k_ ≠ (v4_ : Value).ownBlock) v2_ r3 ∧ Kd.R (Kd.int .i64) 3 w' w.heap.size (fun k_ => some k_ ≠ (v0_ : Value).ownBlock ∧ some k_ ≠ (v2_ : Value).ownBlock ∧ some k_ ≠ (v4_ : Value).ownBlock) v3_ r4 ∧ Kd.R (Kd.int .i64) 3 w' w.heap.size (fun k_ => some k_ ≠ (v0_ : Value).ownBlock ∧ some k_ ≠ (v2_ : Value).ownBlock ∧ some k_ ≠ (v3_ : Value).ownBlock) v4_ r5 ∧ Below w.heap.size w w' := by
 have hu45 := Try.underlying45
 have hu30 := Try.underlying30
 have HR0_0 := am hr0_0
 have HC0_0 := am hc0_0
 clear hr0_0 hc0_0
 have HR0_1 := am hr0_1
 have HC0_1 := am hc0_1
 clear hr0_1 hc0_1
 have HB := am (Below.refl w.heap.size w)
 have H : (hypercuberef2_Of.l0 k a1 0 l0_0 l0_1 ([] : List Int) 1) = some (r1, r2, r3, r4, r5) := h
 clear h
 have H' := am H
 clear H
 go_enter Try.func30, Try.ntmps30
 go_wp2_with (first | ((with_reducible refine gate_dst (N := 2) rfl ?_); refine zX #[.slice A0_0 l0_0.length c0_0, .slice A0_1 l0_1.length c0_1] 45 ?_; intro gb232 hg w3 hbox hb; have n0_ := am (below_step (wmv HB.out) hb); have n1_ := am (hbox); have n2_ := am ((by rw [hg]; exact (below_size (wmv HB.out)) : w.heap.size ≤ gb232)); have n3_ := am ((by rw [hg]; exact (below_size (wmv HB.out)) : w.heap.size ≤ gb232)); clear HB; revert n0_ n1_ n2_ n3_; intro HB BK232 GW232 GE232; clear hb hbox hg) | ((with_reducible refine gate_dst (N := 4) rfl ?_); refine zX #[.slice none 0 0, .int .i64 0, .slice none 0 0, .slice none 0 0, .slice none 0 0] 30 ?_; intro gb233 hg w4 hbox hb; have n0_ := am (blk_below (bmv BK232.out) hb); have n1_ := am (below_step (wmv HB.out) hb); have n2_ := am (hbox); have n3_ := am ((by rw [hg]; exact (below_size (wmv HB.out)) : w.heap.size ≤ gb233)); have n4_ := am ((by rw [hg]; exact (below_size (wmv HB.out)) : w.heap.size ≤ gb233)); have n5_ := am ((by rw [hg]; exact Nat.ne_of_lt (blk_lt (bmv BK232.out)) : gb232 ≠ gb233)); have n6_ := am ((by rw [hg]; exact Nat.ne_of_gt (blk_lt (bmv BK232.out)) : gb233 ≠ gb232)); clear BK232 HB; revert n0_ n1_ n2_ n3_ n4_ n5_ n6_; intro BK232 HB BK233 GW233 GE233 NB232_233 NB233_232; clear hb hbox hg) | ((with_reducible refine gate_dst (N := 5) rfl ?_); refine zX #[.slice none 0 0, .int .i64 0, .slice none 0 0, .slice none 0 0, .slice none 0 0] 30 ?_; intro gb234 hg w5 hbox hb; have n0_ := am (blk_below (bmv BK232.out) hb); have n1_ := am (blk_below (bmv BK233.out) hb); have n2_ := am (below_step (wmv HB.out) hb); have n3_ := am (hbox); have n4_ := am ((by rw [hg]; exact (below_size (wmv HB.out)) : w.heap.size ≤ gb234)); have n5_ := am ((by rw [hg]; exact (below_size (wmv HB.out)) : w.heap.size ≤ gb234)); have n6_ := am ((by rw [hg]; exact Nat.ne_of_lt (blk_lt (bmv BK232.out)) : gb232 ≠ gb234)); have n7_ := am ((by rw [hg]; exact Nat.ne_of_gt (blk_lt (bmv BK232.out)) : gb234 ≠ gb232)); have n8_ := am ((by rw [hg]; exact Nat.ne_of_lt (blk_lt (bmv BK233.out)) : gb233 ≠ gb234)); have n9_ := am ((by rw [hg]; exact Nat.ne_of_gt (blk_lt (bmv BK233.out)) : gb234 ≠ gb233)); clear BK232 BK233 HB; revert n0_ n1_ n2_ n3_ n4_ n5_ n6_ n7_ n8_ n9_; intro BK232 BK233 HB BK234 GW234 GE234 NB232_234 NB234_232 NB233_234 NB234_233; clear hb hbox hg; have hnb6 := NB234_232.out; have hnc6 := NB232_234.out; have hnb7 := NB234_233.out; have hnc7 := NB233_234.out; have hcz8_0 : w5.cell? ⟨gb234, 0, none⟩ = some (.slice none 0 0) := (blk_cell BK234.out 0).trans rfl; have hcz8_1 : w5.cell? ⟨gb234, 1, none⟩ = some (.int .i64 0) := (blk_cell BK234.out 1).trans rfl; have hcz8_2 : w5.cell? ⟨gb234, 2, none⟩ = some (.slice none 0 0) := (blk_cell BK234.out 2).trans rfl; have hcz8_3 : w5.cell? ⟨gb234, 3, none⟩ = some (.slice none 0 0) := (blk_cell BK234.out 3).trans rfl; have hcz8_4 : w5.cell? ⟨gb234, 4, none⟩ = some (.slice none 0 0) := (blk_cell BK234.out 4).trans rfl; have hfz8_0 := blk_frozen BK234.out 0; have hfz8_1 := blk_frozen BK234.out 1; have hfz8_2 := blk_frozen BK234.out 2; have hfz8_3 := blk_frozen BK234.out 3; have hfz8_4 := blk_frozen BK234.out 4))
 go_loopg [6] k (fun kq v6 w' => ∃ (x6_1 : Int) (x235000_1 : List Int) (u235000 : Value), v6 = .int .i64 x6_1 ∧ Aside0 (hypercuberef2_Of.l0 kq a1 x6_1 l0_0 l0_1 x235000_1 1 = some (r1, r2, r3, r4, r5)) ∧ Aside0 (kq ≤ k) ∧ Aside0 (Kd.R (Kd.int .i64) 3 w' w.heap.size (fun _ => True) u235000 x235000_1) ∧ Aside0 (w'.heap[gb232]? = some (.cells #[(.slice A0_0 l0_0.length c0_0), (.slice A0_1 l0_1.length c0_1)] 45 (0, 0))) ∧ Aside0 (w'.heap[gb233]? = some (.cells #[(.slice none 0 0), .int .i64 0, (.slice none 0 0), (.slice none 0 0), (.slice none 0 0)] 30 (0, 0))) ∧ Aside0 (w'.heap[gb234]? = some (.cells #[u235000, .int .i64 1, (.slice none 0 0), (.slice none 0 0), (.slice none 0 0)] 30 (0, 0))) ∧ Aside0 (Below w.heap.size w w'))
 case atStart => exact ⟨(0), (([] : List Int)), (.slice none 0 0), zz, H', ⟨Nat.le_refl _⟩, ⟨by first | exact Kd.R_nil _ _ _ _ _ | exact Kd.N_nil _ _ _ _ _ | exact Kd.V_nil _ _ _ _ _ | exact Kd.Q_nil _ _ _ _ _ | exact Kd.S_nil _ _ _ _ _⟩, ⟨by refine zq ?_; refine blk_far ?_ NB232_234.out _; refine zq ?_; refine blk_far ?_ NB232_234.out _; refine zq ?_; refine blk_far ?_ NB232_234.out _; refine zq ?_; refine blk_far ?_ NB232_234.out _; refine zq ?_; refine blk_far ?_ NB232_234.out _; refine zq ?_; exact BK232.out⟩, ⟨by refine zq ?_; refine blk_far ?_ NB233_234.out _; refine zq ?_; refine blk_far ?_ NB233_234.out _; refine zq ?_; refine blk_far ?_ NB233_234.out _; refine zq ?_; refine blk_far ?_ NB233_234.out _; refine zq ?_; refine blk_far ?_ NB233_234.out _; refine zq ?_; exact BK233.out⟩, ⟨by refine zq ?_; refine blk_put (cs := #[.slice none 0 0, .int .i64 1, .slice none 0 0, .slice none 0 0, .slice none 0 0]) ?_ 4 _ rfl; refine zq ?_; refine blk_put (cs := #[.slice none 0 0, .int .i64 1, .slice none 0 0, .slice none 0 0, .slice none 0 0]) ?_ 3 _ rfl; refine zq ?_; refine blk_put (cs := #[.slice none 0 0, .int .i64 1, .slice none 0 0, .slice none 0 0, .slice none 0 0]) ?_ 2 _ rfl; refine zq ?_; refine blk_put (cs := #[.slice none 0 0, .int .i64 0, .slice none 0 0, .slice none 0 0, .slice none 0 0]) ?_ 1 _ rfl; refine zq ?_; refine blk_put (cs := #[.slice none 0 0, .int .i64 0, .slice none 0 0, .slice none 0 0, .slice none 0 0]) ?_ 0 _ rfl; refine zq ?_; exact BK234.out⟩, ⟨zw HB⟩⟩
 case round =>
  clear H'
  try clear p2
  try clear c3
  try clear c6
  try clear c7
  try clear hcz8_0
  try clear hcz8_1
  try clear hcz8_2
  try clear hcz8_3
  try clear hcz8_4
  try clear hfz8_0
  try clear hfz8_1
  try clear hfz8_2
  try clear hfz8_3
  try clear hfz8_4
  obtain ⟨x6_1, x235000_1, u235000, rfl, HA, HK1, HO_235000, BK232, BK233, BK234, HB⟩ := hrel
  cases gk with
  | zero => exact absurd HA.out (by simp [hypercuberef2_Of.l0])
  | succ k1 =>
   have H := HA.out
   clear HA
   simp only [hypercuberef2_Of.l0] at H
   by_cases c9 : x6_1 < (l0_0.length : Int)
   ·rw [if_pos c9] at H
    have c9b0 : decide (x6_1 < (l0_0.length : Int)) = true := decide_eq_true c9
    clear c9
    obtain ⟨ji10, hji10⟩ : ∃ j_ : Int, (IntKind.u64.wrap (x6_1)) = j_ := ⟨_, rfl⟩
    replace H : (if 0 ≤ (ji10) then (if (Go.bits .and .i64 (shr .i64 a1 (ji10)) 1) = 1 then (if 0 ≤ x6_1 then (if x235000_1.length < 17592186044416 then (hypercuberef2_Of.l0 k1 a1 (wrap64 (x6_1 + 1)) l0_0 l0_1 (x235000_1 ++ [rd l0_0 x6_1]) 1) else (none)) else (none)) else (hypercuberef2_Of.l0 k1 a1 (wrap64 (x6_1 + 1)) l0_0 l0_1 x235000_1 1)) else (none)) = some (r1, r2, r3, r4, r5) := by first | (rw [hji10] at H; exact H) | (simp only [hji10] at H ⊢; exact H)
    by_cases c11 : 0 ≤ (ji10)
    ·rw [if_pos c11] at H
     have c11b0 := eq_true c11
     have c11b1 : decide (0 ≤ (ji10)) = true := decide_eq_true c11
     clear c11
     obtain ⟨ji12, hji12⟩ : ∃ j_ : Int, (shr .i64 a1 (ji10)) = j_ := ⟨_, rfl⟩
     replace H : (if (Go.bits .and .i64 (ji12) 1) = 1 then (if 0 ≤ x6_1 then (if x235000_1.length < 17592186044416 then (hypercuberef2_Of.l0 k1 a1 (wrap64 (x6_1 + 1)) l0_0 l0_1 (x235000_1 ++ [rd l0_0 x6_1]) 1) else (none)) else (none)) else (hypercuberef2_Of.l0 k1 a1 (wrap64 (x6_1 + 1)) l0_0 l0_1 x235000_1 1)) = some (r1, r2, r3, r4, r5) := by first | (rw [hji12] at H; exact H) | (simp only [hji12] at H ⊢; exact H)
     have hji12_ : (a1 / 2 ^ min (ji10).toNat 64) = ji12 := hji12
     have hji12z : (ji10) ≤ 64 → (a1 / 2 ^ (ji10).toNat) = ji12 := shr_small hji12
     by_cases c13 : (Go.bits .and .i64 (ji12) 1) = 1
     ·rw [if_pos c13] at H
      have c13b0 : ((Go.bits .and .i64 (ji12) 1) == 1) = true := beq_iff_eq.mpr c13
      have c13b1 : ((Go.bits .and .i64 (ji12) 1) != 1) = false := bne_eq_false_iff_eq.mpr c13
      clear c13
      by_cases c14 : 0 ≤ x6_1
      ·rw [if_pos c14] at H
       have c14b0 : decide (0 ≤ x6_1) = true := decide_eq_true c14
       clear c14
       by_cases c15 : x235000_1.length < 17592186044416
       ·rw [if_pos c15] at H
        have LMc15 := am c15
        clear c15
        obtain ⟨y236, hy236⟩ : ∃ y_ : List Int, y_ = (x235000_1 ++ [rd l0_0 x6_1]) := ⟨_, rfl⟩
        replace H : (hypercuberef2_Of.l0 k1 a1 (wrap64 (x6_1 + 1)) l0_0 l0_1 y236 1) = some (r1, r2, r3, r4, r5) := by rw [hy236]; with_reducible exact H
        have Ny236 := am hy236
        clear hy236
        have H' := am H
        clear H
        have hnb16 := NB232_233.out
        have hnc16 := NB233_232.out
        have hnb17 := NB232_234.out
        have hnc17 := NB234_232.out
        have hcz18_0 : wr.cell? ⟨gb232, 0, none⟩ = some (.slice A0_0 l0_0.length c0_0) := (blk_cell BK232.out 0).trans rfl
        have hcz18_1 : wr.cell? ⟨gb232, 1, none⟩ = some (.slice A0_1 l0_1.length c0_1) := (blk_cell BK232.out 1).trans rfl
        have hfz18_0 := blk_frozen BK232.out 0
        have hfz18_1 := blk_frozen BK232.out 1
        try go_wp2
        have n0_ := am (Kd.R_drew HO_235000.out)
        have n1_ := am (blk_drew BK232.out)
        have n2_ := am (blk_drew BK233.out)
        have n3_ := am (blk_drew BK234.out)
        have n4_ := am (below_drew1 HB.out)
        clear HO_235000 BK232 BK233 BK234 HB
        revert n0_ n1_ n2_ n3_ n4_
        intro HO_235000 BK232 BK233 BK234 HB
        have p235 : 0 ≤ (x6_1 : Int) := zd
        have q235 : x6_1 < (l0_0.length : Int) := zd
        obtain ⟨ad235, e235, hx235_0⟩ := Kd.at_int HR0_0.out x6_1 p235 q235
        have hw235_0 := hx235_0
        cases e235
        replace hx235_0 := zc HB hx235_0
        replace p235 := eq_true p235
        replace q235 := eq_true q235
        refine start_ (n := 11) (S := fun w' => w'.cell? ⟨gb234, 0, none⟩ = some (u235000) ∧ w'.cell? ⟨gb234, 1, none⟩ = some (.int .i64 1) ∧ w'.cell? ⟨gb234, 2, none⟩ = some (.slice none 0 0) ∧ w'.cell? ⟨gb234, 3, none⟩ = some (.slice none 0 0) ∧ w'.cell? ⟨gb234, 4, none⟩ = some (.slice none 0 0) ∧ w'.cell? ⟨gb232, 0, none⟩ = some (.slice (some ad235) l0_0.length c0_0) ∧ w'.cell? ⟨gb232, 1, none⟩ = some (.slice A0_1 l0_1.length c0_1) ∧ w'.cell? (ad235.add (x6_1).toNat) = some (.int .i64 (rd l0_0 x6_1))) (ds := [10]) (bb 11 0) (by kernel_rfl) rfl rfl ⟨bc BK234 0, bc BK234 1, bc BK234 2, bc BK234 3, bc BK234 4, bc BK232 0, bc BK232 1, (zc HB hw235_0)⟩ (fun hHeld => ?_); refine with_tabW hypercuberef2_Of.tab6 hypercuberef2_Of.bits6 (fun HT_ HW_ => ?_)
        generalize wr.drew = w19 at HO_235000 BK232 BK233 BK234 HB hx235_0 hHeld ⊢
        refine zu 0 (some 21) (bb 11 1) HT_ ?_
        refine zu 2 (some 23) (bb 11 5) HT_ ?_
        refine zu 4 (some 25) (bb 11 21) HT_ ?_
        refine zk 1 (some 22) (bb 11 23) HT_ HW_ hHeld ?_
        refine zk 3 (some 24) (bb 11 31) HT_ HW_ hHeld ?_
        refine zu 5 (some 26) (bb 11 63) HT_ ?_
        refine zk 6 (some 27) (bb 11 127) HT_ HW_ hHeld ?_
        refine zo 7 (some 28) (bb 11 255) HT_ (fun K hK => ?_)
        refine value_ (w1 := ?_) (v := ?_) (by rfl) rfl ?_ ?_
        rotate_left 2
        ·go_simp
         constructor
         ·rfl
         ·rfl
        refine hK.out _ _ ⟨(blk_cell (blk_alloc BK234.out _) 0).trans rfl, (blk_cell (blk_alloc BK234.out _) 1).trans rfl, (blk_cell (blk_alloc BK234.out _) 2).trans rfl, (blk_cell (blk_alloc BK234.out _) 3).trans rfl, (blk_cell (blk_alloc BK234.out _) 4).trans rfl, (blk_cell (blk_alloc BK232.out _) 0).trans rfl, (blk_cell (blk_alloc BK232.out _) 1).trans rfl, (World.cell?_alloc_lt _ _ _ (World.block_lt_of_cell? _ _ ((zc HB hw235_0)))).trans ((zc HB hw235_0))⟩ (fun hHeld => ?_)
        clear hK K
        refine nm ?_
        refine zo 8 (some 29) (bb 11 511) HT_ (fun K hK => ?_)
        refine Kd.R_append_step (Kd.int .i64) (w0 := w) w.heap.size (by rfl) (.tmp 22) (.tmp 28) 22 3 (.int .i64 0) 8 rfl Try.underlying22 info3 rfl (by decide) (by omega) u235000 x235000_1 (rd l0_0 x6_1) [.int .i64 (rd l0_0 x6_1)] (fun _ => True) (fun _ => False) rfl rfl ?aP (fun _ hk => hk.elim) ?aF ?aO ?aB ?aS ?aL ?_
        (case aP => exact rfl)
        (case aB => exact (wmv HB.out))
        (case aF => exact (fun _ _ => trivial))
        (case aO => exact (Kd.R_mv HO_235000.out))
        (case aS => exact (below_size (wmv HB.out)))
        (case aL => have := LMc15.out; omega)
        intro v237 w20 ho hb hg hat
        rw [← Ny236.out] at ho
        have n0_ := am (blk_grown (bmv BK232.out) hg (Kd.R_ne HO_235000.out BK232.out (by decide)))
        have n1_ := am (blk_grown (bmv BK233.out) hg (Kd.R_ne HO_235000.out BK233.out (by decide)))
        have n2_ := am (blk_grown (bmv BK234.out) hg (Kd.R_ne HO_235000.out BK234.out (by decide)))
        have n3_ := am (hb)
        have n4_ := am (ho)
        clear BK232 BK233 BK234 HB HO_235000
        revert n0_ n1_ n2_ n3_ n4_
        intro BK232 BK233 BK234 HB HO238
        clear ho hb hg hat
        obtain ⟨Ao21, co21, eo21⟩ := Kd.R_slice HO238.out
        (first | subst eo21 | (injection eo21 with f1_ f2_ f3_; have f4_ := f1_.symm; have f5_ := f3_.symm; clear f1_ f2_ f3_; subst f4_; subst f5_))
        refine hK.out _ _ ⟨bc BK234 0, bc BK234 1, bc BK234 2, bc BK234 3, bc BK234 4, bc BK232 0, bc BK232 1, (zc HB hw235_0)⟩ (fun hHeld => ?_)
        clear hK K
        refine nm ?_
        refine zu 9 (some 30) (bb 11 1023) HT_ ?_
        refine last_ (i := 10) (N := none) (bb 11 2047) rfl rfl (one_of HT_.out (by kernel_rfl)) (by decide) (fun K hK => ?_)
        have hs22 : w20.cell? ⟨gb234, 0, none⟩ = some (u235000) := (blk_cell BK234.out 0).trans rfl
        have hfs22 := blk_frozen BK234.out 0
        have hns22_0 := NB232_234.out
        have hns22_1 := NB233_234.out
        have hms22_0 := NB234_232.out
        have hms22_1 := NB234_233.out
        refine skip_ (w1 := ?_) (by rfl) rfl ?_ ?_
        rotate_left
        ·go_simp
         rfl
        refine hK.out _ _ ?_
        clear hK K
        refine done_ (done_of HT_.out (by kernel_rfl)) ?_
        try go_wp2
        go_roundg k1
        case measure => have := HK1.out; omega
        case rel => exact ⟨(wrap64 (x6_1 + 1)), (y236), (.slice Ao21 y236.length co21), zz, H', ⟨by have := HK1.out; omega⟩, ⟨by refine zr ?_; exact Kd.R_mono (Kd.R_far (p := ⟨gb234, 0, none⟩) (Kd.R_types HO238.out BK234.out (by decide)) (fun _ hk => hk.2) (.slice Ao21 y236.length co21)) (fun _ hk => trivial)⟩, ⟨by refine zq ?_; refine blk_far ?_ NB232_234.out _; refine zq ?_; exact BK232.out⟩, ⟨by refine zq ?_; refine blk_far ?_ NB233_234.out _; refine zq ?_; exact BK233.out⟩, ⟨by refine zq ?_; refine blk_put (cs := #[u235000, .int .i64 1, .slice none 0 0, .slice none 0 0, .slice none 0 0]) ?_ 0 _ rfl; refine zq ?_; exact BK234.out⟩, ⟨zw HB⟩⟩
       ·rw [if_neg c15] at H
        exact absurd H (by simp)
      ·rw [if_neg c14] at H
       exact absurd H (by simp)
     ·rw [if_neg c13] at H
      have c13b0 : ((Go.bits .and .i64 (ji12) 1) == 1) = false := beq_eq_false_iff_ne.mpr c13
      have c13b1 : ((Go.bits .and .i64 (ji12) 1) != 1) = true := bne_iff_ne.mpr c13
      have H' := am H
      clear H
      have hnb23 := NB232_233.out
      have hnc23 := NB233_232.out
      have hnb24 := NB232_234.out
      have hnc24 := NB234_232.out
      have hcz25_0 : wr.cell? ⟨gb232, 0, none⟩ = some (.slice A0_0 l0_0.length c0_0) := (blk_cell BK232.out 0).trans rfl
      have hcz25_1 : wr.cell? ⟨gb232, 1, none⟩ = some (.slice A0_1 l0_1.length c0_1) := (blk_cell BK232.out 1).trans rfl
      have hfz25_0 := blk_frozen BK232.out 0
      have hfz25_1 := blk_frozen BK232.out 1
      go_wp2
      go_roundg k1
      case measure => have := HK1.out; omega
      case rel => exact ⟨(wrap64 (x6_1 + 1)), (x235000_1), (u235000), zz, H', ⟨by have := HK1.out; omega⟩, ⟨by refine zr ?_; exact HO_235000.out⟩, ⟨by refine zq ?_; exact BK232.out⟩, ⟨by refine zq ?_; exact BK233.out⟩, ⟨by refine zq ?_; exact BK234.out⟩, ⟨zw HB⟩⟩
    ·rw [if_neg c11] at H
     exact absurd H (by simp)
   ·rw [if_neg c9] at H
    have c9b0 : decide (x6_1 < (l0_0.length : Int)) = false := decide_eq_false c9
    clear c9
    obtain ⟨y239, hy239⟩ : ∃ y_ : List Int, y_ = (([] : List Int)) := ⟨_, rfl⟩
    replace H : (if y239.length + l0_1.length < 17592186044416 then ((some (([] : List Int) : List Int)).bind fun y245 => (if y245.length + l0_1.length < 17592186044416 then ((some (([] : List Int) : List Int)).bind fun y251 => (if y251.length + l0_1.length < 17592186044416 then (some (x235000_1, 1, (y239 ++ l0_1), (y245 ++ l0_1), (y251 ++ l0_1))) else (none))) else (none))) else (none)) = some (r1, r2, r3, r4, r5) := by first | (rw [hy239]; with_reducible exact H) | (have H2_ := (Option.bind_some _ _).symm.trans H; rw [hy239]; with_reducible exact H2_) | (have H2_ := (Option.bind_some _ _).symm.trans H; with_reducible exact H2_) | with_reducible exact H | (rw [hy239]; exact H) | exact H
    have Ny239 := am hy239
    clear hy239
    by_cases c26 : y239.length + l0_1.length < 17592186044416
    ·rw [if_pos c26] at H
     have LMc26 := am c26
     clear c26
     obtain ⟨y242, hy242⟩ : ∃ y_ : List Int, y_ = (y239 ++ l0_1) := ⟨_, rfl⟩
     replace H : ((some (([] : List Int) : List Int)).bind fun y245 => (if y245.length + l0_1.length < 17592186044416 then ((some (([] : List Int) : List Int)).bind fun y251 => (if y251.length + l0_1.length < 17592186044416 then (some (x235000_1, 1, y242, (y245 ++ l0_1), (y251 ++ l0_1))) else (none))) else (none))) = some (r1, r2, r3, r4, r5) := by rw [hy242]; with_reducible exact H
     have Ny242 := am hy242
     clear hy242
     obtain ⟨y245, hy245⟩ : ∃ y_ : List Int, y_ = (([] : List Int)) := ⟨_, rfl⟩
     replace H : (if y245.length + l0_1.length < 17592186044416 then ((some (([] : List Int) : List Int)).bind fun y251 => (if y251.length + l0_1.length < 17592186044416 then (some (x235000_1, 1, y242, (y245 ++ l0_1), (y251 ++ l0_1))) else (none))) else (none)) = some (r1, r2, r3, r4, r5) := by first | (rw [hy245]; with_reducible exact H) | (have H2_ := (Option.bind_some _ _).symm.trans H; rw [hy245]; with_reducible exact H2_) | (have H2_ := (Option.bind_some _ _).symm.trans H; with_reducible exact H2_) | with_reducible exact H | (rw [hy245]; exact H) | exact H
     have Ny245 := am hy245
     clear hy245
     by_cases c27 : y245.length + l0_1.length < 17592186044416
     ·rw [if_pos c27] at H
      have LMc27 := am c27
      clear c27
      obtain ⟨y248, hy248⟩ : ∃ y_ : List Int, y_ = (y245 ++ l0_1) := ⟨_, rfl⟩
      replace H : ((some (([] : List Int) : List Int)).bind fun y251 => (if y251.length + l0_1.length < 17592186044416 then (some (x235000_1, 1, y242, y248, (y251 ++ l0_1))) else (none))) = some (r1, r2, r3, r4, r5) := by rw [hy248]; with_reducible exact H
      have Ny248 := am hy248
      clear hy248
      obtain ⟨y251, hy251⟩ : ∃ y_ : List Int, y_ = (([] : List Int)) := ⟨_, rfl⟩
      replace H : (if y251.length + l0_1.length < 17592186044416 then (some (x235000_1, 1, y242, y248, (y251 ++ l0_1))) else (none)) = some (r1, r2, r3, r4, r5) := by first | (rw [hy251]; with_reducible exact H) | (have H2_ := (Option.bind_some _ _).symm.trans H; rw [hy251]; with_reducible exact H2_) | (have H2_ := (Option.bind_some _ _).symm.trans H; with_reducible exact H2_) | with_reducible exact H | (rw [hy251]; exact H) | exact H
      have Ny251 := am hy251
      clear hy251
      by_cases c28 : y251.length + l0_1.length < 17592186044416
      ·rw [if_pos c28] at H
       have LMc28 := am c28
       clear c28
       obtain ⟨y254, hy254⟩ : ∃ y_ : List Int, y_ = (y251 ++ l0_1) := ⟨_, rfl⟩
       replace H : (some (x235000_1, 1, y242, y248, y254)) = some (r1, r2, r3, r4, r5) := by rw [hy254]; with_reducible exact H
       have Ny254 := am hy254
       clear hy254
       simp only [Option.some.injEq, Prod.mk.injEq] at H
       obtain ⟨rfl, rfl, rfl, rfl, rfl⟩ := H
       have hnb29 := NB232_233.out
       have hnc29 := NB233_232.out
       have hnb30 := NB232_234.out
       have hnc30 := NB234_232.out
       have hcz31_0 : wr.cell? ⟨gb232, 0, none⟩ = some (.slice A0_0 l0_0.length c0_0) := (blk_cell BK232.out 0).trans rfl
       have hcz31_1 : wr.cell? ⟨gb232, 1, none⟩ = some (.slice A0_1 l0_1.length c0_1) := (blk_cell BK232.out 1).trans rfl
       have hfz31_0 := blk_frozen BK232.out 0
       have hfz31_1 := blk_frozen BK232.out 1
       go_wp2_with (first | ((with_reducible refine gate_dst (N := 31) rfl ?_); refine Kd.R_lit (Kd.int .i64) _ 3 ?hg (N := 31) ?hd (xs := ([] : List Int)) (inner := []) (ok := fun _ => True) (okp := fun _ => True) ?hr ?hp (fun _ hk => hk) trivial (Below.refl _ _) (Nat.le_refl _) (by simp) ?_; (case hd => rfl); (case hg => rfl); (case hr => first | (go_simp; done) | (go_simp; rfl)); (case hp => exact (Reps.none _ _)); intro v240 w32 ho33 hb hg_ hnew_; clear hg_ hnew_; (first | rw [← Ny239.out] at ho33 | (simp only [Int.reduceToNat] at ho33; rw [← Ny239.out] at ho33)); have n0_ := am (Kd.R_elder' (Kd.R_mv HO_235000.out) (Kd.R_base ho33) hb); have n1_ := am (Kd.R_lower (Kd.R_new' ho33 (Kd.R_lt (Kd.R_mv HO_235000.out))) (below_size (zw HB))); have n2_ := am (blk_below (bmv BK232.out) hb); have n3_ := am (blk_below (bmv BK233.out) hb); have n4_ := am (blk_below (bmv BK234.out) hb); have n5_ := am (below_step (zw HB) hb); clear HO_235000 BK232 BK233 BK234 HB; revert n0_ n1_ n2_ n3_ n4_ n5_; intro HO_235000 HO241 BK232 BK233 BK234 HB; clear hb ho33; have hcz34_0 : w32.cell? ⟨gb232, 0, none⟩ = some (.slice A0_0 l0_0.length c0_0) := (blk_cell BK232.out 0).trans rfl; have hcz34_1 : w32.cell? ⟨gb232, 1, none⟩ = some (.slice A0_1 l0_1.length c0_1) := (blk_cell BK232.out 1).trans rfl; have hfz34_0 := blk_frozen BK232.out 0; have hfz34_1 := blk_frozen BK232.out 1) | ((with_reducible refine gate_builtin (b := .append) (xs := #[.tmp 31, .tmp 33]) rfl ?_); at_builtin; refine Kd.R_append_rows (Kd.int .i64) (w0 := w) w.heap.size rfl (.tmp 31) (.tmp 33) 22 3 (.int .i64 0) 8 rfl Try.underlying22 info3 rfl (by decide) (by omega) v240 y239 l0_1 _ _ _ (fun k_ => some k_ ≠ (u235000 : Value).ownBlock) (fun _ => False) rfl rfl ?aO ?aR (fun _ _ h => h) (fun _ h => h.elim) ?aF ?aB ?aS ?aL ?_; (case aR => exact Kd.Cw HR0_1.out HB.out); (case aB => exact (zw HB)); (case aF => exact (fun k_ hk => Kd.fresh' (Kd.R_lt (Kd.R_mv HO_235000.out)) k_ hk)); (case aO => exact (Kd.R_mv (Kd.R_mono HO241.out (fun _ hk => hk.2)))); (case aS => exact (below_size (zw HB))); (case aL => have := LMc26.out; omega); intro v243 w35 ho hb hg hat; rw [← Ny242.out] at ho; have n0_ := am (Kd.R_after (ok := (fun _ => True)) (Kd.R_mv HO_235000.out) hg hat); have n1_ := am (blk_grown (bmv BK232.out) hg (Kd.R_ne HO241.out BK232.out (by decide))); have n2_ := am (blk_grown (bmv BK233.out) hg (Kd.R_ne HO241.out BK233.out (by decide))); have n3_ := am (blk_grown (bmv BK234.out) hg (Kd.R_ne HO241.out BK234.out (by decide))); have n4_ := am (hb); have n5_ := am (ho); clear HO_235000 BK232 BK233 BK234 HB HO241; revert n0_ n1_ n2_ n3_ n4_ n5_; intro HO_235000 BK232 BK233 BK234 HB HO244; clear ho hb hg hat; obtain ⟨Ao36, co36, eo36⟩ := Kd.R_slice HO244.out; subst eo36; have hnb37 := NB234_233.out; have hnc37 := NB233_234.out; have hcz38_0 : w35.cell? ⟨gb234, 0, none⟩ = some (u235000) := (blk_cell BK234.out 0).trans rfl; have hcz38_1 : w35.cell? ⟨gb234, 1, none⟩ = some (.int .i64 1) := (blk_cell BK234.out 1).trans rfl; have hcz38_2 : w35.cell? ⟨gb234, 2, none⟩ = some (.slice none 0 0) := (blk_cell BK234.out 2).trans rfl; have hcz38_3 : w35.cell? ⟨gb234, 3, none⟩ = some (.slice none 0 0) := (blk_cell BK234.out 3).trans rfl; have hcz38_4 : w35.cell? ⟨gb234, 4, none⟩ = some (.slice none 0 0) := (blk_cell BK234.out 4).trans rfl; have hfz38_0 := blk_frozen BK234.out 0; have hfz38_1 := blk_frozen BK234.out 1; have hfz38_2 := blk_frozen BK234.out 2; have hfz38_3 := blk_frozen BK234.out 3; have hfz38_4 := blk_frozen BK234.out 4) | ((with_reducible refine gate_dst (N := 36) rfl ?_); refine Kd.R_lit (Kd.int .i64) _ 3 ?hg (N := 36) ?hd (xs := ([] : List Int)) (inner := []) (ok := fun _ => True) (okp := fun _ => True) ?hr ?hp (fun _ hk => hk) trivial (Below.refl _ _) (Nat.le_refl _) (by simp) ?_; (case hd => rfl); (case hg => rfl); (case hr => first | (go_simp; done) | (go_simp; rfl)); (case hp => exact (Reps.none _ _)); intro v246 w39 ho40 hb hg_ hnew_; clear hg_ hnew_; (first | rw [← Ny245.out] at ho40 | (simp only [Int.reduceToNat] at ho40; rw [← Ny245.out] at ho40)); have n0_ := am (Kd.R_elder' (Kd.R_mv (Kd.R_mono (Kd.R_far (p := ⟨gb234, 2, none⟩) (Kd.R_types HO_235000.out BK234.out (by decide)) (fun _ hk => hk.2) (.slice Ao36 y242.length co36)) (fun _ h_ => h_.1))) (Kd.R_base ho40) hb); have n1_ := am (Kd.R_elder' (Kd.R_mv (Kd.R_mono (Kd.R_far (p := ⟨gb234, 2, none⟩) (Kd.R_types HO244.out BK234.out (by decide)) (fun _ hk => hk.2) (.slice Ao36 y242.length co36)) (fun _ h_ => h_.1))) (Kd.R_base ho40) hb); have n2_ := am (Kd.R_lower (Kd.R_new' (Kd.R_new' ho40 (Kd.R_lt (Kd.R_mv (Kd.R_mono (Kd.R_far (p := ⟨gb234, 2, none⟩) (Kd.R_types HO_235000.out BK234.out (by decide)) (fun _ hk => hk.2) (.slice Ao36 y242.length co36)) (fun _ h_ => h_.1))))) (Kd.R_lt (Kd.R_mv (Kd.R_mono (Kd.R_far (p := ⟨gb234, 2, none⟩) (Kd.R_types HO244.out BK234.out (by decide)) (fun _ hk => hk.2) (.slice Ao36 y242.length co36)) (fun _ h_ => h_.1))))) (below_size (zw HB))); have n3_ := am (blk_below (g := gb232) (o := .cells #[.slice A0_0 l0_0.length c0_0, .slice A0_1 l0_1.length c0_1] 45 (0, 0)) (by refine zq ?_; refine blk_far ?_ NB232_234.out _; refine zq ?_; exact BK232.out) hb); have n4_ := am (blk_below (g := gb233) (o := .cells #[.slice none 0 0, .int .i64 0, .slice none 0 0, .slice none 0 0, .slice none 0 0] 30 (0, 0)) (by refine zq ?_; refine blk_far ?_ NB233_234.out _; refine zq ?_; exact BK233.out) hb); have n5_ := am (blk_below (g := gb234) (o := .cells #[u235000, .int .i64 1, .slice Ao36 y242.length co36, .slice none 0 0, .slice none 0 0] 30 (0, 0)) (by refine zq ?_; refine blk_put (cs := #[u235000, .int .i64 1, .slice none 0 0, .slice none 0 0, .slice none 0 0]) ?_ 2 _ rfl; refine zq ?_; exact BK234.out) hb); have n6_ := am (below_step (zw HB) hb); clear HO_235000 HO244 BK232 BK233 BK234 HB; revert n0_ n1_ n2_ n3_ n4_ n5_ n6_; intro HO_235000 HO244 HO247 BK232 BK233 BK234 HB; clear hb ho40; have hcz41_0 : w39.cell? ⟨gb232, 0, none⟩ = some (.slice A0_0 l0_0.length c0_0) := (blk_cell BK232.out 0).trans rfl; have hcz41_1 : w39.cell? ⟨gb232, 1, none⟩ = some (.slice A0_1 l0_1.length c0_1) := (blk_cell BK232.out 1).trans rfl; have hfz41_0 := blk_frozen BK232.out 0; have hfz41_1 := blk_frozen BK232.out 1) | ((with_reducible refine gate_builtin (b := .append) (xs := #[.tmp 36, .tmp 38]) rfl ?_); at_builtin; refine Kd.R_append_rows (Kd.int .i64) (w0 := w) w.heap.size rfl (.tmp 36) (.tmp 38) 22 3 (.int .i64 0) 8 rfl Try.underlying22 info3 rfl (by decide) (by omega) v246 y245 l0_1 _ _ _ (fun k_ => some k_ ≠ (u235000 : Value).ownBlock ∧ some k_ ≠ (.slice Ao36 y242.length co36 : Value).ownBlock) (fun _ => False) rfl rfl ?aO ?aR (fun _ _ h => h) (fun _ h => h.elim) ?aF ?aB ?aS ?aL ?_; (case aR => exact Kd.Cw HR0_1.out HB.out); (case aB => exact (zw HB)); (case aF => exact (fun k_ hk => ⟨Kd.fresh' (Kd.R_lt (Kd.R_mv HO_235000.out)) k_ hk, Kd.fresh' (Kd.R_lt (Kd.R_mv HO244.out)) k_ hk⟩)); (case aO => exact (Kd.R_mv (Kd.R_mono HO247.out (fun _ hk => ⟨hk.1.2, hk.2⟩)))); (case aS => exact (below_size (zw HB))); (case aL => have := LMc27.out; omega); intro v249 w42 ho hb hg hat; rw [← Ny248.out] at ho; have n0_ := am (Kd.R_after (ok := (fun k_ => some k_ ≠ (.slice Ao36 y242.length co36 : Value).ownBlock)) (Kd.R_mv (Kd.R_mono HO_235000.out (fun _ hk => ⟨hk.1.2, hk.2⟩))) hg hat); have n1_ := am (blk_grown (bmv BK232.out) hg (Kd.R_ne HO247.out BK232.out (by decide))); have n2_ := am (blk_grown (bmv BK233.out) hg (Kd.R_ne HO247.out BK233.out (by decide))); have n3_ := am (blk_grown (bmv BK234.out) hg (Kd.R_ne HO247.out BK234.out (by decide))); have n4_ := am (Kd.R_after (ok := (fun k_ => some k_ ≠ (u235000 : Value).ownBlock)) (Kd.R_mv HO244.out) hg hat); have n5_ := am (hb); have n6_ := am (ho); clear HO_235000 BK232 BK233 BK234 HO244 HB HO247; revert n0_ n1_ n2_ n3_ n4_ n5_ n6_; intro HO_235000 BK232 BK233 BK234 HO244 HB HO250; clear ho hb hg hat; obtain ⟨Ao43, co43, eo43⟩ := Kd.R_slice HO250.out; subst eo43; have hcz44_0 : w42.cell? ⟨gb234, 0, none⟩ = some (u235000) := (blk_cell BK234.out 0).trans rfl; have hcz44_1 : w42.cell? ⟨gb234, 1, none⟩ = some (.int .i64 1) := (blk_cell BK234.out 1).trans rfl; have hcz44_2 : w42.cell? ⟨gb234, 2, none⟩ = some (.slice Ao36 y242.length co36) := (blk_cell BK234.out 2).trans rfl; have hcz44_3 : w42.cell? ⟨gb234, 3, none⟩ = some (.slice none 0 0) := (blk_cell BK234.out 3).trans rfl; have hcz44_4 : w42.cell? ⟨gb234, 4, none⟩ = some (.slice none 0 0) := (blk_cell BK234.out 4).trans rfl; have hfz44_0 := blk_frozen BK234.out 0; have hfz44_1 := blk_frozen BK234.out 1; have hfz44_2 := blk_frozen BK234.out 2; have hfz44_3 := blk_frozen BK234.out 3; have hfz44_4 := blk_frozen BK234.out 4) | ((with_reducible refine gate_dst (N := 41) rfl ?_); refine Kd.R_lit (Kd.int .i64) _ 3 ?hg (N := 41) ?hd (xs := ([] : List Int)) (inner := []) (ok := fun _ => True) (okp := fun _ => True) ?hr ?hp (fun _ hk => hk) trivial (Below.refl _ _) (Nat.le_refl _) (by simp) ?_; (case hd => rfl); (case hg => rfl); (case hr => first | (go_simp; done) | (go_simp; rfl)); (case hp => exact (Reps.none _ _)); intro v252 w45 ho46 hb hg_ hnew_; clear hg_ hnew_; (first | rw [← Ny251.out] at ho46 | (simp only [Int.reduceToNat] at ho46; rw [← Ny251.out] at ho46)); have n0_ := am (Kd.R_elder' (Kd.R_mv (Kd.R_mono (Kd.R_far (p := ⟨gb234, 3, none⟩) (Kd.R_types HO_235000.out BK234.out (by decide)) (fun _ hk => hk.2) (.slice Ao43 y248.length co43)) (fun _ h_ => h_.1))) (Kd.R_base ho46) hb); have n1_ := am (Kd.R_elder' (Kd.R_mv (Kd.R_mono (Kd.R_far (p := ⟨gb234, 3, none⟩) (Kd.R_types HO244.out BK234.out (by decide)) (fun _ hk => hk.2) (.slice Ao43 y248.length co43)) (fun _ h_ => h_.1))) (Kd.R_base ho46) hb); have n2_ := am (Kd.R_elder' (Kd.R_mv (Kd.R_mono (Kd.R_far (p := ⟨gb234, 3, none⟩) (Kd.R_types HO250.out BK234.out (by decide)) (fun _ hk => hk.2) (.slice Ao43 y248.length co43)) (fun _ h_ => h_.1))) (Kd.R_base ho46) hb); have n3_ := am (Kd.R_lower (Kd.R_new' (Kd.R_new' (Kd.R_new' ho46 (Kd.R_lt (Kd.R_mv (Kd.R_mono (Kd.R_far (p := ⟨gb234, 3, none⟩) (Kd.R_types HO_235000.out BK234.out (by decide)) (fun _ hk => hk.2) (.slice Ao43 y248.length co43)) (fun _ h_ => h_.1))))) (Kd.R_lt (Kd.R_mv (Kd.R_mono (Kd.R_far (p := ⟨gb234, 3, none⟩) (Kd.R_types HO244.out BK234.out (by decide)) (fun _ hk => hk.2) (.slice Ao43 y248.length co43)) (fun _ h_ => h_.1))))) (Kd.R_lt (Kd.R_mv (Kd.R_mono (Kd.R_far (p := ⟨gb234, 3, none⟩) (Kd.R_types HO250.out BK234.out (by decide)) (fun _ hk => hk.2) (.slice Ao43 y248.length co43)) (fun _ h_ => h_.1))))) (below_size (zw HB))); have n4_ := am (blk_below (g := gb232) (o := .cells #[.slice A0_0 l0_0.length c0_0, .slice A0_1 l0_1.length c0_1] 45 (0, 0)) (by refine zq ?_; refine blk_far ?_ NB232_234.out _; refine zq ?_; exact BK232.out) hb); have n5_ := am (blk_below (g := gb233) (o := .cells #[.slice none 0 0, .int .i64 0, .slice none 0 0, .slice none 0 0, .slice none 0 0] 30 (0, 0)) (by refine zq ?_; refine blk_far ?_ NB233_234.out _; refine zq ?_; exact BK233.out) hb); have n6_ := am (blk_below (g := gb234) (o := .cells #[u235000, .int .i64 1, .slice Ao36 y242.length co36, .slice Ao43 y248.length co43, .slice none 0 0] 30 (0, 0)) (by refine zq ?_; refine blk_put (cs := #[u235000, .int .i64 1, .slice Ao36 y242.length co36, .slice none 0 0, .slice none 0 0]) ?_ 3 _ rfl; refine zq ?_; exact BK234.out) hb); have n7_ := am (below_step (zw HB) hb); clear HO_235000 HO244 HO250 BK232 BK233 BK234 HB; revert n0_ n1_ n2_ n3_ n4_ n5_ n6_ n7_; intro HO_235000 HO244 HO250 HO253 BK232 BK233 BK234 HB; clear hb ho46; have hcz47_0 : w45.cell? ⟨gb232, 0, none⟩ = some (.slice A0_0 l0_0.length c0_0) := (blk_cell BK232.out 0).trans rfl; have hcz47_1 : w45.cell? ⟨gb232, 1, none⟩ = some (.slice A0_1 l0_1.length c0_1) := (blk_cell BK232.out 1).trans rfl; have hfz47_0 := blk_frozen BK232.out 0; have hfz47_1 := blk_frozen BK232.out 1) | ((with_reducible refine gate_builtin (b := .append) (xs := #[.tmp 41, .tmp 43]) rfl ?_); at_builtin; refine Kd.R_append_rows (Kd.int .i64) (w0 := w) w.heap.size rfl (.tmp 41) (.tmp 43) 22 3 (.int .i64 0) 8 rfl Try.underlying22 info3 rfl (by decide) (by omega) v252 y251 l0_1 _ _ _ (fun k_ => some k_ ≠ (u235000 : Value).ownBlock ∧ some k_ ≠ (.slice Ao36 y242.length co36 : Value).ownBlock ∧ some k_ ≠ (.slice Ao43 y248.length co43 : Value).ownBlock) (fun _ => False) rfl rfl ?aO ?aR (fun _ _ h => h) (fun _ h => h.elim) ?aF ?aB ?aS ?aL ?_; (case aR => exact Kd.Cw HR0_1.out HB.out); (case aB => exact (zw HB)); (case aF => exact (fun k_ hk => ⟨Kd.fresh' (Kd.R_lt (Kd.R_mv HO_235000.out)) k_ hk, Kd.fresh' (Kd.R_lt (Kd.R_mv HO244.out)) k_ hk, Kd.fresh' (Kd.R_lt (Kd.R_mv HO250.out)) k_ hk⟩)); (case aO => exact (Kd.R_mv (Kd.R_mono HO253.out (fun _ hk => ⟨hk.1.1.2, ⟨hk.1.2, hk.2⟩⟩)))); (case aS => exact (below_size (zw HB))); (case aL => have := LMc28.out; omega); intro v255 w48 ho hb hg hat; rw [← Ny254.out] at ho; have n0_ := am (Kd.R_after (ok := (fun k_ => some k_ ≠ (.slice Ao36 y242.length co36 : Value).ownBlock ∧ some k_ ≠ (.slice Ao43 y248.length co43 : Value).ownBlock)) (Kd.R_mv HO_235000.out) hg hat); have n1_ := am (blk_grown (bmv BK232.out) hg (Kd.R_ne HO253.out BK232.out (by decide))); have n2_ := am (blk_grown (bmv BK233.out) hg (Kd.R_ne HO253.out BK233.out (by decide))); have n3_ := am (blk_grown (bmv BK234.out) hg (Kd.R_ne HO253.out BK234.out (by decide))); have n4_ := am (Kd.R_after (ok := (fun k_ => some k_ ≠ (u235000 : Value).ownBlock ∧ some k_ ≠ (.slice Ao43 y248.length co43 : Value).ownBlock)) (Kd.R_mv HO244.out) hg hat); have n5_ := am (Kd.R_after (ok := (fun k_ => some k_ ≠ (u235000 : Value).ownBlock ∧ some k_ ≠ (.slice Ao36 y242.length co36 : Value).ownBlock)) (Kd.R_mv HO250.out) hg hat); have n6_ := am (hb); have n7_ := am (ho); clear HO_235000 BK232 BK233 BK234 HO244 HO250 HB HO253; revert n0_ n1_ n2_ n3_ n4_ n5_ n6_ n7_; intro HO_235000 BK232 BK233 BK234 HO244 HO250 HB HO256; clear ho hb hg hat; obtain ⟨Ao49, co49, eo49⟩ := Kd.R_slice HO256.out; subst eo49; have hcz50_0 : w48.cell? ⟨gb234, 0, none⟩ = some (u235000) := (blk_cell BK234.out 0).trans rfl; have hcz50_1 : w48.cell? ⟨gb234, 1, none⟩ = some (.int .i64 1) := (blk_cell BK234.out 1).trans rfl; have hcz50_2 : w48.cell? ⟨gb234, 2, none⟩ = some (.slice Ao36 y242.length co36) := (blk_cell BK234.out 2).trans rfl; have hcz50_3 : w48.cell? ⟨gb234, 3, none⟩ = some (.slice Ao43 y248.length co43) := (blk_cell BK234.out 3).trans rfl; have hcz50_4 : w48.cell? ⟨gb234, 4, none⟩ = some (.slice none 0 0) := (blk_cell BK234.out 4).trans rfl; have hfz50_0 := blk_frozen BK234.out 0; have hfz50_1 := blk_frozen BK234.out 1; have hfz50_2 := blk_frozen BK234.out 2; have hfz50_3 := blk_frozen BK234.out 3; have hfz50_4 := blk_frozen BK234.out 4; obtain ⟨Ao51, co51, eo51⟩ := Kd.R_slice HO_235000.out; subst eo51; have hcz52_0 : w48.cell? ⟨gb233, 0, none⟩ = some (.slice none 0 0) := (blk_cell BK233.out 0).trans rfl; have hcz52_1 : w48.cell? ⟨gb233, 1, none⟩ = some (.int .i64 0) := (blk_cell BK233.out 1).trans rfl; have hcz52_2 : w48.cell? ⟨gb233, 2, none⟩ = some (.slice none 0 0) := (blk_cell BK233.out 2).trans rfl; have hcz52_3 : w48.cell? ⟨gb233, 3, none⟩ = some (.slice none 0 0) := (blk_cell BK233.out 3).trans rfl; have hcz52_4 : w48.cell? ⟨gb233, 4, none⟩ = some (.slice none 0 0) := (blk_cell BK233.out 4).trans rfl; have hfz52_0 := blk_frozen BK233.out 0; have hfz52_1 := blk_frozen BK233.out 1; have hfz52_2 := blk_frozen BK233.out 2; have hfz52_3 := blk_frozen BK233.out 3; have hfz52_4 := blk_frozen BK233.out 4))
       refine bodyPost_ret (results_cell_row rfl _ _ gb233 30 #[.slice Ao51 x235000_1.length co51, .int .i64 1, .slice Ao36 y242.length co36, .slice Ao43 y248.length co43, .slice Ao49 y254.length co49] (0, 0) _ rfl (by refine zq ?_; refine blk_put (cs := #[.slice Ao51 x235000_1.length co51, .int .i64 1, .slice Ao36 y242.length co36, .slice Ao43 y248.length co43, .slice none 0 0]) ?_ 4 _ rfl; refine zq ?_; refine blk_put (cs := #[.slice Ao51 x235000_1.length co51, .int .i64 1, .slice Ao36 y242.length co36, .slice none 0 0, .slice none 0 0]) ?_ 3 _ rfl; refine zq ?_; refine blk_put (cs := #[.slice Ao51 x235000_1.length co51, .int .i64 1, .slice none 0 0, .slice none 0 0, .slice none 0 0]) ?_ 2 _ rfl; refine zq ?_; refine blk_put (cs := #[.slice Ao51 x235000_1.length co51, .int .i64 0, .slice none 0 0, .slice none 0 0, .slice none 0 0]) ?_ 1 _ rfl; refine zq ?_; refine blk_put (cs := #[.slice none 0 0, .int .i64 0, .slice none 0 0, .slice none 0 0, .slice none 0 0]) ?_ 0 _ rfl; refine zq ?_; refine blk_far ?_ NB233_234.out _; refine zq ?_; exact BK233.out) Try.underlying30 rfl (by kernel_rfl)) rfl ?_
       exact ⟨_, _, _, _, by first | rfl | (simp [errW_none, errW_some] <;> rfl) | (simp [*, errW_none, errW_some] <;> rfl), by refine zr ?_; exact Kd.R_mono (Kd.R_far (p := ⟨gb233, 4, none⟩) (Kd.R_far (p := ⟨gb233, 3, none⟩) (Kd.R_far (p := ⟨gb233, 2, none⟩) (Kd.R_far (p := ⟨gb233, 1, none⟩) (Kd.R_far (p := ⟨gb233, 0, none⟩) (Kd.R_far (p := ⟨gb234, 4, none⟩) (Kd.R_types (Kd.R_types HO_235000.out BK234.out (by decide)) BK233.out (by decide)) (fun _ hk => hk.1.2) (.slice Ao49 y254.length co49)) (fun _ hk => hk.2) (.slice Ao51 x235000_1.length co51)) (fun _ hk => hk.2) (.int .i64 1)) (fun _ hk => hk.2) (.slice Ao36 y242.length co36)) (fun _ hk => hk.2) (.slice Ao43 y248.length co43)) (fun _ hk => hk.2) (.slice Ao49 y254.length co49)) (fun _ hk => ⟨hk.1.1.1.1, ⟨hk.1.1.1.2, hk.1.1.2⟩⟩), by refine zr ?_; exact Kd.R_mono (Kd.R_far (p := ⟨gb233, 4, none⟩) (Kd.R_far (p := ⟨gb233, 3, none⟩) (Kd.R_far (p := ⟨gb233, 2, none⟩) (Kd.R_far (p := ⟨gb233, 1, none⟩) (Kd.R_far (p := ⟨gb233, 0, none⟩) (Kd.R_far (p := ⟨gb234, 4, none⟩) (Kd.R_types (Kd.R_types HO244.out BK234.out (by decide)) BK233.out (by decide)) (fun _ hk => hk.1.2) (.slice Ao49 y254.length co49)) (fun _ hk => hk.2) (.slice Ao51 x235000_1.length co51)) (fun _ hk => hk.2) (.int .i64 1)) (fun _ hk => hk.2) (.slice Ao36 y242.length co36)) (fun _ hk => hk.2) (.slice Ao43 y248.length co43)) (fun _ hk => hk.2) (.slice Ao49 y254.length co49)) (fun _ hk => ⟨hk.1.1.1.1, ⟨hk.1.1.1.2, hk.1.1.2⟩⟩), by refine zr ?_; exact Kd.R_mono (Kd.R_far (p := ⟨gb233, 4, none⟩) (Kd.R_far (p := ⟨gb233, 3, none⟩) (Kd.R_far (p := ⟨gb233, 2, none⟩) (Kd.R_far (p := ⟨gb233, 1, none⟩) (Kd.R_far (p := ⟨gb233, 0, none⟩) (Kd.R_far (p := ⟨gb234, 4, none⟩) (Kd.R_types (Kd.R_types HO250.out BK234.out (by decide)) BK233.out (by decide)) (fun _ hk => hk.1.2) (.slice Ao49 y254.length co49)) (fun _ hk => hk.2) (.slice Ao51 x235000_1.length co51)) (fun _ hk => hk.2) (.int .i64 1)) (fun _ hk => hk.2) (.slice Ao36 y242.length co36)) (fun _ hk => hk.2) (.slice Ao43 y248.length co43)) (fun _ hk => hk.2) (.slice Ao49 y254.length co49)) (fun _ hk => ⟨hk.1.1.1.1, ⟨hk.1.1.1.2, hk.1.1.2⟩⟩), by refine zr ?_; exact Kd.R_mono (Kd.R_far (p := ⟨gb233, 4, none⟩) (Kd.R_far (p := ⟨gb233, 3, none⟩) (Kd.R_far (p := ⟨gb233, 2, none⟩) (Kd.R_far (p := ⟨gb233, 1, none⟩) (Kd.R_far (p := ⟨gb233, 0, none⟩) (Kd.R_far (p := ⟨gb234, 4, none⟩) (Kd.R_types (Kd.R_types HO256.out BK234.out (by decide)) BK233.out (by decide)) (fun _ hk => hk.1.2) (.slice Ao49 y254.length co49)) (fun _ hk => hk.2) (.slice Ao51 x235000_1.length co51)) (fun _ hk => hk.2) (.int .i64 1)) (fun _ hk => hk.2) (.slice Ao36 y242.length co36)) (fun _ hk => hk.2) (.slice Ao43 y248.length co43)) (fun _ hk => hk.2) (.slice Ao49 y254.length co49)) (fun _ hk => ⟨hk.1.1.1, ⟨hk.1.1.2.1, hk.1.1.2.2⟩⟩), zw HB⟩
      ·rw [if_neg c28] at H
       exact absurd H (by simp)
     ·rw [if_neg c27] at H
      exact absurd H (by simp)
    ·rw [if_neg c26] at H
     exact absurd H (by simp)
def hypercubelaw2_Set.f (l0_0 : List Int) (a0_1 : Int) (a1 : Int) : Option (Int) := if 0 ≤ (IntKind.u64.wrap ((l0_0.length : Int))) then ((hypercubelaw2_within.f a1 (shl .i64 1 (IntKind.u64.wrap ((l0_0.length : Int))))).bind fun t275 => (some t275)) else (none)
set_option maxHeartbeats 8000000 in
set_option maxRecDepth 100000 in
theorem hypercubelaw2_Set.calls (A0_0 : Option Addr) (c0_0 : Nat) (l0_0 : List Int) (a0_1 : Int) (a1 : Int) (r : Int) (w : World) (hr0_0 : Kd.C (Kd.int .i64) w A0_0 l0_0.length l0_0) (hc0_0 : l0_0.length ≤ c0_0) (h : hypercubelaw2_Set.f l0_0 a0_1 a1 = some r) :
  Calls Try.prog 25 #[.agg #[.slice A0_0 l0_0.length c0_0, .int .i64 a0_1], .int .i64 a1] w fun e w' => e = .returned (.int .i64 r) ∧ Below w.heap.size w w' := by
 have hu35 := Try.underlying35
 have HR0_0 := am hr0_0
 have HC0_0 := am hc0_0
 clear hr0_0 hc0_0
 have HB := am (Below.refl w.heap.size w)
 have H : (if 0 ≤ (IntKind.u64.wrap ((l0_0.length : Int))) then ((hypercubelaw2_within.f a1 (shl .i64 1 (IntKind.u64.wrap ((l0_0.length : Int))))).bind fun t275 => (some t275)) else (none)) = some r := h
 clear h
 obtain ⟨ji3, hji3⟩ : ∃ j_ : Int, (IntKind.u64.wrap ((l0_0.length : Int))) = j_ := ⟨_, rfl⟩
 replace H : (if 0 ≤ (ji3) then ((hypercubelaw2_within.f a1 (shl .i64 1 (ji3))).bind fun t275 => (some t275)) else (none)) = some r := by first | (rw [hji3] at H; exact H) | (simp only [hji3] at H ⊢; exact H)
 by_cases c4 : 0 ≤ (ji3)
 ·rw [if_pos c4] at H
  have c4b0 := eq_true c4
  have c4b1 : decide (0 ≤ (ji3)) = true := decide_eq_true c4
  clear c4
  obtain ⟨ji5, hji5⟩ : ∃ j_ : Int, (shl .i64 1 (ji3)) = j_ := ⟨_, rfl⟩
  replace H : ((hypercubelaw2_within.f a1 (ji5)).bind fun t275 => (some t275)) = some r := by first | (rw [hji5] at H; exact H) | (simp only [hji5] at H ⊢; exact H)
  have hji5_ : (IntKind.i64.wrap (1 * 2 ^ min (ji3).toNat 64)) = ji5 := hji5
  have hji5z : (ji3) ≤ 64 → (IntKind.i64.wrap (1 * 2 ^ (ji3).toNat)) = ji5 := shl_small hji5
  have hji5u : (IntKind.i64.wrap (2 ^ min (ji3).toNat 64)) = ji5 := by have h_ := hji5_; rw [Int.one_mul] at h_; exact h_
  have hji5v : (ji3) ≤ 64 → (IntKind.i64.wrap (2 ^ (ji3).toNat)) = ji5 := fun hle_ => by have h_ := hji5z hle_; rw [Int.one_mul] at h_; exact h_
  have hji5y : (wrap64 (1 * 2 ^ min (ji3).toNat 64)) = ji5 := (i64_w _).symm.trans hji5_
  have hji5x : (ji3) ≤ 64 → (wrap64 (1 * 2 ^ (ji3).toNat)) = ji5 := fun h_ => (i64_w _).symm.trans (hji5z h_)
  replace H := Option.bind_eq_some_iff.mp H
  obtain ⟨t275, A60, H⟩ := H
  replace H : (some t275) = some r := H
  have A6 := am A60
  clear A60
  obtain rfl := Option.some.inj H
  go_enter Try.func25, Try.ntmps25
  go_wp2_with (first | ((with_reducible refine gate_dst (N := 2) rfl ?_); refine zX #[.slice A0_0 l0_0.length c0_0, .int .i64 a0_1] 35 ?_; intro gb274 hg w7 hbox hb; have n0_ := am (below_step (wmv HB.out) hb); have n1_ := am (hbox); have n2_ := am ((by rw [hg]; exact (below_size (wmv HB.out)) : w.heap.size ≤ gb274)); have n3_ := am ((by rw [hg]; exact (below_size (wmv HB.out)) : w.heap.size ≤ gb274)); clear HB; revert n0_ n1_ n2_ n3_; intro HB BK274 GW274 GE274; clear hb hbox hg; have hcz8_0 : w7.cell? ⟨gb274, 0, none⟩ = some (.slice A0_0 l0_0.length c0_0) := (blk_cell BK274.out 0).trans rfl; have hcz8_1 : w7.cell? ⟨gb274, 1, none⟩ = some (.int .i64 a0_1) := (blk_cell BK274.out 1).trans rfl; have hfz8_0 := blk_frozen BK274.out 0; have hfz8_1 := blk_frozen BK274.out 1) | ((with_reducible refine gate_callee (f := 20) rfl ?_); refine goesL_ (some 11) rfl rfl Try.func20 (by kernel_rfl) rfl #[.int .i64 a1, .int .i64 ji5] rfl (by (try simp only [List.map_toArray, List.map_cons, List.map_nil]); first | done | (simp only [hji5]; rfl) | rfl | (simp only [List.length_drop, List.length_take]; rfl)) ?_; (with_reducible refine (hypercubelaw2_within.calls a1 ji5 t275 _ A6.out).mono ?_); rintro e w' ⟨rfl, ⟨nd, rfl⟩⟩; refine ⟨_, rfl, ?_⟩))
  go_ret
  exact ⟨by first | rfl | (simp [errW_none, errW_some] <;> rfl) | (simp only [← hji3, ← hji5]; first | rfl | (simp [errW_none, errW_some] <;> rfl)) | (simp [*, errW_none, errW_some] <;> rfl), zw HB⟩
 ·rw [if_neg c4] at H
  exact absurd H (by simp)
mutual
def hypercuberef2_Put.j1 : Nat → List (S30) → Int → List Int → Int → List Int → List Int → List Int → Option ((List (S30)))
 | 0, _, _, _, _, _, _, _ => none
 | k + 1, x0, x5, x464000, x464001, x464002, x464003, x464004 => if x5 < (x0.length : Int) then (if 0 ≤ x5 then ((hypercuberef2_Less.f k ((rd_T30 x0 x5).f0) x464000).bind fun t467 => (hypercuberef2_Put.j2 k x0 x5 (t467 == 0) x464000 x464001 x464002 x464003 x464004)) else (none)) else (hypercuberef2_Put.j2 k x0 x5 false x464000 x464001 x464002 x464003 x464004)
def hypercuberef2_Put.j2 : Nat → List (S30) → Int → Bool → List Int → Int → List Int → List Int → List Int → Option ((List (S30)))
 | 0, _, _, _, _, _, _, _, _ => none
 | k + 1, x0, x5, x38, x464000, x464001, x464002, x464003, x464004 => if x38 = true then ((some (([] : List (S30)) : List (S30))).bind fun y468 => (if y468.length + x0.length < 1353245080339 then ((some (y468 ++ x0 : List (S30))).bind fun y471 => (if 0 ≤ x5 then (if x5 < (x0.length : Int) then ((hypercuberef2_Join.f k ((rd_T30 x0 x5).f0) ((rd_T30 x0 x5).f1) ((rd_T30 x0 x5).f2) ((rd_T30 x0 x5).f3) ((rd_T30 x0 x5).f4) x464000 x464001 x464002 x464003 x464004).bind fun bt475 => (if x5 < (y471.length : Int) then (some (y471.set (x5 : Int).toNat (⟨bt475.1, bt475.2.1, bt475.2.2.1, bt475.2.2.2.1, bt475.2.2.2.2⟩ : S30))) else (none))) else (none)) else (none))) else (none))) else ((some (([] : List (S30)) : List (S30))).bind fun y489 => (if 0 ≤ x5 then (if x5 ≤ (x0.length : Int) then ((some (x0.take (x5 : Int).toNat : List (S30))).bind fun y492 => (if y489.length + y492.length < 1353245080339 then ((some (y489 ++ y492 : List (S30))).bind fun y497 => ((hypercuberef2_Copy.f x464000 x464001 x464002 x464003 x464004).bind fun bt500 => (if y497.length < 1353245080339 then ((some (y497 ++ [(⟨bt500.1, bt500.2.1, bt500.2.2.1, bt500.2.2.2.1, bt500.2.2.2.2⟩ : S30)] : List (S30))).bind fun y513 => ((some (x0.drop (x5 : Int).toNat : List (S30))).bind fun y516 => (if y513.length + y516.length < 1353245080339 then (some (y513 ++ y516)) else (none)))) else (none)))) else (none))) else (none)) else (none)))
def hypercuberef2_Put.l0 : Nat → List (S30) → Int → List Int → Int → List Int → List Int → List Int → Option ((List (S30)))
 | 0, _, _, _, _, _, _, _ => none
 | k + 1, x0, x5, x464000, x464001, x464002, x464003, x464004 => if x5 < (x0.length : Int) then (if 0 ≤ x5 then ((hypercuberef2_Less.f k ((rd_T30 x0 x5).f0) x464000).bind fun t465 => (if t465 < 0 then (hypercuberef2_Put.l0 k x0 (wrap64 (x5 + 1)) x464000 x464001 x464002 x464003 x464004) else (hypercuberef2_Put.j1 k x0 x5 x464000 x464001 x464002 x464003 x464004))) else (none)) else (hypercuberef2_Put.j1 k x0 x5 x464000 x464001 x464002 x464003 x464004)
end
def hypercuberef2_Put.f (k : Nat) (l0 : List (S30)) (l1_0 : List Int) (a1_1 : Int) (l1_2 : List Int) (l1_3 : List Int) (l1_4 : List Int) : Option ((List (S30))) := hypercuberef2_Put.l0 k l0 0 l1_0 a1_1 l1_2 l1_3 l1_4
def hypercuberef2_Put.T2 : Bool × List (List Nat × List Nat) := (true, [([], []), ([], []), ([1], [1]), ([0, 2], [0, 2]), ([3], [3]), ([4], [4]), ([4], [4]), ([5, 6, 4], [4, 5, 6]), ([7, 4], [4, 7]), ([8, 4], [4, 8]), ([4], [4]), ([10, 4], [4, 10]), ([9, 11, 4, 4], [4, 9, 11]), ([12, 4], [4, 12]), ([4, 13], [4, 13])])
def hypercuberef2_Put.B2 : List Nat := [0, 0, 2, 7, 15, 31, 31, 127, 255, 511, 31, 1055, 4095, 8191, 16383]
theorem hypercuberef2_Put.tab2 : rtab .any (opsOf Try.f51 2) = hypercuberef2_Put.T2 := by kernel_rfl
theorem hypercuberef2_Put.bits2 : waitsOk hypercuberef2_Put.T2.2 hypercuberef2_Put.B2 = true := by kernel_rfl
def hypercuberef2_Put.T4 : Bool × List (List Nat × List Nat) := (true, [([], []), ([], []), ([1], [1]), ([0, 2], [0, 2]), ([3], [3]), ([4], [4]), ([4], [4]), ([5, 6, 4], [4, 5, 6]), ([7, 4], [4, 7]), ([8, 4], [4, 8]), ([4], [4]), ([10, 4], [4, 10]), ([9, 11, 4, 4], [4, 9, 11]), ([12, 4], [4, 12]), ([4, 13], [4, 13])])
def hypercuberef2_Put.B4 : List Nat := [0, 0, 2, 7, 15, 31, 31, 127, 255, 511, 31, 1055, 4095, 8191, 16383]
theorem hypercuberef2_Put.tab4 : rtab .any (opsOf Try.f51 4) = hypercuberef2_Put.T4 := by kernel_rfl
theorem hypercuberef2_Put.bits4 : waitsOk hypercuberef2_Put.T4.2 hypercuberef2_Put.B4 = true := by kernel_rfl
def hypercuberef2_Put.T6 : Bool × List (List Nat × List Nat) := (true, [([], []), ([], []), ([], []), ([], []), ([2, 3], [2, 3]), ([4], [4]), ([], []), ([5, 6], [5, 6]), ([0, 1, 0, 1, 2, 3, 4, 5, 6, 7], [0, 1]), ([8, 7, 7, 0, 1, 2, 3, 4, 5, 6, 7], [7, 8])])
def hypercuberef2_Put.B6 : List Nat := [0, 0, 0, 0, 12, 28, 0, 124, 255, 511]
theorem hypercuberef2_Put.tab6 : rtab .any (opsOf Try.f51 6) = hypercuberef2_Put.T6 := by kernel_rfl
theorem hypercuberef2_Put.bits6 : waitsOk hypercuberef2_Put.T6.2 hypercuberef2_Put.B6 = true := by kernel_rfl
def hypercuberef2_Put.T8 : Bool × List (List Nat × List Nat) := (true, [([], []), ([], []), ([], []), ([1, 2], [1, 2]), ([0, 3], [0, 3]), ([], []), ([5, 4], [5]), ([6], [6]), ([4, 7, 6], [4, 7]), ([], []), ([], []), ([9, 10], [9, 10]), ([8, 11, 8], [8, 11]), ([12, 12, 0, 1, 2, 3, 4, 5, 6, 7, 8, 9, 10, 11, 12], [12])])
def hypercuberef2_Put.B8 : List Nat := [0, 0, 0, 6, 15, 0, 63, 127, 255, 0, 0, 1536, 4095, 8191]
theorem hypercuberef2_Put.tab8 : rtab .any (opsOf Try.f51 8) = hypercuberef2_Put.T8 := by kernel_rfl
theorem hypercuberef2_Put.bits8 : waitsOk hypercuberef2_Put.T8.2 hypercuberef2_Put.B8 = true := by kernel_rfl
set_option maxHeartbeats 8000000 in
set_option maxRecDepth 100000 in
theorem hypercuberef2_Put.calls (k : Nat) (P0_ : Nat → Prop) (A0 : Option Addr) (c0 : Nat) (l0 : List (S30)) (A1_0 : Option Addr) (c1_0 : Nat) (l1_0 : List Int) (a1_1 : Int) (A1_2 : Option Addr) (c1_2 : Nat) (l1_2 : List Int) (A1_3 : Option Addr) (c1_3 : Nat) (l1_3 : List Int) (A1_4 : Option Addr) (c1_4 : Nat) (l1_4 : List Int) (r : List (S30)) (w : World) (hs0 : Kd.V k30 30 w w.heap.size (fun k_ => P0_ k_) (.slice A0 l0.length c0) l0) (hr1_0 : Kd.C (Kd.int .i64) w A1_0 l1_0.length l1_0) (hc1_0 : l1_0.length ≤ c1_0) (hr1_2 : Kd.C (Kd.int .i64) w A1_2 l1_2.length l1_2) (hc1_2 : l1_2.length ≤ c1_2) (hr1_3 : Kd.C (Kd.int .i64) w A1_3 l1_3.length l1_3) (hc1_3 : l1_3.length ≤ c1_3) (hr1_4 : Kd.C (Kd.int .i64) w A1_4 l1_4.length l1_4) (hc1_4 : l1_4.length ≤ c1_4) (h : hypercuberef2_Put.f k l0 l1_0 a1_1 l1_2 l1_3 l1_4 = some r) :
  Calls Try.prog 51 #[.slice A0 l0.length c0, .agg #[.slice A1_0 l1_0.length c1_0, .int .i64 a1_1, .slice A1_2 l1_2.length c1_2, .slice A1_3 l1_3.length c1_3, .slice A1_4 l1_4.length c1_4]] w fun e w' => ∃ v0_ : Value, e = .returned (v0_) ∧ Kd.N k30 30 w' w.heap.size (fun k_ => (P0_ k_ ∨ w.heap.size ≤ k_)) v0_ r ∧ Below w.heap.size w w' := by
 have hu30 := Try.underlying30
 have HO0 := am (show Kd.V k30 30 w w.heap.size (fun k_ => (P0_ k_ ∨ w.heap.size ≤ k_)) (.slice A0 l0.length c0) l0 from Kd.V_mono hs0 (fun k_ hk => .inl hk))
 have HR1_0 := am hr1_0
 have HC1_0 := am hc1_0
 clear hr1_0 hc1_0
 have HR1_2 := am hr1_2
 have HC1_2 := am hc1_2
 clear hr1_2 hc1_2
 have HR1_3 := am hr1_3
 have HC1_3 := am hc1_3
 clear hr1_3 hc1_3
 have HR1_4 := am hr1_4
 have HC1_4 := am hc1_4
 clear hr1_4 hc1_4
 have HB := am (Below.refl w.heap.size w)
 have H : (hypercuberef2_Put.l0 k l0 0 l1_0 a1_1 l1_2 l1_3 l1_4) = some r := h
 clear h
 have HC3 := am H
 clear H
 go_enter Try.func51, Try.ntmps51
 go_upto_block 0 with (first | ((with_reducible refine gate_dst (N := 3) rfl ?_); refine zX #[.slice A1_0 l1_0.length c1_0, .int .i64 a1_1, .slice A1_2 l1_2.length c1_2, .slice A1_3 l1_3.length c1_3, .slice A1_4 l1_4.length c1_4] 30 ?_; intro gb463 hg w4 hbox hb; have n0_ := am (Kd.V_below (Kd.V_elderB (Kd.V_mv HO0.out) gb463 (Nat.le_of_eq hg.symm)) hb); have n1_ := am (below_step (wmv HB.out) hb); have n2_ := am (hbox); have n3_ := am ((by rw [hg]; exact (below_size (wmv HB.out)) : w.heap.size ≤ gb463)); have n4_ := am ((by rw [hg]; exact (below_size (wmv HB.out)) : w.heap.size ≤ gb463)); clear HO0 HB; revert n0_ n1_ n2_ n3_ n4_; intro HO0 HB BK463 GW463 GE463; clear hb hbox hg))
 (try simp only [Act.put, List.setIfInBounds_toArray, List.set_cons_zero, List.set_cons_succ])
 go_cut [5] (fun v5 wc => ∃ (kq : Nat) (x5_2 : Int), v5 = .int .i64 x5_2 ∧ Aside0 (hypercuberef2_Put.j1 kq l0 x5_2 l1_0 a1_1 l1_2 l1_3 l1_4 = some r) ∧ Aside0 (kq ≤ k) ∧ Aside0 (Kd.V k30 30 wc w.heap.size (fun k_ => (P0_ k_ ∨ w.heap.size ≤ k_) ∧ k_ ≠ gb463) (.slice A0 l0.length c0) l0) ∧ Aside0 (wc.heap[gb463]? = some (.cells #[(.slice A1_0 l1_0.length c1_0), .int .i64 a1_1, (.slice A1_2 l1_2.length c1_2), (.slice A1_3 l1_3.length c1_3), (.slice A1_4 l1_4.length c1_4)] 30 (0, 0))) ∧ Aside0 (Below w.heap.size w wc))
 case first =>
  have H := HC3.out
  clear HC3
  have H' := am H
  clear H
  go_wp2
  go_loopg [5] k (fun kq v5 w' => ∃ (x5_1 : Int), v5 = .int .i64 x5_1 ∧ Aside0 (hypercuberef2_Put.l0 kq l0 x5_1 l1_0 a1_1 l1_2 l1_3 l1_4 = some r) ∧ Aside0 (kq ≤ k) ∧ Aside0 (Kd.V k30 30 w' w.heap.size (fun k_ => (P0_ k_ ∨ w.heap.size ≤ k_) ∧ k_ ≠ gb463) (.slice A0 l0.length c0) l0) ∧ Aside0 (w'.heap[gb463]? = some (.cells #[(.slice A1_0 l1_0.length c1_0), .int .i64 a1_1, (.slice A1_2 l1_2.length c1_2), (.slice A1_3 l1_3.length c1_3), (.slice A1_4 l1_4.length c1_4)] 30 (0, 0))) ∧ Aside0 (Below w.heap.size w w'))
  case atStart => exact ⟨(0), zz, H', ⟨Nat.le_refl _⟩, ⟨by (with_reducible repeat (first | apply Kd.V_alloc | apply Kd.V_drewN | apply Kd.V_drew)); exact HO0.out⟩, ⟨by refine zq ?_; exact BK463.out⟩, ⟨zw HB⟩⟩
  case round =>
   clear H'
   try clear c1
   try clear p2
   obtain ⟨x5_1, rfl, HA, HK1, HO_0, BK463, HB⟩ := hrel
   cases gk with
   | zero => exact absurd HA.out (by simp [hypercuberef2_Put.l0])
   | succ k1 =>
    have H := HA.out
    clear HA
    simp only [hypercuberef2_Put.l0] at H
    by_cases c5 : x5_1 < (l0.length : Int)
    ·rw [if_pos c5] at H
     have c5b0 : decide (x5_1 < (l0.length : Int)) = true := decide_eq_true c5
     clear c5
     (first | rw [c5b0] | (simp only [i64_w, i32_w]; rw [c5b0]) | skip)
     by_cases c6 : 0 ≤ x5_1
     ·rw [if_pos c6] at H
      have c6b0 : decide (0 ≤ x5_1) = true := decide_eq_true c6
      clear c6
      replace H := Option.bind_eq_some_iff.mp H
      obtain ⟨t465, A70, H⟩ := H
      replace H : (if t465 < 0 then (hypercuberef2_Put.l0 k1 l0 (wrap64 (x5_1 + 1)) l1_0 a1_1 l1_2 l1_3 l1_4) else (hypercuberef2_Put.j1 k1 l0 x5_1 l1_0 a1_1 l1_2 l1_3 l1_4)) = some r := H
      have A7 := am A70
      clear A70
      by_cases c8 : t465 < 0
      ·rw [if_pos c8] at H
       have c8b0 : decide (t465 < 0) = true := decide_eq_true c8
       clear c8
       have H' := am H
       clear H
       try go_wp2
       have n0_ := am (Kd.V_drew HO_0.out)
       have n1_ := am (blk_drew BK463.out)
       have n2_ := am (below_drew1 HB.out)
       clear HO_0 BK463 HB
       revert n0_ n1_ n2_
       intro HO_0 BK463 HB
       have p464 : 0 ≤ (x5_1 : Int) := zd
       have q464 : x5_1 < (l0.length : Int) := zd
       obtain ⟨ad464, A464_0, c464_0, A464_2, c464_2, A464_3, c464_3, A464_4, c464_4, e464, hx464_0, hx464_1, hx464_2, hx464_3, hx464_4, hl464_0, hi464_0, hl464_2, hi464_2, hl464_3, hi464_3, hl464_4, hi464_4⟩ := at_T30 (Kd.V_reads' HO_0.out).2.2 x5_1 p464 q464
       cases e464
       obtain ⟨ce464, hce464, hMe464, hcc464⟩ := Kd.V_get HO_0.out z30 x5_1 p464 (by first | exact q464 | exact zd | (have e_ := (Kd.V_reads' HO_0.out).1; omega))
       obtain ⟨ua464_0, uc464_0, ua464_2, uc464_2, ua464_3, uc464_3, ua464_4, uc464_4, rfl, ul464_0, ge464_0, ul464_2, ge464_2, ul464_3, ge464_3, ul464_4, ge464_4⟩ := k30_openF hMe464
       have hv464_0 := hcc464 0 _ rfl
       rw [Nat.add_zero] at hv464_0
       replace hv464_0 := Option.some.inj (hv464_0.symm.trans hx464_0)
       injection hv464_0 with hva_ hvn_ hvc_
       rw [hva_] at ge464_0
       rw [hvc_] at ul464_0
       have HL464_0 := am (show Kd.V (Kd.int .i64) 3 _ w.heap.size _ _ ((rd_T30 l0 x5_1).f0) from Kd.V_mk ul464_0 ge464_0)
       clear hva_ hvn_ hvc_ ge464_0 ul464_0
       have hv464_2 := hcc464 2 _ rfl
       rw [add_field _ _ 2 (by omega)] at hv464_2
       replace hv464_2 := Option.some.inj (hv464_2.symm.trans hx464_2)
       injection hv464_2 with hva_ hvn_ hvc_
       rw [hva_] at ge464_2
       rw [hvc_] at ul464_2
       have HL464_2 := am (show Kd.V (Kd.int .i64) 3 _ w.heap.size _ _ ((rd_T30 l0 x5_1).f2) from Kd.V_mk ul464_2 ge464_2)
       clear hva_ hvn_ hvc_ ge464_2 ul464_2
       have hv464_3 := hcc464 3 _ rfl
       rw [add_field _ _ 3 (by omega)] at hv464_3
       replace hv464_3 := Option.some.inj (hv464_3.symm.trans hx464_3)
       injection hv464_3 with hva_ hvn_ hvc_
       rw [hva_] at ge464_3
       rw [hvc_] at ul464_3
       have HL464_3 := am (show Kd.V (Kd.int .i64) 3 _ w.heap.size _ _ ((rd_T30 l0 x5_1).f3) from Kd.V_mk ul464_3 ge464_3)
       clear hva_ hvn_ hvc_ ge464_3 ul464_3
       have hv464_4 := hcc464 4 _ rfl
       rw [add_field _ _ 4 (by omega)] at hv464_4
       replace hv464_4 := Option.some.inj (hv464_4.symm.trans hx464_4)
       injection hv464_4 with hva_ hvn_ hvc_
       rw [hva_] at ge464_4
       rw [hvc_] at ul464_4
       have HL464_4 := am (show Kd.V (Kd.int .i64) 3 _ w.heap.size _ _ ((rd_T30 l0 x5_1).f4) from Kd.V_mk ul464_4 ge464_4)
       clear hva_ hvn_ hvc_ ge464_4 ul464_4
       clear hcc464 hce464
       have HR464_0 := am hi464_0
       have HC464_0 := am hl464_0
       clear hi464_0 hl464_0
       have HR464_2 := am hi464_2
       have HC464_2 := am hl464_2
       clear hi464_2 hl464_2
       have HR464_3 := am hi464_3
       have HC464_3 := am hl464_3
       clear hi464_3 hl464_3
       have HR464_4 := am hi464_4
       have HC464_4 := am hl464_4
       clear hi464_4 hl464_4
       replace p464 := eq_true p464
       replace q464 := eq_true q464
       refine start_ (n := 15) (S := fun w' => w'.cell? ⟨gb463, 0, none⟩ = some (.slice A1_0 l1_0.length c1_0) ∧ w'.cell? ⟨gb463, 1, none⟩ = some (.int .i64 a1_1) ∧ w'.cell? ⟨gb463, 2, none⟩ = some (.slice A1_2 l1_2.length c1_2) ∧ w'.cell? ⟨gb463, 3, none⟩ = some (.slice A1_3 l1_3.length c1_3) ∧ w'.cell? ⟨gb463, 4, none⟩ = some (.slice A1_4 l1_4.length c1_4) ∧ w'.cell? (ad464.add ((x5_1).toNat * 5)) = some (.slice A464_0 ((rd_T30 l0 x5_1).f0).length c464_0) ∧ w'.cell? ⟨(ad464.add ((x5_1).toNat * 5)).block, (ad464.add ((x5_1).toNat * 5)).off + 1, none⟩ = some (.int .i64 ((rd_T30 l0 x5_1).f1)) ∧ w'.cell? ⟨(ad464.add ((x5_1).toNat * 5)).block, (ad464.add ((x5_1).toNat * 5)).off + 2, none⟩ = some (.slice A464_2 ((rd_T30 l0 x5_1).f2).length c464_2) ∧ w'.cell? ⟨(ad464.add ((x5_1).toNat * 5)).block, (ad464.add ((x5_1).toNat * 5)).off + 3, none⟩ = some (.slice A464_3 ((rd_T30 l0 x5_1).f3).length c464_3) ∧ w'.cell? ⟨(ad464.add ((x5_1).toNat * 5)).block, (ad464.add ((x5_1).toNat * 5)).off + 4, none⟩ = some (.slice A464_4 ((rd_T30 l0 x5_1).f4).length c464_4)) (ds := []) (bb 15 0) (by kernel_rfl) rfl rfl ⟨bc BK463 0, bc BK463 1, bc BK463 2, bc BK463 3, bc BK463 4, hx464_0, hx464_1, hx464_2, hx464_3, hx464_4⟩ (fun hHeld => ?_); refine with_tabW hypercuberef2_Put.tab2 hypercuberef2_Put.bits2 (fun HT_ HW_ => ?_)
       generalize wr.drew = w9 at HO_0 BK463 HB HL464_0 HL464_2 HL464_3 HL464_4 HR464_0 HR464_2 HR464_3 HR464_4 hx464_0 hx464_1 hx464_2 hx464_3 hx464_4 hHeld ⊢
       refine zu 0 (some 7) (bb 15 1) HT_ ?_
       refine zu 1 (some 8) (bb 15 3) HT_ ?_
       refine zu 2 (some 9) (bb 15 7) HT_ ?_
       refine zu 3 (some 10) (bb 15 15) HT_ ?_
       refine zu 4 (some 11) (bb 15 31) HT_ ?_
       refine zu 5 (some 12) (bb 15 63) HT_ ?_
       refine zu 6 (some 13) (bb 15 127) HT_ ?_
       refine zu 7 (some 14) (bb 15 255) HT_ ?_
       refine zu 8 (some 15) (bb 15 511) HT_ ?_
       refine zu 10 (some 17) (bb 15 1535) HT_ ?_
       refine zk 9 (some 16) (bb 15 2047) HT_ HW_ hHeld ?_
       refine zk 11 (some 18) (bb 15 4095) HT_ HW_ hHeld ?_
       refine zo 12 (some 19) (bb 15 8191) HT_ (fun K hK => ?_)
       refine goes_ Try.func18 (by kernel_rfl) rfl #[.slice A464_0 ((rd_T30 l0 x5_1).f0).length c464_0, .slice A1_0 l1_0.length c1_0] (by rfl) rfl rfl zm ?_
       with_reducible refine (hypercuberef2_Less.calls k1 _ _ ((rd_T30 l0 x5_1).f0) _ _ l1_0 t465 _ ?side1 ?side2 ?side3 ?side4 A7.out).mono ?_
       (case side1 => repeat (first | exact (by repeat (first | (with_reducible exact HR464_0.out) | (with_reducible refine Kd.C_alloc ?_ _) | (with_reducible refine Kd.C_drewN ?_ _) | (with_reducible refine Kd.C_drew ?_) | exact HR464_0.out)) | (with_reducible refine Kd.C_alloc ?_ _) | (with_reducible refine Kd.C_drewN ?_ _) | (with_reducible refine Kd.C_drew ?_)))
       (case side2 => exact HC464_0.out)
       (case side3 => exact Kd.Cw HR1_0.out HB.out)
       (case side4 => exact HC1_0.out)
       rintro e w' ⟨rfl, ⟨nd, rfl⟩⟩
       refine ⟨_, rfl, ?_⟩
       refine hK.out _ _ ⟨bc BK463 0, bc BK463 1, bc BK463 2, bc BK463 3, bc BK463 4, hHeld.2.2.2.2.2.1, hHeld.2.2.2.2.2.2.1, hHeld.2.2.2.2.2.2.2.1, hHeld.2.2.2.2.2.2.2.2.1, hHeld.2.2.2.2.2.2.2.2.2⟩ (fun hHeld => ?_)
       clear hK K
       refine nm ?_
       refine zu 13 (some 20) (bb 15 16383) HT_ ?_
       refine zu 14 (some 21) (bb 15 32767) HT_ ?_
       refine done_ (done_of HT_.out (by kernel_rfl)) ?_
       try go_wp2
       go_roundg k1
       case measure => have := HK1.out; omega
       case rel => exact ⟨(wrap64 (x5_1 + 1)), zz, H', ⟨by have := HK1.out; omega⟩, ⟨by (with_reducible repeat (first | apply Kd.V_alloc | apply Kd.V_drewN | apply Kd.V_drew)); exact HO_0.out⟩, ⟨by refine zq ?_; exact BK463.out⟩, ⟨zw HB⟩⟩
      ·rw [if_neg c8] at H
       have c8b0 : decide (t465 < 0) = false := decide_eq_false c8
       clear c8
       have H' := am H
       clear H
       try go_wp2
       have n0_ := am (Kd.V_drew HO_0.out)
       have n1_ := am (blk_drew BK463.out)
       have n2_ := am (below_drew1 HB.out)
       clear HO_0 BK463 HB
       revert n0_ n1_ n2_
       intro HO_0 BK463 HB
       have p464 : 0 ≤ (x5_1 : Int) := zd
       have q464 : x5_1 < (l0.length : Int) := zd
       obtain ⟨ad464, A464_0, c464_0, A464_2, c464_2, A464_3, c464_3, A464_4, c464_4, e464, hx464_0, hx464_1, hx464_2, hx464_3, hx464_4, hl464_0, hi464_0, hl464_2, hi464_2, hl464_3, hi464_3, hl464_4, hi464_4⟩ := at_T30 (Kd.V_reads' HO_0.out).2.2 x5_1 p464 q464
       cases e464
       obtain ⟨ce464, hce464, hMe464, hcc464⟩ := Kd.V_get HO_0.out z30 x5_1 p464 (by first | exact q464 | exact zd | (have e_ := (Kd.V_reads' HO_0.out).1; omega))
       obtain ⟨ua464_0, uc464_0, ua464_2, uc464_2, ua464_3, uc464_3, ua464_4, uc464_4, rfl, ul464_0, ge464_0, ul464_2, ge464_2, ul464_3, ge464_3, ul464_4, ge464_4⟩ := k30_openF hMe464
       have hv464_0 := hcc464 0 _ rfl
       rw [Nat.add_zero] at hv464_0
       replace hv464_0 := Option.some.inj (hv464_0.symm.trans hx464_0)
       injection hv464_0 with hva_ hvn_ hvc_
       rw [hva_] at ge464_0
       rw [hvc_] at ul464_0
       have HL464_0 := am (show Kd.V (Kd.int .i64) 3 _ w.heap.size _ _ ((rd_T30 l0 x5_1).f0) from Kd.V_mk ul464_0 ge464_0)
       clear hva_ hvn_ hvc_ ge464_0 ul464_0
       have hv464_2 := hcc464 2 _ rfl
       rw [add_field _ _ 2 (by omega)] at hv464_2
       replace hv464_2 := Option.some.inj (hv464_2.symm.trans hx464_2)
       injection hv464_2 with hva_ hvn_ hvc_
       rw [hva_] at ge464_2
       rw [hvc_] at ul464_2
       have HL464_2 := am (show Kd.V (Kd.int .i64) 3 _ w.heap.size _ _ ((rd_T30 l0 x5_1).f2) from Kd.V_mk ul464_2 ge464_2)
       clear hva_ hvn_ hvc_ ge464_2 ul464_2
       have hv464_3 := hcc464 3 _ rfl
       rw [add_field _ _ 3 (by omega)] at hv464_3
       replace hv464_3 := Option.some.inj (hv464_3.symm.trans hx464_3)
       injection hv464_3 with hva_ hvn_ hvc_
       rw [hva_] at ge464_3
       rw [hvc_] at ul464_3
       have HL464_3 := am (show Kd.V (Kd.int .i64) 3 _ w.heap.size _ _ ((rd_T30 l0 x5_1).f3) from Kd.V_mk ul464_3 ge464_3)
       clear hva_ hvn_ hvc_ ge464_3 ul464_3
       have hv464_4 := hcc464 4 _ rfl
       rw [add_field _ _ 4 (by omega)] at hv464_4
       replace hv464_4 := Option.some.inj (hv464_4.symm.trans hx464_4)
       injection hv464_4 with hva_ hvn_ hvc_
       rw [hva_] at ge464_4
       rw [hvc_] at ul464_4
       have HL464_4 := am (show Kd.V (Kd.int .i64) 3 _ w.heap.size _ _ ((rd_T30 l0 x5_1).f4) from Kd.V_mk ul464_4 ge464_4)
       clear hva_ hvn_ hvc_ ge464_4 ul464_4
       clear hcc464 hce464
       have HR464_0 := am hi464_0
       have HC464_0 := am hl464_0
       clear hi464_0 hl464_0
       have HR464_2 := am hi464_2
       have HC464_2 := am hl464_2
       clear hi464_2 hl464_2
       have HR464_3 := am hi464_3
       have HC464_3 := am hl464_3
       clear hi464_3 hl464_3
       have HR464_4 := am hi464_4
       have HC464_4 := am hl464_4
       clear hi464_4 hl464_4
       replace p464 := eq_true p464
       replace q464 := eq_true q464
       refine start_ (n := 15) (S := fun w' => w'.cell? ⟨gb463, 0, none⟩ = some (.slice A1_0 l1_0.length c1_0) ∧ w'.cell? ⟨gb463, 1, none⟩ = some (.int .i64 a1_1) ∧ w'.cell? ⟨gb463, 2, none⟩ = some (.slice A1_2 l1_2.length c1_2) ∧ w'.cell? ⟨gb463, 3, none⟩ = some (.slice A1_3 l1_3.length c1_3) ∧ w'.cell? ⟨gb463, 4, none⟩ = some (.slice A1_4 l1_4.length c1_4) ∧ w'.cell? (ad464.add ((x5_1).toNat * 5)) = some (.slice A464_0 ((rd_T30 l0 x5_1).f0).length c464_0) ∧ w'.cell? ⟨(ad464.add ((x5_1).toNat * 5)).block, (ad464.add ((x5_1).toNat * 5)).off + 1, none⟩ = some (.int .i64 ((rd_T30 l0 x5_1).f1)) ∧ w'.cell? ⟨(ad464.add ((x5_1).toNat * 5)).block, (ad464.add ((x5_1).toNat * 5)).off + 2, none⟩ = some (.slice A464_2 ((rd_T30 l0 x5_1).f2).length c464_2) ∧ w'.cell? ⟨(ad464.add ((x5_1).toNat * 5)).block, (ad464.add ((x5_1).toNat * 5)).off + 3, none⟩ = some (.slice A464_3 ((rd_T30 l0 x5_1).f3).length c464_3) ∧ w'.cell? ⟨(ad464.add ((x5_1).toNat * 5)).block, (ad464.add ((x5_1).toNat * 5)).off + 4, none⟩ = some (.slice A464_4 ((rd_T30 l0 x5_1).f4).length c464_4)) (ds := []) (bb 15 0) (by kernel_rfl) rfl rfl ⟨bc BK463 0, bc BK463 1, bc BK463 2, bc BK463 3, bc BK463 4, hx464_0, hx464_1, hx464_2, hx464_3, hx464_4⟩ (fun hHeld => ?_); refine with_tabW hypercuberef2_Put.tab2 hypercuberef2_Put.bits2 (fun HT_ HW_ => ?_)
       generalize wr.drew = w10 at HO_0 BK463 HB HL464_0 HL464_2 HL464_3 HL464_4 HR464_0 HR464_2 HR464_3 HR464_4 hx464_0 hx464_1 hx464_2 hx464_3 hx464_4 hHeld ⊢
       refine zu 0 (some 7) (bb 15 1) HT_ ?_
       refine zu 1 (some 8) (bb 15 3) HT_ ?_
       refine zu 2 (some 9) (bb 15 7) HT_ ?_
       refine zu 3 (some 10) (bb 15 15) HT_ ?_
       refine zu 4 (some 11) (bb 15 31) HT_ ?_
       refine zu 5 (some 12) (bb 15 63) HT_ ?_
       refine zu 6 (some 13) (bb 15 127) HT_ ?_
       refine zu 7 (some 14) (bb 15 255) HT_ ?_
       refine zu 8 (some 15) (bb 15 511) HT_ ?_
       refine zu 10 (some 17) (bb 15 1535) HT_ ?_
       refine zk 9 (some 16) (bb 15 2047) HT_ HW_ hHeld ?_
       refine zk 11 (some 18) (bb 15 4095) HT_ HW_ hHeld ?_
       refine zo 12 (some 19) (bb 15 8191) HT_ (fun K hK => ?_)
       refine goes_ Try.func18 (by kernel_rfl) rfl #[.slice A464_0 ((rd_T30 l0 x5_1).f0).length c464_0, .slice A1_0 l1_0.length c1_0] (by rfl) rfl rfl zm ?_
       with_reducible refine (hypercuberef2_Less.calls k1 _ _ ((rd_T30 l0 x5_1).f0) _ _ l1_0 t465 _ ?side1 ?side2 ?side3 ?side4 A7.out).mono ?_
       (case side1 => repeat (first | exact (by repeat (first | (with_reducible exact HR464_0.out) | (with_reducible refine Kd.C_alloc ?_ _) | (with_reducible refine Kd.C_drewN ?_ _) | (with_reducible refine Kd.C_drew ?_) | exact HR464_0.out)) | (with_reducible refine Kd.C_alloc ?_ _) | (with_reducible refine Kd.C_drewN ?_ _) | (with_reducible refine Kd.C_drew ?_)))
       (case side2 => exact HC464_0.out)
       (case side3 => exact Kd.Cw HR1_0.out HB.out)
       (case side4 => exact HC1_0.out)
       rintro e w' ⟨rfl, ⟨nd, rfl⟩⟩
       refine ⟨_, rfl, ?_⟩
       refine hK.out _ _ ⟨bc BK463 0, bc BK463 1, bc BK463 2, bc BK463 3, bc BK463 4, hHeld.2.2.2.2.2.1, hHeld.2.2.2.2.2.2.1, hHeld.2.2.2.2.2.2.2.1, hHeld.2.2.2.2.2.2.2.2.1, hHeld.2.2.2.2.2.2.2.2.2⟩ (fun hHeld => ?_)
       clear hK K
       refine nm ?_
       refine zu 13 (some 20) (bb 15 16383) HT_ ?_
       refine zu 14 (some 21) (bb 15 32767) HT_ ?_
       refine done_ (done_of HT_.out (by kernel_rfl)) ?_
       try go_wp2
       go_meet
       case rel => exact ⟨_, (x5_1), zz, H', ⟨by have := HK1.out; first | omega | exact Nat.le_refl _⟩, ⟨by (with_reducible repeat (first | apply Kd.V_alloc | apply Kd.V_drewN | apply Kd.V_drew)); exact HO_0.out⟩, ⟨by refine zq ?_; exact BK463.out⟩, ⟨zw HB⟩⟩
     ·rw [if_neg c6] at H
      exact absurd H (by simp)
    ·rw [if_neg c5] at H
     have c5b0 : decide (x5_1 < (l0.length : Int)) = false := decide_eq_false c5
     clear c5
     (first | rw [c5b0] | (simp only [i64_w, i32_w]; rw [c5b0]) | skip)
     have H' := am H
     clear H
     try go_wp2
     have n0_ := am (Kd.V_drew HO_0.out)
     have n1_ := am (blk_drew BK463.out)
     have n2_ := am (below_drew1 HB.out)
     clear HO_0 BK463 HB
     revert n0_ n1_ n2_
     intro HO_0 BK463 HB
     refine start_ (n := 15) (S := fun w' => True) (ds := []) (bb 15 0) (by kernel_rfl) rfl rfl trivial (fun hHeld => ?_); refine with_tabW hypercuberef2_Put.tab2 hypercuberef2_Put.bits2 (fun HT_ HW_ => ?_)
     generalize wr.drew = w11 at HO_0 BK463 HB hHeld ⊢
     refine zu 0 (some 7) (bb 15 1) HT_ ?_
     refine zu 1 (some 8) (bb 15 3) HT_ ?_
     refine zu 2 (some 9) (bb 15 7) HT_ ?_
     refine zu 3 (some 10) (bb 15 15) HT_ ?_
     refine zu 4 (some 11) (bb 15 31) HT_ ?_
     refine zn 5 (some 12) (bb 15 63) HT_ ?_
     refine zn 6 (some 13) (bb 15 127) HT_ ?_
     refine zn 7 (some 14) (bb 15 255) HT_ ?_
     refine zn 8 (some 15) (bb 15 511) HT_ ?_
     refine zn 9 (some 16) (bb 15 1023) HT_ ?_
     refine zn 10 (some 17) (bb 15 2047) HT_ ?_
     refine zn 11 (some 18) (bb 15 4095) HT_ ?_
     refine zn 12 (some 19) (bb 15 8191) HT_ ?_
     refine zn 13 (some 20) (bb 15 16383) HT_ ?_
     refine zu 14 (some 21) (bb 15 32767) HT_ ?_
     refine done_ (done_of HT_.out (by kernel_rfl)) ?_
     try go_wp2
     go_meet
     case rel => exact ⟨_, (x5_1), zz, H', ⟨by have := HK1.out; first | omega | exact Nat.le_refl _⟩, ⟨by (with_reducible repeat (first | apply Kd.V_alloc | apply Kd.V_drewN | apply Kd.V_drew)); exact HO_0.out⟩, ⟨by refine zq ?_; exact BK463.out⟩, ⟨zw HB⟩⟩
 case rest =>
  clear HC3
  try clear c1
  try clear p2
  try clear c4
  try clear p4
  try clear q4
  try clear hx4
  try clear c5
  try clear c5b0
  try clear c6
  try clear c6b0
  try clear p6
  try clear c8
  try clear c8b0
  try clear hx464_0
  try clear hx464_1
  try clear hx464_2
  try clear hx464_3
  try clear hx464_4
  try clear p2
  try clear p464
  try clear q464
  obtain ⟨kq, x5_2, rfl, HA, HJ2, HO_0, BK463, HB⟩ := hcut
  cases kq with
  | zero => exact absurd HA.out (by simp [hypercuberef2_Put.j1])
  | succ kj2 =>
   have H := HA.out
   clear HA
   simp only [hypercuberef2_Put.j1] at H
   have HC12 := am H
   clear H
   go_upto_region 4 with (fail)
   go_cut [38] (fun v38 wc => ∃ (kq : Nat) (x38_11 : Bool), v38 = .bool x38_11 ∧ Aside0 (hypercuberef2_Put.j2 kq l0 x5_2 x38_11 l1_0 a1_1 l1_2 l1_3 l1_4 = some r) ∧ Aside0 (kq ≤ kj2) ∧ Aside0 (Kd.V k30 30 wc w.heap.size (fun k_ => (P0_ k_ ∨ w.heap.size ≤ k_) ∧ k_ ≠ gb463) (.slice A0 l0.length c0) l0) ∧ Aside0 (wc.heap[gb463]? = some (.cells #[(.slice A1_0 l1_0.length c1_0), .int .i64 a1_1, (.slice A1_2 l1_2.length c1_2), (.slice A1_3 l1_3.length c1_3), (.slice A1_4 l1_4.length c1_4)] 30 (0, 0))) ∧ Aside0 (Below w.heap.size w wc))
   case first =>
    have H := HC12.out
    clear HC12
    by_cases c13 : x5_2 < (l0.length : Int)
    ·rw [if_pos c13] at H
     have c13b0 : decide (x5_2 < (l0.length : Int)) = true := decide_eq_true c13
     clear c13
     (first | rw [c13b0] | (simp only [i64_w, i32_w]; rw [c13b0]) | skip)
     by_cases c14 : 0 ≤ x5_2
     ·rw [if_pos c14] at H
      have c14b0 : decide (0 ≤ x5_2) = true := decide_eq_true c14
      clear c14
      replace H := Option.bind_eq_some_iff.mp H
      obtain ⟨t467, A150, H⟩ := H
      replace H : (hypercuberef2_Put.j2 kj2 l0 x5_2 (t467 == 0) l1_0 a1_1 l1_2 l1_3 l1_4) = some r := H
      have A15 := am A150
      clear A150
      have H' := am H
      clear H
      try go_wp2
      have n0_ := am (Kd.V_drew HO_0.out)
      have n1_ := am (blk_drew BK463.out)
      have n2_ := am (below_drew1 HB.out)
      clear HO_0 BK463 HB
      revert n0_ n1_ n2_
      intro HO_0 BK463 HB
      have p466 : 0 ≤ (x5_2 : Int) := zd
      have q466 : x5_2 < (l0.length : Int) := zd
      obtain ⟨ad466, A466_0, c466_0, A466_2, c466_2, A466_3, c466_3, A466_4, c466_4, e466, hx466_0, hx466_1, hx466_2, hx466_3, hx466_4, hl466_0, hi466_0, hl466_2, hi466_2, hl466_3, hi466_3, hl466_4, hi466_4⟩ := at_T30 (Kd.V_reads' HO_0.out).2.2 x5_2 p466 q466
      cases e466
      obtain ⟨ce466, hce466, hMe466, hcc466⟩ := Kd.V_get HO_0.out z30 x5_2 p466 (by first | exact q466 | exact zd | (have e_ := (Kd.V_reads' HO_0.out).1; omega))
      obtain ⟨ua466_0, uc466_0, ua466_2, uc466_2, ua466_3, uc466_3, ua466_4, uc466_4, rfl, ul466_0, ge466_0, ul466_2, ge466_2, ul466_3, ge466_3, ul466_4, ge466_4⟩ := k30_openF hMe466
      have hv466_0 := hcc466 0 _ rfl
      rw [Nat.add_zero] at hv466_0
      replace hv466_0 := Option.some.inj (hv466_0.symm.trans hx466_0)
      injection hv466_0 with hva_ hvn_ hvc_
      rw [hva_] at ge466_0
      rw [hvc_] at ul466_0
      have HL466_0 := am (show Kd.V (Kd.int .i64) 3 _ w.heap.size _ _ ((rd_T30 l0 x5_2).f0) from Kd.V_mk ul466_0 ge466_0)
      clear hva_ hvn_ hvc_ ge466_0 ul466_0
      have hv466_2 := hcc466 2 _ rfl
      rw [add_field _ _ 2 (by omega)] at hv466_2
      replace hv466_2 := Option.some.inj (hv466_2.symm.trans hx466_2)
      injection hv466_2 with hva_ hvn_ hvc_
      rw [hva_] at ge466_2
      rw [hvc_] at ul466_2
      have HL466_2 := am (show Kd.V (Kd.int .i64) 3 _ w.heap.size _ _ ((rd_T30 l0 x5_2).f2) from Kd.V_mk ul466_2 ge466_2)
      clear hva_ hvn_ hvc_ ge466_2 ul466_2
      have hv466_3 := hcc466 3 _ rfl
      rw [add_field _ _ 3 (by omega)] at hv466_3
      replace hv466_3 := Option.some.inj (hv466_3.symm.trans hx466_3)
      injection hv466_3 with hva_ hvn_ hvc_
      rw [hva_] at ge466_3
      rw [hvc_] at ul466_3
      have HL466_3 := am (show Kd.V (Kd.int .i64) 3 _ w.heap.size _ _ ((rd_T30 l0 x5_2).f3) from Kd.V_mk ul466_3 ge466_3)
      clear hva_ hvn_ hvc_ ge466_3 ul466_3
      have hv466_4 := hcc466 4 _ rfl
      rw [add_field _ _ 4 (by omega)] at hv466_4
      replace hv466_4 := Option.some.inj (hv466_4.symm.trans hx466_4)
      injection hv466_4 with hva_ hvn_ hvc_
      rw [hva_] at ge466_4
      rw [hvc_] at ul466_4
      have HL466_4 := am (show Kd.V (Kd.int .i64) 3 _ w.heap.size _ _ ((rd_T30 l0 x5_2).f4) from Kd.V_mk ul466_4 ge466_4)
      clear hva_ hvn_ hvc_ ge466_4 ul466_4
      clear hcc466 hce466
      have HR466_0 := am hi466_0
      have HC466_0 := am hl466_0
      clear hi466_0 hl466_0
      have HR466_2 := am hi466_2
      have HC466_2 := am hl466_2
      clear hi466_2 hl466_2
      have HR466_3 := am hi466_3
      have HC466_3 := am hl466_3
      clear hi466_3 hl466_3
      have HR466_4 := am hi466_4
      have HC466_4 := am hl466_4
      clear hi466_4 hl466_4
      replace p466 := eq_true p466
      replace q466 := eq_true q466
      refine start_ (n := 15) (S := fun w' => w'.cell? ⟨gb463, 0, none⟩ = some (.slice A1_0 l1_0.length c1_0) ∧ w'.cell? ⟨gb463, 1, none⟩ = some (.int .i64 a1_1) ∧ w'.cell? ⟨gb463, 2, none⟩ = some (.slice A1_2 l1_2.length c1_2) ∧ w'.cell? ⟨gb463, 3, none⟩ = some (.slice A1_3 l1_3.length c1_3) ∧ w'.cell? ⟨gb463, 4, none⟩ = some (.slice A1_4 l1_4.length c1_4) ∧ w'.cell? (ad466.add ((x5_2).toNat * 5)) = some (.slice A466_0 ((rd_T30 l0 x5_2).f0).length c466_0) ∧ w'.cell? ⟨(ad466.add ((x5_2).toNat * 5)).block, (ad466.add ((x5_2).toNat * 5)).off + 1, none⟩ = some (.int .i64 ((rd_T30 l0 x5_2).f1)) ∧ w'.cell? ⟨(ad466.add ((x5_2).toNat * 5)).block, (ad466.add ((x5_2).toNat * 5)).off + 2, none⟩ = some (.slice A466_2 ((rd_T30 l0 x5_2).f2).length c466_2) ∧ w'.cell? ⟨(ad466.add ((x5_2).toNat * 5)).block, (ad466.add ((x5_2).toNat * 5)).off + 3, none⟩ = some (.slice A466_3 ((rd_T30 l0 x5_2).f3).length c466_3) ∧ w'.cell? ⟨(ad466.add ((x5_2).toNat * 5)).block, (ad466.add ((x5_2).toNat * 5)).off + 4, none⟩ = some (.slice A466_4 ((rd_T30 l0 x5_2).f4).length c466_4)) (ds := []) (bb 15 0) (by kernel_rfl) rfl rfl ⟨bc BK463 0, bc BK463 1, bc BK463 2, bc BK463 3, bc BK463 4, hx466_0, hx466_1, hx466_2, hx466_3, hx466_4⟩ (fun hHeld => ?_); refine with_tabW hypercuberef2_Put.tab4 hypercuberef2_Put.bits4 (fun HT_ HW_ => ?_)
      generalize wc.drew = w16 at HO_0 BK463 HB HL466_0 HL466_2 HL466_3 HL466_4 HR466_0 HR466_2 HR466_3 HR466_4 hx466_0 hx466_1 hx466_2 hx466_3 hx466_4 hHeld ⊢
      refine zu 0 (some 24) (bb 15 1) HT_ ?_
      refine zu 1 (some 25) (bb 15 3) HT_ ?_
      refine zu 2 (some 26) (bb 15 7) HT_ ?_
      refine zu 3 (some 27) (bb 15 15) HT_ ?_
      refine zu 4 (some 28) (bb 15 31) HT_ ?_
      refine zu 5 (some 29) (bb 15 63) HT_ ?_
      refine zu 6 (some 30) (bb 15 127) HT_ ?_
      refine zu 7 (some 31) (bb 15 255) HT_ ?_
      refine zu 8 (some 32) (bb 15 511) HT_ ?_
      refine zu 10 (some 34) (bb 15 1535) HT_ ?_
      refine zk 9 (some 33) (bb 15 2047) HT_ HW_ hHeld ?_
      refine zk 11 (some 35) (bb 15 4095) HT_ HW_ hHeld ?_
      refine zo 12 (some 36) (bb 15 8191) HT_ (fun K hK => ?_)
      refine goes_ Try.func18 (by kernel_rfl) rfl #[.slice A466_0 ((rd_T30 l0 x5_2).f0).length c466_0, .slice A1_0 l1_0.length c1_0] (by rfl) rfl rfl zm ?_
      with_reducible refine (hypercuberef2_Less.calls kj2 _ _ ((rd_T30 l0 x5_2).f0) _ _ l1_0 t467 _ ?side1 ?side2 ?side3 ?side4 A15.out).mono ?_
      (case side1 => repeat (first | exact (by repeat (first | (with_reducible exact HR466_0.out) | (with_reducible refine Kd.C_alloc ?_ _) | (with_reducible refine Kd.C_drewN ?_ _) | (with_reducible refine Kd.C_drew ?_) | exact HR466_0.out)) | (with_reducible refine Kd.C_alloc ?_ _) | (with_reducible refine Kd.C_drewN ?_ _) | (with_reducible refine Kd.C_drew ?_)))
      (case side2 => exact HC466_0.out)
      (case side3 => exact Kd.Cw HR1_0.out HB.out)
      (case side4 => exact HC1_0.out)
      rintro e w' ⟨rfl, ⟨nd, rfl⟩⟩
      refine ⟨_, rfl, ?_⟩
      refine hK.out _ _ ⟨bc BK463 0, bc BK463 1, bc BK463 2, bc BK463 3, bc BK463 4, hHeld.2.2.2.2.2.1, hHeld.2.2.2.2.2.2.1, hHeld.2.2.2.2.2.2.2.1, hHeld.2.2.2.2.2.2.2.2.1, hHeld.2.2.2.2.2.2.2.2.2⟩ (fun hHeld => ?_)
      clear hK K
      refine nm ?_
      refine zu 13 (some 37) (bb 15 16383) HT_ ?_
      refine zu 14 (some 38) (bb 15 32767) HT_ ?_
      refine done_ (done_of HT_.out (by kernel_rfl)) ?_
      try go_wp2
      go_meet
      case rel => exact ⟨_, ((t467 == 0)), zz, H', ⟨by have := HJ2.out; first | omega | exact Nat.le_refl _⟩, ⟨by (with_reducible repeat (first | apply Kd.V_alloc | apply Kd.V_drewN | apply Kd.V_drew)); exact HO_0.out⟩, ⟨by refine zq ?_; exact BK463.out⟩, ⟨zw HB⟩⟩
     ·rw [if_neg c14] at H
      exact absurd H (by simp)
    ·rw [if_neg c13] at H
     have c13b0 : decide (x5_2 < (l0.length : Int)) = false := decide_eq_false c13
     clear c13
     (first | rw [c13b0] | (simp only [i64_w, i32_w]; rw [c13b0]) | skip)
     have H' := am H
     clear H
     try go_wp2
     have n0_ := am (Kd.V_drew HO_0.out)
     have n1_ := am (blk_drew BK463.out)
     have n2_ := am (below_drew1 HB.out)
     clear HO_0 BK463 HB
     revert n0_ n1_ n2_
     intro HO_0 BK463 HB
     refine start_ (n := 15) (S := fun w' => True) (ds := []) (bb 15 0) (by kernel_rfl) rfl rfl trivial (fun hHeld => ?_); refine with_tabW hypercuberef2_Put.tab4 hypercuberef2_Put.bits4 (fun HT_ HW_ => ?_)
     generalize wc.drew = w17 at HO_0 BK463 HB hHeld ⊢
     refine zu 0 (some 24) (bb 15 1) HT_ ?_
     refine zu 1 (some 25) (bb 15 3) HT_ ?_
     refine zu 2 (some 26) (bb 15 7) HT_ ?_
     refine zu 3 (some 27) (bb 15 15) HT_ ?_
     refine zu 4 (some 28) (bb 15 31) HT_ ?_
     refine zn 5 (some 29) (bb 15 63) HT_ ?_
     refine zn 6 (some 30) (bb 15 127) HT_ ?_
     refine zn 7 (some 31) (bb 15 255) HT_ ?_
     refine zn 8 (some 32) (bb 15 511) HT_ ?_
     refine zn 9 (some 33) (bb 15 1023) HT_ ?_
     refine zn 10 (some 34) (bb 15 2047) HT_ ?_
     refine zn 11 (some 35) (bb 15 4095) HT_ ?_
     refine zn 12 (some 36) (bb 15 8191) HT_ ?_
     refine zn 13 (some 37) (bb 15 16383) HT_ ?_
     refine zu 14 (some 38) (bb 15 32767) HT_ ?_
     refine done_ (done_of HT_.out (by kernel_rfl)) ?_
     try go_wp2
     go_meet
     case rel => exact ⟨_, (false), zz, H', ⟨by have := HJ2.out; first | omega | exact Nat.le_refl _⟩, ⟨by (with_reducible repeat (first | apply Kd.V_alloc | apply Kd.V_drewN | apply Kd.V_drew)); exact HO_0.out⟩, ⟨by refine zq ?_; exact BK463.out⟩, ⟨zw HB⟩⟩
   case rest =>
    clear HC12
    try clear c1
    try clear p2
    try clear c4
    try clear p4
    try clear q4
    try clear hx4
    try clear c5
    try clear c5b0
    try clear c6
    try clear c6b0
    try clear p6
    try clear c8
    try clear c8b0
    try clear c13
    try clear c13b0
    try clear c14
    try clear c14b0
    try clear hx464_0
    try clear hx464_1
    try clear hx464_2
    try clear hx464_3
    try clear hx464_4
    try clear hx466_0
    try clear hx466_1
    try clear hx466_2
    try clear hx466_3
    try clear hx466_4
    try clear p2
    try clear p4
    try clear p464
    try clear p466
    try clear p6
    try clear q4
    try clear q464
    try clear q466
    obtain ⟨kq, x38_11, rfl, HA, HJ11, HO_0, BK463, HB⟩ := hcut
    cases kq with
    | zero => exact absurd HA.out (by simp [hypercuberef2_Put.j2])
    | succ kj11 =>
     have H := HA.out
     clear HA
     simp only [hypercuberef2_Put.j2] at H
     by_cases c18 : x38_11 = true
     ·subst c18
      have H1 : ((some (([] : List (S30)) : List (S30))).bind fun y468 => (if y468.length + l0.length < 1353245080339 then ((some (y468 ++ l0 : List (S30))).bind fun y471 => (if 0 ≤ x5_2 then (if x5_2 < (l0.length : Int) then ((hypercuberef2_Join.f kj11 ((rd_T30 l0 x5_2).f0) ((rd_T30 l0 x5_2).f1) ((rd_T30 l0 x5_2).f2) ((rd_T30 l0 x5_2).f3) ((rd_T30 l0 x5_2).f4) l1_0 a1_1 l1_2 l1_3 l1_4).bind fun bt475 => (if x5_2 < (y471.length : Int) then (some (y471.set (x5_2 : Int).toNat (⟨bt475.1, bt475.2.1, bt475.2.2.1, bt475.2.2.2.1, bt475.2.2.2.2⟩ : S30))) else (none))) else (none)) else (none))) else (none))) = some r := by rw [if_pos rfl] at H; exact H
      clear H
      have H := H1
      clear H1
      obtain ⟨y468, hy468⟩ : ∃ y_ : List (S30), y_ = (([] : List (S30))) := ⟨_, rfl⟩
      replace H : (if y468.length + l0.length < 1353245080339 then ((some (y468 ++ l0 : List (S30))).bind fun y471 => (if 0 ≤ x5_2 then (if x5_2 < (l0.length : Int) then ((hypercuberef2_Join.f kj11 ((rd_T30 l0 x5_2).f0) ((rd_T30 l0 x5_2).f1) ((rd_T30 l0 x5_2).f2) ((rd_T30 l0 x5_2).f3) ((rd_T30 l0 x5_2).f4) l1_0 a1_1 l1_2 l1_3 l1_4).bind fun bt475 => (if x5_2 < (y471.length : Int) then (some (y471.set (x5_2 : Int).toNat (⟨bt475.1, bt475.2.1, bt475.2.2.1, bt475.2.2.2.1, bt475.2.2.2.2⟩ : S30))) else (none))) else (none)) else (none))) else (none)) = some r := by first | (rw [hy468]; with_reducible exact H) | (have H2_ := (Option.bind_some _ _).symm.trans H; rw [hy468]; with_reducible exact H2_) | (have H2_ := (Option.bind_some _ _).symm.trans H; with_reducible exact H2_) | with_reducible exact H | (rw [hy468]; exact H) | exact H
      have Ny468 := am hy468
      clear hy468
      by_cases c19 : y468.length + l0.length < 1353245080339
      ·rw [if_pos c19] at H
       have LMc19 := am c19
       clear c19
       obtain ⟨y471, hy471⟩ : ∃ y_ : List (S30), y_ = (y468 ++ l0) := ⟨_, rfl⟩
       replace H : (if 0 ≤ x5_2 then (if x5_2 < (l0.length : Int) then ((hypercuberef2_Join.f kj11 ((rd_T30 l0 x5_2).f0) ((rd_T30 l0 x5_2).f1) ((rd_T30 l0 x5_2).f2) ((rd_T30 l0 x5_2).f3) ((rd_T30 l0 x5_2).f4) l1_0 a1_1 l1_2 l1_3 l1_4).bind fun bt475 => (if x5_2 < (y471.length : Int) then (some (y471.set (x5_2 : Int).toNat (⟨bt475.1, bt475.2.1, bt475.2.2.1, bt475.2.2.2.1, bt475.2.2.2.2⟩ : S30))) else (none))) else (none)) else (none)) = some r := by first | (rw [hy471]; with_reducible exact H) | (have H2_ := (Option.bind_some _ _).symm.trans H; rw [hy471]; with_reducible exact H2_) | (have H2_ := (Option.bind_some _ _).symm.trans H; with_reducible exact H2_) | with_reducible exact H | (rw [hy471]; exact H) | exact H
       have Ny471 := am hy471
       clear hy471
       by_cases c20 : 0 ≤ x5_2
       ·rw [if_pos c20] at H
        have c20b0 : decide (0 ≤ x5_2) = true := decide_eq_true c20
        clear c20
        by_cases c21 : x5_2 < (l0.length : Int)
        ·rw [if_pos c21] at H
         have c21b0 : decide (x5_2 < (l0.length : Int)) = true := decide_eq_true c21
         clear c21
         replace H := Option.bind_eq_some_iff.mp H
         obtain ⟨⟨t475, t478, t479, t482, t485⟩, A220, H⟩ := H
         replace H : (if x5_2 < (y471.length : Int) then (some (y471.set (x5_2 : Int).toNat (⟨t475, t478, t479, t482, t485⟩ : S30))) else (none)) = some r := H
         have A22 := am A220
         clear A220
         by_cases c23 : x5_2 < (y471.length : Int)
         ·rw [if_pos c23] at H
          have c23b0 : decide (x5_2 < (y471.length : Int)) = true := decide_eq_true c23
          clear c23
          obtain ⟨y488, hy488⟩ : ∃ y_ : List (S30), y_ = (y471.set (x5_2 : Int).toNat (⟨t475, t478, t479, t482, t485⟩ : S30)) := ⟨_, rfl⟩
          replace H : (some y488) = some r := by rw [hy488]; with_reducible exact H
          have Ny488 := am hy488
          clear hy488
          obtain rfl := Option.some.inj H
          try go_wp2_with (first | ((with_reducible refine gate_dst (N := 39) rfl ?_); refine Kd.N_lit k30 _ 30 ?hg (N' := 39) ?hd (xs := ([] : List (S30))) (inner := []) (ok := (fun k_ => (P0_ k_ ∨ w.heap.size ≤ k_) ∧ k_ ≠ gb463)) (okp := (fun k_ => (P0_ k_ ∨ w.heap.size ≤ k_) ∧ k_ ≠ gb463)) ?hr ?hp (fun _ hk => hk) ((show ∀ k_, wc.heap.size ≤ k_ → (fun k_ => (P0_ k_ ∨ w.heap.size ≤ k_) ∧ k_ ≠ gb463) k_ from fun k_ hk => ⟨(.inr (Nat.le_trans (below_size (wmv HB.out)) hk)), Kd.freshB (bmv BK463.out) k_ hk⟩) _ (Nat.le_refl _)) (Below.refl _ _) (Nat.le_refl _) (by simp) ?_; (case hd => rfl); (case hg => rfl); (case hr => first | (go_simp; done) | (go_simp; rfl)); (case hp => exact (Reps.none _ _)); intro v469 w25 ho26 hb hg_ hnew_; clear hg_ hnew_; (first | rw [← Ny468.out] at ho26 | (simp only [Int.reduceToNat] at ho26; rw [← Ny468.out] at ho26)); have n0_ := am (Kd.V_elder' (Kd.V_mv HO_0.out) (by first | exact Kd.N_base ho26 | exact Kd.S_base ho26 | exact Kd.R_base ho26) hb); have n1_ := am (Kd.N_lower ho26 (below_size (wmv HB.out))); have n2_ := am (blk_below (bmv BK463.out) hb); have n3_ := am (below_step (wmv HB.out) hb); clear HO_0 BK463 HB; revert n0_ n1_ n2_ n3_; intro HO_0 HO470 BK463 HB; clear hb ho26) | ((with_reducible refine gate_builtin (b := .append) (xs := #[.tmp 39, .tmp 40]) rfl ?_); at_builtin; refine Kd.N_append_rows k30 (w0 := w) w.heap.size rfl (.tmp 39) (.tmp 40) 28 30 (.agg #[(.slice none 0 0), (.int .i64 0), (.slice none 0 0), (.slice none 0 0), (.slice none 0 0)]) 104 rfl Try.underlying28 info30 rfl (by decide) (by omega) v469 y468 l0 _ _ _ (fun k_ => (P0_ k_ ∨ w.heap.size ≤ k_) ∧ k_ ≠ gb463) (fun k_ => ((fun k_ => (P0_ k_ ∨ w.heap.size ≤ k_) ∧ k_ ≠ gb463)) k_ ∧ some k_ ≠ (v469 : Value).ownBlock) rfl rfl ?aO ?aR (fun _ hk => hk) ?aF ?aB ?aS ?aL ?_; (case aR => exact (by skip; exact Kd.V_F (Kd.V_mono (ok' := (fun k_ => ((fun k_ => (P0_ k_ ∨ w.heap.size ≤ k_) ∧ k_ ≠ gb463)) k_ ∧ some k_ ≠ (v469 : Value).ownBlock)) (HO_0.out) (fun k_ hk => ⟨⟨hk.1.1, hk.1.2⟩, hk.2⟩)))); (case aB => exact (wmv HB.out)); (case aF => exact (fun k_ hk => ⟨(.inr (Nat.le_trans (below_size (wmv HB.out)) hk)), Kd.freshB (bmv BK463.out) k_ hk⟩)); (case aO => exact (Kd.N_mv HO470.out)); (case aS => exact (below_size (wmv HB.out))); (case aL => have := LMc19.out; omega); intro v472 w27 ho hb hg hat; rw [← Ny471.out] at ho; have n0_ := am (Kd.V_afterv (ok := (fun k_ => (P0_ k_ ∨ w.heap.size ≤ k_) ∧ k_ ≠ gb463)) (Kd.V_mv HO_0.out) hg hat); have n1_ := am (blk_grown (bmv BK463.out) hg (Kd.N_away HO470.out (fun _ hk => hk.2))); have n2_ := am (hb); have n3_ := am (ho); clear HO_0 BK463 HB HO470; revert n0_ n1_ n2_ n3_; intro HO_0 BK463 HB HO473; clear ho hb hg hat))
          have n0_ := am (Kd.V_drew HO_0.out)
          have n1_ := am (Kd.N_drew HO473.out)
          have n2_ := am (blk_drew BK463.out)
          have n3_ := am (below_drew1 HB.out)
          clear HO_0 HO473 BK463 HB
          revert n0_ n1_ n2_ n3_
          intro HO_0 HO473 BK463 HB
          have p474 : 0 ≤ (x5_2 : Int) := zd
          have q474 : x5_2 < (l0.length : Int) := zd
          obtain ⟨ad474, A474_0, c474_0, A474_2, c474_2, A474_3, c474_3, A474_4, c474_4, e474, hx474_0, hx474_1, hx474_2, hx474_3, hx474_4, hl474_0, hi474_0, hl474_2, hi474_2, hl474_3, hi474_3, hl474_4, hi474_4⟩ := at_T30 (Kd.V_reads' HO_0.out).2.2 x5_2 p474 q474
          cases e474
          obtain ⟨ce474, hce474, hMe474, hcc474⟩ := Kd.V_get HO_0.out z30 x5_2 p474 (by first | exact q474 | exact zd | (have e_ := (Kd.V_reads' HO_0.out).1; omega))
          obtain ⟨ua474_0, uc474_0, ua474_2, uc474_2, ua474_3, uc474_3, ua474_4, uc474_4, rfl, ul474_0, ge474_0, ul474_2, ge474_2, ul474_3, ge474_3, ul474_4, ge474_4⟩ := k30_openF hMe474
          have hv474_0 := hcc474 0 _ rfl
          rw [Nat.add_zero] at hv474_0
          replace hv474_0 := Option.some.inj (hv474_0.symm.trans hx474_0)
          injection hv474_0 with hva_ hvn_ hvc_
          rw [hva_] at ge474_0
          rw [hvc_] at ul474_0
          have HL474_0 := am (show Kd.V (Kd.int .i64) 3 _ w.heap.size _ _ ((rd_T30 l0 x5_2).f0) from Kd.V_mk ul474_0 ge474_0)
          clear hva_ hvn_ hvc_ ge474_0 ul474_0
          have hv474_2 := hcc474 2 _ rfl
          rw [add_field _ _ 2 (by omega)] at hv474_2
          replace hv474_2 := Option.some.inj (hv474_2.symm.trans hx474_2)
          injection hv474_2 with hva_ hvn_ hvc_
          rw [hva_] at ge474_2
          rw [hvc_] at ul474_2
          have HL474_2 := am (show Kd.V (Kd.int .i64) 3 _ w.heap.size _ _ ((rd_T30 l0 x5_2).f2) from Kd.V_mk ul474_2 ge474_2)
          clear hva_ hvn_ hvc_ ge474_2 ul474_2
          have hv474_3 := hcc474 3 _ rfl
          rw [add_field _ _ 3 (by omega)] at hv474_3
          replace hv474_3 := Option.some.inj (hv474_3.symm.trans hx474_3)
          injection hv474_3 with hva_ hvn_ hvc_
          rw [hva_] at ge474_3
          rw [hvc_] at ul474_3
          have HL474_3 := am (show Kd.V (Kd.int .i64) 3 _ w.heap.size _ _ ((rd_T30 l0 x5_2).f3) from Kd.V_mk ul474_3 ge474_3)
          clear hva_ hvn_ hvc_ ge474_3 ul474_3
          have hv474_4 := hcc474 4 _ rfl
          rw [add_field _ _ 4 (by omega)] at hv474_4
          replace hv474_4 := Option.some.inj (hv474_4.symm.trans hx474_4)
          injection hv474_4 with hva_ hvn_ hvc_
          rw [hva_] at ge474_4
          rw [hvc_] at ul474_4
          have HL474_4 := am (show Kd.V (Kd.int .i64) 3 _ w.heap.size _ _ ((rd_T30 l0 x5_2).f4) from Kd.V_mk ul474_4 ge474_4)
          clear hva_ hvn_ hvc_ ge474_4 ul474_4
          clear hcc474 hce474
          have HR474_0 := am hi474_0
          have HC474_0 := am hl474_0
          clear hi474_0 hl474_0
          have HR474_2 := am hi474_2
          have HC474_2 := am hl474_2
          clear hi474_2 hl474_2
          have HR474_3 := am hi474_3
          have HC474_3 := am hl474_3
          clear hi474_3 hl474_3
          have HR474_4 := am hi474_4
          have HC474_4 := am hl474_4
          clear hi474_4 hl474_4
          replace p474 := eq_true p474
          replace q474 := eq_true q474
          refine start_ (n := 10) (S := fun w' => w'.cell? ⟨gb463, 0, none⟩ = some (.slice A1_0 l1_0.length c1_0) ∧ w'.cell? ⟨gb463, 1, none⟩ = some (.int .i64 a1_1) ∧ w'.cell? ⟨gb463, 2, none⟩ = some (.slice A1_2 l1_2.length c1_2) ∧ w'.cell? ⟨gb463, 3, none⟩ = some (.slice A1_3 l1_3.length c1_3) ∧ w'.cell? ⟨gb463, 4, none⟩ = some (.slice A1_4 l1_4.length c1_4) ∧ w'.cell? (ad474.add ((x5_2).toNat * 5)) = some (.slice A474_0 ((rd_T30 l0 x5_2).f0).length c474_0) ∧ w'.cell? ⟨(ad474.add ((x5_2).toNat * 5)).block, (ad474.add ((x5_2).toNat * 5)).off + 1, none⟩ = some (.int .i64 ((rd_T30 l0 x5_2).f1)) ∧ w'.cell? ⟨(ad474.add ((x5_2).toNat * 5)).block, (ad474.add ((x5_2).toNat * 5)).off + 2, none⟩ = some (.slice A474_2 ((rd_T30 l0 x5_2).f2).length c474_2) ∧ w'.cell? ⟨(ad474.add ((x5_2).toNat * 5)).block, (ad474.add ((x5_2).toNat * 5)).off + 3, none⟩ = some (.slice A474_3 ((rd_T30 l0 x5_2).f3).length c474_3) ∧ w'.cell? ⟨(ad474.add ((x5_2).toNat * 5)).block, (ad474.add ((x5_2).toNat * 5)).off + 4, none⟩ = some (.slice A474_4 ((rd_T30 l0 x5_2).f4).length c474_4)) (ds := [9]) (bb 10 0) (by kernel_rfl) rfl rfl ⟨bc BK463 0, bc BK463 1, bc BK463 2, bc BK463 3, bc BK463 4, hx474_0, hx474_1, hx474_2, hx474_3, hx474_4⟩ (fun hHeld => ?_); refine with_tabW hypercuberef2_Put.tab6 hypercuberef2_Put.bits6 (fun HT_ HW_ => ?_)
          generalize w27.drew = w28 at HO_0 HO473 BK463 HB HL474_0 HL474_2 HL474_3 HL474_4 HR474_0 HR474_2 HR474_3 HR474_4 hx474_0 hx474_1 hx474_2 hx474_3 hx474_4 hHeld ⊢
          refine zu 0 (some 42) (bb 10 1) HT_ ?_
          refine zu 1 (some 43) (bb 10 3) HT_ ?_
          refine zu 2 (some 44) (bb 10 7) HT_ ?_
          refine zu 3 (some 45) (bb 10 15) HT_ ?_
          refine zu 4 (some 46) (bb 10 31) HT_ ?_
          refine zk 5 (some 47) (bb 10 63) HT_ HW_ hHeld ?_
          refine zk 6 (some 48) (bb 10 127) HT_ HW_ hHeld ?_
          refine zo 7 (some 49) (bb 10 255) HT_ (fun K hK => ?_)
          refine goes_ Try.func33 (by kernel_rfl) rfl #[.agg #[.slice A474_0 ((rd_T30 l0 x5_2).f0).length c474_0, .int .i64 ((rd_T30 l0 x5_2).f1), .slice A474_2 ((rd_T30 l0 x5_2).f2).length c474_2, .slice A474_3 ((rd_T30 l0 x5_2).f3).length c474_3, .slice A474_4 ((rd_T30 l0 x5_2).f4).length c474_4], .agg #[.slice A1_0 l1_0.length c1_0, .int .i64 a1_1, .slice A1_2 l1_2.length c1_2, .slice A1_3 l1_3.length c1_3, .slice A1_4 l1_4.length c1_4]] (by rfl) rfl rfl zm ?_
          with_reducible refine (hypercuberef2_Join.calls kj11 _ _ ((rd_T30 l0 x5_2).f0) ((rd_T30 l0 x5_2).f1) _ _ ((rd_T30 l0 x5_2).f2) _ _ ((rd_T30 l0 x5_2).f3) _ _ ((rd_T30 l0 x5_2).f4) _ _ l1_0 a1_1 _ _ l1_2 _ _ l1_3 _ _ l1_4 t475 t478 t479 t482 t485 _ ?side1 ?side2 ?side3 ?side4 ?side5 ?side6 ?side7 ?side8 ?side9 ?side10 ?side11 ?side12 ?side13 ?side14 ?side15 ?side16 A22.out).mono ?_
          (case side1 => repeat (first | exact (by repeat (first | (with_reducible exact HR474_0.out) | (with_reducible refine Kd.C_alloc ?_ _) | (with_reducible refine Kd.C_drewN ?_ _) | (with_reducible refine Kd.C_drew ?_) | exact HR474_0.out)) | (with_reducible refine Kd.C_alloc ?_ _) | (with_reducible refine Kd.C_drewN ?_ _) | (with_reducible refine Kd.C_drew ?_)))
          (case side2 => exact HC474_0.out)
          (case side3 => repeat (first | exact (by repeat (first | (with_reducible exact HR474_2.out) | (with_reducible refine Kd.C_alloc ?_ _) | (with_reducible refine Kd.C_drewN ?_ _) | (with_reducible refine Kd.C_drew ?_) | exact HR474_2.out)) | (with_reducible refine Kd.C_alloc ?_ _) | (with_reducible refine Kd.C_drewN ?_ _) | (with_reducible refine Kd.C_drew ?_)))
          (case side4 => exact HC474_2.out)
          (case side5 => repeat (first | exact (by repeat (first | (with_reducible exact HR474_3.out) | (with_reducible refine Kd.C_alloc ?_ _) | (with_reducible refine Kd.C_drewN ?_ _) | (with_reducible refine Kd.C_drew ?_) | exact HR474_3.out)) | (with_reducible refine Kd.C_alloc ?_ _) | (with_reducible refine Kd.C_drewN ?_ _) | (with_reducible refine Kd.C_drew ?_)))
          (case side6 => exact HC474_3.out)
          (case side7 => repeat (first | exact (by repeat (first | (with_reducible exact HR474_4.out) | (with_reducible refine Kd.C_alloc ?_ _) | (with_reducible refine Kd.C_drewN ?_ _) | (with_reducible refine Kd.C_drew ?_) | exact HR474_4.out)) | (with_reducible refine Kd.C_alloc ?_ _) | (with_reducible refine Kd.C_drewN ?_ _) | (with_reducible refine Kd.C_drew ?_)))
          (case side8 => exact HC474_4.out)
          (case side9 => exact Kd.Cw HR1_0.out HB.out)
          (case side10 => exact HC1_0.out)
          (case side11 => exact Kd.Cw HR1_2.out HB.out)
          (case side12 => exact HC1_2.out)
          (case side13 => exact Kd.Cw HR1_3.out HB.out)
          (case side14 => exact HC1_3.out)
          (case side15 => exact Kd.Cw HR1_4.out HB.out)
          (case side16 => exact HC1_4.out)
          rintro e w29 ⟨v476, v480, v483, v486, rfl, ho0, ho1, ho2, ho3, hb⟩
          have HS5_ := (hb.cell (World.block_lt_of_cell? _ _ (hHeld.2.2.2.2.2.1))).trans (hHeld.2.2.2.2.2.1)
          have HS6_ := (hb.cell (World.block_lt_of_cell? _ _ (hHeld.2.2.2.2.2.2.1))).trans (hHeld.2.2.2.2.2.2.1)
          have HS7_ := (hb.cell (World.block_lt_of_cell? _ _ (hHeld.2.2.2.2.2.2.2.1))).trans (hHeld.2.2.2.2.2.2.2.1)
          have HS8_ := (hb.cell (World.block_lt_of_cell? _ _ (hHeld.2.2.2.2.2.2.2.2.1))).trans (hHeld.2.2.2.2.2.2.2.2.1)
          have HS9_ := (hb.cell (World.block_lt_of_cell? _ _ (hHeld.2.2.2.2.2.2.2.2.2))).trans (hHeld.2.2.2.2.2.2.2.2.2)
          refine ⟨_, rfl, ?_⟩
          have n0_ := am (Kd.V_mono (Kd.V_told (Kd.V_told (Kd.V_told (Kd.V_told (Kd.V_old (Kd.V_mv HO_0.out) hb) (Kd.R_base ho0)) (Kd.R_base ho1)) (Kd.R_base ho2)) (Kd.R_base ho3)) (fun _ h_ => h_.1))
          have n1_ := am (Kd.N_mono (Kd.N_told (Kd.N_told (Kd.N_told (Kd.N_told (Kd.N_old (Kd.N_mv HO473.out) hb) (Kd.R_base ho0)) (Kd.R_base ho1)) (Kd.R_base ho2)) (Kd.R_base ho3)) (fun _ h_ => h_.1))
          have n2_ := am (Kd.V_mono (Kd.V_told (Kd.V_told (Kd.V_told (Kd.V_told (Kd.V_old (Kd.V_mv HL474_0.out) hb) (Kd.R_base ho0)) (Kd.R_base ho1)) (Kd.R_base ho2)) (Kd.R_base ho3)) (fun _ h_ => h_.1))
          have n3_ := am (Kd.V_mono (Kd.V_told (Kd.V_told (Kd.V_told (Kd.V_told (Kd.V_old (Kd.V_mv HL474_2.out) hb) (Kd.R_base ho0)) (Kd.R_base ho1)) (Kd.R_base ho2)) (Kd.R_base ho3)) (fun _ h_ => h_.1))
          have n4_ := am (Kd.V_mono (Kd.V_told (Kd.V_told (Kd.V_told (Kd.V_told (Kd.V_old (Kd.V_mv HL474_3.out) hb) (Kd.R_base ho0)) (Kd.R_base ho1)) (Kd.R_base ho2)) (Kd.R_base ho3)) (fun _ h_ => h_.1))
          have n5_ := am (Kd.V_mono (Kd.V_told (Kd.V_told (Kd.V_told (Kd.V_told (Kd.V_old (Kd.V_mv HL474_4.out) hb) (Kd.R_base ho0)) (Kd.R_base ho1)) (Kd.R_base ho2)) (Kd.R_base ho3)) (fun _ h_ => h_.1))
          have n6_ := am (Kd.R_lower (Kd.R_newM (M := fun k_ => (w.heap.size ≤ k_)) ho0 (below_size (wmv HB.out)) (fun k_ h_ => h_)) (below_size (wmv HB.out)))
          have n7_ := am (Kd.R_lower (Kd.R_newM (M := fun k_ => (w.heap.size ≤ k_)) ho1 (below_size (wmv HB.out)) (fun k_ h_ => h_)) (below_size (wmv HB.out)))
          have n8_ := am (Kd.R_lower (Kd.R_newM (M := fun k_ => (w.heap.size ≤ k_)) ho2 (below_size (wmv HB.out)) (fun k_ h_ => h_)) (below_size (wmv HB.out)))
          have n9_ := am (Kd.R_lower (Kd.R_newM (M := fun k_ => (w.heap.size ≤ k_)) ho3 (below_size (wmv HB.out)) (fun k_ h_ => h_)) (below_size (wmv HB.out)))
          have n10_ := am (blk_below (bmv BK463.out) hb)
          have n11_ := am (Kd.C_below (by repeat (first | (with_reducible exact HR474_0.out) | (with_reducible refine Kd.C_alloc ?_ _) | (with_reducible refine Kd.C_drewN ?_ _) | (with_reducible refine Kd.C_drew ?_) | exact HR474_0.out)) hb)
          have n12_ := am (Kd.C_below (by repeat (first | (with_reducible exact HR474_2.out) | (with_reducible refine Kd.C_alloc ?_ _) | (with_reducible refine Kd.C_drewN ?_ _) | (with_reducible refine Kd.C_drew ?_) | exact HR474_2.out)) hb)
          have n13_ := am (Kd.C_below (by repeat (first | (with_reducible exact HR474_3.out) | (with_reducible refine Kd.C_alloc ?_ _) | (with_reducible refine Kd.C_drewN ?_ _) | (with_reducible refine Kd.C_drew ?_) | exact HR474_3.out)) hb)
          have n14_ := am (Kd.C_below (by repeat (first | (with_reducible exact HR474_4.out) | (with_reducible refine Kd.C_alloc ?_ _) | (with_reducible refine Kd.C_drewN ?_ _) | (with_reducible refine Kd.C_drew ?_) | exact HR474_4.out)) hb)
          have n15_ := am (below_step (wmv HB.out) hb)
          clear HO_0 HO473 HL474_0 HL474_2 HL474_3 HL474_4 BK463 HR474_0 HR474_2 HR474_3 HR474_4 HB
          revert n0_ n1_ n2_ n3_ n4_ n5_ n6_ n7_ n8_ n9_ n10_ n11_ n12_ n13_ n14_ n15_
          intro HO_0 HO473 HL474_0 HL474_2 HL474_3 HL474_4 HO477 HO481 HO484 HO487 BK463 HR474_0 HR474_2 HR474_3 HR474_4 HB
          (try clear hb)
          (try clear hb2)
          (try clear hk)
          (try clear hi)
          (try clear ho0)
          (try clear ho1)
          (try clear ho2)
          (try clear ho3)
          have p24 : 0 ≤ (x5_2 : Int) := zd
          have q24 : (x5_2 : Int) < ((y471.length : Int) : Int) := zd
          obtain ⟨go24, co24, eo24, gb24, gl24, cl24, HG24⟩ := Kd.N_form HO473.out (by omega)
          (first | cases eo24 | (injection eo24 with ea_ en_ ec_; (first | subst ea_ | (injection ea_ with ea_; subst ea_)); subst ec_; clear en_))
          have GB24 := am gb24
          have GG24 := am HG24
          clear gb24 gl24 HG24
          obtain ⟨ce24, hcl24, hM24, hcc24, hfr24⟩ := Kd.N_elem HO473.out z30 (x5_2 : Int) p24 q24
          obtain ⟨ua24_0, uc24_0, ua24_2, uc24_2, ua24_3, uc24_3, ua24_4, uc24_4, rfl, ul24_0, ge24_0, ul24_2, ge24_2, ul24_3, ge24_3, ul24_4, ge24_4⟩ := k30_openF hM24
          have hx24_0 : World.cell? _ ⟨go24, (x5_2 : Int).toNat * 5, none⟩ = some (.slice ua24_0 ((rd_T30 y471 x5_2).f0).length uc24_0) := hcc24 0 _ rfl
          have hx24_1 : World.cell? _ ⟨go24, (x5_2 : Int).toNat * 5 + 1, none⟩ = some (.int .i64 ((rd_T30 y471 x5_2).f1)) := hcc24 1 _ rfl
          have hx24_2 : World.cell? _ ⟨go24, (x5_2 : Int).toNat * 5 + 2, none⟩ = some (.slice ua24_2 ((rd_T30 y471 x5_2).f2).length uc24_2) := hcc24 2 _ rfl
          have hx24_3 : World.cell? _ ⟨go24, (x5_2 : Int).toNat * 5 + 3, none⟩ = some (.slice ua24_3 ((rd_T30 y471 x5_2).f3).length uc24_3) := hcc24 3 _ rfl
          have hx24_4 : World.cell? _ ⟨go24, (x5_2 : Int).toNat * 5 + 4, none⟩ = some (.slice ua24_4 ((rd_T30 y471 x5_2).f4).length uc24_4) := hcc24 4 _ rfl
          have hf24_0 : World.frozen? _ ⟨go24, (x5_2 : Int).toNat * 5, none⟩ = false := hfr24 0
          have hf24_1 : World.frozen? _ ⟨go24, (x5_2 : Int).toNat * 5 + 1, none⟩ = false := hfr24 1
          have hf24_2 : World.frozen? _ ⟨go24, (x5_2 : Int).toNat * 5 + 2, none⟩ = false := hfr24 2
          have hf24_3 : World.frozen? _ ⟨go24, (x5_2 : Int).toNat * 5 + 3, none⟩ = false := hfr24 3
          have hf24_4 : World.frozen? _ ⟨go24, (x5_2 : Int).toNat * 5 + 4, none⟩ = false := hfr24 4
          clear hcl24 hcc24 hfr24 hM24
          replace p24 := eq_true p24
          replace q24 := eq_true q24
          obtain ⟨Bv476, bv476, ev_⟩ := Kd.R_slice HO477.out
          subst ev_
          obtain ⟨Bv480, bv480, ev_⟩ := Kd.R_slice HO481.out
          subst ev_
          obtain ⟨Bv483, bv483, ev_⟩ := Kd.R_slice HO484.out
          subst ev_
          obtain ⟨Bv486, bv486, ev_⟩ := Kd.R_slice HO487.out
          subst ev_
          have HX30 := am (show Kd.N k30 30 _ w.heap.size (fun k_ => (P0_ k_ ∨ w.heap.size ≤ k_) ∧ some k_ ≠ ((.slice Bv476 t475.length bv476) : Value).ownBlock ∧ some k_ ≠ ((.slice Bv480 t479.length bv480) : Value).ownBlock ∧ some k_ ≠ ((.slice Bv483 t482.length bv483) : Value).ownBlock ∧ some k_ ≠ ((.slice Bv486 t485.length bv486) : Value).ownBlock ∧ k_ ≠ gb463) (.slice (some ⟨go24, 0, none⟩) y471.length co24) y471 from (Kd.N_mono (HO473.out) (fun k_ hk => ⟨hk.1.1.1.1.1, ⟨hk.1.1.1.2, ⟨hk.1.1.2, ⟨hk.1.2, ⟨hk.2, hk.1.1.1.1.2⟩⟩⟩⟩⟩)))
          replace HX30 := am (show Kd.N k30 30 _ w.heap.size (fun k_ => (P0_ k_ ∨ w.heap.size ≤ k_) ∧ k_ ≠ gb463) (.slice (some ⟨go24, 0, none⟩) y471.length co24) y471 from Kd.N_mono HX30.out (fun k_ hk => ⟨hk.1, hk.2.2.2.2.2⟩))
          obtain ⟨ce30, hcl30, hM30, hcc30, hfr30⟩ := Kd.N_elem HX30.out z30 (x5_2 : Int) (zd) (by have h_ : (x5_2 : Int) < ((y471.length : Int) : Int) := zd; first | exact h_ | (have e_ := (Kd.N_reads' HO473.out).1; omega) | simpa using h_)
          obtain ⟨ua30_0, uc30_0, ua30_2, uc30_2, ua30_3, uc30_3, ua30_4, uc30_4, rfl, ul30_0, ge30_0, ul30_2, ge30_2, ul30_3, ge30_3, ul30_4, ge30_4⟩ := k30_openF hM30
          have HP30 := (Kd.N_seg HX30.out (x5_2 : Int) (zd) (by have h_ : (x5_2 : Int) < ((y471.length : Int) : Int) := zd; first | exact h_ | (have e_ := (Kd.N_reads' HO473.out).1; omega) | simpa using h_) (seg := [(.slice Bv476 t475.length bv476), .int .i64 t478, (.slice Bv480 t479.length bv480), (.slice Bv483 t482.length bv483), (.slice Bv486 t485.length bv486)]) (j := 0) hcl30 hcc30 (show 5 ≤ 5 from by decide) (x' := (⟨t475, t478, t479, t482, t485⟩ : S30)) (k30_mkF _ _ (⟨t475, t478, t479, t482, t485⟩ : S30) (Kd.R_reads' (Kd.R_mono (ok' := (fun k_ => ((fun k_ => (P0_ k_ ∨ w.heap.size ≤ k_) ∧ k_ ≠ gb463)) k_ ∧ k_ ≠ go24)) (Kd.R_types (Kd.R_apart' (HO477.out) (Kd.N_typed HO473.out) (by decide)) BK463.out (by decide)) (fun k_ hk => ⟨⟨(.inr (hk.1.1.1)), hk.2⟩, fun e_ => (hk.1.2) (by rw [e_]; rfl)⟩))).2.1 (Kd.R_F (Kd.R_mono (ok' := (fun k_ => ((fun k_ => (P0_ k_ ∨ w.heap.size ≤ k_) ∧ k_ ≠ gb463)) k_ ∧ k_ ≠ go24)) (Kd.R_types (Kd.R_apart' (HO477.out) (Kd.N_typed HO473.out) (by decide)) BK463.out (by decide)) (fun k_ hk => ⟨⟨(.inr (hk.1.1.1)), hk.2⟩, fun e_ => (hk.1.2) (by rw [e_]; rfl)⟩))) (Kd.R_reads' (Kd.R_mono (ok' := (fun k_ => ((fun k_ => (P0_ k_ ∨ w.heap.size ≤ k_) ∧ k_ ≠ gb463)) k_ ∧ k_ ≠ go24)) (Kd.R_types (Kd.R_apart' (HO481.out) (Kd.N_typed HO473.out) (by decide)) BK463.out (by decide)) (fun k_ hk => ⟨⟨(.inr (hk.1.1.1)), hk.2⟩, fun e_ => (hk.1.2) (by rw [e_]; rfl)⟩))).2.1 (Kd.R_F (Kd.R_mono (ok' := (fun k_ => ((fun k_ => (P0_ k_ ∨ w.heap.size ≤ k_) ∧ k_ ≠ gb463)) k_ ∧ k_ ≠ go24)) (Kd.R_types (Kd.R_apart' (HO481.out) (Kd.N_typed HO473.out) (by decide)) BK463.out (by decide)) (fun k_ hk => ⟨⟨(.inr (hk.1.1.1)), hk.2⟩, fun e_ => (hk.1.2) (by rw [e_]; rfl)⟩))) (Kd.R_reads' (Kd.R_mono (ok' := (fun k_ => ((fun k_ => (P0_ k_ ∨ w.heap.size ≤ k_) ∧ k_ ≠ gb463)) k_ ∧ k_ ≠ go24)) (Kd.R_types (Kd.R_apart' (HO484.out) (Kd.N_typed HO473.out) (by decide)) BK463.out (by decide)) (fun k_ hk => ⟨⟨(.inr (hk.1.1.1)), hk.2⟩, fun e_ => (hk.1.2) (by rw [e_]; rfl)⟩))).2.1 (Kd.R_F (Kd.R_mono (ok' := (fun k_ => ((fun k_ => (P0_ k_ ∨ w.heap.size ≤ k_) ∧ k_ ≠ gb463)) k_ ∧ k_ ≠ go24)) (Kd.R_types (Kd.R_apart' (HO484.out) (Kd.N_typed HO473.out) (by decide)) BK463.out (by decide)) (fun k_ hk => ⟨⟨(.inr (hk.1.1.1)), hk.2⟩, fun e_ => (hk.1.2) (by rw [e_]; rfl)⟩))) (Kd.R_reads' (Kd.R_mono (ok' := (fun k_ => ((fun k_ => (P0_ k_ ∨ w.heap.size ≤ k_) ∧ k_ ≠ gb463)) k_ ∧ k_ ≠ go24)) (Kd.R_types (Kd.R_apart' (HO487.out) (Kd.N_typed HO473.out) (by decide)) BK463.out (by decide)) (fun k_ hk => ⟨⟨(.inr (hk.1.1.1)), hk.2⟩, fun e_ => (hk.1.2) (by rw [e_]; rfl)⟩))).2.1 (Kd.R_F (Kd.R_mono (ok' := (fun k_ => ((fun k_ => (P0_ k_ ∨ w.heap.size ≤ k_) ∧ k_ ≠ gb463)) k_ ∧ k_ ≠ go24)) (Kd.R_types (Kd.R_apart' (HO487.out) (Kd.N_typed HO473.out) (by decide)) BK463.out (by decide)) (fun k_ hk => ⟨⟨(.inr (hk.1.1.1)), hk.2⟩, fun e_ => (hk.1.2) (by rw [e_]; rfl)⟩)))) (fun _ hk => hk)).1
          rw [← Ny488.out] at HP30
          have HQ30 := am HP30
          clear hcl30 hcc30 hfr30 hM30 HP30
          refine hK.out _ _ ⟨bc BK463 0, bc BK463 1, bc BK463 2, bc BK463 3, bc BK463 4, HS5_, HS6_, HS7_, HS8_, HS9_⟩ (fun hHeld => ?_)
          clear hK K
          refine nm ?_
          refine zu 8 (some 50) (bb 10 511) HT_ ?_
          refine last_ (i := 9) (N := none) (bb 10 1023) rfl rfl (one_of HT_.out (by kernel_rfl)) (by decide) (fun K hK => ?_)
          refine skip_ (w1 := ?_) (by rfl) rfl ?_ ?_
          rotate_left
          ·go_simp
           rfl
          refine hK.out _ _ ?_
          clear hK K
          refine done_ (done_of HT_.out (by kernel_rfl)) ?_
          try go_wp2
          go_ret
          exact ⟨_, by first | rfl | (simp [errW_none, errW_some] <;> rfl) | (simp [*, errW_none, errW_some] <;> rfl), by (with_reducible repeat (first | apply Kd.N_alloc | apply Kd.N_drewN | apply Kd.N_drew)); exact Kd.N_mono HQ30.out (fun _ hk => hk.1), zw HB⟩
         ·rw [if_neg c23] at H
          exact absurd H (by simp)
        ·rw [if_neg c21] at H
         exact absurd H (by simp)
       ·rw [if_neg c20] at H
        exact absurd H (by simp)
      ·rw [if_neg c19] at H
       exact absurd H (by simp)
     ·replace c18 := Bool.eq_false_iff.mpr c18
      subst c18
      have H1 : ((some (([] : List (S30)) : List (S30))).bind fun y489 => (if 0 ≤ x5_2 then (if x5_2 ≤ (l0.length : Int) then ((some (l0.take (x5_2 : Int).toNat : List (S30))).bind fun y492 => (if y489.length + y492.length < 1353245080339 then ((some (y489 ++ y492 : List (S30))).bind fun y497 => ((hypercuberef2_Copy.f l1_0 a1_1 l1_2 l1_3 l1_4).bind fun bt500 => (if y497.length < 1353245080339 then ((some (y497 ++ [(⟨bt500.1, bt500.2.1, bt500.2.2.1, bt500.2.2.2.1, bt500.2.2.2.2⟩ : S30)] : List (S30))).bind fun y513 => ((some (l0.drop (x5_2 : Int).toNat : List (S30))).bind fun y516 => (if y513.length + y516.length < 1353245080339 then (some (y513 ++ y516)) else (none)))) else (none)))) else (none))) else (none)) else (none))) = some r := by rw [if_neg (show ¬ (false = true) by decide)] at H; exact H
      clear H
      have H := H1
      clear H1
      obtain ⟨y489, hy489⟩ : ∃ y_ : List (S30), y_ = (([] : List (S30))) := ⟨_, rfl⟩
      replace H : (if 0 ≤ x5_2 then (if x5_2 ≤ (l0.length : Int) then ((some (l0.take (x5_2 : Int).toNat : List (S30))).bind fun y492 => (if y489.length + y492.length < 1353245080339 then ((some (y489 ++ y492 : List (S30))).bind fun y497 => ((hypercuberef2_Copy.f l1_0 a1_1 l1_2 l1_3 l1_4).bind fun bt500 => (if y497.length < 1353245080339 then ((some (y497 ++ [(⟨bt500.1, bt500.2.1, bt500.2.2.1, bt500.2.2.2.1, bt500.2.2.2.2⟩ : S30)] : List (S30))).bind fun y513 => ((some (l0.drop (x5_2 : Int).toNat : List (S30))).bind fun y516 => (if y513.length + y516.length < 1353245080339 then (some (y513 ++ y516)) else (none)))) else (none)))) else (none))) else (none)) else (none)) = some r := by first | (rw [hy489]; with_reducible exact H) | (have H2_ := (Option.bind_some _ _).symm.trans H; rw [hy489]; with_reducible exact H2_) | (have H2_ := (Option.bind_some _ _).symm.trans H; with_reducible exact H2_) | with_reducible exact H | (rw [hy489]; exact H) | exact H
      have Ny489 := am hy489
      clear hy489
      by_cases c31 : 0 ≤ x5_2
      ·rw [if_pos c31] at H
       have c31b0 := eq_true c31
       have c31b1 : decide (0 ≤ x5_2) = true := decide_eq_true c31
       clear c31
       by_cases c32 : x5_2 ≤ (l0.length : Int)
       ·rw [if_pos c32] at H
        have c32b0 := eq_true c32
        have c32b1 : decide (x5_2 ≤ (l0.length : Int)) = true := decide_eq_true c32
        clear c32
        obtain ⟨y492, hy492⟩ : ∃ y_ : List (S30), y_ = (l0.take (x5_2 : Int).toNat) := ⟨_, rfl⟩
        replace H : (if y489.length + y492.length < 1353245080339 then ((some (y489 ++ y492 : List (S30))).bind fun y497 => ((hypercuberef2_Copy.f l1_0 a1_1 l1_2 l1_3 l1_4).bind fun bt500 => (if y497.length < 1353245080339 then ((some (y497 ++ [(⟨bt500.1, bt500.2.1, bt500.2.2.1, bt500.2.2.2.1, bt500.2.2.2.2⟩ : S30)] : List (S30))).bind fun y513 => ((some (l0.drop (x5_2 : Int).toNat : List (S30))).bind fun y516 => (if y513.length + y516.length < 1353245080339 then (some (y513 ++ y516)) else (none)))) else (none)))) else (none)) = some r := by first | (rw [hy492]; with_reducible exact H) | (have H2_ := (Option.bind_some _ _).symm.trans H; rw [hy492]; with_reducible exact H2_) | (have H2_ := (Option.bind_some _ _).symm.trans H; with_reducible exact H2_) | with_reducible exact H | (rw [hy492]; exact H) | exact H
        have Ny492 := am hy492
        clear hy492
        by_cases c33 : y489.length + y492.length < 1353245080339
        ·rw [if_pos c33] at H
         have LMc33 := am c33
         clear c33
         obtain ⟨y497, hy497⟩ : ∃ y_ : List (S30), y_ = (y489 ++ y492) := ⟨_, rfl⟩
         replace H : ((hypercuberef2_Copy.f l1_0 a1_1 l1_2 l1_3 l1_4).bind fun bt500 => (if y497.length < 1353245080339 then ((some (y497 ++ [(⟨bt500.1, bt500.2.1, bt500.2.2.1, bt500.2.2.2.1, bt500.2.2.2.2⟩ : S30)] : List (S30))).bind fun y513 => ((some (l0.drop (x5_2 : Int).toNat : List (S30))).bind fun y516 => (if y513.length + y516.length < 1353245080339 then (some (y513 ++ y516)) else (none)))) else (none))) = some r := by first | (rw [hy497]; with_reducible exact H) | (have H2_ := (Option.bind_some _ _).symm.trans H; rw [hy497]; with_reducible exact H2_) | (have H2_ := (Option.bind_some _ _).symm.trans H; with_reducible exact H2_) | with_reducible exact H | (rw [hy497]; exact H) | exact H
         have Ny497 := am hy497
         clear hy497
         replace H := Option.bind_eq_some_iff.mp H
         obtain ⟨⟨t500, t503, t504, t507, t510⟩, A340, H⟩ := H
         replace H : (if y497.length < 1353245080339 then ((some (y497 ++ [(⟨t500, t503, t504, t507, t510⟩ : S30)] : List (S30))).bind fun y513 => ((some (l0.drop (x5_2 : Int).toNat : List (S30))).bind fun y516 => (if y513.length + y516.length < 1353245080339 then (some (y513 ++ y516)) else (none)))) else (none)) = some r := H
         have A34 := am A340
         clear A340
         by_cases c35 : y497.length < 1353245080339
         ·rw [if_pos c35] at H
          have LMc35 := am c35
          clear c35
          obtain ⟨y513, hy513⟩ : ∃ y_ : List (S30), y_ = (y497 ++ [(⟨t500, t503, t504, t507, t510⟩ : S30)]) := ⟨_, rfl⟩
          replace H : ((some (l0.drop (x5_2 : Int).toNat : List (S30))).bind fun y516 => (if y513.length + y516.length < 1353245080339 then (some (y513 ++ y516)) else (none))) = some r := by first | (rw [hy513]; with_reducible exact H) | (have H2_ := (Option.bind_some _ _).symm.trans H; rw [hy513]; with_reducible exact H2_) | (have H2_ := (Option.bind_some _ _).symm.trans H; with_reducible exact H2_) | with_reducible exact H | (rw [hy513]; exact H) | exact H
          have Ny513 := am hy513
          clear hy513
          have c36b0 := eq_true (zd : 0 ≤ x5_2)
          have c37b0 := eq_true (zd : x5_2 ≤ (l0.length : Int))
          obtain ⟨y516, hy516⟩ : ∃ y_ : List (S30), y_ = (l0.drop (x5_2 : Int).toNat) := ⟨_, rfl⟩
          replace H : (if y513.length + y516.length < 1353245080339 then (some (y513 ++ y516)) else (none)) = some r := by first | (rw [hy516]; with_reducible exact H) | (have H2_ := (Option.bind_some _ _).symm.trans H; rw [hy516]; with_reducible exact H2_) | (have H2_ := (Option.bind_some _ _).symm.trans H; with_reducible exact H2_) | with_reducible exact H | (rw [hy516]; exact H) | exact H
          have Ny516 := am hy516
          clear hy516
          by_cases c38 : y513.length + y516.length < 1353245080339
          ·rw [if_pos c38] at H
           have LMc38 := am c38
           clear c38
           obtain ⟨y521, hy521⟩ : ∃ y_ : List (S30), y_ = (y513 ++ y516) := ⟨_, rfl⟩
           replace H : (some y521) = some r := by rw [hy521]; with_reducible exact H
           have Ny521 := am hy521
           clear hy521
           obtain rfl := Option.some.inj H
           try go_wp2
           have n0_ := am (Kd.V_drew HO_0.out)
           have n1_ := am (blk_drew BK463.out)
           have n2_ := am (below_drew1 HB.out)
           clear HO_0 BK463 HB
           revert n0_ n1_ n2_
           intro HO_0 BK463 HB
           have q40 : (x5_2 : Int) ≤ ((l0.length : Int) : Int) := zd
           obtain ⟨i040, hi040, _, hsz40, _⟩ := info_parts info30
           have hroom40 : l0.length ≤ c0 := (Kd.V_reads' HO_0.out).2.1
           have hC40 : Kd.F k30 _ _ A0 l0.length l0 := (Kd.V_at (base := w.heap.size) HO_0.out).2.2
           have hcut40 := cut_to (P := Try.prog) 28 30 .i64 Try.underlying28 hi040 A0 l0.length c0 x5_2 (zd) q40 hroom40
           have hr40 := Kd.F_take (m := (x5_2 : Int).toNat) hC40 (by omega)
           have hy40 : y492.length = (x5_2 : Int).toNat := (by rw [Ny492.out, List.length_take]; omega)
           rw [← Ny492.out] at hr40
           rw [← hy40] at hcut40
           have HO496 := am (show Kd.V k30 30 _ w.heap.size _ (.slice A0 y492.length c0) y492 from Kd.V_mk (by omega) hr40)
           have HC496 := am (show y492.length ≤ c0 from by omega)
           clear hr40 hC40 hroom40 hi040 hsz40
           have KY40 := am hy40
           clear hy40
           replace q40 := eq_true q40
           have q41 : (x5_2 : Int) ≤ ((l0.length : Int) : Int) := zd
           obtain ⟨i041, hi041, _, hsz41, _⟩ := info_parts info30
           have hroom41 : l0.length ≤ c0 := (Kd.V_reads' HO_0.out).2.1
           have hC41 : Kd.F k30 _ _ A0 l0.length l0 := (Kd.V_at (base := w.heap.size) HO_0.out).2.2
           have q041 : (0 : Int) ≤ (x5_2 : Int) := zd
           have hcut41 := cut_from (P := Try.prog) 28 30 .i64 Try.underlying28 hi041 5 hsz41 A0 l0.length c0 x5_2 q041 q41
           have hr41 := Kd.F_cut (m := (x5_2 : Int).toNat) (c := c0) hC41 (by omega) hroom41
           obtain ⟨A41, hA41⟩ : ∃ A1, A1 = (if c0 = (x5_2 : Int).toNat then A0 else (A0 : Option Addr).map (·.add ((x5_2 : Int).toNat * 5))) := ⟨_, rfl⟩
           obtain ⟨c41, hc41⟩ : ∃ c1, c1 = c0 - (x5_2 : Int).toNat := ⟨_, rfl⟩
           have hy41 : y516.length = l0.length - (x5_2 : Int).toNat := (by rw [Ny516.out, List.length_drop] <;> omega)
           rw [show (l0).drop (x5_2 : Int).toNat = y516 from Ny516.out.symm] at hr41
           replace hr41 : Kd.F k30 _ _ A41 y516.length y516 := (by rw [hA41]; exact hr41)
           rw [← hy41, ← hA41, ← hc41] at hcut41
           have HO520 := am (show Kd.V k30 30 _ w.heap.size _ (.slice A41 y516.length c41) y516 from Kd.V_mk (by rw [hy41, hc41]; exact Nat.sub_le_sub_right hroom41 _) hr41)
           have HC520 := am (show y516.length ≤ c41 from by rw [hy41, hc41]; exact Nat.sub_le_sub_right hroom41 _)
           clear hr41 hC41 hroom41 hi041 hsz41 hc41
           have KY41 := am hy41
           have KA41 := am hA41
           clear hy41 hA41
           replace q41 := eq_true q41
           refine start_ (n := 14) (S := fun w' => w'.cell? ⟨gb463, 0, none⟩ = some (.slice A1_0 l1_0.length c1_0) ∧ w'.cell? ⟨gb463, 1, none⟩ = some (.int .i64 a1_1) ∧ w'.cell? ⟨gb463, 2, none⟩ = some (.slice A1_2 l1_2.length c1_2) ∧ w'.cell? ⟨gb463, 3, none⟩ = some (.slice A1_3 l1_3.length c1_3) ∧ w'.cell? ⟨gb463, 4, none⟩ = some (.slice A1_4 l1_4.length c1_4)) (ds := []) (bb 14 0) (by kernel_rfl) rfl rfl ⟨bc BK463 0, bc BK463 1, bc BK463 2, bc BK463 3, bc BK463 4⟩ (fun hHeld => ?_); refine with_tabW hypercuberef2_Put.tab8 hypercuberef2_Put.bits8 (fun HT_ HW_ => ?_)
           generalize wc.drew = w39 at HO_0 BK463 HB HO496 HO520 hHeld ⊢
           refine zu 1 (some 53) (bb 14 2) HT_ ?_
           refine zu 2 (some 54) (bb 14 6) HT_ ?_
           refine zu 3 (some 55) (bb 14 14) HT_ ?_
           refine zu 9 (some 61) (bb 14 526) HT_ ?_
           refine zu 10 (some 62) (bb 14 1550) HT_ ?_
           refine zu 11 (some 63) (bb 14 3598) HT_ ?_
           refine zk 5 (some 57) (bb 14 3630) HT_ HW_ hHeld ?_
           refine zo 0 (some 52) (bb 14 3631) HT_ (fun K hK => ?_)
           refine Kd.N_lit_step k30 _ 30 ?hg (N' := 52) ?hd (xs := ([] : List (S30))) (inner := []) (ok := (fun k_ => (P0_ k_ ∨ w.heap.size ≤ k_) ∧ k_ ≠ gb463)) (okp := (fun k_ => (P0_ k_ ∨ w.heap.size ≤ k_) ∧ k_ ≠ gb463)) ?hr ?hp (fun _ hk => hk) ((show ∀ k_, w39.heap.size ≤ k_ → (fun k_ => (P0_ k_ ∨ w.heap.size ≤ k_) ∧ k_ ≠ gb463) k_ from fun k_ hk => ⟨(.inr (Nat.le_trans (below_size (wmv HB.out)) hk)), Kd.freshB (bmv BK463.out) k_ hk⟩) _ (Nat.le_refl _)) (Below.refl _ _) (Nat.le_refl _) (by simp) ?_; (case hd => rfl); (case hg => rfl); (case hr => first | (go_simp; done) | (go_simp; rfl)); (case hp => exact (Reps.none _ _))
           intro v490 w42 ho43 hb hg_ hnew_
           clear hg_ hnew_
           (first | rw [← Ny489.out] at ho43 | (simp only [Int.reduceToNat] at ho43; rw [← Ny489.out] at ho43))
           have n0_ := am (Kd.V_elder' (Kd.V_mv HO_0.out) (by first | exact Kd.N_base ho43 | exact Kd.S_base ho43 | exact Kd.R_base ho43) hb)
           have n1_ := am (Kd.V_elder' (Kd.V_mv HO496.out) (by first | exact Kd.N_base ho43 | exact Kd.S_base ho43 | exact Kd.R_base ho43) hb)
           have n2_ := am (Kd.V_elder' (Kd.V_mv HO520.out) (by first | exact Kd.N_base ho43 | exact Kd.S_base ho43 | exact Kd.R_base ho43) hb)
           have n3_ := am (Kd.N_lower ho43 (below_size (wmv HB.out)))
           have n4_ := am (blk_below (bmv BK463.out) hb)
           have n5_ := am (below_step (wmv HB.out) hb)
           clear HO_0 HO496 HO520 BK463 HB
           revert n0_ n1_ n2_ n3_ n4_ n5_
           intro HO_0 HO496 HO520 HO491 BK463 HB
           clear hb ho43
           refine hK.out _ _ ⟨bc BK463 0, bc BK463 1, bc BK463 2, bc BK463 3, bc BK463 4⟩ (fun hHeld => ?_)
           clear hK K
           refine nm ?_
           refine zo 4 (some 56) (bb 14 3647) HT_ (fun K hK => ?_)
           refine Kd.N_append_rows_step k30 (w0 := w) w.heap.size (by rfl) (.tmp 52) (.tmp 55) 28 30 (.agg #[(.slice none 0 0), (.int .i64 0), (.slice none 0 0), (.slice none 0 0), (.slice none 0 0)]) 104 rfl Try.underlying28 info30 rfl (by decide) (by omega) v490 y489 y492 _ _ _ (fun k_ => (P0_ k_ ∨ w.heap.size ≤ k_) ∧ k_ ≠ gb463) (fun k_ => ((fun k_ => (P0_ k_ ∨ w.heap.size ≤ k_) ∧ k_ ≠ gb463)) k_ ∧ some k_ ≠ (v490 : Value).ownBlock) rfl rfl ?aO ?aR (fun _ hk => hk) ?aF ?aB ?aS ?aL ?_
           (case aR => exact (by skip; exact Kd.V_F (Kd.V_mono (ok' := (fun k_ => ((fun k_ => (P0_ k_ ∨ w.heap.size ≤ k_) ∧ k_ ≠ gb463)) k_ ∧ some k_ ≠ (v490 : Value).ownBlock)) (HO496.out) (fun k_ hk => ⟨⟨hk.1.1, hk.1.2⟩, hk.2⟩))))
           (case aB => exact (wmv HB.out))
           (case aF => exact (fun k_ hk => ⟨(.inr (Nat.le_trans (below_size (wmv HB.out)) hk)), Kd.freshB (bmv BK463.out) k_ hk⟩))
           (case aO => exact (Kd.N_mv HO491.out))
           (case aS => exact (below_size (wmv HB.out)))
           (case aL => have := LMc33.out; omega)
           intro v498 w44 ho hb hg hat
           rw [← Ny497.out] at ho
           have n0_ := am (Kd.V_afterv (ok := (fun k_ => (P0_ k_ ∨ w.heap.size ≤ k_) ∧ k_ ≠ gb463)) (Kd.V_mv HO_0.out) hg hat)
           have n1_ := am (blk_grown (bmv BK463.out) hg (Kd.N_away HO491.out (fun _ hk => hk.2)))
           have n2_ := am (Kd.V_afterv (ok := (fun k_ => (P0_ k_ ∨ w.heap.size ≤ k_) ∧ k_ ≠ gb463)) (Kd.V_mv HO496.out) hg hat)
           have n3_ := am (Kd.V_afterv (ok := (fun k_ => (P0_ k_ ∨ w.heap.size ≤ k_) ∧ k_ ≠ gb463)) (Kd.V_mv HO520.out) hg hat)
           have n4_ := am (hb)
           have n5_ := am (ho)
           clear HO_0 BK463 HO496 HO520 HB HO491
           revert n0_ n1_ n2_ n3_ n4_ n5_
           intro HO_0 BK463 HO496 HO520 HB HO499
           clear ho hb hg hat
           refine hK.out _ _ ⟨bc BK463 0, bc BK463 1, bc BK463 2, bc BK463 3, bc BK463 4⟩ (fun hHeld => ?_)
           clear hK K
           refine nm ?_
           refine zo 6 (some 58) (bb 14 3711) HT_ (fun K hK => ?_)
           refine goes_ Try.func52 (by kernel_rfl) rfl #[.agg #[.slice A1_0 l1_0.length c1_0, .int .i64 a1_1, .slice A1_2 l1_2.length c1_2, .slice A1_3 l1_3.length c1_3, .slice A1_4 l1_4.length c1_4]] (by rfl) rfl rfl zm ?_
           with_reducible refine (hypercuberef2_Copy.calls _ _ l1_0 a1_1 _ _ l1_2 _ _ l1_3 _ _ l1_4 t500 t503 t504 t507 t510 _ ?side1 ?side2 ?side3 ?side4 ?side5 ?side6 ?side7 ?side8 A34.out).mono ?_
           (case side1 => exact Kd.Cw HR1_0.out HB.out)
           (case side2 => exact HC1_0.out)
           (case side3 => exact Kd.Cw HR1_2.out HB.out)
           (case side4 => exact HC1_2.out)
           (case side5 => exact Kd.Cw HR1_3.out HB.out)
           (case side6 => exact HC1_3.out)
           (case side7 => exact Kd.Cw HR1_4.out HB.out)
           (case side8 => exact HC1_4.out)
           rintro e w45 ⟨v501, v505, v508, v511, rfl, ho0, ho1, ho2, ho3, hb⟩
           refine ⟨_, rfl, ?_⟩
           have n0_ := am (Kd.V_mono (Kd.V_told (Kd.V_told (Kd.V_told (Kd.V_told (Kd.V_old (Kd.V_mv HO_0.out) hb) (Kd.R_base ho0)) (Kd.R_base ho1)) (Kd.R_base ho2)) (Kd.R_base ho3)) (fun _ h_ => h_.1))
           have n1_ := am (Kd.V_mono (Kd.V_told (Kd.V_told (Kd.V_told (Kd.V_told (Kd.V_old (Kd.V_mv HO496.out) hb) (Kd.R_base ho0)) (Kd.R_base ho1)) (Kd.R_base ho2)) (Kd.R_base ho3)) (fun _ h_ => h_.1))
           have n2_ := am (Kd.V_mono (Kd.V_told (Kd.V_told (Kd.V_told (Kd.V_told (Kd.V_old (Kd.V_mv HO520.out) hb) (Kd.R_base ho0)) (Kd.R_base ho1)) (Kd.R_base ho2)) (Kd.R_base ho3)) (fun _ h_ => h_.1))
           have n3_ := am (Kd.N_mono (Kd.N_told (Kd.N_told (Kd.N_told (Kd.N_told (Kd.N_old (Kd.N_mv HO499.out) hb) (Kd.R_base ho0)) (Kd.R_base ho1)) (Kd.R_base ho2)) (Kd.R_base ho3)) (fun _ h_ => h_.1))
           have n4_ := am (Kd.R_lower (Kd.R_newM (M := fun k_ => (w.heap.size ≤ k_)) ho0 (below_size (wmv HB.out)) (fun k_ h_ => h_)) (below_size (wmv HB.out)))
           have n5_ := am (Kd.R_lower (Kd.R_newM (M := fun k_ => (w.heap.size ≤ k_)) ho1 (below_size (wmv HB.out)) (fun k_ h_ => h_)) (below_size (wmv HB.out)))
           have n6_ := am (Kd.R_lower (Kd.R_newM (M := fun k_ => (w.heap.size ≤ k_)) ho2 (below_size (wmv HB.out)) (fun k_ h_ => h_)) (below_size (wmv HB.out)))
           have n7_ := am (Kd.R_lower (Kd.R_newM (M := fun k_ => (w.heap.size ≤ k_)) ho3 (below_size (wmv HB.out)) (fun k_ h_ => h_)) (below_size (wmv HB.out)))
           have n8_ := am (blk_below (bmv BK463.out) hb)
           have n9_ := am (below_step (wmv HB.out) hb)
           clear HO_0 HO496 HO520 HO499 BK463 HB
           revert n0_ n1_ n2_ n3_ n4_ n5_ n6_ n7_ n8_ n9_
           intro HO_0 HO496 HO520 HO499 HO502 HO506 HO509 HO512 BK463 HB
           (try clear hb)
           (try clear hb2)
           (try clear hk)
           (try clear hi)
           (try clear ho0)
           (try clear ho1)
           (try clear ho2)
           (try clear ho3)
           obtain ⟨Ao47, co47, eo47⟩ := Kd.R_slice HO502.out
           (first | subst eo47 | (injection eo47 with f1_ f2_ f3_; have f4_ := f1_.symm; have f5_ := f3_.symm; clear f1_ f2_ f3_; subst f4_; subst f5_))
           obtain ⟨Ao48, co48, eo48⟩ := Kd.R_slice HO506.out
           (first | subst eo48 | (injection eo48 with f1_ f2_ f3_; have f4_ := f1_.symm; have f5_ := f3_.symm; clear f1_ f2_ f3_; subst f4_; subst f5_))
           obtain ⟨Ao49, co49, eo49⟩ := Kd.R_slice HO509.out
           (first | subst eo49 | (injection eo49 with f1_ f2_ f3_; have f4_ := f1_.symm; have f5_ := f3_.symm; clear f1_ f2_ f3_; subst f4_; subst f5_))
           obtain ⟨Ao50, co50, eo50⟩ := Kd.R_slice HO512.out
           (first | subst eo50 | (injection eo50 with f1_ f2_ f3_; have f4_ := f1_.symm; have f5_ := f3_.symm; clear f1_ f2_ f3_; subst f4_; subst f5_))
           refine hK.out _ _ ⟨bc BK463 0, bc BK463 1, bc BK463 2, bc BK463 3, bc BK463 4⟩ (fun hHeld => ?_)
           clear hK K
           refine nm ?_
           refine zo 7 (some 59) (bb 14 3839) HT_ (fun K hK => ?_)
           refine value_ (w1 := ?_) (v := ?_) (by rfl) rfl ?_ ?_
           rotate_left 2
           ·go_simp
            constructor
            ·rfl
            ·rfl
           refine hK.out _ _ ⟨(blk_cell (blk_alloc BK463.out _) 0).trans rfl, (blk_cell (blk_alloc BK463.out _) 1).trans rfl, (blk_cell (blk_alloc BK463.out _) 2).trans rfl, (blk_cell (blk_alloc BK463.out _) 3).trans rfl, (blk_cell (blk_alloc BK463.out _) 4).trans rfl⟩ (fun hHeld => ?_)
           clear hK K
           refine nm ?_
           refine zo 8 (some 60) (bb 14 4095) HT_ (fun K hK => ?_)
           refine Kd.N_append_step k30 (w0 := w) w.heap.size (by rfl) (.tmp 56) (.tmp 59) 28 30 (.agg #[(.slice none 0 0), (.int .i64 0), (.slice none 0 0), (.slice none 0 0), (.slice none 0 0)]) 104 rfl Try.underlying28 info30 rfl (by decide) (by omega) v498 y497 (⟨t500, t503, t504, t507, t510⟩ : S30) [.slice Ao47 t500.length co47, .int .i64 t503, .slice Ao48 t504.length co48, .slice Ao49 t507.length co49, .slice Ao50 t510.length co50] (fun k_ => (P0_ k_ ∨ w.heap.size ≤ k_) ∧ k_ ≠ gb463) (fun k_ => ((fun k_ => (P0_ k_ ∨ w.heap.size ≤ k_) ∧ k_ ≠ gb463)) k_ ∧ some k_ ≠ (v498 : Value).ownBlock) rfl rfl ?aP (fun _ hk => hk) ?aF ?aO ?aB ?aS ?aL ?_
           (case aP => exact (k30_mkF _ _ (⟨t500, t503, t504, t507, t510⟩ : S30) (Kd.R_reads' (Kd.R_mono (ok' := (fun k_ => ((fun k_ => (P0_ k_ ∨ w.heap.size ≤ k_) ∧ k_ ≠ gb463)) k_ ∧ some k_ ≠ (v498 : Value).ownBlock)) (Kd.R_types (Kd.R_apart' (HO502.out) (Kd.N_typed HO499.out) (by decide)) BK463.out (by decide)) (fun k_ hk => ⟨⟨(.inr (hk.1.1.1)), hk.2⟩, hk.1.2⟩))).2.1 (Kd.R_F (Kd.R_mono (ok' := (fun k_ => ((fun k_ => (P0_ k_ ∨ w.heap.size ≤ k_) ∧ k_ ≠ gb463)) k_ ∧ some k_ ≠ (v498 : Value).ownBlock)) (Kd.R_types (Kd.R_apart' (HO502.out) (Kd.N_typed HO499.out) (by decide)) BK463.out (by decide)) (fun k_ hk => ⟨⟨(.inr (hk.1.1.1)), hk.2⟩, hk.1.2⟩))) (Kd.R_reads' (Kd.R_mono (ok' := (fun k_ => ((fun k_ => (P0_ k_ ∨ w.heap.size ≤ k_) ∧ k_ ≠ gb463)) k_ ∧ some k_ ≠ (v498 : Value).ownBlock)) (Kd.R_types (Kd.R_apart' (HO506.out) (Kd.N_typed HO499.out) (by decide)) BK463.out (by decide)) (fun k_ hk => ⟨⟨(.inr (hk.1.1.1)), hk.2⟩, hk.1.2⟩))).2.1 (Kd.R_F (Kd.R_mono (ok' := (fun k_ => ((fun k_ => (P0_ k_ ∨ w.heap.size ≤ k_) ∧ k_ ≠ gb463)) k_ ∧ some k_ ≠ (v498 : Value).ownBlock)) (Kd.R_types (Kd.R_apart' (HO506.out) (Kd.N_typed HO499.out) (by decide)) BK463.out (by decide)) (fun k_ hk => ⟨⟨(.inr (hk.1.1.1)), hk.2⟩, hk.1.2⟩))) (Kd.R_reads' (Kd.R_mono (ok' := (fun k_ => ((fun k_ => (P0_ k_ ∨ w.heap.size ≤ k_) ∧ k_ ≠ gb463)) k_ ∧ some k_ ≠ (v498 : Value).ownBlock)) (Kd.R_types (Kd.R_apart' (HO509.out) (Kd.N_typed HO499.out) (by decide)) BK463.out (by decide)) (fun k_ hk => ⟨⟨(.inr (hk.1.1.1)), hk.2⟩, hk.1.2⟩))).2.1 (Kd.R_F (Kd.R_mono (ok' := (fun k_ => ((fun k_ => (P0_ k_ ∨ w.heap.size ≤ k_) ∧ k_ ≠ gb463)) k_ ∧ some k_ ≠ (v498 : Value).ownBlock)) (Kd.R_types (Kd.R_apart' (HO509.out) (Kd.N_typed HO499.out) (by decide)) BK463.out (by decide)) (fun k_ hk => ⟨⟨(.inr (hk.1.1.1)), hk.2⟩, hk.1.2⟩))) (Kd.R_reads' (Kd.R_mono (ok' := (fun k_ => ((fun k_ => (P0_ k_ ∨ w.heap.size ≤ k_) ∧ k_ ≠ gb463)) k_ ∧ some k_ ≠ (v498 : Value).ownBlock)) (Kd.R_types (Kd.R_apart' (HO512.out) (Kd.N_typed HO499.out) (by decide)) BK463.out (by decide)) (fun k_ hk => ⟨⟨(.inr (hk.1.1.1)), hk.2⟩, hk.1.2⟩))).2.1 (Kd.R_F (Kd.R_mono (ok' := (fun k_ => ((fun k_ => (P0_ k_ ∨ w.heap.size ≤ k_) ∧ k_ ≠ gb463)) k_ ∧ some k_ ≠ (v498 : Value).ownBlock)) (Kd.R_types (Kd.R_apart' (HO512.out) (Kd.N_typed HO499.out) (by decide)) BK463.out (by decide)) (fun k_ hk => ⟨⟨(.inr (hk.1.1.1)), hk.2⟩, hk.1.2⟩)))))
           (case aB => exact (wmv HB.out))
           (case aF => exact (fun k_ hk => ⟨(.inr (Nat.le_trans (below_size (wmv HB.out)) hk)), Kd.freshB (bmv BK463.out) k_ hk⟩))
           (case aO => exact (Kd.N_mv (Kd.N_mono HO499.out (fun _ hk => ⟨hk.1.1.1.1.1, hk.1.1.1.1.2⟩))))
           (case aS => exact (below_size (wmv HB.out)))
           (case aL => have := LMc35.out; omega)
           intro v514 w46 ho hb hg hat
           rw [← Ny513.out] at ho
           have n0_ := am (Kd.V_afterv (ok := (fun k_ => (P0_ k_ ∨ w.heap.size ≤ k_) ∧ some k_ ≠ (.slice Ao47 t500.length co47 : Value).ownBlock ∧ some k_ ≠ (.slice Ao48 t504.length co48 : Value).ownBlock ∧ some k_ ≠ (.slice Ao49 t507.length co49 : Value).ownBlock ∧ some k_ ≠ (.slice Ao50 t510.length co50 : Value).ownBlock ∧ k_ ≠ gb463)) (Kd.V_mv (Kd.V_mono HO_0.out (fun _ hk => ⟨⟨hk.1.1.1.1.1.1, ⟨hk.1.1.1.2, ⟨hk.1.1.2, ⟨hk.1.2, ⟨hk.2, hk.1.1.1.1.1.2⟩⟩⟩⟩⟩, hk.1.1.1.1.2⟩))) hg hat)
           have n1_ := am (blk_grown (bmv BK463.out) hg (Kd.N_away HO499.out (fun _ hk => hk.1.1.1.1.2)))
           have n2_ := am (Kd.V_afterv (ok := (fun k_ => (P0_ k_ ∨ w.heap.size ≤ k_) ∧ some k_ ≠ (.slice Ao47 t500.length co47 : Value).ownBlock ∧ some k_ ≠ (.slice Ao48 t504.length co48 : Value).ownBlock ∧ some k_ ≠ (.slice Ao49 t507.length co49 : Value).ownBlock ∧ some k_ ≠ (.slice Ao50 t510.length co50 : Value).ownBlock ∧ k_ ≠ gb463)) (Kd.V_mv (Kd.V_mono HO496.out (fun _ hk => ⟨⟨hk.1.1.1.1.1.1, ⟨hk.1.1.1.2, ⟨hk.1.1.2, ⟨hk.1.2, ⟨hk.2, hk.1.1.1.1.1.2⟩⟩⟩⟩⟩, hk.1.1.1.1.2⟩))) hg hat)
           have n3_ := am (Kd.V_afterv (ok := (fun k_ => (P0_ k_ ∨ w.heap.size ≤ k_) ∧ some k_ ≠ (.slice Ao47 t500.length co47 : Value).ownBlock ∧ some k_ ≠ (.slice Ao48 t504.length co48 : Value).ownBlock ∧ some k_ ≠ (.slice Ao49 t507.length co49 : Value).ownBlock ∧ some k_ ≠ (.slice Ao50 t510.length co50 : Value).ownBlock ∧ k_ ≠ gb463)) (Kd.V_mv (Kd.V_mono HO520.out (fun _ hk => ⟨⟨hk.1.1.1.1.1.1, ⟨hk.1.1.1.2, ⟨hk.1.1.2, ⟨hk.1.2, ⟨hk.2, hk.1.1.1.1.1.2⟩⟩⟩⟩⟩, hk.1.1.1.1.2⟩))) hg hat)
           have n4_ := am (hb)
           have n5_ := am (ho)
           clear HO_0 BK463 HO496 HO520 HB HO499 HO502 HO506 HO509 HO512
           revert n0_ n1_ n2_ n3_ n4_ n5_
           intro HO_0 BK463 HO496 HO520 HB HO515
           clear ho hb hg hat
           refine hK.out _ _ ⟨bc BK463 0, bc BK463 1, bc BK463 2, bc BK463 3, bc BK463 4⟩ (fun hHeld => ?_)
           clear hK K
           refine nm ?_
           refine zo 12 (some 64) (bb 14 8191) HT_ (fun K hK => ?_)
           refine Kd.N_append_rows_step k30 (w0 := w) w.heap.size (by rfl) (.tmp 60) (.tmp 63) 28 30 (.agg #[(.slice none 0 0), (.int .i64 0), (.slice none 0 0), (.slice none 0 0), (.slice none 0 0)]) 104 rfl Try.underlying28 info30 rfl (by decide) (by omega) v514 y513 y516 _ _ _ (fun k_ => (P0_ k_ ∨ w.heap.size ≤ k_) ∧ k_ ≠ gb463) (fun k_ => ((fun k_ => (P0_ k_ ∨ w.heap.size ≤ k_) ∧ k_ ≠ gb463)) k_ ∧ some k_ ≠ (v514 : Value).ownBlock) rfl rfl ?aO ?aR (fun _ hk => hk) ?aF ?aB ?aS ?aL ?_
           (case aR => exact (by skip; exact Kd.V_F (Kd.V_mono (ok' := (fun k_ => ((fun k_ => (P0_ k_ ∨ w.heap.size ≤ k_) ∧ k_ ≠ gb463)) k_ ∧ some k_ ≠ (v514 : Value).ownBlock)) (HO520.out) (fun k_ hk => ⟨⟨hk.1.1, hk.1.2.2.2.2.2⟩, hk.2⟩))))
           (case aB => exact (wmv HB.out))
           (case aF => exact (fun k_ hk => ⟨(.inr (Nat.le_trans (below_size (wmv HB.out)) hk)), Kd.freshB (bmv BK463.out) k_ hk⟩))
           (case aO => exact (Kd.N_mv HO515.out))
           (case aS => exact (below_size (wmv HB.out)))
           (case aL => have := LMc38.out; omega)
           intro v522 w51 ho hb hg hat
           rw [← Ny521.out] at ho
           have n0_ := am (Kd.V_afterv (ok := (fun k_ => (P0_ k_ ∨ w.heap.size ≤ k_) ∧ k_ ≠ gb463)) (Kd.V_mv (Kd.V_mono HO_0.out (fun _ hk => ⟨⟨hk.1.1, hk.1.2.2.2.2.2⟩, hk.2⟩))) hg hat)
           have n1_ := am (blk_grown (bmv BK463.out) hg (Kd.N_away HO515.out (fun _ hk => hk.2)))
           have n2_ := am (Kd.V_afterv (ok := (fun k_ => (P0_ k_ ∨ w.heap.size ≤ k_) ∧ k_ ≠ gb463)) (Kd.V_mv (Kd.V_mono HO496.out (fun _ hk => ⟨⟨hk.1.1, hk.1.2.2.2.2.2⟩, hk.2⟩))) hg hat)
           have n3_ := am (Kd.V_afterv (ok := (fun k_ => (P0_ k_ ∨ w.heap.size ≤ k_) ∧ k_ ≠ gb463)) (Kd.V_mv (Kd.V_mono HO520.out (fun _ hk => ⟨⟨hk.1.1, hk.1.2.2.2.2.2⟩, hk.2⟩))) hg hat)
           have n4_ := am (hb)
           have n5_ := am (ho)
           clear HO_0 BK463 HO496 HO520 HB HO515
           revert n0_ n1_ n2_ n3_ n4_ n5_
           intro HO_0 BK463 HO496 HO520 HB HO523
           clear ho hb hg hat
           refine hK.out _ _ ⟨bc BK463 0, bc BK463 1, bc BK463 2, bc BK463 3, bc BK463 4⟩ (fun hHeld => ?_)
           clear hK K
           refine nm ?_
           refine zu 13 (some 4) (bb 14 16383) HT_ ?_
           refine done_ (done_of HT_.out (by kernel_rfl)) ?_
           try go_wp2
           go_ret
           exact ⟨_, by first | rfl | (simp [errW_none, errW_some] <;> rfl) | (simp [*, errW_none, errW_some] <;> rfl), by (with_reducible repeat (first | apply Kd.N_alloc | apply Kd.N_drewN | apply Kd.N_drew)); exact Kd.N_mono HO523.out (fun _ hk => hk.1), zw HB⟩
          ·rw [if_neg c38] at H
           exact absurd H (by simp)
         ·rw [if_neg c35] at H
          exact absurd H (by simp)
        ·rw [if_neg c33] at H
         exact absurd H (by simp)
       ·rw [if_neg c32] at H
        exact absurd H (by simp)
      ·rw [if_neg c31] at H
       exact absurd H (by simp)
def hypercuberef2_Facts.l0 : Nat → List (S45) → Int → List (S30) → Int → Option ((List (S30)))
 | 0, _, _, _, _ => none
 | k + 1, x0, x1, x5, x6 => if x6 < (x0.length : Int) then (if 0 ≤ x6 then ((hypercuberef2_Of.f k ((rd_T45 x0 x6).f0) ((rd_T45 x0 x6).f1) x1).bind fun bt525 => ((hypercuberef2_Put.f k x5 bt525.1 bt525.2.1 bt525.2.2.1 bt525.2.2.2.1 bt525.2.2.2.2).bind fun t538 => (hypercuberef2_Facts.l0 k x0 x1 t538 (wrap64 (x6 + 1))))) else (none)) else (some x5)
def hypercuberef2_Facts.f (k : Nat) (l0 : List (S45)) (a1 : Int) : Option ((List (S30))) := hypercuberef2_Facts.l0 k l0 a1 ([] : List (S30)) 0
set_option maxHeartbeats 8000000 in
set_option maxRecDepth 100000 in
theorem hypercuberef2_Facts.calls (k : Nat) (A0 : Option Addr) (c0 : Nat) (l0 : List (S45)) (a1 : Int) (r : List (S30)) (w : World) (hr0 : Kd.C k45 w A0 l0.length l0) (hc0 : l0.length ≤ c0) (h : hypercuberef2_Facts.f k l0 a1 = some r) :
  Calls Try.prog 29 #[.slice A0 l0.length c0, .int .i64 a1] w fun e w' => ∃ v0_ : Value, e = .returned (v0_) ∧ Kd.N k30 30 w' w.heap.size (fun k_ => (w.heap.size ≤ k_)) v0_ r ∧ Below w.heap.size w w' := by
 have hu45 := Try.underlying45
 have HR0 := am hr0
 have HC0 := am hc0
 clear hr0 hc0
 have HB := am (Below.refl w.heap.size w)
 have H : (hypercuberef2_Facts.l0 k l0 a1 ([] : List (S30)) 0) = some r := h
 clear h
 have H' := am H
 clear H
 go_enter Try.func29, Try.ntmps29
 go_wp2
 go_loopg [5, 6] k (fun kq v5 v6 w' => ∃ (x5_1 : List (S30)) (x6_1 : Int), v6 = .int .i64 x6_1 ∧ Aside0 (hypercuberef2_Facts.l0 kq l0 a1 x5_1 x6_1 = some r) ∧ Aside0 (kq ≤ k) ∧ Aside0 (Kd.N k30 30 w' w.heap.size (fun k_ => (w.heap.size ≤ k_)) v5 x5_1) ∧ Aside0 (Below w.heap.size w w'))
 case atStart => exact ⟨(([] : List (S30))), (0), zz, H', ⟨Nat.le_refl _⟩, ⟨by first | exact Kd.S_nil _ _ _ _ _ | exact Kd.N_nil _ _ _ _ _ | exact Kd.V_nil _ _ _ _ _ | exact Kd.Q_nil _ _ _ _ _ | exact Kd.R_nil _ _ _ _ _⟩, ⟨zw HB⟩⟩
 case round =>
  clear H'
  try clear c2
  try clear p2
  obtain ⟨x5_1, x6_1, rfl, HA, HK1, HO_5, HB⟩ := hrel
  cases gk with
  | zero => exact absurd HA.out (by simp [hypercuberef2_Facts.l0])
  | succ k1 =>
   have H := HA.out
   clear HA
   simp only [hypercuberef2_Facts.l0] at H
   by_cases c3 : x6_1 < (l0.length : Int)
   ·rw [if_pos c3] at H
    have c3b0 : decide (x6_1 < (l0.length : Int)) = true := decide_eq_true c3
    clear c3
    by_cases c4 : 0 ≤ x6_1
    ·rw [if_pos c4] at H
     have c4b0 : decide (0 ≤ x6_1) = true := decide_eq_true c4
     clear c4
     replace H := Option.bind_eq_some_iff.mp H
     obtain ⟨⟨t525, t528, t529, t532, t535⟩, A50, H⟩ := H
     replace H : ((hypercuberef2_Put.f k1 x5_1 t525 t528 t529 t532 t535).bind fun t538 => (hypercuberef2_Facts.l0 k1 l0 a1 t538 (wrap64 (x6_1 + 1)))) = some r := H
     have A5 := am A50
     clear A50
     replace H := Option.bind_eq_some_iff.mp H
     obtain ⟨t538, A60, H⟩ := H
     replace H : (hypercuberef2_Facts.l0 k1 l0 a1 t538 (wrap64 (x6_1 + 1))) = some r := H
     have A6 := am A60
     clear A60
     have H' := am H
     clear H
     have p524 : 0 ≤ (x6_1 : Int) := zd
     have q524 : x6_1 < (l0.length : Int) := zd
     obtain ⟨ad524, A524_0, c524_0, A524_1, c524_1, e524, hx524_0, hx524_1, hl524_0, hi524_0, hl524_1, hi524_1⟩ := at_T45 HR0.out x6_1 p524 q524
     cases e524
     replace hx524_0 := zc HB hx524_0
     replace hx524_1 := zc HB hx524_1
     have HR524_0 := am hi524_0
     have HC524_0 := am hl524_0
     clear hi524_0 hl524_0
     have HR524_1 := am hi524_1
     have HC524_1 := am hl524_1
     clear hi524_1 hl524_1
     replace p524 := eq_true p524
     replace q524 := eq_true q524
     go_wp2_with (first | ((with_reducible refine gate_callee (f := 30) rfl ?_); refine goesL_ (some 19) rfl rfl Try.func30 (by kernel_rfl) rfl #[.agg #[.slice A524_0 ((rd_T45 l0 x6_1).f0).length c524_0, .slice A524_1 ((rd_T45 l0 x6_1).f1).length c524_1], .int .i64 a1] rfl zm ?_; (with_reducible refine (hypercuberef2_Of.calls k1 _ _ ((rd_T45 l0 x6_1).f0) _ _ ((rd_T45 l0 x6_1).f1) a1 t525 t528 t529 t532 t535 _ ?side1 ?side2 ?side3 ?side4 A5.out).mono ?_); (case side1 => repeat (first | exact (Kd.C_below HR524_0.out HB.out) | (with_reducible refine Kd.C_alloc ?_ _) | (with_reducible refine Kd.C_drewN ?_ _) | (with_reducible refine Kd.C_drew ?_))); (case side2 => exact HC524_0.out); (case side3 => repeat (first | exact (Kd.C_below HR524_1.out HB.out) | (with_reducible refine Kd.C_alloc ?_ _) | (with_reducible refine Kd.C_drewN ?_ _) | (with_reducible refine Kd.C_drew ?_))); (case side4 => exact HC524_1.out); rintro e w7 ⟨v526, v530, v533, v536, rfl, ho0, ho1, ho2, ho3, hb⟩; refine ⟨_, rfl, ?_⟩; have n0_ := am (Kd.N_mono (Kd.N_told (Kd.N_told (Kd.N_told (Kd.N_told (Kd.N_old (by (with_reducible repeat (first | apply Kd.N_alloc | apply Kd.N_drewN | apply Kd.N_drew)); exact HO_5.out) hb) (Kd.R_base ho0)) (Kd.R_base ho1)) (Kd.R_base ho2)) (Kd.R_base ho3)) (fun _ h_ => h_.1)); have n1_ := am (Kd.R_lower (Kd.R_newM (M := fun k_ => (w.heap.size ≤ k_)) ho0 (below_size (zw HB)) (fun k_ h_ => h_)) (below_size (zw HB))); have n2_ := am (Kd.R_lower (Kd.R_newM (M := fun k_ => (w.heap.size ≤ k_)) ho1 (below_size (zw HB)) (fun k_ h_ => h_)) (below_size (zw HB))); have n3_ := am (Kd.R_lower (Kd.R_newM (M := fun k_ => (w.heap.size ≤ k_)) ho2 (below_size (zw HB)) (fun k_ h_ => h_)) (below_size (zw HB))); have n4_ := am (Kd.R_lower (Kd.R_newM (M := fun k_ => (w.heap.size ≤ k_)) ho3 (below_size (zw HB)) (fun k_ h_ => h_)) (below_size (zw HB))); have n5_ := am (below_step (zw HB) hb); clear HO_5; clear HB; have HO_5 := n0_; have HO527 := n1_; have HO531 := n2_; have HO534 := n3_; have HO537 := n4_; have HB := n5_; clear n0_ n1_ n2_ n3_ n4_ n5_; (try clear hb); (try clear hb2); (try clear hk); (try clear hi); (try clear ho0); (try clear ho1); (try clear ho2); (try clear ho3); obtain ⟨Ao8, co8, eo8⟩ := Kd.N_slice HO_5.out; subst eo8; obtain ⟨Ao9, co9, eo9⟩ := Kd.R_slice HO527.out; subst eo9; obtain ⟨Ao10, co10, eo10⟩ := Kd.R_slice HO531.out; subst eo10; obtain ⟨Ao11, co11, eo11⟩ := Kd.R_slice HO534.out; subst eo11; obtain ⟨Ao12, co12, eo12⟩ := Kd.R_slice HO537.out; subst eo12) | ((with_reducible refine gate_callee (f := 51) rfl ?_); refine goesL_ (some 20) rfl rfl Try.func51 (by kernel_rfl) rfl #[.slice Ao8 x5_1.length co8, .agg #[.slice Ao9 t525.length co9, .int .i64 t528, .slice Ao10 t529.length co10, .slice Ao11 t532.length co11, .slice Ao12 t535.length co12]] rfl zm ?_; (with_reducible refine (hypercuberef2_Put.calls k1 (fun k_ => (((((w.heap.size ≤ k_) ∧ some k_ ≠ (.slice Ao9 t525.length co9 : Value).ownBlock) ∧ some k_ ≠ (.slice Ao10 t529.length co10 : Value).ownBlock) ∧ some k_ ≠ (.slice Ao11 t532.length co11 : Value).ownBlock) ∧ some k_ ≠ (.slice Ao12 t535.length co12 : Value).ownBlock)) _ _ x5_1 _ _ t525 t528 _ _ t529 _ _ t532 _ _ t535 t538 _ ?side1 ?side2 ?side3 ?side4 ?side5 ?side6 ?side7 ?side8 ?side9 A6.out).mono ?_); (case side1 => exact Kd.N_V (HO_5.out)); (case side2 => repeat (first | exact (Kd.R_reads' HO527.out).2.2 | (with_reducible refine Kd.C_alloc ?_ _) | (with_reducible refine Kd.C_drewN ?_ _) | (with_reducible refine Kd.C_drew ?_))); (case side3 => exact (Kd.R_reads' HO527.out).2.1); (case side4 => repeat (first | exact (Kd.R_reads' HO531.out).2.2 | (with_reducible refine Kd.C_alloc ?_ _) | (with_reducible refine Kd.C_drewN ?_ _) | (with_reducible refine Kd.C_drew ?_))); (case side5 => exact (Kd.R_reads' HO531.out).2.1); (case side6 => repeat (first | exact (Kd.R_reads' HO534.out).2.2 | (with_reducible refine Kd.C_alloc ?_ _) | (with_reducible refine Kd.C_drewN ?_ _) | (with_reducible refine Kd.C_drew ?_))); (case side7 => exact (Kd.R_reads' HO534.out).2.1); (case side8 => repeat (first | exact (Kd.R_reads' HO537.out).2.2 | (with_reducible refine Kd.C_alloc ?_ _) | (with_reducible refine Kd.C_drewN ?_ _) | (with_reducible refine Kd.C_drew ?_))); (case side9 => exact (Kd.R_reads' HO537.out).2.1); rintro e w13 ⟨v539, rfl, ho0, hb⟩; refine ⟨_, rfl, ?_⟩; have n0_ := am (Kd.N_elder' (by (with_reducible repeat (first | apply Kd.N_alloc | apply Kd.N_drewN | apply Kd.N_drew)); exact HO_5.out) (by first | exact Kd.N_base ho0 | exact Kd.S_base ho0 | exact Kd.R_base ho0) hb); have n1_ := am (Kd.R_below (ze HO527) hb); have n2_ := am (Kd.R_below (ze HO531) hb); have n3_ := am (Kd.R_below (ze HO534) hb); have n4_ := am (Kd.R_below (ze HO537) hb); have n5_ := am (Kd.N_lower (Kd.N_mono (ok' := fun k_ => (w.heap.size ≤ k_) ∧ some k_ ≠ (.slice Ao9 t525.length co9 : Value).ownBlock ∧ some k_ ≠ (.slice Ao10 t529.length co10 : Value).ownBlock ∧ some k_ ≠ (.slice Ao11 t532.length co11 : Value).ownBlock ∧ some k_ ≠ (.slice Ao12 t535.length co12 : Value).ownBlock) ho0 (fun k_ hk_ => ⟨Or.elim hk_ (fun hs_ => hs_.1.1.1.1) (fun hn_ => (Nat.le_trans (below_size (zw HB)) hn_)), Or.elim hk_ (fun hs_ => hs_.1.1.1.2) (fun hn_ => (Kd.fresh' (Kd.R_lt (ze HO527)) k_ hn_)), Or.elim hk_ (fun hs_ => hs_.1.1.2) (fun hn_ => (Kd.fresh' (Kd.R_lt (ze HO531)) k_ hn_)), Or.elim hk_ (fun hs_ => hs_.1.2) (fun hn_ => (Kd.fresh' (Kd.R_lt (ze HO534)) k_ hn_)), Or.elim hk_ (fun hs_ => hs_.2) (fun hn_ => (Kd.fresh' (Kd.R_lt (ze HO537)) k_ hn_))⟩)) (below_size (zw HB))); have n6_ := am (below_step (zw HB) hb); clear HO_5; clear HO527; clear HO531; clear HO534; clear HO537; clear HB; have HO_5 := n0_; have HO527 := n1_; have HO531 := n2_; have HO534 := n3_; have HO537 := n4_; have HO540 := n5_; have HB := n6_; clear n0_ n1_ n2_ n3_ n4_ n5_ n6_; (try clear hb); (try clear hb2); (try clear hk); (try clear hi); (try clear ho0)))
     go_roundg k1
     case measure => have := HK1.out; omega
     case rel => exact ⟨(t538), (wrap64 (x6_1 + 1)), zz, H', ⟨by have := HK1.out; omega⟩, ⟨by (with_reducible repeat (first | apply Kd.N_alloc | apply Kd.N_drewN | apply Kd.N_drew)); exact Kd.N_mono HO540.out (fun _ hk => hk.1)⟩, ⟨zw HB⟩⟩
    ·rw [if_neg c4] at H
     exact absurd H (by simp)
   ·rw [if_neg c3] at H
    have c3b0 : decide (x6_1 < (l0.length : Int)) = false := decide_eq_false c3
    clear c3
    obtain rfl := Option.some.inj H
    go_wp2
    go_ret
    exact ⟨_, by first | rfl | (simp [errW_none, errW_some] <;> rfl) | (simp [*, errW_none, errW_some] <;> rfl), by (with_reducible repeat (first | apply Kd.N_alloc | apply Kd.N_drewN | apply Kd.N_drew)); exact HO_5.out, zw HB⟩
def hypercuberef2_Equal.f (k : Nat) (l0_0 : List Int) (a0_1 : Int) (l0_2 : List Int) (l0_3 : List Int) (l0_4 : List Int) (l1_0 : List Int) (a1_1 : Int) (l1_2 : List Int) (l1_3 : List Int) (l1_4 : List Int) : Option (Bool) := if a0_1 = a1_1 then ((hypercuberef1_Ints.f k l0_0 l1_0).bind fun t199 => (if t199 = true then ((hypercuberef1_Ints.f k l0_2 l1_2).bind fun t200 => (if t200 = true then ((hypercuberef1_Ints.f k l0_3 l1_3).bind fun t201 => (if t201 = true then ((hypercuberef1_Ints.f k l0_4 l1_4).bind fun t202 => (some t202)) else (some false))) else (some false))) else (some false))) else (some false)
set_option maxHeartbeats 8000000 in
set_option maxRecDepth 100000 in
theorem hypercuberef2_Equal.calls (k : Nat) (A0_0 : Option Addr) (c0_0 : Nat) (l0_0 : List Int) (a0_1 : Int) (A0_2 : Option Addr) (c0_2 : Nat) (l0_2 : List Int) (A0_3 : Option Addr) (c0_3 : Nat) (l0_3 : List Int) (A0_4 : Option Addr) (c0_4 : Nat) (l0_4 : List Int) (A1_0 : Option Addr) (c1_0 : Nat) (l1_0 : List Int) (a1_1 : Int) (A1_2 : Option Addr) (c1_2 : Nat) (l1_2 : List Int) (A1_3 : Option Addr) (c1_3 : Nat) (l1_3 : List Int) (A1_4 : Option Addr) (c1_4 : Nat) (l1_4 : List Int) (r : Bool) (w : World) (hr0_0 : Kd.C (Kd.int .i64) w A0_0 l0_0.length l0_0) (hc0_0 : l0_0.length ≤ c0_0) (hr0_2 : Kd.C (Kd.int .i64) w A0_2 l0_2.length l0_2) (hc0_2 : l0_2.length ≤ c0_2) (hr0_3 : Kd.C (Kd.int .i64) w A0_3 l0_3.length l0_3) (hc0_3 : l0_3.length ≤ c0_3) (hr0_4 : Kd.C (Kd.int .i64) w A0_4 l0_4.length l0_4) (hc0_4 : l0_4.length ≤ c0_4) (hr1_0 : Kd.C (Kd.int .i64) w A1_0 l1_0.length l1_0) (hc1_0 : l1_0.length ≤ c1_0) (hr1_2 : Kd.C (Kd.int .i64) w A1_2 l1_2.length l1_2) (hc1_2 : l1_2.length ≤ c1_2) (hr1_3 : Kd.C (Kd.int .i64) w A1_3 l1_3.length l1_3) (hc1_3 : l1_3.length ≤ c1_3) (hr1_4 : Kd.C (Kd.int .i64) w A1_4 l1_4.length l1_4) (hc1_4 : l1_4.length ≤ c1_4) (h : hypercuberef2_Equal.f k l0_0 a0_1 l0_2 l0_3 l0_4 l1_0 a1_1 l1_2 l1_3 l1_4 = some r) :
  Calls Try.prog 22 #[.agg #[.slice A0_0 l0_0.length c0_0, .int .i64 a0_1, .slice A0_2 l0_2.length c0_2, .slice A0_3 l0_3.length c0_3, .slice A0_4 l0_4.length c0_4], .agg #[.slice A1_0 l1_0.length c1_0, .int .i64 a1_1, .slice A1_2 l1_2.length c1_2, .slice A1_3 l1_3.length c1_3, .slice A1_4 l1_4.length c1_4]] w fun e w' => e = .returned (.bool r) ∧ Below w.heap.size w w' := by
 have hu30 := Try.underlying30
 have HR0_0 := am hr0_0
 have HC0_0 := am hc0_0
 clear hr0_0 hc0_0
 have HR0_2 := am hr0_2
 have HC0_2 := am hc0_2
 clear hr0_2 hc0_2
 have HR0_3 := am hr0_3
 have HC0_3 := am hc0_3
 clear hr0_3 hc0_3
 have HR0_4 := am hr0_4
 have HC0_4 := am hc0_4
 clear hr0_4 hc0_4
 have HR1_0 := am hr1_0
 have HC1_0 := am hc1_0
 clear hr1_0 hc1_0
 have HR1_2 := am hr1_2
 have HC1_2 := am hc1_2
 clear hr1_2 hc1_2
 have HR1_3 := am hr1_3
 have HC1_3 := am hc1_3
 clear hr1_3 hc1_3
 have HR1_4 := am hr1_4
 have HC1_4 := am hc1_4
 clear hr1_4 hc1_4
 have HB := am (Below.refl w.heap.size w)
 have H : (if a0_1 = a1_1 then ((hypercuberef1_Ints.f k l0_0 l1_0).bind fun t199 => (if t199 = true then ((hypercuberef1_Ints.f k l0_2 l1_2).bind fun t200 => (if t200 = true then ((hypercuberef1_Ints.f k l0_3 l1_3).bind fun t201 => (if t201 = true then ((hypercuberef1_Ints.f k l0_4 l1_4).bind fun t202 => (some t202)) else (some false))) else (some false))) else (some false))) else (some false)) = some r := h
 clear h
 by_cases c3 : a0_1 = a1_1
 ·rw [if_pos c3] at H
  have c3b0 : (a0_1 == a1_1) = true := beq_iff_eq.mpr c3
  have c3b1 : (a0_1 != a1_1) = false := bne_eq_false_iff_eq.mpr c3
  clear c3
  replace H := Option.bind_eq_some_iff.mp H
  obtain ⟨t199, A40, H⟩ := H
  replace H : (if t199 = true then ((hypercuberef1_Ints.f k l0_2 l1_2).bind fun t200 => (if t200 = true then ((hypercuberef1_Ints.f k l0_3 l1_3).bind fun t201 => (if t201 = true then ((hypercuberef1_Ints.f k l0_4 l1_4).bind fun t202 => (some t202)) else (some false))) else (some false))) else (some false)) = some r := H
  have A4 := am A40
  clear A40
  by_cases c5 : t199 = true
  ·subst c5
   have H1 : ((hypercuberef1_Ints.f k l0_2 l1_2).bind fun t200 => (if t200 = true then ((hypercuberef1_Ints.f k l0_3 l1_3).bind fun t201 => (if t201 = true then ((hypercuberef1_Ints.f k l0_4 l1_4).bind fun t202 => (some t202)) else (some false))) else (some false))) = some r := by rw [if_pos rfl] at H; exact H
   clear H
   have H := H1
   clear H1
   replace H := Option.bind_eq_some_iff.mp H
   obtain ⟨t200, A60, H⟩ := H
   replace H : (if t200 = true then ((hypercuberef1_Ints.f k l0_3 l1_3).bind fun t201 => (if t201 = true then ((hypercuberef1_Ints.f k l0_4 l1_4).bind fun t202 => (some t202)) else (some false))) else (some false)) = some r := H
   have A6 := am A60
   clear A60
   by_cases c7 : t200 = true
   ·subst c7
    have H1 : ((hypercuberef1_Ints.f k l0_3 l1_3).bind fun t201 => (if t201 = true then ((hypercuberef1_Ints.f k l0_4 l1_4).bind fun t202 => (some t202)) else (some false))) = some r := by rw [if_pos rfl] at H; exact H
    clear H
    have H := H1
    clear H1
    replace H := Option.bind_eq_some_iff.mp H
    obtain ⟨t201, A80, H⟩ := H
    replace H : (if t201 = true then ((hypercuberef1_Ints.f k l0_4 l1_4).bind fun t202 => (some t202)) else (some false)) = some r := H
    have A8 := am A80
    clear A80
    by_cases c9 : t201 = true
    ·subst c9
     have H1 : ((hypercuberef1_Ints.f k l0_4 l1_4).bind fun t202 => (some t202)) = some r := by rw [if_pos rfl] at H; exact H
     clear H
     have H := H1
     clear H1
     replace H := Option.bind_eq_some_iff.mp H
     obtain ⟨t202, A100, H⟩ := H
     replace H : (some t202) = some r := H
     have A10 := am A100
     clear A100
     obtain rfl := Option.some.inj H
     go_enter Try.func22, Try.ntmps22
     go_wp2_with (first | ((with_reducible refine gate_dst (N := 2) rfl ?_); refine zX #[.slice A0_0 l0_0.length c0_0, .int .i64 a0_1, .slice A0_2 l0_2.length c0_2, .slice A0_3 l0_3.length c0_3, .slice A0_4 l0_4.length c0_4] 30 ?_; intro gb197 hg w11 hbox hb; have n0_ := am (below_step (wmv HB.out) hb); have n1_ := am (hbox); have n2_ := am ((by rw [hg]; exact (below_size (wmv HB.out)) : w.heap.size ≤ gb197)); have n3_ := am ((by rw [hg]; exact (below_size (wmv HB.out)) : w.heap.size ≤ gb197)); clear HB; revert n0_ n1_ n2_ n3_; intro HB BK197 GW197 GE197; clear hb hbox hg) | ((with_reducible refine gate_dst (N := 3) rfl ?_); refine zX #[.slice A1_0 l1_0.length c1_0, .int .i64 a1_1, .slice A1_2 l1_2.length c1_2, .slice A1_3 l1_3.length c1_3, .slice A1_4 l1_4.length c1_4] 30 ?_; intro gb198 hg w12 hbox hb; have n0_ := am (blk_below (bmv BK197.out) hb); have n1_ := am (below_step (wmv HB.out) hb); have n2_ := am (hbox); have n3_ := am ((by rw [hg]; exact (below_size (wmv HB.out)) : w.heap.size ≤ gb198)); have n4_ := am ((by rw [hg]; exact (below_size (wmv HB.out)) : w.heap.size ≤ gb198)); have n5_ := am ((by rw [hg]; exact Nat.ne_of_lt (blk_lt (bmv BK197.out)) : gb197 ≠ gb198)); have n6_ := am ((by rw [hg]; exact Nat.ne_of_gt (blk_lt (bmv BK197.out)) : gb198 ≠ gb197)); clear BK197 HB; revert n0_ n1_ n2_ n3_ n4_ n5_ n6_; intro BK197 HB BK198 GW198 GE198 NB197_198 NB198_197; clear hb hbox hg; have hnb13 := NB197_198.out; have hnc13 := NB198_197.out; have hcz14_0 : w12.cell? ⟨gb197, 0, none⟩ = some (.slice A0_0 l0_0.length c0_0) := (blk_cell BK197.out 0).trans rfl; have hcz14_1 : w12.cell? ⟨gb197, 1, none⟩ = some (.int .i64 a0_1) := (blk_cell BK197.out 1).trans rfl; have hcz14_2 : w12.cell? ⟨gb197, 2, none⟩ = some (.slice A0_2 l0_2.length c0_2) := (blk_cell BK197.out 2).trans rfl; have hcz14_3 : w12.cell? ⟨gb197, 3, none⟩ = some (.slice A0_3 l0_3.length c0_3) := (blk_cell BK197.out 3).trans rfl; have hcz14_4 : w12.cell? ⟨gb197, 4, none⟩ = some (.slice A0_4 l0_4.length c0_4) := (blk_cell BK197.out 4).trans rfl; have hfz14_0 := blk_frozen BK197.out 0; have hfz14_1 := blk_frozen BK197.out 1; have hfz14_2 := blk_frozen BK197.out 2; have hfz14_3 := blk_frozen BK197.out 3; have hfz14_4 := blk_frozen BK197.out 4; have hcz15_0 : w12.cell? ⟨gb198, 0, none⟩ = some (.slice A1_0 l1_0.length c1_0) := (blk_cell BK198.out 0).trans rfl; have hcz15_1 : w12.cell? ⟨gb198, 1, none⟩ = some (.int .i64 a1_1) := (blk_cell BK198.out 1).trans rfl; have hcz15_2 : w12.cell? ⟨gb198, 2, none⟩ = some (.slice A1_2 l1_2.length c1_2) := (blk_cell BK198.out 2).trans rfl; have hcz15_3 : w12.cell? ⟨gb198, 3, none⟩ = some (.slice A1_3 l1_3.length c1_3) := (blk_cell BK198.out 3).trans rfl; have hcz15_4 : w12.cell? ⟨gb198, 4, none⟩ = some (.slice A1_4 l1_4.length c1_4) := (blk_cell BK198.out 4).trans rfl; have hfz15_0 := blk_frozen BK198.out 0; have hfz15_1 := blk_frozen BK198.out 1; have hfz15_2 := blk_frozen BK198.out 2; have hfz15_3 := blk_frozen BK198.out 3; have hfz15_4 := blk_frozen BK198.out 4) | (go_at_call 19; (with_reducible refine (hypercuberef1_Ints.calls k _ _ l0_0 _ _ l1_0 true _ ?side1 ?side2 ?side3 ?side4 A4.out).mono ?_); (case side1 => exact Kd.Cw HR0_0.out HB.out); (case side2 => exact HC0_0.out); (case side3 => exact Kd.Cw HR1_0.out HB.out); (case side4 => exact HC1_0.out); rintro e w' ⟨rfl, ⟨nd, rfl⟩⟩) | (go_at_call 19; (with_reducible refine (hypercuberef1_Ints.calls k _ _ l0_2 _ _ l1_2 true _ ?side1 ?side2 ?side3 ?side4 A6.out).mono ?_); (case side1 => repeat (first | exact (Kd.C_below HR0_2.out (wmv HB.out)) | (with_reducible refine Kd.C_alloc ?_ _) | (with_reducible refine Kd.C_drewN ?_ _) | (with_reducible refine Kd.C_drew ?_))); (case side2 => exact HC0_2.out); (case side3 => repeat (first | exact (Kd.C_below HR1_2.out (wmv HB.out)) | (with_reducible refine Kd.C_alloc ?_ _) | (with_reducible refine Kd.C_drewN ?_ _) | (with_reducible refine Kd.C_drew ?_))); (case side4 => exact HC1_2.out); rintro e w' ⟨rfl, ⟨nd, rfl⟩⟩) | (go_at_call 19; (with_reducible refine (hypercuberef1_Ints.calls k _ _ l0_3 _ _ l1_3 true _ ?side1 ?side2 ?side3 ?side4 A8.out).mono ?_); (case side1 => repeat (first | exact (Kd.C_below HR0_3.out (wmv HB.out)) | (with_reducible refine Kd.C_alloc ?_ _) | (with_reducible refine Kd.C_drewN ?_ _) | (with_reducible refine Kd.C_drew ?_))); (case side2 => exact HC0_3.out); (case side3 => repeat (first | exact (Kd.C_below HR1_3.out (wmv HB.out)) | (with_reducible refine Kd.C_alloc ?_ _) | (with_reducible refine Kd.C_drewN ?_ _) | (with_reducible refine Kd.C_drew ?_))); (case side4 => exact HC1_3.out); rintro e w' ⟨rfl, ⟨nd, rfl⟩⟩) | (go_at_call 19; (with_reducible refine (hypercuberef1_Ints.calls k _ _ l0_4 _ _ l1_4 t202 _ ?side1 ?side2 ?side3 ?side4 A10.out).mono ?_); (case side1 => repeat (first | exact (Kd.C_below HR0_4.out (wmv HB.out)) | (with_reducible refine Kd.C_alloc ?_ _) | (with_reducible refine Kd.C_drewN ?_ _) | (with_reducible refine Kd.C_drew ?_))); (case side2 => exact HC0_4.out); (case side3 => repeat (first | exact (Kd.C_below HR1_4.out (wmv HB.out)) | (with_reducible refine Kd.C_alloc ?_ _) | (with_reducible refine Kd.C_drewN ?_ _) | (with_reducible refine Kd.C_drew ?_))); (case side4 => exact HC1_4.out); rintro e w' ⟨rfl, ⟨nd, rfl⟩⟩))
     go_ret
     exact ⟨by first | rfl | (simp [errW_none, errW_some] <;> rfl) | (simp [*, errW_none, errW_some] <;> rfl), zw HB⟩
    ·replace c9 := Bool.eq_false_iff.mpr c9
     subst c9
     have H1 : (some false) = some r := by rw [if_neg (show ¬ (false = true) by decide)] at H; exact H
     clear H
     have H := H1
     clear H1
     obtain rfl := Option.some.inj H
     go_enter Try.func22, Try.ntmps22
     go_wp2_with (first | ((with_reducible refine gate_dst (N := 2) rfl ?_); refine zX #[.slice A0_0 l0_0.length c0_0, .int .i64 a0_1, .slice A0_2 l0_2.length c0_2, .slice A0_3 l0_3.length c0_3, .slice A0_4 l0_4.length c0_4] 30 ?_; intro gb197 hg w16 hbox hb; have n0_ := am (below_step (wmv HB.out) hb); have n1_ := am (hbox); have n2_ := am ((by rw [hg]; exact (below_size (wmv HB.out)) : w.heap.size ≤ gb197)); have n3_ := am ((by rw [hg]; exact (below_size (wmv HB.out)) : w.heap.size ≤ gb197)); clear HB; revert n0_ n1_ n2_ n3_; intro HB BK197 GW197 GE197; clear hb hbox hg) | ((with_reducible refine gate_dst (N := 3) rfl ?_); refine zX #[.slice A1_0 l1_0.length c1_0, .int .i64 a1_1, .slice A1_2 l1_2.length c1_2, .slice A1_3 l1_3.length c1_3, .slice A1_4 l1_4.length c1_4] 30 ?_; intro gb198 hg w17 hbox hb; have n0_ := am (blk_below (bmv BK197.out) hb); have n1_ := am (below_step (wmv HB.out) hb); have n2_ := am (hbox); have n3_ := am ((by rw [hg]; exact (below_size (wmv HB.out)) : w.heap.size ≤ gb198)); have n4_ := am ((by rw [hg]; exact (below_size (wmv HB.out)) : w.heap.size ≤ gb198)); have n5_ := am ((by rw [hg]; exact Nat.ne_of_lt (blk_lt (bmv BK197.out)) : gb197 ≠ gb198)); have n6_ := am ((by rw [hg]; exact Nat.ne_of_gt (blk_lt (bmv BK197.out)) : gb198 ≠ gb197)); clear BK197 HB; revert n0_ n1_ n2_ n3_ n4_ n5_ n6_; intro BK197 HB BK198 GW198 GE198 NB197_198 NB198_197; clear hb hbox hg; have hnb18 := NB197_198.out; have hnc18 := NB198_197.out; have hcz19_0 : w17.cell? ⟨gb197, 0, none⟩ = some (.slice A0_0 l0_0.length c0_0) := (blk_cell BK197.out 0).trans rfl; have hcz19_1 : w17.cell? ⟨gb197, 1, none⟩ = some (.int .i64 a0_1) := (blk_cell BK197.out 1).trans rfl; have hcz19_2 : w17.cell? ⟨gb197, 2, none⟩ = some (.slice A0_2 l0_2.length c0_2) := (blk_cell BK197.out 2).trans rfl; have hcz19_3 : w17.cell? ⟨gb197, 3, none⟩ = some (.slice A0_3 l0_3.length c0_3) := (blk_cell BK197.out 3).trans rfl; have hcz19_4 : w17.cell? ⟨gb197, 4, none⟩ = some (.slice A0_4 l0_4.length c0_4) := (blk_cell BK197.out 4).trans rfl; have hfz19_0 := blk_frozen BK197.out 0; have hfz19_1 := blk_frozen BK197.out 1; have hfz19_2 := blk_frozen BK197.out 2; have hfz19_3 := blk_frozen BK197.out 3; have hfz19_4 := blk_frozen BK197.out 4; have hcz20_0 : w17.cell? ⟨gb198, 0, none⟩ = some (.slice A1_0 l1_0.length c1_0) := (blk_cell BK198.out 0).trans rfl; have hcz20_1 : w17.cell? ⟨gb198, 1, none⟩ = some (.int .i64 a1_1) := (blk_cell BK198.out 1).trans rfl; have hcz20_2 : w17.cell? ⟨gb198, 2, none⟩ = some (.slice A1_2 l1_2.length c1_2) := (blk_cell BK198.out 2).trans rfl; have hcz20_3 : w17.cell? ⟨gb198, 3, none⟩ = some (.slice A1_3 l1_3.length c1_3) := (blk_cell BK198.out 3).trans rfl; have hcz20_4 : w17.cell? ⟨gb198, 4, none⟩ = some (.slice A1_4 l1_4.length c1_4) := (blk_cell BK198.out 4).trans rfl; have hfz20_0 := blk_frozen BK198.out 0; have hfz20_1 := blk_frozen BK198.out 1; have hfz20_2 := blk_frozen BK198.out 2; have hfz20_3 := blk_frozen BK198.out 3; have hfz20_4 := blk_frozen BK198.out 4) | (go_at_call 19; (with_reducible refine (hypercuberef1_Ints.calls k _ _ l0_0 _ _ l1_0 true _ ?side1 ?side2 ?side3 ?side4 A4.out).mono ?_); (case side1 => exact Kd.Cw HR0_0.out HB.out); (case side2 => exact HC0_0.out); (case side3 => exact Kd.Cw HR1_0.out HB.out); (case side4 => exact HC1_0.out); rintro e w' ⟨rfl, ⟨nd, rfl⟩⟩) | (go_at_call 19; (with_reducible refine (hypercuberef1_Ints.calls k _ _ l0_2 _ _ l1_2 true _ ?side1 ?side2 ?side3 ?side4 A6.out).mono ?_); (case side1 => repeat (first | exact (Kd.C_below HR0_2.out (wmv HB.out)) | (with_reducible refine Kd.C_alloc ?_ _) | (with_reducible refine Kd.C_drewN ?_ _) | (with_reducible refine Kd.C_drew ?_))); (case side2 => exact HC0_2.out); (case side3 => repeat (first | exact (Kd.C_below HR1_2.out (wmv HB.out)) | (with_reducible refine Kd.C_alloc ?_ _) | (with_reducible refine Kd.C_drewN ?_ _) | (with_reducible refine Kd.C_drew ?_))); (case side4 => exact HC1_2.out); rintro e w' ⟨rfl, ⟨nd, rfl⟩⟩) | (go_at_call 19; (with_reducible refine (hypercuberef1_Ints.calls k _ _ l0_3 _ _ l1_3 false _ ?side1 ?side2 ?side3 ?side4 A8.out).mono ?_); (case side1 => repeat (first | exact (Kd.C_below HR0_3.out (wmv HB.out)) | (with_reducible refine Kd.C_alloc ?_ _) | (with_reducible refine Kd.C_drewN ?_ _) | (with_reducible refine Kd.C_drew ?_))); (case side2 => exact HC0_3.out); (case side3 => repeat (first | exact (Kd.C_below HR1_3.out (wmv HB.out)) | (with_reducible refine Kd.C_alloc ?_ _) | (with_reducible refine Kd.C_drewN ?_ _) | (with_reducible refine Kd.C_drew ?_))); (case side4 => exact HC1_3.out); rintro e w' ⟨rfl, ⟨nd, rfl⟩⟩))
     go_ret
     exact ⟨by first | rfl | (simp [errW_none, errW_some] <;> rfl) | (simp [*, errW_none, errW_some] <;> rfl), zw HB⟩
   ·replace c7 := Bool.eq_false_iff.mpr c7
    subst c7
    have H1 : (some false) = some r := by rw [if_neg (show ¬ (false = true) by decide)] at H; exact H
    clear H
    have H := H1
    clear H1
    obtain rfl := Option.some.inj H
    go_enter Try.func22, Try.ntmps22
    go_wp2_with (first | ((with_reducible refine gate_dst (N := 2) rfl ?_); refine zX #[.slice A0_0 l0_0.length c0_0, .int .i64 a0_1, .slice A0_2 l0_2.length c0_2, .slice A0_3 l0_3.length c0_3, .slice A0_4 l0_4.length c0_4] 30 ?_; intro gb197 hg w21 hbox hb; have n0_ := am (below_step (wmv HB.out) hb); have n1_ := am (hbox); have n2_ := am ((by rw [hg]; exact (below_size (wmv HB.out)) : w.heap.size ≤ gb197)); have n3_ := am ((by rw [hg]; exact (below_size (wmv HB.out)) : w.heap.size ≤ gb197)); clear HB; revert n0_ n1_ n2_ n3_; intro HB BK197 GW197 GE197; clear hb hbox hg) | ((with_reducible refine gate_dst (N := 3) rfl ?_); refine zX #[.slice A1_0 l1_0.length c1_0, .int .i64 a1_1, .slice A1_2 l1_2.length c1_2, .slice A1_3 l1_3.length c1_3, .slice A1_4 l1_4.length c1_4] 30 ?_; intro gb198 hg w22 hbox hb; have n0_ := am (blk_below (bmv BK197.out) hb); have n1_ := am (below_step (wmv HB.out) hb); have n2_ := am (hbox); have n3_ := am ((by rw [hg]; exact (below_size (wmv HB.out)) : w.heap.size ≤ gb198)); have n4_ := am ((by rw [hg]; exact (below_size (wmv HB.out)) : w.heap.size ≤ gb198)); have n5_ := am ((by rw [hg]; exact Nat.ne_of_lt (blk_lt (bmv BK197.out)) : gb197 ≠ gb198)); have n6_ := am ((by rw [hg]; exact Nat.ne_of_gt (blk_lt (bmv BK197.out)) : gb198 ≠ gb197)); clear BK197 HB; revert n0_ n1_ n2_ n3_ n4_ n5_ n6_; intro BK197 HB BK198 GW198 GE198 NB197_198 NB198_197; clear hb hbox hg; have hnb23 := NB197_198.out; have hnc23 := NB198_197.out; have hcz24_0 : w22.cell? ⟨gb197, 0, none⟩ = some (.slice A0_0 l0_0.length c0_0) := (blk_cell BK197.out 0).trans rfl; have hcz24_1 : w22.cell? ⟨gb197, 1, none⟩ = some (.int .i64 a0_1) := (blk_cell BK197.out 1).trans rfl; have hcz24_2 : w22.cell? ⟨gb197, 2, none⟩ = some (.slice A0_2 l0_2.length c0_2) := (blk_cell BK197.out 2).trans rfl; have hcz24_3 : w22.cell? ⟨gb197, 3, none⟩ = some (.slice A0_3 l0_3.length c0_3) := (blk_cell BK197.out 3).trans rfl; have hcz24_4 : w22.cell? ⟨gb197, 4, none⟩ = some (.slice A0_4 l0_4.length c0_4) := (blk_cell BK197.out 4).trans rfl; have hfz24_0 := blk_frozen BK197.out 0; have hfz24_1 := blk_frozen BK197.out 1; have hfz24_2 := blk_frozen BK197.out 2; have hfz24_3 := blk_frozen BK197.out 3; have hfz24_4 := blk_frozen BK197.out 4; have hcz25_0 : w22.cell? ⟨gb198, 0, none⟩ = some (.slice A1_0 l1_0.length c1_0) := (blk_cell BK198.out 0).trans rfl; have hcz25_1 : w22.cell? ⟨gb198, 1, none⟩ = some (.int .i64 a1_1) := (blk_cell BK198.out 1).trans rfl; have hcz25_2 : w22.cell? ⟨gb198, 2, none⟩ = some (.slice A1_2 l1_2.length c1_2) := (blk_cell BK198.out 2).trans rfl; have hcz25_3 : w22.cell? ⟨gb198, 3, none⟩ = some (.slice A1_3 l1_3.length c1_3) := (blk_cell BK198.out 3).trans rfl; have hcz25_4 : w22.cell? ⟨gb198, 4, none⟩ = some (.slice A1_4 l1_4.length c1_4) := (blk_cell BK198.out 4).trans rfl; have hfz25_0 := blk_frozen BK198.out 0; have hfz25_1 := blk_frozen BK198.out 1; have hfz25_2 := blk_frozen BK198.out 2; have hfz25_3 := blk_frozen BK198.out 3; have hfz25_4 := blk_frozen BK198.out 4) | (go_at_call 19; (with_reducible refine (hypercuberef1_Ints.calls k _ _ l0_0 _ _ l1_0 true _ ?side1 ?side2 ?side3 ?side4 A4.out).mono ?_); (case side1 => exact Kd.Cw HR0_0.out HB.out); (case side2 => exact HC0_0.out); (case side3 => exact Kd.Cw HR1_0.out HB.out); (case side4 => exact HC1_0.out); rintro e w' ⟨rfl, ⟨nd, rfl⟩⟩) | (go_at_call 19; (with_reducible refine (hypercuberef1_Ints.calls k _ _ l0_2 _ _ l1_2 false _ ?side1 ?side2 ?side3 ?side4 A6.out).mono ?_); (case side1 => repeat (first | exact (Kd.C_below HR0_2.out (wmv HB.out)) | (with_reducible refine Kd.C_alloc ?_ _) | (with_reducible refine Kd.C_drewN ?_ _) | (with_reducible refine Kd.C_drew ?_))); (case side2 => exact HC0_2.out); (case side3 => repeat (first | exact (Kd.C_below HR1_2.out (wmv HB.out)) | (with_reducible refine Kd.C_alloc ?_ _) | (with_reducible refine Kd.C_drewN ?_ _) | (with_reducible refine Kd.C_drew ?_))); (case side4 => exact HC1_2.out); rintro e w' ⟨rfl, ⟨nd, rfl⟩⟩))
    go_ret
    exact ⟨by first | rfl | (simp [errW_none, errW_some] <;> rfl) | (simp [*, errW_none, errW_some] <;> rfl), zw HB⟩
  ·replace c5 := Bool.eq_false_iff.mpr c5
   subst c5
   have H1 : (some false) = some r := by rw [if_neg (show ¬ (false = true) by decide)] at H; exact H
   clear H
   have H := H1
   clear H1
   obtain rfl := Option.some.inj H
   go_enter Try.func22, Try.ntmps22
   go_wp2_with (first | ((with_reducible refine gate_dst (N := 2) rfl ?_); refine zX #[.slice A0_0 l0_0.length c0_0, .int .i64 a0_1, .slice A0_2 l0_2.length c0_2, .slice A0_3 l0_3.length c0_3, .slice A0_4 l0_4.length c0_4] 30 ?_; intro gb197 hg w26 hbox hb; have n0_ := am (below_step (wmv HB.out) hb); have n1_ := am (hbox); have n2_ := am ((by rw [hg]; exact (below_size (wmv HB.out)) : w.heap.size ≤ gb197)); have n3_ := am ((by rw [hg]; exact (below_size (wmv HB.out)) : w.heap.size ≤ gb197)); clear HB; revert n0_ n1_ n2_ n3_; intro HB BK197 GW197 GE197; clear hb hbox hg) | ((with_reducible refine gate_dst (N := 3) rfl ?_); refine zX #[.slice A1_0 l1_0.length c1_0, .int .i64 a1_1, .slice A1_2 l1_2.length c1_2, .slice A1_3 l1_3.length c1_3, .slice A1_4 l1_4.length c1_4] 30 ?_; intro gb198 hg w27 hbox hb; have n0_ := am (blk_below (bmv BK197.out) hb); have n1_ := am (below_step (wmv HB.out) hb); have n2_ := am (hbox); have n3_ := am ((by rw [hg]; exact (below_size (wmv HB.out)) : w.heap.size ≤ gb198)); have n4_ := am ((by rw [hg]; exact (below_size (wmv HB.out)) : w.heap.size ≤ gb198)); have n5_ := am ((by rw [hg]; exact Nat.ne_of_lt (blk_lt (bmv BK197.out)) : gb197 ≠ gb198)); have n6_ := am ((by rw [hg]; exact Nat.ne_of_gt (blk_lt (bmv BK197.out)) : gb198 ≠ gb197)); clear BK197 HB; revert n0_ n1_ n2_ n3_ n4_ n5_ n6_; intro BK197 HB BK198 GW198 GE198 NB197_198 NB198_197; clear hb hbox hg; have hnb28 := NB197_198.out; have hnc28 := NB198_197.out; have hcz29_0 : w27.cell? ⟨gb197, 0, none⟩ = some (.slice A0_0 l0_0.length c0_0) := (blk_cell BK197.out 0).trans rfl; have hcz29_1 : w27.cell? ⟨gb197, 1, none⟩ = some (.int .i64 a0_1) := (blk_cell BK197.out 1).trans rfl; have hcz29_2 : w27.cell? ⟨gb197, 2, none⟩ = some (.slice A0_2 l0_2.length c0_2) := (blk_cell BK197.out 2).trans rfl; have hcz29_3 : w27.cell? ⟨gb197, 3, none⟩ = some (.slice A0_3 l0_3.length c0_3) := (blk_cell BK197.out 3).trans rfl; have hcz29_4 : w27.cell? ⟨gb197, 4, none⟩ = some (.slice A0_4 l0_4.length c0_4) := (blk_cell BK197.out 4).trans rfl; have hfz29_0 := blk_frozen BK197.out 0; have hfz29_1 := blk_frozen BK197.out 1; have hfz29_2 := blk_frozen BK197.out 2; have hfz29_3 := blk_frozen BK197.out 3; have hfz29_4 := blk_frozen BK197.out 4; have hcz30_0 : w27.cell? ⟨gb198, 0, none⟩ = some (.slice A1_0 l1_0.length c1_0) := (blk_cell BK198.out 0).trans rfl; have hcz30_1 : w27.cell? ⟨gb198, 1, none⟩ = some (.int .i64 a1_1) := (blk_cell BK198.out 1).trans rfl; have hcz30_2 : w27.cell? ⟨gb198, 2, none⟩ = some (.slice A1_2 l1_2.length c1_2) := (blk_cell BK198.out 2).trans rfl; have hcz30_3 : w27.cell? ⟨gb198, 3, none⟩ = some (.slice A1_3 l1_3.length c1_3) := (blk_cell BK198.out 3).trans rfl; have hcz30_4 : w27.cell? ⟨gb198, 4, none⟩ = some (.slice A1_4 l1_4.length c1_4) := (blk_cell BK198.out 4).trans rfl; have hfz30_0 := blk_frozen BK198.out 0; have hfz30_1 := blk_frozen BK198.out 1; have hfz30_2 := blk_frozen BK198.out 2; have hfz30_3 := blk_frozen BK198.out 3; have hfz30_4 := blk_frozen BK198.out 4) | (go_at_call 19; (with_reducible refine (hypercuberef1_Ints.calls k _ _ l0_0 _ _ l1_0 false _ ?side1 ?side2 ?side3 ?side4 A4.out).mono ?_); (case side1 => exact Kd.Cw HR0_0.out HB.out); (case side2 => exact HC0_0.out); (case side3 => exact Kd.Cw HR1_0.out HB.out); (case side4 => exact HC1_0.out); rintro e w' ⟨rfl, ⟨nd, rfl⟩⟩))
   go_ret
   exact ⟨by first | rfl | (simp [errW_none, errW_some] <;> rfl) | (simp [*, errW_none, errW_some] <;> rfl), zw HB⟩
 ·rw [if_neg c3] at H
  have c3b0 : (a0_1 == a1_1) = false := beq_eq_false_iff_ne.mpr c3
  have c3b1 : (a0_1 != a1_1) = true := bne_iff_ne.mpr c3
  obtain rfl := Option.some.inj H
  go_enter Try.func22, Try.ntmps22
  go_wp2_with (first | ((with_reducible refine gate_dst (N := 2) rfl ?_); refine zX #[.slice A0_0 l0_0.length c0_0, .int .i64 a0_1, .slice A0_2 l0_2.length c0_2, .slice A0_3 l0_3.length c0_3, .slice A0_4 l0_4.length c0_4] 30 ?_; intro gb197 hg w31 hbox hb; have n0_ := am (below_step (wmv HB.out) hb); have n1_ := am (hbox); have n2_ := am ((by rw [hg]; exact (below_size (wmv HB.out)) : w.heap.size ≤ gb197)); have n3_ := am ((by rw [hg]; exact (below_size (wmv HB.out)) : w.heap.size ≤ gb197)); clear HB; revert n0_ n1_ n2_ n3_; intro HB BK197 GW197 GE197; clear hb hbox hg) | ((with_reducible refine gate_dst (N := 3) rfl ?_); refine zX #[.slice A1_0 l1_0.length c1_0, .int .i64 a1_1, .slice A1_2 l1_2.length c1_2, .slice A1_3 l1_3.length c1_3, .slice A1_4 l1_4.length c1_4] 30 ?_; intro gb198 hg w32 hbox hb; have n0_ := am (blk_below (bmv BK197.out) hb); have n1_ := am (below_step (wmv HB.out) hb); have n2_ := am (hbox); have n3_ := am ((by rw [hg]; exact (below_size (wmv HB.out)) : w.heap.size ≤ gb198)); have n4_ := am ((by rw [hg]; exact (below_size (wmv HB.out)) : w.heap.size ≤ gb198)); have n5_ := am ((by rw [hg]; exact Nat.ne_of_lt (blk_lt (bmv BK197.out)) : gb197 ≠ gb198)); have n6_ := am ((by rw [hg]; exact Nat.ne_of_gt (blk_lt (bmv BK197.out)) : gb198 ≠ gb197)); clear BK197 HB; revert n0_ n1_ n2_ n3_ n4_ n5_ n6_; intro BK197 HB BK198 GW198 GE198 NB197_198 NB198_197; clear hb hbox hg; have hnb33 := NB197_198.out; have hnc33 := NB198_197.out; have hcz34_0 : w32.cell? ⟨gb197, 0, none⟩ = some (.slice A0_0 l0_0.length c0_0) := (blk_cell BK197.out 0).trans rfl; have hcz34_1 : w32.cell? ⟨gb197, 1, none⟩ = some (.int .i64 a0_1) := (blk_cell BK197.out 1).trans rfl; have hcz34_2 : w32.cell? ⟨gb197, 2, none⟩ = some (.slice A0_2 l0_2.length c0_2) := (blk_cell BK197.out 2).trans rfl; have hcz34_3 : w32.cell? ⟨gb197, 3, none⟩ = some (.slice A0_3 l0_3.length c0_3) := (blk_cell BK197.out 3).trans rfl; have hcz34_4 : w32.cell? ⟨gb197, 4, none⟩ = some (.slice A0_4 l0_4.length c0_4) := (blk_cell BK197.out 4).trans rfl; have hfz34_0 := blk_frozen BK197.out 0; have hfz34_1 := blk_frozen BK197.out 1; have hfz34_2 := blk_frozen BK197.out 2; have hfz34_3 := blk_frozen BK197.out 3; have hfz34_4 := blk_frozen BK197.out 4; have hcz35_0 : w32.cell? ⟨gb198, 0, none⟩ = some (.slice A1_0 l1_0.length c1_0) := (blk_cell BK198.out 0).trans rfl; have hcz35_1 : w32.cell? ⟨gb198, 1, none⟩ = some (.int .i64 a1_1) := (blk_cell BK198.out 1).trans rfl; have hcz35_2 : w32.cell? ⟨gb198, 2, none⟩ = some (.slice A1_2 l1_2.length c1_2) := (blk_cell BK198.out 2).trans rfl; have hcz35_3 : w32.cell? ⟨gb198, 3, none⟩ = some (.slice A1_3 l1_3.length c1_3) := (blk_cell BK198.out 3).trans rfl; have hcz35_4 : w32.cell? ⟨gb198, 4, none⟩ = some (.slice A1_4 l1_4.length c1_4) := (blk_cell BK198.out 4).trans rfl; have hfz35_0 := blk_frozen BK198.out 0; have hfz35_1 := blk_frozen BK198.out 1; have hfz35_2 := blk_frozen BK198.out 2; have hfz35_3 := blk_frozen BK198.out 3; have hfz35_4 := blk_frozen BK198.out 4))
  go_ret
  exact ⟨by first | rfl | (simp [errW_none, errW_some] <;> rfl) | (simp [*, errW_none, errW_some] <;> rfl), zw HB⟩
def hypercuberef2_Same.l0 : Nat → List (S30) → List (S30) → Int → Option (Bool)
 | 0, _, _, _ => none
 | k + 1, x0, x1, x5 => if x5 < (x0.length : Int) then (if 0 ≤ x5 then (if x5 < (x1.length : Int) then ((hypercuberef2_Equal.f k ((rd_T30 x0 x5).f0) ((rd_T30 x0 x5).f1) ((rd_T30 x0 x5).f2) ((rd_T30 x0 x5).f3) ((rd_T30 x0 x5).f4) ((rd_T30 x1 x5).f0) ((rd_T30 x1 x5).f1) ((rd_T30 x1 x5).f2) ((rd_T30 x1 x5).f3) ((rd_T30 x1 x5).f4)).bind fun t278 => (if t278 = true then (hypercuberef2_Same.l0 k x0 x1 (wrap64 (x5 + 1))) else (some false))) else (none)) else (none)) else (some true)
def hypercuberef2_Same.f (k : Nat) (l0 : List (S30)) (l1 : List (S30)) : Option (Bool) := if (l0.length : Int) = (l1.length : Int) then (hypercuberef2_Same.l0 k l0 l1 0) else (some false)
def hypercuberef2_Same.T6 : Bool × List (List Nat × List Nat) := (true, [([], []), ([], []), ([0, 1], [0, 1]), ([2], [2]), ([], []), ([], []), ([4, 5], [4, 5]), ([6], [6]), ([3, 7], [3, 7]), ([8], [8])])
def hypercuberef2_Same.B6 : List Nat := [0, 0, 3, 7, 0, 0, 48, 112, 255, 511]
theorem hypercuberef2_Same.tab6 : rtab .any (opsOf Try.f27 6) = hypercuberef2_Same.T6 := by kernel_rfl
theorem hypercuberef2_Same.bits6 : waitsOk hypercuberef2_Same.T6.2 hypercuberef2_Same.B6 = true := by kernel_rfl
set_option maxHeartbeats 8000000 in
set_option maxRecDepth 100000 in
theorem hypercuberef2_Same.calls (k : Nat) (A0 : Option Addr) (c0 : Nat) (l0 : List (S30)) (A1 : Option Addr) (c1 : Nat) (l1 : List (S30)) (r : Bool) (w : World) (hr0 : Kd.C k30 w A0 l0.length l0) (hc0 : l0.length ≤ c0) (hr1 : Kd.C k30 w A1 l1.length l1) (hc1 : l1.length ≤ c1) (h : hypercuberef2_Same.f k l0 l1 = some r) :
  Calls Try.prog 27 #[.slice A0 l0.length c0, .slice A1 l1.length c1] w fun e w' => e = .returned (.bool r) ∧ Below w.heap.size w w' := by
 have hu30 := Try.underlying30
 have HR0 := am hr0
 have HC0 := am hc0
 clear hr0 hc0
 have HR1 := am hr1
 have HC1 := am hc1
 clear hr1 hc1
 have HB := am (Below.refl w.heap.size w)
 have H : (if (l0.length : Int) = (l1.length : Int) then (hypercuberef2_Same.l0 k l0 l1 0) else (some false)) = some r := h
 clear h
 by_cases c3 : (l0.length : Int) = (l1.length : Int)
 ·rw [if_pos c3] at H
  have c3b0 : ((l0.length : Int) == (l1.length : Int)) = true := beq_iff_eq.mpr c3
  have c3b1 : ((l0.length : Int) != (l1.length : Int)) = false := bne_eq_false_iff_eq.mpr c3
  have c3b2 : (l0.length == l1.length) = true := by first | simpa using c3 | (simp at c3 ⊢; omega)
  clear c3
  have H' := am H
  clear H
  go_enter Try.func27, Try.ntmps27
  go_wp2
  go_loopg [5] k (fun kq v5 w' => ∃ (x5_1 : Int), v5 = .int .i64 x5_1 ∧ Aside0 (hypercuberef2_Same.l0 kq l0 l1 x5_1 = some r) ∧ Aside0 (kq ≤ k) ∧ Aside0 (Below w.heap.size w w'))
  case atStart => exact ⟨(0), zz, H', ⟨Nat.le_refl _⟩, ⟨zw HB⟩⟩
  case round =>
   clear H'
   try clear c1
   try clear c2
   try clear p2
   try clear c3
   try clear c3b0
   try clear c3b1
   try clear c3b2
   obtain ⟨x5_1, rfl, HA, HK1, HB⟩ := hrel
   cases gk with
   | zero => exact absurd HA.out (by simp [hypercuberef2_Same.l0])
   | succ k1 =>
    have H := HA.out
    clear HA
    simp only [hypercuberef2_Same.l0] at H
    by_cases c4 : x5_1 < (l0.length : Int)
    ·rw [if_pos c4] at H
     have c4b0 : decide (x5_1 < (l0.length : Int)) = true := decide_eq_true c4
     clear c4
     by_cases c5 : 0 ≤ x5_1
     ·rw [if_pos c5] at H
      have c5b0 : decide (0 ≤ x5_1) = true := decide_eq_true c5
      clear c5
      by_cases c6 : x5_1 < (l1.length : Int)
      ·rw [if_pos c6] at H
       have c6b0 : decide (x5_1 < (l1.length : Int)) = true := decide_eq_true c6
       clear c6
       replace H := Option.bind_eq_some_iff.mp H
       obtain ⟨t278, A70, H⟩ := H
       replace H : (if t278 = true then (hypercuberef2_Same.l0 k1 l0 l1 (wrap64 (x5_1 + 1))) else (some false)) = some r := H
       have A7 := am A70
       clear A70
       by_cases c8 : t278 = true
       ·subst c8
        have H1 : (hypercuberef2_Same.l0 k1 l0 l1 (wrap64 (x5_1 + 1))) = some r := by rw [if_pos rfl] at H; exact H
        clear H
        have H := H1
        clear H1
        have H' := am H
        clear H
        try go_wp2
        have n0_ := am (below_drew1 HB.out)
        clear HB
        revert n0_
        intro HB
        have p276 : 0 ≤ (x5_1 : Int) := zd
        have q276 : x5_1 < (l0.length : Int) := zd
        obtain ⟨ad276, A276_0, c276_0, A276_2, c276_2, A276_3, c276_3, A276_4, c276_4, e276, hx276_0, hx276_1, hx276_2, hx276_3, hx276_4, hl276_0, hi276_0, hl276_2, hi276_2, hl276_3, hi276_3, hl276_4, hi276_4⟩ := at_T30 HR0.out x5_1 p276 q276
        have hw276_4 := hx276_4
        have hw276_3 := hx276_3
        have hw276_2 := hx276_2
        have hw276_1 := hx276_1
        have hw276_0 := hx276_0
        cases e276
        replace hx276_0 := zc HB hx276_0
        replace hx276_1 := zc HB hx276_1
        replace hx276_2 := zc HB hx276_2
        replace hx276_3 := zc HB hx276_3
        replace hx276_4 := zc HB hx276_4
        have HR276_0 := am hi276_0
        have HC276_0 := am hl276_0
        clear hi276_0 hl276_0
        have HR276_2 := am hi276_2
        have HC276_2 := am hl276_2
        clear hi276_2 hl276_2
        have HR276_3 := am hi276_3
        have HC276_3 := am hl276_3
        clear hi276_3 hl276_3
        have HR276_4 := am hi276_4
        have HC276_4 := am hl276_4
        clear hi276_4 hl276_4
        replace p276 := eq_true p276
        replace q276 := eq_true q276
        have p277 : 0 ≤ (x5_1 : Int) := zd
        have q277 : x5_1 < (l1.length : Int) := zd
        obtain ⟨ad277, A277_0, c277_0, A277_2, c277_2, A277_3, c277_3, A277_4, c277_4, e277, hx277_0, hx277_1, hx277_2, hx277_3, hx277_4, hl277_0, hi277_0, hl277_2, hi277_2, hl277_3, hi277_3, hl277_4, hi277_4⟩ := at_T30 HR1.out x5_1 p277 q277
        have hw277_4 := hx277_4
        have hw277_3 := hx277_3
        have hw277_2 := hx277_2
        have hw277_1 := hx277_1
        have hw277_0 := hx277_0
        cases e277
        replace hx277_0 := zc HB hx277_0
        replace hx277_1 := zc HB hx277_1
        replace hx277_2 := zc HB hx277_2
        replace hx277_3 := zc HB hx277_3
        replace hx277_4 := zc HB hx277_4
        have HR277_0 := am hi277_0
        have HC277_0 := am hl277_0
        clear hi277_0 hl277_0
        have HR277_2 := am hi277_2
        have HC277_2 := am hl277_2
        clear hi277_2 hl277_2
        have HR277_3 := am hi277_3
        have HC277_3 := am hl277_3
        clear hi277_3 hl277_3
        have HR277_4 := am hi277_4
        have HC277_4 := am hl277_4
        clear hi277_4 hl277_4
        replace p277 := eq_true p277
        replace q277 := eq_true q277
        refine start_ (n := 10) (S := fun w' => w'.cell? (ad276.add ((x5_1).toNat * 5)) = some (.slice A276_0 ((rd_T30 l0 x5_1).f0).length c276_0) ∧ w'.cell? ⟨(ad276.add ((x5_1).toNat * 5)).block, (ad276.add ((x5_1).toNat * 5)).off + 1, none⟩ = some (.int .i64 ((rd_T30 l0 x5_1).f1)) ∧ w'.cell? ⟨(ad276.add ((x5_1).toNat * 5)).block, (ad276.add ((x5_1).toNat * 5)).off + 2, none⟩ = some (.slice A276_2 ((rd_T30 l0 x5_1).f2).length c276_2) ∧ w'.cell? ⟨(ad276.add ((x5_1).toNat * 5)).block, (ad276.add ((x5_1).toNat * 5)).off + 3, none⟩ = some (.slice A276_3 ((rd_T30 l0 x5_1).f3).length c276_3) ∧ w'.cell? ⟨(ad276.add ((x5_1).toNat * 5)).block, (ad276.add ((x5_1).toNat * 5)).off + 4, none⟩ = some (.slice A276_4 ((rd_T30 l0 x5_1).f4).length c276_4) ∧ w'.cell? (ad277.add ((x5_1).toNat * 5)) = some (.slice A277_0 ((rd_T30 l1 x5_1).f0).length c277_0) ∧ w'.cell? ⟨(ad277.add ((x5_1).toNat * 5)).block, (ad277.add ((x5_1).toNat * 5)).off + 1, none⟩ = some (.int .i64 ((rd_T30 l1 x5_1).f1)) ∧ w'.cell? ⟨(ad277.add ((x5_1).toNat * 5)).block, (ad277.add ((x5_1).toNat * 5)).off + 2, none⟩ = some (.slice A277_2 ((rd_T30 l1 x5_1).f2).length c277_2) ∧ w'.cell? ⟨(ad277.add ((x5_1).toNat * 5)).block, (ad277.add ((x5_1).toNat * 5)).off + 3, none⟩ = some (.slice A277_3 ((rd_T30 l1 x5_1).f3).length c277_3) ∧ w'.cell? ⟨(ad277.add ((x5_1).toNat * 5)).block, (ad277.add ((x5_1).toNat * 5)).off + 4, none⟩ = some (.slice A277_4 ((rd_T30 l1 x5_1).f4).length c277_4)) (ds := []) (bb 10 0) (by kernel_rfl) rfl rfl ⟨(zc HB hw276_0), (zc HB hw276_1), (zc HB hw276_2), (zc HB hw276_3), (zc HB hw276_4), (zc HB hw277_0), (zc HB hw277_1), (zc HB hw277_2), (zc HB hw277_3), (zc HB hw277_4)⟩ (fun hHeld => ?_); refine with_tabW hypercuberef2_Same.tab6 hypercuberef2_Same.bits6 (fun HT_ HW_ => ?_)
        generalize wr.drew = w9 at HB HR276_0 HR276_2 HR276_3 HR276_4 HR277_0 HR277_2 HR277_3 HR277_4 hx276_0 hx276_1 hx276_2 hx276_3 hx276_4 hx277_0 hx277_1 hx277_2 hx277_3 hx277_4 hHeld ⊢
        refine zu 0 (some 17) (bb 10 1) HT_ ?_
        refine zu 1 (some 18) (bb 10 3) HT_ ?_
        refine zu 2 (some 19) (bb 10 7) HT_ ?_
        refine zu 4 (some 21) (bb 10 23) HT_ ?_
        refine zu 5 (some 22) (bb 10 55) HT_ ?_
        refine zu 6 (some 23) (bb 10 119) HT_ ?_
        refine zk 3 (some 20) (bb 10 127) HT_ HW_ hHeld ?_
        refine zk 7 (some 24) (bb 10 255) HT_ HW_ hHeld ?_
        refine zo 8 (some 25) (bb 10 511) HT_ (fun K hK => ?_)
        refine goes_ Try.func22 (by kernel_rfl) rfl #[.agg #[.slice A276_0 ((rd_T30 l0 x5_1).f0).length c276_0, .int .i64 ((rd_T30 l0 x5_1).f1), .slice A276_2 ((rd_T30 l0 x5_1).f2).length c276_2, .slice A276_3 ((rd_T30 l0 x5_1).f3).length c276_3, .slice A276_4 ((rd_T30 l0 x5_1).f4).length c276_4], .agg #[.slice A277_0 ((rd_T30 l1 x5_1).f0).length c277_0, .int .i64 ((rd_T30 l1 x5_1).f1), .slice A277_2 ((rd_T30 l1 x5_1).f2).length c277_2, .slice A277_3 ((rd_T30 l1 x5_1).f3).length c277_3, .slice A277_4 ((rd_T30 l1 x5_1).f4).length c277_4]] (by rfl) rfl rfl zm ?_
        with_reducible refine (hypercuberef2_Equal.calls k1 _ _ ((rd_T30 l0 x5_1).f0) ((rd_T30 l0 x5_1).f1) _ _ ((rd_T30 l0 x5_1).f2) _ _ ((rd_T30 l0 x5_1).f3) _ _ ((rd_T30 l0 x5_1).f4) _ _ ((rd_T30 l1 x5_1).f0) ((rd_T30 l1 x5_1).f1) _ _ ((rd_T30 l1 x5_1).f2) _ _ ((rd_T30 l1 x5_1).f3) _ _ ((rd_T30 l1 x5_1).f4) true _ ?side1 ?side2 ?side3 ?side4 ?side5 ?side6 ?side7 ?side8 ?side9 ?side10 ?side11 ?side12 ?side13 ?side14 ?side15 ?side16 A7.out).mono ?_
        (case side1 => exact Kd.Cw HR276_0.out HB.out)
        (case side2 => exact HC276_0.out)
        (case side3 => exact Kd.Cw HR276_2.out HB.out)
        (case side4 => exact HC276_2.out)
        (case side5 => exact Kd.Cw HR276_3.out HB.out)
        (case side6 => exact HC276_3.out)
        (case side7 => exact Kd.Cw HR276_4.out HB.out)
        (case side8 => exact HC276_4.out)
        (case side9 => exact Kd.Cw HR277_0.out HB.out)
        (case side10 => exact HC277_0.out)
        (case side11 => exact Kd.Cw HR277_2.out HB.out)
        (case side12 => exact HC277_2.out)
        (case side13 => exact Kd.Cw HR277_3.out HB.out)
        (case side14 => exact HC277_3.out)
        (case side15 => exact Kd.Cw HR277_4.out HB.out)
        (case side16 => exact HC277_4.out)
        rintro e w10 ⟨rfl, hb⟩
        refine ⟨_, rfl, ?_⟩
        have n0_ := am (below_step (wmv HB.out) hb)
        clear HB
        revert n0_
        intro HB
        (try clear hb)
        (try clear hb2)
        (try clear hk)
        (try clear hi)
        refine hK.out _ _ ⟨(zc HB hw276_0), (zc HB hw276_1), (zc HB hw276_2), (zc HB hw276_3), (zc HB hw276_4), (zc HB hw277_0), (zc HB hw277_1), (zc HB hw277_2), (zc HB hw277_3), (zc HB hw277_4)⟩ (fun hHeld => ?_)
        clear hK K
        refine nm ?_
        refine zu 9 (some 26) (bb 10 1023) HT_ ?_
        refine done_ (done_of HT_.out (by kernel_rfl)) ?_
        try go_wp2
        go_roundg k1
        case measure => have := HK1.out; omega
        case rel => exact ⟨(wrap64 (x5_1 + 1)), zz, H', ⟨by have := HK1.out; omega⟩, ⟨zw HB⟩⟩
       ·replace c8 := Bool.eq_false_iff.mpr c8
        subst c8
        have H1 : (some false) = some r := by rw [if_neg (show ¬ (false = true) by decide)] at H; exact H
        clear H
        have H := H1
        clear H1
        obtain rfl := Option.some.inj H
        try go_wp2
        have n0_ := am (below_drew1 HB.out)
        clear HB
        revert n0_
        intro HB
        have p276 : 0 ≤ (x5_1 : Int) := zd
        have q276 : x5_1 < (l0.length : Int) := zd
        obtain ⟨ad276, A276_0, c276_0, A276_2, c276_2, A276_3, c276_3, A276_4, c276_4, e276, hx276_0, hx276_1, hx276_2, hx276_3, hx276_4, hl276_0, hi276_0, hl276_2, hi276_2, hl276_3, hi276_3, hl276_4, hi276_4⟩ := at_T30 HR0.out x5_1 p276 q276
        have hw276_4 := hx276_4
        have hw276_3 := hx276_3
        have hw276_2 := hx276_2
        have hw276_1 := hx276_1
        have hw276_0 := hx276_0
        cases e276
        replace hx276_0 := zc HB hx276_0
        replace hx276_1 := zc HB hx276_1
        replace hx276_2 := zc HB hx276_2
        replace hx276_3 := zc HB hx276_3
        replace hx276_4 := zc HB hx276_4
        have HR276_0 := am hi276_0
        have HC276_0 := am hl276_0
        clear hi276_0 hl276_0
        have HR276_2 := am hi276_2
        have HC276_2 := am hl276_2
        clear hi276_2 hl276_2
        have HR276_3 := am hi276_3
        have HC276_3 := am hl276_3
        clear hi276_3 hl276_3
        have HR276_4 := am hi276_4
        have HC276_4 := am hl276_4
        clear hi276_4 hl276_4
        replace p276 := eq_true p276
        replace q276 := eq_true q276
        have p277 : 0 ≤ (x5_1 : Int) := zd
        have q277 : x5_1 < (l1.length : Int) := zd
        obtain ⟨ad277, A277_0, c277_0, A277_2, c277_2, A277_3, c277_3, A277_4, c277_4, e277, hx277_0, hx277_1, hx277_2, hx277_3, hx277_4, hl277_0, hi277_0, hl277_2, hi277_2, hl277_3, hi277_3, hl277_4, hi277_4⟩ := at_T30 HR1.out x5_1 p277 q277
        have hw277_4 := hx277_4
        have hw277_3 := hx277_3
        have hw277_2 := hx277_2
        have hw277_1 := hx277_1
        have hw277_0 := hx277_0
        cases e277
        replace hx277_0 := zc HB hx277_0
        replace hx277_1 := zc HB hx277_1
        replace hx277_2 := zc HB hx277_2
        replace hx277_3 := zc HB hx277_3
        replace hx277_4 := zc HB hx277_4
        have HR277_0 := am hi277_0
        have HC277_0 := am hl277_0
        clear hi277_0 hl277_0
        have HR277_2 := am hi277_2
        have HC277_2 := am hl277_2
        clear hi277_2 hl277_2
        have HR277_3 := am hi277_3
        have HC277_3 := am hl277_3
        clear hi277_3 hl277_3
        have HR277_4 := am hi277_4
        have HC277_4 := am hl277_4
        clear hi277_4 hl277_4
        replace p277 := eq_true p277
        replace q277 := eq_true q277
        refine start_ (n := 10) (S := fun w' => w'.cell? (ad276.add ((x5_1).toNat * 5)) = some (.slice A276_0 ((rd_T30 l0 x5_1).f0).length c276_0) ∧ w'.cell? ⟨(ad276.add ((x5_1).toNat * 5)).block, (ad276.add ((x5_1).toNat * 5)).off + 1, none⟩ = some (.int .i64 ((rd_T30 l0 x5_1).f1)) ∧ w'.cell? ⟨(ad276.add ((x5_1).toNat * 5)).block, (ad276.add ((x5_1).toNat * 5)).off + 2, none⟩ = some (.slice A276_2 ((rd_T30 l0 x5_1).f2).length c276_2) ∧ w'.cell? ⟨(ad276.add ((x5_1).toNat * 5)).block, (ad276.add ((x5_1).toNat * 5)).off + 3, none⟩ = some (.slice A276_3 ((rd_T30 l0 x5_1).f3).length c276_3) ∧ w'.cell? ⟨(ad276.add ((x5_1).toNat * 5)).block, (ad276.add ((x5_1).toNat * 5)).off + 4, none⟩ = some (.slice A276_4 ((rd_T30 l0 x5_1).f4).length c276_4) ∧ w'.cell? (ad277.add ((x5_1).toNat * 5)) = some (.slice A277_0 ((rd_T30 l1 x5_1).f0).length c277_0) ∧ w'.cell? ⟨(ad277.add ((x5_1).toNat * 5)).block, (ad277.add ((x5_1).toNat * 5)).off + 1, none⟩ = some (.int .i64 ((rd_T30 l1 x5_1).f1)) ∧ w'.cell? ⟨(ad277.add ((x5_1).toNat * 5)).block, (ad277.add ((x5_1).toNat * 5)).off + 2, none⟩ = some (.slice A277_2 ((rd_T30 l1 x5_1).f2).length c277_2) ∧ w'.cell? ⟨(ad277.add ((x5_1).toNat * 5)).block, (ad277.add ((x5_1).toNat * 5)).off + 3, none⟩ = some (.slice A277_3 ((rd_T30 l1 x5_1).f3).length c277_3) ∧ w'.cell? ⟨(ad277.add ((x5_1).toNat * 5)).block, (ad277.add ((x5_1).toNat * 5)).off + 4, none⟩ = some (.slice A277_4 ((rd_T30 l1 x5_1).f4).length c277_4)) (ds := []) (bb 10 0) (by kernel_rfl) rfl rfl ⟨(zc HB hw276_0), (zc HB hw276_1), (zc HB hw276_2), (zc HB hw276_3), (zc HB hw276_4), (zc HB hw277_0), (zc HB hw277_1), (zc HB hw277_2), (zc HB hw277_3), (zc HB hw277_4)⟩ (fun hHeld => ?_); refine with_tabW hypercuberef2_Same.tab6 hypercuberef2_Same.bits6 (fun HT_ HW_ => ?_)
        generalize wr.drew = w11 at HB HR276_0 HR276_2 HR276_3 HR276_4 HR277_0 HR277_2 HR277_3 HR277_4 hx276_0 hx276_1 hx276_2 hx276_3 hx276_4 hx277_0 hx277_1 hx277_2 hx277_3 hx277_4 hHeld ⊢
        refine zu 0 (some 17) (bb 10 1) HT_ ?_
        refine zu 1 (some 18) (bb 10 3) HT_ ?_
        refine zu 2 (some 19) (bb 10 7) HT_ ?_
        refine zu 4 (some 21) (bb 10 23) HT_ ?_
        refine zu 5 (some 22) (bb 10 55) HT_ ?_
        refine zu 6 (some 23) (bb 10 119) HT_ ?_
        refine zk 3 (some 20) (bb 10 127) HT_ HW_ hHeld ?_
        refine zk 7 (some 24) (bb 10 255) HT_ HW_ hHeld ?_
        refine zo 8 (some 25) (bb 10 511) HT_ (fun K hK => ?_)
        refine goes_ Try.func22 (by kernel_rfl) rfl #[.agg #[.slice A276_0 ((rd_T30 l0 x5_1).f0).length c276_0, .int .i64 ((rd_T30 l0 x5_1).f1), .slice A276_2 ((rd_T30 l0 x5_1).f2).length c276_2, .slice A276_3 ((rd_T30 l0 x5_1).f3).length c276_3, .slice A276_4 ((rd_T30 l0 x5_1).f4).length c276_4], .agg #[.slice A277_0 ((rd_T30 l1 x5_1).f0).length c277_0, .int .i64 ((rd_T30 l1 x5_1).f1), .slice A277_2 ((rd_T30 l1 x5_1).f2).length c277_2, .slice A277_3 ((rd_T30 l1 x5_1).f3).length c277_3, .slice A277_4 ((rd_T30 l1 x5_1).f4).length c277_4]] (by rfl) rfl rfl zm ?_
        with_reducible refine (hypercuberef2_Equal.calls k1 _ _ ((rd_T30 l0 x5_1).f0) ((rd_T30 l0 x5_1).f1) _ _ ((rd_T30 l0 x5_1).f2) _ _ ((rd_T30 l0 x5_1).f3) _ _ ((rd_T30 l0 x5_1).f4) _ _ ((rd_T30 l1 x5_1).f0) ((rd_T30 l1 x5_1).f1) _ _ ((rd_T30 l1 x5_1).f2) _ _ ((rd_T30 l1 x5_1).f3) _ _ ((rd_T30 l1 x5_1).f4) false _ ?side1 ?side2 ?side3 ?side4 ?side5 ?side6 ?side7 ?side8 ?side9 ?side10 ?side11 ?side12 ?side13 ?side14 ?side15 ?side16 A7.out).mono ?_
        (case side1 => exact Kd.Cw HR276_0.out HB.out)
        (case side2 => exact HC276_0.out)
        (case side3 => exact Kd.Cw HR276_2.out HB.out)
        (case side4 => exact HC276_2.out)
        (case side5 => exact Kd.Cw HR276_3.out HB.out)
        (case side6 => exact HC276_3.out)
        (case side7 => exact Kd.Cw HR276_4.out HB.out)
        (case side8 => exact HC276_4.out)
        (case side9 => exact Kd.Cw HR277_0.out HB.out)
        (case side10 => exact HC277_0.out)
        (case side11 => exact Kd.Cw HR277_2.out HB.out)
        (case side12 => exact HC277_2.out)
        (case side13 => exact Kd.Cw HR277_3.out HB.out)
        (case side14 => exact HC277_3.out)
        (case side15 => exact Kd.Cw HR277_4.out HB.out)
        (case side16 => exact HC277_4.out)
        rintro e w12 ⟨rfl, hb⟩
        refine ⟨_, rfl, ?_⟩
        have n0_ := am (below_step (wmv HB.out) hb)
        clear HB
        revert n0_
        intro HB
        (try clear hb)
        (try clear hb2)
        (try clear hk)
        (try clear hi)
        refine hK.out _ _ ⟨(zc HB hw276_0), (zc HB hw276_1), (zc HB hw276_2), (zc HB hw276_3), (zc HB hw276_4), (zc HB hw277_0), (zc HB hw277_1), (zc HB hw277_2), (zc HB hw277_3), (zc HB hw277_4)⟩ (fun hHeld => ?_)
        clear hK K
        refine nm ?_
        refine zu 9 (some 26) (bb 10 1023) HT_ ?_
        refine done_ (done_of HT_.out (by kernel_rfl)) ?_
        try go_wp2
        go_ret
        exact ⟨by first | rfl | (simp [errW_none, errW_some] <;> rfl) | (simp [*, errW_none, errW_some] <;> rfl), zw HB⟩
      ·rw [if_neg c6] at H
       exact absurd H (by simp)
     ·rw [if_neg c5] at H
      exact absurd H (by simp)
    ·rw [if_neg c4] at H
     have c4b0 : decide (x5_1 < (l0.length : Int)) = false := decide_eq_false c4
     clear c4
     obtain rfl := Option.some.inj H
     go_wp2
     go_ret
     exact ⟨by first | rfl | (simp [errW_none, errW_some] <;> rfl) | (simp [*, errW_none, errW_some] <;> rfl), zw HB⟩
 ·rw [if_neg c3] at H
  have c3b0 : ((l0.length : Int) == (l1.length : Int)) = false := beq_eq_false_iff_ne.mpr c3
  have c3b1 : ((l0.length : Int) != (l1.length : Int)) = true := bne_iff_ne.mpr c3
  have c3b2 : (l0.length == l1.length) = false := by first | simpa using c3 | (simp at c3 ⊢; omega)
  obtain rfl := Option.some.inj H
  go_enter Try.func27, Try.ntmps27
  go_wp2
  go_ret
  exact ⟨by first | rfl | (simp [errW_none, errW_some] <;> rfl) | (simp [*, errW_none, errW_some] <;> rfl), zw HB⟩
end Go.Proofs.Ytmkjkkmilopcpaa.Q
namespace Go.Proofs.Ytmkjkkmilopcpaa.Q
open Go.RowKit Go.Proofs.YtmkjkkmilopcpaaW.PrintWords Go.Proofs.YtmkjkkmilopcpaaW.PrintLast Go.Proofs.YtmkjkkmilopcpaaW.PrintMore
set_option linter.unusedVariables false
set_option linter.unusedSimpArgs false
theorem w64 {x : Int} (h0 : -9223372036854775808 ≤ x) (h1 : x ≤ 9223372036854775807) : wrap64 x = x := by unfold wrap64; omega
theorem w64s {i n : Nat} (h : i < n) (hn : n ≤ 4611686018427387904) : wrap64 ((i : Int) + 1) = ((i + 1 : Nat) : Int) := by unfold wrap64; omega
theorem within2_eq (a n : Int) (h0 : 0 < n) (h1 : n ≤ 4611686018427387904) : hypercubelaw2_within.f a n = some (a % n) := by
 unfold hypercubelaw2_within.f
 rw [if_neg (by omega)]
 have hb := Int.emod_nonneg a (show n ≠ 0 by omega)
 have hl := Int.emod_lt_of_pos a h0
 by_cases ha : 0 ≤ a
 ·rw [Int.tmod_eq_emod_of_nonneg ha, if_neg (by omega)]
 ·have ht : Int.tmod a n = if a % n = 0 then 0 else a % n - n := by
   rw [Int.tmod_eq_emod]
   split
   ·rename_i h
    rcases h with h | h
    ·omega
    ·rw [Int.emod_eq_zero_of_dvd h]; simp
   ·rename_i h
    have : a % n ≠ 0 := fun e => h (.inr (Int.dvd_of_emod_eq_zero e))
    rw [if_neg this, Int.natAbs_of_nonneg (by omega)]
  by_cases hz : a % n = 0
  ·rw [ht, if_pos hz, if_neg (by omega), hz]
  ·rw [ht, if_neg hz, if_pos (by omega)]
   congr 1
   rw [w64 (by omega) (by omega)]
   omega
theorem rd_get {l : List Int} {i : Nat} (h : i < l.length) : rd l (i : Int) = l[i] := by simp [rd, List.getD_eq_getElem?_getD, h]
theorem drop_cons {α : Type} {l : List α} {i : Nat} (h : i < l.length) : l.drop i = l[i] :: l.drop (i + 1) := List.drop_eq_getElem_cons h
theorem dec_cons_eq {α : Type} [DecidableEq α] {x y : α} (l l' : List α) (h : x = y) : decide (x :: l = y :: l') = decide (l = l') := by subst h; simp
theorem dec_cons_ne {α : Type} [DecidableEq α] {x y : α} (l l' : List α) (h : ¬ x = y) : decide (x :: l = y :: l') = false := by simp [h]
theorem ints_l0 (a b : List Int) (hl : a.length = b.length) (hn : a.length ≤ 4611686018427387904) (d : Nat) : ∀ i : Nat, a.length - i = d → i ≤ a.length →
  Ev (fun k => hypercuberef1_Ints.l0 k a b (i : Int)) (decide (a.drop i = b.drop i)) := by
 induction d with
 | zero =>
  intro i hd hi
  have e1 : a.drop i = [] := List.drop_eq_nil_of_le (by omega)
  have e2 : b.drop i = [] := List.drop_eq_nil_of_le (by omega)
  rw [e1, e2]
  exact Ev.step (fun k => by simp only [hypercuberef1_Ints.l0]; rw [if_neg (by omega)]; rfl) (Ev.now _)
 | succ d ih =>
  intro i hd hi
  have ha : i < a.length := by omega
  have hb : i < b.length := by omega
  rw [drop_cons ha, drop_cons hb]
  by_cases he : a[i] = b[i]
  ·rw [dec_cons_eq _ _ he]
   exact Ev.step (fun k => by simp only [hypercuberef1_Ints.l0]; rw [if_pos (by omega), if_pos (by omega), if_pos (by omega), rd_get ha, rd_get hb, if_pos he, w64s ha hn]) (ih (i + 1) (by omega) (by omega))
  ·rw [dec_cons_ne _ _ he]
   exact Ev.step (fun k => by simp only [hypercuberef1_Ints.l0]; rw [if_pos (by omega), if_pos (by omega), if_pos (by omega), rd_get ha, rd_get hb, if_neg he]) (Ev.now _)
theorem ints_ev (a b : List Int) (hn : a.length ≤ 4611686018427387904) : Ev (fun k => hypercuberef1_Ints.f k a b) (decide (a = b)) := by
 by_cases hl : a.length = b.length
 ·have h := ints_l0 a b hl hn a.length 0 (by omega) (by omega)
  simp only [List.drop_zero] at h
  exact Ev.congr (fun k => by unfold hypercuberef1_Ints.f; rw [if_pos (by omega)]; rfl) h
 ·have : decide (a = b) = false := by
   rw [decide_eq_false_iff_not]; intro e; exact hl (by rw [e])
  rw [this]
  exact Ev.congr (fun k => by unfold hypercuberef1_Ints.f; rw [if_neg (by omega)]) (Ev.now _)
def lexC : List Int → List Int → Int
 | [], [] => 0
 | [], _ :: _ => -1
 | _ :: _, [] => 1
 | x :: xs, y :: ys => if x < y then -1 else if x > y then 1 else lexC xs ys
theorem lexC_nil_right (a : List Int) (h : a ≠ []) : lexC a [] = 1 := by cases a with
 | nil => exact absurd rfl h
 | cons => rfl
theorem lexC_nil_left (a : List Int) (h : a ≠ []) : lexC [] a = -1 := by cases a with
 | nil => exact absurd rfl h
 | cons => rfl
theorem lexC_swap : ∀ a b : List Int, lexC b a = 0 - lexC a b
 | [], [] => rfl
 | [], _ :: _ => rfl
 | _ :: _, [] => rfl
 | x :: xs, y :: ys => by
  have ih := lexC_swap xs ys
  unfold lexC
  repeat' split
  all_goals omega
theorem lexC_zero : ∀ a b : List Int, lexC a b = 0 ↔ a = b
 | [], [] => by simp [lexC]
 | [], _ :: _ => by simp [lexC]
 | _ :: _, [] => by simp [lexC]
 | x :: xs, y :: ys => by
  unfold lexC
  by_cases h1 : x < y
  ·rw [if_pos h1]; simp; omega
  ·by_cases h2 : x > y
   ·rw [if_neg h1, if_pos h2]; simp; omega
   ·rw [if_neg h1, if_neg h2]
    have : x = y := by omega
    subst this
    simp [lexC_zero xs ys]
theorem lexC_trans : ∀ a b c : List Int, lexC a b ≤ 0 → lexC b c ≤ 0 → lexC a c ≤ 0
 | [], _, [] => by simp [lexC]
 | [], _, _ :: _ => by simp [lexC]
 | _ :: _, [], _ => by simp [lexC]
 | _ :: _, _ :: _, [] => by simp [lexC]
 | x :: xs, y :: ys, z :: zs => by
  intro h1 h2
  unfold lexC at h1 h2 ⊢
  have ih := lexC_trans xs ys zs
  by_cases a1 : x < y
  ·by_cases a2 : y < z
   ·rw [if_pos (by omega)]; omega
   ·rw [if_neg a2] at h2
    by_cases a3 : y > z
    ·rw [if_pos a3] at h2; omega
    ·rw [if_pos (by omega)]; omega
  ·rw [if_neg a1] at h1
   by_cases a3 : x > y
   ·rw [if_pos a3] at h1; omega
   ·rw [if_neg a3] at h1
    by_cases a2 : y < z
    ·rw [if_pos (by omega)]; omega
    ·rw [if_neg a2] at h2
     by_cases a4 : y > z
     ·rw [if_pos a4] at h2; omega
     ·rw [if_neg a4] at h2
      rw [if_neg (by omega), if_neg (by omega)]
      exact ih h1 h2
theorem compare_eq (x y : Int) : cmp_Compare_int.f x y = some (if x < y then -1 else if x > y then 1 else 0) := by
 unfold cmp_Compare_int.f cmp_isNaN_int.f
 simp
 by_cases h1 : x < y
 ·simp [h1]
 ·by_cases h2 : y < x
  ·simp [h1, h2]
  ·simp [h1, h2]
theorem less_l0 (a b : List Int) (hn : a.length ≤ 4611686018427387904) (d : Nat) : ∀ i : Nat, a.length - i = d → i ≤ a.length → (i ≤ b.length) →
  Ev (fun k => slices_Compare_int_int.l0 k a b a (a.length : Int) (i : Int)) (lexC (a.drop i) (b.drop i)) := by
 induction d with
 | zero =>
  intro i hd hi hib
  have e1 : a.drop i = [] := List.drop_eq_nil_of_le (by omega)
  rw [e1]
  by_cases hb : i < b.length
  ·rw [lexC_nil_left _ (by rw [drop_cons hb]; exact List.cons_ne_nil _ _)]
   exact Ev.step (fun k => by simp only [slices_Compare_int_int.l0]; rw [if_neg (by omega), if_pos (by omega)]) (Ev.now _)
  ·have e2 : b.drop i = [] := List.drop_eq_nil_of_le (by omega)
   rw [e2]
   exact Ev.step (fun k => by simp only [slices_Compare_int_int.l0]; rw [if_neg (by omega), if_neg (by omega)]; rfl) (Ev.now _)
 | succ d ih =>
  intro i hd hi hib
  have ha : i < a.length := by omega
  by_cases hb : i < b.length
  ·rw [drop_cons ha, drop_cons hb]
   have h1 : ∀ k, slices_Compare_int_int.l0 (k + 1) a b a (a.length : Int) (i : Int) = (if (if a[i] < b[i] then (-1 : Int) else if a[i] > b[i] then 1 else 0) = 0 then slices_Compare_int_int.l0 k a b a (a.length : Int) ((i + 1 : Nat) : Int) else some (if a[i] < b[i] then (-1 : Int) else if a[i] > b[i] then 1 else 0)) := fun k => by
    simp only [slices_Compare_int_int.l0]
    rw [if_pos (by omega), if_pos (by omega), if_pos (by omega), if_neg (by omega), if_pos (by omega), rd_get ha, rd_get hb, compare_eq, Option.bind_some, w64s ha hn]
   unfold lexC
   by_cases c1 : a[i] < b[i]
   ·rw [if_pos c1]
    exact Ev.step (fun k => by rw [h1, if_pos c1, if_neg (by omega)]) (Ev.now _)
   ·by_cases c2 : a[i] > b[i]
    ·rw [if_neg c1, if_pos c2]
     exact Ev.step (fun k => by rw [h1, if_neg c1, if_pos c2, if_neg (by omega)]) (Ev.now _)
    ·rw [if_neg c1, if_neg c2]
     exact Ev.step (fun k => by rw [h1, if_neg c1, if_neg c2, if_pos rfl]) (ih (i + 1) (by omega) (by omega) (by omega))
  ·have e2 : b.drop i = [] := List.drop_eq_nil_of_le (by omega)
   rw [e2, lexC_nil_right _ (by rw [drop_cons ha]; exact List.cons_ne_nil _ _)]
   exact Ev.step (fun k => by simp only [slices_Compare_int_int.l0]; rw [if_pos (by omega), if_pos (by omega), if_pos (by omega), if_pos (by omega)]) (Ev.now _)
theorem cell_less_ev (a b : List Int) (hn : a.length ≤ 4611686018427387904) : Ev (fun k => cell_Less.f k a b) (lexC a b) := by
 have h := less_l0 a b hn a.length 0 (by omega) (by omega) (by omega)
 simp only [List.drop_zero] at h
 have h2 : Ev (fun k => slices_Compare_int_int.f k a b) (lexC a b) := Ev.congr (fun k => by unfold slices_Compare_int_int.f; rfl) h
 exact Ev.congr (fun k => by unfold cell_Less.f; rfl) (Ev.bind h2 (Ev.now _))
theorem ref_less_l0 (a b : List Int) (hn : a.length ≤ 4611686018427387904) (d : Nat) : ∀ i : Nat, a.length - i = d → i ≤ a.length → i ≤ b.length →
  Ev (fun k => hypercuberef2_Less.l0 k a b (i : Int)) (lexC (a.drop i) (b.drop i)) := by
 have hend : ∀ i : Nat, i ≤ a.length → i ≤ b.length → ¬ (i < a.length ∧ i < b.length) → Ev (fun k => hypercuberef2_Less.j1 k a b (i : Int) false) (lexC (a.drop i) (b.drop i)) := by
  intro i hi hib hno
  by_cases ha : i < a.length
  ·have hb : b.drop i = [] := List.drop_eq_nil_of_le (by omega)
   rw [hb, lexC_nil_right _ (by rw [drop_cons ha]; exact List.cons_ne_nil _ _)]
   exact Ev.step (fun k => by simp only [hypercuberef2_Less.j1]; rw [if_neg (by simp), if_neg (by omega), if_pos (by omega)]) (Ev.now _)
  ·have ha' : a.drop i = [] := List.drop_eq_nil_of_le (by omega)
   rw [ha']
   by_cases hb : i < b.length
   ·rw [lexC_nil_left _ (by rw [drop_cons hb]; exact List.cons_ne_nil _ _)]
    exact Ev.step (fun k => by simp only [hypercuberef2_Less.j1]; rw [if_neg (by simp), if_pos (by omega)]) (Ev.now _)
   ·have hb' : b.drop i = [] := List.drop_eq_nil_of_le (by omega)
    rw [hb']
    exact Ev.step (fun k => by simp only [hypercuberef2_Less.j1]; rw [if_neg (by simp), if_neg (by omega), if_neg (by omega)]; rfl) (Ev.now _)
 induction d with
 | zero =>
  intro i hd hi hib
  exact Ev.step (fun k => by simp only [hypercuberef2_Less.l0]; rw [if_neg (by omega)]) (hend i hi hib (by omega))
 | succ d ih =>
  intro i hd hi hib
  have ha : i < a.length := by omega
  by_cases hb : i < b.length
  ·rw [drop_cons ha, drop_cons hb]
   refine Ev.step (f := fun k => hypercuberef2_Less.j1 k a b (i : Int) true) (fun k => by simp only [hypercuberef2_Less.l0]; rw [if_pos (by omega), show decide ((i : Int) < (b.length : Int)) = true from decide_eq_true (by omega)]) ?_
   have h1 : ∀ k, hypercuberef2_Less.j1 (k + 1) a b (i : Int) true = (if a[i] < b[i] then some (-1) else if a[i] > b[i] then some 1 else hypercuberef2_Less.l0 k a b ((i + 1 : Nat) : Int)) := fun k => by
    simp only [hypercuberef2_Less.j1]
    rw [if_pos trivial, if_pos (by omega), if_pos (by omega), if_pos (by omega), rd_get ha, rd_get hb, w64s ha hn]
   unfold lexC
   by_cases c1 : a[i] < b[i]
   ·rw [if_pos c1]
    exact Ev.step (fun k => by rw [h1, if_pos c1]) (Ev.now _)
   ·by_cases c2 : a[i] > b[i]
    ·rw [if_neg c1, if_pos c2]
     exact Ev.step (fun k => by rw [h1, if_neg c1, if_pos c2]) (Ev.now _)
    ·rw [if_neg c1, if_neg c2]
     exact Ev.step (fun k => by rw [h1, if_neg c1, if_neg c2]) (ih (i + 1) (by omega) (by omega) (by omega))
  ·exact Ev.step (fun k => by simp only [hypercuberef2_Less.l0]; rw [if_pos (by omega), show decide ((i : Int) < (b.length : Int)) = false from decide_eq_false (by omega)]) (hend i hi hib (by omega))
theorem ref_less_ev (a b : List Int) (hn : a.length ≤ 4611686018427387904) : Ev (fun k => hypercuberef2_Less.f k a b) (lexC a b) := by
 have h := ref_less_l0 a b hn a.length 0 (by omega) (by omega) (by omega)
 simp only [List.drop_zero] at h
 exact Ev.congr (fun k => by unfold hypercuberef2_Less.f; rfl) h
theorem rdC_get {l : List S30} {i : Nat} (h : i < l.length) : rd_T30 l (i : Int) = l[i] := by simp [rd_T30, List.getD_eq_getElem?_getD, h]
def joinC (a b : S30) : S30 := ⟨a.f0, wrap64 (a.f1 + b.f1), List.zipWith (fun x y => wrap64 (x + y)) a.f2 b.f2, List.zipWith mn a.f3 b.f3, List.zipWith mx a.f4 b.f4⟩
def SmallC (c : S30) : Prop := c.f0.length ≤ 100000 ∧ c.f2.length ≤ 100000 ∧ c.f3.length ≤ 100000 ∧ c.f4.length ≤ 100000
def tupC (c : S30) : List Int × Int × List Int × List Int × List Int := (c.f0, c.f1, c.f2, c.f3, c.f4)
def putL (x : S30) : List S30 → List S30
 | [] => [x]
 | y :: ys => if lexC y.f0 x.f0 < 0 then y :: putL x ys else if lexC y.f0 x.f0 = 0 then joinC y x :: ys else x :: y :: ys
def groupL (l : List S30) : List S30 := l.foldl (fun acc x => putL x acc) []
def SortedC (l : List S30) : Prop := l.Pairwise fun a b => lexC a.f0 b.f0 < 0
theorem lexC_lt_trans {a b c : List Int} (h1 : lexC a b < 0) (h2 : lexC b c < 0) : lexC a c < 0 := by
 have h := lexC_trans a b c (by omega) (by omega)
 by_cases e : lexC a c = 0
 ·rw [lexC_zero] at e
  subst e
  have := lexC_swap a b
  omega
 ·omega
theorem putL_keys (x : S30) : ∀ (l : List S30) (z : S30), z ∈ putL x l → z.f0 = x.f0 ∨ ∃ y ∈ l, z.f0 = y.f0
 | [], z, h => by simp [putL] at h; exact .inl (by rw [h])
 | y :: ys, z, h => by
  unfold putL at h
  split at h
  ·rcases List.mem_cons.1 h with h | h
   ·exact .inr ⟨y, by simp, by rw [h]⟩
   ·rcases putL_keys x ys z h with h | ⟨q, hq, he⟩
    ·exact .inl h
    ·exact .inr ⟨q, List.mem_cons_of_mem _ hq, he⟩
  ·split at h
   ·rcases List.mem_cons.1 h with h | h
    ·exact .inr ⟨y, by simp, by rw [h]; rfl⟩
    ·exact .inr ⟨z, List.mem_cons_of_mem _ h, rfl⟩
   ·rcases List.mem_cons.1 h with h | h
    ·exact .inl (by rw [h])
    ·exact .inr ⟨z, h, rfl⟩
theorem putL_sorted (x : S30) : ∀ (l : List S30), SortedC l → SortedC (putL x l)
 | [], _ => by simp [putL, SortedC]
 | y :: ys, h => by
  obtain ⟨h1, h2⟩ := List.pairwise_cons.1 h
  unfold putL
  split
  ·rename_i c1
   refine List.pairwise_cons.2 ⟨fun z hz => ?_, putL_sorted x ys h2⟩
   rcases putL_keys x ys z hz with e | ⟨q, hq, e⟩
   ·rw [e]; exact c1
   ·rw [e]; exact h1 q hq
  ·rename_i c1
   split
   ·exact List.pairwise_cons.2 ⟨h1, h2⟩
   ·rename_i c2
    have hlt : lexC x.f0 y.f0 < 0 := by rw [lexC_swap]; omega
    refine List.pairwise_cons.2 ⟨fun z hz => ?_, h⟩
    rcases List.mem_cons.1 hz with e | e
    ·rw [e]; exact hlt
    ·exact lexC_lt_trans hlt (h1 z e)
theorem putL_length (x : S30) : ∀ (l : List S30), (putL x l).length ≤ l.length + 1
 | [] => by simp [putL]
 | y :: ys => by
  unfold putL
  have := putL_length x ys
  split
  ·simp; omega
  ·split <;> simp
theorem putL_at (x : S30) : ∀ (p : Nat) (l : List S30), p ≤ l.length → (∀ m (h : m < l.length), m < p → lexC (l[m]).f0 x.f0 < 0) → (∀ (h : p < l.length), 0 ≤ lexC (l[p]).f0 x.f0) →
  putL x l = if h : p < l.length then (if lexC (l[p]).f0 x.f0 = 0 then l.set p (joinC l[p] x) else l.take p ++ x :: l.drop p) else l.take p ++ x :: l.drop p
 | 0, [], _, _, _ => by simp [putL]
 | 0, y :: ys, _, _, h2 => by
  have := h2 (by simp)
  simp only [List.getElem_cons_zero] at this
  unfold putL
  rw [if_neg (by omega)]
  simp only [List.length_cons, Nat.zero_lt_succ, dite_true, List.getElem_cons_zero, List.set_cons_zero, List.take_zero, List.drop_zero, List.nil_append]
 | p + 1, [], h, _, _ => by simp at h
 | p + 1, y :: ys, hp, h1, h2 => by
  have hy := h1 0 (by simp) (by omega)
  simp only [List.getElem_cons_zero] at hy
  have ih := putL_at x p ys (by simpa using hp) (fun m h hm => by have := h1 (m + 1) (by simpa using h) (by omega); simpa using this) (fun h => by have := h2 (by simpa using h); simpa using this)
  unfold putL
  rw [if_pos hy, ih]
  by_cases hlt : p < ys.length
  ·rw [dif_pos hlt, dif_pos (by simpa using hlt)]
   simp only [List.getElem_cons_succ, List.set_cons_succ, List.take_succ_cons, List.drop_succ_cons, List.cons_append]
   split <;> rfl
  ·rw [dif_neg hlt, dif_neg (by simpa using hlt)]
   simp
theorem foldl_put_length : ∀ (l acc : List S30), (l.foldl (fun acc x => putL x acc) acc).length ≤ acc.length + l.length
 | [], acc => by simp
 | c :: cs, acc => by
  have := foldl_put_length cs (putL c acc)
  have := putL_length c acc
  simp only [List.foldl_cons, List.length_cons]
  omega
theorem foldl_put_sorted : ∀ (l acc : List S30), SortedC acc → SortedC (l.foldl (fun acc x => putL x acc) acc)
 | [], acc, h => h
 | c :: cs, acc, h => foldl_put_sorted cs _ (putL_sorted c acc h)
theorem groupL_sorted (l : List S30) : SortedC (groupL l) := foldl_put_sorted l [] List.Pairwise.nil
def putAll (acc l : List S30) : List S30 := l.foldl (fun acc x => putL x acc) acc
theorem groupL_all (l : List S30) : groupL l = putAll [] l := rfl
theorem putAll_cons (acc : List S30) (x : S30) (l : List S30) : putAll acc (x :: l) = putAll (putL x acc) l := rfl
theorem putAll_length : ∀ (l acc : List S30), (putAll acc l).length ≤ acc.length + l.length := foldl_put_length
def cnt (l : List S30) : Int := (l.map fun c => c.f1).sum
def RegC (n : Nat) (c : S30) : Prop := c.f0.length ≤ 4 ∧ c.f2.length = n ∧ c.f3.length = n ∧ c.f4.length = n
def RegL (n : Nat) (l : List S30) : Prop := ∀ c ∈ l, RegC n c
theorem RegC.small {n : Nat} {c : S30} (h : RegC n c) (hn : n ≤ 100) : SmallC c := ⟨by have := h.1; omega, by rw [h.2.1]; omega, by rw [h.2.2.1]; omega, by rw [h.2.2.2]; omega⟩
theorem RegL.small {n : Nat} {l : List S30} (h : RegL n l) (hn : n ≤ 100) : ∀ y ∈ l, SmallC y := fun y hy => (h y hy).small hn
theorem regC_join {n : Nat} {a b : S30} (ha : RegC n a) (hb : RegC n b) : RegC n (joinC a b) := by
 refine ⟨ha.1, ?_, ?_, ?_⟩
 ·simp only [joinC, List.length_zipWith]; rw [ha.2.1, hb.2.1]; omega
 ·simp only [joinC, List.length_zipWith]; rw [ha.2.2.1, hb.2.2.1]; omega
 ·simp only [joinC, List.length_zipWith]; rw [ha.2.2.2, hb.2.2.2]; omega
theorem regL_put {n : Nat} {x : S30} (hx : RegC n x) : ∀ {l : List S30}, RegL n l → RegL n (putL x l)
 | [], _ => fun c hc => by simp [putL] at hc; rw [hc]; exact hx
 | y :: ys, h => by
  have hy := h y (by simp)
  have hys : RegL n ys := fun c hc => h c (List.mem_cons_of_mem _ hc)
  intro c hc
  unfold putL at hc
  split at hc
  ·rcases List.mem_cons.1 hc with e | e
   ·rw [e]; exact hy
   ·exact regL_put hx hys c e
  ·split at hc
   ·rcases List.mem_cons.1 hc with e | e
    ·rw [e]; exact regC_join hy hx
    ·exact hys c e
   ·rcases List.mem_cons.1 hc with e | e
    ·rw [e]; exact hx
    ·exact h c e
theorem regL_all {n : Nat} : ∀ {l acc : List S30}, RegL n l → RegL n acc → RegL n (putAll acc l)
 | [], _, _, h => h
 | x :: l, acc, hl, ha => regL_all (l := l) (fun c hc => hl c (List.mem_cons_of_mem _ hc)) (regL_put (hl x (by simp)) ha)
theorem regL_group {n : Nat} {l : List S30} (h : RegL n l) : RegL n (groupL l) := regL_all h (fun c hc => by simp at hc)
theorem regL_nil (n : Nat) : RegL n [] := fun c hc => by simp at hc
theorem ref_join_l0 (n : Nat) (hn : n ≤ 100) (a b : S30) (ha : RegC n a) (hb : RegC n b) (f0 : List Int) (f1 : Int) (d : Nat) : ∀ (i : Nat) (s m x : List Int), n - i = d → i ≤ n → s.length = i → m.length = i → x.length = i →
  Ev (fun k => hypercuberef2_Join.l0 k (i : Int) a.f0 a.f1 a.f2 a.f3 a.f4 b.f0 b.f1 b.f2 b.f3 b.f4 f0 f1 s m x)
   (f0, f1, s ++ List.zipWith (fun x y => wrap64 (x + y)) (a.f2.drop i) (b.f2.drop i), m ++ List.zipWith mn (a.f3.drop i) (b.f3.drop i), x ++ List.zipWith mx (a.f4.drop i) (b.f4.drop i)) := by
 obtain ⟨a0, a2, a3, a4⟩ := ha
 obtain ⟨b0, b2, b3, b4⟩ := hb
 induction d with
 | zero =>
  intro i s m x hd hi hs hm hx
  have e2 : a.f2.drop i = [] := List.drop_eq_nil_of_le (by omega)
  have e3 : a.f3.drop i = [] := List.drop_eq_nil_of_le (by omega)
  have e4 : a.f4.drop i = [] := List.drop_eq_nil_of_le (by omega)
  rw [e2, e3, e4, List.zipWith_nil_left, List.zipWith_nil_left, List.zipWith_nil_left, List.append_nil, List.append_nil, List.append_nil]
  exact Ev.step (f := fun _ => some (f0, f1, s, m, x)) (fun k => by simp only [hypercuberef2_Join.l0]; rw [if_neg (by omega)]) (Ev.now _)
 | succ d ih =>
  intro i s m x hd hi hs hm hx
  have ia2 : i < a.f2.length := by omega
  have ia3 : i < a.f3.length := by omega
  have ia4 : i < a.f4.length := by omega
  have ib2 : i < b.f2.length := by omega
  have ib3 : i < b.f3.length := by omega
  have ib4 : i < b.f4.length := by omega
  have h := ih (i + 1) (s ++ [wrap64 (a.f2[i] + b.f2[i])]) (m ++ [mn a.f3[i] b.f3[i]]) (x ++ [mx a.f4[i] b.f4[i]]) (by omega) (by omega) (by simp; omega) (by simp; omega) (by simp; omega)
  rw [List.append_assoc, List.append_assoc, List.append_assoc, List.singleton_append, List.singleton_append, List.singleton_append] at h
  rw [drop_cons ia2, drop_cons ia3, drop_cons ia4, drop_cons ib2, drop_cons ib3, drop_cons ib4, List.zipWith_cons_cons, List.zipWith_cons_cons, List.zipWith_cons_cons]
  exact Ev.step (fun k => by
   simp only [hypercuberef2_Join.l0]
   rw [if_pos (by omega), if_pos (by omega), if_pos (by omega), if_pos (by omega), if_pos (by omega), if_pos (by omega), if_pos (by omega), if_pos (by omega), if_pos (by omega), if_pos (by omega), rd_get ia2, rd_get ia3, rd_get ia4, rd_get ib2, rd_get ib3, rd_get ib4, w64s ia2 (by omega)]) h
theorem ref_join_ev {n : Nat} (hn : n ≤ 100) {a b : S30} (ha : RegC n a) (hb : RegC n b) : Ev (fun k => hypercuberef2_Join.f k a.f0 a.f1 a.f2 a.f3 a.f4 b.f0 b.f1 b.f2 b.f3 b.f4) (tupC (joinC a b)) := by
 have h := ref_join_l0 n hn a b ha hb a.f0 (wrap64 (a.f1 + b.f1)) n 0 [] [] [] (by omega) (by omega) rfl rfl rfl
 simp only [List.drop_zero, List.nil_append] at h
 refine Ev.congr (fun k => ?_) h
 unfold hypercuberef2_Join.f
 rw [Option.bind_some, if_pos (by have := ha.1; simp only [List.length_nil]; omega), List.nil_append]
 rfl
theorem ref_copy_eq {c : S30} (h : SmallC c) : hypercuberef2_Copy.f c.f0 c.f1 c.f2 c.f3 c.f4 = some (tupC c) := by
 obtain ⟨h0, h2, h3, h4⟩ := h
 unfold hypercuberef2_Copy.f
 rw [if_pos ⟨by omega, by omega, by omega, by omega⟩]
 rfl
theorem ref_put_end {n : Nat} (hn : n ≤ 100) {xs : List S30} {x : S30} (hl : xs.length ≤ 1000000) (hr : RegL n xs) (hx : RegC n x) (i : Nat) (hi : i ≤ xs.length) (h1 : ∀ m (h : m < xs.length), m < i → lexC (xs[m]).f0 x.f0 < 0) (h2 : ∀ (h : i < xs.length), 0 ≤ lexC (xs[i]).f0 x.f0) :
  Ev (fun k => hypercuberef2_Put.j1 k xs (i : Int) x.f0 x.f1 x.f2 x.f3 x.f4) (putL x xs) := by
 have hput := putL_at x i xs hi h1 h2
 have hcat : xs.take i ++ [x] ++ xs.drop i = xs.take i ++ x :: xs.drop i := by simp
 have hins : Ev (fun k => hypercuberef2_Put.j2 k xs (i : Int) false x.f0 x.f1 x.f2 x.f3 x.f4) (xs.take i ++ x :: xs.drop i) := by
  refine Ev.step (f := fun _ => some (xs.take i ++ x :: xs.drop i)) (fun k => ?_) (Ev.now _)
  simp only [hypercuberef2_Put.j2]
  rw [if_neg (by simp), Option.bind_some, if_pos (by omega), if_pos (by omega), Option.bind_some, if_pos (by simp; omega), Option.bind_some, ref_copy_eq (hx.small hn), Option.bind_some, if_pos (by simp; omega), Option.bind_some, Option.bind_some, if_pos (by simp; omega)]
  simp only [List.nil_append, Int.toNat_natCast, tupC, ← hcat]
 by_cases hlt : i < xs.length
 ·have hc := ref_less_ev (xs[i]).f0 x.f0 (by have := (hr _ (List.getElem_mem hlt)).1; omega)
  refine Ev.step (f := fun k => (hypercuberef2_Less.f k (xs[i]).f0 x.f0).bind fun t => hypercuberef2_Put.j2 k xs (i : Int) (t == 0) x.f0 x.f1 x.f2 x.f3 x.f4) (fun k => ?_) (Ev.bind hc ?_)
  ·simp only [hypercuberef2_Put.j1]
   rw [if_pos (by omega), if_pos (by omega), rdC_get hlt]
  ·rw [hput, dif_pos hlt]
   by_cases c : lexC (xs[i]).f0 x.f0 = 0
   ·rw [if_pos c, show (lexC (xs[i]).f0 x.f0 == 0) = true by simp [c]]
    have hj := ref_join_ev hn (hr _ (List.getElem_mem hlt)) hx
    refine Ev.step (f := fun k => (hypercuberef2_Join.f k (xs[i]).f0 (xs[i]).f1 (xs[i]).f2 (xs[i]).f3 (xs[i]).f4 x.f0 x.f1 x.f2 x.f3 x.f4).bind fun bt => some (xs.set i (⟨bt.1, bt.2.1, bt.2.2.1, bt.2.2.2.1, bt.2.2.2.2⟩ : S30))) (fun k => ?_) (Ev.bind hj (Ev.now _))
    simp only [hypercuberef2_Put.j2]
    rw [if_pos trivial, Option.bind_some, if_pos (by simp; omega), Option.bind_some, if_pos (by omega), if_pos (by omega), rdC_get hlt, List.nil_append]
    congr 1
    funext bt
    rw [if_pos (by omega), Int.toNat_natCast]
   ·rw [if_neg c, show (lexC (xs[i]).f0 x.f0 == 0) = false by simp [c]]
    exact hins
 ·rw [hput, dif_neg hlt]
  refine Ev.step (fun k => ?_) hins
  simp only [hypercuberef2_Put.j1]
  rw [if_neg (by omega)]
theorem ref_put_l0 {n : Nat} (hn : n ≤ 100) {xs : List S30} {x : S30} (hl : xs.length ≤ 1000000) (hr : RegL n xs) (hx : RegC n x) (d : Nat) : ∀ i : Nat, xs.length - i = d → i ≤ xs.length → (∀ m (h : m < xs.length), m < i → lexC (xs[m]).f0 x.f0 < 0) →
  Ev (fun k => hypercuberef2_Put.l0 k xs (i : Int) x.f0 x.f1 x.f2 x.f3 x.f4) (putL x xs) := by
 induction d with
 | zero =>
  intro i hd hi h1
  refine Ev.step (fun k => ?_) (ref_put_end hn hl hr hx i hi h1 (fun h => by omega))
  simp only [hypercuberef2_Put.l0]
  rw [if_neg (by omega)]
 | succ d ih =>
  intro i hd hi h1
  have hlt : i < xs.length := by omega
  have hc := ref_less_ev (xs[i]).f0 x.f0 (by have := (hr _ (List.getElem_mem hlt)).1; omega)
  refine Ev.step (f := fun k => (hypercuberef2_Less.f k (xs[i]).f0 x.f0).bind fun t => if t < 0 then hypercuberef2_Put.l0 k xs ((i + 1 : Nat) : Int) x.f0 x.f1 x.f2 x.f3 x.f4 else hypercuberef2_Put.j1 k xs (i : Int) x.f0 x.f1 x.f2 x.f3 x.f4) (fun k => ?_) (Ev.bind hc ?_)
  ·simp only [hypercuberef2_Put.l0]
   rw [if_pos (by omega), if_pos (by omega), rdC_get hlt, w64s hlt (by omega)]
  ·by_cases c : lexC (xs[i]).f0 x.f0 < 0
   ·refine Ev.congr (fun k => by rw [if_pos c]) (ih (i + 1) (by omega) (by omega) (fun m h hm => ?_))
    by_cases e : m = i
    ·subst e; exact c
    ·exact h1 m h (by omega)
   ·exact Ev.congr (fun k => by rw [if_neg c]) (ref_put_end hn hl hr hx i hi h1 (fun _ => by omega))
theorem ref_put_ev {n : Nat} (hn : n ≤ 100) {xs : List S30} {x : S30} (hl : xs.length ≤ 1000000) (hr : RegL n xs) (hx : RegC n x) : Ev (fun k => hypercuberef2_Put.f k xs x.f0 x.f1 x.f2 x.f3 x.f4) (putL x xs) :=
 Ev.congr (fun k => by unfold hypercuberef2_Put.f; rfl) (ref_put_l0 hn hl hr hx xs.length 0 (by omega) (by omega) (fun m h hm => by omega))
theorem equal_true {c : S30} (ha : SmallC c) : Ev (fun k => hypercuberef2_Equal.f k c.f0 c.f1 c.f2 c.f3 c.f4 c.f0 c.f1 c.f2 c.f3 c.f4) true := by
 obtain ⟨h0, h2, h3, h4⟩ := ha
 have e : ∀ l : List Int, l.length ≤ 100000 → Ev (fun k => hypercuberef1_Ints.f k l l) true := fun l hl => by
  have := ints_ev l l (by omega)
  rw [decide_eq_true rfl] at this
  exact this
 refine Ev.congr (fun k => by unfold hypercuberef2_Equal.f; rw [if_pos rfl]) ?_
 refine Ev.bind (e _ h0) (Ev.congr (fun k => by rw [if_pos rfl]) ?_)
 refine Ev.bind (e _ h2) (Ev.congr (fun k => by rw [if_pos rfl]) ?_)
 refine Ev.bind (e _ h3) (Ev.congr (fun k => by rw [if_pos rfl]) ?_)
 exact Ev.bind (e _ h4) (Ev.now _)
theorem same_l0 (l : List S30) (hl : l.length ≤ 1000000) (hs : ∀ c ∈ l, SmallC c) (d : Nat) : ∀ i : Nat, l.length - i = d → i ≤ l.length → Ev (fun k => hypercuberef2_Same.l0 k l l (i : Int)) true := by
 induction d with
 | zero =>
  intro i hd hi
  exact Ev.step (f := fun _ => some true) (fun k => by simp only [hypercuberef2_Same.l0]; rw [if_neg (by omega)]) (Ev.now _)
 | succ d ih =>
  intro i hd hi
  have hlt : i < l.length := by omega
  refine Ev.step (f := fun k => (hypercuberef2_Equal.f k (l[i]).f0 (l[i]).f1 (l[i]).f2 (l[i]).f3 (l[i]).f4 (l[i]).f0 (l[i]).f1 (l[i]).f2 (l[i]).f3 (l[i]).f4).bind fun t => if t = true then hypercuberef2_Same.l0 k l l ((i + 1 : Nat) : Int) else some false) (fun k => ?_) (Ev.bind (equal_true (hs _ (List.getElem_mem hlt))) ?_)
  ·simp only [hypercuberef2_Same.l0]
   rw [if_pos (by omega), if_pos (by omega), if_pos (by omega), rdC_get hlt, w64s hlt (by omega)]
  ·exact Ev.congr (fun k => by rw [if_pos rfl]) (ih (i + 1) (by omega) (by omega))
theorem same_true {l l' : List S30} (h : l = l') (hl : l.length ≤ 1000000) (hs : ∀ c ∈ l, SmallC c) : Ev (fun k => hypercuberef2_Same.f k l l') true := by
 subst h
 exact Ev.congr (fun k => by unfold hypercuberef2_Same.f; rw [if_pos rfl]; rfl) (same_l0 l hl hs l.length 0 (by omega) (by omega))
theorem within_eq (a n : Int) (h0 : 0 < n) (h1 : n ≤ 4611686018427387904) : hypercubelaw1_within.f a n = some (a % n) := by
 unfold hypercubelaw1_within.f
 rw [if_neg (by omega)]
 have hb := Int.emod_nonneg a (show n ≠ 0 by omega)
 have hl := Int.emod_lt_of_pos a h0
 by_cases ha : 0 ≤ a
 ·rw [Int.tmod_eq_emod_of_nonneg ha, if_neg (by omega)]
 ·have ht : Int.tmod a n = if a % n = 0 then 0 else a % n - n := by
   rw [Int.tmod_eq_emod]
   split
   ·rename_i h
    rcases h with h | h
    ·omega
    ·rw [Int.emod_eq_zero_of_dvd h]; simp
   ·rename_i h
    have : a % n ≠ 0 := fun e => h (.inr (Int.dvd_of_emod_eq_zero e))
    rw [if_neg this, Int.natAbs_of_nonneg (by omega)]
  by_cases hz : a % n = 0
  ·rw [ht, if_pos hz, if_neg (by omega), hz]
  ·rw [ht, if_neg hz, if_pos (by omega)]
   congr 1
   rw [w64 (by omega) (by omega)]
   omega
def checkP (cards : List Int) (meas : Int) : Bool := decide (1 ≤ cards.length) && decide (cards.length ≤ 4) && (cards.all fun x => decide (1 ≤ x) && decide (x ≤ 16)) && decide (0 ≤ meas) && decide (meas ≤ 2)
def rightP (cards : List Int) (meas : Int) (x : S45) : Bool := decide (x.f0.length = cards.length) && decide ((x.f1.length : Int) = meas) && (List.range x.f0.length).all fun i => decide (0 ≤ rd x.f0 i) && decide (rd x.f0 i < rd cards i)
theorem check_open {cards : List Int} {meas : Int} (h : checkP cards meas = true) : 1 ≤ cards.length ∧ cards.length ≤ 4 ∧ (∀ x ∈ cards, 1 ≤ x ∧ x ≤ 16) ∧ 0 ≤ meas ∧ meas ≤ 2 := by
 unfold checkP at h
 simp only [Bool.and_eq_true, decide_eq_true_eq, List.all_eq_true] at h
 exact ⟨h.1.1.1.1, h.1.1.1.2, fun x hx => h.1.1.2 x hx, h.1.2, h.2⟩
theorem check_mk {cards : List Int} {meas : Int} (h1 : 1 ≤ cards.length) (h2 : cards.length ≤ 4) (h3 : ∀ x ∈ cards, 1 ≤ x ∧ x ≤ 16) (h4 : 0 ≤ meas) (h5 : meas ≤ 2) : checkP cards meas = true := by
 unfold checkP
 simp only [Bool.and_eq_true, decide_eq_true_eq, List.all_eq_true]
 exact ⟨⟨⟨⟨h1, h2⟩, h3⟩, h4⟩, h5⟩
theorem right_open {cards : List Int} {meas : Int} {x : S45} (h : rightP cards meas x = true) : x.f0.length = cards.length ∧ (x.f1.length : Int) = meas ∧ ∀ i : Nat, i < x.f0.length → 0 ≤ rd x.f0 i ∧ rd x.f0 i < rd cards i := by
 unfold rightP at h
 simp only [Bool.and_eq_true, decide_eq_true_eq, List.all_eq_true, List.mem_range] at h
 exact ⟨h.1.1, h.1.2, fun i hi => h.2 i hi⟩
theorem right_mk {cards : List Int} {meas : Int} {x : S45} (h1 : x.f0.length = cards.length) (h2 : (x.f1.length : Int) = meas) (h3 : ∀ i : Nat, i < x.f0.length → 0 ≤ rd x.f0 i ∧ rd x.f0 i < rd cards i) : rightP cards meas x = true := by
 unfold rightP
 simp only [Bool.and_eq_true, decide_eq_true_eq, List.all_eq_true, List.mem_range]
 exact ⟨⟨h1, h2⟩, fun i hi => h3 i hi⟩
abbrev FR := List Int × Int × List S45
def RowOk (cards : List Int) (meas : Int) (x : S45) : Prop := rightP cards meas x = true ∧ ∀ y ∈ x.f1, -100 ≤ y ∧ y ≤ 100
theorem facts_l3 (x3 : List Int) (rows : List S45) (i : Nat) (hi : i < 1000) (kk : Int) (cards : List Int) (meas : Int) (hm0 : 0 ≤ meas) (hm : meas ≤ 2) (hrl : rows.length ≤ 1000) (key : List Int) {Q : FR → Prop}
  (H : ∀ ms : List Int, (ms.length : Int) = meas → (∀ y ∈ ms, -100 ≤ y ∧ y ≤ 100) → ∃ p, Ev (fun k => hypercubelaw1_Facts.l1 k x3 (rows ++ [⟨key, ms⟩]) ((i + 1 : Nat) : Int) cards meas) p ∧ Q p) (d : Nat) :
  ∀ (j : Nat) (ms : List Int), (meas.toNat - j) = d → (j : Int) ≤ meas → ms.length = j → (∀ y ∈ ms, -100 ≤ y ∧ y ≤ 100) → ∃ p, Ev (fun k => hypercubelaw1_Facts.l3 k x3 rows (i : Int) kk (j : Int) cards meas key ms) p ∧ Q p := by
 induction d with
 | zero =>
  intro j ms hd hj hl hb
  obtain ⟨p, h1, h2⟩ := H ms (by omega) hb
  exact ⟨p, Ev.step (fun k => by simp only [hypercubelaw1_Facts.l3]; rw [if_neg (by omega), if_pos (by omega), w64s hi (by omega)]) h1, h2⟩
 | succ d ih =>
  intro j ms hd hj hl hb
  have hw := within_eq (wrap64 (kk + (wrap64 (7 * (j : Int))))) 201 (by omega) (by omega)
  have b0 := Int.emod_nonneg (wrap64 (kk + (wrap64 (7 * (j : Int))))) (show (201 : Int) ≠ 0 by omega)
  have b1 := Int.emod_lt_of_pos (wrap64 (kk + (wrap64 (7 * (j : Int))))) (show (0 : Int) < 201 by omega)
  generalize (wrap64 (kk + (wrap64 (7 * (j : Int))))) % 201 = q at hw b0 b1
  obtain ⟨p, h1, h2⟩ := ih (j + 1) (ms ++ [wrap64 (q - 100)]) (by omega) (by omega) (by simp; omega) (fun y hy => by
   rcases List.mem_append.1 hy with hy | hy
   ·exact hb y hy
   ·rw [List.mem_singleton.1 hy, w64 (by omega) (by omega)]; omega)
  refine ⟨p, Ev.step (fun k => by simp only [hypercubelaw1_Facts.l3]; rw [if_pos (by omega), hw]; simp only [Option.bind_some]; rw [if_pos (by omega), w64s (show j < 1000 by omega) (by omega)]) h1, h2⟩
theorem facts_l2 (x3 : List Int) (rows : List S45) (i : Nat) (hi : i < 1000) (cards : List Int) (meas : Int) (hc : checkP cards meas = true) (hrl : rows.length ≤ 1000) {Q : FR → Prop}
  (H : ∀ x, RowOk cards meas x → ∃ p, Ev (fun k => hypercubelaw1_Facts.l1 k x3 (rows ++ [x]) ((i + 1 : Nat) : Int) cards meas) p ∧ Q p) (d : Nat) :
  ∀ (j : Nat) (kk : Int) (key : List Int), cards.length - j = d → j ≤ cards.length → key.length = j → (∀ a : Nat, a < key.length → 0 ≤ rd key a ∧ rd key a < rd cards a) →
   ∃ p, Ev (fun k => hypercubelaw1_Facts.l2 k x3 rows (i : Int) kk (j : Int) cards meas key) p ∧ Q p := by
 obtain ⟨h1, h2, h3, h4, h5⟩ := check_open hc
 induction d with
 | zero =>
  intro j kk key hd hj hl hb
  have := facts_l3 x3 rows i hi kk cards meas h4 h5 hrl key (fun ms hml hmb => H ⟨key, ms⟩ ⟨right_mk (by show key.length = _; omega) hml hb, hmb⟩) meas.toNat 0 [] (by omega) (by omega) rfl (by simp)
  obtain ⟨p, e1, e2⟩ := this
  exact ⟨p, Ev.step (fun k => by simp only [hypercubelaw1_Facts.l2]; rw [if_neg (by omega)]; rfl) e1, e2⟩
 | succ d ih =>
  intro j kk key hd hj hl hb
  have hja : j < cards.length := by omega
  have hcd := h3 cards[j] (List.getElem_mem hja)
  have hw := within_eq kk cards[j] (by omega) (by omega)
  have b0 := Int.emod_nonneg kk (show cards[j] ≠ 0 by omega)
  have b1 := Int.emod_lt_of_pos kk (show (0 : Int) < cards[j] by omega)
  generalize kk % cards[j] = q at hw b0 b1
  obtain ⟨p, e1, e2⟩ := ih (j + 1) (wrap64 (Int.tdiv kk 5)) (key ++ [q]) (by omega) (by omega) (by simp; omega) (fun a ha => by
   by_cases hak : a < key.length
   ·have hb1 := hb a hak
    have : rd (key ++ [q]) (a : Int) = rd key (a : Int) := by rw [rd_get ha, rd_get hak, List.getElem_append_left hak]
    rw [this]; exact hb1
   ·have hae : a = key.length := by simp at ha; omega
    subst hae
    have : rd (key ++ [q]) (key.length : Int) = q := by rw [rd_get ha]; simp
    rw [this, hl, rd_get hja]; exact ⟨b0, b1⟩)
  refine ⟨p, Ev.step (fun k => by simp only [hypercubelaw1_Facts.l2]; rw [if_pos (by omega), if_pos (by omega), rd_get hja, hw]; simp only [Option.bind_some]; rw [if_pos (by omega), w64s hja (by omega)]) e1, e2⟩
theorem facts_l1 (x3 : List Int) (cards : List Int) (meas : Int) (hc : checkP cards meas = true) (d : Nat) : ∀ (i : Nat) (rows : List S45), (min x3.length 40) - i = d → i ≤ min x3.length 40 → rows.length = i → (∀ x ∈ rows, RowOk cards meas x) →
  ∃ p, Ev (fun k => hypercubelaw1_Facts.l1 k x3 rows (i : Int) cards meas) p ∧ (p.1 = cards ∧ p.2.1 = meas ∧ p.2.2.length = min x3.length 40 ∧ ∀ x ∈ p.2.2, RowOk cards meas x) := by
 induction d with
 | zero =>
  intro i rows hd hi hl hr
  have fin : Ev (fun k => hypercubelaw1_Facts.j3 k x3 rows (i : Int) false cards meas) (cards, meas, rows) := Ev.step (fun k => by simp only [hypercubelaw1_Facts.j3]; rw [if_neg (by simp)]) (Ev.now _)
  refine ⟨(cards, meas, rows), ?_, rfl, rfl, by show rows.length = _; omega, hr⟩
  by_cases h : (i : Int) < x3.length
  ·have : decide ((i : Int) < 40) = false := decide_eq_false (by omega)
   exact Ev.step (fun k => by simp only [hypercubelaw1_Facts.l1]; rw [if_pos h, this]) fin
  ·exact Ev.step (fun k => by simp only [hypercubelaw1_Facts.l1]; rw [if_neg h]) fin
 | succ d ih =>
  intro i rows hd hi hl hr
  have hia : i < x3.length := by omega
  have hdec : decide ((i : Int) < 40) = true := decide_eq_true (by omega)
  obtain ⟨p, e1, e2⟩ := facts_l2 x3 rows i (by omega) cards meas hc (by omega) (fun x hx => ih (i + 1) (rows ++ [x]) (by omega) (by omega) (by simp; omega) (fun y hy => by
   rcases List.mem_append.1 hy with hy | hy
   ·exact hr y hy
   ·rw [List.mem_singleton.1 hy]; exact hx)) cards.length 0 (rd x3 i) [] (by omega) (by omega) rfl (fun a ha => by simp at ha)
  refine ⟨p, ?_, e2⟩
  refine Ev.step (fun k => by simp only [hypercubelaw1_Facts.l1]; rw [if_pos (by omega), hdec]) ?_
  exact Ev.step (fun k => by simp only [hypercubelaw1_Facts.j3]; rw [if_pos trivial, if_pos (by omega), if_pos (by omega)]; rfl) e1
theorem facts_l0 (x0 : Int) (x1 x3 : List Int) (meas : Int) (hm0 : 0 ≤ meas) (hm : meas ≤ 2) (d : Nat) : ∀ (i : Nat) (cards : List Int), (x0 % 4 + 1).toNat - i = d → (i : Int) ≤ x0 % 4 + 1 → cards.length = i → (∀ x ∈ cards, 1 ≤ x ∧ x ≤ 5) →
  ∃ p, Ev (fun k => hypercubelaw1_Facts.l0 k x0 x1 x3 (i : Int) cards meas) p ∧ (checkP p.1 p.2.1 = true ∧ p.2.1 = meas ∧ (p.1.length : Int) = x0 % 4 + 1 ∧ p.2.2.length = min x3.length 40 ∧ ∀ x ∈ p.2.2, RowOk p.1 p.2.1 x) := by
 have b0 := Int.emod_nonneg x0 (show (4 : Int) ≠ 0 by omega)
 have b1 := Int.emod_lt_of_pos x0 (show (0 : Int) < 4 by omega)
 have hw4 := within_eq x0 4 (by omega) (by omega)
 have hw7 := within_eq x0 7 (by omega) (by omega)
 induction d with
 | zero =>
  intro i cards hd hi hl hc
  have go : ∀ cs : List Int, cs.length = cards.length → (∀ x ∈ cs, 1 ≤ x ∧ x ≤ 16) → ∃ p, Ev (fun k => hypercubelaw1_Facts.j1 k x3 cs meas) p ∧ (checkP p.1 p.2.1 = true ∧ p.2.1 = meas ∧ (p.1.length : Int) = x0 % 4 + 1 ∧ p.2.2.length = min x3.length 40 ∧ ∀ x ∈ p.2.2, RowOk p.1 p.2.1 x) := by
   intro cs h1 h2
   have hck : checkP cs meas = true := check_mk (by omega) (by omega) h2 hm0 hm
   obtain ⟨p, e1, e2, e3, e4, e5⟩ := facts_l1 x3 cs meas hck (min x3.length 40) 0 [] (by omega) (by omega) rfl (by simp)
   refine ⟨p, Ev.step (fun k => by simp only [hypercubelaw1_Facts.j1]; rfl) e1, ?_, e3, ?_, e4, ?_⟩
   ·rw [e2, e3]; exact hck
   ·rw [e2]; omega
   ·rw [e2, e3]; exact e5
  by_cases h7 : x0 % 7 = 0
  ·obtain ⟨p, e1, e2⟩ := go (cards.set (0 : Int).toNat 16) (by simp) (fun x hx => by
    rcases List.mem_or_eq_of_mem_set hx with hx | rfl
    ·have := hc x hx; omega
    ·omega)
   refine ⟨p, ?_, e2⟩
   exact Ev.step (fun k => by simp only [hypercubelaw1_Facts.l0]; rw [hw4]; simp only [Option.bind_some]; rw [if_neg (by omega), hw7]; simp only [Option.bind_some]; rw [if_pos h7, if_pos (by omega)]) e1
  ·obtain ⟨p, e1, e2⟩ := go cards rfl (fun x hx => by have := hc x hx; omega)
   refine ⟨p, ?_, e2⟩
   exact Ev.step (fun k => by simp only [hypercubelaw1_Facts.l0]; rw [hw4]; simp only [Option.bind_some]; rw [if_neg (by omega), hw7]; simp only [Option.bind_some]; rw [if_neg h7]) e1
 | succ d ih =>
  intro i cards hd hi hl hc
  have next : ∀ q : Int, 0 ≤ q → q < 5 → ∃ p, Ev (fun k => hypercubelaw1_Facts.l0 k x0 x1 x3 ((i + 1 : Nat) : Int) (cards ++ [wrap64 (1 + q)]) meas) p ∧ (checkP p.1 p.2.1 = true ∧ p.2.1 = meas ∧ (p.1.length : Int) = x0 % 4 + 1 ∧ p.2.2.length = min x3.length 40 ∧ ∀ x ∈ p.2.2, RowOk p.1 p.2.1 x) := by
   intro q q0 q1
   refine ih (i + 1) (cards ++ [wrap64 (1 + q)]) (by omega) (by omega) (by simp; omega) (fun x hx => ?_)
   rcases List.mem_append.1 hx with hx | hx
   ·exact hc x hx
   ·rw [List.mem_singleton.1 hx, w64 (by omega) (by omega)]; omega
  by_cases h1 : (i : Int) < x1.length
  ·have hw := within_eq (rd x1 (i : Int)) 5 (by omega) (by omega)
   obtain ⟨p, e1, e2⟩ := next (rd x1 (i : Int) % 5) (by omega) (by omega)
   refine ⟨p, ?_, e2⟩
   exact Ev.step (fun k => by simp only [hypercubelaw1_Facts.l0]; rw [hw4]; simp only [Option.bind_some]; rw [if_pos (by omega), if_pos h1, if_pos (by omega), hw]; simp only [Option.bind_some]; rw [if_pos (by omega), w64s (show i < 1000 by omega) (by omega)]) e1
  ·have hw := within_eq (wrap64 ((i : Int) + 2)) 5 (by omega) (by omega)
   obtain ⟨p, e1, e2⟩ := next (wrap64 ((i : Int) + 2) % 5) (by omega) (by omega)
   refine ⟨p, ?_, e2⟩
   exact Ev.step (fun k => by simp only [hypercubelaw1_Facts.l0]; rw [hw4]; simp only [Option.bind_some]; rw [if_pos (by omega), if_neg h1, hw]; simp only [Option.bind_some]; rw [if_pos (by omega), w64s (show i < 1000 by omega) (by omega)]) e1
theorem facts_ev (a0 : Int) (l1 : List Int) (a2 : Int) (l3 : List Int) : ∃ cards meas rows, Ev (fun k => hypercubelaw1_Facts.f k a0 l1 a2 l3) (cards, meas, rows) ∧ checkP cards meas = true ∧ meas = a2 % 3 ∧ (cards.length : Int) = a0 % 4 + 1 ∧ rows.length = min l3.length 40 ∧ ∀ x ∈ rows, RowOk cards meas x := by
 have hw := within_eq a2 3 (by omega) (by omega)
 obtain ⟨⟨cards, meas, rows⟩, e1, e2, e3, e4, e5, e6⟩ := facts_l0 a0 l1 l3 (a2 % 3) (by omega) (by omega) (a0 % 4 + 1).toNat 0 [] (by omega) (by omega) rfl (by simp)
 refine ⟨cards, meas, rows, ?_, e2, e3, e4, e5, e6⟩
 exact Ev.congr (fun k => by unfold hypercubelaw1_Facts.f; rw [hw]; rfl) e1
theorem set_eq {cards : List Int} {meas : Int} (hc : checkP cards meas = true) (a : Int) : ∃ s, hypercubelaw2_Set.f cards meas a = some s ∧ 0 ≤ s ∧ s < 16 := by
 obtain ⟨h1, h2, _⟩ := check_open hc
 have go : ∀ n : Int, 0 < n → n ≤ 16 → ∃ s, ((hypercubelaw2_within.f a n).bind fun t => some t) = some s ∧ 0 ≤ s ∧ s < 16 := fun n h0 h16 => by
  rw [within2_eq a n h0 (by omega)]
  have := Int.emod_nonneg a (show n ≠ 0 by omega)
  have := Int.emod_lt_of_pos a h0
  exact ⟨a % n, rfl, by omega, by omega⟩
 unfold hypercubelaw2_Set.f
 have hl : cards.length = 1 ∨ cards.length = 2 ∨ cards.length = 3 ∨ cards.length = 4 := by omega
 rcases hl with h | h | h | h
 ·rw [h, if_pos (by decide), show shl .i64 1 (IntKind.u64.wrap ((1 : Nat) : Int)) = 2 by decide]; exact go 2 (by omega) (by omega)
 ·rw [h, if_pos (by decide), show shl .i64 1 (IntKind.u64.wrap ((2 : Nat) : Int)) = 4 by decide]; exact go 4 (by omega) (by omega)
 ·rw [h, if_pos (by decide), show shl .i64 1 (IntKind.u64.wrap ((3 : Nat) : Int)) = 8 by decide]; exact go 8 (by omega) (by omega)
 ·rw [h, if_pos (by decide), show shl .i64 1 (IntKind.u64.wrap ((4 : Nat) : Int)) = 16 by decide]; exact go 16 (by omega) (by omega)
def bitR (s : Int) (i : Nat) : Bool := decide (Go.bits .and .i64 (shr .i64 s (IntKind.u64.wrap (i : Int))) 1 = 1)
def keysR (s : Int) : Nat → List Int → List Int
 | _, [] => []
 | i, x :: xs => if bitR s i = true then x :: keysR s (i + 1) xs else keysR s (i + 1) xs
theorem keysR_length (s : Int) : ∀ (i : Nat) (l : List Int), (keysR s i l).length ≤ l.length
 | _, [] => by simp [keysR]
 | i, x :: xs => by
  have := keysR_length s (i + 1) xs
  unfold keysR
  split <;> simp <;> omega
def ofR (s : Int) (r : S45) : S30 := ⟨keysR s 0 r.f0, 1, r.f1, r.f1, r.f1⟩
def RegR (n : Nat) (r : S45) : Prop := r.f0.length ≤ 4 ∧ r.f1.length = n
theorem u64_nat (i : Nat) (h : i ≤ 1000) : 0 ≤ IntKind.u64.wrap (i : Int) := by
 have e : IntKind.u64.wrap (i : Int) = (i : Int) % 18446744073709551616 := rfl
 rw [e]; omega
theorem of_l0 (s : Int) (f0 f1 : List Int) (h0 : f0.length ≤ 4) (h1 : f1.length ≤ 100) (d : Nat) : ∀ (i : Nat) (acc : List Int), f0.length - i = d → i ≤ f0.length → acc.length ≤ i →
  Ev (fun k => hypercuberef2_Of.l0 k s (i : Int) f0 f1 acc 1) (acc ++ keysR s i (f0.drop i), 1, f1, f1, f1) := by
 induction d with
 | zero =>
  intro i acc hd hi ha
  have e : f0.drop i = [] := List.drop_eq_nil_of_le (by omega)
  rw [e]
  refine Ev.step (f := fun _ => some (acc, 1, f1, f1, f1)) (fun k => ?_) (by simp only [keysR, List.append_nil]; exact Ev.now _)
  simp only [hypercuberef2_Of.l0]
  rw [if_neg (by omega), Option.bind_some, if_pos (by simp; omega), Option.bind_some, if_pos (by simp; omega), Option.bind_some, if_pos (by simp; omega)]
  rfl
 | succ d ih =>
  intro i acc hd hi ha
  have hlt : i < f0.length := by omega
  rw [drop_cons hlt]
  unfold keysR
  by_cases hb : bitR s i = true
  ·have hb' : Go.bits .and .i64 (shr .i64 s (IntKind.u64.wrap (i : Int))) 1 = 1 := by unfold bitR at hb; simpa using hb
   have h := ih (i + 1) (acc ++ [f0[i]]) (by omega) (by omega) (by simp; omega)
   rw [List.append_assoc, List.singleton_append] at h
   rw [if_pos hb]
   exact Ev.step (fun k => by simp only [hypercuberef2_Of.l0]; rw [if_pos (by omega), if_pos (u64_nat i (by omega)), if_pos hb', if_pos (by omega), if_pos (by omega), rd_get hlt, w64s hlt (by omega)]) h
  ·have hb' : ¬ Go.bits .and .i64 (shr .i64 s (IntKind.u64.wrap (i : Int))) 1 = 1 := by unfold bitR at hb; simpa using hb
   have h := ih (i + 1) acc (by omega) (by omega) (by omega)
   rw [if_neg hb]
   exact Ev.step (fun k => by simp only [hypercuberef2_Of.l0]; rw [if_pos (by omega), if_pos (u64_nat i (by omega)), if_neg hb', w64s hlt (by omega)]) h
theorem of_ev {n : Nat} (hn : n ≤ 100) {r : S45} (hr : RegR n r) (s : Int) : Ev (fun k => hypercuberef2_Of.f k r.f0 r.f1 s) (tupC (ofR s r)) := by
 have h := of_l0 s r.f0 r.f1 hr.1 (by rw [hr.2]; exact hn) r.f0.length 0 [] (by omega) (by omega) (by simp)
 simp only [List.drop_zero, List.nil_append] at h
 exact Ev.congr (fun k => by unfold hypercuberef2_Of.f; rfl) h
theorem ofR_reg {n : Nat} {r : S45} (hr : RegR n r) (s : Int) : RegC n (ofR s r) := ⟨Nat.le_trans (keysR_length _ _ _) hr.1, hr.2, hr.2, hr.2⟩
def makeL (s : Int) (rows : List S45) : List S30 := rows.map (ofR s)
theorem makeL_reg {n : Nat} {rows : List S45} (hr : ∀ r ∈ rows, RegR n r) (s : Int) : RegL n (makeL s rows) := fun c hc => by
 obtain ⟨r, h, rfl⟩ := List.mem_map.1 hc
 exact ofR_reg (hr r h) s
theorem makeL_length (s : Int) (rows : List S45) : (makeL s rows).length = rows.length := by simp [makeL]
theorem rdR_get {l : List S45} {i : Nat} (h : i < l.length) : rd_T45 l (i : Int) = l[i] := by simp [rd_T45, List.getD_eq_getElem?_getD, h]
theorem facts_set (a0 : Int) (l1 : List Int) (a2 : Int) (l3 : List Int) (a4 : Int) : ∃ cards meas rows s n, Ev (fun k => hypercubelaw1_Facts.f k a0 l1 a2 l3) (cards, meas, rows) ∧ hypercubelaw2_Set.f cards meas a4 = some s ∧ checkP cards meas = true ∧ n ≤ 100 ∧ rows.length ≤ 40 ∧ (∀ r ∈ rows, RegR n r) ∧ (0 ≤ s ∧ s < 16) ∧ (∀ r ∈ rows, RowOk cards meas r) := by
 obtain ⟨cards, meas, rows, h1, h2, h3, h4, h5, h6⟩ := facts_ev a0 l1 a2 l3
 obtain ⟨s, hs, hs0⟩ := set_eq h2 a4
 obtain ⟨c1, c2, c3, c4, c5⟩ := check_open h2
 refine ⟨cards, meas, rows, s, meas.toNat, h1, hs, h2, by omega, by omega, fun r hr => ?_, hs0, h6⟩
 obtain ⟨r1, r2, _⟩ := right_open (h6 r hr).1
 exact ⟨by omega, by omega⟩
end Go.Proofs.Ytmkjkkmilopcpaa.Q
