-- packed by wip/tools/pack.py (a program of this session) out of its own texts
import Derived.Test.YtmkjkkmilopcpaaPCellAll0
import Derived.ArgAppend
import Derived.Below
import Derived.BigQuiet
import Derived.Deep.AppendLies
import Derived.Deep.CutBlock
import Derived.Deep.DeepCutAuto
import Derived.Deep.Draws
import Derived.Deep.LoopGhost
import Derived.Deep.OwnRows
import Derived.Deep.QuietTactic
import Derived.Deep.RegionHeld3
import Derived.KernelRfl
import Derived.Laws.BitsLemmas
import Derived.Laws.BytesArg
import Derived.Laws.EntriesVeiled
import Derived.Laws.Externs
import Derived.Laws.IdiomCopy
import Derived.Laws.MakeOwn
import Derived.Laws.OwnMore
import Derived.Laws.Rows
import Derived.Laws.Slices
import Derived.Lib.AppendStr
import Derived.Lib.AppendZeros
import Derived.Lib.AppendZerosOnto
import Derived.Lib.ConvBytes
import Derived.Lib.JoinLaws
import Derived.Lib.Overlaps
import Derived.Lib.SliceRun
import Derived.Lib.Walk
import Derived.LoopIn
import Derived.LoopNIn
import Derived.Maps.AppendAt
import Derived.OrdersHeld
import Derived.OrdersIn
import Derived.OwnWalk
import Derived.OwnWalkIn
import Derived.RangeFuncBound
import Derived.RangeFuncBox
import Derived.RangeFuncCalls
import Derived.RangeFuncLeaves
import Derived.RangeFuncNested
import Derived.RangeFuncOwn
import Derived.RowKit
import Derived.RowKit3
import Derived.Shelf.Abstract
import Derived.Shelf.RegionOpen
import Derived.Shelf.RegionOpenPlain
import Derived.Tactics
import Derived.TacticsInMore
import Derived.Test.YtmkjkkmilopcpaaProg
import Derived.WalkKit
import Derived.WalkSpells
import Derived.WideLaws
import Derived.Test.YtmkjkkmilopcpaaPCellAll1
import Derived.Test.YtmkjkkmilopcpaaPCellAll3
import Derived.Test.YtmkjkkmilopcpaaPCellAll4
import Derived.Test.YtmkjkkmilopcpaaPCellAll5
import Derived.Test.YtmkjkkmilopcpaaPCellAll6
import Derived.Test.YtmkjkkmilopcpaaPCellAll7
import Derived.Test.YtmkjkkmilopcpaaPCellAll8
import Derived.Test.YtmkjkkmilopcpaaPCellAll9
import Derived.Test.YtmkjkkmilopcpaaPCellAll10
import Derived.Test.YtmkjkkmilopcpaaPCellAll11
import Derived.Test.YtmkjkkmilopcpaaPCellAll12
namespace Go.Proofs.Ytmkjkkmilopcpaa.Q
open Go.RowKit Go.Proofs.YtmkjkkmilopcpaaW.PrintWords Go.Proofs.YtmkjkkmilopcpaaW.PrintLast Go.Proofs.YtmkjkkmilopcpaaW.PrintMore
set_option linter.unusedVariables false
set_option linter.unusedSimpArgs false
theorem known_of : cell_Of.f [4, 5] [3] 2 = some ([5], 1, [3], [3], [3]) := by decide
theorem known_group : cell_Group.f 9 [⟨[5], 1, [3], [3], [3]⟩, ⟨[5], 1, [3], [3], [3]⟩] = some [⟨[5], 2, [6], [3], [3]⟩] := by kernel_rfl
theorem known_less : cell_Less.f 3 [] [] = some 0 := by kernel_rfl
theorem C_of_blk {w : World} {g : Nat} {xs : List Int} (h : w.heap[g]? = some (.cells (encs (Value.int .i64) xs).toArray 3 (0, 0))) (hl : xs.length ≤ maxLen) : Kd.C (Kd.int .i64) w (some ⟨g, 0, none⟩) xs.length xs := by
 have hR : Kd.R (Kd.int .i64) 3 w 0 (fun _ => True) (.slice (some ⟨g, 0, none⟩) xs.length xs.length) xs := by
  refine Kd.R_of_own (h1 := fun _ => rfl) ⟨by rw [encs_length, Nat.mul_one], .inr ⟨g, xs.length, _, rfl, Nat.zero_le _, h, Nat.le_refl _, hl, ?_, ?_⟩⟩ (fun _ _ => trivial)
  ·rw [List.size_toArray, encs_length, Nat.mul_one]
  ·rw [Nat.mul_one, ← encs_length (enc := Value.int .i64) xs]
   exact List.take_length
 exact (Kd.R_reads' hR).2.2
theorem C_two {w : World} {g : Nat} {x : S30} {cs : List Value} (h : w.heap[g]? = some (.cells (cs ++ cs).toArray 30 (0, 0))) (hx : k30.K w x cs) : Kd.C k30 w (some ⟨g, 0, none⟩) [x, x].length [x, x] := by
 have hl : cs.length = 5 := k30.K_len hx
 refine ⟨rfl, by simp, fun _ => ⟨_, rfl, fun j p hj => ⟨cs, hl, ?_, fun i u hu => ?_⟩⟩⟩
 ·have hm : p = x := by
   have hj2 : j < 2 := (List.getElem?_eq_some_iff.1 hj).1
   match j, hj2, hj with
   | 0, _, hj => simpa using hj.symm
   | 1, _, hj => simpa using hj.symm
  rw [hm]; exact hx
 ·have hi : i < cs.length := (List.getElem?_eq_some_iff.1 hu).1
  rw [Addr.add_lit, cell_of_row w g _ _ _ _ h, List.getElem?_toArray]
  have hj2 : j < 2 := (List.getElem?_eq_some_iff.1 hj).1
  match j, hj2 with
  | 0, _ => rw [Nat.zero_add]; rw [show 0 * k30.sz + i = i by omega, List.getElem?_append_left hi]; exact hu
  | 1, _ => rw [Nat.zero_add, show 1 * k30.sz + i = cs.length + i by rw [hl]; rfl, List.getElem?_append_right (by omega), Nat.add_sub_cancel_left]; exact hu
def hypercubelaw2_known.f : Option Bool := some true
set_option maxHeartbeats 8000000 in
set_option maxRecDepth 100000 in
theorem hypercubelaw2_known.calls (r : Bool) (w : World) (h : hypercubelaw2_known.f = some r) :
    Calls Try.prog 16 #[] w fun e w' => e = .returned (.bool r) ∧ Below w.heap.size w w' := by
 have e : true = r := Option.some.inj h
 subst e
 clear h
 have HB := am (Below.refl w.heap.size w)
 go_enter Try.func16, Try.ntmps16
 go_wp2_with (first
  | ((with_reducible refine gate_callee (f := 28) rfl ?_)
     refine goesL_ (some 6) rfl rfl Try.func28 (by kernel_rfl) rfl #[.agg #[.slice (some ⟨w.heap.size, 0, none⟩) 2 2, .slice (some ⟨w.heap.size + 1, 0, none⟩) 1 1], .int .i64 2] rfl (by (try simp only [List.map_toArray, List.map_cons, List.map_nil]); first | done | rfl) ?_
     refine name_calls ?_
     intro w2 hw2
     have h1 : w2.heap[w.heap.size]? = some (.cells (encs (Value.int .i64) [4, 5]).toArray 3 (0, 0)) := by rw [hw2]; exact (Below.heap_alloc _ _ _ (by rw [World.size_alloc]; omega)).trans (blk_new w _)
     have h2 : w2.heap[w.heap.size + 1]? = some (.cells (encs (Value.int .i64) [3]).toArray 3 (0, 0)) := by rw [hw2]; have := blk_new (w.alloc (.cells #[.int .i64 4, .int .i64 5] 3)) (.cells #[.int .i64 3] 3); rw [World.size_alloc] at this; exact this
     have n0_ : Aside0 (Below w.heap.size w w2) := am (by rw [hw2]; exact below_alloc (below_alloc HB.out _) _)
     clear HB
     have HB := n0_
     clear n0_ hw2
     refine (cell_Of.calls (some ⟨w.heap.size, 0, none⟩) 2 [4, 5] (some ⟨w.heap.size + 1, 0, none⟩) 1 [3] 2 [5] 1 [3] [3] [3] w2 (C_of_blk h1 (by decide)) (by decide) (C_of_blk h2 (by decide)) (by decide) known_of).mono ?_
     rintro e w3 ⟨v0, v2, v3, v4, rfl, p0, p2, p3, p4, hb⟩
     refine ⟨_, rfl, ?_⟩
     obtain ⟨B0, b0, rfl⟩ := Kd.R_slice p0
     obtain ⟨B2, b2, rfl⟩ := Kd.R_slice p2
     obtain ⟨B3, b3, rfl⟩ := Kd.R_slice p3
     obtain ⟨B4, b4, rfl⟩ := Kd.R_slice p4
     have G0 := am p0
     have G2 := am p2
     have G3 := am p3
     have G4 := am p4
     have n0_ := am (below_step HB.out hb)
     clear HB h1 h2 p0 p2 p3 p4 hb
     have HB := n0_
     clear n0_)
  | ((with_reducible refine gate_dst (N := 1) rfl ?_); refine box_event ?hg (N := 1) ?hd (cs := #[.slice none 0 0, .int .i64 0, .slice none 0 0, .slice none 0 0, .slice none 0 0]) (t := 30) ?hr ?_; (case hd => rfl); (case hg => rfl); (case hr => first | (go_simp; done) | (go_simp; rfl)); intro gb hg w4 hbox hb; have n0_ := am (below_step HB.out hb); have n3_ := am hbox; have n4_ := am (show w.heap.size ≤ gb by rw [hg]; have := HB.out.size; omega); have m0_ := am (Kd.R_below (Kd.R_mono (Kd.R_bound G0.out) (ok' := fun k => k < gb) (fun k hk => by rw [hg]; exact hk.2.2.1)) hb); have m2_ := am (Kd.R_below (Kd.R_mono (Kd.R_bound G2.out) (ok' := fun k => k < gb) (fun k hk => by rw [hg]; exact hk.2.2.1)) hb); have m3_ := am (Kd.R_below (Kd.R_mono (Kd.R_bound G3.out) (ok' := fun k => k < gb) (fun k hk => by rw [hg]; exact hk.2.2.1)) hb); have m4_ := am (Kd.R_below (Kd.R_mono (Kd.R_bound G4.out) (ok' := fun k => k < gb) (fun k hk => by rw [hg]; exact hk.2.2.1)) hb); clear G0 G2 G3 G4; have G0 := m0_; have G2 := m2_; have G3 := m3_; have G4 := m4_; clear m0_ m2_ m3_ m4_; clear HB; have HB := n0_; have BKb := n3_; have GEb := n4_; clear n0_ n3_ n4_; clear hb hbox hg; have hcz0 := (blk_cell BKb.out 0).trans rfl; have hcz1 := (blk_cell BKb.out 1).trans rfl; have hcz2 := (blk_cell BKb.out 2).trans rfl; have hcz3 := (blk_cell BKb.out 3).trans rfl; have hcz4 := (blk_cell BKb.out 4).trans rfl; have hfz0 := blk_frozen BKb.out 0; have hfz1 := blk_frozen BKb.out 1; have hfz2 := blk_frozen BKb.out 2; have hfz3 := blk_frozen BKb.out 3; have hfz4 := blk_frozen BKb.out 4)
  | ((with_reducible refine gate_callee (f := 26) rfl ?_)
     refine goesL_ (some 10) rfl rfl Try.func26 (by kernel_rfl) rfl #[.slice (some ⟨w4.heap.size, 0, none⟩) 2 2] rfl (by (try simp only [List.map_toArray, List.map_cons, List.map_nil]); first | done | rfl) ?_
     refine name_calls ?_
     intro w5 hw5
     have hw5' : w5 = (((((w4.setCell ⟨gb, 0, none⟩ (.slice B0 1 b0)).setCell ⟨gb, 1, none⟩ (.int .i64 1)).setCell ⟨gb, 2, none⟩ (.slice B2 1 b2)).setCell ⟨gb, 3, none⟩ (.slice B3 1 b3)).setCell ⟨gb, 4, none⟩ (.slice B4 1 b4)).alloc (.cells #[.slice B0 1 b0, .int .i64 1, .slice B2 1 b2, .slice B3 1 b3, .slice B4 1 b4, .slice B0 1 b0, .int .i64 1, .slice B2 1 b2, .slice B3 1 b3, .slice B4 1 b4] 30) := hw5
     have hs : (((((w4.setCell ⟨gb, 0, none⟩ (.slice B0 1 b0)).setCell ⟨gb, 1, none⟩ (.int .i64 1)).setCell ⟨gb, 2, none⟩ (.slice B2 1 b2)).setCell ⟨gb, 3, none⟩ (.slice B3 1 b3)).setCell ⟨gb, 4, none⟩ (.slice B4 1 b4)).heap.size = w4.heap.size := by simp
     have hk5 : Kept w4 w5 (fun k => k = gb) := by
      rw [hw5']
      refine Kept.alloc ?_ _
      refine Kept.setCell (S := fun k => k = gb) (p := ⟨gb, 4, none⟩) ?_ (.inl rfl) _
      refine Kept.setCell (S := fun k => k = gb) (p := ⟨gb, 3, none⟩) ?_ (.inl rfl) _
      refine Kept.setCell (S := fun k => k = gb) (p := ⟨gb, 2, none⟩) ?_ (.inl rfl) _
      refine Kept.setCell (S := fun k => k = gb) (p := ⟨gb, 1, none⟩) ?_ (.inl rfl) _
      refine Kept.setCell (S := fun k => k = gb) (p := ⟨gb, 0, none⟩) ?_ (.inl rfl) _
      exact Kept.refl _ _
     have hl5 : w5.heap[w4.heap.size]? = some (.cells (([.slice B0 1 b0, .int .i64 1, .slice B2 1 b2, .slice B3 1 b3, .slice B4 1 b4] : List Value) ++ ([.slice B0 1 b0, .int .i64 1, .slice B2 1 b2, .slice B3 1 b3, .slice B4 1 b4] : List Value)).toArray 30 (0, 0)) := by
      rw [hw5']
      have := blk_new (((((w4.setCell ⟨gb, 0, none⟩ (.slice B0 1 b0)).setCell ⟨gb, 1, none⟩ (.int .i64 1)).setCell ⟨gb, 2, none⟩ (.slice B2 1 b2)).setCell ⟨gb, 3, none⟩ (.slice B3 1 b3)).setCell ⟨gb, 4, none⟩ (.slice B4 1 b4)) (.cells #[.slice B0 1 b0, .int .i64 1, .slice B2 1 b2, .slice B3 1 b3, .slice B4 1 b4, .slice B0 1 b0, .int .i64 1, .slice B2 1 b2, .slice B3 1 b3, .slice B4 1 b4] 30)
      rw [hs] at this
      exact this
     have hg5 : w5.heap[gb]? = some (.cells #[.slice B0 1 b0, .int .i64 1, .slice B2 1 b2, .slice B3 1 b3, .slice B4 1 b4] 30 (0, 0)) := by
      rw [hw5']
      refine blk_alloc ?_ _
      refine blk_put (cs := #[.slice B0 1 b0, .int .i64 1, .slice B2 1 b2, .slice B3 1 b3, .slice none 0 0]) ?_ 4 _ rfl
      refine blk_put (cs := #[.slice B0 1 b0, .int .i64 1, .slice B2 1 b2, .slice none 0 0, .slice none 0 0]) ?_ 3 _ rfl
      refine blk_put (cs := #[.slice B0 1 b0, .int .i64 1, .slice none 0 0, .slice none 0 0, .slice none 0 0]) ?_ 2 _ rfl
      refine blk_put (cs := #[.slice B0 1 b0, .int .i64 0, .slice none 0 0, .slice none 0 0, .slice none 0 0]) ?_ 1 _ rfl
      refine blk_put (cs := #[.slice none 0 0, .int .i64 0, .slice none 0 0, .slice none 0 0, .slice none 0 0]) ?_ 0 _ rfl
      exact BKb.out
     have n0_ : Aside0 (Below w.heap.size w w5) := am (by
      rw [hw5']
      refine below_alloc ?_ _
      refine below_set (g := gb) (j := 4) ?_ GEb.out
      refine below_set (g := gb) (j := 3) ?_ GEb.out
      refine below_set (g := gb) (j := 2) ?_ GEb.out
      refine below_set (g := gb) (j := 1) ?_ GEb.out
      refine below_set (g := gb) (j := 0) ?_ GEb.out
      exact HB.out)
     have p0 := Kd.R_kept G0.out hk5 (fun k hk e => by omega)
     have p2 := Kd.R_kept G2.out hk5 (fun k hk e => by omega)
     have p3 := Kd.R_kept G3.out hk5 (fun k hk e => by omega)
     have p4 := Kd.R_kept G4.out hk5 (fun k hk e => by omega)
     clear HB G0 G2 G3 G4 BKb hs hk5 hw5' hw5
     have HB := n0_
     clear n0_
     refine (cell_Group.calls 9 (some ⟨w4.heap.size, 0, none⟩) 2 [(⟨[5], 1, [3], [3], [3]⟩ : S30), ⟨[5], 1, [3], [3], [3]⟩] _ w5 (C_two hl5 (k30_mk w5 (⟨[5], 1, [3], [3], [3]⟩ : S30) (Kd.R_reads' p0).2.1 (Kd.R_reads' p0).2.2 (Kd.R_reads' p2).2.1 (Kd.R_reads' p2).2.2 (Kd.R_reads' p3).2.1 (Kd.R_reads' p3).2.2 (Kd.R_reads' p4).2.1 (Kd.R_reads' p4).2.2)) (by decide) known_group).mono ?_
     rintro e w6 ⟨v, rfl, hS, hb⟩
     refine ⟨_, rfl, ?_⟩
     obtain ⟨A, c, rfl⟩ := Kd.S_slice hS
     have hC := (Kd.S_reads' hS).2.2
     obtain ⟨ad, E0, d0, E2, d2, E3, d3, E4, d4, eA, q0, q1, q2, q3, q4, g0, K0, g2, K2, g3, K3, g4, K4⟩ := at_T30 hC 0 (by decide) (by decide)
     cases eA
     obtain ⟨g, rfl⟩ := Kd.R_head (Kd.S_R hS)
     obtain ⟨a2, e2, z2⟩ := Kd.at_int K2 0 (by decide) (by decide)
     cases e2
     obtain ⟨a0, e0, z0⟩ := Kd.at_int (Kd.R_reads' p0).2.2 0 (by decide) (by decide)
     cases e0
     have z0' := (hb.cell (World.block_lt_of_cell? _ _ z0)).trans z0
     have z00 : w6.cell? a0 = some (.int .i64 5) := by rw [← show a0.add (0 : Int).toNat = a0 by simp [Addr.add]]; exact z0'
     have z22 : w6.cell? a2 = some (.int .i64 6) := by rw [← show a2.add (0 : Int).toNat = a2 by simp [Addr.add]]; exact z2
     have y1 : w6.cell? ⟨g, 1, none⟩ = some (.int .i64 2) := q1
     have y2 : w6.cell? ⟨g, 2, none⟩ = some (.slice (some a2) 1 d2) := q2
     have b6 := blk_below hg5 hb
     have x0 : w6.cell? ⟨gb, 0, none⟩ = some (.slice (some a0) 1 b0) := (blk_cell b6 0).trans rfl
     have x1 : w6.cell? ⟨gb, 1, none⟩ = some (.int .i64 1) := (blk_cell b6 1).trans rfl
     have n0_ := am (below_step HB.out hb)
     clear HB hg5 hl5 p0 p2 p3 p4 hS hb hC q0 q1 q2 q3 q4 g0 K0 g2 K2 g3 K3 g4 K4 z0 z0' z2 b6
     have HB := n0_
     clear n0_)
  | ((with_reducible refine gate_callee (f := 17) rfl ?_)
     refine goesL_ (some 11) rfl rfl Try.func17 (by kernel_rfl) rfl #[.slice none 0 0, .slice none 0 0] rfl (by (try simp only [List.map_toArray, List.map_cons, List.map_nil]); first | done | rfl) ?_
     refine (cell_Less.calls 3 none 0 [] none 0 [] 0 _ (Kd.C_nil _ _) (by decide) (Kd.C_nil _ _) (by decide) known_less).mono ?_
     rintro e w7 ⟨rfl, ⟨nd, rfl⟩⟩
     refine ⟨_, rfl, ?_⟩))
 go_ret
 exact ⟨rfl, by (with_reducible repeat (first | exact HB.out | apply pw_below_drewN))⟩
end Go.Proofs.Ytmkjkkmilopcpaa.Q
namespace Go.Proofs.Ytmkjkkmilopcpaa.Q
open Go.RowKit Go.Proofs.YtmkjkkmilopcpaaW.PrintWords Go.Proofs.YtmkjkkmilopcpaaW.PrintLast Go.Proofs.YtmkjkkmilopcpaaW.PrintMore
attribute [local go_sem] max2_int min2_int max_two min_two max_three min_three max_four min_four
set_option linter.unusedVariables false
set_option linter.unusedSimpArgs false
mutual
def hypercuberef2_Less.l0 : Nat → List Int → List Int → Int → Option (Int)
 | 0, _, _, _ => none
 | k + 1, x0, x1, x5 => if x5 < (x0.length : Int) then (hypercuberef2_Less.j1 k x0 x1 x5 (decide (x5 < (x1.length : Int)))) else (hypercuberef2_Less.j1 k x0 x1 x5 false)
def hypercuberef2_Less.j1 : Nat → List Int → List Int → Int → Bool → Option (Int)
 | 0, _, _, _, _ => none
 | k + 1, x0, x1, x5, x15 => if x15 = true then (if 0 ≤ x5 then (if x5 < (x0.length : Int) then (if x5 < (x1.length : Int) then (if (rd x0 x5) < (rd x1 x5) then (some (-1)) else (if (rd x0 x5) > (rd x1 x5) then (some 1) else (hypercuberef2_Less.l0 k x0 x1 (wrap64 (x5 + 1))))) else (none)) else (none)) else (none)) else (if (x0.length : Int) < (x1.length : Int) then (some (-1)) else (if (x0.length : Int) > (x1.length : Int) then (some 1) else (some 0)))
end
def hypercuberef2_Less.f (k : Nat) (l0 : List Int) (l1 : List Int) : Option (Int) := hypercuberef2_Less.l0 k l0 l1 0
set_option maxHeartbeats 8000000 in
set_option maxRecDepth 100000 in
theorem hypercuberef2_Less.calls (k : Nat) (A0 : Option Addr) (c0 : Nat) (l0 : List Int) (A1 : Option Addr) (c1 : Nat) (l1 : List Int) (r : Int) (w : World) (hr0 : Kd.C (Kd.int .i64) w A0 l0.length l0) (hc0 : l0.length ≤ c0) (hr1 : Kd.C (Kd.int .i64) w A1 l1.length l1) (hc1 : l1.length ≤ c1) (h : hypercuberef2_Less.f k l0 l1 = some r) :
  Calls Try.prog 18 #[.slice A0 l0.length c0, .slice A1 l1.length c1] w fun e w' => e = .returned (.int .i64 r) ∧ Drawn0 w w' := by
 have HR0 := am hr0
 have HC0 := am hc0
 clear hr0 hc0
 have HR1 := am hr1
 have HC1 := am hc1
 clear hr1 hc1
 have H : (hypercuberef2_Less.l0 k l0 l1 0) = some r := h
 clear h
 have H' := am H
 clear H
 go_enter Try.func18, Try.ntmps18
 go_wp2
 repeat (go_quiet (fail); try go_wp2)
 go_loopg [5] k (fun kq v5 w' => ∃ (x5_1 : Int), v5 = .int .i64 x5_1 ∧ Aside0 (hypercuberef2_Less.l0 kq l0 l1 x5_1 = some r) ∧ Aside0 (kq ≤ k) ∧ Drawn0 w w')
 case atStart => exact ⟨(0), (by first | rfl | (simp; done) | (simp [*]; done)), H', ⟨Nat.le_refl _⟩, by repeat (first | exact Drawn0.refl _ | apply Drawn0.step)⟩
 case round =>
  clear H'
  try clear c1
  try clear p2
  obtain ⟨x5_1, rfl, HA, HK1, ⟨m1, rfl⟩⟩ := hrel
  cases gk with
  | zero => exact absurd HA.out (by simp [hypercuberef2_Less.l0])
  | succ k1 =>
   have H := HA.out
   clear HA
   simp only [hypercuberef2_Less.l0] at H
   have HC3 := am H
   clear H
   go_upto_region 2 with (fail)
   repeat (go_quiet (fail); go_upto_region 2 with (fail))
   go_cut [15] (fun v15 wc => ∃ (kq : Nat) (x15_2 : Bool), v15 = .bool x15_2 ∧ Aside0 (hypercuberef2_Less.j1 kq l0 l1 x5_1 x15_2 = some r) ∧ Aside0 (kq ≤ k1) ∧ Drawn0 w wc)
   case first =>
    have H := HC3.out
    clear HC3
    by_cases c4 : x5_1 < (l0.length : Int)
    ·rw [if_pos c4] at H
     have c4b0 : decide (x5_1 < (l0.length : Int)) = true := decide_eq_true c4
     clear c4
     (first | rw [c4b0] | (simp only [i64_w, i32_w]; rw [c4b0]) | skip)
     have H' := am H
     clear H
     go_wp2
     repeat (go_quiet (fail); try go_wp2)
     go_meet
     case rel => exact ⟨_, (decide (x5_1 < (l1.length : Int))), (by first | rfl | (simp; done) | (simp [*]; done)), H', ⟨by have := HK1.out; first | omega | exact Nat.le_refl _⟩, by repeat (first | exact Drawn0.refl _ | apply Drawn0.step)⟩
    ·rw [if_neg c4] at H
     have c4b0 : decide (x5_1 < (l0.length : Int)) = false := decide_eq_false c4
     clear c4
     (first | rw [c4b0] | (simp only [i64_w, i32_w]; rw [c4b0]) | skip)
     have H' := am H
     clear H
     go_wp2
     repeat (go_quiet (fail); try go_wp2)
     go_meet
     case rel => exact ⟨_, (false), (by first | rfl | (simp; done) | (simp [*]; done)), H', ⟨by have := HK1.out; first | omega | exact Nat.le_refl _⟩, by repeat (first | exact Drawn0.refl _ | apply Drawn0.step)⟩
   case rest =>
    clear HC3
    try clear c1
    try clear p2
    try clear c4
    try clear c4b0
    try clear p2
    obtain ⟨kq, x15_2, rfl, HA, HJ2, ⟨mc2, rfl⟩⟩ := hcut
    cases kq with
    | zero => exact absurd HA.out (by simp [hypercuberef2_Less.j1])
    | succ kj2 =>
     have H := HA.out
     clear HA
     simp only [hypercuberef2_Less.j1] at H
     by_cases c5 : x15_2 = true
     ·subst c5
      have H1 : (if 0 ≤ x5_1 then (if x5_1 < (l0.length : Int) then (if x5_1 < (l1.length : Int) then (if (rd l0 x5_1) < (rd l1 x5_1) then (some (-1)) else (if (rd l0 x5_1) > (rd l1 x5_1) then (some 1) else (hypercuberef2_Less.l0 kj2 l0 l1 (wrap64 (x5_1 + 1))))) else (none)) else (none)) else (none)) = some r := by rw [if_pos rfl] at H; exact H
      clear H
      have H := H1
      clear H1
      by_cases c6 : 0 ≤ x5_1
      ·rw [if_pos c6] at H
       have c6b0 : decide (0 ≤ x5_1) = true := decide_eq_true c6
       clear c6
       by_cases c7 : x5_1 < (l0.length : Int)
       ·rw [if_pos c7] at H
        have c7b0 : decide (x5_1 < (l0.length : Int)) = true := decide_eq_true c7
        clear c7
        by_cases c8 : x5_1 < (l1.length : Int)
        ·rw [if_pos c8] at H
         have c8b0 : decide (x5_1 < (l1.length : Int)) = true := decide_eq_true c8
         clear c8
         by_cases c9 : (rd l0 x5_1) < (rd l1 x5_1)
         ·rw [if_pos c9] at H
          have c9b0 : decide ((rd l0 x5_1) < (rd l1 x5_1)) = true := decide_eq_true c9
          clear c9
          obtain rfl := Option.some.inj H
          have p181 : 0 ≤ (x5_1 : Int) := of_decide_eq_true (by first | (with_reducible assumption) | assumption)
          have q181 : x5_1 < (l0.length : Int) := of_decide_eq_true (by first | (with_reducible assumption) | assumption)
          obtain ⟨ad181, e181, hx181_0⟩ := Kd.at_int HR0.out x5_1 p181 q181
          cases e181
          replace p181 := eq_true p181
          replace q181 := eq_true q181
          have p182 : 0 ≤ (x5_1 : Int) := of_decide_eq_true (by first | (with_reducible assumption) | assumption)
          have q182 : x5_1 < (l1.length : Int) := of_decide_eq_true (by first | (with_reducible assumption) | assumption)
          obtain ⟨ad182, e182, hx182_0⟩ := Kd.at_int HR1.out x5_1 p182 q182
          cases e182
          replace p182 := eq_true p182
          replace q182 := eq_true q182
          go_wp2
          repeat (go_quiet (fail); try go_wp2)
          go_ret
          exact ⟨by first | rfl | (simp; done) | (simp [*]; done), by repeat (first | exact Drawn0.refl _ | apply Drawn0.step)⟩
         ·rw [if_neg c9] at H
          have c9b0 : decide ((rd l0 x5_1) < (rd l1 x5_1)) = false := decide_eq_false c9
          clear c9
          by_cases c10 : (rd l0 x5_1) > (rd l1 x5_1)
          ·rw [if_pos c10] at H
           have c10b0 : decide ((rd l1 x5_1) < (rd l0 x5_1)) = true := decide_eq_true c10
           clear c10
           obtain rfl := Option.some.inj H
           have p181 : 0 ≤ (x5_1 : Int) := of_decide_eq_true (by first | (with_reducible assumption) | assumption)
           have q181 : x5_1 < (l0.length : Int) := of_decide_eq_true (by first | (with_reducible assumption) | assumption)
           obtain ⟨ad181, e181, hx181_0⟩ := Kd.at_int HR0.out x5_1 p181 q181
           cases e181
           replace p181 := eq_true p181
           replace q181 := eq_true q181
           have p182 : 0 ≤ (x5_1 : Int) := of_decide_eq_true (by first | (with_reducible assumption) | assumption)
           have q182 : x5_1 < (l1.length : Int) := of_decide_eq_true (by first | (with_reducible assumption) | assumption)
           obtain ⟨ad182, e182, hx182_0⟩ := Kd.at_int HR1.out x5_1 p182 q182
           cases e182
           replace p182 := eq_true p182
           replace q182 := eq_true q182
           have p183 : 0 ≤ (x5_1 : Int) := of_decide_eq_true (by first | (with_reducible assumption) | assumption)
           have q183 : x5_1 < (l0.length : Int) := of_decide_eq_true (by first | (with_reducible assumption) | assumption)
           obtain ⟨ad183, e183, hx183_0⟩ := Kd.at_int HR0.out x5_1 p183 q183
           obtain rfl : ad181 = ad183 := (by injection e183)
           replace p183 := eq_true p183
           replace q183 := eq_true q183
           have p184 : 0 ≤ (x5_1 : Int) := of_decide_eq_true (by first | (with_reducible assumption) | assumption)
           have q184 : x5_1 < (l1.length : Int) := of_decide_eq_true (by first | (with_reducible assumption) | assumption)
           obtain ⟨ad184, e184, hx184_0⟩ := Kd.at_int HR1.out x5_1 p184 q184
           obtain rfl : ad182 = ad184 := (by injection e184)
           replace p184 := eq_true p184
           replace q184 := eq_true q184
           go_wp2
           repeat (go_quiet (fail); try go_wp2)
           go_ret
           exact ⟨by first | rfl | (simp; done) | (simp [*]; done), by repeat (first | exact Drawn0.refl _ | apply Drawn0.step)⟩
          ·rw [if_neg c10] at H
           have c10b0 : decide ((rd l1 x5_1) < (rd l0 x5_1)) = false := decide_eq_false c10
           clear c10
           have H' := am H
           clear H
           have p181 : 0 ≤ (x5_1 : Int) := of_decide_eq_true (by first | (with_reducible assumption) | assumption)
           have q181 : x5_1 < (l0.length : Int) := of_decide_eq_true (by first | (with_reducible assumption) | assumption)
           obtain ⟨ad181, e181, hx181_0⟩ := Kd.at_int HR0.out x5_1 p181 q181
           cases e181
           replace p181 := eq_true p181
           replace q181 := eq_true q181
           have p182 : 0 ≤ (x5_1 : Int) := of_decide_eq_true (by first | (with_reducible assumption) | assumption)
           have q182 : x5_1 < (l1.length : Int) := of_decide_eq_true (by first | (with_reducible assumption) | assumption)
           obtain ⟨ad182, e182, hx182_0⟩ := Kd.at_int HR1.out x5_1 p182 q182
           cases e182
           replace p182 := eq_true p182
           replace q182 := eq_true q182
           have p183 : 0 ≤ (x5_1 : Int) := of_decide_eq_true (by first | (with_reducible assumption) | assumption)
           have q183 : x5_1 < (l0.length : Int) := of_decide_eq_true (by first | (with_reducible assumption) | assumption)
           obtain ⟨ad183, e183, hx183_0⟩ := Kd.at_int HR0.out x5_1 p183 q183
           obtain rfl : ad181 = ad183 := (by injection e183)
           replace p183 := eq_true p183
           replace q183 := eq_true q183
           have p184 : 0 ≤ (x5_1 : Int) := of_decide_eq_true (by first | (with_reducible assumption) | assumption)
           have q184 : x5_1 < (l1.length : Int) := of_decide_eq_true (by first | (with_reducible assumption) | assumption)
           obtain ⟨ad184, e184, hx184_0⟩ := Kd.at_int HR1.out x5_1 p184 q184
           obtain rfl : ad182 = ad184 := (by injection e184)
           replace p184 := eq_true p184
           replace q184 := eq_true q184
           go_wp2
           repeat (go_quiet (fail); try go_wp2)
           go_roundg kj2
           case measure => have := HK1.out; have := HJ2.out; omega
           case rel => exact ⟨(wrap64 (x5_1 + 1)), (by first | rfl | (simp; done) | (simp [*]; done)), H', ⟨by have := HK1.out; have := HJ2.out; omega⟩, by repeat (first | exact Drawn0.refl _ | apply Drawn0.step)⟩
        ·rw [if_neg c8] at H
         exact absurd H (by simp)
       ·rw [if_neg c7] at H
        exact absurd H (by simp)
      ·rw [if_neg c6] at H
       exact absurd H (by simp)
     ·replace c5 := Bool.eq_false_iff.mpr c5
      subst c5
      have H1 : (if (l0.length : Int) < (l1.length : Int) then (some (-1)) else (if (l0.length : Int) > (l1.length : Int) then (some 1) else (some 0))) = some r := by rw [if_neg (show ¬ (false = true) by decide)] at H; exact H
      clear H
      have H := H1
      clear H1
      by_cases c11 : (l0.length : Int) < (l1.length : Int)
      ·rw [if_pos c11] at H
       have c11b0 : decide ((l0.length : Int) < (l1.length : Int)) = true := decide_eq_true c11
       have c11b1 : decide (l0.length < l1.length) = true := decide_eq_true (Int.ofNat_lt.mp c11)
       clear c11
       obtain rfl := Option.some.inj H
       go_wp2
       repeat (go_quiet (fail); try go_wp2)
       go_ret
       exact ⟨by first | rfl | (simp; done) | (simp [*]; done), by repeat (first | exact Drawn0.refl _ | apply Drawn0.step)⟩
      ·rw [if_neg c11] at H
       have c11b0 : decide ((l0.length : Int) < (l1.length : Int)) = false := decide_eq_false c11
       have c11b1 : decide (l0.length < l1.length) = false := decide_eq_false (fun h => c11 (Int.ofNat_lt.mpr h))
       clear c11
       by_cases c12 : (l0.length : Int) > (l1.length : Int)
       ·rw [if_pos c12] at H
        have c12b0 : decide ((l1.length : Int) < (l0.length : Int)) = true := decide_eq_true c12
        have c12b1 : decide (l1.length < l0.length) = true := decide_eq_true (Int.ofNat_lt.mp c12)
        clear c12
        obtain rfl := Option.some.inj H
        go_wp2
        repeat (go_quiet (fail); try go_wp2)
        go_ret
        exact ⟨by first | rfl | (simp; done) | (simp [*]; done), by repeat (first | exact Drawn0.refl _ | apply Drawn0.step)⟩
       ·rw [if_neg c12] at H
        have c12b0 : decide ((l1.length : Int) < (l0.length : Int)) = false := decide_eq_false c12
        have c12b1 : decide (l1.length < l0.length) = false := decide_eq_false (fun h => c12 (Int.ofNat_lt.mpr h))
        clear c12
        obtain rfl := Option.some.inj H
        go_wp2
        repeat (go_quiet (fail); try go_wp2)
        go_ret
        exact ⟨by first | rfl | (simp; done) | (simp [*]; done), by repeat (first | exact Drawn0.refl _ | apply Drawn0.step)⟩
def hypercuberef1_Ints.l0 : Nat → List Int → List Int → Int → Option (Bool)
 | 0, _, _, _ => none
 | k + 1, x0, x1, x5 => if x5 < (x0.length : Int) then (if 0 ≤ x5 then (if x5 < (x1.length : Int) then (if (rd x0 x5) = (rd x1 x5) then (hypercuberef1_Ints.l0 k x0 x1 (wrap64 (x5 + 1))) else (some false)) else (none)) else (none)) else (some true)
def hypercuberef1_Ints.f (k : Nat) (l0 : List Int) (l1 : List Int) : Option (Bool) := if (l0.length : Int) = (l1.length : Int) then (hypercuberef1_Ints.l0 k l0 l1 0) else (some false)
set_option maxHeartbeats 8000000 in
set_option maxRecDepth 100000 in
theorem hypercuberef1_Ints.calls (k : Nat) (A0 : Option Addr) (c0 : Nat) (l0 : List Int) (A1 : Option Addr) (c1 : Nat) (l1 : List Int) (r : Bool) (w : World) (hr0 : Kd.C (Kd.int .i64) w A0 l0.length l0) (hc0 : l0.length ≤ c0) (hr1 : Kd.C (Kd.int .i64) w A1 l1.length l1) (hc1 : l1.length ≤ c1) (h : hypercuberef1_Ints.f k l0 l1 = some r) :
  Calls Try.prog 19 #[.slice A0 l0.length c0, .slice A1 l1.length c1] w fun e w' => e = .returned (.bool r) ∧ Drawn0 w w' := by
 have HR0 := am hr0
 have HC0 := am hc0
 clear hr0 hc0
 have HR1 := am hr1
 have HC1 := am hc1
 clear hr1 hc1
 have H : (if (l0.length : Int) = (l1.length : Int) then (hypercuberef1_Ints.l0 k l0 l1 0) else (some false)) = some r := h
 clear h
 by_cases c3 : (l0.length : Int) = (l1.length : Int)
 ·rw [if_pos c3] at H
  have c3b0 : ((l0.length : Int) == (l1.length : Int)) = true := beq_iff_eq.mpr c3
  have c3b1 : ((l0.length : Int) != (l1.length : Int)) = false := bne_eq_false_iff_eq.mpr c3
  have c3b2 : (l0.length == l1.length) = true := by first | simpa using c3 | (simp at c3 ⊢; omega)
  clear c3
  have H' := am H
  clear H
  go_enter Try.func19, Try.ntmps19
  go_wp2
  repeat (go_quiet (fail); try go_wp2)
  go_loopg [5] k (fun kq v5 w' => ∃ (x5_1 : Int), v5 = .int .i64 x5_1 ∧ Aside0 (hypercuberef1_Ints.l0 kq l0 l1 x5_1 = some r) ∧ Aside0 (kq ≤ k) ∧ Drawn0 w w')
  case atStart => exact ⟨(0), (by first | rfl | (simp; done) | (simp [*]; done)), H', ⟨Nat.le_refl _⟩, by repeat (first | exact Drawn0.refl _ | apply Drawn0.step)⟩
  case round =>
   clear H'
   try clear c1
   try clear p2
   try clear c3
   try clear c3b0
   try clear c3b1
   try clear c3b2
   obtain ⟨x5_1, rfl, HA, HK1, ⟨m1, rfl⟩⟩ := hrel
   cases gk with
   | zero => exact absurd HA.out (by simp [hypercuberef1_Ints.l0])
   | succ k1 =>
    have H := HA.out
    clear HA
    simp only [hypercuberef1_Ints.l0] at H
    by_cases c4 : x5_1 < (l0.length : Int)
    ·rw [if_pos c4] at H
     have c4b0 : decide (x5_1 < (l0.length : Int)) = true := decide_eq_true c4
     clear c4
     by_cases c5 : 0 ≤ x5_1
     ·rw [if_pos c5] at H
      have c5b0 : decide (0 ≤ x5_1) = true := decide_eq_true c5
      clear c5
      by_cases c6 : x5_1 < (l1.length : Int)
      ·rw [if_pos c6] at H
       have c6b0 : decide (x5_1 < (l1.length : Int)) = true := decide_eq_true c6
       clear c6
       by_cases c7 : (rd l0 x5_1) = (rd l1 x5_1)
       ·rw [if_pos c7] at H
        have c7b0 : ((rd l0 x5_1) == (rd l1 x5_1)) = true := beq_iff_eq.mpr c7
        have c7b1 : ((rd l0 x5_1) != (rd l1 x5_1)) = false := bne_eq_false_iff_eq.mpr c7
        clear c7
        have H' := am H
        clear H
        have p185 : 0 ≤ (x5_1 : Int) := of_decide_eq_true (by first | (with_reducible assumption) | assumption)
        have q185 : x5_1 < (l0.length : Int) := of_decide_eq_true (by first | (with_reducible assumption) | assumption)
        obtain ⟨ad185, e185, hx185_0⟩ := Kd.at_int HR0.out x5_1 p185 q185
        cases e185
        replace p185 := eq_true p185
        replace q185 := eq_true q185
        have p186 : 0 ≤ (x5_1 : Int) := of_decide_eq_true (by first | (with_reducible assumption) | assumption)
        have q186 : x5_1 < (l1.length : Int) := of_decide_eq_true (by first | (with_reducible assumption) | assumption)
        obtain ⟨ad186, e186, hx186_0⟩ := Kd.at_int HR1.out x5_1 p186 q186
        cases e186
        replace p186 := eq_true p186
        replace q186 := eq_true q186
        go_wp2
        repeat (go_quiet (fail); try go_wp2)
        go_roundg k1
        case measure => have := HK1.out; omega
        case rel => exact ⟨(wrap64 (x5_1 + 1)), (by first | rfl | (simp; done) | (simp [*]; done)), H', ⟨by have := HK1.out; omega⟩, by repeat (first | exact Drawn0.refl _ | apply Drawn0.step)⟩
       ·rw [if_neg c7] at H
        have c7b0 : ((rd l0 x5_1) == (rd l1 x5_1)) = false := beq_eq_false_iff_ne.mpr c7
        have c7b1 : ((rd l0 x5_1) != (rd l1 x5_1)) = true := bne_iff_ne.mpr c7
        obtain rfl := Option.some.inj H
        have p185 : 0 ≤ (x5_1 : Int) := of_decide_eq_true (by first | (with_reducible assumption) | assumption)
        have q185 : x5_1 < (l0.length : Int) := of_decide_eq_true (by first | (with_reducible assumption) | assumption)
        obtain ⟨ad185, e185, hx185_0⟩ := Kd.at_int HR0.out x5_1 p185 q185
        cases e185
        replace p185 := eq_true p185
        replace q185 := eq_true q185
        have p186 : 0 ≤ (x5_1 : Int) := of_decide_eq_true (by first | (with_reducible assumption) | assumption)
        have q186 : x5_1 < (l1.length : Int) := of_decide_eq_true (by first | (with_reducible assumption) | assumption)
        obtain ⟨ad186, e186, hx186_0⟩ := Kd.at_int HR1.out x5_1 p186 q186
        cases e186
        replace p186 := eq_true p186
        replace q186 := eq_true q186
        go_wp2
        repeat (go_quiet (fail); try go_wp2)
        go_ret
        exact ⟨by first | rfl | (simp; done) | (simp [*]; done), by repeat (first | exact Drawn0.refl _ | apply Drawn0.step)⟩
      ·rw [if_neg c6] at H
       exact absurd H (by simp)
     ·rw [if_neg c5] at H
      exact absurd H (by simp)
    ·rw [if_neg c4] at H
     have c4b0 : decide (x5_1 < (l0.length : Int)) = false := decide_eq_false c4
     clear c4
     obtain rfl := Option.some.inj H
     go_wp2
     repeat (go_quiet (fail); try go_wp2)
     go_ret
     exact ⟨by first | rfl | (simp; done) | (simp [*]; done), by repeat (first | exact Drawn0.refl _ | apply Drawn0.step)⟩
 ·rw [if_neg c3] at H
  have c3b0 : ((l0.length : Int) == (l1.length : Int)) = false := beq_eq_false_iff_ne.mpr c3
  have c3b1 : ((l0.length : Int) != (l1.length : Int)) = true := bne_iff_ne.mpr c3
  have c3b2 : (l0.length == l1.length) = false := by first | simpa using c3 | (simp at c3 ⊢; omega)
  obtain rfl := Option.some.inj H
  go_enter Try.func19, Try.ntmps19
  go_wp2
  repeat (go_quiet (fail); try go_wp2)
  go_ret
  exact ⟨by first | rfl | (simp; done) | (simp [*]; done), by repeat (first | exact Drawn0.refl _ | apply Drawn0.step)⟩
def hypercubelaw2_within.f (a0 : Int) (a1 : Int) : Option (Int) := if a1 = 0 then (none) else (if (Int.tmod a0 a1) < 0 then (some (wrap64 ((Int.tmod a0 a1) + a1))) else (some (Int.tmod a0 a1)))
set_option maxHeartbeats 8000000 in
set_option maxRecDepth 100000 in
theorem hypercubelaw2_within.calls (a0 : Int) (a1 : Int) (r : Int) (w : World) (h : hypercubelaw2_within.f a0 a1 = some r) :
  Calls Try.prog 20 #[.int .i64 a0, .int .i64 a1] w fun e w' => e = .returned (.int .i64 r) ∧ Drawn0 w w' := by
 have H : (if a1 = 0 then (none) else (if (Int.tmod a0 a1) < 0 then (some (wrap64 ((Int.tmod a0 a1) + a1))) else (some (Int.tmod a0 a1)))) = some r := h
 clear h
 by_cases c3 : a1 = 0
 ·rw [if_pos c3] at H
  exact absurd H (by simp)
 ·rw [if_neg c3] at H
  have c3b0 : (a1 == 0) = false := beq_eq_false_iff_ne.mpr c3
  have c3b1 : (a1 != 0) = true := bne_iff_ne.mpr c3
  by_cases c4 : (Int.tmod a0 a1) < 0
  ·rw [if_pos c4] at H
   have c4b0 : decide ((Int.tmod a0 a1) < 0) = true := decide_eq_true c4
   clear c4
   obtain rfl := Option.some.inj H
   go_enter Try.func20, Try.ntmps20
   go_wp2
   go_ret
   exact ⟨by first | rfl | (simp; done) | (simp [*]; done), by repeat (first | exact Drawn0.refl _ | apply Drawn0.step)⟩
  ·rw [if_neg c4] at H
   have c4b0 : decide ((Int.tmod a0 a1) < 0) = false := decide_eq_false c4
   clear c4
   obtain rfl := Option.some.inj H
   go_enter Try.func20, Try.ntmps20
   go_wp2
   go_ret
   exact ⟨by first | rfl | (simp; done) | (simp [*]; done), by repeat (first | exact Drawn0.refl _ | apply Drawn0.step)⟩
mutual
def hypercuberef2_Put.j1 : Nat → List (S30) → Int → List Int → Int → List Int → List Int → List Int → Option ((List (S30)))
 | 0, _, _, _, _, _, _, _ => none
 | k + 1, x0, x5, x630000, x630001, x630002, x630003, x630004 => if x5 < (x0.length : Int) then (if 0 ≤ x5 then ((hypercuberef2_Less.f k ((rd_T30 x0 x5).f0) x630000).bind fun t633 => (hypercuberef2_Put.j2 k x0 x5 (t633 == 0) x630000 x630001 x630002 x630003 x630004)) else (none)) else (hypercuberef2_Put.j2 k x0 x5 false x630000 x630001 x630002 x630003 x630004)
def hypercuberef2_Put.j2 : Nat → List (S30) → Int → Bool → List Int → Int → List Int → List Int → List Int → Option ((List (S30)))
 | 0, _, _, _, _, _, _, _, _ => none
 | k + 1, x0, x5, x38, x630000, x630001, x630002, x630003, x630004 => if x38 = true then ((some (([] : List (S30)) : List (S30))).bind fun y634 => (if y634.length + x0.length < 1353245080339 then ((some (y634 ++ x0 : List (S30))).bind fun y637 => (if 0 ≤ x5 then (if x5 < (x0.length : Int) then ((hypercuberef2_Join.f k ((rd_T30 x0 x5).f0) ((rd_T30 x0 x5).f1) ((rd_T30 x0 x5).f2) ((rd_T30 x0 x5).f3) ((rd_T30 x0 x5).f4) x630000 x630001 x630002 x630003 x630004).bind fun bt641 => (if x5 < (y637.length : Int) then (some (y637.set (x5 : Int).toNat (⟨bt641.1, bt641.2.1, bt641.2.2.1, bt641.2.2.2.1, bt641.2.2.2.2⟩ : S30))) else (none))) else (none)) else (none))) else (none))) else ((some (([] : List (S30)) : List (S30))).bind fun y655 => (if 0 ≤ x5 then (if x5 ≤ (x0.length : Int) then ((some (x0.take (x5 : Int).toNat : List (S30))).bind fun y658 => (if y655.length + y658.length < 1353245080339 then ((some (y655 ++ y658 : List (S30))).bind fun y663 => ((hypercuberef2_Copy.f x630000 x630001 x630002 x630003 x630004).bind fun bt666 => (if y663.length < 1353245080339 then ((some (y663 ++ [(⟨bt666.1, bt666.2.1, bt666.2.2.1, bt666.2.2.2.1, bt666.2.2.2.2⟩ : S30)] : List (S30))).bind fun y679 => ((some (x0.drop (x5 : Int).toNat : List (S30))).bind fun y682 => (if y679.length + y682.length < 1353245080339 then (some (y679 ++ y682)) else (none)))) else (none)))) else (none))) else (none)) else (none)))
def hypercuberef2_Put.l0 : Nat → List (S30) → Int → List Int → Int → List Int → List Int → List Int → Option ((List (S30)))
 | 0, _, _, _, _, _, _, _ => none
 | k + 1, x0, x5, x630000, x630001, x630002, x630003, x630004 => if x5 < (x0.length : Int) then (if 0 ≤ x5 then ((hypercuberef2_Less.f k ((rd_T30 x0 x5).f0) x630000).bind fun t631 => (if t631 < 0 then (hypercuberef2_Put.l0 k x0 (wrap64 (x5 + 1)) x630000 x630001 x630002 x630003 x630004) else (hypercuberef2_Put.j1 k x0 x5 x630000 x630001 x630002 x630003 x630004))) else (none)) else (hypercuberef2_Put.j1 k x0 x5 x630000 x630001 x630002 x630003 x630004)
end
def hypercuberef2_Put.f (k : Nat) (l0 : List (S30)) (l1_0 : List Int) (a1_1 : Int) (l1_2 : List Int) (l1_3 : List Int) (l1_4 : List Int) : Option ((List (S30))) := hypercuberef2_Put.l0 k l0 0 l1_0 a1_1 l1_2 l1_3 l1_4
def hypercuberef2_Put.T2 : Bool × List (List Nat × List Nat) := (true, [([], []), ([], []), ([1], [1]), ([0, 2], [0, 2]), ([3], [3]), ([4], [4]), ([4], [4]), ([5, 6, 4], [4, 5, 6]), ([7, 4], [4, 7]), ([8, 4], [4, 8]), ([4], [4]), ([10, 4], [4, 10]), ([9, 11, 4, 4], [4, 9, 11]), ([12, 4], [4, 12]), ([4, 13], [4, 13])])
def hypercuberef2_Put.B2 : List Nat := [0, 0, 2, 7, 15, 31, 31, 127, 255, 511, 31, 1055, 4095, 8191, 16383]
theorem hypercuberef2_Put.tab2 : rtab .any (opsOf Try.f51 2) = hypercuberef2_Put.T2 := by kernel_rfl
theorem hypercuberef2_Put.bits2 : waitsOk hypercuberef2_Put.T2.2 hypercuberef2_Put.B2 = true := by kernel_rfl
def hypercuberef2_Put.T4 : Bool × List (List Nat × List Nat) := (true, [([], []), ([], []), ([1], [1]), ([0, 2], [0, 2]), ([3], [3]), ([4], [4]), ([4], [4]), ([5, 6, 4], [4, 5, 6]), ([7, 4], [4, 7]), ([8, 4], [4, 8]), ([4], [4]), ([10, 4], [4, 10]), ([9, 11, 4, 4], [4, 9, 11]), ([12, 4], [4, 12]), ([4, 13], [4, 13])])
def hypercuberef2_Put.B4 : List Nat := [0, 0, 2, 7, 15, 31, 31, 127, 255, 511, 31, 1055, 4095, 8191, 16383]
theorem hypercuberef2_Put.tab4 : rtab .any (opsOf Try.f51 4) = hypercuberef2_Put.T4 := by kernel_rfl
theorem hypercuberef2_Put.bits4 : waitsOk hypercuberef2_Put.T4.2 hypercuberef2_Put.B4 = true := by kernel_rfl
def hypercuberef2_Put.T6 : Bool × List (List Nat × List Nat) := (true, [([], []), ([], []), ([], []), ([], []), ([2, 3], [2, 3]), ([4], [4]), ([], []), ([5, 6], [5, 6]), ([0, 1, 0, 1, 2, 3, 4, 5, 6, 7], [0, 1]), ([8, 7, 7, 0, 1, 2, 3, 4, 5, 6, 7], [7, 8])])
def hypercuberef2_Put.B6 : List Nat := [0, 0, 0, 0, 12, 28, 0, 124, 255, 511]
theorem hypercuberef2_Put.tab6 : rtab .any (opsOf Try.f51 6) = hypercuberef2_Put.T6 := by kernel_rfl
theorem hypercuberef2_Put.bits6 : waitsOk hypercuberef2_Put.T6.2 hypercuberef2_Put.B6 = true := by kernel_rfl
def hypercuberef2_Put.T8 : Bool × List (List Nat × List Nat) := (true, [([], []), ([], []), ([], []), ([1, 2], [1, 2]), ([0, 3], [0, 3]), ([], []), ([5, 4], [5]), ([6], [6]), ([4, 7, 6], [4, 7]), ([], []), ([], []), ([9, 10], [9, 10]), ([8, 11, 8], [8, 11]), ([12, 12, 0, 1, 2, 3, 4, 5, 6, 7, 8, 9, 10, 11, 12], [12])])
def hypercuberef2_Put.B8 : List Nat := [0, 0, 0, 6, 15, 0, 63, 127, 255, 0, 0, 1536, 4095, 8191]
theorem hypercuberef2_Put.tab8 : rtab .any (opsOf Try.f51 8) = hypercuberef2_Put.T8 := by kernel_rfl
theorem hypercuberef2_Put.bits8 : waitsOk hypercuberef2_Put.T8.2 hypercuberef2_Put.B8 = true := by kernel_rfl
set_option maxHeartbeats 8000000 in
set_option maxRecDepth 100000 in
theorem hypercuberef2_Put.calls (k : Nat) (P0_ : Nat → Prop) (A0 : Option Addr) (c0 : Nat) (l0 : List (S30)) (A1_0 : Option Addr) (c1_0 : Nat) (l1_0 : List Int) (a1_1 : Int) (A1_2 : Option Addr) (c1_2 : Nat) (l1_2 : List Int) (A1_3 : Option Addr) (c1_3 : Nat) (l1_3 : List Int) (A1_4 : Option Addr) (c1_4 : Nat) (l1_4 : List Int) (r : List (S30)) (w : World) (hs0 : Kd.V k30 30 w w.heap.size (fun k_ => P0_ k_) (.slice A0 l0.length c0) l0) (hr1_0 : Kd.C (Kd.int .i64) w A1_0 l1_0.length l1_0) (hc1_0 : l1_0.length ≤ c1_0) (hr1_2 : Kd.C (Kd.int .i64) w A1_2 l1_2.length l1_2) (hc1_2 : l1_2.length ≤ c1_2) (hr1_3 : Kd.C (Kd.int .i64) w A1_3 l1_3.length l1_3) (hc1_3 : l1_3.length ≤ c1_3) (hr1_4 : Kd.C (Kd.int .i64) w A1_4 l1_4.length l1_4) (hc1_4 : l1_4.length ≤ c1_4) (h : hypercuberef2_Put.f k l0 l1_0 a1_1 l1_2 l1_3 l1_4 = some r) :
  Calls Try.prog 51 #[.slice A0 l0.length c0, .agg #[.slice A1_0 l1_0.length c1_0, .int .i64 a1_1, .slice A1_2 l1_2.length c1_2, .slice A1_3 l1_3.length c1_3, .slice A1_4 l1_4.length c1_4]] w fun e w' => ∃ v0_ : Value, e = .returned (v0_) ∧ Kd.N k30 30 w' w.heap.size (fun k_ => (P0_ k_ ∨ w.heap.size ≤ k_)) v0_ r ∧ Below w.heap.size w w' := by
 have hu30 := Try.underlying30
 have HO0 := am (show Kd.V k30 30 w w.heap.size (fun k_ => (P0_ k_ ∨ w.heap.size ≤ k_)) (.slice A0 l0.length c0) l0 from Kd.V_mono hs0 (fun k_ hk => .inl hk))
 have HR1_0 := am hr1_0
 have HC1_0 := am hc1_0
 clear hr1_0 hc1_0
 have HR1_2 := am hr1_2
 have HC1_2 := am hc1_2
 clear hr1_2 hc1_2
 have HR1_3 := am hr1_3
 have HC1_3 := am hc1_3
 clear hr1_3 hc1_3
 have HR1_4 := am hr1_4
 have HC1_4 := am hc1_4
 clear hr1_4 hc1_4
 have HB := am (Below.refl w.heap.size w)
 have H : (hypercuberef2_Put.l0 k l0 0 l1_0 a1_1 l1_2 l1_3 l1_4) = some r := h
 clear h
 have HC3 := am H
 clear H
 go_enter Try.func51, Try.ntmps51
 go_upto_block 0 with (first | ((with_reducible refine gate_dst (N := 3) rfl ?_); refine box_event ?hg (N := 3) ?hd (cs := #[.slice A1_0 l1_0.length c1_0, .int .i64 a1_1, .slice A1_2 l1_2.length c1_2, .slice A1_3 l1_3.length c1_3, .slice A1_4 l1_4.length c1_4]) (t := 30) ?hr ?_; (case hd => rfl); (case hg => rfl); (case hr => first | (go_simp; done) | (go_simp; rfl)); intro gb629 hg w4 hbox hb; have n0_ := am (Kd.V_below (Kd.V_elderB (Kd.V_mv HO0.out) gb629 (Nat.le_of_eq hg.symm)) hb); have n1_ := am (below_step (wmv HB.out) hb); have n2_ := am (hbox); have n3_ := am ((by rw [hg]; exact (below_size (wmv HB.out)) : w.heap.size ≤ gb629)); have n4_ := am ((by rw [hg]; exact (below_size (wmv HB.out)) : w.heap.size ≤ gb629)); clear HO0 HB; revert n0_ n1_ n2_ n3_ n4_; intro HO0 HB BK629 GW629 GE629; clear hb hbox hg))
 (try simp only [Act.put, List.setIfInBounds_toArray, List.set_cons_zero, List.set_cons_succ])
 go_cut [5] (fun v5 wc => ∃ (kq : Nat) (x5_2 : Int), v5 = .int .i64 x5_2 ∧ Aside0 (hypercuberef2_Put.j1 kq l0 x5_2 l1_0 a1_1 l1_2 l1_3 l1_4 = some r) ∧ Aside0 (kq ≤ k) ∧ Aside0 (Kd.V k30 30 wc w.heap.size (fun k_ => (P0_ k_ ∨ w.heap.size ≤ k_) ∧ k_ ≠ gb629) (.slice A0 l0.length c0) l0) ∧ Aside0 (wc.heap[gb629]? = some (.cells #[(.slice A1_0 l1_0.length c1_0), .int .i64 a1_1, (.slice A1_2 l1_2.length c1_2), (.slice A1_3 l1_3.length c1_3), (.slice A1_4 l1_4.length c1_4)] 30 (0, 0))) ∧ Aside0 (Below w.heap.size w wc))
 case first =>
  have H := HC3.out
  clear HC3
  have H' := am H
  clear H
  go_wp2
  go_loopg [5] k (fun kq v5 w' => ∃ (x5_1 : Int), v5 = .int .i64 x5_1 ∧ Aside0 (hypercuberef2_Put.l0 kq l0 x5_1 l1_0 a1_1 l1_2 l1_3 l1_4 = some r) ∧ Aside0 (kq ≤ k) ∧ Aside0 (Kd.V k30 30 w' w.heap.size (fun k_ => (P0_ k_ ∨ w.heap.size ≤ k_) ∧ k_ ≠ gb629) (.slice A0 l0.length c0) l0) ∧ Aside0 (w'.heap[gb629]? = some (.cells #[(.slice A1_0 l1_0.length c1_0), .int .i64 a1_1, (.slice A1_2 l1_2.length c1_2), (.slice A1_3 l1_3.length c1_3), (.slice A1_4 l1_4.length c1_4)] 30 (0, 0))) ∧ Aside0 (Below w.heap.size w w'))
  case atStart => exact ⟨(0), (by first | rfl | (simp; done) | (simp [*]; done)), H', ⟨Nat.le_refl _⟩, ⟨by (with_reducible repeat (first | apply Kd.V_alloc | apply Kd.V_drewN | apply Kd.V_drew)); exact HO0.out⟩, ⟨by (with_reducible repeat (first | refine blk_drewN ?_ _ | refine blk_drew ?_ | refine blk_alloc ?_ _)); exact BK629.out⟩, ⟨by repeat (first | (with_reducible first | exact HB.out | apply below_alloc | apply pw_below_drewN | apply below_drew1 | refine below_set ?_ GE629.out) | exact HB.out)⟩⟩
  case round =>
   clear H'
   try clear c1
   try clear p2
   obtain ⟨x5_1, rfl, HA, HK1, HO_0, BK629, HB⟩ := hrel
   cases gk with
   | zero => exact absurd HA.out (by simp [hypercuberef2_Put.l0])
   | succ k1 =>
    have H := HA.out
    clear HA
    simp only [hypercuberef2_Put.l0] at H
    by_cases c5 : x5_1 < (l0.length : Int)
    ·rw [if_pos c5] at H
     have c5b0 : decide (x5_1 < (l0.length : Int)) = true := decide_eq_true c5
     clear c5
     (first | rw [c5b0] | (simp only [i64_w, i32_w]; rw [c5b0]) | skip)
     by_cases c6 : 0 ≤ x5_1
     ·rw [if_pos c6] at H
      have c6b0 : decide (0 ≤ x5_1) = true := decide_eq_true c6
      clear c6
      replace H := Option.bind_eq_some_iff.mp H
      obtain ⟨t631, A70, H⟩ := H
      replace H : (if t631 < 0 then (hypercuberef2_Put.l0 k1 l0 (wrap64 (x5_1 + 1)) l1_0 a1_1 l1_2 l1_3 l1_4) else (hypercuberef2_Put.j1 k1 l0 x5_1 l1_0 a1_1 l1_2 l1_3 l1_4)) = some r := H
      have A7 := am A70
      clear A70
      by_cases c8 : t631 < 0
      ·rw [if_pos c8] at H
       have c8b0 : decide (t631 < 0) = true := decide_eq_true c8
       clear c8
       have H' := am H
       clear H
       try go_wp2
       have n0_ := am (Kd.V_drew HO_0.out)
       have n1_ := am (blk_drew BK629.out)
       have n2_ := am (below_drew1 HB.out)
       clear HO_0 BK629 HB
       revert n0_ n1_ n2_
       intro HO_0 BK629 HB
       have p630 : 0 ≤ (x5_1 : Int) := of_decide_eq_true (by first | (with_reducible assumption) | assumption)
       have q630 : x5_1 < (l0.length : Int) := of_decide_eq_true (by first | (with_reducible assumption) | assumption)
       obtain ⟨ad630, A630_0, c630_0, A630_2, c630_2, A630_3, c630_3, A630_4, c630_4, e630, hx630_0, hx630_1, hx630_2, hx630_3, hx630_4, hl630_0, hi630_0, hl630_2, hi630_2, hl630_3, hi630_3, hl630_4, hi630_4⟩ := at_T30 (Kd.V_reads' HO_0.out).2.2 x5_1 p630 q630
       cases e630
       obtain ⟨ce630, hce630, hMe630, hcc630⟩ := Kd.V_get HO_0.out z30 x5_1 p630 (by first | exact q630 | exact of_decide_eq_true (by first | (with_reducible assumption) | assumption) | (have e_ := (Kd.V_reads' HO_0.out).1; omega))
       obtain ⟨ua630_0, uc630_0, ua630_2, uc630_2, ua630_3, uc630_3, ua630_4, uc630_4, rfl, ul630_0, ge630_0, ul630_2, ge630_2, ul630_3, ge630_3, ul630_4, ge630_4⟩ := k30_openF hMe630
       have hv630_0 := hcc630 0 _ rfl
       rw [Nat.add_zero] at hv630_0
       replace hv630_0 := Option.some.inj (hv630_0.symm.trans hx630_0)
       injection hv630_0 with hva_ hvn_ hvc_
       rw [hva_] at ge630_0
       rw [hvc_] at ul630_0
       have HL630_0 := am (show Kd.V (Kd.int .i64) 3 _ w.heap.size _ _ ((rd_T30 l0 x5_1).f0) from Kd.V_mk ul630_0 ge630_0)
       clear hva_ hvn_ hvc_ ge630_0 ul630_0
       have hv630_2 := hcc630 2 _ rfl
       rw [add_field _ _ 2 (by omega)] at hv630_2
       replace hv630_2 := Option.some.inj (hv630_2.symm.trans hx630_2)
       injection hv630_2 with hva_ hvn_ hvc_
       rw [hva_] at ge630_2
       rw [hvc_] at ul630_2
       have HL630_2 := am (show Kd.V (Kd.int .i64) 3 _ w.heap.size _ _ ((rd_T30 l0 x5_1).f2) from Kd.V_mk ul630_2 ge630_2)
       clear hva_ hvn_ hvc_ ge630_2 ul630_2
       have hv630_3 := hcc630 3 _ rfl
       rw [add_field _ _ 3 (by omega)] at hv630_3
       replace hv630_3 := Option.some.inj (hv630_3.symm.trans hx630_3)
       injection hv630_3 with hva_ hvn_ hvc_
       rw [hva_] at ge630_3
       rw [hvc_] at ul630_3
       have HL630_3 := am (show Kd.V (Kd.int .i64) 3 _ w.heap.size _ _ ((rd_T30 l0 x5_1).f3) from Kd.V_mk ul630_3 ge630_3)
       clear hva_ hvn_ hvc_ ge630_3 ul630_3
       have hv630_4 := hcc630 4 _ rfl
       rw [add_field _ _ 4 (by omega)] at hv630_4
       replace hv630_4 := Option.some.inj (hv630_4.symm.trans hx630_4)
       injection hv630_4 with hva_ hvn_ hvc_
       rw [hva_] at ge630_4
       rw [hvc_] at ul630_4
       have HL630_4 := am (show Kd.V (Kd.int .i64) 3 _ w.heap.size _ _ ((rd_T30 l0 x5_1).f4) from Kd.V_mk ul630_4 ge630_4)
       clear hva_ hvn_ hvc_ ge630_4 ul630_4
       clear hcc630 hce630
       have HR630_0 := am hi630_0
       have HC630_0 := am hl630_0
       clear hi630_0 hl630_0
       have HR630_2 := am hi630_2
       have HC630_2 := am hl630_2
       clear hi630_2 hl630_2
       have HR630_3 := am hi630_3
       have HC630_3 := am hl630_3
       clear hi630_3 hl630_3
       have HR630_4 := am hi630_4
       have HC630_4 := am hl630_4
       clear hi630_4 hl630_4
       replace p630 := eq_true p630
       replace q630 := eq_true q630
       refine start_ (n := 15) (S := fun w' => w'.cell? ⟨gb629, 0, none⟩ = some (.slice A1_0 l1_0.length c1_0) ∧ w'.cell? ⟨gb629, 1, none⟩ = some (.int .i64 a1_1) ∧ w'.cell? ⟨gb629, 2, none⟩ = some (.slice A1_2 l1_2.length c1_2) ∧ w'.cell? ⟨gb629, 3, none⟩ = some (.slice A1_3 l1_3.length c1_3) ∧ w'.cell? ⟨gb629, 4, none⟩ = some (.slice A1_4 l1_4.length c1_4) ∧ w'.cell? (ad630.add ((x5_1).toNat * 5)) = some (.slice A630_0 ((rd_T30 l0 x5_1).f0).length c630_0) ∧ w'.cell? ⟨(ad630.add ((x5_1).toNat * 5)).block, (ad630.add ((x5_1).toNat * 5)).off + 1, none⟩ = some (.int .i64 ((rd_T30 l0 x5_1).f1)) ∧ w'.cell? ⟨(ad630.add ((x5_1).toNat * 5)).block, (ad630.add ((x5_1).toNat * 5)).off + 2, none⟩ = some (.slice A630_2 ((rd_T30 l0 x5_1).f2).length c630_2) ∧ w'.cell? ⟨(ad630.add ((x5_1).toNat * 5)).block, (ad630.add ((x5_1).toNat * 5)).off + 3, none⟩ = some (.slice A630_3 ((rd_T30 l0 x5_1).f3).length c630_3) ∧ w'.cell? ⟨(ad630.add ((x5_1).toNat * 5)).block, (ad630.add ((x5_1).toNat * 5)).off + 4, none⟩ = some (.slice A630_4 ((rd_T30 l0 x5_1).f4).length c630_4)) (ds := []) (bb 15 0) (by kernel_rfl) rfl rfl ⟨bc BK629 0, bc BK629 1, bc BK629 2, bc BK629 3, bc BK629 4, hx630_0, hx630_1, hx630_2, hx630_3, hx630_4⟩ (fun hHeld => ?_); refine with_tabW hypercuberef2_Put.tab2 hypercuberef2_Put.bits2 (fun HT_ HW_ => ?_)
       generalize wr.drew = w9 at HO_0 BK629 HB HL630_0 HL630_2 HL630_3 HL630_4 HR630_0 HR630_2 HR630_3 HR630_4 hx630_0 hx630_1 hx630_2 hx630_3 hx630_4 hHeld ⊢
       refine pu (i := 0) (N := some 7) (bb 15 1) HT_ ?_
       refine pu (i := 1) (N := some 8) (bb 15 3) HT_ ?_
       refine pu (i := 2) (N := some 9) (bb 15 7) HT_ ?_
       refine pu (i := 3) (N := some 10) (bb 15 15) HT_ ?_
       refine pu (i := 4) (N := some 11) (bb 15 31) HT_ ?_
       refine pu (i := 5) (N := some 12) (bb 15 63) HT_ ?_
       refine pu (i := 6) (N := some 13) (bb 15 127) HT_ ?_
       refine pu (i := 7) (N := some 14) (bb 15 255) HT_ ?_
       refine pu (i := 8) (N := some 15) (bb 15 511) HT_ ?_
       refine pu (i := 10) (N := some 17) (bb 15 1535) HT_ ?_
       refine tk (i := 9) (N := some 16) (bb 15 2047) HT_ HW_ hHeld ?_
       refine tk (i := 11) (N := some 18) (bb 15 4095) HT_ HW_ hHeld ?_
       refine one_ (i := 12) (N := some 19) (bb 15 8191) rfl rfl (one_of HT_.out (by kernel_rfl)) (by decide) (fun K hK => ?_)
       refine goes_ Try.func18 (by kernel_rfl) rfl #[.slice A630_0 ((rd_T30 l0 x5_1).f0).length c630_0, .slice A1_0 l1_0.length c1_0] (by rfl) rfl rfl (by (try simp only [List.map_toArray, List.map_cons, List.map_nil]); first | done | rfl | (simp only [List.length_drop, List.length_take]; rfl)) ?_
       with_reducible refine (hypercuberef2_Less.calls k1 _ _ ((rd_T30 l0 x5_1).f0) _ _ l1_0 t631 _ ?side1 ?side2 ?side3 ?side4 A7.out).mono ?_
       (case side1 => repeat (first | exact (by repeat (first | (with_reducible exact HR630_0.out) | (with_reducible refine Kd.C_alloc ?_ _) | (with_reducible refine Kd.C_drewN ?_ _) | (with_reducible refine Kd.C_drew ?_) | exact HR630_0.out)) | (with_reducible refine Kd.C_alloc ?_ _) | (with_reducible refine Kd.C_drewN ?_ _) | (with_reducible refine Kd.C_drew ?_)))
       (case side2 => exact HC630_0.out)
       (case side3 => exact Kd.Cw HR1_0.out HB.out)
       (case side4 => exact HC1_0.out)
       rintro e w' ⟨rfl, ⟨nd, rfl⟩⟩
       refine ⟨_, rfl, ?_⟩
       refine hK.out _ _ ⟨bc BK629 0, bc BK629 1, bc BK629 2, bc BK629 3, bc BK629 4, hHeld.2.2.2.2.2.1, hHeld.2.2.2.2.2.2.1, hHeld.2.2.2.2.2.2.2.1, hHeld.2.2.2.2.2.2.2.2.1, hHeld.2.2.2.2.2.2.2.2.2⟩ (fun hHeld => ?_)
       clear hK K
       refine nm ?_
       refine pu (i := 13) (N := some 20) (bb 15 16383) HT_ ?_
       refine pu (i := 14) (N := some 21) (bb 15 32767) HT_ ?_
       refine done_ (done_of HT_.out (by kernel_rfl)) ?_
       try go_wp2
       go_roundg k1
       case measure => have := HK1.out; omega
       case rel => exact ⟨(wrap64 (x5_1 + 1)), (by first | rfl | (simp; done) | (simp [*]; done)), H', ⟨by have := HK1.out; omega⟩, ⟨by (with_reducible repeat (first | apply Kd.V_alloc | apply Kd.V_drewN | apply Kd.V_drew)); exact HO_0.out⟩, ⟨by (with_reducible repeat (first | refine blk_drewN ?_ _ | refine blk_drew ?_ | refine blk_alloc ?_ _)); exact BK629.out⟩, ⟨by repeat (first | (with_reducible first | exact HB.out | apply below_alloc | apply pw_below_drewN | apply below_drew1 | refine below_set ?_ GE629.out) | exact HB.out)⟩⟩
      ·rw [if_neg c8] at H
       have c8b0 : decide (t631 < 0) = false := decide_eq_false c8
       clear c8
       have H' := am H
       clear H
       try go_wp2
       have n0_ := am (Kd.V_drew HO_0.out)
       have n1_ := am (blk_drew BK629.out)
       have n2_ := am (below_drew1 HB.out)
       clear HO_0 BK629 HB
       revert n0_ n1_ n2_
       intro HO_0 BK629 HB
       have p630 : 0 ≤ (x5_1 : Int) := of_decide_eq_true (by first | (with_reducible assumption) | assumption)
       have q630 : x5_1 < (l0.length : Int) := of_decide_eq_true (by first | (with_reducible assumption) | assumption)
       obtain ⟨ad630, A630_0, c630_0, A630_2, c630_2, A630_3, c630_3, A630_4, c630_4, e630, hx630_0, hx630_1, hx630_2, hx630_3, hx630_4, hl630_0, hi630_0, hl630_2, hi630_2, hl630_3, hi630_3, hl630_4, hi630_4⟩ := at_T30 (Kd.V_reads' HO_0.out).2.2 x5_1 p630 q630
       cases e630
       obtain ⟨ce630, hce630, hMe630, hcc630⟩ := Kd.V_get HO_0.out z30 x5_1 p630 (by first | exact q630 | exact of_decide_eq_true (by first | (with_reducible assumption) | assumption) | (have e_ := (Kd.V_reads' HO_0.out).1; omega))
       obtain ⟨ua630_0, uc630_0, ua630_2, uc630_2, ua630_3, uc630_3, ua630_4, uc630_4, rfl, ul630_0, ge630_0, ul630_2, ge630_2, ul630_3, ge630_3, ul630_4, ge630_4⟩ := k30_openF hMe630
       have hv630_0 := hcc630 0 _ rfl
       rw [Nat.add_zero] at hv630_0
       replace hv630_0 := Option.some.inj (hv630_0.symm.trans hx630_0)
       injection hv630_0 with hva_ hvn_ hvc_
       rw [hva_] at ge630_0
       rw [hvc_] at ul630_0
       have HL630_0 := am (show Kd.V (Kd.int .i64) 3 _ w.heap.size _ _ ((rd_T30 l0 x5_1).f0) from Kd.V_mk ul630_0 ge630_0)
       clear hva_ hvn_ hvc_ ge630_0 ul630_0
       have hv630_2 := hcc630 2 _ rfl
       rw [add_field _ _ 2 (by omega)] at hv630_2
       replace hv630_2 := Option.some.inj (hv630_2.symm.trans hx630_2)
       injection hv630_2 with hva_ hvn_ hvc_
       rw [hva_] at ge630_2
       rw [hvc_] at ul630_2
       have HL630_2 := am (show Kd.V (Kd.int .i64) 3 _ w.heap.size _ _ ((rd_T30 l0 x5_1).f2) from Kd.V_mk ul630_2 ge630_2)
       clear hva_ hvn_ hvc_ ge630_2 ul630_2
       have hv630_3 := hcc630 3 _ rfl
       rw [add_field _ _ 3 (by omega)] at hv630_3
       replace hv630_3 := Option.some.inj (hv630_3.symm.trans hx630_3)
       injection hv630_3 with hva_ hvn_ hvc_
       rw [hva_] at ge630_3
       rw [hvc_] at ul630_3
       have HL630_3 := am (show Kd.V (Kd.int .i64) 3 _ w.heap.size _ _ ((rd_T30 l0 x5_1).f3) from Kd.V_mk ul630_3 ge630_3)
       clear hva_ hvn_ hvc_ ge630_3 ul630_3
       have hv630_4 := hcc630 4 _ rfl
       rw [add_field _ _ 4 (by omega)] at hv630_4
       replace hv630_4 := Option.some.inj (hv630_4.symm.trans hx630_4)
       injection hv630_4 with hva_ hvn_ hvc_
       rw [hva_] at ge630_4
       rw [hvc_] at ul630_4
       have HL630_4 := am (show Kd.V (Kd.int .i64) 3 _ w.heap.size _ _ ((rd_T30 l0 x5_1).f4) from Kd.V_mk ul630_4 ge630_4)
       clear hva_ hvn_ hvc_ ge630_4 ul630_4
       clear hcc630 hce630
       have HR630_0 := am hi630_0
       have HC630_0 := am hl630_0
       clear hi630_0 hl630_0
       have HR630_2 := am hi630_2
       have HC630_2 := am hl630_2
       clear hi630_2 hl630_2
       have HR630_3 := am hi630_3
       have HC630_3 := am hl630_3
       clear hi630_3 hl630_3
       have HR630_4 := am hi630_4
       have HC630_4 := am hl630_4
       clear hi630_4 hl630_4
       replace p630 := eq_true p630
       replace q630 := eq_true q630
       refine start_ (n := 15) (S := fun w' => w'.cell? ⟨gb629, 0, none⟩ = some (.slice A1_0 l1_0.length c1_0) ∧ w'.cell? ⟨gb629, 1, none⟩ = some (.int .i64 a1_1) ∧ w'.cell? ⟨gb629, 2, none⟩ = some (.slice A1_2 l1_2.length c1_2) ∧ w'.cell? ⟨gb629, 3, none⟩ = some (.slice A1_3 l1_3.length c1_3) ∧ w'.cell? ⟨gb629, 4, none⟩ = some (.slice A1_4 l1_4.length c1_4) ∧ w'.cell? (ad630.add ((x5_1).toNat * 5)) = some (.slice A630_0 ((rd_T30 l0 x5_1).f0).length c630_0) ∧ w'.cell? ⟨(ad630.add ((x5_1).toNat * 5)).block, (ad630.add ((x5_1).toNat * 5)).off + 1, none⟩ = some (.int .i64 ((rd_T30 l0 x5_1).f1)) ∧ w'.cell? ⟨(ad630.add ((x5_1).toNat * 5)).block, (ad630.add ((x5_1).toNat * 5)).off + 2, none⟩ = some (.slice A630_2 ((rd_T30 l0 x5_1).f2).length c630_2) ∧ w'.cell? ⟨(ad630.add ((x5_1).toNat * 5)).block, (ad630.add ((x5_1).toNat * 5)).off + 3, none⟩ = some (.slice A630_3 ((rd_T30 l0 x5_1).f3).length c630_3) ∧ w'.cell? ⟨(ad630.add ((x5_1).toNat * 5)).block, (ad630.add ((x5_1).toNat * 5)).off + 4, none⟩ = some (.slice A630_4 ((rd_T30 l0 x5_1).f4).length c630_4)) (ds := []) (bb 15 0) (by kernel_rfl) rfl rfl ⟨bc BK629 0, bc BK629 1, bc BK629 2, bc BK629 3, bc BK629 4, hx630_0, hx630_1, hx630_2, hx630_3, hx630_4⟩ (fun hHeld => ?_); refine with_tabW hypercuberef2_Put.tab2 hypercuberef2_Put.bits2 (fun HT_ HW_ => ?_)
       generalize wr.drew = w10 at HO_0 BK629 HB HL630_0 HL630_2 HL630_3 HL630_4 HR630_0 HR630_2 HR630_3 HR630_4 hx630_0 hx630_1 hx630_2 hx630_3 hx630_4 hHeld ⊢
       refine pu (i := 0) (N := some 7) (bb 15 1) HT_ ?_
       refine pu (i := 1) (N := some 8) (bb 15 3) HT_ ?_
       refine pu (i := 2) (N := some 9) (bb 15 7) HT_ ?_
       refine pu (i := 3) (N := some 10) (bb 15 15) HT_ ?_
       refine pu (i := 4) (N := some 11) (bb 15 31) HT_ ?_
       refine pu (i := 5) (N := some 12) (bb 15 63) HT_ ?_
       refine pu (i := 6) (N := some 13) (bb 15 127) HT_ ?_
       refine pu (i := 7) (N := some 14) (bb 15 255) HT_ ?_
       refine pu (i := 8) (N := some 15) (bb 15 511) HT_ ?_
       refine pu (i := 10) (N := some 17) (bb 15 1535) HT_ ?_
       refine tk (i := 9) (N := some 16) (bb 15 2047) HT_ HW_ hHeld ?_
       refine tk (i := 11) (N := some 18) (bb 15 4095) HT_ HW_ hHeld ?_
       refine one_ (i := 12) (N := some 19) (bb 15 8191) rfl rfl (one_of HT_.out (by kernel_rfl)) (by decide) (fun K hK => ?_)
       refine goes_ Try.func18 (by kernel_rfl) rfl #[.slice A630_0 ((rd_T30 l0 x5_1).f0).length c630_0, .slice A1_0 l1_0.length c1_0] (by rfl) rfl rfl (by (try simp only [List.map_toArray, List.map_cons, List.map_nil]); first | done | rfl | (simp only [List.length_drop, List.length_take]; rfl)) ?_
       with_reducible refine (hypercuberef2_Less.calls k1 _ _ ((rd_T30 l0 x5_1).f0) _ _ l1_0 t631 _ ?side1 ?side2 ?side3 ?side4 A7.out).mono ?_
       (case side1 => repeat (first | exact (by repeat (first | (with_reducible exact HR630_0.out) | (with_reducible refine Kd.C_alloc ?_ _) | (with_reducible refine Kd.C_drewN ?_ _) | (with_reducible refine Kd.C_drew ?_) | exact HR630_0.out)) | (with_reducible refine Kd.C_alloc ?_ _) | (with_reducible refine Kd.C_drewN ?_ _) | (with_reducible refine Kd.C_drew ?_)))
       (case side2 => exact HC630_0.out)
       (case side3 => exact Kd.Cw HR1_0.out HB.out)
       (case side4 => exact HC1_0.out)
       rintro e w' ⟨rfl, ⟨nd, rfl⟩⟩
       refine ⟨_, rfl, ?_⟩
       refine hK.out _ _ ⟨bc BK629 0, bc BK629 1, bc BK629 2, bc BK629 3, bc BK629 4, hHeld.2.2.2.2.2.1, hHeld.2.2.2.2.2.2.1, hHeld.2.2.2.2.2.2.2.1, hHeld.2.2.2.2.2.2.2.2.1, hHeld.2.2.2.2.2.2.2.2.2⟩ (fun hHeld => ?_)
       clear hK K
       refine nm ?_
       refine pu (i := 13) (N := some 20) (bb 15 16383) HT_ ?_
       refine pu (i := 14) (N := some 21) (bb 15 32767) HT_ ?_
       refine done_ (done_of HT_.out (by kernel_rfl)) ?_
       try go_wp2
       go_meet
       case rel => exact ⟨_, (x5_1), (by first | rfl | (simp; done) | (simp [*]; done)), H', ⟨by have := HK1.out; first | omega | exact Nat.le_refl _⟩, ⟨by (with_reducible repeat (first | apply Kd.V_alloc | apply Kd.V_drewN | apply Kd.V_drew)); exact HO_0.out⟩, ⟨by (with_reducible repeat (first | refine blk_drewN ?_ _ | refine blk_drew ?_ | refine blk_alloc ?_ _)); exact BK629.out⟩, ⟨by repeat (first | (with_reducible first | exact HB.out | apply below_alloc | apply pw_below_drewN | apply below_drew1 | refine below_set ?_ GE629.out) | exact HB.out)⟩⟩
     ·rw [if_neg c6] at H
      exact absurd H (by simp)
    ·rw [if_neg c5] at H
     have c5b0 : decide (x5_1 < (l0.length : Int)) = false := decide_eq_false c5
     clear c5
     (first | rw [c5b0] | (simp only [i64_w, i32_w]; rw [c5b0]) | skip)
     have H' := am H
     clear H
     try go_wp2
     have n0_ := am (Kd.V_drew HO_0.out)
     have n1_ := am (blk_drew BK629.out)
     have n2_ := am (below_drew1 HB.out)
     clear HO_0 BK629 HB
     revert n0_ n1_ n2_
     intro HO_0 BK629 HB
     refine start_ (n := 15) (S := fun w' => True) (ds := []) (bb 15 0) (by kernel_rfl) rfl rfl trivial (fun hHeld => ?_); refine with_tabW hypercuberef2_Put.tab2 hypercuberef2_Put.bits2 (fun HT_ HW_ => ?_)
     generalize wr.drew = w11 at HO_0 BK629 HB hHeld ⊢
     refine pu (i := 0) (N := some 7) (bb 15 1) HT_ ?_
     refine pu (i := 1) (N := some 8) (bb 15 3) HT_ ?_
     refine pu (i := 2) (N := some 9) (bb 15 7) HT_ ?_
     refine pu (i := 3) (N := some 10) (bb 15 15) HT_ ?_
     refine pu (i := 4) (N := some 11) (bb 15 31) HT_ ?_
     refine pn (i := 5) (N := some 12) (bb 15 63) HT_ ?_
     refine pn (i := 6) (N := some 13) (bb 15 127) HT_ ?_
     refine pn (i := 7) (N := some 14) (bb 15 255) HT_ ?_
     refine pn (i := 8) (N := some 15) (bb 15 511) HT_ ?_
     refine pn (i := 9) (N := some 16) (bb 15 1023) HT_ ?_
     refine pn (i := 10) (N := some 17) (bb 15 2047) HT_ ?_
     refine pn (i := 11) (N := some 18) (bb 15 4095) HT_ ?_
     refine pn (i := 12) (N := some 19) (bb 15 8191) HT_ ?_
     refine pn (i := 13) (N := some 20) (bb 15 16383) HT_ ?_
     refine pu (i := 14) (N := some 21) (bb 15 32767) HT_ ?_
     refine done_ (done_of HT_.out (by kernel_rfl)) ?_
     try go_wp2
     go_meet
     case rel => exact ⟨_, (x5_1), (by first | rfl | (simp; done) | (simp [*]; done)), H', ⟨by have := HK1.out; first | omega | exact Nat.le_refl _⟩, ⟨by (with_reducible repeat (first | apply Kd.V_alloc | apply Kd.V_drewN | apply Kd.V_drew)); exact HO_0.out⟩, ⟨by (with_reducible repeat (first | refine blk_drewN ?_ _ | refine blk_drew ?_ | refine blk_alloc ?_ _)); exact BK629.out⟩, ⟨by repeat (first | (with_reducible first | exact HB.out | apply below_alloc | apply pw_below_drewN | apply below_drew1 | refine below_set ?_ GE629.out) | exact HB.out)⟩⟩
 case rest =>
  clear HC3
  try clear c1
  try clear p2
  try clear c5
  try clear c5b0
  try clear c6
  try clear c6b0
  try clear p6
  try clear q6
  try clear hx6
  try clear c8
  try clear c8b0
  try clear hx630_0
  try clear hx630_1
  try clear hx630_2
  try clear hx630_3
  try clear hx630_4
  try clear p2
  try clear p630
  try clear q630
  obtain ⟨kq, x5_2, rfl, HA, HJ2, HO_0, BK629, HB⟩ := hcut
  cases kq with
  | zero => exact absurd HA.out (by simp [hypercuberef2_Put.j1])
  | succ kj2 =>
   have H := HA.out
   clear HA
   simp only [hypercuberef2_Put.j1] at H
   have HC12 := am H
   clear H
   go_upto_region 4 with (fail)
   go_cut [38] (fun v38 wc => ∃ (kq : Nat) (x38_11 : Bool), v38 = .bool x38_11 ∧ Aside0 (hypercuberef2_Put.j2 kq l0 x5_2 x38_11 l1_0 a1_1 l1_2 l1_3 l1_4 = some r) ∧ Aside0 (kq ≤ kj2) ∧ Aside0 (Kd.V k30 30 wc w.heap.size (fun k_ => (P0_ k_ ∨ w.heap.size ≤ k_) ∧ k_ ≠ gb629) (.slice A0 l0.length c0) l0) ∧ Aside0 (wc.heap[gb629]? = some (.cells #[(.slice A1_0 l1_0.length c1_0), .int .i64 a1_1, (.slice A1_2 l1_2.length c1_2), (.slice A1_3 l1_3.length c1_3), (.slice A1_4 l1_4.length c1_4)] 30 (0, 0))) ∧ Aside0 (Below w.heap.size w wc))
   case first =>
    have H := HC12.out
    clear HC12
    by_cases c13 : x5_2 < (l0.length : Int)
    ·rw [if_pos c13] at H
     have c13b0 : decide (x5_2 < (l0.length : Int)) = true := decide_eq_true c13
     clear c13
     (first | rw [c13b0] | (simp only [i64_w, i32_w]; rw [c13b0]) | skip)
     by_cases c14 : 0 ≤ x5_2
     ·rw [if_pos c14] at H
      have c14b0 : decide (0 ≤ x5_2) = true := decide_eq_true c14
      clear c14
      replace H := Option.bind_eq_some_iff.mp H
      obtain ⟨t633, A150, H⟩ := H
      replace H : (hypercuberef2_Put.j2 kj2 l0 x5_2 (t633 == 0) l1_0 a1_1 l1_2 l1_3 l1_4) = some r := H
      have A15 := am A150
      clear A150
      have H' := am H
      clear H
      try go_wp2
      have n0_ := am (Kd.V_drew HO_0.out)
      have n1_ := am (blk_drew BK629.out)
      have n2_ := am (below_drew1 HB.out)
      clear HO_0 BK629 HB
      revert n0_ n1_ n2_
      intro HO_0 BK629 HB
      have p632 : 0 ≤ (x5_2 : Int) := of_decide_eq_true (by first | (with_reducible assumption) | assumption)
      have q632 : x5_2 < (l0.length : Int) := of_decide_eq_true (by first | (with_reducible assumption) | assumption)
      obtain ⟨ad632, A632_0, c632_0, A632_2, c632_2, A632_3, c632_3, A632_4, c632_4, e632, hx632_0, hx632_1, hx632_2, hx632_3, hx632_4, hl632_0, hi632_0, hl632_2, hi632_2, hl632_3, hi632_3, hl632_4, hi632_4⟩ := at_T30 (Kd.V_reads' HO_0.out).2.2 x5_2 p632 q632
      cases e632
      obtain ⟨ce632, hce632, hMe632, hcc632⟩ := Kd.V_get HO_0.out z30 x5_2 p632 (by first | exact q632 | exact of_decide_eq_true (by first | (with_reducible assumption) | assumption) | (have e_ := (Kd.V_reads' HO_0.out).1; omega))
      obtain ⟨ua632_0, uc632_0, ua632_2, uc632_2, ua632_3, uc632_3, ua632_4, uc632_4, rfl, ul632_0, ge632_0, ul632_2, ge632_2, ul632_3, ge632_3, ul632_4, ge632_4⟩ := k30_openF hMe632
      have hv632_0 := hcc632 0 _ rfl
      rw [Nat.add_zero] at hv632_0
      replace hv632_0 := Option.some.inj (hv632_0.symm.trans hx632_0)
      injection hv632_0 with hva_ hvn_ hvc_
      rw [hva_] at ge632_0
      rw [hvc_] at ul632_0
      have HL632_0 := am (show Kd.V (Kd.int .i64) 3 _ w.heap.size _ _ ((rd_T30 l0 x5_2).f0) from Kd.V_mk ul632_0 ge632_0)
      clear hva_ hvn_ hvc_ ge632_0 ul632_0
      have hv632_2 := hcc632 2 _ rfl
      rw [add_field _ _ 2 (by omega)] at hv632_2
      replace hv632_2 := Option.some.inj (hv632_2.symm.trans hx632_2)
      injection hv632_2 with hva_ hvn_ hvc_
      rw [hva_] at ge632_2
      rw [hvc_] at ul632_2
      have HL632_2 := am (show Kd.V (Kd.int .i64) 3 _ w.heap.size _ _ ((rd_T30 l0 x5_2).f2) from Kd.V_mk ul632_2 ge632_2)
      clear hva_ hvn_ hvc_ ge632_2 ul632_2
      have hv632_3 := hcc632 3 _ rfl
      rw [add_field _ _ 3 (by omega)] at hv632_3
      replace hv632_3 := Option.some.inj (hv632_3.symm.trans hx632_3)
      injection hv632_3 with hva_ hvn_ hvc_
      rw [hva_] at ge632_3
      rw [hvc_] at ul632_3
      have HL632_3 := am (show Kd.V (Kd.int .i64) 3 _ w.heap.size _ _ ((rd_T30 l0 x5_2).f3) from Kd.V_mk ul632_3 ge632_3)
      clear hva_ hvn_ hvc_ ge632_3 ul632_3
      have hv632_4 := hcc632 4 _ rfl
      rw [add_field _ _ 4 (by omega)] at hv632_4
      replace hv632_4 := Option.some.inj (hv632_4.symm.trans hx632_4)
      injection hv632_4 with hva_ hvn_ hvc_
      rw [hva_] at ge632_4
      rw [hvc_] at ul632_4
      have HL632_4 := am (show Kd.V (Kd.int .i64) 3 _ w.heap.size _ _ ((rd_T30 l0 x5_2).f4) from Kd.V_mk ul632_4 ge632_4)
      clear hva_ hvn_ hvc_ ge632_4 ul632_4
      clear hcc632 hce632
      have HR632_0 := am hi632_0
      have HC632_0 := am hl632_0
      clear hi632_0 hl632_0
      have HR632_2 := am hi632_2
      have HC632_2 := am hl632_2
      clear hi632_2 hl632_2
      have HR632_3 := am hi632_3
      have HC632_3 := am hl632_3
      clear hi632_3 hl632_3
      have HR632_4 := am hi632_4
      have HC632_4 := am hl632_4
      clear hi632_4 hl632_4
      replace p632 := eq_true p632
      replace q632 := eq_true q632
      refine start_ (n := 15) (S := fun w' => w'.cell? ⟨gb629, 0, none⟩ = some (.slice A1_0 l1_0.length c1_0) ∧ w'.cell? ⟨gb629, 1, none⟩ = some (.int .i64 a1_1) ∧ w'.cell? ⟨gb629, 2, none⟩ = some (.slice A1_2 l1_2.length c1_2) ∧ w'.cell? ⟨gb629, 3, none⟩ = some (.slice A1_3 l1_3.length c1_3) ∧ w'.cell? ⟨gb629, 4, none⟩ = some (.slice A1_4 l1_4.length c1_4) ∧ w'.cell? (ad632.add ((x5_2).toNat * 5)) = some (.slice A632_0 ((rd_T30 l0 x5_2).f0).length c632_0) ∧ w'.cell? ⟨(ad632.add ((x5_2).toNat * 5)).block, (ad632.add ((x5_2).toNat * 5)).off + 1, none⟩ = some (.int .i64 ((rd_T30 l0 x5_2).f1)) ∧ w'.cell? ⟨(ad632.add ((x5_2).toNat * 5)).block, (ad632.add ((x5_2).toNat * 5)).off + 2, none⟩ = some (.slice A632_2 ((rd_T30 l0 x5_2).f2).length c632_2) ∧ w'.cell? ⟨(ad632.add ((x5_2).toNat * 5)).block, (ad632.add ((x5_2).toNat * 5)).off + 3, none⟩ = some (.slice A632_3 ((rd_T30 l0 x5_2).f3).length c632_3) ∧ w'.cell? ⟨(ad632.add ((x5_2).toNat * 5)).block, (ad632.add ((x5_2).toNat * 5)).off + 4, none⟩ = some (.slice A632_4 ((rd_T30 l0 x5_2).f4).length c632_4)) (ds := []) (bb 15 0) (by kernel_rfl) rfl rfl ⟨bc BK629 0, bc BK629 1, bc BK629 2, bc BK629 3, bc BK629 4, hx632_0, hx632_1, hx632_2, hx632_3, hx632_4⟩ (fun hHeld => ?_); refine with_tabW hypercuberef2_Put.tab4 hypercuberef2_Put.bits4 (fun HT_ HW_ => ?_)
      generalize wc.drew = w16 at HO_0 BK629 HB HL632_0 HL632_2 HL632_3 HL632_4 HR632_0 HR632_2 HR632_3 HR632_4 hx632_0 hx632_1 hx632_2 hx632_3 hx632_4 hHeld ⊢
      refine pu (i := 0) (N := some 24) (bb 15 1) HT_ ?_
      refine pu (i := 1) (N := some 25) (bb 15 3) HT_ ?_
      refine pu (i := 2) (N := some 26) (bb 15 7) HT_ ?_
      refine pu (i := 3) (N := some 27) (bb 15 15) HT_ ?_
      refine pu (i := 4) (N := some 28) (bb 15 31) HT_ ?_
      refine pu (i := 5) (N := some 29) (bb 15 63) HT_ ?_
      refine pu (i := 6) (N := some 30) (bb 15 127) HT_ ?_
      refine pu (i := 7) (N := some 31) (bb 15 255) HT_ ?_
      refine pu (i := 8) (N := some 32) (bb 15 511) HT_ ?_
      refine pu (i := 10) (N := some 34) (bb 15 1535) HT_ ?_
      refine tk (i := 9) (N := some 33) (bb 15 2047) HT_ HW_ hHeld ?_
      refine tk (i := 11) (N := some 35) (bb 15 4095) HT_ HW_ hHeld ?_
      refine one_ (i := 12) (N := some 36) (bb 15 8191) rfl rfl (one_of HT_.out (by kernel_rfl)) (by decide) (fun K hK => ?_)
      refine goes_ Try.func18 (by kernel_rfl) rfl #[.slice A632_0 ((rd_T30 l0 x5_2).f0).length c632_0, .slice A1_0 l1_0.length c1_0] (by rfl) rfl rfl (by (try simp only [List.map_toArray, List.map_cons, List.map_nil]); first | done | rfl | (simp only [List.length_drop, List.length_take]; rfl)) ?_
      with_reducible refine (hypercuberef2_Less.calls kj2 _ _ ((rd_T30 l0 x5_2).f0) _ _ l1_0 t633 _ ?side1 ?side2 ?side3 ?side4 A15.out).mono ?_
      (case side1 => repeat (first | exact (by repeat (first | (with_reducible exact HR632_0.out) | (with_reducible refine Kd.C_alloc ?_ _) | (with_reducible refine Kd.C_drewN ?_ _) | (with_reducible refine Kd.C_drew ?_) | exact HR632_0.out)) | (with_reducible refine Kd.C_alloc ?_ _) | (with_reducible refine Kd.C_drewN ?_ _) | (with_reducible refine Kd.C_drew ?_)))
      (case side2 => exact HC632_0.out)
      (case side3 => exact Kd.Cw HR1_0.out HB.out)
      (case side4 => exact HC1_0.out)
      rintro e w' ⟨rfl, ⟨nd, rfl⟩⟩
      refine ⟨_, rfl, ?_⟩
      refine hK.out _ _ ⟨bc BK629 0, bc BK629 1, bc BK629 2, bc BK629 3, bc BK629 4, hHeld.2.2.2.2.2.1, hHeld.2.2.2.2.2.2.1, hHeld.2.2.2.2.2.2.2.1, hHeld.2.2.2.2.2.2.2.2.1, hHeld.2.2.2.2.2.2.2.2.2⟩ (fun hHeld => ?_)
      clear hK K
      refine nm ?_
      refine pu (i := 13) (N := some 37) (bb 15 16383) HT_ ?_
      refine pu (i := 14) (N := some 38) (bb 15 32767) HT_ ?_
      refine done_ (done_of HT_.out (by kernel_rfl)) ?_
      try go_wp2
      go_meet
      case rel => exact ⟨_, ((t633 == 0)), (by first | rfl | (simp; done) | (simp [*]; done)), H', ⟨by have := HJ2.out; first | omega | exact Nat.le_refl _⟩, ⟨by (with_reducible repeat (first | apply Kd.V_alloc | apply Kd.V_drewN | apply Kd.V_drew)); exact HO_0.out⟩, ⟨by (with_reducible repeat (first | refine blk_drewN ?_ _ | refine blk_drew ?_ | refine blk_alloc ?_ _)); exact BK629.out⟩, ⟨by repeat (first | (with_reducible first | exact HB.out | apply below_alloc | apply pw_below_drewN | apply below_drew1 | refine below_set ?_ GE629.out) | exact HB.out)⟩⟩
     ·rw [if_neg c14] at H
      exact absurd H (by simp)
    ·rw [if_neg c13] at H
     have c13b0 : decide (x5_2 < (l0.length : Int)) = false := decide_eq_false c13
     clear c13
     (first | rw [c13b0] | (simp only [i64_w, i32_w]; rw [c13b0]) | skip)
     have H' := am H
     clear H
     try go_wp2
     have n0_ := am (Kd.V_drew HO_0.out)
     have n1_ := am (blk_drew BK629.out)
     have n2_ := am (below_drew1 HB.out)
     clear HO_0 BK629 HB
     revert n0_ n1_ n2_
     intro HO_0 BK629 HB
     refine start_ (n := 15) (S := fun w' => True) (ds := []) (bb 15 0) (by kernel_rfl) rfl rfl trivial (fun hHeld => ?_); refine with_tabW hypercuberef2_Put.tab4 hypercuberef2_Put.bits4 (fun HT_ HW_ => ?_)
     generalize wc.drew = w17 at HO_0 BK629 HB hHeld ⊢
     refine pu (i := 0) (N := some 24) (bb 15 1) HT_ ?_
     refine pu (i := 1) (N := some 25) (bb 15 3) HT_ ?_
     refine pu (i := 2) (N := some 26) (bb 15 7) HT_ ?_
     refine pu (i := 3) (N := some 27) (bb 15 15) HT_ ?_
     refine pu (i := 4) (N := some 28) (bb 15 31) HT_ ?_
     refine pn (i := 5) (N := some 29) (bb 15 63) HT_ ?_
     refine pn (i := 6) (N := some 30) (bb 15 127) HT_ ?_
     refine pn (i := 7) (N := some 31) (bb 15 255) HT_ ?_
     refine pn (i := 8) (N := some 32) (bb 15 511) HT_ ?_
     refine pn (i := 9) (N := some 33) (bb 15 1023) HT_ ?_
     refine pn (i := 10) (N := some 34) (bb 15 2047) HT_ ?_
     refine pn (i := 11) (N := some 35) (bb 15 4095) HT_ ?_
     refine pn (i := 12) (N := some 36) (bb 15 8191) HT_ ?_
     refine pn (i := 13) (N := some 37) (bb 15 16383) HT_ ?_
     refine pu (i := 14) (N := some 38) (bb 15 32767) HT_ ?_
     refine done_ (done_of HT_.out (by kernel_rfl)) ?_
     try go_wp2
     go_meet
     case rel => exact ⟨_, (false), (by first | rfl | (simp; done) | (simp [*]; done)), H', ⟨by have := HJ2.out; first | omega | exact Nat.le_refl _⟩, ⟨by (with_reducible repeat (first | apply Kd.V_alloc | apply Kd.V_drewN | apply Kd.V_drew)); exact HO_0.out⟩, ⟨by (with_reducible repeat (first | refine blk_drewN ?_ _ | refine blk_drew ?_ | refine blk_alloc ?_ _)); exact BK629.out⟩, ⟨by repeat (first | (with_reducible first | exact HB.out | apply below_alloc | apply pw_below_drewN | apply below_drew1 | refine below_set ?_ GE629.out) | exact HB.out)⟩⟩
   case rest =>
    clear HC12
    try clear c1
    try clear p2
    try clear c5
    try clear c5b0
    try clear c6
    try clear c6b0
    try clear p6
    try clear q6
    try clear hx6
    try clear c8
    try clear c8b0
    try clear c13
    try clear c13b0
    try clear c14
    try clear c14b0
    try clear hx630_0
    try clear hx630_1
    try clear hx630_2
    try clear hx630_3
    try clear hx630_4
    try clear hx632_0
    try clear hx632_1
    try clear hx632_2
    try clear hx632_3
    try clear hx632_4
    try clear p2
    try clear p6
    try clear p630
    try clear p632
    try clear q6
    try clear q630
    try clear q632
    obtain ⟨kq, x38_11, rfl, HA, HJ11, HO_0, BK629, HB⟩ := hcut
    cases kq with
    | zero => exact absurd HA.out (by simp [hypercuberef2_Put.j2])
    | succ kj11 =>
     have H := HA.out
     clear HA
     simp only [hypercuberef2_Put.j2] at H
     by_cases c18 : x38_11 = true
     ·subst c18
      have H1 : ((some (([] : List (S30)) : List (S30))).bind fun y634 => (if y634.length + l0.length < 1353245080339 then ((some (y634 ++ l0 : List (S30))).bind fun y637 => (if 0 ≤ x5_2 then (if x5_2 < (l0.length : Int) then ((hypercuberef2_Join.f kj11 ((rd_T30 l0 x5_2).f0) ((rd_T30 l0 x5_2).f1) ((rd_T30 l0 x5_2).f2) ((rd_T30 l0 x5_2).f3) ((rd_T30 l0 x5_2).f4) l1_0 a1_1 l1_2 l1_3 l1_4).bind fun bt641 => (if x5_2 < (y637.length : Int) then (some (y637.set (x5_2 : Int).toNat (⟨bt641.1, bt641.2.1, bt641.2.2.1, bt641.2.2.2.1, bt641.2.2.2.2⟩ : S30))) else (none))) else (none)) else (none))) else (none))) = some r := by rw [if_pos rfl] at H; exact H
      clear H
      have H := H1
      clear H1
      obtain ⟨y634, hy634⟩ : ∃ y_ : List (S30), y_ = (([] : List (S30))) := ⟨_, rfl⟩
      replace H : (if y634.length + l0.length < 1353245080339 then ((some (y634 ++ l0 : List (S30))).bind fun y637 => (if 0 ≤ x5_2 then (if x5_2 < (l0.length : Int) then ((hypercuberef2_Join.f kj11 ((rd_T30 l0 x5_2).f0) ((rd_T30 l0 x5_2).f1) ((rd_T30 l0 x5_2).f2) ((rd_T30 l0 x5_2).f3) ((rd_T30 l0 x5_2).f4) l1_0 a1_1 l1_2 l1_3 l1_4).bind fun bt641 => (if x5_2 < (y637.length : Int) then (some (y637.set (x5_2 : Int).toNat (⟨bt641.1, bt641.2.1, bt641.2.2.1, bt641.2.2.2.1, bt641.2.2.2.2⟩ : S30))) else (none))) else (none)) else (none))) else (none)) = some r := by first | (rw [hy634]; with_reducible exact H) | (have H2_ := (Option.bind_some _ _).symm.trans H; rw [hy634]; with_reducible exact H2_) | (have H2_ := (Option.bind_some _ _).symm.trans H; with_reducible exact H2_) | with_reducible exact H | (rw [hy634]; exact H) | exact H
      have Ny634 := am hy634
      clear hy634
      by_cases c19 : y634.length + l0.length < 1353245080339
      ·rw [if_pos c19] at H
       have LMc19 := am c19
       clear c19
       obtain ⟨y637, hy637⟩ : ∃ y_ : List (S30), y_ = (y634 ++ l0) := ⟨_, rfl⟩
       replace H : (if 0 ≤ x5_2 then (if x5_2 < (l0.length : Int) then ((hypercuberef2_Join.f kj11 ((rd_T30 l0 x5_2).f0) ((rd_T30 l0 x5_2).f1) ((rd_T30 l0 x5_2).f2) ((rd_T30 l0 x5_2).f3) ((rd_T30 l0 x5_2).f4) l1_0 a1_1 l1_2 l1_3 l1_4).bind fun bt641 => (if x5_2 < (y637.length : Int) then (some (y637.set (x5_2 : Int).toNat (⟨bt641.1, bt641.2.1, bt641.2.2.1, bt641.2.2.2.1, bt641.2.2.2.2⟩ : S30))) else (none))) else (none)) else (none)) = some r := by first | (rw [hy637]; with_reducible exact H) | (have H2_ := (Option.bind_some _ _).symm.trans H; rw [hy637]; with_reducible exact H2_) | (have H2_ := (Option.bind_some _ _).symm.trans H; with_reducible exact H2_) | with_reducible exact H | (rw [hy637]; exact H) | exact H
       have Ny637 := am hy637
       clear hy637
       by_cases c20 : 0 ≤ x5_2
       ·rw [if_pos c20] at H
        have c20b0 : decide (0 ≤ x5_2) = true := decide_eq_true c20
        clear c20
        by_cases c21 : x5_2 < (l0.length : Int)
        ·rw [if_pos c21] at H
         have c21b0 : decide (x5_2 < (l0.length : Int)) = true := decide_eq_true c21
         clear c21
         replace H := Option.bind_eq_some_iff.mp H
         obtain ⟨⟨t641, t644, t645, t648, t651⟩, A220, H⟩ := H
         replace H : (if x5_2 < (y637.length : Int) then (some (y637.set (x5_2 : Int).toNat (⟨t641, t644, t645, t648, t651⟩ : S30))) else (none)) = some r := H
         have A22 := am A220
         clear A220
         by_cases c23 : x5_2 < (y637.length : Int)
         ·rw [if_pos c23] at H
          have c23b0 : decide (x5_2 < (y637.length : Int)) = true := decide_eq_true c23
          clear c23
          obtain ⟨y654, hy654⟩ : ∃ y_ : List (S30), y_ = (y637.set (x5_2 : Int).toNat (⟨t641, t644, t645, t648, t651⟩ : S30)) := ⟨_, rfl⟩
          replace H : (some y654) = some r := by rw [hy654]; with_reducible exact H
          have Ny654 := am hy654
          clear hy654
          obtain rfl := Option.some.inj H
          try go_wp2_with (first | ((with_reducible refine gate_dst (N := 39) rfl ?_); refine Kd.N_lit k30 _ 30 ?hg (N' := 39) ?hd (xs := ([] : List (S30))) (inner := []) (ok := (fun k_ => (P0_ k_ ∨ w.heap.size ≤ k_) ∧ k_ ≠ gb629)) (okp := (fun k_ => (P0_ k_ ∨ w.heap.size ≤ k_) ∧ k_ ≠ gb629)) ?hr ?hp (fun _ hk => hk) ((show ∀ k_, wc.heap.size ≤ k_ → (fun k_ => (P0_ k_ ∨ w.heap.size ≤ k_) ∧ k_ ≠ gb629) k_ from fun k_ hk => ⟨(.inr (Nat.le_trans (below_size (wmv HB.out)) hk)), Kd.freshB (bmv BK629.out) k_ hk⟩) _ (Nat.le_refl _)) (Below.refl _ _) (Nat.le_refl _) (by simp) ?_; (case hd => rfl); (case hg => rfl); (case hr => first | (go_simp; done) | (go_simp; rfl)); (case hp => exact (Reps.none _ _)); intro v635 w25 ho26 hb hg_ hnew_; clear hg_ hnew_; (first | rw [← Ny634.out] at ho26 | (simp only [Int.reduceToNat] at ho26; rw [← Ny634.out] at ho26)); have n0_ := am (Kd.V_elder' (Kd.V_mv HO_0.out) (by first | exact Kd.N_base ho26 | exact Kd.S_base ho26 | exact Kd.R_base ho26) hb); have n1_ := am (Kd.N_lower ho26 (below_size (wmv HB.out))); have n2_ := am (blk_below (bmv BK629.out) hb); have n3_ := am (below_step (wmv HB.out) hb); clear HO_0 BK629 HB; revert n0_ n1_ n2_ n3_; intro HO_0 HO636 BK629 HB; clear hb ho26) | ((with_reducible refine gate_builtin (b := .append) (xs := #[.tmp 39, .tmp 40]) rfl ?_); at_builtin; refine Kd.N_append_rows k30 (w0 := w) w.heap.size rfl (.tmp 39) (.tmp 40) 28 30 (.agg #[(.slice none 0 0), (.int .i64 0), (.slice none 0 0), (.slice none 0 0), (.slice none 0 0)]) 104 rfl Try.underlying28 info30 rfl (by decide) (by omega) v635 y634 l0 _ _ _ (fun k_ => (P0_ k_ ∨ w.heap.size ≤ k_) ∧ k_ ≠ gb629) (fun k_ => ((fun k_ => (P0_ k_ ∨ w.heap.size ≤ k_) ∧ k_ ≠ gb629)) k_ ∧ some k_ ≠ (v635 : Value).ownBlock) rfl rfl ?aO ?aR (fun _ hk => hk) ?aF ?aB ?aS ?aL ?_; (case aR => exact (by skip; exact Kd.V_F (Kd.V_mono (ok' := (fun k_ => ((fun k_ => (P0_ k_ ∨ w.heap.size ≤ k_) ∧ k_ ≠ gb629)) k_ ∧ some k_ ≠ (v635 : Value).ownBlock)) (HO_0.out) (fun k_ hk => ⟨⟨hk.1.1, hk.1.2⟩, hk.2⟩)))); (case aB => exact (wmv HB.out)); (case aF => exact (fun k_ hk => ⟨(.inr (Nat.le_trans (below_size (wmv HB.out)) hk)), Kd.freshB (bmv BK629.out) k_ hk⟩)); (case aO => exact (Kd.N_mv HO636.out)); (case aS => exact (below_size (wmv HB.out))); (case aL => have := LMc19.out; omega); intro v638 w27 ho hb hg hat; rw [← Ny637.out] at ho; have n0_ := am (Kd.V_afterv (ok := (fun k_ => (P0_ k_ ∨ w.heap.size ≤ k_) ∧ k_ ≠ gb629)) (Kd.V_mv HO_0.out) hg hat); have n1_ := am (blk_grown (bmv BK629.out) hg (Kd.N_away HO636.out (fun _ hk => hk.2))); have n2_ := am (hb); have n3_ := am (ho); clear HO_0 BK629 HB HO636; revert n0_ n1_ n2_ n3_; intro HO_0 BK629 HB HO639; clear ho hb hg hat))
          have n0_ := am (Kd.V_drew HO_0.out)
          have n1_ := am (Kd.N_drew HO639.out)
          have n2_ := am (blk_drew BK629.out)
          have n3_ := am (below_drew1 HB.out)
          clear HO_0 HO639 BK629 HB
          revert n0_ n1_ n2_ n3_
          intro HO_0 HO639 BK629 HB
          have p640 : 0 ≤ (x5_2 : Int) := of_decide_eq_true (by first | (with_reducible assumption) | assumption)
          have q640 : x5_2 < (l0.length : Int) := of_decide_eq_true (by first | (with_reducible assumption) | assumption)
          obtain ⟨ad640, A640_0, c640_0, A640_2, c640_2, A640_3, c640_3, A640_4, c640_4, e640, hx640_0, hx640_1, hx640_2, hx640_3, hx640_4, hl640_0, hi640_0, hl640_2, hi640_2, hl640_3, hi640_3, hl640_4, hi640_4⟩ := at_T30 (Kd.V_reads' HO_0.out).2.2 x5_2 p640 q640
          cases e640
          obtain ⟨ce640, hce640, hMe640, hcc640⟩ := Kd.V_get HO_0.out z30 x5_2 p640 (by first | exact q640 | exact of_decide_eq_true (by first | (with_reducible assumption) | assumption) | (have e_ := (Kd.V_reads' HO_0.out).1; omega))
          obtain ⟨ua640_0, uc640_0, ua640_2, uc640_2, ua640_3, uc640_3, ua640_4, uc640_4, rfl, ul640_0, ge640_0, ul640_2, ge640_2, ul640_3, ge640_3, ul640_4, ge640_4⟩ := k30_openF hMe640
          have hv640_0 := hcc640 0 _ rfl
          rw [Nat.add_zero] at hv640_0
          replace hv640_0 := Option.some.inj (hv640_0.symm.trans hx640_0)
          injection hv640_0 with hva_ hvn_ hvc_
          rw [hva_] at ge640_0
          rw [hvc_] at ul640_0
          have HL640_0 := am (show Kd.V (Kd.int .i64) 3 _ w.heap.size _ _ ((rd_T30 l0 x5_2).f0) from Kd.V_mk ul640_0 ge640_0)
          clear hva_ hvn_ hvc_ ge640_0 ul640_0
          have hv640_2 := hcc640 2 _ rfl
          rw [add_field _ _ 2 (by omega)] at hv640_2
          replace hv640_2 := Option.some.inj (hv640_2.symm.trans hx640_2)
          injection hv640_2 with hva_ hvn_ hvc_
          rw [hva_] at ge640_2
          rw [hvc_] at ul640_2
          have HL640_2 := am (show Kd.V (Kd.int .i64) 3 _ w.heap.size _ _ ((rd_T30 l0 x5_2).f2) from Kd.V_mk ul640_2 ge640_2)
          clear hva_ hvn_ hvc_ ge640_2 ul640_2
          have hv640_3 := hcc640 3 _ rfl
          rw [add_field _ _ 3 (by omega)] at hv640_3
          replace hv640_3 := Option.some.inj (hv640_3.symm.trans hx640_3)
          injection hv640_3 with hva_ hvn_ hvc_
          rw [hva_] at ge640_3
          rw [hvc_] at ul640_3
          have HL640_3 := am (show Kd.V (Kd.int .i64) 3 _ w.heap.size _ _ ((rd_T30 l0 x5_2).f3) from Kd.V_mk ul640_3 ge640_3)
          clear hva_ hvn_ hvc_ ge640_3 ul640_3
          have hv640_4 := hcc640 4 _ rfl
          rw [add_field _ _ 4 (by omega)] at hv640_4
          replace hv640_4 := Option.some.inj (hv640_4.symm.trans hx640_4)
          injection hv640_4 with hva_ hvn_ hvc_
          rw [hva_] at ge640_4
          rw [hvc_] at ul640_4
          have HL640_4 := am (show Kd.V (Kd.int .i64) 3 _ w.heap.size _ _ ((rd_T30 l0 x5_2).f4) from Kd.V_mk ul640_4 ge640_4)
          clear hva_ hvn_ hvc_ ge640_4 ul640_4
          clear hcc640 hce640
          have HR640_0 := am hi640_0
          have HC640_0 := am hl640_0
          clear hi640_0 hl640_0
          have HR640_2 := am hi640_2
          have HC640_2 := am hl640_2
          clear hi640_2 hl640_2
          have HR640_3 := am hi640_3
          have HC640_3 := am hl640_3
          clear hi640_3 hl640_3
          have HR640_4 := am hi640_4
          have HC640_4 := am hl640_4
          clear hi640_4 hl640_4
          replace p640 := eq_true p640
          replace q640 := eq_true q640
          refine start_ (n := 10) (S := fun w' => w'.cell? ⟨gb629, 0, none⟩ = some (.slice A1_0 l1_0.length c1_0) ∧ w'.cell? ⟨gb629, 1, none⟩ = some (.int .i64 a1_1) ∧ w'.cell? ⟨gb629, 2, none⟩ = some (.slice A1_2 l1_2.length c1_2) ∧ w'.cell? ⟨gb629, 3, none⟩ = some (.slice A1_3 l1_3.length c1_3) ∧ w'.cell? ⟨gb629, 4, none⟩ = some (.slice A1_4 l1_4.length c1_4) ∧ w'.cell? (ad640.add ((x5_2).toNat * 5)) = some (.slice A640_0 ((rd_T30 l0 x5_2).f0).length c640_0) ∧ w'.cell? ⟨(ad640.add ((x5_2).toNat * 5)).block, (ad640.add ((x5_2).toNat * 5)).off + 1, none⟩ = some (.int .i64 ((rd_T30 l0 x5_2).f1)) ∧ w'.cell? ⟨(ad640.add ((x5_2).toNat * 5)).block, (ad640.add ((x5_2).toNat * 5)).off + 2, none⟩ = some (.slice A640_2 ((rd_T30 l0 x5_2).f2).length c640_2) ∧ w'.cell? ⟨(ad640.add ((x5_2).toNat * 5)).block, (ad640.add ((x5_2).toNat * 5)).off + 3, none⟩ = some (.slice A640_3 ((rd_T30 l0 x5_2).f3).length c640_3) ∧ w'.cell? ⟨(ad640.add ((x5_2).toNat * 5)).block, (ad640.add ((x5_2).toNat * 5)).off + 4, none⟩ = some (.slice A640_4 ((rd_T30 l0 x5_2).f4).length c640_4)) (ds := [9]) (bb 10 0) (by kernel_rfl) rfl rfl ⟨bc BK629 0, bc BK629 1, bc BK629 2, bc BK629 3, bc BK629 4, hx640_0, hx640_1, hx640_2, hx640_3, hx640_4⟩ (fun hHeld => ?_); refine with_tabW hypercuberef2_Put.tab6 hypercuberef2_Put.bits6 (fun HT_ HW_ => ?_)
          generalize w27.drew = w28 at HO_0 HO639 BK629 HB HL640_0 HL640_2 HL640_3 HL640_4 HR640_0 HR640_2 HR640_3 HR640_4 hx640_0 hx640_1 hx640_2 hx640_3 hx640_4 hHeld ⊢
          refine pu (i := 0) (N := some 42) (bb 10 1) HT_ ?_
          refine pu (i := 1) (N := some 43) (bb 10 3) HT_ ?_
          refine pu (i := 2) (N := some 44) (bb 10 7) HT_ ?_
          refine pu (i := 3) (N := some 45) (bb 10 15) HT_ ?_
          refine pu (i := 4) (N := some 46) (bb 10 31) HT_ ?_
          refine tk (i := 5) (N := some 47) (bb 10 63) HT_ HW_ hHeld ?_
          refine tk (i := 6) (N := some 48) (bb 10 127) HT_ HW_ hHeld ?_
          refine one_ (i := 7) (N := some 49) (bb 10 255) rfl rfl (one_of HT_.out (by kernel_rfl)) (by decide) (fun K hK => ?_)
          refine goes_ Try.func33 (by kernel_rfl) rfl #[.agg #[.slice A640_0 ((rd_T30 l0 x5_2).f0).length c640_0, .int .i64 ((rd_T30 l0 x5_2).f1), .slice A640_2 ((rd_T30 l0 x5_2).f2).length c640_2, .slice A640_3 ((rd_T30 l0 x5_2).f3).length c640_3, .slice A640_4 ((rd_T30 l0 x5_2).f4).length c640_4], .agg #[.slice A1_0 l1_0.length c1_0, .int .i64 a1_1, .slice A1_2 l1_2.length c1_2, .slice A1_3 l1_3.length c1_3, .slice A1_4 l1_4.length c1_4]] (by rfl) rfl rfl (by (try simp only [List.map_toArray, List.map_cons, List.map_nil]); first | done | rfl | (simp only [List.length_drop, List.length_take]; rfl)) ?_
          with_reducible refine (hypercuberef2_Join.calls kj11 _ _ ((rd_T30 l0 x5_2).f0) ((rd_T30 l0 x5_2).f1) _ _ ((rd_T30 l0 x5_2).f2) _ _ ((rd_T30 l0 x5_2).f3) _ _ ((rd_T30 l0 x5_2).f4) _ _ l1_0 a1_1 _ _ l1_2 _ _ l1_3 _ _ l1_4 t641 t644 t645 t648 t651 _ ?side1 ?side2 ?side3 ?side4 ?side5 ?side6 ?side7 ?side8 ?side9 ?side10 ?side11 ?side12 ?side13 ?side14 ?side15 ?side16 A22.out).mono ?_
          (case side1 => repeat (first | exact (by repeat (first | (with_reducible exact HR640_0.out) | (with_reducible refine Kd.C_alloc ?_ _) | (with_reducible refine Kd.C_drewN ?_ _) | (with_reducible refine Kd.C_drew ?_) | exact HR640_0.out)) | (with_reducible refine Kd.C_alloc ?_ _) | (with_reducible refine Kd.C_drewN ?_ _) | (with_reducible refine Kd.C_drew ?_)))
          (case side2 => exact HC640_0.out)
          (case side3 => repeat (first | exact (by repeat (first | (with_reducible exact HR640_2.out) | (with_reducible refine Kd.C_alloc ?_ _) | (with_reducible refine Kd.C_drewN ?_ _) | (with_reducible refine Kd.C_drew ?_) | exact HR640_2.out)) | (with_reducible refine Kd.C_alloc ?_ _) | (with_reducible refine Kd.C_drewN ?_ _) | (with_reducible refine Kd.C_drew ?_)))
          (case side4 => exact HC640_2.out)
          (case side5 => repeat (first | exact (by repeat (first | (with_reducible exact HR640_3.out) | (with_reducible refine Kd.C_alloc ?_ _) | (with_reducible refine Kd.C_drewN ?_ _) | (with_reducible refine Kd.C_drew ?_) | exact HR640_3.out)) | (with_reducible refine Kd.C_alloc ?_ _) | (with_reducible refine Kd.C_drewN ?_ _) | (with_reducible refine Kd.C_drew ?_)))
          (case side6 => exact HC640_3.out)
          (case side7 => repeat (first | exact (by repeat (first | (with_reducible exact HR640_4.out) | (with_reducible refine Kd.C_alloc ?_ _) | (with_reducible refine Kd.C_drewN ?_ _) | (with_reducible refine Kd.C_drew ?_) | exact HR640_4.out)) | (with_reducible refine Kd.C_alloc ?_ _) | (with_reducible refine Kd.C_drewN ?_ _) | (with_reducible refine Kd.C_drew ?_)))
          (case side8 => exact HC640_4.out)
          (case side9 => exact Kd.Cw HR1_0.out HB.out)
          (case side10 => exact HC1_0.out)
          (case side11 => exact Kd.Cw HR1_2.out HB.out)
          (case side12 => exact HC1_2.out)
          (case side13 => exact Kd.Cw HR1_3.out HB.out)
          (case side14 => exact HC1_3.out)
          (case side15 => exact Kd.Cw HR1_4.out HB.out)
          (case side16 => exact HC1_4.out)
          rintro e w29 ⟨v642, v646, v649, v652, rfl, ho0, ho1, ho2, ho3, hb⟩
          have HS5_ := (hb.cell (World.block_lt_of_cell? _ _ (hHeld.2.2.2.2.2.1))).trans (hHeld.2.2.2.2.2.1)
          have HS6_ := (hb.cell (World.block_lt_of_cell? _ _ (hHeld.2.2.2.2.2.2.1))).trans (hHeld.2.2.2.2.2.2.1)
          have HS7_ := (hb.cell (World.block_lt_of_cell? _ _ (hHeld.2.2.2.2.2.2.2.1))).trans (hHeld.2.2.2.2.2.2.2.1)
          have HS8_ := (hb.cell (World.block_lt_of_cell? _ _ (hHeld.2.2.2.2.2.2.2.2.1))).trans (hHeld.2.2.2.2.2.2.2.2.1)
          have HS9_ := (hb.cell (World.block_lt_of_cell? _ _ (hHeld.2.2.2.2.2.2.2.2.2))).trans (hHeld.2.2.2.2.2.2.2.2.2)
          refine ⟨_, rfl, ?_⟩
          have n0_ := am (Kd.V_mono (Kd.V_told (Kd.V_told (Kd.V_told (Kd.V_told (Kd.V_old (Kd.V_mv HO_0.out) hb) (Kd.R_base ho0)) (Kd.R_base ho1)) (Kd.R_base ho2)) (Kd.R_base ho3)) (fun _ h_ => h_.1))
          have n1_ := am (Kd.N_mono (Kd.N_told (Kd.N_told (Kd.N_told (Kd.N_told (Kd.N_old (Kd.N_mv HO639.out) hb) (Kd.R_base ho0)) (Kd.R_base ho1)) (Kd.R_base ho2)) (Kd.R_base ho3)) (fun _ h_ => h_.1))
          have n2_ := am (Kd.V_mono (Kd.V_told (Kd.V_told (Kd.V_told (Kd.V_told (Kd.V_old (Kd.V_mv HL640_0.out) hb) (Kd.R_base ho0)) (Kd.R_base ho1)) (Kd.R_base ho2)) (Kd.R_base ho3)) (fun _ h_ => h_.1))
          have n3_ := am (Kd.V_mono (Kd.V_told (Kd.V_told (Kd.V_told (Kd.V_told (Kd.V_old (Kd.V_mv HL640_2.out) hb) (Kd.R_base ho0)) (Kd.R_base ho1)) (Kd.R_base ho2)) (Kd.R_base ho3)) (fun _ h_ => h_.1))
          have n4_ := am (Kd.V_mono (Kd.V_told (Kd.V_told (Kd.V_told (Kd.V_told (Kd.V_old (Kd.V_mv HL640_3.out) hb) (Kd.R_base ho0)) (Kd.R_base ho1)) (Kd.R_base ho2)) (Kd.R_base ho3)) (fun _ h_ => h_.1))
          have n5_ := am (Kd.V_mono (Kd.V_told (Kd.V_told (Kd.V_told (Kd.V_told (Kd.V_old (Kd.V_mv HL640_4.out) hb) (Kd.R_base ho0)) (Kd.R_base ho1)) (Kd.R_base ho2)) (Kd.R_base ho3)) (fun _ h_ => h_.1))
          have n6_ := am (Kd.R_lower (Kd.R_newM (M := fun k_ => (w.heap.size ≤ k_)) ho0 (below_size (wmv HB.out)) (fun k_ h_ => h_)) (below_size (wmv HB.out)))
          have n7_ := am (Kd.R_lower (Kd.R_newM (M := fun k_ => (w.heap.size ≤ k_)) ho1 (below_size (wmv HB.out)) (fun k_ h_ => h_)) (below_size (wmv HB.out)))
          have n8_ := am (Kd.R_lower (Kd.R_newM (M := fun k_ => (w.heap.size ≤ k_)) ho2 (below_size (wmv HB.out)) (fun k_ h_ => h_)) (below_size (wmv HB.out)))
          have n9_ := am (Kd.R_lower (Kd.R_newM (M := fun k_ => (w.heap.size ≤ k_)) ho3 (below_size (wmv HB.out)) (fun k_ h_ => h_)) (below_size (wmv HB.out)))
          have n10_ := am (blk_below (bmv BK629.out) hb)
          have n11_ := am (Kd.C_below (by repeat (first | (with_reducible exact HR640_0.out) | (with_reducible refine Kd.C_alloc ?_ _) | (with_reducible refine Kd.C_drewN ?_ _) | (with_reducible refine Kd.C_drew ?_) | exact HR640_0.out)) hb)
          have n12_ := am (Kd.C_below (by repeat (first | (with_reducible exact HR640_2.out) | (with_reducible refine Kd.C_alloc ?_ _) | (with_reducible refine Kd.C_drewN ?_ _) | (with_reducible refine Kd.C_drew ?_) | exact HR640_2.out)) hb)
          have n13_ := am (Kd.C_below (by repeat (first | (with_reducible exact HR640_3.out) | (with_reducible refine Kd.C_alloc ?_ _) | (with_reducible refine Kd.C_drewN ?_ _) | (with_reducible refine Kd.C_drew ?_) | exact HR640_3.out)) hb)
          have n14_ := am (Kd.C_below (by repeat (first | (with_reducible exact HR640_4.out) | (with_reducible refine Kd.C_alloc ?_ _) | (with_reducible refine Kd.C_drewN ?_ _) | (with_reducible refine Kd.C_drew ?_) | exact HR640_4.out)) hb)
          have n15_ := am (below_step (wmv HB.out) hb)
          clear HO_0 HO639 HL640_0 HL640_2 HL640_3 HL640_4 BK629 HR640_0 HR640_2 HR640_3 HR640_4 HB
          revert n0_ n1_ n2_ n3_ n4_ n5_ n6_ n7_ n8_ n9_ n10_ n11_ n12_ n13_ n14_ n15_
          intro HO_0 HO639 HL640_0 HL640_2 HL640_3 HL640_4 HO643 HO647 HO650 HO653 BK629 HR640_0 HR640_2 HR640_3 HR640_4 HB
          (try clear hb)
          (try clear hb2)
          (try clear hk)
          (try clear hi)
          (try clear ho0)
          (try clear ho1)
          (try clear ho2)
          (try clear ho3)
          have p24 : 0 ≤ (x5_2 : Int) := of_decide_eq_true (by first | (with_reducible assumption) | assumption)
          have q24 : (x5_2 : Int) < ((y637.length : Int) : Int) := of_decide_eq_true (by first | (with_reducible assumption) | assumption)
          obtain ⟨go24, co24, eo24, gb24, gl24, cl24, HG24⟩ := Kd.N_form HO639.out (by omega)
          (first | cases eo24 | (injection eo24 with ea_ en_ ec_; (first | subst ea_ | (injection ea_ with ea_; subst ea_)); subst ec_; clear en_))
          have GB24 := am gb24
          have GG24 := am HG24
          clear gb24 gl24 HG24
          obtain ⟨ce24, hcl24, hM24, hcc24, hfr24⟩ := Kd.N_elem HO639.out z30 (x5_2 : Int) p24 q24
          obtain ⟨ua24_0, uc24_0, ua24_2, uc24_2, ua24_3, uc24_3, ua24_4, uc24_4, rfl, ul24_0, ge24_0, ul24_2, ge24_2, ul24_3, ge24_3, ul24_4, ge24_4⟩ := k30_openF hM24
          have hx24_0 : World.cell? _ ⟨go24, (x5_2 : Int).toNat * 5, none⟩ = some (.slice ua24_0 ((rd_T30 y637 x5_2).f0).length uc24_0) := hcc24 0 _ rfl
          have hx24_1 : World.cell? _ ⟨go24, (x5_2 : Int).toNat * 5 + 1, none⟩ = some (.int .i64 ((rd_T30 y637 x5_2).f1)) := hcc24 1 _ rfl
          have hx24_2 : World.cell? _ ⟨go24, (x5_2 : Int).toNat * 5 + 2, none⟩ = some (.slice ua24_2 ((rd_T30 y637 x5_2).f2).length uc24_2) := hcc24 2 _ rfl
          have hx24_3 : World.cell? _ ⟨go24, (x5_2 : Int).toNat * 5 + 3, none⟩ = some (.slice ua24_3 ((rd_T30 y637 x5_2).f3).length uc24_3) := hcc24 3 _ rfl
          have hx24_4 : World.cell? _ ⟨go24, (x5_2 : Int).toNat * 5 + 4, none⟩ = some (.slice ua24_4 ((rd_T30 y637 x5_2).f4).length uc24_4) := hcc24 4 _ rfl
          have hf24_0 : World.frozen? _ ⟨go24, (x5_2 : Int).toNat * 5, none⟩ = false := hfr24 0
          have hf24_1 : World.frozen? _ ⟨go24, (x5_2 : Int).toNat * 5 + 1, none⟩ = false := hfr24 1
          have hf24_2 : World.frozen? _ ⟨go24, (x5_2 : Int).toNat * 5 + 2, none⟩ = false := hfr24 2
          have hf24_3 : World.frozen? _ ⟨go24, (x5_2 : Int).toNat * 5 + 3, none⟩ = false := hfr24 3
          have hf24_4 : World.frozen? _ ⟨go24, (x5_2 : Int).toNat * 5 + 4, none⟩ = false := hfr24 4
          clear hcl24 hcc24 hfr24 hM24
          replace p24 := eq_true p24
          replace q24 := eq_true q24
          obtain ⟨Bv642, bv642, ev_⟩ := Kd.R_slice HO643.out
          subst ev_
          obtain ⟨Bv646, bv646, ev_⟩ := Kd.R_slice HO647.out
          subst ev_
          obtain ⟨Bv649, bv649, ev_⟩ := Kd.R_slice HO650.out
          subst ev_
          obtain ⟨Bv652, bv652, ev_⟩ := Kd.R_slice HO653.out
          subst ev_
          have HX30 := am (show Kd.N k30 30 _ w.heap.size (fun k_ => (P0_ k_ ∨ w.heap.size ≤ k_) ∧ some k_ ≠ ((.slice Bv642 t641.length bv642) : Value).ownBlock ∧ some k_ ≠ ((.slice Bv646 t645.length bv646) : Value).ownBlock ∧ some k_ ≠ ((.slice Bv649 t648.length bv649) : Value).ownBlock ∧ some k_ ≠ ((.slice Bv652 t651.length bv652) : Value).ownBlock ∧ k_ ≠ gb629) (.slice (some ⟨go24, 0, none⟩) y637.length co24) y637 from (Kd.N_mono (HO639.out) (fun k_ hk => ⟨hk.1.1.1.1.1, ⟨hk.1.1.1.2, ⟨hk.1.1.2, ⟨hk.1.2, ⟨hk.2, hk.1.1.1.1.2⟩⟩⟩⟩⟩)))
          replace HX30 := am (show Kd.N k30 30 _ w.heap.size (fun k_ => (P0_ k_ ∨ w.heap.size ≤ k_) ∧ k_ ≠ gb629) (.slice (some ⟨go24, 0, none⟩) y637.length co24) y637 from Kd.N_mono HX30.out (fun k_ hk => ⟨hk.1, hk.2.2.2.2.2⟩))
          obtain ⟨ce30, hcl30, hM30, hcc30, hfr30⟩ := Kd.N_elem HX30.out z30 (x5_2 : Int) (of_decide_eq_true (by first | (with_reducible assumption) | assumption)) (by have h_ : (x5_2 : Int) < ((y637.length : Int) : Int) := of_decide_eq_true (by first | (with_reducible assumption) | assumption); first | exact h_ | (have e_ := (Kd.N_reads' HO639.out).1; omega) | simpa using h_)
          obtain ⟨ua30_0, uc30_0, ua30_2, uc30_2, ua30_3, uc30_3, ua30_4, uc30_4, rfl, ul30_0, ge30_0, ul30_2, ge30_2, ul30_3, ge30_3, ul30_4, ge30_4⟩ := k30_openF hM30
          have HP30 := (Kd.N_seg HX30.out (x5_2 : Int) (of_decide_eq_true (by first | (with_reducible assumption) | assumption)) (by have h_ : (x5_2 : Int) < ((y637.length : Int) : Int) := of_decide_eq_true (by first | (with_reducible assumption) | assumption); first | exact h_ | (have e_ := (Kd.N_reads' HO639.out).1; omega) | simpa using h_) (seg := [(.slice Bv642 t641.length bv642), .int .i64 t644, (.slice Bv646 t645.length bv646), (.slice Bv649 t648.length bv649), (.slice Bv652 t651.length bv652)]) (j := 0) hcl30 hcc30 (show 5 ≤ 5 from by decide) (x' := (⟨t641, t644, t645, t648, t651⟩ : S30)) (k30_mkF _ _ (⟨t641, t644, t645, t648, t651⟩ : S30) (Kd.R_reads' (Kd.R_mono (ok' := (fun k_ => ((fun k_ => (P0_ k_ ∨ w.heap.size ≤ k_) ∧ k_ ≠ gb629)) k_ ∧ k_ ≠ go24)) (Kd.R_types (Kd.R_apart' (HO643.out) (Kd.N_typed HO639.out) (by decide)) BK629.out (by decide)) (fun k_ hk => ⟨⟨(.inr (hk.1.1.1)), hk.2⟩, fun e_ => (hk.1.2) (by rw [e_]; rfl)⟩))).2.1 (Kd.R_F (Kd.R_mono (ok' := (fun k_ => ((fun k_ => (P0_ k_ ∨ w.heap.size ≤ k_) ∧ k_ ≠ gb629)) k_ ∧ k_ ≠ go24)) (Kd.R_types (Kd.R_apart' (HO643.out) (Kd.N_typed HO639.out) (by decide)) BK629.out (by decide)) (fun k_ hk => ⟨⟨(.inr (hk.1.1.1)), hk.2⟩, fun e_ => (hk.1.2) (by rw [e_]; rfl)⟩))) (Kd.R_reads' (Kd.R_mono (ok' := (fun k_ => ((fun k_ => (P0_ k_ ∨ w.heap.size ≤ k_) ∧ k_ ≠ gb629)) k_ ∧ k_ ≠ go24)) (Kd.R_types (Kd.R_apart' (HO647.out) (Kd.N_typed HO639.out) (by decide)) BK629.out (by decide)) (fun k_ hk => ⟨⟨(.inr (hk.1.1.1)), hk.2⟩, fun e_ => (hk.1.2) (by rw [e_]; rfl)⟩))).2.1 (Kd.R_F (Kd.R_mono (ok' := (fun k_ => ((fun k_ => (P0_ k_ ∨ w.heap.size ≤ k_) ∧ k_ ≠ gb629)) k_ ∧ k_ ≠ go24)) (Kd.R_types (Kd.R_apart' (HO647.out) (Kd.N_typed HO639.out) (by decide)) BK629.out (by decide)) (fun k_ hk => ⟨⟨(.inr (hk.1.1.1)), hk.2⟩, fun e_ => (hk.1.2) (by rw [e_]; rfl)⟩))) (Kd.R_reads' (Kd.R_mono (ok' := (fun k_ => ((fun k_ => (P0_ k_ ∨ w.heap.size ≤ k_) ∧ k_ ≠ gb629)) k_ ∧ k_ ≠ go24)) (Kd.R_types (Kd.R_apart' (HO650.out) (Kd.N_typed HO639.out) (by decide)) BK629.out (by decide)) (fun k_ hk => ⟨⟨(.inr (hk.1.1.1)), hk.2⟩, fun e_ => (hk.1.2) (by rw [e_]; rfl)⟩))).2.1 (Kd.R_F (Kd.R_mono (ok' := (fun k_ => ((fun k_ => (P0_ k_ ∨ w.heap.size ≤ k_) ∧ k_ ≠ gb629)) k_ ∧ k_ ≠ go24)) (Kd.R_types (Kd.R_apart' (HO650.out) (Kd.N_typed HO639.out) (by decide)) BK629.out (by decide)) (fun k_ hk => ⟨⟨(.inr (hk.1.1.1)), hk.2⟩, fun e_ => (hk.1.2) (by rw [e_]; rfl)⟩))) (Kd.R_reads' (Kd.R_mono (ok' := (fun k_ => ((fun k_ => (P0_ k_ ∨ w.heap.size ≤ k_) ∧ k_ ≠ gb629)) k_ ∧ k_ ≠ go24)) (Kd.R_types (Kd.R_apart' (HO653.out) (Kd.N_typed HO639.out) (by decide)) BK629.out (by decide)) (fun k_ hk => ⟨⟨(.inr (hk.1.1.1)), hk.2⟩, fun e_ => (hk.1.2) (by rw [e_]; rfl)⟩))).2.1 (Kd.R_F (Kd.R_mono (ok' := (fun k_ => ((fun k_ => (P0_ k_ ∨ w.heap.size ≤ k_) ∧ k_ ≠ gb629)) k_ ∧ k_ ≠ go24)) (Kd.R_types (Kd.R_apart' (HO653.out) (Kd.N_typed HO639.out) (by decide)) BK629.out (by decide)) (fun k_ hk => ⟨⟨(.inr (hk.1.1.1)), hk.2⟩, fun e_ => (hk.1.2) (by rw [e_]; rfl)⟩)))) (fun _ hk => hk)).1
          rw [← Ny654.out] at HP30
          have HQ30 := am HP30
          clear hcl30 hcc30 hfr30 hM30 HP30
          refine hK.out _ _ ⟨bc BK629 0, bc BK629 1, bc BK629 2, bc BK629 3, bc BK629 4, HS5_, HS6_, HS7_, HS8_, HS9_⟩ (fun hHeld => ?_)
          clear hK K
          refine nm ?_
          refine pu (i := 8) (N := some 50) (bb 10 511) HT_ ?_
          refine last_ (i := 9) (N := none) (bb 10 1023) rfl rfl (one_of HT_.out (by kernel_rfl)) (by decide) (fun K hK => ?_)
          refine skip_ (w1 := ?_) (by rfl) rfl ?_ ?_
          rotate_left
          ·go_simp
           rfl
          refine hK.out _ _ ?_
          clear hK K
          refine done_ (done_of HT_.out (by kernel_rfl)) ?_
          try go_wp2
          go_ret
          exact ⟨_, by first | rfl | (simp [errW_none, errW_some] <;> rfl) | (simp [*, errW_none, errW_some] <;> rfl), by (with_reducible repeat (first | apply Kd.N_alloc | apply Kd.N_drewN | apply Kd.N_drew)); exact Kd.N_mono HQ30.out (fun _ hk => hk.1), by repeat (first | (with_reducible first | exact HB.out | apply below_alloc | apply pw_below_drewN | apply below_drew1 | refine below_set ?_ GB24.out | refine below_set ?_ GB24.out | refine below_set ?_ GB24.out | refine below_set ?_ GB24.out | refine below_set ?_ GB24.out | refine below_set ?_ GE629.out) | exact HB.out)⟩
         ·rw [if_neg c23] at H
          exact absurd H (by simp)
        ·rw [if_neg c21] at H
         exact absurd H (by simp)
       ·rw [if_neg c20] at H
        exact absurd H (by simp)
      ·rw [if_neg c19] at H
       exact absurd H (by simp)
     ·replace c18 := Bool.eq_false_iff.mpr c18
      subst c18
      have H1 : ((some (([] : List (S30)) : List (S30))).bind fun y655 => (if 0 ≤ x5_2 then (if x5_2 ≤ (l0.length : Int) then ((some (l0.take (x5_2 : Int).toNat : List (S30))).bind fun y658 => (if y655.length + y658.length < 1353245080339 then ((some (y655 ++ y658 : List (S30))).bind fun y663 => ((hypercuberef2_Copy.f l1_0 a1_1 l1_2 l1_3 l1_4).bind fun bt666 => (if y663.length < 1353245080339 then ((some (y663 ++ [(⟨bt666.1, bt666.2.1, bt666.2.2.1, bt666.2.2.2.1, bt666.2.2.2.2⟩ : S30)] : List (S30))).bind fun y679 => ((some (l0.drop (x5_2 : Int).toNat : List (S30))).bind fun y682 => (if y679.length + y682.length < 1353245080339 then (some (y679 ++ y682)) else (none)))) else (none)))) else (none))) else (none)) else (none))) = some r := by rw [if_neg (show ¬ (false = true) by decide)] at H; exact H
      clear H
      have H := H1
      clear H1
      obtain ⟨y655, hy655⟩ : ∃ y_ : List (S30), y_ = (([] : List (S30))) := ⟨_, rfl⟩
      replace H : (if 0 ≤ x5_2 then (if x5_2 ≤ (l0.length : Int) then ((some (l0.take (x5_2 : Int).toNat : List (S30))).bind fun y658 => (if y655.length + y658.length < 1353245080339 then ((some (y655 ++ y658 : List (S30))).bind fun y663 => ((hypercuberef2_Copy.f l1_0 a1_1 l1_2 l1_3 l1_4).bind fun bt666 => (if y663.length < 1353245080339 then ((some (y663 ++ [(⟨bt666.1, bt666.2.1, bt666.2.2.1, bt666.2.2.2.1, bt666.2.2.2.2⟩ : S30)] : List (S30))).bind fun y679 => ((some (l0.drop (x5_2 : Int).toNat : List (S30))).bind fun y682 => (if y679.length + y682.length < 1353245080339 then (some (y679 ++ y682)) else (none)))) else (none)))) else (none))) else (none)) else (none)) = some r := by first | (rw [hy655]; with_reducible exact H) | (have H2_ := (Option.bind_some _ _).symm.trans H; rw [hy655]; with_reducible exact H2_) | (have H2_ := (Option.bind_some _ _).symm.trans H; with_reducible exact H2_) | with_reducible exact H | (rw [hy655]; exact H) | exact H
      have Ny655 := am hy655
      clear hy655
      by_cases c31 : 0 ≤ x5_2
      ·rw [if_pos c31] at H
       have c31b0 := eq_true c31
       have c31b1 : decide (0 ≤ x5_2) = true := decide_eq_true c31
       clear c31
       by_cases c32 : x5_2 ≤ (l0.length : Int)
       ·rw [if_pos c32] at H
        have c32b0 := eq_true c32
        have c32b1 : decide (x5_2 ≤ (l0.length : Int)) = true := decide_eq_true c32
        clear c32
        obtain ⟨y658, hy658⟩ : ∃ y_ : List (S30), y_ = (l0.take (x5_2 : Int).toNat) := ⟨_, rfl⟩
        replace H : (if y655.length + y658.length < 1353245080339 then ((some (y655 ++ y658 : List (S30))).bind fun y663 => ((hypercuberef2_Copy.f l1_0 a1_1 l1_2 l1_3 l1_4).bind fun bt666 => (if y663.length < 1353245080339 then ((some (y663 ++ [(⟨bt666.1, bt666.2.1, bt666.2.2.1, bt666.2.2.2.1, bt666.2.2.2.2⟩ : S30)] : List (S30))).bind fun y679 => ((some (l0.drop (x5_2 : Int).toNat : List (S30))).bind fun y682 => (if y679.length + y682.length < 1353245080339 then (some (y679 ++ y682)) else (none)))) else (none)))) else (none)) = some r := by first | (rw [hy658]; with_reducible exact H) | (have H2_ := (Option.bind_some _ _).symm.trans H; rw [hy658]; with_reducible exact H2_) | (have H2_ := (Option.bind_some _ _).symm.trans H; with_reducible exact H2_) | with_reducible exact H | (rw [hy658]; exact H) | exact H
        have Ny658 := am hy658
        clear hy658
        by_cases c33 : y655.length + y658.length < 1353245080339
        ·rw [if_pos c33] at H
         have LMc33 := am c33
         clear c33
         obtain ⟨y663, hy663⟩ : ∃ y_ : List (S30), y_ = (y655 ++ y658) := ⟨_, rfl⟩
         replace H : ((hypercuberef2_Copy.f l1_0 a1_1 l1_2 l1_3 l1_4).bind fun bt666 => (if y663.length < 1353245080339 then ((some (y663 ++ [(⟨bt666.1, bt666.2.1, bt666.2.2.1, bt666.2.2.2.1, bt666.2.2.2.2⟩ : S30)] : List (S30))).bind fun y679 => ((some (l0.drop (x5_2 : Int).toNat : List (S30))).bind fun y682 => (if y679.length + y682.length < 1353245080339 then (some (y679 ++ y682)) else (none)))) else (none))) = some r := by first | (rw [hy663]; with_reducible exact H) | (have H2_ := (Option.bind_some _ _).symm.trans H; rw [hy663]; with_reducible exact H2_) | (have H2_ := (Option.bind_some _ _).symm.trans H; with_reducible exact H2_) | with_reducible exact H | (rw [hy663]; exact H) | exact H
         have Ny663 := am hy663
         clear hy663
         replace H := Option.bind_eq_some_iff.mp H
         obtain ⟨⟨t666, t669, t670, t673, t676⟩, A340, H⟩ := H
         replace H : (if y663.length < 1353245080339 then ((some (y663 ++ [(⟨t666, t669, t670, t673, t676⟩ : S30)] : List (S30))).bind fun y679 => ((some (l0.drop (x5_2 : Int).toNat : List (S30))).bind fun y682 => (if y679.length + y682.length < 1353245080339 then (some (y679 ++ y682)) else (none)))) else (none)) = some r := H
         have A34 := am A340
         clear A340
         by_cases c35 : y663.length < 1353245080339
         ·rw [if_pos c35] at H
          have LMc35 := am c35
          clear c35
          obtain ⟨y679, hy679⟩ : ∃ y_ : List (S30), y_ = (y663 ++ [(⟨t666, t669, t670, t673, t676⟩ : S30)]) := ⟨_, rfl⟩
          replace H : ((some (l0.drop (x5_2 : Int).toNat : List (S30))).bind fun y682 => (if y679.length + y682.length < 1353245080339 then (some (y679 ++ y682)) else (none))) = some r := by first | (rw [hy679]; with_reducible exact H) | (have H2_ := (Option.bind_some _ _).symm.trans H; rw [hy679]; with_reducible exact H2_) | (have H2_ := (Option.bind_some _ _).symm.trans H; with_reducible exact H2_) | with_reducible exact H | (rw [hy679]; exact H) | exact H
          have Ny679 := am hy679
          clear hy679
          have c36b0 := eq_true (of_decide_eq_true (by first | (with_reducible assumption) | assumption) : 0 ≤ x5_2)
          have c37b0 := eq_true (of_decide_eq_true (by first | (with_reducible assumption) | assumption) : x5_2 ≤ (l0.length : Int))
          obtain ⟨y682, hy682⟩ : ∃ y_ : List (S30), y_ = (l0.drop (x5_2 : Int).toNat) := ⟨_, rfl⟩
          replace H : (if y679.length + y682.length < 1353245080339 then (some (y679 ++ y682)) else (none)) = some r := by first | (rw [hy682]; with_reducible exact H) | (have H2_ := (Option.bind_some _ _).symm.trans H; rw [hy682]; with_reducible exact H2_) | (have H2_ := (Option.bind_some _ _).symm.trans H; with_reducible exact H2_) | with_reducible exact H | (rw [hy682]; exact H) | exact H
          have Ny682 := am hy682
          clear hy682
          by_cases c38 : y679.length + y682.length < 1353245080339
          ·rw [if_pos c38] at H
           have LMc38 := am c38
           clear c38
           obtain ⟨y687, hy687⟩ : ∃ y_ : List (S30), y_ = (y679 ++ y682) := ⟨_, rfl⟩
           replace H : (some y687) = some r := by rw [hy687]; with_reducible exact H
           have Ny687 := am hy687
           clear hy687
           obtain rfl := Option.some.inj H
           try go_wp2
           have n0_ := am (Kd.V_drew HO_0.out)
           have n1_ := am (blk_drew BK629.out)
           have n2_ := am (below_drew1 HB.out)
           clear HO_0 BK629 HB
           revert n0_ n1_ n2_
           intro HO_0 BK629 HB
           have q40 : (x5_2 : Int) ≤ ((l0.length : Int) : Int) := of_decide_eq_true (by first | (with_reducible assumption) | assumption)
           obtain ⟨i040, hi040, _, hsz40, _⟩ := info_parts info30
           have hroom40 : l0.length ≤ c0 := (Kd.V_reads' HO_0.out).2.1
           have hC40 : Kd.F k30 _ _ A0 l0.length l0 := (Kd.V_at (base := w.heap.size) HO_0.out).2.2
           have hcut40 := cut_to (P := Try.prog) 28 30 .i64 Try.underlying28 hi040 A0 l0.length c0 x5_2 (of_decide_eq_true (by first | (with_reducible assumption) | assumption)) q40 hroom40
           have hr40 := Kd.F_take (m := (x5_2 : Int).toNat) hC40 (by omega)
           have hy40 : y658.length = (x5_2 : Int).toNat := (by rw [Ny658.out, List.length_take]; omega)
           rw [← Ny658.out] at hr40
           rw [← hy40] at hcut40
           have HO662 := am (show Kd.V k30 30 _ w.heap.size _ (.slice A0 y658.length c0) y658 from Kd.V_mk (by omega) hr40)
           have HC662 := am (show y658.length ≤ c0 from by omega)
           clear hr40 hC40 hroom40 hi040 hsz40
           have KY40 := am hy40
           clear hy40
           replace q40 := eq_true q40
           have q41 : (x5_2 : Int) ≤ ((l0.length : Int) : Int) := of_decide_eq_true (by first | (with_reducible assumption) | assumption)
           obtain ⟨i041, hi041, _, hsz41, _⟩ := info_parts info30
           have hroom41 : l0.length ≤ c0 := (Kd.V_reads' HO_0.out).2.1
           have hC41 : Kd.F k30 _ _ A0 l0.length l0 := (Kd.V_at (base := w.heap.size) HO_0.out).2.2
           have q041 : (0 : Int) ≤ (x5_2 : Int) := of_decide_eq_true (by first | (with_reducible assumption) | assumption)
           have hcut41 := cut_from (P := Try.prog) 28 30 .i64 Try.underlying28 hi041 5 hsz41 A0 l0.length c0 x5_2 q041 q41
           have hr41 := Kd.F_cut (m := (x5_2 : Int).toNat) (c := c0) hC41 (by omega) hroom41
           obtain ⟨A41, hA41⟩ : ∃ A1, A1 = (if c0 = (x5_2 : Int).toNat then A0 else (A0 : Option Addr).map (·.add ((x5_2 : Int).toNat * 5))) := ⟨_, rfl⟩
           obtain ⟨c41, hc41⟩ : ∃ c1, c1 = c0 - (x5_2 : Int).toNat := ⟨_, rfl⟩
           have hy41 : y682.length = l0.length - (x5_2 : Int).toNat := (by rw [Ny682.out, List.length_drop] <;> omega)
           rw [show (l0).drop (x5_2 : Int).toNat = y682 from Ny682.out.symm] at hr41
           replace hr41 : Kd.F k30 _ _ A41 y682.length y682 := (by rw [hA41]; exact hr41)
           rw [← hy41, ← hA41, ← hc41] at hcut41
           have HO686 := am (show Kd.V k30 30 _ w.heap.size _ (.slice A41 y682.length c41) y682 from Kd.V_mk (by rw [hy41, hc41]; exact Nat.sub_le_sub_right hroom41 _) hr41)
           have HC686 := am (show y682.length ≤ c41 from by rw [hy41, hc41]; exact Nat.sub_le_sub_right hroom41 _)
           clear hr41 hC41 hroom41 hi041 hsz41 hc41
           have KY41 := am hy41
           have KA41 := am hA41
           clear hy41 hA41
           replace q41 := eq_true q41
           refine start_ (n := 14) (S := fun w' => w'.cell? ⟨gb629, 0, none⟩ = some (.slice A1_0 l1_0.length c1_0) ∧ w'.cell? ⟨gb629, 1, none⟩ = some (.int .i64 a1_1) ∧ w'.cell? ⟨gb629, 2, none⟩ = some (.slice A1_2 l1_2.length c1_2) ∧ w'.cell? ⟨gb629, 3, none⟩ = some (.slice A1_3 l1_3.length c1_3) ∧ w'.cell? ⟨gb629, 4, none⟩ = some (.slice A1_4 l1_4.length c1_4)) (ds := []) (bb 14 0) (by kernel_rfl) rfl rfl ⟨bc BK629 0, bc BK629 1, bc BK629 2, bc BK629 3, bc BK629 4⟩ (fun hHeld => ?_); refine with_tabW hypercuberef2_Put.tab8 hypercuberef2_Put.bits8 (fun HT_ HW_ => ?_)
           generalize wc.drew = w39 at HO_0 BK629 HB HO662 HO686 hHeld ⊢
           refine pu (i := 1) (N := some 53) (bb 14 2) HT_ ?_
           refine pu (i := 2) (N := some 54) (bb 14 6) HT_ ?_
           refine pu (i := 3) (N := some 55) (bb 14 14) HT_ ?_
           refine pu (i := 9) (N := some 61) (bb 14 526) HT_ ?_
           refine pu (i := 10) (N := some 62) (bb 14 1550) HT_ ?_
           refine pu (i := 11) (N := some 63) (bb 14 3598) HT_ ?_
           refine tk (i := 5) (N := some 57) (bb 14 3630) HT_ HW_ hHeld ?_
           refine one_ (i := 0) (N := some 52) (bb 14 3631) rfl rfl (one_of HT_.out (by kernel_rfl)) (by decide) (fun K hK => ?_)
           refine Kd.N_lit_step k30 _ 30 ?hg (N' := 52) ?hd (xs := ([] : List (S30))) (inner := []) (ok := (fun k_ => (P0_ k_ ∨ w.heap.size ≤ k_) ∧ k_ ≠ gb629)) (okp := (fun k_ => (P0_ k_ ∨ w.heap.size ≤ k_) ∧ k_ ≠ gb629)) ?hr ?hp (fun _ hk => hk) ((show ∀ k_, w39.heap.size ≤ k_ → (fun k_ => (P0_ k_ ∨ w.heap.size ≤ k_) ∧ k_ ≠ gb629) k_ from fun k_ hk => ⟨(.inr (Nat.le_trans (below_size (wmv HB.out)) hk)), Kd.freshB (bmv BK629.out) k_ hk⟩) _ (Nat.le_refl _)) (Below.refl _ _) (Nat.le_refl _) (by simp) ?_; (case hd => rfl); (case hg => rfl); (case hr => first | (go_simp; done) | (go_simp; rfl)); (case hp => exact (Reps.none _ _))
           intro v656 w42 ho43 hb hg_ hnew_
           clear hg_ hnew_
           (first | rw [← Ny655.out] at ho43 | (simp only [Int.reduceToNat] at ho43; rw [← Ny655.out] at ho43))
           have n0_ := am (Kd.V_elder' (Kd.V_mv HO_0.out) (by first | exact Kd.N_base ho43 | exact Kd.S_base ho43 | exact Kd.R_base ho43) hb)
           have n1_ := am (Kd.V_elder' (Kd.V_mv HO662.out) (by first | exact Kd.N_base ho43 | exact Kd.S_base ho43 | exact Kd.R_base ho43) hb)
           have n2_ := am (Kd.V_elder' (Kd.V_mv HO686.out) (by first | exact Kd.N_base ho43 | exact Kd.S_base ho43 | exact Kd.R_base ho43) hb)
           have n3_ := am (Kd.N_lower ho43 (below_size (wmv HB.out)))
           have n4_ := am (blk_below (bmv BK629.out) hb)
           have n5_ := am (below_step (wmv HB.out) hb)
           clear HO_0 HO662 HO686 BK629 HB
           revert n0_ n1_ n2_ n3_ n4_ n5_
           intro HO_0 HO662 HO686 HO657 BK629 HB
           clear hb ho43
           refine hK.out _ _ ⟨bc BK629 0, bc BK629 1, bc BK629 2, bc BK629 3, bc BK629 4⟩ (fun hHeld => ?_)
           clear hK K
           refine nm ?_
           refine one_ (i := 4) (N := some 56) (bb 14 3647) rfl rfl (one_of HT_.out (by kernel_rfl)) (by decide) (fun K hK => ?_)
           refine Kd.N_append_rows_step k30 (w0 := w) w.heap.size (by rfl) (.tmp 52) (.tmp 55) 28 30 (.agg #[(.slice none 0 0), (.int .i64 0), (.slice none 0 0), (.slice none 0 0), (.slice none 0 0)]) 104 rfl Try.underlying28 info30 rfl (by decide) (by omega) v656 y655 y658 _ _ _ (fun k_ => (P0_ k_ ∨ w.heap.size ≤ k_) ∧ k_ ≠ gb629) (fun k_ => ((fun k_ => (P0_ k_ ∨ w.heap.size ≤ k_) ∧ k_ ≠ gb629)) k_ ∧ some k_ ≠ (v656 : Value).ownBlock) rfl rfl ?aO ?aR (fun _ hk => hk) ?aF ?aB ?aS ?aL ?_
           (case aR => exact (by skip; exact Kd.V_F (Kd.V_mono (ok' := (fun k_ => ((fun k_ => (P0_ k_ ∨ w.heap.size ≤ k_) ∧ k_ ≠ gb629)) k_ ∧ some k_ ≠ (v656 : Value).ownBlock)) (HO662.out) (fun k_ hk => ⟨⟨hk.1.1, hk.1.2⟩, hk.2⟩))))
           (case aB => exact (wmv HB.out))
           (case aF => exact (fun k_ hk => ⟨(.inr (Nat.le_trans (below_size (wmv HB.out)) hk)), Kd.freshB (bmv BK629.out) k_ hk⟩))
           (case aO => exact (Kd.N_mv HO657.out))
           (case aS => exact (below_size (wmv HB.out)))
           (case aL => have := LMc33.out; omega)
           intro v664 w44 ho hb hg hat
           rw [← Ny663.out] at ho
           have n0_ := am (Kd.V_afterv (ok := (fun k_ => (P0_ k_ ∨ w.heap.size ≤ k_) ∧ k_ ≠ gb629)) (Kd.V_mv HO_0.out) hg hat)
           have n1_ := am (blk_grown (bmv BK629.out) hg (Kd.N_away HO657.out (fun _ hk => hk.2)))
           have n2_ := am (Kd.V_afterv (ok := (fun k_ => (P0_ k_ ∨ w.heap.size ≤ k_) ∧ k_ ≠ gb629)) (Kd.V_mv HO662.out) hg hat)
           have n3_ := am (Kd.V_afterv (ok := (fun k_ => (P0_ k_ ∨ w.heap.size ≤ k_) ∧ k_ ≠ gb629)) (Kd.V_mv HO686.out) hg hat)
           have n4_ := am (hb)
           have n5_ := am (ho)
           clear HO_0 BK629 HO662 HO686 HB HO657
           revert n0_ n1_ n2_ n3_ n4_ n5_
           intro HO_0 BK629 HO662 HO686 HB HO665
           clear ho hb hg hat
           refine hK.out _ _ ⟨bc BK629 0, bc BK629 1, bc BK629 2, bc BK629 3, bc BK629 4⟩ (fun hHeld => ?_)
           clear hK K
           refine nm ?_
           refine one_ (i := 6) (N := some 58) (bb 14 3711) rfl rfl (one_of HT_.out (by kernel_rfl)) (by decide) (fun K hK => ?_)
           refine goes_ Try.func52 (by kernel_rfl) rfl #[.agg #[.slice A1_0 l1_0.length c1_0, .int .i64 a1_1, .slice A1_2 l1_2.length c1_2, .slice A1_3 l1_3.length c1_3, .slice A1_4 l1_4.length c1_4]] (by rfl) rfl rfl (by (try simp only [List.map_toArray, List.map_cons, List.map_nil]); first | done | rfl | (simp only [List.length_drop, List.length_take]; rfl)) ?_
           with_reducible refine (hypercuberef2_Copy.calls _ _ l1_0 a1_1 _ _ l1_2 _ _ l1_3 _ _ l1_4 t666 t669 t670 t673 t676 _ ?side1 ?side2 ?side3 ?side4 ?side5 ?side6 ?side7 ?side8 A34.out).mono ?_
           (case side1 => exact Kd.Cw HR1_0.out HB.out)
           (case side2 => exact HC1_0.out)
           (case side3 => exact Kd.Cw HR1_2.out HB.out)
           (case side4 => exact HC1_2.out)
           (case side5 => exact Kd.Cw HR1_3.out HB.out)
           (case side6 => exact HC1_3.out)
           (case side7 => exact Kd.Cw HR1_4.out HB.out)
           (case side8 => exact HC1_4.out)
           rintro e w45 ⟨v667, v671, v674, v677, rfl, ho0, ho1, ho2, ho3, hb⟩
           refine ⟨_, rfl, ?_⟩
           have n0_ := am (Kd.V_mono (Kd.V_told (Kd.V_told (Kd.V_told (Kd.V_told (Kd.V_old (Kd.V_mv HO_0.out) hb) (Kd.R_base ho0)) (Kd.R_base ho1)) (Kd.R_base ho2)) (Kd.R_base ho3)) (fun _ h_ => h_.1))
           have n1_ := am (Kd.V_mono (Kd.V_told (Kd.V_told (Kd.V_told (Kd.V_told (Kd.V_old (Kd.V_mv HO662.out) hb) (Kd.R_base ho0)) (Kd.R_base ho1)) (Kd.R_base ho2)) (Kd.R_base ho3)) (fun _ h_ => h_.1))
           have n2_ := am (Kd.V_mono (Kd.V_told (Kd.V_told (Kd.V_told (Kd.V_told (Kd.V_old (Kd.V_mv HO686.out) hb) (Kd.R_base ho0)) (Kd.R_base ho1)) (Kd.R_base ho2)) (Kd.R_base ho3)) (fun _ h_ => h_.1))
           have n3_ := am (Kd.N_mono (Kd.N_told (Kd.N_told (Kd.N_told (Kd.N_told (Kd.N_old (Kd.N_mv HO665.out) hb) (Kd.R_base ho0)) (Kd.R_base ho1)) (Kd.R_base ho2)) (Kd.R_base ho3)) (fun _ h_ => h_.1))
           have n4_ := am (Kd.R_lower (Kd.R_newM (M := fun k_ => (w.heap.size ≤ k_)) ho0 (below_size (wmv HB.out)) (fun k_ h_ => h_)) (below_size (wmv HB.out)))
           have n5_ := am (Kd.R_lower (Kd.R_newM (M := fun k_ => (w.heap.size ≤ k_)) ho1 (below_size (wmv HB.out)) (fun k_ h_ => h_)) (below_size (wmv HB.out)))
           have n6_ := am (Kd.R_lower (Kd.R_newM (M := fun k_ => (w.heap.size ≤ k_)) ho2 (below_size (wmv HB.out)) (fun k_ h_ => h_)) (below_size (wmv HB.out)))
           have n7_ := am (Kd.R_lower (Kd.R_newM (M := fun k_ => (w.heap.size ≤ k_)) ho3 (below_size (wmv HB.out)) (fun k_ h_ => h_)) (below_size (wmv HB.out)))
           have n8_ := am (blk_below (bmv BK629.out) hb)
           have n9_ := am (below_step (wmv HB.out) hb)
           clear HO_0 HO662 HO686 HO665 BK629 HB
           revert n0_ n1_ n2_ n3_ n4_ n5_ n6_ n7_ n8_ n9_
           intro HO_0 HO662 HO686 HO665 HO668 HO672 HO675 HO678 BK629 HB
           (try clear hb)
           (try clear hb2)
           (try clear hk)
           (try clear hi)
           (try clear ho0)
           (try clear ho1)
           (try clear ho2)
           (try clear ho3)
           obtain ⟨Ao47, co47, eo47⟩ := Kd.R_slice HO668.out
           (first | subst eo47 | (injection eo47 with f1_ f2_ f3_; have f4_ := f1_.symm; have f5_ := f3_.symm; clear f1_ f2_ f3_; subst f4_; subst f5_))
           obtain ⟨Ao48, co48, eo48⟩ := Kd.R_slice HO672.out
           (first | subst eo48 | (injection eo48 with f1_ f2_ f3_; have f4_ := f1_.symm; have f5_ := f3_.symm; clear f1_ f2_ f3_; subst f4_; subst f5_))
           obtain ⟨Ao49, co49, eo49⟩ := Kd.R_slice HO675.out
           (first | subst eo49 | (injection eo49 with f1_ f2_ f3_; have f4_ := f1_.symm; have f5_ := f3_.symm; clear f1_ f2_ f3_; subst f4_; subst f5_))
           obtain ⟨Ao50, co50, eo50⟩ := Kd.R_slice HO678.out
           (first | subst eo50 | (injection eo50 with f1_ f2_ f3_; have f4_ := f1_.symm; have f5_ := f3_.symm; clear f1_ f2_ f3_; subst f4_; subst f5_))
           refine hK.out _ _ ⟨bc BK629 0, bc BK629 1, bc BK629 2, bc BK629 3, bc BK629 4⟩ (fun hHeld => ?_)
           clear hK K
           refine nm ?_
           refine one_ (i := 7) (N := some 59) (bb 14 3839) rfl rfl (one_of HT_.out (by kernel_rfl)) (by decide) (fun K hK => ?_)
           refine value_ (w1 := ?_) (v := ?_) (by rfl) rfl ?_ ?_
           rotate_left 2
           ·go_simp
            constructor
            ·rfl
            ·rfl
           refine hK.out _ _ ⟨(blk_cell (blk_alloc BK629.out _) 0).trans rfl, (blk_cell (blk_alloc BK629.out _) 1).trans rfl, (blk_cell (blk_alloc BK629.out _) 2).trans rfl, (blk_cell (blk_alloc BK629.out _) 3).trans rfl, (blk_cell (blk_alloc BK629.out _) 4).trans rfl⟩ (fun hHeld => ?_)
           clear hK K
           refine nm ?_
           refine one_ (i := 8) (N := some 60) (bb 14 4095) rfl rfl (one_of HT_.out (by kernel_rfl)) (by decide) (fun K hK => ?_)
           refine Kd.N_append_step k30 (w0 := w) w.heap.size (by rfl) (.tmp 56) (.tmp 59) 28 30 (.agg #[(.slice none 0 0), (.int .i64 0), (.slice none 0 0), (.slice none 0 0), (.slice none 0 0)]) 104 rfl Try.underlying28 info30 rfl (by decide) (by omega) v664 y663 (⟨t666, t669, t670, t673, t676⟩ : S30) [.slice Ao47 t666.length co47, .int .i64 t669, .slice Ao48 t670.length co48, .slice Ao49 t673.length co49, .slice Ao50 t676.length co50] (fun k_ => (P0_ k_ ∨ w.heap.size ≤ k_) ∧ k_ ≠ gb629) (fun k_ => ((fun k_ => (P0_ k_ ∨ w.heap.size ≤ k_) ∧ k_ ≠ gb629)) k_ ∧ some k_ ≠ (v664 : Value).ownBlock) rfl rfl ?aP (fun _ hk => hk) ?aF ?aO ?aB ?aS ?aL ?_
           (case aP => exact (k30_mkF _ _ (⟨t666, t669, t670, t673, t676⟩ : S30) (Kd.R_reads' (Kd.R_mono (ok' := (fun k_ => ((fun k_ => (P0_ k_ ∨ w.heap.size ≤ k_) ∧ k_ ≠ gb629)) k_ ∧ some k_ ≠ (v664 : Value).ownBlock)) (Kd.R_types (Kd.R_apart' (HO668.out) (Kd.N_typed HO665.out) (by decide)) BK629.out (by decide)) (fun k_ hk => ⟨⟨(.inr (hk.1.1.1)), hk.2⟩, hk.1.2⟩))).2.1 (Kd.R_F (Kd.R_mono (ok' := (fun k_ => ((fun k_ => (P0_ k_ ∨ w.heap.size ≤ k_) ∧ k_ ≠ gb629)) k_ ∧ some k_ ≠ (v664 : Value).ownBlock)) (Kd.R_types (Kd.R_apart' (HO668.out) (Kd.N_typed HO665.out) (by decide)) BK629.out (by decide)) (fun k_ hk => ⟨⟨(.inr (hk.1.1.1)), hk.2⟩, hk.1.2⟩))) (Kd.R_reads' (Kd.R_mono (ok' := (fun k_ => ((fun k_ => (P0_ k_ ∨ w.heap.size ≤ k_) ∧ k_ ≠ gb629)) k_ ∧ some k_ ≠ (v664 : Value).ownBlock)) (Kd.R_types (Kd.R_apart' (HO672.out) (Kd.N_typed HO665.out) (by decide)) BK629.out (by decide)) (fun k_ hk => ⟨⟨(.inr (hk.1.1.1)), hk.2⟩, hk.1.2⟩))).2.1 (Kd.R_F (Kd.R_mono (ok' := (fun k_ => ((fun k_ => (P0_ k_ ∨ w.heap.size ≤ k_) ∧ k_ ≠ gb629)) k_ ∧ some k_ ≠ (v664 : Value).ownBlock)) (Kd.R_types (Kd.R_apart' (HO672.out) (Kd.N_typed HO665.out) (by decide)) BK629.out (by decide)) (fun k_ hk => ⟨⟨(.inr (hk.1.1.1)), hk.2⟩, hk.1.2⟩))) (Kd.R_reads' (Kd.R_mono (ok' := (fun k_ => ((fun k_ => (P0_ k_ ∨ w.heap.size ≤ k_) ∧ k_ ≠ gb629)) k_ ∧ some k_ ≠ (v664 : Value).ownBlock)) (Kd.R_types (Kd.R_apart' (HO675.out) (Kd.N_typed HO665.out) (by decide)) BK629.out (by decide)) (fun k_ hk => ⟨⟨(.inr (hk.1.1.1)), hk.2⟩, hk.1.2⟩))).2.1 (Kd.R_F (Kd.R_mono (ok' := (fun k_ => ((fun k_ => (P0_ k_ ∨ w.heap.size ≤ k_) ∧ k_ ≠ gb629)) k_ ∧ some k_ ≠ (v664 : Value).ownBlock)) (Kd.R_types (Kd.R_apart' (HO675.out) (Kd.N_typed HO665.out) (by decide)) BK629.out (by decide)) (fun k_ hk => ⟨⟨(.inr (hk.1.1.1)), hk.2⟩, hk.1.2⟩))) (Kd.R_reads' (Kd.R_mono (ok' := (fun k_ => ((fun k_ => (P0_ k_ ∨ w.heap.size ≤ k_) ∧ k_ ≠ gb629)) k_ ∧ some k_ ≠ (v664 : Value).ownBlock)) (Kd.R_types (Kd.R_apart' (HO678.out) (Kd.N_typed HO665.out) (by decide)) BK629.out (by decide)) (fun k_ hk => ⟨⟨(.inr (hk.1.1.1)), hk.2⟩, hk.1.2⟩))).2.1 (Kd.R_F (Kd.R_mono (ok' := (fun k_ => ((fun k_ => (P0_ k_ ∨ w.heap.size ≤ k_) ∧ k_ ≠ gb629)) k_ ∧ some k_ ≠ (v664 : Value).ownBlock)) (Kd.R_types (Kd.R_apart' (HO678.out) (Kd.N_typed HO665.out) (by decide)) BK629.out (by decide)) (fun k_ hk => ⟨⟨(.inr (hk.1.1.1)), hk.2⟩, hk.1.2⟩)))))
           (case aB => exact (wmv HB.out))
           (case aF => exact (fun k_ hk => ⟨(.inr (Nat.le_trans (below_size (wmv HB.out)) hk)), Kd.freshB (bmv BK629.out) k_ hk⟩))
           (case aO => exact (Kd.N_mv (Kd.N_mono HO665.out (fun _ hk => ⟨hk.1.1.1.1.1, hk.1.1.1.1.2⟩))))
           (case aS => exact (below_size (wmv HB.out)))
           (case aL => have := LMc35.out; omega)
           intro v680 w46 ho hb hg hat
           rw [← Ny679.out] at ho
           have n0_ := am (Kd.V_afterv (ok := (fun k_ => (P0_ k_ ∨ w.heap.size ≤ k_) ∧ some k_ ≠ (.slice Ao47 t666.length co47 : Value).ownBlock ∧ some k_ ≠ (.slice Ao48 t670.length co48 : Value).ownBlock ∧ some k_ ≠ (.slice Ao49 t673.length co49 : Value).ownBlock ∧ some k_ ≠ (.slice Ao50 t676.length co50 : Value).ownBlock ∧ k_ ≠ gb629)) (Kd.V_mv (Kd.V_mono HO_0.out (fun _ hk => ⟨⟨hk.1.1.1.1.1.1, ⟨hk.1.1.1.2, ⟨hk.1.1.2, ⟨hk.1.2, ⟨hk.2, hk.1.1.1.1.1.2⟩⟩⟩⟩⟩, hk.1.1.1.1.2⟩))) hg hat)
           have n1_ := am (blk_grown (bmv BK629.out) hg (Kd.N_away HO665.out (fun _ hk => hk.1.1.1.1.2)))
           have n2_ := am (Kd.V_afterv (ok := (fun k_ => (P0_ k_ ∨ w.heap.size ≤ k_) ∧ some k_ ≠ (.slice Ao47 t666.length co47 : Value).ownBlock ∧ some k_ ≠ (.slice Ao48 t670.length co48 : Value).ownBlock ∧ some k_ ≠ (.slice Ao49 t673.length co49 : Value).ownBlock ∧ some k_ ≠ (.slice Ao50 t676.length co50 : Value).ownBlock ∧ k_ ≠ gb629)) (Kd.V_mv (Kd.V_mono HO662.out (fun _ hk => ⟨⟨hk.1.1.1.1.1.1, ⟨hk.1.1.1.2, ⟨hk.1.1.2, ⟨hk.1.2, ⟨hk.2, hk.1.1.1.1.1.2⟩⟩⟩⟩⟩, hk.1.1.1.1.2⟩))) hg hat)
           have n3_ := am (Kd.V_afterv (ok := (fun k_ => (P0_ k_ ∨ w.heap.size ≤ k_) ∧ some k_ ≠ (.slice Ao47 t666.length co47 : Value).ownBlock ∧ some k_ ≠ (.slice Ao48 t670.length co48 : Value).ownBlock ∧ some k_ ≠ (.slice Ao49 t673.length co49 : Value).ownBlock ∧ some k_ ≠ (.slice Ao50 t676.length co50 : Value).ownBlock ∧ k_ ≠ gb629)) (Kd.V_mv (Kd.V_mono HO686.out (fun _ hk => ⟨⟨hk.1.1.1.1.1.1, ⟨hk.1.1.1.2, ⟨hk.1.1.2, ⟨hk.1.2, ⟨hk.2, hk.1.1.1.1.1.2⟩⟩⟩⟩⟩, hk.1.1.1.1.2⟩))) hg hat)
           have n4_ := am (hb)
           have n5_ := am (ho)
           clear HO_0 BK629 HO662 HO686 HB HO665 HO668 HO672 HO675 HO678
           revert n0_ n1_ n2_ n3_ n4_ n5_
           intro HO_0 BK629 HO662 HO686 HB HO681
           clear ho hb hg hat
           refine hK.out _ _ ⟨bc BK629 0, bc BK629 1, bc BK629 2, bc BK629 3, bc BK629 4⟩ (fun hHeld => ?_)
           clear hK K
           refine nm ?_
           refine one_ (i := 12) (N := some 64) (bb 14 8191) rfl rfl (one_of HT_.out (by kernel_rfl)) (by decide) (fun K hK => ?_)
           refine Kd.N_append_rows_step k30 (w0 := w) w.heap.size (by rfl) (.tmp 60) (.tmp 63) 28 30 (.agg #[(.slice none 0 0), (.int .i64 0), (.slice none 0 0), (.slice none 0 0), (.slice none 0 0)]) 104 rfl Try.underlying28 info30 rfl (by decide) (by omega) v680 y679 y682 _ _ _ (fun k_ => (P0_ k_ ∨ w.heap.size ≤ k_) ∧ k_ ≠ gb629) (fun k_ => ((fun k_ => (P0_ k_ ∨ w.heap.size ≤ k_) ∧ k_ ≠ gb629)) k_ ∧ some k_ ≠ (v680 : Value).ownBlock) rfl rfl ?aO ?aR (fun _ hk => hk) ?aF ?aB ?aS ?aL ?_
           (case aR => exact (by skip; exact Kd.V_F (Kd.V_mono (ok' := (fun k_ => ((fun k_ => (P0_ k_ ∨ w.heap.size ≤ k_) ∧ k_ ≠ gb629)) k_ ∧ some k_ ≠ (v680 : Value).ownBlock)) (HO686.out) (fun k_ hk => ⟨⟨hk.1.1, hk.1.2.2.2.2.2⟩, hk.2⟩))))
           (case aB => exact (wmv HB.out))
           (case aF => exact (fun k_ hk => ⟨(.inr (Nat.le_trans (below_size (wmv HB.out)) hk)), Kd.freshB (bmv BK629.out) k_ hk⟩))
           (case aO => exact (Kd.N_mv HO681.out))
           (case aS => exact (below_size (wmv HB.out)))
           (case aL => have := LMc38.out; omega)
           intro v688 w51 ho hb hg hat
           rw [← Ny687.out] at ho
           have n0_ := am (Kd.V_afterv (ok := (fun k_ => (P0_ k_ ∨ w.heap.size ≤ k_) ∧ k_ ≠ gb629)) (Kd.V_mv (Kd.V_mono HO_0.out (fun _ hk => ⟨⟨hk.1.1, hk.1.2.2.2.2.2⟩, hk.2⟩))) hg hat)
           have n1_ := am (blk_grown (bmv BK629.out) hg (Kd.N_away HO681.out (fun _ hk => hk.2)))
           have n2_ := am (Kd.V_afterv (ok := (fun k_ => (P0_ k_ ∨ w.heap.size ≤ k_) ∧ k_ ≠ gb629)) (Kd.V_mv (Kd.V_mono HO662.out (fun _ hk => ⟨⟨hk.1.1, hk.1.2.2.2.2.2⟩, hk.2⟩))) hg hat)
           have n3_ := am (Kd.V_afterv (ok := (fun k_ => (P0_ k_ ∨ w.heap.size ≤ k_) ∧ k_ ≠ gb629)) (Kd.V_mv (Kd.V_mono HO686.out (fun _ hk => ⟨⟨hk.1.1, hk.1.2.2.2.2.2⟩, hk.2⟩))) hg hat)
           have n4_ := am (hb)
           have n5_ := am (ho)
           clear HO_0 BK629 HO662 HO686 HB HO681
           revert n0_ n1_ n2_ n3_ n4_ n5_
           intro HO_0 BK629 HO662 HO686 HB HO689
           clear ho hb hg hat
           refine hK.out _ _ ⟨bc BK629 0, bc BK629 1, bc BK629 2, bc BK629 3, bc BK629 4⟩ (fun hHeld => ?_)
           clear hK K
           refine nm ?_
           refine pu (i := 13) (N := some 4) (bb 14 16383) HT_ ?_
           refine done_ (done_of HT_.out (by kernel_rfl)) ?_
           try go_wp2
           go_ret
           exact ⟨_, by first | rfl | (simp [errW_none, errW_some] <;> rfl) | (simp [*, errW_none, errW_some] <;> rfl), by (with_reducible repeat (first | apply Kd.N_alloc | apply Kd.N_drewN | apply Kd.N_drew)); exact Kd.N_mono HO689.out (fun _ hk => hk.1), by repeat (first | (with_reducible first | exact HB.out | apply below_alloc | apply pw_below_drewN | apply below_drew1 | refine below_set ?_ GE629.out) | exact HB.out)⟩
          ·rw [if_neg c38] at H
           exact absurd H (by simp)
         ·rw [if_neg c35] at H
          exact absurd H (by simp)
        ·rw [if_neg c33] at H
         exact absurd H (by simp)
       ·rw [if_neg c32] at H
        exact absurd H (by simp)
      ·rw [if_neg c31] at H
       exact absurd H (by simp)
def hypercuberef2_Narrow.l0 : Nat → Int → Int → Int → Int → List Int → Int → List Int → List Int → List Int → List Int → Int → List Int → List Int → List Int → Option (List Int × Int × List Int × List Int × List Int)
 | 0, _, _, _, _, _, _, _, _, _, _, _, _, _, _ => none
 | k + 1, x1, x2, x8, x9, x809000, x809001, x809002, x809003, x809004, x824000, x824001, x824002, x824003, x824004 => if x9 < 4 then (if 0 ≤ x9 then (if (Go.bits .and .i64 (shr .i64 x1 x9) 1) = 1 then (if (Go.bits .and .i64 (shr .i64 x2 x9) 1) = 1 then (if 0 ≤ x8 then (if x8 < (x809000.length : Int) then (if x824000.length < 17592186044416 then (hypercuberef2_Narrow.l0 k x1 x2 (wrap64 (x8 + 1)) (IntKind.u64.wrap (x9 + 1)) x809000 x809001 x809002 x809003 x809004 (x824000 ++ [rd x809000 x8]) x824001 x824002 x824003 x824004) else (none)) else (none)) else (none)) else (hypercuberef2_Narrow.l0 k x1 x2 (wrap64 (x8 + 1)) (IntKind.u64.wrap (x9 + 1)) x809000 x809001 x809002 x809003 x809004 x824000 x824001 x824002 x824003 x824004)) else (hypercuberef2_Narrow.l0 k x1 x2 x8 (IntKind.u64.wrap (x9 + 1)) x809000 x809001 x809002 x809003 x809004 x824000 x824001 x824002 x824003 x824004)) else (none)) else (some (x824000, x824001, x824002, x824003, x824004))
def hypercuberef2_Narrow.f (k : Nat) (l0_0 : List Int) (a0_1 : Int) (l0_2 : List Int) (l0_3 : List Int) (l0_4 : List Int) (a1 : Int) (a2 : Int) : Option (List Int × Int × List Int × List Int × List Int) := (hypercuberef2_Copy.f l0_0 a0_1 l0_2 l0_3 l0_4).bind fun bt810 => (hypercuberef2_Narrow.l0 k a1 a2 0 0 l0_0 a0_1 l0_2 l0_3 l0_4 ([] : List Int) bt810.2.1 bt810.2.2.1 bt810.2.2.2.1 bt810.2.2.2.2)
def hypercuberef2_Narrow.T9 : Bool × List (List Nat × List Nat) := (true, [([], []), ([0], [0]), ([], []), ([2], [2]), ([], []), ([3, 4], [3, 4]), ([5], [5]), ([6], [6]), ([1, 7], [1, 7]), ([0, 1, 2, 3, 4, 5, 6, 7, 8], []), ([9, 8, 8, 0, 1, 2, 3, 4, 5, 6, 7, 8], [8, 9])])
def hypercuberef2_Narrow.B9 : List Nat := [0, 1, 0, 4, 0, 28, 60, 124, 255, 511, 1023]
theorem hypercuberef2_Narrow.tab9 : rtab .any (opsOf Try.f32 9) = hypercuberef2_Narrow.T9 := by kernel_rfl
theorem hypercuberef2_Narrow.bits9 : waitsOk hypercuberef2_Narrow.T9.2 hypercuberef2_Narrow.B9 = true := by kernel_rfl
set_option maxHeartbeats 8000000 in
set_option maxRecDepth 100000 in
theorem hypercuberef2_Narrow.calls (k : Nat) (A0_0 : Option Addr) (c0_0 : Nat) (l0_0 : List Int) (a0_1 : Int) (A0_2 : Option Addr) (c0_2 : Nat) (l0_2 : List Int) (A0_3 : Option Addr) (c0_3 : Nat) (l0_3 : List Int) (A0_4 : Option Addr) (c0_4 : Nat) (l0_4 : List Int) (a1 : Int) (a2 : Int) (r1 : List Int) (r2 : Int) (r3 : List Int) (r4 : List Int) (r5 : List Int) (w : World) (hr0_0 : Kd.C (Kd.int .i64) w A0_0 l0_0.length l0_0) (hc0_0 : l0_0.length ≤ c0_0) (hr0_2 : Kd.C (Kd.int .i64) w A0_2 l0_2.length l0_2) (hc0_2 : l0_2.length ≤ c0_2) (hr0_3 : Kd.C (Kd.int .i64) w A0_3 l0_3.length l0_3) (hc0_3 : l0_3.length ≤ c0_3) (hr0_4 : Kd.C (Kd.int .i64) w A0_4 l0_4.length l0_4) (hc0_4 : l0_4.length ≤ c0_4) (h : hypercuberef2_Narrow.f k l0_0 a0_1 l0_2 l0_3 l0_4 a1 a2 = some (r1, r2, r3, r4, r5)) :
  Calls Try.prog 32 #[.agg #[.slice A0_0 l0_0.length c0_0, .int .i64 a0_1, .slice A0_2 l0_2.length c0_2, .slice A0_3 l0_3.length c0_3, .slice A0_4 l0_4.length c0_4], .int .i64 a1, .int .i64 a2] w fun e w' => ∃ v0_ v2_ v3_ v4_ : Value, e = .returned (.agg #[v0_, .int .i64 r2, v2_, v3_, v4_]) ∧ Kd.R (Kd.int .i64) 3 w' w.heap.size (fun k_ => some k_ ≠ (v2_ : Value).ownBlock ∧ some k_ ≠ (v3_ : Value).ownBlock ∧ some k_ ≠ (v4_ : Value).ownBlock) v0_ r1 ∧ Kd.R (Kd.int .i64) 3 w' w.heap.size (fun k_ => some k_ ≠ (v0_ : Value).ownBlock ∧ some k_ ≠ (v3_ : Value).ownBlock ∧ some k_ ≠ (v4_ : Value).ownBlock) v2_ r3 ∧ Kd.R (Kd.int .i64) 3 w' w.heap.size (fun k_ => some k_ ≠ (v0_ : Value).ownBlock ∧ some k_ ≠ (v2_ : Value).ownBlock ∧ some k_ ≠ (v4_ : Value).ownBlock) v3_ r4 ∧ Kd.R (Kd.int .i64) 3 w' w.heap.size (fun k_ => some k_ ≠ (v0_ : Value).ownBlock ∧ some k_ ≠ (v2_ : Value).ownBlock ∧ some k_ ≠ (v3_ : Value).ownBlock) v4_ r5 ∧ Below w.heap.size w w' := by
 have hu30 := Try.underlying30
 have HR0_0 := am hr0_0
 have HC0_0 := am hc0_0
 clear hr0_0 hc0_0
 have HR0_2 := am hr0_2
 have HC0_2 := am hc0_2
 clear hr0_2 hc0_2
 have HR0_3 := am hr0_3
 have HC0_3 := am hc0_3
 clear hr0_3 hc0_3
 have HR0_4 := am hr0_4
 have HC0_4 := am hc0_4
 clear hr0_4 hc0_4
 have HB := am (Below.refl w.heap.size w)
 have H : ((hypercuberef2_Copy.f l0_0 a0_1 l0_2 l0_3 l0_4).bind fun bt810 => (hypercuberef2_Narrow.l0 k a1 a2 0 0 l0_0 a0_1 l0_2 l0_3 l0_4 ([] : List Int) bt810.2.1 bt810.2.2.1 bt810.2.2.2.1 bt810.2.2.2.2)) = some (r1, r2, r3, r4, r5) := h
 clear h
 replace H := Option.bind_eq_some_iff.mp H
 obtain ⟨⟨t810, t813, t814, t817, t820⟩, A40, H⟩ := H
 replace H : (hypercuberef2_Narrow.l0 k a1 a2 0 0 l0_0 a0_1 l0_2 l0_3 l0_4 ([] : List Int) t813 t814 t817 t820) = some (r1, r2, r3, r4, r5) := H
 have A4 := am A40
 clear A40
 have H' := am H
 clear H
 go_enter Try.func32, Try.ntmps32
 go_wp2_with (first | ((with_reducible refine gate_dst (N := 3) rfl ?_); refine box_event ?hg (N := 3) ?hd (cs := #[.slice A0_0 l0_0.length c0_0, .int .i64 a0_1, .slice A0_2 l0_2.length c0_2, .slice A0_3 l0_3.length c0_3, .slice A0_4 l0_4.length c0_4]) (t := 30) ?hr ?_; (case hd => rfl); (case hg => rfl); (case hr => first | (go_simp; done) | (go_simp; rfl)); intro gb808 hg w5 hbox hb; have n0_ := am (below_step (by repeat (first | (with_reducible first | exact HB.out | apply below_alloc | apply pw_below_drewN | apply below_drew1) | exact HB.out)) hb); have n1_ := am (hbox); have n2_ := am ((by rw [hg]; exact (below_size (by repeat (first | (with_reducible first | exact HB.out | apply below_alloc | apply pw_below_drewN | apply below_drew1) | exact HB.out))) : w.heap.size ≤ gb808)); have n3_ := am ((by rw [hg]; exact (below_size (by repeat (first | (with_reducible first | exact HB.out | apply below_alloc | apply pw_below_drewN | apply below_drew1) | exact HB.out))) : w.heap.size ≤ gb808)); clear HB; revert n0_ n1_ n2_ n3_; intro HB BK808 GW808 GE808; clear hb hbox hg) | ((with_reducible refine gate_dst (N := 6) rfl ?_); refine box_event ?hg (N := 6) ?hd (cs := #[.slice none 0 0, .int .i64 0, .slice none 0 0, .slice none 0 0, .slice none 0 0]) (t := 30) ?hr ?_; (case hd => rfl); (case hg => rfl); (case hr => first | (go_simp; done) | (go_simp; rfl)); intro gb809 hg w6 hbox hb; have n0_ := am (blk_below (g := gb808) (o := .cells #[.slice A0_0 l0_0.length c0_0, .int .i64 a0_1, .slice A0_2 l0_2.length c0_2, .slice A0_3 l0_3.length c0_3, .slice A0_4 l0_4.length c0_4] 30 (0, 0)) (by (with_reducible repeat (first | refine blk_drewN ?_ _ | refine blk_drew ?_ | refine blk_alloc ?_ _)); exact BK808.out) hb); have n1_ := am (below_step (by repeat (first | (with_reducible first | exact HB.out | apply below_alloc | apply pw_below_drewN | apply below_drew1 | refine below_set ?_ GE808.out) | exact HB.out)) hb); have n2_ := am (hbox); have n3_ := am ((by rw [hg]; exact (below_size (by repeat (first | (with_reducible first | exact HB.out | apply below_alloc | apply pw_below_drewN | apply below_drew1 | refine below_set ?_ GE808.out) | exact HB.out))) : w.heap.size ≤ gb809)); have n4_ := am ((by rw [hg]; exact (below_size (by repeat (first | (with_reducible first | exact HB.out | apply below_alloc | apply pw_below_drewN | apply below_drew1 | refine below_set ?_ GE808.out) | exact HB.out))) : w.heap.size ≤ gb809)); have n5_ := am ((by rw [hg]; exact Nat.ne_of_lt (blk_lt (g := gb808) (o := .cells #[.slice A0_0 l0_0.length c0_0, .int .i64 a0_1, .slice A0_2 l0_2.length c0_2, .slice A0_3 l0_3.length c0_3, .slice A0_4 l0_4.length c0_4] 30 (0, 0)) (by (with_reducible repeat (first | refine blk_drewN ?_ _ | refine blk_drew ?_ | refine blk_alloc ?_ _)); exact BK808.out)) : gb808 ≠ gb809)); have n6_ := am ((by rw [hg]; exact Nat.ne_of_gt (blk_lt (g := gb808) (o := .cells #[.slice A0_0 l0_0.length c0_0, .int .i64 a0_1, .slice A0_2 l0_2.length c0_2, .slice A0_3 l0_3.length c0_3, .slice A0_4 l0_4.length c0_4] 30 (0, 0)) (by (with_reducible repeat (first | refine blk_drewN ?_ _ | refine blk_drew ?_ | refine blk_alloc ?_ _)); exact BK808.out)) : gb809 ≠ gb808)); clear BK808 HB; revert n0_ n1_ n2_ n3_ n4_ n5_ n6_; intro BK808 HB BK809 GW809 GE809 NB808_809 NB809_808; clear hb hbox hg; have hnb7 := NB808_809.out; have hnc7 := NB809_808.out; have hcz8_0 : w6.cell? ⟨gb808, 0, none⟩ = some (.slice A0_0 l0_0.length c0_0) := (blk_cell BK808.out 0).trans rfl; have hcz8_1 : w6.cell? ⟨gb808, 1, none⟩ = some (.int .i64 a0_1) := (blk_cell BK808.out 1).trans rfl; have hcz8_2 : w6.cell? ⟨gb808, 2, none⟩ = some (.slice A0_2 l0_2.length c0_2) := (blk_cell BK808.out 2).trans rfl; have hcz8_3 : w6.cell? ⟨gb808, 3, none⟩ = some (.slice A0_3 l0_3.length c0_3) := (blk_cell BK808.out 3).trans rfl; have hcz8_4 : w6.cell? ⟨gb808, 4, none⟩ = some (.slice A0_4 l0_4.length c0_4) := (blk_cell BK808.out 4).trans rfl; have hfz8_0 := blk_frozen BK808.out 0; have hfz8_1 := blk_frozen BK808.out 1; have hfz8_2 := blk_frozen BK808.out 2; have hfz8_3 := blk_frozen BK808.out 3; have hfz8_4 := blk_frozen BK808.out 4) | (go_at_call 52; (with_reducible refine (hypercuberef2_Copy.calls _ _ l0_0 a0_1 _ _ l0_2 _ _ l0_3 _ _ l0_4 t810 t813 t814 t817 t820 _ ?side1 ?side2 ?side3 ?side4 ?side5 ?side6 ?side7 ?side8 A4.out).mono ?_); (case side1 => repeat (first | exact (Kd.C_below HR0_0.out HB.out) | (with_reducible refine Kd.C_alloc ?_ _) | (with_reducible refine Kd.C_drewN ?_ _) | (with_reducible refine Kd.C_drew ?_))); (case side2 => exact HC0_0.out); (case side3 => repeat (first | exact (Kd.C_below HR0_2.out HB.out) | (with_reducible refine Kd.C_alloc ?_ _) | (with_reducible refine Kd.C_drewN ?_ _) | (with_reducible refine Kd.C_drew ?_))); (case side4 => exact HC0_2.out); (case side5 => repeat (first | exact (Kd.C_below HR0_3.out HB.out) | (with_reducible refine Kd.C_alloc ?_ _) | (with_reducible refine Kd.C_drewN ?_ _) | (with_reducible refine Kd.C_drew ?_))); (case side6 => exact HC0_3.out); (case side7 => repeat (first | exact (Kd.C_below HR0_4.out HB.out) | (with_reducible refine Kd.C_alloc ?_ _) | (with_reducible refine Kd.C_drewN ?_ _) | (with_reducible refine Kd.C_drew ?_))); (case side8 => exact HC0_4.out); rintro e w9 ⟨v811, v815, v818, v821, rfl, ho0, ho1, ho2, ho3, hb⟩; have n0_ := am (Kd.R_lower ho0 (below_size (by repeat (first | (with_reducible first | exact HB.out | apply below_alloc | apply pw_below_drewN | apply below_drew1 | refine below_set ?_ GE808.out | refine below_set ?_ GE809.out) | exact HB.out)))); have n1_ := am (Kd.R_lower ho1 (below_size (by repeat (first | (with_reducible first | exact HB.out | apply below_alloc | apply pw_below_drewN | apply below_drew1 | refine below_set ?_ GE808.out | refine below_set ?_ GE809.out) | exact HB.out)))); have n2_ := am (Kd.R_lower ho2 (below_size (by repeat (first | (with_reducible first | exact HB.out | apply below_alloc | apply pw_below_drewN | apply below_drew1 | refine below_set ?_ GE808.out | refine below_set ?_ GE809.out) | exact HB.out)))); have n3_ := am (Kd.R_lower ho3 (below_size (by repeat (first | (with_reducible first | exact HB.out | apply below_alloc | apply pw_below_drewN | apply below_drew1 | refine below_set ?_ GE808.out | refine below_set ?_ GE809.out) | exact HB.out)))); have n4_ := am (blk_below (g := gb808) (o := .cells #[.slice A0_0 l0_0.length c0_0, .int .i64 a0_1, .slice A0_2 l0_2.length c0_2, .slice A0_3 l0_3.length c0_3, .slice A0_4 l0_4.length c0_4] 30 (0, 0)) (by (with_reducible repeat (first | refine blk_drewN ?_ _ | refine blk_drew ?_ | refine blk_alloc ?_ _)); exact BK808.out) hb); have n5_ := am (blk_below (g := gb809) (o := .cells #[.slice none 0 0, .int .i64 0, .slice none 0 0, .slice none 0 0, .slice none 0 0] 30 (0, 0)) (by (with_reducible repeat (first | refine blk_drewN ?_ _ | refine blk_drew ?_ | refine blk_alloc ?_ _)); exact BK809.out) hb); have n6_ := am (below_step (by repeat (first | (with_reducible first | exact HB.out | apply below_alloc | apply pw_below_drewN | apply below_drew1 | refine below_set ?_ GE808.out | refine below_set ?_ GE809.out) | exact HB.out)) hb); clear BK808 BK809 HB; revert n0_ n1_ n2_ n3_ n4_ n5_ n6_; intro HO812 HO816 HO819 HO822 BK808 BK809 HB; (try clear hb); (try clear hb2); (try clear hk); (try clear hi); (try clear ho0); (try clear ho1); (try clear ho2); (try clear ho3)) | ((with_reducible refine gate_dst (N := 7) rfl ?_); refine box_event ?hg (N := 7) ?hd (cs := #[.slice none 0 0, .int .i64 0, .slice none 0 0, .slice none 0 0, .slice none 0 0]) (t := 30) ?hr ?_; (case hd => rfl); (case hg => rfl); (case hr => first | (go_simp; done) | (go_simp; rfl)); intro gb823 hg w10 hbox hb; have n0_ := am (Kd.R_below (by (with_reducible repeat (first | apply Kd.R_alloc | apply Kd.R_drewN | apply Kd.R_drew)); exact HO812.out) hb); have n1_ := am (Kd.R_below (by (with_reducible repeat (first | apply Kd.R_alloc | apply Kd.R_drewN | apply Kd.R_drew)); exact HO816.out) hb); have n2_ := am (Kd.R_below (by (with_reducible repeat (first | apply Kd.R_alloc | apply Kd.R_drewN | apply Kd.R_drew)); exact HO819.out) hb); have n3_ := am (Kd.R_below (by (with_reducible repeat (first | apply Kd.R_alloc | apply Kd.R_drewN | apply Kd.R_drew)); exact HO822.out) hb); have n4_ := am (blk_below (g := gb808) (o := .cells #[.slice A0_0 l0_0.length c0_0, .int .i64 a0_1, .slice A0_2 l0_2.length c0_2, .slice A0_3 l0_3.length c0_3, .slice A0_4 l0_4.length c0_4] 30 (0, 0)) (by (with_reducible repeat (first | refine blk_drewN ?_ _ | refine blk_drew ?_ | refine blk_alloc ?_ _)); exact BK808.out) hb); have n5_ := am (blk_below (g := gb809) (o := .cells #[.slice none 0 0, .int .i64 0, .slice none 0 0, .slice none 0 0, .slice none 0 0] 30 (0, 0)) (by (with_reducible repeat (first | refine blk_drewN ?_ _ | refine blk_drew ?_ | refine blk_alloc ?_ _)); exact BK809.out) hb); have n6_ := am (below_step (by repeat (first | (with_reducible first | exact HB.out | apply below_alloc | apply pw_below_drewN | apply below_drew1 | refine below_set ?_ GE808.out | refine below_set ?_ GE809.out) | exact HB.out)) hb); have n7_ := am (hbox); have n8_ := am ((by rw [hg]; exact (below_size (by repeat (first | (with_reducible first | exact HB.out | apply below_alloc | apply pw_below_drewN | apply below_drew1 | refine below_set ?_ GE808.out | refine below_set ?_ GE809.out) | exact HB.out))) : w.heap.size ≤ gb823)); have n9_ := am ((by rw [hg]; exact (below_size (by repeat (first | (with_reducible first | exact HB.out | apply below_alloc | apply pw_below_drewN | apply below_drew1 | refine below_set ?_ GE808.out | refine below_set ?_ GE809.out) | exact HB.out))) : w.heap.size ≤ gb823)); have n10_ := am ((by rw [hg]; exact Nat.ne_of_lt (blk_lt (g := gb808) (o := .cells #[.slice A0_0 l0_0.length c0_0, .int .i64 a0_1, .slice A0_2 l0_2.length c0_2, .slice A0_3 l0_3.length c0_3, .slice A0_4 l0_4.length c0_4] 30 (0, 0)) (by (with_reducible repeat (first | refine blk_drewN ?_ _ | refine blk_drew ?_ | refine blk_alloc ?_ _)); exact BK808.out)) : gb808 ≠ gb823)); have n11_ := am ((by rw [hg]; exact Nat.ne_of_gt (blk_lt (g := gb808) (o := .cells #[.slice A0_0 l0_0.length c0_0, .int .i64 a0_1, .slice A0_2 l0_2.length c0_2, .slice A0_3 l0_3.length c0_3, .slice A0_4 l0_4.length c0_4] 30 (0, 0)) (by (with_reducible repeat (first | refine blk_drewN ?_ _ | refine blk_drew ?_ | refine blk_alloc ?_ _)); exact BK808.out)) : gb823 ≠ gb808)); have n12_ := am ((by rw [hg]; exact Nat.ne_of_lt (blk_lt (g := gb809) (o := .cells #[.slice none 0 0, .int .i64 0, .slice none 0 0, .slice none 0 0, .slice none 0 0] 30 (0, 0)) (by (with_reducible repeat (first | refine blk_drewN ?_ _ | refine blk_drew ?_ | refine blk_alloc ?_ _)); exact BK809.out)) : gb809 ≠ gb823)); have n13_ := am ((by rw [hg]; exact Nat.ne_of_gt (blk_lt (g := gb809) (o := .cells #[.slice none 0 0, .int .i64 0, .slice none 0 0, .slice none 0 0, .slice none 0 0] 30 (0, 0)) (by (with_reducible repeat (first | refine blk_drewN ?_ _ | refine blk_drew ?_ | refine blk_alloc ?_ _)); exact BK809.out)) : gb823 ≠ gb809)); clear HO812 HO816 HO819 HO822 BK808 BK809 HB; revert n0_ n1_ n2_ n3_ n4_ n5_ n6_ n7_ n8_ n9_ n10_ n11_ n12_ n13_; intro HO812 HO816 HO819 HO822 BK808 BK809 HB BK823 GW823 GE823 NB808_823 NB823_808 NB809_823 NB823_809; clear hb hbox hg; obtain ⟨Ao11, co11, eo11⟩ := Kd.R_slice HO812.out; subst eo11; have hnb12 := NB823_808.out; have hnc12 := NB808_823.out; have hnb13 := NB823_809.out; have hnc13 := NB809_823.out; have hcz14_0 : w10.cell? ⟨gb823, 0, none⟩ = some (.slice none 0 0) := (blk_cell BK823.out 0).trans rfl; have hcz14_1 : w10.cell? ⟨gb823, 1, none⟩ = some (.int .i64 0) := (blk_cell BK823.out 1).trans rfl; have hcz14_2 : w10.cell? ⟨gb823, 2, none⟩ = some (.slice none 0 0) := (blk_cell BK823.out 2).trans rfl; have hcz14_3 : w10.cell? ⟨gb823, 3, none⟩ = some (.slice none 0 0) := (blk_cell BK823.out 3).trans rfl; have hcz14_4 : w10.cell? ⟨gb823, 4, none⟩ = some (.slice none 0 0) := (blk_cell BK823.out 4).trans rfl; have hfz14_0 := blk_frozen BK823.out 0; have hfz14_1 := blk_frozen BK823.out 1; have hfz14_2 := blk_frozen BK823.out 2; have hfz14_3 := blk_frozen BK823.out 3; have hfz14_4 := blk_frozen BK823.out 4; obtain ⟨Ao15, co15, eo15⟩ := Kd.R_slice HO816.out; subst eo15; obtain ⟨Ao16, co16, eo16⟩ := Kd.R_slice HO819.out; subst eo16; obtain ⟨Ao17, co17, eo17⟩ := Kd.R_slice HO822.out; subst eo17))
 go_loopg [8, 9] k (fun kq v8 v9 w' => ∃ (x8_1 : Int) (x9_1 : Int) (x824000_1 : List Int) (u824000 : Value), v8 = .int .i64 x8_1 ∧ v9 = .int .u64 x9_1 ∧ Aside0 (hypercuberef2_Narrow.l0 kq a1 a2 x8_1 x9_1 l0_0 a0_1 l0_2 l0_3 l0_4 x824000_1 t813 t814 t817 t820 = some (r1, r2, r3, r4, r5)) ∧ Aside0 (kq ≤ k) ∧ Aside0 (Kd.R (Kd.int .i64) 3 w' w.heap.size (fun k_ => some k_ ≠ ((.slice Ao15 t814.length co15) : Value).ownBlock ∧ some k_ ≠ ((.slice Ao16 t817.length co16) : Value).ownBlock ∧ some k_ ≠ ((.slice Ao17 t820.length co17) : Value).ownBlock) u824000 x824000_1) ∧ Aside0 (Kd.R (Kd.int .i64) 3 w' w.heap.size (fun k_ => some k_ ≠ (u824000 : Value).ownBlock ∧ some k_ ≠ ((.slice Ao16 t817.length co16) : Value).ownBlock ∧ some k_ ≠ ((.slice Ao17 t820.length co17) : Value).ownBlock) (.slice Ao15 t814.length co15) t814) ∧ Aside0 (Kd.R (Kd.int .i64) 3 w' w.heap.size (fun k_ => some k_ ≠ (u824000 : Value).ownBlock ∧ some k_ ≠ ((.slice Ao15 t814.length co15) : Value).ownBlock ∧ some k_ ≠ ((.slice Ao17 t820.length co17) : Value).ownBlock) (.slice Ao16 t817.length co16) t817) ∧ Aside0 (Kd.R (Kd.int .i64) 3 w' w.heap.size (fun k_ => some k_ ≠ (u824000 : Value).ownBlock ∧ some k_ ≠ ((.slice Ao15 t814.length co15) : Value).ownBlock ∧ some k_ ≠ ((.slice Ao16 t817.length co16) : Value).ownBlock) (.slice Ao17 t820.length co17) t820) ∧ Aside0 (w'.heap[gb808]? = some (.cells #[(.slice A0_0 l0_0.length c0_0), .int .i64 a0_1, (.slice A0_2 l0_2.length c0_2), (.slice A0_3 l0_3.length c0_3), (.slice A0_4 l0_4.length c0_4)] 30 (0, 0))) ∧ Aside0 (w'.heap[gb809]? = some (.cells #[(.slice none 0 0), .int .i64 0, (.slice none 0 0), (.slice none 0 0), (.slice none 0 0)] 30 (0, 0))) ∧ Aside0 (w'.heap[gb823]? = some (.cells #[u824000, .int .i64 t813, (.slice Ao15 t814.length co15), (.slice Ao16 t817.length co16), (.slice Ao17 t820.length co17)] 30 (0, 0))) ∧ Aside0 (Below w.heap.size w w'))
 case atStart => exact ⟨(0), (0), (([] : List Int)), (.slice none 0 0), (by first | rfl | (simp; done) | (simp [*]; done)), (by first | rfl | (simp; done) | (simp [*]; done)), H', ⟨Nat.le_refl _⟩, ⟨by first | exact Kd.R_nil _ _ _ _ _ | exact Kd.N_nil _ _ _ _ _ | exact Kd.V_nil _ _ _ _ _ | exact Kd.Q_nil _ _ _ _ _ | exact Kd.S_nil _ _ _ _ _⟩, ⟨by (with_reducible repeat (first | apply Kd.R_alloc | apply Kd.R_drewN | apply Kd.R_drew)); exact Kd.R_mono (Kd.R_far (p := ⟨gb823, 0, none⟩) (Kd.R_far (p := ⟨gb823, 4, none⟩) (Kd.R_far (p := ⟨gb823, 3, none⟩) (Kd.R_far (p := ⟨gb823, 2, none⟩) (Kd.R_far (p := ⟨gb823, 1, none⟩) (Kd.R_far (p := ⟨gb823, 0, none⟩) (Kd.R_types HO816.out BK823.out (by decide)) (fun _ hk => hk.2) (.slice Ao11 t810.length co11)) (fun _ hk => hk.2) (.int .i64 t813)) (fun _ hk => hk.2) (.slice Ao15 t814.length co15)) (fun _ hk => hk.2) (.slice Ao16 t817.length co16)) (fun _ hk => hk.2) (.slice Ao17 t820.length co17)) (fun _ hk => hk.2) (.slice none 0 0)) (fun _ hk => ⟨(by simp [Value.ownBlock]), ⟨hk.1.2.1, hk.1.2.2⟩⟩)⟩, ⟨by (with_reducible repeat (first | apply Kd.R_alloc | apply Kd.R_drewN | apply Kd.R_drew)); exact Kd.R_mono (Kd.R_far (p := ⟨gb823, 0, none⟩) (Kd.R_far (p := ⟨gb823, 4, none⟩) (Kd.R_far (p := ⟨gb823, 3, none⟩) (Kd.R_far (p := ⟨gb823, 2, none⟩) (Kd.R_far (p := ⟨gb823, 1, none⟩) (Kd.R_far (p := ⟨gb823, 0, none⟩) (Kd.R_types HO819.out BK823.out (by decide)) (fun _ hk => hk.2) (.slice Ao11 t810.length co11)) (fun _ hk => hk.2) (.int .i64 t813)) (fun _ hk => hk.2) (.slice Ao15 t814.length co15)) (fun _ hk => hk.2) (.slice Ao16 t817.length co16)) (fun _ hk => hk.2) (.slice Ao17 t820.length co17)) (fun _ hk => hk.2) (.slice none 0 0)) (fun _ hk => ⟨(by simp [Value.ownBlock]), ⟨hk.1.2.1, hk.1.2.2⟩⟩)⟩, ⟨by (with_reducible repeat (first | apply Kd.R_alloc | apply Kd.R_drewN | apply Kd.R_drew)); exact Kd.R_mono (Kd.R_far (p := ⟨gb823, 0, none⟩) (Kd.R_far (p := ⟨gb823, 4, none⟩) (Kd.R_far (p := ⟨gb823, 3, none⟩) (Kd.R_far (p := ⟨gb823, 2, none⟩) (Kd.R_far (p := ⟨gb823, 1, none⟩) (Kd.R_far (p := ⟨gb823, 0, none⟩) (Kd.R_types HO822.out BK823.out (by decide)) (fun _ hk => hk.2) (.slice Ao11 t810.length co11)) (fun _ hk => hk.2) (.int .i64 t813)) (fun _ hk => hk.2) (.slice Ao15 t814.length co15)) (fun _ hk => hk.2) (.slice Ao16 t817.length co16)) (fun _ hk => hk.2) (.slice Ao17 t820.length co17)) (fun _ hk => hk.2) (.slice none 0 0)) (fun _ hk => ⟨(by simp [Value.ownBlock]), ⟨hk.1.2.1, hk.1.2.2⟩⟩)⟩, ⟨by (with_reducible repeat (first | refine blk_drewN ?_ _ | refine blk_drew ?_ | refine blk_alloc ?_ _)); refine blk_far ?_ NB808_823.out _; (with_reducible repeat (first | refine blk_drewN ?_ _ | refine blk_drew ?_ | refine blk_alloc ?_ _)); refine blk_far ?_ NB808_823.out _; (with_reducible repeat (first | refine blk_drewN ?_ _ | refine blk_drew ?_ | refine blk_alloc ?_ _)); refine blk_far ?_ NB808_823.out _; (with_reducible repeat (first | refine blk_drewN ?_ _ | refine blk_drew ?_ | refine blk_alloc ?_ _)); refine blk_far ?_ NB808_823.out _; (with_reducible repeat (first | refine blk_drewN ?_ _ | refine blk_drew ?_ | refine blk_alloc ?_ _)); refine blk_far ?_ NB808_823.out _; (with_reducible repeat (first | refine blk_drewN ?_ _ | refine blk_drew ?_ | refine blk_alloc ?_ _)); refine blk_far ?_ NB808_823.out _; (with_reducible repeat (first | refine blk_drewN ?_ _ | refine blk_drew ?_ | refine blk_alloc ?_ _)); exact BK808.out⟩, ⟨by (with_reducible repeat (first | refine blk_drewN ?_ _ | refine blk_drew ?_ | refine blk_alloc ?_ _)); refine blk_far ?_ NB809_823.out _; (with_reducible repeat (first | refine blk_drewN ?_ _ | refine blk_drew ?_ | refine blk_alloc ?_ _)); refine blk_far ?_ NB809_823.out _; (with_reducible repeat (first | refine blk_drewN ?_ _ | refine blk_drew ?_ | refine blk_alloc ?_ _)); refine blk_far ?_ NB809_823.out _; (with_reducible repeat (first | refine blk_drewN ?_ _ | refine blk_drew ?_ | refine blk_alloc ?_ _)); refine blk_far ?_ NB809_823.out _; (with_reducible repeat (first | refine blk_drewN ?_ _ | refine blk_drew ?_ | refine blk_alloc ?_ _)); refine blk_far ?_ NB809_823.out _; (with_reducible repeat (first | refine blk_drewN ?_ _ | refine blk_drew ?_ | refine blk_alloc ?_ _)); refine blk_far ?_ NB809_823.out _; (with_reducible repeat (first | refine blk_drewN ?_ _ | refine blk_drew ?_ | refine blk_alloc ?_ _)); exact BK809.out⟩, ⟨by (with_reducible repeat (first | refine blk_drewN ?_ _ | refine blk_drew ?_ | refine blk_alloc ?_ _)); refine blk_put (cs := #[.slice Ao11 t810.length co11, .int .i64 t813, .slice Ao15 t814.length co15, .slice Ao16 t817.length co16, .slice Ao17 t820.length co17]) ?_ 0 _ rfl; (with_reducible repeat (first | refine blk_drewN ?_ _ | refine blk_drew ?_ | refine blk_alloc ?_ _)); refine blk_put (cs := #[.slice Ao11 t810.length co11, .int .i64 t813, .slice Ao15 t814.length co15, .slice Ao16 t817.length co16, .slice none 0 0]) ?_ 4 _ rfl; (with_reducible repeat (first | refine blk_drewN ?_ _ | refine blk_drew ?_ | refine blk_alloc ?_ _)); refine blk_put (cs := #[.slice Ao11 t810.length co11, .int .i64 t813, .slice Ao15 t814.length co15, .slice none 0 0, .slice none 0 0]) ?_ 3 _ rfl; (with_reducible repeat (first | refine blk_drewN ?_ _ | refine blk_drew ?_ | refine blk_alloc ?_ _)); refine blk_put (cs := #[.slice Ao11 t810.length co11, .int .i64 t813, .slice none 0 0, .slice none 0 0, .slice none 0 0]) ?_ 2 _ rfl; (with_reducible repeat (first | refine blk_drewN ?_ _ | refine blk_drew ?_ | refine blk_alloc ?_ _)); refine blk_put (cs := #[.slice Ao11 t810.length co11, .int .i64 0, .slice none 0 0, .slice none 0 0, .slice none 0 0]) ?_ 1 _ rfl; (with_reducible repeat (first | refine blk_drewN ?_ _ | refine blk_drew ?_ | refine blk_alloc ?_ _)); refine blk_put (cs := #[.slice none 0 0, .int .i64 0, .slice none 0 0, .slice none 0 0, .slice none 0 0]) ?_ 0 _ rfl; (with_reducible repeat (first | refine blk_drewN ?_ _ | refine blk_drew ?_ | refine blk_alloc ?_ _)); exact BK823.out⟩, ⟨by repeat (first | (with_reducible first | exact HB.out | apply below_alloc | apply pw_below_drewN | apply below_drew1 | refine below_set ?_ GE808.out | refine below_set ?_ GE809.out | refine below_set ?_ GE823.out) | exact HB.out)⟩⟩
 case round =>
  clear H'
  try clear c1
  try clear p2
  try clear c3
  try clear c5
  try clear c7
  try clear c12
  try clear c13
  try clear hcz14_0
  try clear hcz14_1
  try clear hcz14_2
  try clear hcz14_3
  try clear hcz14_4
  try clear hcz8_0
  try clear hcz8_1
  try clear hcz8_2
  try clear hcz8_3
  try clear hcz8_4
  try clear hfz14_0
  try clear hfz14_1
  try clear hfz14_2
  try clear hfz14_3
  try clear hfz14_4
  try clear hfz8_0
  try clear hfz8_1
  try clear hfz8_2
  try clear hfz8_3
  try clear hfz8_4
  obtain ⟨x8_1, x9_1, x824000_1, u824000, rfl, rfl, HA, HK1, HO_824000, HO_824002, HO_824003, HO_824004, BK808, BK809, BK823, HB⟩ := hrel
  cases gk with
  | zero => exact absurd HA.out (by simp [hypercuberef2_Narrow.l0])
  | succ k1 =>
   have H := HA.out
   clear HA
   simp only [hypercuberef2_Narrow.l0] at H
   by_cases c18 : x9_1 < 4
   ·rw [if_pos c18] at H
    have c18b0 : decide (x9_1 < 4) = true := decide_eq_true c18
    clear c18
    by_cases c19 : 0 ≤ x9_1
    ·rw [if_pos c19] at H
     have c19b0 := eq_true c19
     have c19b1 : decide (0 ≤ x9_1) = true := decide_eq_true c19
     clear c19
     obtain ⟨ji20, hji20⟩ : ∃ j_ : Int, (shr .i64 a1 x9_1) = j_ := ⟨_, rfl⟩
     replace H : (if (Go.bits .and .i64 (ji20) 1) = 1 then (if (Go.bits .and .i64 (shr .i64 a2 x9_1) 1) = 1 then (if 0 ≤ x8_1 then (if x8_1 < (l0_0.length : Int) then (if x824000_1.length < 17592186044416 then (hypercuberef2_Narrow.l0 k1 a1 a2 (wrap64 (x8_1 + 1)) (IntKind.u64.wrap (x9_1 + 1)) l0_0 a0_1 l0_2 l0_3 l0_4 (x824000_1 ++ [rd l0_0 x8_1]) t813 t814 t817 t820) else (none)) else (none)) else (none)) else (hypercuberef2_Narrow.l0 k1 a1 a2 (wrap64 (x8_1 + 1)) (IntKind.u64.wrap (x9_1 + 1)) l0_0 a0_1 l0_2 l0_3 l0_4 x824000_1 t813 t814 t817 t820)) else (hypercuberef2_Narrow.l0 k1 a1 a2 x8_1 (IntKind.u64.wrap (x9_1 + 1)) l0_0 a0_1 l0_2 l0_3 l0_4 x824000_1 t813 t814 t817 t820)) = some (r1, r2, r3, r4, r5) := by first | (rw [hji20] at H; exact H) | (simp only [hji20] at H ⊢; exact H)
     have hji20_ : (a1 / 2 ^ min x9_1.toNat 64) = ji20 := hji20
     have hji20z : x9_1 ≤ 64 → (a1 / 2 ^ x9_1.toNat) = ji20 := shr_small hji20
     by_cases c21 : (Go.bits .and .i64 (ji20) 1) = 1
     ·rw [if_pos c21] at H
      have c21b0 : ((Go.bits .and .i64 (ji20) 1) == 1) = true := beq_iff_eq.mpr c21
      have c21b1 : ((Go.bits .and .i64 (ji20) 1) != 1) = false := bne_eq_false_iff_eq.mpr c21
      clear c21
      have c22b0 := eq_true (of_decide_eq_true (by first | (with_reducible assumption) | assumption) : 0 ≤ x9_1)
      obtain ⟨ji23, hji23⟩ : ∃ j_ : Int, (shr .i64 a2 x9_1) = j_ := ⟨_, rfl⟩
      replace H : (if (Go.bits .and .i64 (ji23) 1) = 1 then (if 0 ≤ x8_1 then (if x8_1 < (l0_0.length : Int) then (if x824000_1.length < 17592186044416 then (hypercuberef2_Narrow.l0 k1 a1 a2 (wrap64 (x8_1 + 1)) (IntKind.u64.wrap (x9_1 + 1)) l0_0 a0_1 l0_2 l0_3 l0_4 (x824000_1 ++ [rd l0_0 x8_1]) t813 t814 t817 t820) else (none)) else (none)) else (none)) else (hypercuberef2_Narrow.l0 k1 a1 a2 (wrap64 (x8_1 + 1)) (IntKind.u64.wrap (x9_1 + 1)) l0_0 a0_1 l0_2 l0_3 l0_4 x824000_1 t813 t814 t817 t820)) = some (r1, r2, r3, r4, r5) := by first | (rw [hji23] at H; exact H) | (simp only [hji23] at H ⊢; exact H)
      have hji23_ : (a2 / 2 ^ min x9_1.toNat 64) = ji23 := hji23
      have hji23z : x9_1 ≤ 64 → (a2 / 2 ^ x9_1.toNat) = ji23 := shr_small hji23
      by_cases c24 : (Go.bits .and .i64 (ji23) 1) = 1
      ·rw [if_pos c24] at H
       have c24b0 : ((Go.bits .and .i64 (ji23) 1) == 1) = true := beq_iff_eq.mpr c24
       have c24b1 : ((Go.bits .and .i64 (ji23) 1) != 1) = false := bne_eq_false_iff_eq.mpr c24
       clear c24
       by_cases c25 : 0 ≤ x8_1
       ·rw [if_pos c25] at H
        have c25b0 : decide (0 ≤ x8_1) = true := decide_eq_true c25
        clear c25
        by_cases c26 : x8_1 < (l0_0.length : Int)
        ·rw [if_pos c26] at H
         have c26b0 : decide (x8_1 < (l0_0.length : Int)) = true := decide_eq_true c26
         clear c26
         by_cases c27 : x824000_1.length < 17592186044416
         ·rw [if_pos c27] at H
          have LMc27 := am c27
          clear c27
          obtain ⟨y825, hy825⟩ : ∃ y_ : List Int, y_ = (x824000_1 ++ [rd l0_0 x8_1]) := ⟨_, rfl⟩
          replace H : (hypercuberef2_Narrow.l0 k1 a1 a2 (wrap64 (x8_1 + 1)) (IntKind.u64.wrap (x9_1 + 1)) l0_0 a0_1 l0_2 l0_3 l0_4 y825 t813 t814 t817 t820) = some (r1, r2, r3, r4, r5) := by rw [hy825]; with_reducible exact H
          have Ny825 := am hy825
          clear hy825
          have H' := am H
          clear H
          try go_wp2
          have n0_ := am (Kd.R_drew HO_824000.out)
          have n1_ := am (Kd.R_drew HO_824002.out)
          have n2_ := am (Kd.R_drew HO_824003.out)
          have n3_ := am (Kd.R_drew HO_824004.out)
          have n4_ := am (blk_drew BK808.out)
          have n5_ := am (blk_drew BK809.out)
          have n6_ := am (blk_drew BK823.out)
          have n7_ := am (below_drew1 HB.out)
          clear HO_824000 HO_824002 HO_824003 HO_824004 BK808 BK809 BK823 HB
          revert n0_ n1_ n2_ n3_ n4_ n5_ n6_ n7_
          intro HO_824000 HO_824002 HO_824003 HO_824004 BK808 BK809 BK823 HB
          have p824 : 0 ≤ (x8_1 : Int) := of_decide_eq_true (by first | (with_reducible assumption) | assumption)
          have q824 : x8_1 < (l0_0.length : Int) := of_decide_eq_true (by first | (with_reducible assumption) | assumption)
          obtain ⟨ad824, e824, hx824_0⟩ := Kd.at_int HR0_0.out x8_1 p824 q824
          have hw824_0 := hx824_0
          cases e824
          replace hx824_0 := (HB.out.cell (World.block_lt_of_cell? w _ hx824_0)).trans hx824_0
          replace p824 := eq_true p824
          replace q824 := eq_true q824
          refine start_ (n := 11) (S := fun w' => w'.cell? ⟨gb823, 0, none⟩ = some (u824000) ∧ w'.cell? ⟨gb823, 1, none⟩ = some (.int .i64 t813) ∧ w'.cell? ⟨gb823, 2, none⟩ = some (.slice Ao15 t814.length co15) ∧ w'.cell? ⟨gb823, 3, none⟩ = some (.slice Ao16 t817.length co16) ∧ w'.cell? ⟨gb823, 4, none⟩ = some (.slice Ao17 t820.length co17) ∧ w'.cell? ⟨gb808, 0, none⟩ = some (.slice (some ad824) l0_0.length c0_0) ∧ w'.cell? ⟨gb808, 1, none⟩ = some (.int .i64 a0_1) ∧ w'.cell? ⟨gb808, 2, none⟩ = some (.slice A0_2 l0_2.length c0_2) ∧ w'.cell? ⟨gb808, 3, none⟩ = some (.slice A0_3 l0_3.length c0_3) ∧ w'.cell? ⟨gb808, 4, none⟩ = some (.slice A0_4 l0_4.length c0_4) ∧ w'.cell? (ad824.add (x8_1).toNat) = some (.int .i64 (rd l0_0 x8_1))) (ds := [10]) (bb 11 0) (by kernel_rfl) rfl rfl ⟨bc BK823 0, bc BK823 1, bc BK823 2, bc BK823 3, bc BK823 4, bc BK808 0, bc BK808 1, bc BK808 2, bc BK808 3, bc BK808 4, ((HB.out.cell (World.block_lt_of_cell? w _ hw824_0)).trans hw824_0)⟩ (fun hHeld => ?_); refine with_tabW hypercuberef2_Narrow.tab9 hypercuberef2_Narrow.bits9 (fun HT_ HW_ => ?_)
          generalize wr.drew = w28 at HO_824000 HO_824002 HO_824003 HO_824004 BK808 BK809 BK823 HB hx824_0 hHeld ⊢
          refine pu (i := 0) (N := some 27) (bb 11 1) HT_ ?_
          refine pu (i := 2) (N := some 29) (bb 11 5) HT_ ?_
          refine pu (i := 4) (N := some 31) (bb 11 21) HT_ ?_
          refine tk (i := 1) (N := some 28) (bb 11 23) HT_ HW_ hHeld ?_
          refine tk (i := 3) (N := some 30) (bb 11 31) HT_ HW_ hHeld ?_
          refine pu (i := 5) (N := some 32) (bb 11 63) HT_ ?_
          refine tk (i := 6) (N := some 33) (bb 11 127) HT_ HW_ hHeld ?_
          refine one_ (i := 7) (N := some 34) (bb 11 255) rfl rfl (one_of HT_.out (by kernel_rfl)) (by decide) (fun K hK => ?_)
          refine value_ (w1 := ?_) (v := ?_) (by rfl) rfl ?_ ?_
          rotate_left 2
          ·go_simp
           constructor
           ·rfl
           ·rfl
          refine hK.out _ _ ⟨(blk_cell (blk_alloc BK823.out _) 0).trans rfl, (blk_cell (blk_alloc BK823.out _) 1).trans rfl, (blk_cell (blk_alloc BK823.out _) 2).trans rfl, (blk_cell (blk_alloc BK823.out _) 3).trans rfl, (blk_cell (blk_alloc BK823.out _) 4).trans rfl, (blk_cell (blk_alloc BK808.out _) 0).trans rfl, (blk_cell (blk_alloc BK808.out _) 1).trans rfl, (blk_cell (blk_alloc BK808.out _) 2).trans rfl, (blk_cell (blk_alloc BK808.out _) 3).trans rfl, (blk_cell (blk_alloc BK808.out _) 4).trans rfl, (World.cell?_alloc_lt _ _ _ (World.block_lt_of_cell? _ _ (((HB.out.cell (World.block_lt_of_cell? w _ hw824_0)).trans hw824_0)))).trans (((HB.out.cell (World.block_lt_of_cell? w _ hw824_0)).trans hw824_0))⟩ (fun hHeld => ?_)
          clear hK K
          refine nm ?_
          refine one_ (i := 8) (N := some 35) (bb 11 511) rfl rfl (one_of HT_.out (by kernel_rfl)) (by decide) (fun K hK => ?_)
          refine Kd.R_append_step (Kd.int .i64) (w0 := w) w.heap.size (by rfl) (.tmp 28) (.tmp 34) 22 3 (.int .i64 0) 8 rfl Try.underlying22 info3 rfl (by decide) (by omega) u824000 x824000_1 (rd l0_0 x8_1) [.int .i64 (rd l0_0 x8_1)] (fun k_ => some k_ ≠ (.slice Ao15 t814.length co15 : Value).ownBlock ∧ some k_ ≠ (.slice Ao16 t817.length co16 : Value).ownBlock ∧ some k_ ≠ (.slice Ao17 t820.length co17 : Value).ownBlock) (fun _ => False) rfl rfl ?aP (fun _ hk => hk.elim) ?aF ?aO ?aB ?aS ?aL ?_
          (case aP => exact rfl)
          (case aB => exact (wmv HB.out))
          (case aF => exact (fun k_ hk => ⟨Kd.fresh' (Kd.R_lt (Kd.R_mv HO_824002.out)) k_ hk, Kd.fresh' (Kd.R_lt (Kd.R_mv HO_824003.out)) k_ hk, Kd.fresh' (Kd.R_lt (Kd.R_mv HO_824004.out)) k_ hk⟩))
          (case aO => exact (Kd.R_mv HO_824000.out))
          (case aS => exact (below_size (wmv HB.out)))
          (case aL => have := LMc27.out; omega)
          intro v826 w29 ho hb hg hat
          rw [← Ny825.out] at ho
          have n0_ := am (Kd.R_after (ok := (fun k_ => some k_ ≠ (.slice Ao16 t817.length co16 : Value).ownBlock ∧ some k_ ≠ (.slice Ao17 t820.length co17 : Value).ownBlock)) (Kd.R_mv (Kd.R_mono HO_824002.out (fun _ hk => ⟨⟨hk.2.1, hk.2.2⟩, hk.1⟩))) hg hat)
          have n1_ := am (Kd.R_after (ok := (fun k_ => some k_ ≠ (.slice Ao15 t814.length co15 : Value).ownBlock ∧ some k_ ≠ (.slice Ao17 t820.length co17 : Value).ownBlock)) (Kd.R_mv (Kd.R_mono HO_824003.out (fun _ hk => ⟨⟨hk.2.1, hk.2.2⟩, hk.1⟩))) hg hat)
          have n2_ := am (Kd.R_after (ok := (fun k_ => some k_ ≠ (.slice Ao15 t814.length co15 : Value).ownBlock ∧ some k_ ≠ (.slice Ao16 t817.length co16 : Value).ownBlock)) (Kd.R_mv (Kd.R_mono HO_824004.out (fun _ hk => ⟨⟨hk.2.1, hk.2.2⟩, hk.1⟩))) hg hat)
          have n3_ := am (blk_grown (bmv BK808.out) hg (Kd.R_ne HO_824000.out BK808.out (by decide)))
          have n4_ := am (blk_grown (bmv BK809.out) hg (Kd.R_ne HO_824000.out BK809.out (by decide)))
          have n5_ := am (blk_grown (bmv BK823.out) hg (Kd.R_ne HO_824000.out BK823.out (by decide)))
          have n6_ := am (hb)
          have n7_ := am (ho)
          clear HO_824002 HO_824003 HO_824004 BK808 BK809 BK823 HB HO_824000
          revert n0_ n1_ n2_ n3_ n4_ n5_ n6_ n7_
          intro HO_824002 HO_824003 HO_824004 BK808 BK809 BK823 HB HO827
          clear ho hb hg hat
          obtain ⟨Ao30, co30, eo30⟩ := Kd.R_slice HO827.out
          (first | subst eo30 | (injection eo30 with f1_ f2_ f3_; have f4_ := f1_.symm; have f5_ := f3_.symm; clear f1_ f2_ f3_; subst f4_; subst f5_))
          refine hK.out _ _ ⟨bc BK823 0, bc BK823 1, bc BK823 2, bc BK823 3, bc BK823 4, bc BK808 0, bc BK808 1, bc BK808 2, bc BK808 3, bc BK808 4, ((HB.out.cell (World.block_lt_of_cell? w _ hw824_0)).trans hw824_0)⟩ (fun hHeld => ?_)
          clear hK K
          refine nm ?_
          refine pu (i := 9) (N := some 36) (bb 11 1023) HT_ ?_
          refine last_ (i := 10) (N := none) (bb 11 2047) rfl rfl (one_of HT_.out (by kernel_rfl)) (by decide) (fun K hK => ?_)
          have hs31 : w29.cell? ⟨gb823, 0, none⟩ = some (u824000) := (blk_cell BK823.out 0).trans rfl
          have hfs31 := blk_frozen BK823.out 0
          have hns31_0 := NB808_823.out
          have hns31_1 := NB809_823.out
          have hms31_0 := NB823_808.out
          have hms31_1 := NB823_809.out
          refine skip_ (w1 := ?_) (by rfl) rfl ?_ ?_
          rotate_left
          ·go_simp
           rfl
          refine hK.out _ _ ?_
          clear hK K
          refine done_ (done_of HT_.out (by kernel_rfl)) ?_
          try go_wp2
          go_roundg k1
          case measure => have := HK1.out; omega
          case rel => exact ⟨(wrap64 (x8_1 + 1)), (IntKind.u64.wrap (x9_1 + 1)), (y825), (.slice Ao30 y825.length co30), (by first | rfl | (simp; done) | (simp [*]; done)), (by first | rfl | (simp; done) | (simp [*]; done)), H', ⟨by have := HK1.out; omega⟩, ⟨by (with_reducible repeat (first | apply Kd.R_alloc | apply Kd.R_drewN | apply Kd.R_drew)); exact Kd.R_mono (Kd.R_far (p := ⟨gb823, 0, none⟩) (Kd.R_types HO827.out BK823.out (by decide)) (fun _ hk => hk.2) (.slice Ao30 y825.length co30)) (fun _ hk => ⟨hk.1.1, ⟨hk.1.2.1, hk.1.2.2⟩⟩)⟩, ⟨by (with_reducible repeat (first | apply Kd.R_alloc | apply Kd.R_drewN | apply Kd.R_drew)); exact Kd.R_mono (Kd.R_far (p := ⟨gb823, 0, none⟩) (Kd.R_types HO_824002.out BK823.out (by decide)) (fun _ hk => hk.2) (.slice Ao30 y825.length co30)) (fun _ hk => ⟨hk.1.2, ⟨hk.1.1.1, hk.1.1.2⟩⟩)⟩, ⟨by (with_reducible repeat (first | apply Kd.R_alloc | apply Kd.R_drewN | apply Kd.R_drew)); exact Kd.R_mono (Kd.R_far (p := ⟨gb823, 0, none⟩) (Kd.R_types HO_824003.out BK823.out (by decide)) (fun _ hk => hk.2) (.slice Ao30 y825.length co30)) (fun _ hk => ⟨hk.1.2, ⟨hk.1.1.1, hk.1.1.2⟩⟩)⟩, ⟨by (with_reducible repeat (first | apply Kd.R_alloc | apply Kd.R_drewN | apply Kd.R_drew)); exact Kd.R_mono (Kd.R_far (p := ⟨gb823, 0, none⟩) (Kd.R_types HO_824004.out BK823.out (by decide)) (fun _ hk => hk.2) (.slice Ao30 y825.length co30)) (fun _ hk => ⟨hk.1.2, ⟨hk.1.1.1, hk.1.1.2⟩⟩)⟩, ⟨by (with_reducible repeat (first | refine blk_drewN ?_ _ | refine blk_drew ?_ | refine blk_alloc ?_ _)); refine blk_far ?_ NB808_823.out _; (with_reducible repeat (first | refine blk_drewN ?_ _ | refine blk_drew ?_ | refine blk_alloc ?_ _)); exact BK808.out⟩, ⟨by (with_reducible repeat (first | refine blk_drewN ?_ _ | refine blk_drew ?_ | refine blk_alloc ?_ _)); refine blk_far ?_ NB809_823.out _; (with_reducible repeat (first | refine blk_drewN ?_ _ | refine blk_drew ?_ | refine blk_alloc ?_ _)); exact BK809.out⟩, ⟨by (with_reducible repeat (first | refine blk_drewN ?_ _ | refine blk_drew ?_ | refine blk_alloc ?_ _)); refine blk_put (cs := #[u824000, .int .i64 t813, .slice Ao15 t814.length co15, .slice Ao16 t817.length co16, .slice Ao17 t820.length co17]) ?_ 0 _ rfl; (with_reducible repeat (first | refine blk_drewN ?_ _ | refine blk_drew ?_ | refine blk_alloc ?_ _)); exact BK823.out⟩, ⟨by repeat (first | (with_reducible first | exact HB.out | apply below_alloc | apply pw_below_drewN | apply below_drew1 | refine below_set ?_ GE808.out | refine below_set ?_ GE809.out | refine below_set ?_ GE823.out) | exact HB.out)⟩⟩
         ·rw [if_neg c27] at H
          exact absurd H (by simp)
        ·rw [if_neg c26] at H
         exact absurd H (by simp)
       ·rw [if_neg c25] at H
        exact absurd H (by simp)
      ·rw [if_neg c24] at H
       have c24b0 : ((Go.bits .and .i64 (ji23) 1) == 1) = false := beq_eq_false_iff_ne.mpr c24
       have c24b1 : ((Go.bits .and .i64 (ji23) 1) != 1) = true := bne_iff_ne.mpr c24
       have H' := am H
       clear H
       go_wp2
       go_roundg k1
       case measure => have := HK1.out; omega
       case rel => exact ⟨(wrap64 (x8_1 + 1)), (IntKind.u64.wrap (x9_1 + 1)), (x824000_1), (u824000), (by first | rfl | (simp; done) | (simp [*]; done)), (by first | rfl | (simp; done) | (simp [*]; done)), H', ⟨by have := HK1.out; omega⟩, ⟨by (with_reducible repeat (first | apply Kd.R_alloc | apply Kd.R_drewN | apply Kd.R_drew)); exact HO_824000.out⟩, ⟨by (with_reducible repeat (first | apply Kd.R_alloc | apply Kd.R_drewN | apply Kd.R_drew)); exact HO_824002.out⟩, ⟨by (with_reducible repeat (first | apply Kd.R_alloc | apply Kd.R_drewN | apply Kd.R_drew)); exact HO_824003.out⟩, ⟨by (with_reducible repeat (first | apply Kd.R_alloc | apply Kd.R_drewN | apply Kd.R_drew)); exact HO_824004.out⟩, ⟨by (with_reducible repeat (first | refine blk_drewN ?_ _ | refine blk_drew ?_ | refine blk_alloc ?_ _)); exact BK808.out⟩, ⟨by (with_reducible repeat (first | refine blk_drewN ?_ _ | refine blk_drew ?_ | refine blk_alloc ?_ _)); exact BK809.out⟩, ⟨by (with_reducible repeat (first | refine blk_drewN ?_ _ | refine blk_drew ?_ | refine blk_alloc ?_ _)); exact BK823.out⟩, ⟨by repeat (first | (with_reducible first | exact HB.out | apply below_alloc | apply pw_below_drewN | apply below_drew1 | refine below_set ?_ GE808.out | refine below_set ?_ GE809.out | refine below_set ?_ GE823.out) | exact HB.out)⟩⟩
     ·rw [if_neg c21] at H
      have c21b0 : ((Go.bits .and .i64 (ji20) 1) == 1) = false := beq_eq_false_iff_ne.mpr c21
      have c21b1 : ((Go.bits .and .i64 (ji20) 1) != 1) = true := bne_iff_ne.mpr c21
      have H' := am H
      clear H
      go_wp2
      go_roundg k1
      case measure => have := HK1.out; omega
      case rel => exact ⟨(x8_1), (IntKind.u64.wrap (x9_1 + 1)), (x824000_1), (u824000), (by first | rfl | (simp; done) | (simp [*]; done)), (by first | rfl | (simp; done) | (simp [*]; done)), H', ⟨by have := HK1.out; omega⟩, ⟨by (with_reducible repeat (first | apply Kd.R_alloc | apply Kd.R_drewN | apply Kd.R_drew)); exact HO_824000.out⟩, ⟨by (with_reducible repeat (first | apply Kd.R_alloc | apply Kd.R_drewN | apply Kd.R_drew)); exact HO_824002.out⟩, ⟨by (with_reducible repeat (first | apply Kd.R_alloc | apply Kd.R_drewN | apply Kd.R_drew)); exact HO_824003.out⟩, ⟨by (with_reducible repeat (first | apply Kd.R_alloc | apply Kd.R_drewN | apply Kd.R_drew)); exact HO_824004.out⟩, ⟨by (with_reducible repeat (first | refine blk_drewN ?_ _ | refine blk_drew ?_ | refine blk_alloc ?_ _)); exact BK808.out⟩, ⟨by (with_reducible repeat (first | refine blk_drewN ?_ _ | refine blk_drew ?_ | refine blk_alloc ?_ _)); exact BK809.out⟩, ⟨by (with_reducible repeat (first | refine blk_drewN ?_ _ | refine blk_drew ?_ | refine blk_alloc ?_ _)); exact BK823.out⟩, ⟨by repeat (first | (with_reducible first | exact HB.out | apply below_alloc | apply pw_below_drewN | apply below_drew1 | refine below_set ?_ GE808.out | refine below_set ?_ GE809.out | refine below_set ?_ GE823.out) | exact HB.out)⟩⟩
    ·rw [if_neg c19] at H
     exact absurd H (by simp)
   ·rw [if_neg c18] at H
    have c18b0 : decide (x9_1 < 4) = false := decide_eq_false c18
    clear c18
    simp only [Option.some.injEq, Prod.mk.injEq] at H
    obtain ⟨rfl, rfl, rfl, rfl, rfl⟩ := H
    have hnb32 := NB823_808.out
    have hnc32 := NB808_823.out
    have hnb33 := NB823_809.out
    have hnc33 := NB809_823.out
    have hcz34_0 : wr.cell? ⟨gb823, 0, none⟩ = some (u824000) := (blk_cell BK823.out 0).trans rfl
    have hcz34_1 : wr.cell? ⟨gb823, 1, none⟩ = some (.int .i64 t813) := (blk_cell BK823.out 1).trans rfl
    have hcz34_2 : wr.cell? ⟨gb823, 2, none⟩ = some (.slice Ao15 t814.length co15) := (blk_cell BK823.out 2).trans rfl
    have hcz34_3 : wr.cell? ⟨gb823, 3, none⟩ = some (.slice Ao16 t817.length co16) := (blk_cell BK823.out 3).trans rfl
    have hcz34_4 : wr.cell? ⟨gb823, 4, none⟩ = some (.slice Ao17 t820.length co17) := (blk_cell BK823.out 4).trans rfl
    have hfz34_0 := blk_frozen BK823.out 0
    have hfz34_1 := blk_frozen BK823.out 1
    have hfz34_2 := blk_frozen BK823.out 2
    have hfz34_3 := blk_frozen BK823.out 3
    have hfz34_4 := blk_frozen BK823.out 4
    obtain ⟨Ao35, co35, eo35⟩ := Kd.R_slice HO_824000.out
    subst eo35
    have hnb36 := NB809_808.out
    have hnc36 := NB808_809.out
    have hcz37_0 : wr.cell? ⟨gb809, 0, none⟩ = some (.slice none 0 0) := (blk_cell BK809.out 0).trans rfl
    have hcz37_1 : wr.cell? ⟨gb809, 1, none⟩ = some (.int .i64 0) := (blk_cell BK809.out 1).trans rfl
    have hcz37_2 : wr.cell? ⟨gb809, 2, none⟩ = some (.slice none 0 0) := (blk_cell BK809.out 2).trans rfl
    have hcz37_3 : wr.cell? ⟨gb809, 3, none⟩ = some (.slice none 0 0) := (blk_cell BK809.out 3).trans rfl
    have hcz37_4 : wr.cell? ⟨gb809, 4, none⟩ = some (.slice none 0 0) := (blk_cell BK809.out 4).trans rfl
    have hfz37_0 := blk_frozen BK809.out 0
    have hfz37_1 := blk_frozen BK809.out 1
    have hfz37_2 := blk_frozen BK809.out 2
    have hfz37_3 := blk_frozen BK809.out 3
    have hfz37_4 := blk_frozen BK809.out 4
    go_wp2
    refine bodyPost_ret (results_cell_row rfl _ _ gb809 30 #[.slice Ao35 x824000_1.length co35, .int .i64 t813, .slice Ao15 t814.length co15, .slice Ao16 t817.length co16, .slice Ao17 t820.length co17] (0, 0) _ rfl (by (with_reducible repeat (first | refine blk_drewN ?_ _ | refine blk_drew ?_ | refine blk_alloc ?_ _)); refine blk_put (cs := #[.slice Ao35 x824000_1.length co35, .int .i64 t813, .slice Ao15 t814.length co15, .slice Ao16 t817.length co16, .slice none 0 0]) ?_ 4 _ rfl; (with_reducible repeat (first | refine blk_drewN ?_ _ | refine blk_drew ?_ | refine blk_alloc ?_ _)); refine blk_put (cs := #[.slice Ao35 x824000_1.length co35, .int .i64 t813, .slice Ao15 t814.length co15, .slice none 0 0, .slice none 0 0]) ?_ 3 _ rfl; (with_reducible repeat (first | refine blk_drewN ?_ _ | refine blk_drew ?_ | refine blk_alloc ?_ _)); refine blk_put (cs := #[.slice Ao35 x824000_1.length co35, .int .i64 t813, .slice none 0 0, .slice none 0 0, .slice none 0 0]) ?_ 2 _ rfl; (with_reducible repeat (first | refine blk_drewN ?_ _ | refine blk_drew ?_ | refine blk_alloc ?_ _)); refine blk_put (cs := #[.slice Ao35 x824000_1.length co35, .int .i64 0, .slice none 0 0, .slice none 0 0, .slice none 0 0]) ?_ 1 _ rfl; (with_reducible repeat (first | refine blk_drewN ?_ _ | refine blk_drew ?_ | refine blk_alloc ?_ _)); refine blk_put (cs := #[.slice none 0 0, .int .i64 0, .slice none 0 0, .slice none 0 0, .slice none 0 0]) ?_ 0 _ rfl; (with_reducible repeat (first | refine blk_drewN ?_ _ | refine blk_drew ?_ | refine blk_alloc ?_ _)); exact BK809.out) Try.underlying30 rfl (by kernel_rfl)) rfl ?_
    exact ⟨_, _, _, _, by first | rfl | (simp [errW_none, errW_some] <;> rfl) | (simp [*, errW_none, errW_some] <;> rfl), by (with_reducible repeat (first | apply Kd.R_alloc | apply Kd.R_drewN | apply Kd.R_drew)); exact Kd.R_mono (Kd.R_far (p := ⟨gb809, 4, none⟩) (Kd.R_far (p := ⟨gb809, 3, none⟩) (Kd.R_far (p := ⟨gb809, 2, none⟩) (Kd.R_far (p := ⟨gb809, 1, none⟩) (Kd.R_far (p := ⟨gb809, 0, none⟩) (Kd.R_types HO_824000.out BK809.out (by decide)) (fun _ hk => hk.2) (.slice Ao35 x824000_1.length co35)) (fun _ hk => hk.2) (.int .i64 t813)) (fun _ hk => hk.2) (.slice Ao15 t814.length co15)) (fun _ hk => hk.2) (.slice Ao16 t817.length co16)) (fun _ hk => hk.2) (.slice Ao17 t820.length co17)) (fun _ hk => ⟨hk.1.1, ⟨hk.1.2.1, hk.1.2.2⟩⟩), by (with_reducible repeat (first | apply Kd.R_alloc | apply Kd.R_drewN | apply Kd.R_drew)); exact Kd.R_mono (Kd.R_far (p := ⟨gb809, 4, none⟩) (Kd.R_far (p := ⟨gb809, 3, none⟩) (Kd.R_far (p := ⟨gb809, 2, none⟩) (Kd.R_far (p := ⟨gb809, 1, none⟩) (Kd.R_far (p := ⟨gb809, 0, none⟩) (Kd.R_types HO_824002.out BK809.out (by decide)) (fun _ hk => hk.2) (.slice Ao35 x824000_1.length co35)) (fun _ hk => hk.2) (.int .i64 t813)) (fun _ hk => hk.2) (.slice Ao15 t814.length co15)) (fun _ hk => hk.2) (.slice Ao16 t817.length co16)) (fun _ hk => hk.2) (.slice Ao17 t820.length co17)) (fun _ hk => ⟨hk.1.1, ⟨hk.1.2.1, hk.1.2.2⟩⟩), by (with_reducible repeat (first | apply Kd.R_alloc | apply Kd.R_drewN | apply Kd.R_drew)); exact Kd.R_mono (Kd.R_far (p := ⟨gb809, 4, none⟩) (Kd.R_far (p := ⟨gb809, 3, none⟩) (Kd.R_far (p := ⟨gb809, 2, none⟩) (Kd.R_far (p := ⟨gb809, 1, none⟩) (Kd.R_far (p := ⟨gb809, 0, none⟩) (Kd.R_types HO_824003.out BK809.out (by decide)) (fun _ hk => hk.2) (.slice Ao35 x824000_1.length co35)) (fun _ hk => hk.2) (.int .i64 t813)) (fun _ hk => hk.2) (.slice Ao15 t814.length co15)) (fun _ hk => hk.2) (.slice Ao16 t817.length co16)) (fun _ hk => hk.2) (.slice Ao17 t820.length co17)) (fun _ hk => ⟨hk.1.1, ⟨hk.1.2.1, hk.1.2.2⟩⟩), by (with_reducible repeat (first | apply Kd.R_alloc | apply Kd.R_drewN | apply Kd.R_drew)); exact Kd.R_mono (Kd.R_far (p := ⟨gb809, 4, none⟩) (Kd.R_far (p := ⟨gb809, 3, none⟩) (Kd.R_far (p := ⟨gb809, 2, none⟩) (Kd.R_far (p := ⟨gb809, 1, none⟩) (Kd.R_far (p := ⟨gb809, 0, none⟩) (Kd.R_types HO_824004.out BK809.out (by decide)) (fun _ hk => hk.2) (.slice Ao35 x824000_1.length co35)) (fun _ hk => hk.2) (.int .i64 t813)) (fun _ hk => hk.2) (.slice Ao15 t814.length co15)) (fun _ hk => hk.2) (.slice Ao16 t817.length co16)) (fun _ hk => hk.2) (.slice Ao17 t820.length co17)) (fun _ hk => ⟨hk.1.1, ⟨hk.1.2.1, hk.1.2.2⟩⟩), by repeat (first | (with_reducible first | exact HB.out | apply below_alloc | apply pw_below_drewN | apply below_drew1 | refine below_set ?_ GE808.out | refine below_set ?_ GE809.out | refine below_set ?_ GE823.out) | exact HB.out)⟩
def hypercuberef2_Group.l0 : Nat → List (S30) → List (S30) → Int → Option ((List (S30)))
 | 0, _, _, _ => none
 | k + 1, x0, x3, x4 => if x4 < (x0.length : Int) then (if 0 ≤ x4 then ((hypercuberef2_Put.f k x3 ((rd_T30 x0 x4).f0) ((rd_T30 x0 x4).f1) ((rd_T30 x0 x4).f2) ((rd_T30 x0 x4).f3) ((rd_T30 x0 x4).f4)).bind fun t829 => (hypercuberef2_Group.l0 k x0 t829 (wrap64 (x4 + 1)))) else (none)) else (some x3)
def hypercuberef2_Group.f (k : Nat) (l0 : List (S30)) : Option ((List (S30))) := hypercuberef2_Group.l0 k l0 ([] : List (S30)) 0
set_option maxHeartbeats 8000000 in
set_option maxRecDepth 100000 in
theorem hypercuberef2_Group.calls (k : Nat) (A0 : Option Addr) (c0 : Nat) (l0 : List (S30)) (r : List (S30)) (w : World) (hr0 : Kd.C k30 w A0 l0.length l0) (hc0 : l0.length ≤ c0) (h : hypercuberef2_Group.f k l0 = some r) :
  Calls Try.prog 34 #[.slice A0 l0.length c0] w fun e w' => ∃ v0_ : Value, e = .returned (v0_) ∧ Kd.N k30 30 w' w.heap.size (fun k_ => (w.heap.size ≤ k_)) v0_ r ∧ Below w.heap.size w w' := by
 have hu30 := Try.underlying30
 have HR0 := am hr0
 have HC0 := am hc0
 clear hr0 hc0
 have HB := am (Below.refl w.heap.size w)
 have H : (hypercuberef2_Group.l0 k l0 ([] : List (S30)) 0) = some r := h
 clear h
 have H' := am H
 clear H
 go_enter Try.func34, Try.ntmps34
 go_wp2
 go_loopg [3, 4] k (fun kq v3 v4 w' => ∃ (x3_1 : List (S30)) (x4_1 : Int), v4 = .int .i64 x4_1 ∧ Aside0 (hypercuberef2_Group.l0 kq l0 x3_1 x4_1 = some r) ∧ Aside0 (kq ≤ k) ∧ Aside0 (Kd.N k30 30 w' w.heap.size (fun k_ => (w.heap.size ≤ k_)) v3 x3_1) ∧ Aside0 (Below w.heap.size w w'))
 case atStart => exact ⟨(([] : List (S30))), (0), (by first | rfl | (simp; done) | (simp [*]; done)), H', ⟨Nat.le_refl _⟩, ⟨by first | exact Kd.S_nil _ _ _ _ _ | exact Kd.N_nil _ _ _ _ _ | exact Kd.V_nil _ _ _ _ _ | exact Kd.Q_nil _ _ _ _ _ | exact Kd.R_nil _ _ _ _ _⟩, ⟨by repeat (first | (with_reducible first | exact HB.out | apply below_alloc | apply pw_below_drewN | apply below_drew1) | exact HB.out)⟩⟩
 case round =>
  clear H'
  obtain ⟨x3_1, x4_1, rfl, HA, HK1, HO_3, HB⟩ := hrel
  cases gk with
  | zero => exact absurd HA.out (by simp [hypercuberef2_Group.l0])
  | succ k1 =>
   have H := HA.out
   clear HA
   simp only [hypercuberef2_Group.l0] at H
   by_cases c2 : x4_1 < (l0.length : Int)
   ·rw [if_pos c2] at H
    have c2b0 : decide (x4_1 < (l0.length : Int)) = true := decide_eq_true c2
    clear c2
    by_cases c3 : 0 ≤ x4_1
    ·rw [if_pos c3] at H
     have c3b0 : decide (0 ≤ x4_1) = true := decide_eq_true c3
     clear c3
     replace H := Option.bind_eq_some_iff.mp H
     obtain ⟨t829, A40, H⟩ := H
     replace H : (hypercuberef2_Group.l0 k1 l0 t829 (wrap64 (x4_1 + 1))) = some r := H
     have A4 := am A40
     clear A40
     have H' := am H
     clear H
     have p828 : 0 ≤ (x4_1 : Int) := of_decide_eq_true (by first | (with_reducible assumption) | assumption)
     have q828 : x4_1 < (l0.length : Int) := of_decide_eq_true (by first | (with_reducible assumption) | assumption)
     obtain ⟨ad828, A828_0, c828_0, A828_2, c828_2, A828_3, c828_3, A828_4, c828_4, e828, hx828_0, hx828_1, hx828_2, hx828_3, hx828_4, hl828_0, hi828_0, hl828_2, hi828_2, hl828_3, hi828_3, hl828_4, hi828_4⟩ := at_T30 HR0.out x4_1 p828 q828
     cases e828
     replace hx828_0 := (HB.out.cell (World.block_lt_of_cell? w _ hx828_0)).trans hx828_0
     replace hx828_1 := (HB.out.cell (World.block_lt_of_cell? w _ hx828_1)).trans hx828_1
     replace hx828_2 := (HB.out.cell (World.block_lt_of_cell? w _ hx828_2)).trans hx828_2
     replace hx828_3 := (HB.out.cell (World.block_lt_of_cell? w _ hx828_3)).trans hx828_3
     replace hx828_4 := (HB.out.cell (World.block_lt_of_cell? w _ hx828_4)).trans hx828_4
     have HR828_0 := am hi828_0
     have HC828_0 := am hl828_0
     clear hi828_0 hl828_0
     have HR828_2 := am hi828_2
     have HC828_2 := am hl828_2
     clear hi828_2 hl828_2
     have HR828_3 := am hi828_3
     have HC828_3 := am hl828_3
     clear hi828_3 hl828_3
     have HR828_4 := am hi828_4
     have HC828_4 := am hl828_4
     clear hi828_4 hl828_4
     replace p828 := eq_true p828
     replace q828 := eq_true q828
     obtain ⟨Ao5, co5, eo5⟩ := Kd.N_slice HO_3.out
     subst eo5
     go_wp2_with (first | (go_at_call 51; (with_reducible refine (hypercuberef2_Put.calls k1 (fun k_ => (w.heap.size ≤ k_)) _ _ x3_1 _ _ ((rd_T30 l0 x4_1).f0) ((rd_T30 l0 x4_1).f1) _ _ ((rd_T30 l0 x4_1).f2) _ _ ((rd_T30 l0 x4_1).f3) _ _ ((rd_T30 l0 x4_1).f4) t829 _ ?side1 ?side2 ?side3 ?side4 ?side5 ?side6 ?side7 ?side8 ?side9 A4.out).mono ?_); (case side1 => exact Kd.N_V (HO_3.out)); (case side2 => repeat (first | exact (Kd.C_below HR828_0.out HB.out) | (with_reducible refine Kd.C_alloc ?_ _) | (with_reducible refine Kd.C_drewN ?_ _) | (with_reducible refine Kd.C_drew ?_))); (case side3 => exact HC828_0.out); (case side4 => repeat (first | exact (Kd.C_below HR828_2.out HB.out) | (with_reducible refine Kd.C_alloc ?_ _) | (with_reducible refine Kd.C_drewN ?_ _) | (with_reducible refine Kd.C_drew ?_))); (case side5 => exact HC828_2.out); (case side6 => repeat (first | exact (Kd.C_below HR828_3.out HB.out) | (with_reducible refine Kd.C_alloc ?_ _) | (with_reducible refine Kd.C_drewN ?_ _) | (with_reducible refine Kd.C_drew ?_))); (case side7 => exact HC828_3.out); (case side8 => repeat (first | exact (Kd.C_below HR828_4.out HB.out) | (with_reducible refine Kd.C_alloc ?_ _) | (with_reducible refine Kd.C_drewN ?_ _) | (with_reducible refine Kd.C_drew ?_))); (case side9 => exact HC828_4.out); rintro e w6 ⟨v830, rfl, ho0, hb⟩; have n0_ := am (Kd.N_elder' (by (with_reducible repeat (first | apply Kd.N_alloc | apply Kd.N_drewN | apply Kd.N_drew)); exact HO_3.out) (by first | exact Kd.N_base ho0 | exact Kd.S_base ho0 | exact Kd.R_base ho0) hb); have n1_ := am (Kd.N_lower (Kd.N_mono (ok' := fun k_ => (w.heap.size ≤ k_)) ho0 (fun k_ hk_ => Or.elim hk_ (fun hs_ => hs_) (fun hn_ => (Nat.le_trans (below_size (by repeat (first | (with_reducible first | exact HB.out | apply below_alloc | apply pw_below_drewN | apply below_drew1) | exact HB.out))) hn_)))) (below_size (by repeat (first | (with_reducible first | exact HB.out | apply below_alloc | apply pw_below_drewN | apply below_drew1) | exact HB.out)))); have n2_ := am (below_step (by repeat (first | (with_reducible first | exact HB.out | apply below_alloc | apply pw_below_drewN | apply below_drew1) | exact HB.out)) hb); clear HO_3 HB; revert n0_ n1_ n2_; intro HO_3 HO831 HB; (try clear hb); (try clear hb2); (try clear hk); (try clear hi); (try clear ho0)))
     go_roundg k1
     case measure => have := HK1.out; omega
     case rel => exact ⟨(t829), (wrap64 (x4_1 + 1)), (by first | rfl | (simp; done) | (simp [*]; done)), H', ⟨by have := HK1.out; omega⟩, ⟨by (with_reducible repeat (first | apply Kd.N_alloc | apply Kd.N_drewN | apply Kd.N_drew)); exact HO831.out⟩, ⟨by repeat (first | (with_reducible first | exact HB.out | apply below_alloc | apply pw_below_drewN | apply below_drew1) | exact HB.out)⟩⟩
    ·rw [if_neg c3] at H
     exact absurd H (by simp)
   ·rw [if_neg c2] at H
    have c2b0 : decide (x4_1 < (l0.length : Int)) = false := decide_eq_false c2
    clear c2
    obtain rfl := Option.some.inj H
    go_wp2
    go_ret
    exact ⟨_, by first | rfl | (simp [errW_none, errW_some] <;> rfl) | (simp [*, errW_none, errW_some] <;> rfl), by (with_reducible repeat (first | apply Kd.N_alloc | apply Kd.N_drewN | apply Kd.N_drew)); exact HO_3.out, by repeat (first | (with_reducible first | exact HB.out | apply below_alloc | apply pw_below_drewN | apply below_drew1) | exact HB.out)⟩
def hypercuberef2_Equal.f (k : Nat) (l0_0 : List Int) (a0_1 : Int) (l0_2 : List Int) (l0_3 : List Int) (l0_4 : List Int) (l1_0 : List Int) (a1_1 : Int) (l1_2 : List Int) (l1_3 : List Int) (l1_4 : List Int) : Option (Bool) := if a0_1 = a1_1 then ((hypercuberef1_Ints.f k l0_0 l1_0).bind fun t199 => (if t199 = true then ((hypercuberef1_Ints.f k l0_2 l1_2).bind fun t200 => (if t200 = true then ((hypercuberef1_Ints.f k l0_3 l1_3).bind fun t201 => (if t201 = true then ((hypercuberef1_Ints.f k l0_4 l1_4).bind fun t202 => (some t202)) else (some false))) else (some false))) else (some false))) else (some false)
set_option maxHeartbeats 8000000 in
set_option maxRecDepth 100000 in
theorem hypercuberef2_Equal.calls (k : Nat) (A0_0 : Option Addr) (c0_0 : Nat) (l0_0 : List Int) (a0_1 : Int) (A0_2 : Option Addr) (c0_2 : Nat) (l0_2 : List Int) (A0_3 : Option Addr) (c0_3 : Nat) (l0_3 : List Int) (A0_4 : Option Addr) (c0_4 : Nat) (l0_4 : List Int) (A1_0 : Option Addr) (c1_0 : Nat) (l1_0 : List Int) (a1_1 : Int) (A1_2 : Option Addr) (c1_2 : Nat) (l1_2 : List Int) (A1_3 : Option Addr) (c1_3 : Nat) (l1_3 : List Int) (A1_4 : Option Addr) (c1_4 : Nat) (l1_4 : List Int) (r : Bool) (w : World) (hr0_0 : Kd.C (Kd.int .i64) w A0_0 l0_0.length l0_0) (hc0_0 : l0_0.length ≤ c0_0) (hr0_2 : Kd.C (Kd.int .i64) w A0_2 l0_2.length l0_2) (hc0_2 : l0_2.length ≤ c0_2) (hr0_3 : Kd.C (Kd.int .i64) w A0_3 l0_3.length l0_3) (hc0_3 : l0_3.length ≤ c0_3) (hr0_4 : Kd.C (Kd.int .i64) w A0_4 l0_4.length l0_4) (hc0_4 : l0_4.length ≤ c0_4) (hr1_0 : Kd.C (Kd.int .i64) w A1_0 l1_0.length l1_0) (hc1_0 : l1_0.length ≤ c1_0) (hr1_2 : Kd.C (Kd.int .i64) w A1_2 l1_2.length l1_2) (hc1_2 : l1_2.length ≤ c1_2) (hr1_3 : Kd.C (Kd.int .i64) w A1_3 l1_3.length l1_3) (hc1_3 : l1_3.length ≤ c1_3) (hr1_4 : Kd.C (Kd.int .i64) w A1_4 l1_4.length l1_4) (hc1_4 : l1_4.length ≤ c1_4) (h : hypercuberef2_Equal.f k l0_0 a0_1 l0_2 l0_3 l0_4 l1_0 a1_1 l1_2 l1_3 l1_4 = some r) :
  Calls Try.prog 22 #[.agg #[.slice A0_0 l0_0.length c0_0, .int .i64 a0_1, .slice A0_2 l0_2.length c0_2, .slice A0_3 l0_3.length c0_3, .slice A0_4 l0_4.length c0_4], .agg #[.slice A1_0 l1_0.length c1_0, .int .i64 a1_1, .slice A1_2 l1_2.length c1_2, .slice A1_3 l1_3.length c1_3, .slice A1_4 l1_4.length c1_4]] w fun e w' => e = .returned (.bool r) ∧ Below w.heap.size w w' := by
 have hu30 := Try.underlying30
 have HR0_0 := am hr0_0
 have HC0_0 := am hc0_0
 clear hr0_0 hc0_0
 have HR0_2 := am hr0_2
 have HC0_2 := am hc0_2
 clear hr0_2 hc0_2
 have HR0_3 := am hr0_3
 have HC0_3 := am hc0_3
 clear hr0_3 hc0_3
 have HR0_4 := am hr0_4
 have HC0_4 := am hc0_4
 clear hr0_4 hc0_4
 have HR1_0 := am hr1_0
 have HC1_0 := am hc1_0
 clear hr1_0 hc1_0
 have HR1_2 := am hr1_2
 have HC1_2 := am hc1_2
 clear hr1_2 hc1_2
 have HR1_3 := am hr1_3
 have HC1_3 := am hc1_3
 clear hr1_3 hc1_3
 have HR1_4 := am hr1_4
 have HC1_4 := am hc1_4
 clear hr1_4 hc1_4
 have HB := am (Below.refl w.heap.size w)
 have H : (if a0_1 = a1_1 then ((hypercuberef1_Ints.f k l0_0 l1_0).bind fun t199 => (if t199 = true then ((hypercuberef1_Ints.f k l0_2 l1_2).bind fun t200 => (if t200 = true then ((hypercuberef1_Ints.f k l0_3 l1_3).bind fun t201 => (if t201 = true then ((hypercuberef1_Ints.f k l0_4 l1_4).bind fun t202 => (some t202)) else (some false))) else (some false))) else (some false))) else (some false)) = some r := h
 clear h
 by_cases c3 : a0_1 = a1_1
 ·rw [if_pos c3] at H
  have c3b0 : (a0_1 == a1_1) = true := beq_iff_eq.mpr c3
  have c3b1 : (a0_1 != a1_1) = false := bne_eq_false_iff_eq.mpr c3
  clear c3
  replace H := Option.bind_eq_some_iff.mp H
  obtain ⟨t199, A40, H⟩ := H
  replace H : (if t199 = true then ((hypercuberef1_Ints.f k l0_2 l1_2).bind fun t200 => (if t200 = true then ((hypercuberef1_Ints.f k l0_3 l1_3).bind fun t201 => (if t201 = true then ((hypercuberef1_Ints.f k l0_4 l1_4).bind fun t202 => (some t202)) else (some false))) else (some false))) else (some false)) = some r := H
  have A4 := am A40
  clear A40
  by_cases c5 : t199 = true
  ·subst c5
   have H1 : ((hypercuberef1_Ints.f k l0_2 l1_2).bind fun t200 => (if t200 = true then ((hypercuberef1_Ints.f k l0_3 l1_3).bind fun t201 => (if t201 = true then ((hypercuberef1_Ints.f k l0_4 l1_4).bind fun t202 => (some t202)) else (some false))) else (some false))) = some r := by rw [if_pos rfl] at H; exact H
   clear H
   have H := H1
   clear H1
   replace H := Option.bind_eq_some_iff.mp H
   obtain ⟨t200, A60, H⟩ := H
   replace H : (if t200 = true then ((hypercuberef1_Ints.f k l0_3 l1_3).bind fun t201 => (if t201 = true then ((hypercuberef1_Ints.f k l0_4 l1_4).bind fun t202 => (some t202)) else (some false))) else (some false)) = some r := H
   have A6 := am A60
   clear A60
   by_cases c7 : t200 = true
   ·subst c7
    have H1 : ((hypercuberef1_Ints.f k l0_3 l1_3).bind fun t201 => (if t201 = true then ((hypercuberef1_Ints.f k l0_4 l1_4).bind fun t202 => (some t202)) else (some false))) = some r := by rw [if_pos rfl] at H; exact H
    clear H
    have H := H1
    clear H1
    replace H := Option.bind_eq_some_iff.mp H
    obtain ⟨t201, A80, H⟩ := H
    replace H : (if t201 = true then ((hypercuberef1_Ints.f k l0_4 l1_4).bind fun t202 => (some t202)) else (some false)) = some r := H
    have A8 := am A80
    clear A80
    by_cases c9 : t201 = true
    ·subst c9
     have H1 : ((hypercuberef1_Ints.f k l0_4 l1_4).bind fun t202 => (some t202)) = some r := by rw [if_pos rfl] at H; exact H
     clear H
     have H := H1
     clear H1
     replace H := Option.bind_eq_some_iff.mp H
     obtain ⟨t202, A100, H⟩ := H
     replace H : (some t202) = some r := H
     have A10 := am A100
     clear A100
     obtain rfl := Option.some.inj H
     go_enter Try.func22, Try.ntmps22
     go_wp2_with (first | ((with_reducible refine gate_dst (N := 2) rfl ?_); refine box_event ?hg (N := 2) ?hd (cs := #[.slice A0_0 l0_0.length c0_0, .int .i64 a0_1, .slice A0_2 l0_2.length c0_2, .slice A0_3 l0_3.length c0_3, .slice A0_4 l0_4.length c0_4]) (t := 30) ?hr ?_; (case hd => rfl); (case hg => rfl); (case hr => first | (go_simp; done) | (go_simp; rfl)); intro gb197 hg w11 hbox hb; have n0_ := am (below_step (by repeat (first | (with_reducible first | exact HB.out | apply below_alloc | apply pw_below_drewN | apply below_drew1) | exact HB.out)) hb); have n1_ := am (hbox); have n2_ := am ((by rw [hg]; exact (below_size (by repeat (first | (with_reducible first | exact HB.out | apply below_alloc | apply pw_below_drewN | apply below_drew1) | exact HB.out))) : w.heap.size ≤ gb197)); have n3_ := am ((by rw [hg]; exact (below_size (by repeat (first | (with_reducible first | exact HB.out | apply below_alloc | apply pw_below_drewN | apply below_drew1) | exact HB.out))) : w.heap.size ≤ gb197)); clear HB; have HB := n0_; have BK197 := n1_; have GW197 := n2_; have GE197 := n3_; clear n0_ n1_ n2_ n3_; clear hb hbox hg) | ((with_reducible refine gate_dst (N := 3) rfl ?_); refine box_event ?hg (N := 3) ?hd (cs := #[.slice A1_0 l1_0.length c1_0, .int .i64 a1_1, .slice A1_2 l1_2.length c1_2, .slice A1_3 l1_3.length c1_3, .slice A1_4 l1_4.length c1_4]) (t := 30) ?hr ?_; (case hd => rfl); (case hg => rfl); (case hr => first | (go_simp; done) | (go_simp; rfl)); intro gb198 hg w12 hbox hb; have n0_ := am (blk_below (g := gb197) (o := .cells #[.slice A0_0 l0_0.length c0_0, .int .i64 a0_1, .slice A0_2 l0_2.length c0_2, .slice A0_3 l0_3.length c0_3, .slice A0_4 l0_4.length c0_4] 30 (0, 0)) (by (with_reducible repeat (first | refine blk_drewN ?_ _ | refine blk_drew ?_ | refine blk_alloc ?_ _)); exact BK197.out) hb); have n1_ := am (below_step (by repeat (first | (with_reducible first | exact HB.out | apply below_alloc | apply pw_below_drewN | apply below_drew1 | refine below_set ?_ GE197.out) | exact HB.out)) hb); have n2_ := am (hbox); have n3_ := am ((by rw [hg]; exact (below_size (by repeat (first | (with_reducible first | exact HB.out | apply below_alloc | apply pw_below_drewN | apply below_drew1 | refine below_set ?_ GE197.out) | exact HB.out))) : w.heap.size ≤ gb198)); have n4_ := am ((by rw [hg]; exact (below_size (by repeat (first | (with_reducible first | exact HB.out | apply below_alloc | apply pw_below_drewN | apply below_drew1 | refine below_set ?_ GE197.out) | exact HB.out))) : w.heap.size ≤ gb198)); have n5_ := am ((by rw [hg]; exact Nat.ne_of_lt (blk_lt (g := gb197) (o := .cells #[.slice A0_0 l0_0.length c0_0, .int .i64 a0_1, .slice A0_2 l0_2.length c0_2, .slice A0_3 l0_3.length c0_3, .slice A0_4 l0_4.length c0_4] 30 (0, 0)) (by (with_reducible repeat (first | refine blk_drewN ?_ _ | refine blk_drew ?_ | refine blk_alloc ?_ _)); exact BK197.out)) : gb197 ≠ gb198)); have n6_ := am ((by rw [hg]; exact Nat.ne_of_gt (blk_lt (g := gb197) (o := .cells #[.slice A0_0 l0_0.length c0_0, .int .i64 a0_1, .slice A0_2 l0_2.length c0_2, .slice A0_3 l0_3.length c0_3, .slice A0_4 l0_4.length c0_4] 30 (0, 0)) (by (with_reducible repeat (first | refine blk_drewN ?_ _ | refine blk_drew ?_ | refine blk_alloc ?_ _)); exact BK197.out)) : gb198 ≠ gb197)); clear BK197; clear HB; have BK197 := n0_; have HB := n1_; have BK198 := n2_; have GW198 := n3_; have GE198 := n4_; have NB197_198 := n5_; have NB198_197 := n6_; clear n0_ n1_ n2_ n3_ n4_ n5_ n6_; clear hb hbox hg; have hnb13 := NB197_198.out; have hnc13 := NB198_197.out; have hcz14_0 : w12.cell? ⟨gb197, 0, none⟩ = some (.slice A0_0 l0_0.length c0_0) := (blk_cell BK197.out 0).trans rfl; have hcz14_1 : w12.cell? ⟨gb197, 1, none⟩ = some (.int .i64 a0_1) := (blk_cell BK197.out 1).trans rfl; have hcz14_2 : w12.cell? ⟨gb197, 2, none⟩ = some (.slice A0_2 l0_2.length c0_2) := (blk_cell BK197.out 2).trans rfl; have hcz14_3 : w12.cell? ⟨gb197, 3, none⟩ = some (.slice A0_3 l0_3.length c0_3) := (blk_cell BK197.out 3).trans rfl; have hcz14_4 : w12.cell? ⟨gb197, 4, none⟩ = some (.slice A0_4 l0_4.length c0_4) := (blk_cell BK197.out 4).trans rfl; have hfz14_0 := blk_frozen BK197.out 0; have hfz14_1 := blk_frozen BK197.out 1; have hfz14_2 := blk_frozen BK197.out 2; have hfz14_3 := blk_frozen BK197.out 3; have hfz14_4 := blk_frozen BK197.out 4; have hcz15_0 : w12.cell? ⟨gb198, 0, none⟩ = some (.slice A1_0 l1_0.length c1_0) := (blk_cell BK198.out 0).trans rfl; have hcz15_1 : w12.cell? ⟨gb198, 1, none⟩ = some (.int .i64 a1_1) := (blk_cell BK198.out 1).trans rfl; have hcz15_2 : w12.cell? ⟨gb198, 2, none⟩ = some (.slice A1_2 l1_2.length c1_2) := (blk_cell BK198.out 2).trans rfl; have hcz15_3 : w12.cell? ⟨gb198, 3, none⟩ = some (.slice A1_3 l1_3.length c1_3) := (blk_cell BK198.out 3).trans rfl; have hcz15_4 : w12.cell? ⟨gb198, 4, none⟩ = some (.slice A1_4 l1_4.length c1_4) := (blk_cell BK198.out 4).trans rfl; have hfz15_0 := blk_frozen BK198.out 0; have hfz15_1 := blk_frozen BK198.out 1; have hfz15_2 := blk_frozen BK198.out 2; have hfz15_3 := blk_frozen BK198.out 3; have hfz15_4 := blk_frozen BK198.out 4) | (go_at_call 19; (with_reducible refine (hypercuberef1_Ints.calls k _ _ l0_0 _ _ l1_0 true _ ?side1 ?side2 ?side3 ?side4 A4.out).mono ?_); (case side1 => repeat (first | exact (Kd.C_below HR0_0.out HB.out) | (with_reducible refine Kd.C_alloc ?_ _) | (with_reducible refine Kd.C_drewN ?_ _) | (with_reducible refine Kd.C_drew ?_))); (case side2 => exact HC0_0.out); (case side3 => repeat (first | exact (Kd.C_below HR1_0.out HB.out) | (with_reducible refine Kd.C_alloc ?_ _) | (with_reducible refine Kd.C_drewN ?_ _) | (with_reducible refine Kd.C_drew ?_))); (case side4 => exact HC1_0.out); rintro e w' ⟨rfl, ⟨nd, rfl⟩⟩) | (go_at_call 19; (with_reducible refine (hypercuberef1_Ints.calls k _ _ l0_2 _ _ l1_2 true _ ?side1 ?side2 ?side3 ?side4 A6.out).mono ?_); (case side1 => repeat (first | exact (Kd.C_below HR0_2.out (by repeat (first | (with_reducible first | exact HB.out | apply below_alloc | apply pw_below_drewN | apply below_drew1 | refine below_set ?_ GE197.out | refine below_set ?_ GE198.out) | exact HB.out))) | (with_reducible refine Kd.C_alloc ?_ _) | (with_reducible refine Kd.C_drewN ?_ _) | (with_reducible refine Kd.C_drew ?_))); (case side2 => exact HC0_2.out); (case side3 => repeat (first | exact (Kd.C_below HR1_2.out (by repeat (first | (with_reducible first | exact HB.out | apply below_alloc | apply pw_below_drewN | apply below_drew1 | refine below_set ?_ GE197.out | refine below_set ?_ GE198.out) | exact HB.out))) | (with_reducible refine Kd.C_alloc ?_ _) | (with_reducible refine Kd.C_drewN ?_ _) | (with_reducible refine Kd.C_drew ?_))); (case side4 => exact HC1_2.out); rintro e w' ⟨rfl, ⟨nd, rfl⟩⟩) | (go_at_call 19; (with_reducible refine (hypercuberef1_Ints.calls k _ _ l0_3 _ _ l1_3 true _ ?side1 ?side2 ?side3 ?side4 A8.out).mono ?_); (case side1 => repeat (first | exact (Kd.C_below HR0_3.out (by repeat (first | (with_reducible first | exact HB.out | apply below_alloc | apply pw_below_drewN | apply below_drew1 | refine below_set ?_ GE197.out | refine below_set ?_ GE198.out) | exact HB.out))) | (with_reducible refine Kd.C_alloc ?_ _) | (with_reducible refine Kd.C_drewN ?_ _) | (with_reducible refine Kd.C_drew ?_))); (case side2 => exact HC0_3.out); (case side3 => repeat (first | exact (Kd.C_below HR1_3.out (by repeat (first | (with_reducible first | exact HB.out | apply below_alloc | apply pw_below_drewN | apply below_drew1 | refine below_set ?_ GE197.out | refine below_set ?_ GE198.out) | exact HB.out))) | (with_reducible refine Kd.C_alloc ?_ _) | (with_reducible refine Kd.C_drewN ?_ _) | (with_reducible refine Kd.C_drew ?_))); (case side4 => exact HC1_3.out); rintro e w' ⟨rfl, ⟨nd, rfl⟩⟩) | (go_at_call 19; (with_reducible refine (hypercuberef1_Ints.calls k _ _ l0_4 _ _ l1_4 t202 _ ?side1 ?side2 ?side3 ?side4 A10.out).mono ?_); (case side1 => repeat (first | exact (Kd.C_below HR0_4.out (by repeat (first | (with_reducible first | exact HB.out | apply below_alloc | apply pw_below_drewN | apply below_drew1 | refine below_set ?_ GE197.out | refine below_set ?_ GE198.out) | exact HB.out))) | (with_reducible refine Kd.C_alloc ?_ _) | (with_reducible refine Kd.C_drewN ?_ _) | (with_reducible refine Kd.C_drew ?_))); (case side2 => exact HC0_4.out); (case side3 => repeat (first | exact (Kd.C_below HR1_4.out (by repeat (first | (with_reducible first | exact HB.out | apply below_alloc | apply pw_below_drewN | apply below_drew1 | refine below_set ?_ GE197.out | refine below_set ?_ GE198.out) | exact HB.out))) | (with_reducible refine Kd.C_alloc ?_ _) | (with_reducible refine Kd.C_drewN ?_ _) | (with_reducible refine Kd.C_drew ?_))); (case side4 => exact HC1_4.out); rintro e w' ⟨rfl, ⟨nd, rfl⟩⟩))
     go_ret
     exact ⟨by first | rfl | (simp [errW_none, errW_some] <;> rfl) | (simp [*, errW_none, errW_some] <;> rfl), by repeat (first | (with_reducible first | exact HB.out | apply below_alloc | apply pw_below_drewN | apply below_drew1 | refine below_set ?_ GE197.out | refine below_set ?_ GE198.out) | exact HB.out)⟩
    ·replace c9 := Bool.eq_false_iff.mpr c9
     subst c9
     have H1 : (some false) = some r := by rw [if_neg (show ¬ (false = true) by decide)] at H; exact H
     clear H
     have H := H1
     clear H1
     obtain rfl := Option.some.inj H
     go_enter Try.func22, Try.ntmps22
     go_wp2_with (first | ((with_reducible refine gate_dst (N := 2) rfl ?_); refine box_event ?hg (N := 2) ?hd (cs := #[.slice A0_0 l0_0.length c0_0, .int .i64 a0_1, .slice A0_2 l0_2.length c0_2, .slice A0_3 l0_3.length c0_3, .slice A0_4 l0_4.length c0_4]) (t := 30) ?hr ?_; (case hd => rfl); (case hg => rfl); (case hr => first | (go_simp; done) | (go_simp; rfl)); intro gb197 hg w16 hbox hb; have n0_ := am (below_step (by repeat (first | (with_reducible first | exact HB.out | apply below_alloc | apply pw_below_drewN | apply below_drew1) | exact HB.out)) hb); have n1_ := am (hbox); have n2_ := am ((by rw [hg]; exact (below_size (by repeat (first | (with_reducible first | exact HB.out | apply below_alloc | apply pw_below_drewN | apply below_drew1) | exact HB.out))) : w.heap.size ≤ gb197)); have n3_ := am ((by rw [hg]; exact (below_size (by repeat (first | (with_reducible first | exact HB.out | apply below_alloc | apply pw_below_drewN | apply below_drew1) | exact HB.out))) : w.heap.size ≤ gb197)); clear HB; have HB := n0_; have BK197 := n1_; have GW197 := n2_; have GE197 := n3_; clear n0_ n1_ n2_ n3_; clear hb hbox hg) | ((with_reducible refine gate_dst (N := 3) rfl ?_); refine box_event ?hg (N := 3) ?hd (cs := #[.slice A1_0 l1_0.length c1_0, .int .i64 a1_1, .slice A1_2 l1_2.length c1_2, .slice A1_3 l1_3.length c1_3, .slice A1_4 l1_4.length c1_4]) (t := 30) ?hr ?_; (case hd => rfl); (case hg => rfl); (case hr => first | (go_simp; done) | (go_simp; rfl)); intro gb198 hg w17 hbox hb; have n0_ := am (blk_below (g := gb197) (o := .cells #[.slice A0_0 l0_0.length c0_0, .int .i64 a0_1, .slice A0_2 l0_2.length c0_2, .slice A0_3 l0_3.length c0_3, .slice A0_4 l0_4.length c0_4] 30 (0, 0)) (by (with_reducible repeat (first | refine blk_drewN ?_ _ | refine blk_drew ?_ | refine blk_alloc ?_ _)); exact BK197.out) hb); have n1_ := am (below_step (by repeat (first | (with_reducible first | exact HB.out | apply below_alloc | apply pw_below_drewN | apply below_drew1 | refine below_set ?_ GE197.out) | exact HB.out)) hb); have n2_ := am (hbox); have n3_ := am ((by rw [hg]; exact (below_size (by repeat (first | (with_reducible first | exact HB.out | apply below_alloc | apply pw_below_drewN | apply below_drew1 | refine below_set ?_ GE197.out) | exact HB.out))) : w.heap.size ≤ gb198)); have n4_ := am ((by rw [hg]; exact (below_size (by repeat (first | (with_reducible first | exact HB.out | apply below_alloc | apply pw_below_drewN | apply below_drew1 | refine below_set ?_ GE197.out) | exact HB.out))) : w.heap.size ≤ gb198)); have n5_ := am ((by rw [hg]; exact Nat.ne_of_lt (blk_lt (g := gb197) (o := .cells #[.slice A0_0 l0_0.length c0_0, .int .i64 a0_1, .slice A0_2 l0_2.length c0_2, .slice A0_3 l0_3.length c0_3, .slice A0_4 l0_4.length c0_4] 30 (0, 0)) (by (with_reducible repeat (first | refine blk_drewN ?_ _ | refine blk_drew ?_ | refine blk_alloc ?_ _)); exact BK197.out)) : gb197 ≠ gb198)); have n6_ := am ((by rw [hg]; exact Nat.ne_of_gt (blk_lt (g := gb197) (o := .cells #[.slice A0_0 l0_0.length c0_0, .int .i64 a0_1, .slice A0_2 l0_2.length c0_2, .slice A0_3 l0_3.length c0_3, .slice A0_4 l0_4.length c0_4] 30 (0, 0)) (by (with_reducible repeat (first | refine blk_drewN ?_ _ | refine blk_drew ?_ | refine blk_alloc ?_ _)); exact BK197.out)) : gb198 ≠ gb197)); clear BK197; clear HB; have BK197 := n0_; have HB := n1_; have BK198 := n2_; have GW198 := n3_; have GE198 := n4_; have NB197_198 := n5_; have NB198_197 := n6_; clear n0_ n1_ n2_ n3_ n4_ n5_ n6_; clear hb hbox hg; have hnb18 := NB197_198.out; have hnc18 := NB198_197.out; have hcz19_0 : w17.cell? ⟨gb197, 0, none⟩ = some (.slice A0_0 l0_0.length c0_0) := (blk_cell BK197.out 0).trans rfl; have hcz19_1 : w17.cell? ⟨gb197, 1, none⟩ = some (.int .i64 a0_1) := (blk_cell BK197.out 1).trans rfl; have hcz19_2 : w17.cell? ⟨gb197, 2, none⟩ = some (.slice A0_2 l0_2.length c0_2) := (blk_cell BK197.out 2).trans rfl; have hcz19_3 : w17.cell? ⟨gb197, 3, none⟩ = some (.slice A0_3 l0_3.length c0_3) := (blk_cell BK197.out 3).trans rfl; have hcz19_4 : w17.cell? ⟨gb197, 4, none⟩ = some (.slice A0_4 l0_4.length c0_4) := (blk_cell BK197.out 4).trans rfl; have hfz19_0 := blk_frozen BK197.out 0; have hfz19_1 := blk_frozen BK197.out 1; have hfz19_2 := blk_frozen BK197.out 2; have hfz19_3 := blk_frozen BK197.out 3; have hfz19_4 := blk_frozen BK197.out 4; have hcz20_0 : w17.cell? ⟨gb198, 0, none⟩ = some (.slice A1_0 l1_0.length c1_0) := (blk_cell BK198.out 0).trans rfl; have hcz20_1 : w17.cell? ⟨gb198, 1, none⟩ = some (.int .i64 a1_1) := (blk_cell BK198.out 1).trans rfl; have hcz20_2 : w17.cell? ⟨gb198, 2, none⟩ = some (.slice A1_2 l1_2.length c1_2) := (blk_cell BK198.out 2).trans rfl; have hcz20_3 : w17.cell? ⟨gb198, 3, none⟩ = some (.slice A1_3 l1_3.length c1_3) := (blk_cell BK198.out 3).trans rfl; have hcz20_4 : w17.cell? ⟨gb198, 4, none⟩ = some (.slice A1_4 l1_4.length c1_4) := (blk_cell BK198.out 4).trans rfl; have hfz20_0 := blk_frozen BK198.out 0; have hfz20_1 := blk_frozen BK198.out 1; have hfz20_2 := blk_frozen BK198.out 2; have hfz20_3 := blk_frozen BK198.out 3; have hfz20_4 := blk_frozen BK198.out 4) | (go_at_call 19; (with_reducible refine (hypercuberef1_Ints.calls k _ _ l0_0 _ _ l1_0 true _ ?side1 ?side2 ?side3 ?side4 A4.out).mono ?_); (case side1 => repeat (first | exact (Kd.C_below HR0_0.out HB.out) | (with_reducible refine Kd.C_alloc ?_ _) | (with_reducible refine Kd.C_drewN ?_ _) | (with_reducible refine Kd.C_drew ?_))); (case side2 => exact HC0_0.out); (case side3 => repeat (first | exact (Kd.C_below HR1_0.out HB.out) | (with_reducible refine Kd.C_alloc ?_ _) | (with_reducible refine Kd.C_drewN ?_ _) | (with_reducible refine Kd.C_drew ?_))); (case side4 => exact HC1_0.out); rintro e w' ⟨rfl, ⟨nd, rfl⟩⟩) | (go_at_call 19; (with_reducible refine (hypercuberef1_Ints.calls k _ _ l0_2 _ _ l1_2 true _ ?side1 ?side2 ?side3 ?side4 A6.out).mono ?_); (case side1 => repeat (first | exact (Kd.C_below HR0_2.out (by repeat (first | (with_reducible first | exact HB.out | apply below_alloc | apply pw_below_drewN | apply below_drew1 | refine below_set ?_ GE197.out | refine below_set ?_ GE198.out) | exact HB.out))) | (with_reducible refine Kd.C_alloc ?_ _) | (with_reducible refine Kd.C_drewN ?_ _) | (with_reducible refine Kd.C_drew ?_))); (case side2 => exact HC0_2.out); (case side3 => repeat (first | exact (Kd.C_below HR1_2.out (by repeat (first | (with_reducible first | exact HB.out | apply below_alloc | apply pw_below_drewN | apply below_drew1 | refine below_set ?_ GE197.out | refine below_set ?_ GE198.out) | exact HB.out))) | (with_reducible refine Kd.C_alloc ?_ _) | (with_reducible refine Kd.C_drewN ?_ _) | (with_reducible refine Kd.C_drew ?_))); (case side4 => exact HC1_2.out); rintro e w' ⟨rfl, ⟨nd, rfl⟩⟩) | (go_at_call 19; (with_reducible refine (hypercuberef1_Ints.calls k _ _ l0_3 _ _ l1_3 false _ ?side1 ?side2 ?side3 ?side4 A8.out).mono ?_); (case side1 => repeat (first | exact (Kd.C_below HR0_3.out (by repeat (first | (with_reducible first | exact HB.out | apply below_alloc | apply pw_below_drewN | apply below_drew1 | refine below_set ?_ GE197.out | refine below_set ?_ GE198.out) | exact HB.out))) | (with_reducible refine Kd.C_alloc ?_ _) | (with_reducible refine Kd.C_drewN ?_ _) | (with_reducible refine Kd.C_drew ?_))); (case side2 => exact HC0_3.out); (case side3 => repeat (first | exact (Kd.C_below HR1_3.out (by repeat (first | (with_reducible first | exact HB.out | apply below_alloc | apply pw_below_drewN | apply below_drew1 | refine below_set ?_ GE197.out | refine below_set ?_ GE198.out) | exact HB.out))) | (with_reducible refine Kd.C_alloc ?_ _) | (with_reducible refine Kd.C_drewN ?_ _) | (with_reducible refine Kd.C_drew ?_))); (case side4 => exact HC1_3.out); rintro e w' ⟨rfl, ⟨nd, rfl⟩⟩))
     go_ret
     exact ⟨by first | rfl | (simp [errW_none, errW_some] <;> rfl) | (simp [*, errW_none, errW_some] <;> rfl), by repeat (first | (with_reducible first | exact HB.out | apply below_alloc | apply pw_below_drewN | apply below_drew1 | refine below_set ?_ GE197.out | refine below_set ?_ GE198.out) | exact HB.out)⟩
   ·replace c7 := Bool.eq_false_iff.mpr c7
    subst c7
    have H1 : (some false) = some r := by rw [if_neg (show ¬ (false = true) by decide)] at H; exact H
    clear H
    have H := H1
    clear H1
    obtain rfl := Option.some.inj H
    go_enter Try.func22, Try.ntmps22
    go_wp2_with (first | ((with_reducible refine gate_dst (N := 2) rfl ?_); refine box_event ?hg (N := 2) ?hd (cs := #[.slice A0_0 l0_0.length c0_0, .int .i64 a0_1, .slice A0_2 l0_2.length c0_2, .slice A0_3 l0_3.length c0_3, .slice A0_4 l0_4.length c0_4]) (t := 30) ?hr ?_; (case hd => rfl); (case hg => rfl); (case hr => first | (go_simp; done) | (go_simp; rfl)); intro gb197 hg w21 hbox hb; have n0_ := am (below_step (by repeat (first | (with_reducible first | exact HB.out | apply below_alloc | apply pw_below_drewN | apply below_drew1) | exact HB.out)) hb); have n1_ := am (hbox); have n2_ := am ((by rw [hg]; exact (below_size (by repeat (first | (with_reducible first | exact HB.out | apply below_alloc | apply pw_below_drewN | apply below_drew1) | exact HB.out))) : w.heap.size ≤ gb197)); have n3_ := am ((by rw [hg]; exact (below_size (by repeat (first | (with_reducible first | exact HB.out | apply below_alloc | apply pw_below_drewN | apply below_drew1) | exact HB.out))) : w.heap.size ≤ gb197)); clear HB; have HB := n0_; have BK197 := n1_; have GW197 := n2_; have GE197 := n3_; clear n0_ n1_ n2_ n3_; clear hb hbox hg) | ((with_reducible refine gate_dst (N := 3) rfl ?_); refine box_event ?hg (N := 3) ?hd (cs := #[.slice A1_0 l1_0.length c1_0, .int .i64 a1_1, .slice A1_2 l1_2.length c1_2, .slice A1_3 l1_3.length c1_3, .slice A1_4 l1_4.length c1_4]) (t := 30) ?hr ?_; (case hd => rfl); (case hg => rfl); (case hr => first | (go_simp; done) | (go_simp; rfl)); intro gb198 hg w22 hbox hb; have n0_ := am (blk_below (g := gb197) (o := .cells #[.slice A0_0 l0_0.length c0_0, .int .i64 a0_1, .slice A0_2 l0_2.length c0_2, .slice A0_3 l0_3.length c0_3, .slice A0_4 l0_4.length c0_4] 30 (0, 0)) (by (with_reducible repeat (first | refine blk_drewN ?_ _ | refine blk_drew ?_ | refine blk_alloc ?_ _)); exact BK197.out) hb); have n1_ := am (below_step (by repeat (first | (with_reducible first | exact HB.out | apply below_alloc | apply pw_below_drewN | apply below_drew1 | refine below_set ?_ GE197.out) | exact HB.out)) hb); have n2_ := am (hbox); have n3_ := am ((by rw [hg]; exact (below_size (by repeat (first | (with_reducible first | exact HB.out | apply below_alloc | apply pw_below_drewN | apply below_drew1 | refine below_set ?_ GE197.out) | exact HB.out))) : w.heap.size ≤ gb198)); have n4_ := am ((by rw [hg]; exact (below_size (by repeat (first | (with_reducible first | exact HB.out | apply below_alloc | apply pw_below_drewN | apply below_drew1 | refine below_set ?_ GE197.out) | exact HB.out))) : w.heap.size ≤ gb198)); have n5_ := am ((by rw [hg]; exact Nat.ne_of_lt (blk_lt (g := gb197) (o := .cells #[.slice A0_0 l0_0.length c0_0, .int .i64 a0_1, .slice A0_2 l0_2.length c0_2, .slice A0_3 l0_3.length c0_3, .slice A0_4 l0_4.length c0_4] 30 (0, 0)) (by (with_reducible repeat (first | refine blk_drewN ?_ _ | refine blk_drew ?_ | refine blk_alloc ?_ _)); exact BK197.out)) : gb197 ≠ gb198)); have n6_ := am ((by rw [hg]; exact Nat.ne_of_gt (blk_lt (g := gb197) (o := .cells #[.slice A0_0 l0_0.length c0_0, .int .i64 a0_1, .slice A0_2 l0_2.length c0_2, .slice A0_3 l0_3.length c0_3, .slice A0_4 l0_4.length c0_4] 30 (0, 0)) (by (with_reducible repeat (first | refine blk_drewN ?_ _ | refine blk_drew ?_ | refine blk_alloc ?_ _)); exact BK197.out)) : gb198 ≠ gb197)); clear BK197; clear HB; have BK197 := n0_; have HB := n1_; have BK198 := n2_; have GW198 := n3_; have GE198 := n4_; have NB197_198 := n5_; have NB198_197 := n6_; clear n0_ n1_ n2_ n3_ n4_ n5_ n6_; clear hb hbox hg; have hnb23 := NB197_198.out; have hnc23 := NB198_197.out; have hcz24_0 : w22.cell? ⟨gb197, 0, none⟩ = some (.slice A0_0 l0_0.length c0_0) := (blk_cell BK197.out 0).trans rfl; have hcz24_1 : w22.cell? ⟨gb197, 1, none⟩ = some (.int .i64 a0_1) := (blk_cell BK197.out 1).trans rfl; have hcz24_2 : w22.cell? ⟨gb197, 2, none⟩ = some (.slice A0_2 l0_2.length c0_2) := (blk_cell BK197.out 2).trans rfl; have hcz24_3 : w22.cell? ⟨gb197, 3, none⟩ = some (.slice A0_3 l0_3.length c0_3) := (blk_cell BK197.out 3).trans rfl; have hcz24_4 : w22.cell? ⟨gb197, 4, none⟩ = some (.slice A0_4 l0_4.length c0_4) := (blk_cell BK197.out 4).trans rfl; have hfz24_0 := blk_frozen BK197.out 0; have hfz24_1 := blk_frozen BK197.out 1; have hfz24_2 := blk_frozen BK197.out 2; have hfz24_3 := blk_frozen BK197.out 3; have hfz24_4 := blk_frozen BK197.out 4; have hcz25_0 : w22.cell? ⟨gb198, 0, none⟩ = some (.slice A1_0 l1_0.length c1_0) := (blk_cell BK198.out 0).trans rfl; have hcz25_1 : w22.cell? ⟨gb198, 1, none⟩ = some (.int .i64 a1_1) := (blk_cell BK198.out 1).trans rfl; have hcz25_2 : w22.cell? ⟨gb198, 2, none⟩ = some (.slice A1_2 l1_2.length c1_2) := (blk_cell BK198.out 2).trans rfl; have hcz25_3 : w22.cell? ⟨gb198, 3, none⟩ = some (.slice A1_3 l1_3.length c1_3) := (blk_cell BK198.out 3).trans rfl; have hcz25_4 : w22.cell? ⟨gb198, 4, none⟩ = some (.slice A1_4 l1_4.length c1_4) := (blk_cell BK198.out 4).trans rfl; have hfz25_0 := blk_frozen BK198.out 0; have hfz25_1 := blk_frozen BK198.out 1; have hfz25_2 := blk_frozen BK198.out 2; have hfz25_3 := blk_frozen BK198.out 3; have hfz25_4 := blk_frozen BK198.out 4) | (go_at_call 19; (with_reducible refine (hypercuberef1_Ints.calls k _ _ l0_0 _ _ l1_0 true _ ?side1 ?side2 ?side3 ?side4 A4.out).mono ?_); (case side1 => repeat (first | exact (Kd.C_below HR0_0.out HB.out) | (with_reducible refine Kd.C_alloc ?_ _) | (with_reducible refine Kd.C_drewN ?_ _) | (with_reducible refine Kd.C_drew ?_))); (case side2 => exact HC0_0.out); (case side3 => repeat (first | exact (Kd.C_below HR1_0.out HB.out) | (with_reducible refine Kd.C_alloc ?_ _) | (with_reducible refine Kd.C_drewN ?_ _) | (with_reducible refine Kd.C_drew ?_))); (case side4 => exact HC1_0.out); rintro e w' ⟨rfl, ⟨nd, rfl⟩⟩) | (go_at_call 19; (with_reducible refine (hypercuberef1_Ints.calls k _ _ l0_2 _ _ l1_2 false _ ?side1 ?side2 ?side3 ?side4 A6.out).mono ?_); (case side1 => repeat (first | exact (Kd.C_below HR0_2.out (by repeat (first | (with_reducible first | exact HB.out | apply below_alloc | apply pw_below_drewN | apply below_drew1 | refine below_set ?_ GE197.out | refine below_set ?_ GE198.out) | exact HB.out))) | (with_reducible refine Kd.C_alloc ?_ _) | (with_reducible refine Kd.C_drewN ?_ _) | (with_reducible refine Kd.C_drew ?_))); (case side2 => exact HC0_2.out); (case side3 => repeat (first | exact (Kd.C_below HR1_2.out (by repeat (first | (with_reducible first | exact HB.out | apply below_alloc | apply pw_below_drewN | apply below_drew1 | refine below_set ?_ GE197.out | refine below_set ?_ GE198.out) | exact HB.out))) | (with_reducible refine Kd.C_alloc ?_ _) | (with_reducible refine Kd.C_drewN ?_ _) | (with_reducible refine Kd.C_drew ?_))); (case side4 => exact HC1_2.out); rintro e w' ⟨rfl, ⟨nd, rfl⟩⟩))
    go_ret
    exact ⟨by first | rfl | (simp [errW_none, errW_some] <;> rfl) | (simp [*, errW_none, errW_some] <;> rfl), by repeat (first | (with_reducible first | exact HB.out | apply below_alloc | apply pw_below_drewN | apply below_drew1 | refine below_set ?_ GE197.out | refine below_set ?_ GE198.out) | exact HB.out)⟩
  ·replace c5 := Bool.eq_false_iff.mpr c5
   subst c5
   have H1 : (some false) = some r := by rw [if_neg (show ¬ (false = true) by decide)] at H; exact H
   clear H
   have H := H1
   clear H1
   obtain rfl := Option.some.inj H
   go_enter Try.func22, Try.ntmps22
   go_wp2_with (first | ((with_reducible refine gate_dst (N := 2) rfl ?_); refine box_event ?hg (N := 2) ?hd (cs := #[.slice A0_0 l0_0.length c0_0, .int .i64 a0_1, .slice A0_2 l0_2.length c0_2, .slice A0_3 l0_3.length c0_3, .slice A0_4 l0_4.length c0_4]) (t := 30) ?hr ?_; (case hd => rfl); (case hg => rfl); (case hr => first | (go_simp; done) | (go_simp; rfl)); intro gb197 hg w26 hbox hb; have n0_ := am (below_step (by repeat (first | (with_reducible first | exact HB.out | apply below_alloc | apply pw_below_drewN | apply below_drew1) | exact HB.out)) hb); have n1_ := am (hbox); have n2_ := am ((by rw [hg]; exact (below_size (by repeat (first | (with_reducible first | exact HB.out | apply below_alloc | apply pw_below_drewN | apply below_drew1) | exact HB.out))) : w.heap.size ≤ gb197)); have n3_ := am ((by rw [hg]; exact (below_size (by repeat (first | (with_reducible first | exact HB.out | apply below_alloc | apply pw_below_drewN | apply below_drew1) | exact HB.out))) : w.heap.size ≤ gb197)); clear HB; have HB := n0_; have BK197 := n1_; have GW197 := n2_; have GE197 := n3_; clear n0_ n1_ n2_ n3_; clear hb hbox hg) | ((with_reducible refine gate_dst (N := 3) rfl ?_); refine box_event ?hg (N := 3) ?hd (cs := #[.slice A1_0 l1_0.length c1_0, .int .i64 a1_1, .slice A1_2 l1_2.length c1_2, .slice A1_3 l1_3.length c1_3, .slice A1_4 l1_4.length c1_4]) (t := 30) ?hr ?_; (case hd => rfl); (case hg => rfl); (case hr => first | (go_simp; done) | (go_simp; rfl)); intro gb198 hg w27 hbox hb; have n0_ := am (blk_below (g := gb197) (o := .cells #[.slice A0_0 l0_0.length c0_0, .int .i64 a0_1, .slice A0_2 l0_2.length c0_2, .slice A0_3 l0_3.length c0_3, .slice A0_4 l0_4.length c0_4] 30 (0, 0)) (by (with_reducible repeat (first | refine blk_drewN ?_ _ | refine blk_drew ?_ | refine blk_alloc ?_ _)); exact BK197.out) hb); have n1_ := am (below_step (by repeat (first | (with_reducible first | exact HB.out | apply below_alloc | apply pw_below_drewN | apply below_drew1 | refine below_set ?_ GE197.out) | exact HB.out)) hb); have n2_ := am (hbox); have n3_ := am ((by rw [hg]; exact (below_size (by repeat (first | (with_reducible first | exact HB.out | apply below_alloc | apply pw_below_drewN | apply below_drew1 | refine below_set ?_ GE197.out) | exact HB.out))) : w.heap.size ≤ gb198)); have n4_ := am ((by rw [hg]; exact (below_size (by repeat (first | (with_reducible first | exact HB.out | apply below_alloc | apply pw_below_drewN | apply below_drew1 | refine below_set ?_ GE197.out) | exact HB.out))) : w.heap.size ≤ gb198)); have n5_ := am ((by rw [hg]; exact Nat.ne_of_lt (blk_lt (g := gb197) (o := .cells #[.slice A0_0 l0_0.length c0_0, .int .i64 a0_1, .slice A0_2 l0_2.length c0_2, .slice A0_3 l0_3.length c0_3, .slice A0_4 l0_4.length c0_4] 30 (0, 0)) (by (with_reducible repeat (first | refine blk_drewN ?_ _ | refine blk_drew ?_ | refine blk_alloc ?_ _)); exact BK197.out)) : gb197 ≠ gb198)); have n6_ := am ((by rw [hg]; exact Nat.ne_of_gt (blk_lt (g := gb197) (o := .cells #[.slice A0_0 l0_0.length c0_0, .int .i64 a0_1, .slice A0_2 l0_2.length c0_2, .slice A0_3 l0_3.length c0_3, .slice A0_4 l0_4.length c0_4] 30 (0, 0)) (by (with_reducible repeat (first | refine blk_drewN ?_ _ | refine blk_drew ?_ | refine blk_alloc ?_ _)); exact BK197.out)) : gb198 ≠ gb197)); clear BK197; clear HB; have BK197 := n0_; have HB := n1_; have BK198 := n2_; have GW198 := n3_; have GE198 := n4_; have NB197_198 := n5_; have NB198_197 := n6_; clear n0_ n1_ n2_ n3_ n4_ n5_ n6_; clear hb hbox hg; have hnb28 := NB197_198.out; have hnc28 := NB198_197.out; have hcz29_0 : w27.cell? ⟨gb197, 0, none⟩ = some (.slice A0_0 l0_0.length c0_0) := (blk_cell BK197.out 0).trans rfl; have hcz29_1 : w27.cell? ⟨gb197, 1, none⟩ = some (.int .i64 a0_1) := (blk_cell BK197.out 1).trans rfl; have hcz29_2 : w27.cell? ⟨gb197, 2, none⟩ = some (.slice A0_2 l0_2.length c0_2) := (blk_cell BK197.out 2).trans rfl; have hcz29_3 : w27.cell? ⟨gb197, 3, none⟩ = some (.slice A0_3 l0_3.length c0_3) := (blk_cell BK197.out 3).trans rfl; have hcz29_4 : w27.cell? ⟨gb197, 4, none⟩ = some (.slice A0_4 l0_4.length c0_4) := (blk_cell BK197.out 4).trans rfl; have hfz29_0 := blk_frozen BK197.out 0; have hfz29_1 := blk_frozen BK197.out 1; have hfz29_2 := blk_frozen BK197.out 2; have hfz29_3 := blk_frozen BK197.out 3; have hfz29_4 := blk_frozen BK197.out 4; have hcz30_0 : w27.cell? ⟨gb198, 0, none⟩ = some (.slice A1_0 l1_0.length c1_0) := (blk_cell BK198.out 0).trans rfl; have hcz30_1 : w27.cell? ⟨gb198, 1, none⟩ = some (.int .i64 a1_1) := (blk_cell BK198.out 1).trans rfl; have hcz30_2 : w27.cell? ⟨gb198, 2, none⟩ = some (.slice A1_2 l1_2.length c1_2) := (blk_cell BK198.out 2).trans rfl; have hcz30_3 : w27.cell? ⟨gb198, 3, none⟩ = some (.slice A1_3 l1_3.length c1_3) := (blk_cell BK198.out 3).trans rfl; have hcz30_4 : w27.cell? ⟨gb198, 4, none⟩ = some (.slice A1_4 l1_4.length c1_4) := (blk_cell BK198.out 4).trans rfl; have hfz30_0 := blk_frozen BK198.out 0; have hfz30_1 := blk_frozen BK198.out 1; have hfz30_2 := blk_frozen BK198.out 2; have hfz30_3 := blk_frozen BK198.out 3; have hfz30_4 := blk_frozen BK198.out 4) | (go_at_call 19; (with_reducible refine (hypercuberef1_Ints.calls k _ _ l0_0 _ _ l1_0 false _ ?side1 ?side2 ?side3 ?side4 A4.out).mono ?_); (case side1 => repeat (first | exact (Kd.C_below HR0_0.out HB.out) | (with_reducible refine Kd.C_alloc ?_ _) | (with_reducible refine Kd.C_drewN ?_ _) | (with_reducible refine Kd.C_drew ?_))); (case side2 => exact HC0_0.out); (case side3 => repeat (first | exact (Kd.C_below HR1_0.out HB.out) | (with_reducible refine Kd.C_alloc ?_ _) | (with_reducible refine Kd.C_drewN ?_ _) | (with_reducible refine Kd.C_drew ?_))); (case side4 => exact HC1_0.out); rintro e w' ⟨rfl, ⟨nd, rfl⟩⟩))
   go_ret
   exact ⟨by first | rfl | (simp [errW_none, errW_some] <;> rfl) | (simp [*, errW_none, errW_some] <;> rfl), by repeat (first | (with_reducible first | exact HB.out | apply below_alloc | apply pw_below_drewN | apply below_drew1 | refine below_set ?_ GE197.out | refine below_set ?_ GE198.out) | exact HB.out)⟩
 ·rw [if_neg c3] at H
  have c3b0 : (a0_1 == a1_1) = false := beq_eq_false_iff_ne.mpr c3
  have c3b1 : (a0_1 != a1_1) = true := bne_iff_ne.mpr c3
  obtain rfl := Option.some.inj H
  go_enter Try.func22, Try.ntmps22
  go_wp2_with (first | ((with_reducible refine gate_dst (N := 2) rfl ?_); refine box_event ?hg (N := 2) ?hd (cs := #[.slice A0_0 l0_0.length c0_0, .int .i64 a0_1, .slice A0_2 l0_2.length c0_2, .slice A0_3 l0_3.length c0_3, .slice A0_4 l0_4.length c0_4]) (t := 30) ?hr ?_; (case hd => rfl); (case hg => rfl); (case hr => first | (go_simp; done) | (go_simp; rfl)); intro gb197 hg w31 hbox hb; have n0_ := am (below_step (by repeat (first | (with_reducible first | exact HB.out | apply below_alloc | apply pw_below_drewN | apply below_drew1) | exact HB.out)) hb); have n1_ := am (hbox); have n2_ := am ((by rw [hg]; exact (below_size (by repeat (first | (with_reducible first | exact HB.out | apply below_alloc | apply pw_below_drewN | apply below_drew1) | exact HB.out))) : w.heap.size ≤ gb197)); have n3_ := am ((by rw [hg]; exact (below_size (by repeat (first | (with_reducible first | exact HB.out | apply below_alloc | apply pw_below_drewN | apply below_drew1) | exact HB.out))) : w.heap.size ≤ gb197)); clear HB; have HB := n0_; have BK197 := n1_; have GW197 := n2_; have GE197 := n3_; clear n0_ n1_ n2_ n3_; clear hb hbox hg) | ((with_reducible refine gate_dst (N := 3) rfl ?_); refine box_event ?hg (N := 3) ?hd (cs := #[.slice A1_0 l1_0.length c1_0, .int .i64 a1_1, .slice A1_2 l1_2.length c1_2, .slice A1_3 l1_3.length c1_3, .slice A1_4 l1_4.length c1_4]) (t := 30) ?hr ?_; (case hd => rfl); (case hg => rfl); (case hr => first | (go_simp; done) | (go_simp; rfl)); intro gb198 hg w32 hbox hb; have n0_ := am (blk_below (g := gb197) (o := .cells #[.slice A0_0 l0_0.length c0_0, .int .i64 a0_1, .slice A0_2 l0_2.length c0_2, .slice A0_3 l0_3.length c0_3, .slice A0_4 l0_4.length c0_4] 30 (0, 0)) (by (with_reducible repeat (first | refine blk_drewN ?_ _ | refine blk_drew ?_ | refine blk_alloc ?_ _)); exact BK197.out) hb); have n1_ := am (below_step (by repeat (first | (with_reducible first | exact HB.out | apply below_alloc | apply pw_below_drewN | apply below_drew1 | refine below_set ?_ GE197.out) | exact HB.out)) hb); have n2_ := am (hbox); have n3_ := am ((by rw [hg]; exact (below_size (by repeat (first | (with_reducible first | exact HB.out | apply below_alloc | apply pw_below_drewN | apply below_drew1 | refine below_set ?_ GE197.out) | exact HB.out))) : w.heap.size ≤ gb198)); have n4_ := am ((by rw [hg]; exact (below_size (by repeat (first | (with_reducible first | exact HB.out | apply below_alloc | apply pw_below_drewN | apply below_drew1 | refine below_set ?_ GE197.out) | exact HB.out))) : w.heap.size ≤ gb198)); have n5_ := am ((by rw [hg]; exact Nat.ne_of_lt (blk_lt (g := gb197) (o := .cells #[.slice A0_0 l0_0.length c0_0, .int .i64 a0_1, .slice A0_2 l0_2.length c0_2, .slice A0_3 l0_3.length c0_3, .slice A0_4 l0_4.length c0_4] 30 (0, 0)) (by (with_reducible repeat (first | refine blk_drewN ?_ _ | refine blk_drew ?_ | refine blk_alloc ?_ _)); exact BK197.out)) : gb197 ≠ gb198)); have n6_ := am ((by rw [hg]; exact Nat.ne_of_gt (blk_lt (g := gb197) (o := .cells #[.slice A0_0 l0_0.length c0_0, .int .i64 a0_1, .slice A0_2 l0_2.length c0_2, .slice A0_3 l0_3.length c0_3, .slice A0_4 l0_4.length c0_4] 30 (0, 0)) (by (with_reducible repeat (first | refine blk_drewN ?_ _ | refine blk_drew ?_ | refine blk_alloc ?_ _)); exact BK197.out)) : gb198 ≠ gb197)); clear BK197; clear HB; have BK197 := n0_; have HB := n1_; have BK198 := n2_; have GW198 := n3_; have GE198 := n4_; have NB197_198 := n5_; have NB198_197 := n6_; clear n0_ n1_ n2_ n3_ n4_ n5_ n6_; clear hb hbox hg; have hnb33 := NB197_198.out; have hnc33 := NB198_197.out; have hcz34_0 : w32.cell? ⟨gb197, 0, none⟩ = some (.slice A0_0 l0_0.length c0_0) := (blk_cell BK197.out 0).trans rfl; have hcz34_1 : w32.cell? ⟨gb197, 1, none⟩ = some (.int .i64 a0_1) := (blk_cell BK197.out 1).trans rfl; have hcz34_2 : w32.cell? ⟨gb197, 2, none⟩ = some (.slice A0_2 l0_2.length c0_2) := (blk_cell BK197.out 2).trans rfl; have hcz34_3 : w32.cell? ⟨gb197, 3, none⟩ = some (.slice A0_3 l0_3.length c0_3) := (blk_cell BK197.out 3).trans rfl; have hcz34_4 : w32.cell? ⟨gb197, 4, none⟩ = some (.slice A0_4 l0_4.length c0_4) := (blk_cell BK197.out 4).trans rfl; have hfz34_0 := blk_frozen BK197.out 0; have hfz34_1 := blk_frozen BK197.out 1; have hfz34_2 := blk_frozen BK197.out 2; have hfz34_3 := blk_frozen BK197.out 3; have hfz34_4 := blk_frozen BK197.out 4; have hcz35_0 : w32.cell? ⟨gb198, 0, none⟩ = some (.slice A1_0 l1_0.length c1_0) := (blk_cell BK198.out 0).trans rfl; have hcz35_1 : w32.cell? ⟨gb198, 1, none⟩ = some (.int .i64 a1_1) := (blk_cell BK198.out 1).trans rfl; have hcz35_2 : w32.cell? ⟨gb198, 2, none⟩ = some (.slice A1_2 l1_2.length c1_2) := (blk_cell BK198.out 2).trans rfl; have hcz35_3 : w32.cell? ⟨gb198, 3, none⟩ = some (.slice A1_3 l1_3.length c1_3) := (blk_cell BK198.out 3).trans rfl; have hcz35_4 : w32.cell? ⟨gb198, 4, none⟩ = some (.slice A1_4 l1_4.length c1_4) := (blk_cell BK198.out 4).trans rfl; have hfz35_0 := blk_frozen BK198.out 0; have hfz35_1 := blk_frozen BK198.out 1; have hfz35_2 := blk_frozen BK198.out 2; have hfz35_3 := blk_frozen BK198.out 3; have hfz35_4 := blk_frozen BK198.out 4))
  go_ret
  exact ⟨by first | rfl | (simp [errW_none, errW_some] <;> rfl) | (simp [*, errW_none, errW_some] <;> rfl), by repeat (first | (with_reducible first | exact HB.out | apply below_alloc | apply pw_below_drewN | apply below_drew1 | refine below_set ?_ GE197.out | refine below_set ?_ GE198.out) | exact HB.out)⟩
def hypercubelaw1_within.f (a0 : Int) (a1 : Int) : Option (Int) := if a1 = 0 then (none) else (if (Int.tmod a0 a1) < 0 then (some (wrap64 ((Int.tmod a0 a1) + a1))) else (some (Int.tmod a0 a1)))
set_option maxHeartbeats 8000000 in
set_option maxRecDepth 100000 in
theorem hypercubelaw1_within.calls (a0 : Int) (a1 : Int) (r : Int) (w : World) (h : hypercubelaw1_within.f a0 a1 = some r) :
  Calls Try.prog 45 #[.int .i64 a0, .int .i64 a1] w fun e w' => e = .returned (.int .i64 r) ∧ Drawn0 w w' := by
 have H : (if a1 = 0 then (none) else (if (Int.tmod a0 a1) < 0 then (some (wrap64 ((Int.tmod a0 a1) + a1))) else (some (Int.tmod a0 a1)))) = some r := h
 clear h
 by_cases c3 : a1 = 0
 ·rw [if_pos c3] at H
  exact absurd H (by simp)
 ·rw [if_neg c3] at H
  have c3b0 : (a1 == 0) = false := beq_eq_false_iff_ne.mpr c3
  have c3b1 : (a1 != 0) = true := bne_iff_ne.mpr c3
  by_cases c4 : (Int.tmod a0 a1) < 0
  ·rw [if_pos c4] at H
   have c4b0 : decide ((Int.tmod a0 a1) < 0) = true := decide_eq_true c4
   clear c4
   obtain rfl := Option.some.inj H
   go_enter Try.func45, Try.ntmps45
   go_wp2
   go_ret
   exact ⟨by first | rfl | (simp; done) | (simp [*]; done), by repeat (first | exact Drawn0.refl _ | apply Drawn0.step)⟩
  ·rw [if_neg c4] at H
   have c4b0 : decide ((Int.tmod a0 a1) < 0) = false := decide_eq_false c4
   clear c4
   obtain rfl := Option.some.inj H
   go_enter Try.func45, Try.ntmps45
   go_wp2
   go_ret
   exact ⟨by first | rfl | (simp; done) | (simp [*]; done), by repeat (first | exact Drawn0.refl _ | apply Drawn0.step)⟩
def hypercuberef2_Same.l0 : Nat → List (S30) → List (S30) → Int → Option (Bool)
 | 0, _, _, _ => none
 | k + 1, x0, x1, x5 => if x5 < (x0.length : Int) then (if 0 ≤ x5 then (if x5 < (x1.length : Int) then ((hypercuberef2_Equal.f k ((rd_T30 x0 x5).f0) ((rd_T30 x0 x5).f1) ((rd_T30 x0 x5).f2) ((rd_T30 x0 x5).f3) ((rd_T30 x0 x5).f4) ((rd_T30 x1 x5).f0) ((rd_T30 x1 x5).f1) ((rd_T30 x1 x5).f2) ((rd_T30 x1 x5).f3) ((rd_T30 x1 x5).f4)).bind fun t404 => (if t404 = true then (hypercuberef2_Same.l0 k x0 x1 (wrap64 (x5 + 1))) else (some false))) else (none)) else (none)) else (some true)
def hypercuberef2_Same.f (k : Nat) (l0 : List (S30)) (l1 : List (S30)) : Option (Bool) := if (l0.length : Int) = (l1.length : Int) then (hypercuberef2_Same.l0 k l0 l1 0) else (some false)
def hypercuberef2_Same.T6 : Bool × List (List Nat × List Nat) := (true, [([], []), ([], []), ([0, 1], [0, 1]), ([2], [2]), ([], []), ([], []), ([4, 5], [4, 5]), ([6], [6]), ([3, 7], [3, 7]), ([8], [8])])
def hypercuberef2_Same.B6 : List Nat := [0, 0, 3, 7, 0, 0, 48, 112, 255, 511]
theorem hypercuberef2_Same.tab6 : rtab .any (opsOf Try.f27 6) = hypercuberef2_Same.T6 := by kernel_rfl
theorem hypercuberef2_Same.bits6 : waitsOk hypercuberef2_Same.T6.2 hypercuberef2_Same.B6 = true := by kernel_rfl
set_option maxHeartbeats 8000000 in
set_option maxRecDepth 100000 in
theorem hypercuberef2_Same.calls (k : Nat) (A0 : Option Addr) (c0 : Nat) (l0 : List (S30)) (A1 : Option Addr) (c1 : Nat) (l1 : List (S30)) (r : Bool) (w : World) (hr0 : Kd.C k30 w A0 l0.length l0) (hc0 : l0.length ≤ c0) (hr1 : Kd.C k30 w A1 l1.length l1) (hc1 : l1.length ≤ c1) (h : hypercuberef2_Same.f k l0 l1 = some r) :
  Calls Try.prog 27 #[.slice A0 l0.length c0, .slice A1 l1.length c1] w fun e w' => e = .returned (.bool r) ∧ Below w.heap.size w w' := by
 have hu30 := Try.underlying30
 have HR0 := am hr0
 have HC0 := am hc0
 clear hr0 hc0
 have HR1 := am hr1
 have HC1 := am hc1
 clear hr1 hc1
 have HB := am (Below.refl w.heap.size w)
 have H : (if (l0.length : Int) = (l1.length : Int) then (hypercuberef2_Same.l0 k l0 l1 0) else (some false)) = some r := h
 clear h
 by_cases c3 : (l0.length : Int) = (l1.length : Int)
 ·rw [if_pos c3] at H
  have c3b0 : ((l0.length : Int) == (l1.length : Int)) = true := beq_iff_eq.mpr c3
  have c3b1 : ((l0.length : Int) != (l1.length : Int)) = false := bne_eq_false_iff_eq.mpr c3
  have c3b2 : (l0.length == l1.length) = true := by first | simpa using c3 | (simp at c3 ⊢; omega)
  clear c3
  have H' := am H
  clear H
  go_enter Try.func27, Try.ntmps27
  go_wp2
  go_loopg [5] k (fun kq v5 w' => ∃ (x5_1 : Int), v5 = .int .i64 x5_1 ∧ Aside0 (hypercuberef2_Same.l0 kq l0 l1 x5_1 = some r) ∧ Aside0 (kq ≤ k) ∧ Aside0 (Below w.heap.size w w'))
  case atStart => exact ⟨(0), (by first | rfl | (simp; done) | (simp [*]; done)), H', ⟨Nat.le_refl _⟩, ⟨by repeat (first | (with_reducible first | exact HB.out | apply below_alloc | apply pw_below_drewN | apply below_drew1) | exact HB.out)⟩⟩
  case round =>
   clear H'
   try clear c1
   try clear c2
   try clear p2
   try clear c3
   try clear c3b0
   try clear c3b1
   try clear c3b2
   obtain ⟨x5_1, rfl, HA, HK1, HB⟩ := hrel
   cases gk with
   | zero => exact absurd HA.out (by simp [hypercuberef2_Same.l0])
   | succ k1 =>
    have H := HA.out
    clear HA
    simp only [hypercuberef2_Same.l0] at H
    by_cases c4 : x5_1 < (l0.length : Int)
    ·rw [if_pos c4] at H
     have c4b0 : decide (x5_1 < (l0.length : Int)) = true := decide_eq_true c4
     clear c4
     by_cases c5 : 0 ≤ x5_1
     ·rw [if_pos c5] at H
      have c5b0 : decide (0 ≤ x5_1) = true := decide_eq_true c5
      clear c5
      by_cases c6 : x5_1 < (l1.length : Int)
      ·rw [if_pos c6] at H
       have c6b0 : decide (x5_1 < (l1.length : Int)) = true := decide_eq_true c6
       clear c6
       replace H := Option.bind_eq_some_iff.mp H
       obtain ⟨t404, A70, H⟩ := H
       replace H : (if t404 = true then (hypercuberef2_Same.l0 k1 l0 l1 (wrap64 (x5_1 + 1))) else (some false)) = some r := H
       have A7 := am A70
       clear A70
       by_cases c8 : t404 = true
       ·subst c8
        have H1 : (hypercuberef2_Same.l0 k1 l0 l1 (wrap64 (x5_1 + 1))) = some r := by rw [if_pos rfl] at H; exact H
        clear H
        have H := H1
        clear H1
        have H' := am H
        clear H
        try go_wp2
        have n0_ := am (below_drew1 HB.out)
        clear HB
        have HB := n0_
        clear n0_
        have p402 : 0 ≤ (x5_1 : Int) := of_decide_eq_true (by first | (with_reducible assumption) | assumption)
        have q402 : x5_1 < (l0.length : Int) := of_decide_eq_true (by first | (with_reducible assumption) | assumption)
        obtain ⟨ad402, A402_0, c402_0, A402_2, c402_2, A402_3, c402_3, A402_4, c402_4, e402, hx402_0, hx402_1, hx402_2, hx402_3, hx402_4, hl402_0, hi402_0, hl402_2, hi402_2, hl402_3, hi402_3, hl402_4, hi402_4⟩ := at_T30 HR0.out x5_1 p402 q402
        have hw402_4 := hx402_4
        have hw402_3 := hx402_3
        have hw402_2 := hx402_2
        have hw402_1 := hx402_1
        have hw402_0 := hx402_0
        cases e402
        replace hx402_0 := (HB.out.cell (World.block_lt_of_cell? w _ hx402_0)).trans hx402_0
        replace hx402_1 := (HB.out.cell (World.block_lt_of_cell? w _ hx402_1)).trans hx402_1
        replace hx402_2 := (HB.out.cell (World.block_lt_of_cell? w _ hx402_2)).trans hx402_2
        replace hx402_3 := (HB.out.cell (World.block_lt_of_cell? w _ hx402_3)).trans hx402_3
        replace hx402_4 := (HB.out.cell (World.block_lt_of_cell? w _ hx402_4)).trans hx402_4
        have HR402_0 := am hi402_0
        have HC402_0 := am hl402_0
        clear hi402_0 hl402_0
        have HR402_2 := am hi402_2
        have HC402_2 := am hl402_2
        clear hi402_2 hl402_2
        have HR402_3 := am hi402_3
        have HC402_3 := am hl402_3
        clear hi402_3 hl402_3
        have HR402_4 := am hi402_4
        have HC402_4 := am hl402_4
        clear hi402_4 hl402_4
        replace p402 := eq_true p402
        replace q402 := eq_true q402
        have p403 : 0 ≤ (x5_1 : Int) := of_decide_eq_true (by first | (with_reducible assumption) | assumption)
        have q403 : x5_1 < (l1.length : Int) := of_decide_eq_true (by first | (with_reducible assumption) | assumption)
        obtain ⟨ad403, A403_0, c403_0, A403_2, c403_2, A403_3, c403_3, A403_4, c403_4, e403, hx403_0, hx403_1, hx403_2, hx403_3, hx403_4, hl403_0, hi403_0, hl403_2, hi403_2, hl403_3, hi403_3, hl403_4, hi403_4⟩ := at_T30 HR1.out x5_1 p403 q403
        have hw403_4 := hx403_4
        have hw403_3 := hx403_3
        have hw403_2 := hx403_2
        have hw403_1 := hx403_1
        have hw403_0 := hx403_0
        cases e403
        replace hx403_0 := (HB.out.cell (World.block_lt_of_cell? w _ hx403_0)).trans hx403_0
        replace hx403_1 := (HB.out.cell (World.block_lt_of_cell? w _ hx403_1)).trans hx403_1
        replace hx403_2 := (HB.out.cell (World.block_lt_of_cell? w _ hx403_2)).trans hx403_2
        replace hx403_3 := (HB.out.cell (World.block_lt_of_cell? w _ hx403_3)).trans hx403_3
        replace hx403_4 := (HB.out.cell (World.block_lt_of_cell? w _ hx403_4)).trans hx403_4
        have HR403_0 := am hi403_0
        have HC403_0 := am hl403_0
        clear hi403_0 hl403_0
        have HR403_2 := am hi403_2
        have HC403_2 := am hl403_2
        clear hi403_2 hl403_2
        have HR403_3 := am hi403_3
        have HC403_3 := am hl403_3
        clear hi403_3 hl403_3
        have HR403_4 := am hi403_4
        have HC403_4 := am hl403_4
        clear hi403_4 hl403_4
        replace p403 := eq_true p403
        replace q403 := eq_true q403
        refine start_ (n := 10) (S := fun w' => w'.cell? (ad402.add ((x5_1).toNat * 5)) = some (.slice A402_0 ((rd_T30 l0 x5_1).f0).length c402_0) ∧ w'.cell? ⟨(ad402.add ((x5_1).toNat * 5)).block, (ad402.add ((x5_1).toNat * 5)).off + 1, none⟩ = some (.int .i64 ((rd_T30 l0 x5_1).f1)) ∧ w'.cell? ⟨(ad402.add ((x5_1).toNat * 5)).block, (ad402.add ((x5_1).toNat * 5)).off + 2, none⟩ = some (.slice A402_2 ((rd_T30 l0 x5_1).f2).length c402_2) ∧ w'.cell? ⟨(ad402.add ((x5_1).toNat * 5)).block, (ad402.add ((x5_1).toNat * 5)).off + 3, none⟩ = some (.slice A402_3 ((rd_T30 l0 x5_1).f3).length c402_3) ∧ w'.cell? ⟨(ad402.add ((x5_1).toNat * 5)).block, (ad402.add ((x5_1).toNat * 5)).off + 4, none⟩ = some (.slice A402_4 ((rd_T30 l0 x5_1).f4).length c402_4) ∧ w'.cell? (ad403.add ((x5_1).toNat * 5)) = some (.slice A403_0 ((rd_T30 l1 x5_1).f0).length c403_0) ∧ w'.cell? ⟨(ad403.add ((x5_1).toNat * 5)).block, (ad403.add ((x5_1).toNat * 5)).off + 1, none⟩ = some (.int .i64 ((rd_T30 l1 x5_1).f1)) ∧ w'.cell? ⟨(ad403.add ((x5_1).toNat * 5)).block, (ad403.add ((x5_1).toNat * 5)).off + 2, none⟩ = some (.slice A403_2 ((rd_T30 l1 x5_1).f2).length c403_2) ∧ w'.cell? ⟨(ad403.add ((x5_1).toNat * 5)).block, (ad403.add ((x5_1).toNat * 5)).off + 3, none⟩ = some (.slice A403_3 ((rd_T30 l1 x5_1).f3).length c403_3) ∧ w'.cell? ⟨(ad403.add ((x5_1).toNat * 5)).block, (ad403.add ((x5_1).toNat * 5)).off + 4, none⟩ = some (.slice A403_4 ((rd_T30 l1 x5_1).f4).length c403_4)) (ds := []) (bb 10 0) (by kernel_rfl) rfl rfl ⟨((HB.out.cell (World.block_lt_of_cell? w _ hw402_0)).trans hw402_0), ((HB.out.cell (World.block_lt_of_cell? w _ hw402_1)).trans hw402_1), ((HB.out.cell (World.block_lt_of_cell? w _ hw402_2)).trans hw402_2), ((HB.out.cell (World.block_lt_of_cell? w _ hw402_3)).trans hw402_3), ((HB.out.cell (World.block_lt_of_cell? w _ hw402_4)).trans hw402_4), ((HB.out.cell (World.block_lt_of_cell? w _ hw403_0)).trans hw403_0), ((HB.out.cell (World.block_lt_of_cell? w _ hw403_1)).trans hw403_1), ((HB.out.cell (World.block_lt_of_cell? w _ hw403_2)).trans hw403_2), ((HB.out.cell (World.block_lt_of_cell? w _ hw403_3)).trans hw403_3), ((HB.out.cell (World.block_lt_of_cell? w _ hw403_4)).trans hw403_4)⟩ (fun hHeld => ?_); refine with_tabW hypercuberef2_Same.tab6 hypercuberef2_Same.bits6 (fun HT_ HW_ => ?_)
        generalize wr.drew = w9 at HB HR402_0 HR402_2 HR402_3 HR402_4 HR403_0 HR403_2 HR403_3 HR403_4 hx402_0 hx402_1 hx402_2 hx402_3 hx402_4 hx403_0 hx403_1 hx403_2 hx403_3 hx403_4 hHeld ⊢
        refine pure_ (i := 0) (N := some 17) (v := ?_) (a' := ?_) (bb 10 1) rfl rfl (any_of HT_.out (by kernel_rfl)) (fun _ _ _ h => h) (Or.inl ⟨by rfl, ?_⟩) ?_ ?_
        rotate_left
        ·intro w'
         go_simp
         with_reducible rfl
        rotate_left
        ·simp only [Act.put, List.setIfInBounds_toArray, List.set_cons_zero, List.set_cons_succ, i64_w, i32_w]
         rfl
        refine pure_ (i := 1) (N := some 18) (v := ?_) (a' := ?_) (bb 10 3) rfl rfl (any_of HT_.out (by kernel_rfl)) (fun _ _ _ h => h) (Or.inl ⟨by rfl, ?_⟩) ?_ ?_
        rotate_left
        ·intro w'
         go_simp
         with_reducible rfl
        rotate_left
        ·simp only [Act.put, List.setIfInBounds_toArray, List.set_cons_zero, List.set_cons_succ, i64_w, i32_w]
         rfl
        refine pure_ (i := 2) (N := some 19) (v := ?_) (a' := ?_) (bb 10 7) rfl rfl (any_of HT_.out (by kernel_rfl)) (fun _ _ _ h => h) (Or.inl ⟨by rfl, ?_⟩) ?_ ?_
        rotate_left
        ·intro w'
         go_simp
         with_reducible rfl
        rotate_left
        ·simp only [Act.put, List.setIfInBounds_toArray, List.set_cons_zero, List.set_cons_succ, i64_w, i32_w]
         rfl
        refine pure_ (i := 4) (N := some 21) (v := ?_) (a' := ?_) (bb 10 23) rfl rfl (any_of HT_.out (by kernel_rfl)) (fun _ _ _ h => h) (Or.inl ⟨by rfl, ?_⟩) ?_ ?_
        rotate_left
        ·intro w'
         go_simp
         with_reducible rfl
        rotate_left
        ·simp only [Act.put, List.setIfInBounds_toArray, List.set_cons_zero, List.set_cons_succ, i64_w, i32_w]
         rfl
        refine pure_ (i := 5) (N := some 22) (v := ?_) (a' := ?_) (bb 10 55) rfl rfl (any_of HT_.out (by kernel_rfl)) (fun _ _ _ h => h) (Or.inl ⟨by rfl, ?_⟩) ?_ ?_
        rotate_left
        ·intro w'
         go_simp
         with_reducible rfl
        rotate_left
        ·simp only [Act.put, List.setIfInBounds_toArray, List.set_cons_zero, List.set_cons_succ, i64_w, i32_w]
         rfl
        refine pure_ (i := 6) (N := some 23) (v := ?_) (a' := ?_) (bb 10 119) rfl rfl (any_of HT_.out (by kernel_rfl)) (fun _ _ _ h => h) (Or.inl ⟨by rfl, ?_⟩) ?_ ?_
        rotate_left
        ·intro w'
         go_simp
         with_reducible rfl
        rotate_left
        ·simp only [Act.put, List.setIfInBounds_toArray, List.set_cons_zero, List.set_cons_succ, i64_w, i32_w]
         rfl
        refine take_ (i := 3) (N := some 20) (v := ?_) (a' := ?_) (bb 10 127) rfl rfl (take_ofW HT_.out HW_.out (by kernel_rfl)) (fun _ _ _ h => h) (Or.inl ⟨by rfl, ?_⟩) hHeld ?_ ?_
        rotate_left
        ·rintro w' ⟨s0, s1, s2, s3, s4, s5, s6, s7, s8, s9⟩
         go_simp
         with_reducible rfl
        rotate_left
        ·simp only [Act.put, List.setIfInBounds_toArray, List.set_cons_zero, List.set_cons_succ, i64_w, i32_w]
         rfl
        refine take_ (i := 7) (N := some 24) (v := ?_) (a' := ?_) (bb 10 255) rfl rfl (take_ofW HT_.out HW_.out (by kernel_rfl)) (fun _ _ _ h => h) (Or.inl ⟨by rfl, ?_⟩) hHeld ?_ ?_
        rotate_left
        ·rintro w' ⟨s0, s1, s2, s3, s4, s5, s6, s7, s8, s9⟩
         go_simp
         with_reducible rfl
        rotate_left
        ·simp only [Act.put, List.setIfInBounds_toArray, List.set_cons_zero, List.set_cons_succ, i64_w, i32_w]
         rfl
        refine one_ (i := 8) (N := some 25) (bb 10 511) rfl rfl (one_of HT_.out (by kernel_rfl)) (by decide) (fun K hK => ?_)
        refine goes_ Try.func22 (by kernel_rfl) rfl #[.agg #[.slice A402_0 ((rd_T30 l0 x5_1).f0).length c402_0, .int .i64 ((rd_T30 l0 x5_1).f1), .slice A402_2 ((rd_T30 l0 x5_1).f2).length c402_2, .slice A402_3 ((rd_T30 l0 x5_1).f3).length c402_3, .slice A402_4 ((rd_T30 l0 x5_1).f4).length c402_4], .agg #[.slice A403_0 ((rd_T30 l1 x5_1).f0).length c403_0, .int .i64 ((rd_T30 l1 x5_1).f1), .slice A403_2 ((rd_T30 l1 x5_1).f2).length c403_2, .slice A403_3 ((rd_T30 l1 x5_1).f3).length c403_3, .slice A403_4 ((rd_T30 l1 x5_1).f4).length c403_4]] (by rfl) rfl rfl (by (try simp only [List.map_toArray, List.map_cons, List.map_nil]); first | done | rfl | (simp only [List.length_drop, List.length_take]; rfl)) ?_
        with_reducible refine (hypercuberef2_Equal.calls k1 _ _ ((rd_T30 l0 x5_1).f0) ((rd_T30 l0 x5_1).f1) _ _ ((rd_T30 l0 x5_1).f2) _ _ ((rd_T30 l0 x5_1).f3) _ _ ((rd_T30 l0 x5_1).f4) _ _ ((rd_T30 l1 x5_1).f0) ((rd_T30 l1 x5_1).f1) _ _ ((rd_T30 l1 x5_1).f2) _ _ ((rd_T30 l1 x5_1).f3) _ _ ((rd_T30 l1 x5_1).f4) true _ ?side1 ?side2 ?side3 ?side4 ?side5 ?side6 ?side7 ?side8 ?side9 ?side10 ?side11 ?side12 ?side13 ?side14 ?side15 ?side16 A7.out).mono ?_
        (case side1 => repeat (first | exact (Kd.C_below HR402_0.out HB.out) | (with_reducible refine Kd.C_alloc ?_ _) | (with_reducible refine Kd.C_drewN ?_ _) | (with_reducible refine Kd.C_drew ?_)))
        (case side2 => exact HC402_0.out)
        (case side3 => repeat (first | exact (Kd.C_below HR402_2.out HB.out) | (with_reducible refine Kd.C_alloc ?_ _) | (with_reducible refine Kd.C_drewN ?_ _) | (with_reducible refine Kd.C_drew ?_)))
        (case side4 => exact HC402_2.out)
        (case side5 => repeat (first | exact (Kd.C_below HR402_3.out HB.out) | (with_reducible refine Kd.C_alloc ?_ _) | (with_reducible refine Kd.C_drewN ?_ _) | (with_reducible refine Kd.C_drew ?_)))
        (case side6 => exact HC402_3.out)
        (case side7 => repeat (first | exact (Kd.C_below HR402_4.out HB.out) | (with_reducible refine Kd.C_alloc ?_ _) | (with_reducible refine Kd.C_drewN ?_ _) | (with_reducible refine Kd.C_drew ?_)))
        (case side8 => exact HC402_4.out)
        (case side9 => repeat (first | exact (Kd.C_below HR403_0.out HB.out) | (with_reducible refine Kd.C_alloc ?_ _) | (with_reducible refine Kd.C_drewN ?_ _) | (with_reducible refine Kd.C_drew ?_)))
        (case side10 => exact HC403_0.out)
        (case side11 => repeat (first | exact (Kd.C_below HR403_2.out HB.out) | (with_reducible refine Kd.C_alloc ?_ _) | (with_reducible refine Kd.C_drewN ?_ _) | (with_reducible refine Kd.C_drew ?_)))
        (case side12 => exact HC403_2.out)
        (case side13 => repeat (first | exact (Kd.C_below HR403_3.out HB.out) | (with_reducible refine Kd.C_alloc ?_ _) | (with_reducible refine Kd.C_drewN ?_ _) | (with_reducible refine Kd.C_drew ?_)))
        (case side14 => exact HC403_3.out)
        (case side15 => repeat (first | exact (Kd.C_below HR403_4.out HB.out) | (with_reducible refine Kd.C_alloc ?_ _) | (with_reducible refine Kd.C_drewN ?_ _) | (with_reducible refine Kd.C_drew ?_)))
        (case side16 => exact HC403_4.out)
        rintro e w10 ⟨rfl, hb⟩
        refine ⟨_, rfl, ?_⟩
        have n0_ := am (below_step (by repeat (first | (with_reducible first | exact HB.out | apply below_alloc | apply pw_below_drewN | apply below_drew1) | exact HB.out)) hb)
        clear HB
        have HB := n0_
        clear n0_
        (try clear hb)
        (try clear hb2)
        (try clear hk)
        (try clear hi)
        refine hK.out _ _ ⟨((HB.out.cell (World.block_lt_of_cell? w _ hw402_0)).trans hw402_0), ((HB.out.cell (World.block_lt_of_cell? w _ hw402_1)).trans hw402_1), ((HB.out.cell (World.block_lt_of_cell? w _ hw402_2)).trans hw402_2), ((HB.out.cell (World.block_lt_of_cell? w _ hw402_3)).trans hw402_3), ((HB.out.cell (World.block_lt_of_cell? w _ hw402_4)).trans hw402_4), ((HB.out.cell (World.block_lt_of_cell? w _ hw403_0)).trans hw403_0), ((HB.out.cell (World.block_lt_of_cell? w _ hw403_1)).trans hw403_1), ((HB.out.cell (World.block_lt_of_cell? w _ hw403_2)).trans hw403_2), ((HB.out.cell (World.block_lt_of_cell? w _ hw403_3)).trans hw403_3), ((HB.out.cell (World.block_lt_of_cell? w _ hw403_4)).trans hw403_4)⟩ (fun hHeld => ?_)
        clear hK K
        refine norm_ (a' := ?_) ?_ ?_
        rotate_left
        ·show Act.put _ (some 25) _ = _
         simp only [Act.put, List.setIfInBounds_toArray, List.set_cons_zero, List.set_cons_succ, i64_w, i32_w]
         rfl
        refine pure_ (i := 9) (N := some 26) (v := ?_) (a' := ?_) (bb 10 1023) rfl rfl (any_of HT_.out (by kernel_rfl)) (fun _ _ _ h => h) (Or.inl ⟨by rfl, ?_⟩) ?_ ?_
        rotate_left
        ·intro w'
         go_simp
         with_reducible rfl
        rotate_left
        ·simp only [Act.put, List.setIfInBounds_toArray, List.set_cons_zero, List.set_cons_succ, i64_w, i32_w]
         rfl
        refine done_ (done_of HT_.out (by kernel_rfl)) ?_
        try go_wp2
        go_roundg k1
        case measure => have := HK1.out; omega
        case rel => exact ⟨(wrap64 (x5_1 + 1)), (by first | rfl | (simp; done) | (simp [*]; done)), H', ⟨by have := HK1.out; omega⟩, ⟨by repeat (first | (with_reducible first | exact HB.out | apply below_alloc | apply pw_below_drewN | apply below_drew1) | exact HB.out)⟩⟩
       ·replace c8 := Bool.eq_false_iff.mpr c8
        subst c8
        have H1 : (some false) = some r := by rw [if_neg (show ¬ (false = true) by decide)] at H; exact H
        clear H
        have H := H1
        clear H1
        obtain rfl := Option.some.inj H
        try go_wp2
        have n0_ := am (below_drew1 HB.out)
        clear HB
        have HB := n0_
        clear n0_
        have p402 : 0 ≤ (x5_1 : Int) := of_decide_eq_true (by first | (with_reducible assumption) | assumption)
        have q402 : x5_1 < (l0.length : Int) := of_decide_eq_true (by first | (with_reducible assumption) | assumption)
        obtain ⟨ad402, A402_0, c402_0, A402_2, c402_2, A402_3, c402_3, A402_4, c402_4, e402, hx402_0, hx402_1, hx402_2, hx402_3, hx402_4, hl402_0, hi402_0, hl402_2, hi402_2, hl402_3, hi402_3, hl402_4, hi402_4⟩ := at_T30 HR0.out x5_1 p402 q402
        have hw402_4 := hx402_4
        have hw402_3 := hx402_3
        have hw402_2 := hx402_2
        have hw402_1 := hx402_1
        have hw402_0 := hx402_0
        cases e402
        replace hx402_0 := (HB.out.cell (World.block_lt_of_cell? w _ hx402_0)).trans hx402_0
        replace hx402_1 := (HB.out.cell (World.block_lt_of_cell? w _ hx402_1)).trans hx402_1
        replace hx402_2 := (HB.out.cell (World.block_lt_of_cell? w _ hx402_2)).trans hx402_2
        replace hx402_3 := (HB.out.cell (World.block_lt_of_cell? w _ hx402_3)).trans hx402_3
        replace hx402_4 := (HB.out.cell (World.block_lt_of_cell? w _ hx402_4)).trans hx402_4
        have HR402_0 := am hi402_0
        have HC402_0 := am hl402_0
        clear hi402_0 hl402_0
        have HR402_2 := am hi402_2
        have HC402_2 := am hl402_2
        clear hi402_2 hl402_2
        have HR402_3 := am hi402_3
        have HC402_3 := am hl402_3
        clear hi402_3 hl402_3
        have HR402_4 := am hi402_4
        have HC402_4 := am hl402_4
        clear hi402_4 hl402_4
        replace p402 := eq_true p402
        replace q402 := eq_true q402
        have p403 : 0 ≤ (x5_1 : Int) := of_decide_eq_true (by first | (with_reducible assumption) | assumption)
        have q403 : x5_1 < (l1.length : Int) := of_decide_eq_true (by first | (with_reducible assumption) | assumption)
        obtain ⟨ad403, A403_0, c403_0, A403_2, c403_2, A403_3, c403_3, A403_4, c403_4, e403, hx403_0, hx403_1, hx403_2, hx403_3, hx403_4, hl403_0, hi403_0, hl403_2, hi403_2, hl403_3, hi403_3, hl403_4, hi403_4⟩ := at_T30 HR1.out x5_1 p403 q403
        have hw403_4 := hx403_4
        have hw403_3 := hx403_3
        have hw403_2 := hx403_2
        have hw403_1 := hx403_1
        have hw403_0 := hx403_0
        cases e403
        replace hx403_0 := (HB.out.cell (World.block_lt_of_cell? w _ hx403_0)).trans hx403_0
        replace hx403_1 := (HB.out.cell (World.block_lt_of_cell? w _ hx403_1)).trans hx403_1
        replace hx403_2 := (HB.out.cell (World.block_lt_of_cell? w _ hx403_2)).trans hx403_2
        replace hx403_3 := (HB.out.cell (World.block_lt_of_cell? w _ hx403_3)).trans hx403_3
        replace hx403_4 := (HB.out.cell (World.block_lt_of_cell? w _ hx403_4)).trans hx403_4
        have HR403_0 := am hi403_0
        have HC403_0 := am hl403_0
        clear hi403_0 hl403_0
        have HR403_2 := am hi403_2
        have HC403_2 := am hl403_2
        clear hi403_2 hl403_2
        have HR403_3 := am hi403_3
        have HC403_3 := am hl403_3
        clear hi403_3 hl403_3
        have HR403_4 := am hi403_4
        have HC403_4 := am hl403_4
        clear hi403_4 hl403_4
        replace p403 := eq_true p403
        replace q403 := eq_true q403
        refine start_ (n := 10) (S := fun w' => w'.cell? (ad402.add ((x5_1).toNat * 5)) = some (.slice A402_0 ((rd_T30 l0 x5_1).f0).length c402_0) ∧ w'.cell? ⟨(ad402.add ((x5_1).toNat * 5)).block, (ad402.add ((x5_1).toNat * 5)).off + 1, none⟩ = some (.int .i64 ((rd_T30 l0 x5_1).f1)) ∧ w'.cell? ⟨(ad402.add ((x5_1).toNat * 5)).block, (ad402.add ((x5_1).toNat * 5)).off + 2, none⟩ = some (.slice A402_2 ((rd_T30 l0 x5_1).f2).length c402_2) ∧ w'.cell? ⟨(ad402.add ((x5_1).toNat * 5)).block, (ad402.add ((x5_1).toNat * 5)).off + 3, none⟩ = some (.slice A402_3 ((rd_T30 l0 x5_1).f3).length c402_3) ∧ w'.cell? ⟨(ad402.add ((x5_1).toNat * 5)).block, (ad402.add ((x5_1).toNat * 5)).off + 4, none⟩ = some (.slice A402_4 ((rd_T30 l0 x5_1).f4).length c402_4) ∧ w'.cell? (ad403.add ((x5_1).toNat * 5)) = some (.slice A403_0 ((rd_T30 l1 x5_1).f0).length c403_0) ∧ w'.cell? ⟨(ad403.add ((x5_1).toNat * 5)).block, (ad403.add ((x5_1).toNat * 5)).off + 1, none⟩ = some (.int .i64 ((rd_T30 l1 x5_1).f1)) ∧ w'.cell? ⟨(ad403.add ((x5_1).toNat * 5)).block, (ad403.add ((x5_1).toNat * 5)).off + 2, none⟩ = some (.slice A403_2 ((rd_T30 l1 x5_1).f2).length c403_2) ∧ w'.cell? ⟨(ad403.add ((x5_1).toNat * 5)).block, (ad403.add ((x5_1).toNat * 5)).off + 3, none⟩ = some (.slice A403_3 ((rd_T30 l1 x5_1).f3).length c403_3) ∧ w'.cell? ⟨(ad403.add ((x5_1).toNat * 5)).block, (ad403.add ((x5_1).toNat * 5)).off + 4, none⟩ = some (.slice A403_4 ((rd_T30 l1 x5_1).f4).length c403_4)) (ds := []) (bb 10 0) (by kernel_rfl) rfl rfl ⟨((HB.out.cell (World.block_lt_of_cell? w _ hw402_0)).trans hw402_0), ((HB.out.cell (World.block_lt_of_cell? w _ hw402_1)).trans hw402_1), ((HB.out.cell (World.block_lt_of_cell? w _ hw402_2)).trans hw402_2), ((HB.out.cell (World.block_lt_of_cell? w _ hw402_3)).trans hw402_3), ((HB.out.cell (World.block_lt_of_cell? w _ hw402_4)).trans hw402_4), ((HB.out.cell (World.block_lt_of_cell? w _ hw403_0)).trans hw403_0), ((HB.out.cell (World.block_lt_of_cell? w _ hw403_1)).trans hw403_1), ((HB.out.cell (World.block_lt_of_cell? w _ hw403_2)).trans hw403_2), ((HB.out.cell (World.block_lt_of_cell? w _ hw403_3)).trans hw403_3), ((HB.out.cell (World.block_lt_of_cell? w _ hw403_4)).trans hw403_4)⟩ (fun hHeld => ?_); refine with_tabW hypercuberef2_Same.tab6 hypercuberef2_Same.bits6 (fun HT_ HW_ => ?_)
        generalize wr.drew = w11 at HB HR402_0 HR402_2 HR402_3 HR402_4 HR403_0 HR403_2 HR403_3 HR403_4 hx402_0 hx402_1 hx402_2 hx402_3 hx402_4 hx403_0 hx403_1 hx403_2 hx403_3 hx403_4 hHeld ⊢
        refine pure_ (i := 0) (N := some 17) (v := ?_) (a' := ?_) (bb 10 1) rfl rfl (any_of HT_.out (by kernel_rfl)) (fun _ _ _ h => h) (Or.inl ⟨by rfl, ?_⟩) ?_ ?_
        rotate_left
        ·intro w'
         go_simp
         with_reducible rfl
        rotate_left
        ·simp only [Act.put, List.setIfInBounds_toArray, List.set_cons_zero, List.set_cons_succ, i64_w, i32_w]
         rfl
        refine pure_ (i := 1) (N := some 18) (v := ?_) (a' := ?_) (bb 10 3) rfl rfl (any_of HT_.out (by kernel_rfl)) (fun _ _ _ h => h) (Or.inl ⟨by rfl, ?_⟩) ?_ ?_
        rotate_left
        ·intro w'
         go_simp
         with_reducible rfl
        rotate_left
        ·simp only [Act.put, List.setIfInBounds_toArray, List.set_cons_zero, List.set_cons_succ, i64_w, i32_w]
         rfl
        refine pure_ (i := 2) (N := some 19) (v := ?_) (a' := ?_) (bb 10 7) rfl rfl (any_of HT_.out (by kernel_rfl)) (fun _ _ _ h => h) (Or.inl ⟨by rfl, ?_⟩) ?_ ?_
        rotate_left
        ·intro w'
         go_simp
         with_reducible rfl
        rotate_left
        ·simp only [Act.put, List.setIfInBounds_toArray, List.set_cons_zero, List.set_cons_succ, i64_w, i32_w]
         rfl
        refine pure_ (i := 4) (N := some 21) (v := ?_) (a' := ?_) (bb 10 23) rfl rfl (any_of HT_.out (by kernel_rfl)) (fun _ _ _ h => h) (Or.inl ⟨by rfl, ?_⟩) ?_ ?_
        rotate_left
        ·intro w'
         go_simp
         with_reducible rfl
        rotate_left
        ·simp only [Act.put, List.setIfInBounds_toArray, List.set_cons_zero, List.set_cons_succ, i64_w, i32_w]
         rfl
        refine pure_ (i := 5) (N := some 22) (v := ?_) (a' := ?_) (bb 10 55) rfl rfl (any_of HT_.out (by kernel_rfl)) (fun _ _ _ h => h) (Or.inl ⟨by rfl, ?_⟩) ?_ ?_
        rotate_left
        ·intro w'
         go_simp
         with_reducible rfl
        rotate_left
        ·simp only [Act.put, List.setIfInBounds_toArray, List.set_cons_zero, List.set_cons_succ, i64_w, i32_w]
         rfl
        refine pure_ (i := 6) (N := some 23) (v := ?_) (a' := ?_) (bb 10 119) rfl rfl (any_of HT_.out (by kernel_rfl)) (fun _ _ _ h => h) (Or.inl ⟨by rfl, ?_⟩) ?_ ?_
        rotate_left
        ·intro w'
         go_simp
         with_reducible rfl
        rotate_left
        ·simp only [Act.put, List.setIfInBounds_toArray, List.set_cons_zero, List.set_cons_succ, i64_w, i32_w]
         rfl
        refine take_ (i := 3) (N := some 20) (v := ?_) (a' := ?_) (bb 10 127) rfl rfl (take_ofW HT_.out HW_.out (by kernel_rfl)) (fun _ _ _ h => h) (Or.inl ⟨by rfl, ?_⟩) hHeld ?_ ?_
        rotate_left
        ·rintro w' ⟨s0, s1, s2, s3, s4, s5, s6, s7, s8, s9⟩
         go_simp
         with_reducible rfl
        rotate_left
        ·simp only [Act.put, List.setIfInBounds_toArray, List.set_cons_zero, List.set_cons_succ, i64_w, i32_w]
         rfl
        refine take_ (i := 7) (N := some 24) (v := ?_) (a' := ?_) (bb 10 255) rfl rfl (take_ofW HT_.out HW_.out (by kernel_rfl)) (fun _ _ _ h => h) (Or.inl ⟨by rfl, ?_⟩) hHeld ?_ ?_
        rotate_left
        ·rintro w' ⟨s0, s1, s2, s3, s4, s5, s6, s7, s8, s9⟩
         go_simp
         with_reducible rfl
        rotate_left
        ·simp only [Act.put, List.setIfInBounds_toArray, List.set_cons_zero, List.set_cons_succ, i64_w, i32_w]
         rfl
        refine one_ (i := 8) (N := some 25) (bb 10 511) rfl rfl (one_of HT_.out (by kernel_rfl)) (by decide) (fun K hK => ?_)
        refine goes_ Try.func22 (by kernel_rfl) rfl #[.agg #[.slice A402_0 ((rd_T30 l0 x5_1).f0).length c402_0, .int .i64 ((rd_T30 l0 x5_1).f1), .slice A402_2 ((rd_T30 l0 x5_1).f2).length c402_2, .slice A402_3 ((rd_T30 l0 x5_1).f3).length c402_3, .slice A402_4 ((rd_T30 l0 x5_1).f4).length c402_4], .agg #[.slice A403_0 ((rd_T30 l1 x5_1).f0).length c403_0, .int .i64 ((rd_T30 l1 x5_1).f1), .slice A403_2 ((rd_T30 l1 x5_1).f2).length c403_2, .slice A403_3 ((rd_T30 l1 x5_1).f3).length c403_3, .slice A403_4 ((rd_T30 l1 x5_1).f4).length c403_4]] (by rfl) rfl rfl (by (try simp only [List.map_toArray, List.map_cons, List.map_nil]); first | done | rfl | (simp only [List.length_drop, List.length_take]; rfl)) ?_
        with_reducible refine (hypercuberef2_Equal.calls k1 _ _ ((rd_T30 l0 x5_1).f0) ((rd_T30 l0 x5_1).f1) _ _ ((rd_T30 l0 x5_1).f2) _ _ ((rd_T30 l0 x5_1).f3) _ _ ((rd_T30 l0 x5_1).f4) _ _ ((rd_T30 l1 x5_1).f0) ((rd_T30 l1 x5_1).f1) _ _ ((rd_T30 l1 x5_1).f2) _ _ ((rd_T30 l1 x5_1).f3) _ _ ((rd_T30 l1 x5_1).f4) false _ ?side1 ?side2 ?side3 ?side4 ?side5 ?side6 ?side7 ?side8 ?side9 ?side10 ?side11 ?side12 ?side13 ?side14 ?side15 ?side16 A7.out).mono ?_
        (case side1 => repeat (first | exact (Kd.C_below HR402_0.out HB.out) | (with_reducible refine Kd.C_alloc ?_ _) | (with_reducible refine Kd.C_drewN ?_ _) | (with_reducible refine Kd.C_drew ?_)))
        (case side2 => exact HC402_0.out)
        (case side3 => repeat (first | exact (Kd.C_below HR402_2.out HB.out) | (with_reducible refine Kd.C_alloc ?_ _) | (with_reducible refine Kd.C_drewN ?_ _) | (with_reducible refine Kd.C_drew ?_)))
        (case side4 => exact HC402_2.out)
        (case side5 => repeat (first | exact (Kd.C_below HR402_3.out HB.out) | (with_reducible refine Kd.C_alloc ?_ _) | (with_reducible refine Kd.C_drewN ?_ _) | (with_reducible refine Kd.C_drew ?_)))
        (case side6 => exact HC402_3.out)
        (case side7 => repeat (first | exact (Kd.C_below HR402_4.out HB.out) | (with_reducible refine Kd.C_alloc ?_ _) | (with_reducible refine Kd.C_drewN ?_ _) | (with_reducible refine Kd.C_drew ?_)))
        (case side8 => exact HC402_4.out)
        (case side9 => repeat (first | exact (Kd.C_below HR403_0.out HB.out) | (with_reducible refine Kd.C_alloc ?_ _) | (with_reducible refine Kd.C_drewN ?_ _) | (with_reducible refine Kd.C_drew ?_)))
        (case side10 => exact HC403_0.out)
        (case side11 => repeat (first | exact (Kd.C_below HR403_2.out HB.out) | (with_reducible refine Kd.C_alloc ?_ _) | (with_reducible refine Kd.C_drewN ?_ _) | (with_reducible refine Kd.C_drew ?_)))
        (case side12 => exact HC403_2.out)
        (case side13 => repeat (first | exact (Kd.C_below HR403_3.out HB.out) | (with_reducible refine Kd.C_alloc ?_ _) | (with_reducible refine Kd.C_drewN ?_ _) | (with_reducible refine Kd.C_drew ?_)))
        (case side14 => exact HC403_3.out)
        (case side15 => repeat (first | exact (Kd.C_below HR403_4.out HB.out) | (with_reducible refine Kd.C_alloc ?_ _) | (with_reducible refine Kd.C_drewN ?_ _) | (with_reducible refine Kd.C_drew ?_)))
        (case side16 => exact HC403_4.out)
        rintro e w12 ⟨rfl, hb⟩
        refine ⟨_, rfl, ?_⟩
        have n0_ := am (below_step (by repeat (first | (with_reducible first | exact HB.out | apply below_alloc | apply pw_below_drewN | apply below_drew1) | exact HB.out)) hb)
        clear HB
        have HB := n0_
        clear n0_
        (try clear hb)
        (try clear hb2)
        (try clear hk)
        (try clear hi)
        refine hK.out _ _ ⟨((HB.out.cell (World.block_lt_of_cell? w _ hw402_0)).trans hw402_0), ((HB.out.cell (World.block_lt_of_cell? w _ hw402_1)).trans hw402_1), ((HB.out.cell (World.block_lt_of_cell? w _ hw402_2)).trans hw402_2), ((HB.out.cell (World.block_lt_of_cell? w _ hw402_3)).trans hw402_3), ((HB.out.cell (World.block_lt_of_cell? w _ hw402_4)).trans hw402_4), ((HB.out.cell (World.block_lt_of_cell? w _ hw403_0)).trans hw403_0), ((HB.out.cell (World.block_lt_of_cell? w _ hw403_1)).trans hw403_1), ((HB.out.cell (World.block_lt_of_cell? w _ hw403_2)).trans hw403_2), ((HB.out.cell (World.block_lt_of_cell? w _ hw403_3)).trans hw403_3), ((HB.out.cell (World.block_lt_of_cell? w _ hw403_4)).trans hw403_4)⟩ (fun hHeld => ?_)
        clear hK K
        refine norm_ (a' := ?_) ?_ ?_
        rotate_left
        ·show Act.put _ (some 25) _ = _
         simp only [Act.put, List.setIfInBounds_toArray, List.set_cons_zero, List.set_cons_succ, i64_w, i32_w]
         rfl
        refine pure_ (i := 9) (N := some 26) (v := ?_) (a' := ?_) (bb 10 1023) rfl rfl (any_of HT_.out (by kernel_rfl)) (fun _ _ _ h => h) (Or.inl ⟨by rfl, ?_⟩) ?_ ?_
        rotate_left
        ·intro w'
         go_simp
         with_reducible rfl
        rotate_left
        ·simp only [Act.put, List.setIfInBounds_toArray, List.set_cons_zero, List.set_cons_succ, i64_w, i32_w]
         rfl
        refine done_ (done_of HT_.out (by kernel_rfl)) ?_
        try go_wp2
        go_ret
        exact ⟨by first | rfl | (simp [errW_none, errW_some] <;> rfl) | (simp [*, errW_none, errW_some] <;> rfl), by repeat (first | (with_reducible first | exact HB.out | apply below_alloc | apply pw_below_drewN | apply below_drew1) | exact HB.out)⟩
      ·rw [if_neg c6] at H
       exact absurd H (by simp)
     ·rw [if_neg c5] at H
      exact absurd H (by simp)
    ·rw [if_neg c4] at H
     have c4b0 : decide (x5_1 < (l0.length : Int)) = false := decide_eq_false c4
     clear c4
     obtain rfl := Option.some.inj H
     go_wp2
     go_ret
     exact ⟨by first | rfl | (simp [errW_none, errW_some] <;> rfl) | (simp [*, errW_none, errW_some] <;> rfl), by repeat (first | (with_reducible first | exact HB.out | apply below_alloc | apply pw_below_drewN | apply below_drew1) | exact HB.out)⟩
 ·rw [if_neg c3] at H
  have c3b0 : ((l0.length : Int) == (l1.length : Int)) = false := beq_eq_false_iff_ne.mpr c3
  have c3b1 : ((l0.length : Int) != (l1.length : Int)) = true := bne_iff_ne.mpr c3
  have c3b2 : (l0.length == l1.length) = false := by first | simpa using c3 | (simp at c3 ⊢; omega)
  obtain rfl := Option.some.inj H
  go_enter Try.func27, Try.ntmps27
  go_wp2
  go_ret
  exact ⟨by first | rfl | (simp [errW_none, errW_some] <;> rfl) | (simp [*, errW_none, errW_some] <;> rfl), by repeat (first | (with_reducible first | exact HB.out | apply below_alloc | apply pw_below_drewN | apply below_drew1) | exact HB.out)⟩
end Go.Proofs.Ytmkjkkmilopcpaa.Q
