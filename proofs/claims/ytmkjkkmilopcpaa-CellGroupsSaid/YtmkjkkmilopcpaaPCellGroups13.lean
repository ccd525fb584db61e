-- packed by wip/tools/pack.py (a program of this session) out of its own texts
import Derived.Test.YtmkjkkmilopcpaaPCellGroups0
import Derived.ArgAppend
import Derived.Below
import Derived.BigQuiet
import Derived.Deep.AppendLies
import Derived.Deep.CutBlock
import Derived.Deep.DeepCutAuto
import Derived.Deep.Draws
import Derived.Deep.LoopGhost
import Derived.Deep.OwnRows
import Derived.Deep.QuietTactic
import Derived.Deep.RegionHeld3
import Derived.KernelRfl
import Derived.Laws.BitsLemmas
import Derived.Laws.BytesArg
import Derived.Laws.EntriesVeiled
import Derived.Laws.Externs
import Derived.Laws.IdiomCopy
import Derived.Laws.MakeOwn
import Derived.Laws.OwnMore
import Derived.Laws.Rows
import Derived.Laws.Slices
import Derived.Lib.AppendStr
import Derived.Lib.AppendZeros
import Derived.Lib.AppendZerosOnto
import Derived.Lib.ConvBytes
import Derived.Lib.JoinLaws
import Derived.Lib.Overlaps
import Derived.Lib.SliceRun
import Derived.Lib.Walk
import Derived.LoopIn
import Derived.LoopNIn
import Derived.Maps.AppendAt
import Derived.OrdersHeld
import Derived.OrdersIn
import Derived.OwnWalk
import Derived.OwnWalkIn
import Derived.RangeFuncBound
import Derived.RangeFuncBox
import Derived.RangeFuncCalls
import Derived.RangeFuncLeaves
import Derived.RangeFuncNested
import Derived.RangeFuncOwn
import Derived.RowKit
import Derived.RowKit3
import Derived.Shelf.Abstract
import Derived.Shelf.RegionOpen
import Derived.Shelf.RegionOpenPlain
import Derived.Tactics
import Derived.TacticsInMore
import Derived.Test.YtmkjkkmilopcpaaProg
import Derived.WalkKit
import Derived.WalkSpells
import Derived.WideLaws
import Derived.Test.YtmkjkkmilopcpaaPCellGroups1
import Derived.Test.YtmkjkkmilopcpaaPCellGroups3
import Derived.Test.YtmkjkkmilopcpaaPCellGroups4
import Derived.Test.YtmkjkkmilopcpaaPCellGroups5
import Derived.Test.YtmkjkkmilopcpaaPCellGroups6
import Derived.Test.YtmkjkkmilopcpaaPCellGroups7
import Derived.Test.YtmkjkkmilopcpaaPCellGroups8
import Derived.Test.YtmkjkkmilopcpaaPCellGroups9
import Derived.Test.YtmkjkkmilopcpaaPCellGroups10
import Derived.Test.YtmkjkkmilopcpaaPCellGroups11
import Derived.Test.YtmkjkkmilopcpaaPCellGroups12
namespace Go.Proofs.Ytmkjkkmilopcpaa.Q
open Go.RowKit Go.Proofs.YtmkjkkmilopcpaaW.PrintWords Go.Proofs.YtmkjkkmilopcpaaW.PrintLast Go.Proofs.YtmkjkkmilopcpaaW.PrintMore
set_option linter.unusedVariables false
set_option linter.unusedSimpArgs false
theorem known_of : cell_Of.f [4, 5] [3] 2 = some ([5], 1, [3], [3], [3]) := by decide
theorem known_group : cell_Group.f 9 [⟨[5], 1, [3], [3], [3]⟩, ⟨[5], 1, [3], [3], [3]⟩] = some [⟨[5], 2, [6], [3], [3]⟩] := by kernel_rfl
theorem known_less : cell_Less.f 3 [] [] = some 0 := by kernel_rfl
theorem C_of_blk {w : World} {g : Nat} {xs : List Int} (h : w.heap[g]? = some (.cells (encs (Value.int .i64) xs).toArray 3 (0, 0))) (hl : xs.length ≤ maxLen) : Kd.C (Kd.int .i64) w (some ⟨g, 0, none⟩) xs.length xs := by
 have hR : Kd.R (Kd.int .i64) 3 w 0 (fun _ => True) (.slice (some ⟨g, 0, none⟩) xs.length xs.length) xs := by
  refine Kd.R_of_own (h1 := fun _ => rfl) ⟨by rw [encs_length, Nat.mul_one], .inr ⟨g, xs.length, _, rfl, Nat.zero_le _, h, Nat.le_refl _, hl, ?_, ?_⟩⟩ (fun _ _ => trivial)
  ·rw [List.size_toArray, encs_length, Nat.mul_one]
  ·rw [Nat.mul_one, ← encs_length (enc := Value.int .i64) xs]
   exact List.take_length
 exact (Kd.R_reads' hR).2.2
theorem C_two {w : World} {g : Nat} {x : S30} {cs : List Value} (h : w.heap[g]? = some (.cells (cs ++ cs).toArray 30 (0, 0))) (hx : k30.K w x cs) : Kd.C k30 w (some ⟨g, 0, none⟩) [x, x].length [x, x] := by
 have hl : cs.length = 5 := k30.K_len hx
 refine ⟨rfl, by simp, fun _ => ⟨_, rfl, fun j p hj => ⟨cs, hl, ?_, fun i u hu => ?_⟩⟩⟩
 ·have hm : p = x := by
   have hj2 : j < 2 := (List.getElem?_eq_some_iff.1 hj).1
   match j, hj2, hj with
   | 0, _, hj => simpa using hj.symm
   | 1, _, hj => simpa using hj.symm
  rw [hm]; exact hx
 ·have hi : i < cs.length := (List.getElem?_eq_some_iff.1 hu).1
  rw [Addr.add_lit, cell_of_row w g _ _ _ _ h, List.getElem?_toArray]
  have hj2 : j < 2 := (List.getElem?_eq_some_iff.1 hj).1
  match j, hj2 with
  | 0, _ => rw [Nat.zero_add]; rw [show 0 * k30.sz + i = i by omega, List.getElem?_append_left hi]; exact hu
  | 1, _ => rw [Nat.zero_add, show 1 * k30.sz + i = cs.length + i by rw [hl]; rfl, List.getElem?_append_right (by omega), Nat.add_sub_cancel_left]; exact hu
def hypercubelaw2_known.f : Option Bool := some true
set_option maxHeartbeats 8000000 in
set_option maxRecDepth 100000 in
theorem hypercubelaw2_known.calls (r : Bool) (w : World) (h : hypercubelaw2_known.f = some r) :
    Calls Try.prog 16 #[] w fun e w' => e = .returned (.bool r) ∧ Below w.heap.size w w' := by
 have e : true = r := Option.some.inj h
 subst e
 clear h
 have HB := am (Below.refl w.heap.size w)
 go_enter Try.func16, Try.ntmps16
 go_wp2_with (first
  | ((with_reducible refine gate_callee (f := 28) rfl ?_)
     refine goesL_ (some 6) rfl rfl Try.func28 (by kernel_rfl) rfl #[.agg #[.slice (some ⟨w.heap.size, 0, none⟩) 2 2, .slice (some ⟨w.heap.size + 1, 0, none⟩) 1 1], .int .i64 2] rfl (by (try simp only [List.map_toArray, List.map_cons, List.map_nil]); first | done | rfl) ?_
     refine name_calls ?_
     intro w2 hw2
     have h1 : w2.heap[w.heap.size]? = some (.cells (encs (Value.int .i64) [4, 5]).toArray 3 (0, 0)) := by rw [hw2]; exact (Below.heap_alloc _ _ _ (by rw [World.size_alloc]; omega)).trans (blk_new w _)
     have h2 : w2.heap[w.heap.size + 1]? = some (.cells (encs (Value.int .i64) [3]).toArray 3 (0, 0)) := by rw [hw2]; have := blk_new (w.alloc (.cells #[.int .i64 4, .int .i64 5] 3)) (.cells #[.int .i64 3] 3); rw [World.size_alloc] at this; exact this
     have n0_ : Aside0 (Below w.heap.size w w2) := am (by rw [hw2]; exact below_alloc (below_alloc HB.out _) _)
     clear HB
     have HB := n0_
     clear n0_ hw2
     refine (cell_Of.calls (some ⟨w.heap.size, 0, none⟩) 2 [4, 5] (some ⟨w.heap.size + 1, 0, none⟩) 1 [3] 2 [5] 1 [3] [3] [3] w2 (C_of_blk h1 (by decide)) (by decide) (C_of_blk h2 (by decide)) (by decide) known_of).mono ?_
     rintro e w3 ⟨v0, v2, v3, v4, rfl, p0, p2, p3, p4, hb⟩
     refine ⟨_, rfl, ?_⟩
     obtain ⟨B0, b0, rfl⟩ := Kd.R_slice p0
     obtain ⟨B2, b2, rfl⟩ := Kd.R_slice p2
     obtain ⟨B3, b3, rfl⟩ := Kd.R_slice p3
     obtain ⟨B4, b4, rfl⟩ := Kd.R_slice p4
     have G0 := am p0
     have G2 := am p2
     have G3 := am p3
     have G4 := am p4
     have n0_ := am (below_step HB.out hb)
     clear HB h1 h2 p0 p2 p3 p4 hb
     have HB := n0_
     clear n0_)
  | ((with_reducible refine gate_dst (N := 1) rfl ?_); refine box_event ?hg (N := 1) ?hd (cs := #[.slice none 0 0, .int .i64 0, .slice none 0 0, .slice none 0 0, .slice none 0 0]) (t := 30) ?hr ?_; (case hd => rfl); (case hg => rfl); (case hr => first | (go_simp; done) | (go_simp; rfl)); intro gb hg w4 hbox hb; have n0_ := am (below_step HB.out hb); have n3_ := am hbox; have n4_ := am (show w.heap.size ≤ gb by rw [hg]; have := HB.out.size; omega); have m0_ := am (Kd.R_below (Kd.R_mono (Kd.R_bound G0.out) (ok' := fun k => k < gb) (fun k hk => by rw [hg]; exact hk.2.2.1)) hb); have m2_ := am (Kd.R_below (Kd.R_mono (Kd.R_bound G2.out) (ok' := fun k => k < gb) (fun k hk => by rw [hg]; exact hk.2.2.1)) hb); have m3_ := am (Kd.R_below (Kd.R_mono (Kd.R_bound G3.out) (ok' := fun k => k < gb) (fun k hk => by rw [hg]; exact hk.2.2.1)) hb); have m4_ := am (Kd.R_below (Kd.R_mono (Kd.R_bound G4.out) (ok' := fun k => k < gb) (fun k hk => by rw [hg]; exact hk.2.2.1)) hb); clear G0 G2 G3 G4; have G0 := m0_; have G2 := m2_; have G3 := m3_; have G4 := m4_; clear m0_ m2_ m3_ m4_; clear HB; have HB := n0_; have BKb := n3_; have GEb := n4_; clear n0_ n3_ n4_; clear hb hbox hg; have hcz0 := (blk_cell BKb.out 0).trans rfl; have hcz1 := (blk_cell BKb.out 1).trans rfl; have hcz2 := (blk_cell BKb.out 2).trans rfl; have hcz3 := (blk_cell BKb.out 3).trans rfl; have hcz4 := (blk_cell BKb.out 4).trans rfl; have hfz0 := blk_frozen BKb.out 0; have hfz1 := blk_frozen BKb.out 1; have hfz2 := blk_frozen BKb.out 2; have hfz3 := blk_frozen BKb.out 3; have hfz4 := blk_frozen BKb.out 4)
  | ((with_reducible refine gate_callee (f := 26) rfl ?_)
     refine goesL_ (some 10) rfl rfl Try.func26 (by kernel_rfl) rfl #[.slice (some ⟨w4.heap.size, 0, none⟩) 2 2] rfl (by (try simp only [List.map_toArray, List.map_cons, List.map_nil]); first | done | rfl) ?_
     refine name_calls ?_
     intro w5 hw5
     have hw5' : w5 = (((((w4.setCell ⟨gb, 0, none⟩ (.slice B0 1 b0)).setCell ⟨gb, 1, none⟩ (.int .i64 1)).setCell ⟨gb, 2, none⟩ (.slice B2 1 b2)).setCell ⟨gb, 3, none⟩ (.slice B3 1 b3)).setCell ⟨gb, 4, none⟩ (.slice B4 1 b4)).alloc (.cells #[.slice B0 1 b0, .int .i64 1, .slice B2 1 b2, .slice B3 1 b3, .slice B4 1 b4, .slice B0 1 b0, .int .i64 1, .slice B2 1 b2, .slice B3 1 b3, .slice B4 1 b4] 30) := hw5
     have hs : (((((w4.setCell ⟨gb, 0, none⟩ (.slice B0 1 b0)).setCell ⟨gb, 1, none⟩ (.int .i64 1)).setCell ⟨gb, 2, none⟩ (.slice B2 1 b2)).setCell ⟨gb, 3, none⟩ (.slice B3 1 b3)).setCell ⟨gb, 4, none⟩ (.slice B4 1 b4)).heap.size = w4.heap.size := by simp
     have hk5 : Kept w4 w5 (fun k => k = gb) := by
      rw [hw5']
      refine Kept.alloc ?_ _
      refine Kept.setCell (S := fun k => k = gb) (p := ⟨gb, 4, none⟩) ?_ (.inl rfl) _
      refine Kept.setCell (S := fun k => k = gb) (p := ⟨gb, 3, none⟩) ?_ (.inl rfl) _
      refine Kept.setCell (S := fun k => k = gb) (p := ⟨gb, 2, none⟩) ?_ (.inl rfl) _
      refine Kept.setCell (S := fun k => k = gb) (p := ⟨gb, 1, none⟩) ?_ (.inl rfl) _
      refine Kept.setCell (S := fun k => k = gb) (p := ⟨gb, 0, none⟩) ?_ (.inl rfl) _
      exact Kept.refl _ _
     have hl5 : w5.heap[w4.heap.size]? = some (.cells (([.slice B0 1 b0, .int .i64 1, .slice B2 1 b2, .slice B3 1 b3, .slice B4 1 b4] : List Value) ++ ([.slice B0 1 b0, .int .i64 1, .slice B2 1 b2, .slice B3 1 b3, .slice B4 1 b4] : List Value)).toArray 30 (0, 0)) := by
      rw [hw5']
      have := blk_new (((((w4.setCell ⟨gb, 0, none⟩ (.slice B0 1 b0)).setCell ⟨gb, 1, none⟩ (.int .i64 1)).setCell ⟨gb, 2, none⟩ (.slice B2 1 b2)).setCell ⟨gb, 3, none⟩ (.slice B3 1 b3)).setCell ⟨gb, 4, none⟩ (.slice B4 1 b4)) (.cells #[.slice B0 1 b0, .int .i64 1, .slice B2 1 b2, .slice B3 1 b3, .slice B4 1 b4, .slice B0 1 b0, .int .i64 1, .slice B2 1 b2, .slice B3 1 b3, .slice B4 1 b4] 30)
      rw [hs] at this
      exact this
     have hg5 : w5.heap[gb]? = some (.cells #[.slice B0 1 b0, .int .i64 1, .slice B2 1 b2, .slice B3 1 b3, .slice B4 1 b4] 30 (0, 0)) := by
      rw [hw5']
      refine blk_alloc ?_ _
      refine blk_put (cs := #[.slice B0 1 b0, .int .i64 1, .slice B2 1 b2, .slice B3 1 b3, .slice none 0 0]) ?_ 4 _ rfl
      refine blk_put (cs := #[.slice B0 1 b0, .int .i64 1, .slice B2 1 b2, .slice none 0 0, .slice none 0 0]) ?_ 3 _ rfl
      refine blk_put (cs := #[.slice B0 1 b0, .int .i64 1, .slice none 0 0, .slice none 0 0, .slice none 0 0]) ?_ 2 _ rfl
      refine blk_put (cs := #[.slice B0 1 b0, .int .i64 0, .slice none 0 0, .slice none 0 0, .slice none 0 0]) ?_ 1 _ rfl
      refine blk_put (cs := #[.slice none 0 0, .int .i64 0, .slice none 0 0, .slice none 0 0, .slice none 0 0]) ?_ 0 _ rfl
      exact BKb.out
     have n0_ : Aside0 (Below w.heap.size w w5) := am (by
      rw [hw5']
      refine below_alloc ?_ _
      refine below_set (g := gb) (j := 4) ?_ GEb.out
      refine below_set (g := gb) (j := 3) ?_ GEb.out
      refine below_set (g := gb) (j := 2) ?_ GEb.out
      refine below_set (g := gb) (j := 1) ?_ GEb.out
      refine below_set (g := gb) (j := 0) ?_ GEb.out
      exact HB.out)
     have p0 := Kd.R_kept G0.out hk5 (fun k hk e => by omega)
     have p2 := Kd.R_kept G2.out hk5 (fun k hk e => by omega)
     have p3 := Kd.R_kept G3.out hk5 (fun k hk e => by omega)
     have p4 := Kd.R_kept G4.out hk5 (fun k hk e => by omega)
     clear HB G0 G2 G3 G4 BKb hs hk5 hw5' hw5
     have HB := n0_
     clear n0_
     refine (cell_Group.calls 9 (some ⟨w4.heap.size, 0, none⟩) 2 [(⟨[5], 1, [3], [3], [3]⟩ : S30), ⟨[5], 1, [3], [3], [3]⟩] _ w5 (C_two hl5 (k30_mk w5 (⟨[5], 1, [3], [3], [3]⟩ : S30) (Kd.R_reads' p0).2.1 (Kd.R_reads' p0).2.2 (Kd.R_reads' p2).2.1 (Kd.R_reads' p2).2.2 (Kd.R_reads' p3).2.1 (Kd.R_reads' p3).2.2 (Kd.R_reads' p4).2.1 (Kd.R_reads' p4).2.2)) (by decide) known_group).mono ?_
     rintro e w6 ⟨v, rfl, hS, hb⟩
     refine ⟨_, rfl, ?_⟩
     obtain ⟨A, c, rfl⟩ := Kd.S_slice hS
     have hC := (Kd.S_reads' hS).2.2
     obtain ⟨ad, E0, d0, E2, d2, E3, d3, E4, d4, eA, q0, q1, q2, q3, q4, g0, K0, g2, K2, g3, K3, g4, K4⟩ := at_T30 hC 0 (by decide) (by decide)
     cases eA
     obtain ⟨g, rfl⟩ := Kd.R_head (Kd.S_R hS)
     obtain ⟨a2, e2, z2⟩ := Kd.at_int K2 0 (by decide) (by decide)
     cases e2
     obtain ⟨a0, e0, z0⟩ := Kd.at_int (Kd.R_reads' p0).2.2 0 (by decide) (by decide)
     cases e0
     have z0' := (hb.cell (World.block_lt_of_cell? _ _ z0)).trans z0
     have z00 : w6.cell? a0 = some (.int .i64 5) := by rw [← show a0.add (0 : Int).toNat = a0 by simp [Addr.add]]; exact z0'
     have z22 : w6.cell? a2 = some (.int .i64 6) := by rw [← show a2.add (0 : Int).toNat = a2 by simp [Addr.add]]; exact z2
     have y1 : w6.cell? ⟨g, 1, none⟩ = some (.int .i64 2) := q1
     have y2 : w6.cell? ⟨g, 2, none⟩ = some (.slice (some a2) 1 d2) := q2
     have b6 := blk_below hg5 hb
     have x0 : w6.cell? ⟨gb, 0, none⟩ = some (.slice (some a0) 1 b0) := (blk_cell b6 0).trans rfl
     have x1 : w6.cell? ⟨gb, 1, none⟩ = some (.int .i64 1) := (blk_cell b6 1).trans rfl
     have n0_ := am (below_step HB.out hb)
     clear HB hg5 hl5 p0 p2 p3 p4 hS hb hC q0 q1 q2 q3 q4 g0 K0 g2 K2 g3 K3 g4 K4 z0 z0' z2 b6
     have HB := n0_
     clear n0_)
  | ((with_reducible refine gate_callee (f := 17) rfl ?_)
     refine goesL_ (some 11) rfl rfl Try.func17 (by kernel_rfl) rfl #[.slice none 0 0, .slice none 0 0] rfl (by (try simp only [List.map_toArray, List.map_cons, List.map_nil]); first | done | rfl) ?_
     refine (cell_Less.calls 3 none 0 [] none 0 [] 0 _ (Kd.C_nil _ _) (by decide) (Kd.C_nil _ _) (by decide) known_less).mono ?_
     rintro e w7 ⟨rfl, ⟨nd, rfl⟩⟩
     refine ⟨_, rfl, ?_⟩))
 go_ret
 exact ⟨rfl, by (with_reducible repeat (first | exact HB.out | apply pw_below_drewN))⟩
end Go.Proofs.Ytmkjkkmilopcpaa.Q
namespace Go.Proofs.Ytmkjkkmilopcpaa.Q
open Go.RowKit Go.Proofs.YtmkjkkmilopcpaaW.PrintWords Go.Proofs.YtmkjkkmilopcpaaW.PrintLast Go.Proofs.YtmkjkkmilopcpaaW.PrintMore
attribute [local go_sem] max2_int min2_int max_two min_two max_three min_three max_four min_four
set_option linter.unusedVariables false
set_option linter.unusedSimpArgs false
mutual
def hypercuberef2_Less.l0 : Nat → List Int → List Int → Int → Option (Int)
 | 0, _, _, _ => none
 | k + 1, x0, x1, x5 => if x5 < (x0.length : Int) then (hypercuberef2_Less.j1 k x0 x1 x5 (decide (x5 < (x1.length : Int)))) else (hypercuberef2_Less.j1 k x0 x1 x5 false)
def hypercuberef2_Less.j1 : Nat → List Int → List Int → Int → Bool → Option (Int)
 | 0, _, _, _, _ => none
 | k + 1, x0, x1, x5, x15 => if x15 = true then (if 0 ≤ x5 then (if x5 < (x0.length : Int) then (if x5 < (x1.length : Int) then (if (rd x0 x5) < (rd x1 x5) then (some (-1)) else (if (rd x0 x5) > (rd x1 x5) then (some 1) else (hypercuberef2_Less.l0 k x0 x1 (wrap64 (x5 + 1))))) else (none)) else (none)) else (none)) else (if (x0.length : Int) < (x1.length : Int) then (some (-1)) else (if (x0.length : Int) > (x1.length : Int) then (some 1) else (some 0)))
end
def hypercuberef2_Less.f (k : Nat) (l0 : List Int) (l1 : List Int) : Option (Int) := hypercuberef2_Less.l0 k l0 l1 0
set_option maxHeartbeats 8000000 in
set_option maxRecDepth 100000 in
theorem hypercuberef2_Less.calls (k : Nat) (A0 : Option Addr) (c0 : Nat) (l0 : List Int) (A1 : Option Addr) (c1 : Nat) (l1 : List Int) (r : Int) (w : World) (hr0 : Kd.C (Kd.int .i64) w A0 l0.length l0) (hc0 : l0.length ≤ c0) (hr1 : Kd.C (Kd.int .i64) w A1 l1.length l1) (hc1 : l1.length ≤ c1) (h : hypercuberef2_Less.f k l0 l1 = some r) :
  Calls Try.prog 18 #[.slice A0 l0.length c0, .slice A1 l1.length c1] w fun e w' => e = .returned (.int .i64 r) ∧ Drawn0 w w' := by
 have HR0 := am hr0
 have HC0 := am hc0
 clear hr0 hc0
 have HR1 := am hr1
 have HC1 := am hc1
 clear hr1 hc1
 have H : (hypercuberef2_Less.l0 k l0 l1 0) = some r := h
 clear h
 have H' := am H
 clear H
 go_enter Try.func18, Try.ntmps18
 go_wp2
 repeat (go_quiet (fail); try go_wp2)
 go_loopg [5] k (fun kq v5 w' => ∃ (x5_1 : Int), v5 = .int .i64 x5_1 ∧ Aside0 (hypercuberef2_Less.l0 kq l0 l1 x5_1 = some r) ∧ Aside0 (kq ≤ k) ∧ Drawn0 w w')
 case atStart => exact ⟨(0), (by first | rfl | (simp; done) | (simp [*]; done)), H', ⟨Nat.le_refl _⟩, by repeat (first | exact Drawn0.refl _ | apply Drawn0.step)⟩
 case round =>
  clear H'
  try clear c1
  try clear p2
  obtain ⟨x5_1, rfl, HA, HK1, ⟨m1, rfl⟩⟩ := hrel
  cases gk with
  | zero => exact absurd HA.out (by simp [hypercuberef2_Less.l0])
  | succ k1 =>
   have H := HA.out
   clear HA
   simp only [hypercuberef2_Less.l0] at H
   have HC3 := am H
   clear H
   go_upto_region 2 with (fail)
   repeat (go_quiet (fail); go_upto_region 2 with (fail))
   go_cut [15] (fun v15 wc => ∃ (kq : Nat) (x15_2 : Bool), v15 = .bool x15_2 ∧ Aside0 (hypercuberef2_Less.j1 kq l0 l1 x5_1 x15_2 = some r) ∧ Aside0 (kq ≤ k1) ∧ Drawn0 w wc)
   case first =>
    have H := HC3.out
    clear HC3
    by_cases c4 : x5_1 < (l0.length : Int)
    ·rw [if_pos c4] at H
     have c4b0 : decide (x5_1 < (l0.length : Int)) = true := decide_eq_true c4
     clear c4
     (first | rw [c4b0] | (simp only [i64_w, i32_w]; rw [c4b0]) | skip)
     have H' := am H
     clear H
     go_wp2
     repeat (go_quiet (fail); try go_wp2)
     go_meet
     case rel => exact ⟨_, (decide (x5_1 < (l1.length : Int))), (by first | rfl | (simp; done) | (simp [*]; done)), H', ⟨by have := HK1.out; first | omega | exact Nat.le_refl _⟩, by repeat (first | exact Drawn0.refl _ | apply Drawn0.step)⟩
    ·rw [if_neg c4] at H
     have c4b0 : decide (x5_1 < (l0.length : Int)) = false := decide_eq_false c4
     clear c4
     (first | rw [c4b0] | (simp only [i64_w, i32_w]; rw [c4b0]) | skip)
     have H' := am H
     clear H
     go_wp2
     repeat (go_quiet (fail); try go_wp2)
     go_meet
     case rel => exact ⟨_, (false), (by first | rfl | (simp; done) | (simp [*]; done)), H', ⟨by have := HK1.out; first | omega | exact Nat.le_refl _⟩, by repeat (first | exact Drawn0.refl _ | apply Drawn0.step)⟩
   case rest =>
    clear HC3
    try clear c1
    try clear p2
    try clear c4
    try clear c4b0
    try clear p2
    obtain ⟨kq, x15_2, rfl, HA, HJ2, ⟨mc2, rfl⟩⟩ := hcut
    cases kq with
    | zero => exact absurd HA.out (by simp [hypercuberef2_Less.j1])
    | succ kj2 =>
     have H := HA.out
     clear HA
     simp only [hypercuberef2_Less.j1] at H
     by_cases c5 : x15_2 = true
     ·subst c5
      have H1 : (if 0 ≤ x5_1 then (if x5_1 < (l0.length : Int) then (if x5_1 < (l1.length : Int) then (if (rd l0 x5_1) < (rd l1 x5_1) then (some (-1)) else (if (rd l0 x5_1) > (rd l1 x5_1) then (some 1) else (hypercuberef2_Less.l0 kj2 l0 l1 (wrap64 (x5_1 + 1))))) else (none)) else (none)) else (none)) = some r := by rw [if_pos rfl] at H; exact H
      clear H
      have H := H1
      clear H1
      by_cases c6 : 0 ≤ x5_1
      ·rw [if_pos c6] at H
       have c6b0 : decide (0 ≤ x5_1) = true := decide_eq_true c6
       clear c6
       by_cases c7 : x5_1 < (l0.length : Int)
       ·rw [if_pos c7] at H
        have c7b0 : decide (x5_1 < (l0.length : Int)) = true := decide_eq_true c7
        clear c7
        by_cases c8 : x5_1 < (l1.length : Int)
        ·rw [if_pos c8] at H
         have c8b0 : decide (x5_1 < (l1.length : Int)) = true := decide_eq_true c8
         clear c8
         by_cases c9 : (rd l0 x5_1) < (rd l1 x5_1)
         ·rw [if_pos c9] at H
          have c9b0 : decide ((rd l0 x5_1) < (rd l1 x5_1)) = true := decide_eq_true c9
          clear c9
          obtain rfl := Option.some.inj H
          have p181 : 0 ≤ (x5_1 : Int) := of_decide_eq_true (by first | (with_reducible assumption) | assumption)
          have q181 : x5_1 < (l0.length : Int) := of_decide_eq_true (by first | (with_reducible assumption) | assumption)
          obtain ⟨ad181, e181, hx181_0⟩ := Kd.at_int HR0.out x5_1 p181 q181
          cases e181
          replace p181 := eq_true p181
          replace q181 := eq_true q181
          have p182 : 0 ≤ (x5_1 : Int) := of_decide_eq_true (by first | (with_reducible assumption) | assumption)
          have q182 : x5_1 < (l1.length : Int) := of_decide_eq_true (by first | (with_reducible assumption) | assumption)
          obtain ⟨ad182, e182, hx182_0⟩ := Kd.at_int HR1.out x5_1 p182 q182
          cases e182
          replace p182 := eq_true p182
          replace q182 := eq_true q182
          go_wp2
          repeat (go_quiet (fail); try go_wp2)
          go_ret
          exact ⟨by first | rfl | (simp; done) | (simp [*]; done), by repeat (first | exact Drawn0.refl _ | apply Drawn0.step)⟩
         ·rw [if_neg c9] at H
          have c9b0 : decide ((rd l0 x5_1) < (rd l1 x5_1)) = false := decide_eq_false c9
          clear c9
          by_cases c10 : (rd l0 x5_1) > (rd l1 x5_1)
          ·rw [if_pos c10] at H
           have c10b0 : decide ((rd l1 x5_1) < (rd l0 x5_1)) = true := decide_eq_true c10
           clear c10
           obtain rfl := Option.some.inj H
           have p181 : 0 ≤ (x5_1 : Int) := of_decide_eq_true (by first | (with_reducible assumption) | assumption)
           have q181 : x5_1 < (l0.length : Int) := of_decide_eq_true (by first | (with_reducible assumption) | assumption)
           obtain ⟨ad181, e181, hx181_0⟩ := Kd.at_int HR0.out x5_1 p181 q181
           cases e181
           replace p181 := eq_true p181
           replace q181 := eq_true q181
           have p182 : 0 ≤ (x5_1 : Int) := of_decide_eq_true (by first | (with_reducible assumption) | assumption)
           have q182 : x5_1 < (l1.length : Int) := of_decide_eq_true (by first | (with_reducible assumption) | assumption)
           obtain ⟨ad182, e182, hx182_0⟩ := Kd.at_int HR1.out x5_1 p182 q182
           cases e182
           replace p182 := eq_true p182
           replace q182 := eq_true q182
           have p183 : 0 ≤ (x5_1 : Int) := of_decide_eq_true (by first | (with_reducible assumption) | assumption)
           have q183 : x5_1 < (l0.length : Int) := of_decide_eq_true (by first | (with_reducible assumption) | assumption)
           obtain ⟨ad183, e183, hx183_0⟩ := Kd.at_int HR0.out x5_1 p183 q183
           obtain rfl : ad181 = ad183 := (by injection e183)
           replace p183 := eq_true p183
           replace q183 := eq_true q183
           have p184 : 0 ≤ (x5_1 : Int) := of_decide_eq_true (by first | (with_reducible assumption) | assumption)
           have q184 : x5_1 < (l1.length : Int) := of_decide_eq_true (by first | (with_reducible assumption) | assumption)
           obtain ⟨ad184, e184, hx184_0⟩ := Kd.at_int HR1.out x5_1 p184 q184
           obtain rfl : ad182 = ad184 := (by injection e184)
           replace p184 := eq_true p184
           replace q184 := eq_true q184
           go_wp2
           repeat (go_quiet (fail); try go_wp2)
           go_ret
           exact ⟨by first | rfl | (simp; done) | (simp [*]; done), by repeat (first | exact Drawn0.refl _ | apply Drawn0.step)⟩
          ·rw [if_neg c10] at H
           have c10b0 : decide ((rd l1 x5_1) < (rd l0 x5_1)) = false := decide_eq_false c10
           clear c10
           have H' := am H
           clear H
           have p181 : 0 ≤ (x5_1 : Int) := of_decide_eq_true (by first | (with_reducible assumption) | assumption)
           have q181 : x5_1 < (l0.length : Int) := of_decide_eq_true (by first | (with_reducible assumption) | assumption)
           obtain ⟨ad181, e181, hx181_0⟩ := Kd.at_int HR0.out x5_1 p181 q181
           cases e181
           replace p181 := eq_true p181
           replace q181 := eq_true q181
           have p182 : 0 ≤ (x5_1 : Int) := of_decide_eq_true (by first | (with_reducible assumption) | assumption)
           have q182 : x5_1 < (l1.length : Int) := of_decide_eq_true (by first | (with_reducible assumption) | assumption)
           obtain ⟨ad182, e182, hx182_0⟩ := Kd.at_int HR1.out x5_1 p182 q182
           cases e182
           replace p182 := eq_true p182
           replace q182 := eq_true q182
           have p183 : 0 ≤ (x5_1 : Int) := of_decide_eq_true (by first | (with_reducible assumption) | assumption)
           have q183 : x5_1 < (l0.length : Int) := of_decide_eq_true (by first | (with_reducible assumption) | assumption)
           obtain ⟨ad183, e183, hx183_0⟩ := Kd.at_int HR0.out x5_1 p183 q183
           obtain rfl : ad181 = ad183 := (by injection e183)
           replace p183 := eq_true p183
           replace q183 := eq_true q183
           have p184 : 0 ≤ (x5_1 : Int) := of_decide_eq_true (by first | (with_reducible assumption) | assumption)
           have q184 : x5_1 < (l1.length : Int) := of_decide_eq_true (by first | (with_reducible assumption) | assumption)
           obtain ⟨ad184, e184, hx184_0⟩ := Kd.at_int HR1.out x5_1 p184 q184
           obtain rfl : ad182 = ad184 := (by injection e184)
           replace p184 := eq_true p184
           replace q184 := eq_true q184
           go_wp2
           repeat (go_quiet (fail); try go_wp2)
           go_roundg kj2
           case measure => have := HK1.out; have := HJ2.out; omega
           case rel => exact ⟨(wrap64 (x5_1 + 1)), (by first | rfl | (simp; done) | (simp [*]; done)), H', ⟨by have := HK1.out; have := HJ2.out; omega⟩, by repeat (first | exact Drawn0.refl _ | apply Drawn0.step)⟩
        ·rw [if_neg c8] at H
         exact absurd H (by simp)
       ·rw [if_neg c7] at H
        exact absurd H (by simp)
      ·rw [if_neg c6] at H
       exact absurd H (by simp)
     ·replace c5 := Bool.eq_false_iff.mpr c5
      subst c5
      have H1 : (if (l0.length : Int) < (l1.length : Int) then (some (-1)) else (if (l0.length : Int) > (l1.length : Int) then (some 1) else (some 0))) = some r := by rw [if_neg (show ¬ (false = true) by decide)] at H; exact H
      clear H
      have H := H1
      clear H1
      by_cases c11 : (l0.length : Int) < (l1.length : Int)
      ·rw [if_pos c11] at H
       have c11b0 : decide ((l0.length : Int) < (l1.length : Int)) = true := decide_eq_true c11
       have c11b1 : decide (l0.length < l1.length) = true := decide_eq_true (Int.ofNat_lt.mp c11)
       clear c11
       obtain rfl := Option.some.inj H
       go_wp2
       repeat (go_quiet (fail); try go_wp2)
       go_ret
       exact ⟨by first | rfl | (simp; done) | (simp [*]; done), by repeat (first | exact Drawn0.refl _ | apply Drawn0.step)⟩
      ·rw [if_neg c11] at H
       have c11b0 : decide ((l0.length : Int) < (l1.length : Int)) = false := decide_eq_false c11
       have c11b1 : decide (l0.length < l1.length) = false := decide_eq_false (fun h => c11 (Int.ofNat_lt.mpr h))
       clear c11
       by_cases c12 : (l0.length : Int) > (l1.length : Int)
       ·rw [if_pos c12] at H
        have c12b0 : decide ((l1.length : Int) < (l0.length : Int)) = true := decide_eq_true c12
        have c12b1 : decide (l1.length < l0.length) = true := decide_eq_true (Int.ofNat_lt.mp c12)
        clear c12
        obtain rfl := Option.some.inj H
        go_wp2
        repeat (go_quiet (fail); try go_wp2)
        go_ret
        exact ⟨by first | rfl | (simp; done) | (simp [*]; done), by repeat (first | exact Drawn0.refl _ | apply Drawn0.step)⟩
       ·rw [if_neg c12] at H
        have c12b0 : decide ((l1.length : Int) < (l0.length : Int)) = false := decide_eq_false c12
        have c12b1 : decide (l1.length < l0.length) = false := decide_eq_false (fun h => c12 (Int.ofNat_lt.mpr h))
        clear c12
        obtain rfl := Option.some.inj H
        go_wp2
        repeat (go_quiet (fail); try go_wp2)
        go_ret
        exact ⟨by first | rfl | (simp; done) | (simp [*]; done), by repeat (first | exact Drawn0.refl _ | apply Drawn0.step)⟩
def hypercuberef1_Ints.l0 : Nat → List Int → List Int → Int → Option (Bool)
 | 0, _, _, _ => none
 | k + 1, x0, x1, x5 => if x5 < (x0.length : Int) then (if 0 ≤ x5 then (if x5 < (x1.length : Int) then (if (rd x0 x5) = (rd x1 x5) then (hypercuberef1_Ints.l0 k x0 x1 (wrap64 (x5 + 1))) else (some false)) else (none)) else (none)) else (some true)
def hypercuberef1_Ints.f (k : Nat) (l0 : List Int) (l1 : List Int) : Option (Bool) := if (l0.length : Int) = (l1.length : Int) then (hypercuberef1_Ints.l0 k l0 l1 0) else (some false)
set_option maxHeartbeats 8000000 in
set_option maxRecDepth 100000 in
theorem hypercuberef1_Ints.calls (k : Nat) (A0 : Option Addr) (c0 : Nat) (l0 : List Int) (A1 : Option Addr) (c1 : Nat) (l1 : List Int) (r : Bool) (w : World) (hr0 : Kd.C (Kd.int .i64) w A0 l0.length l0) (hc0 : l0.length ≤ c0) (hr1 : Kd.C (Kd.int .i64) w A1 l1.length l1) (hc1 : l1.length ≤ c1) (h : hypercuberef1_Ints.f k l0 l1 = some r) :
  Calls Try.prog 19 #[.slice A0 l0.length c0, .slice A1 l1.length c1] w fun e w' => e = .returned (.bool r) ∧ Drawn0 w w' := by
 have HR0 := am hr0
 have HC0 := am hc0
 clear hr0 hc0
 have HR1 := am hr1
 have HC1 := am hc1
 clear hr1 hc1
 have H : (if (l0.length : Int) = (l1.length : Int) then (hypercuberef1_Ints.l0 k l0 l1 0) else (some false)) = some r := h
 clear h
 by_cases c3 : (l0.length : Int) = (l1.length : Int)
 ·rw [if_pos c3] at H
  have c3b0 : ((l0.length : Int) == (l1.length : Int)) = true := beq_iff_eq.mpr c3
  have c3b1 : ((l0.length : Int) != (l1.length : Int)) = false := bne_eq_false_iff_eq.mpr c3
  have c3b2 : (l0.length == l1.length) = true := by first | simpa using c3 | (simp at c3 ⊢; omega)
  clear c3
  have H' := am H
  clear H
  go_enter Try.func19, Try.ntmps19
  go_wp2
  repeat (go_quiet (fail); try go_wp2)
  go_loopg [5] k (fun kq v5 w' => ∃ (x5_1 : Int), v5 = .int .i64 x5_1 ∧ Aside0 (hypercuberef1_Ints.l0 kq l0 l1 x5_1 = some r) ∧ Aside0 (kq ≤ k) ∧ Drawn0 w w')
  case atStart => exact ⟨(0), (by first | rfl | (simp; done) | (simp [*]; done)), H', ⟨Nat.le_refl _⟩, by repeat (first | exact Drawn0.refl _ | apply Drawn0.step)⟩
  case round =>
   clear H'
   try clear c1
   try clear p2
   try clear c3
   try clear c3b0
   try clear c3b1
   try clear c3b2
   obtain ⟨x5_1, rfl, HA, HK1, ⟨m1, rfl⟩⟩ := hrel
   cases gk with
   | zero => exact absurd HA.out (by simp [hypercuberef1_Ints.l0])
   | succ k1 =>
    have H := HA.out
    clear HA
    simp only [hypercuberef1_Ints.l0] at H
    by_cases c4 : x5_1 < (l0.length : Int)
    ·rw [if_pos c4] at H
     have c4b0 : decide (x5_1 < (l0.length : Int)) = true := decide_eq_true c4
     clear c4
     by_cases c5 : 0 ≤ x5_1
     ·rw [if_pos c5] at H
      have c5b0 : decide (0 ≤ x5_1) = true := decide_eq_true c5
      clear c5
      by_cases c6 : x5_1 < (l1.length : Int)
      ·rw [if_pos c6] at H
       have c6b0 : decide (x5_1 < (l1.length : Int)) = true := decide_eq_true c6
       clear c6
       by_cases c7 : (rd l0 x5_1) = (rd l1 x5_1)
       ·rw [if_pos c7] at H
        have c7b0 : ((rd l0 x5_1) == (rd l1 x5_1)) = true := beq_iff_eq.mpr c7
        have c7b1 : ((rd l0 x5_1) != (rd l1 x5_1)) = false := bne_eq_false_iff_eq.mpr c7
        clear c7
        have H' := am H
        clear H
        have p185 : 0 ≤ (x5_1 : Int) := of_decide_eq_true (by first | (with_reducible assumption) | assumption)
        have q185 : x5_1 < (l0.length : Int) := of_decide_eq_true (by first | (with_reducible assumption) | assumption)
        obtain ⟨ad185, e185, hx185_0⟩ := Kd.at_int HR0.out x5_1 p185 q185
        cases e185
        replace p185 := eq_true p185
        replace q185 := eq_true q185
        have p186 : 0 ≤ (x5_1 : Int) := of_decide_eq_true (by first | (with_reducible assumption) | assumption)
        have q186 : x5_1 < (l1.length : Int) := of_decide_eq_true (by first | (with_reducible assumption) | assumption)
        obtain ⟨ad186, e186, hx186_0⟩ := Kd.at_int HR1.out x5_1 p186 q186
        cases e186
        replace p186 := eq_true p186
        replace q186 := eq_true q186
        go_wp2
        repeat (go_quiet (fail); try go_wp2)
        go_roundg k1
        case measure => have := HK1.out; omega
        case rel => exact ⟨(wrap64 (x5_1 + 1)), (by first | rfl | (simp; done) | (simp [*]; done)), H', ⟨by have := HK1.out; omega⟩, by repeat (first | exact Drawn0.refl _ | apply Drawn0.step)⟩
       ·rw [if_neg c7] at H
        have c7b0 : ((rd l0 x5_1) == (rd l1 x5_1)) = false := beq_eq_false_iff_ne.mpr c7
        have c7b1 : ((rd l0 x5_1) != (rd l1 x5_1)) = true := bne_iff_ne.mpr c7
        obtain rfl := Option.some.inj H
        have p185 : 0 ≤ (x5_1 : Int) := of_decide_eq_true (by first | (with_reducible assumption) | assumption)
        have q185 : x5_1 < (l0.length : Int) := of_decide_eq_true (by first | (with_reducible assumption) | assumption)
        obtain ⟨ad185, e185, hx185_0⟩ := Kd.at_int HR0.out x5_1 p185 q185
        cases e185
        replace p185 := eq_true p185
        replace q185 := eq_true q185
        have p186 : 0 ≤ (x5_1 : Int) := of_decide_eq_true (by first | (with_reducible assumption) | assumption)
        have q186 : x5_1 < (l1.length : Int) := of_decide_eq_true (by first | (with_reducible assumption) | assumption)
        obtain ⟨ad186, e186, hx186_0⟩ := Kd.at_int HR1.out x5_1 p186 q186
        cases e186
        replace p186 := eq_true p186
        replace q186 := eq_true q186
        go_wp2
        repeat (go_quiet (fail); try go_wp2)
        go_ret
        exact ⟨by first | rfl | (simp; done) | (simp [*]; done), by repeat (first | exact Drawn0.refl _ | apply Drawn0.step)⟩
      ·rw [if_neg c6] at H
       exact absurd H (by simp)
     ·rw [if_neg c5] at H
      exact absurd H (by simp)
    ·rw [if_neg c4] at H
     have c4b0 : decide (x5_1 < (l0.length : Int)) = false := decide_eq_false c4
     clear c4
     obtain rfl := Option.some.inj H
     go_wp2
     repeat (go_quiet (fail); try go_wp2)
     go_ret
     exact ⟨by first | rfl | (simp; done) | (simp [*]; done), by repeat (first | exact Drawn0.refl _ | apply Drawn0.step)⟩
 ·rw [if_neg c3] at H
  have c3b0 : ((l0.length : Int) == (l1.length : Int)) = false := beq_eq_false_iff_ne.mpr c3
  have c3b1 : ((l0.length : Int) != (l1.length : Int)) = true := bne_iff_ne.mpr c3
  have c3b2 : (l0.length == l1.length) = false := by first | simpa using c3 | (simp at c3 ⊢; omega)
  obtain rfl := Option.some.inj H
  go_enter Try.func19, Try.ntmps19
  go_wp2
  repeat (go_quiet (fail); try go_wp2)
  go_ret
  exact ⟨by first | rfl | (simp; done) | (simp [*]; done), by repeat (first | exact Drawn0.refl _ | apply Drawn0.step)⟩
def hypercubelaw2_within.f (a0 : Int) (a1 : Int) : Option (Int) := if a1 = 0 then (none) else (if (Int.tmod a0 a1) < 0 then (some (wrap64 ((Int.tmod a0 a1) + a1))) else (some (Int.tmod a0 a1)))
set_option maxHeartbeats 8000000 in
set_option maxRecDepth 100000 in
theorem hypercubelaw2_within.calls (a0 : Int) (a1 : Int) (r : Int) (w : World) (h : hypercubelaw2_within.f a0 a1 = some r) :
  Calls Try.prog 20 #[.int .i64 a0, .int .i64 a1] w fun e w' => e = .returned (.int .i64 r) ∧ Drawn0 w w' := by
 have H : (if a1 = 0 then (none) else (if (Int.tmod a0 a1) < 0 then (some (wrap64 ((Int.tmod a0 a1) + a1))) else (some (Int.tmod a0 a1)))) = some r := h
 clear h
 by_cases c3 : a1 = 0
 ·rw [if_pos c3] at H
  exact absurd H (by simp)
 ·rw [if_neg c3] at H
  have c3b0 : (a1 == 0) = false := beq_eq_false_iff_ne.mpr c3
  have c3b1 : (a1 != 0) = true := bne_iff_ne.mpr c3
  by_cases c4 : (Int.tmod a0 a1) < 0
  ·rw [if_pos c4] at H
   have c4b0 : decide ((Int.tmod a0 a1) < 0) = true := decide_eq_true c4
   clear c4
   obtain rfl := Option.some.inj H
   go_enter Try.func20, Try.ntmps20
   go_wp2
   go_ret
   exact ⟨by first | rfl | (simp; done) | (simp [*]; done), by repeat (first | exact Drawn0.refl _ | apply Drawn0.step)⟩
  ·rw [if_neg c4] at H
   have c4b0 : decide ((Int.tmod a0 a1) < 0) = false := decide_eq_false c4
   clear c4
   obtain rfl := Option.some.inj H
   go_enter Try.func20, Try.ntmps20
   go_wp2
   go_ret
   exact ⟨by first | rfl | (simp; done) | (simp [*]; done), by repeat (first | exact Drawn0.refl _ | apply Drawn0.step)⟩
def hypercuberef2_Equal.f (k : Nat) (l0_0 : List Int) (a0_1 : Int) (l0_2 : List Int) (l0_3 : List Int) (l0_4 : List Int) (l1_0 : List Int) (a1_1 : Int) (l1_2 : List Int) (l1_3 : List Int) (l1_4 : List Int) : Option (Bool) := if a0_1 = a1_1 then ((hypercuberef1_Ints.f k l0_0 l1_0).bind fun t199 => (if t199 = true then ((hypercuberef1_Ints.f k l0_2 l1_2).bind fun t200 => (if t200 = true then ((hypercuberef1_Ints.f k l0_3 l1_3).bind fun t201 => (if t201 = true then ((hypercuberef1_Ints.f k l0_4 l1_4).bind fun t202 => (some t202)) else (some false))) else (some false))) else (some false))) else (some false)
set_option maxHeartbeats 8000000 in
set_option maxRecDepth 100000 in
theorem hypercuberef2_Equal.calls (k : Nat) (A0_0 : Option Addr) (c0_0 : Nat) (l0_0 : List Int) (a0_1 : Int) (A0_2 : Option Addr) (c0_2 : Nat) (l0_2 : List Int) (A0_3 : Option Addr) (c0_3 : Nat) (l0_3 : List Int) (A0_4 : Option Addr) (c0_4 : Nat) (l0_4 : List Int) (A1_0 : Option Addr) (c1_0 : Nat) (l1_0 : List Int) (a1_1 : Int) (A1_2 : Option Addr) (c1_2 : Nat) (l1_2 : List Int) (A1_3 : Option Addr) (c1_3 : Nat) (l1_3 : List Int) (A1_4 : Option Addr) (c1_4 : Nat) (l1_4 : List Int) (r : Bool) (w : World) (hr0_0 : Kd.C (Kd.int .i64) w A0_0 l0_0.length l0_0) (hc0_0 : l0_0.length ≤ c0_0) (hr0_2 : Kd.C (Kd.int .i64) w A0_2 l0_2.length l0_2) (hc0_2 : l0_2.length ≤ c0_2) (hr0_3 : Kd.C (Kd.int .i64) w A0_3 l0_3.length l0_3) (hc0_3 : l0_3.length ≤ c0_3) (hr0_4 : Kd.C (Kd.int .i64) w A0_4 l0_4.length l0_4) (hc0_4 : l0_4.length ≤ c0_4) (hr1_0 : Kd.C (Kd.int .i64) w A1_0 l1_0.length l1_0) (hc1_0 : l1_0.length ≤ c1_0) (hr1_2 : Kd.C (Kd.int .i64) w A1_2 l1_2.length l1_2) (hc1_2 : l1_2.length ≤ c1_2) (hr1_3 : Kd.C (Kd.int .i64) w A1_3 l1_3.length l1_3) (hc1_3 : l1_3.length ≤ c1_3) (hr1_4 : Kd.C (Kd.int .i64) w A1_4 l1_4.length l1_4) (hc1_4 : l1_4.length ≤ c1_4) (h : hypercuberef2_Equal.f k l0_0 a0_1 l0_2 l0_3 l0_4 l1_0 a1_1 l1_2 l1_3 l1_4 = some r) :
  Calls Try.prog 22 #[.agg #[.slice A0_0 l0_0.length c0_0, .int .i64 a0_1, .slice A0_2 l0_2.length c0_2, .slice A0_3 l0_3.length c0_3, .slice A0_4 l0_4.length c0_4], .agg #[.slice A1_0 l1_0.length c1_0, .int .i64 a1_1, .slice A1_2 l1_2.length c1_2, .slice A1_3 l1_3.length c1_3, .slice A1_4 l1_4.length c1_4]] w fun e w' => e = .returned (.bool r) ∧ Below w.heap.size w w' := by
 have hu30 := Try.underlying30
 have HR0_0 := am hr0_0
 have HC0_0 := am hc0_0
 clear hr0_0 hc0_0
 have HR0_2 := am hr0_2
 have HC0_2 := am hc0_2
 clear hr0_2 hc0_2
 have HR0_3 := am hr0_3
 have HC0_3 := am hc0_3
 clear hr0_3 hc0_3
 have HR0_4 := am hr0_4
 have HC0_4 := am hc0_4
 clear hr0_4 hc0_4
 have HR1_0 := am hr1_0
 have HC1_0 := am hc1_0
 clear hr1_0 hc1_0
 have HR1_2 := am hr1_2
 have HC1_2 := am hc1_2
 clear hr1_2 hc1_2
 have HR1_3 := am hr1_3
 have HC1_3 := am hc1_3
 clear hr1_3 hc1_3
 have HR1_4 := am hr1_4
 have HC1_4 := am hc1_4
 clear hr1_4 hc1_4
 have HB := am (Below.refl w.heap.size w)
 have H : (if a0_1 = a1_1 then ((hypercuberef1_Ints.f k l0_0 l1_0).bind fun t199 => (if t199 = true then ((hypercuberef1_Ints.f k l0_2 l1_2).bind fun t200 => (if t200 = true then ((hypercuberef1_Ints.f k l0_3 l1_3).bind fun t201 => (if t201 = true then ((hypercuberef1_Ints.f k l0_4 l1_4).bind fun t202 => (some t202)) else (some false))) else (some false))) else (some false))) else (some false)) = some r := h
 clear h
 by_cases c3 : a0_1 = a1_1
 ·rw [if_pos c3] at H
  have c3b0 : (a0_1 == a1_1) = true := beq_iff_eq.mpr c3
  have c3b1 : (a0_1 != a1_1) = false := bne_eq_false_iff_eq.mpr c3
  clear c3
  replace H := Option.bind_eq_some_iff.mp H
  obtain ⟨t199, A40, H⟩ := H
  replace H : (if t199 = true then ((hypercuberef1_Ints.f k l0_2 l1_2).bind fun t200 => (if t200 = true then ((hypercuberef1_Ints.f k l0_3 l1_3).bind fun t201 => (if t201 = true then ((hypercuberef1_Ints.f k l0_4 l1_4).bind fun t202 => (some t202)) else (some false))) else (some false))) else (some false)) = some r := H
  have A4 := am A40
  clear A40
  by_cases c5 : t199 = true
  ·subst c5
   have H1 : ((hypercuberef1_Ints.f k l0_2 l1_2).bind fun t200 => (if t200 = true then ((hypercuberef1_Ints.f k l0_3 l1_3).bind fun t201 => (if t201 = true then ((hypercuberef1_Ints.f k l0_4 l1_4).bind fun t202 => (some t202)) else (some false))) else (some false))) = some r := by rw [if_pos rfl] at H; exact H
   clear H
   have H := H1
   clear H1
   replace H := Option.bind_eq_some_iff.mp H
   obtain ⟨t200, A60, H⟩ := H
   replace H : (if t200 = true then ((hypercuberef1_Ints.f k l0_3 l1_3).bind fun t201 => (if t201 = true then ((hypercuberef1_Ints.f k l0_4 l1_4).bind fun t202 => (some t202)) else (some false))) else (some false)) = some r := H
   have A6 := am A60
   clear A60
   by_cases c7 : t200 = true
   ·subst c7
    have H1 : ((hypercuberef1_Ints.f k l0_3 l1_3).bind fun t201 => (if t201 = true then ((hypercuberef1_Ints.f k l0_4 l1_4).bind fun t202 => (some t202)) else (some false))) = some r := by rw [if_pos rfl] at H; exact H
    clear H
    have H := H1
    clear H1
    replace H := Option.bind_eq_some_iff.mp H
    obtain ⟨t201, A80, H⟩ := H
    replace H : (if t201 = true then ((hypercuberef1_Ints.f k l0_4 l1_4).bind fun t202 => (some t202)) else (some false)) = some r := H
    have A8 := am A80
    clear A80
    by_cases c9 : t201 = true
    ·subst c9
     have H1 : ((hypercuberef1_Ints.f k l0_4 l1_4).bind fun t202 => (some t202)) = some r := by rw [if_pos rfl] at H; exact H
     clear H
     have H := H1
     clear H1
     replace H := Option.bind_eq_some_iff.mp H
     obtain ⟨t202, A100, H⟩ := H
     replace H : (some t202) = some r := H
     have A10 := am A100
     clear A100
     obtain rfl := Option.some.inj H
     go_enter Try.func22, Try.ntmps22
     go_wp2_with (first | ((with_reducible refine gate_dst (N := 2) rfl ?_); refine box_event ?hg (N := 2) ?hd (cs := #[.slice A0_0 l0_0.length c0_0, .int .i64 a0_1, .slice A0_2 l0_2.length c0_2, .slice A0_3 l0_3.length c0_3, .slice A0_4 l0_4.length c0_4]) (t := 30) ?hr ?_; (case hd => rfl); (case hg => rfl); (case hr => first | (go_simp; done) | (go_simp; rfl)); intro gb197 hg w11 hbox hb; have n0_ := am (below_step (by repeat (first | (with_reducible first | exact HB.out | apply below_alloc | apply pw_below_drewN | apply below_drew1) | exact HB.out)) hb); have n1_ := am (hbox); have n2_ := am ((by rw [hg]; exact (below_size (by repeat (first | (with_reducible first | exact HB.out | apply below_alloc | apply pw_below_drewN | apply below_drew1) | exact HB.out))) : w.heap.size ≤ gb197)); have n3_ := am ((by rw [hg]; exact (below_size (by repeat (first | (with_reducible first | exact HB.out | apply below_alloc | apply pw_below_drewN | apply below_drew1) | exact HB.out))) : w.heap.size ≤ gb197)); clear HB; have HB := n0_; have BK197 := n1_; have GW197 := n2_; have GE197 := n3_; clear n0_ n1_ n2_ n3_; clear hb hbox hg) | ((with_reducible refine gate_dst (N := 3) rfl ?_); refine box_event ?hg (N := 3) ?hd (cs := #[.slice A1_0 l1_0.length c1_0, .int .i64 a1_1, .slice A1_2 l1_2.length c1_2, .slice A1_3 l1_3.length c1_3, .slice A1_4 l1_4.length c1_4]) (t := 30) ?hr ?_; (case hd => rfl); (case hg => rfl); (case hr => first | (go_simp; done) | (go_simp; rfl)); intro gb198 hg w12 hbox hb; have n0_ := am (blk_below (g := gb197) (o := .cells #[.slice A0_0 l0_0.length c0_0, .int .i64 a0_1, .slice A0_2 l0_2.length c0_2, .slice A0_3 l0_3.length c0_3, .slice A0_4 l0_4.length c0_4] 30 (0, 0)) (by (with_reducible repeat (first | refine blk_drewN ?_ _ | refine blk_drew ?_ | refine blk_alloc ?_ _)); exact BK197.out) hb); have n1_ := am (below_step (by repeat (first | (with_reducible first | exact HB.out | apply below_alloc | apply pw_below_drewN | apply below_drew1 | refine below_set ?_ GE197.out) | exact HB.out)) hb); have n2_ := am (hbox); have n3_ := am ((by rw [hg]; exact (below_size (by repeat (first | (with_reducible first | exact HB.out | apply below_alloc | apply pw_below_drewN | apply below_drew1 | refine below_set ?_ GE197.out) | exact HB.out))) : w.heap.size ≤ gb198)); have n4_ := am ((by rw [hg]; exact (below_size (by repeat (first | (with_reducible first | exact HB.out | apply below_alloc | apply pw_below_drewN | apply below_drew1 | refine below_set ?_ GE197.out) | exact HB.out))) : w.heap.size ≤ gb198)); have n5_ := am ((by rw [hg]; exact Nat.ne_of_lt (blk_lt (g := gb197) (o := .cells #[.slice A0_0 l0_0.length c0_0, .int .i64 a0_1, .slice A0_2 l0_2.length c0_2, .slice A0_3 l0_3.length c0_3, .slice A0_4 l0_4.length c0_4] 30 (0, 0)) (by (with_reducible repeat (first | refine blk_drewN ?_ _ | refine blk_drew ?_ | refine blk_alloc ?_ _)); exact BK197.out)) : gb197 ≠ gb198)); have n6_ := am ((by rw [hg]; exact Nat.ne_of_gt (blk_lt (g := gb197) (o := .cells #[.slice A0_0 l0_0.length c0_0, .int .i64 a0_1, .slice A0_2 l0_2.length c0_2, .slice A0_3 l0_3.length c0_3, .slice A0_4 l0_4.length c0_4] 30 (0, 0)) (by (with_reducible repeat (first | refine blk_drewN ?_ _ | refine blk_drew ?_ | refine blk_alloc ?_ _)); exact BK197.out)) : gb198 ≠ gb197)); clear BK197; clear HB; have BK197 := n0_; have HB := n1_; have BK198 := n2_; have GW198 := n3_; have GE198 := n4_; have NB197_198 := n5_; have NB198_197 := n6_; clear n0_ n1_ n2_ n3_ n4_ n5_ n6_; clear hb hbox hg; have hnb13 := NB197_198.out; have hnc13 := NB198_197.out; have hcz14_0 : w12.cell? ⟨gb197, 0, none⟩ = some (.slice A0_0 l0_0.length c0_0) := (blk_cell BK197.out 0).trans rfl; have hcz14_1 : w12.cell? ⟨gb197, 1, none⟩ = some (.int .i64 a0_1) := (blk_cell BK197.out 1).trans rfl; have hcz14_2 : w12.cell? ⟨gb197, 2, none⟩ = some (.slice A0_2 l0_2.length c0_2) := (blk_cell BK197.out 2).trans rfl; have hcz14_3 : w12.cell? ⟨gb197, 3, none⟩ = some (.slice A0_3 l0_3.length c0_3) := (blk_cell BK197.out 3).trans rfl; have hcz14_4 : w12.cell? ⟨gb197, 4, none⟩ = some (.slice A0_4 l0_4.length c0_4) := (blk_cell BK197.out 4).trans rfl; have hfz14_0 := blk_frozen BK197.out 0; have hfz14_1 := blk_frozen BK197.out 1; have hfz14_2 := blk_frozen BK197.out 2; have hfz14_3 := blk_frozen BK197.out 3; have hfz14_4 := blk_frozen BK197.out 4; have hcz15_0 : w12.cell? ⟨gb198, 0, none⟩ = some (.slice A1_0 l1_0.length c1_0) := (blk_cell BK198.out 0).trans rfl; have hcz15_1 : w12.cell? ⟨gb198, 1, none⟩ = some (.int .i64 a1_1) := (blk_cell BK198.out 1).trans rfl; have hcz15_2 : w12.cell? ⟨gb198, 2, none⟩ = some (.slice A1_2 l1_2.length c1_2) := (blk_cell BK198.out 2).trans rfl; have hcz15_3 : w12.cell? ⟨gb198, 3, none⟩ = some (.slice A1_3 l1_3.length c1_3) := (blk_cell BK198.out 3).trans rfl; have hcz15_4 : w12.cell? ⟨gb198, 4, none⟩ = some (.slice A1_4 l1_4.length c1_4) := (blk_cell BK198.out 4).trans rfl; have hfz15_0 := blk_frozen BK198.out 0; have hfz15_1 := blk_frozen BK198.out 1; have hfz15_2 := blk_frozen BK198.out 2; have hfz15_3 := blk_frozen BK198.out 3; have hfz15_4 := blk_frozen BK198.out 4) | (go_at_call 19; (with_reducible refine (hypercuberef1_Ints.calls k _ _ l0_0 _ _ l1_0 true _ ?side1 ?side2 ?side3 ?side4 A4.out).mono ?_); (case side1 => repeat (first | exact (Kd.C_below HR0_0.out HB.out) | (with_reducible refine Kd.C_alloc ?_ _) | (with_reducible refine Kd.C_drewN ?_ _) | (with_reducible refine Kd.C_drew ?_))); (case side2 => exact HC0_0.out); (case side3 => repeat (first | exact (Kd.C_below HR1_0.out HB.out) | (with_reducible refine Kd.C_alloc ?_ _) | (with_reducible refine Kd.C_drewN ?_ _) | (with_reducible refine Kd.C_drew ?_))); (case side4 => exact HC1_0.out); rintro e w' ⟨rfl, ⟨nd, rfl⟩⟩) | (go_at_call 19; (with_reducible refine (hypercuberef1_Ints.calls k _ _ l0_2 _ _ l1_2 true _ ?side1 ?side2 ?side3 ?side4 A6.out).mono ?_); (case side1 => repeat (first | exact (Kd.C_below HR0_2.out (by repeat (first | (with_reducible first | exact HB.out | apply below_alloc | apply pw_below_drewN | apply below_drew1 | refine below_set ?_ GE197.out | refine below_set ?_ GE198.out) | exact HB.out))) | (with_reducible refine Kd.C_alloc ?_ _) | (with_reducible refine Kd.C_drewN ?_ _) | (with_reducible refine Kd.C_drew ?_))); (case side2 => exact HC0_2.out); (case side3 => repeat (first | exact (Kd.C_below HR1_2.out (by repeat (first | (with_reducible first | exact HB.out | apply below_alloc | apply pw_below_drewN | apply below_drew1 | refine below_set ?_ GE197.out | refine below_set ?_ GE198.out) | exact HB.out))) | (with_reducible refine Kd.C_alloc ?_ _) | (with_reducible refine Kd.C_drewN ?_ _) | (with_reducible refine Kd.C_drew ?_))); (case side4 => exact HC1_2.out); rintro e w' ⟨rfl, ⟨nd, rfl⟩⟩) | (go_at_call 19; (with_reducible refine (hypercuberef1_Ints.calls k _ _ l0_3 _ _ l1_3 true _ ?side1 ?side2 ?side3 ?side4 A8.out).mono ?_); (case side1 => repeat (first | exact (Kd.C_below HR0_3.out (by repeat (first | (with_reducible first | exact HB.out | apply below_alloc | apply pw_below_drewN | apply below_drew1 | refine below_set ?_ GE197.out | refine below_set ?_ GE198.out) | exact HB.out))) | (with_reducible refine Kd.C_alloc ?_ _) | (with_reducible refine Kd.C_drewN ?_ _) | (with_reducible refine Kd.C_drew ?_))); (case side2 => exact HC0_3.out); (case side3 => repeat (first | exact (Kd.C_below HR1_3.out (by repeat (first | (with_reducible first | exact HB.out | apply below_alloc | apply pw_below_drewN | apply below_drew1 | refine below_set ?_ GE197.out | refine below_set ?_ GE198.out) | exact HB.out))) | (with_reducible refine Kd.C_alloc ?_ _) | (with_reducible refine Kd.C_drewN ?_ _) | (with_reducible refine Kd.C_drew ?_))); (case side4 => exact HC1_3.out); rintro e w' ⟨rfl, ⟨nd, rfl⟩⟩) | (go_at_call 19; (with_reducible refine (hypercuberef1_Ints.calls k _ _ l0_4 _ _ l1_4 t202 _ ?side1 ?side2 ?side3 ?side4 A10.out).mono ?_); (case side1 => repeat (first | exact (Kd.C_below HR0_4.out (by repeat (first | (with_reducible first | exact HB.out | apply below_alloc | apply pw_below_drewN | apply below_drew1 | refine below_set ?_ GE197.out | refine below_set ?_ GE198.out) | exact HB.out))) | (with_reducible refine Kd.C_alloc ?_ _) | (with_reducible refine Kd.C_drewN ?_ _) | (with_reducible refine Kd.C_drew ?_))); (case side2 => exact HC0_4.out); (case side3 => repeat (first | exact (Kd.C_below HR1_4.out (by repeat (first | (with_reducible first | exact HB.out | apply below_alloc | apply pw_below_drewN | apply below_drew1 | refine below_set ?_ GE197.out | refine below_set ?_ GE198.out) | exact HB.out))) | (with_reducible refine Kd.C_alloc ?_ _) | (with_reducible refine Kd.C_drewN ?_ _) | (with_reducible refine Kd.C_drew ?_))); (case side4 => exact HC1_4.out); rintro e w' ⟨rfl, ⟨nd, rfl⟩⟩))
     go_ret
     exact ⟨by first | rfl | (simp [errW_none, errW_some] <;> rfl) | (simp [*, errW_none, errW_some] <;> rfl), by repeat (first | (with_reducible first | exact HB.out | apply below_alloc | apply pw_below_drewN | apply below_drew1 | refine below_set ?_ GE197.out | refine below_set ?_ GE198.out) | exact HB.out)⟩
    ·replace c9 := Bool.eq_false_iff.mpr c9
     subst c9
     have H1 : (some false) = some r := by rw [if_neg (show ¬ (false = true) by decide)] at H; exact H
     clear H
     have H := H1
     clear H1
     obtain rfl := Option.some.inj H
     go_enter Try.func22, Try.ntmps22
     go_wp2_with (first | ((with_reducible refine gate_dst (N := 2) rfl ?_); refine box_event ?hg (N := 2) ?hd (cs := #[.slice A0_0 l0_0.length c0_0, .int .i64 a0_1, .slice A0_2 l0_2.length c0_2, .slice A0_3 l0_3.length c0_3, .slice A0_4 l0_4.length c0_4]) (t := 30) ?hr ?_; (case hd => rfl); (case hg => rfl); (case hr => first | (go_simp; done) | (go_simp; rfl)); intro gb197 hg w16 hbox hb; have n0_ := am (below_step (by repeat (first | (with_reducible first | exact HB.out | apply below_alloc | apply pw_below_drewN | apply below_drew1) | exact HB.out)) hb); have n1_ := am (hbox); have n2_ := am ((by rw [hg]; exact (below_size (by repeat (first | (with_reducible first | exact HB.out | apply below_alloc | apply pw_below_drewN | apply below_drew1) | exact HB.out))) : w.heap.size ≤ gb197)); have n3_ := am ((by rw [hg]; exact (below_size (by repeat (first | (with_reducible first | exact HB.out | apply below_alloc | apply pw_below_drewN | apply below_drew1) | exact HB.out))) : w.heap.size ≤ gb197)); clear HB; have HB := n0_; have BK197 := n1_; have GW197 := n2_; have GE197 := n3_; clear n0_ n1_ n2_ n3_; clear hb hbox hg) | ((with_reducible refine gate_dst (N := 3) rfl ?_); refine box_event ?hg (N := 3) ?hd (cs := #[.slice A1_0 l1_0.length c1_0, .int .i64 a1_1, .slice A1_2 l1_2.length c1_2, .slice A1_3 l1_3.length c1_3, .slice A1_4 l1_4.length c1_4]) (t := 30) ?hr ?_; (case hd => rfl); (case hg => rfl); (case hr => first | (go_simp; done) | (go_simp; rfl)); intro gb198 hg w17 hbox hb; have n0_ := am (blk_below (g := gb197) (o := .cells #[.slice A0_0 l0_0.length c0_0, .int .i64 a0_1, .slice A0_2 l0_2.length c0_2, .slice A0_3 l0_3.length c0_3, .slice A0_4 l0_4.length c0_4] 30 (0, 0)) (by (with_reducible repeat (first | refine blk_drewN ?_ _ | refine blk_drew ?_ | refine blk_alloc ?_ _)); exact BK197.out) hb); have n1_ := am (below_step (by repeat (first | (with_reducible first | exact HB.out | apply below_alloc | apply pw_below_drewN | apply below_drew1 | refine below_set ?_ GE197.out) | exact HB.out)) hb); have n2_ := am (hbox); have n3_ := am ((by rw [hg]; exact (below_size (by repeat (first | (with_reducible first | exact HB.out | apply below_alloc | apply pw_below_drewN | apply below_drew1 | refine below_set ?_ GE197.out) | exact HB.out))) : w.heap.size ≤ gb198)); have n4_ := am ((by rw [hg]; exact (below_size (by repeat (first | (with_reducible first | exact HB.out | apply below_alloc | apply pw_below_drewN | apply below_drew1 | refine below_set ?_ GE197.out) | exact HB.out))) : w.heap.size ≤ gb198)); have n5_ := am ((by rw [hg]; exact Nat.ne_of_lt (blk_lt (g := gb197) (o := .cells #[.slice A0_0 l0_0.length c0_0, .int .i64 a0_1, .slice A0_2 l0_2.length c0_2, .slice A0_3 l0_3.length c0_3, .slice A0_4 l0_4.length c0_4] 30 (0, 0)) (by (with_reducible repeat (first | refine blk_drewN ?_ _ | refine blk_drew ?_ | refine blk_alloc ?_ _)); exact BK197.out)) : gb197 ≠ gb198)); have n6_ := am ((by rw [hg]; exact Nat.ne_of_gt (blk_lt (g := gb197) (o := .cells #[.slice A0_0 l0_0.length c0_0, .int .i64 a0_1, .slice A0_2 l0_2.length c0_2, .slice A0_3 l0_3.length c0_3, .slice A0_4 l0_4.length c0_4] 30 (0, 0)) (by (with_reducible repeat (first | refine blk_drewN ?_ _ | refine blk_drew ?_ | refine blk_alloc ?_ _)); exact BK197.out)) : gb198 ≠ gb197)); clear BK197; clear HB; have BK197 := n0_; have HB := n1_; have BK198 := n2_; have GW198 := n3_; have GE198 := n4_; have NB197_198 := n5_; have NB198_197 := n6_; clear n0_ n1_ n2_ n3_ n4_ n5_ n6_; clear hb hbox hg; have hnb18 := NB197_198.out; have hnc18 := NB198_197.out; have hcz19_0 : w17.cell? ⟨gb197, 0, none⟩ = some (.slice A0_0 l0_0.length c0_0) := (blk_cell BK197.out 0).trans rfl; have hcz19_1 : w17.cell? ⟨gb197, 1, none⟩ = some (.int .i64 a0_1) := (blk_cell BK197.out 1).trans rfl; have hcz19_2 : w17.cell? ⟨gb197, 2, none⟩ = some (.slice A0_2 l0_2.length c0_2) := (blk_cell BK197.out 2).trans rfl; have hcz19_3 : w17.cell? ⟨gb197, 3, none⟩ = some (.slice A0_3 l0_3.length c0_3) := (blk_cell BK197.out 3).trans rfl; have hcz19_4 : w17.cell? ⟨gb197, 4, none⟩ = some (.slice A0_4 l0_4.length c0_4) := (blk_cell BK197.out 4).trans rfl; have hfz19_0 := blk_frozen BK197.out 0; have hfz19_1 := blk_frozen BK197.out 1; have hfz19_2 := blk_frozen BK197.out 2; have hfz19_3 := blk_frozen BK197.out 3; have hfz19_4 := blk_frozen BK197.out 4; have hcz20_0 : w17.cell? ⟨gb198, 0, none⟩ = some (.slice A1_0 l1_0.length c1_0) := (blk_cell BK198.out 0).trans rfl; have hcz20_1 : w17.cell? ⟨gb198, 1, none⟩ = some (.int .i64 a1_1) := (blk_cell BK198.out 1).trans rfl; have hcz20_2 : w17.cell? ⟨gb198, 2, none⟩ = some (.slice A1_2 l1_2.length c1_2) := (blk_cell BK198.out 2).trans rfl; have hcz20_3 : w17.cell? ⟨gb198, 3, none⟩ = some (.slice A1_3 l1_3.length c1_3) := (blk_cell BK198.out 3).trans rfl; have hcz20_4 : w17.cell? ⟨gb198, 4, none⟩ = some (.slice A1_4 l1_4.length c1_4) := (blk_cell BK198.out 4).trans rfl; have hfz20_0 := blk_frozen BK198.out 0; have hfz20_1 := blk_frozen BK198.out 1; have hfz20_2 := blk_frozen BK198.out 2; have hfz20_3 := blk_frozen BK198.out 3; have hfz20_4 := blk_frozen BK198.out 4) | (go_at_call 19; (with_reducible refine (hypercuberef1_Ints.calls k _ _ l0_0 _ _ l1_0 true _ ?side1 ?side2 ?side3 ?side4 A4.out).mono ?_); (case side1 => repeat (first | exact (Kd.C_below HR0_0.out HB.out) | (with_reducible refine Kd.C_alloc ?_ _) | (with_reducible refine Kd.C_drewN ?_ _) | (with_reducible refine Kd.C_drew ?_))); (case side2 => exact HC0_0.out); (case side3 => repeat (first | exact (Kd.C_below HR1_0.out HB.out) | (with_reducible refine Kd.C_alloc ?_ _) | (with_reducible refine Kd.C_drewN ?_ _) | (with_reducible refine Kd.C_drew ?_))); (case side4 => exact HC1_0.out); rintro e w' ⟨rfl, ⟨nd, rfl⟩⟩) | (go_at_call 19; (with_reducible refine (hypercuberef1_Ints.calls k _ _ l0_2 _ _ l1_2 true _ ?side1 ?side2 ?side3 ?side4 A6.out).mono ?_); (case side1 => repeat (first | exact (Kd.C_below HR0_2.out (by repeat (first | (with_reducible first | exact HB.out | apply below_alloc | apply pw_below_drewN | apply below_drew1 | refine below_set ?_ GE197.out | refine below_set ?_ GE198.out) | exact HB.out))) | (with_reducible refine Kd.C_alloc ?_ _) | (with_reducible refine Kd.C_drewN ?_ _) | (with_reducible refine Kd.C_drew ?_))); (case side2 => exact HC0_2.out); (case side3 => repeat (first | exact (Kd.C_below HR1_2.out (by repeat (first | (with_reducible first | exact HB.out | apply below_alloc | apply pw_below_drewN | apply below_drew1 | refine below_set ?_ GE197.out | refine below_set ?_ GE198.out) | exact HB.out))) | (with_reducible refine Kd.C_alloc ?_ _) | (with_reducible refine Kd.C_drewN ?_ _) | (with_reducible refine Kd.C_drew ?_))); (case side4 => exact HC1_2.out); rintro e w' ⟨rfl, ⟨nd, rfl⟩⟩) | (go_at_call 19; (with_reducible refine (hypercuberef1_Ints.calls k _ _ l0_3 _ _ l1_3 false _ ?side1 ?side2 ?side3 ?side4 A8.out).mono ?_); (case side1 => repeat (first | exact (Kd.C_below HR0_3.out (by repeat (first | (with_reducible first | exact HB.out | apply below_alloc | apply pw_below_drewN | apply below_drew1 | refine below_set ?_ GE197.out | refine below_set ?_ GE198.out) | exact HB.out))) | (with_reducible refine Kd.C_alloc ?_ _) | (with_reducible refine Kd.C_drewN ?_ _) | (with_reducible refine Kd.C_drew ?_))); (case side2 => exact HC0_3.out); (case side3 => repeat (first | exact (Kd.C_below HR1_3.out (by repeat (first | (with_reducible first | exact HB.out | apply below_alloc | apply pw_below_drewN | apply below_drew1 | refine below_set ?_ GE197.out | refine below_set ?_ GE198.out) | exact HB.out))) | (with_reducible refine Kd.C_alloc ?_ _) | (with_reducible refine Kd.C_drewN ?_ _) | (with_reducible refine Kd.C_drew ?_))); (case side4 => exact HC1_3.out); rintro e w' ⟨rfl, ⟨nd, rfl⟩⟩))
     go_ret
     exact ⟨by first | rfl | (simp [errW_none, errW_some] <;> rfl) | (simp [*, errW_none, errW_some] <;> rfl), by repeat (first | (with_reducible first | exact HB.out | apply below_alloc | apply pw_below_drewN | apply below_drew1 | refine below_set ?_ GE197.out | refine below_set ?_ GE198.out) | exact HB.out)⟩
   ·replace c7 := Bool.eq_false_iff.mpr c7
    subst c7
    have H1 : (some false) = some r := by rw [if_neg (show ¬ (false = true) by decide)] at H; exact H
    clear H
    have H := H1
    clear H1
    obtain rfl := Option.some.inj H
    go_enter Try.func22, Try.ntmps22
    go_wp2_with (first | ((with_reducible refine gate_dst (N := 2) rfl ?_); refine box_event ?hg (N := 2) ?hd (cs := #[.slice A0_0 l0_0.length c0_0, .int .i64 a0_1, .slice A0_2 l0_2.length c0_2, .slice A0_3 l0_3.length c0_3, .slice A0_4 l0_4.length c0_4]) (t := 30) ?hr ?_; (case hd => rfl); (case hg => rfl); (case hr => first | (go_simp; done) | (go_simp; rfl)); intro gb197 hg w21 hbox hb; have n0_ := am (below_step (by repeat (first | (with_reducible first | exact HB.out | apply below_alloc | apply pw_below_drewN | apply below_drew1) | exact HB.out)) hb); have n1_ := am (hbox); have n2_ := am ((by rw [hg]; exact (below_size (by repeat (first | (with_reducible first | exact HB.out | apply below_alloc | apply pw_below_drewN | apply below_drew1) | exact HB.out))) : w.heap.size ≤ gb197)); have n3_ := am ((by rw [hg]; exact (below_size (by repeat (first | (with_reducible first | exact HB.out | apply below_alloc | apply pw_below_drewN | apply below_drew1) | exact HB.out))) : w.heap.size ≤ gb197)); clear HB; have HB := n0_; have BK197 := n1_; have GW197 := n2_; have GE197 := n3_; clear n0_ n1_ n2_ n3_; clear hb hbox hg) | ((with_reducible refine gate_dst (N := 3) rfl ?_); refine box_event ?hg (N := 3) ?hd (cs := #[.slice A1_0 l1_0.length c1_0, .int .i64 a1_1, .slice A1_2 l1_2.length c1_2, .slice A1_3 l1_3.length c1_3, .slice A1_4 l1_4.length c1_4]) (t := 30) ?hr ?_; (case hd => rfl); (case hg => rfl); (case hr => first | (go_simp; done) | (go_simp; rfl)); intro gb198 hg w22 hbox hb; have n0_ := am (blk_below (g := gb197) (o := .cells #[.slice A0_0 l0_0.length c0_0, .int .i64 a0_1, .slice A0_2 l0_2.length c0_2, .slice A0_3 l0_3.length c0_3, .slice A0_4 l0_4.length c0_4] 30 (0, 0)) (by (with_reducible repeat (first | refine blk_drewN ?_ _ | refine blk_drew ?_ | refine blk_alloc ?_ _)); exact BK197.out) hb); have n1_ := am (below_step (by repeat (first | (with_reducible first | exact HB.out | apply below_alloc | apply pw_below_drewN | apply below_drew1 | refine below_set ?_ GE197.out) | exact HB.out)) hb); have n2_ := am (hbox); have n3_ := am ((by rw [hg]; exact (below_size (by repeat (first | (with_reducible first | exact HB.out | apply below_alloc | apply pw_below_drewN | apply below_drew1 | refine below_set ?_ GE197.out) | exact HB.out))) : w.heap.size ≤ gb198)); have n4_ := am ((by rw [hg]; exact (below_size (by repeat (first | (with_reducible first | exact HB.out | apply below_alloc | apply pw_below_drewN | apply below_drew1 | refine below_set ?_ GE197.out) | exact HB.out))) : w.heap.size ≤ gb198)); have n5_ := am ((by rw [hg]; exact Nat.ne_of_lt (blk_lt (g := gb197) (o := .cells #[.slice A0_0 l0_0.length c0_0, .int .i64 a0_1, .slice A0_2 l0_2.length c0_2, .slice A0_3 l0_3.length c0_3, .slice A0_4 l0_4.length c0_4] 30 (0, 0)) (by (with_reducible repeat (first | refine blk_drewN ?_ _ | refine blk_drew ?_ | refine blk_alloc ?_ _)); exact BK197.out)) : gb197 ≠ gb198)); have n6_ := am ((by rw [hg]; exact Nat.ne_of_gt (blk_lt (g := gb197) (o := .cells #[.slice A0_0 l0_0.length c0_0, .int .i64 a0_1, .slice A0_2 l0_2.length c0_2, .slice A0_3 l0_3.length c0_3, .slice A0_4 l0_4.length c0_4] 30 (0, 0)) (by (with_reducible repeat (first | refine blk_drewN ?_ _ | refine blk_drew ?_ | refine blk_alloc ?_ _)); exact BK197.out)) : gb198 ≠ gb197)); clear BK197; clear HB; have BK197 := n0_; have HB := n1_; have BK198 := n2_; have GW198 := n3_; have GE198 := n4_; have NB197_198 := n5_; have NB198_197 := n6_; clear n0_ n1_ n2_ n3_ n4_ n5_ n6_; clear hb hbox hg; have hnb23 := NB197_198.out; have hnc23 := NB198_197.out; have hcz24_0 : w22.cell? ⟨gb197, 0, none⟩ = some (.slice A0_0 l0_0.length c0_0) := (blk_cell BK197.out 0).trans rfl; have hcz24_1 : w22.cell? ⟨gb197, 1, none⟩ = some (.int .i64 a0_1) := (blk_cell BK197.out 1).trans rfl; have hcz24_2 : w22.cell? ⟨gb197, 2, none⟩ = some (.slice A0_2 l0_2.length c0_2) := (blk_cell BK197.out 2).trans rfl; have hcz24_3 : w22.cell? ⟨gb197, 3, none⟩ = some (.slice A0_3 l0_3.length c0_3) := (blk_cell BK197.out 3).trans rfl; have hcz24_4 : w22.cell? ⟨gb197, 4, none⟩ = some (.slice A0_4 l0_4.length c0_4) := (blk_cell BK197.out 4).trans rfl; have hfz24_0 := blk_frozen BK197.out 0; have hfz24_1 := blk_frozen BK197.out 1; have hfz24_2 := blk_frozen BK197.out 2; have hfz24_3 := blk_frozen BK197.out 3; have hfz24_4 := blk_frozen BK197.out 4; have hcz25_0 : w22.cell? ⟨gb198, 0, none⟩ = some (.slice A1_0 l1_0.length c1_0) := (blk_cell BK198.out 0).trans rfl; have hcz25_1 : w22.cell? ⟨gb198, 1, none⟩ = some (.int .i64 a1_1) := (blk_cell BK198.out 1).trans rfl; have hcz25_2 : w22.cell? ⟨gb198, 2, none⟩ = some (.slice A1_2 l1_2.length c1_2) := (blk_cell BK198.out 2).trans rfl; have hcz25_3 : w22.cell? ⟨gb198, 3, none⟩ = some (.slice A1_3 l1_3.length c1_3) := (blk_cell BK198.out 3).trans rfl; have hcz25_4 : w22.cell? ⟨gb198, 4, none⟩ = some (.slice A1_4 l1_4.length c1_4) := (blk_cell BK198.out 4).trans rfl; have hfz25_0 := blk_frozen BK198.out 0; have hfz25_1 := blk_frozen BK198.out 1; have hfz25_2 := blk_frozen BK198.out 2; have hfz25_3 := blk_frozen BK198.out 3; have hfz25_4 := blk_frozen BK198.out 4) | (go_at_call 19; (with_reducible refine (hypercuberef1_Ints.calls k _ _ l0_0 _ _ l1_0 true _ ?side1 ?side2 ?side3 ?side4 A4.out).mono ?_); (case side1 => repeat (first | exact (Kd.C_below HR0_0.out HB.out) | (with_reducible refine Kd.C_alloc ?_ _) | (with_reducible refine Kd.C_drewN ?_ _) | (with_reducible refine Kd.C_drew ?_))); (case side2 => exact HC0_0.out); (case side3 => repeat (first | exact (Kd.C_below HR1_0.out HB.out) | (with_reducible refine Kd.C_alloc ?_ _) | (with_reducible refine Kd.C_drewN ?_ _) | (with_reducible refine Kd.C_drew ?_))); (case side4 => exact HC1_0.out); rintro e w' ⟨rfl, ⟨nd, rfl⟩⟩) | (go_at_call 19; (with_reducible refine (hypercuberef1_Ints.calls k _ _ l0_2 _ _ l1_2 false _ ?side1 ?side2 ?side3 ?side4 A6.out).mono ?_); (case side1 => repeat (first | exact (Kd.C_below HR0_2.out (by repeat (first | (with_reducible first | exact HB.out | apply below_alloc | apply pw_below_drewN | apply below_drew1 | refine below_set ?_ GE197.out | refine below_set ?_ GE198.out) | exact HB.out))) | (with_reducible refine Kd.C_alloc ?_ _) | (with_reducible refine Kd.C_drewN ?_ _) | (with_reducible refine Kd.C_drew ?_))); (case side2 => exact HC0_2.out); (case side3 => repeat (first | exact (Kd.C_below HR1_2.out (by repeat (first | (with_reducible first | exact HB.out | apply below_alloc | apply pw_below_drewN | apply below_drew1 | refine below_set ?_ GE197.out | refine below_set ?_ GE198.out) | exact HB.out))) | (with_reducible refine Kd.C_alloc ?_ _) | (with_reducible refine Kd.C_drewN ?_ _) | (with_reducible refine Kd.C_drew ?_))); (case side4 => exact HC1_2.out); rintro e w' ⟨rfl, ⟨nd, rfl⟩⟩))
    go_ret
    exact ⟨by first | rfl | (simp [errW_none, errW_some] <;> rfl) | (simp [*, errW_none, errW_some] <;> rfl), by repeat (first | (with_reducible first | exact HB.out | apply below_alloc | apply pw_below_drewN | apply below_drew1 | refine below_set ?_ GE197.out | refine below_set ?_ GE198.out) | exact HB.out)⟩
  ·replace c5 := Bool.eq_false_iff.mpr c5
   subst c5
   have H1 : (some false) = some r := by rw [if_neg (show ¬ (false = true) by decide)] at H; exact H
   clear H
   have H := H1
   clear H1
   obtain rfl := Option.some.inj H
   go_enter Try.func22, Try.ntmps22
   go_wp2_with (first | ((with_reducible refine gate_dst (N := 2) rfl ?_); refine box_event ?hg (N := 2) ?hd (cs := #[.slice A0_0 l0_0.length c0_0, .int .i64 a0_1, .slice A0_2 l0_2.length c0_2, .slice A0_3 l0_3.length c0_3, .slice A0_4 l0_4.length c0_4]) (t := 30) ?hr ?_; (case hd => rfl); (case hg => rfl); (case hr => first | (go_simp; done) | (go_simp; rfl)); intro gb197 hg w26 hbox hb; have n0_ := am (below_step (by repeat (first | (with_reducible first | exact HB.out | apply below_alloc | apply pw_below_drewN | apply below_drew1) | exact HB.out)) hb); have n1_ := am (hbox); have n2_ := am ((by rw [hg]; exact (below_size (by repeat (first | (with_reducible first | exact HB.out | apply below_alloc | apply pw_below_drewN | apply below_drew1) | exact HB.out))) : w.heap.size ≤ gb197)); have n3_ := am ((by rw [hg]; exact (below_size (by repeat (first | (with_reducible first | exact HB.out | apply below_alloc | apply pw_below_drewN | apply below_drew1) | exact HB.out))) : w.heap.size ≤ gb197)); clear HB; have HB := n0_; have BK197 := n1_; have GW197 := n2_; have GE197 := n3_; clear n0_ n1_ n2_ n3_; clear hb hbox hg) | ((with_reducible refine gate_dst (N := 3) rfl ?_); refine box_event ?hg (N := 3) ?hd (cs := #[.slice A1_0 l1_0.length c1_0, .int .i64 a1_1, .slice A1_2 l1_2.length c1_2, .slice A1_3 l1_3.length c1_3, .slice A1_4 l1_4.length c1_4]) (t := 30) ?hr ?_; (case hd => rfl); (case hg => rfl); (case hr => first | (go_simp; done) | (go_simp; rfl)); intro gb198 hg w27 hbox hb; have n0_ := am (blk_below (g := gb197) (o := .cells #[.slice A0_0 l0_0.length c0_0, .int .i64 a0_1, .slice A0_2 l0_2.length c0_2, .slice A0_3 l0_3.length c0_3, .slice A0_4 l0_4.length c0_4] 30 (0, 0)) (by (with_reducible repeat (first | refine blk_drewN ?_ _ | refine blk_drew ?_ | refine blk_alloc ?_ _)); exact BK197.out) hb); have n1_ := am (below_step (by repeat (first | (with_reducible first | exact HB.out | apply below_alloc | apply pw_below_drewN | apply below_drew1 | refine below_set ?_ GE197.out) | exact HB.out)) hb); have n2_ := am (hbox); have n3_ := am ((by rw [hg]; exact (below_size (by repeat (first | (with_reducible first | exact HB.out | apply below_alloc | apply pw_below_drewN | apply below_drew1 | refine below_set ?_ GE197.out) | exact HB.out))) : w.heap.size ≤ gb198)); have n4_ := am ((by rw [hg]; exact (below_size (by repeat (first | (with_reducible first | exact HB.out | apply below_alloc | apply pw_below_drewN | apply below_drew1 | refine below_set ?_ GE197.out) | exact HB.out))) : w.heap.size ≤ gb198)); have n5_ := am ((by rw [hg]; exact Nat.ne_of_lt (blk_lt (g := gb197) (o := .cells #[.slice A0_0 l0_0.length c0_0, .int .i64 a0_1, .slice A0_2 l0_2.length c0_2, .slice A0_3 l0_3.length c0_3, .slice A0_4 l0_4.length c0_4] 30 (0, 0)) (by (with_reducible repeat (first | refine blk_drewN ?_ _ | refine blk_drew ?_ | refine blk_alloc ?_ _)); exact BK197.out)) : gb197 ≠ gb198)); have n6_ := am ((by rw [hg]; exact Nat.ne_of_gt (blk_lt (g := gb197) (o := .cells #[.slice A0_0 l0_0.length c0_0, .int .i64 a0_1, .slice A0_2 l0_2.length c0_2, .slice A0_3 l0_3.length c0_3, .slice A0_4 l0_4.length c0_4] 30 (0, 0)) (by (with_reducible repeat (first | refine blk_drewN ?_ _ | refine blk_drew ?_ | refine blk_alloc ?_ _)); exact BK197.out)) : gb198 ≠ gb197)); clear BK197; clear HB; have BK197 := n0_; have HB := n1_; have BK198 := n2_; have GW198 := n3_; have GE198 := n4_; have NB197_198 := n5_; have NB198_197 := n6_; clear n0_ n1_ n2_ n3_ n4_ n5_ n6_; clear hb hbox hg; have hnb28 := NB197_198.out; have hnc28 := NB198_197.out; have hcz29_0 : w27.cell? ⟨gb197, 0, none⟩ = some (.slice A0_0 l0_0.length c0_0) := (blk_cell BK197.out 0).trans rfl; have hcz29_1 : w27.cell? ⟨gb197, 1, none⟩ = some (.int .i64 a0_1) := (blk_cell BK197.out 1).trans rfl; have hcz29_2 : w27.cell? ⟨gb197, 2, none⟩ = some (.slice A0_2 l0_2.length c0_2) := (blk_cell BK197.out 2).trans rfl; have hcz29_3 : w27.cell? ⟨gb197, 3, none⟩ = some (.slice A0_3 l0_3.length c0_3) := (blk_cell BK197.out 3).trans rfl; have hcz29_4 : w27.cell? ⟨gb197, 4, none⟩ = some (.slice A0_4 l0_4.length c0_4) := (blk_cell BK197.out 4).trans rfl; have hfz29_0 := blk_frozen BK197.out 0; have hfz29_1 := blk_frozen BK197.out 1; have hfz29_2 := blk_frozen BK197.out 2; have hfz29_3 := blk_frozen BK197.out 3; have hfz29_4 := blk_frozen BK197.out 4; have hcz30_0 : w27.cell? ⟨gb198, 0, none⟩ = some (.slice A1_0 l1_0.length c1_0) := (blk_cell BK198.out 0).trans rfl; have hcz30_1 : w27.cell? ⟨gb198, 1, none⟩ = some (.int .i64 a1_1) := (blk_cell BK198.out 1).trans rfl; have hcz30_2 : w27.cell? ⟨gb198, 2, none⟩ = some (.slice A1_2 l1_2.length c1_2) := (blk_cell BK198.out 2).trans rfl; have hcz30_3 : w27.cell? ⟨gb198, 3, none⟩ = some (.slice A1_3 l1_3.length c1_3) := (blk_cell BK198.out 3).trans rfl; have hcz30_4 : w27.cell? ⟨gb198, 4, none⟩ = some (.slice A1_4 l1_4.length c1_4) := (blk_cell BK198.out 4).trans rfl; have hfz30_0 := blk_frozen BK198.out 0; have hfz30_1 := blk_frozen BK198.out 1; have hfz30_2 := blk_frozen BK198.out 2; have hfz30_3 := blk_frozen BK198.out 3; have hfz30_4 := blk_frozen BK198.out 4) | (go_at_call 19; (with_reducible refine (hypercuberef1_Ints.calls k _ _ l0_0 _ _ l1_0 false _ ?side1 ?side2 ?side3 ?side4 A4.out).mono ?_); (case side1 => repeat (first | exact (Kd.C_below HR0_0.out HB.out) | (with_reducible refine Kd.C_alloc ?_ _) | (with_reducible refine Kd.C_drewN ?_ _) | (with_reducible refine Kd.C_drew ?_))); (case side2 => exact HC0_0.out); (case side3 => repeat (first | exact (Kd.C_below HR1_0.out HB.out) | (with_reducible refine Kd.C_alloc ?_ _) | (with_reducible refine Kd.C_drewN ?_ _) | (with_reducible refine Kd.C_drew ?_))); (case side4 => exact HC1_0.out); rintro e w' ⟨rfl, ⟨nd, rfl⟩⟩))
   go_ret
   exact ⟨by first | rfl | (simp [errW_none, errW_some] <;> rfl) | (simp [*, errW_none, errW_some] <;> rfl), by repeat (first | (with_reducible first | exact HB.out | apply below_alloc | apply pw_below_drewN | apply below_drew1 | refine below_set ?_ GE197.out | refine below_set ?_ GE198.out) | exact HB.out)⟩
 ·rw [if_neg c3] at H
  have c3b0 : (a0_1 == a1_1) = false := beq_eq_false_iff_ne.mpr c3
  have c3b1 : (a0_1 != a1_1) = true := bne_iff_ne.mpr c3
  obtain rfl := Option.some.inj H
  go_enter Try.func22, Try.ntmps22
  go_wp2_with (first | ((with_reducible refine gate_dst (N := 2) rfl ?_); refine box_event ?hg (N := 2) ?hd (cs := #[.slice A0_0 l0_0.length c0_0, .int .i64 a0_1, .slice A0_2 l0_2.length c0_2, .slice A0_3 l0_3.length c0_3, .slice A0_4 l0_4.length c0_4]) (t := 30) ?hr ?_; (case hd => rfl); (case hg => rfl); (case hr => first | (go_simp; done) | (go_simp; rfl)); intro gb197 hg w31 hbox hb; have n0_ := am (below_step (by repeat (first | (with_reducible first | exact HB.out | apply below_alloc | apply pw_below_drewN | apply below_drew1) | exact HB.out)) hb); have n1_ := am (hbox); have n2_ := am ((by rw [hg]; exact (below_size (by repeat (first | (with_reducible first | exact HB.out | apply below_alloc | apply pw_below_drewN | apply below_drew1) | exact HB.out))) : w.heap.size ≤ gb197)); have n3_ := am ((by rw [hg]; exact (below_size (by repeat (first | (with_reducible first | exact HB.out | apply below_alloc | apply pw_below_drewN | apply below_drew1) | exact HB.out))) : w.heap.size ≤ gb197)); clear HB; have HB := n0_; have BK197 := n1_; have GW197 := n2_; have GE197 := n3_; clear n0_ n1_ n2_ n3_; clear hb hbox hg) | ((with_reducible refine gate_dst (N := 3) rfl ?_); refine box_event ?hg (N := 3) ?hd (cs := #[.slice A1_0 l1_0.length c1_0, .int .i64 a1_1, .slice A1_2 l1_2.length c1_2, .slice A1_3 l1_3.length c1_3, .slice A1_4 l1_4.length c1_4]) (t := 30) ?hr ?_; (case hd => rfl); (case hg => rfl); (case hr => first | (go_simp; done) | (go_simp; rfl)); intro gb198 hg w32 hbox hb; have n0_ := am (blk_below (g := gb197) (o := .cells #[.slice A0_0 l0_0.length c0_0, .int .i64 a0_1, .slice A0_2 l0_2.length c0_2, .slice A0_3 l0_3.length c0_3, .slice A0_4 l0_4.length c0_4] 30 (0, 0)) (by (with_reducible repeat (first | refine blk_drewN ?_ _ | refine blk_drew ?_ | refine blk_alloc ?_ _)); exact BK197.out) hb); have n1_ := am (below_step (by repeat (first | (with_reducible first | exact HB.out | apply below_alloc | apply pw_below_drewN | apply below_drew1 | refine below_set ?_ GE197.out) | exact HB.out)) hb); have n2_ := am (hbox); have n3_ := am ((by rw [hg]; exact (below_size (by repeat (first | (with_reducible first | exact HB.out | apply below_alloc | apply pw_below_drewN | apply below_drew1 | refine below_set ?_ GE197.out) | exact HB.out))) : w.heap.size ≤ gb198)); have n4_ := am ((by rw [hg]; exact (below_size (by repeat (first | (with_reducible first | exact HB.out | apply below_alloc | apply pw_below_drewN | apply below_drew1 | refine below_set ?_ GE197.out) | exact HB.out))) : w.heap.size ≤ gb198)); have n5_ := am ((by rw [hg]; exact Nat.ne_of_lt (blk_lt (g := gb197) (o := .cells #[.slice A0_0 l0_0.length c0_0, .int .i64 a0_1, .slice A0_2 l0_2.length c0_2, .slice A0_3 l0_3.length c0_3, .slice A0_4 l0_4.length c0_4] 30 (0, 0)) (by (with_reducible repeat (first | refine blk_drewN ?_ _ | refine blk_drew ?_ | refine blk_alloc ?_ _)); exact BK197.out)) : gb197 ≠ gb198)); have n6_ := am ((by rw [hg]; exact Nat.ne_of_gt (blk_lt (g := gb197) (o := .cells #[.slice A0_0 l0_0.length c0_0, .int .i64 a0_1, .slice A0_2 l0_2.length c0_2, .slice A0_3 l0_3.length c0_3, .slice A0_4 l0_4.length c0_4] 30 (0, 0)) (by (with_reducible repeat (first | refine blk_drewN ?_ _ | refine blk_drew ?_ | refine blk_alloc ?_ _)); exact BK197.out)) : gb198 ≠ gb197)); clear BK197; clear HB; have BK197 := n0_; have HB := n1_; have BK198 := n2_; have GW198 := n3_; have GE198 := n4_; have NB197_198 := n5_; have NB198_197 := n6_; clear n0_ n1_ n2_ n3_ n4_ n5_ n6_; clear hb hbox hg; have hnb33 := NB197_198.out; have hnc33 := NB198_197.out; have hcz34_0 : w32.cell? ⟨gb197, 0, none⟩ = some (.slice A0_0 l0_0.length c0_0) := (blk_cell BK197.out 0).trans rfl; have hcz34_1 : w32.cell? ⟨gb197, 1, none⟩ = some (.int .i64 a0_1) := (blk_cell BK197.out 1).trans rfl; have hcz34_2 : w32.cell? ⟨gb197, 2, none⟩ = some (.slice A0_2 l0_2.length c0_2) := (blk_cell BK197.out 2).trans rfl; have hcz34_3 : w32.cell? ⟨gb197, 3, none⟩ = some (.slice A0_3 l0_3.length c0_3) := (blk_cell BK197.out 3).trans rfl; have hcz34_4 : w32.cell? ⟨gb197, 4, none⟩ = some (.slice A0_4 l0_4.length c0_4) := (blk_cell BK197.out 4).trans rfl; have hfz34_0 := blk_frozen BK197.out 0; have hfz34_1 := blk_frozen BK197.out 1; have hfz34_2 := blk_frozen BK197.out 2; have hfz34_3 := blk_frozen BK197.out 3; have hfz34_4 := blk_frozen BK197.out 4; have hcz35_0 : w32.cell? ⟨gb198, 0, none⟩ = some (.slice A1_0 l1_0.length c1_0) := (blk_cell BK198.out 0).trans rfl; have hcz35_1 : w32.cell? ⟨gb198, 1, none⟩ = some (.int .i64 a1_1) := (blk_cell BK198.out 1).trans rfl; have hcz35_2 : w32.cell? ⟨gb198, 2, none⟩ = some (.slice A1_2 l1_2.length c1_2) := (blk_cell BK198.out 2).trans rfl; have hcz35_3 : w32.cell? ⟨gb198, 3, none⟩ = some (.slice A1_3 l1_3.length c1_3) := (blk_cell BK198.out 3).trans rfl; have hcz35_4 : w32.cell? ⟨gb198, 4, none⟩ = some (.slice A1_4 l1_4.length c1_4) := (blk_cell BK198.out 4).trans rfl; have hfz35_0 := blk_frozen BK198.out 0; have hfz35_1 := blk_frozen BK198.out 1; have hfz35_2 := blk_frozen BK198.out 2; have hfz35_3 := blk_frozen BK198.out 3; have hfz35_4 := blk_frozen BK198.out 4))
  go_ret
  exact ⟨by first | rfl | (simp [errW_none, errW_some] <;> rfl) | (simp [*, errW_none, errW_some] <;> rfl), by repeat (first | (with_reducible first | exact HB.out | apply below_alloc | apply pw_below_drewN | apply below_drew1 | refine below_set ?_ GE197.out | refine below_set ?_ GE198.out) | exact HB.out)⟩
def hypercubelaw1_within.f (a0 : Int) (a1 : Int) : Option (Int) := if a1 = 0 then (none) else (if (Int.tmod a0 a1) < 0 then (some (wrap64 ((Int.tmod a0 a1) + a1))) else (some (Int.tmod a0 a1)))
set_option maxHeartbeats 8000000 in
set_option maxRecDepth 100000 in
theorem hypercubelaw1_within.calls (a0 : Int) (a1 : Int) (r : Int) (w : World) (h : hypercubelaw1_within.f a0 a1 = some r) :
  Calls Try.prog 45 #[.int .i64 a0, .int .i64 a1] w fun e w' => e = .returned (.int .i64 r) ∧ Drawn0 w w' := by
 have H : (if a1 = 0 then (none) else (if (Int.tmod a0 a1) < 0 then (some (wrap64 ((Int.tmod a0 a1) + a1))) else (some (Int.tmod a0 a1)))) = some r := h
 clear h
 by_cases c3 : a1 = 0
 ·rw [if_pos c3] at H
  exact absurd H (by simp)
 ·rw [if_neg c3] at H
  have c3b0 : (a1 == 0) = false := beq_eq_false_iff_ne.mpr c3
  have c3b1 : (a1 != 0) = true := bne_iff_ne.mpr c3
  by_cases c4 : (Int.tmod a0 a1) < 0
  ·rw [if_pos c4] at H
   have c4b0 : decide ((Int.tmod a0 a1) < 0) = true := decide_eq_true c4
   clear c4
   obtain rfl := Option.some.inj H
   go_enter Try.func45, Try.ntmps45
   go_wp2
   go_ret
   exact ⟨by first | rfl | (simp; done) | (simp [*]; done), by repeat (first | exact Drawn0.refl _ | apply Drawn0.step)⟩
  ·rw [if_neg c4] at H
   have c4b0 : decide ((Int.tmod a0 a1) < 0) = false := decide_eq_false c4
   clear c4
   obtain rfl := Option.some.inj H
   go_enter Try.func45, Try.ntmps45
   go_wp2
   go_ret
   exact ⟨by first | rfl | (simp; done) | (simp [*]; done), by repeat (first | exact Drawn0.refl _ | apply Drawn0.step)⟩
def hypercuberef2_Same.l0 : Nat → List (S30) → List (S30) → Int → Option (Bool)
 | 0, _, _, _ => none
 | k + 1, x0, x1, x5 => if x5 < (x0.length : Int) then (if 0 ≤ x5 then (if x5 < (x1.length : Int) then ((hypercuberef2_Equal.f k ((rd_T30 x0 x5).f0) ((rd_T30 x0 x5).f1) ((rd_T30 x0 x5).f2) ((rd_T30 x0 x5).f3) ((rd_T30 x0 x5).f4) ((rd_T30 x1 x5).f0) ((rd_T30 x1 x5).f1) ((rd_T30 x1 x5).f2) ((rd_T30 x1 x5).f3) ((rd_T30 x1 x5).f4)).bind fun t404 => (if t404 = true then (hypercuberef2_Same.l0 k x0 x1 (wrap64 (x5 + 1))) else (some false))) else (none)) else (none)) else (some true)
def hypercuberef2_Same.f (k : Nat) (l0 : List (S30)) (l1 : List (S30)) : Option (Bool) := if (l0.length : Int) = (l1.length : Int) then (hypercuberef2_Same.l0 k l0 l1 0) else (some false)
def hypercuberef2_Same.T6 : Bool × List (List Nat × List Nat) := (true, [([], []), ([], []), ([0, 1], [0, 1]), ([2], [2]), ([], []), ([], []), ([4, 5], [4, 5]), ([6], [6]), ([3, 7], [3, 7]), ([8], [8])])
def hypercuberef2_Same.B6 : List Nat := [0, 0, 3, 7, 0, 0, 48, 112, 255, 511]
theorem hypercuberef2_Same.tab6 : rtab .any (opsOf Try.f27 6) = hypercuberef2_Same.T6 := by kernel_rfl
theorem hypercuberef2_Same.bits6 : waitsOk hypercuberef2_Same.T6.2 hypercuberef2_Same.B6 = true := by kernel_rfl
set_option maxHeartbeats 8000000 in
set_option maxRecDepth 100000 in
theorem hypercuberef2_Same.calls (k : Nat) (A0 : Option Addr) (c0 : Nat) (l0 : List (S30)) (A1 : Option Addr) (c1 : Nat) (l1 : List (S30)) (r : Bool) (w : World) (hr0 : Kd.C k30 w A0 l0.length l0) (hc0 : l0.length ≤ c0) (hr1 : Kd.C k30 w A1 l1.length l1) (hc1 : l1.length ≤ c1) (h : hypercuberef2_Same.f k l0 l1 = some r) :
  Calls Try.prog 27 #[.slice A0 l0.length c0, .slice A1 l1.length c1] w fun e w' => e = .returned (.bool r) ∧ Below w.heap.size w w' := by
 have hu30 := Try.underlying30
 have HR0 := am hr0
 have HC0 := am hc0
 clear hr0 hc0
 have HR1 := am hr1
 have HC1 := am hc1
 clear hr1 hc1
 have HB := am (Below.refl w.heap.size w)
 have H : (if (l0.length : Int) = (l1.length : Int) then (hypercuberef2_Same.l0 k l0 l1 0) else (some false)) = some r := h
 clear h
 by_cases c3 : (l0.length : Int) = (l1.length : Int)
 ·rw [if_pos c3] at H
  have c3b0 : ((l0.length : Int) == (l1.length : Int)) = true := beq_iff_eq.mpr c3
  have c3b1 : ((l0.length : Int) != (l1.length : Int)) = false := bne_eq_false_iff_eq.mpr c3
  have c3b2 : (l0.length == l1.length) = true := by first | simpa using c3 | (simp at c3 ⊢; omega)
  clear c3
  have H' := am H
  clear H
  go_enter Try.func27, Try.ntmps27
  go_wp2
  go_loopg [5] k (fun kq v5 w' => ∃ (x5_1 : Int), v5 = .int .i64 x5_1 ∧ Aside0 (hypercuberef2_Same.l0 kq l0 l1 x5_1 = some r) ∧ Aside0 (kq ≤ k) ∧ Aside0 (Below w.heap.size w w'))
  case atStart => exact ⟨(0), (by first | rfl | (simp; done) | (simp [*]; done)), H', ⟨Nat.le_refl _⟩, ⟨by repeat (first | (with_reducible first | exact HB.out | apply below_alloc | apply pw_below_drewN | apply below_drew1) | exact HB.out)⟩⟩
  case round =>
   clear H'
   try clear c1
   try clear c2
   try clear p2
   try clear c3
   try clear c3b0
   try clear c3b1
   try clear c3b2
   obtain ⟨x5_1, rfl, HA, HK1, HB⟩ := hrel
   cases gk with
   | zero => exact absurd HA.out (by simp [hypercuberef2_Same.l0])
   | succ k1 =>
    have H := HA.out
    clear HA
    simp only [hypercuberef2_Same.l0] at H
    by_cases c4 : x5_1 < (l0.length : Int)
    ·rw [if_pos c4] at H
     have c4b0 : decide (x5_1 < (l0.length : Int)) = true := decide_eq_true c4
     clear c4
     by_cases c5 : 0 ≤ x5_1
     ·rw [if_pos c5] at H
      have c5b0 : decide (0 ≤ x5_1) = true := decide_eq_true c5
      clear c5
      by_cases c6 : x5_1 < (l1.length : Int)
      ·rw [if_pos c6] at H
       have c6b0 : decide (x5_1 < (l1.length : Int)) = true := decide_eq_true c6
       clear c6
       replace H := Option.bind_eq_some_iff.mp H
       obtain ⟨t404, A70, H⟩ := H
       replace H : (if t404 = true then (hypercuberef2_Same.l0 k1 l0 l1 (wrap64 (x5_1 + 1))) else (some false)) = some r := H
       have A7 := am A70
       clear A70
       by_cases c8 : t404 = true
       ·subst c8
        have H1 : (hypercuberef2_Same.l0 k1 l0 l1 (wrap64 (x5_1 + 1))) = some r := by rw [if_pos rfl] at H; exact H
        clear H
        have H := H1
        clear H1
        have H' := am H
        clear H
        try go_wp2
        have n0_ := am (below_drew1 HB.out)
        clear HB
        have HB := n0_
        clear n0_
        have p402 : 0 ≤ (x5_1 : Int) := of_decide_eq_true (by first | (with_reducible assumption) | assumption)
        have q402 : x5_1 < (l0.length : Int) := of_decide_eq_true (by first | (with_reducible assumption) | assumption)
        obtain ⟨ad402, A402_0, c402_0, A402_2, c402_2, A402_3, c402_3, A402_4, c402_4, e402, hx402_0, hx402_1, hx402_2, hx402_3, hx402_4, hl402_0, hi402_0, hl402_2, hi402_2, hl402_3, hi402_3, hl402_4, hi402_4⟩ := at_T30 HR0.out x5_1 p402 q402
        have hw402_4 := hx402_4
        have hw402_3 := hx402_3
        have hw402_2 := hx402_2
        have hw402_1 := hx402_1
        have hw402_0 := hx402_0
        cases e402
        replace hx402_0 := (HB.out.cell (World.block_lt_of_cell? w _ hx402_0)).trans hx402_0
        replace hx402_1 := (HB.out.cell (World.block_lt_of_cell? w _ hx402_1)).trans hx402_1
        replace hx402_2 := (HB.out.cell (World.block_lt_of_cell? w _ hx402_2)).trans hx402_2
        replace hx402_3 := (HB.out.cell (World.block_lt_of_cell? w _ hx402_3)).trans hx402_3
        replace hx402_4 := (HB.out.cell (World.block_lt_of_cell? w _ hx402_4)).trans hx402_4
        have HR402_0 := am hi402_0
        have HC402_0 := am hl402_0
        clear hi402_0 hl402_0
        have HR402_2 := am hi402_2
        have HC402_2 := am hl402_2
        clear hi402_2 hl402_2
        have HR402_3 := am hi402_3
        have HC402_3 := am hl402_3
        clear hi402_3 hl402_3
        have HR402_4 := am hi402_4
        have HC402_4 := am hl402_4
        clear hi402_4 hl402_4
        replace p402 := eq_true p402
        replace q402 := eq_true q402
        have p403 : 0 ≤ (x5_1 : Int) := of_decide_eq_true (by first | (with_reducible assumption) | assumption)
        have q403 : x5_1 < (l1.length : Int) := of_decide_eq_true (by first | (with_reducible assumption) | assumption)
        obtain ⟨ad403, A403_0, c403_0, A403_2, c403_2, A403_3, c403_3, A403_4, c403_4, e403, hx403_0, hx403_1, hx403_2, hx403_3, hx403_4, hl403_0, hi403_0, hl403_2, hi403_2, hl403_3, hi403_3, hl403_4, hi403_4⟩ := at_T30 HR1.out x5_1 p403 q403
        have hw403_4 := hx403_4
        have hw403_3 := hx403_3
        have hw403_2 := hx403_2
        have hw403_1 := hx403_1
        have hw403_0 := hx403_0
        cases e403
        replace hx403_0 := (HB.out.cell (World.block_lt_of_cell? w _ hx403_0)).trans hx403_0
        replace hx403_1 := (HB.out.cell (World.block_lt_of_cell? w _ hx403_1)).trans hx403_1
        replace hx403_2 := (HB.out.cell (World.block_lt_of_cell? w _ hx403_2)).trans hx403_2
        replace hx403_3 := (HB.out.cell (World.block_lt_of_cell? w _ hx403_3)).trans hx403_3
        replace hx403_4 := (HB.out.cell (World.block_lt_of_cell? w _ hx403_4)).trans hx403_4
        have HR403_0 := am hi403_0
        have HC403_0 := am hl403_0
        clear hi403_0 hl403_0
        have HR403_2 := am hi403_2
        have HC403_2 := am hl403_2
        clear hi403_2 hl403_2
        have HR403_3 := am hi403_3
        have HC403_3 := am hl403_3
        clear hi403_3 hl403_3
        have HR403_4 := am hi403_4
        have HC403_4 := am hl403_4
        clear hi403_4 hl403_4
        replace p403 := eq_true p403
        replace q403 := eq_true q403
        refine start_ (n := 10) (S := fun w' => w'.cell? (ad402.add ((x5_1).toNat * 5)) = some (.slice A402_0 ((rd_T30 l0 x5_1).f0).length c402_0) ∧ w'.cell? ⟨(ad402.add ((x5_1).toNat * 5)).block, (ad402.add ((x5_1).toNat * 5)).off + 1, none⟩ = some (.int .i64 ((rd_T30 l0 x5_1).f1)) ∧ w'.cell? ⟨(ad402.add ((x5_1).toNat * 5)).block, (ad402.add ((x5_1).toNat * 5)).off + 2, none⟩ = some (.slice A402_2 ((rd_T30 l0 x5_1).f2).length c402_2) ∧ w'.cell? ⟨(ad402.add ((x5_1).toNat * 5)).block, (ad402.add ((x5_1).toNat * 5)).off + 3, none⟩ = some (.slice A402_3 ((rd_T30 l0 x5_1).f3).length c402_3) ∧ w'.cell? ⟨(ad402.add ((x5_1).toNat * 5)).block, (ad402.add ((x5_1).toNat * 5)).off + 4, none⟩ = some (.slice A402_4 ((rd_T30 l0 x5_1).f4).length c402_4) ∧ w'.cell? (ad403.add ((x5_1).toNat * 5)) = some (.slice A403_0 ((rd_T30 l1 x5_1).f0).length c403_0) ∧ w'.cell? ⟨(ad403.add ((x5_1).toNat * 5)).block, (ad403.add ((x5_1).toNat * 5)).off + 1, none⟩ = some (.int .i64 ((rd_T30 l1 x5_1).f1)) ∧ w'.cell? ⟨(ad403.add ((x5_1).toNat * 5)).block, (ad403.add ((x5_1).toNat * 5)).off + 2, none⟩ = some (.slice A403_2 ((rd_T30 l1 x5_1).f2).length c403_2) ∧ w'.cell? ⟨(ad403.add ((x5_1).toNat * 5)).block, (ad403.add ((x5_1).toNat * 5)).off + 3, none⟩ = some (.slice A403_3 ((rd_T30 l1 x5_1).f3).length c403_3) ∧ w'.cell? ⟨(ad403.add ((x5_1).toNat * 5)).block, (ad403.add ((x5_1).toNat * 5)).off + 4, none⟩ = some (.slice A403_4 ((rd_T30 l1 x5_1).f4).length c403_4)) (ds := []) (bb 10 0) (by kernel_rfl) rfl rfl ⟨((HB.out.cell (World.block_lt_of_cell? w _ hw402_0)).trans hw402_0), ((HB.out.cell (World.block_lt_of_cell? w _ hw402_1)).trans hw402_1), ((HB.out.cell (World.block_lt_of_cell? w _ hw402_2)).trans hw402_2), ((HB.out.cell (World.block_lt_of_cell? w _ hw402_3)).trans hw402_3), ((HB.out.cell (World.block_lt_of_cell? w _ hw402_4)).trans hw402_4), ((HB.out.cell (World.block_lt_of_cell? w _ hw403_0)).trans hw403_0), ((HB.out.cell (World.block_lt_of_cell? w _ hw403_1)).trans hw403_1), ((HB.out.cell (World.block_lt_of_cell? w _ hw403_2)).trans hw403_2), ((HB.out.cell (World.block_lt_of_cell? w _ hw403_3)).trans hw403_3), ((HB.out.cell (World.block_lt_of_cell? w _ hw403_4)).trans hw403_4)⟩ (fun hHeld => ?_); refine with_tabW hypercuberef2_Same.tab6 hypercuberef2_Same.bits6 (fun HT_ HW_ => ?_)
        generalize wr.drew = w9 at HB HR402_0 HR402_2 HR402_3 HR402_4 HR403_0 HR403_2 HR403_3 HR403_4 hx402_0 hx402_1 hx402_2 hx402_3 hx402_4 hx403_0 hx403_1 hx403_2 hx403_3 hx403_4 hHeld ⊢
        refine pure_ (i := 0) (N := some 17) (v := ?_) (a' := ?_) (bb 10 1) rfl rfl (any_of HT_.out (by kernel_rfl)) (fun _ _ _ h => h) (Or.inl ⟨by rfl, ?_⟩) ?_ ?_
        rotate_left
        ·intro w'
         go_simp
         with_reducible rfl
        rotate_left
        ·simp only [Act.put, List.setIfInBounds_toArray, List.set_cons_zero, List.set_cons_succ, i64_w, i32_w]
         rfl
        refine pure_ (i := 1) (N := some 18) (v := ?_) (a' := ?_) (bb 10 3) rfl rfl (any_of HT_.out (by kernel_rfl)) (fun _ _ _ h => h) (Or.inl ⟨by rfl, ?_⟩) ?_ ?_
        rotate_left
        ·intro w'
         go_simp
         with_reducible rfl
        rotate_left
        ·simp only [Act.put, List.setIfInBounds_toArray, List.set_cons_zero, List.set_cons_succ, i64_w, i32_w]
         rfl
        refine pure_ (i := 2) (N := some 19) (v := ?_) (a' := ?_) (bb 10 7) rfl rfl (any_of HT_.out (by kernel_rfl)) (fun _ _ _ h => h) (Or.inl ⟨by rfl, ?_⟩) ?_ ?_
        rotate_left
        ·intro w'
         go_simp
         with_reducible rfl
        rotate_left
        ·simp only [Act.put, List.setIfInBounds_toArray, List.set_cons_zero, List.set_cons_succ, i64_w, i32_w]
         rfl
        refine pure_ (i := 4) (N := some 21) (v := ?_) (a' := ?_) (bb 10 23) rfl rfl (any_of HT_.out (by kernel_rfl)) (fun _ _ _ h => h) (Or.inl ⟨by rfl, ?_⟩) ?_ ?_
        rotate_left
        ·intro w'
         go_simp
         with_reducible rfl
        rotate_left
        ·simp only [Act.put, List.setIfInBounds_toArray, List.set_cons_zero, List.set_cons_succ, i64_w, i32_w]
         rfl
        refine pure_ (i := 5) (N := some 22) (v := ?_) (a' := ?_) (bb 10 55) rfl rfl (any_of HT_.out (by kernel_rfl)) (fun _ _ _ h => h) (Or.inl ⟨by rfl, ?_⟩) ?_ ?_
        rotate_left
        ·intro w'
         go_simp
         with_reducible rfl
        rotate_left
        ·simp only [Act.put, List.setIfInBounds_toArray, List.set_cons_zero, List.set_cons_succ, i64_w, i32_w]
         rfl
        refine pure_ (i := 6) (N := some 23) (v := ?_) (a' := ?_) (bb 10 119) rfl rfl (any_of HT_.out (by kernel_rfl)) (fun _ _ _ h => h) (Or.inl ⟨by rfl, ?_⟩) ?_ ?_
        rotate_left
        ·intro w'
         go_simp
         with_reducible rfl
        rotate_left
        ·simp only [Act.put, List.setIfInBounds_toArray, List.set_cons_zero, List.set_cons_succ, i64_w, i32_w]
         rfl
        refine take_ (i := 3) (N := some 20) (v := ?_) (a' := ?_) (bb 10 127) rfl rfl (take_ofW HT_.out HW_.out (by kernel_rfl)) (fun _ _ _ h => h) (Or.inl ⟨by rfl, ?_⟩) hHeld ?_ ?_
        rotate_left
        ·rintro w' ⟨s0, s1, s2, s3, s4, s5, s6, s7, s8, s9⟩
         go_simp
         with_reducible rfl
        rotate_left
        ·simp only [Act.put, List.setIfInBounds_toArray, List.set_cons_zero, List.set_cons_succ, i64_w, i32_w]
         rfl
        refine take_ (i := 7) (N := some 24) (v := ?_) (a' := ?_) (bb 10 255) rfl rfl (take_ofW HT_.out HW_.out (by kernel_rfl)) (fun _ _ _ h => h) (Or.inl ⟨by rfl, ?_⟩) hHeld ?_ ?_
        rotate_left
        ·rintro w' ⟨s0, s1, s2, s3, s4, s5, s6, s7, s8, s9⟩
         go_simp
         with_reducible rfl
        rotate_left
        ·simp only [Act.put, List.setIfInBounds_toArray, List.set_cons_zero, List.set_cons_succ, i64_w, i32_w]
         rfl
        refine one_ (i := 8) (N := some 25) (bb 10 511) rfl rfl (one_of HT_.out (by kernel_rfl)) (by decide) (fun K hK => ?_)
        refine goes_ Try.func22 (by kernel_rfl) rfl #[.agg #[.slice A402_0 ((rd_T30 l0 x5_1).f0).length c402_0, .int .i64 ((rd_T30 l0 x5_1).f1), .slice A402_2 ((rd_T30 l0 x5_1).f2).length c402_2, .slice A402_3 ((rd_T30 l0 x5_1).f3).length c402_3, .slice A402_4 ((rd_T30 l0 x5_1).f4).length c402_4], .agg #[.slice A403_0 ((rd_T30 l1 x5_1).f0).length c403_0, .int .i64 ((rd_T30 l1 x5_1).f1), .slice A403_2 ((rd_T30 l1 x5_1).f2).length c403_2, .slice A403_3 ((rd_T30 l1 x5_1).f3).length c403_3, .slice A403_4 ((rd_T30 l1 x5_1).f4).length c403_4]] (by rfl) rfl rfl (by (try simp only [List.map_toArray, List.map_cons, List.map_nil]); first | done | rfl | (simp only [List.length_drop, List.length_take]; rfl)) ?_
        with_reducible refine (hypercuberef2_Equal.calls k1 _ _ ((rd_T30 l0 x5_1).f0) ((rd_T30 l0 x5_1).f1) _ _ ((rd_T30 l0 x5_1).f2) _ _ ((rd_T30 l0 x5_1).f3) _ _ ((rd_T30 l0 x5_1).f4) _ _ ((rd_T30 l1 x5_1).f0) ((rd_T30 l1 x5_1).f1) _ _ ((rd_T30 l1 x5_1).f2) _ _ ((rd_T30 l1 x5_1).f3) _ _ ((rd_T30 l1 x5_1).f4) true _ ?side1 ?side2 ?side3 ?side4 ?side5 ?side6 ?side7 ?side8 ?side9 ?side10 ?side11 ?side12 ?side13 ?side14 ?side15 ?side16 A7.out).mono ?_
        (case side1 => repeat (first | exact (Kd.C_below HR402_0.out HB.out) | (with_reducible refine Kd.C_alloc ?_ _) | (with_reducible refine Kd.C_drewN ?_ _) | (with_reducible refine Kd.C_drew ?_)))
        (case side2 => exact HC402_0.out)
        (case side3 => repeat (first | exact (Kd.C_below HR402_2.out HB.out) | (with_reducible refine Kd.C_alloc ?_ _) | (with_reducible refine Kd.C_drewN ?_ _) | (with_reducible refine Kd.C_drew ?_)))
        (case side4 => exact HC402_2.out)
        (case side5 => repeat (first | exact (Kd.C_below HR402_3.out HB.out) | (with_reducible refine Kd.C_alloc ?_ _) | (with_reducible refine Kd.C_drewN ?_ _) | (with_reducible refine Kd.C_drew ?_)))
        (case side6 => exact HC402_3.out)
        (case side7 => repeat (first | exact (Kd.C_below HR402_4.out HB.out) | (with_reducible refine Kd.C_alloc ?_ _) | (with_reducible refine Kd.C_drewN ?_ _) | (with_reducible refine Kd.C_drew ?_)))
        (case side8 => exact HC402_4.out)
        (case side9 => repeat (first | exact (Kd.C_below HR403_0.out HB.out) | (with_reducible refine Kd.C_alloc ?_ _) | (with_reducible refine Kd.C_drewN ?_ _) | (with_reducible refine Kd.C_drew ?_)))
        (case side10 => exact HC403_0.out)
        (case side11 => repeat (first | exact (Kd.C_below HR403_2.out HB.out) | (with_reducible refine Kd.C_alloc ?_ _) | (with_reducible refine Kd.C_drewN ?_ _) | (with_reducible refine Kd.C_drew ?_)))
        (case side12 => exact HC403_2.out)
        (case side13 => repeat (first | exact (Kd.C_below HR403_3.out HB.out) | (with_reducible refine Kd.C_alloc ?_ _) | (with_reducible refine Kd.C_drewN ?_ _) | (with_reducible refine Kd.C_drew ?_)))
        (case side14 => exact HC403_3.out)
        (case side15 => repeat (first | exact (Kd.C_below HR403_4.out HB.out) | (with_reducible refine Kd.C_alloc ?_ _) | (with_reducible refine Kd.C_drewN ?_ _) | (with_reducible refine Kd.C_drew ?_)))
        (case side16 => exact HC403_4.out)
        rintro e w10 ⟨rfl, hb⟩
        refine ⟨_, rfl, ?_⟩
        have n0_ := am (below_step (by repeat (first | (with_reducible first | exact HB.out | apply below_alloc | apply pw_below_drewN | apply below_drew1) | exact HB.out)) hb)
        clear HB
        have HB := n0_
        clear n0_
        (try clear hb)
        (try clear hb2)
        (try clear hk)
        (try clear hi)
        refine hK.out _ _ ⟨((HB.out.cell (World.block_lt_of_cell? w _ hw402_0)).trans hw402_0), ((HB.out.cell (World.block_lt_of_cell? w _ hw402_1)).trans hw402_1), ((HB.out.cell (World.block_lt_of_cell? w _ hw402_2)).trans hw402_2), ((HB.out.cell (World.block_lt_of_cell? w _ hw402_3)).trans hw402_3), ((HB.out.cell (World.block_lt_of_cell? w _ hw402_4)).trans hw402_4), ((HB.out.cell (World.block_lt_of_cell? w _ hw403_0)).trans hw403_0), ((HB.out.cell (World.block_lt_of_cell? w _ hw403_1)).trans hw403_1), ((HB.out.cell (World.block_lt_of_cell? w _ hw403_2)).trans hw403_2), ((HB.out.cell (World.block_lt_of_cell? w _ hw403_3)).trans hw403_3), ((HB.out.cell (World.block_lt_of_cell? w _ hw403_4)).trans hw403_4)⟩ (fun hHeld => ?_)
        clear hK K
        refine norm_ (a' := ?_) ?_ ?_
        rotate_left
        ·show Act.put _ (some 25) _ = _
         simp only [Act.put, List.setIfInBounds_toArray, List.set_cons_zero, List.set_cons_succ, i64_w, i32_w]
         rfl
        refine pure_ (i := 9) (N := some 26) (v := ?_) (a' := ?_) (bb 10 1023) rfl rfl (any_of HT_.out (by kernel_rfl)) (fun _ _ _ h => h) (Or.inl ⟨by rfl, ?_⟩) ?_ ?_
        rotate_left
        ·intro w'
         go_simp
         with_reducible rfl
        rotate_left
        ·simp only [Act.put, List.setIfInBounds_toArray, List.set_cons_zero, List.set_cons_succ, i64_w, i32_w]
         rfl
        refine done_ (done_of HT_.out (by kernel_rfl)) ?_
        try go_wp2
        go_roundg k1
        case measure => have := HK1.out; omega
        case rel => exact ⟨(wrap64 (x5_1 + 1)), (by first | rfl | (simp; done) | (simp [*]; done)), H', ⟨by have := HK1.out; omega⟩, ⟨by repeat (first | (with_reducible first | exact HB.out | apply below_alloc | apply pw_below_drewN | apply below_drew1) | exact HB.out)⟩⟩
       ·replace c8 := Bool.eq_false_iff.mpr c8
        subst c8
        have H1 : (some false) = some r := by rw [if_neg (show ¬ (false = true) by decide)] at H; exact H
        clear H
        have H := H1
        clear H1
        obtain rfl := Option.some.inj H
        try go_wp2
        have n0_ := am (below_drew1 HB.out)
        clear HB
        have HB := n0_
        clear n0_
        have p402 : 0 ≤ (x5_1 : Int) := of_decide_eq_true (by first | (with_reducible assumption) | assumption)
        have q402 : x5_1 < (l0.length : Int) := of_decide_eq_true (by first | (with_reducible assumption) | assumption)
        obtain ⟨ad402, A402_0, c402_0, A402_2, c402_2, A402_3, c402_3, A402_4, c402_4, e402, hx402_0, hx402_1, hx402_2, hx402_3, hx402_4, hl402_0, hi402_0, hl402_2, hi402_2, hl402_3, hi402_3, hl402_4, hi402_4⟩ := at_T30 HR0.out x5_1 p402 q402
        have hw402_4 := hx402_4
        have hw402_3 := hx402_3
        have hw402_2 := hx402_2
        have hw402_1 := hx402_1
        have hw402_0 := hx402_0
        cases e402
        replace hx402_0 := (HB.out.cell (World.block_lt_of_cell? w _ hx402_0)).trans hx402_0
        replace hx402_1 := (HB.out.cell (World.block_lt_of_cell? w _ hx402_1)).trans hx402_1
        replace hx402_2 := (HB.out.cell (World.block_lt_of_cell? w _ hx402_2)).trans hx402_2
        replace hx402_3 := (HB.out.cell (World.block_lt_of_cell? w _ hx402_3)).trans hx402_3
        replace hx402_4 := (HB.out.cell (World.block_lt_of_cell? w _ hx402_4)).trans hx402_4
        have HR402_0 := am hi402_0
        have HC402_0 := am hl402_0
        clear hi402_0 hl402_0
        have HR402_2 := am hi402_2
        have HC402_2 := am hl402_2
        clear hi402_2 hl402_2
        have HR402_3 := am hi402_3
        have HC402_3 := am hl402_3
        clear hi402_3 hl402_3
        have HR402_4 := am hi402_4
        have HC402_4 := am hl402_4
        clear hi402_4 hl402_4
        replace p402 := eq_true p402
        replace q402 := eq_true q402
        have p403 : 0 ≤ (x5_1 : Int) := of_decide_eq_true (by first | (with_reducible assumption) | assumption)
        have q403 : x5_1 < (l1.length : Int) := of_decide_eq_true (by first | (with_reducible assumption) | assumption)
        obtain ⟨ad403, A403_0, c403_0, A403_2, c403_2, A403_3, c403_3, A403_4, c403_4, e403, hx403_0, hx403_1, hx403_2, hx403_3, hx403_4, hl403_0, hi403_0, hl403_2, hi403_2, hl403_3, hi403_3, hl403_4, hi403_4⟩ := at_T30 HR1.out x5_1 p403 q403
        have hw403_4 := hx403_4
        have hw403_3 := hx403_3
        have hw403_2 := hx403_2
        have hw403_1 := hx403_1
        have hw403_0 := hx403_0
        cases e403
        replace hx403_0 := (HB.out.cell (World.block_lt_of_cell? w _ hx403_0)).trans hx403_0
        replace hx403_1 := (HB.out.cell (World.block_lt_of_cell? w _ hx403_1)).trans hx403_1
        replace hx403_2 := (HB.out.cell (World.block_lt_of_cell? w _ hx403_2)).trans hx403_2
        replace hx403_3 := (HB.out.cell (World.block_lt_of_cell? w _ hx403_3)).trans hx403_3
        replace hx403_4 := (HB.out.cell (World.block_lt_of_cell? w _ hx403_4)).trans hx403_4
        have HR403_0 := am hi403_0
        have HC403_0 := am hl403_0
        clear hi403_0 hl403_0
        have HR403_2 := am hi403_2
        have HC403_2 := am hl403_2
        clear hi403_2 hl403_2
        have HR403_3 := am hi403_3
        have HC403_3 := am hl403_3
        clear hi403_3 hl403_3
        have HR403_4 := am hi403_4
        have HC403_4 := am hl403_4
        clear hi403_4 hl403_4
        replace p403 := eq_true p403
        replace q403 := eq_true q403
        refine start_ (n := 10) (S := fun w' => w'.cell? (ad402.add ((x5_1).toNat * 5)) = some (.slice A402_0 ((rd_T30 l0 x5_1).f0).length c402_0) ∧ w'.cell? ⟨(ad402.add ((x5_1).toNat * 5)).block, (ad402.add ((x5_1).toNat * 5)).off + 1, none⟩ = some (.int .i64 ((rd_T30 l0 x5_1).f1)) ∧ w'.cell? ⟨(ad402.add ((x5_1).toNat * 5)).block, (ad402.add ((x5_1).toNat * 5)).off + 2, none⟩ = some (.slice A402_2 ((rd_T30 l0 x5_1).f2).length c402_2) ∧ w'.cell? ⟨(ad402.add ((x5_1).toNat * 5)).block, (ad402.add ((x5_1).toNat * 5)).off + 3, none⟩ = some (.slice A402_3 ((rd_T30 l0 x5_1).f3).length c402_3) ∧ w'.cell? ⟨(ad402.add ((x5_1).toNat * 5)).block, (ad402.add ((x5_1).toNat * 5)).off + 4, none⟩ = some (.slice A402_4 ((rd_T30 l0 x5_1).f4).length c402_4) ∧ w'.cell? (ad403.add ((x5_1).toNat * 5)) = some (.slice A403_0 ((rd_T30 l1 x5_1).f0).length c403_0) ∧ w'.cell? ⟨(ad403.add ((x5_1).toNat * 5)).block, (ad403.add ((x5_1).toNat * 5)).off + 1, none⟩ = some (.int .i64 ((rd_T30 l1 x5_1).f1)) ∧ w'.cell? ⟨(ad403.add ((x5_1).toNat * 5)).block, (ad403.add ((x5_1).toNat * 5)).off + 2, none⟩ = some (.slice A403_2 ((rd_T30 l1 x5_1).f2).length c403_2) ∧ w'.cell? ⟨(ad403.add ((x5_1).toNat * 5)).block, (ad403.add ((x5_1).toNat * 5)).off + 3, none⟩ = some (.slice A403_3 ((rd_T30 l1 x5_1).f3).length c403_3) ∧ w'.cell? ⟨(ad403.add ((x5_1).toNat * 5)).block, (ad403.add ((x5_1).toNat * 5)).off + 4, none⟩ = some (.slice A403_4 ((rd_T30 l1 x5_1).f4).length c403_4)) (ds := []) (bb 10 0) (by kernel_rfl) rfl rfl ⟨((HB.out.cell (World.block_lt_of_cell? w _ hw402_0)).trans hw402_0), ((HB.out.cell (World.block_lt_of_cell? w _ hw402_1)).trans hw402_1), ((HB.out.cell (World.block_lt_of_cell? w _ hw402_2)).trans hw402_2), ((HB.out.cell (World.block_lt_of_cell? w _ hw402_3)).trans hw402_3), ((HB.out.cell (World.block_lt_of_cell? w _ hw402_4)).trans hw402_4), ((HB.out.cell (World.block_lt_of_cell? w _ hw403_0)).trans hw403_0), ((HB.out.cell (World.block_lt_of_cell? w _ hw403_1)).trans hw403_1), ((HB.out.cell (World.block_lt_of_cell? w _ hw403_2)).trans hw403_2), ((HB.out.cell (World.block_lt_of_cell? w _ hw403_3)).trans hw403_3), ((HB.out.cell (World.block_lt_of_cell? w _ hw403_4)).trans hw403_4)⟩ (fun hHeld => ?_); refine with_tabW hypercuberef2_Same.tab6 hypercuberef2_Same.bits6 (fun HT_ HW_ => ?_)
        generalize wr.drew = w11 at HB HR402_0 HR402_2 HR402_3 HR402_4 HR403_0 HR403_2 HR403_3 HR403_4 hx402_0 hx402_1 hx402_2 hx402_3 hx402_4 hx403_0 hx403_1 hx403_2 hx403_3 hx403_4 hHeld ⊢
        refine pure_ (i := 0) (N := some 17) (v := ?_) (a' := ?_) (bb 10 1) rfl rfl (any_of HT_.out (by kernel_rfl)) (fun _ _ _ h => h) (Or.inl ⟨by rfl, ?_⟩) ?_ ?_
        rotate_left
        ·intro w'
         go_simp
         with_reducible rfl
        rotate_left
        ·simp only [Act.put, List.setIfInBounds_toArray, List.set_cons_zero, List.set_cons_succ, i64_w, i32_w]
         rfl
        refine pure_ (i := 1) (N := some 18) (v := ?_) (a' := ?_) (bb 10 3) rfl rfl (any_of HT_.out (by kernel_rfl)) (fun _ _ _ h => h) (Or.inl ⟨by rfl, ?_⟩) ?_ ?_
        rotate_left
        ·intro w'
         go_simp
         with_reducible rfl
        rotate_left
        ·simp only [Act.put, List.setIfInBounds_toArray, List.set_cons_zero, List.set_cons_succ, i64_w, i32_w]
         rfl
        refine pure_ (i := 2) (N := some 19) (v := ?_) (a' := ?_) (bb 10 7) rfl rfl (any_of HT_.out (by kernel_rfl)) (fun _ _ _ h => h) (Or.inl ⟨by rfl, ?_⟩) ?_ ?_
        rotate_left
        ·intro w'
         go_simp
         with_reducible rfl
        rotate_left
        ·simp only [Act.put, List.setIfInBounds_toArray, List.set_cons_zero, List.set_cons_succ, i64_w, i32_w]
         rfl
        refine pure_ (i := 4) (N := some 21) (v := ?_) (a' := ?_) (bb 10 23) rfl rfl (any_of HT_.out (by kernel_rfl)) (fun _ _ _ h => h) (Or.inl ⟨by rfl, ?_⟩) ?_ ?_
        rotate_left
        ·intro w'
         go_simp
         with_reducible rfl
        rotate_left
        ·simp only [Act.put, List.setIfInBounds_toArray, List.set_cons_zero, List.set_cons_succ, i64_w, i32_w]
         rfl
        refine pure_ (i := 5) (N := some 22) (v := ?_) (a' := ?_) (bb 10 55) rfl rfl (any_of HT_.out (by kernel_rfl)) (fun _ _ _ h => h) (Or.inl ⟨by rfl, ?_⟩) ?_ ?_
        rotate_left
        ·intro w'
         go_simp
         with_reducible rfl
        rotate_left
        ·simp only [Act.put, List.setIfInBounds_toArray, List.set_cons_zero, List.set_cons_succ, i64_w, i32_w]
         rfl
        refine pure_ (i := 6) (N := some 23) (v := ?_) (a' := ?_) (bb 10 119) rfl rfl (any_of HT_.out (by kernel_rfl)) (fun _ _ _ h => h) (Or.inl ⟨by rfl, ?_⟩) ?_ ?_
        rotate_left
        ·intro w'
         go_simp
         with_reducible rfl
        rotate_left
        ·simp only [Act.put, List.setIfInBounds_toArray, List.set_cons_zero, List.set_cons_succ, i64_w, i32_w]
         rfl
        refine take_ (i := 3) (N := some 20) (v := ?_) (a' := ?_) (bb 10 127) rfl rfl (take_ofW HT_.out HW_.out (by kernel_rfl)) (fun _ _ _ h => h) (Or.inl ⟨by rfl, ?_⟩) hHeld ?_ ?_
        rotate_left
        ·rintro w' ⟨s0, s1, s2, s3, s4, s5, s6, s7, s8, s9⟩
         go_simp
         with_reducible rfl
        rotate_left
        ·simp only [Act.put, List.setIfInBounds_toArray, List.set_cons_zero, List.set_cons_succ, i64_w, i32_w]
         rfl
        refine take_ (i := 7) (N := some 24) (v := ?_) (a' := ?_) (bb 10 255) rfl rfl (take_ofW HT_.out HW_.out (by kernel_rfl)) (fun _ _ _ h => h) (Or.inl ⟨by rfl, ?_⟩) hHeld ?_ ?_
        rotate_left
        ·rintro w' ⟨s0, s1, s2, s3, s4, s5, s6, s7, s8, s9⟩
         go_simp
         with_reducible rfl
        rotate_left
        ·simp only [Act.put, List.setIfInBounds_toArray, List.set_cons_zero, List.set_cons_succ, i64_w, i32_w]
         rfl
        refine one_ (i := 8) (N := some 25) (bb 10 511) rfl rfl (one_of HT_.out (by kernel_rfl)) (by decide) (fun K hK => ?_)
        refine goes_ Try.func22 (by kernel_rfl) rfl #[.agg #[.slice A402_0 ((rd_T30 l0 x5_1).f0).length c402_0, .int .i64 ((rd_T30 l0 x5_1).f1), .slice A402_2 ((rd_T30 l0 x5_1).f2).length c402_2, .slice A402_3 ((rd_T30 l0 x5_1).f3).length c402_3, .slice A402_4 ((rd_T30 l0 x5_1).f4).length c402_4], .agg #[.slice A403_0 ((rd_T30 l1 x5_1).f0).length c403_0, .int .i64 ((rd_T30 l1 x5_1).f1), .slice A403_2 ((rd_T30 l1 x5_1).f2).length c403_2, .slice A403_3 ((rd_T30 l1 x5_1).f3).length c403_3, .slice A403_4 ((rd_T30 l1 x5_1).f4).length c403_4]] (by rfl) rfl rfl (by (try simp only [List.map_toArray, List.map_cons, List.map_nil]); first | done | rfl | (simp only [List.length_drop, List.length_take]; rfl)) ?_
        with_reducible refine (hypercuberef2_Equal.calls k1 _ _ ((rd_T30 l0 x5_1).f0) ((rd_T30 l0 x5_1).f1) _ _ ((rd_T30 l0 x5_1).f2) _ _ ((rd_T30 l0 x5_1).f3) _ _ ((rd_T30 l0 x5_1).f4) _ _ ((rd_T30 l1 x5_1).f0) ((rd_T30 l1 x5_1).f1) _ _ ((rd_T30 l1 x5_1).f2) _ _ ((rd_T30 l1 x5_1).f3) _ _ ((rd_T30 l1 x5_1).f4) false _ ?side1 ?side2 ?side3 ?side4 ?side5 ?side6 ?side7 ?side8 ?side9 ?side10 ?side11 ?side12 ?side13 ?side14 ?side15 ?side16 A7.out).mono ?_
        (case side1 => repeat (first | exact (Kd.C_below HR402_0.out HB.out) | (with_reducible refine Kd.C_alloc ?_ _) | (with_reducible refine Kd.C_drewN ?_ _) | (with_reducible refine Kd.C_drew ?_)))
        (case side2 => exact HC402_0.out)
        (case side3 => repeat (first | exact (Kd.C_below HR402_2.out HB.out) | (with_reducible refine Kd.C_alloc ?_ _) | (with_reducible refine Kd.C_drewN ?_ _) | (with_reducible refine Kd.C_drew ?_)))
        (case side4 => exact HC402_2.out)
        (case side5 => repeat (first | exact (Kd.C_below HR402_3.out HB.out) | (with_reducible refine Kd.C_alloc ?_ _) | (with_reducible refine Kd.C_drewN ?_ _) | (with_reducible refine Kd.C_drew ?_)))
        (case side6 => exact HC402_3.out)
        (case side7 => repeat (first | exact (Kd.C_below HR402_4.out HB.out) | (with_reducible refine Kd.C_alloc ?_ _) | (with_reducible refine Kd.C_drewN ?_ _) | (with_reducible refine Kd.C_drew ?_)))
        (case side8 => exact HC402_4.out)
        (case side9 => repeat (first | exact (Kd.C_below HR403_0.out HB.out) | (with_reducible refine Kd.C_alloc ?_ _) | (with_reducible refine Kd.C_drewN ?_ _) | (with_reducible refine Kd.C_drew ?_)))
        (case side10 => exact HC403_0.out)
        (case side11 => repeat (first | exact (Kd.C_below HR403_2.out HB.out) | (with_reducible refine Kd.C_alloc ?_ _) | (with_reducible refine Kd.C_drewN ?_ _) | (with_reducible refine Kd.C_drew ?_)))
        (case side12 => exact HC403_2.out)
        (case side13 => repeat (first | exact (Kd.C_below HR403_3.out HB.out) | (with_reducible refine Kd.C_alloc ?_ _) | (with_reducible refine Kd.C_drewN ?_ _) | (with_reducible refine Kd.C_drew ?_)))
        (case side14 => exact HC403_3.out)
        (case side15 => repeat (first | exact (Kd.C_below HR403_4.out HB.out) | (with_reducible refine Kd.C_alloc ?_ _) | (with_reducible refine Kd.C_drewN ?_ _) | (with_reducible refine Kd.C_drew ?_)))
        (case side16 => exact HC403_4.out)
        rintro e w12 ⟨rfl, hb⟩
        refine ⟨_, rfl, ?_⟩
        have n0_ := am (below_step (by repeat (first | (with_reducible first | exact HB.out | apply below_alloc | apply pw_below_drewN | apply below_drew1) | exact HB.out)) hb)
        clear HB
        have HB := n0_
        clear n0_
        (try clear hb)
        (try clear hb2)
        (try clear hk)
        (try clear hi)
        refine hK.out _ _ ⟨((HB.out.cell (World.block_lt_of_cell? w _ hw402_0)).trans hw402_0), ((HB.out.cell (World.block_lt_of_cell? w _ hw402_1)).trans hw402_1), ((HB.out.cell (World.block_lt_of_cell? w _ hw402_2)).trans hw402_2), ((HB.out.cell (World.block_lt_of_cell? w _ hw402_3)).trans hw402_3), ((HB.out.cell (World.block_lt_of_cell? w _ hw402_4)).trans hw402_4), ((HB.out.cell (World.block_lt_of_cell? w _ hw403_0)).trans hw403_0), ((HB.out.cell (World.block_lt_of_cell? w _ hw403_1)).trans hw403_1), ((HB.out.cell (World.block_lt_of_cell? w _ hw403_2)).trans hw403_2), ((HB.out.cell (World.block_lt_of_cell? w _ hw403_3)).trans hw403_3), ((HB.out.cell (World.block_lt_of_cell? w _ hw403_4)).trans hw403_4)⟩ (fun hHeld => ?_)
        clear hK K
        refine norm_ (a' := ?_) ?_ ?_
        rotate_left
        ·show Act.put _ (some 25) _ = _
         simp only [Act.put, List.setIfInBounds_toArray, List.set_cons_zero, List.set_cons_succ, i64_w, i32_w]
         rfl
        refine pure_ (i := 9) (N := some 26) (v := ?_) (a' := ?_) (bb 10 1023) rfl rfl (any_of HT_.out (by kernel_rfl)) (fun _ _ _ h => h) (Or.inl ⟨by rfl, ?_⟩) ?_ ?_
        rotate_left
        ·intro w'
         go_simp
         with_reducible rfl
        rotate_left
        ·simp only [Act.put, List.setIfInBounds_toArray, List.set_cons_zero, List.set_cons_succ, i64_w, i32_w]
         rfl
        refine done_ (done_of HT_.out (by kernel_rfl)) ?_
        try go_wp2
        go_ret
        exact ⟨by first | rfl | (simp [errW_none, errW_some] <;> rfl) | (simp [*, errW_none, errW_some] <;> rfl), by repeat (first | (with_reducible first | exact HB.out | apply below_alloc | apply pw_below_drewN | apply below_drew1) | exact HB.out)⟩
      ·rw [if_neg c6] at H
       exact absurd H (by simp)
     ·rw [if_neg c5] at H
      exact absurd H (by simp)
    ·rw [if_neg c4] at H
     have c4b0 : decide (x5_1 < (l0.length : Int)) = false := decide_eq_false c4
     clear c4
     obtain rfl := Option.some.inj H
     go_wp2
     go_ret
     exact ⟨by first | rfl | (simp [errW_none, errW_some] <;> rfl) | (simp [*, errW_none, errW_some] <;> rfl), by repeat (first | (with_reducible first | exact HB.out | apply below_alloc | apply pw_below_drewN | apply below_drew1) | exact HB.out)⟩
 ·rw [if_neg c3] at H
  have c3b0 : ((l0.length : Int) == (l1.length : Int)) = false := beq_eq_false_iff_ne.mpr c3
  have c3b1 : ((l0.length : Int) != (l1.length : Int)) = true := bne_iff_ne.mpr c3
  have c3b2 : (l0.length == l1.length) = false := by first | simpa using c3 | (simp at c3 ⊢; omega)
  obtain rfl := Option.some.inj H
  go_enter Try.func27, Try.ntmps27
  go_wp2
  go_ret
  exact ⟨by first | rfl | (simp [errW_none, errW_some] <;> rfl) | (simp [*, errW_none, errW_some] <;> rfl), by repeat (first | (with_reducible first | exact HB.out | apply below_alloc | apply pw_below_drewN | apply below_drew1) | exact HB.out)⟩
mutual
def hypercubelaw1_Facts.l0 : Nat → Int → List Int → List Int → Int → List Int → Int → Option (List Int × Int × (List (S45)))
 | 0, _, _, _, _, _, _ => none
 | k + 1, x0, x1, x3, x11, x332000, x332001 => (hypercubelaw1_within.f x0 4).bind fun t332 => (if x11 ≤ t332 then (if x11 < (x1.length : Int) then (if 0 ≤ x11 then ((hypercubelaw1_within.f (rd x1 x11) 5).bind fun t334 => (if x332000.length < 17592186044416 then (hypercubelaw1_Facts.l0 k x0 x1 x3 (wrap64 (x11 + 1)) (x332000 ++ [wrap64 (1 + t334)]) x332001) else (none))) else (none)) else ((hypercubelaw1_within.f (wrap64 (x11 + 2)) 5).bind fun t338 => (if x332000.length < 17592186044416 then (hypercubelaw1_Facts.l0 k x0 x1 x3 (wrap64 (x11 + 1)) (x332000 ++ [wrap64 (1 + t338)]) x332001) else (none)))) else ((hypercubelaw1_within.f x0 7).bind fun t342 => (if t342 = 0 then (if 0 < (x332000.length : Int) then (hypercubelaw1_Facts.j1 k x3 (x332000.set (0 : Int).toNat 16) x332001) else (none)) else (hypercubelaw1_Facts.j1 k x3 x332000 x332001))))
def hypercubelaw1_Facts.j1 : Nat → List Int → List Int → Int → Option (List Int × Int × (List (S45)))
 | 0, _, _, _ => none
 | k + 1, x3, x332000, x332001 => hypercubelaw1_Facts.l1 k x3 ([] : List (S45)) 0 x332000 x332001
def hypercubelaw1_Facts.l1 : Nat → List Int → List (S45) → Int → List Int → Int → Option (List Int × Int × (List (S45)))
 | 0, _, _, _, _, _ => none
 | k + 1, x3, x13, x14, x332000, x332001 => if x14 < (x3.length : Int) then (hypercubelaw1_Facts.j3 k x3 x13 x14 (decide (x14 < 40)) x332000 x332001) else (hypercubelaw1_Facts.j3 k x3 x13 x14 false x332000 x332001)
def hypercubelaw1_Facts.j3 : Nat → List Int → List (S45) → Int → Bool → List Int → Int → Option (List Int × Int × (List (S45)))
 | 0, _, _, _, _, _, _ => none
 | k + 1, x3, x13, x14, x59, x332000, x332001 => if x59 = true then (if 0 ≤ x14 then (if x14 < (x3.length : Int) then (hypercubelaw1_Facts.l2 k x3 x13 x14 (rd x3 x14) 0 x332000 x332001 ([] : List Int)) else (none)) else (none)) else (some (x332000, x332001, x13))
def hypercubelaw1_Facts.l2 : Nat → List Int → List (S45) → Int → Int → Int → List Int → Int → List Int → Option (List Int × Int × (List (S45)))
 | 0, _, _, _, _, _, _, _, _ => none
 | k + 1, x3, x13, x14, x15, x17, x332000, x332001, x346000 => if x17 < (x332000.length : Int) then (if 0 ≤ x17 then ((hypercubelaw1_within.f x15 (rd x332000 x17)).bind fun t347 => (if x346000.length < 17592186044416 then (hypercubelaw1_Facts.l2 k x3 x13 x14 (wrap64 (Int.tdiv x15 5)) (wrap64 (x17 + 1)) x332000 x332001 (x346000 ++ [t347])) else (none))) else (none)) else (hypercubelaw1_Facts.l3 k x3 x13 x14 x15 0 x332000 x332001 x346000 ([] : List Int))
def hypercubelaw1_Facts.l3 : Nat → List Int → List (S45) → Int → Int → Int → List Int → Int → List Int → List Int → Option (List Int × Int × (List (S45)))
 | 0, _, _, _, _, _, _, _, _, _ => none
 | k + 1, x3, x13, x14, x15, x18, x332000, x332001, x346000, x346001 => if x18 < x332001 then ((hypercubelaw1_within.f (wrap64 (x15 + (wrap64 (7 * x18)))) 201).bind fun t351 => (if x346001.length < 17592186044416 then (hypercubelaw1_Facts.l3 k x3 x13 x14 x15 (wrap64 (x18 + 1)) x332000 x332001 x346000 (x346001 ++ [wrap64 (t351 - 100)])) else (none))) else (if x13.length < 2932031007402 then (hypercubelaw1_Facts.l1 k x3 (x13 ++ [(⟨x346000, x346001⟩ : S45)]) (wrap64 (x14 + 1)) x332000 x332001) else (none))
end
def hypercubelaw1_Facts.f (k : Nat) (a0 : Int) (l1 : List Int) (a2 : Int) (l3 : List Int) : Option (List Int × Int × (List (S45))) := (hypercubelaw1_within.f a2 3).bind fun t330 => (hypercubelaw1_Facts.l0 k a0 l1 l3 0 ([] : List Int) t330)
def hypercubelaw1_Facts.T8 : Bool × List (List Nat × List Nat) := (true, [([], []), ([0], [0]), ([], []), ([2], [2]), ([3], [3]), ([4], [4]), ([1, 5, 3], [1, 5]), ([0, 1, 2, 3, 4, 5, 6], []), ([7, 6, 6, 0, 1, 2, 3, 4, 5, 6], [6, 7])])
def hypercubelaw1_Facts.B8 : List Nat := [0, 1, 0, 4, 12, 28, 63, 127, 255]
theorem hypercubelaw1_Facts.tab8 : rtab .any (opsOf Try.f23 8) = hypercubelaw1_Facts.T8 := by kernel_rfl
theorem hypercubelaw1_Facts.bits8 : waitsOk hypercubelaw1_Facts.T8.2 hypercubelaw1_Facts.B8 = true := by kernel_rfl
def hypercubelaw1_Facts.T20 : Bool × List (List Nat × List Nat) := (true, [([], []), ([0], [0]), ([], []), ([], []), ([3], [3]), ([], []), ([4, 5], [4, 5]), ([6], [6]), ([2, 7], [2, 7]), ([8], [8]), ([1, 9, 8], [1, 9]), ([0, 1, 2, 3, 4, 5, 6, 7, 8, 9, 10], []), ([11, 10, 10, 0, 1, 2, 3, 4, 5, 6, 7, 8, 9, 10], [10, 11])])
def hypercubelaw1_Facts.B20 : List Nat := [0, 1, 0, 0, 8, 0, 56, 120, 252, 508, 1023, 2047, 4095]
theorem hypercubelaw1_Facts.tab20 : rtab .any (opsOf Try.f23 20) = hypercubelaw1_Facts.T20 := by kernel_rfl
theorem hypercubelaw1_Facts.bits20 : waitsOk hypercubelaw1_Facts.T20.2 hypercubelaw1_Facts.B20 = true := by kernel_rfl
def hypercubelaw1_Facts.T25 : Bool × List (List Nat × List Nat) := (true, [([], []), ([0], [0]), ([], []), ([], []), ([3], [3]), ([2, 4], [2, 4]), ([5], [5]), ([6], [6]), ([7], [7]), ([1, 8, 6], [1, 8]), ([0, 1, 2, 3, 4, 5, 6, 7, 8, 9], []), ([10, 9, 9, 0, 1, 2, 3, 4, 5, 6, 7, 8, 9], [9, 10])])
def hypercubelaw1_Facts.B25 : List Nat := [0, 1, 0, 0, 8, 28, 60, 124, 252, 511, 1023, 2047]
theorem hypercubelaw1_Facts.tab25 : rtab .any (opsOf Try.f23 25) = hypercubelaw1_Facts.T25 := by kernel_rfl
theorem hypercubelaw1_Facts.bits25 : waitsOk hypercubelaw1_Facts.T25.2 hypercubelaw1_Facts.B25 = true := by kernel_rfl
set_option maxHeartbeats 8000000 in
set_option maxRecDepth 100000 in
theorem hypercubelaw1_Facts.calls (k : Nat) (a0 : Int) (A1 : Option Addr) (c1 : Nat) (l1 : List Int) (a2 : Int) (A3 : Option Addr) (c3 : Nat) (l3 : List Int) (r1 : List Int) (r2 : Int) (r3 : List (S45)) (w : World) (hr1 : Kd.C (Kd.int .i64) w A1 l1.length l1) (hc1 : l1.length ≤ c1) (hr3 : Kd.C (Kd.int .i64) w A3 l3.length l3) (hc3 : l3.length ≤ c3) (h : hypercubelaw1_Facts.f k a0 l1 a2 l3 = some (r1, r2, r3)) :
  Calls Try.prog 23 #[.int .i64 a0, .slice A1 l1.length c1, .int .i64 a2, .slice A3 l3.length c3] w fun e w' => ∃ v0_ v2_ : Value, e = .returned (.tuple #[.agg #[v0_, .int .i64 r2], v2_]) ∧ Kd.R (Kd.int .i64) 3 w' w.heap.size (fun _ => True) v0_ r1 ∧ Kd.S k45 45 w' w.heap.size (fun k_ => some k_ ≠ (v0_ : Value).ownBlock) v2_ r3 ∧ Below w.heap.size w w' := by
 have hu35 := Try.underlying35
 have hu45 := Try.underlying45
 have HR1 := am hr1
 have HC1 := am hc1
 clear hr1 hc1
 have HR3 := am hr3
 have HC3 := am hc3
 clear hr3 hc3
 have HB := am (Below.refl w.heap.size w)
 have H : ((hypercubelaw1_within.f a2 3).bind fun t330 => (hypercubelaw1_Facts.l0 k a0 l1 l3 0 ([] : List Int) t330)) = some (r1, r2, r3) := h
 clear h
 replace H := Option.bind_eq_some_iff.mp H
 obtain ⟨t330, A50, H⟩ := H
 replace H : (hypercubelaw1_Facts.l0 k a0 l1 l3 0 ([] : List Int) t330) = some (r1, r2, r3) := H
 have A5 := am A50
 clear A50
 have H' := am H
 clear H
 go_enter Try.func23, Try.ntmps23
 go_wp2_with (first | ((with_reducible refine gate_dst (N := 8) rfl ?_); refine box_event ?hg (N := 8) ?hd (cs := #[.slice none 0 0, .int .i64 0]) (t := 35) ?hr ?_; (case hd => rfl); (case hg => rfl); (case hr => first | (go_simp; done) | (go_simp; rfl)); intro gb329 hg w6 hbox hb; have n0_ := am (below_step (by repeat (first | (with_reducible first | exact HB.out | apply below_alloc | apply pw_below_drewN | apply below_drew1) | exact HB.out)) hb); have n1_ := am (hbox); have n2_ := am ((by rw [hg]; exact (below_size (by repeat (first | (with_reducible first | exact HB.out | apply below_alloc | apply pw_below_drewN | apply below_drew1) | exact HB.out))) : w.heap.size ≤ gb329)); have n3_ := am ((by rw [hg]; exact (below_size (by repeat (first | (with_reducible first | exact HB.out | apply below_alloc | apply pw_below_drewN | apply below_drew1) | exact HB.out))) : w.heap.size ≤ gb329)); clear HB; revert n0_ n1_ n2_ n3_; intro HB BK329 GW329 GE329; clear hb hbox hg) | (go_at_call 45; (with_reducible refine (hypercubelaw1_within.calls a2 3 t330 _ A5.out).mono ?_); rintro e w' ⟨rfl, ⟨nd, rfl⟩⟩; (try (rw [drewN_self w6]; generalize hq_ : World.drewN w6 _ = w6; have n0_ : Aside0 (w6.heap[gb329]? = some (.cells #[.slice none 0 0, .int .i64 0] 35 (0, 0))) := ⟨by rw [← hq_]; exact (by (with_reducible repeat (first | refine blk_drewN ?_ _ | refine blk_drew ?_ | refine blk_alloc ?_ _)); exact BK329.out)⟩; have n1_ : Aside0 (Below w.heap.size w w6) := ⟨by rw [← hq_]; exact (by repeat (first | (with_reducible first | exact HB.out | apply below_alloc | apply pw_below_drewN | apply below_drew1 | refine below_set ?_ GE329.out) | exact HB.out))⟩; clear BK329 HB hq_; revert n0_ n1_; intro BK329 HB))) | ((with_reducible refine gate_dst (N := 10) rfl ?_); refine box_event ?hg (N := 10) ?hd (cs := #[.slice none 0 0, .int .i64 0]) (t := 35) ?hr ?_; (case hd => rfl); (case hg => rfl); (case hr => first | (go_simp; done) | (go_simp; rfl)); intro gb331 hg w7 hbox hb; have n0_ := am (blk_below (g := gb329) (o := .cells #[.slice none 0 0, .int .i64 0] 35 (0, 0)) (by (with_reducible repeat (first | refine blk_drewN ?_ _ | refine blk_drew ?_ | refine blk_alloc ?_ _)); exact BK329.out) hb); have n1_ := am (below_step (by repeat (first | (with_reducible first | exact HB.out | apply below_alloc | apply pw_below_drewN | apply below_drew1 | refine below_set ?_ GE329.out) | exact HB.out)) hb); have n2_ := am (hbox); have n3_ := am ((by rw [hg]; exact (below_size (by repeat (first | (with_reducible first | exact HB.out | apply below_alloc | apply pw_below_drewN | apply below_drew1 | refine below_set ?_ GE329.out) | exact HB.out))) : w.heap.size ≤ gb331)); have n4_ := am ((by rw [hg]; exact (below_size (by repeat (first | (with_reducible first | exact HB.out | apply below_alloc | apply pw_below_drewN | apply below_drew1 | refine below_set ?_ GE329.out) | exact HB.out))) : w.heap.size ≤ gb331)); have n5_ := am ((by rw [hg]; exact Nat.ne_of_lt (blk_lt (g := gb329) (o := .cells #[.slice none 0 0, .int .i64 0] 35 (0, 0)) (by (with_reducible repeat (first | refine blk_drewN ?_ _ | refine blk_drew ?_ | refine blk_alloc ?_ _)); exact BK329.out)) : gb329 ≠ gb331)); have n6_ := am ((by rw [hg]; exact Nat.ne_of_gt (blk_lt (g := gb329) (o := .cells #[.slice none 0 0, .int .i64 0] 35 (0, 0)) (by (with_reducible repeat (first | refine blk_drewN ?_ _ | refine blk_drew ?_ | refine blk_alloc ?_ _)); exact BK329.out)) : gb331 ≠ gb329)); clear BK329 HB; revert n0_ n1_ n2_ n3_ n4_ n5_ n6_; intro BK329 HB BK331 GW331 GE331 NB329_331 NB331_329; clear hb hbox hg; have hnb8 := NB331_329.out; have hnc8 := NB329_331.out; have hcz9_0 : w7.cell? ⟨gb331, 0, none⟩ = some (.slice none 0 0) := (blk_cell BK331.out 0).trans rfl; have hcz9_1 : w7.cell? ⟨gb331, 1, none⟩ = some (.int .i64 0) := (blk_cell BK331.out 1).trans rfl; have hfz9_0 := blk_frozen BK331.out 0; have hfz9_1 := blk_frozen BK331.out 1))
 go_loopg [11] k (fun kq v11 w' => ∃ (x11_1 : Int) (x332000_1 : List Int) (u332000 : Value), v11 = .int .i64 x11_1 ∧ Aside0 (hypercubelaw1_Facts.l0 kq a0 l1 l3 x11_1 x332000_1 t330 = some (r1, r2, r3)) ∧ Aside0 (kq ≤ k) ∧ Aside0 (Kd.R (Kd.int .i64) 3 w' w.heap.size (fun _ => True) u332000 x332000_1) ∧ Aside0 (w'.heap[gb329]? = some (.cells #[(.slice none 0 0), .int .i64 0] 35 (0, 0))) ∧ Aside0 (w'.heap[gb331]? = some (.cells #[u332000, .int .i64 t330] 35 (0, 0))) ∧ Aside0 (Below w.heap.size w w'))
 case atStart => exact ⟨(0), (([] : List Int)), (.slice none 0 0), (by first | rfl | (simp; done) | (simp [*]; done)), H', ⟨Nat.le_refl _⟩, ⟨by first | exact Kd.R_nil _ _ _ _ _ | exact Kd.N_nil _ _ _ _ _ | exact Kd.V_nil _ _ _ _ _ | exact Kd.Q_nil _ _ _ _ _ | exact Kd.S_nil _ _ _ _ _⟩, ⟨by (with_reducible repeat (first | refine blk_drewN ?_ _ | refine blk_drew ?_ | refine blk_alloc ?_ _)); refine blk_far ?_ NB329_331.out _; (with_reducible repeat (first | refine blk_drewN ?_ _ | refine blk_drew ?_ | refine blk_alloc ?_ _)); refine blk_far ?_ NB329_331.out _; (with_reducible repeat (first | refine blk_drewN ?_ _ | refine blk_drew ?_ | refine blk_alloc ?_ _)); exact BK329.out⟩, ⟨by (with_reducible repeat (first | refine blk_drewN ?_ _ | refine blk_drew ?_ | refine blk_alloc ?_ _)); refine blk_put (cs := #[.slice none 0 0, .int .i64 0]) ?_ 1 _ rfl; (with_reducible repeat (first | refine blk_drewN ?_ _ | refine blk_drew ?_ | refine blk_alloc ?_ _)); refine blk_put (cs := #[.slice none 0 0, .int .i64 0]) ?_ 0 _ rfl; (with_reducible repeat (first | refine blk_drewN ?_ _ | refine blk_drew ?_ | refine blk_alloc ?_ _)); exact BK331.out⟩, ⟨by repeat (first | (with_reducible first | exact HB.out | apply below_alloc | apply pw_below_drewN | apply below_drew1 | refine below_set ?_ GE329.out | refine below_set ?_ GE331.out) | exact HB.out)⟩⟩
 case round =>
  clear H'
  try clear c1
  try clear c2
  try clear p2
  try clear c3
  try clear c4
  try clear c8
  try clear hcz9_0
  try clear hcz9_1
  try clear hfz9_0
  try clear hfz9_1
  obtain ⟨x11_1, x332000_1, u332000, rfl, HA, HK1, HO_332000, BK329, BK331, HB⟩ := hrel
  cases gk with
  | zero => exact absurd HA.out (by simp [hypercubelaw1_Facts.l0])
  | succ k1 =>
   have H := HA.out
   clear HA
   simp only [hypercubelaw1_Facts.l0] at H
   replace H := Option.bind_eq_some_iff.mp H
   obtain ⟨t332, A100, H⟩ := H
   replace H : (if x11_1 ≤ t332 then (if x11_1 < (l1.length : Int) then (if 0 ≤ x11_1 then ((hypercubelaw1_within.f (rd l1 x11_1) 5).bind fun t334 => (if x332000_1.length < 17592186044416 then (hypercubelaw1_Facts.l0 k1 a0 l1 l3 (wrap64 (x11_1 + 1)) (x332000_1 ++ [wrap64 (1 + t334)]) t330) else (none))) else (none)) else ((hypercubelaw1_within.f (wrap64 (x11_1 + 2)) 5).bind fun t338 => (if x332000_1.length < 17592186044416 then (hypercubelaw1_Facts.l0 k1 a0 l1 l3 (wrap64 (x11_1 + 1)) (x332000_1 ++ [wrap64 (1 + t338)]) t330) else (none)))) else ((hypercubelaw1_within.f a0 7).bind fun t342 => (if t342 = 0 then (if 0 < (x332000_1.length : Int) then (hypercubelaw1_Facts.j1 k1 l3 (x332000_1.set (0 : Int).toNat 16) t330) else (none)) else (hypercubelaw1_Facts.j1 k1 l3 x332000_1 t330)))) = some (r1, r2, r3) := H
   have A10 := am A100
   clear A100
   by_cases c11 : x11_1 ≤ t332
   ·rw [if_pos c11] at H
    have c11b0 : decide (x11_1 ≤ t332) = true := decide_eq_true c11
    clear c11
    by_cases c12 : x11_1 < (l1.length : Int)
    ·rw [if_pos c12] at H
     have c12b0 : decide (x11_1 < (l1.length : Int)) = true := decide_eq_true c12
     clear c12
     by_cases c13 : 0 ≤ x11_1
     ·rw [if_pos c13] at H
      have c13b0 : decide (0 ≤ x11_1) = true := decide_eq_true c13
      clear c13
      replace H := Option.bind_eq_some_iff.mp H
      obtain ⟨t334, A140, H⟩ := H
      replace H : (if x332000_1.length < 17592186044416 then (hypercubelaw1_Facts.l0 k1 a0 l1 l3 (wrap64 (x11_1 + 1)) (x332000_1 ++ [wrap64 (1 + t334)]) t330) else (none)) = some (r1, r2, r3) := H
      have A14 := am A140
      clear A140
      by_cases c15 : x332000_1.length < 17592186044416
      ·rw [if_pos c15] at H
       have LMc15 := am c15
       clear c15
       obtain ⟨y335, hy335⟩ : ∃ y_ : List Int, y_ = (x332000_1 ++ [wrap64 (1 + t334)]) := ⟨_, rfl⟩
       replace H : (hypercubelaw1_Facts.l0 k1 a0 l1 l3 (wrap64 (x11_1 + 1)) y335 t330) = some (r1, r2, r3) := by rw [hy335]; with_reducible exact H
       have Ny335 := am hy335
       clear hy335
       have H' := am H
       clear H
       try go_wp2_with (first | (go_at_call 45; (with_reducible refine (hypercubelaw1_within.calls a0 4 t332 _ A10.out).mono ?_); rintro e w' ⟨rfl, ⟨nd, rfl⟩⟩; (try (rw [drewN_self wr]; generalize hq_ : World.drewN wr _ = wr; have n0_ : Aside0 (Kd.R (Kd.int .i64) 3 wr w.heap.size (fun _ => True) u332000 x332000_1) := ⟨by rw [← hq_]; exact (by (with_reducible repeat (first | apply Kd.R_alloc | apply Kd.R_drewN | apply Kd.R_drew)); exact HO_332000.out)⟩; have n1_ : Aside0 (wr.heap[gb329]? = some (.cells #[.slice none 0 0, .int .i64 0] 35 (0, 0))) := ⟨by rw [← hq_]; exact (by (with_reducible repeat (first | refine blk_drewN ?_ _ | refine blk_drew ?_ | refine blk_alloc ?_ _)); exact BK329.out)⟩; have n2_ : Aside0 (wr.heap[gb331]? = some (.cells #[u332000, .int .i64 t330] 35 (0, 0))) := ⟨by rw [← hq_]; exact (by (with_reducible repeat (first | refine blk_drewN ?_ _ | refine blk_drew ?_ | refine blk_alloc ?_ _)); exact BK331.out)⟩; have n3_ : Aside0 (Below w.heap.size w wr) := ⟨by rw [← hq_]; exact (by repeat (first | (with_reducible first | exact HB.out | apply below_alloc | apply pw_below_drewN | apply below_drew1 | refine below_set ?_ GE329.out | refine below_set ?_ GE331.out) | exact HB.out))⟩; clear HO_332000 BK329 BK331 HB hq_; revert n0_ n1_ n2_ n3_; intro HO_332000 BK329 BK331 HB)); have p333 : 0 ≤ (x11_1 : Int) := of_decide_eq_true (by first | (with_reducible assumption) | assumption); have q333 : x11_1 < (l1.length : Int) := of_decide_eq_true (by first | (with_reducible assumption) | assumption); obtain ⟨ad333, e333, hx333_0⟩ := Kd.at_int HR1.out x11_1 p333 q333; cases e333; replace hx333_0 := (HB.out.cell (World.block_lt_of_cell? w _ hx333_0)).trans hx333_0; replace p333 := eq_true p333; replace q333 := eq_true q333))
       have n0_ := am (Kd.R_drew HO_332000.out)
       have n1_ := am (blk_drew BK329.out)
       have n2_ := am (blk_drew BK331.out)
       have n3_ := am (below_drew1 HB.out)
       clear HO_332000 BK329 BK331 HB
       revert n0_ n1_ n2_ n3_
       intro HO_332000 BK329 BK331 HB
       refine start_ (n := 9) (S := fun w' => w'.cell? ⟨gb331, 0, none⟩ = some (u332000) ∧ w'.cell? ⟨gb331, 1, none⟩ = some (.int .i64 t330)) (ds := [8]) (bb 9 0) (by kernel_rfl) rfl rfl ⟨bc BK331 0, bc BK331 1⟩ (fun hHeld => ?_); refine with_tabW hypercubelaw1_Facts.tab8 hypercubelaw1_Facts.bits8 (fun HT_ HW_ => ?_)
       generalize wr.drew = w16 at HO_332000 BK329 BK331 HB hHeld ⊢
       refine pu (i := 0) (N := some 38) (bb 9 1) HT_ ?_
       refine pu (i := 2) (N := some 40) (bb 9 5) HT_ ?_
       refine tk (i := 1) (N := some 39) (bb 9 7) HT_ HW_ hHeld ?_
       refine one_ (i := 3) (N := some 41) (bb 9 15) rfl rfl (one_of HT_.out (by kernel_rfl)) (by decide) (fun K hK => ?_)
       refine goes_ Try.func45 (by kernel_rfl) rfl #[.int .i64 (rd l1 x11_1), .int .i64 5] (by rfl) rfl rfl (by (try simp only [List.map_toArray, List.map_cons, List.map_nil]); first | done | rfl | (simp only [List.length_drop, List.length_take]; rfl)) ?_
       with_reducible refine (hypercubelaw1_within.calls (rd l1 x11_1) 5 t334 _ A14.out).mono ?_
       rintro e w' ⟨rfl, ⟨nd, rfl⟩⟩
       refine ⟨_, rfl, ?_⟩
       refine hK.out _ _ ⟨bc BK331 0, bc BK331 1⟩ (fun hHeld => ?_)
       clear hK K
       refine nm ?_
       refine pu (i := 4) (N := some 42) (bb 9 31) HT_ ?_
       refine one_ (i := 5) (N := some 43) (bb 9 63) rfl rfl (one_of HT_.out (by kernel_rfl)) (by decide) (fun K hK => ?_)
       refine value_ (w1 := ?_) (v := ?_) (by rfl) rfl ?_ ?_
       rotate_left 2
       ·go_simp
        constructor
        ·rfl
        ·rfl
       refine hK.out _ _ ⟨(blk_cell (blk_alloc BK331.out _) 0).trans rfl, (blk_cell (blk_alloc BK331.out _) 1).trans rfl⟩ (fun hHeld => ?_)
       clear hK K
       refine nm ?_
       refine one_ (i := 6) (N := some 44) (bb 9 127) rfl rfl (one_of HT_.out (by kernel_rfl)) (by decide) (fun K hK => ?_)
       refine Kd.R_append_step (Kd.int .i64) (w0 := w) w.heap.size (by rfl) (.tmp 39) (.tmp 43) 22 3 (.int .i64 0) 8 rfl Try.underlying22 info3 rfl (by decide) (by omega) u332000 x332000_1 (wrap64 (1 + t334)) [.int .i64 (wrap64 (1 + t334))] (fun _ => True) (fun _ => False) rfl rfl ?aP (fun _ hk => hk.elim) ?aF ?aO ?aB ?aS ?aL ?_
       (case aP => exact rfl)
       (case aB => exact (wmv HB.out))
       (case aF => exact (fun _ _ => trivial))
       (case aO => exact (Kd.R_mv HO_332000.out))
       (case aS => exact (below_size (wmv HB.out)))
       (case aL => have := LMc15.out; omega)
       intro v336 w17 ho hb hg hat
       rw [← Ny335.out] at ho
       have n0_ := am (blk_grown (bmv BK329.out) hg (Kd.R_ne HO_332000.out BK329.out (by decide)))
       have n1_ := am (blk_grown (bmv BK331.out) hg (Kd.R_ne HO_332000.out BK331.out (by decide)))
       have n2_ := am (hb)
       have n3_ := am (ho)
       clear BK329 BK331 HB HO_332000
       revert n0_ n1_ n2_ n3_
       intro BK329 BK331 HB HO337
       clear ho hb hg hat
       obtain ⟨Ao18, co18, eo18⟩ := Kd.R_slice HO337.out
       (first | subst eo18 | (injection eo18 with f1_ f2_ f3_; have f4_ := f1_.symm; have f5_ := f3_.symm; clear f1_ f2_ f3_; subst f4_; subst f5_))
       refine hK.out _ _ ⟨bc BK331 0, bc BK331 1⟩ (fun hHeld => ?_)
       clear hK K
       refine nm ?_
       refine pu (i := 7) (N := some 45) (bb 9 255) HT_ ?_
       refine last_ (i := 8) (N := none) (bb 9 511) rfl rfl (one_of HT_.out (by kernel_rfl)) (by decide) (fun K hK => ?_)
       have hs19 : w17.cell? ⟨gb331, 0, none⟩ = some (u332000) := (blk_cell BK331.out 0).trans rfl
       have hfs19 := blk_frozen BK331.out 0
       have hns19_0 := NB329_331.out
       have hms19_0 := NB331_329.out
       refine skip_ (w1 := ?_) (by rfl) rfl ?_ ?_
       rotate_left
       ·go_simp
        rfl
       refine hK.out _ _ ?_
       clear hK K
       refine done_ (done_of HT_.out (by kernel_rfl)) ?_
       try go_wp2
       go_roundg k1
       case measure => have := HK1.out; omega
       case rel => exact ⟨(wrap64 (x11_1 + 1)), (y335), (.slice Ao18 y335.length co18), (by first | rfl | (simp; done) | (simp [*]; done)), H', ⟨by have := HK1.out; omega⟩, ⟨by (with_reducible repeat (first | apply Kd.R_alloc | apply Kd.R_drewN | apply Kd.R_drew)); exact Kd.R_mono (Kd.R_far (p := ⟨gb331, 0, none⟩) (Kd.R_types HO337.out BK331.out (by decide)) (fun _ hk => hk.2) (.slice Ao18 y335.length co18)) (fun _ hk => trivial)⟩, ⟨by (with_reducible repeat (first | refine blk_drewN ?_ _ | refine blk_drew ?_ | refine blk_alloc ?_ _)); refine blk_far ?_ NB329_331.out _; (with_reducible repeat (first | refine blk_drewN ?_ _ | refine blk_drew ?_ | refine blk_alloc ?_ _)); exact BK329.out⟩, ⟨by (with_reducible repeat (first | refine blk_drewN ?_ _ | refine blk_drew ?_ | refine blk_alloc ?_ _)); refine blk_put (cs := #[u332000, .int .i64 t330]) ?_ 0 _ rfl; (with_reducible repeat (first | refine blk_drewN ?_ _ | refine blk_drew ?_ | refine blk_alloc ?_ _)); exact BK331.out⟩, ⟨by repeat (first | (with_reducible first | exact HB.out | apply below_alloc | apply pw_below_drewN | apply below_drew1 | refine below_set ?_ GE329.out | refine below_set ?_ GE331.out) | exact HB.out)⟩⟩
      ·rw [if_neg c15] at H
       exact absurd H (by simp)
     ·rw [if_neg c13] at H
      exact absurd H (by simp)
    ·rw [if_neg c12] at H
     have c12b0 : decide (x11_1 < (l1.length : Int)) = false := decide_eq_false c12
     clear c12
     replace H := Option.bind_eq_some_iff.mp H
     obtain ⟨t338, A200, H⟩ := H
     replace H : (if x332000_1.length < 17592186044416 then (hypercubelaw1_Facts.l0 k1 a0 l1 l3 (wrap64 (x11_1 + 1)) (x332000_1 ++ [wrap64 (1 + t338)]) t330) else (none)) = some (r1, r2, r3) := H
     have A20 := am A200
     clear A200
     by_cases c21 : x332000_1.length < 17592186044416
     ·rw [if_pos c21] at H
      have LMc21 := am c21
      clear c21
      obtain ⟨y339, hy339⟩ : ∃ y_ : List Int, y_ = (x332000_1 ++ [wrap64 (1 + t338)]) := ⟨_, rfl⟩
      replace H : (hypercubelaw1_Facts.l0 k1 a0 l1 l3 (wrap64 (x11_1 + 1)) y339 t330) = some (r1, r2, r3) := by rw [hy339]; with_reducible exact H
      have Ny339 := am hy339
      clear hy339
      have H' := am H
      clear H
      try go_wp2_with (first | (go_at_call 45; (with_reducible refine (hypercubelaw1_within.calls a0 4 t332 _ A10.out).mono ?_); rintro e w' ⟨rfl, ⟨nd, rfl⟩⟩; (try (rw [drewN_self wr]; generalize hq_ : World.drewN wr _ = wr; have n0_ : Aside0 (Kd.R (Kd.int .i64) 3 wr w.heap.size (fun _ => True) u332000 x332000_1) := ⟨by rw [← hq_]; exact (by (with_reducible repeat (first | apply Kd.R_alloc | apply Kd.R_drewN | apply Kd.R_drew)); exact HO_332000.out)⟩; have n1_ : Aside0 (wr.heap[gb329]? = some (.cells #[.slice none 0 0, .int .i64 0] 35 (0, 0))) := ⟨by rw [← hq_]; exact (by (with_reducible repeat (first | refine blk_drewN ?_ _ | refine blk_drew ?_ | refine blk_alloc ?_ _)); exact BK329.out)⟩; have n2_ : Aside0 (wr.heap[gb331]? = some (.cells #[u332000, .int .i64 t330] 35 (0, 0))) := ⟨by rw [← hq_]; exact (by (with_reducible repeat (first | refine blk_drewN ?_ _ | refine blk_drew ?_ | refine blk_alloc ?_ _)); exact BK331.out)⟩; have n3_ : Aside0 (Below w.heap.size w wr) := ⟨by rw [← hq_]; exact (by repeat (first | (with_reducible first | exact HB.out | apply below_alloc | apply pw_below_drewN | apply below_drew1 | refine below_set ?_ GE329.out | refine below_set ?_ GE331.out) | exact HB.out))⟩; clear HO_332000 BK329 BK331 HB hq_; revert n0_ n1_ n2_ n3_; intro HO_332000 BK329 BK331 HB))))
      have n0_ := am (Kd.R_drew HO_332000.out)
      have n1_ := am (blk_drew BK329.out)
      have n2_ := am (blk_drew BK331.out)
      have n3_ := am (below_drew1 HB.out)
      clear HO_332000 BK329 BK331 HB
      revert n0_ n1_ n2_ n3_
      intro HO_332000 BK329 BK331 HB
      refine start_ (n := 9) (S := fun w' => w'.cell? ⟨gb331, 0, none⟩ = some (u332000) ∧ w'.cell? ⟨gb331, 1, none⟩ = some (.int .i64 t330)) (ds := [8]) (bb 9 0) (by kernel_rfl) rfl rfl ⟨bc BK331 0, bc BK331 1⟩ (fun hHeld => ?_); refine with_tabW hypercubelaw1_Facts.tab8 hypercubelaw1_Facts.bits8 (fun HT_ HW_ => ?_)
      generalize wr.drew = w22 at HO_332000 BK329 BK331 HB hHeld ⊢
      refine pu (i := 0) (N := some 38) (bb 9 1) HT_ ?_
      refine pu (i := 2) (N := some 40) (bb 9 5) HT_ ?_
      refine tk (i := 1) (N := some 39) (bb 9 7) HT_ HW_ hHeld ?_
      refine one_ (i := 3) (N := some 41) (bb 9 15) rfl rfl (one_of HT_.out (by kernel_rfl)) (by decide) (fun K hK => ?_)
      refine goes_ Try.func45 (by kernel_rfl) rfl #[.int .i64 (wrap64 (x11_1 + 2)), .int .i64 5] (by rfl) rfl rfl (by (try simp only [List.map_toArray, List.map_cons, List.map_nil]); first | done | rfl | (simp only [List.length_drop, List.length_take]; rfl)) ?_
      with_reducible refine (hypercubelaw1_within.calls (wrap64 (x11_1 + 2)) 5 t338 _ A20.out).mono ?_
      rintro e w' ⟨rfl, ⟨nd, rfl⟩⟩
      refine ⟨_, rfl, ?_⟩
      refine hK.out _ _ ⟨bc BK331 0, bc BK331 1⟩ (fun hHeld => ?_)
      clear hK K
      refine nm ?_
      refine pu (i := 4) (N := some 42) (bb 9 31) HT_ ?_
      refine one_ (i := 5) (N := some 43) (bb 9 63) rfl rfl (one_of HT_.out (by kernel_rfl)) (by decide) (fun K hK => ?_)
      refine value_ (w1 := ?_) (v := ?_) (by rfl) rfl ?_ ?_
      rotate_left 2
      ·go_simp
       constructor
       ·rfl
       ·rfl
      refine hK.out _ _ ⟨(blk_cell (blk_alloc BK331.out _) 0).trans rfl, (blk_cell (blk_alloc BK331.out _) 1).trans rfl⟩ (fun hHeld => ?_)
      clear hK K
      refine nm ?_
      refine one_ (i := 6) (N := some 44) (bb 9 127) rfl rfl (one_of HT_.out (by kernel_rfl)) (by decide) (fun K hK => ?_)
      refine Kd.R_append_step (Kd.int .i64) (w0 := w) w.heap.size (by rfl) (.tmp 39) (.tmp 43) 22 3 (.int .i64 0) 8 rfl Try.underlying22 info3 rfl (by decide) (by omega) u332000 x332000_1 (wrap64 (1 + t338)) [.int .i64 (wrap64 (1 + t338))] (fun _ => True) (fun _ => False) rfl rfl ?aP (fun _ hk => hk.elim) ?aF ?aO ?aB ?aS ?aL ?_
      (case aP => exact rfl)
      (case aB => exact (wmv HB.out))
      (case aF => exact (fun _ _ => trivial))
      (case aO => exact (Kd.R_mv HO_332000.out))
      (case aS => exact (below_size (wmv HB.out)))
      (case aL => have := LMc21.out; omega)
      intro v340 w23 ho hb hg hat
      rw [← Ny339.out] at ho
      have n0_ := am (blk_grown (bmv BK329.out) hg (Kd.R_ne HO_332000.out BK329.out (by decide)))
      have n1_ := am (blk_grown (bmv BK331.out) hg (Kd.R_ne HO_332000.out BK331.out (by decide)))
      have n2_ := am (hb)
      have n3_ := am (ho)
      clear BK329 BK331 HB HO_332000
      revert n0_ n1_ n2_ n3_
      intro BK329 BK331 HB HO341
      clear ho hb hg hat
      obtain ⟨Ao24, co24, eo24⟩ := Kd.R_slice HO341.out
      (first | subst eo24 | (injection eo24 with f1_ f2_ f3_; have f4_ := f1_.symm; have f5_ := f3_.symm; clear f1_ f2_ f3_; subst f4_; subst f5_))
      refine hK.out _ _ ⟨bc BK331 0, bc BK331 1⟩ (fun hHeld => ?_)
      clear hK K
      refine nm ?_
      refine pu (i := 7) (N := some 45) (bb 9 255) HT_ ?_
      refine last_ (i := 8) (N := none) (bb 9 511) rfl rfl (one_of HT_.out (by kernel_rfl)) (by decide) (fun K hK => ?_)
      have hs25 : w23.cell? ⟨gb331, 0, none⟩ = some (u332000) := (blk_cell BK331.out 0).trans rfl
      have hfs25 := blk_frozen BK331.out 0
      have hns25_0 := NB329_331.out
      have hms25_0 := NB331_329.out
      refine skip_ (w1 := ?_) (by rfl) rfl ?_ ?_
      rotate_left
      ·go_simp
       rfl
      refine hK.out _ _ ?_
      clear hK K
      refine done_ (done_of HT_.out (by kernel_rfl)) ?_
      try go_wp2
      go_roundg k1
      case measure => have := HK1.out; omega
      case rel => exact ⟨(wrap64 (x11_1 + 1)), (y339), (.slice Ao24 y339.length co24), (by first | rfl | (simp; done) | (simp [*]; done)), H', ⟨by have := HK1.out; omega⟩, ⟨by (with_reducible repeat (first | apply Kd.R_alloc | apply Kd.R_drewN | apply Kd.R_drew)); exact Kd.R_mono (Kd.R_far (p := ⟨gb331, 0, none⟩) (Kd.R_types HO341.out BK331.out (by decide)) (fun _ hk => hk.2) (.slice Ao24 y339.length co24)) (fun _ hk => trivial)⟩, ⟨by (with_reducible repeat (first | refine blk_drewN ?_ _ | refine blk_drew ?_ | refine blk_alloc ?_ _)); refine blk_far ?_ NB329_331.out _; (with_reducible repeat (first | refine blk_drewN ?_ _ | refine blk_drew ?_ | refine blk_alloc ?_ _)); exact BK329.out⟩, ⟨by (with_reducible repeat (first | refine blk_drewN ?_ _ | refine blk_drew ?_ | refine blk_alloc ?_ _)); refine blk_put (cs := #[u332000, .int .i64 t330]) ?_ 0 _ rfl; (with_reducible repeat (first | refine blk_drewN ?_ _ | refine blk_drew ?_ | refine blk_alloc ?_ _)); exact BK331.out⟩, ⟨by repeat (first | (with_reducible first | exact HB.out | apply below_alloc | apply pw_below_drewN | apply below_drew1 | refine below_set ?_ GE329.out | refine below_set ?_ GE331.out) | exact HB.out)⟩⟩
     ·rw [if_neg c21] at H
      exact absurd H (by simp)
   ·rw [if_neg c11] at H
    have c11b0 : decide (x11_1 ≤ t332) = false := decide_eq_false c11
    clear c11
    replace H := Option.bind_eq_some_iff.mp H
    obtain ⟨t342, A260, H⟩ := H
    replace H : (if t342 = 0 then (if 0 < (x332000_1.length : Int) then (hypercubelaw1_Facts.j1 k1 l3 (x332000_1.set (0 : Int).toNat 16) t330) else (none)) else (hypercubelaw1_Facts.j1 k1 l3 x332000_1 t330)) = some (r1, r2, r3) := H
    have A26 := am A260
    clear A260
    have HC27 := am H
    clear H
    go_upto_if 48 with (first | (go_at_call 45; (with_reducible refine (hypercubelaw1_within.calls a0 4 t332 _ A10.out).mono ?_); rintro e w' ⟨rfl, ⟨nd, rfl⟩⟩) | (go_at_call 45; (with_reducible refine (hypercubelaw1_within.calls a0 7 t342 _ A26.out).mono ?_); rintro e w' ⟨rfl, ⟨nd, rfl⟩⟩))
    (try simp only [Act.put, List.setIfInBounds_toArray, List.set_cons_zero, List.set_cons_succ])
    go_cut [] (fun wc => ∃ (kq : Nat) (x332000_26 : List Int) (u332000 : Value), Aside0 (hypercubelaw1_Facts.j1 kq l3 x332000_26 t330 = some (r1, r2, r3)) ∧ Aside0 (kq ≤ k1) ∧ Aside0 (Kd.R (Kd.int .i64) 3 wc w.heap.size (fun _ => True) u332000 x332000_26) ∧ Aside0 (wc.heap[gb329]? = some (.cells #[(.slice none 0 0), .int .i64 0] 35 (0, 0))) ∧ Aside0 (wc.heap[gb331]? = some (.cells #[u332000, .int .i64 t330] 35 (0, 0))) ∧ Aside0 (Below w.heap.size w wc))
    case first =>
     have H := HC27.out
     clear HC27
     by_cases c28 : t342 = 0
     ·rw [if_pos c28] at H
      have c28b0 : (t342 == 0) = true := beq_iff_eq.mpr c28
      have c28b1 : (t342 != 0) = false := bne_eq_false_iff_eq.mpr c28
      clear c28
      (first | rw [c28b0] | (simp only [i64_w, i32_w]; rw [c28b0]) | skip)
      by_cases c29 : 0 < (x332000_1.length : Int)
      ·rw [if_pos c29] at H
       have c29b0 : decide (0 < (x332000_1.length : Int)) = true := decide_eq_true c29
       have c29b1 : decide (0 < x332000_1.length) = true := decide_eq_true (by omega)
       clear c29
       obtain ⟨y343, hy343⟩ : ∃ y_ : List Int, y_ = (x332000_1.set (0 : Int).toNat 16) := ⟨_, rfl⟩
       replace H : (hypercubelaw1_Facts.j1 k1 l3 y343 t330) = some (r1, r2, r3) := by rw [hy343]; with_reducible exact H
       have Ny343 := am hy343
       clear hy343
       have H' := am H
       clear H
       have hnb31 := NB331_329.out
       have hnc31 := NB329_331.out
       have hcz32_0 : wr.cell? ⟨gb331, 0, none⟩ = some (u332000) := (blk_cell BK331.out 0).trans rfl
       have hcz32_1 : wr.cell? ⟨gb331, 1, none⟩ = some (.int .i64 t330) := (blk_cell BK331.out 1).trans rfl
       have hfz32_0 := blk_frozen BK331.out 0
       have hfz32_1 := blk_frozen BK331.out 1
       have p30 : 0 ≤ (0 : Int) := (by omega)
       have q30 : (0 : Int) < ((x332000_1.length : Int) : Int) := of_decide_eq_true (by first | (with_reducible assumption) | assumption)
       have qi30 : (0 < x332000_1.length) = True := eq_true (by omega)
       obtain ⟨go30, co30, eo30, gb30, gl30, cl30, HG30⟩ := Kd.R_form HO_332000.out (by omega)
       (first | cases eo30 | (injection eo30 with ea_ en_ ec_; (first | subst ea_ | (injection ea_ with ea_; subst ea_)); subst ec_; clear en_))
       have GB30 := am gb30
       have GG30 := am HG30
       clear gb30 gl30 HG30
       obtain ⟨hx30_0, hf30_0⟩ := Kd.R_celln 0 HO_332000.out (0 : Int) p30 q30
       (try rw [show ((0 : Int)).toNat = 0 from rfl] at hx30_0)
       (try simp only [Nat.reduceMul, Nat.zero_mul, Nat.zero_add, Nat.reduceAdd] at hx30_0)
       (try rw [show ((0 : Int)).toNat = 0 from rfl] at hf30_0)
       (try simp only [Nat.reduceMul, Nat.zero_mul, Nat.zero_add, Nat.reduceAdd] at hf30_0)
       replace p30 := eq_true p30
       replace q30 := eq_true q30
       have HP33 := Kd.R_putg HO_332000.out (0 : Int) 16
       go_wp2_with (first | ((with_reducible refine gate_store (t := 3) (p := 51) rfl ?_); refine store_event (t := 3) (p := 51) (v := ?vo_w34) (w1 := (wr.setCell ⟨go30, (0 : Int).toNat, none⟩ (.int .i64 16))) ?hg ?ho ?hn ?hr ?_; (case ho => rfl); (case hg => rfl); (case hn => rfl); (case hr => first | (go_simp; done) | (go_simp; rfl)); intro w34 hw; have hg : wr.grownBy w34 (some go30) := (by rw [hw]; exact HP33.2); have hp_ : Kd.R (Kd.int .i64) 3 w34 w.heap.size (fun _ => True) (.slice (some ⟨go30, 0, none⟩) x332000_1.length co30) y343 := (by rw [hw, Ny343.out]; exact HP33.1); clear HP33; have n0_ := am (hp_); have n1_ := am (blk_grown (bmv BK329.out) hg (Kd.R_ne HO_332000.out BK329.out (by decide))); have n2_ := am (blk_grown (bmv BK331.out) hg (Kd.R_ne HO_332000.out BK331.out (by decide))); have n3_ := am ((by rw [hw]; exact below_set (HB.out) GB30.out : Below w.heap.size w w34)); clear HO_332000 BK329 BK331 HB; revert n0_ n1_ n2_ n3_; intro HO_332000 BK329 BK331 HB; clear hg hw hp_))
       go_meet
       case rel => exact ⟨_, (y343), (.slice (some ⟨go30, 0, none⟩) x332000_1.length co30), H', ⟨by have := HK1.out; first | omega | exact Nat.le_refl _⟩, ⟨by rw [Ny343.out]; exact (Kd.R_putg (Kd.R_drewN HO_332000.out _) (0 : Int) 16).1⟩, ⟨blk_grown (blk_drewN BK329.out _) (Kd.R_putg (Kd.R_drewN HO_332000.out _) (0 : Int) 16).2 (Kd.R_ne HO_332000.out BK329.out (by decide))⟩, ⟨blk_grown (blk_drewN BK331.out _) (Kd.R_putg (Kd.R_drewN HO_332000.out _) (0 : Int) 16).2 (Kd.R_ne HO_332000.out BK331.out (by decide))⟩, ⟨below_set (pw_below_drewN HB.out _) GB30.out⟩⟩
      ·rw [if_neg c29] at H
       exact absurd H (by simp)
     ·rw [if_neg c28] at H
      have c28b0 : (t342 == 0) = false := beq_eq_false_iff_ne.mpr c28
      have c28b1 : (t342 != 0) = true := bne_iff_ne.mpr c28
      (first | rw [c28b0] | (simp only [i64_w, i32_w]; rw [c28b0]) | skip)
      have H' := am H
      clear H
      go_wp2
      go_meet
      case rel => exact ⟨_, (x332000_1), (u332000), H', ⟨by have := HK1.out; first | omega | exact Nat.le_refl _⟩, ⟨by (with_reducible repeat (first | apply Kd.R_alloc | apply Kd.R_drewN | apply Kd.R_drew)); exact HO_332000.out⟩, ⟨by (with_reducible repeat (first | refine blk_drewN ?_ _ | refine blk_drew ?_ | refine blk_alloc ?_ _)); exact BK329.out⟩, ⟨by (with_reducible repeat (first | refine blk_drewN ?_ _ | refine blk_drew ?_ | refine blk_alloc ?_ _)); exact BK331.out⟩, ⟨by repeat (first | (with_reducible first | exact HB.out | apply below_alloc | apply pw_below_drewN | apply below_drew1 | refine below_set ?_ GE329.out | refine below_set ?_ GE331.out) | exact HB.out)⟩⟩
    case rest =>
     clear HC27
     try clear c1
     try clear c2
     try clear p2
     try clear c3
     try clear p3
     try clear q3
     try clear hx3
     try clear qi3
     try clear c4
     try clear p6
     try clear c8
     try clear c11
     try clear c11b0
     try clear c12
     try clear c12b0
     try clear c13
     try clear c13b0
     try clear c15
     try clear c21
     try clear c23
     try clear c28
     try clear c28b0
     try clear c28b1
     try clear c29
     try clear c29b0
     try clear c29b1
     try clear p30
     try clear q30
     try clear hx30
     try clear qi30
     try clear hf30
     try clear c31
     try clear p33
     try clear q33
     try clear hx33
     try clear hcz32_0
     try clear hcz32_1
     try clear hcz9_0
     try clear hcz9_1
     try clear hfz32_0
     try clear hfz32_1
     try clear hfz9_0
     try clear hfz9_1
     try clear hx30_0
     try clear hx333_0
     try clear p2
     try clear p30
     try clear p333
     try clear q30
     try clear q333
     obtain ⟨kq, x332000_26, u332000, HA, HJ26, HO_332000, BK329, BK331, HB⟩ := hcut
     cases kq with
     | zero => exact absurd HA.out (by simp [hypercubelaw1_Facts.j1])
     | succ kj26 =>
      have H := HA.out
      clear HA
      simp only [hypercubelaw1_Facts.j1] at H
      have H' := am H
      clear H
      go_wp2
      go_loopg [13, 14] kj26 (fun kq v13 v14 w' => ∃ (x13_3 : List (S45)) (x14_3 : Int), v14 = .int .i64 x14_3 ∧ Aside0 (hypercubelaw1_Facts.l1 kq l3 x13_3 x14_3 x332000_26 t330 = some (r1, r2, r3)) ∧ Aside0 (kq ≤ kj26) ∧ Aside0 (Kd.S k45 45 w' w.heap.size (fun k_ => some k_ ≠ (u332000 : Value).ownBlock) v13 x13_3) ∧ Aside0 (Kd.R (Kd.int .i64) 3 w' w.heap.size (fun _ => True) u332000 x332000_26) ∧ Aside0 (w'.heap[gb329]? = some (.cells #[(.slice none 0 0), .int .i64 0] 35 (0, 0))) ∧ Aside0 (w'.heap[gb331]? = some (.cells #[u332000, .int .i64 t330] 35 (0, 0))) ∧ Aside0 (Below w.heap.size w w'))
      case atStart => exact ⟨(([] : List (S45))), (0), (by first | rfl | (simp; done) | (simp [*]; done)), H', ⟨Nat.le_refl _⟩, ⟨by first | exact Kd.S_nil _ _ _ _ _ | exact Kd.N_nil _ _ _ _ _ | exact Kd.V_nil _ _ _ _ _ | exact Kd.Q_nil _ _ _ _ _ | exact Kd.R_nil _ _ _ _ _⟩, ⟨by (with_reducible repeat (first | apply Kd.R_alloc | apply Kd.R_drewN | apply Kd.R_drew)); exact HO_332000.out⟩, ⟨by (with_reducible repeat (first | refine blk_drewN ?_ _ | refine blk_drew ?_ | refine blk_alloc ?_ _)); exact BK329.out⟩, ⟨by (with_reducible repeat (first | refine blk_drewN ?_ _ | refine blk_drew ?_ | refine blk_alloc ?_ _)); exact BK331.out⟩, ⟨by repeat (first | (with_reducible first | exact HB.out | apply below_alloc | apply pw_below_drewN | apply below_drew1 | refine below_set ?_ GE329.out | refine below_set ?_ GE331.out) | exact HB.out)⟩⟩
      case round =>
       clear H'
       try clear c1
       try clear c2
       try clear p2
       try clear c3
       try clear p3
       try clear q3
       try clear hx3
       try clear qi3
       try clear c4
       try clear p6
       try clear c8
       try clear c11
       try clear c11b0
       try clear c12
       try clear c12b0
       try clear c13
       try clear c13b0
       try clear c15
       try clear c21
       try clear c23
       try clear c28
       try clear c28b0
       try clear c28b1
       try clear c29
       try clear c29b0
       try clear c29b1
       try clear p30
       try clear q30
       try clear hx30
       try clear qi30
       try clear hf30
       try clear c31
       try clear p33
       try clear q33
       try clear hx33
       try clear hcz32_0
       try clear hcz32_1
       try clear hcz9_0
       try clear hcz9_1
       try clear hfz32_0
       try clear hfz32_1
       try clear hfz9_0
       try clear hfz9_1
       try clear hx30_0
       try clear hx333_0
       try clear p2
       try clear p3
       try clear p30
       try clear p33
       try clear p333
       try clear p6
       try clear q3
       try clear q30
       try clear q33
       try clear q333
       obtain ⟨x13_3, x14_3, rfl, HA, HK3, HO_13, HO_332000, BK329, BK331, HB⟩ := hrel
       cases gk with
       | zero => exact absurd HA.out (by simp [hypercubelaw1_Facts.l1])
       | succ k3 =>
        have H := HA.out
        clear HA
        simp only [hypercubelaw1_Facts.l1] at H
        have HC35 := am H
        clear H
        go_upto_region 13 with (fail)
        go_cut [59] (fun v59 wc => ∃ (kq : Nat) (x59_34 : Bool), v59 = .bool x59_34 ∧ Aside0 (hypercubelaw1_Facts.j3 kq l3 x13_3 x14_3 x59_34 x332000_26 t330 = some (r1, r2, r3)) ∧ Aside0 (kq ≤ k3) ∧ Aside0 (Kd.S k45 45 wc w.heap.size (fun k_ => some k_ ≠ (u332000 : Value).ownBlock) u13 x13_3) ∧ Aside0 (Kd.R (Kd.int .i64) 3 wc w.heap.size (fun _ => True) u332000 x332000_26) ∧ Aside0 (wc.heap[gb329]? = some (.cells #[(.slice none 0 0), .int .i64 0] 35 (0, 0))) ∧ Aside0 (wc.heap[gb331]? = some (.cells #[u332000, .int .i64 t330] 35 (0, 0))) ∧ Aside0 (Below w.heap.size w wc))
        case first =>
         have H := HC35.out
         clear HC35
         by_cases c36 : x14_3 < (l3.length : Int)
         ·rw [if_pos c36] at H
          have c36b0 : decide (x14_3 < (l3.length : Int)) = true := decide_eq_true c36
          clear c36
          (first | rw [c36b0] | (simp only [i64_w, i32_w]; rw [c36b0]) | skip)
          have H' := am H
          clear H
          go_wp2
          go_meet
          case rel => exact ⟨_, (decide (x14_3 < 40)), (by first | rfl | (simp; done) | (simp [*]; done)), H', ⟨by have := HK1.out; have := HJ26.out; have := HK3.out; first | omega | exact Nat.le_refl _⟩, ⟨by (with_reducible repeat (first | apply Kd.S_alloc | apply Kd.S_drewN | apply Kd.S_drew)); exact HO_13.out⟩, ⟨by (with_reducible repeat (first | apply Kd.R_alloc | apply Kd.R_drewN | apply Kd.R_drew)); exact HO_332000.out⟩, ⟨by (with_reducible repeat (first | refine blk_drewN ?_ _ | refine blk_drew ?_ | refine blk_alloc ?_ _)); exact BK329.out⟩, ⟨by (with_reducible repeat (first | refine blk_drewN ?_ _ | refine blk_drew ?_ | refine blk_alloc ?_ _)); exact BK331.out⟩, ⟨by repeat (first | (with_reducible first | exact HB.out | apply below_alloc | apply pw_below_drewN | apply below_drew1 | refine below_set ?_ GE329.out | refine below_set ?_ GE331.out) | exact HB.out)⟩⟩
         ·rw [if_neg c36] at H
          have c36b0 : decide (x14_3 < (l3.length : Int)) = false := decide_eq_false c36
          clear c36
          (first | rw [c36b0] | (simp only [i64_w, i32_w]; rw [c36b0]) | skip)
          have H' := am H
          clear H
          go_wp2
          go_meet
          case rel => exact ⟨_, (false), (by first | rfl | (simp; done) | (simp [*]; done)), H', ⟨by have := HK1.out; have := HJ26.out; have := HK3.out; first | omega | exact Nat.le_refl _⟩, ⟨by (with_reducible repeat (first | apply Kd.S_alloc | apply Kd.S_drewN | apply Kd.S_drew)); exact HO_13.out⟩, ⟨by (with_reducible repeat (first | apply Kd.R_alloc | apply Kd.R_drewN | apply Kd.R_drew)); exact HO_332000.out⟩, ⟨by (with_reducible repeat (first | refine blk_drewN ?_ _ | refine blk_drew ?_ | refine blk_alloc ?_ _)); exact BK329.out⟩, ⟨by (with_reducible repeat (first | refine blk_drewN ?_ _ | refine blk_drew ?_ | refine blk_alloc ?_ _)); exact BK331.out⟩, ⟨by repeat (first | (with_reducible first | exact HB.out | apply below_alloc | apply pw_below_drewN | apply below_drew1 | refine below_set ?_ GE329.out | refine below_set ?_ GE331.out) | exact HB.out)⟩⟩
        case rest =>
         clear HC35
         try clear c1
         try clear c2
         try clear p2
         try clear c3
         try clear p3
         try clear q3
         try clear hx3
         try clear qi3
         try clear c4
         try clear p6
         try clear c8
         try clear c11
         try clear c11b0
         try clear c12
         try clear c12b0
         try clear c13
         try clear c13b0
         try clear c15
         try clear c21
         try clear c23
         try clear c28
         try clear c28b0
         try clear c28b1
         try clear c29
         try clear c29b0
         try clear c29b1
         try clear p30
         try clear q30
         try clear hx30
         try clear qi30
         try clear hf30
         try clear c31
         try clear p33
         try clear q33
         try clear hx33
         try clear c36
         try clear c36b0
         try clear hcz32_0
         try clear hcz32_1
         try clear hcz9_0
         try clear hcz9_1
         try clear hfz32_0
         try clear hfz32_1
         try clear hfz9_0
         try clear hfz9_1
         try clear hx30_0
         try clear hx333_0
         try clear p2
         try clear p3
         try clear p30
         try clear p33
         try clear p333
         try clear p6
         try clear q3
         try clear q30
         try clear q33
         try clear q333
         obtain ⟨kq, x59_34, rfl, HA, HJ34, HO_13, HO_332000, BK329, BK331, HB⟩ := hcut
         cases kq with
         | zero => exact absurd HA.out (by simp [hypercubelaw1_Facts.j3])
         | succ kj34 =>
          have H := HA.out
          clear HA
          simp only [hypercubelaw1_Facts.j3] at H
          by_cases c37 : x59_34 = true
          ·subst c37
           have H1 : (if 0 ≤ x14_3 then (if x14_3 < (l3.length : Int) then (hypercubelaw1_Facts.l2 kj34 l3 x13_3 x14_3 (rd l3 x14_3) 0 x332000_26 t330 ([] : List Int)) else (none)) else (none)) = some (r1, r2, r3) := by rw [if_pos rfl] at H; exact H
           clear H
           have H := H1
           clear H1
           by_cases c38 : 0 ≤ x14_3
           ·rw [if_pos c38] at H
            have c38b0 : decide (0 ≤ x14_3) = true := decide_eq_true c38
            clear c38
            by_cases c39 : x14_3 < (l3.length : Int)
            ·rw [if_pos c39] at H
             have c39b0 : decide (x14_3 < (l3.length : Int)) = true := decide_eq_true c39
             clear c39
             have H' := am H
             clear H
             have p344 : 0 ≤ (x14_3 : Int) := of_decide_eq_true (by first | (with_reducible assumption) | assumption)
             have q344 : x14_3 < (l3.length : Int) := of_decide_eq_true (by first | (with_reducible assumption) | assumption)
             obtain ⟨ad344, e344, hx344_0⟩ := Kd.at_int HR3.out x14_3 p344 q344
             cases e344
             replace hx344_0 := (HB.out.cell (World.block_lt_of_cell? w _ hx344_0)).trans hx344_0
             replace p344 := eq_true p344
             replace q344 := eq_true q344
             go_wp2_with (first | ((with_reducible refine gate_dst (N := 16) rfl ?_); refine box_event ?hg (N := 16) ?hd (cs := #[.slice none 0 0, .slice none 0 0]) (t := 45) ?hr ?_; (case hd => rfl); (case hg => rfl); (case hr => first | (go_simp; done) | (go_simp; rfl)); intro gb345 hg w40 hbox hb; have n0_ := am (Kd.S_below (Kd.S_elderB (Kd.S_mv HO_13.out) gb345 (Nat.le_of_eq hg.symm)) hb); have n1_ := am (Kd.R_below (Kd.R_mv HO_332000.out) hb); have n2_ := am (blk_below (bmv BK329.out) hb); have n3_ := am (blk_below (bmv BK331.out) hb); have n4_ := am (below_step (wmv HB.out) hb); have n5_ := am (hbox); have n6_ := am ((by rw [hg]; exact (below_size (wmv HB.out)) : w.heap.size ≤ gb345)); have n7_ := am ((by rw [hg]; exact (below_size (wmv HB.out)) : w.heap.size ≤ gb345)); have n8_ := am ((by rw [hg]; exact Nat.ne_of_lt (blk_lt (bmv BK329.out)) : gb329 ≠ gb345)); have n9_ := am ((by rw [hg]; exact Nat.ne_of_gt (blk_lt (bmv BK329.out)) : gb345 ≠ gb329)); have n10_ := am ((by rw [hg]; exact Nat.ne_of_lt (blk_lt (bmv BK331.out)) : gb331 ≠ gb345)); have n11_ := am ((by rw [hg]; exact Nat.ne_of_gt (blk_lt (bmv BK331.out)) : gb345 ≠ gb331)); clear HO_13 HO_332000 BK329 BK331 HB; revert n0_ n1_ n2_ n3_ n4_ n5_ n6_ n7_ n8_ n9_ n10_ n11_; intro HO_13 HO_332000 BK329 BK331 HB BK345 GW345 GE345 NB329_345 NB345_329 NB331_345 NB345_331; clear hb hbox hg))
             go_loopg [15, 17] kj34 (fun kq v15 v17 w' => ∃ (x15_5 : Int) (x17_5 : Int) (x346000_5 : List Int) (u346000 : Value), v15 = .int .i64 x15_5 ∧ v17 = .int .i64 x17_5 ∧ Aside0 (hypercubelaw1_Facts.l2 kq l3 x13_3 x14_3 x15_5 x17_5 x332000_26 t330 x346000_5 = some (r1, r2, r3)) ∧ Aside0 (kq ≤ kj34) ∧ Aside0 (Kd.S k45 45 w' w.heap.size (fun k_ => some k_ ≠ (u332000 : Value).ownBlock ∧ some k_ ≠ (u346000 : Value).ownBlock ∧ k_ ≠ gb345) u13 x13_3) ∧ Aside0 (Kd.R (Kd.int .i64) 3 w' w.heap.size (fun k_ => some k_ ≠ (u346000 : Value).ownBlock) u332000 x332000_26) ∧ Aside0 (Kd.R (Kd.int .i64) 3 w' w.heap.size (fun k_ => some k_ ≠ (u332000 : Value).ownBlock) u346000 x346000_5) ∧ Aside0 (w'.heap[gb329]? = some (.cells #[(.slice none 0 0), .int .i64 0] 35 (0, 0))) ∧ Aside0 (w'.heap[gb331]? = some (.cells #[u332000, .int .i64 t330] 35 (0, 0))) ∧ Aside0 (w'.heap[gb345]? = some (.cells #[u346000, (.slice none 0 0)] 45 (0, 0))) ∧ Aside0 (Below w.heap.size w w'))
             case atStart => exact ⟨(rd l3 x14_3), (0), (([] : List Int)), (.slice none 0 0), (by first | rfl | (simp; done) | (simp [*]; done)), (by first | rfl | (simp; done) | (simp [*]; done)), H', ⟨Nat.le_refl _⟩, ⟨by (with_reducible repeat (first | apply Kd.S_alloc | apply Kd.S_drewN | apply Kd.S_drew)); exact Kd.S_mono HO_13.out (fun _ hk => ⟨hk.1, ⟨(by simp [Value.ownBlock]), hk.2⟩⟩)⟩, ⟨by (with_reducible repeat (first | apply Kd.R_alloc | apply Kd.R_drewN | apply Kd.R_drew)); exact Kd.R_mono HO_332000.out (fun _ hk => (by simp [Value.ownBlock]))⟩, ⟨by first | exact Kd.R_nil _ _ _ _ _ | exact Kd.N_nil _ _ _ _ _ | exact Kd.V_nil _ _ _ _ _ | exact Kd.Q_nil _ _ _ _ _ | exact Kd.S_nil _ _ _ _ _⟩, ⟨by (with_reducible repeat (first | refine blk_drewN ?_ _ | refine blk_drew ?_ | refine blk_alloc ?_ _)); exact BK329.out⟩, ⟨by (with_reducible repeat (first | refine blk_drewN ?_ _ | refine blk_drew ?_ | refine blk_alloc ?_ _)); exact BK331.out⟩, ⟨by (with_reducible repeat (first | refine blk_drewN ?_ _ | refine blk_drew ?_ | refine blk_alloc ?_ _)); exact BK345.out⟩, ⟨by repeat (first | (with_reducible first | exact HB.out | apply below_alloc | apply pw_below_drewN | apply below_drew1 | refine below_set ?_ GE329.out | refine below_set ?_ GE331.out | refine below_set ?_ GE345.out) | exact HB.out)⟩⟩
             case round =>
              clear H'
              try clear c1
              try clear c2
              try clear p2
              try clear c3
              try clear p3
              try clear q3
              try clear hx3
              try clear qi3
              try clear c4
              try clear p6
              try clear c8
              try clear c11
              try clear c11b0
              try clear c12
              try clear c12b0
              try clear c13
              try clear c13b0
              try clear c15
              try clear c21
              try clear c23
              try clear c28
              try clear c28b0
              try clear c28b1
              try clear c29
              try clear c29b0
              try clear c29b1
              try clear p30
              try clear q30
              try clear hx30
              try clear qi30
              try clear hf30
              try clear c31
              try clear p33
              try clear q33
              try clear hx33
              try clear p34
              try clear q34
              try clear hx34
              try clear c36
              try clear c36b0
              try clear c37
              try clear c38
              try clear c38b0
              try clear c39
              try clear c39b0
              try clear hcz32_0
              try clear hcz32_1
              try clear hcz9_0
              try clear hcz9_1
              try clear hfz32_0
              try clear hfz32_1
              try clear hfz9_0
              try clear hfz9_1
              try clear hx30_0
              try clear hx333_0
              try clear hx344_0
              try clear p2
              try clear p3
              try clear p30
              try clear p33
              try clear p333
              try clear p344
              try clear p6
              try clear q3
              try clear q30
              try clear q33
              try clear q333
              try clear q344
              obtain ⟨x15_5, x17_5, x346000_5, u346000, rfl, rfl, HA, HK5, HO_13, HO_332000, HO_346000, BK329, BK331, BK345, HB⟩ := hrel
              cases gk with
              | zero => exact absurd HA.out (by simp [hypercubelaw1_Facts.l2])
              | succ k5 =>
               have H := HA.out
               clear HA
               simp only [hypercubelaw1_Facts.l2] at H
               by_cases c41 : x17_5 < (x332000_26.length : Int)
               ·rw [if_pos c41] at H
                have c41b0 : decide (x17_5 < (x332000_26.length : Int)) = true := decide_eq_true c41
                clear c41
                by_cases c42 : 0 ≤ x17_5
                ·rw [if_pos c42] at H
                 have c42b0 : decide (0 ≤ x17_5) = true := decide_eq_true c42
                 clear c42
                 replace H := Option.bind_eq_some_iff.mp H
                 obtain ⟨t347, A430, H⟩ := H
                 replace H : (if x346000_5.length < 17592186044416 then (hypercubelaw1_Facts.l2 k5 l3 x13_3 x14_3 (wrap64 (Int.tdiv x15_5 5)) (wrap64 (x17_5 + 1)) x332000_26 t330 (x346000_5 ++ [t347])) else (none)) = some (r1, r2, r3) := H
                 have A43 := am A430
                 clear A430
                 by_cases c44 : x346000_5.length < 17592186044416
                 ·rw [if_pos c44] at H
                  have LMc44 := am c44
                  clear c44
                  obtain ⟨y348, hy348⟩ : ∃ y_ : List Int, y_ = (x346000_5 ++ [t347]) := ⟨_, rfl⟩
                  replace H : (hypercubelaw1_Facts.l2 k5 l3 x13_3 x14_3 (wrap64 (Int.tdiv x15_5 5)) (wrap64 (x17_5 + 1)) x332000_26 t330 y348) = some (r1, r2, r3) := by rw [hy348]; with_reducible exact H
                  have Ny348 := am hy348
                  clear hy348
                  have H' := am H
                  clear H
                  have hnb45 := NB331_329.out
                  have hnc45 := NB329_331.out
                  have hnb46 := NB331_345.out
                  have hnc46 := NB345_331.out
                  have hcz47_0 : wr.cell? ⟨gb331, 0, none⟩ = some (u332000) := (blk_cell BK331.out 0).trans rfl
                  have hcz47_1 : wr.cell? ⟨gb331, 1, none⟩ = some (.int .i64 t330) := (blk_cell BK331.out 1).trans rfl
                  have hfz47_0 := blk_frozen BK331.out 0
                  have hfz47_1 := blk_frozen BK331.out 1
                  obtain ⟨Ao48, co48, eo48⟩ := Kd.R_slice HO_332000.out
                  subst eo48
                  try go_wp2
                  have n0_ := am (Kd.S_drew HO_13.out)
                  have n1_ := am (Kd.R_drew HO_332000.out)
                  have n2_ := am (Kd.R_drew HO_346000.out)
                  have n3_ := am (blk_drew BK329.out)
                  have n4_ := am (blk_drew BK331.out)
                  have n5_ := am (blk_drew BK345.out)
                  have n6_ := am (below_drew1 HB.out)
                  clear HO_13 HO_332000 HO_346000 BK329 BK331 BK345 HB
                  revert n0_ n1_ n2_ n3_ n4_ n5_ n6_
                  intro HO_13 HO_332000 HO_346000 BK329 BK331 BK345 HB
                  have p346 : 0 ≤ (x17_5 : Int) := of_decide_eq_true (by first | (with_reducible assumption) | assumption)
                  have q346 : x17_5 < (x332000_26.length : Int) := of_decide_eq_true (by first | (with_reducible assumption) | assumption)
                  obtain ⟨ad346, e346, hx346_0⟩ := Kd.at_int (Kd.R_reads' HO_332000.out).2.2 x17_5 p346 q346
                  cases e346
                  replace p346 := eq_true p346
                  replace q346 := eq_true q346
                  refine start_ (n := 13) (S := fun w' => w'.cell? ⟨gb345, 0, none⟩ = some (u346000) ∧ w'.cell? ⟨gb345, 1, none⟩ = some (.slice none 0 0) ∧ w'.cell? ⟨gb331, 0, none⟩ = some (.slice (some ad346) x332000_26.length co48) ∧ w'.cell? ⟨gb331, 1, none⟩ = some (.int .i64 t330) ∧ w'.cell? (ad346.add (x17_5).toNat) = some (.int .i64 (rd x332000_26 x17_5))) (ds := [10, 12]) (bb 13 0) (by kernel_rfl) rfl rfl ⟨bc BK345 0, bc BK345 1, bc BK331 0, bc BK331 1, hx346_0⟩ (fun hHeld => ?_); refine with_tabW hypercubelaw1_Facts.tab20 hypercubelaw1_Facts.bits20 (fun HT_ HW_ => ?_)
                  generalize wr.drew = w49 at HO_13 HO_332000 HO_346000 BK329 BK331 BK345 HB hx346_0 hHeld ⊢
                  refine pu (i := 0) (N := some 73) (bb 13 1) HT_ ?_
                  refine pu (i := 2) (N := some 75) (bb 13 5) HT_ ?_
                  refine pu (i := 3) (N := some 76) (bb 13 13) HT_ ?_
                  refine pu (i := 5) (N := some 78) (bb 13 45) HT_ ?_
                  refine tk (i := 1) (N := some 74) (bb 13 47) HT_ HW_ hHeld ?_
                  refine tk (i := 4) (N := some 77) (bb 13 63) HT_ HW_ hHeld ?_
                  refine pu (i := 6) (N := some 79) (bb 13 127) HT_ ?_
                  refine tk (i := 7) (N := some 80) (bb 13 255) HT_ HW_ hHeld ?_
                  refine one_ (i := 8) (N := some 81) (bb 13 511) rfl rfl (one_of HT_.out (by kernel_rfl)) (by decide) (fun K hK => ?_)
                  refine goes_ Try.func45 (by kernel_rfl) rfl #[.int .i64 x15_5, .int .i64 (rd x332000_26 x17_5)] (by rfl) rfl rfl (by (try simp only [List.map_toArray, List.map_cons, List.map_nil]); first | done | rfl | (simp only [List.length_drop, List.length_take]; rfl)) ?_
                  with_reducible refine (hypercubelaw1_within.calls x15_5 (rd x332000_26 x17_5) t347 _ A43.out).mono ?_
                  rintro e w' ⟨rfl, ⟨nd, rfl⟩⟩
                  refine ⟨_, rfl, ?_⟩
                  refine hK.out _ _ ⟨bc BK345 0, bc BK345 1, bc BK331 0, bc BK331 1, hHeld.2.2.2.2⟩ (fun hHeld => ?_)
                  clear hK K
                  refine nm ?_
                  refine one_ (i := 9) (N := some 82) (bb 13 1023) rfl rfl (one_of HT_.out (by kernel_rfl)) (by decide) (fun K hK => ?_)
                  refine value_ (w1 := ?_) (v := ?_) (by rfl) rfl ?_ ?_
                  rotate_left 2
                  ·go_simp
                   constructor
                   ·rfl
                   ·rfl
                  refine hK.out _ _ ⟨(blk_cell (blk_alloc BK345.out _) 0).trans rfl, (blk_cell (blk_alloc BK345.out _) 1).trans rfl, (blk_cell (blk_alloc BK331.out _) 0).trans rfl, (blk_cell (blk_alloc BK331.out _) 1).trans rfl, (World.cell?_alloc_lt _ _ _ (World.block_lt_of_cell? _ _ (hHeld.2.2.2.2))).trans (hHeld.2.2.2.2)⟩ (fun hHeld => ?_)
                  clear hK K
                  refine nm ?_
                  refine last_ (i := 10) (N := some 83) (bb 13 2047) rfl rfl (one_of HT_.out (by kernel_rfl)) (by decide) (fun K hK => ?_)
                  refine Kd.R_append_step (Kd.int .i64) (w0 := w) w.heap.size (by rfl) (.tmp 74) (.tmp 82) 22 3 (.int .i64 0) 8 rfl Try.underlying22 info3 rfl (by decide) (by omega) u346000 x346000_5 t347 [.int .i64 t347] (fun k_ => some k_ ≠ (.slice (some ad346) x332000_26.length co48 : Value).ownBlock) (fun _ => False) rfl rfl ?aP (fun _ hk => hk.elim) ?aF ?aO ?aB ?aS ?aL ?_
                  (case aP => exact rfl)
                  (case aB => exact (wmv HB.out))
                  (case aF => exact (fun k_ hk => Kd.fresh' (Kd.R_lt (Kd.R_mv HO_332000.out)) k_ hk))
                  (case aO => exact (Kd.R_mv HO_346000.out))
                  (case aS => exact (below_size (wmv HB.out)))
                  (case aL => have := LMc44.out; omega)
                  intro v349 w50 ho hb hg hat
                  rw [← Ny348.out] at ho
                  have n0_ := am (Kd.S_after (ok := (fun k_ => some k_ ≠ (.slice (some ad346) x332000_26.length co48 : Value).ownBlock ∧ k_ ≠ gb345)) (Kd.S_mv (Kd.S_mono HO_13.out (fun _ hk => ⟨⟨hk.1, hk.2.2⟩, hk.2.1⟩))) hg hat)
                  have n1_ := am (Kd.R_after (ok := (fun _ => True)) (Kd.R_mv (Kd.R_mono HO_332000.out (fun _ hk => ⟨trivial, hk⟩))) hg hat)
                  have n2_ := am (blk_grown (bmv BK329.out) hg (Kd.R_ne HO_346000.out BK329.out (by decide)))
                  have n3_ := am (blk_grown (bmv BK331.out) hg (Kd.R_ne HO_346000.out BK331.out (by decide)))
                  have n4_ := am (blk_grown (bmv BK345.out) hg (Kd.R_ne HO_346000.out BK345.out (by decide)))
                  have n5_ := am (hb)
                  have n6_ := am (ho)
                  clear HO_13 HO_332000 BK329 BK331 BK345 HB HO_346000
                  revert n0_ n1_ n2_ n3_ n4_ n5_ n6_
                  intro HO_13 HO_332000 BK329 BK331 BK345 HB HO350
                  clear ho hb hg hat
                  obtain ⟨Ao51, co51, eo51⟩ := Kd.R_slice HO350.out
                  (first | subst eo51 | (injection eo51 with f1_ f2_ f3_; have f4_ := f1_.symm; have f5_ := f3_.symm; clear f1_ f2_ f3_; subst f4_; subst f5_))
                  refine hK.out _ _ ?_
                  clear hK K
                  refine nm ?_
                  refine pu (i := 11) (N := some 84) (bb 13 4095) HT_ ?_
                  refine last_ (i := 12) (N := none) (bb 13 8191) rfl rfl (one_of HT_.out (by kernel_rfl)) (by decide) (fun K hK => ?_)
                  have hs52 : w50.cell? ⟨gb345, 0, none⟩ = some (u346000) := (blk_cell BK345.out 0).trans rfl
                  have hfs52 := blk_frozen BK345.out 0
                  have hns52_0 := NB329_345.out
                  have hns52_1 := NB331_345.out
                  have hms52_0 := NB345_329.out
                  have hms52_1 := NB345_331.out
                  refine skip_ (w1 := ?_) (by rfl) rfl ?_ ?_
                  rotate_left
                  ·go_simp
                   rfl
                  refine hK.out _ _ ?_
                  clear hK K
                  refine done_ (done_of HT_.out (by kernel_rfl)) ?_
                  try go_wp2
                  go_roundg k5
                  case measure => have := HK1.out; have := HJ26.out; have := HK3.out; have := HJ34.out; have := HK5.out; omega
                  case rel => exact ⟨(wrap64 (Int.tdiv x15_5 5)), (wrap64 (x17_5 + 1)), (y348), (.slice Ao51 y348.length co51), (by first | rfl | (simp; done) | (simp [*]; done)), (by first | rfl | (simp; done) | (simp [*]; done)), H', ⟨by have := HK1.out; have := HJ26.out; have := HK3.out; have := HJ34.out; have := HK5.out; omega⟩, ⟨by (with_reducible repeat (first | apply Kd.S_alloc | apply Kd.S_drewN | apply Kd.S_drew)); exact Kd.S_mono (Kd.S_far (p := ⟨gb345, 0, none⟩) (Kd.S_mono HO_13.out (fun k_ hk => (⟨hk, hk.1.2⟩ : _ ∧ k_ ≠ gb345))) (fun _ hk => hk.2) (.slice Ao51 y348.length co51)) (fun _ hk => ⟨hk.1.1.1, ⟨hk.1.2, hk.1.1.2⟩⟩)⟩, ⟨by (with_reducible repeat (first | apply Kd.R_alloc | apply Kd.R_drewN | apply Kd.R_drew)); exact Kd.R_mono (Kd.R_far (p := ⟨gb345, 0, none⟩) (Kd.R_types HO_332000.out BK345.out (by decide)) (fun _ hk => hk.2) (.slice Ao51 y348.length co51)) (fun _ hk => hk.1.2)⟩, ⟨by (with_reducible repeat (first | apply Kd.R_alloc | apply Kd.R_drewN | apply Kd.R_drew)); exact Kd.R_mono (Kd.R_far (p := ⟨gb345, 0, none⟩) (Kd.R_types HO350.out BK345.out (by decide)) (fun _ hk => hk.2) (.slice Ao51 y348.length co51)) (fun _ hk => hk.1)⟩, ⟨by (with_reducible repeat (first | refine blk_drewN ?_ _ | refine blk_drew ?_ | refine blk_alloc ?_ _)); refine blk_far ?_ NB329_345.out _; (with_reducible repeat (first | refine blk_drewN ?_ _ | refine blk_drew ?_ | refine blk_alloc ?_ _)); exact BK329.out⟩, ⟨by (with_reducible repeat (first | refine blk_drewN ?_ _ | refine blk_drew ?_ | refine blk_alloc ?_ _)); refine blk_far ?_ NB331_345.out _; (with_reducible repeat (first | refine blk_drewN ?_ _ | refine blk_drew ?_ | refine blk_alloc ?_ _)); exact BK331.out⟩, ⟨by (with_reducible repeat (first | refine blk_drewN ?_ _ | refine blk_drew ?_ | refine blk_alloc ?_ _)); refine blk_put (cs := #[u346000, .slice none 0 0]) ?_ 0 _ rfl; (with_reducible repeat (first | refine blk_drewN ?_ _ | refine blk_drew ?_ | refine blk_alloc ?_ _)); exact BK345.out⟩, ⟨by repeat (first | (with_reducible first | exact HB.out | apply below_alloc | apply pw_below_drewN | apply below_drew1 | refine below_set ?_ GE329.out | refine below_set ?_ GE331.out | refine below_set ?_ GE345.out) | exact HB.out)⟩⟩
                 ·rw [if_neg c44] at H
                  exact absurd H (by simp)
                ·rw [if_neg c42] at H
                 exact absurd H (by simp)
               ·rw [if_neg c41] at H
                have c41b0 : decide (x17_5 < (x332000_26.length : Int)) = false := decide_eq_false c41
                clear c41
                have H' := am H
                clear H
                have hnb53 := NB331_329.out
                have hnc53 := NB329_331.out
                have hnb54 := NB331_345.out
                have hnc54 := NB345_331.out
                have hcz55_0 : wr.cell? ⟨gb331, 0, none⟩ = some (u332000) := (blk_cell BK331.out 0).trans rfl
                have hcz55_1 : wr.cell? ⟨gb331, 1, none⟩ = some (.int .i64 t330) := (blk_cell BK331.out 1).trans rfl
                have hfz55_0 := blk_frozen BK331.out 0
                have hfz55_1 := blk_frozen BK331.out 1
                obtain ⟨Ao56, co56, eo56⟩ := Kd.R_slice HO_332000.out
                subst eo56
                go_wp2
                go_loopg [18] k5 (fun kq v18 w' => ∃ (x18_6 : Int) (x346001_6 : List Int) (u346001 : Value), v18 = .int .i64 x18_6 ∧ Aside0 (hypercubelaw1_Facts.l3 kq l3 x13_3 x14_3 x15_5 x18_6 x332000_26 t330 x346000_5 x346001_6 = some (r1, r2, r3)) ∧ Aside0 (kq ≤ k5) ∧ Aside0 (Kd.S k45 45 w' w.heap.size (fun k_ => some k_ ≠ ((.slice Ao56 x332000_26.length co56) : Value).ownBlock ∧ some k_ ≠ (u346000 : Value).ownBlock ∧ some k_ ≠ (u346001 : Value).ownBlock ∧ k_ ≠ gb345) u13 x13_3) ∧ Aside0 (Kd.R (Kd.int .i64) 3 w' w.heap.size (fun k_ => some k_ ≠ (u346000 : Value).ownBlock ∧ some k_ ≠ (u346001 : Value).ownBlock) (.slice Ao56 x332000_26.length co56) x332000_26) ∧ Aside0 (Kd.R (Kd.int .i64) 3 w' w.heap.size (fun k_ => some k_ ≠ ((.slice Ao56 x332000_26.length co56) : Value).ownBlock ∧ some k_ ≠ (u346001 : Value).ownBlock) u346000 x346000_5) ∧ Aside0 (Kd.R (Kd.int .i64) 3 w' w.heap.size (fun k_ => some k_ ≠ ((.slice Ao56 x332000_26.length co56) : Value).ownBlock ∧ some k_ ≠ (u346000 : Value).ownBlock) u346001 x346001_6) ∧ Aside0 (w'.heap[gb329]? = some (.cells #[(.slice none 0 0), .int .i64 0] 35 (0, 0))) ∧ Aside0 (w'.heap[gb331]? = some (.cells #[(.slice Ao56 x332000_26.length co56), .int .i64 t330] 35 (0, 0))) ∧ Aside0 (w'.heap[gb345]? = some (.cells #[u346000, u346001] 45 (0, 0))) ∧ Aside0 (Below w.heap.size w w'))
                case atStart => exact ⟨(0), (([] : List Int)), (.slice none 0 0), (by first | rfl | (simp; done) | (simp [*]; done)), H', ⟨Nat.le_refl _⟩, ⟨by (with_reducible repeat (first | apply Kd.S_alloc | apply Kd.S_drewN | apply Kd.S_drew)); exact Kd.S_mono HO_13.out (fun _ hk => ⟨hk.1, ⟨hk.2.1, ⟨(by simp [Value.ownBlock]), hk.2.2⟩⟩⟩)⟩, ⟨by (with_reducible repeat (first | apply Kd.R_alloc | apply Kd.R_drewN | apply Kd.R_drew)); exact Kd.R_mono HO_332000.out (fun _ hk => ⟨hk, (by simp [Value.ownBlock])⟩)⟩, ⟨by (with_reducible repeat (first | apply Kd.R_alloc | apply Kd.R_drewN | apply Kd.R_drew)); exact Kd.R_mono HO_346000.out (fun _ hk => ⟨hk, (by simp [Value.ownBlock])⟩)⟩, ⟨by first | exact Kd.R_nil _ _ _ _ _ | exact Kd.N_nil _ _ _ _ _ | exact Kd.V_nil _ _ _ _ _ | exact Kd.Q_nil _ _ _ _ _ | exact Kd.S_nil _ _ _ _ _⟩, ⟨by (with_reducible repeat (first | refine blk_drewN ?_ _ | refine blk_drew ?_ | refine blk_alloc ?_ _)); exact BK329.out⟩, ⟨by (with_reducible repeat (first | refine blk_drewN ?_ _ | refine blk_drew ?_ | refine blk_alloc ?_ _)); exact BK331.out⟩, ⟨by (with_reducible repeat (first | refine blk_drewN ?_ _ | refine blk_drew ?_ | refine blk_alloc ?_ _)); exact BK345.out⟩, ⟨by repeat (first | (with_reducible first | exact HB.out | apply below_alloc | apply pw_below_drewN | apply below_drew1 | refine below_set ?_ GE329.out | refine below_set ?_ GE331.out | refine below_set ?_ GE345.out) | exact HB.out)⟩⟩
                case round =>
                 clear H'
                 try clear c1
                 try clear c2
                 try clear p2
                 try clear c3
                 try clear p3
                 try clear q3
                 try clear hx3
                 try clear qi3
                 try clear c4
                 try clear c5
                 try clear p6
                 try clear c8
                 try clear c11
                 try clear c11b0
                 try clear c12
                 try clear c12b0
                 try clear c13
                 try clear c13b0
                 try clear c15
                 try clear c21
                 try clear c23
                 try clear c28
                 try clear c28b0
                 try clear c28b1
                 try clear c29
                 try clear c29b0
                 try clear c29b1
                 try clear p30
                 try clear q30
                 try clear hx30
                 try clear qi30
                 try clear hf30
                 try clear c31
                 try clear p33
                 try clear q33
                 try clear hx33
                 try clear p34
                 try clear q34
                 try clear hx34
                 try clear c36
                 try clear c36b0
                 try clear c37
                 try clear c38
                 try clear c38b0
                 try clear c39
                 try clear c39b0
                 try clear c41
                 try clear c41b0
                 try clear c42
                 try clear c42b0
                 try clear c44
                 try clear c45
                 try clear c46
                 try clear c53
                 try clear c54
                 try clear hcz32_0
                 try clear hcz32_1
                 try clear hcz47_0
                 try clear hcz47_1
                 try clear hcz55_0
                 try clear hcz55_1
                 try clear hcz9_0
                 try clear hcz9_1
                 try clear hfz32_0
                 try clear hfz32_1
                 try clear hfz47_0
                 try clear hfz47_1
                 try clear hfz55_0
                 try clear hfz55_1
                 try clear hfz9_0
                 try clear hfz9_1
                 try clear hx30_0
                 try clear hx333_0
                 try clear hx344_0
                 try clear hx346_0
                 try clear p2
                 try clear p3
                 try clear p30
                 try clear p33
                 try clear p333
                 try clear p34
                 try clear p344
                 try clear p346
                 try clear p6
                 try clear q3
                 try clear q30
                 try clear q33
                 try clear q333
                 try clear q34
                 try clear q344
                 try clear q346
                 obtain ⟨x18_6, x346001_6, u346001, rfl, HA, HK6, HO_13, HO_332000, HO_346000, HO_346001, BK329, BK331, BK345, HB⟩ := hrel
                 cases gk with
                 | zero => exact absurd HA.out (by simp [hypercubelaw1_Facts.l3])
                 | succ k6 =>
                  have H := HA.out
                  clear HA
                  simp only [hypercubelaw1_Facts.l3] at H
                  by_cases c57 : x18_6 < t330
                  ·rw [if_pos c57] at H
                   have c57b0 : decide (x18_6 < t330) = true := decide_eq_true c57
                   clear c57
                   replace H := Option.bind_eq_some_iff.mp H
                   obtain ⟨t351, A580, H⟩ := H
                   replace H : (if x346001_6.length < 17592186044416 then (hypercubelaw1_Facts.l3 k6 l3 x13_3 x14_3 x15_5 (wrap64 (x18_6 + 1)) x332000_26 t330 x346000_5 (x346001_6 ++ [wrap64 (t351 - 100)])) else (none)) = some (r1, r2, r3) := H
                   have A58 := am A580
                   clear A580
                   by_cases c59 : x346001_6.length < 17592186044416
                   ·rw [if_pos c59] at H
                    have LMc59 := am c59
                    clear c59
                    obtain ⟨y352, hy352⟩ : ∃ y_ : List Int, y_ = (x346001_6 ++ [wrap64 (t351 - 100)]) := ⟨_, rfl⟩
                    replace H : (hypercubelaw1_Facts.l3 k6 l3 x13_3 x14_3 x15_5 (wrap64 (x18_6 + 1)) x332000_26 t330 x346000_5 y352) = some (r1, r2, r3) := by rw [hy352]; with_reducible exact H
                    have Ny352 := am hy352
                    clear hy352
                    have H' := am H
                    clear H
                    have hnb60 := NB331_329.out
                    have hnc60 := NB329_331.out
                    have hnb61 := NB331_345.out
                    have hnc61 := NB345_331.out
                    have hcz62_0 : wr.cell? ⟨gb331, 0, none⟩ = some (.slice Ao56 x332000_26.length co56) := (blk_cell BK331.out 0).trans rfl
                    have hcz62_1 : wr.cell? ⟨gb331, 1, none⟩ = some (.int .i64 t330) := (blk_cell BK331.out 1).trans rfl
                    have hfz62_0 := blk_frozen BK331.out 0
                    have hfz62_1 := blk_frozen BK331.out 1
                    try go_wp2
                    have n0_ := am (Kd.S_drew HO_13.out)
                    have n1_ := am (Kd.R_drew HO_332000.out)
                    have n2_ := am (Kd.R_drew HO_346000.out)
                    have n3_ := am (Kd.R_drew HO_346001.out)
                    have n4_ := am (blk_drew BK329.out)
                    have n5_ := am (blk_drew BK331.out)
                    have n6_ := am (blk_drew BK345.out)
                    have n7_ := am (below_drew1 HB.out)
                    clear HO_13 HO_332000 HO_346000 HO_346001 BK329 BK331 BK345 HB
                    revert n0_ n1_ n2_ n3_ n4_ n5_ n6_ n7_
                    intro HO_13 HO_332000 HO_346000 HO_346001 BK329 BK331 BK345 HB
                    refine start_ (n := 12) (S := fun w' => w'.cell? ⟨gb345, 0, none⟩ = some (u346000) ∧ w'.cell? ⟨gb345, 1, none⟩ = some (u346001)) (ds := [11]) (bb 12 0) (by kernel_rfl) rfl rfl ⟨bc BK345 0, bc BK345 1⟩ (fun hHeld => ?_); refine with_tabW hypercubelaw1_Facts.tab25 hypercubelaw1_Facts.bits25 (fun HT_ HW_ => ?_)
                    generalize wr.drew = w63 at HO_13 HO_332000 HO_346000 HO_346001 BK329 BK331 BK345 HB hHeld ⊢
                    refine pu (i := 0) (N := some 93) (bb 12 1) HT_ ?_
                    refine pu (i := 2) (N := some 95) (bb 12 5) HT_ ?_
                    refine pu (i := 3) (N := some 96) (bb 12 13) HT_ ?_
                    refine pu (i := 4) (N := some 97) (bb 12 29) HT_ ?_
                    refine pu (i := 5) (N := some 98) (bb 12 61) HT_ ?_
                    refine tk (i := 1) (N := some 94) (bb 12 63) HT_ HW_ hHeld ?_
                    refine one_ (i := 6) (N := some 99) (bb 12 127) rfl rfl (one_of HT_.out (by kernel_rfl)) (by decide) (fun K hK => ?_)
                    refine goes_ Try.func45 (by kernel_rfl) rfl #[.int .i64 (wrap64 (x15_5 + (wrap64 (7 * x18_6)))), .int .i64 201] (by rfl) rfl rfl (by (try simp only [List.map_toArray, List.map_cons, List.map_nil]); first | done | rfl | (simp only [List.length_drop, List.length_take]; rfl)) ?_
                    with_reducible refine (hypercubelaw1_within.calls (wrap64 (x15_5 + (wrap64 (7 * x18_6)))) 201 t351 _ A58.out).mono ?_
                    rintro e w' ⟨rfl, ⟨nd, rfl⟩⟩
                    refine ⟨_, rfl, ?_⟩
                    refine hK.out _ _ ⟨bc BK345 0, bc BK345 1⟩ (fun hHeld => ?_)
                    clear hK K
                    refine nm ?_
                    refine pu (i := 7) (N := some 100) (bb 12 255) HT_ ?_
                    refine one_ (i := 8) (N := some 101) (bb 12 511) rfl rfl (one_of HT_.out (by kernel_rfl)) (by decide) (fun K hK => ?_)
                    refine value_ (w1 := ?_) (v := ?_) (by rfl) rfl ?_ ?_
                    rotate_left 2
                    ·go_simp
                     constructor
                     ·rfl
                     ·rfl
                    refine hK.out _ _ ⟨(blk_cell (blk_alloc BK345.out _) 0).trans rfl, (blk_cell (blk_alloc BK345.out _) 1).trans rfl⟩ (fun hHeld => ?_)
                    clear hK K
                    refine nm ?_
                    refine one_ (i := 9) (N := some 102) (bb 12 1023) rfl rfl (one_of HT_.out (by kernel_rfl)) (by decide) (fun K hK => ?_)
                    refine Kd.R_append_step (Kd.int .i64) (w0 := w) w.heap.size (by rfl) (.tmp 94) (.tmp 101) 22 3 (.int .i64 0) 8 rfl Try.underlying22 info3 rfl (by decide) (by omega) u346001 x346001_6 (wrap64 (t351 - 100)) [.int .i64 (wrap64 (t351 - 100))] (fun k_ => some k_ ≠ (.slice Ao56 x332000_26.length co56 : Value).ownBlock ∧ some k_ ≠ (u346000 : Value).ownBlock) (fun _ => False) rfl rfl ?aP (fun _ hk => hk.elim) ?aF ?aO ?aB ?aS ?aL ?_
                    (case aP => exact rfl)
                    (case aB => exact (wmv HB.out))
                    (case aF => exact (fun k_ hk => ⟨Kd.fresh' (Kd.R_lt (Kd.R_mv HO_332000.out)) k_ hk, Kd.fresh' (Kd.R_lt (Kd.R_mv HO_346000.out)) k_ hk⟩))
                    (case aO => exact (Kd.R_mv HO_346001.out))
                    (case aS => exact (below_size (wmv HB.out)))
                    (case aL => have := LMc59.out; omega)
                    intro v353 w64 ho hb hg hat
                    rw [← Ny352.out] at ho
                    have n0_ := am (Kd.S_after (ok := (fun k_ => some k_ ≠ (.slice Ao56 x332000_26.length co56 : Value).ownBlock ∧ some k_ ≠ (u346000 : Value).ownBlock ∧ k_ ≠ gb345)) (Kd.S_mv (Kd.S_mono HO_13.out (fun _ hk => ⟨⟨hk.1, ⟨hk.2.1, hk.2.2.2⟩⟩, hk.2.2.1⟩))) hg hat)
                    have n1_ := am (Kd.R_after (ok := (fun k_ => some k_ ≠ (u346000 : Value).ownBlock)) (Kd.R_mv HO_332000.out) hg hat)
                    have n2_ := am (Kd.R_after (ok := (fun k_ => some k_ ≠ (.slice Ao56 x332000_26.length co56 : Value).ownBlock)) (Kd.R_mv HO_346000.out) hg hat)
                    have n3_ := am (blk_grown (bmv BK329.out) hg (Kd.R_ne HO_346001.out BK329.out (by decide)))
                    have n4_ := am (blk_grown (bmv BK331.out) hg (Kd.R_ne HO_346001.out BK331.out (by decide)))
                    have n5_ := am (blk_grown (bmv BK345.out) hg (Kd.R_ne HO_346001.out BK345.out (by decide)))
                    have n6_ := am (hb)
                    have n7_ := am (ho)
                    clear HO_13 HO_332000 HO_346000 BK329 BK331 BK345 HB HO_346001
                    revert n0_ n1_ n2_ n3_ n4_ n5_ n6_ n7_
                    intro HO_13 HO_332000 HO_346000 BK329 BK331 BK345 HB HO354
                    clear ho hb hg hat
                    obtain ⟨Ao65, co65, eo65⟩ := Kd.R_slice HO354.out
                    (first | subst eo65 | (injection eo65 with f1_ f2_ f3_; have f4_ := f1_.symm; have f5_ := f3_.symm; clear f1_ f2_ f3_; subst f4_; subst f5_))
                    refine hK.out _ _ ⟨bc BK345 0, bc BK345 1⟩ (fun hHeld => ?_)
                    clear hK K
                    refine nm ?_
                    refine pu (i := 10) (N := some 103) (bb 12 2047) HT_ ?_
                    refine last_ (i := 11) (N := none) (bb 12 4095) rfl rfl (one_of HT_.out (by kernel_rfl)) (by decide) (fun K hK => ?_)
                    have hs66 : w64.cell? ⟨gb345, 1, none⟩ = some (u346001) := (blk_cell BK345.out 1).trans rfl
                    have hfs66 := blk_frozen BK345.out 1
                    have hns66_0 := NB329_345.out
                    have hns66_1 := NB331_345.out
                    have hms66_0 := NB345_329.out
                    have hms66_1 := NB345_331.out
                    refine skip_ (w1 := ?_) (by rfl) rfl ?_ ?_
                    rotate_left
                    ·go_simp
                     rfl
                    refine hK.out _ _ ?_
                    clear hK K
                    refine done_ (done_of HT_.out (by kernel_rfl)) ?_
                    try go_wp2
                    go_roundg k6
                    case measure => have := HK1.out; have := HJ26.out; have := HK3.out; have := HJ34.out; have := HK5.out; have := HK6.out; omega
                    case rel => exact ⟨(wrap64 (x18_6 + 1)), (y352), (.slice Ao65 y352.length co65), (by first | rfl | (simp; done) | (simp [*]; done)), H', ⟨by have := HK1.out; have := HJ26.out; have := HK3.out; have := HJ34.out; have := HK5.out; have := HK6.out; omega⟩, ⟨by (with_reducible repeat (first | apply Kd.S_alloc | apply Kd.S_drewN | apply Kd.S_drew)); exact Kd.S_mono (Kd.S_far (p := ⟨gb345, 1, none⟩) (Kd.S_mono HO_13.out (fun k_ hk => (⟨hk, hk.1.2.2⟩ : _ ∧ k_ ≠ gb345))) (fun _ hk => hk.2) (.slice Ao65 y352.length co65)) (fun _ hk => ⟨hk.1.1.1, ⟨hk.1.1.2.1, ⟨hk.1.2, hk.1.1.2.2⟩⟩⟩)⟩, ⟨by (with_reducible repeat (first | apply Kd.R_alloc | apply Kd.R_drewN | apply Kd.R_drew)); exact Kd.R_mono (Kd.R_far (p := ⟨gb345, 1, none⟩) (Kd.R_types HO_332000.out BK345.out (by decide)) (fun _ hk => hk.2) (.slice Ao65 y352.length co65)) (fun _ hk => ⟨hk.1.1, hk.1.2⟩)⟩, ⟨by (with_reducible repeat (first | apply Kd.R_alloc | apply Kd.R_drewN | apply Kd.R_drew)); exact Kd.R_mono (Kd.R_far (p := ⟨gb345, 1, none⟩) (Kd.R_types HO_346000.out BK345.out (by decide)) (fun _ hk => hk.2) (.slice Ao65 y352.length co65)) (fun _ hk => ⟨hk.1.1, hk.1.2⟩)⟩, ⟨by (with_reducible repeat (first | apply Kd.R_alloc | apply Kd.R_drewN | apply Kd.R_drew)); exact Kd.R_mono (Kd.R_far (p := ⟨gb345, 1, none⟩) (Kd.R_types HO354.out BK345.out (by decide)) (fun _ hk => hk.2) (.slice Ao65 y352.length co65)) (fun _ hk => ⟨hk.1.1, hk.1.2⟩)⟩, ⟨by (with_reducible repeat (first | refine blk_drewN ?_ _ | refine blk_drew ?_ | refine blk_alloc ?_ _)); refine blk_far ?_ NB329_345.out _; (with_reducible repeat (first | refine blk_drewN ?_ _ | refine blk_drew ?_ | refine blk_alloc ?_ _)); exact BK329.out⟩, ⟨by (with_reducible repeat (first | refine blk_drewN ?_ _ | refine blk_drew ?_ | refine blk_alloc ?_ _)); refine blk_far ?_ NB331_345.out _; (with_reducible repeat (first | refine blk_drewN ?_ _ | refine blk_drew ?_ | refine blk_alloc ?_ _)); exact BK331.out⟩, ⟨by (with_reducible repeat (first | refine blk_drewN ?_ _ | refine blk_drew ?_ | refine blk_alloc ?_ _)); refine blk_put (cs := #[u346000, u346001]) ?_ 1 _ rfl; (with_reducible repeat (first | refine blk_drewN ?_ _ | refine blk_drew ?_ | refine blk_alloc ?_ _)); exact BK345.out⟩, ⟨by repeat (first | (with_reducible first | exact HB.out | apply below_alloc | apply pw_below_drewN | apply below_drew1 | refine below_set ?_ GE329.out | refine below_set ?_ GE331.out | refine below_set ?_ GE345.out) | exact HB.out)⟩⟩
                   ·rw [if_neg c59] at H
                    exact absurd H (by simp)
                  ·rw [if_neg c57] at H
                   have c57b0 : decide (x18_6 < t330) = false := decide_eq_false c57
                   clear c57
                   by_cases c67 : x13_3.length < 2932031007402
                   ·rw [if_pos c67] at H
                    have LMc67 := am c67
                    clear c67
                    obtain ⟨y355, hy355⟩ : ∃ y_ : List (S45), y_ = (x13_3 ++ [(⟨x346000_5, x346001_6⟩ : S45)]) := ⟨_, rfl⟩
                    replace H : (hypercubelaw1_Facts.l1 k6 l3 y355 (wrap64 (x14_3 + 1)) x332000_26 t330) = some (r1, r2, r3) := by rw [hy355]; with_reducible exact H
                    have Ny355 := am hy355
                    clear hy355
                    have H' := am H
                    clear H
                    have hnb68 := NB331_329.out
                    have hnc68 := NB329_331.out
                    have hnb69 := NB331_345.out
                    have hnc69 := NB345_331.out
                    have hcz70_0 : wr.cell? ⟨gb331, 0, none⟩ = some (.slice Ao56 x332000_26.length co56) := (blk_cell BK331.out 0).trans rfl
                    have hcz70_1 : wr.cell? ⟨gb331, 1, none⟩ = some (.int .i64 t330) := (blk_cell BK331.out 1).trans rfl
                    have hfz70_0 := blk_frozen BK331.out 0
                    have hfz70_1 := blk_frozen BK331.out 1
                    have hnb71 := NB345_329.out
                    have hnc71 := NB329_345.out
                    have hcz72_0 : wr.cell? ⟨gb345, 0, none⟩ = some (u346000) := (blk_cell BK345.out 0).trans rfl
                    have hcz72_1 : wr.cell? ⟨gb345, 1, none⟩ = some (u346001) := (blk_cell BK345.out 1).trans rfl
                    have hfz72_0 := blk_frozen BK345.out 0
                    have hfz72_1 := blk_frozen BK345.out 1
                    obtain ⟨Ao74, co74, eo74⟩ := Kd.R_slice HO_346000.out
                    subst eo74
                    obtain ⟨Ao75, co75, eo75⟩ := Kd.R_slice HO_346001.out
                    subst eo75
                    go_wp2_with (first | ((with_reducible refine gate_builtin (b := .append) (xs := #[.tmp 104, .tmp 106]) rfl ?_); at_builtin; refine Kd.S_append k45 (w0 := w) w.heap.size rfl (.tmp 104) (.tmp 106) 36 45 (.agg #[(.slice none 0 0), (.slice none 0 0)]) 48 rfl Try.underlying36 info45 rfl (by decide) (by omega) u13 x13_3 (⟨x346000_5, x346001_6⟩ : S45) [.slice Ao74 x346000_5.length co74, .slice Ao75 x346001_6.length co75] (fun k_ => some k_ ≠ (.slice Ao56 x332000_26.length co56 : Value).ownBlock ∧ k_ ≠ gb345) (fun k_ => some k_ = (.slice Ao74 x346000_5.length co74 : Value).ownBlock ∨ some k_ = (.slice Ao75 x346001_6.length co75 : Value).ownBlock) rfl rfl ?aP (fun k_ hk_ => hk_.elim (fun h_ => ((Kd.R_mono (ok' := fun k_ => ((fun k_ => some k_ ≠ (.slice Ao56 x332000_26.length co56 : Value).ownBlock ∧ k_ ≠ gb345)) k_ ∧ some k_ ≠ (u13 : Value).ownBlock) (Kd.R_types (Kd.R_apart' (HO_346000.out) (Kd.S_typed HO_13.out) (by decide)) BK345.out (by decide)) (fun k_ hk => ⟨⟨hk.1.1.1, hk.2⟩, hk.1.2⟩))).1 k_ h_.symm) (fun h_ => ((Kd.R_mono (ok' := fun k_ => ((fun k_ => some k_ ≠ (.slice Ao56 x332000_26.length co56 : Value).ownBlock ∧ k_ ≠ gb345)) k_ ∧ some k_ ≠ (u13 : Value).ownBlock) (Kd.R_types (Kd.R_apart' (HO_346001.out) (Kd.S_typed HO_13.out) (by decide)) BK345.out (by decide)) (fun k_ hk => ⟨⟨hk.1.1.1, hk.2⟩, hk.1.2⟩))).1 k_ h_.symm)) ?aF ?aO ?aB ?aS ?aL ?_; (case aP => exact k45_mkM _ _ _ (⟨x346000_5, x346001_6⟩ : S45) (Kd.R_mono (Kd.R_tight rfl (Kd.R_mono (ok' := fun k_ => ((fun k_ => some k_ ≠ (.slice Ao56 x332000_26.length co56 : Value).ownBlock ∧ k_ ≠ gb345)) k_ ∧ some k_ ≠ (u13 : Value).ownBlock) (Kd.R_types (Kd.R_apart' (HO_346000.out) (Kd.S_typed HO_13.out) (by decide)) BK345.out (by decide)) (fun k_ hk => ⟨⟨hk.1.1.1, hk.2⟩, hk.1.2⟩))) (fun _ h_ => Or.inl h_)) (Kd.R_mono (Kd.R_tight rfl (Kd.R_mono (ok' := fun k_ => ((fun k_ => some k_ ≠ (.slice Ao56 x332000_26.length co56 : Value).ownBlock ∧ k_ ≠ gb345)) k_ ∧ some k_ ≠ (u13 : Value).ownBlock) (Kd.R_types (Kd.R_apart' (HO_346001.out) (Kd.S_typed HO_13.out) (by decide)) BK345.out (by decide)) (fun k_ hk => ⟨⟨hk.1.1.1, hk.2⟩, hk.1.2⟩))) (fun _ h_ => Or.inr (h_)))); (case aB => exact (wmv HB.out)); (case aF => exact (fun k_ hk => ⟨Kd.fresh' (Kd.R_lt (Kd.R_mv HO_332000.out)) k_ hk, Kd.freshB (bmv BK345.out) k_ hk⟩)); (case aO => exact (Kd.S_mv (Kd.S_mono HO_13.out (fun k_ hk => ⟨⟨hk.1, hk.2.2.2⟩, fun e_ => e_.elim (fun h_ => hk.2.1 h_) (fun h_ => hk.2.2.1 h_)⟩)))); (case aS => exact (below_size (wmv HB.out))); (case aL => have := LMc67.out; omega); intro v356 w73 ho hb hg hat; rw [← Ny355.out] at ho; have n0_ := am (Kd.R_over' (Kd.R_mv HO_332000.out) (Kd.S_typed (Kd.S_mv HO_13.out)) (by decide) hg); have n1_ := am (blk_grown (bmv BK329.out) hg (Kd.S_ne HO_13.out BK329.out (by decide))); have n2_ := am (blk_grown (bmv BK331.out) hg (Kd.S_ne HO_13.out BK331.out (by decide))); have n3_ := am (blk_grown (bmv BK345.out) hg (Kd.S_away HO_13.out (fun _ hk => hk.2.2.2))); have n4_ := am (hb); have n5_ := am (ho); clear HO_332000 BK329 BK331 BK345 HB HO_13 HO_346000 HO_346001; revert n0_ n1_ n2_ n3_ n4_ n5_; intro HO_332000 BK329 BK331 BK345 HB HO357; clear ho hb hg hat))
                    go_roundg k6
                    case measure => have := HK1.out; have := HJ26.out; have := HK3.out; have := HJ34.out; have := HK5.out; have := HK6.out; omega
                    case rel => exact ⟨(y355), (wrap64 (x14_3 + 1)), (by first | rfl | (simp; done) | (simp [*]; done)), H', ⟨by have := HK1.out; have := HJ26.out; have := HK3.out; have := HJ34.out; have := HK5.out; have := HK6.out; omega⟩, ⟨by (with_reducible repeat (first | apply Kd.S_alloc | apply Kd.S_drewN | apply Kd.S_drew)); exact Kd.S_mono HO357.out (fun _ hk => hk.1)⟩, ⟨by (with_reducible repeat (first | apply Kd.R_alloc | apply Kd.R_drewN | apply Kd.R_drew)); exact Kd.R_mono HO_332000.out (fun _ hk => trivial)⟩, ⟨by (with_reducible repeat (first | refine blk_drewN ?_ _ | refine blk_drew ?_ | refine blk_alloc ?_ _)); exact BK329.out⟩, ⟨by (with_reducible repeat (first | refine blk_drewN ?_ _ | refine blk_drew ?_ | refine blk_alloc ?_ _)); exact BK331.out⟩, ⟨by repeat (first | (with_reducible first | exact HB.out | apply below_alloc | apply pw_below_drewN | apply below_drew1 | refine below_set ?_ GE329.out | refine below_set ?_ GE331.out | refine below_set ?_ GE345.out) | exact HB.out)⟩⟩
                   ·rw [if_neg c67] at H
                    exact absurd H (by simp)
            ·rw [if_neg c39] at H
             exact absurd H (by simp)
           ·rw [if_neg c38] at H
            exact absurd H (by simp)
          ·replace c37 := Bool.eq_false_iff.mpr c37
           subst c37
           have H1 : (some (x332000_26, t330, x13_3)) = some (r1, r2, r3) := by rw [if_neg (show ¬ (false = true) by decide)] at H; exact H
           clear H
           have H := H1
           clear H1
           simp only [Option.some.injEq, Prod.mk.injEq] at H
           obtain ⟨rfl, rfl, rfl⟩ := H
           have hnb76 := NB331_329.out
           have hnc76 := NB329_331.out
           have hcz77_0 : wc.cell? ⟨gb331, 0, none⟩ = some (u332000) := (blk_cell BK331.out 0).trans rfl
           have hcz77_1 : wc.cell? ⟨gb331, 1, none⟩ = some (.int .i64 t330) := (blk_cell BK331.out 1).trans rfl
           have hfz77_0 := blk_frozen BK331.out 0
           have hfz77_1 := blk_frozen BK331.out 1
           obtain ⟨Ao78, co78, eo78⟩ := Kd.R_slice HO_332000.out
           subst eo78
           have hcz79_0 : wc.cell? ⟨gb329, 0, none⟩ = some (.slice none 0 0) := (blk_cell BK329.out 0).trans rfl
           have hcz79_1 : wc.cell? ⟨gb329, 1, none⟩ = some (.int .i64 0) := (blk_cell BK329.out 1).trans rfl
           have hfz79_0 := blk_frozen BK329.out 0
           have hfz79_1 := blk_frozen BK329.out 1
           go_wp2
           refine bodyPost_ret (results_ct rfl _ _ gb329 35 #[.slice Ao78 x332000_26.length co78, .int .i64 t330] (0, 0) _ rfl (by (with_reducible repeat (first | refine blk_drewN ?_ _ | refine blk_drew ?_ | refine blk_alloc ?_ _)); refine blk_put (cs := #[.slice Ao78 x332000_26.length co78, .int .i64 0]) ?_ 1 _ rfl; (with_reducible repeat (first | refine blk_drewN ?_ _ | refine blk_drew ?_ | refine blk_alloc ?_ _)); refine blk_put (cs := #[.slice none 0 0, .int .i64 0]) ?_ 0 _ rfl; (with_reducible repeat (first | refine blk_drewN ?_ _ | refine blk_drew ?_ | refine blk_alloc ?_ _)); exact BK329.out) Try.underlying35 rfl (by kernel_rfl)) rfl ?_
           exact ⟨_, _, by first | rfl | (simp [errW_none, errW_some] <;> rfl) | (simp [*, errW_none, errW_some] <;> rfl), by (with_reducible repeat (first | apply Kd.R_alloc | apply Kd.R_drewN | apply Kd.R_drew)); exact Kd.R_mono (Kd.R_far (p := ⟨gb329, 1, none⟩) (Kd.R_far (p := ⟨gb329, 0, none⟩) (Kd.R_types HO_332000.out BK329.out (by decide)) (fun _ hk => hk.2) (.slice Ao78 x332000_26.length co78)) (fun _ hk => hk.2) (.int .i64 t330)) (fun _ hk => trivial), by (with_reducible repeat (first | apply Kd.S_alloc | apply Kd.S_drewN | apply Kd.S_drew)); exact Kd.S_mono (Kd.S_far (p := ⟨gb329, 1, none⟩) (Kd.S_far (p := ⟨gb329, 0, none⟩) (Kd.S_types HO_13.out BK329.out (by decide)) (fun _ hk => hk.2) (.slice Ao78 x332000_26.length co78)) (fun _ hk => hk.2) (.int .i64 t330)) (fun _ hk => hk.1), by repeat (first | (with_reducible first | exact HB.out | apply below_alloc | apply pw_below_drewN | apply below_drew1 | refine below_set ?_ GE329.out | refine below_set ?_ GE331.out) | exact HB.out)⟩
def hypercuberef2_Of.l0 : Nat → Int → Int → List Int → List Int → List Int → Int → Option (List Int × Int × List Int × List Int × List Int)
 | 0, _, _, _, _, _, _ => none
 | k + 1, x1, x6, x359000, x359001, x361000, x361001 => if x6 < (x359000.length : Int) then (if 0 ≤ (IntKind.u64.wrap (x6)) then (if (Go.bits .and .i64 (shr .i64 x1 (IntKind.u64.wrap (x6))) 1) = 1 then (if 0 ≤ x6 then (if x361000.length < 17592186044416 then (hypercuberef2_Of.l0 k x1 (wrap64 (x6 + 1)) x359000 x359001 (x361000 ++ [rd x359000 x6]) x361001) else (none)) else (none)) else (hypercuberef2_Of.l0 k x1 (wrap64 (x6 + 1)) x359000 x359001 x361000 x361001)) else (none)) else ((some (([] : List Int) : List Int)).bind fun y365 => (if y365.length + x359001.length < 17592186044416 then ((some (([] : List Int) : List Int)).bind fun y371 => (if y371.length + x359001.length < 17592186044416 then ((some (([] : List Int) : List Int)).bind fun y377 => (if y377.length + x359001.length < 17592186044416 then (some (x361000, x361001, (y365 ++ x359001), (y371 ++ x359001), (y377 ++ x359001))) else (none))) else (none))) else (none)))
def hypercuberef2_Of.f (k : Nat) (l0_0 : List Int) (l0_1 : List Int) (a1 : Int) : Option (List Int × Int × List Int × List Int × List Int) := hypercuberef2_Of.l0 k a1 0 l0_0 l0_1 ([] : List Int) 1
def hypercuberef2_Of.T6 : Bool × List (List Nat × List Nat) := (true, [([], []), ([0], [0]), ([], []), ([2], [2]), ([], []), ([3, 4], [3, 4]), ([5], [5]), ([6], [6]), ([1, 7], [1, 7]), ([0, 1, 2, 3, 4, 5, 6, 7, 8], []), ([9, 8, 8, 0, 1, 2, 3, 4, 5, 6, 7, 8], [8, 9])])
def hypercuberef2_Of.B6 : List Nat := [0, 1, 0, 4, 0, 28, 60, 124, 255, 511, 1023]
theorem hypercuberef2_Of.tab6 : rtab .any (opsOf Try.f30 6) = hypercuberef2_Of.T6 := by kernel_rfl
theorem hypercuberef2_Of.bits6 : waitsOk hypercuberef2_Of.T6.2 hypercuberef2_Of.B6 = true := by kernel_rfl
set_option maxHeartbeats 8000000 in
set_option maxRecDepth 100000 in
theorem hypercuberef2_Of.calls (k : Nat) (A0_0 : Option Addr) (c0_0 : Nat) (l0_0 : List Int) (A0_1 : Option Addr) (c0_1 : Nat) (l0_1 : List Int) (a1 : Int) (r1 : List Int) (r2 : Int) (r3 : List Int) (r4 : List Int) (r5 : List Int) (w : World) (hr0_0 : Kd.C (Kd.int .i64) w A0_0 l0_0.length l0_0) (hc0_0 : l0_0.length ≤ c0_0) (hr0_1 : Kd.C (Kd.int .i64) w A0_1 l0_1.length l0_1) (hc0_1 : l0_1.length ≤ c0_1) (h : hypercuberef2_Of.f k l0_0 l0_1 a1 = some (r1, r2, r3, r4, r5)) :
  Calls Try.prog 30 #[.agg #[.slice A0_0 l0_0.length c0_0, .slice A0_1 l0_1.length c0_1], .int .i64 a1] w fun e w' => ∃ v0_ v2_ v3_ v4_ : Value, e = .returned (.agg #[v0_, .int .i64 r2, v2_, v3_, v4_]) ∧ Kd.R (Kd.int .i64) 3 w' w.heap.size (fun k_ => some k_ ≠ (v2_ : Value).ownBlock ∧ some k_ ≠ (v3_ : Value).ownBlock ∧ some k_ ≠ (v4_ : Value).ownBlock) v0_ r1 ∧ Kd.R (Kd.int .i64) 3 w' w.heap.size (fun k_ => some k_ ≠ (v0_ : Value).ownBlock ∧ some k_ ≠ (v3_ : Value).ownBlock ∧ some k_ ≠ (v4_ : Value).ownBlock) v2_ r3 ∧ Kd.R (Kd.int .i64) 3 w' w.heap.size (fun k_ => some k_ ≠ (v0_ : Value).ownBlock ∧ some k_ ≠ (v2_ : Value).ownBlock ∧ some k_ ≠ (v4_ : Value).ownBlock) v3_ r4 ∧ Kd.R (Kd.int .i64) 3 w' w.heap.size (fun k_ => some k_ ≠ (v0_ : Value).ownBlock ∧ some k_ ≠ (v2_ : Value).ownBlock ∧ some k_ ≠ (v3_ : Value).ownBlock) v4_ r5 ∧ Below w.heap.size w w' := by
 have hu45 := Try.underlying45
 have hu30 := Try.underlying30
 have HR0_0 := am hr0_0
 have HC0_0 := am hc0_0
 clear hr0_0 hc0_0
 have HR0_1 := am hr0_1
 have HC0_1 := am hc0_1
 clear hr0_1 hc0_1
 have HB := am (Below.refl w.heap.size w)
 have H : (hypercuberef2_Of.l0 k a1 0 l0_0 l0_1 ([] : List Int) 1) = some (r1, r2, r3, r4, r5) := h
 clear h
 have H' := am H
 clear H
 go_enter Try.func30, Try.ntmps30
 go_wp2_with (first | ((with_reducible refine gate_dst (N := 2) rfl ?_); refine box_event ?hg (N := 2) ?hd (cs := #[.slice A0_0 l0_0.length c0_0, .slice A0_1 l0_1.length c0_1]) (t := 45) ?hr ?_; (case hd => rfl); (case hg => rfl); (case hr => first | (go_simp; done) | (go_simp; rfl)); intro gb358 hg w3 hbox hb; have n0_ := am (below_step (wmv HB.out) hb); have n1_ := am (hbox); have n2_ := am ((by rw [hg]; exact (below_size (wmv HB.out)) : w.heap.size ≤ gb358)); have n3_ := am ((by rw [hg]; exact (below_size (wmv HB.out)) : w.heap.size ≤ gb358)); clear HB; revert n0_ n1_ n2_ n3_; intro HB BK358 GW358 GE358; clear hb hbox hg) | ((with_reducible refine gate_dst (N := 4) rfl ?_); refine box_event ?hg (N := 4) ?hd (cs := #[.slice none 0 0, .int .i64 0, .slice none 0 0, .slice none 0 0, .slice none 0 0]) (t := 30) ?hr ?_; (case hd => rfl); (case hg => rfl); (case hr => first | (go_simp; done) | (go_simp; rfl)); intro gb359 hg w4 hbox hb; have n0_ := am (blk_below (bmv BK358.out) hb); have n1_ := am (below_step (wmv HB.out) hb); have n2_ := am (hbox); have n3_ := am ((by rw [hg]; exact (below_size (wmv HB.out)) : w.heap.size ≤ gb359)); have n4_ := am ((by rw [hg]; exact (below_size (wmv HB.out)) : w.heap.size ≤ gb359)); have n5_ := am ((by rw [hg]; exact Nat.ne_of_lt (blk_lt (bmv BK358.out)) : gb358 ≠ gb359)); have n6_ := am ((by rw [hg]; exact Nat.ne_of_gt (blk_lt (bmv BK358.out)) : gb359 ≠ gb358)); clear BK358 HB; revert n0_ n1_ n2_ n3_ n4_ n5_ n6_; intro BK358 HB BK359 GW359 GE359 NB358_359 NB359_358; clear hb hbox hg) | ((with_reducible refine gate_dst (N := 5) rfl ?_); refine box_event ?hg (N := 5) ?hd (cs := #[.slice none 0 0, .int .i64 0, .slice none 0 0, .slice none 0 0, .slice none 0 0]) (t := 30) ?hr ?_; (case hd => rfl); (case hg => rfl); (case hr => first | (go_simp; done) | (go_simp; rfl)); intro gb360 hg w5 hbox hb; have n0_ := am (blk_below (bmv BK358.out) hb); have n1_ := am (blk_below (bmv BK359.out) hb); have n2_ := am (below_step (wmv HB.out) hb); have n3_ := am (hbox); have n4_ := am ((by rw [hg]; exact (below_size (wmv HB.out)) : w.heap.size ≤ gb360)); have n5_ := am ((by rw [hg]; exact (below_size (wmv HB.out)) : w.heap.size ≤ gb360)); have n6_ := am ((by rw [hg]; exact Nat.ne_of_lt (blk_lt (bmv BK358.out)) : gb358 ≠ gb360)); have n7_ := am ((by rw [hg]; exact Nat.ne_of_gt (blk_lt (bmv BK358.out)) : gb360 ≠ gb358)); have n8_ := am ((by rw [hg]; exact Nat.ne_of_lt (blk_lt (bmv BK359.out)) : gb359 ≠ gb360)); have n9_ := am ((by rw [hg]; exact Nat.ne_of_gt (blk_lt (bmv BK359.out)) : gb360 ≠ gb359)); clear BK358 BK359 HB; revert n0_ n1_ n2_ n3_ n4_ n5_ n6_ n7_ n8_ n9_; intro BK358 BK359 HB BK360 GW360 GE360 NB358_360 NB360_358 NB359_360 NB360_359; clear hb hbox hg; have hnb6 := NB360_358.out; have hnc6 := NB358_360.out; have hnb7 := NB360_359.out; have hnc7 := NB359_360.out; have hcz8_0 : w5.cell? ⟨gb360, 0, none⟩ = some (.slice none 0 0) := (blk_cell BK360.out 0).trans rfl; have hcz8_1 : w5.cell? ⟨gb360, 1, none⟩ = some (.int .i64 0) := (blk_cell BK360.out 1).trans rfl; have hcz8_2 : w5.cell? ⟨gb360, 2, none⟩ = some (.slice none 0 0) := (blk_cell BK360.out 2).trans rfl; have hcz8_3 : w5.cell? ⟨gb360, 3, none⟩ = some (.slice none 0 0) := (blk_cell BK360.out 3).trans rfl; have hcz8_4 : w5.cell? ⟨gb360, 4, none⟩ = some (.slice none 0 0) := (blk_cell BK360.out 4).trans rfl; have hfz8_0 := blk_frozen BK360.out 0; have hfz8_1 := blk_frozen BK360.out 1; have hfz8_2 := blk_frozen BK360.out 2; have hfz8_3 := blk_frozen BK360.out 3; have hfz8_4 := blk_frozen BK360.out 4))
 go_loopg [6] k (fun kq v6 w' => ∃ (x6_1 : Int) (x361000_1 : List Int) (u361000 : Value), v6 = .int .i64 x6_1 ∧ Aside0 (hypercuberef2_Of.l0 kq a1 x6_1 l0_0 l0_1 x361000_1 1 = some (r1, r2, r3, r4, r5)) ∧ Aside0 (kq ≤ k) ∧ Aside0 (Kd.R (Kd.int .i64) 3 w' w.heap.size (fun _ => True) u361000 x361000_1) ∧ Aside0 (w'.heap[gb358]? = some (.cells #[(.slice A0_0 l0_0.length c0_0), (.slice A0_1 l0_1.length c0_1)] 45 (0, 0))) ∧ Aside0 (w'.heap[gb359]? = some (.cells #[(.slice none 0 0), .int .i64 0, (.slice none 0 0), (.slice none 0 0), (.slice none 0 0)] 30 (0, 0))) ∧ Aside0 (w'.heap[gb360]? = some (.cells #[u361000, .int .i64 1, (.slice none 0 0), (.slice none 0 0), (.slice none 0 0)] 30 (0, 0))) ∧ Aside0 (Below w.heap.size w w'))
 case atStart => exact ⟨(0), (([] : List Int)), (.slice none 0 0), (by first | rfl | (simp; done) | (simp [*]; done)), H', ⟨Nat.le_refl _⟩, ⟨by first | exact Kd.R_nil _ _ _ _ _ | exact Kd.N_nil _ _ _ _ _ | exact Kd.V_nil _ _ _ _ _ | exact Kd.Q_nil _ _ _ _ _ | exact Kd.S_nil _ _ _ _ _⟩, ⟨by (with_reducible repeat (first | refine blk_drewN ?_ _ | refine blk_drew ?_ | refine blk_alloc ?_ _)); refine blk_far ?_ NB358_360.out _; (with_reducible repeat (first | refine blk_drewN ?_ _ | refine blk_drew ?_ | refine blk_alloc ?_ _)); refine blk_far ?_ NB358_360.out _; (with_reducible repeat (first | refine blk_drewN ?_ _ | refine blk_drew ?_ | refine blk_alloc ?_ _)); refine blk_far ?_ NB358_360.out _; (with_reducible repeat (first | refine blk_drewN ?_ _ | refine blk_drew ?_ | refine blk_alloc ?_ _)); refine blk_far ?_ NB358_360.out _; (with_reducible repeat (first | refine blk_drewN ?_ _ | refine blk_drew ?_ | refine blk_alloc ?_ _)); refine blk_far ?_ NB358_360.out _; (with_reducible repeat (first | refine blk_drewN ?_ _ | refine blk_drew ?_ | refine blk_alloc ?_ _)); exact BK358.out⟩, ⟨by (with_reducible repeat (first | refine blk_drewN ?_ _ | refine blk_drew ?_ | refine blk_alloc ?_ _)); refine blk_far ?_ NB359_360.out _; (with_reducible repeat (first | refine blk_drewN ?_ _ | refine blk_drew ?_ | refine blk_alloc ?_ _)); refine blk_far ?_ NB359_360.out _; (with_reducible repeat (first | refine blk_drewN ?_ _ | refine blk_drew ?_ | refine blk_alloc ?_ _)); refine blk_far ?_ NB359_360.out _; (with_reducible repeat (first | refine blk_drewN ?_ _ | refine blk_drew ?_ | refine blk_alloc ?_ _)); refine blk_far ?_ NB359_360.out _; (with_reducible repeat (first | refine blk_drewN ?_ _ | refine blk_drew ?_ | refine blk_alloc ?_ _)); refine blk_far ?_ NB359_360.out _; (with_reducible repeat (first | refine blk_drewN ?_ _ | refine blk_drew ?_ | refine blk_alloc ?_ _)); exact BK359.out⟩, ⟨by (with_reducible repeat (first | refine blk_drewN ?_ _ | refine blk_drew ?_ | refine blk_alloc ?_ _)); refine blk_put (cs := #[.slice none 0 0, .int .i64 1, .slice none 0 0, .slice none 0 0, .slice none 0 0]) ?_ 4 _ rfl; (with_reducible repeat (first | refine blk_drewN ?_ _ | refine blk_drew ?_ | refine blk_alloc ?_ _)); refine blk_put (cs := #[.slice none 0 0, .int .i64 1, .slice none 0 0, .slice none 0 0, .slice none 0 0]) ?_ 3 _ rfl; (with_reducible repeat (first | refine blk_drewN ?_ _ | refine blk_drew ?_ | refine blk_alloc ?_ _)); refine blk_put (cs := #[.slice none 0 0, .int .i64 1, .slice none 0 0, .slice none 0 0, .slice none 0 0]) ?_ 2 _ rfl; (with_reducible repeat (first | refine blk_drewN ?_ _ | refine blk_drew ?_ | refine blk_alloc ?_ _)); refine blk_put (cs := #[.slice none 0 0, .int .i64 0, .slice none 0 0, .slice none 0 0, .slice none 0 0]) ?_ 1 _ rfl; (with_reducible repeat (first | refine blk_drewN ?_ _ | refine blk_drew ?_ | refine blk_alloc ?_ _)); refine blk_put (cs := #[.slice none 0 0, .int .i64 0, .slice none 0 0, .slice none 0 0, .slice none 0 0]) ?_ 0 _ rfl; (with_reducible repeat (first | refine blk_drewN ?_ _ | refine blk_drew ?_ | refine blk_alloc ?_ _)); exact BK360.out⟩, ⟨by repeat (first | (with_reducible first | exact HB.out | apply below_alloc | apply pw_below_drewN | apply below_drew1 | refine below_set ?_ GE358.out | refine below_set ?_ GE359.out | refine below_set ?_ GE360.out) | exact HB.out)⟩⟩
 case round =>
  clear H'
  try clear p2
  try clear c3
  try clear c6
  try clear c7
  try clear hcz8_0
  try clear hcz8_1
  try clear hcz8_2
  try clear hcz8_3
  try clear hcz8_4
  try clear hfz8_0
  try clear hfz8_1
  try clear hfz8_2
  try clear hfz8_3
  try clear hfz8_4
  obtain ⟨x6_1, x361000_1, u361000, rfl, HA, HK1, HO_361000, BK358, BK359, BK360, HB⟩ := hrel
  cases gk with
  | zero => exact absurd HA.out (by simp [hypercuberef2_Of.l0])
  | succ k1 =>
   have H := HA.out
   clear HA
   simp only [hypercuberef2_Of.l0] at H
   by_cases c9 : x6_1 < (l0_0.length : Int)
   ·rw [if_pos c9] at H
    have c9b0 : decide (x6_1 < (l0_0.length : Int)) = true := decide_eq_true c9
    clear c9
    obtain ⟨ji10, hji10⟩ : ∃ j_ : Int, (IntKind.u64.wrap (x6_1)) = j_ := ⟨_, rfl⟩
    replace H : (if 0 ≤ (ji10) then (if (Go.bits .and .i64 (shr .i64 a1 (ji10)) 1) = 1 then (if 0 ≤ x6_1 then (if x361000_1.length < 17592186044416 then (hypercuberef2_Of.l0 k1 a1 (wrap64 (x6_1 + 1)) l0_0 l0_1 (x361000_1 ++ [rd l0_0 x6_1]) 1) else (none)) else (none)) else (hypercuberef2_Of.l0 k1 a1 (wrap64 (x6_1 + 1)) l0_0 l0_1 x361000_1 1)) else (none)) = some (r1, r2, r3, r4, r5) := by first | (rw [hji10] at H; exact H) | (simp only [hji10] at H ⊢; exact H)
    by_cases c11 : 0 ≤ (ji10)
    ·rw [if_pos c11] at H
     have c11b0 := eq_true c11
     have c11b1 : decide (0 ≤ (ji10)) = true := decide_eq_true c11
     clear c11
     obtain ⟨ji12, hji12⟩ : ∃ j_ : Int, (shr .i64 a1 (ji10)) = j_ := ⟨_, rfl⟩
     replace H : (if (Go.bits .and .i64 (ji12) 1) = 1 then (if 0 ≤ x6_1 then (if x361000_1.length < 17592186044416 then (hypercuberef2_Of.l0 k1 a1 (wrap64 (x6_1 + 1)) l0_0 l0_1 (x361000_1 ++ [rd l0_0 x6_1]) 1) else (none)) else (none)) else (hypercuberef2_Of.l0 k1 a1 (wrap64 (x6_1 + 1)) l0_0 l0_1 x361000_1 1)) = some (r1, r2, r3, r4, r5) := by first | (rw [hji12] at H; exact H) | (simp only [hji12] at H ⊢; exact H)
     have hji12_ : (a1 / 2 ^ min (ji10).toNat 64) = ji12 := hji12
     have hji12z : (ji10) ≤ 64 → (a1 / 2 ^ (ji10).toNat) = ji12 := shr_small hji12
     by_cases c13 : (Go.bits .and .i64 (ji12) 1) = 1
     ·rw [if_pos c13] at H
      have c13b0 : ((Go.bits .and .i64 (ji12) 1) == 1) = true := beq_iff_eq.mpr c13
      have c13b1 : ((Go.bits .and .i64 (ji12) 1) != 1) = false := bne_eq_false_iff_eq.mpr c13
      clear c13
      by_cases c14 : 0 ≤ x6_1
      ·rw [if_pos c14] at H
       have c14b0 : decide (0 ≤ x6_1) = true := decide_eq_true c14
       clear c14
       by_cases c15 : x361000_1.length < 17592186044416
       ·rw [if_pos c15] at H
        have LMc15 := am c15
        clear c15
        obtain ⟨y362, hy362⟩ : ∃ y_ : List Int, y_ = (x361000_1 ++ [rd l0_0 x6_1]) := ⟨_, rfl⟩
        replace H : (hypercuberef2_Of.l0 k1 a1 (wrap64 (x6_1 + 1)) l0_0 l0_1 y362 1) = some (r1, r2, r3, r4, r5) := by rw [hy362]; with_reducible exact H
        have Ny362 := am hy362
        clear hy362
        have H' := am H
        clear H
        have hnb16 := NB358_359.out
        have hnc16 := NB359_358.out
        have hnb17 := NB358_360.out
        have hnc17 := NB360_358.out
        have hcz18_0 : wr.cell? ⟨gb358, 0, none⟩ = some (.slice A0_0 l0_0.length c0_0) := (blk_cell BK358.out 0).trans rfl
        have hcz18_1 : wr.cell? ⟨gb358, 1, none⟩ = some (.slice A0_1 l0_1.length c0_1) := (blk_cell BK358.out 1).trans rfl
        have hfz18_0 := blk_frozen BK358.out 0
        have hfz18_1 := blk_frozen BK358.out 1
        try go_wp2
        have n0_ := am (Kd.R_drew HO_361000.out)
        have n1_ := am (blk_drew BK358.out)
        have n2_ := am (blk_drew BK359.out)
        have n3_ := am (blk_drew BK360.out)
        have n4_ := am (below_drew1 HB.out)
        clear HO_361000 BK358 BK359 BK360 HB
        revert n0_ n1_ n2_ n3_ n4_
        intro HO_361000 BK358 BK359 BK360 HB
        have p361 : 0 ≤ (x6_1 : Int) := of_decide_eq_true (by first | (with_reducible assumption) | assumption)
        have q361 : x6_1 < (l0_0.length : Int) := of_decide_eq_true (by first | (with_reducible assumption) | assumption)
        obtain ⟨ad361, e361, hx361_0⟩ := Kd.at_int HR0_0.out x6_1 p361 q361
        have hw361_0 := hx361_0
        cases e361
        replace hx361_0 := (HB.out.cell (World.block_lt_of_cell? w _ hx361_0)).trans hx361_0
        replace p361 := eq_true p361
        replace q361 := eq_true q361
        refine start_ (n := 11) (S := fun w' => w'.cell? ⟨gb360, 0, none⟩ = some (u361000) ∧ w'.cell? ⟨gb360, 1, none⟩ = some (.int .i64 1) ∧ w'.cell? ⟨gb360, 2, none⟩ = some (.slice none 0 0) ∧ w'.cell? ⟨gb360, 3, none⟩ = some (.slice none 0 0) ∧ w'.cell? ⟨gb360, 4, none⟩ = some (.slice none 0 0) ∧ w'.cell? ⟨gb358, 0, none⟩ = some (.slice (some ad361) l0_0.length c0_0) ∧ w'.cell? ⟨gb358, 1, none⟩ = some (.slice A0_1 l0_1.length c0_1) ∧ w'.cell? (ad361.add (x6_1).toNat) = some (.int .i64 (rd l0_0 x6_1))) (ds := [10]) (bb 11 0) (by kernel_rfl) rfl rfl ⟨bc BK360 0, bc BK360 1, bc BK360 2, bc BK360 3, bc BK360 4, bc BK358 0, bc BK358 1, ((HB.out.cell (World.block_lt_of_cell? w _ hw361_0)).trans hw361_0)⟩ (fun hHeld => ?_); refine with_tabW hypercuberef2_Of.tab6 hypercuberef2_Of.bits6 (fun HT_ HW_ => ?_)
        generalize wr.drew = w19 at HO_361000 BK358 BK359 BK360 HB hx361_0 hHeld ⊢
        refine pu (i := 0) (N := some 21) (bb 11 1) HT_ ?_
        refine pu (i := 2) (N := some 23) (bb 11 5) HT_ ?_
        refine pu (i := 4) (N := some 25) (bb 11 21) HT_ ?_
        refine tk (i := 1) (N := some 22) (bb 11 23) HT_ HW_ hHeld ?_
        refine tk (i := 3) (N := some 24) (bb 11 31) HT_ HW_ hHeld ?_
        refine pu (i := 5) (N := some 26) (bb 11 63) HT_ ?_
        refine tk (i := 6) (N := some 27) (bb 11 127) HT_ HW_ hHeld ?_
        refine one_ (i := 7) (N := some 28) (bb 11 255) rfl rfl (one_of HT_.out (by kernel_rfl)) (by decide) (fun K hK => ?_)
        refine value_ (w1 := ?_) (v := ?_) (by rfl) rfl ?_ ?_
        rotate_left 2
        ·go_simp
         constructor
         ·rfl
         ·rfl
        refine hK.out _ _ ⟨(blk_cell (blk_alloc BK360.out _) 0).trans rfl, (blk_cell (blk_alloc BK360.out _) 1).trans rfl, (blk_cell (blk_alloc BK360.out _) 2).trans rfl, (blk_cell (blk_alloc BK360.out _) 3).trans rfl, (blk_cell (blk_alloc BK360.out _) 4).trans rfl, (blk_cell (blk_alloc BK358.out _) 0).trans rfl, (blk_cell (blk_alloc BK358.out _) 1).trans rfl, (World.cell?_alloc_lt _ _ _ (World.block_lt_of_cell? _ _ (((HB.out.cell (World.block_lt_of_cell? w _ hw361_0)).trans hw361_0)))).trans (((HB.out.cell (World.block_lt_of_cell? w _ hw361_0)).trans hw361_0))⟩ (fun hHeld => ?_)
        clear hK K
        refine nm ?_
        refine one_ (i := 8) (N := some 29) (bb 11 511) rfl rfl (one_of HT_.out (by kernel_rfl)) (by decide) (fun K hK => ?_)
        refine Kd.R_append_step (Kd.int .i64) (w0 := w) w.heap.size (by rfl) (.tmp 22) (.tmp 28) 22 3 (.int .i64 0) 8 rfl Try.underlying22 info3 rfl (by decide) (by omega) u361000 x361000_1 (rd l0_0 x6_1) [.int .i64 (rd l0_0 x6_1)] (fun _ => True) (fun _ => False) rfl rfl ?aP (fun _ hk => hk.elim) ?aF ?aO ?aB ?aS ?aL ?_
        (case aP => exact rfl)
        (case aB => exact (wmv HB.out))
        (case aF => exact (fun _ _ => trivial))
        (case aO => exact (Kd.R_mv HO_361000.out))
        (case aS => exact (below_size (wmv HB.out)))
        (case aL => have := LMc15.out; omega)
        intro v363 w20 ho hb hg hat
        rw [← Ny362.out] at ho
        have n0_ := am (blk_grown (bmv BK358.out) hg (Kd.R_ne HO_361000.out BK358.out (by decide)))
        have n1_ := am (blk_grown (bmv BK359.out) hg (Kd.R_ne HO_361000.out BK359.out (by decide)))
        have n2_ := am (blk_grown (bmv BK360.out) hg (Kd.R_ne HO_361000.out BK360.out (by decide)))
        have n3_ := am (hb)
        have n4_ := am (ho)
        clear BK358 BK359 BK360 HB HO_361000
        revert n0_ n1_ n2_ n3_ n4_
        intro BK358 BK359 BK360 HB HO364
        clear ho hb hg hat
        obtain ⟨Ao21, co21, eo21⟩ := Kd.R_slice HO364.out
        (first | subst eo21 | (injection eo21 with f1_ f2_ f3_; have f4_ := f1_.symm; have f5_ := f3_.symm; clear f1_ f2_ f3_; subst f4_; subst f5_))
        refine hK.out _ _ ⟨bc BK360 0, bc BK360 1, bc BK360 2, bc BK360 3, bc BK360 4, bc BK358 0, bc BK358 1, ((HB.out.cell (World.block_lt_of_cell? w _ hw361_0)).trans hw361_0)⟩ (fun hHeld => ?_)
        clear hK K
        refine nm ?_
        refine pu (i := 9) (N := some 30) (bb 11 1023) HT_ ?_
        refine last_ (i := 10) (N := none) (bb 11 2047) rfl rfl (one_of HT_.out (by kernel_rfl)) (by decide) (fun K hK => ?_)
        have hs22 : w20.cell? ⟨gb360, 0, none⟩ = some (u361000) := (blk_cell BK360.out 0).trans rfl
        have hfs22 := blk_frozen BK360.out 0
        have hns22_0 := NB358_360.out
        have hns22_1 := NB359_360.out
        have hms22_0 := NB360_358.out
        have hms22_1 := NB360_359.out
        refine skip_ (w1 := ?_) (by rfl) rfl ?_ ?_
        rotate_left
        ·go_simp
         rfl
        refine hK.out _ _ ?_
        clear hK K
        refine done_ (done_of HT_.out (by kernel_rfl)) ?_
        try go_wp2
        go_roundg k1
        case measure => have := HK1.out; omega
        case rel => exact ⟨(wrap64 (x6_1 + 1)), (y362), (.slice Ao21 y362.length co21), (by first | rfl | (simp; done) | (simp [*]; done)), H', ⟨by have := HK1.out; omega⟩, ⟨by (with_reducible repeat (first | apply Kd.R_alloc | apply Kd.R_drewN | apply Kd.R_drew)); exact Kd.R_mono (Kd.R_far (p := ⟨gb360, 0, none⟩) (Kd.R_types HO364.out BK360.out (by decide)) (fun _ hk => hk.2) (.slice Ao21 y362.length co21)) (fun _ hk => trivial)⟩, ⟨by (with_reducible repeat (first | refine blk_drewN ?_ _ | refine blk_drew ?_ | refine blk_alloc ?_ _)); refine blk_far ?_ NB358_360.out _; (with_reducible repeat (first | refine blk_drewN ?_ _ | refine blk_drew ?_ | refine blk_alloc ?_ _)); exact BK358.out⟩, ⟨by (with_reducible repeat (first | refine blk_drewN ?_ _ | refine blk_drew ?_ | refine blk_alloc ?_ _)); refine blk_far ?_ NB359_360.out _; (with_reducible repeat (first | refine blk_drewN ?_ _ | refine blk_drew ?_ | refine blk_alloc ?_ _)); exact BK359.out⟩, ⟨by (with_reducible repeat (first | refine blk_drewN ?_ _ | refine blk_drew ?_ | refine blk_alloc ?_ _)); refine blk_put (cs := #[u361000, .int .i64 1, .slice none 0 0, .slice none 0 0, .slice none 0 0]) ?_ 0 _ rfl; (with_reducible repeat (first | refine blk_drewN ?_ _ | refine blk_drew ?_ | refine blk_alloc ?_ _)); exact BK360.out⟩, ⟨by repeat (first | (with_reducible first | exact HB.out | apply below_alloc | apply pw_below_drewN | apply below_drew1 | refine below_set ?_ GE358.out | refine below_set ?_ GE359.out | refine below_set ?_ GE360.out) | exact HB.out)⟩⟩
       ·rw [if_neg c15] at H
        exact absurd H (by simp)
      ·rw [if_neg c14] at H
       exact absurd H (by simp)
     ·rw [if_neg c13] at H
      have c13b0 : ((Go.bits .and .i64 (ji12) 1) == 1) = false := beq_eq_false_iff_ne.mpr c13
      have c13b1 : ((Go.bits .and .i64 (ji12) 1) != 1) = true := bne_iff_ne.mpr c13
      have H' := am H
      clear H
      have hnb23 := NB358_359.out
      have hnc23 := NB359_358.out
      have hnb24 := NB358_360.out
      have hnc24 := NB360_358.out
      have hcz25_0 : wr.cell? ⟨gb358, 0, none⟩ = some (.slice A0_0 l0_0.length c0_0) := (blk_cell BK358.out 0).trans rfl
      have hcz25_1 : wr.cell? ⟨gb358, 1, none⟩ = some (.slice A0_1 l0_1.length c0_1) := (blk_cell BK358.out 1).trans rfl
      have hfz25_0 := blk_frozen BK358.out 0
      have hfz25_1 := blk_frozen BK358.out 1
      go_wp2
      go_roundg k1
      case measure => have := HK1.out; omega
      case rel => exact ⟨(wrap64 (x6_1 + 1)), (x361000_1), (u361000), (by first | rfl | (simp; done) | (simp [*]; done)), H', ⟨by have := HK1.out; omega⟩, ⟨by (with_reducible repeat (first | apply Kd.R_alloc | apply Kd.R_drewN | apply Kd.R_drew)); exact HO_361000.out⟩, ⟨by (with_reducible repeat (first | refine blk_drewN ?_ _ | refine blk_drew ?_ | refine blk_alloc ?_ _)); exact BK358.out⟩, ⟨by (with_reducible repeat (first | refine blk_drewN ?_ _ | refine blk_drew ?_ | refine blk_alloc ?_ _)); exact BK359.out⟩, ⟨by (with_reducible repeat (first | refine blk_drewN ?_ _ | refine blk_drew ?_ | refine blk_alloc ?_ _)); exact BK360.out⟩, ⟨by repeat (first | (with_reducible first | exact HB.out | apply below_alloc | apply pw_below_drewN | apply below_drew1 | refine below_set ?_ GE358.out | refine below_set ?_ GE359.out | refine below_set ?_ GE360.out) | exact HB.out)⟩⟩
    ·rw [if_neg c11] at H
     exact absurd H (by simp)
   ·rw [if_neg c9] at H
    have c9b0 : decide (x6_1 < (l0_0.length : Int)) = false := decide_eq_false c9
    clear c9
    obtain ⟨y365, hy365⟩ : ∃ y_ : List Int, y_ = (([] : List Int)) := ⟨_, rfl⟩
    replace H : (if y365.length + l0_1.length < 17592186044416 then ((some (([] : List Int) : List Int)).bind fun y371 => (if y371.length + l0_1.length < 17592186044416 then ((some (([] : List Int) : List Int)).bind fun y377 => (if y377.length + l0_1.length < 17592186044416 then (some (x361000_1, 1, (y365 ++ l0_1), (y371 ++ l0_1), (y377 ++ l0_1))) else (none))) else (none))) else (none)) = some (r1, r2, r3, r4, r5) := by first | (rw [hy365]; with_reducible exact H) | (have H2_ := (Option.bind_some _ _).symm.trans H; rw [hy365]; with_reducible exact H2_) | (have H2_ := (Option.bind_some _ _).symm.trans H; with_reducible exact H2_) | with_reducible exact H | (rw [hy365]; exact H) | exact H
    have Ny365 := am hy365
    clear hy365
    by_cases c26 : y365.length + l0_1.length < 17592186044416
    ·rw [if_pos c26] at H
     have LMc26 := am c26
     clear c26
     obtain ⟨y368, hy368⟩ : ∃ y_ : List Int, y_ = (y365 ++ l0_1) := ⟨_, rfl⟩
     replace H : ((some (([] : List Int) : List Int)).bind fun y371 => (if y371.length + l0_1.length < 17592186044416 then ((some (([] : List Int) : List Int)).bind fun y377 => (if y377.length + l0_1.length < 17592186044416 then (some (x361000_1, 1, y368, (y371 ++ l0_1), (y377 ++ l0_1))) else (none))) else (none))) = some (r1, r2, r3, r4, r5) := by rw [hy368]; with_reducible exact H
     have Ny368 := am hy368
     clear hy368
     obtain ⟨y371, hy371⟩ : ∃ y_ : List Int, y_ = (([] : List Int)) := ⟨_, rfl⟩
     replace H : (if y371.length + l0_1.length < 17592186044416 then ((some (([] : List Int) : List Int)).bind fun y377 => (if y377.length + l0_1.length < 17592186044416 then (some (x361000_1, 1, y368, (y371 ++ l0_1), (y377 ++ l0_1))) else (none))) else (none)) = some (r1, r2, r3, r4, r5) := by first | (rw [hy371]; with_reducible exact H) | (have H2_ := (Option.bind_some _ _).symm.trans H; rw [hy371]; with_reducible exact H2_) | (have H2_ := (Option.bind_some _ _).symm.trans H; with_reducible exact H2_) | with_reducible exact H | (rw [hy371]; exact H) | exact H
     have Ny371 := am hy371
     clear hy371
     by_cases c27 : y371.length + l0_1.length < 17592186044416
     ·rw [if_pos c27] at H
      have LMc27 := am c27
      clear c27
      obtain ⟨y374, hy374⟩ : ∃ y_ : List Int, y_ = (y371 ++ l0_1) := ⟨_, rfl⟩
      replace H : ((some (([] : List Int) : List Int)).bind fun y377 => (if y377.length + l0_1.length < 17592186044416 then (some (x361000_1, 1, y368, y374, (y377 ++ l0_1))) else (none))) = some (r1, r2, r3, r4, r5) := by rw [hy374]; with_reducible exact H
      have Ny374 := am hy374
      clear hy374
      obtain ⟨y377, hy377⟩ : ∃ y_ : List Int, y_ = (([] : List Int)) := ⟨_, rfl⟩
      replace H : (if y377.length + l0_1.length < 17592186044416 then (some (x361000_1, 1, y368, y374, (y377 ++ l0_1))) else (none)) = some (r1, r2, r3, r4, r5) := by first | (rw [hy377]; with_reducible exact H) | (have H2_ := (Option.bind_some _ _).symm.trans H; rw [hy377]; with_reducible exact H2_) | (have H2_ := (Option.bind_some _ _).symm.trans H; with_reducible exact H2_) | with_reducible exact H | (rw [hy377]; exact H) | exact H
      have Ny377 := am hy377
      clear hy377
      by_cases c28 : y377.length + l0_1.length < 17592186044416
      ·rw [if_pos c28] at H
       have LMc28 := am c28
       clear c28
       obtain ⟨y380, hy380⟩ : ∃ y_ : List Int, y_ = (y377 ++ l0_1) := ⟨_, rfl⟩
       replace H : (some (x361000_1, 1, y368, y374, y380)) = some (r1, r2, r3, r4, r5) := by rw [hy380]; with_reducible exact H
       have Ny380 := am hy380
       clear hy380
       simp only [Option.some.injEq, Prod.mk.injEq] at H
       obtain ⟨rfl, rfl, rfl, rfl, rfl⟩ := H
       have hnb29 := NB358_359.out
       have hnc29 := NB359_358.out
       have hnb30 := NB358_360.out
       have hnc30 := NB360_358.out
       have hcz31_0 : wr.cell? ⟨gb358, 0, none⟩ = some (.slice A0_0 l0_0.length c0_0) := (blk_cell BK358.out 0).trans rfl
       have hcz31_1 : wr.cell? ⟨gb358, 1, none⟩ = some (.slice A0_1 l0_1.length c0_1) := (blk_cell BK358.out 1).trans rfl
       have hfz31_0 := blk_frozen BK358.out 0
       have hfz31_1 := blk_frozen BK358.out 1
       go_wp2_with (first | ((with_reducible refine gate_dst (N := 31) rfl ?_); refine Kd.R_lit (Kd.int .i64) _ 3 ?hg (N := 31) ?hd (xs := ([] : List Int)) (inner := []) (ok := fun _ => True) (okp := fun _ => True) ?hr ?hp (fun _ hk => hk) trivial (Below.refl _ _) (Nat.le_refl _) (by simp) ?_; (case hd => rfl); (case hg => rfl); (case hr => first | (go_simp; done) | (go_simp; rfl)); (case hp => exact (Reps.none _ _)); intro v366 w32 ho33 hb hg_ hnew_; clear hg_ hnew_; (first | rw [← Ny365.out] at ho33 | (simp only [Int.reduceToNat] at ho33; rw [← Ny365.out] at ho33)); have n0_ := am (Kd.R_elder' (Kd.R_mv HO_361000.out) (Kd.R_base ho33) hb); have n1_ := am (Kd.R_lower (Kd.R_new' ho33 (Kd.R_lt (Kd.R_mv HO_361000.out))) (below_size (by repeat (first | (with_reducible first | exact HB.out | apply below_alloc | apply pw_below_drewN | apply below_drew1 | refine below_set ?_ GE358.out | refine below_set ?_ GE359.out | refine below_set ?_ GE360.out) | exact HB.out)))); have n2_ := am (blk_below (bmv BK358.out) hb); have n3_ := am (blk_below (bmv BK359.out) hb); have n4_ := am (blk_below (bmv BK360.out) hb); have n5_ := am (below_step (by repeat (first | (with_reducible first | exact HB.out | apply below_alloc | apply pw_below_drewN | apply below_drew1 | refine below_set ?_ GE358.out | refine below_set ?_ GE359.out | refine below_set ?_ GE360.out) | exact HB.out)) hb); clear HO_361000 BK358 BK359 BK360 HB; revert n0_ n1_ n2_ n3_ n4_ n5_; intro HO_361000 HO367 BK358 BK359 BK360 HB; clear hb ho33; have hcz34_0 : w32.cell? ⟨gb358, 0, none⟩ = some (.slice A0_0 l0_0.length c0_0) := (blk_cell BK358.out 0).trans rfl; have hcz34_1 : w32.cell? ⟨gb358, 1, none⟩ = some (.slice A0_1 l0_1.length c0_1) := (blk_cell BK358.out 1).trans rfl; have hfz34_0 := blk_frozen BK358.out 0; have hfz34_1 := blk_frozen BK358.out 1) | ((with_reducible refine gate_builtin (b := .append) (xs := #[.tmp 31, .tmp 33]) rfl ?_); at_builtin; refine Kd.R_append_rows (Kd.int .i64) (w0 := w) w.heap.size rfl (.tmp 31) (.tmp 33) 22 3 (.int .i64 0) 8 rfl Try.underlying22 info3 rfl (by decide) (by omega) v366 y365 l0_1 _ _ _ (fun k_ => some k_ ≠ (u361000 : Value).ownBlock) (fun _ => False) rfl rfl ?aO ?aR (fun _ _ h => h) (fun _ h => h.elim) ?aF ?aB ?aS ?aL ?_; (case aR => exact Kd.Cw HR0_1.out HB.out); (case aB => exact (by repeat (first | (with_reducible first | exact HB.out | apply below_alloc | apply pw_below_drewN | apply below_drew1 | refine below_set ?_ GE358.out | refine below_set ?_ GE359.out | refine below_set ?_ GE360.out) | exact HB.out))); (case aF => exact (fun k_ hk => Kd.fresh' (Kd.R_lt (Kd.R_mv HO_361000.out)) k_ hk)); (case aO => exact (Kd.R_mv (Kd.R_mono HO367.out (fun _ hk => hk.2)))); (case aS => exact (below_size (by repeat (first | (with_reducible first | exact HB.out | apply below_alloc | apply pw_below_drewN | apply below_drew1 | refine below_set ?_ GE358.out | refine below_set ?_ GE359.out | refine below_set ?_ GE360.out) | exact HB.out)))); (case aL => have := LMc26.out; omega); intro v369 w35 ho hb hg hat; rw [← Ny368.out] at ho; have n0_ := am (Kd.R_after (ok := (fun _ => True)) (Kd.R_mv HO_361000.out) hg hat); have n1_ := am (blk_grown (bmv BK358.out) hg (Kd.R_ne HO367.out BK358.out (by decide))); have n2_ := am (blk_grown (bmv BK359.out) hg (Kd.R_ne HO367.out BK359.out (by decide))); have n3_ := am (blk_grown (bmv BK360.out) hg (Kd.R_ne HO367.out BK360.out (by decide))); have n4_ := am (hb); have n5_ := am (ho); clear HO_361000 BK358 BK359 BK360 HB HO367; revert n0_ n1_ n2_ n3_ n4_ n5_; intro HO_361000 BK358 BK359 BK360 HB HO370; clear ho hb hg hat; obtain ⟨Ao36, co36, eo36⟩ := Kd.R_slice HO370.out; subst eo36; have hnb37 := NB360_359.out; have hnc37 := NB359_360.out; have hcz38_0 : w35.cell? ⟨gb360, 0, none⟩ = some (u361000) := (blk_cell BK360.out 0).trans rfl; have hcz38_1 : w35.cell? ⟨gb360, 1, none⟩ = some (.int .i64 1) := (blk_cell BK360.out 1).trans rfl; have hcz38_2 : w35.cell? ⟨gb360, 2, none⟩ = some (.slice none 0 0) := (blk_cell BK360.out 2).trans rfl; have hcz38_3 : w35.cell? ⟨gb360, 3, none⟩ = some (.slice none 0 0) := (blk_cell BK360.out 3).trans rfl; have hcz38_4 : w35.cell? ⟨gb360, 4, none⟩ = some (.slice none 0 0) := (blk_cell BK360.out 4).trans rfl; have hfz38_0 := blk_frozen BK360.out 0; have hfz38_1 := blk_frozen BK360.out 1; have hfz38_2 := blk_frozen BK360.out 2; have hfz38_3 := blk_frozen BK360.out 3; have hfz38_4 := blk_frozen BK360.out 4) | ((with_reducible refine gate_dst (N := 36) rfl ?_); refine Kd.R_lit (Kd.int .i64) _ 3 ?hg (N := 36) ?hd (xs := ([] : List Int)) (inner := []) (ok := fun _ => True) (okp := fun _ => True) ?hr ?hp (fun _ hk => hk) trivial (Below.refl _ _) (Nat.le_refl _) (by simp) ?_; (case hd => rfl); (case hg => rfl); (case hr => first | (go_simp; done) | (go_simp; rfl)); (case hp => exact (Reps.none _ _)); intro v372 w39 ho40 hb hg_ hnew_; clear hg_ hnew_; (first | rw [← Ny371.out] at ho40 | (simp only [Int.reduceToNat] at ho40; rw [← Ny371.out] at ho40)); have n0_ := am (Kd.R_elder' (Kd.R_mv (Kd.R_mono (Kd.R_far (p := ⟨gb360, 2, none⟩) (Kd.R_types HO_361000.out BK360.out (by decide)) (fun _ hk => hk.2) (.slice Ao36 y368.length co36)) (fun _ h_ => h_.1))) (Kd.R_base ho40) hb); have n1_ := am (Kd.R_elder' (Kd.R_mv (Kd.R_mono (Kd.R_far (p := ⟨gb360, 2, none⟩) (Kd.R_types HO370.out BK360.out (by decide)) (fun _ hk => hk.2) (.slice Ao36 y368.length co36)) (fun _ h_ => h_.1))) (Kd.R_base ho40) hb); have n2_ := am (Kd.R_lower (Kd.R_new' (Kd.R_new' ho40 (Kd.R_lt (Kd.R_mv (Kd.R_mono (Kd.R_far (p := ⟨gb360, 2, none⟩) (Kd.R_types HO_361000.out BK360.out (by decide)) (fun _ hk => hk.2) (.slice Ao36 y368.length co36)) (fun _ h_ => h_.1))))) (Kd.R_lt (Kd.R_mv (Kd.R_mono (Kd.R_far (p := ⟨gb360, 2, none⟩) (Kd.R_types HO370.out BK360.out (by decide)) (fun _ hk => hk.2) (.slice Ao36 y368.length co36)) (fun _ h_ => h_.1))))) (below_size (by repeat (first | (with_reducible first | exact HB.out | apply below_alloc | apply pw_below_drewN | apply below_drew1 | refine below_set ?_ GE358.out | refine below_set ?_ GE359.out | refine below_set ?_ GE360.out) | exact HB.out)))); have n3_ := am (blk_below (g := gb358) (o := .cells #[.slice A0_0 l0_0.length c0_0, .slice A0_1 l0_1.length c0_1] 45 (0, 0)) (by (with_reducible repeat (first | refine blk_drewN ?_ _ | refine blk_drew ?_ | refine blk_alloc ?_ _)); refine blk_far ?_ NB358_360.out _; (with_reducible repeat (first | refine blk_drewN ?_ _ | refine blk_drew ?_ | refine blk_alloc ?_ _)); exact BK358.out) hb); have n4_ := am (blk_below (g := gb359) (o := .cells #[.slice none 0 0, .int .i64 0, .slice none 0 0, .slice none 0 0, .slice none 0 0] 30 (0, 0)) (by (with_reducible repeat (first | refine blk_drewN ?_ _ | refine blk_drew ?_ | refine blk_alloc ?_ _)); refine blk_far ?_ NB359_360.out _; (with_reducible repeat (first | refine blk_drewN ?_ _ | refine blk_drew ?_ | refine blk_alloc ?_ _)); exact BK359.out) hb); have n5_ := am (blk_below (g := gb360) (o := .cells #[u361000, .int .i64 1, .slice Ao36 y368.length co36, .slice none 0 0, .slice none 0 0] 30 (0, 0)) (by (with_reducible repeat (first | refine blk_drewN ?_ _ | refine blk_drew ?_ | refine blk_alloc ?_ _)); refine blk_put (cs := #[u361000, .int .i64 1, .slice none 0 0, .slice none 0 0, .slice none 0 0]) ?_ 2 _ rfl; (with_reducible repeat (first | refine blk_drewN ?_ _ | refine blk_drew ?_ | refine blk_alloc ?_ _)); exact BK360.out) hb); have n6_ := am (below_step (by repeat (first | (with_reducible first | exact HB.out | apply below_alloc | apply pw_below_drewN | apply below_drew1 | refine below_set ?_ GE358.out | refine below_set ?_ GE359.out | refine below_set ?_ GE360.out) | exact HB.out)) hb); clear HO_361000 HO370 BK358 BK359 BK360 HB; revert n0_ n1_ n2_ n3_ n4_ n5_ n6_; intro HO_361000 HO370 HO373 BK358 BK359 BK360 HB; clear hb ho40; have hcz41_0 : w39.cell? ⟨gb358, 0, none⟩ = some (.slice A0_0 l0_0.length c0_0) := (blk_cell BK358.out 0).trans rfl; have hcz41_1 : w39.cell? ⟨gb358, 1, none⟩ = some (.slice A0_1 l0_1.length c0_1) := (blk_cell BK358.out 1).trans rfl; have hfz41_0 := blk_frozen BK358.out 0; have hfz41_1 := blk_frozen BK358.out 1) | ((with_reducible refine gate_builtin (b := .append) (xs := #[.tmp 36, .tmp 38]) rfl ?_); at_builtin; refine Kd.R_append_rows (Kd.int .i64) (w0 := w) w.heap.size rfl (.tmp 36) (.tmp 38) 22 3 (.int .i64 0) 8 rfl Try.underlying22 info3 rfl (by decide) (by omega) v372 y371 l0_1 _ _ _ (fun k_ => some k_ ≠ (u361000 : Value).ownBlock ∧ some k_ ≠ (.slice Ao36 y368.length co36 : Value).ownBlock) (fun _ => False) rfl rfl ?aO ?aR (fun _ _ h => h) (fun _ h => h.elim) ?aF ?aB ?aS ?aL ?_; (case aR => exact Kd.Cw HR0_1.out HB.out); (case aB => exact (by repeat (first | (with_reducible first | exact HB.out | apply below_alloc | apply pw_below_drewN | apply below_drew1 | refine below_set ?_ GE358.out | refine below_set ?_ GE359.out | refine below_set ?_ GE360.out) | exact HB.out))); (case aF => exact (fun k_ hk => ⟨Kd.fresh' (Kd.R_lt (Kd.R_mv HO_361000.out)) k_ hk, Kd.fresh' (Kd.R_lt (Kd.R_mv HO370.out)) k_ hk⟩)); (case aO => exact (Kd.R_mv (Kd.R_mono HO373.out (fun _ hk => ⟨hk.1.2, hk.2⟩)))); (case aS => exact (below_size (by repeat (first | (with_reducible first | exact HB.out | apply below_alloc | apply pw_below_drewN | apply below_drew1 | refine below_set ?_ GE358.out | refine below_set ?_ GE359.out | refine below_set ?_ GE360.out) | exact HB.out)))); (case aL => have := LMc27.out; omega); intro v375 w42 ho hb hg hat; rw [← Ny374.out] at ho; have n0_ := am (Kd.R_after (ok := (fun k_ => some k_ ≠ (.slice Ao36 y368.length co36 : Value).ownBlock)) (Kd.R_mv (Kd.R_mono HO_361000.out (fun _ hk => ⟨hk.1.2, hk.2⟩))) hg hat); have n1_ := am (blk_grown (bmv BK358.out) hg (Kd.R_ne HO373.out BK358.out (by decide))); have n2_ := am (blk_grown (bmv BK359.out) hg (Kd.R_ne HO373.out BK359.out (by decide))); have n3_ := am (blk_grown (bmv BK360.out) hg (Kd.R_ne HO373.out BK360.out (by decide))); have n4_ := am (Kd.R_after (ok := (fun k_ => some k_ ≠ (u361000 : Value).ownBlock)) (Kd.R_mv HO370.out) hg hat); have n5_ := am (hb); have n6_ := am (ho); clear HO_361000 BK358 BK359 BK360 HO370 HB HO373; revert n0_ n1_ n2_ n3_ n4_ n5_ n6_; intro HO_361000 BK358 BK359 BK360 HO370 HB HO376; clear ho hb hg hat; obtain ⟨Ao43, co43, eo43⟩ := Kd.R_slice HO376.out; subst eo43; have hcz44_0 : w42.cell? ⟨gb360, 0, none⟩ = some (u361000) := (blk_cell BK360.out 0).trans rfl; have hcz44_1 : w42.cell? ⟨gb360, 1, none⟩ = some (.int .i64 1) := (blk_cell BK360.out 1).trans rfl; have hcz44_2 : w42.cell? ⟨gb360, 2, none⟩ = some (.slice Ao36 y368.length co36) := (blk_cell BK360.out 2).trans rfl; have hcz44_3 : w42.cell? ⟨gb360, 3, none⟩ = some (.slice none 0 0) := (blk_cell BK360.out 3).trans rfl; have hcz44_4 : w42.cell? ⟨gb360, 4, none⟩ = some (.slice none 0 0) := (blk_cell BK360.out 4).trans rfl; have hfz44_0 := blk_frozen BK360.out 0; have hfz44_1 := blk_frozen BK360.out 1; have hfz44_2 := blk_frozen BK360.out 2; have hfz44_3 := blk_frozen BK360.out 3; have hfz44_4 := blk_frozen BK360.out 4) | ((with_reducible refine gate_dst (N := 41) rfl ?_); refine Kd.R_lit (Kd.int .i64) _ 3 ?hg (N := 41) ?hd (xs := ([] : List Int)) (inner := []) (ok := fun _ => True) (okp := fun _ => True) ?hr ?hp (fun _ hk => hk) trivial (Below.refl _ _) (Nat.le_refl _) (by simp) ?_; (case hd => rfl); (case hg => rfl); (case hr => first | (go_simp; done) | (go_simp; rfl)); (case hp => exact (Reps.none _ _)); intro v378 w45 ho46 hb hg_ hnew_; clear hg_ hnew_; (first | rw [← Ny377.out] at ho46 | (simp only [Int.reduceToNat] at ho46; rw [← Ny377.out] at ho46)); have n0_ := am (Kd.R_elder' (Kd.R_mv (Kd.R_mono (Kd.R_far (p := ⟨gb360, 3, none⟩) (Kd.R_types HO_361000.out BK360.out (by decide)) (fun _ hk => hk.2) (.slice Ao43 y374.length co43)) (fun _ h_ => h_.1))) (Kd.R_base ho46) hb); have n1_ := am (Kd.R_elder' (Kd.R_mv (Kd.R_mono (Kd.R_far (p := ⟨gb360, 3, none⟩) (Kd.R_types HO370.out BK360.out (by decide)) (fun _ hk => hk.2) (.slice Ao43 y374.length co43)) (fun _ h_ => h_.1))) (Kd.R_base ho46) hb); have n2_ := am (Kd.R_elder' (Kd.R_mv (Kd.R_mono (Kd.R_far (p := ⟨gb360, 3, none⟩) (Kd.R_types HO376.out BK360.out (by decide)) (fun _ hk => hk.2) (.slice Ao43 y374.length co43)) (fun _ h_ => h_.1))) (Kd.R_base ho46) hb); have n3_ := am (Kd.R_lower (Kd.R_new' (Kd.R_new' (Kd.R_new' ho46 (Kd.R_lt (Kd.R_mv (Kd.R_mono (Kd.R_far (p := ⟨gb360, 3, none⟩) (Kd.R_types HO_361000.out BK360.out (by decide)) (fun _ hk => hk.2) (.slice Ao43 y374.length co43)) (fun _ h_ => h_.1))))) (Kd.R_lt (Kd.R_mv (Kd.R_mono (Kd.R_far (p := ⟨gb360, 3, none⟩) (Kd.R_types HO370.out BK360.out (by decide)) (fun _ hk => hk.2) (.slice Ao43 y374.length co43)) (fun _ h_ => h_.1))))) (Kd.R_lt (Kd.R_mv (Kd.R_mono (Kd.R_far (p := ⟨gb360, 3, none⟩) (Kd.R_types HO376.out BK360.out (by decide)) (fun _ hk => hk.2) (.slice Ao43 y374.length co43)) (fun _ h_ => h_.1))))) (below_size (by repeat (first | (with_reducible first | exact HB.out | apply below_alloc | apply pw_below_drewN | apply below_drew1 | refine below_set ?_ GE358.out | refine below_set ?_ GE359.out | refine below_set ?_ GE360.out) | exact HB.out)))); have n4_ := am (blk_below (g := gb358) (o := .cells #[.slice A0_0 l0_0.length c0_0, .slice A0_1 l0_1.length c0_1] 45 (0, 0)) (by (with_reducible repeat (first | refine blk_drewN ?_ _ | refine blk_drew ?_ | refine blk_alloc ?_ _)); refine blk_far ?_ NB358_360.out _; (with_reducible repeat (first | refine blk_drewN ?_ _ | refine blk_drew ?_ | refine blk_alloc ?_ _)); exact BK358.out) hb); have n5_ := am (blk_below (g := gb359) (o := .cells #[.slice none 0 0, .int .i64 0, .slice none 0 0, .slice none 0 0, .slice none 0 0] 30 (0, 0)) (by (with_reducible repeat (first | refine blk_drewN ?_ _ | refine blk_drew ?_ | refine blk_alloc ?_ _)); refine blk_far ?_ NB359_360.out _; (with_reducible repeat (first | refine blk_drewN ?_ _ | refine blk_drew ?_ | refine blk_alloc ?_ _)); exact BK359.out) hb); have n6_ := am (blk_below (g := gb360) (o := .cells #[u361000, .int .i64 1, .slice Ao36 y368.length co36, .slice Ao43 y374.length co43, .slice none 0 0] 30 (0, 0)) (by (with_reducible repeat (first | refine blk_drewN ?_ _ | refine blk_drew ?_ | refine blk_alloc ?_ _)); refine blk_put (cs := #[u361000, .int .i64 1, .slice Ao36 y368.length co36, .slice none 0 0, .slice none 0 0]) ?_ 3 _ rfl; (with_reducible repeat (first | refine blk_drewN ?_ _ | refine blk_drew ?_ | refine blk_alloc ?_ _)); exact BK360.out) hb); have n7_ := am (below_step (by repeat (first | (with_reducible first | exact HB.out | apply below_alloc | apply pw_below_drewN | apply below_drew1 | refine below_set ?_ GE358.out | refine below_set ?_ GE359.out | refine below_set ?_ GE360.out) | exact HB.out)) hb); clear HO_361000 HO370 HO376 BK358 BK359 BK360 HB; revert n0_ n1_ n2_ n3_ n4_ n5_ n6_ n7_; intro HO_361000 HO370 HO376 HO379 BK358 BK359 BK360 HB; clear hb ho46; have hcz47_0 : w45.cell? ⟨gb358, 0, none⟩ = some (.slice A0_0 l0_0.length c0_0) := (blk_cell BK358.out 0).trans rfl; have hcz47_1 : w45.cell? ⟨gb358, 1, none⟩ = some (.slice A0_1 l0_1.length c0_1) := (blk_cell BK358.out 1).trans rfl; have hfz47_0 := blk_frozen BK358.out 0; have hfz47_1 := blk_frozen BK358.out 1) | ((with_reducible refine gate_builtin (b := .append) (xs := #[.tmp 41, .tmp 43]) rfl ?_); at_builtin; refine Kd.R_append_rows (Kd.int .i64) (w0 := w) w.heap.size rfl (.tmp 41) (.tmp 43) 22 3 (.int .i64 0) 8 rfl Try.underlying22 info3 rfl (by decide) (by omega) v378 y377 l0_1 _ _ _ (fun k_ => some k_ ≠ (u361000 : Value).ownBlock ∧ some k_ ≠ (.slice Ao36 y368.length co36 : Value).ownBlock ∧ some k_ ≠ (.slice Ao43 y374.length co43 : Value).ownBlock) (fun _ => False) rfl rfl ?aO ?aR (fun _ _ h => h) (fun _ h => h.elim) ?aF ?aB ?aS ?aL ?_; (case aR => exact Kd.Cw HR0_1.out HB.out); (case aB => exact (by repeat (first | (with_reducible first | exact HB.out | apply below_alloc | apply pw_below_drewN | apply below_drew1 | refine below_set ?_ GE358.out | refine below_set ?_ GE359.out | refine below_set ?_ GE360.out) | exact HB.out))); (case aF => exact (fun k_ hk => ⟨Kd.fresh' (Kd.R_lt (Kd.R_mv HO_361000.out)) k_ hk, Kd.fresh' (Kd.R_lt (Kd.R_mv HO370.out)) k_ hk, Kd.fresh' (Kd.R_lt (Kd.R_mv HO376.out)) k_ hk⟩)); (case aO => exact (Kd.R_mv (Kd.R_mono HO379.out (fun _ hk => ⟨hk.1.1.2, ⟨hk.1.2, hk.2⟩⟩)))); (case aS => exact (below_size (by repeat (first | (with_reducible first | exact HB.out | apply below_alloc | apply pw_below_drewN | apply below_drew1 | refine below_set ?_ GE358.out | refine below_set ?_ GE359.out | refine below_set ?_ GE360.out) | exact HB.out)))); (case aL => have := LMc28.out; omega); intro v381 w48 ho hb hg hat; rw [← Ny380.out] at ho; have n0_ := am (Kd.R_after (ok := (fun k_ => some k_ ≠ (.slice Ao36 y368.length co36 : Value).ownBlock ∧ some k_ ≠ (.slice Ao43 y374.length co43 : Value).ownBlock)) (Kd.R_mv HO_361000.out) hg hat); have n1_ := am (blk_grown (bmv BK358.out) hg (Kd.R_ne HO379.out BK358.out (by decide))); have n2_ := am (blk_grown (bmv BK359.out) hg (Kd.R_ne HO379.out BK359.out (by decide))); have n3_ := am (blk_grown (bmv BK360.out) hg (Kd.R_ne HO379.out BK360.out (by decide))); have n4_ := am (Kd.R_after (ok := (fun k_ => some k_ ≠ (u361000 : Value).ownBlock ∧ some k_ ≠ (.slice Ao43 y374.length co43 : Value).ownBlock)) (Kd.R_mv HO370.out) hg hat); have n5_ := am (Kd.R_after (ok := (fun k_ => some k_ ≠ (u361000 : Value).ownBlock ∧ some k_ ≠ (.slice Ao36 y368.length co36 : Value).ownBlock)) (Kd.R_mv HO376.out) hg hat); have n6_ := am (hb); have n7_ := am (ho); clear HO_361000 BK358 BK359 BK360 HO370 HO376 HB HO379; revert n0_ n1_ n2_ n3_ n4_ n5_ n6_ n7_; intro HO_361000 BK358 BK359 BK360 HO370 HO376 HB HO382; clear ho hb hg hat; obtain ⟨Ao49, co49, eo49⟩ := Kd.R_slice HO382.out; subst eo49; have hcz50_0 : w48.cell? ⟨gb360, 0, none⟩ = some (u361000) := (blk_cell BK360.out 0).trans rfl; have hcz50_1 : w48.cell? ⟨gb360, 1, none⟩ = some (.int .i64 1) := (blk_cell BK360.out 1).trans rfl; have hcz50_2 : w48.cell? ⟨gb360, 2, none⟩ = some (.slice Ao36 y368.length co36) := (blk_cell BK360.out 2).trans rfl; have hcz50_3 : w48.cell? ⟨gb360, 3, none⟩ = some (.slice Ao43 y374.length co43) := (blk_cell BK360.out 3).trans rfl; have hcz50_4 : w48.cell? ⟨gb360, 4, none⟩ = some (.slice none 0 0) := (blk_cell BK360.out 4).trans rfl; have hfz50_0 := blk_frozen BK360.out 0; have hfz50_1 := blk_frozen BK360.out 1; have hfz50_2 := blk_frozen BK360.out 2; have hfz50_3 := blk_frozen BK360.out 3; have hfz50_4 := blk_frozen BK360.out 4; obtain ⟨Ao51, co51, eo51⟩ := Kd.R_slice HO_361000.out; subst eo51; have hcz52_0 : w48.cell? ⟨gb359, 0, none⟩ = some (.slice none 0 0) := (blk_cell BK359.out 0).trans rfl; have hcz52_1 : w48.cell? ⟨gb359, 1, none⟩ = some (.int .i64 0) := (blk_cell BK359.out 1).trans rfl; have hcz52_2 : w48.cell? ⟨gb359, 2, none⟩ = some (.slice none 0 0) := (blk_cell BK359.out 2).trans rfl; have hcz52_3 : w48.cell? ⟨gb359, 3, none⟩ = some (.slice none 0 0) := (blk_cell BK359.out 3).trans rfl; have hcz52_4 : w48.cell? ⟨gb359, 4, none⟩ = some (.slice none 0 0) := (blk_cell BK359.out 4).trans rfl; have hfz52_0 := blk_frozen BK359.out 0; have hfz52_1 := blk_frozen BK359.out 1; have hfz52_2 := blk_frozen BK359.out 2; have hfz52_3 := blk_frozen BK359.out 3; have hfz52_4 := blk_frozen BK359.out 4))
       refine bodyPost_ret (results_cell_row rfl _ _ gb359 30 #[.slice Ao51 x361000_1.length co51, .int .i64 1, .slice Ao36 y368.length co36, .slice Ao43 y374.length co43, .slice Ao49 y380.length co49] (0, 0) _ rfl (by (with_reducible repeat (first | refine blk_drewN ?_ _ | refine blk_drew ?_ | refine blk_alloc ?_ _)); refine blk_put (cs := #[.slice Ao51 x361000_1.length co51, .int .i64 1, .slice Ao36 y368.length co36, .slice Ao43 y374.length co43, .slice none 0 0]) ?_ 4 _ rfl; (with_reducible repeat (first | refine blk_drewN ?_ _ | refine blk_drew ?_ | refine blk_alloc ?_ _)); refine blk_put (cs := #[.slice Ao51 x361000_1.length co51, .int .i64 1, .slice Ao36 y368.length co36, .slice none 0 0, .slice none 0 0]) ?_ 3 _ rfl; (with_reducible repeat (first | refine blk_drewN ?_ _ | refine blk_drew ?_ | refine blk_alloc ?_ _)); refine blk_put (cs := #[.slice Ao51 x361000_1.length co51, .int .i64 1, .slice none 0 0, .slice none 0 0, .slice none 0 0]) ?_ 2 _ rfl; (with_reducible repeat (first | refine blk_drewN ?_ _ | refine blk_drew ?_ | refine blk_alloc ?_ _)); refine blk_put (cs := #[.slice Ao51 x361000_1.length co51, .int .i64 0, .slice none 0 0, .slice none 0 0, .slice none 0 0]) ?_ 1 _ rfl; (with_reducible repeat (first | refine blk_drewN ?_ _ | refine blk_drew ?_ | refine blk_alloc ?_ _)); refine blk_put (cs := #[.slice none 0 0, .int .i64 0, .slice none 0 0, .slice none 0 0, .slice none 0 0]) ?_ 0 _ rfl; (with_reducible repeat (first | refine blk_drewN ?_ _ | refine blk_drew ?_ | refine blk_alloc ?_ _)); refine blk_far ?_ NB359_360.out _; (with_reducible repeat (first | refine blk_drewN ?_ _ | refine blk_drew ?_ | refine blk_alloc ?_ _)); exact BK359.out) Try.underlying30 rfl (by kernel_rfl)) rfl ?_
       exact ⟨_, _, _, _, by first | rfl | (simp [errW_none, errW_some] <;> rfl) | (simp [*, errW_none, errW_some] <;> rfl), by (with_reducible repeat (first | apply Kd.R_alloc | apply Kd.R_drewN | apply Kd.R_drew)); exact Kd.R_mono (Kd.R_far (p := ⟨gb359, 4, none⟩) (Kd.R_far (p := ⟨gb359, 3, none⟩) (Kd.R_far (p := ⟨gb359, 2, none⟩) (Kd.R_far (p := ⟨gb359, 1, none⟩) (Kd.R_far (p := ⟨gb359, 0, none⟩) (Kd.R_far (p := ⟨gb360, 4, none⟩) (Kd.R_types (Kd.R_types HO_361000.out BK360.out (by decide)) BK359.out (by decide)) (fun _ hk => hk.1.2) (.slice Ao49 y380.length co49)) (fun _ hk => hk.2) (.slice Ao51 x361000_1.length co51)) (fun _ hk => hk.2) (.int .i64 1)) (fun _ hk => hk.2) (.slice Ao36 y368.length co36)) (fun _ hk => hk.2) (.slice Ao43 y374.length co43)) (fun _ hk => hk.2) (.slice Ao49 y380.length co49)) (fun _ hk => ⟨hk.1.1.1.1, ⟨hk.1.1.1.2, hk.1.1.2⟩⟩), by (with_reducible repeat (first | apply Kd.R_alloc | apply Kd.R_drewN | apply Kd.R_drew)); exact Kd.R_mono (Kd.R_far (p := ⟨gb359, 4, none⟩) (Kd.R_far (p := ⟨gb359, 3, none⟩) (Kd.R_far (p := ⟨gb359, 2, none⟩) (Kd.R_far (p := ⟨gb359, 1, none⟩) (Kd.R_far (p := ⟨gb359, 0, none⟩) (Kd.R_far (p := ⟨gb360, 4, none⟩) (Kd.R_types (Kd.R_types HO370.out BK360.out (by decide)) BK359.out (by decide)) (fun _ hk => hk.1.2) (.slice Ao49 y380.length co49)) (fun _ hk => hk.2) (.slice Ao51 x361000_1.length co51)) (fun _ hk => hk.2) (.int .i64 1)) (fun _ hk => hk.2) (.slice Ao36 y368.length co36)) (fun _ hk => hk.2) (.slice Ao43 y374.length co43)) (fun _ hk => hk.2) (.slice Ao49 y380.length co49)) (fun _ hk => ⟨hk.1.1.1.1, ⟨hk.1.1.1.2, hk.1.1.2⟩⟩), by (with_reducible repeat (first | apply Kd.R_alloc | apply Kd.R_drewN | apply Kd.R_drew)); exact Kd.R_mono (Kd.R_far (p := ⟨gb359, 4, none⟩) (Kd.R_far (p := ⟨gb359, 3, none⟩) (Kd.R_far (p := ⟨gb359, 2, none⟩) (Kd.R_far (p := ⟨gb359, 1, none⟩) (Kd.R_far (p := ⟨gb359, 0, none⟩) (Kd.R_far (p := ⟨gb360, 4, none⟩) (Kd.R_types (Kd.R_types HO376.out BK360.out (by decide)) BK359.out (by decide)) (fun _ hk => hk.1.2) (.slice Ao49 y380.length co49)) (fun _ hk => hk.2) (.slice Ao51 x361000_1.length co51)) (fun _ hk => hk.2) (.int .i64 1)) (fun _ hk => hk.2) (.slice Ao36 y368.length co36)) (fun _ hk => hk.2) (.slice Ao43 y374.length co43)) (fun _ hk => hk.2) (.slice Ao49 y380.length co49)) (fun _ hk => ⟨hk.1.1.1.1, ⟨hk.1.1.1.2, hk.1.1.2⟩⟩), by (with_reducible repeat (first | apply Kd.R_alloc | apply Kd.R_drewN | apply Kd.R_drew)); exact Kd.R_mono (Kd.R_far (p := ⟨gb359, 4, none⟩) (Kd.R_far (p := ⟨gb359, 3, none⟩) (Kd.R_far (p := ⟨gb359, 2, none⟩) (Kd.R_far (p := ⟨gb359, 1, none⟩) (Kd.R_far (p := ⟨gb359, 0, none⟩) (Kd.R_far (p := ⟨gb360, 4, none⟩) (Kd.R_types (Kd.R_types HO382.out BK360.out (by decide)) BK359.out (by decide)) (fun _ hk => hk.1.2) (.slice Ao49 y380.length co49)) (fun _ hk => hk.2) (.slice Ao51 x361000_1.length co51)) (fun _ hk => hk.2) (.int .i64 1)) (fun _ hk => hk.2) (.slice Ao36 y368.length co36)) (fun _ hk => hk.2) (.slice Ao43 y374.length co43)) (fun _ hk => hk.2) (.slice Ao49 y380.length co49)) (fun _ hk => ⟨hk.1.1.1, ⟨hk.1.1.2.1, hk.1.1.2.2⟩⟩), by repeat (first | (with_reducible first | exact HB.out | apply below_alloc | apply pw_below_drewN | apply below_drew1 | refine below_set ?_ GE358.out | refine below_set ?_ GE359.out | refine below_set ?_ GE360.out) | exact HB.out)⟩
      ·rw [if_neg c28] at H
       exact absurd H (by simp)
     ·rw [if_neg c27] at H
      exact absurd H (by simp)
    ·rw [if_neg c26] at H
     exact absurd H (by simp)
def hypercubelaw2_Make.l0 : Nat → List (S45) → Int → List (S30) → Int → Option ((List (S30)))
 | 0, _, _, _, _ => none
 | k + 1, x0, x1, x5, x6 => if x6 < (x0.length : Int) then (if 0 ≤ x6 then ((hypercuberef2_Of.f k ((rd_T45 x0 x6).f0) ((rd_T45 x0 x6).f1) x1).bind fun bt384 => (if x5.length < 1353245080339 then (hypercubelaw2_Make.l0 k x0 x1 (x5 ++ [(⟨bt384.1, bt384.2.1, bt384.2.2.1, bt384.2.2.2.1, bt384.2.2.2.2⟩ : S30)]) (wrap64 (x6 + 1))) else (none))) else (none)) else (some x5)
def hypercubelaw2_Make.f (k : Nat) (l0 : List (S45)) (a1 : Int) : Option ((List (S30))) := hypercubelaw2_Make.l0 k l0 a1 ([] : List (S30)) 0
set_option maxHeartbeats 8000000 in
set_option maxRecDepth 100000 in
theorem hypercubelaw2_Make.calls (k : Nat) (A0 : Option Addr) (c0 : Nat) (l0 : List (S45)) (a1 : Int) (r : List (S30)) (w : World) (hr0 : Kd.C k45 w A0 l0.length l0) (hc0 : l0.length ≤ c0) (h : hypercubelaw2_Make.f k l0 a1 = some r) :
  Calls Try.prog 24 #[.slice A0 l0.length c0, .int .i64 a1] w fun e w' => ∃ v0_ : Value, e = .returned (v0_) ∧ Kd.S k30 30 w' w.heap.size (fun _ => True) v0_ r ∧ Below w.heap.size w w' := by
 have hu45 := Try.underlying45
 have HR0 := am hr0
 have HC0 := am hc0
 clear hr0 hc0
 have HB := am (Below.refl w.heap.size w)
 have H : (hypercubelaw2_Make.l0 k l0 a1 ([] : List (S30)) 0) = some r := h
 clear h
 have H' := am H
 clear H
 go_enter Try.func24, Try.ntmps24
 go_wp2
 go_loopg [5, 6] k (fun kq v5 v6 w' => ∃ (x5_1 : List (S30)) (x6_1 : Int), v6 = .int .i64 x6_1 ∧ Aside0 (hypercubelaw2_Make.l0 kq l0 a1 x5_1 x6_1 = some r) ∧ Aside0 (kq ≤ k) ∧ Aside0 (Kd.S k30 30 w' w.heap.size (fun _ => True) v5 x5_1) ∧ Aside0 (Below w.heap.size w w'))
 case atStart => exact ⟨(([] : List (S30))), (0), (by first | rfl | (simp; done) | (simp [*]; done)), H', ⟨Nat.le_refl _⟩, ⟨by first | exact Kd.S_nil _ _ _ _ _ | exact Kd.N_nil _ _ _ _ _ | exact Kd.V_nil _ _ _ _ _ | exact Kd.Q_nil _ _ _ _ _ | exact Kd.R_nil _ _ _ _ _⟩, ⟨by repeat (first | (with_reducible first | exact HB.out | apply below_alloc | apply pw_below_drewN | apply below_drew1) | exact HB.out)⟩⟩
 case round =>
  clear H'
  try clear c2
  try clear p2
  obtain ⟨x5_1, x6_1, rfl, HA, HK1, HO_5, HB⟩ := hrel
  cases gk with
  | zero => exact absurd HA.out (by simp [hypercubelaw2_Make.l0])
  | succ k1 =>
   have H := HA.out
   clear HA
   simp only [hypercubelaw2_Make.l0] at H
   by_cases c3 : x6_1 < (l0.length : Int)
   ·rw [if_pos c3] at H
    have c3b0 : decide (x6_1 < (l0.length : Int)) = true := decide_eq_true c3
    clear c3
    by_cases c4 : 0 ≤ x6_1
    ·rw [if_pos c4] at H
     have c4b0 : decide (0 ≤ x6_1) = true := decide_eq_true c4
     clear c4
     replace H := Option.bind_eq_some_iff.mp H
     obtain ⟨⟨t384, t387, t388, t391, t394⟩, A50, H⟩ := H
     replace H : (if x5_1.length < 1353245080339 then (hypercubelaw2_Make.l0 k1 l0 a1 (x5_1 ++ [(⟨t384, t387, t388, t391, t394⟩ : S30)]) (wrap64 (x6_1 + 1))) else (none)) = some r := H
     have A5 := am A50
     clear A50
     by_cases c6 : x5_1.length < 1353245080339
     ·rw [if_pos c6] at H
      have LMc6 := am c6
      clear c6
      obtain ⟨y397, hy397⟩ : ∃ y_ : List (S30), y_ = (x5_1 ++ [(⟨t384, t387, t388, t391, t394⟩ : S30)]) := ⟨_, rfl⟩
      replace H : (hypercubelaw2_Make.l0 k1 l0 a1 y397 (wrap64 (x6_1 + 1))) = some r := by rw [hy397]; with_reducible exact H
      have Ny397 := am hy397
      clear hy397
      have H' := am H
      clear H
      have p383 : 0 ≤ (x6_1 : Int) := of_decide_eq_true (by first | (with_reducible assumption) | assumption)
      have q383 : x6_1 < (l0.length : Int) := of_decide_eq_true (by first | (with_reducible assumption) | assumption)
      obtain ⟨ad383, A383_0, c383_0, A383_1, c383_1, e383, hx383_0, hx383_1, hl383_0, hi383_0, hl383_1, hi383_1⟩ := at_T45 HR0.out x6_1 p383 q383
      cases e383
      replace hx383_0 := (HB.out.cell (World.block_lt_of_cell? w _ hx383_0)).trans hx383_0
      replace hx383_1 := (HB.out.cell (World.block_lt_of_cell? w _ hx383_1)).trans hx383_1
      have HR383_0 := am hi383_0
      have HC383_0 := am hl383_0
      clear hi383_0 hl383_0
      have HR383_1 := am hi383_1
      have HC383_1 := am hl383_1
      clear hi383_1 hl383_1
      replace p383 := eq_true p383
      replace q383 := eq_true q383
      go_wp2_with (first | (go_at_call 30; (with_reducible refine (hypercuberef2_Of.calls k1 _ _ ((rd_T45 l0 x6_1).f0) _ _ ((rd_T45 l0 x6_1).f1) a1 t384 t387 t388 t391 t394 _ ?side1 ?side2 ?side3 ?side4 A5.out).mono ?_); (case side1 => repeat (first | exact (Kd.C_below HR383_0.out HB.out) | (with_reducible refine Kd.C_alloc ?_ _) | (with_reducible refine Kd.C_drewN ?_ _) | (with_reducible refine Kd.C_drew ?_))); (case side2 => exact HC383_0.out); (case side3 => repeat (first | exact (Kd.C_below HR383_1.out HB.out) | (with_reducible refine Kd.C_alloc ?_ _) | (with_reducible refine Kd.C_drewN ?_ _) | (with_reducible refine Kd.C_drew ?_))); (case side4 => exact HC383_1.out); rintro e w7 ⟨v385, v389, v392, v395, rfl, ho0, ho1, ho2, ho3, hb⟩; have n0_ := am (Kd.S_mono (Kd.S_told (Kd.S_told (Kd.S_told (Kd.S_told (Kd.S_old (by (with_reducible repeat (first | apply Kd.S_alloc | apply Kd.S_drewN | apply Kd.S_drew)); exact HO_5.out) hb) (Kd.R_base ho0)) (Kd.R_base ho1)) (Kd.R_base ho2)) (Kd.R_base ho3)) (fun _ h_ => h_.1)); have n1_ := am (Kd.R_lower ho0 (below_size (by repeat (first | (with_reducible first | exact HB.out | apply below_alloc | apply pw_below_drewN | apply below_drew1) | exact HB.out)))); have n2_ := am (Kd.R_lower ho1 (below_size (by repeat (first | (with_reducible first | exact HB.out | apply below_alloc | apply pw_below_drewN | apply below_drew1) | exact HB.out)))); have n3_ := am (Kd.R_lower ho2 (below_size (by repeat (first | (with_reducible first | exact HB.out | apply below_alloc | apply pw_below_drewN | apply below_drew1) | exact HB.out)))); have n4_ := am (Kd.R_lower ho3 (below_size (by repeat (first | (with_reducible first | exact HB.out | apply below_alloc | apply pw_below_drewN | apply below_drew1) | exact HB.out)))); have n5_ := am (below_step (by repeat (first | (with_reducible first | exact HB.out | apply below_alloc | apply pw_below_drewN | apply below_drew1) | exact HB.out)) hb); clear HO_5 HB; revert n0_ n1_ n2_ n3_ n4_ n5_; intro HO_5 HO386 HO390 HO393 HO396 HB; (try clear hb); (try clear hb2); (try clear hk); (try clear hi); (try clear ho0); (try clear ho1); (try clear ho2); (try clear ho3); obtain ⟨Ao9, co9, eo9⟩ := Kd.R_slice HO386.out; subst eo9; obtain ⟨Ao10, co10, eo10⟩ := Kd.R_slice HO390.out; subst eo10; obtain ⟨Ao11, co11, eo11⟩ := Kd.R_slice HO393.out; subst eo11; obtain ⟨Ao12, co12, eo12⟩ := Kd.R_slice HO396.out; subst eo12) | ((with_reducible refine gate_builtin (b := .append) (xs := #[.tmp 13, .tmp 20]) rfl ?_); at_builtin; refine Kd.S_append k30 (w0 := w) w.heap.size rfl (.tmp 13) (.tmp 20) 28 30 (.agg #[(.slice none 0 0), (.int .i64 0), (.slice none 0 0), (.slice none 0 0), (.slice none 0 0)]) 104 rfl Try.underlying28 info30 rfl (by decide) (by omega) u5 x5_1 (⟨t384, t387, t388, t391, t394⟩ : S30) [.slice Ao9 t384.length co9, .int .i64 t387, .slice Ao10 t388.length co10, .slice Ao11 t391.length co11, .slice Ao12 t394.length co12] (fun _ => True) (fun k_ => some k_ = (.slice Ao9 t384.length co9 : Value).ownBlock ∨ some k_ = (.slice Ao10 t388.length co10 : Value).ownBlock ∨ some k_ = (.slice Ao11 t391.length co11 : Value).ownBlock ∨ some k_ = (.slice Ao12 t394.length co12 : Value).ownBlock) rfl rfl ?aP (fun k_ hk_ => hk_.elim (fun h_ => ((Kd.R_mono (ok' := fun k_ => ((fun _ => True)) k_ ∧ some k_ ≠ (u5 : Value).ownBlock) (Kd.R_apart' (HO386.out) (Kd.S_typed HO_5.out) (by decide)) (fun k_ hk => ⟨trivial, hk.2⟩))).1 k_ h_.symm) (fun h_ => h_.elim (fun h_ => ((Kd.R_mono (ok' := fun k_ => ((fun _ => True)) k_ ∧ some k_ ≠ (u5 : Value).ownBlock) (Kd.R_apart' (HO390.out) (Kd.S_typed HO_5.out) (by decide)) (fun k_ hk => ⟨trivial, hk.2⟩))).1 k_ h_.symm) (fun h_ => h_.elim (fun h_ => ((Kd.R_mono (ok' := fun k_ => ((fun _ => True)) k_ ∧ some k_ ≠ (u5 : Value).ownBlock) (Kd.R_apart' (HO393.out) (Kd.S_typed HO_5.out) (by decide)) (fun k_ hk => ⟨trivial, hk.2⟩))).1 k_ h_.symm) (fun h_ => ((Kd.R_mono (ok' := fun k_ => ((fun _ => True)) k_ ∧ some k_ ≠ (u5 : Value).ownBlock) (Kd.R_apart' (HO396.out) (Kd.S_typed HO_5.out) (by decide)) (fun k_ hk => ⟨trivial, hk.2⟩))).1 k_ h_.symm)))) ?aF ?aO ?aB ?aS ?aL ?_; (case aP => exact k30_mkM _ _ _ (⟨t384, t387, t388, t391, t394⟩ : S30) (Kd.R_mono (Kd.R_tight rfl (Kd.R_mono (ok' := fun k_ => ((fun _ => True)) k_ ∧ some k_ ≠ (u5 : Value).ownBlock) (Kd.R_apart' (HO386.out) (Kd.S_typed HO_5.out) (by decide)) (fun k_ hk => ⟨trivial, hk.2⟩))) (fun _ h_ => Or.inl h_)) (Kd.R_mono (Kd.R_tight rfl (Kd.R_mono (ok' := fun k_ => ((fun _ => True)) k_ ∧ some k_ ≠ (u5 : Value).ownBlock) (Kd.R_apart' (HO390.out) (Kd.S_typed HO_5.out) (by decide)) (fun k_ hk => ⟨trivial, hk.2⟩))) (fun _ h_ => Or.inr (Or.inl h_))) (Kd.R_mono (Kd.R_tight rfl (Kd.R_mono (ok' := fun k_ => ((fun _ => True)) k_ ∧ some k_ ≠ (u5 : Value).ownBlock) (Kd.R_apart' (HO393.out) (Kd.S_typed HO_5.out) (by decide)) (fun k_ hk => ⟨trivial, hk.2⟩))) (fun _ h_ => Or.inr (Or.inr (Or.inl h_)))) (Kd.R_mono (Kd.R_tight rfl (Kd.R_mono (ok' := fun k_ => ((fun _ => True)) k_ ∧ some k_ ≠ (u5 : Value).ownBlock) (Kd.R_apart' (HO396.out) (Kd.S_typed HO_5.out) (by decide)) (fun k_ hk => ⟨trivial, hk.2⟩))) (fun _ h_ => Or.inr (Or.inr (Or.inr (h_)))))); (case aB => exact (by repeat (first | (with_reducible first | exact HB.out | apply below_alloc | apply pw_below_drewN | apply below_drew1) | exact HB.out))); (case aF => exact (fun _ _ => trivial)); (case aO => exact (by (with_reducible repeat (first | apply Kd.S_alloc | apply Kd.S_drewN | apply Kd.S_drew)); exact Kd.S_mono HO_5.out (fun k_ hk => ⟨trivial, fun e_ => e_.elim (fun h_ => hk.1.1.1.2 h_) (fun h_ => h_.elim (fun h_ => hk.1.1.2 h_) (fun h_ => h_.elim (fun h_ => hk.1.2 h_) (fun h_ => hk.2 h_)))⟩))); (case aS => exact (below_size (by repeat (first | (with_reducible first | exact HB.out | apply below_alloc | apply pw_below_drewN | apply below_drew1) | exact HB.out)))); (case aL => have := LMc6.out; omega); intro v398 w8 ho hb hg hat; rw [← Ny397.out] at ho; have n0_ := am (hb); have n1_ := am (ho); clear HB HO_5 HO386 HO390 HO393 HO396; revert n0_ n1_; intro HB HO399; clear ho hb hg hat))
      go_roundg k1
      case measure => have := HK1.out; omega
      case rel => exact ⟨(y397), (wrap64 (x6_1 + 1)), (by first | rfl | (simp; done) | (simp [*]; done)), H', ⟨by have := HK1.out; omega⟩, ⟨by (with_reducible repeat (first | apply Kd.S_alloc | apply Kd.S_drewN | apply Kd.S_drew)); exact HO399.out⟩, ⟨by repeat (first | (with_reducible first | exact HB.out | apply below_alloc | apply pw_below_drewN | apply below_drew1) | exact HB.out)⟩⟩
     ·rw [if_neg c6] at H
      exact absurd H (by simp)
    ·rw [if_neg c4] at H
     exact absurd H (by simp)
   ·rw [if_neg c3] at H
    have c3b0 : decide (x6_1 < (l0.length : Int)) = false := decide_eq_false c3
    clear c3
    obtain rfl := Option.some.inj H
    go_wp2
    go_ret
    exact ⟨_, by first | rfl | (simp [errW_none, errW_some] <;> rfl) | (simp [*, errW_none, errW_some] <;> rfl), by (with_reducible repeat (first | apply Kd.S_alloc | apply Kd.S_drewN | apply Kd.S_drew)); exact HO_5.out, by repeat (first | (with_reducible first | exact HB.out | apply below_alloc | apply pw_below_drewN | apply below_drew1) | exact HB.out)⟩
def hypercubelaw2_Set.f (l0_0 : List Int) (a0_1 : Int) (a1 : Int) : Option (Int) := if 0 ≤ (IntKind.u64.wrap ((l0_0.length : Int))) then ((hypercubelaw2_within.f a1 (shl .i64 1 (IntKind.u64.wrap ((l0_0.length : Int))))).bind fun t401 => (some t401)) else (none)
set_option maxHeartbeats 8000000 in
set_option maxRecDepth 100000 in
theorem hypercubelaw2_Set.calls (A0_0 : Option Addr) (c0_0 : Nat) (l0_0 : List Int) (a0_1 : Int) (a1 : Int) (r : Int) (w : World) (hr0_0 : Kd.C (Kd.int .i64) w A0_0 l0_0.length l0_0) (hc0_0 : l0_0.length ≤ c0_0) (h : hypercubelaw2_Set.f l0_0 a0_1 a1 = some r) :
  Calls Try.prog 25 #[.agg #[.slice A0_0 l0_0.length c0_0, .int .i64 a0_1], .int .i64 a1] w fun e w' => e = .returned (.int .i64 r) ∧ Below w.heap.size w w' := by
 have hu35 := Try.underlying35
 have HR0_0 := am hr0_0
 have HC0_0 := am hc0_0
 clear hr0_0 hc0_0
 have HB := am (Below.refl w.heap.size w)
 have H : (if 0 ≤ (IntKind.u64.wrap ((l0_0.length : Int))) then ((hypercubelaw2_within.f a1 (shl .i64 1 (IntKind.u64.wrap ((l0_0.length : Int))))).bind fun t401 => (some t401)) else (none)) = some r := h
 clear h
 obtain ⟨ji3, hji3⟩ : ∃ j_ : Int, (IntKind.u64.wrap ((l0_0.length : Int))) = j_ := ⟨_, rfl⟩
 replace H : (if 0 ≤ (ji3) then ((hypercubelaw2_within.f a1 (shl .i64 1 (ji3))).bind fun t401 => (some t401)) else (none)) = some r := by first | (rw [hji3] at H; exact H) | (simp only [hji3] at H ⊢; exact H)
 by_cases c4 : 0 ≤ (ji3)
 ·rw [if_pos c4] at H
  have c4b0 := eq_true c4
  have c4b1 : decide (0 ≤ (ji3)) = true := decide_eq_true c4
  clear c4
  obtain ⟨ji5, hji5⟩ : ∃ j_ : Int, (shl .i64 1 (ji3)) = j_ := ⟨_, rfl⟩
  replace H : ((hypercubelaw2_within.f a1 (ji5)).bind fun t401 => (some t401)) = some r := by first | (rw [hji5] at H; exact H) | (simp only [hji5] at H ⊢; exact H)
  have hji5_ : (IntKind.i64.wrap (1 * 2 ^ min (ji3).toNat 64)) = ji5 := hji5
  have hji5z : (ji3) ≤ 64 → (IntKind.i64.wrap (1 * 2 ^ (ji3).toNat)) = ji5 := shl_small hji5
  have hji5u : (IntKind.i64.wrap (2 ^ min (ji3).toNat 64)) = ji5 := by have h_ := hji5_; rw [Int.one_mul] at h_; exact h_
  have hji5v : (ji3) ≤ 64 → (IntKind.i64.wrap (2 ^ (ji3).toNat)) = ji5 := fun hle_ => by have h_ := hji5z hle_; rw [Int.one_mul] at h_; exact h_
  have hji5y : (wrap64 (1 * 2 ^ min (ji3).toNat 64)) = ji5 := (i64_w _).symm.trans hji5_
  have hji5x : (ji3) ≤ 64 → (wrap64 (1 * 2 ^ (ji3).toNat)) = ji5 := fun h_ => (i64_w _).symm.trans (hji5z h_)
  replace H := Option.bind_eq_some_iff.mp H
  obtain ⟨t401, A60, H⟩ := H
  replace H : (some t401) = some r := H
  have A6 := am A60
  clear A60
  obtain rfl := Option.some.inj H
  go_enter Try.func25, Try.ntmps25
  go_wp2_with (first | ((with_reducible refine gate_dst (N := 2) rfl ?_); refine box_event ?hg (N := 2) ?hd (cs := #[.slice A0_0 l0_0.length c0_0, .int .i64 a0_1]) (t := 35) ?hr ?_; (case hd => rfl); (case hg => rfl); (case hr => first | (go_simp; done) | (go_simp; rfl)); intro gb400 hg w7 hbox hb; have n0_ := am (below_step (wmv HB.out) hb); have n1_ := am (hbox); have n2_ := am ((by rw [hg]; exact (below_size (wmv HB.out)) : w.heap.size ≤ gb400)); have n3_ := am ((by rw [hg]; exact (below_size (wmv HB.out)) : w.heap.size ≤ gb400)); clear HB; revert n0_ n1_ n2_ n3_; intro HB BK400 GW400 GE400; clear hb hbox hg; have hcz8_0 : w7.cell? ⟨gb400, 0, none⟩ = some (.slice A0_0 l0_0.length c0_0) := (blk_cell BK400.out 0).trans rfl; have hcz8_1 : w7.cell? ⟨gb400, 1, none⟩ = some (.int .i64 a0_1) := (blk_cell BK400.out 1).trans rfl; have hfz8_0 := blk_frozen BK400.out 0; have hfz8_1 := blk_frozen BK400.out 1) | ((with_reducible refine gate_callee (f := 20) rfl ?_); refine goesL_ (some 11) rfl rfl Try.func20 (by kernel_rfl) rfl #[.int .i64 a1, .int .i64 ji5] rfl (by (try simp only [List.map_toArray, List.map_cons, List.map_nil]); first | done | (simp only [hji5]; rfl) | rfl | (simp only [List.length_drop, List.length_take]; rfl)) ?_; (with_reducible refine (hypercubelaw2_within.calls a1 ji5 t401 _ A6.out).mono ?_); rintro e w' ⟨rfl, ⟨nd, rfl⟩⟩; refine ⟨_, rfl, ?_⟩))
  go_ret
  exact ⟨by first | rfl | (simp [errW_none, errW_some] <;> rfl) | (simp only [← hji3, ← hji5]; first | rfl | (simp [errW_none, errW_some] <;> rfl)) | (simp [*, errW_none, errW_some] <;> rfl), by repeat (first | (with_reducible first | exact HB.out | apply below_alloc | apply pw_below_drewN | apply below_drew1 | refine below_set ?_ GE400.out) | exact HB.out)⟩
 ·rw [if_neg c4] at H
  exact absurd H (by simp)
end Go.Proofs.Ytmkjkkmilopcpaa.Q
