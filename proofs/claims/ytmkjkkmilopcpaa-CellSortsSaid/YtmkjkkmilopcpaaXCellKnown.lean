import Derived.Test.YtmkjkkmilopcpaaXGroup
import Derived.Test.YtmkjkkmilopcpaaXOf
import Derived.Test.YtmkjkkmilopcpaaQ1
namespace Go.Proofs.Ytmkjkkmilopcpaa.Q
open Go.RowKit Go.Proofs.YtmkjkkmilopcpaaW.PrintWords Go.Proofs.YtmkjkkmilopcpaaW.PrintLast Go.Proofs.YtmkjkkmilopcpaaW.PrintMore
set_option linter.unusedVariables false
set_option linter.unusedSimpArgs false

/-! hypercubelaw2.known: one run. -/
theorem known_of : cell_Of.f [4, 5] [3] 2 = some ([5], 1, [3], [3], [3]) := by decide
theorem known_group : cell_Group.f 9 [⟨[5], 1, [3], [3], [3]⟩, ⟨[5], 1, [3], [3], [3]⟩] = some [⟨[5], 2, [6], [3], [3]⟩] := by kernel_rfl
theorem known_less : cell_Less.f 3 [] [] = some 0 := by kernel_rfl
theorem C_of_blk {w : World} {g : Nat} {xs : List Int} (h : w.heap[g]? = some (.cells (encs (Value.int .i64) xs).toArray 3 (0, 0))) (hl : xs.length ≤ maxLen) : Kd.C (Kd.int .i64) w (some ⟨g, 0, none⟩) xs.length xs := by
  have hR : Kd.R (Kd.int .i64) 3 w 0 (fun _ => True) (.slice (some ⟨g, 0, none⟩) xs.length xs.length) xs := by
    refine Kd.R_of_own (h1 := fun _ => rfl) ⟨by rw [encs_length, Nat.mul_one], .inr ⟨g, xs.length, _, rfl, Nat.zero_le _, h, Nat.le_refl _, hl, ?_, ?_⟩⟩ (fun _ _ => trivial)
    · rw [List.size_toArray, encs_length, Nat.mul_one]
    · rw [Nat.mul_one, ← encs_length (enc := Value.int .i64) xs]
      exact List.take_length
  exact (Kd.R_reads' hR).2.2
/-- Two cells side by side in a block. -/
theorem C_two {w : World} {g : Nat} {x : S30} {cs : List Value} (h : w.heap[g]? = some (.cells (cs ++ cs).toArray 30 (0, 0))) (hx : k30.K w x cs) : Kd.C k30 w (some ⟨g, 0, none⟩) [x, x].length [x, x] := by
  have hl : cs.length = 5 := k30.K_len hx
  refine ⟨rfl, by simp, fun _ => ⟨_, rfl, fun j p hj => ⟨cs, hl, ?_, fun i u hu => ?_⟩⟩⟩
  · have hm : p = x := by
      have hj2 : j < 2 := (List.getElem?_eq_some_iff.1 hj).1
      match j, hj2, hj with
      | 0, _, hj => simpa using hj.symm
      | 1, _, hj => simpa using hj.symm
    rw [hm]; exact hx
  · have hi : i < cs.length := (List.getElem?_eq_some_iff.1 hu).1
    rw [Addr.add_lit, cell_of_row w g _ _ _ _ h, List.getElem?_toArray]
    have hj2 : j < 2 := (List.getElem?_eq_some_iff.1 hj).1
    match j, hj2 with
    | 0, _ => rw [Nat.zero_add]; rw [show 0 * k30.sz + i = i by omega, List.getElem?_append_left hi]; exact hu
    | 1, _ => rw [Nat.zero_add, show 1 * k30.sz + i = cs.length + i by rw [hl]; rfl, List.getElem?_append_right (by omega), Nat.add_sub_cancel_left]; exact hu
def hypercubelaw2_known.f : Option Bool := some true
set_option maxHeartbeats 8000000 in
set_option maxRecDepth 100000 in
theorem hypercubelaw2_known.calls (r : Bool) (w : World) (h : hypercubelaw2_known.f = some r) :
    Calls Try.prog 16 #[] w fun e w' => e = .returned (.bool r) ∧ Below w.heap.size w w' := by
 have e : true = r := Option.some.inj h
 subst e
 clear h
 have HB := Aside0.mk (Below.refl w.heap.size w)
 go_enter Try.func16, Try.ntmps16
 go_wp2_with (first
  | ((with_reducible refine gate_callee (f := 28) rfl ?_)
     refine goesL_ (some 6) rfl rfl Try.func28 (by kernel_rfl) rfl #[.agg #[.slice (some ⟨w.heap.size, 0, none⟩) 2 2, .slice (some ⟨w.heap.size + 1, 0, none⟩) 1 1], .int .i64 2] rfl (by (try simp only [List.map_toArray, List.map_cons, List.map_nil]); first | done | rfl) ?_
     refine name_calls ?_
     intro w2 hw2
     have h1 : w2.heap[w.heap.size]? = some (.cells (encs (Value.int .i64) [4, 5]).toArray 3 (0, 0)) := by rw [hw2]; exact (Below.heap_alloc _ _ _ (by rw [World.size_alloc]; omega)).trans (blk_new w _)
     have h2 : w2.heap[w.heap.size + 1]? = some (.cells (encs (Value.int .i64) [3]).toArray 3 (0, 0)) := by rw [hw2]; have := blk_new (w.alloc (.cells #[.int .i64 4, .int .i64 5] 3)) (.cells #[.int .i64 3] 3); rw [World.size_alloc] at this; exact this
     have n0_ : Aside0 (Below w.heap.size w w2) := Aside0.mk (by rw [hw2]; exact below_alloc (below_alloc HB.out _) _)
     clear HB
     have HB := n0_
     clear n0_ hw2
     refine (cell_Of.calls (some ⟨w.heap.size, 0, none⟩) 2 [4, 5] (some ⟨w.heap.size + 1, 0, none⟩) 1 [3] 2 [5] 1 [3] [3] [3] w2 (C_of_blk h1 (by decide)) (by decide) (C_of_blk h2 (by decide)) (by decide) known_of).mono ?_
     rintro e w3 ⟨v0, v2, v3, v4, rfl, p0, p2, p3, p4, hb⟩
     refine ⟨_, rfl, ?_⟩
     obtain ⟨B0, b0, rfl⟩ := Kd.R_slice p0
     obtain ⟨B2, b2, rfl⟩ := Kd.R_slice p2
     obtain ⟨B3, b3, rfl⟩ := Kd.R_slice p3
     obtain ⟨B4, b4, rfl⟩ := Kd.R_slice p4
     have G0 := Aside0.mk p0
     have G2 := Aside0.mk p2
     have G3 := Aside0.mk p3
     have G4 := Aside0.mk p4
     have n0_ := Aside0.mk (below_step HB.out hb)
     clear HB h1 h2 p0 p2 p3 p4 hb
     have HB := n0_
     clear n0_)
  | ((with_reducible refine gate_dst (N := 1) rfl ?_); refine box_event ?hg (N := 1) ?hd (cs := #[.slice none 0 0, .int .i64 0, .slice none 0 0, .slice none 0 0, .slice none 0 0]) (t := 30) ?hr ?_; (case hd => rfl); (case hg => rfl); (case hr => first | (go_simp; done) | (go_simp; rfl)); intro gb hg w4 hbox hb; have n0_ := Aside0.mk (below_step HB.out hb); have n3_ := Aside0.mk hbox; have n4_ := Aside0.mk (show w.heap.size ≤ gb by rw [hg]; have := HB.out.size; omega); have m0_ := Aside0.mk (Kd.R_below (Kd.R_mono (Kd.R_bound G0.out) (ok' := fun k => k < gb) (fun k hk => by rw [hg]; exact hk.2.2.1)) hb); have m2_ := Aside0.mk (Kd.R_below (Kd.R_mono (Kd.R_bound G2.out) (ok' := fun k => k < gb) (fun k hk => by rw [hg]; exact hk.2.2.1)) hb); have m3_ := Aside0.mk (Kd.R_below (Kd.R_mono (Kd.R_bound G3.out) (ok' := fun k => k < gb) (fun k hk => by rw [hg]; exact hk.2.2.1)) hb); have m4_ := Aside0.mk (Kd.R_below (Kd.R_mono (Kd.R_bound G4.out) (ok' := fun k => k < gb) (fun k hk => by rw [hg]; exact hk.2.2.1)) hb); clear G0 G2 G3 G4; have G0 := m0_; have G2 := m2_; have G3 := m3_; have G4 := m4_; clear m0_ m2_ m3_ m4_; clear HB; have HB := n0_; have BKb := n3_; have GEb := n4_; clear n0_ n3_ n4_; clear hb hbox hg; have hcz0 := (blk_cell BKb.out 0).trans rfl; have hcz1 := (blk_cell BKb.out 1).trans rfl; have hcz2 := (blk_cell BKb.out 2).trans rfl; have hcz3 := (blk_cell BKb.out 3).trans rfl; have hcz4 := (blk_cell BKb.out 4).trans rfl; have hfz0 := blk_frozen BKb.out 0; have hfz1 := blk_frozen BKb.out 1; have hfz2 := blk_frozen BKb.out 2; have hfz3 := blk_frozen BKb.out 3; have hfz4 := blk_frozen BKb.out 4)
  | ((with_reducible refine gate_callee (f := 26) rfl ?_)
     refine goesL_ (some 10) rfl rfl Try.func26 (by kernel_rfl) rfl #[.slice (some ⟨w4.heap.size, 0, none⟩) 2 2] rfl (by (try simp only [List.map_toArray, List.map_cons, List.map_nil]); first | done | rfl) ?_
     refine name_calls ?_
     intro w5 hw5
     have hw5' : w5 = (((((w4.setCell ⟨gb, 0, none⟩ (.slice B0 1 b0)).setCell ⟨gb, 1, none⟩ (.int .i64 1)).setCell ⟨gb, 2, none⟩ (.slice B2 1 b2)).setCell ⟨gb, 3, none⟩ (.slice B3 1 b3)).setCell ⟨gb, 4, none⟩ (.slice B4 1 b4)).alloc (.cells #[.slice B0 1 b0, .int .i64 1, .slice B2 1 b2, .slice B3 1 b3, .slice B4 1 b4, .slice B0 1 b0, .int .i64 1, .slice B2 1 b2, .slice B3 1 b3, .slice B4 1 b4] 30) := hw5
     have hs : (((((w4.setCell ⟨gb, 0, none⟩ (.slice B0 1 b0)).setCell ⟨gb, 1, none⟩ (.int .i64 1)).setCell ⟨gb, 2, none⟩ (.slice B2 1 b2)).setCell ⟨gb, 3, none⟩ (.slice B3 1 b3)).setCell ⟨gb, 4, none⟩ (.slice B4 1 b4)).heap.size = w4.heap.size := by simp
     have hk5 : Kept w4 w5 (fun k => k = gb) := by
      rw [hw5']
      refine Kept.alloc ?_ _
      refine Kept.setCell (S := fun k => k = gb) (p := ⟨gb, 4, none⟩) ?_ (.inl rfl) _
      refine Kept.setCell (S := fun k => k = gb) (p := ⟨gb, 3, none⟩) ?_ (.inl rfl) _
      refine Kept.setCell (S := fun k => k = gb) (p := ⟨gb, 2, none⟩) ?_ (.inl rfl) _
      refine Kept.setCell (S := fun k => k = gb) (p := ⟨gb, 1, none⟩) ?_ (.inl rfl) _
      refine Kept.setCell (S := fun k => k = gb) (p := ⟨gb, 0, none⟩) ?_ (.inl rfl) _
      exact Kept.refl _ _
     have hl5 : w5.heap[w4.heap.size]? = some (.cells (([.slice B0 1 b0, .int .i64 1, .slice B2 1 b2, .slice B3 1 b3, .slice B4 1 b4] : List Value) ++ ([.slice B0 1 b0, .int .i64 1, .slice B2 1 b2, .slice B3 1 b3, .slice B4 1 b4] : List Value)).toArray 30 (0, 0)) := by
      rw [hw5']
      have := blk_new (((((w4.setCell ⟨gb, 0, none⟩ (.slice B0 1 b0)).setCell ⟨gb, 1, none⟩ (.int .i64 1)).setCell ⟨gb, 2, none⟩ (.slice B2 1 b2)).setCell ⟨gb, 3, none⟩ (.slice B3 1 b3)).setCell ⟨gb, 4, none⟩ (.slice B4 1 b4)) (.cells #[.slice B0 1 b0, .int .i64 1, .slice B2 1 b2, .slice B3 1 b3, .slice B4 1 b4, .slice B0 1 b0, .int .i64 1, .slice B2 1 b2, .slice B3 1 b3, .slice B4 1 b4] 30)
      rw [hs] at this
      exact this
     have hg5 : w5.heap[gb]? = some (.cells #[.slice B0 1 b0, .int .i64 1, .slice B2 1 b2, .slice B3 1 b3, .slice B4 1 b4] 30 (0, 0)) := by
      rw [hw5']
      refine blk_alloc ?_ _
      refine blk_put (cs := #[.slice B0 1 b0, .int .i64 1, .slice B2 1 b2, .slice B3 1 b3, .slice none 0 0]) ?_ 4 _ rfl
      refine blk_put (cs := #[.slice B0 1 b0, .int .i64 1, .slice B2 1 b2, .slice none 0 0, .slice none 0 0]) ?_ 3 _ rfl
      refine blk_put (cs := #[.slice B0 1 b0, .int .i64 1, .slice none 0 0, .slice none 0 0, .slice none 0 0]) ?_ 2 _ rfl
      refine blk_put (cs := #[.slice B0 1 b0, .int .i64 0, .slice none 0 0, .slice none 0 0, .slice none 0 0]) ?_ 1 _ rfl
      refine blk_put (cs := #[.slice none 0 0, .int .i64 0, .slice none 0 0, .slice none 0 0, .slice none 0 0]) ?_ 0 _ rfl
      exact BKb.out
     have n0_ : Aside0 (Below w.heap.size w w5) := Aside0.mk (by
      rw [hw5']
      refine below_alloc ?_ _
      refine below_set (g := gb) (j := 4) ?_ GEb.out
      refine below_set (g := gb) (j := 3) ?_ GEb.out
      refine below_set (g := gb) (j := 2) ?_ GEb.out
      refine below_set (g := gb) (j := 1) ?_ GEb.out
      refine below_set (g := gb) (j := 0) ?_ GEb.out
      exact HB.out)
     have p0 := Kd.R_kept G0.out hk5 (fun k hk e => by omega)
     have p2 := Kd.R_kept G2.out hk5 (fun k hk e => by omega)
     have p3 := Kd.R_kept G3.out hk5 (fun k hk e => by omega)
     have p4 := Kd.R_kept G4.out hk5 (fun k hk e => by omega)
     clear HB G0 G2 G3 G4 BKb hs hk5 hw5' hw5
     have HB := n0_
     clear n0_
     refine (cell_Group.calls 9 (some ⟨w4.heap.size, 0, none⟩) 2 [(⟨[5], 1, [3], [3], [3]⟩ : S30), ⟨[5], 1, [3], [3], [3]⟩] _ w5 (C_two hl5 (k30_mk w5 (⟨[5], 1, [3], [3], [3]⟩ : S30) (Kd.R_reads' p0).2.1 (Kd.R_reads' p0).2.2 (Kd.R_reads' p2).2.1 (Kd.R_reads' p2).2.2 (Kd.R_reads' p3).2.1 (Kd.R_reads' p3).2.2 (Kd.R_reads' p4).2.1 (Kd.R_reads' p4).2.2)) (by decide) known_group).mono ?_
     rintro e w6 ⟨v, rfl, hS, hb⟩
     refine ⟨_, rfl, ?_⟩
     obtain ⟨A, c, rfl⟩ := Kd.S_slice hS
     have hC := (Kd.S_reads' hS).2.2
     obtain ⟨ad, E0, d0, E2, d2, E3, d3, E4, d4, eA, q0, q1, q2, q3, q4, g0, K0, g2, K2, g3, K3, g4, K4⟩ := at_T30 hC 0 (by decide) (by decide)
     cases eA
     obtain ⟨g, rfl⟩ := Kd.R_head (Kd.S_R hS)
     obtain ⟨a2, e2, z2⟩ := Kd.at_int K2 0 (by decide) (by decide)
     cases e2
     obtain ⟨a0, e0, z0⟩ := Kd.at_int (Kd.R_reads' p0).2.2 0 (by decide) (by decide)
     cases e0
     have z0' := (hb.cell (World.block_lt_of_cell? _ _ z0)).trans z0
     have z00 : w6.cell? a0 = some (.int .i64 5) := by rw [← show a0.add (0 : Int).toNat = a0 by simp [Addr.add]]; exact z0'
     have z22 : w6.cell? a2 = some (.int .i64 6) := by rw [← show a2.add (0 : Int).toNat = a2 by simp [Addr.add]]; exact z2
     have y1 : w6.cell? ⟨g, 1, none⟩ = some (.int .i64 2) := q1
     have y2 : w6.cell? ⟨g, 2, none⟩ = some (.slice (some a2) 1 d2) := q2
     have b6 := blk_below hg5 hb
     have x0 : w6.cell? ⟨gb, 0, none⟩ = some (.slice (some a0) 1 b0) := (blk_cell b6 0).trans rfl
     have x1 : w6.cell? ⟨gb, 1, none⟩ = some (.int .i64 1) := (blk_cell b6 1).trans rfl
     have n0_ := Aside0.mk (below_step HB.out hb)
     clear HB hg5 hl5 p0 p2 p3 p4 hS hb hC q0 q1 q2 q3 q4 g0 K0 g2 K2 g3 K3 g4 K4 z0 z0' z2 b6
     have HB := n0_
     clear n0_)
  | ((with_reducible refine gate_callee (f := 17) rfl ?_)
     refine goesL_ (some 11) rfl rfl Try.func17 (by kernel_rfl) rfl #[.slice none 0 0, .slice none 0 0] rfl (by (try simp only [List.map_toArray, List.map_cons, List.map_nil]); first | done | rfl) ?_
     refine (cell_Less.calls 3 none 0 [] none 0 [] 0 _ (Kd.C_nil _ _) (by decide) (Kd.C_nil _ _) (by decide) known_less).mono ?_
     rintro e w7 ⟨rfl, ⟨nd, rfl⟩⟩
     refine ⟨_, rfl, ?_⟩))
 go_ret
 exact ⟨rfl, by (with_reducible repeat (first | exact HB.out | apply pw_below_drewN))⟩
end Go.Proofs.Ytmkjkkmilopcpaa.Q
