-- written by wip/tools/xprint.py (a program of this session, over the kit's printer)
import Derived.Test.YtlacfpbfnedgdaaQ0
import Derived.Test.YtlacfpbfnedgdaaQ2
import Derived.Test.YtlacfpbfnedgdaaQ5
import Derived.Test.YtlacfpbfnedgdaaQ6
import Derived.Test.YtlacfpbfnedgdaaQ7
import Derived.Test.YtlacfpbfnedgdaaQ9
import Derived.Test.YtlacfpbfnedgdaaXDecode
namespace Go.Proofs.Ytlacfpbfnedgdaa.Q
open Go.RowKit Go.Proofs.YtlacfpbfnedgdaaW.PrintWords Go.Proofs.YtlacfpbfnedgdaaW.PrintLast Go.Proofs.YtlacfpbfnedgdaaW.PrintMore
attribute [local go_sem] max2_int min2_int max_two min_two max_three min_three max_four min_four   -- for this text's walks alone
set_option linter.unusedVariables false
set_option linter.unusedSimpArgs false

/-! ### hypercubelaw1_RecMany: function 8 -/
def hypercubelaw1_RecMany.l0 : Nat → Int → List Int → Int → Option (Bool)
 | 0, _, _, _ => none
 | k + 1, x3, x5, x6 => if x6 < x3 then (if x5.length < 140737488355328 then (hypercubelaw1_RecMany.l0 k x3 (x5 ++ [(Int.tmod x6 2) % 256]) (wrap64 (x6 + 1))) else (none)) else ((rec_Decode.f x5).bind fun bt658 => (if x3 > 300 then (if bt658.2.2.2 = 1 then (some ((bt658.2.2.1.length : Int) == 0)) else (none)) else (if bt658.2.2.2 = 0 then (some ((bt658.2.2.1.length : Int) == x3)) else (none))))
def hypercubelaw1_RecMany.f (k : Nat) (a0 : Int) : Option (Bool) := (hypercubelaw1_known.f k).bind fun t644 => (if t644 = true then ((hypercubelaw1_within.f a0 12).bind fun t645 => ((hypercuberef1_Encode.f k (([2] : List Int)) 0 ([] : List (S33))).bind fun t650 => (if 0 ≤ (wrap64 ((t650.length : Int) - 2)) then (if (wrap64 ((t650.length : Int) - 2)) < (t650.length : Int) then (if 0 ≤ (wrap64 ((t650.length : Int) - 1)) then (if (wrap64 ((t650.length : Int) - 1)) < (t650.length : Int) then (hypercubelaw1_RecMany.l0 k (wrap64 (295 + t645)) ((t650.set ((wrap64 ((t650.length : Int) - 2)) : Int).toNat (((wrap64 (295 + t645)) / 256) % 256)).set ((wrap64 ((t650.length : Int) - 1)) : Int).toNat ((wrap64 (295 + t645)) % 256)) 0) else (none)) else (none)) else (none)) else (none)))) else (none))
theorem hypercubelaw1_RecMany.mono_l : ∀ k, (∀ y0 y1 y2, LeO (hypercubelaw1_RecMany.l0 k y0 y1 y2) (hypercubelaw1_RecMany.l0 (k + 1) y0 y1 y2))
 | 0 => fun _ _ _ r h => by simp [hypercubelaw1_RecMany.l0] at h
 | k + 1 => by
  have ih0 := hypercubelaw1_RecMany.mono_l k
  ·intro y0 y1 y2
   unfold hypercubelaw1_RecMany.l0
   repeat' first
   | (with_reducible exact ih0 _ _ _)
   | (with_reducible exact hypercubelaw1_known.mono _)
   | (with_reducible exact hypercuberef1_Encode.mono _ _ _ _)
   | (with_reducible exact LeO.refl _)
   | (with_reducible exact LeO.none _)
   | (with_reducible refine LeO.ite ?_ ?_)
   | (with_reducible refine LeO.bind ?_ (fun _ => ?_))
   | exact ih0 _ _ _
   | exact hypercubelaw1_known.mono _
   | exact hypercuberef1_Encode.mono _ _ _ _
   | exact LeO.none _
   | refine LeO.ite ?_ ?_
   | refine LeO.bind ?_ (fun _ => ?_)
theorem hypercubelaw1_RecMany.mono : ∀ a0 k, LeO (hypercubelaw1_RecMany.f k a0) (hypercubelaw1_RecMany.f (k + 1) a0) := by
 intro a0 k
 have ih0 := hypercubelaw1_RecMany.mono_l k
 unfold hypercubelaw1_RecMany.f
 repeat' first
   | (with_reducible exact ih0 _ _ _)
   | (with_reducible exact hypercubelaw1_known.mono _)
   | (with_reducible exact hypercuberef1_Encode.mono _ _ _ _)
   | (with_reducible exact LeO.refl _)
   | (with_reducible exact LeO.none _)
   | (with_reducible refine LeO.ite ?_ ?_)
   | (with_reducible refine LeO.bind ?_ (fun _ => ?_))
   | exact ih0 _ _ _
   | exact hypercubelaw1_known.mono _
   | exact hypercuberef1_Encode.mono _ _ _ _
   | exact LeO.none _
   | refine LeO.ite ?_ ?_
   | refine LeO.bind ?_ (fun _ => ?_)
set_option maxHeartbeats 8000000 in
set_option maxRecDepth 100000 in
theorem hypercubelaw1_RecMany.calls (k : Nat) (a0 : Int) (r : Bool) (w : World) (h : hypercubelaw1_RecMany.f k a0 = some r) :
  Calls Try.prog 8 #[.int .i64 a0] w fun e w' => e = .returned (.bool r) ∧ Below w.heap.size w w' := by
 have hu24 := Try.underlying24
 have HB := Aside0.mk (Below.refl w.heap.size w)
 have H : ((hypercubelaw1_known.f k).bind fun t644 => (if t644 = true then ((hypercubelaw1_within.f a0 12).bind fun t645 => ((hypercuberef1_Encode.f k (([2] : List Int)) 0 ([] : List (S33))).bind fun t650 => (if 0 ≤ (wrap64 ((t650.length : Int) - 2)) then (if (wrap64 ((t650.length : Int) - 2)) < (t650.length : Int) then (if 0 ≤ (wrap64 ((t650.length : Int) - 1)) then (if (wrap64 ((t650.length : Int) - 1)) < (t650.length : Int) then (hypercubelaw1_RecMany.l0 k (wrap64 (295 + t645)) ((t650.set ((wrap64 ((t650.length : Int) - 2)) : Int).toNat (((wrap64 (295 + t645)) / 256) % 256)).set ((wrap64 ((t650.length : Int) - 1)) : Int).toNat ((wrap64 (295 + t645)) % 256)) 0) else (none)) else (none)) else (none)) else (none)))) else (none))) = some r := h
 clear h
 replace H := Option.bind_eq_some_iff.mp H
 obtain ⟨t644, A20, H⟩ := H
 replace H : (if t644 = true then ((hypercubelaw1_within.f a0 12).bind fun t645 => ((hypercuberef1_Encode.f k (([2] : List Int)) 0 ([] : List (S33))).bind fun t650 => (if 0 ≤ (wrap64 ((t650.length : Int) - 2)) then (if (wrap64 ((t650.length : Int) - 2)) < (t650.length : Int) then (if 0 ≤ (wrap64 ((t650.length : Int) - 1)) then (if (wrap64 ((t650.length : Int) - 1)) < (t650.length : Int) then (hypercubelaw1_RecMany.l0 k (wrap64 (295 + t645)) ((t650.set ((wrap64 ((t650.length : Int) - 2)) : Int).toNat (((wrap64 (295 + t645)) / 256) % 256)).set ((wrap64 ((t650.length : Int) - 1)) : Int).toNat ((wrap64 (295 + t645)) % 256)) 0) else (none)) else (none)) else (none)) else (none)))) else (none)) = some r := H
 have A2 := Aside0.mk A20
 clear A20
 by_cases c3 : t644 = true
 ·subst c3
  have H1 : ((hypercubelaw1_within.f a0 12).bind fun t645 => ((hypercuberef1_Encode.f k (([2] : List Int)) 0 ([] : List (S33))).bind fun t650 => (if 0 ≤ (wrap64 ((t650.length : Int) - 2)) then (if (wrap64 ((t650.length : Int) - 2)) < (t650.length : Int) then (if 0 ≤ (wrap64 ((t650.length : Int) - 1)) then (if (wrap64 ((t650.length : Int) - 1)) < (t650.length : Int) then (hypercubelaw1_RecMany.l0 k (wrap64 (295 + t645)) ((t650.set ((wrap64 ((t650.length : Int) - 2)) : Int).toNat (((wrap64 (295 + t645)) / 256) % 256)).set ((wrap64 ((t650.length : Int) - 1)) : Int).toNat ((wrap64 (295 + t645)) % 256)) 0) else (none)) else (none)) else (none)) else (none)))) = some r := by rw [if_pos rfl] at H; exact H
  clear H
  have H := H1
  clear H1
  replace H := Option.bind_eq_some_iff.mp H
  obtain ⟨t645, A40, H⟩ := H
  replace H : ((hypercuberef1_Encode.f k (([2] : List Int)) 0 ([] : List (S33))).bind fun t650 => (if 0 ≤ (wrap64 ((t650.length : Int) - 2)) then (if (wrap64 ((t650.length : Int) - 2)) < (t650.length : Int) then (if 0 ≤ (wrap64 ((t650.length : Int) - 1)) then (if (wrap64 ((t650.length : Int) - 1)) < (t650.length : Int) then (hypercubelaw1_RecMany.l0 k (wrap64 (295 + t645)) ((t650.set ((wrap64 ((t650.length : Int) - 2)) : Int).toNat (((wrap64 (295 + t645)) / 256) % 256)).set ((wrap64 ((t650.length : Int) - 1)) : Int).toNat ((wrap64 (295 + t645)) % 256)) 0) else (none)) else (none)) else (none)) else (none))) = some r := H
  have A4 := Aside0.mk A40
  clear A40
  obtain ⟨y646, hy646⟩ : ∃ y_ : List Int, y_ = (([2] : List Int)) := ⟨_, rfl⟩
  replace H : ((hypercuberef1_Encode.f k y646 0 ([] : List (S33))).bind fun t650 => (if 0 ≤ (wrap64 ((t650.length : Int) - 2)) then (if (wrap64 ((t650.length : Int) - 2)) < (t650.length : Int) then (if 0 ≤ (wrap64 ((t650.length : Int) - 1)) then (if (wrap64 ((t650.length : Int) - 1)) < (t650.length : Int) then (hypercubelaw1_RecMany.l0 k (wrap64 (295 + t645)) ((t650.set ((wrap64 ((t650.length : Int) - 2)) : Int).toNat (((wrap64 (295 + t645)) / 256) % 256)).set ((wrap64 ((t650.length : Int) - 1)) : Int).toNat ((wrap64 (295 + t645)) % 256)) 0) else (none)) else (none)) else (none)) else (none))) = some r := by first | (rw [hy646]; with_reducible exact H) | (have H2_ := (Option.bind_some _ _).symm.trans H; rw [hy646]; with_reducible exact H2_) | (have H2_ := (Option.bind_some _ _).symm.trans H; with_reducible exact H2_) | with_reducible exact H | (rw [hy646]; exact H) | exact H
  have Ny646 := Aside0.mk hy646
  clear hy646
  replace H := Option.bind_eq_some_iff.mp H
  obtain ⟨t650, A50, H⟩ := H
  replace H : (if 0 ≤ (wrap64 ((t650.length : Int) - 2)) then (if (wrap64 ((t650.length : Int) - 2)) < (t650.length : Int) then (if 0 ≤ (wrap64 ((t650.length : Int) - 1)) then (if (wrap64 ((t650.length : Int) - 1)) < (t650.length : Int) then (hypercubelaw1_RecMany.l0 k (wrap64 (295 + t645)) ((t650.set ((wrap64 ((t650.length : Int) - 2)) : Int).toNat (((wrap64 (295 + t645)) / 256) % 256)).set ((wrap64 ((t650.length : Int) - 1)) : Int).toNat ((wrap64 (295 + t645)) % 256)) 0) else (none)) else (none)) else (none)) else (none)) = some r := H
  have A5 := Aside0.mk A50
  clear A50
  obtain ⟨ji6, hji6⟩ : ∃ j_ : Int, (wrap64 ((t650.length : Int) - 2)) = j_ := ⟨_, rfl⟩
  replace H : (if 0 ≤ (ji6) then (if (ji6) < (t650.length : Int) then (if 0 ≤ (wrap64 ((t650.length : Int) - 1)) then (if (wrap64 ((t650.length : Int) - 1)) < (t650.length : Int) then (hypercubelaw1_RecMany.l0 k (wrap64 (295 + t645)) ((t650.set ((ji6) : Int).toNat (((wrap64 (295 + t645)) / 256) % 256)).set ((wrap64 ((t650.length : Int) - 1)) : Int).toNat ((wrap64 (295 + t645)) % 256)) 0) else (none)) else (none)) else (none)) else (none)) = some r := by first | (rw [hji6] at H; exact H) | (simp only [hji6] at H ⊢; exact H)
  (try rw [hji6] at A2)
  (try rw [hji6] at A4)
  (try rw [hji6] at A5)
  have hji6w : (IntKind.i64.wrap ((t650.length : Int) - 2)) = ji6 := (i64_w _).trans hji6
  by_cases c7 : 0 ≤ (ji6)
  ·rw [if_pos c7] at H
   have c7b0 : decide (0 ≤ (ji6)) = true := decide_eq_true c7
   clear c7
   by_cases c8 : (ji6) < (t650.length : Int)
   ·rw [if_pos c8] at H
    have c8b0 : decide ((ji6) < (t650.length : Int)) = true := decide_eq_true c8
    clear c8
    obtain ⟨y653, hy653⟩ : ∃ y_ : List Int, y_ = (t650.set ((ji6) : Int).toNat (((wrap64 (295 + t645)) / 256) % 256)) := ⟨_, rfl⟩
    replace H : (if 0 ≤ (wrap64 ((t650.length : Int) - 1)) then (if (wrap64 ((t650.length : Int) - 1)) < (t650.length : Int) then (hypercubelaw1_RecMany.l0 k (wrap64 (295 + t645)) (y653.set ((wrap64 ((t650.length : Int) - 1)) : Int).toNat ((wrap64 (295 + t645)) % 256)) 0) else (none)) else (none)) = some r := by first | (rw [hy653]; with_reducible exact H) | (have H2_ := (Option.bind_some _ _).symm.trans H; rw [hy653]; with_reducible exact H2_) | (have H2_ := (Option.bind_some _ _).symm.trans H; with_reducible exact H2_) | with_reducible exact H | (rw [hy653]; exact H) | exact H
    have Ny653 := Aside0.mk hy653
    clear hy653
    obtain ⟨ji10, hji10⟩ : ∃ j_ : Int, (wrap64 ((t650.length : Int) - 1)) = j_ := ⟨_, rfl⟩
    replace H : (if 0 ≤ (ji10) then (if (ji10) < (t650.length : Int) then (hypercubelaw1_RecMany.l0 k (wrap64 (295 + t645)) (y653.set ((ji10) : Int).toNat ((wrap64 (295 + t645)) % 256)) 0) else (none)) else (none)) = some r := by first | (rw [hji10] at H; exact H) | (simp only [hji10] at H ⊢; exact H)
    (try rw [hji10] at A2)
    (try rw [hji10] at A4)
    (try rw [hji10] at A5)
    have hji10w : (IntKind.i64.wrap ((t650.length : Int) - 1)) = ji10 := (i64_w _).trans hji10
    by_cases c11 : 0 ≤ (ji10)
    ·rw [if_pos c11] at H
     have c11b0 : decide (0 ≤ (ji10)) = true := decide_eq_true c11
     clear c11
     by_cases c12 : (ji10) < (t650.length : Int)
     ·rw [if_pos c12] at H
      have c12b0 : decide ((ji10) < (t650.length : Int)) = true := decide_eq_true c12
      clear c12
      obtain ⟨y654, hy654⟩ : ∃ y_ : List Int, y_ = (y653.set ((ji10) : Int).toNat ((wrap64 (295 + t645)) % 256)) := ⟨_, rfl⟩
      replace H : (hypercubelaw1_RecMany.l0 k (wrap64 (295 + t645)) y654 0) = some r := by first | (rw [hy654]; with_reducible exact H) | (have H2_ := (Option.bind_some _ _).symm.trans H; rw [hy654]; with_reducible exact H2_) | (have H2_ := (Option.bind_some _ _).symm.trans H; with_reducible exact H2_) | with_reducible exact H | (rw [hy654]; exact H) | exact H
      have Ny654 := Aside0.mk hy654
      clear hy654
      have H' := Aside0.mk H
      clear H
      go_enter Try.func8, Try.ntmps8
      go_wp2_with (first | ((with_reducible refine gate_callee (f := 14) rfl ?_); refine goesL_ (some 10) rfl rfl Try.func14 (by kernel_rfl) rfl #[] rfl (by (try simp only [List.map_toArray, List.map_cons, List.map_nil]); first | done | rfl | (simp only [List.length_drop, List.length_take]; rfl)) ?_; (with_reducible refine (hypercubelaw1_known.calls k  true _ A2.out).mono ?_); rintro e w14 ⟨rfl, hb⟩; refine ⟨_, rfl, ?_⟩; have n0_ := Aside0.mk (below_step (by repeat (first | (with_reducible first | exact HB.out | apply below_alloc | apply pw_below_drewN | apply below_drew1) | exact HB.out)) hb); clear HB; have HB := n0_; clear n0_; (try clear hb); (try clear hb2); (try clear hk); (try clear hi)) | ((with_reducible refine gate_callee (f := 21) rfl ?_); refine goesL_ (some 13) rfl rfl Try.func21 (by kernel_rfl) rfl #[.int .i64 a0, .int .i64 12] rfl (by (try simp only [List.map_toArray, List.map_cons, List.map_nil]); first | done | rfl | (simp only [List.length_drop, List.length_take]; rfl)) ?_; (with_reducible refine (hypercubelaw1_within.calls a0 12 t645 _ A4.out).mono ?_); rintro e w' ⟨rfl, ⟨nd, rfl⟩⟩; refine ⟨_, rfl, ?_⟩; (try (rw [drewN_self w14]; generalize hq_ : World.drewN w14 _ = w14; have n0_ : Aside0 (Below w.heap.size w w14) := ⟨by rw [← hq_]; exact (by repeat (first | (with_reducible first | exact HB.out | apply below_alloc | apply pw_below_drewN | apply below_drew1) | exact HB.out))⟩; clear HB hq_; have HB := n0_; clear n0_))) | ((with_reducible refine gate_dst (N := 15) rfl ?_); (try (refine gate_guard (by rfl) ?_; dsimp only)); refine Kd.R_lit (Kd.int .i64) _ 3 ?hg (N := 15) ?hd (xs := ([2] : List Int)) (inner := [.int .i64 2]) (ok := fun _ => True) (okp := fun _ => True) ?hr ?hp (fun _ hk => hk) trivial (Below.refl _ _) (Nat.le_refl _) (by simp) ?_; (case hd => rfl); (case hg => rfl); (case hr => first | (go_simp; done) | (go_simp; rfl)); (case hp => exact (Reps.one (show Kd.M (Kd.int .i64) _ _ _ 2 [.int .i64 2] from rfl) (Reps.none _ _))); intro v647 w15 ho16 hb hg_ hnew_; clear hg_ hnew_; (first | rw [← Ny646.out] at ho16 | (simp only [Int.reduceToNat] at ho16; rw [← Ny646.out] at ho16)); have n0_ := Aside0.mk (Kd.R_lower ho16 (below_size (by repeat (first | (with_reducible first | exact HB.out | apply below_alloc | apply pw_below_drewN | apply below_drew1) | exact HB.out)))); have n1_ := Aside0.mk (below_step (by repeat (first | (with_reducible first | exact HB.out | apply below_alloc | apply pw_below_drewN | apply below_drew1) | exact HB.out)) hb); clear HB; have HO648 := n0_; have HB := n1_; clear n0_ n1_; clear hb ho16; obtain ⟨Ao17, co17, eo17⟩ := Kd.R_slice HO648.out; subst eo17) | ((with_reducible refine gate_dst (N := 4) rfl ?_); (try (refine gate_guard (by rfl) ?_; dsimp only)); refine box_event ?hg (N := 4) ?hd (cs := #[.slice none 0 0, .int .i64 0]) (t := 24) ?hr ?_; (case hd => rfl); (case hg => rfl); (case hr => first | (go_simp; done) | (go_simp; rfl)); intro gb649 hg w18 hbox hb; have n0_ := Aside0.mk (Kd.R_below (by (with_reducible repeat (first | apply Kd.R_alloc | apply Kd.R_drewN | apply Kd.R_drew)); exact HO648.out) hb); have n1_ := Aside0.mk (below_step (by repeat (first | (with_reducible first | exact HB.out | apply below_alloc | apply pw_below_drewN | apply below_drew1) | exact HB.out)) hb); have n2_ := Aside0.mk (hbox); have n3_ := Aside0.mk ((by rw [hg]; exact (below_size (by repeat (first | (with_reducible first | exact HB.out | apply below_alloc | apply pw_below_drewN | apply below_drew1) | exact HB.out))) : w.heap.size ≤ gb649)); have n4_ := Aside0.mk ((by rw [hg]; exact (below_size (by repeat (first | (with_reducible first | exact HB.out | apply below_alloc | apply pw_below_drewN | apply below_drew1) | exact HB.out))) : w.heap.size ≤ gb649)); clear HO648; clear HB; have HO648 := n0_; have HB := n1_; have BK649 := n2_; have GW649 := n3_; have GE649 := n4_; clear n0_ n1_ n2_ n3_ n4_; clear hb hbox hg; have hcz19_0 : w18.cell? ⟨gb649, 0, none⟩ = some (.slice none 0 0) := (blk_cell BK649.out 0).trans rfl; have hcz19_1 : w18.cell? ⟨gb649, 1, none⟩ = some (.int .i64 0) := (blk_cell BK649.out 1).trans rfl; have hfz19_0 := blk_frozen BK649.out 0; have hfz19_1 := blk_frozen BK649.out 1) | ((with_reducible refine gate_callee (f := 24) rfl ?_); refine goesL_ (some 18) rfl rfl Try.func24 (by kernel_rfl) rfl #[.agg #[.slice Ao17 y646.length co17, .int .i64 0], .slice none 0 0] rfl (by (try simp only [List.map_toArray, List.map_cons, List.map_nil]); first | done | rfl | (simp only [List.length_drop, List.length_take]; rfl)) ?_; (refine (hypercuberef1_Encode.calls k _ _ y646 0 _ _ ([] : List (S33)) t650 _ ?side1 ?side2 ?side3 ?side4 A5.out).mono ?_); (case side1 => refine (Kd.R_reads' (e := 3) (base := w.heap.size) (ok := fun k_ => True) (n := y646.length) (c := co17) ?_).2.2; exact (by (with_reducible repeat (first | apply Kd.R_alloc | apply Kd.R_drewN | apply Kd.R_drew)); exact (Kd.R_mono (Kd.R_far (p := ⟨gb649, 1, none⟩) (Kd.R_far (p := ⟨gb649, 0, none⟩) (Kd.R_types HO648.out BK649.out (by decide)) (fun _ hk => hk.2) (.slice Ao17 y646.length co17)) (fun _ hk => hk.2) (.int .i64 0)) (fun _ h_ => h_.1)))); (case side2 => exact (Kd.R_reads' HO648.out).2.1); (case side3 => exact Kd.C_nil _ _); (case side4 => exact Nat.le_refl _); rintro e w20 ⟨v651, rfl, ho0, hb⟩; refine ⟨_, rfl, ?_⟩; have n0_ := Aside0.mk (Kd.R_below (by (with_reducible repeat (first | apply Kd.R_alloc | apply Kd.R_drewN | apply Kd.R_drew)); exact (Kd.R_mono (Kd.R_far (p := ⟨gb649, 1, none⟩) (Kd.R_far (p := ⟨gb649, 0, none⟩) (Kd.R_types HO648.out BK649.out (by decide)) (fun _ hk => hk.2) (.slice Ao17 y646.length co17)) (fun _ hk => hk.2) (.int .i64 0)) (fun _ h_ => h_.1))) hb); have n1_ := Aside0.mk (Kd.R_lower ho0 (below_size (by repeat (first | (with_reducible first | exact HB.out | apply below_alloc | apply pw_below_drewN | apply below_drew1 | refine below_set ?_ GE649.out) | exact HB.out)))); have n2_ := Aside0.mk (blk_below (g := gb649) (o := .cells #[.slice Ao17 y646.length co17, .int .i64 0] 24 (0, 0)) (by (with_reducible repeat (first | refine blk_drewN ?_ _ | refine blk_drew ?_ | refine blk_alloc ?_ _)); refine blk_put (cs := #[.slice Ao17 y646.length co17, .int .i64 0]) ?_ 1 _ rfl; (with_reducible repeat (first | refine blk_drewN ?_ _ | refine blk_drew ?_ | refine blk_alloc ?_ _)); refine blk_put (cs := #[.slice none 0 0, .int .i64 0]) ?_ 0 _ rfl; (with_reducible repeat (first | refine blk_drewN ?_ _ | refine blk_drew ?_ | refine blk_alloc ?_ _)); exact BK649.out) hb); have n3_ := Aside0.mk (below_step (by repeat (first | (with_reducible first | exact HB.out | apply below_alloc | apply pw_below_drewN | apply below_drew1 | refine below_set ?_ GE649.out) | exact HB.out)) hb); clear HO648; clear BK649; clear HB; have HO648 := n0_; have HO652 := n1_; have BK649 := n2_; have HB := n3_; clear n0_ n1_ n2_ n3_; (try clear hb); (try clear hb2); (try clear hk); (try clear hi); (try clear ho0); obtain ⟨Ao21, co21, eo21⟩ := Kd.R_slice HO652.out; subst eo21; have p9 : 0 ≤ ((ji6) : Int) := of_decide_eq_true (by first | (with_reducible assumption) | assumption); have q9 : ((ji6) : Int) < ((t650.length : Int) : Int) := of_decide_eq_true (by first | (with_reducible assumption) | assumption); obtain ⟨go9, co9, eo9, gb9, gl9, cl9, HG9⟩ := Kd.R_form HO652.out (by omega); (first | cases eo9 | (injection eo9 with ea_ en_ ec_; (first | subst ea_ | (injection ea_ with ea_; subst ea_)); subst ec_; clear en_)); have GB9 := Aside0.mk gb9; have GG9 := Aside0.mk HG9; clear gb9 gl9 HG9; obtain ⟨hx9_0, hf9_0⟩ := Kd.R_celln 0 HO652.out ((ji6) : Int) p9 q9; replace p9 := eq_true p9; replace q9 := eq_true q9; obtain ⟨hy22_, hz22_⟩ := Kd.R_celln 0 HO652.out ((ji6) : Int) (of_decide_eq_true (by first | (with_reducible assumption) | assumption)) (of_decide_eq_true (by first | (with_reducible assumption) | assumption)); have HP22 := Kd.R_putg HO652.out ((ji6) : Int) (((wrap64 (295 + t645)) / 256) % 256)) | ((with_reducible refine gate_store (t := 5) (p := 32) rfl ?_); refine store_event (t := 5) (p := 32) (v := ?vo_w23) (w1 := (w20.setCell ⟨go9, ((ji6) : Int).toNat, none⟩ (.int .u8 (((wrap64 (295 + t645)) / 256) % 256)))) ?hg ?ho ?hn ?hr ?_; (case ho => rfl); (case hg => rfl); (case hn => rfl); (case hr => first | (go_simp; done) | (go_simp; rfl)); intro w23 hw; have hg : w20.grownBy w23 (some go9) := (by rw [hw]; exact HP22.2); have hp_ : Kd.R (Kd.int .u8) 5 w23 w.heap.size (fun _ => True) (.slice (some ⟨go9, 0, none⟩) t650.length co21) y653 := (by rw [hw, Ny653.out]; exact HP22.1); clear HP22; have n0_ := Aside0.mk (Kd.R_over' (v := (.slice (some ⟨go9, 0, none⟩) t650.length co21)) (by (with_reducible repeat (first | apply Kd.R_alloc | apply Kd.R_drewN | apply Kd.R_drew)); exact HO648.out) (Kd.R_typed HO652.out) (by decide) hg); have n1_ := Aside0.mk (blk_grown (g := gb649) (o := .cells #[.slice Ao17 y646.length co17, .int .i64 0] 24 (0, 0)) (by (with_reducible repeat (first | refine blk_drewN ?_ _ | refine blk_drew ?_ | refine blk_alloc ?_ _)); exact BK649.out) hg (Kd.R_ne HO652.out BK649.out (by decide))); have n2_ := Aside0.mk (hp_); have n3_ := Aside0.mk ((by rw [hw]; exact below_set (HB.out) GB9.out : Below w.heap.size w w23)); clear HO648; clear BK649; clear HO652; clear HB; have HO648 := n0_; have BK649 := n1_; have HO652 := n2_; have HB := n3_; clear n0_ n1_ n2_ n3_; clear hg hw hp_; have p13 : 0 ≤ ((ji10) : Int) := of_decide_eq_true (by first | (with_reducible assumption) | assumption); have q13 : ((ji10) : Int) < ((t650.length : Int) : Int) := of_decide_eq_true (by first | (with_reducible assumption) | assumption); obtain ⟨hx13_0, hf13_0⟩ := Kd.R_celln 0 HO652.out ((ji10) : Int) p13 q13; replace p13 := eq_true p13; replace q13 := eq_true q13; obtain ⟨hy24_, hz24_⟩ := Kd.R_celln 0 HO652.out ((ji10) : Int) (of_decide_eq_true (by first | (with_reducible assumption) | assumption)) (of_decide_eq_true (by first | (with_reducible assumption) | assumption)); have HP24 := Kd.R_putg HO652.out ((ji10) : Int) ((wrap64 (295 + t645)) % 256)) | ((with_reducible refine gate_store (t := 5) (p := 33) rfl ?_); refine store_event (t := 5) (p := 33) (v := ?vo_w25) (w1 := (w23.setCell ⟨go9, ((ji10) : Int).toNat, none⟩ (.int .u8 ((wrap64 (295 + t645)) % 256)))) ?hg ?ho ?hn ?hr ?_; (case ho => rfl); (case hg => rfl); (case hn => rfl); (case hr => first | (go_simp; done) | (go_simp; rfl)); intro w25 hw; have hg : w23.grownBy w25 (some go9) := (by rw [hw]; exact HP24.2); have hp_ : Kd.R (Kd.int .u8) 5 w25 w.heap.size (fun _ => True) (.slice (some ⟨go9, 0, none⟩) t650.length co21) y654 := (by rw [hw, Ny654.out]; exact HP24.1); clear HP24; have n0_ := Aside0.mk (Kd.R_over' (v := (.slice (some ⟨go9, 0, none⟩) t650.length co21)) (by (with_reducible repeat (first | apply Kd.R_alloc | apply Kd.R_drewN | apply Kd.R_drew)); exact HO648.out) (Kd.R_typed HO652.out) (by decide) hg); have n1_ := Aside0.mk (blk_grown (g := gb649) (o := .cells #[.slice Ao17 y646.length co17, .int .i64 0] 24 (0, 0)) (by (with_reducible repeat (first | refine blk_drewN ?_ _ | refine blk_drew ?_ | refine blk_alloc ?_ _)); exact BK649.out) hg (Kd.R_ne HO652.out BK649.out (by decide))); have n2_ := Aside0.mk (hp_); have n3_ := Aside0.mk ((by rw [hw]; exact below_set (HB.out) GB9.out : Below w.heap.size w w25)); clear HO648; clear BK649; clear HO652; clear HB; have HO648 := n0_; have BK649 := n1_; have HO652 := n2_; have HB := n3_; clear n0_ n1_ n2_ n3_; clear hg hw hp_))
      go_loopg [5, 6] k (fun kq v5 v6 w' => ∃ (x5_1 : List Int) (x6_1 : Int), v6 = .int .i64 x6_1 ∧ Aside0 (hypercubelaw1_RecMany.l0 kq (wrap64 (295 + t645)) x5_1 x6_1 = some r) ∧ Aside0 (kq ≤ k) ∧ Aside0 (Kd.R (Kd.int .u8) 5 w' w.heap.size (fun _ => True) v5 x5_1) ∧ Aside0 (Kd.R (Kd.int .i64) 3 w' w.heap.size (fun _ => True) (.slice Ao17 y646.length co17) y646) ∧ Aside0 (w'.heap[gb649]? = some (.cells #[(.slice Ao17 y646.length co17), .int .i64 0] 24 (0, 0))) ∧ Aside0 (Below w.heap.size w w'))
      case atStart => exact ⟨(y654), (0), (by first | rfl | (simp; done) | (simp [*]; done)), H', ⟨Nat.le_refl _⟩, ⟨by (with_reducible repeat (first | apply Kd.R_alloc | apply Kd.R_drewN | apply Kd.R_drew)); exact HO652.out⟩, ⟨by (with_reducible repeat (first | apply Kd.R_alloc | apply Kd.R_drewN | apply Kd.R_drew)); exact HO648.out⟩, ⟨by (with_reducible repeat (first | refine blk_drewN ?_ _ | refine blk_drew ?_ | refine blk_alloc ?_ _)); exact BK649.out⟩, ⟨by repeat (first | (with_reducible first | exact HB.out | apply below_alloc | apply pw_below_drewN | apply below_drew1 | refine below_set ?_ GE649.out) | exact HB.out)⟩⟩
      case round =>
       clear H'
       try clear c1
       try clear p1
       try clear q1
       try clear hx1
       try clear hf1
       try clear c2
       try clear p2
       try clear c3
       try clear p6
       try clear c7
       try clear c7b0
       try clear c8
       try clear c8b0
       try clear p9
       try clear q9
       try clear hx9
       try clear hf9
       try clear c11
       try clear c11b0
       try clear c12
       try clear c12b0
       try clear p13
       try clear q13
       try clear hx13
       try clear hf13
       try clear c14
       try clear c21
       try clear c24
       try clear hcz19_0
       try clear hcz19_1
       try clear hfz19_0
       try clear hfz19_1
       try clear hx13_0
       try clear hx9_0
       try clear p13
       try clear p9
       try clear q13
       try clear q9
       obtain ⟨x5_1, x6_1, rfl, HA, HK1, HO_5, HO_650000, BK649, HB⟩ := hrel
       cases gk with
       | zero => exact absurd HA.out (by simp [hypercubelaw1_RecMany.l0])
       | succ k1 =>
        have H := HA.out
        clear HA
        simp only [hypercubelaw1_RecMany.l0] at H
        by_cases c26 : x6_1 < (wrap64 (295 + t645))
        ·rw [if_pos c26] at H
         have c26b0 : decide (x6_1 < (wrap64 (295 + t645))) = true := decide_eq_true c26
         clear c26
         by_cases c27 : x5_1.length < 140737488355328
         ·rw [if_pos c27] at H
          have LMc27 := Aside0.mk c27
          clear c27
          obtain ⟨y655, hy655⟩ : ∃ y_ : List Int, y_ = (x5_1 ++ [(Int.tmod x6_1 2) % 256]) := ⟨_, rfl⟩
          replace H : (hypercubelaw1_RecMany.l0 k1 (wrap64 (295 + t645)) y655 (wrap64 (x6_1 + 1))) = some r := by first | (rw [hy655]; with_reducible exact H) | (have H2_ := (Option.bind_some _ _).symm.trans H; rw [hy655]; with_reducible exact H2_) | (have H2_ := (Option.bind_some _ _).symm.trans H; with_reducible exact H2_) | with_reducible exact H | (rw [hy655]; exact H) | exact H
          have Ny655 := Aside0.mk hy655
          clear hy655
          have H' := Aside0.mk H
          clear H
          go_wp2_with (first | ((with_reducible refine gate_builtin (b := .append) (xs := #[.tmp 39, .tmp 43]) rfl ?_); (try (refine gate_guard (by rfl) ?_; dsimp only)); at_builtin; refine Kd.R_append (Kd.int .u8) (w0 := w) w.heap.size rfl (.tmp 39) (.tmp 43) 36 5 (.int .u8 0) 1 rfl Try.underlying36 info5 rfl (by decide) (by omega) u5 x5_1 ((Int.tmod x6_1 2) % 256) [.int .u8 ((Int.tmod x6_1 2) % 256)] (fun _ => True) (fun _ => False) rfl rfl ?aP (fun _ hk => hk.elim) ?aF ?aO ?aB ?aS ?aL ?_; (case aP => exact rfl); (case aB => exact (by repeat (first | (with_reducible first | exact HB.out | apply below_alloc | apply pw_below_drewN | apply below_drew1 | refine below_set ?_ GE649.out) | exact HB.out))); (case aF => exact (fun _ _ => trivial)); (case aO => exact (by (with_reducible repeat (first | apply Kd.R_alloc | apply Kd.R_drewN | apply Kd.R_drew)); exact HO_5.out)); (case aS => exact (below_size (by repeat (first | (with_reducible first | exact HB.out | apply below_alloc | apply pw_below_drewN | apply below_drew1 | refine below_set ?_ GE649.out) | exact HB.out)))); (case aL => have := LMc27.out; omega); intro v656 w28 ho hb hg hat; rw [← Ny655.out] at ho; have n0_ := Aside0.mk (Kd.R_over' (by (with_reducible repeat (first | apply Kd.R_alloc | apply Kd.R_drewN | apply Kd.R_drew)); exact HO_650000.out) (Kd.R_typed (by (with_reducible repeat (first | apply Kd.R_alloc | apply Kd.R_drewN | apply Kd.R_drew)); exact HO_5.out)) (by decide) hg); have n1_ := Aside0.mk (blk_grown (g := gb649) (o := .cells #[.slice Ao17 y646.length co17, .int .i64 0] 24 (0, 0)) (by (with_reducible repeat (first | refine blk_drewN ?_ _ | refine blk_drew ?_ | refine blk_alloc ?_ _)); exact BK649.out) hg (Kd.R_ne HO_5.out BK649.out (by decide))); have n2_ := Aside0.mk (hb); have n3_ := Aside0.mk (ho); clear HO_650000; clear BK649; clear HB; clear HO_5; have HO_650000 := n0_; have BK649 := n1_; have HB := n2_; have HO657 := n3_; clear n0_ n1_ n2_ n3_; clear ho hb hg hat))
          go_roundg k1
          case measure => have := HK1.out; omega
          case rel => exact ⟨(y655), (wrap64 (x6_1 + 1)), (by first | rfl | (simp; done) | (simp [*]; done)), H', ⟨by have := HK1.out; omega⟩, ⟨by (with_reducible repeat (first | apply Kd.R_alloc | apply Kd.R_drewN | apply Kd.R_drew)); exact HO657.out⟩, ⟨by (with_reducible repeat (first | apply Kd.R_alloc | apply Kd.R_drewN | apply Kd.R_drew)); exact HO_650000.out⟩, ⟨by (with_reducible repeat (first | refine blk_drewN ?_ _ | refine blk_drew ?_ | refine blk_alloc ?_ _)); exact BK649.out⟩, ⟨by repeat (first | (with_reducible first | exact HB.out | apply below_alloc | apply pw_below_drewN | apply below_drew1 | refine below_set ?_ GE649.out) | exact HB.out)⟩⟩
         ·rw [if_neg c27] at H
          exact absurd H (by simp)
        ·rw [if_neg c26] at H
         have c26b0 : decide (x6_1 < (wrap64 (295 + t645))) = false := decide_eq_false c26
         clear c26
         replace H := Option.bind_eq_some_iff.mp H
         obtain ⟨⟨t658, t661, t662, t665⟩, A290, H⟩ := H
         replace H : (if (wrap64 (295 + t645)) > 300 then (if t665 = 1 then (some ((t662.length : Int) == 0)) else (none)) else (if t665 = 0 then (some ((t662.length : Int) == (wrap64 (295 + t645)))) else (none))) = some r := H
         have A29 := Aside0.mk A290
         clear A290
         by_cases c30 : (wrap64 (295 + t645)) > 300
         ·rw [if_pos c30] at H
          have c30b0 : decide (300 < (wrap64 (295 + t645))) = true := decide_eq_true c30
          clear c30
          by_cases c31 : t665 = 1
          ·rw [if_pos c31] at H
           have c31b0 : (t665 == 1) = true := beq_iff_eq.mpr c31
           have c31b1 : (t665 != 1) = false := bne_eq_false_iff_eq.mpr c31
           clear c31
           obtain rfl := Option.some.inj H
           obtain ⟨Ao32, co32, eo32⟩ := Kd.R_slice HO_5.out
           subst eo32
           go_wp2_with (first | ((with_reducible refine gate_callee (f := 23) rfl ?_); refine goesL_ (some 47) rfl rfl Try.func23 (by kernel_rfl) rfl #[.slice Ao32 x5_1.length co32] rfl (by (try simp only [List.map_toArray, List.map_cons, List.map_nil]); first | done | rfl | (simp only [List.length_drop, List.length_take]; rfl)) ?_; (with_reducible refine (rec_Decode.calls _ _ x5_1 t658 t661 t662 t665 _ ?side1 ?side2 A29.out).mono ?_); (case side1 => repeat (first | exact (Kd.R_reads' HO_5.out).2.2 | (with_reducible refine Kd.C_alloc ?_ _) | (with_reducible refine Kd.C_drewN ?_ _) | (with_reducible refine Kd.C_drew ?_))); (case side2 => exact (Kd.R_reads' HO_5.out).2.1); rintro e w33 ⟨v659, v663, rfl, ho0, ho1, hb⟩; refine ⟨_, rfl, ?_⟩; have n0_ := Aside0.mk (Kd.R_below (by (with_reducible repeat (first | apply Kd.R_alloc | apply Kd.R_drewN | apply Kd.R_drew)); exact HO_5.out) hb); have n1_ := Aside0.mk (Kd.R_elder' (by (with_reducible repeat (first | apply Kd.R_alloc | apply Kd.R_drewN | apply Kd.R_drew)); exact HO_650000.out) (Kd.R_base ho0) hb); have n2_ := Aside0.mk (Kd.R_lower (Kd.R_new' ho0 (Kd.R_lt (by (with_reducible repeat (first | apply Kd.R_alloc | apply Kd.R_drewN | apply Kd.R_drew)); exact HO_650000.out))) (below_size (by repeat (first | (with_reducible first | exact HB.out | apply below_alloc | apply pw_below_drewN | apply below_drew1 | refine below_set ?_ GE649.out) | exact HB.out)))); have n3_ := Aside0.mk (Kd.S_lower (Kd.S_new' ho1 (Kd.R_lt (by (with_reducible repeat (first | apply Kd.R_alloc | apply Kd.R_drewN | apply Kd.R_drew)); exact HO_650000.out))) (below_size (by repeat (first | (with_reducible first | exact HB.out | apply below_alloc | apply pw_below_drewN | apply below_drew1 | refine below_set ?_ GE649.out) | exact HB.out)))); have n4_ := Aside0.mk (blk_below (g := gb649) (o := .cells #[.slice Ao17 y646.length co17, .int .i64 0] 24 (0, 0)) (by (with_reducible repeat (first | refine blk_drewN ?_ _ | refine blk_drew ?_ | refine blk_alloc ?_ _)); exact BK649.out) hb); have n5_ := Aside0.mk (below_step (by repeat (first | (with_reducible first | exact HB.out | apply below_alloc | apply pw_below_drewN | apply below_drew1 | refine below_set ?_ GE649.out) | exact HB.out)) hb); clear HO_5; clear HO_650000; clear BK649; clear HB; have HO_5 := n0_; have HO_650000 := n1_; have HO660 := n2_; have HO664 := n3_; have BK649 := n4_; have HB := n5_; clear n0_ n1_ n2_ n3_ n4_ n5_; (try clear hb); (try clear hb2); (try clear hk); (try clear hi); (try clear ho0); (try clear ho1)) | ((with_reducible refine gate_dst (N := 7) rfl ?_); (try (refine gate_guard (by rfl) ?_; dsimp only)); refine box_event ?hg (N := 7) ?hd (cs := #[.slice none 0 0, .int .i64 0]) (t := 24) ?hr ?_; (case hd => rfl); (case hg => rfl); (case hr => first | (go_simp; done) | (go_simp; rfl)); intro gb666 hg w34 hbox hb; have n0_ := Aside0.mk (Kd.R_below (by (with_reducible repeat (first | apply Kd.R_alloc | apply Kd.R_drewN | apply Kd.R_drew)); exact HO_5.out) hb); have n1_ := Aside0.mk (Kd.R_below (by (with_reducible repeat (first | apply Kd.R_alloc | apply Kd.R_drewN | apply Kd.R_drew)); exact HO_650000.out) hb); have n2_ := Aside0.mk (Kd.R_below (by (with_reducible repeat (first | apply Kd.R_alloc | apply Kd.R_drewN | apply Kd.R_drew)); exact HO660.out) hb); have n3_ := Aside0.mk (Kd.S_below (by (with_reducible repeat (first | apply Kd.S_alloc | apply Kd.S_drewN | apply Kd.S_drew)); exact HO664.out) hb); have n4_ := Aside0.mk (blk_below (g := gb649) (o := .cells #[.slice Ao17 y646.length co17, .int .i64 0] 24 (0, 0)) (by (with_reducible repeat (first | refine blk_drewN ?_ _ | refine blk_drew ?_ | refine blk_alloc ?_ _)); exact BK649.out) hb); have n5_ := Aside0.mk (below_step (by repeat (first | (with_reducible first | exact HB.out | apply below_alloc | apply pw_below_drewN | apply below_drew1 | refine below_set ?_ GE649.out) | exact HB.out)) hb); have n6_ := Aside0.mk (hbox); have n7_ := Aside0.mk ((by rw [hg]; exact (below_size (by repeat (first | (with_reducible first | exact HB.out | apply below_alloc | apply pw_below_drewN | apply below_drew1 | refine below_set ?_ GE649.out) | exact HB.out))) : w.heap.size ≤ gb666)); have n8_ := Aside0.mk ((by rw [hg]; exact (below_size (by repeat (first | (with_reducible first | exact HB.out | apply below_alloc | apply pw_below_drewN | apply below_drew1 | refine below_set ?_ GE649.out) | exact HB.out))) : w.heap.size ≤ gb666)); have n9_ := Aside0.mk ((by rw [hg]; exact Nat.ne_of_lt (blk_lt (g := gb649) (o := .cells #[.slice Ao17 y646.length co17, .int .i64 0] 24 (0, 0)) (by (with_reducible repeat (first | refine blk_drewN ?_ _ | refine blk_drew ?_ | refine blk_alloc ?_ _)); exact BK649.out)) : gb649 ≠ gb666)); have n10_ := Aside0.mk ((by rw [hg]; exact Nat.ne_of_gt (blk_lt (g := gb649) (o := .cells #[.slice Ao17 y646.length co17, .int .i64 0] 24 (0, 0)) (by (with_reducible repeat (first | refine blk_drewN ?_ _ | refine blk_drew ?_ | refine blk_alloc ?_ _)); exact BK649.out)) : gb666 ≠ gb649)); clear HO_5; clear HO_650000; clear HO660; clear HO664; clear BK649; clear HB; have HO_5 := n0_; have HO_650000 := n1_; have HO660 := n2_; have HO664 := n3_; have BK649 := n4_; have HB := n5_; have BK666 := n6_; have GW666 := n7_; have GE666 := n8_; have NB649_666 := n9_; have NB666_649 := n10_; clear n0_ n1_ n2_ n3_ n4_ n5_ n6_ n7_ n8_ n9_ n10_; clear hb hbox hg; obtain ⟨Ao35, co35, eo35⟩ := Kd.R_slice HO660.out; subst eo35; have hnb36 := NB666_649.out; have hnc36 := NB649_666.out; have hcz37_0 : w34.cell? ⟨gb666, 0, none⟩ = some (.slice none 0 0) := (blk_cell BK666.out 0).trans rfl; have hcz37_1 : w34.cell? ⟨gb666, 1, none⟩ = some (.int .i64 0) := (blk_cell BK666.out 1).trans rfl; have hfz37_0 := blk_frozen BK666.out 0; have hfz37_1 := blk_frozen BK666.out 1; obtain ⟨Ao38, co38, eo38⟩ := Kd.S_slice HO664.out; subst eo38))
           go_ret
           exact ⟨by first | rfl | (simp [errW_none, errW_some] <;> rfl) | (simp only [← hji6, ← hji10]; first | rfl | (simp [errW_none, errW_some] <;> rfl)) | (simp [*, errW_none, errW_some] <;> rfl), by repeat (first | (with_reducible first | exact HB.out | apply below_alloc | apply pw_below_drewN | apply below_drew1 | refine below_set ?_ GE649.out | refine below_set ?_ GE666.out) | exact HB.out)⟩
          ·rw [if_neg c31] at H
           exact absurd H (by simp)
         ·rw [if_neg c30] at H
          have c30b0 : decide (300 < (wrap64 (295 + t645))) = false := decide_eq_false c30
          clear c30
          by_cases c39 : t665 = 0
          ·rw [if_pos c39] at H
           have c39b0 : (t665 == 0) = true := beq_iff_eq.mpr c39
           have c39b1 : (t665 != 0) = false := bne_eq_false_iff_eq.mpr c39
           clear c39
           obtain rfl := Option.some.inj H
           obtain ⟨Ao40, co40, eo40⟩ := Kd.R_slice HO_5.out
           subst eo40
           go_wp2_with (first | ((with_reducible refine gate_callee (f := 23) rfl ?_); refine goesL_ (some 47) rfl rfl Try.func23 (by kernel_rfl) rfl #[.slice Ao40 x5_1.length co40] rfl (by (try simp only [List.map_toArray, List.map_cons, List.map_nil]); first | done | rfl | (simp only [List.length_drop, List.length_take]; rfl)) ?_; (with_reducible refine (rec_Decode.calls _ _ x5_1 t658 t661 t662 t665 _ ?side1 ?side2 A29.out).mono ?_); (case side1 => repeat (first | exact (Kd.R_reads' HO_5.out).2.2 | (with_reducible refine Kd.C_alloc ?_ _) | (with_reducible refine Kd.C_drewN ?_ _) | (with_reducible refine Kd.C_drew ?_))); (case side2 => exact (Kd.R_reads' HO_5.out).2.1); rintro e w41 ⟨v659, v663, rfl, ho0, ho1, hb⟩; refine ⟨_, rfl, ?_⟩; have n0_ := Aside0.mk (Kd.R_below (by (with_reducible repeat (first | apply Kd.R_alloc | apply Kd.R_drewN | apply Kd.R_drew)); exact HO_5.out) hb); have n1_ := Aside0.mk (Kd.R_elder' (by (with_reducible repeat (first | apply Kd.R_alloc | apply Kd.R_drewN | apply Kd.R_drew)); exact HO_650000.out) (Kd.R_base ho0) hb); have n2_ := Aside0.mk (Kd.R_lower (Kd.R_new' ho0 (Kd.R_lt (by (with_reducible repeat (first | apply Kd.R_alloc | apply Kd.R_drewN | apply Kd.R_drew)); exact HO_650000.out))) (below_size (by repeat (first | (with_reducible first | exact HB.out | apply below_alloc | apply pw_below_drewN | apply below_drew1 | refine below_set ?_ GE649.out) | exact HB.out)))); have n3_ := Aside0.mk (Kd.S_lower (Kd.S_new' ho1 (Kd.R_lt (by (with_reducible repeat (first | apply Kd.R_alloc | apply Kd.R_drewN | apply Kd.R_drew)); exact HO_650000.out))) (below_size (by repeat (first | (with_reducible first | exact HB.out | apply below_alloc | apply pw_below_drewN | apply below_drew1 | refine below_set ?_ GE649.out) | exact HB.out)))); have n4_ := Aside0.mk (blk_below (g := gb649) (o := .cells #[.slice Ao17 y646.length co17, .int .i64 0] 24 (0, 0)) (by (with_reducible repeat (first | refine blk_drewN ?_ _ | refine blk_drew ?_ | refine blk_alloc ?_ _)); exact BK649.out) hb); have n5_ := Aside0.mk (below_step (by repeat (first | (with_reducible first | exact HB.out | apply below_alloc | apply pw_below_drewN | apply below_drew1 | refine below_set ?_ GE649.out) | exact HB.out)) hb); clear HO_5; clear HO_650000; clear BK649; clear HB; have HO_5 := n0_; have HO_650000 := n1_; have HO660 := n2_; have HO664 := n3_; have BK649 := n4_; have HB := n5_; clear n0_ n1_ n2_ n3_ n4_ n5_; (try clear hb); (try clear hb2); (try clear hk); (try clear hi); (try clear ho0); (try clear ho1)) | ((with_reducible refine gate_dst (N := 7) rfl ?_); (try (refine gate_guard (by rfl) ?_; dsimp only)); refine box_event ?hg (N := 7) ?hd (cs := #[.slice none 0 0, .int .i64 0]) (t := 24) ?hr ?_; (case hd => rfl); (case hg => rfl); (case hr => first | (go_simp; done) | (go_simp; rfl)); intro gb666 hg w42 hbox hb; have n0_ := Aside0.mk (Kd.R_below (by (with_reducible repeat (first | apply Kd.R_alloc | apply Kd.R_drewN | apply Kd.R_drew)); exact HO_5.out) hb); have n1_ := Aside0.mk (Kd.R_below (by (with_reducible repeat (first | apply Kd.R_alloc | apply Kd.R_drewN | apply Kd.R_drew)); exact HO_650000.out) hb); have n2_ := Aside0.mk (Kd.R_below (by (with_reducible repeat (first | apply Kd.R_alloc | apply Kd.R_drewN | apply Kd.R_drew)); exact HO660.out) hb); have n3_ := Aside0.mk (Kd.S_below (by (with_reducible repeat (first | apply Kd.S_alloc | apply Kd.S_drewN | apply Kd.S_drew)); exact HO664.out) hb); have n4_ := Aside0.mk (blk_below (g := gb649) (o := .cells #[.slice Ao17 y646.length co17, .int .i64 0] 24 (0, 0)) (by (with_reducible repeat (first | refine blk_drewN ?_ _ | refine blk_drew ?_ | refine blk_alloc ?_ _)); exact BK649.out) hb); have n5_ := Aside0.mk (below_step (by repeat (first | (with_reducible first | exact HB.out | apply below_alloc | apply pw_below_drewN | apply below_drew1 | refine below_set ?_ GE649.out) | exact HB.out)) hb); have n6_ := Aside0.mk (hbox); have n7_ := Aside0.mk ((by rw [hg]; exact (below_size (by repeat (first | (with_reducible first | exact HB.out | apply below_alloc | apply pw_below_drewN | apply below_drew1 | refine below_set ?_ GE649.out) | exact HB.out))) : w.heap.size ≤ gb666)); have n8_ := Aside0.mk ((by rw [hg]; exact (below_size (by repeat (first | (with_reducible first | exact HB.out | apply below_alloc | apply pw_below_drewN | apply below_drew1 | refine below_set ?_ GE649.out) | exact HB.out))) : w.heap.size ≤ gb666)); have n9_ := Aside0.mk ((by rw [hg]; exact Nat.ne_of_lt (blk_lt (g := gb649) (o := .cells #[.slice Ao17 y646.length co17, .int .i64 0] 24 (0, 0)) (by (with_reducible repeat (first | refine blk_drewN ?_ _ | refine blk_drew ?_ | refine blk_alloc ?_ _)); exact BK649.out)) : gb649 ≠ gb666)); have n10_ := Aside0.mk ((by rw [hg]; exact Nat.ne_of_gt (blk_lt (g := gb649) (o := .cells #[.slice Ao17 y646.length co17, .int .i64 0] 24 (0, 0)) (by (with_reducible repeat (first | refine blk_drewN ?_ _ | refine blk_drew ?_ | refine blk_alloc ?_ _)); exact BK649.out)) : gb666 ≠ gb649)); clear HO_5; clear HO_650000; clear HO660; clear HO664; clear BK649; clear HB; have HO_5 := n0_; have HO_650000 := n1_; have HO660 := n2_; have HO664 := n3_; have BK649 := n4_; have HB := n5_; have BK666 := n6_; have GW666 := n7_; have GE666 := n8_; have NB649_666 := n9_; have NB666_649 := n10_; clear n0_ n1_ n2_ n3_ n4_ n5_ n6_ n7_ n8_ n9_ n10_; clear hb hbox hg; obtain ⟨Ao43, co43, eo43⟩ := Kd.R_slice HO660.out; subst eo43; have hnb44 := NB666_649.out; have hnc44 := NB649_666.out; have hcz45_0 : w42.cell? ⟨gb666, 0, none⟩ = some (.slice none 0 0) := (blk_cell BK666.out 0).trans rfl; have hcz45_1 : w42.cell? ⟨gb666, 1, none⟩ = some (.int .i64 0) := (blk_cell BK666.out 1).trans rfl; have hfz45_0 := blk_frozen BK666.out 0; have hfz45_1 := blk_frozen BK666.out 1; obtain ⟨Ao46, co46, eo46⟩ := Kd.S_slice HO664.out; subst eo46))
           go_ret
           exact ⟨by first | rfl | (simp [errW_none, errW_some] <;> rfl) | (simp only [← hji6, ← hji10]; first | rfl | (simp [errW_none, errW_some] <;> rfl)) | (simp [*, errW_none, errW_some] <;> rfl), by repeat (first | (with_reducible first | exact HB.out | apply below_alloc | apply pw_below_drewN | apply below_drew1 | refine below_set ?_ GE649.out | refine below_set ?_ GE666.out) | exact HB.out)⟩
          ·rw [if_neg c39] at H
           exact absurd H (by simp)
     ·rw [if_neg c12] at H
      exact absurd H (by simp)
    ·rw [if_neg c11] at H
     exact absurd H (by simp)
   ·rw [if_neg c8] at H
    exact absurd H (by simp)
  ·rw [if_neg c7] at H
   exact absurd H (by simp)
 ·replace c3 := Bool.eq_false_iff.mpr c3
  subst c3
  have H1 : (none) = some r := by rw [if_neg (show ¬ (false = true) by decide)] at H; exact H
  clear H
  have H := H1
  clear H1
  exact absurd H (by simp)

/-- THE ONE PURE STATEMENT of hypercubelaw1_RecMany: yours. -/
def hypercubelaw1_RecMany.Pure : Prop := ∀ (a0 : Int), (Lit.int .i64 a0).wf = true → ∃ k, hypercubelaw1_RecMany.f k a0 = some true
theorem hypercubelaw1_RecMany.walk (P : hypercubelaw1_RecMany.Pure) (a0 : Int) (w : World) (w0 : (Lit.int .i64 a0).wf = true) :
  Calls Try.prog 8 #[.int .i64 a0] w fun e w' => e = .returned (.bool true) ∧ Below w.heap.size w w' := by
 obtain ⟨k, h⟩ := P a0 w0
 refine (hypercubelaw1_RecMany.calls k a0 true w h).mono ?_
 rintro e w' ⟨rfl, hd⟩
 exact ⟨rfl, hd⟩

/-! ### hypercubelaw1_RecSize: function 11 -/
def hypercubelaw1_RecSize.f (k : Nat) (a0 : Int) (l1 : List Int) (a2 : Int) (l3 : List Int) : Option (Bool) := (hypercubelaw1_known.f k).bind fun t765 => (if t765 = true then ((hypercubelaw1_Facts.f k a0 l1 a2 l3).bind fun bt766 => ((rec_Encode.f k bt766.1 bt766.2.1 bt766.2.2).bind fun t774 => (some ((t774.length : Int) == (wrap64 ((wrap64 (8 + (bt766.1.length : Int))) + (wrap64 ((bt766.2.2.length : Int) * (wrap64 ((bt766.1.length : Int) + (wrap64 (8 * bt766.2.1)))))))))))) else (none))
theorem hypercubelaw1_RecSize.mono : ∀ a0 a1 a2 a3 k, LeO (hypercubelaw1_RecSize.f k a0 a1 a2 a3) (hypercubelaw1_RecSize.f (k + 1) a0 a1 a2 a3) := by
 intro a0 a1 a2 a3 k
 unfold hypercubelaw1_RecSize.f
 repeat' first
   | (with_reducible exact hypercubelaw1_Facts.mono _ _ _ _ _)
   | (with_reducible exact hypercubelaw1_known.mono _)
   | (with_reducible exact rec_Encode.mono _ _ _ _)
   | (with_reducible exact LeO.refl _)
   | (with_reducible exact LeO.none _)
   | (with_reducible refine LeO.ite ?_ ?_)
   | (with_reducible refine LeO.bind ?_ (fun _ => ?_))
   | exact hypercubelaw1_Facts.mono _ _ _ _ _
   | exact hypercubelaw1_known.mono _
   | exact rec_Encode.mono _ _ _ _
   | exact LeO.none _
   | refine LeO.ite ?_ ?_
   | refine LeO.bind ?_ (fun _ => ?_)
def hypercubelaw1_RecSize.T5 : Bool × List (List Nat × List Nat) := (true, [([], []), ([], []), ([0, 1], [0, 1]), ([2], [2]), ([], []), ([4], [4]), ([], []), ([6], [6]), ([], []), ([], []), ([9], [9]), ([10], [10]), ([8, 11], [8, 11]), ([7, 12], [7, 12]), ([5, 13], [5, 13]), ([3, 14], [3, 14]), ([15, 2, 0, 1, 2, 3, 4, 5, 6, 7, 8, 9, 10, 11, 12, 13, 14, 15], [15])])
def hypercubelaw1_RecSize.B5 : List Nat := [0, 0, 3, 7, 0, 16, 0, 64, 0, 0, 512, 1536, 3840, 8128, 16368, 32767, 65535]
theorem hypercubelaw1_RecSize.tab5 : rtab .any (opsOf Try.f11 5) = hypercubelaw1_RecSize.T5 := by kernel_rfl
theorem hypercubelaw1_RecSize.bits5 : waitsOk hypercubelaw1_RecSize.T5.2 hypercubelaw1_RecSize.B5 = true := by kernel_rfl
set_option maxHeartbeats 8000000 in
set_option maxRecDepth 100000 in
theorem hypercubelaw1_RecSize.calls (k : Nat) (a0 : Int) (A1 : Option Addr) (c1 : Nat) (l1 : List Int) (a2 : Int) (A3 : Option Addr) (c3 : Nat) (l3 : List Int) (r : Bool) (w : World) (hr1 : Kd.C (Kd.int .i64) w A1 l1.length l1) (hc1 : l1.length ≤ c1) (hr3 : Kd.C (Kd.int .i64) w A3 l3.length l3) (hc3 : l3.length ≤ c3) (h : hypercubelaw1_RecSize.f k a0 l1 a2 l3 = some r) :
  Calls Try.prog 11 #[.int .i64 a0, .slice A1 l1.length c1, .int .i64 a2, .slice A3 l3.length c3] w fun e w' => e = .returned (.bool r) ∧ Below w.heap.size w w' := by
 have hu24 := Try.underlying24
 have HR1 := Aside0.mk hr1
 have HC1 := Aside0.mk hc1
 clear hr1 hc1
 have HR3 := Aside0.mk hr3
 have HC3 := Aside0.mk hc3
 clear hr3 hc3
 have HB := Aside0.mk (Below.refl w.heap.size w)
 have H : ((hypercubelaw1_known.f k).bind fun t765 => (if t765 = true then ((hypercubelaw1_Facts.f k a0 l1 a2 l3).bind fun bt766 => ((rec_Encode.f k bt766.1 bt766.2.1 bt766.2.2).bind fun t774 => (some ((t774.length : Int) == (wrap64 ((wrap64 (8 + (bt766.1.length : Int))) + (wrap64 ((bt766.2.2.length : Int) * (wrap64 ((bt766.1.length : Int) + (wrap64 (8 * bt766.2.1)))))))))))) else (none))) = some r := h
 clear h
 replace H := Option.bind_eq_some_iff.mp H
 obtain ⟨t765, A50, H⟩ := H
 replace H : (if t765 = true then ((hypercubelaw1_Facts.f k a0 l1 a2 l3).bind fun bt766 => ((rec_Encode.f k bt766.1 bt766.2.1 bt766.2.2).bind fun t774 => (some ((t774.length : Int) == (wrap64 ((wrap64 (8 + (bt766.1.length : Int))) + (wrap64 ((bt766.2.2.length : Int) * (wrap64 ((bt766.1.length : Int) + (wrap64 (8 * bt766.2.1)))))))))))) else (none)) = some r := H
 have A5 := Aside0.mk A50
 clear A50
 by_cases c6 : t765 = true
 ·subst c6
  have H1 : ((hypercubelaw1_Facts.f k a0 l1 a2 l3).bind fun bt766 => ((rec_Encode.f k bt766.1 bt766.2.1 bt766.2.2).bind fun t774 => (some ((t774.length : Int) == (wrap64 ((wrap64 (8 + (bt766.1.length : Int))) + (wrap64 ((bt766.2.2.length : Int) * (wrap64 ((bt766.1.length : Int) + (wrap64 (8 * bt766.2.1)))))))))))) = some r := by rw [if_pos rfl] at H; exact H
  clear H
  have H := H1
  clear H1
  replace H := Option.bind_eq_some_iff.mp H
  obtain ⟨⟨t766, t769, t770⟩, A70, H⟩ := H
  replace H : ((rec_Encode.f k t766 t769 t770).bind fun t774 => (some ((t774.length : Int) == (wrap64 ((wrap64 (8 + (t766.length : Int))) + (wrap64 ((t770.length : Int) * (wrap64 ((t766.length : Int) + (wrap64 (8 * t769))))))))))) = some r := H
  have A7 := Aside0.mk A70
  clear A70
  replace H := Option.bind_eq_some_iff.mp H
  obtain ⟨t774, A80, H⟩ := H
  replace H : (some ((t774.length : Int) == (wrap64 ((wrap64 (8 + (t766.length : Int))) + (wrap64 ((t770.length : Int) * (wrap64 ((t766.length : Int) + (wrap64 (8 * t769)))))))))) = some r := H
  have A8 := Aside0.mk A80
  clear A80
  obtain rfl := Option.some.inj H
  go_enter Try.func11, Try.ntmps11
  try go_wp2_with (first | ((with_reducible refine gate_callee (f := 14) rfl ?_); refine goesL_ (some 12) rfl rfl Try.func14 (by kernel_rfl) rfl #[] rfl (by (try simp only [List.map_toArray, List.map_cons, List.map_nil]); first | done | rfl | (simp only [List.length_drop, List.length_take]; rfl)) ?_; (with_reducible refine (hypercubelaw1_known.calls k  true _ A5.out).mono ?_); rintro e w9 ⟨rfl, hb⟩; refine ⟨_, rfl, ?_⟩; have n0_ := Aside0.mk (below_step (by repeat (first | (with_reducible first | exact HB.out | apply below_alloc | apply pw_below_drewN | apply below_drew1) | exact HB.out)) hb); clear HB; have HB := n0_; clear n0_; (try clear hb); (try clear hb2); (try clear hk); (try clear hi)) | ((with_reducible refine gate_callee (f := 16) rfl ?_); refine goesL_ (some 19) rfl rfl Try.func16 (by kernel_rfl) rfl #[.int .i64 a0, .slice A1 l1.length c1, .int .i64 a2, .slice A3 l3.length c3] rfl (by (try simp only [List.map_toArray, List.map_cons, List.map_nil]); first | done | rfl | (simp only [List.length_drop, List.length_take]; rfl)) ?_; (with_reducible refine (hypercubelaw1_Facts.calls k a0 _ _ l1 a2 _ _ l3 t766 t769 t770 _ ?side1 ?side2 ?side3 ?side4 A7.out).mono ?_); (case side1 => repeat (first | exact (Kd.C_below HR1.out HB.out) | (with_reducible refine Kd.C_alloc ?_ _) | (with_reducible refine Kd.C_drewN ?_ _) | (with_reducible refine Kd.C_drew ?_))); (case side2 => exact HC1.out); (case side3 => repeat (first | exact (Kd.C_below HR3.out HB.out) | (with_reducible refine Kd.C_alloc ?_ _) | (with_reducible refine Kd.C_drewN ?_ _) | (with_reducible refine Kd.C_drew ?_))); (case side4 => exact HC3.out); rintro e w10 ⟨v767, v771, rfl, ho0, ho1, hb⟩; refine ⟨_, rfl, ?_⟩; have n0_ := Aside0.mk (Kd.R_lower ho0 (below_size (by repeat (first | (with_reducible first | exact HB.out | apply below_alloc | apply pw_below_drewN | apply below_drew1) | exact HB.out)))); have n1_ := Aside0.mk (Kd.S_lower ho1 (below_size (by repeat (first | (with_reducible first | exact HB.out | apply below_alloc | apply pw_below_drewN | apply below_drew1) | exact HB.out)))); have n2_ := Aside0.mk (below_step (by repeat (first | (with_reducible first | exact HB.out | apply below_alloc | apply pw_below_drewN | apply below_drew1) | exact HB.out)) hb); clear HB; have HO768 := n0_; have HO772 := n1_; have HB := n2_; clear n0_ n1_ n2_; (try clear hb); (try clear hb2); (try clear hk); (try clear hi); (try clear ho0); (try clear ho1)) | ((with_reducible refine gate_dst (N := 9) rfl ?_); refine box_event ?hg (N := 9) ?hd (cs := #[.slice none 0 0, .int .i64 0]) (t := 24) ?hr ?_; (case hd => rfl); (case hg => rfl); (case hr => first | (go_simp; done) | (go_simp; rfl)); intro gb773 hg w11 hbox hb; have n0_ := Aside0.mk (Kd.R_below (by (with_reducible repeat (first | apply Kd.R_alloc | apply Kd.R_drewN | apply Kd.R_drew)); exact HO768.out) hb); have n1_ := Aside0.mk (Kd.S_below (by (with_reducible repeat (first | apply Kd.S_alloc | apply Kd.S_drewN | apply Kd.S_drew)); exact HO772.out) hb); have n2_ := Aside0.mk (below_step (by repeat (first | (with_reducible first | exact HB.out | apply below_alloc | apply pw_below_drewN | apply below_drew1) | exact HB.out)) hb); have n3_ := Aside0.mk (hbox); have n4_ := Aside0.mk ((by rw [hg]; exact (below_size (by repeat (first | (with_reducible first | exact HB.out | apply below_alloc | apply pw_below_drewN | apply below_drew1) | exact HB.out))) : w.heap.size ≤ gb773)); have n5_ := Aside0.mk ((by rw [hg]; exact (below_size (by repeat (first | (with_reducible first | exact HB.out | apply below_alloc | apply pw_below_drewN | apply below_drew1) | exact HB.out))) : w.heap.size ≤ gb773)); clear HO768; clear HO772; clear HB; have HO768 := n0_; have HO772 := n1_; have HB := n2_; have BK773 := n3_; have GW773 := n4_; have GE773 := n5_; clear n0_ n1_ n2_ n3_ n4_ n5_; clear hb hbox hg; obtain ⟨Ao12, co12, eo12⟩ := Kd.R_slice HO768.out; subst eo12; have hcz13_0 : w11.cell? ⟨gb773, 0, none⟩ = some (.slice none 0 0) := (blk_cell BK773.out 0).trans rfl; have hcz13_1 : w11.cell? ⟨gb773, 1, none⟩ = some (.int .i64 0) := (blk_cell BK773.out 1).trans rfl; have hfz13_0 := blk_frozen BK773.out 0; have hfz13_1 := blk_frozen BK773.out 1))
  have n0_ : Aside0 (Kd.R (Kd.int .i64) 3 ((w11.setCell ⟨gb773, 0, none⟩ (.slice Ao12 t766.length co12)).setCell ⟨gb773, 1, none⟩ (.int .i64 t769)) w.heap.size (fun _ => True) (.slice Ao12 t766.length co12) t766) := ⟨by (with_reducible repeat (first | apply Kd.R_alloc | apply Kd.R_drewN | apply Kd.R_drew)); exact Kd.R_mono (Kd.R_far (p := ⟨gb773, 1, none⟩) (Kd.R_far (p := ⟨gb773, 0, none⟩) (Kd.R_types HO768.out BK773.out (by decide)) (fun _ hk => hk.2) (.slice Ao12 t766.length co12)) (fun _ hk => hk.2) (.int .i64 t769)) (fun _ hk => trivial)⟩
  have n1_ : Aside0 (Kd.S k33 33 ((w11.setCell ⟨gb773, 0, none⟩ (.slice Ao12 t766.length co12)).setCell ⟨gb773, 1, none⟩ (.int .i64 t769)) w.heap.size (fun k_ => some k_ ≠ (.slice Ao12 t766.length co12 : Value).ownBlock) v771 t770) := ⟨by (with_reducible repeat (first | apply Kd.S_alloc | apply Kd.S_drewN | apply Kd.S_drew)); exact Kd.S_mono (Kd.S_far (p := ⟨gb773, 1, none⟩) (Kd.S_far (p := ⟨gb773, 0, none⟩) (Kd.S_types HO772.out BK773.out (by decide)) (fun _ hk => hk.2) (.slice Ao12 t766.length co12)) (fun _ hk => hk.2) (.int .i64 t769)) (fun _ hk => hk.1)⟩
  have n2_ : Aside0 (((w11.setCell ⟨gb773, 0, none⟩ (.slice Ao12 t766.length co12)).setCell ⟨gb773, 1, none⟩ (.int .i64 t769)).heap[gb773]? = some (.cells #[.slice Ao12 t766.length co12, .int .i64 t769] 24 (0, 0))) := ⟨by (with_reducible repeat (first | refine blk_drewN ?_ _ | refine blk_drew ?_ | refine blk_alloc ?_ _)); refine blk_put (cs := #[.slice Ao12 t766.length co12, .int .i64 0]) ?_ 1 _ rfl; (with_reducible repeat (first | refine blk_drewN ?_ _ | refine blk_drew ?_ | refine blk_alloc ?_ _)); refine blk_put (cs := #[.slice none 0 0, .int .i64 0]) ?_ 0 _ rfl; (with_reducible repeat (first | refine blk_drewN ?_ _ | refine blk_drew ?_ | refine blk_alloc ?_ _)); exact BK773.out⟩
  have n3_ : Aside0 (Below w.heap.size w ((w11.setCell ⟨gb773, 0, none⟩ (.slice Ao12 t766.length co12)).setCell ⟨gb773, 1, none⟩ (.int .i64 t769))) := ⟨by repeat (first | (with_reducible first | exact HB.out | apply below_alloc | apply pw_below_drewN | apply below_drew1 | refine below_set ?_ GE773.out) | exact HB.out)⟩
  (try clear HO768)
  (try clear HO772)
  (try clear BK773)
  (try clear HB)
  generalize ((w11.setCell ⟨gb773, 0, none⟩ (.slice Ao12 t766.length co12)).setCell ⟨gb773, 1, none⟩ (.int .i64 t769)) = w14 at n0_ n1_ n2_ n3_ ⊢
  have HO768 := n0_
  have HO772 := n1_
  have BK773 := n2_
  have HB := n3_
  clear n0_ n1_ n2_ n3_
  have n0_ := Aside0.mk (Kd.R_drew HO768.out)
  have n1_ := Aside0.mk (Kd.S_drew HO772.out)
  have n2_ := Aside0.mk (blk_drew BK773.out)
  have n3_ := Aside0.mk (below_drew1 HB.out)
  clear HO768
  clear HO772
  clear BK773
  clear HB
  have HO768 := n0_
  have HO772 := n1_
  have BK773 := n2_
  have HB := n3_
  clear n0_ n1_ n2_ n3_
  obtain ⟨Ao16, co16, eo16⟩ := Kd.S_slice HO772.out
  (first | subst eo16 | (injection eo16 with f1_ f2_ f3_; have f4_ := f1_.symm; have f5_ := f3_.symm; clear f1_ f2_ f3_; subst f4_; subst f5_))
  refine start_ (n := 17) (S := fun w' => w'.cell? ⟨gb773, 0, none⟩ = some (.slice Ao12 t766.length co12) ∧ w'.cell? ⟨gb773, 1, none⟩ = some (.int .i64 t769)) (ds := []) #[false, false, false, false, false, false, false, false, false, false, false, false, false, false, false, false, false] (by kernel_rfl) rfl rfl ⟨(blk_cell BK773.out 0).trans rfl, (blk_cell BK773.out 1).trans rfl⟩ (fun hHeld => ?_); refine with_tabW hypercubelaw1_RecSize.tab5 hypercubelaw1_RecSize.bits5 (fun HT_ HW_ => ?_)
  generalize w14.drew = w15 at HO768 HO772 BK773 HB hHeld ⊢
  refine pure_ (i := 1) (N := some 26) (v := ?_) (a' := ?_) #[false, true, false, false, false, false, false, false, false, false, false, false, false, false, false, false, false] rfl rfl (any_of HT_.out (by kernel_rfl)) (fun _ _ _ h => h) (Or.inl ⟨by rfl, ?_⟩) ?_ ?_
  rotate_left
  ·intro w'
   go_simp
   with_reducible rfl
  rotate_left
  ·simp only [Act.put, List.setIfInBounds_toArray, List.set_cons_zero, List.set_cons_succ, i64_w, i32_w]
   rfl
  refine pure_ (i := 4) (N := some 29) (v := ?_) (a' := ?_) #[false, true, false, false, true, false, false, false, false, false, false, false, false, false, false, false, false] rfl rfl (any_of HT_.out (by kernel_rfl)) (fun _ _ _ h => h) (Or.inl ⟨by rfl, ?_⟩) ?_ ?_
  rotate_left
  ·intro w'
   go_simp
   with_reducible rfl
  rotate_left
  ·simp only [Act.put, List.setIfInBounds_toArray, List.set_cons_zero, List.set_cons_succ, i64_w, i32_w]
   rfl
  refine pure_ (i := 5) (N := some 30) (v := ?_) (a' := ?_) #[false, true, false, false, true, true, false, false, false, false, false, false, false, false, false, false, false] rfl rfl (any_of HT_.out (by kernel_rfl)) (fun _ _ _ h => h) (Or.inl ⟨by rfl, ?_⟩) ?_ ?_
  rotate_left
  ·intro w'
   go_simp
   with_reducible rfl
  rotate_left
  ·simp only [Act.put, List.setIfInBounds_toArray, List.set_cons_zero, List.set_cons_succ, i64_w, i32_w]
   rfl
  refine pure_ (i := 6) (N := some 31) (v := ?_) (a' := ?_) #[false, true, false, false, true, true, true, false, false, false, false, false, false, false, false, false, false] rfl rfl (any_of HT_.out (by kernel_rfl)) (fun _ _ _ h => h) (Or.inl ⟨by rfl, ?_⟩) ?_ ?_
  rotate_left
  ·intro w'
   go_simp
   with_reducible rfl
  rotate_left
  ·simp only [Act.put, List.setIfInBounds_toArray, List.set_cons_zero, List.set_cons_succ, i64_w, i32_w]
   rfl
  refine pure_ (i := 7) (N := some 32) (v := ?_) (a' := ?_) #[false, true, false, false, true, true, true, true, false, false, false, false, false, false, false, false, false] rfl rfl (any_of HT_.out (by kernel_rfl)) (fun _ _ _ h => h) (Or.inl ⟨by rfl, ?_⟩) ?_ ?_
  rotate_left
  ·intro w'
   go_simp
   with_reducible rfl
  rotate_left
  ·simp only [Act.put, List.setIfInBounds_toArray, List.set_cons_zero, List.set_cons_succ, i64_w, i32_w]
   rfl
  refine pure_ (i := 8) (N := some 33) (v := ?_) (a' := ?_) #[false, true, false, false, true, true, true, true, true, false, false, false, false, false, false, false, false] rfl rfl (any_of HT_.out (by kernel_rfl)) (fun _ _ _ h => h) (Or.inl ⟨by rfl, ?_⟩) ?_ ?_
  rotate_left
  ·intro w'
   go_simp
   with_reducible rfl
  rotate_left
  ·simp only [Act.put, List.setIfInBounds_toArray, List.set_cons_zero, List.set_cons_succ, i64_w, i32_w]
   rfl
  refine pure_ (i := 9) (N := some 34) (v := ?_) (a' := ?_) #[false, true, false, false, true, true, true, true, true, true, false, false, false, false, false, false, false] rfl rfl (any_of HT_.out (by kernel_rfl)) (fun _ _ _ h => h) (Or.inl ⟨by rfl, ?_⟩) ?_ ?_
  rotate_left
  ·intro w'
   go_simp
   with_reducible rfl
  rotate_left
  ·simp only [Act.put, List.setIfInBounds_toArray, List.set_cons_zero, List.set_cons_succ, i64_w, i32_w]
   rfl
  refine take_ (i := 0) (N := some 25) (v := ?_) (a' := ?_) #[true, true, false, false, true, true, true, true, true, true, false, false, false, false, false, false, false] rfl rfl (take_ofW HT_.out HW_.out (by kernel_rfl)) (fun _ _ _ h => h) (Or.inl ⟨by rfl, ?_⟩) hHeld ?_ ?_
  rotate_left
  ·rintro w' ⟨s0, s1⟩
   go_simp
   with_reducible rfl
  rotate_left
  ·simp only [Act.put, List.setIfInBounds_toArray, List.set_cons_zero, List.set_cons_succ, i64_w, i32_w]
   rfl
  refine take_ (i := 10) (N := some 35) (v := ?_) (a' := ?_) #[true, true, false, false, true, true, true, true, true, true, true, false, false, false, false, false, false] rfl rfl (take_ofW HT_.out HW_.out (by kernel_rfl)) (fun _ _ _ h => h) (Or.inl ⟨by rfl, ?_⟩) hHeld ?_ ?_
  rotate_left
  ·rintro w' ⟨s0, s1⟩
   go_simp
   with_reducible rfl
  rotate_left
  ·simp only [Act.put, List.setIfInBounds_toArray, List.set_cons_zero, List.set_cons_succ, i64_w, i32_w]
   rfl
  refine pure_ (i := 11) (N := some 36) (v := ?_) (a' := ?_) #[true, true, false, false, true, true, true, true, true, true, true, true, false, false, false, false, false] rfl rfl (any_of HT_.out (by kernel_rfl)) (fun _ _ _ h => h) (Or.inl ⟨by rfl, ?_⟩) ?_ ?_
  rotate_left
  ·intro w'
   go_simp
   with_reducible rfl
  rotate_left
  ·simp only [Act.put, List.setIfInBounds_toArray, List.set_cons_zero, List.set_cons_succ, i64_w, i32_w]
   rfl
  refine pure_ (i := 12) (N := some 37) (v := ?_) (a' := ?_) #[true, true, false, false, true, true, true, true, true, true, true, true, true, false, false, false, false] rfl rfl (any_of HT_.out (by kernel_rfl)) (fun _ _ _ h => h) (Or.inl ⟨by rfl, ?_⟩) ?_ ?_
  rotate_left
  ·intro w'
   go_simp
   with_reducible rfl
  rotate_left
  ·simp only [Act.put, List.setIfInBounds_toArray, List.set_cons_zero, List.set_cons_succ, i64_w, i32_w]
   rfl
  refine pure_ (i := 13) (N := some 38) (v := ?_) (a' := ?_) #[true, true, false, false, true, true, true, true, true, true, true, true, true, true, false, false, false] rfl rfl (any_of HT_.out (by kernel_rfl)) (fun _ _ _ h => h) (Or.inl ⟨by rfl, ?_⟩) ?_ ?_
  rotate_left
  ·intro w'
   go_simp
   with_reducible rfl
  rotate_left
  ·simp only [Act.put, List.setIfInBounds_toArray, List.set_cons_zero, List.set_cons_succ, i64_w, i32_w]
   rfl
  refine pure_ (i := 14) (N := some 39) (v := ?_) (a' := ?_) #[true, true, false, false, true, true, true, true, true, true, true, true, true, true, true, false, false] rfl rfl (any_of HT_.out (by kernel_rfl)) (fun _ _ _ h => h) (Or.inl ⟨by rfl, ?_⟩) ?_ ?_
  rotate_left
  ·intro w'
   go_simp
   with_reducible rfl
  rotate_left
  ·simp only [Act.put, List.setIfInBounds_toArray, List.set_cons_zero, List.set_cons_succ, i64_w, i32_w]
   rfl
  refine one_ (i := 2) (N := some 27) #[true, true, true, false, true, true, true, true, true, true, true, true, true, true, true, false, false] rfl rfl (one_of HT_.out (by kernel_rfl)) (by decide) (fun K hK => ?_)
  refine goes_ Try.func22 (by kernel_rfl) rfl #[.agg #[.slice Ao12 t766.length co12, .int .i64 t769], .slice Ao16 t770.length co16] (by rfl) rfl rfl (by (try simp only [List.map_toArray, List.map_cons, List.map_nil]); first | done | rfl | (simp only [List.length_drop, List.length_take]; rfl)) ?_
  with_reducible refine (rec_Encode.calls k _ _ t766 t769 _ _ t770 t774 _ ?side1 ?side2 ?side3 ?side4 A8.out).mono ?_
  (case side1 => repeat (first | exact (Kd.R_reads' HO768.out).2.2 | (with_reducible refine Kd.C_alloc ?_ _) | (with_reducible refine Kd.C_drewN ?_ _) | (with_reducible refine Kd.C_drew ?_)))
  (case side2 => exact (Kd.R_reads' HO768.out).2.1)
  (case side3 => repeat (first | exact (Kd.S_reads' HO772.out).2.2 | (with_reducible refine Kd.C_alloc ?_ _) | (with_reducible refine Kd.C_drewN ?_ _) | (with_reducible refine Kd.C_drew ?_)))
  (case side4 => exact (Kd.S_reads' HO772.out).2.1)
  rintro e w17 ⟨v775, rfl, ho0, hb⟩
  refine ⟨_, rfl, ?_⟩
  have n0_ := Aside0.mk (Kd.R_below (by (with_reducible repeat (first | apply Kd.R_alloc | apply Kd.R_drewN | apply Kd.R_drew)); exact HO768.out) hb)
  have n1_ := Aside0.mk (Kd.S_below (by (with_reducible repeat (first | apply Kd.S_alloc | apply Kd.S_drewN | apply Kd.S_drew)); exact HO772.out) hb)
  have n2_ := Aside0.mk (Kd.R_lower ho0 (below_size (by repeat (first | (with_reducible first | exact HB.out | apply below_alloc | apply pw_below_drewN | apply below_drew1 | refine below_set ?_ GE773.out) | exact HB.out))))
  have n3_ := Aside0.mk (blk_below (g := gb773) (o := .cells #[.slice Ao12 t766.length co12, .int .i64 t769] 24 (0, 0)) (by (with_reducible repeat (first | refine blk_drewN ?_ _ | refine blk_drew ?_ | refine blk_alloc ?_ _)); exact BK773.out) hb)
  have n4_ := Aside0.mk (below_step (by repeat (first | (with_reducible first | exact HB.out | apply below_alloc | apply pw_below_drewN | apply below_drew1 | refine below_set ?_ GE773.out) | exact HB.out)) hb)
  clear HO768
  clear HO772
  clear BK773
  clear HB
  have HO768 := n0_
  have HO772 := n1_
  have HO776 := n2_
  have BK773 := n3_
  have HB := n4_
  clear n0_ n1_ n2_ n3_ n4_
  (try clear hb)
  (try clear hb2)
  (try clear hk)
  (try clear hi)
  (try clear ho0)
  obtain ⟨Ao18, co18, eo18⟩ := Kd.R_slice HO776.out
  (first | subst eo18 | (injection eo18 with f1_ f2_ f3_; have f4_ := f1_.symm; have f5_ := f3_.symm; clear f1_ f2_ f3_; subst f4_; subst f5_))
  refine hK.out _ _ ⟨(blk_cell BK773.out 0).trans rfl, (blk_cell BK773.out 1).trans rfl⟩ (fun hHeld => ?_)
  clear hK K
  refine norm_ (a' := ?_) ?_ ?_
  rotate_left
  ·show Act.put _ (some 27) _ = _
   simp only [Act.put, List.setIfInBounds_toArray, List.set_cons_zero, List.set_cons_succ, i64_w, i32_w]
   rfl
  refine pure_ (i := 3) (N := some 28) (v := ?_) (a' := ?_) #[true, true, true, true, true, true, true, true, true, true, true, true, true, true, true, false, false] rfl rfl (any_of HT_.out (by kernel_rfl)) (fun _ _ _ h => h) (Or.inl ⟨by rfl, ?_⟩) ?_ ?_
  rotate_left
  ·intro w'
   go_simp
   with_reducible rfl
  rotate_left
  ·simp only [Act.put, List.setIfInBounds_toArray, List.set_cons_zero, List.set_cons_succ, i64_w, i32_w]
   rfl
  refine pure_ (i := 15) (N := some 40) (v := ?_) (a' := ?_) #[true, true, true, true, true, true, true, true, true, true, true, true, true, true, true, true, false] rfl rfl (any_of HT_.out (by kernel_rfl)) (fun _ _ _ h => h) (Or.inl ⟨by rfl, ?_⟩) ?_ ?_
  rotate_left
  ·intro w'
   go_simp
   with_reducible rfl
  rotate_left
  ·simp only [Act.put, List.setIfInBounds_toArray, List.set_cons_zero, List.set_cons_succ, i64_w, i32_w]
   rfl
  refine pure_ (i := 16) (N := some 8) (v := ?_) (a' := ?_) #[true, true, true, true, true, true, true, true, true, true, true, true, true, true, true, true, true] rfl rfl (any_of HT_.out (by kernel_rfl)) (fun _ _ _ h => h) (Or.inl ⟨by rfl, ?_⟩) ?_ ?_
  rotate_left
  ·intro w'
   go_simp
   with_reducible rfl
  rotate_left
  ·simp only [Act.put, List.setIfInBounds_toArray, List.set_cons_zero, List.set_cons_succ, i64_w, i32_w]
   rfl
  refine done_ (done_of HT_.out (by kernel_rfl)) ?_
  try go_wp2
  go_ret
  exact ⟨by first | rfl | (simp [errW_none, errW_some] <;> rfl) | (simp [*, errW_none, errW_some] <;> rfl), by repeat (first | (with_reducible first | exact HB.out | apply below_alloc | apply pw_below_drewN | apply below_drew1 | refine below_set ?_ GE773.out) | exact HB.out)⟩
 ·replace c6 := Bool.eq_false_iff.mpr c6
  subst c6
  have H1 : (none) = some r := by rw [if_neg (show ¬ (false = true) by decide)] at H; exact H
  clear H
  have H := H1
  clear H1
  exact absurd H (by simp)

/-- THE ONE PURE STATEMENT of hypercubelaw1_RecSize: yours. -/
def hypercubelaw1_RecSize.Pure : Prop := ∀ (a0 : Int) (l1 : List Int) (a2 : Int) (l3 : List Int), (Lit.int .i64 a0).wf = true → l1.length ≤ maxLen → l1.length * 8 ≤ 140737488351232 → (∀ x ∈ l1, (Lit.int .i64 x).wf = true) → (Lit.int .i64 a2).wf = true → l3.length ≤ maxLen → l3.length * 8 ≤ 140737488351232 → (∀ x ∈ l3, (Lit.int .i64 x).wf = true) → ∃ k, hypercubelaw1_RecSize.f k a0 l1 a2 l3 = some true
theorem hypercubelaw1_RecSize.walk (P : hypercubelaw1_RecSize.Pure) (a0 : Int) (a1 : Option Addr) (len1 cap1 : Nat) (z1 : List Int) (a2 : Int) (a3 : Option Addr) (len3 cap3 : Nat) (z3 : List Int) (w : World) (w0 : (Lit.int .i64 a0).wf = true) (w1 : (a1 = none ∧ len1 = 0 ∧ cap1 = 0 ∧ z1 = []) ∨ ∃ x, a1 = some x ∧ len1 ≤ cap1 ∧ cap1 ≤ maxLen ∧ z1.length = cap1 ∧ (∀ i, i < z1.length → w.cell? (x.add i) = some (.int .i64 (z1.getD i 0))) ∧ ∀ n ∈ z1, (Lit.int .i64 n).wf = true) (y1 : len1 * 8 ≤ 140737488351232) (w2 : (Lit.int .i64 a2).wf = true) (w3 : (a3 = none ∧ len3 = 0 ∧ cap3 = 0 ∧ z3 = []) ∨ ∃ x, a3 = some x ∧ len3 ≤ cap3 ∧ cap3 ≤ maxLen ∧ z3.length = cap3 ∧ (∀ i, i < z3.length → w.cell? (x.add i) = some (.int .i64 (z3.getD i 0))) ∧ ∀ n ∈ z3, (Lit.int .i64 n).wf = true) (y3 : len3 * 8 ≤ 140737488351232) :
  Calls Try.prog 11 #[.int .i64 a0, .slice a1 len1 cap1, .int .i64 a2, .slice a3 len3 cap3] w fun e w' => e = .returned (.bool true) ∧ Below w.heap.size w w' := by
 obtain ⟨l1, rfl, hr1, hm1, hw1, hc1⟩ := ReadsInt.ofRowC w1
 obtain ⟨l3, rfl, hr3, hm3, hw3, hc3⟩ := ReadsInt.ofRowC w3
 obtain ⟨k, h⟩ := P a0 l1 a2 l3 w0 hm1 y1 hw1 w2 hm3 y3 hw3
 refine (hypercubelaw1_RecSize.calls k a0 _ _ l1 a2 _ _ l3 true w (Kd.C_of_reads (d := (0 : Int)) (h1 := fun _ => rfl) hr1) hc1 (Kd.C_of_reads (d := (0 : Int)) (h1 := fun _ => rfl) hr3) hc3 h).mono ?_
 rintro e w' ⟨rfl, hd⟩
 exact ⟨rfl, hd⟩

end Go.Proofs.Ytlacfpbfnedgdaa.Q
