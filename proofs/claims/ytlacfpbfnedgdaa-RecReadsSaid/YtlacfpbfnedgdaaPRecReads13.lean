-- packed by wip/tools/pack.py (a program of this session) out of its own texts
import Derived.Test.YtlacfpbfnedgdaaPRecReads0
import Derived.ArgAppend
import Derived.Below
import Derived.BigQuiet
import Derived.Deep.AppendLies
import Derived.Deep.CutBlock
import Derived.Deep.DeepCutAuto
import Derived.Deep.Draws
import Derived.Deep.LoopGhost
import Derived.Deep.OwnRows
import Derived.Deep.QuietTactic
import Derived.Deep.RegionHeld3
import Derived.Deep.RegionWith
import Derived.KernelRfl
import Derived.Laws.BitsLemmas
import Derived.Laws.BytesArg
import Derived.Laws.CopyOwn
import Derived.Laws.IdiomCopy
import Derived.Laws.MakeOwn
import Derived.Laws.OwnMore
import Derived.Laws.Rows
import Derived.Laws.Slices
import Derived.Lib.AppendStr
import Derived.Lib.ConvBytes
import Derived.Lib.SlBytesConst
import Derived.Lib.SliceRun
import Derived.Maps.AppendAt
import Derived.OrdersHeld
import Derived.OwnWalk
import Derived.RegionTactic
import Derived.RowKit
import Derived.RowKit3
import Derived.Shelf.Abstract
import Derived.Tactics
import Derived.Test.YtlacfpbfnedgdaaProg
import Derived.WalkKit
import Derived.WalkSpells
import Derived.WideLaws
import Derived.Test.YtlacfpbfnedgdaaPRecReads1
import Derived.Test.YtlacfpbfnedgdaaPRecReads3
import Derived.Test.YtlacfpbfnedgdaaPRecReads4
import Derived.Test.YtlacfpbfnedgdaaPRecReads5
import Derived.Test.YtlacfpbfnedgdaaPRecReads6
import Derived.Test.YtlacfpbfnedgdaaPRecReads7
import Derived.Test.YtlacfpbfnedgdaaPRecReads9
import Derived.Test.YtlacfpbfnedgdaaPRecReads10
import Derived.Test.YtlacfpbfnedgdaaPRecReads11
import Derived.Test.YtlacfpbfnedgdaaPRecReads12
namespace Go.Proofs.Ytlacfpbfnedgdaa.Q
open Go.RowKit Go.Proofs.YtlacfpbfnedgdaaW.PrintWords Go.Proofs.YtlacfpbfnedgdaaW.PrintLast Go.Proofs.YtlacfpbfnedgdaaW.PrintMore
attribute [local go_sem] max2_int min2_int max_two min_two max_three min_three max_four min_four
set_option linter.unusedVariables false
set_option linter.unusedSimpArgs false
def hypercubelaw1_known.f (k : Nat)  : Option (Bool) := (rec_Decode.f ([] : List Int)).bind fun bt185 => ((some (([3] : List Int) : List Int)).bind fun y194 => ((some (([(⟨(([2] : List Int)), (([7] : List Int))⟩ : S33)] : List (S33)) : List (S33))).bind fun y204 => ((rec_Encode.f k y194 1 y204).bind fun t207 => ((rec_Decode.f t207).bind fun bt210 => (if bt185.2.2.2 = 1 then (if bt210.2.2.2 = 0 then ((hypercuberef1_Same.f k y194 1 y204 bt210.1 bt210.2.1 bt210.2.2.1).bind fun t219 => (if t219 = true then ((rec_Check.f y194 1).bind fun t220 => (if t220 = true then (if 0 < (y204.length : Int) then ((rec_Right.f k y194 1 ((rd_T33 y204 0).f0) ((rd_T33 y204 0).f1)).bind fun t222 => (if t222 = true then ((rec_Sound.f k y194 1 y204).bind fun t223 => (some t223)) else (none))) else (none)) else (none))) else (none))) else (none)) else (none))))))
theorem hypercubelaw1_known.mono : ∀ k, LeO (hypercubelaw1_known.f k ) (hypercubelaw1_known.f (k + 1) ) := by
 intro  k
 unfold hypercubelaw1_known.f
 repeat' first
   | (with_reducible exact hypercuberef1_Same.mono _ _ _ _ _ _ _)
   | (with_reducible exact rec_Encode.mono _ _ _ _)
   | (with_reducible exact rec_Right.mono _ _ _ _ _)
   | (with_reducible exact rec_Sound.mono _ _ _ _)
   | (with_reducible exact LeO.refl _)
   | (with_reducible exact LeO.none _)
   | (with_reducible refine LeO.ite ?_ ?_)
   | (with_reducible refine LeO.bind ?_ (fun _ => ?_))
   | exact hypercuberef1_Same.mono _ _ _ _ _ _ _
   | exact rec_Encode.mono _ _ _ _
   | exact rec_Right.mono _ _ _ _ _
   | exact rec_Sound.mono _ _ _ _
   | exact LeO.none _
   | refine LeO.ite ?_ ?_
   | refine LeO.bind ?_ (fun _ => ?_)
def hypercubelaw1_known.T5 : Bool × List (List Nat × List Nat) := (true, [([], []), ([0], [0]), ([1], [1]), ([2], [2]), ([3, 2], [2, 3]), ([2, 4], [2, 4]), ([5, 2], [5]), ([6], [6]), ([6], [6]), ([6], [6]), ([6], [6]), ([7, 8, 9, 10, 6, 6], [6, 7, 8, 9, 10]), ([6, 11], [6, 11]), ([12, 11], [12]), ([13], [13]), ([14, 13, 13], [13, 14]), ([13, 15], [13, 15]), ([16, 15], [16]), ([17], [17]), ([17], [17]), ([19, 17], [17, 19]), ([20, 17], [17, 20]), ([18, 21, 17, 17], [17, 18, 21]), ([17, 22], [17, 22]), ([23, 22], [23]), ([24], [24]), ([24], [24]), ([25, 26, 24, 24], [24, 25, 26]), ([24, 27], [24, 27]), ([28, 27, 0, 1, 2, 3, 4, 5, 6, 7, 8, 9, 10, 11, 12, 13, 14, 15, 16, 17, 18, 19, 20, 21, 22, 23, 24, 25, 26, 27, 28], [28])])
def hypercubelaw1_known.B5 : List Nat := [0, 1, 3, 7, 15, 31, 63, 127, 127, 127, 127, 2047, 4095, 8191, 16383, 32767, 65535, 131071, 262143, 262143, 786431, 1835007, 4194303, 8388607, 16777215, 33554431, 33554431, 134217727, 268435455, 536870911]
theorem hypercubelaw1_known.tab5 : rtab .any (opsOf Try.f14 5) = hypercubelaw1_known.T5 := by kernel_rfl
theorem hypercubelaw1_known.bits5 : waitsOk hypercubelaw1_known.T5.2 hypercubelaw1_known.B5 = true := by kernel_rfl
set_option maxHeartbeats 8000000 in
set_option maxRecDepth 100000 in
theorem hypercubelaw1_known.calls (k : Nat)  (r : Bool) (w : World) (h : hypercubelaw1_known.f k  = some r) :
  Calls Try.prog 14 #[] w fun e w' => e = .returned (.bool r) ∧ Below w.heap.size w w' := by
 have hu24 := Try.underlying24
 have hu33 := Try.underlying33
 have HB := am (Below.refl w.heap.size w)
 have H : ((rec_Decode.f ([] : List Int)).bind fun bt185 => ((some (([3] : List Int) : List Int)).bind fun y194 => ((some (([(⟨(([2] : List Int)), (([7] : List Int))⟩ : S33)] : List (S33)) : List (S33))).bind fun y204 => ((rec_Encode.f k y194 1 y204).bind fun t207 => ((rec_Decode.f t207).bind fun bt210 => (if bt185.2.2.2 = 1 then (if bt210.2.2.2 = 0 then ((hypercuberef1_Same.f k y194 1 y204 bt210.1 bt210.2.1 bt210.2.2.1).bind fun t219 => (if t219 = true then ((rec_Check.f y194 1).bind fun t220 => (if t220 = true then (if 0 < (y204.length : Int) then ((rec_Right.f k y194 1 ((rd_T33 y204 0).f0) ((rd_T33 y204 0).f1)).bind fun t222 => (if t222 = true then ((rec_Sound.f k y194 1 y204).bind fun t223 => (some t223)) else (none))) else (none)) else (none))) else (none))) else (none)) else (none))))))) = some r := h
 clear h
 replace H := Option.bind_eq_some_iff.mp H
 obtain ⟨⟨t185, t188, t189, t192⟩, A10, H⟩ := H
 replace H : ((some (([3] : List Int) : List Int)).bind fun y194 => ((some (([(⟨(([2] : List Int)), (([7] : List Int))⟩ : S33)] : List (S33)) : List (S33))).bind fun y204 => ((rec_Encode.f k y194 1 y204).bind fun t207 => ((rec_Decode.f t207).bind fun bt210 => (if t192 = 1 then (if bt210.2.2.2 = 0 then ((hypercuberef1_Same.f k y194 1 y204 bt210.1 bt210.2.1 bt210.2.2.1).bind fun t219 => (if t219 = true then ((rec_Check.f y194 1).bind fun t220 => (if t220 = true then (if 0 < (y204.length : Int) then ((rec_Right.f k y194 1 ((rd_T33 y204 0).f0) ((rd_T33 y204 0).f1)).bind fun t222 => (if t222 = true then ((rec_Sound.f k y194 1 y204).bind fun t223 => (some t223)) else (none))) else (none)) else (none))) else (none))) else (none)) else (none)))))) = some r := H
 have A1 := am A10
 clear A10
 obtain ⟨y194, hy194⟩ : ∃ y_ : List Int, y_ = (([3] : List Int)) := ⟨_, rfl⟩
 replace H : ((some (([(⟨(([2] : List Int)), (([7] : List Int))⟩ : S33)] : List (S33)) : List (S33))).bind fun y204 => ((rec_Encode.f k y194 1 y204).bind fun t207 => ((rec_Decode.f t207).bind fun bt210 => (if t192 = 1 then (if bt210.2.2.2 = 0 then ((hypercuberef1_Same.f k y194 1 y204 bt210.1 bt210.2.1 bt210.2.2.1).bind fun t219 => (if t219 = true then ((rec_Check.f y194 1).bind fun t220 => (if t220 = true then (if 0 < (y204.length : Int) then ((rec_Right.f k y194 1 ((rd_T33 y204 0).f0) ((rd_T33 y204 0).f1)).bind fun t222 => (if t222 = true then ((rec_Sound.f k y194 1 y204).bind fun t223 => (some t223)) else (none))) else (none)) else (none))) else (none))) else (none)) else (none))))) = some r := by first | (rw [hy194]; with_reducible exact H) | (have H2_ := (Option.bind_some _ _).symm.trans H; rw [hy194]; with_reducible exact H2_) | (have H2_ := (Option.bind_some _ _).symm.trans H; with_reducible exact H2_) | with_reducible exact H | (rw [hy194]; exact H) | exact H
 have Ny194 := am hy194
 clear hy194
 obtain ⟨y198, hy198⟩ : ∃ y_ : List Int, y_ = (([2] : List Int)) := ⟨_, rfl⟩
 replace H : ((some (([(⟨y198, (([7] : List Int))⟩ : S33)] : List (S33)) : List (S33))).bind fun y204 => ((rec_Encode.f k y194 1 y204).bind fun t207 => ((rec_Decode.f t207).bind fun bt210 => (if t192 = 1 then (if bt210.2.2.2 = 0 then ((hypercuberef1_Same.f k y194 1 y204 bt210.1 bt210.2.1 bt210.2.2.1).bind fun t219 => (if t219 = true then ((rec_Check.f y194 1).bind fun t220 => (if t220 = true then (if 0 < (y204.length : Int) then ((rec_Right.f k y194 1 ((rd_T33 y204 0).f0) ((rd_T33 y204 0).f1)).bind fun t222 => (if t222 = true then ((rec_Sound.f k y194 1 y204).bind fun t223 => (some t223)) else (none))) else (none)) else (none))) else (none))) else (none)) else (none))))) = some r := by first | (rw [hy198]; with_reducible exact H) | (have H2_ := (Option.bind_some _ _).symm.trans H; rw [hy198]; with_reducible exact H2_) | (have H2_ := (Option.bind_some _ _).symm.trans H; with_reducible exact H2_) | with_reducible exact H | (rw [hy198]; exact H) | exact H
 have Ny198 := am hy198
 clear hy198
 obtain ⟨y201, hy201⟩ : ∃ y_ : List Int, y_ = (([7] : List Int)) := ⟨_, rfl⟩
 replace H : ((some (([(⟨y198, y201⟩ : S33)] : List (S33)) : List (S33))).bind fun y204 => ((rec_Encode.f k y194 1 y204).bind fun t207 => ((rec_Decode.f t207).bind fun bt210 => (if t192 = 1 then (if bt210.2.2.2 = 0 then ((hypercuberef1_Same.f k y194 1 y204 bt210.1 bt210.2.1 bt210.2.2.1).bind fun t219 => (if t219 = true then ((rec_Check.f y194 1).bind fun t220 => (if t220 = true then (if 0 < (y204.length : Int) then ((rec_Right.f k y194 1 ((rd_T33 y204 0).f0) ((rd_T33 y204 0).f1)).bind fun t222 => (if t222 = true then ((rec_Sound.f k y194 1 y204).bind fun t223 => (some t223)) else (none))) else (none)) else (none))) else (none))) else (none)) else (none))))) = some r := by first | (rw [hy201]; with_reducible exact H) | (have H2_ := (Option.bind_some _ _).symm.trans H; rw [hy201]; with_reducible exact H2_) | (have H2_ := (Option.bind_some _ _).symm.trans H; with_reducible exact H2_) | with_reducible exact H | (rw [hy201]; exact H) | exact H
 have Ny201 := am hy201
 clear hy201
 obtain ⟨y204, hy204⟩ : ∃ y_ : List (S33), y_ = (([(⟨y198, y201⟩ : S33)] : List (S33))) := ⟨_, rfl⟩
 replace H : ((rec_Encode.f k y194 1 y204).bind fun t207 => ((rec_Decode.f t207).bind fun bt210 => (if t192 = 1 then (if bt210.2.2.2 = 0 then ((hypercuberef1_Same.f k y194 1 y204 bt210.1 bt210.2.1 bt210.2.2.1).bind fun t219 => (if t219 = true then ((rec_Check.f y194 1).bind fun t220 => (if t220 = true then (if 0 < (y204.length : Int) then ((rec_Right.f k y194 1 ((rd_T33 y204 0).f0) ((rd_T33 y204 0).f1)).bind fun t222 => (if t222 = true then ((rec_Sound.f k y194 1 y204).bind fun t223 => (some t223)) else (none))) else (none)) else (none))) else (none))) else (none)) else (none)))) = some r := by first | (rw [hy204]; with_reducible exact H) | (have H2_ := (Option.bind_some _ _).symm.trans H; rw [hy204]; with_reducible exact H2_) | (have H2_ := (Option.bind_some _ _).symm.trans H; with_reducible exact H2_) | with_reducible exact H | (rw [hy204]; exact H) | exact H
 have Ny204 := am hy204
 clear hy204
 replace H := Option.bind_eq_some_iff.mp H
 obtain ⟨t207, A20, H⟩ := H
 replace H : ((rec_Decode.f t207).bind fun bt210 => (if t192 = 1 then (if bt210.2.2.2 = 0 then ((hypercuberef1_Same.f k y194 1 y204 bt210.1 bt210.2.1 bt210.2.2.1).bind fun t219 => (if t219 = true then ((rec_Check.f y194 1).bind fun t220 => (if t220 = true then (if 0 < (y204.length : Int) then ((rec_Right.f k y194 1 ((rd_T33 y204 0).f0) ((rd_T33 y204 0).f1)).bind fun t222 => (if t222 = true then ((rec_Sound.f k y194 1 y204).bind fun t223 => (some t223)) else (none))) else (none)) else (none))) else (none))) else (none)) else (none))) = some r := H
 have A2 := am A20
 clear A20
 replace H := Option.bind_eq_some_iff.mp H
 obtain ⟨⟨t210, t213, t214, t217⟩, A30, H⟩ := H
 replace H : (if t192 = 1 then (if t217 = 0 then ((hypercuberef1_Same.f k y194 1 y204 t210 t213 t214).bind fun t219 => (if t219 = true then ((rec_Check.f y194 1).bind fun t220 => (if t220 = true then (if 0 < (y204.length : Int) then ((rec_Right.f k y194 1 ((rd_T33 y204 0).f0) ((rd_T33 y204 0).f1)).bind fun t222 => (if t222 = true then ((rec_Sound.f k y194 1 y204).bind fun t223 => (some t223)) else (none))) else (none)) else (none))) else (none))) else (none)) else (none)) = some r := H
 have A3 := am A30
 clear A30
 by_cases c4 : t192 = 1
 ·rw [if_pos c4] at H
  have c4b0 : (t192 == 1) = true := beq_iff_eq.mpr c4
  have c4b1 : (t192 != 1) = false := bne_eq_false_iff_eq.mpr c4
  clear c4
  by_cases c5 : t217 = 0
  ·rw [if_pos c5] at H
   have c5b0 : (t217 == 0) = true := beq_iff_eq.mpr c5
   have c5b1 : (t217 != 0) = false := bne_eq_false_iff_eq.mpr c5
   clear c5
   replace H := Option.bind_eq_some_iff.mp H
   obtain ⟨t219, A60, H⟩ := H
   replace H : (if t219 = true then ((rec_Check.f y194 1).bind fun t220 => (if t220 = true then (if 0 < (y204.length : Int) then ((rec_Right.f k y194 1 ((rd_T33 y204 0).f0) ((rd_T33 y204 0).f1)).bind fun t222 => (if t222 = true then ((rec_Sound.f k y194 1 y204).bind fun t223 => (some t223)) else (none))) else (none)) else (none))) else (none)) = some r := H
   have A6 := am A60
   clear A60
   by_cases c7 : t219 = true
   ·subst c7
    have H1 : ((rec_Check.f y194 1).bind fun t220 => (if t220 = true then (if 0 < (y204.length : Int) then ((rec_Right.f k y194 1 ((rd_T33 y204 0).f0) ((rd_T33 y204 0).f1)).bind fun t222 => (if t222 = true then ((rec_Sound.f k y194 1 y204).bind fun t223 => (some t223)) else (none))) else (none)) else (none))) = some r := by rw [if_pos rfl] at H; exact H
    clear H
    have H := H1
    clear H1
    replace H := Option.bind_eq_some_iff.mp H
    obtain ⟨t220, A80, H⟩ := H
    replace H : (if t220 = true then (if 0 < (y204.length : Int) then ((rec_Right.f k y194 1 ((rd_T33 y204 0).f0) ((rd_T33 y204 0).f1)).bind fun t222 => (if t222 = true then ((rec_Sound.f k y194 1 y204).bind fun t223 => (some t223)) else (none))) else (none)) else (none)) = some r := H
    have A8 := am A80
    clear A80
    by_cases c9 : t220 = true
    ·subst c9
     have H1 : (if 0 < (y204.length : Int) then ((rec_Right.f k y194 1 ((rd_T33 y204 0).f0) ((rd_T33 y204 0).f1)).bind fun t222 => (if t222 = true then ((rec_Sound.f k y194 1 y204).bind fun t223 => (some t223)) else (none))) else (none)) = some r := by rw [if_pos rfl] at H; exact H
     clear H
     have H := H1
     clear H1
     by_cases c10 : 0 < (y204.length : Int)
     ·rw [if_pos c10] at H
      have c10b0 : decide (0 < (y204.length : Int)) = true := decide_eq_true c10
      have c10b1 : decide (0 < y204.length) = true := decide_eq_true (by omega)
      clear c10
      replace H := Option.bind_eq_some_iff.mp H
      obtain ⟨t222, A110, H⟩ := H
      replace H : (if t222 = true then ((rec_Sound.f k y194 1 y204).bind fun t223 => (some t223)) else (none)) = some r := H
      have A11 := am A110
      clear A110
      by_cases c12 : t222 = true
      ·subst c12
       have H1 : ((rec_Sound.f k y194 1 y204).bind fun t223 => (some t223)) = some r := by rw [if_pos rfl] at H; exact H
       clear H
       have H := H1
       clear H1
       replace H := Option.bind_eq_some_iff.mp H
       obtain ⟨t223, A130, H⟩ := H
       replace H : (some t223) = some r := H
       have A13 := am A130
       clear A130
       obtain rfl := Option.some.inj H
       go_enter Try.func14, Try.ntmps14
       try go_wp2_with (first | ((with_reducible refine gate_callee (f := 23) rfl ?_); refine goesL_ (some 10) rfl rfl Try.func23 (by kernel_rfl) rfl #[.slice none 0 0] rfl (by (try simp only [List.map_toArray, List.map_cons, List.map_nil]); first | done | rfl | (simp only [List.length_drop, List.length_take]; rfl)) ?_; (refine (rec_Decode.calls _ _ ([] : List Int) t185 t188 t189 t192 _ ?side1 ?side2 A1.out).mono ?_); (case side1 => exact Kd.C_nil _ _); (case side2 => exact Nat.le_refl _); rintro e w14 ⟨v186, v190, rfl, ho0, ho1, hb⟩; refine ⟨_, rfl, ?_⟩; have n0_ := am (Kd.R_lower ho0 (below_size (by repeat (first | (with_reducible first | exact HB.out | apply below_alloc | apply pw_below_drewN | apply below_drew1) | exact HB.out)))); have n1_ := am (Kd.N_lower (Kd.N_mono (ok' := fun k_ => some k_ ≠ (v186 : Value).ownBlock) (Kd.S_N (Kd.S_bound ho1)) (fun k_ hk_ => hk_.1)) (below_size (by repeat (first | (with_reducible first | exact HB.out | apply below_alloc | apply pw_below_drewN | apply below_drew1) | exact HB.out)))); have n2_ := am (below_step (by repeat (first | (with_reducible first | exact HB.out | apply below_alloc | apply pw_below_drewN | apply below_drew1) | exact HB.out)) hb); clear HB; have HO187 := n0_; have HO191 := n1_; have HB := n2_; clear n0_ n1_ n2_; (try clear hb); (try clear hb2); (try clear hk); (try clear hi); (try clear ho0); (try clear ho1)) | ((with_reducible refine gate_dst (N := 1) rfl ?_); refine box_event ?hg (N := 1) ?hd (cs := #[.slice none 0 0, .int .i64 0]) (t := 24) ?hr ?_; (case hd => rfl); (case hg => rfl); (case hr => first | (go_simp; done) | (go_simp; rfl)); intro gb193 hg w15 hbox hb; have n0_ := am (Kd.R_below (by (with_reducible repeat (first | apply Kd.R_alloc | apply Kd.R_drewN | apply Kd.R_drew)); exact HO187.out) hb); have n1_ := am (Kd.N_below (Kd.N_elderB (by (with_reducible repeat (first | apply Kd.N_alloc | apply Kd.N_drewN | apply Kd.N_drew)); exact HO191.out) gb193 (Nat.le_of_eq hg.symm)) hb); have n2_ := am (below_step (by repeat (first | (with_reducible first | exact HB.out | apply below_alloc | apply pw_below_drewN | apply below_drew1) | exact HB.out)) hb); have n3_ := am (hbox); have n4_ := am ((by rw [hg]; exact (below_size (by repeat (first | (with_reducible first | exact HB.out | apply below_alloc | apply pw_below_drewN | apply below_drew1) | exact HB.out))) : w.heap.size ≤ gb193)); have n5_ := am ((by rw [hg]; exact (below_size (by repeat (first | (with_reducible first | exact HB.out | apply below_alloc | apply pw_below_drewN | apply below_drew1) | exact HB.out))) : w.heap.size ≤ gb193)); clear HO187; clear HO191; clear HB; have HO187 := n0_; have HO191 := n1_; have HB := n2_; have BK193 := n3_; have GW193 := n4_; have GE193 := n5_; clear n0_ n1_ n2_ n3_ n4_ n5_; clear hb hbox hg; obtain ⟨Ao16, co16, eo16⟩ := Kd.R_slice HO187.out; subst eo16; have hcz17_0 : w15.cell? ⟨gb193, 0, none⟩ = some (.slice none 0 0) := (blk_cell BK193.out 0).trans rfl; have hcz17_1 : w15.cell? ⟨gb193, 1, none⟩ = some (.int .i64 0) := (blk_cell BK193.out 1).trans rfl; have hfz17_0 := blk_frozen BK193.out 0; have hfz17_1 := blk_frozen BK193.out 1) | ((with_reducible refine gate_dst (N := 14) rfl ?_); refine Kd.R_lit (Kd.int .i64) _ 3 ?hg (N := 14) ?hd (xs := ([3] : List Int)) (inner := [.int .i64 3]) (ok := fun _ => True) (okp := fun _ => True) ?hr ?hp (fun _ hk => hk) trivial (Below.refl _ _) (Nat.le_refl _) (by simp) ?_; (case hd => rfl); (case hg => rfl); (case hr => first | (go_simp; done) | (go_simp; rfl)); (case hp => exact (Reps.one (show Kd.M (Kd.int .i64) _ _ _ 3 [.int .i64 3] from rfl) (Reps.none _ _))); intro v195 w18 ho19 hb hg_ hnew_; clear hg_ hnew_; (first | rw [← Ny194.out] at ho19 | (simp only [Int.reduceToNat] at ho19; rw [← Ny194.out] at ho19)); have n0_ := am (Kd.R_elder' (by (with_reducible repeat (first | apply Kd.R_alloc | apply Kd.R_drewN | apply Kd.R_drew)); exact (Kd.R_mono (Kd.R_far (p := ⟨gb193, 1, none⟩) (Kd.R_far (p := ⟨gb193, 0, none⟩) (Kd.R_types HO187.out BK193.out (by decide)) (fun _ hk => hk.2) (.slice Ao16 t185.length co16)) (fun _ hk => hk.2) (.int .i64 t188)) (fun _ h_ => h_.1))) (Kd.R_base ho19) hb); have n1_ := am (Kd.N_elder' (by (with_reducible repeat (first | apply Kd.N_alloc | apply Kd.N_drewN | apply Kd.N_drew)); exact (Kd.N_mono (Kd.N_far (p := ⟨gb193, 1, none⟩) (Kd.N_far (p := ⟨gb193, 0, none⟩) (Kd.N_mono HO191.out (fun k_ hk => (⟨hk, hk.2⟩ : _ ∧ k_ ≠ gb193))) (fun _ hk => hk.2) (.slice Ao16 t185.length co16)) (fun _ hk => hk.2) (.int .i64 t188)) (fun _ h_ => h_.1))) (Kd.R_base ho19) hb); have n2_ := am (Kd.R_lower (Kd.R_new' ho19 (Kd.R_lt (by (with_reducible repeat (first | apply Kd.R_alloc | apply Kd.R_drewN | apply Kd.R_drew)); exact (Kd.R_mono (Kd.R_far (p := ⟨gb193, 1, none⟩) (Kd.R_far (p := ⟨gb193, 0, none⟩) (Kd.R_types HO187.out BK193.out (by decide)) (fun _ hk => hk.2) (.slice Ao16 t185.length co16)) (fun _ hk => hk.2) (.int .i64 t188)) (fun _ h_ => h_.1))))) (below_size (by repeat (first | (with_reducible first | exact HB.out | apply below_alloc | apply pw_below_drewN | apply below_drew1 | refine below_set ?_ GE193.out) | exact HB.out)))); have n3_ := am (blk_below (g := gb193) (o := .cells #[.slice Ao16 t185.length co16, .int .i64 t188] 24 (0, 0)) (by (with_reducible repeat (first | refine blk_drewN ?_ _ | refine blk_drew ?_ | refine blk_alloc ?_ _)); refine blk_put (cs := #[.slice Ao16 t185.length co16, .int .i64 0]) ?_ 1 _ rfl; (with_reducible repeat (first | refine blk_drewN ?_ _ | refine blk_drew ?_ | refine blk_alloc ?_ _)); refine blk_put (cs := #[.slice none 0 0, .int .i64 0]) ?_ 0 _ rfl; (with_reducible repeat (first | refine blk_drewN ?_ _ | refine blk_drew ?_ | refine blk_alloc ?_ _)); exact BK193.out) hb); have n4_ := am (below_step (by repeat (first | (with_reducible first | exact HB.out | apply below_alloc | apply pw_below_drewN | apply below_drew1 | refine below_set ?_ GE193.out) | exact HB.out)) hb); clear HO187; clear HO191; clear BK193; clear HB; have HO187 := n0_; have HO191 := n1_; have HO196 := n2_; have BK193 := n3_; have HB := n4_; clear n0_ n1_ n2_ n3_ n4_; clear hb ho19; obtain ⟨Ao20, co20, eo20⟩ := Kd.R_slice HO196.out; subst eo20) | ((with_reducible refine gate_dst (N := 4) rfl ?_); refine box_event ?hg (N := 4) ?hd (cs := #[.slice none 0 0, .int .i64 0]) (t := 24) ?hr ?_; (case hd => rfl); (case hg => rfl); (case hr => first | (go_simp; done) | (go_simp; rfl)); intro gb197 hg w21 hbox hb; have n0_ := am (Kd.R_below (by (with_reducible repeat (first | apply Kd.R_alloc | apply Kd.R_drewN | apply Kd.R_drew)); exact HO187.out) hb); have n1_ := am (Kd.N_below (Kd.N_elderB (by (with_reducible repeat (first | apply Kd.N_alloc | apply Kd.N_drewN | apply Kd.N_drew)); exact HO191.out) gb197 (Nat.le_of_eq hg.symm)) hb); have n2_ := am (Kd.R_below (by (with_reducible repeat (first | apply Kd.R_alloc | apply Kd.R_drewN | apply Kd.R_drew)); exact HO196.out) hb); have n3_ := am (blk_below (g := gb193) (o := .cells #[.slice Ao16 t185.length co16, .int .i64 t188] 24 (0, 0)) (by (with_reducible repeat (first | refine blk_drewN ?_ _ | refine blk_drew ?_ | refine blk_alloc ?_ _)); exact BK193.out) hb); have n4_ := am (below_step (by repeat (first | (with_reducible first | exact HB.out | apply below_alloc | apply pw_below_drewN | apply below_drew1 | refine below_set ?_ GE193.out) | exact HB.out)) hb); have n5_ := am (hbox); have n6_ := am ((by rw [hg]; exact (below_size (by repeat (first | (with_reducible first | exact HB.out | apply below_alloc | apply pw_below_drewN | apply below_drew1 | refine below_set ?_ GE193.out) | exact HB.out))) : w.heap.size ≤ gb197)); have n7_ := am ((by rw [hg]; exact (below_size (by repeat (first | (with_reducible first | exact HB.out | apply below_alloc | apply pw_below_drewN | apply below_drew1 | refine below_set ?_ GE193.out) | exact HB.out))) : w.heap.size ≤ gb197)); have n8_ := am ((by rw [hg]; exact Nat.ne_of_lt (blk_lt (g := gb193) (o := .cells #[.slice Ao16 t185.length co16, .int .i64 t188] 24 (0, 0)) (by (with_reducible repeat (first | refine blk_drewN ?_ _ | refine blk_drew ?_ | refine blk_alloc ?_ _)); exact BK193.out)) : gb193 ≠ gb197)); have n9_ := am ((by rw [hg]; exact Nat.ne_of_gt (blk_lt (g := gb193) (o := .cells #[.slice Ao16 t185.length co16, .int .i64 t188] 24 (0, 0)) (by (with_reducible repeat (first | refine blk_drewN ?_ _ | refine blk_drew ?_ | refine blk_alloc ?_ _)); exact BK193.out)) : gb197 ≠ gb193)); clear HO187; clear HO191; clear HO196; clear BK193; clear HB; have HO187 := n0_; have HO191 := n1_; have HO196 := n2_; have BK193 := n3_; have HB := n4_; have BK197 := n5_; have GW197 := n6_; have GE197 := n7_; have NB193_197 := n8_; have NB197_193 := n9_; clear n0_ n1_ n2_ n3_ n4_ n5_ n6_ n7_ n8_ n9_; clear hb hbox hg; have hnb22 := NB197_193.out; have hnc22 := NB193_197.out; have hcz23_0 : w21.cell? ⟨gb197, 0, none⟩ = some (.slice none 0 0) := (blk_cell BK197.out 0).trans rfl; have hcz23_1 : w21.cell? ⟨gb197, 1, none⟩ = some (.int .i64 0) := (blk_cell BK197.out 1).trans rfl; have hfz23_0 := blk_frozen BK197.out 0; have hfz23_1 := blk_frozen BK197.out 1) | ((with_reducible refine gate_dst (N := 16) rfl ?_); refine Kd.R_lit (Kd.int .i64) _ 3 ?hg (N := 16) ?hd (xs := ([2] : List Int)) (inner := [.int .i64 2]) (ok := fun _ => True) (okp := fun _ => True) ?hr ?hp (fun _ hk => hk) trivial (Below.refl _ _) (Nat.le_refl _) (by simp) ?_; (case hd => rfl); (case hg => rfl); (case hr => first | (go_simp; done) | (go_simp; rfl)); (case hp => exact (Reps.one (show Kd.M (Kd.int .i64) _ _ _ 2 [.int .i64 2] from rfl) (Reps.none _ _))); intro v199 w24 ho25 hb hg_ hnew_; clear hg_ hnew_; (first | rw [← Ny198.out] at ho25 | (simp only [Int.reduceToNat] at ho25; rw [← Ny198.out] at ho25)); have n0_ := am (Kd.R_elder' (by (with_reducible repeat (first | apply Kd.R_alloc | apply Kd.R_drewN | apply Kd.R_drew)); exact (Kd.R_mono (Kd.R_far (p := ⟨gb197, 1, none⟩) (Kd.R_far (p := ⟨gb197, 0, none⟩) (Kd.R_types HO187.out BK197.out (by decide)) (fun _ hk => hk.2) (.slice Ao20 y194.length co20)) (fun _ hk => hk.2) (.int .i64 1)) (fun _ h_ => h_.1))) (Kd.R_base ho25) hb); have n1_ := am (Kd.N_elder' (by (with_reducible repeat (first | apply Kd.N_alloc | apply Kd.N_drewN | apply Kd.N_drew)); exact (Kd.N_mono (Kd.N_far (p := ⟨gb197, 1, none⟩) (Kd.N_far (p := ⟨gb197, 0, none⟩) (Kd.N_mono HO191.out (fun k_ hk => (⟨hk, hk.2⟩ : _ ∧ k_ ≠ gb197))) (fun _ hk => hk.2) (.slice Ao20 y194.length co20)) (fun _ hk => hk.2) (.int .i64 1)) (fun _ h_ => h_.1))) (Kd.R_base ho25) hb); have n2_ := am (Kd.R_elder' (by (with_reducible repeat (first | apply Kd.R_alloc | apply Kd.R_drewN | apply Kd.R_drew)); exact (Kd.R_mono (Kd.R_far (p := ⟨gb197, 1, none⟩) (Kd.R_far (p := ⟨gb197, 0, none⟩) (Kd.R_types HO196.out BK197.out (by decide)) (fun _ hk => hk.2) (.slice Ao20 y194.length co20)) (fun _ hk => hk.2) (.int .i64 1)) (fun _ h_ => h_.1))) (Kd.R_base ho25) hb); have n3_ := am (Kd.R_lower (Kd.R_new' (Kd.R_new' ho25 (Kd.R_lt (by (with_reducible repeat (first | apply Kd.R_alloc | apply Kd.R_drewN | apply Kd.R_drew)); exact (Kd.R_mono (Kd.R_far (p := ⟨gb197, 1, none⟩) (Kd.R_far (p := ⟨gb197, 0, none⟩) (Kd.R_types HO187.out BK197.out (by decide)) (fun _ hk => hk.2) (.slice Ao20 y194.length co20)) (fun _ hk => hk.2) (.int .i64 1)) (fun _ h_ => h_.1))))) (Kd.R_lt (by (with_reducible repeat (first | apply Kd.R_alloc | apply Kd.R_drewN | apply Kd.R_drew)); exact (Kd.R_mono (Kd.R_far (p := ⟨gb197, 1, none⟩) (Kd.R_far (p := ⟨gb197, 0, none⟩) (Kd.R_types HO196.out BK197.out (by decide)) (fun _ hk => hk.2) (.slice Ao20 y194.length co20)) (fun _ hk => hk.2) (.int .i64 1)) (fun _ h_ => h_.1))))) (below_size (by repeat (first | (with_reducible first | exact HB.out | apply below_alloc | apply pw_below_drewN | apply below_drew1 | refine below_set ?_ GE193.out | refine below_set ?_ GE197.out) | exact HB.out)))); have n4_ := am (blk_below (g := gb193) (o := .cells #[.slice Ao16 t185.length co16, .int .i64 t188] 24 (0, 0)) (by (with_reducible repeat (first | refine blk_drewN ?_ _ | refine blk_drew ?_ | refine blk_alloc ?_ _)); refine blk_far ?_ NB193_197.out _; (with_reducible repeat (first | refine blk_drewN ?_ _ | refine blk_drew ?_ | refine blk_alloc ?_ _)); refine blk_far ?_ NB193_197.out _; (with_reducible repeat (first | refine blk_drewN ?_ _ | refine blk_drew ?_ | refine blk_alloc ?_ _)); exact BK193.out) hb); have n5_ := am (blk_below (g := gb197) (o := .cells #[.slice Ao20 y194.length co20, .int .i64 1] 24 (0, 0)) (by (with_reducible repeat (first | refine blk_drewN ?_ _ | refine blk_drew ?_ | refine blk_alloc ?_ _)); refine blk_put (cs := #[.slice Ao20 y194.length co20, .int .i64 0]) ?_ 1 _ rfl; (with_reducible repeat (first | refine blk_drewN ?_ _ | refine blk_drew ?_ | refine blk_alloc ?_ _)); refine blk_put (cs := #[.slice none 0 0, .int .i64 0]) ?_ 0 _ rfl; (with_reducible repeat (first | refine blk_drewN ?_ _ | refine blk_drew ?_ | refine blk_alloc ?_ _)); exact BK197.out) hb); have n6_ := am (below_step (by repeat (first | (with_reducible first | exact HB.out | apply below_alloc | apply pw_below_drewN | apply below_drew1 | refine below_set ?_ GE193.out | refine below_set ?_ GE197.out) | exact HB.out)) hb); clear HO187; clear HO191; clear HO196; clear BK193; clear BK197; clear HB; have HO187 := n0_; have HO191 := n1_; have HO196 := n2_; have HO200 := n3_; have BK193 := n4_; have BK197 := n5_; have HB := n6_; clear n0_ n1_ n2_ n3_ n4_ n5_ n6_; clear hb ho25) | ((with_reducible refine gate_dst (N := 17) rfl ?_); refine Kd.R_lit (Kd.int .i64) _ 3 ?hg (N := 17) ?hd (xs := ([7] : List Int)) (inner := [.int .i64 7]) (ok := fun _ => True) (okp := fun _ => True) ?hr ?hp (fun _ hk => hk) trivial (Below.refl _ _) (Nat.le_refl _) (by simp) ?_; (case hd => rfl); (case hg => rfl); (case hr => first | (go_simp; done) | (go_simp; rfl)); (case hp => exact (Reps.one (show Kd.M (Kd.int .i64) _ _ _ 7 [.int .i64 7] from rfl) (Reps.none _ _))); intro v202 w26 ho27 hb hg_ hnew_; clear hg_ hnew_; (first | rw [← Ny201.out] at ho27 | (simp only [Int.reduceToNat] at ho27; rw [← Ny201.out] at ho27)); have n0_ := am (Kd.R_elder' (by (with_reducible repeat (first | apply Kd.R_alloc | apply Kd.R_drewN | apply Kd.R_drew)); exact HO187.out) (Kd.R_base ho27) hb); have n1_ := am (Kd.N_elder' (by (with_reducible repeat (first | apply Kd.N_alloc | apply Kd.N_drewN | apply Kd.N_drew)); exact HO191.out) (Kd.R_base ho27) hb); have n2_ := am (Kd.R_elder' (by (with_reducible repeat (first | apply Kd.R_alloc | apply Kd.R_drewN | apply Kd.R_drew)); exact HO196.out) (Kd.R_base ho27) hb); have n3_ := am (Kd.R_elder' (by (with_reducible repeat (first | apply Kd.R_alloc | apply Kd.R_drewN | apply Kd.R_drew)); exact HO200.out) (Kd.R_base ho27) hb); have n4_ := am (Kd.R_lower (Kd.R_new' (Kd.R_new' (Kd.R_new' ho27 (Kd.R_lt (by (with_reducible repeat (first | apply Kd.R_alloc | apply Kd.R_drewN | apply Kd.R_drew)); exact HO187.out))) (Kd.R_lt (by (with_reducible repeat (first | apply Kd.R_alloc | apply Kd.R_drewN | apply Kd.R_drew)); exact HO196.out))) (Kd.R_lt (by (with_reducible repeat (first | apply Kd.R_alloc | apply Kd.R_drewN | apply Kd.R_drew)); exact HO200.out))) (below_size (by repeat (first | (with_reducible first | exact HB.out | apply below_alloc | apply pw_below_drewN | apply below_drew1 | refine below_set ?_ GE193.out | refine below_set ?_ GE197.out) | exact HB.out)))); have n5_ := am (blk_below (g := gb193) (o := .cells #[.slice Ao16 t185.length co16, .int .i64 t188] 24 (0, 0)) (by (with_reducible repeat (first | refine blk_drewN ?_ _ | refine blk_drew ?_ | refine blk_alloc ?_ _)); exact BK193.out) hb); have n6_ := am (blk_below (g := gb197) (o := .cells #[.slice Ao20 y194.length co20, .int .i64 1] 24 (0, 0)) (by (with_reducible repeat (first | refine blk_drewN ?_ _ | refine blk_drew ?_ | refine blk_alloc ?_ _)); exact BK197.out) hb); have n7_ := am (below_step (by repeat (first | (with_reducible first | exact HB.out | apply below_alloc | apply pw_below_drewN | apply below_drew1 | refine below_set ?_ GE193.out | refine below_set ?_ GE197.out) | exact HB.out)) hb); clear HO187; clear HO191; clear HO196; clear HO200; clear BK193; clear BK197; clear HB; have HO187 := n0_; have HO191 := n1_; have HO196 := n2_; have HO200 := n3_; have HO203 := n4_; have BK193 := n5_; have BK197 := n6_; have HB := n7_; clear n0_ n1_ n2_ n3_ n4_ n5_ n6_ n7_; clear hb ho27; obtain ⟨Ao28, co28, eo28⟩ := Kd.R_slice HO203.out; subst eo28; obtain ⟨Ao29, co29, eo29⟩ := Kd.R_slice HO200.out; subst eo29) | ((with_reducible refine gate_dst (N := 19) rfl ?_); refine Kd.N_lit k33 _ 33 ?hg (N' := 19) ?hd (xs := ([(⟨y198, y201⟩ : S33)] : List (S33))) (inner := [.slice Ao29 y198.length co29, .slice Ao28 y201.length co28]) (ok := (fun k_ => some k_ ≠ (.slice Ao16 t185.length co16 : Value).ownBlock ∧ some k_ ≠ (v190 : Value).ownBlock ∧ some k_ ≠ (.slice Ao20 y194.length co20 : Value).ownBlock ∧ k_ ≠ gb193 ∧ k_ ≠ gb197)) (okp := (fun k_ => some k_ ≠ (.slice Ao16 t185.length co16 : Value).ownBlock ∧ some k_ ≠ (v190 : Value).ownBlock ∧ some k_ ≠ (.slice Ao20 y194.length co20 : Value).ownBlock ∧ k_ ≠ gb193 ∧ k_ ≠ gb197)) ?hr ?hp (fun _ hk => hk) ((show ∀ k_, w26.heap.size ≤ k_ → (fun k_ => some k_ ≠ (.slice Ao16 t185.length co16 : Value).ownBlock ∧ some k_ ≠ (v190 : Value).ownBlock ∧ some k_ ≠ (.slice Ao20 y194.length co20 : Value).ownBlock ∧ k_ ≠ gb193 ∧ k_ ≠ gb197) k_ from fun k_ hk => ⟨Kd.fresh' (Kd.R_lt (by (with_reducible repeat (first | apply Kd.R_alloc | apply Kd.R_drewN | apply Kd.R_drew)); exact HO187.out)) k_ hk, Kd.fresh' (Kd.N_lt (by (with_reducible repeat (first | apply Kd.N_alloc | apply Kd.N_drewN | apply Kd.N_drew)); exact HO191.out)) k_ hk, Kd.fresh' (Kd.R_lt (by (with_reducible repeat (first | apply Kd.R_alloc | apply Kd.R_drewN | apply Kd.R_drew)); exact HO196.out)) k_ hk, Kd.freshB (g := gb193) (o := .cells #[.slice Ao16 t185.length co16, .int .i64 t188] 24 (0, 0)) (by (with_reducible repeat (first | refine blk_drewN ?_ _ | refine blk_drew ?_ | refine blk_alloc ?_ _)); exact BK193.out) k_ hk, Kd.freshB (g := gb197) (o := .cells #[.slice Ao20 y194.length co20, .int .i64 1] 24 (0, 0)) (by (with_reducible repeat (first | refine blk_drewN ?_ _ | refine blk_drew ?_ | refine blk_alloc ?_ _)); exact BK197.out) k_ hk⟩) _ (Nat.le_refl _)) (Below.refl _ _) (Nat.le_refl _) (by simp) ?_; (case hd => rfl); (case hg => rfl); (case hr => first | (go_simp; done) | (go_simp; rfl)); (case hp => exact (Reps.c2 (show Kd.FK k33 _ _ (⟨y198, y201⟩ : S33) [.slice Ao29 y198.length co29, .slice Ao28 y201.length co28] from (k33_mkF _ _ (⟨y198, y201⟩ : S33) (Kd.R_reads' (Kd.R_mono (ok' := (fun k_ => some k_ ≠ (.slice Ao16 t185.length co16 : Value).ownBlock ∧ some k_ ≠ (v190 : Value).ownBlock ∧ some k_ ≠ (.slice Ao20 y194.length co20 : Value).ownBlock ∧ k_ ≠ gb193 ∧ k_ ≠ gb197)) (Kd.R_types (Kd.R_types (Kd.R_apart' (HO200.out) (Kd.N_typed HO191.out) (by decide)) BK193.out (by decide)) BK197.out (by decide)) (fun k_ hk => ⟨hk.1.1.1.1.1.2, ⟨hk.1.1.2, ⟨hk.1.1.1.1.2, ⟨hk.1.2, hk.2⟩⟩⟩⟩))).2.1 (Kd.R_F (Kd.R_mono (ok' := (fun k_ => some k_ ≠ (.slice Ao16 t185.length co16 : Value).ownBlock ∧ some k_ ≠ (v190 : Value).ownBlock ∧ some k_ ≠ (.slice Ao20 y194.length co20 : Value).ownBlock ∧ k_ ≠ gb193 ∧ k_ ≠ gb197)) (Kd.R_types (Kd.R_types (Kd.R_apart' (HO200.out) (Kd.N_typed HO191.out) (by decide)) BK193.out (by decide)) BK197.out (by decide)) (fun k_ hk => ⟨hk.1.1.1.1.1.2, ⟨hk.1.1.2, ⟨hk.1.1.1.1.2, ⟨hk.1.2, hk.2⟩⟩⟩⟩))) (Kd.R_reads' (Kd.R_mono (ok' := (fun k_ => some k_ ≠ (.slice Ao16 t185.length co16 : Value).ownBlock ∧ some k_ ≠ (v190 : Value).ownBlock ∧ some k_ ≠ (.slice Ao20 y194.length co20 : Value).ownBlock ∧ k_ ≠ gb193 ∧ k_ ≠ gb197)) (Kd.R_types (Kd.R_types (Kd.R_apart' (HO203.out) (Kd.N_typed HO191.out) (by decide)) BK193.out (by decide)) BK197.out (by decide)) (fun k_ hk => ⟨hk.1.1.1.1.1.2, ⟨hk.1.1.2, ⟨hk.1.1.1.1.2, ⟨hk.1.2, hk.2⟩⟩⟩⟩))).2.1 (Kd.R_F (Kd.R_mono (ok' := (fun k_ => some k_ ≠ (.slice Ao16 t185.length co16 : Value).ownBlock ∧ some k_ ≠ (v190 : Value).ownBlock ∧ some k_ ≠ (.slice Ao20 y194.length co20 : Value).ownBlock ∧ k_ ≠ gb193 ∧ k_ ≠ gb197)) (Kd.R_types (Kd.R_types (Kd.R_apart' (HO203.out) (Kd.N_typed HO191.out) (by decide)) BK193.out (by decide)) BK197.out (by decide)) (fun k_ hk => ⟨hk.1.1.1.1.1.2, ⟨hk.1.1.2, ⟨hk.1.1.1.1.2, ⟨hk.1.2, hk.2⟩⟩⟩⟩))))) (Reps.none _ _))); intro v205 w30 ho31 hb hg_ hnew_; clear hg_ hnew_; (first | rw [← Ny204.out] at ho31 | (simp only [Int.reduceToNat] at ho31; rw [← Ny204.out] at ho31)); have n0_ := am (Kd.R_below (by (with_reducible repeat (first | apply Kd.R_alloc | apply Kd.R_drewN | apply Kd.R_drew)); exact HO187.out) hb); have n1_ := am (Kd.N_elder' (by (with_reducible repeat (first | apply Kd.N_alloc | apply Kd.N_drewN | apply Kd.N_drew)); exact HO191.out) (by first | exact Kd.N_base ho31 | exact Kd.S_base ho31 | exact Kd.R_base ho31) hb); have n2_ := am (Kd.R_below (by (with_reducible repeat (first | apply Kd.R_alloc | apply Kd.R_drewN | apply Kd.R_drew)); exact HO196.out) hb); have n3_ := am (Kd.N_lower ho31 (below_size (by repeat (first | (with_reducible first | exact HB.out | apply below_alloc | apply pw_below_drewN | apply below_drew1 | refine below_set ?_ GE193.out | refine below_set ?_ GE197.out) | exact HB.out)))); have n4_ := am (blk_below (g := gb193) (o := .cells #[.slice Ao16 t185.length co16, .int .i64 t188] 24 (0, 0)) (by (with_reducible repeat (first | refine blk_drewN ?_ _ | refine blk_drew ?_ | refine blk_alloc ?_ _)); exact BK193.out) hb); have n5_ := am (blk_below (g := gb197) (o := .cells #[.slice Ao20 y194.length co20, .int .i64 1] 24 (0, 0)) (by (with_reducible repeat (first | refine blk_drewN ?_ _ | refine blk_drew ?_ | refine blk_alloc ?_ _)); exact BK197.out) hb); have n6_ := am (below_step (by repeat (first | (with_reducible first | exact HB.out | apply below_alloc | apply pw_below_drewN | apply below_drew1 | refine below_set ?_ GE193.out | refine below_set ?_ GE197.out) | exact HB.out)) hb); clear HO187; clear HO191; clear HO196; clear BK193; clear BK197; clear HB; clear HO200; clear HO203; have HO187 := n0_; have HO191 := n1_; have HO196 := n2_; have HO206 := n3_; have BK193 := n4_; have BK197 := n5_; have HB := n6_; clear n0_ n1_ n2_ n3_ n4_ n5_ n6_; clear hb ho31; have hcz32_0 : w30.cell? ⟨gb197, 0, none⟩ = some (.slice Ao20 y194.length co20) := (blk_cell BK197.out 0).trans rfl; have hcz32_1 : w30.cell? ⟨gb197, 1, none⟩ = some (.int .i64 1) := (blk_cell BK197.out 1).trans rfl; have hfz32_0 := blk_frozen BK197.out 0; have hfz32_1 := blk_frozen BK197.out 1; obtain ⟨Ao33, co33, eo33⟩ := Kd.N_slice HO206.out; subst eo33) | ((with_reducible refine gate_callee (f := 22) rfl ?_); refine goesL_ (some 23) rfl rfl Try.func22 (by kernel_rfl) rfl #[.agg #[.slice Ao20 y194.length co20, .int .i64 1], .slice Ao33 y204.length co33] rfl (by (try simp only [List.map_toArray, List.map_cons, List.map_nil]); first | done | rfl | (simp only [List.length_drop, List.length_take]; rfl)) ?_; (with_reducible refine (rec_Encode.calls k _ _ y194 1 _ _ y204 t207 _ ?side1 ?side2 ?side3 ?side4 A2.out).mono ?_); (case side1 => repeat (first | exact (Kd.R_reads' HO196.out).2.2 | (with_reducible refine Kd.C_alloc ?_ _) | (with_reducible refine Kd.C_drewN ?_ _) | (with_reducible refine Kd.C_drew ?_))); (case side2 => exact (Kd.R_reads' HO196.out).2.1); (case side3 => repeat (first | exact (Kd.N_reads' HO206.out).2.2 | (with_reducible refine Kd.C_alloc ?_ _) | (with_reducible refine Kd.C_drewN ?_ _) | (with_reducible refine Kd.C_drew ?_))); (case side4 => exact (Kd.N_reads' HO206.out).2.1); rintro e w34 ⟨v208, rfl, ho0, hb⟩; refine ⟨_, rfl, ?_⟩; have n0_ := am (Kd.R_below (by (with_reducible repeat (first | apply Kd.R_alloc | apply Kd.R_drewN | apply Kd.R_drew)); exact HO187.out) hb); have n1_ := am (Kd.N_elder' (by (with_reducible repeat (first | apply Kd.N_alloc | apply Kd.N_drewN | apply Kd.N_drew)); exact HO191.out) (Kd.R_base ho0) hb); have n2_ := am (Kd.R_below (by (with_reducible repeat (first | apply Kd.R_alloc | apply Kd.R_drewN | apply Kd.R_drew)); exact HO196.out) hb); have n3_ := am (Kd.N_elder' (by (with_reducible repeat (first | apply Kd.N_alloc | apply Kd.N_drewN | apply Kd.N_drew)); exact HO206.out) (Kd.R_base ho0) hb); have n4_ := am (Kd.R_lower ho0 (below_size (by repeat (first | (with_reducible first | exact HB.out | apply below_alloc | apply pw_below_drewN | apply below_drew1 | refine below_set ?_ GE193.out | refine below_set ?_ GE197.out) | exact HB.out)))); have n5_ := am (blk_below (g := gb193) (o := .cells #[.slice Ao16 t185.length co16, .int .i64 t188] 24 (0, 0)) (by (with_reducible repeat (first | refine blk_drewN ?_ _ | refine blk_drew ?_ | refine blk_alloc ?_ _)); exact BK193.out) hb); have n6_ := am (blk_below (g := gb197) (o := .cells #[.slice Ao20 y194.length co20, .int .i64 1] 24 (0, 0)) (by (with_reducible repeat (first | refine blk_drewN ?_ _ | refine blk_drew ?_ | refine blk_alloc ?_ _)); exact BK197.out) hb); have n7_ := am (below_step (by repeat (first | (with_reducible first | exact HB.out | apply below_alloc | apply pw_below_drewN | apply below_drew1 | refine below_set ?_ GE193.out | refine below_set ?_ GE197.out) | exact HB.out)) hb); clear HO187; clear HO191; clear HO196; clear HO206; clear BK193; clear BK197; clear HB; have HO187 := n0_; have HO191 := n1_; have HO196 := n2_; have HO206 := n3_; have HO209 := n4_; have BK193 := n5_; have BK197 := n6_; have HB := n7_; clear n0_ n1_ n2_ n3_ n4_ n5_ n6_ n7_; (try clear hb); (try clear hb2); (try clear hk); (try clear hi); (try clear ho0); obtain ⟨Ao35, co35, eo35⟩ := Kd.R_slice HO209.out; subst eo35) | ((with_reducible refine gate_callee (f := 23) rfl ?_); refine goesL_ (some 24) rfl rfl Try.func23 (by kernel_rfl) rfl #[.slice Ao35 t207.length co35] rfl (by (try simp only [List.map_toArray, List.map_cons, List.map_nil]); first | done | rfl | (simp only [List.length_drop, List.length_take]; rfl)) ?_; (with_reducible refine (rec_Decode.calls _ _ t207 t210 t213 t214 t217 _ ?side1 ?side2 A3.out).mono ?_); (case side1 => repeat (first | exact (Kd.R_reads' HO209.out).2.2 | (with_reducible refine Kd.C_alloc ?_ _) | (with_reducible refine Kd.C_drewN ?_ _) | (with_reducible refine Kd.C_drew ?_))); (case side2 => exact (Kd.R_reads' HO209.out).2.1); rintro e w36 ⟨v211, v215, rfl, ho0, ho1, hb⟩; refine ⟨_, rfl, ?_⟩; have n0_ := am (Kd.R_elder' (by (with_reducible repeat (first | apply Kd.R_alloc | apply Kd.R_drewN | apply Kd.R_drew)); exact HO187.out) (Kd.R_base ho0) hb); have n1_ := am (Kd.N_mono (Kd.N_told (Kd.N_told (Kd.N_old (by (with_reducible repeat (first | apply Kd.N_alloc | apply Kd.N_drewN | apply Kd.N_drew)); exact HO191.out) hb) (Kd.R_base ho0)) (by first | exact Kd.N_base ho1 | exact Kd.S_base ho1 | exact Kd.R_base ho1)) (fun _ h_ => h_.1)); have n2_ := am (Kd.R_elder' (by (with_reducible repeat (first | apply Kd.R_alloc | apply Kd.R_drewN | apply Kd.R_drew)); exact HO196.out) (Kd.R_base ho0) hb); have n3_ := am (Kd.N_mono (Kd.N_told (Kd.N_told (Kd.N_old (by (with_reducible repeat (first | apply Kd.N_alloc | apply Kd.N_drewN | apply Kd.N_drew)); exact HO206.out) hb) (Kd.R_base ho0)) (by first | exact Kd.N_base ho1 | exact Kd.S_base ho1 | exact Kd.R_base ho1)) (fun _ h_ => h_.1)); have n4_ := am (Kd.R_below (by (with_reducible repeat (first | apply Kd.R_alloc | apply Kd.R_drewN | apply Kd.R_drew)); exact HO209.out) hb); have n5_ := am (Kd.R_lower (Kd.R_new' (Kd.R_new' ho0 (Kd.R_lt (by (with_reducible repeat (first | apply Kd.R_alloc | apply Kd.R_drewN | apply Kd.R_drew)); exact HO187.out))) (Kd.R_lt (by (with_reducible repeat (first | apply Kd.R_alloc | apply Kd.R_drewN | apply Kd.R_drew)); exact HO196.out))) (below_size (by repeat (first | (with_reducible first | exact HB.out | apply below_alloc | apply pw_below_drewN | apply below_drew1 | refine below_set ?_ GE193.out | refine below_set ?_ GE197.out) | exact HB.out)))); have n6_ := am (Kd.N_lower (Kd.N_mono (ok' := fun k_ => some k_ ≠ (v211 : Value).ownBlock ∧ some k_ ≠ (.slice Ao16 t185.length co16 : Value).ownBlock ∧ some k_ ≠ (v190 : Value).ownBlock ∧ some k_ ≠ (.slice Ao20 y194.length co20 : Value).ownBlock ∧ some k_ ≠ (.slice Ao33 y204.length co33 : Value).ownBlock ∧ some k_ ≠ (.slice Ao35 t207.length co35 : Value).ownBlock ∧ k_ ≠ gb193 ∧ k_ ≠ gb197) (Kd.S_N (Kd.S_bound ho1)) (fun k_ hk_ => ⟨hk_.1, (Kd.fresh' (Kd.R_lt (by (with_reducible repeat (first | apply Kd.R_alloc | apply Kd.R_drewN | apply Kd.R_drew)); exact HO187.out)) k_ hk_.2.1), (Kd.fresh' (Kd.N_lt (by (with_reducible repeat (first | apply Kd.N_alloc | apply Kd.N_drewN | apply Kd.N_drew)); exact HO191.out)) k_ hk_.2.1), (Kd.fresh' (Kd.R_lt (by (with_reducible repeat (first | apply Kd.R_alloc | apply Kd.R_drewN | apply Kd.R_drew)); exact HO196.out)) k_ hk_.2.1), (Kd.fresh' (Kd.N_lt (by (with_reducible repeat (first | apply Kd.N_alloc | apply Kd.N_drewN | apply Kd.N_drew)); exact HO206.out)) k_ hk_.2.1), (Kd.fresh' (Kd.R_lt (by (with_reducible repeat (first | apply Kd.R_alloc | apply Kd.R_drewN | apply Kd.R_drew)); exact HO209.out)) k_ hk_.2.1), (Kd.freshB (g := gb193) (o := .cells #[.slice Ao16 t185.length co16, .int .i64 t188] 24 (0, 0)) (by (with_reducible repeat (first | refine blk_drewN ?_ _ | refine blk_drew ?_ | refine blk_alloc ?_ _)); exact BK193.out) k_ hk_.2.1), (Kd.freshB (g := gb197) (o := .cells #[.slice Ao20 y194.length co20, .int .i64 1] 24 (0, 0)) (by (with_reducible repeat (first | refine blk_drewN ?_ _ | refine blk_drew ?_ | refine blk_alloc ?_ _)); exact BK197.out) k_ hk_.2.1)⟩)) (below_size (by repeat (first | (with_reducible first | exact HB.out | apply below_alloc | apply pw_below_drewN | apply below_drew1 | refine below_set ?_ GE193.out | refine below_set ?_ GE197.out) | exact HB.out)))); have n7_ := am (blk_below (g := gb193) (o := .cells #[.slice Ao16 t185.length co16, .int .i64 t188] 24 (0, 0)) (by (with_reducible repeat (first | refine blk_drewN ?_ _ | refine blk_drew ?_ | refine blk_alloc ?_ _)); exact BK193.out) hb); have n8_ := am (blk_below (g := gb197) (o := .cells #[.slice Ao20 y194.length co20, .int .i64 1] 24 (0, 0)) (by (with_reducible repeat (first | refine blk_drewN ?_ _ | refine blk_drew ?_ | refine blk_alloc ?_ _)); exact BK197.out) hb); have n9_ := am (below_step (by repeat (first | (with_reducible first | exact HB.out | apply below_alloc | apply pw_below_drewN | apply below_drew1 | refine below_set ?_ GE193.out | refine below_set ?_ GE197.out) | exact HB.out)) hb); clear HO187; clear HO191; clear HO196; clear HO206; clear HO209; clear BK193; clear BK197; clear HB; have HO187 := n0_; have HO191 := n1_; have HO196 := n2_; have HO206 := n3_; have HO209 := n4_; have HO212 := n5_; have HO216 := n6_; have BK193 := n7_; have BK197 := n8_; have HB := n9_; clear n0_ n1_ n2_ n3_ n4_ n5_ n6_ n7_ n8_ n9_; (try clear hb); (try clear hb2); (try clear hk); (try clear hi); (try clear ho0); (try clear ho1)) | ((with_reducible refine gate_dst (N := 6) rfl ?_); refine box_event ?hg (N := 6) ?hd (cs := #[.slice none 0 0, .int .i64 0]) (t := 24) ?hr ?_; (case hd => rfl); (case hg => rfl); (case hr => first | (go_simp; done) | (go_simp; rfl)); intro gb218 hg w37 hbox hb; have n0_ := am (Kd.R_below (by (with_reducible repeat (first | apply Kd.R_alloc | apply Kd.R_drewN | apply Kd.R_drew)); exact HO187.out) hb); have n1_ := am (Kd.N_below (Kd.N_elderB (by (with_reducible repeat (first | apply Kd.N_alloc | apply Kd.N_drewN | apply Kd.N_drew)); exact HO191.out) gb218 (Nat.le_of_eq hg.symm)) hb); have n2_ := am (Kd.R_below (by (with_reducible repeat (first | apply Kd.R_alloc | apply Kd.R_drewN | apply Kd.R_drew)); exact HO196.out) hb); have n3_ := am (Kd.N_below (Kd.N_elderB (by (with_reducible repeat (first | apply Kd.N_alloc | apply Kd.N_drewN | apply Kd.N_drew)); exact HO206.out) gb218 (Nat.le_of_eq hg.symm)) hb); have n4_ := am (Kd.R_below (by (with_reducible repeat (first | apply Kd.R_alloc | apply Kd.R_drewN | apply Kd.R_drew)); exact HO209.out) hb); have n5_ := am (Kd.R_below (by (with_reducible repeat (first | apply Kd.R_alloc | apply Kd.R_drewN | apply Kd.R_drew)); exact HO212.out) hb); have n6_ := am (Kd.N_below (Kd.N_elderB (by (with_reducible repeat (first | apply Kd.N_alloc | apply Kd.N_drewN | apply Kd.N_drew)); exact HO216.out) gb218 (Nat.le_of_eq hg.symm)) hb); have n7_ := am (blk_below (g := gb193) (o := .cells #[.slice Ao16 t185.length co16, .int .i64 t188] 24 (0, 0)) (by (with_reducible repeat (first | refine blk_drewN ?_ _ | refine blk_drew ?_ | refine blk_alloc ?_ _)); exact BK193.out) hb); have n8_ := am (blk_below (g := gb197) (o := .cells #[.slice Ao20 y194.length co20, .int .i64 1] 24 (0, 0)) (by (with_reducible repeat (first | refine blk_drewN ?_ _ | refine blk_drew ?_ | refine blk_alloc ?_ _)); exact BK197.out) hb); have n9_ := am (below_step (by repeat (first | (with_reducible first | exact HB.out | apply below_alloc | apply pw_below_drewN | apply below_drew1 | refine below_set ?_ GE193.out | refine below_set ?_ GE197.out) | exact HB.out)) hb); have n10_ := am (hbox); have n11_ := am ((by rw [hg]; exact (below_size (by repeat (first | (with_reducible first | exact HB.out | apply below_alloc | apply pw_below_drewN | apply below_drew1 | refine below_set ?_ GE193.out | refine below_set ?_ GE197.out) | exact HB.out))) : w.heap.size ≤ gb218)); have n12_ := am ((by rw [hg]; exact (below_size (by repeat (first | (with_reducible first | exact HB.out | apply below_alloc | apply pw_below_drewN | apply below_drew1 | refine below_set ?_ GE193.out | refine below_set ?_ GE197.out) | exact HB.out))) : w.heap.size ≤ gb218)); have n13_ := am ((by rw [hg]; exact Nat.ne_of_lt (blk_lt (g := gb193) (o := .cells #[.slice Ao16 t185.length co16, .int .i64 t188] 24 (0, 0)) (by (with_reducible repeat (first | refine blk_drewN ?_ _ | refine blk_drew ?_ | refine blk_alloc ?_ _)); exact BK193.out)) : gb193 ≠ gb218)); have n14_ := am ((by rw [hg]; exact Nat.ne_of_gt (blk_lt (g := gb193) (o := .cells #[.slice Ao16 t185.length co16, .int .i64 t188] 24 (0, 0)) (by (with_reducible repeat (first | refine blk_drewN ?_ _ | refine blk_drew ?_ | refine blk_alloc ?_ _)); exact BK193.out)) : gb218 ≠ gb193)); have n15_ := am ((by rw [hg]; exact Nat.ne_of_lt (blk_lt (g := gb197) (o := .cells #[.slice Ao20 y194.length co20, .int .i64 1] 24 (0, 0)) (by (with_reducible repeat (first | refine blk_drewN ?_ _ | refine blk_drew ?_ | refine blk_alloc ?_ _)); exact BK197.out)) : gb197 ≠ gb218)); have n16_ := am ((by rw [hg]; exact Nat.ne_of_gt (blk_lt (g := gb197) (o := .cells #[.slice Ao20 y194.length co20, .int .i64 1] 24 (0, 0)) (by (with_reducible repeat (first | refine blk_drewN ?_ _ | refine blk_drew ?_ | refine blk_alloc ?_ _)); exact BK197.out)) : gb218 ≠ gb197)); clear HO187; clear HO191; clear HO196; clear HO206; clear HO209; clear HO212; clear HO216; clear BK193; clear BK197; clear HB; have HO187 := n0_; have HO191 := n1_; have HO196 := n2_; have HO206 := n3_; have HO209 := n4_; have HO212 := n5_; have HO216 := n6_; have BK193 := n7_; have BK197 := n8_; have HB := n9_; have BK218 := n10_; have GW218 := n11_; have GE218 := n12_; have NB193_218 := n13_; have NB218_193 := n14_; have NB197_218 := n15_; have NB218_197 := n16_; clear n0_ n1_ n2_ n3_ n4_ n5_ n6_ n7_ n8_ n9_ n10_ n11_ n12_ n13_ n14_ n15_ n16_; clear hb hbox hg; obtain ⟨Ao38, co38, eo38⟩ := Kd.R_slice HO212.out; subst eo38; have hnb39 := NB218_193.out; have hnc39 := NB193_218.out; have hnb40 := NB218_197.out; have hnc40 := NB197_218.out; have hcz41_0 : w37.cell? ⟨gb218, 0, none⟩ = some (.slice none 0 0) := (blk_cell BK218.out 0).trans rfl; have hcz41_1 : w37.cell? ⟨gb218, 1, none⟩ = some (.int .i64 0) := (blk_cell BK218.out 1).trans rfl; have hfz41_0 := blk_frozen BK218.out 0; have hfz41_1 := blk_frozen BK218.out 1))
       have n0_ : Aside0 (Kd.R (Kd.int .i64) 3 ((w37.setCell ⟨gb218, 0, none⟩ (.slice Ao38 t210.length co38)).setCell ⟨gb218, 1, none⟩ (.int .i64 t213)) w.heap.size (fun k_ => some k_ ≠ (.slice Ao20 y194.length co20 : Value).ownBlock ∧ some k_ ≠ (.slice Ao38 t210.length co38 : Value).ownBlock) (.slice Ao16 t185.length co16) t185) := ⟨by (with_reducible repeat (first | apply Kd.R_alloc | apply Kd.R_drewN | apply Kd.R_drew)); exact Kd.R_mono (Kd.R_far (p := ⟨gb218, 1, none⟩) (Kd.R_far (p := ⟨gb218, 0, none⟩) (Kd.R_types HO187.out BK218.out (by decide)) (fun _ hk => hk.2) (.slice Ao38 t210.length co38)) (fun _ hk => hk.2) (.int .i64 t213)) (fun _ hk => ⟨hk.1.1.1.1.2, hk.1.2⟩)⟩
       have n1_ : Aside0 (Kd.N k33 33 ((w37.setCell ⟨gb218, 0, none⟩ (.slice Ao38 t210.length co38)).setCell ⟨gb218, 1, none⟩ (.int .i64 t213)) w.heap.size (fun k_ => some k_ ≠ (.slice Ao16 t185.length co16 : Value).ownBlock ∧ some k_ ≠ (.slice Ao20 y194.length co20 : Value).ownBlock ∧ some k_ ≠ (.slice Ao33 y204.length co33 : Value).ownBlock ∧ some k_ ≠ (.slice Ao35 t207.length co35 : Value).ownBlock ∧ some k_ ≠ (.slice Ao38 t210.length co38 : Value).ownBlock ∧ some k_ ≠ (v215 : Value).ownBlock ∧ k_ ≠ gb193 ∧ k_ ≠ gb197 ∧ k_ ≠ gb218) v190 t189) := ⟨by (with_reducible repeat (first | apply Kd.N_alloc | apply Kd.N_drewN | apply Kd.N_drew)); exact Kd.N_mono (Kd.N_far (p := ⟨gb218, 1, none⟩) (Kd.N_far (p := ⟨gb218, 0, none⟩) (Kd.N_mono HO191.out (fun k_ hk => (⟨hk, hk.2⟩ : _ ∧ k_ ≠ gb218))) (fun _ hk => hk.2) (.slice Ao38 t210.length co38)) (fun _ hk => hk.2) (.int .i64 t213)) (fun _ hk => ⟨hk.1.1.1.1.1.1.1.1.1.1.1, ⟨hk.1.1.1.1.1.1.1.1.1.2, ⟨hk.1.1.1.1.1.2, ⟨hk.1.1.1.1.2, ⟨hk.1.1.1.2, ⟨hk.1.1.2, ⟨hk.1.1.1.1.1.1.1.1.1.1.2, ⟨hk.1.1.1.1.1.1.1.1.2, hk.1.2⟩⟩⟩⟩⟩⟩⟩⟩)⟩
       have n2_ : Aside0 (Kd.R (Kd.int .i64) 3 ((w37.setCell ⟨gb218, 0, none⟩ (.slice Ao38 t210.length co38)).setCell ⟨gb218, 1, none⟩ (.int .i64 t213)) w.heap.size (fun k_ => some k_ ≠ (.slice Ao16 t185.length co16 : Value).ownBlock ∧ some k_ ≠ (.slice Ao38 t210.length co38 : Value).ownBlock) (.slice Ao20 y194.length co20) y194) := ⟨by (with_reducible repeat (first | apply Kd.R_alloc | apply Kd.R_drewN | apply Kd.R_drew)); exact Kd.R_mono (Kd.R_far (p := ⟨gb218, 1, none⟩) (Kd.R_far (p := ⟨gb218, 0, none⟩) (Kd.R_types HO196.out BK218.out (by decide)) (fun _ hk => hk.2) (.slice Ao38 t210.length co38)) (fun _ hk => hk.2) (.int .i64 t213)) (fun _ hk => ⟨hk.1.1.1.1.2, hk.1.2⟩)⟩
       have n3_ : Aside0 (Kd.N k33 33 ((w37.setCell ⟨gb218, 0, none⟩ (.slice Ao38 t210.length co38)).setCell ⟨gb218, 1, none⟩ (.int .i64 t213)) w.heap.size (fun k_ => some k_ ≠ (.slice Ao16 t185.length co16 : Value).ownBlock ∧ some k_ ≠ (v190 : Value).ownBlock ∧ some k_ ≠ (.slice Ao20 y194.length co20 : Value).ownBlock ∧ some k_ ≠ (.slice Ao35 t207.length co35 : Value).ownBlock ∧ some k_ ≠ (.slice Ao38 t210.length co38 : Value).ownBlock ∧ some k_ ≠ (v215 : Value).ownBlock ∧ k_ ≠ gb193 ∧ k_ ≠ gb197 ∧ k_ ≠ gb218) (.slice Ao33 y204.length co33) y204) := ⟨by (with_reducible repeat (first | apply Kd.N_alloc | apply Kd.N_drewN | apply Kd.N_drew)); exact Kd.N_mono (Kd.N_far (p := ⟨gb218, 1, none⟩) (Kd.N_far (p := ⟨gb218, 0, none⟩) (Kd.N_mono HO206.out (fun k_ hk => (⟨hk, hk.2⟩ : _ ∧ k_ ≠ gb218))) (fun _ hk => hk.2) (.slice Ao38 t210.length co38)) (fun _ hk => hk.2) (.int .i64 t213)) (fun _ hk => ⟨hk.1.1.1.1.1.1, ⟨hk.1.1.1.1.1.2.1, ⟨hk.1.1.1.1.1.2.2.1, ⟨hk.1.1.1.1.2, ⟨hk.1.1.1.2, ⟨hk.1.1.2, ⟨hk.1.1.1.1.1.2.2.2.1, ⟨hk.1.1.1.1.1.2.2.2.2, hk.1.2⟩⟩⟩⟩⟩⟩⟩⟩)⟩
       have n4_ : Aside0 (Kd.R (Kd.int .u8) 5 ((w37.setCell ⟨gb218, 0, none⟩ (.slice Ao38 t210.length co38)).setCell ⟨gb218, 1, none⟩ (.int .i64 t213)) w.heap.size (fun _ => True) (.slice Ao35 t207.length co35) t207) := ⟨by (with_reducible repeat (first | apply Kd.R_alloc | apply Kd.R_drewN | apply Kd.R_drew)); exact Kd.R_mono (Kd.R_far (p := ⟨gb218, 1, none⟩) (Kd.R_far (p := ⟨gb218, 0, none⟩) (Kd.R_types HO209.out BK218.out (by decide)) (fun _ hk => hk.2) (.slice Ao38 t210.length co38)) (fun _ hk => hk.2) (.int .i64 t213)) (fun _ hk => trivial)⟩
       have n5_ : Aside0 (Kd.R (Kd.int .i64) 3 ((w37.setCell ⟨gb218, 0, none⟩ (.slice Ao38 t210.length co38)).setCell ⟨gb218, 1, none⟩ (.int .i64 t213)) w.heap.size (fun k_ => some k_ ≠ (.slice Ao16 t185.length co16 : Value).ownBlock ∧ some k_ ≠ (.slice Ao20 y194.length co20 : Value).ownBlock) (.slice Ao38 t210.length co38) t210) := ⟨by (with_reducible repeat (first | apply Kd.R_alloc | apply Kd.R_drewN | apply Kd.R_drew)); exact Kd.R_mono (Kd.R_far (p := ⟨gb218, 1, none⟩) (Kd.R_far (p := ⟨gb218, 0, none⟩) (Kd.R_types HO212.out BK218.out (by decide)) (fun _ hk => hk.2) (.slice Ao38 t210.length co38)) (fun _ hk => hk.2) (.int .i64 t213)) (fun _ hk => ⟨hk.1.1.2, hk.1.2⟩)⟩
       have n6_ : Aside0 (Kd.N k33 33 ((w37.setCell ⟨gb218, 0, none⟩ (.slice Ao38 t210.length co38)).setCell ⟨gb218, 1, none⟩ (.int .i64 t213)) w.heap.size (fun k_ => some k_ ≠ (.slice Ao16 t185.length co16 : Value).ownBlock ∧ some k_ ≠ (v190 : Value).ownBlock ∧ some k_ ≠ (.slice Ao20 y194.length co20 : Value).ownBlock ∧ some k_ ≠ (.slice Ao33 y204.length co33 : Value).ownBlock ∧ some k_ ≠ (.slice Ao35 t207.length co35 : Value).ownBlock ∧ some k_ ≠ (.slice Ao38 t210.length co38 : Value).ownBlock ∧ k_ ≠ gb193 ∧ k_ ≠ gb197 ∧ k_ ≠ gb218) v215 t214) := ⟨by (with_reducible repeat (first | apply Kd.N_alloc | apply Kd.N_drewN | apply Kd.N_drew)); exact Kd.N_mono (Kd.N_far (p := ⟨gb218, 1, none⟩) (Kd.N_far (p := ⟨gb218, 0, none⟩) (Kd.N_mono HO216.out (fun k_ hk => (⟨hk, hk.2⟩ : _ ∧ k_ ≠ gb218))) (fun _ hk => hk.2) (.slice Ao38 t210.length co38)) (fun _ hk => hk.2) (.int .i64 t213)) (fun _ hk => ⟨hk.1.1.2.1, ⟨hk.1.1.2.2.1, ⟨hk.1.1.2.2.2.1, ⟨hk.1.1.2.2.2.2.1, ⟨hk.1.1.2.2.2.2.2.1, ⟨hk.1.1.1, ⟨hk.1.1.2.2.2.2.2.2.1, ⟨hk.1.1.2.2.2.2.2.2.2, hk.1.2⟩⟩⟩⟩⟩⟩⟩⟩)⟩
       have n7_ : Aside0 (((w37.setCell ⟨gb218, 0, none⟩ (.slice Ao38 t210.length co38)).setCell ⟨gb218, 1, none⟩ (.int .i64 t213)).heap[gb193]? = some (.cells #[.slice Ao16 t185.length co16, .int .i64 t188] 24 (0, 0))) := ⟨by (with_reducible repeat (first | refine blk_drewN ?_ _ | refine blk_drew ?_ | refine blk_alloc ?_ _)); refine blk_far ?_ NB193_218.out _; (with_reducible repeat (first | refine blk_drewN ?_ _ | refine blk_drew ?_ | refine blk_alloc ?_ _)); refine blk_far ?_ NB193_218.out _; (with_reducible repeat (first | refine blk_drewN ?_ _ | refine blk_drew ?_ | refine blk_alloc ?_ _)); exact BK193.out⟩
       have n8_ : Aside0 (((w37.setCell ⟨gb218, 0, none⟩ (.slice Ao38 t210.length co38)).setCell ⟨gb218, 1, none⟩ (.int .i64 t213)).heap[gb197]? = some (.cells #[.slice Ao20 y194.length co20, .int .i64 1] 24 (0, 0))) := ⟨by (with_reducible repeat (first | refine blk_drewN ?_ _ | refine blk_drew ?_ | refine blk_alloc ?_ _)); refine blk_far ?_ NB197_218.out _; (with_reducible repeat (first | refine blk_drewN ?_ _ | refine blk_drew ?_ | refine blk_alloc ?_ _)); refine blk_far ?_ NB197_218.out _; (with_reducible repeat (first | refine blk_drewN ?_ _ | refine blk_drew ?_ | refine blk_alloc ?_ _)); exact BK197.out⟩
       have n9_ : Aside0 (((w37.setCell ⟨gb218, 0, none⟩ (.slice Ao38 t210.length co38)).setCell ⟨gb218, 1, none⟩ (.int .i64 t213)).heap[gb218]? = some (.cells #[.slice Ao38 t210.length co38, .int .i64 t213] 24 (0, 0))) := ⟨by (with_reducible repeat (first | refine blk_drewN ?_ _ | refine blk_drew ?_ | refine blk_alloc ?_ _)); refine blk_put (cs := #[.slice Ao38 t210.length co38, .int .i64 0]) ?_ 1 _ rfl; (with_reducible repeat (first | refine blk_drewN ?_ _ | refine blk_drew ?_ | refine blk_alloc ?_ _)); refine blk_put (cs := #[.slice none 0 0, .int .i64 0]) ?_ 0 _ rfl; (with_reducible repeat (first | refine blk_drewN ?_ _ | refine blk_drew ?_ | refine blk_alloc ?_ _)); exact BK218.out⟩
       have n10_ : Aside0 (Below w.heap.size w ((w37.setCell ⟨gb218, 0, none⟩ (.slice Ao38 t210.length co38)).setCell ⟨gb218, 1, none⟩ (.int .i64 t213))) := ⟨by repeat (first | (with_reducible first | exact HB.out | apply below_alloc | apply pw_below_drewN | apply below_drew1 | refine below_set ?_ GE193.out | refine below_set ?_ GE197.out | refine below_set ?_ GE218.out) | exact HB.out)⟩
       (try clear HO187)
       (try clear HO191)
       (try clear HO196)
       (try clear HO206)
       (try clear HO209)
       (try clear HO212)
       (try clear HO216)
       (try clear BK193)
       (try clear BK197)
       (try clear BK218)
       (try clear HB)
       generalize ((w37.setCell ⟨gb218, 0, none⟩ (.slice Ao38 t210.length co38)).setCell ⟨gb218, 1, none⟩ (.int .i64 t213)) = w42 at n0_ n1_ n2_ n3_ n4_ n5_ n6_ n7_ n8_ n9_ n10_ ⊢
       have HO187 := n0_
       have HO191 := n1_
       have HO196 := n2_
       have HO206 := n3_
       have HO209 := n4_
       have HO212 := n5_
       have HO216 := n6_
       have BK193 := n7_
       have BK197 := n8_
       have BK218 := n9_
       have HB := n10_
       clear n0_ n1_ n2_ n3_ n4_ n5_ n6_ n7_ n8_ n9_ n10_
       have n0_ := am (Kd.R_drew HO187.out)
       have n1_ := am (Kd.N_drew HO191.out)
       have n2_ := am (Kd.R_drew HO196.out)
       have n3_ := am (Kd.N_drew HO206.out)
       have n4_ := am (Kd.R_drew HO209.out)
       have n5_ := am (Kd.R_drew HO212.out)
       have n6_ := am (Kd.N_drew HO216.out)
       have n7_ := am (blk_drew BK193.out)
       have n8_ := am (blk_drew BK197.out)
       have n9_ := am (blk_drew BK218.out)
       have n10_ := am (below_drew1 HB.out)
       clear HO187
       clear HO191
       clear HO196
       clear HO206
       clear HO209
       clear HO212
       clear HO216
       clear BK193
       clear BK197
       clear BK218
       clear HB
       have HO187 := n0_
       have HO191 := n1_
       have HO196 := n2_
       have HO206 := n3_
       have HO209 := n4_
       have HO212 := n5_
       have HO216 := n6_
       have BK193 := n7_
       have BK197 := n8_
       have BK218 := n9_
       have HB := n10_
       clear n0_ n1_ n2_ n3_ n4_ n5_ n6_ n7_ n8_ n9_ n10_
       obtain ⟨Ao44, co44, eo44⟩ := Kd.N_slice HO216.out
       (first | subst eo44 | (injection eo44 with f1_ f2_ f3_; have f4_ := f1_.symm; have f5_ := f3_.symm; clear f1_ f2_ f3_; subst f4_; subst f5_))
       have p221 : 0 ≤ (0 : Int) := (by omega)
       have q221 : 0 < (y204.length : Int) := of_decide_eq_true (by first | (with_reducible assumption) | assumption)
       obtain ⟨ad221, A221_0, c221_0, A221_1, c221_1, e221, hx221_0, hx221_1, hl221_0, hi221_0, hl221_1, hi221_1⟩ := at_T33 (Kd.N_reads' HO206.out).2.2 0 p221 q221
       cases e221
       obtain ⟨ce221, hce221, hMe221, hcc221⟩ := Kd.N_get HO206.out z33 0 p221 (by first | exact q221 | exact of_decide_eq_true (by first | (with_reducible assumption) | assumption) | (have e_ := (Kd.N_reads' HO206.out).1; omega))
       obtain ⟨ua221_0, uc221_0, ua221_1, uc221_1, rfl, ul221_0, ge221_0, ul221_1, ge221_1⟩ := k33_openF hMe221
       have hv221_0 := hcc221 0 _ rfl
       rw [Nat.add_zero] at hv221_0
       replace hv221_0 := Option.some.inj (hv221_0.symm.trans hx221_0)
       injection hv221_0 with hva_ hvn_ hvc_
       rw [hva_] at ge221_0
       rw [hvc_] at ul221_0
       have HL221_0 := am (show Kd.V (Kd.int .i64) 3 _ w.heap.size _ _ ((rd_T33 y204 0).f0) from Kd.V_mk ul221_0 ge221_0)
       clear hva_ hvn_ hvc_ ge221_0 ul221_0
       have hv221_1 := hcc221 1 _ rfl
       rw [add_field _ _ 1 (by omega)] at hv221_1
       replace hv221_1 := Option.some.inj (hv221_1.symm.trans hx221_1)
       injection hv221_1 with hva_ hvn_ hvc_
       rw [hva_] at ge221_1
       rw [hvc_] at ul221_1
       have HL221_1 := am (show Kd.V (Kd.int .i64) 3 _ w.heap.size _ _ ((rd_T33 y204 0).f1) from Kd.V_mk ul221_1 ge221_1)
       clear hva_ hvn_ hvc_ ge221_1 ul221_1
       clear hcc221 hce221
       have qi221 : (0 < y204.length) = True := eq_true (by omega)
       (try rw [show ((0 : Int)).toNat = 0 from rfl] at hx221_0)
       (try rw [show 0 * 2 = 0 from rfl] at hx221_0)
       (try rw [Addr.add_zero'] at hx221_0)
       (try rw [show ((0 : Int)).toNat = 0 from rfl] at hx221_1)
       (try rw [show 0 * 2 = 0 from rfl] at hx221_1)
       (try rw [Addr.add_zero'] at hx221_1)
       have HR221_0 := am hi221_0
       have HC221_0 := am hl221_0
       clear hi221_0 hl221_0
       have HR221_1 := am hi221_1
       have HC221_1 := am hl221_1
       clear hi221_1 hl221_1
       replace p221 := eq_true p221
       replace q221 := eq_true q221
       refine start_ (n := 30) (S := fun w' => w'.cell? ⟨gb197, 0, none⟩ = some (.slice Ao20 y194.length co20) ∧ w'.cell? ⟨gb197, 1, none⟩ = some (.int .i64 1) ∧ w'.cell? ⟨gb218, 0, none⟩ = some (.slice Ao38 t210.length co38) ∧ w'.cell? ⟨gb218, 1, none⟩ = some (.int .i64 t213) ∧ w'.cell? ad221 = some (.slice A221_0 ((rd_T33 y204 0).f0).length c221_0) ∧ w'.cell? ⟨ad221.block, ad221.off + 1, none⟩ = some (.slice A221_1 ((rd_T33 y204 0).f1).length c221_1)) (ds := []) (bb 30 0) (by kernel_rfl) rfl rfl ⟨(blk_cell BK197.out 0).trans rfl, (blk_cell BK197.out 1).trans rfl, (blk_cell BK218.out 0).trans rfl, (blk_cell BK218.out 1).trans rfl, hx221_0, hx221_1⟩ (fun hHeld => ?_); refine with_tabW hypercubelaw1_known.tab5 hypercubelaw1_known.bits5 (fun HT_ HW_ => ?_)
       generalize w42.drew = w43 at HO187 HO191 HO196 HO206 HO209 HO212 HO216 BK193 BK197 BK218 HB HL221_0 HL221_1 HR221_0 HR221_1 hx221_0 hx221_1 hHeld ⊢
       refine pure_ (i := 0) (N := some 28) (v := ?_) (a' := ?_) (bb 30 1) rfl rfl (any_of HT_.out (by kernel_rfl)) (fun _ _ _ h => h) (Or.inl ⟨by rfl, ?_⟩) ?_ ?_
       rotate_left
       ·intro w'
        go_simp
        with_reducible rfl
       rotate_left
       ·simp only [Act.put, List.setIfInBounds_toArray, List.set_cons_zero, List.set_cons_succ, i64_w, i32_w]
        rfl
       refine pure_ (i := 1) (N := some 29) (v := ?_) (a' := ?_) (bb 30 3) rfl rfl (any_of HT_.out (by kernel_rfl)) (fun _ _ _ h => h) (Or.inl ⟨by rfl, ?_⟩) ?_ ?_
       rotate_left
       ·intro w'
        go_simp
        with_reducible rfl
       rotate_left
       ·simp only [Act.put, List.setIfInBounds_toArray, List.set_cons_zero, List.set_cons_succ, i64_w, i32_w]
        rfl
       refine pure_ (i := 2) (N := some 30) (v := ?_) (a' := ?_) (bb 30 7) rfl rfl (any_of HT_.out (by kernel_rfl)) (fun _ _ _ h => h) (Or.inl ⟨by rfl, ?_⟩) ?_ ?_
       rotate_left
       ·intro w'
        go_simp
        with_reducible rfl
       rotate_left
       ·simp only [Act.put, List.setIfInBounds_toArray, List.set_cons_zero, List.set_cons_succ, i64_w, i32_w]
        rfl
       refine pure_ (i := 3) (N := some 31) (v := ?_) (a' := ?_) (bb 30 15) rfl rfl (any_of HT_.out (by kernel_rfl)) (fun _ _ _ h => h) (Or.inl ⟨by rfl, ?_⟩) ?_ ?_
       rotate_left
       ·intro w'
        go_simp
        with_reducible rfl
       rotate_left
       ·simp only [Act.put, List.setIfInBounds_toArray, List.set_cons_zero, List.set_cons_succ, i64_w, i32_w]
        rfl
       refine pure_ (i := 4) (N := some 32) (v := ?_) (a' := ?_) (bb 30 31) rfl rfl (any_of HT_.out (by kernel_rfl)) (fun _ _ _ h => h) (Or.inl ⟨by rfl, ?_⟩) ?_ ?_
       rotate_left
       ·intro w'
        go_simp
        with_reducible rfl
       rotate_left
       ·simp only [Act.put, List.setIfInBounds_toArray, List.set_cons_zero, List.set_cons_succ, i64_w, i32_w]
        rfl
       refine pure_ (i := 5) (N := some 33) (v := ?_) (a' := ?_) (bb 30 63) rfl rfl (any_of HT_.out (by kernel_rfl)) (fun _ _ _ h => h) (Or.inl ⟨by rfl, ?_⟩) ?_ ?_
       rotate_left
       ·intro w'
        go_simp
        with_reducible rfl
       rotate_left
       ·simp only [Act.put, List.setIfInBounds_toArray, List.set_cons_zero, List.set_cons_succ, i64_w, i32_w]
        rfl
       refine pure_ (i := 6) (N := some 34) (v := ?_) (a' := ?_) (bb 30 127) rfl rfl (any_of HT_.out (by kernel_rfl)) (fun _ _ _ h => h) (Or.inl ⟨by rfl, ?_⟩) ?_ ?_
       rotate_left
       ·intro w'
        go_simp
        with_reducible rfl
       rotate_left
       ·simp only [Act.put, List.setIfInBounds_toArray, List.set_cons_zero, List.set_cons_succ, i64_w, i32_w]
        rfl
       refine pure_ (i := 8) (N := some 36) (v := ?_) (a' := ?_) (bb 30 383) rfl rfl (any_of HT_.out (by kernel_rfl)) (fun _ _ _ h => h) (Or.inl ⟨by rfl, ?_⟩) ?_ ?_
       rotate_left
       ·intro w'
        go_simp
        with_reducible rfl
       rotate_left
       ·simp only [Act.put, List.setIfInBounds_toArray, List.set_cons_zero, List.set_cons_succ, i64_w, i32_w]
        rfl
       refine pure_ (i := 10) (N := some 38) (v := ?_) (a' := ?_) (bb 30 1407) rfl rfl (any_of HT_.out (by kernel_rfl)) (fun _ _ _ h => h) (Or.inl ⟨by rfl, ?_⟩) ?_ ?_
       rotate_left
       ·intro w'
        go_simp
        with_reducible rfl
       rotate_left
       ·simp only [Act.put, List.setIfInBounds_toArray, List.set_cons_zero, List.set_cons_succ, i64_w, i32_w]
        rfl
       refine take_ (i := 7) (N := some 35) (v := ?_) (a' := ?_) (bb 30 1535) rfl rfl (take_ofW HT_.out HW_.out (by kernel_rfl)) (fun _ _ _ h => h) (Or.inl ⟨by rfl, ?_⟩) hHeld ?_ ?_
       rotate_left
       ·rintro w' ⟨s0, s1, s2, s3, s4, s5⟩
        go_simp
        with_reducible rfl
       rotate_left
       ·simp only [Act.put, List.setIfInBounds_toArray, List.set_cons_zero, List.set_cons_succ, i64_w, i32_w]
        rfl
       refine take_ (i := 9) (N := some 37) (v := ?_) (a' := ?_) (bb 30 2047) rfl rfl (take_ofW HT_.out HW_.out (by kernel_rfl)) (fun _ _ _ h => h) (Or.inl ⟨by rfl, ?_⟩) hHeld ?_ ?_
       rotate_left
       ·rintro w' ⟨s0, s1, s2, s3, s4, s5⟩
        go_simp
        with_reducible rfl
       rotate_left
       ·simp only [Act.put, List.setIfInBounds_toArray, List.set_cons_zero, List.set_cons_succ, i64_w, i32_w]
        rfl
       refine one_ (i := 11) (N := some 39) (bb 30 4095) rfl rfl (one_of HT_.out (by kernel_rfl)) (by decide) (fun K hK => ?_)
       refine goes_ Try.func25 (by kernel_rfl) rfl #[.agg #[.slice Ao20 y194.length co20, .int .i64 1], .slice (some ad221) y204.length co33, .agg #[.slice Ao38 t210.length co38, .int .i64 t213], .slice Ao44 t214.length co44] (by rfl) rfl rfl (by (try simp only [List.map_toArray, List.map_cons, List.map_nil]); first | done | rfl | (simp only [List.length_drop, List.length_take]; rfl)) ?_
       with_reducible refine (hypercuberef1_Same.calls k _ _ y194 1 _ _ y204 _ _ t210 t213 _ _ t214 true _ ?side1 ?side2 ?side3 ?side4 ?side5 ?side6 ?side7 ?side8 A6.out).mono ?_
       (case side1 => repeat (first | exact (Kd.R_reads' HO196.out).2.2 | (with_reducible refine Kd.C_alloc ?_ _) | (with_reducible refine Kd.C_drewN ?_ _) | (with_reducible refine Kd.C_drew ?_)))
       (case side2 => exact (Kd.R_reads' HO196.out).2.1)
       (case side3 => repeat (first | exact (Kd.N_reads' HO206.out).2.2 | (with_reducible refine Kd.C_alloc ?_ _) | (with_reducible refine Kd.C_drewN ?_ _) | (with_reducible refine Kd.C_drew ?_)))
       (case side4 => exact (Kd.N_reads' HO206.out).2.1)
       (case side5 => repeat (first | exact (Kd.R_reads' HO212.out).2.2 | (with_reducible refine Kd.C_alloc ?_ _) | (with_reducible refine Kd.C_drewN ?_ _) | (with_reducible refine Kd.C_drew ?_)))
       (case side6 => exact (Kd.R_reads' HO212.out).2.1)
       (case side7 => repeat (first | exact (Kd.N_reads' HO216.out).2.2 | (with_reducible refine Kd.C_alloc ?_ _) | (with_reducible refine Kd.C_drewN ?_ _) | (with_reducible refine Kd.C_drew ?_)))
       (case side8 => exact (Kd.N_reads' HO216.out).2.1)
       rintro e w45 ⟨rfl, hb⟩
       have mv0_ := am (Kd.V_below (by (with_reducible repeat (first | apply Kd.V_alloc | apply Kd.V_drewN | apply Kd.V_drew)); exact HL221_0.out) hb)
       have mv1_ := am (Kd.V_below (by (with_reducible repeat (first | apply Kd.V_alloc | apply Kd.V_drewN | apply Kd.V_drew)); exact HL221_1.out) hb)
       have mv2_ := am (Kd.C_below (by repeat (first | (with_reducible exact HR221_0.out) | (with_reducible refine Kd.C_alloc ?_ _) | (with_reducible refine Kd.C_drewN ?_ _) | (with_reducible refine Kd.C_drew ?_) | exact HR221_0.out)) hb)
       have mv3_ := am (Kd.C_below (by repeat (first | (with_reducible exact HR221_1.out) | (with_reducible refine Kd.C_alloc ?_ _) | (with_reducible refine Kd.C_drewN ?_ _) | (with_reducible refine Kd.C_drew ?_) | exact HR221_1.out)) hb)
       clear HL221_0 HL221_1 HR221_0 HR221_1
       have HL221_0 := mv0_
       have HL221_1 := mv1_
       have HR221_0 := mv2_
       have HR221_1 := mv3_
       clear mv0_ mv1_ mv2_ mv3_
       have HS4_ := (hb.cell (World.block_lt_of_cell? _ _ (hHeld.2.2.2.2.1))).trans (hHeld.2.2.2.2.1)
       have HS5_ := (hb.cell (World.block_lt_of_cell? _ _ (hHeld.2.2.2.2.2))).trans (hHeld.2.2.2.2.2)
       refine ⟨_, rfl, ?_⟩
       have n0_ := am (Kd.R_below (by (with_reducible repeat (first | apply Kd.R_alloc | apply Kd.R_drewN | apply Kd.R_drew)); exact HO187.out) hb)
       have n1_ := am (Kd.N_below (by (with_reducible repeat (first | apply Kd.N_alloc | apply Kd.N_drewN | apply Kd.N_drew)); exact HO191.out) hb)
       have n2_ := am (Kd.R_below (by (with_reducible repeat (first | apply Kd.R_alloc | apply Kd.R_drewN | apply Kd.R_drew)); exact HO196.out) hb)
       have n3_ := am (Kd.N_below (by (with_reducible repeat (first | apply Kd.N_alloc | apply Kd.N_drewN | apply Kd.N_drew)); exact HO206.out) hb)
       have n4_ := am (Kd.R_below (by (with_reducible repeat (first | apply Kd.R_alloc | apply Kd.R_drewN | apply Kd.R_drew)); exact HO209.out) hb)
       have n5_ := am (Kd.R_below (by (with_reducible repeat (first | apply Kd.R_alloc | apply Kd.R_drewN | apply Kd.R_drew)); exact HO212.out) hb)
       have n6_ := am (Kd.N_below (by (with_reducible repeat (first | apply Kd.N_alloc | apply Kd.N_drewN | apply Kd.N_drew)); exact HO216.out) hb)
       have n7_ := am (blk_below (g := gb193) (o := .cells #[.slice Ao16 t185.length co16, .int .i64 t188] 24 (0, 0)) (by (with_reducible repeat (first | refine blk_drewN ?_ _ | refine blk_drew ?_ | refine blk_alloc ?_ _)); exact BK193.out) hb)
       have n8_ := am (blk_below (g := gb197) (o := .cells #[.slice Ao20 y194.length co20, .int .i64 1] 24 (0, 0)) (by (with_reducible repeat (first | refine blk_drewN ?_ _ | refine blk_drew ?_ | refine blk_alloc ?_ _)); exact BK197.out) hb)
       have n9_ := am (blk_below (g := gb218) (o := .cells #[.slice Ao38 t210.length co38, .int .i64 t213] 24 (0, 0)) (by (with_reducible repeat (first | refine blk_drewN ?_ _ | refine blk_drew ?_ | refine blk_alloc ?_ _)); exact BK218.out) hb)
       have n10_ := am (below_step (by repeat (first | (with_reducible first | exact HB.out | apply below_alloc | apply pw_below_drewN | apply below_drew1 | refine below_set ?_ GE193.out | refine below_set ?_ GE197.out | refine below_set ?_ GE218.out) | exact HB.out)) hb)
       clear HO187
       clear HO191
       clear HO196
       clear HO206
       clear HO209
       clear HO212
       clear HO216
       clear BK193
       clear BK197
       clear BK218
       clear HB
       have HO187 := n0_
       have HO191 := n1_
       have HO196 := n2_
       have HO206 := n3_
       have HO209 := n4_
       have HO212 := n5_
       have HO216 := n6_
       have BK193 := n7_
       have BK197 := n8_
       have BK218 := n9_
       have HB := n10_
       clear n0_ n1_ n2_ n3_ n4_ n5_ n6_ n7_ n8_ n9_ n10_
       (try clear hb)
       (try clear hb2)
       (try clear hk)
       (try clear hi)
       refine hK.out _ _ ⟨(blk_cell BK197.out 0).trans rfl, (blk_cell BK197.out 1).trans rfl, (blk_cell BK218.out 0).trans rfl, (blk_cell BK218.out 1).trans rfl, HS4_, HS5_⟩ (fun hHeld => ?_)
       clear hK K
       refine norm_ (a' := ?_) ?_ ?_
       rotate_left
       ·show Act.put _ (some 39) _ = _
        simp only [Act.put, List.setIfInBounds_toArray, List.set_cons_zero, List.set_cons_succ, i64_w, i32_w]
        rfl
       refine pure_ (i := 12) (N := some 40) (v := ?_) (a' := ?_) (bb 30 8191) rfl rfl (any_of HT_.out (by kernel_rfl)) (fun _ _ _ h => h) (Or.inl ⟨by rfl, ?_⟩) ?_ ?_
       rotate_left
       ·intro w'
        go_simp
        with_reducible rfl
       rotate_left
       ·simp only [Act.put, List.setIfInBounds_toArray, List.set_cons_zero, List.set_cons_succ, i64_w, i32_w]
        rfl
       refine pure_ (i := 13) (N := some 41) (v := ?_) (a' := ?_) (bb 30 16383) rfl rfl (any_of HT_.out (by kernel_rfl)) (fun _ _ _ h => h) (Or.inl ⟨by rfl, ?_⟩) ?_ ?_
       rotate_left
       ·intro w'
        go_simp
        with_reducible rfl
       rotate_left
       ·simp only [Act.put, List.setIfInBounds_toArray, List.set_cons_zero, List.set_cons_succ, i64_w, i32_w]
        rfl
       refine take_ (i := 14) (N := some 42) (v := ?_) (a' := ?_) (bb 30 32767) rfl rfl (take_ofW HT_.out HW_.out (by kernel_rfl)) (fun _ _ _ h => h) (Or.inl ⟨by rfl, ?_⟩) hHeld ?_ ?_
       rotate_left
       ·rintro w' ⟨s0, s1, s2, s3, s4, s5⟩
        go_simp
        with_reducible rfl
       rotate_left
       ·simp only [Act.put, List.setIfInBounds_toArray, List.set_cons_zero, List.set_cons_succ, i64_w, i32_w]
        rfl
       refine one_ (i := 15) (N := some 43) (bb 30 65535) rfl rfl (one_of HT_.out (by kernel_rfl)) (by decide) (fun K hK => ?_)
       refine goes_ Try.func17 (by kernel_rfl) rfl #[.agg #[.slice Ao20 y194.length co20, .int .i64 1]] (by rfl) rfl rfl (by (try simp only [List.map_toArray, List.map_cons, List.map_nil]); first | done | rfl | (simp only [List.length_drop, List.length_take]; rfl)) ?_
       with_reducible refine (rec_Check.calls _ _ y194 1 true _ ?side1 ?side2 A8.out).mono ?_
       (case side1 => repeat (first | exact (Kd.R_reads' HO196.out).2.2 | (with_reducible refine Kd.C_alloc ?_ _) | (with_reducible refine Kd.C_drewN ?_ _) | (with_reducible refine Kd.C_drew ?_)))
       (case side2 => exact (Kd.R_reads' HO196.out).2.1)
       rintro e w46 ⟨rfl, hb⟩
       have mv0_ := am (Kd.V_below (by (with_reducible repeat (first | apply Kd.V_alloc | apply Kd.V_drewN | apply Kd.V_drew)); exact HL221_0.out) hb)
       have mv1_ := am (Kd.V_below (by (with_reducible repeat (first | apply Kd.V_alloc | apply Kd.V_drewN | apply Kd.V_drew)); exact HL221_1.out) hb)
       have mv2_ := am (Kd.C_below (by repeat (first | (with_reducible exact HR221_0.out) | (with_reducible refine Kd.C_alloc ?_ _) | (with_reducible refine Kd.C_drewN ?_ _) | (with_reducible refine Kd.C_drew ?_) | exact HR221_0.out)) hb)
       have mv3_ := am (Kd.C_below (by repeat (first | (with_reducible exact HR221_1.out) | (with_reducible refine Kd.C_alloc ?_ _) | (with_reducible refine Kd.C_drewN ?_ _) | (with_reducible refine Kd.C_drew ?_) | exact HR221_1.out)) hb)
       clear HL221_0 HL221_1 HR221_0 HR221_1
       have HL221_0 := mv0_
       have HL221_1 := mv1_
       have HR221_0 := mv2_
       have HR221_1 := mv3_
       clear mv0_ mv1_ mv2_ mv3_
       have HS4_ := (hb.cell (World.block_lt_of_cell? _ _ (hHeld.2.2.2.2.1))).trans (hHeld.2.2.2.2.1)
       have HS5_ := (hb.cell (World.block_lt_of_cell? _ _ (hHeld.2.2.2.2.2))).trans (hHeld.2.2.2.2.2)
       refine ⟨_, rfl, ?_⟩
       have n0_ := am (Kd.R_below (by (with_reducible repeat (first | apply Kd.R_alloc | apply Kd.R_drewN | apply Kd.R_drew)); exact HO187.out) hb)
       have n1_ := am (Kd.N_below (by (with_reducible repeat (first | apply Kd.N_alloc | apply Kd.N_drewN | apply Kd.N_drew)); exact HO191.out) hb)
       have n2_ := am (Kd.R_below (by (with_reducible repeat (first | apply Kd.R_alloc | apply Kd.R_drewN | apply Kd.R_drew)); exact HO196.out) hb)
       have n3_ := am (Kd.N_below (by (with_reducible repeat (first | apply Kd.N_alloc | apply Kd.N_drewN | apply Kd.N_drew)); exact HO206.out) hb)
       have n4_ := am (Kd.R_below (by (with_reducible repeat (first | apply Kd.R_alloc | apply Kd.R_drewN | apply Kd.R_drew)); exact HO209.out) hb)
       have n5_ := am (Kd.R_below (by (with_reducible repeat (first | apply Kd.R_alloc | apply Kd.R_drewN | apply Kd.R_drew)); exact HO212.out) hb)
       have n6_ := am (Kd.N_below (by (with_reducible repeat (first | apply Kd.N_alloc | apply Kd.N_drewN | apply Kd.N_drew)); exact HO216.out) hb)
       have n7_ := am (blk_below (g := gb193) (o := .cells #[.slice Ao16 t185.length co16, .int .i64 t188] 24 (0, 0)) (by (with_reducible repeat (first | refine blk_drewN ?_ _ | refine blk_drew ?_ | refine blk_alloc ?_ _)); exact BK193.out) hb)
       have n8_ := am (blk_below (g := gb197) (o := .cells #[.slice Ao20 y194.length co20, .int .i64 1] 24 (0, 0)) (by (with_reducible repeat (first | refine blk_drewN ?_ _ | refine blk_drew ?_ | refine blk_alloc ?_ _)); exact BK197.out) hb)
       have n9_ := am (blk_below (g := gb218) (o := .cells #[.slice Ao38 t210.length co38, .int .i64 t213] 24 (0, 0)) (by (with_reducible repeat (first | refine blk_drewN ?_ _ | refine blk_drew ?_ | refine blk_alloc ?_ _)); exact BK218.out) hb)
       have n10_ := am (below_step (by repeat (first | (with_reducible first | exact HB.out | apply below_alloc | apply pw_below_drewN | apply below_drew1 | refine below_set ?_ GE193.out | refine below_set ?_ GE197.out | refine below_set ?_ GE218.out) | exact HB.out)) hb)
       clear HO187
       clear HO191
       clear HO196
       clear HO206
       clear HO209
       clear HO212
       clear HO216
       clear BK193
       clear BK197
       clear BK218
       clear HB
       have HO187 := n0_
       have HO191 := n1_
       have HO196 := n2_
       have HO206 := n3_
       have HO209 := n4_
       have HO212 := n5_
       have HO216 := n6_
       have BK193 := n7_
       have BK197 := n8_
       have BK218 := n9_
       have HB := n10_
       clear n0_ n1_ n2_ n3_ n4_ n5_ n6_ n7_ n8_ n9_ n10_
       (try clear hb)
       (try clear hb2)
       (try clear hk)
       (try clear hi)
       refine hK.out _ _ ⟨(blk_cell BK197.out 0).trans rfl, (blk_cell BK197.out 1).trans rfl, (blk_cell BK218.out 0).trans rfl, (blk_cell BK218.out 1).trans rfl, HS4_, HS5_⟩ (fun hHeld => ?_)
       clear hK K
       refine norm_ (a' := ?_) ?_ ?_
       rotate_left
       ·show Act.put _ (some 43) _ = _
        simp only [Act.put, List.setIfInBounds_toArray, List.set_cons_zero, List.set_cons_succ, i64_w, i32_w]
        rfl
       refine pure_ (i := 16) (N := some 44) (v := ?_) (a' := ?_) (bb 30 131071) rfl rfl (any_of HT_.out (by kernel_rfl)) (fun _ _ _ h => h) (Or.inl ⟨by rfl, ?_⟩) ?_ ?_
       rotate_left
       ·intro w'
        go_simp
        with_reducible rfl
       rotate_left
       ·simp only [Act.put, List.setIfInBounds_toArray, List.set_cons_zero, List.set_cons_succ, i64_w, i32_w]
        rfl
       refine pure_ (i := 17) (N := some 45) (v := ?_) (a' := ?_) (bb 30 262143) rfl rfl (any_of HT_.out (by kernel_rfl)) (fun _ _ _ h => h) (Or.inl ⟨by rfl, ?_⟩) ?_ ?_
       rotate_left
       ·intro w'
        go_simp
        with_reducible rfl
       rotate_left
       ·simp only [Act.put, List.setIfInBounds_toArray, List.set_cons_zero, List.set_cons_succ, i64_w, i32_w]
        rfl
       refine pure_ (i := 19) (N := some 47) (v := ?_) (a' := ?_) (bb 30 786431) rfl rfl (any_of HT_.out (by kernel_rfl)) (fun _ _ _ h => h) (Or.inl ⟨by rfl, ?_⟩) ?_ ?_
       rotate_left
       ·intro w'
        go_simp
        with_reducible rfl
       rotate_left
       ·simp only [Act.put, List.setIfInBounds_toArray, List.set_cons_zero, List.set_cons_succ, i64_w, i32_w]
        rfl
       refine pure_ (i := 20) (N := some 48) (v := ?_) (a' := ?_) (bb 30 1835007) rfl rfl (any_of HT_.out (by kernel_rfl)) (fun _ _ _ h => h) (Or.inl ⟨by rfl, ?_⟩) ?_ ?_
       rotate_left
       ·intro w'
        go_simp
        with_reducible rfl
       rotate_left
       ·simp only [Act.put, List.setIfInBounds_toArray, List.set_cons_zero, List.set_cons_succ, i64_w, i32_w]
        rfl
       refine take_ (i := 18) (N := some 46) (v := ?_) (a' := ?_) (bb 30 2097151) rfl rfl (take_ofW HT_.out HW_.out (by kernel_rfl)) (fun _ _ _ h => h) (Or.inl ⟨by rfl, ?_⟩) hHeld ?_ ?_
       rotate_left
       ·rintro w' ⟨s0, s1, s2, s3, s4, s5⟩
        go_simp
        with_reducible rfl
       rotate_left
       ·simp only [Act.put, List.setIfInBounds_toArray, List.set_cons_zero, List.set_cons_succ, i64_w, i32_w]
        rfl
       refine take_ (i := 21) (N := some 49) (v := ?_) (a' := ?_) (bb 30 4194303) rfl rfl (take_ofW HT_.out HW_.out (by kernel_rfl)) (fun _ _ _ h => h) (Or.inl ⟨by rfl, ?_⟩) hHeld ?_ ?_
       rotate_left
       ·rintro w' ⟨s0, s1, s2, s3, s4, s5⟩
        go_simp
        with_reducible rfl
       rotate_left
       ·simp only [Act.put, List.setIfInBounds_toArray, List.set_cons_zero, List.set_cons_succ, i64_w, i32_w]
        rfl
       refine one_ (i := 22) (N := some 50) (bb 30 8388607) rfl rfl (one_of HT_.out (by kernel_rfl)) (by decide) (fun K hK => ?_)
       refine goes_ Try.func19 (by kernel_rfl) rfl #[.agg #[.slice Ao20 y194.length co20, .int .i64 1], .agg #[.slice A221_0 ((rd_T33 y204 0).f0).length c221_0, .slice A221_1 ((rd_T33 y204 0).f1).length c221_1]] (by rfl) rfl rfl (by (try simp only [List.map_toArray, List.map_cons, List.map_nil]); first | done | rfl | (simp only [List.length_drop, List.length_take]; rfl)) ?_
       with_reducible refine (rec_Right.calls k _ _ y194 1 _ _ ((rd_T33 y204 0).f0) _ _ ((rd_T33 y204 0).f1) true _ ?side1 ?side2 ?side3 ?side4 ?side5 ?side6 A11.out).mono ?_
       (case side1 => repeat (first | exact (Kd.R_reads' HO196.out).2.2 | (with_reducible refine Kd.C_alloc ?_ _) | (with_reducible refine Kd.C_drewN ?_ _) | (with_reducible refine Kd.C_drew ?_)))
       (case side2 => exact (Kd.R_reads' HO196.out).2.1)
       (case side3 => repeat (first | exact (by repeat (first | (with_reducible exact HR221_0.out) | (with_reducible refine Kd.C_alloc ?_ _) | (with_reducible refine Kd.C_drewN ?_ _) | (with_reducible refine Kd.C_drew ?_) | exact HR221_0.out)) | (with_reducible refine Kd.C_alloc ?_ _) | (with_reducible refine Kd.C_drewN ?_ _) | (with_reducible refine Kd.C_drew ?_)))
       (case side4 => exact HC221_0.out)
       (case side5 => repeat (first | exact (by repeat (first | (with_reducible exact HR221_1.out) | (with_reducible refine Kd.C_alloc ?_ _) | (with_reducible refine Kd.C_drewN ?_ _) | (with_reducible refine Kd.C_drew ?_) | exact HR221_1.out)) | (with_reducible refine Kd.C_alloc ?_ _) | (with_reducible refine Kd.C_drewN ?_ _) | (with_reducible refine Kd.C_drew ?_)))
       (case side6 => exact HC221_1.out)
       rintro e w47 ⟨rfl, hb⟩
       have HS4_ := (hb.cell (World.block_lt_of_cell? _ _ (hHeld.2.2.2.2.1))).trans (hHeld.2.2.2.2.1)
       have HS5_ := (hb.cell (World.block_lt_of_cell? _ _ (hHeld.2.2.2.2.2))).trans (hHeld.2.2.2.2.2)
       refine ⟨_, rfl, ?_⟩
       have n0_ := am (Kd.R_below (by (with_reducible repeat (first | apply Kd.R_alloc | apply Kd.R_drewN | apply Kd.R_drew)); exact HO187.out) hb)
       have n1_ := am (Kd.N_below (by (with_reducible repeat (first | apply Kd.N_alloc | apply Kd.N_drewN | apply Kd.N_drew)); exact HO191.out) hb)
       have n2_ := am (Kd.R_below (by (with_reducible repeat (first | apply Kd.R_alloc | apply Kd.R_drewN | apply Kd.R_drew)); exact HO196.out) hb)
       have n3_ := am (Kd.N_below (by (with_reducible repeat (first | apply Kd.N_alloc | apply Kd.N_drewN | apply Kd.N_drew)); exact HO206.out) hb)
       have n4_ := am (Kd.R_below (by (with_reducible repeat (first | apply Kd.R_alloc | apply Kd.R_drewN | apply Kd.R_drew)); exact HO209.out) hb)
       have n5_ := am (Kd.R_below (by (with_reducible repeat (first | apply Kd.R_alloc | apply Kd.R_drewN | apply Kd.R_drew)); exact HO212.out) hb)
       have n6_ := am (Kd.N_below (by (with_reducible repeat (first | apply Kd.N_alloc | apply Kd.N_drewN | apply Kd.N_drew)); exact HO216.out) hb)
       have n7_ := am (Kd.V_below (by (with_reducible repeat (first | apply Kd.V_alloc | apply Kd.V_drewN | apply Kd.V_drew)); exact HL221_0.out) hb)
       have n8_ := am (Kd.V_below (by (with_reducible repeat (first | apply Kd.V_alloc | apply Kd.V_drewN | apply Kd.V_drew)); exact HL221_1.out) hb)
       have n9_ := am (blk_below (g := gb193) (o := .cells #[.slice Ao16 t185.length co16, .int .i64 t188] 24 (0, 0)) (by (with_reducible repeat (first | refine blk_drewN ?_ _ | refine blk_drew ?_ | refine blk_alloc ?_ _)); exact BK193.out) hb)
       have n10_ := am (blk_below (g := gb197) (o := .cells #[.slice Ao20 y194.length co20, .int .i64 1] 24 (0, 0)) (by (with_reducible repeat (first | refine blk_drewN ?_ _ | refine blk_drew ?_ | refine blk_alloc ?_ _)); exact BK197.out) hb)
       have n11_ := am (blk_below (g := gb218) (o := .cells #[.slice Ao38 t210.length co38, .int .i64 t213] 24 (0, 0)) (by (with_reducible repeat (first | refine blk_drewN ?_ _ | refine blk_drew ?_ | refine blk_alloc ?_ _)); exact BK218.out) hb)
       have n12_ := am (Kd.C_below (by repeat (first | (with_reducible exact HR221_0.out) | (with_reducible refine Kd.C_alloc ?_ _) | (with_reducible refine Kd.C_drewN ?_ _) | (with_reducible refine Kd.C_drew ?_) | exact HR221_0.out)) hb)
       have n13_ := am (Kd.C_below (by repeat (first | (with_reducible exact HR221_1.out) | (with_reducible refine Kd.C_alloc ?_ _) | (with_reducible refine Kd.C_drewN ?_ _) | (with_reducible refine Kd.C_drew ?_) | exact HR221_1.out)) hb)
       have n14_ := am (below_step (by repeat (first | (with_reducible first | exact HB.out | apply below_alloc | apply pw_below_drewN | apply below_drew1 | refine below_set ?_ GE193.out | refine below_set ?_ GE197.out | refine below_set ?_ GE218.out) | exact HB.out)) hb)
       clear HO187
       clear HO191
       clear HO196
       clear HO206
       clear HO209
       clear HO212
       clear HO216
       clear HL221_0
       clear HL221_1
       clear BK193
       clear BK197
       clear BK218
       clear HR221_0
       clear HR221_1
       clear HB
       have HO187 := n0_
       have HO191 := n1_
       have HO196 := n2_
       have HO206 := n3_
       have HO209 := n4_
       have HO212 := n5_
       have HO216 := n6_
       have HL221_0 := n7_
       have HL221_1 := n8_
       have BK193 := n9_
       have BK197 := n10_
       have BK218 := n11_
       have HR221_0 := n12_
       have HR221_1 := n13_
       have HB := n14_
       clear n0_ n1_ n2_ n3_ n4_ n5_ n6_ n7_ n8_ n9_ n10_ n11_ n12_ n13_ n14_
       (try clear hb)
       (try clear hb2)
       (try clear hk)
       (try clear hi)
       refine hK.out _ _ ⟨(blk_cell BK197.out 0).trans rfl, (blk_cell BK197.out 1).trans rfl, (blk_cell BK218.out 0).trans rfl, (blk_cell BK218.out 1).trans rfl, HS4_, HS5_⟩ (fun hHeld => ?_)
       clear hK K
       refine norm_ (a' := ?_) ?_ ?_
       rotate_left
       ·show Act.put _ (some 50) _ = _
        simp only [Act.put, List.setIfInBounds_toArray, List.set_cons_zero, List.set_cons_succ, i64_w, i32_w]
        rfl
       refine pure_ (i := 23) (N := some 51) (v := ?_) (a' := ?_) (bb 30 16777215) rfl rfl (any_of HT_.out (by kernel_rfl)) (fun _ _ _ h => h) (Or.inl ⟨by rfl, ?_⟩) ?_ ?_
       rotate_left
       ·intro w'
        go_simp
        with_reducible rfl
       rotate_left
       ·simp only [Act.put, List.setIfInBounds_toArray, List.set_cons_zero, List.set_cons_succ, i64_w, i32_w]
        rfl
       refine pure_ (i := 24) (N := some 52) (v := ?_) (a' := ?_) (bb 30 33554431) rfl rfl (any_of HT_.out (by kernel_rfl)) (fun _ _ _ h => h) (Or.inl ⟨by rfl, ?_⟩) ?_ ?_
       rotate_left
       ·intro w'
        go_simp
        with_reducible rfl
       rotate_left
       ·simp only [Act.put, List.setIfInBounds_toArray, List.set_cons_zero, List.set_cons_succ, i64_w, i32_w]
        rfl
       refine pure_ (i := 26) (N := some 54) (v := ?_) (a' := ?_) (bb 30 100663295) rfl rfl (any_of HT_.out (by kernel_rfl)) (fun _ _ _ h => h) (Or.inl ⟨by rfl, ?_⟩) ?_ ?_
       rotate_left
       ·intro w'
        go_simp
        with_reducible rfl
       rotate_left
       ·simp only [Act.put, List.setIfInBounds_toArray, List.set_cons_zero, List.set_cons_succ, i64_w, i32_w]
        rfl
       refine take_ (i := 25) (N := some 53) (v := ?_) (a' := ?_) (bb 30 134217727) rfl rfl (take_ofW HT_.out HW_.out (by kernel_rfl)) (fun _ _ _ h => h) (Or.inl ⟨by rfl, ?_⟩) hHeld ?_ ?_
       rotate_left
       ·rintro w' ⟨s0, s1, s2, s3, s4, s5⟩
        go_simp
        with_reducible rfl
       rotate_left
       ·simp only [Act.put, List.setIfInBounds_toArray, List.set_cons_zero, List.set_cons_succ, i64_w, i32_w]
        rfl
       refine one_ (i := 27) (N := some 55) (bb 30 268435455) rfl rfl (one_of HT_.out (by kernel_rfl)) (by decide) (fun K hK => ?_)
       refine goes_ Try.func27 (by kernel_rfl) rfl #[.agg #[.slice Ao20 y194.length co20, .int .i64 1], .slice (some ad221) y204.length co33] (by rfl) rfl rfl (by (try simp only [List.map_toArray, List.map_cons, List.map_nil]); first | done | rfl | (simp only [List.length_drop, List.length_take]; rfl)) ?_
       with_reducible refine (rec_Sound.calls k _ _ y194 1 _ _ y204 t223 _ ?side1 ?side2 ?side3 ?side4 A13.out).mono ?_
       (case side1 => repeat (first | exact (Kd.R_reads' HO196.out).2.2 | (with_reducible refine Kd.C_alloc ?_ _) | (with_reducible refine Kd.C_drewN ?_ _) | (with_reducible refine Kd.C_drew ?_)))
       (case side2 => exact (Kd.R_reads' HO196.out).2.1)
       (case side3 => repeat (first | exact (Kd.N_reads' HO206.out).2.2 | (with_reducible refine Kd.C_alloc ?_ _) | (with_reducible refine Kd.C_drewN ?_ _) | (with_reducible refine Kd.C_drew ?_)))
       (case side4 => exact (Kd.N_reads' HO206.out).2.1)
       rintro e w48 ⟨rfl, hb⟩
       have HS4_ := (hb.cell (World.block_lt_of_cell? _ _ (hHeld.2.2.2.2.1))).trans (hHeld.2.2.2.2.1)
       have HS5_ := (hb.cell (World.block_lt_of_cell? _ _ (hHeld.2.2.2.2.2))).trans (hHeld.2.2.2.2.2)
       refine ⟨_, rfl, ?_⟩
       have n0_ := am (Kd.R_below (by (with_reducible repeat (first | apply Kd.R_alloc | apply Kd.R_drewN | apply Kd.R_drew)); exact HO187.out) hb)
       have n1_ := am (Kd.N_below (by (with_reducible repeat (first | apply Kd.N_alloc | apply Kd.N_drewN | apply Kd.N_drew)); exact HO191.out) hb)
       have n2_ := am (Kd.R_below (by (with_reducible repeat (first | apply Kd.R_alloc | apply Kd.R_drewN | apply Kd.R_drew)); exact HO196.out) hb)
       have n3_ := am (Kd.N_below (by (with_reducible repeat (first | apply Kd.N_alloc | apply Kd.N_drewN | apply Kd.N_drew)); exact HO206.out) hb)
       have n4_ := am (Kd.R_below (by (with_reducible repeat (first | apply Kd.R_alloc | apply Kd.R_drewN | apply Kd.R_drew)); exact HO209.out) hb)
       have n5_ := am (Kd.R_below (by (with_reducible repeat (first | apply Kd.R_alloc | apply Kd.R_drewN | apply Kd.R_drew)); exact HO212.out) hb)
       have n6_ := am (Kd.N_below (by (with_reducible repeat (first | apply Kd.N_alloc | apply Kd.N_drewN | apply Kd.N_drew)); exact HO216.out) hb)
       have n7_ := am (Kd.V_below (by (with_reducible repeat (first | apply Kd.V_alloc | apply Kd.V_drewN | apply Kd.V_drew)); exact HL221_0.out) hb)
       have n8_ := am (Kd.V_below (by (with_reducible repeat (first | apply Kd.V_alloc | apply Kd.V_drewN | apply Kd.V_drew)); exact HL221_1.out) hb)
       have n9_ := am (blk_below (g := gb193) (o := .cells #[.slice Ao16 t185.length co16, .int .i64 t188] 24 (0, 0)) (by (with_reducible repeat (first | refine blk_drewN ?_ _ | refine blk_drew ?_ | refine blk_alloc ?_ _)); exact BK193.out) hb)
       have n10_ := am (blk_below (g := gb197) (o := .cells #[.slice Ao20 y194.length co20, .int .i64 1] 24 (0, 0)) (by (with_reducible repeat (first | refine blk_drewN ?_ _ | refine blk_drew ?_ | refine blk_alloc ?_ _)); exact BK197.out) hb)
       have n11_ := am (blk_below (g := gb218) (o := .cells #[.slice Ao38 t210.length co38, .int .i64 t213] 24 (0, 0)) (by (with_reducible repeat (first | refine blk_drewN ?_ _ | refine blk_drew ?_ | refine blk_alloc ?_ _)); exact BK218.out) hb)
       have n12_ := am (Kd.C_below (by repeat (first | (with_reducible exact HR221_0.out) | (with_reducible refine Kd.C_alloc ?_ _) | (with_reducible refine Kd.C_drewN ?_ _) | (with_reducible refine Kd.C_drew ?_) | exact HR221_0.out)) hb)
       have n13_ := am (Kd.C_below (by repeat (first | (with_reducible exact HR221_1.out) | (with_reducible refine Kd.C_alloc ?_ _) | (with_reducible refine Kd.C_drewN ?_ _) | (with_reducible refine Kd.C_drew ?_) | exact HR221_1.out)) hb)
       have n14_ := am (below_step (by repeat (first | (with_reducible first | exact HB.out | apply below_alloc | apply pw_below_drewN | apply below_drew1 | refine below_set ?_ GE193.out | refine below_set ?_ GE197.out | refine below_set ?_ GE218.out) | exact HB.out)) hb)
       clear HO187
       clear HO191
       clear HO196
       clear HO206
       clear HO209
       clear HO212
       clear HO216
       clear HL221_0
       clear HL221_1
       clear BK193
       clear BK197
       clear BK218
       clear HR221_0
       clear HR221_1
       clear HB
       have HO187 := n0_
       have HO191 := n1_
       have HO196 := n2_
       have HO206 := n3_
       have HO209 := n4_
       have HO212 := n5_
       have HO216 := n6_
       have HL221_0 := n7_
       have HL221_1 := n8_
       have BK193 := n9_
       have BK197 := n10_
       have BK218 := n11_
       have HR221_0 := n12_
       have HR221_1 := n13_
       have HB := n14_
       clear n0_ n1_ n2_ n3_ n4_ n5_ n6_ n7_ n8_ n9_ n10_ n11_ n12_ n13_ n14_
       (try clear hb)
       (try clear hb2)
       (try clear hk)
       (try clear hi)
       refine hK.out _ _ ⟨(blk_cell BK197.out 0).trans rfl, (blk_cell BK197.out 1).trans rfl, (blk_cell BK218.out 0).trans rfl, (blk_cell BK218.out 1).trans rfl, HS4_, HS5_⟩ (fun hHeld => ?_)
       clear hK K
       refine norm_ (a' := ?_) ?_ ?_
       rotate_left
       ·show Act.put _ (some 55) _ = _
        simp only [Act.put, List.setIfInBounds_toArray, List.set_cons_zero, List.set_cons_succ, i64_w, i32_w]
        rfl
       refine pure_ (i := 28) (N := some 56) (v := ?_) (a' := ?_) (bb 30 536870911) rfl rfl (any_of HT_.out (by kernel_rfl)) (fun _ _ _ h => h) (Or.inl ⟨by rfl, ?_⟩) ?_ ?_
       rotate_left
       ·intro w'
        go_simp
        with_reducible rfl
       rotate_left
       ·simp only [Act.put, List.setIfInBounds_toArray, List.set_cons_zero, List.set_cons_succ, i64_w, i32_w]
        rfl
       refine pure_ (i := 29) (N := some 0) (v := ?_) (a' := ?_) (bb 30 1073741823) rfl rfl (any_of HT_.out (by kernel_rfl)) (fun _ _ _ h => h) (Or.inl ⟨by rfl, ?_⟩) ?_ ?_
       rotate_left
       ·intro w'
        go_simp
        with_reducible rfl
       rotate_left
       ·simp only [Act.put, List.setIfInBounds_toArray, List.set_cons_zero, List.set_cons_succ, i64_w, i32_w]
        rfl
       refine done_ (done_of HT_.out (by kernel_rfl)) ?_
       try go_wp2
       go_ret
       exact ⟨by first | rfl | (simp [errW_none, errW_some] <;> rfl) | (simp [*, errW_none, errW_some] <;> rfl), by repeat (first | (with_reducible first | exact HB.out | apply below_alloc | apply pw_below_drewN | apply below_drew1 | refine below_set ?_ GE193.out | refine below_set ?_ GE197.out | refine below_set ?_ GE218.out) | exact HB.out)⟩
      ·replace c12 := Bool.eq_false_iff.mpr c12
       subst c12
       have H1 : (none) = some r := by rw [if_neg (show ¬ (false = true) by decide)] at H; exact H
       clear H
       have H := H1
       clear H1
       exact absurd H (by simp)
     ·rw [if_neg c10] at H
      exact absurd H (by simp)
    ·replace c9 := Bool.eq_false_iff.mpr c9
     subst c9
     have H1 : (none) = some r := by rw [if_neg (show ¬ (false = true) by decide)] at H; exact H
     clear H
     have H := H1
     clear H1
     exact absurd H (by simp)
   ·replace c7 := Bool.eq_false_iff.mpr c7
    subst c7
    have H1 : (none) = some r := by rw [if_neg (show ¬ (false = true) by decide)] at H; exact H
    clear H
    have H := H1
    clear H1
    exact absurd H (by simp)
  ·rw [if_neg c5] at H
   exact absurd H (by simp)
 ·rw [if_neg c4] at H
  exact absurd H (by simp)
end Go.Proofs.Ytlacfpbfnedgdaa.Q
namespace Go.Proofs.Ytlacfpbfnedgdaa.Q
open Go.RowKit Go.Proofs.YtlacfpbfnedgdaaW.PrintWords Go.Proofs.YtlacfpbfnedgdaaW.PrintLast Go.Proofs.YtlacfpbfnedgdaaW.PrintMore
set_option linter.unusedVariables false
set_option linter.unusedSimpArgs false
theorem known_40 : hypercubelaw1_known.f 60 = some true := by decide +kernel
theorem known_ev : Ev (fun k => hypercubelaw1_known.f k) true := Ev.of hypercubelaw1_known.mono known_40
def eight (x : Int) : List Int := [x / 72057594037927936 % 256, x / 281474976710656 % 256, x / 1099511627776 % 256, x / 4294967296 % 256, x / 16777216 % 256, x / 65536 % 256, x / 256 % 256, x % 256]
theorem eight_length (x : Int) : (eight x).length = 8 := rfl
theorem or_byte (q c : Int) (h0 : 0 ≤ c) (h1 : c < 256) (h2 : -9223372036854775808 ≤ q * 256) (h3 : q * 256 ≤ 9223372036854775552) : Go.bits .or .i64 (q * 256) c = q * 256 + c := by
 unfold Go.bits
 simp only []
 have hb : IntKind.i64.bits = 64 := rfl
 have key : ((BitVec.ofInt 64 (q * 256)) ||| (BitVec.ofInt 64 c)).toNat = ((q * 256) % 18446744073709551616 + c).toNat := by
  rw [BitVec.toNat_or, BitVec.toNat_ofInt, BitVec.toNat_ofInt]
  have e1 : (c % ((2 ^ 64 : Nat) : Int)).toNat = c.toNat := by
   have : c % ((2 ^ 64 : Nat) : Int) = c := Int.emod_eq_of_lt h0 (by have : ((2 ^ 64 : Nat) : Int) = 18446744073709551616 := rfl; omega)
   rw [this]
  have e2 : ((q * 256) % ((2 ^ 64 : Nat) : Int)).toNat = 2 ^ 8 * (((q * 256) % 18446744073709551616) / 256).toNat := by
   have : ((2 ^ 64 : Nat) : Int) = 18446744073709551616 := rfl
   rw [this]; omega
  rw [e1, e2, ← Nat.two_pow_add_eq_or_of_lt (by omega : c.toNat < 2 ^ 8)]
  omega
 show IntKind.i64.wrap ((((BitVec.ofInt 64 (q * 256)) ||| (BitVec.ofInt 64 c)).toNat : Int)) = _
 rw [key]
 have hw : ∀ n : Int, IntKind.i64.wrap n = wrap64 n := fun n => by
  unfold IntKind.wrap wrap64
  have hs : IntKind.i64.signed = true := rfl
  simp only [hb, hs, Bool.true_and]
  split
  ·rename_i h; have := of_decide_eq_true h; omega
  ·rename_i h; have := of_decide_eq_false (Bool.eq_false_iff.2 h); omega
 rw [hw]
 unfold wrap64
 omega
theorem numOf_step (y c : Int) (h0 : 0 ≤ c) (h1 : c < 256) : Go.bits .or .i64 (wrap64 (y * 256)) (wrap64 c) = wrap64 (y * 256 + c) := by
 have e : wrap64 (y * 256) = ((y + 36028797018963968) % 72057594037927936 - 36028797018963968) * 256 := by unfold wrap64; omega
 rw [e, w64 (x := c) (by omega) (by omega), or_byte _ _ h0 h1 (by omega) (by omega)]
 unfold wrap64
 omega
theorem numOf_eight (x : Int) (h0 : -9223372036854775808 ≤ x) (h1 : x ≤ 9223372036854775807) : numOf (eight x) = x := by
 have hb : ∀ y : Int, 0 ≤ y % 256 ∧ y % 256 < 256 := fun y => ⟨by omega, by omega⟩
 unfold numOf eight
 simp only [List.foldl_cons, List.foldl_nil]
 rw [numOf_step _ _ (hb _).1 (hb _).2, numOf_step _ _ (hb _).1 (hb _).2, numOf_step _ _ (hb _).1 (hb _).2, numOf_step _ _ (hb _).1 (hb _).2, numOf_step _ _ (hb _).1 (hb _).2, numOf_step _ _ (hb _).1 (hb _).2, numOf_step _ _ (hb _).1 (hb _).2, numOf_step _ _ (hb _).1 (hb _).2]
 unfold wrap64
 omega
theorem shr64 (x : Int) (n : Nat) (h : n ≤ 64) : shr .i64 x (n : Int) = x / 2 ^ n := by
 unfold shr
 rw [Int.toNat_natCast, Nat.min_eq_left (by exact h)]
def encRow (x : S33) : List Int := x.f0.map (· % 256) ++ x.f1.flatMap eight
def encP (cards : List Int) (meas : Int) (rows : List S33) : List Int :=
 [67, 85, 66, 49, (cards.length : Int) % 256] ++ cards.map (· % 256) ++ [meas % 256, (rows.length : Int) / 256 % 256, (rows.length : Int) % 256] ++ rows.flatMap encRow
def Small (cards : List Int) (rows : List S33) : Prop := cards.length ≤ 100 ∧ rows.length ≤ 1000 ∧ ∀ x ∈ rows, x.f0.length ≤ 100 ∧ x.f1.length ≤ 100
theorem encRow_le {x : S33} (h : x.f0.length ≤ 100 ∧ x.f1.length ≤ 100) : (encRow x).length ≤ 900 := by
 unfold encRow
 rw [List.length_append, List.length_map, List.length_flatMap]
 have : (x.f1.map fun y => (eight y).length) = x.f1.map fun _ => 8 := rfl
 rw [this, List.map_const', List.sum_replicate_nat]
 omega
theorem eight_f (x : Int) : Ev (fun k => hypercuberef1_Eight.f k x) (eight x) := by
 have e : eight x = ((((((((([] : List Int) ++ [shr .i64 x 56 % 256]) ++ [shr .i64 x 48 % 256]) ++ [shr .i64 x 40 % 256]) ++ [shr .i64 x 32 % 256]) ++ [shr .i64 x 24 % 256]) ++ [shr .i64 x 16 % 256]) ++ [shr .i64 x 8 % 256]) ++ [shr .i64 x 0 % 256]) := by
  have s56 := shr64 x 56 (by decide +kernel); have s48 := shr64 x 48 (by decide +kernel); have s40 := shr64 x 40 (by decide +kernel); have s32 := shr64 x 32 (by decide +kernel)
  have s24 := shr64 x 24 (by decide +kernel); have s16 := shr64 x 16 (by decide +kernel); have s8 := shr64 x 8 (by decide +kernel); have s0 := shr64 x 0 (by decide +kernel)
  rw [show shr .i64 x 56 = _ from s56, show shr .i64 x 48 = _ from s48, show shr .i64 x 40 = _ from s40, show shr .i64 x 32 = _ from s32, show shr .i64 x 24 = _ from s24, show shr .i64 x 16 = _ from s16, show shr .i64 x 8 = _ from s8, show shr .i64 x 0 = _ from s0]
  simp [eight]
 rw [e]
 have st : ∀ (c : List Int) (q q' y : Int), q < 8 → IntKind.u64.wrap (wrap64 (56 - wrap64 (8 * q))) = y → 0 ≤ y → wrap64 (q + 1) = q' → c.length ≤ 1000 → ∀ {r}, Ev (fun k => hypercuberef1_Eight.l0 k x (c ++ [shr .i64 x y % 256]) q') r → Ev (fun k => hypercuberef1_Eight.l0 k x c q) r := by
  intro c q q' y h0 hy hy0 hq hc r hr
  exact Ev.step (fun k => by simp only [hypercuberef1_Eight.l0]; rw [if_pos h0, hy, if_pos hy0, if_pos (by omega), hq]) hr
 show Ev (fun k => hypercuberef1_Eight.l0 k x [] 0) _
 refine st _ 0 1 56 (by decide +kernel) (by decide +kernel) (by decide +kernel) (by decide +kernel) (by simp) (st _ 1 2 48 (by decide +kernel) (by decide +kernel) (by decide +kernel) (by decide +kernel) (by simp) (st _ 2 3 40 (by decide +kernel) (by decide +kernel) (by decide +kernel) (by decide +kernel) (by simp) (st _ 3 4 32 (by decide +kernel) (by decide +kernel) (by decide +kernel) (by decide +kernel) (by simp)
  (st _ 4 5 24 (by decide +kernel) (by decide +kernel) (by decide +kernel) (by decide +kernel) (by simp) (st _ 5 6 16 (by decide +kernel) (by decide +kernel) (by decide +kernel) (by decide +kernel) (by simp) (st _ 6 7 8 (by decide +kernel) (by decide +kernel) (by decide +kernel) (by decide +kernel) (by simp) (st _ 7 8 0 (by decide +kernel) (by decide +kernel) (by decide +kernel) (by decide +kernel) (by simp) ?_)))))))
 exact Ev.step (fun k => by simp only [hypercuberef1_Eight.l0]; rw [if_neg (by omega)]) (Ev.now _)
theorem ref_l3 (rows : List S33) (i : Nat) (ha : i < rows.length) (hl : rows.length ≤ 1000) (hx : rows[i].f1.length ≤ 100) {r : List Int} (d : Nat) : ∀ (j : Nat) (b : List Int), rows[i].f1.length - j = d → j ≤ rows[i].f1.length → b.length + 8 * d ≤ 10000000 →
  Ev (fun k => hypercuberef1_Encode.l1 k rows (b ++ (rows[i].f1.drop j).flatMap eight) (((i + 1 : Nat) : Int))) r → Ev (fun k => hypercuberef1_Encode.l3 k rows b (i : Int) (j : Int)) r := by
 induction d with
 | zero =>
  intro j b hd hj hb h
  rw [List.drop_eq_nil_of_le (by omega), List.flatMap_nil, List.append_nil] at h
  exact Ev.step (fun k => by simp only [hypercuberef1_Encode.l3]; rw [if_pos (by omega), if_pos (by omega), rdT_get ha, if_neg (by omega), w64s ha (by omega)]) h
 | succ d ih =>
  intro j b hd hj hb h
  have hja : j < rows[i].f1.length := by omega
  rw [drop_cons hja, List.flatMap_cons, ← List.append_assoc] at h
  have := ih (j + 1) (b ++ eight rows[i].f1[j]) (by omega) (by omega) (by rw [List.length_append, eight_length]; omega) h
  refine Ev.step (fun k => by simp only [hypercuberef1_Encode.l3]; rw [if_pos (by omega), if_pos (by omega), rdT_get ha, if_pos (by omega), if_pos (by omega), rd_get hja, w64s hja (by omega)]) (Ev.bind (eight_f _) ?_)
  exact Ev.congr (fun k => by rw [if_pos (by rw [eight_length]; omega)]) this
theorem ref_l2 (rows : List S33) (i : Nat) (ha : i < rows.length) (hl : rows.length ≤ 1000) (hx : rows[i].f0.length ≤ 100) {r : List Int} (d : Nat) : ∀ (j : Nat) (b : List Int), rows[i].f0.length - j = d → j ≤ rows[i].f0.length → b.length + d ≤ 10000000 →
  Ev (fun k => hypercuberef1_Encode.l3 k rows (b ++ (rows[i].f0.drop j).map (· % 256)) (i : Int) 0) r → Ev (fun k => hypercuberef1_Encode.l2 k rows b (i : Int) (j : Int)) r := by
 induction d with
 | zero =>
  intro j b hd hj hb h
  rw [List.drop_eq_nil_of_le (by omega), List.map_nil, List.append_nil] at h
  exact Ev.step (fun k => by simp only [hypercuberef1_Encode.l2]; rw [if_pos (by omega), if_pos (by omega), rdT_get ha, if_neg (by omega)]) h
 | succ d ih =>
  intro j b hd hj hb h
  have hja : j < rows[i].f0.length := by omega
  rw [drop_cons hja, List.map_cons, List.append_cons] at h
  have := ih (j + 1) (b ++ [rows[i].f0[j] % 256]) (by omega) (by omega) (by simp; omega) h
  exact Ev.step (fun k => by simp only [hypercuberef1_Encode.l2]; rw [if_pos (by omega), if_pos (by omega), rdT_get ha, if_pos (by omega), if_pos (by omega), if_pos (by omega), rd_get hja, w64s hja (by omega)]) this
theorem ref_l1 (rows : List S33) (hl : rows.length ≤ 1000) (hr : ∀ x ∈ rows, x.f0.length ≤ 100 ∧ x.f1.length ≤ 100) (d : Nat) : ∀ (i : Nat) (b : List Int), rows.length - i = d → i ≤ rows.length → b.length + 900 * d ≤ 1000000 →
  Ev (fun k => hypercuberef1_Encode.l1 k rows b (i : Int)) (b ++ (rows.drop i).flatMap encRow) := by
 induction d with
 | zero =>
  intro i b hd hi hb
  rw [List.drop_eq_nil_of_le (by omega), List.flatMap_nil, List.append_nil]
  exact Ev.step (fun k => by simp only [hypercuberef1_Encode.l1]; rw [if_neg (by omega)]) (Ev.now _)
 | succ d ih =>
  intro i b hd hi hb
  have ha : i < rows.length := by omega
  have hx := hr rows[i] (List.getElem_mem ha)
  have hxl := encRow_le hx
  rw [drop_cons ha, List.flatMap_cons]
  have h0 := ih (i + 1) (b ++ encRow rows[i]) (by omega) (by omega) (by rw [List.length_append]; omega)
  rw [List.append_assoc] at h0
  have h1 : Ev (fun k => hypercuberef1_Encode.l1 k rows ((b ++ (rows[i].f0.drop 0).map (· % 256)) ++ (rows[i].f1.drop 0).flatMap eight) (((i + 1 : Nat) : Int))) (b ++ (encRow rows[i] ++ List.flatMap encRow (List.drop (i + 1) rows))) := by
   have e : (b ++ (rows[i].f0.drop 0).map (· % 256)) ++ (rows[i].f1.drop 0).flatMap eight = b ++ encRow rows[i] := by rw [List.drop_zero, List.drop_zero, List.append_assoc]; rfl
   rw [e]
   exact h0
  have h2 := ref_l3 rows i ha hl hx.2 rows[i].f1.length 0 (b ++ (rows[i].f0.drop 0).map (· % 256)) (by omega) (by omega) (by rw [List.length_append, List.length_map, List.drop_zero]; omega) h1
  have h3 := ref_l2 rows i ha hl hx.1 rows[i].f0.length 0 b (by omega) (by omega) (by omega) h2
  exact Ev.step (fun k => by simp only [hypercuberef1_Encode.l1]; rw [if_pos (by omega)]; rfl) h3
theorem ref_l0 (cards : List Int) (meas : Int) (rows : List S33) (hc : cards.length ≤ 100) {r : List Int} (d : Nat) : ∀ (j : Nat) (b : List Int), cards.length - j = d → j ≤ cards.length → b.length + d ≤ 10000 →
  Ev (fun k => hypercuberef1_Encode.l1 k rows (((b ++ (cards.drop j).map (· % 256)) ++ [meas % 256]) ++ [(rows.length : Int) / 256 % 256, (rows.length : Int) % 256]) 0) r → Ev (fun k => hypercuberef1_Encode.l0 k rows b (j : Int) cards meas) r := by
 induction d with
 | zero =>
  intro j b hd hj hb h
  rw [List.drop_eq_nil_of_le (by omega), List.map_nil, List.append_nil] at h
  refine Ev.step (fun k => by simp only [hypercuberef1_Encode.l0]; rw [if_neg (by omega), if_pos (by omega)]) ?_
  simp only [Option.bind_some, hypercuberef1_Two.f]
  exact Ev.congr (fun k => by rw [if_pos (by simp <;> omega)]) h
 | succ d ih =>
  intro j b hd hj hb h
  have hja : j < cards.length := by omega
  rw [drop_cons hja, List.map_cons, show b ++ (cards[j] % 256 :: (cards.drop (j + 1)).map (· % 256)) = (b ++ [cards[j] % 256]) ++ (cards.drop (j + 1)).map (· % 256) by simp] at h
  have := ih (j + 1) (b ++ [cards[j] % 256]) (by omega) (by omega) (by simp; omega) h
  exact Ev.step (fun k => by simp only [hypercuberef1_Encode.l0]; rw [if_pos (by omega), if_pos (by omega), if_pos (by omega), rd_get hja, w64s hja (by omega)]) this
theorem ref_encode_ev (cards : List Int) (meas : Int) (rows : List S33) (h : Small cards rows) : Ev (fun k => hypercuberef1_Encode.f k cards meas rows) (encP cards meas rows) := by
 obtain ⟨hc, hl, hr⟩ := h
 have h1 := ref_l1 rows hl hr rows.length 0 ((([67, 85, 66, 49] ++ [(cards.length : Int) % 256]) ++ (cards.drop 0).map (· % 256) ++ [meas % 256]) ++ [(rows.length : Int) / 256 % 256, (rows.length : Int) % 256]) (by omega) (by omega) (by simp; omega)
 have e : encP cards meas rows = ((([67, 85, 66, 49] ++ [(cards.length : Int) % 256]) ++ (cards.drop 0).map (· % 256) ++ [meas % 256]) ++ [(rows.length : Int) / 256 % 256, (rows.length : Int) % 256]) ++ (rows.drop 0).flatMap encRow := by simp [encP]
 rw [e]
 have h2 := ref_l0 cards meas rows hc cards.length 0 ([67, 85, 66, 49] ++ [(cards.length : Int) % 256]) (by omega) (by omega) (by simp; omega) h1
 refine Ev.congr (fun k => ?_) h2
 unfold hypercuberef1_Encode.f
 simp only [Option.bind_some]
 rw [if_pos (by simp)]
 rfl
theorem numOf_one (c : Int) (h0 : 0 ≤ c) (h1 : c < 256) : numOf [c] = c := by
 unfold numOf
 simp only [List.foldl_cons, List.foldl_nil]
 rw [numOf_step _ _ h0 h1]
 unfold wrap64
 omega
theorem numOf_two (a c : Int) (h0 : 0 ≤ a) (h1 : a < 256) (h2 : 0 ≤ c) (h3 : c < 256) : numOf [a, c] = a * 256 + c := by
 unfold numOf
 simp only [List.foldl_cons, List.foldl_nil]
 rw [numOf_step _ _ h0 h1, numOf_step _ _ h2 h3]
 unfold wrap64
 omega
theorem take1 (c : Int) (l : List Int) (h0 : 0 ≤ c) (h1 : c < 256) : takeV (c :: l) 1 = c ∧ takeL (c :: l) 1 = l ∧ ∀ b, takeB (c :: l) 1 b = b := by
 have h : ¬ (c :: l).length < 1 := by simp
 refine ⟨?_, ?_, fun b => ?_⟩
 ·unfold takeV; rw [if_neg h]; exact numOf_one c h0 h1
 ·unfold takeL; rw [if_neg h]; rfl
 ·unfold takeB; rw [if_neg h]
theorem take2 (a c : Int) (l : List Int) (h0 : 0 ≤ a) (h1 : a < 256) (h2 : 0 ≤ c) (h3 : c < 256) : takeV (a :: c :: l) 2 = a * 256 + c ∧ takeL (a :: c :: l) 2 = l ∧ ∀ b, takeB (a :: c :: l) 2 b = b := by
 have h : ¬ (a :: c :: l).length < 2 := by simp
 refine ⟨?_, ?_, fun b => ?_⟩
 ·unfold takeV; rw [if_neg h]; exact numOf_two a c h0 h1 h2 h3
 ·unfold takeL; rw [if_neg h]; rfl
 ·unfold takeB; rw [if_neg h]
theorem take8 (x : Int) (l : List Int) (h0 : -9223372036854775808 ≤ x) (h1 : x ≤ 9223372036854775807) : takeV (eight x ++ l) 8 = x ∧ takeL (eight x ++ l) 8 = l ∧ ∀ b, takeB (eight x ++ l) 8 b = b := by
 have h : ¬ (eight x ++ l).length < 8 := by rw [List.length_append, eight_length]; omega
 refine ⟨?_, ?_, fun b => ?_⟩
 ·unfold takeV; rw [if_neg h, List.take_left' (eight_length x)]; exact numOf_eight x h0 h1
 ·unfold takeL; rw [if_neg h, List.drop_left' (eight_length x)]
 ·unfold takeB; rw [if_neg h]
theorem list1 (l : List Int) : ∀ (ks acc : List Int), (∀ x ∈ ks, 0 ≤ x ∧ x < 256) → listL 1 ks.length (ks ++ l) false acc = (acc ++ ks, l, false)
 | [], acc, _ => by simp [listL]
 | c :: ks, acc, h => by
  have hc := h c List.mem_cons_self
  obtain ⟨h1, h2, h3⟩ := take1 c (ks ++ l) hc.1 hc.2
  rw [List.length_cons, listL_go, List.cons_append, h1, h2, h3, list1 l ks (acc ++ [c]) (fun x hx => h x (List.mem_cons_of_mem _ hx))]
  simp
theorem list8 (l : List Int) : ∀ (ks acc : List Int), (∀ x ∈ ks, -9223372036854775808 ≤ x ∧ x ≤ 9223372036854775807) → listL 8 ks.length (ks.flatMap eight ++ l) false acc = (acc ++ ks, l, false)
 | [], acc, _ => by simp [listL]
 | c :: ks, acc, h => by
  have hc := h c List.mem_cons_self
  obtain ⟨h1, h2, h3⟩ := take8 c (ks.flatMap eight ++ l) hc.1 hc.2
  rw [List.length_cons, listL_go, List.flatMap_cons, List.append_assoc, h1, h2, h3, list8 l ks (acc ++ [c]) (fun x hx => h x (List.mem_cons_of_mem _ hx))]
  simp
theorem map_mod {l : List Int} (h : ∀ x ∈ l, 0 ≤ x ∧ x < 256) : l.map (· % 256) = l := by
 induction l with
 | nil => rfl
 | cons x l ih =>
  have hx := h x List.mem_cons_self
  rw [List.map_cons, ih (fun y hy => h y (List.mem_cons_of_mem _ hy)), Int.emod_eq_of_lt hx.1 hx.2]
def GoodF (cards : List Int) (meas : Int) (rows : List S33) : Prop :=
 checkP cards meas = true ∧ rows.length ≤ 300 ∧ ∀ x ∈ rows, rightP cards meas x = true ∧ ∀ y ∈ x.f1, -9223372036854775808 ≤ y ∧ y ≤ 9223372036854775807
theorem check_open {cards : List Int} {meas : Int} (h : checkP cards meas = true) : 1 ≤ cards.length ∧ cards.length ≤ 4 ∧ (∀ x ∈ cards, 1 ≤ x ∧ x ≤ 16) ∧ 0 ≤ meas ∧ meas ≤ 2 := by
 unfold checkP at h
 simp only [Bool.and_eq_true, decide_eq_true_eq, List.all_eq_true] at h
 exact ⟨h.1.1.1.1, h.1.1.1.2, fun x hx => h.1.1.2 x hx, h.1.2, h.2⟩
theorem check_mk {cards : List Int} {meas : Int} (h1 : 1 ≤ cards.length) (h2 : cards.length ≤ 4) (h3 : ∀ x ∈ cards, 1 ≤ x ∧ x ≤ 16) (h4 : 0 ≤ meas) (h5 : meas ≤ 2) : checkP cards meas = true := by
 unfold checkP
 simp only [Bool.and_eq_true, decide_eq_true_eq, List.all_eq_true]
 exact ⟨⟨⟨⟨h1, h2⟩, h3⟩, h4⟩, h5⟩
theorem right_open {cards : List Int} {meas : Int} {x : S33} (h : rightP cards meas x = true) : x.f0.length = cards.length ∧ (x.f1.length : Int) = meas ∧ ∀ i : Nat, i < x.f0.length → 0 ≤ rd x.f0 i ∧ rd x.f0 i < rd cards i := by
 unfold rightP at h
 simp only [Bool.and_eq_true, decide_eq_true_eq, List.all_eq_true, List.mem_range] at h
 exact ⟨h.1.1, h.1.2, fun i hi => h.2 i hi⟩
theorem right_mk {cards : List Int} {meas : Int} {x : S33} (h1 : x.f0.length = cards.length) (h2 : (x.f1.length : Int) = meas) (h3 : ∀ i : Nat, i < x.f0.length → 0 ≤ rd x.f0 i ∧ rd x.f0 i < rd cards i) : rightP cards meas x = true := by
 unfold rightP
 simp only [Bool.and_eq_true, decide_eq_true_eq, List.all_eq_true, List.mem_range]
 exact ⟨⟨h1, h2⟩, fun i hi => h3 i hi⟩
theorem right_keys {cards : List Int} {meas : Int} {x : S33} (hc : checkP cards meas = true) (h : rightP cards meas x = true) : ∀ y ∈ x.f0, 0 ≤ y ∧ y < 256 := by
 obtain ⟨_, _, hcs, _, _⟩ := check_open hc
 obtain ⟨hl, _, hr⟩ := right_open h
 intro y hy
 obtain ⟨i, hi, rfl⟩ := List.getElem_of_mem hy
 have := hr i hi
 rw [rd_get hi, rd_get (by omega)] at this
 have h2 := hcs cards[i] (List.getElem_mem _)
 omega
theorem GoodF.small {cards : List Int} {meas : Int} {rows : List S33} (h : GoodF cards meas rows) : Small cards rows := by
 obtain ⟨hc, hl, hr⟩ := h
 obtain ⟨h1, h2, h3, h4, h5⟩ := check_open hc
 refine ⟨by omega, by omega, fun x hx => ?_⟩
 obtain ⟨h6, h7, _⟩ := right_open (hr x hx).1
 omega
theorem rows_back (cards : List Int) (meas : Int) (hc : checkP cards meas = true) (l : List Int) : ∀ (rows acc : List S33), (∀ x ∈ rows, rightP cards meas x = true ∧ ∀ y ∈ x.f1, -9223372036854775808 ≤ y ∧ y ≤ 9223372036854775807) →
  rowsL cards meas rows.length (rows.flatMap encRow ++ l) acc = some (acc ++ rows, l)
 | [], acc, _ => by simp [rowsL]
 | x :: rows, acc, h => by
  obtain ⟨hr, hm⟩ := h x List.mem_cons_self
  obtain ⟨hl, hml, _⟩ := right_open hr
  have hk := right_keys hc hr
  have e1 := list1 (x.f1.flatMap eight ++ (rows.flatMap encRow ++ l)) x.f0 [] hk
  have e2 := list8 (rows.flatMap encRow ++ l) x.f1 [] hm
  rw [List.length_cons]
  unfold rowsL
  have e0 : (x :: rows).flatMap encRow ++ l = x.f0 ++ (x.f1.flatMap eight ++ (rows.flatMap encRow ++ l)) := by
   rw [List.flatMap_cons]; unfold encRow; rw [map_mod hk]; simp
  rw [e0, ← hl, e1]
  simp only []
  have hmn : meas.toNat = x.f1.length := by omega
  rw [hmn, e2]
  simp only [List.nil_append]
  have hx : (⟨x.f0, x.f1⟩ : S33) = x := by cases x; rfl
  rw [if_neg (by simp), hx, if_pos hr, rows_back cards meas hc l rows (acc ++ [x]) (fun y hy => h y (List.mem_cons_of_mem _ hy))]
  simp
theorem back {cards : List Int} {meas : Int} {rows : List S33} (h : GoodF cards meas rows) : rec_Decode.f (encP cards meas rows) = some (cards, meas, rows, 0) := by
 have hsm := h.small
 obtain ⟨hc, hl, hr⟩ := h
 obtain ⟨h1, h2, h3, h4, h5⟩ := check_open hc
 have hcm : cards.map (· % 256) = cards := map_mod (fun x hx => by have := h3 x hx; omega)
 have hm : meas % 256 = meas := Int.emod_eq_of_lt h4 (by omega)
 have hcl : (cards.length : Int) % 256 = cards.length := Int.emod_eq_of_lt (by omega) (by omega)
 have he : encP cards meas rows = [67, 85, 66, 49] ++ ((cards.length : Int) :: (cards ++ (meas :: (rows.length : Int) / 256 % 256 :: (rows.length : Int) % 256 :: (rows.flatMap encRow ++ [])))) := by
  unfold encP
  rw [hcm, hm, hcl]
  simp
 have hlen : (encP cards meas rows).length ≤ 100000000000 := by
  have hb : (rows.flatMap encRow).length ≤ 900 * rows.length := by
   have : ∀ (l : List S33), (∀ x ∈ l, x.f0.length ≤ 100 ∧ x.f1.length ≤ 100) → (l.flatMap encRow).length ≤ 900 * l.length := by
    intro l
    induction l with
    | nil => intro _; simp
    | cons x l ih =>
     intro hx
     rw [List.flatMap_cons, List.length_append, List.length_cons]
     have a1 := encRow_le (hx x List.mem_cons_self)
     have a2 := ih (fun y hy => hx y (List.mem_cons_of_mem _ hy))
     omega
   exact this rows hsm.2.2
  rw [he]
  simp only [List.length_append, List.length_cons, List.length_nil]
  omega
 unfold rec_Decode.f
 rw [if_pos hlen]
 congr 1
 unfold decodeP
 rw [he, if_neg (by simp), List.drop_left' (by rfl)]
 have hmk : markP ([67, 85, 66, 49] ++ ((cards.length : Int) :: (cards ++ (meas :: (rows.length : Int) / 256 % 256 :: (rows.length : Int) % 256 :: (rows.flatMap encRow ++ []))))) = true := by
  unfold markP
  rw [List.take_left' (by rfl)]
  decide +kernel
 rw [hmk, if_neg (by simp)]
 unfold decHead
 obtain ⟨t1, t2, t3⟩ := take1 (cards.length : Int) (cards ++ (meas :: (rows.length : Int) / 256 % 256 :: (rows.length : Int) % 256 :: (rows.flatMap encRow ++ []))) (by omega) (by omega)
 rw [t1, t2, t3, Int.toNat_natCast, list1 _ cards [] (fun x hx => by have := h3 x hx; omega)]
 unfold decTail
 simp only [List.nil_append]
 obtain ⟨t4, t5, t6⟩ := take1 meas ((rows.length : Int) / 256 % 256 :: (rows.length : Int) % 256 :: (rows.flatMap encRow ++ [])) h4 (by omega)
 rw [t4, t5, t6]
 unfold decM
 obtain ⟨t7, t8, t9⟩ := take2 ((rows.length : Int) / 256 % 256) ((rows.length : Int) % 256) (rows.flatMap encRow ++ []) (by omega) (by omega) (by omega) (by omega)
 rw [t7, t8, t9]
 have hn : (rows.length : Int) / 256 % 256 * 256 + (rows.length : Int) % 256 = rows.length := by omega
 rw [hn]
 unfold decRows
 rw [if_neg (by simp), hc, if_neg (by simp), if_neg (by omega), Int.toNat_natCast, rows_back cards meas hc [] rows [] hr]
 simp
abbrev FR := List Int × Int × List S33
def RowOk (cards : List Int) (meas : Int) (x : S33) : Prop := rightP cards meas x = true ∧ ∀ y ∈ x.f1, -100 ≤ y ∧ y ≤ 100
theorem facts_l3 (x3 : List Int) (rows : List S33) (i : Nat) (hi : i < 1000) (kk : Int) (cards : List Int) (meas : Int) (hm0 : 0 ≤ meas) (hm : meas ≤ 2) (hrl : rows.length ≤ 1000) (key : List Int) {Q : FR → Prop}
  (H : ∀ ms : List Int, (ms.length : Int) = meas → (∀ y ∈ ms, -100 ≤ y ∧ y ≤ 100) → ∃ p, Ev (fun k => hypercubelaw1_Facts.l1 k x3 (rows ++ [⟨key, ms⟩]) ((i + 1 : Nat) : Int) cards meas) p ∧ Q p) (d : Nat) :
  ∀ (j : Nat) (ms : List Int), (meas.toNat - j) = d → (j : Int) ≤ meas → ms.length = j → (∀ y ∈ ms, -100 ≤ y ∧ y ≤ 100) → ∃ p, Ev (fun k => hypercubelaw1_Facts.l3 k x3 rows (i : Int) kk (j : Int) cards meas key ms) p ∧ Q p := by
 induction d with
 | zero =>
  intro j ms hd hj hl hb
  obtain ⟨p, h1, h2⟩ := H ms (by omega) hb
  exact ⟨p, Ev.step (fun k => by simp only [hypercubelaw1_Facts.l3]; rw [if_neg (by omega), if_pos (by omega), w64s hi (by omega)]) h1, h2⟩
 | succ d ih =>
  intro j ms hd hj hl hb
  have hw := within_eq (wrap64 (kk + (wrap64 (7 * (j : Int))))) 201 (by omega) (by omega)
  have b0 := Int.emod_nonneg (wrap64 (kk + (wrap64 (7 * (j : Int))))) (show (201 : Int) ≠ 0 by omega)
  have b1 := Int.emod_lt_of_pos (wrap64 (kk + (wrap64 (7 * (j : Int))))) (show (0 : Int) < 201 by omega)
  generalize (wrap64 (kk + (wrap64 (7 * (j : Int))))) % 201 = q at hw b0 b1
  obtain ⟨p, h1, h2⟩ := ih (j + 1) (ms ++ [wrap64 (q - 100)]) (by omega) (by omega) (by simp; omega) (fun y hy => by
   rcases List.mem_append.1 hy with hy | hy
   ·exact hb y hy
   ·rw [List.mem_singleton.1 hy, w64 (by omega) (by omega)]; omega)
  refine ⟨p, Ev.step (fun k => by simp only [hypercubelaw1_Facts.l3]; rw [if_pos (by omega), hw]; simp only [Option.bind_some]; rw [if_pos (by omega), w64s (show j < 1000 by omega) (by omega)]) h1, h2⟩
theorem facts_l2 (x3 : List Int) (rows : List S33) (i : Nat) (hi : i < 1000) (cards : List Int) (meas : Int) (hc : checkP cards meas = true) (hrl : rows.length ≤ 1000) {Q : FR → Prop}
  (H : ∀ x, RowOk cards meas x → ∃ p, Ev (fun k => hypercubelaw1_Facts.l1 k x3 (rows ++ [x]) ((i + 1 : Nat) : Int) cards meas) p ∧ Q p) (d : Nat) :
  ∀ (j : Nat) (kk : Int) (key : List Int), cards.length - j = d → j ≤ cards.length → key.length = j → (∀ a : Nat, a < key.length → 0 ≤ rd key a ∧ rd key a < rd cards a) →
   ∃ p, Ev (fun k => hypercubelaw1_Facts.l2 k x3 rows (i : Int) kk (j : Int) cards meas key) p ∧ Q p := by
 obtain ⟨h1, h2, h3, h4, h5⟩ := check_open hc
 induction d with
 | zero =>
  intro j kk key hd hj hl hb
  have := facts_l3 x3 rows i hi kk cards meas h4 h5 hrl key (fun ms hml hmb => H ⟨key, ms⟩ ⟨right_mk (by show key.length = _; omega) hml hb, hmb⟩) meas.toNat 0 [] (by omega) (by omega) rfl (by simp)
  obtain ⟨p, e1, e2⟩ := this
  exact ⟨p, Ev.step (fun k => by simp only [hypercubelaw1_Facts.l2]; rw [if_neg (by omega)]; rfl) e1, e2⟩
 | succ d ih =>
  intro j kk key hd hj hl hb
  have hja : j < cards.length := by omega
  have hcd := h3 cards[j] (List.getElem_mem hja)
  have hw := within_eq kk cards[j] (by omega) (by omega)
  have b0 := Int.emod_nonneg kk (show cards[j] ≠ 0 by omega)
  have b1 := Int.emod_lt_of_pos kk (show (0 : Int) < cards[j] by omega)
  generalize kk % cards[j] = q at hw b0 b1
  obtain ⟨p, e1, e2⟩ := ih (j + 1) (wrap64 (Int.tdiv kk 5)) (key ++ [q]) (by omega) (by omega) (by simp; omega) (fun a ha => by
   by_cases hak : a < key.length
   ·have hb1 := hb a hak
    have : rd (key ++ [q]) (a : Int) = rd key (a : Int) := by rw [rd_get ha, rd_get hak, List.getElem_append_left hak]
    rw [this]; exact hb1
   ·have hae : a = key.length := by simp at ha; omega
    subst hae
    have : rd (key ++ [q]) (key.length : Int) = q := by rw [rd_get ha]; simp
    rw [this, hl, rd_get hja]; exact ⟨b0, b1⟩)
  refine ⟨p, Ev.step (fun k => by simp only [hypercubelaw1_Facts.l2]; rw [if_pos (by omega), if_pos (by omega), rd_get hja, hw]; simp only [Option.bind_some]; rw [if_pos (by omega), w64s hja (by omega)]) e1, e2⟩
theorem facts_l1 (x3 : List Int) (cards : List Int) (meas : Int) (hc : checkP cards meas = true) (d : Nat) : ∀ (i : Nat) (rows : List S33), (min x3.length 40) - i = d → i ≤ min x3.length 40 → rows.length = i → (∀ x ∈ rows, RowOk cards meas x) →
  ∃ p, Ev (fun k => hypercubelaw1_Facts.l1 k x3 rows (i : Int) cards meas) p ∧ (p.1 = cards ∧ p.2.1 = meas ∧ p.2.2.length = min x3.length 40 ∧ ∀ x ∈ p.2.2, RowOk cards meas x) := by
 induction d with
 | zero =>
  intro i rows hd hi hl hr
  have fin : Ev (fun k => hypercubelaw1_Facts.j3 k x3 rows (i : Int) false cards meas) (cards, meas, rows) := Ev.step (fun k => by simp only [hypercubelaw1_Facts.j3]; rw [if_neg (by simp)]) (Ev.now _)
  refine ⟨(cards, meas, rows), ?_, rfl, rfl, by show rows.length = _; omega, hr⟩
  by_cases h : (i : Int) < x3.length
  ·have : decide ((i : Int) < 40) = false := decide_eq_false (by omega)
   exact Ev.step (fun k => by simp only [hypercubelaw1_Facts.l1]; rw [if_pos h, this]) fin
  ·exact Ev.step (fun k => by simp only [hypercubelaw1_Facts.l1]; rw [if_neg h]) fin
 | succ d ih =>
  intro i rows hd hi hl hr
  have hia : i < x3.length := by omega
  have hdec : decide ((i : Int) < 40) = true := decide_eq_true (by omega)
  obtain ⟨p, e1, e2⟩ := facts_l2 x3 rows i (by omega) cards meas hc (by omega) (fun x hx => ih (i + 1) (rows ++ [x]) (by omega) (by omega) (by simp; omega) (fun y hy => by
   rcases List.mem_append.1 hy with hy | hy
   ·exact hr y hy
   ·rw [List.mem_singleton.1 hy]; exact hx)) cards.length 0 (rd x3 i) [] (by omega) (by omega) rfl (fun a ha => by simp at ha)
  refine ⟨p, ?_, e2⟩
  refine Ev.step (fun k => by simp only [hypercubelaw1_Facts.l1]; rw [if_pos (by omega), hdec]) ?_
  exact Ev.step (fun k => by simp only [hypercubelaw1_Facts.j3]; rw [if_pos trivial, if_pos (by omega), if_pos (by omega)]; rfl) e1
theorem facts_l0 (x0 : Int) (x1 x3 : List Int) (meas : Int) (hm0 : 0 ≤ meas) (hm : meas ≤ 2) (d : Nat) : ∀ (i : Nat) (cards : List Int), (x0 % 4 + 1).toNat - i = d → (i : Int) ≤ x0 % 4 + 1 → cards.length = i → (∀ x ∈ cards, 1 ≤ x ∧ x ≤ 5) →
  ∃ p, Ev (fun k => hypercubelaw1_Facts.l0 k x0 x1 x3 (i : Int) cards meas) p ∧ (checkP p.1 p.2.1 = true ∧ p.2.1 = meas ∧ (p.1.length : Int) = x0 % 4 + 1 ∧ p.2.2.length = min x3.length 40 ∧ ∀ x ∈ p.2.2, RowOk p.1 p.2.1 x) := by
 have b0 := Int.emod_nonneg x0 (show (4 : Int) ≠ 0 by omega)
 have b1 := Int.emod_lt_of_pos x0 (show (0 : Int) < 4 by omega)
 have hw4 := within_eq x0 4 (by omega) (by omega)
 have hw7 := within_eq x0 7 (by omega) (by omega)
 induction d with
 | zero =>
  intro i cards hd hi hl hc
  have go : ∀ cs : List Int, cs.length = cards.length → (∀ x ∈ cs, 1 ≤ x ∧ x ≤ 16) → ∃ p, Ev (fun k => hypercubelaw1_Facts.j1 k x3 cs meas) p ∧ (checkP p.1 p.2.1 = true ∧ p.2.1 = meas ∧ (p.1.length : Int) = x0 % 4 + 1 ∧ p.2.2.length = min x3.length 40 ∧ ∀ x ∈ p.2.2, RowOk p.1 p.2.1 x) := by
   intro cs h1 h2
   have hck : checkP cs meas = true := check_mk (by omega) (by omega) h2 hm0 hm
   obtain ⟨p, e1, e2, e3, e4, e5⟩ := facts_l1 x3 cs meas hck (min x3.length 40) 0 [] (by omega) (by omega) rfl (by simp)
   refine ⟨p, Ev.step (fun k => by simp only [hypercubelaw1_Facts.j1]; rfl) e1, ?_, e3, ?_, e4, ?_⟩
   ·rw [e2, e3]; exact hck
   ·rw [e2]; omega
   ·rw [e2, e3]; exact e5
  by_cases h7 : x0 % 7 = 0
  ·obtain ⟨p, e1, e2⟩ := go (cards.set (0 : Int).toNat 16) (by simp) (fun x hx => by
    rcases List.mem_or_eq_of_mem_set hx with hx | rfl
    ·have := hc x hx; omega
    ·omega)
   refine ⟨p, ?_, e2⟩
   exact Ev.step (fun k => by simp only [hypercubelaw1_Facts.l0]; rw [hw4]; simp only [Option.bind_some]; rw [if_neg (by omega), hw7]; simp only [Option.bind_some]; rw [if_pos h7, if_pos (by omega)]) e1
  ·obtain ⟨p, e1, e2⟩ := go cards rfl (fun x hx => by have := hc x hx; omega)
   refine ⟨p, ?_, e2⟩
   exact Ev.step (fun k => by simp only [hypercubelaw1_Facts.l0]; rw [hw4]; simp only [Option.bind_some]; rw [if_neg (by omega), hw7]; simp only [Option.bind_some]; rw [if_neg h7]) e1
 | succ d ih =>
  intro i cards hd hi hl hc
  have next : ∀ q : Int, 0 ≤ q → q < 5 → ∃ p, Ev (fun k => hypercubelaw1_Facts.l0 k x0 x1 x3 ((i + 1 : Nat) : Int) (cards ++ [wrap64 (1 + q)]) meas) p ∧ (checkP p.1 p.2.1 = true ∧ p.2.1 = meas ∧ (p.1.length : Int) = x0 % 4 + 1 ∧ p.2.2.length = min x3.length 40 ∧ ∀ x ∈ p.2.2, RowOk p.1 p.2.1 x) := by
   intro q q0 q1
   refine ih (i + 1) (cards ++ [wrap64 (1 + q)]) (by omega) (by omega) (by simp; omega) (fun x hx => ?_)
   rcases List.mem_append.1 hx with hx | hx
   ·exact hc x hx
   ·rw [List.mem_singleton.1 hx, w64 (by omega) (by omega)]; omega
  by_cases h1 : (i : Int) < x1.length
  ·have hw := within_eq (rd x1 (i : Int)) 5 (by omega) (by omega)
   obtain ⟨p, e1, e2⟩ := next (rd x1 (i : Int) % 5) (by omega) (by omega)
   refine ⟨p, ?_, e2⟩
   exact Ev.step (fun k => by simp only [hypercubelaw1_Facts.l0]; rw [hw4]; simp only [Option.bind_some]; rw [if_pos (by omega), if_pos h1, if_pos (by omega), hw]; simp only [Option.bind_some]; rw [if_pos (by omega), w64s (show i < 1000 by omega) (by omega)]) e1
  ·have hw := within_eq (wrap64 ((i : Int) + 2)) 5 (by omega) (by omega)
   obtain ⟨p, e1, e2⟩ := next (wrap64 ((i : Int) + 2) % 5) (by omega) (by omega)
   refine ⟨p, ?_, e2⟩
   exact Ev.step (fun k => by simp only [hypercubelaw1_Facts.l0]; rw [hw4]; simp only [Option.bind_some]; rw [if_pos (by omega), if_neg h1, hw]; simp only [Option.bind_some]; rw [if_pos (by omega), w64s (show i < 1000 by omega) (by omega)]) e1
theorem facts_ev (a0 : Int) (l1 : List Int) (a2 : Int) (l3 : List Int) : ∃ cards meas rows, Ev (fun k => hypercubelaw1_Facts.f k a0 l1 a2 l3) (cards, meas, rows) ∧ checkP cards meas = true ∧ meas = a2 % 3 ∧ (cards.length : Int) = a0 % 4 + 1 ∧ rows.length = min l3.length 40 ∧ ∀ x ∈ rows, RowOk cards meas x := by
 have hw := within_eq a2 3 (by omega) (by omega)
 obtain ⟨⟨cards, meas, rows⟩, e1, e2, e3, e4, e5, e6⟩ := facts_l0 a0 l1 l3 (a2 % 3) (by omega) (by omega) (a0 % 4 + 1).toNat 0 [] (by omega) (by omega) rfl (by simp)
 refine ⟨cards, meas, rows, ?_, e2, e3, e4, e5, e6⟩
 exact Ev.congr (fun k => by unfold hypercubelaw1_Facts.f; rw [hw]; rfl) e1
theorem facts_good {cards : List Int} {meas : Int} {rows : List S33} {n : Nat} (h1 : checkP cards meas = true) (h2 : rows.length = min n 40) (h3 : ∀ x ∈ rows, RowOk cards meas x) : GoodF cards meas rows :=
 ⟨h1, by omega, fun x hx => ⟨(h3 x hx).1, fun y hy => by have := (h3 x hx).2 y hy; omega⟩⟩
theorem BytesOk.drop {b : List Int} (h : BytesOk b) (n : Nat) : BytesOk (b.drop n) := fun x hx => h x (List.mem_of_mem_drop hx)
theorem rd_drop (b : List Int) (n k : Nat) : rd (b.drop n) (k : Int) = rd b ((n + k : Nat) : Int) := by
 unfold rd
 simp only [Int.toNat_natCast, List.getD_eq_getElem?_getD, List.getElem?_drop]
theorem take_one_rd {l : List Int} (h : 0 < l.length) : l.take 1 = [rd l 0] := by
 cases l with
 | nil => cases h
 | cons x l => rfl
theorem take_two_rd {l : List Int} (h : 1 < l.length) : l.take 2 = [rd l 0, rd l 1] := by
 cases l with
 | nil => cases h
 | cons x l => cases l with
  | nil => exact absurd h (by simp)
  | cons y l => rfl
theorem take1_at {l : List Int} (hb : BytesOk l) (h : 0 < l.length) : takeV l 1 = rd l 0 ∧ takeL l 1 = l.drop 1 ∧ ∀ b, takeB l 1 b = b := by
 have h1 : ¬ l.length < 1 := by omega
 have h2 := hb.at_ 0
 refine ⟨?_, ?_, fun b => ?_⟩
 ·unfold takeV; rw [if_neg h1, take_one_rd h]; exact numOf_one _ h2.1 (by omega)
 ·unfold takeL; rw [if_neg h1]
 ·unfold takeB; rw [if_neg h1]
theorem take2_at {l : List Int} (hb : BytesOk l) (h : 1 < l.length) : takeV l 2 = rd l 0 * 256 + rd l 1 ∧ takeL l 2 = l.drop 2 ∧ ∀ b, takeB l 2 b = b := by
 have h1 : ¬ l.length < 2 := by omega
 have h2 := hb.at_ 0
 have h3 := hb.at_ 1
 refine ⟨?_, ?_, fun b => ?_⟩
 ·unfold takeV; rw [if_neg h1, take_two_rd h]; exact numOf_two _ _ h2.1 (by omega) h3.1 (by omega)
 ·unfold takeL; rw [if_neg h1]
 ·unfold takeB; rw [if_neg h1]
theorem takeB_true (l : List Int) (n : Nat) : takeB l n true = true := by unfold takeB; split <;> rfl
theorem listL_true (n m : Nat) (l acc : List Int) : (listL n m l true acc).2.2 = true := by cases m <;> simp [listL]
theorem listL_short (n : Nat) : ∀ (m : Nat) (l acc : List Int), l.length < n * m → (listL n m l false acc).2.2 = true
 | 0, l, acc, h => absurd h (by simp)
 | m + 1, l, acc, h => by
  rw [listL_go]
  by_cases h1 : l.length < n
  ·rw [show takeB l n false = true from if_pos h1]; exact listL_true n m _ _
  ·rw [show takeB l n false = false from if_neg h1, show takeL l n = l.drop n from if_neg h1]
   exact listL_short n m _ _ (by rw [List.length_drop]; rw [Nat.mul_succ] at h; omega)
theorem listL_ok (n : Nat) : ∀ (m : Nat) (l acc : List Int), n * m ≤ l.length → listL n m l false acc = (acc ++ (List.range m).map (fun k => numOf ((l.drop (n * k)).take n)), l.drop (n * m), false)
 | 0, l, acc, _ => by simp [listL]
 | m + 1, l, acc, h => by
  rw [Nat.mul_succ] at h
  have h1 : ¬ l.length < n := by omega
  rw [listL_go, show takeB l n false = false from if_neg h1, show takeL l n = l.drop n from if_neg h1, show takeV l n = numOf (l.take n) from if_neg h1, listL_ok n m (l.drop n) _ (by rw [List.length_drop]; omega)]
  rw [List.range_succ_eq_map, List.map_cons, List.map_map, List.drop_drop]
  have e1 : n + n * m = n * (m + 1) := by rw [Nat.mul_succ]; omega
  have e2 : ((fun k => numOf ((l.drop (n * k)).take n)) ∘ Nat.succ) = fun k => numOf (((l.drop n).drop (n * k)).take n) := by
   funext k
   show numOf ((l.drop (n * (k + 1))).take n) = _
   rw [List.drop_drop, Nat.mul_succ, Nat.add_comm (n * k) n]
  rw [e1, e2]
  simp
theorem numOf_at {x : List Int} (hb : BytesOk x) {k : Nat} (h : k < x.length) : numOf ((x.drop (1 * k)).take 1) = rd x (k : Int) := by
 have h1 := (hb.drop k).at_ 0
 have h2 : 0 < (x.drop k).length := by rw [List.length_drop]; omega
 rw [Nat.one_mul, take_one_rd h2, numOf_one _ h1.1 (by omega)]
 exact rd_drop x k 0
theorem list_keys {l : List Int} (hb : BytesOk l) {m : Nat} (h : m ≤ l.length) : listL 1 m l false [] = ((List.range m).map (fun k : Nat => rd l (k : Int)), l.drop m, false) := by
 rw [listL_ok 1 m l [] (by omega), Nat.one_mul, List.nil_append]
 congr 1
 exact List.map_congr_left (fun k hk => numOf_at hb (by have := List.mem_range.1 hk; omega))
theorem rowsL_eq (cards : List Int) (meas : Int) : ∀ (n : Nat) (l : List Int) (acc : List S33), BytesOk l →
  rowsL cards meas n l acc = if n * (cards.length + 8 * meas.toNat) ≤ l.length ∧ ∀ i, i < n → rightP cards meas (refRow cards.length meas.toNat (l.drop (i * (cards.length + 8 * meas.toNat)))) = true then
   some (acc ++ (List.range n).map (fun i => refRow cards.length meas.toNat (l.drop (i * (cards.length + 8 * meas.toNat)))), l.drop (n * (cards.length + 8 * meas.toNat))) else none
 | 0, l, acc, hb => by rw [if_pos ⟨by omega, fun i hi => absurd hi (by omega)⟩]; simp [rowsL]
 | n + 1, l, acc, hb => by
  generalize hw : cards.length + 8 * meas.toNat = W
  unfold rowsL
  by_cases h1 : W ≤ l.length
  ·have e1 := list_keys hb (m := cards.length) (by omega)
   have e2 := listL_ok 8 meas.toNat (l.drop cards.length) [] (by rw [List.length_drop]; omega)
   rw [e1]
   simp only []
   rw [e2]
   simp only [List.nil_append, List.drop_drop, hw]
   rw [if_neg (by simp)]
   have e3 : (⟨(List.range cards.length).map (fun k : Nat => rd l (k : Int)), (List.range meas.toNat).map (fun k => numOf ((l.drop (cards.length + 8 * k)).take 8))⟩ : S33) = refRow cards.length meas.toNat l := rfl
   rw [e3]
   have ih := rowsL_eq cards meas n (l.drop W) (acc ++ [refRow cards.length meas.toNat l]) (hb.drop W)
   rw [hw] at ih
   have e4 : ∀ i, (l.drop W).drop (i * W) = l.drop ((i + 1) * W) := fun i => by rw [List.drop_drop, Nat.succ_mul, Nat.add_comm W]
   by_cases h2 : rightP cards meas (refRow cards.length meas.toNat l) = true
   ·rw [if_pos h2, ih]
    by_cases h3 : (n + 1) * W ≤ l.length ∧ ∀ i, i < n + 1 → rightP cards meas (refRow cards.length meas.toNat (l.drop (i * W))) = true
    ·rw [if_pos h3, if_pos ⟨by rw [List.length_drop]; have := h3.1; rw [Nat.succ_mul] at this; omega, fun i hi => by rw [e4]; exact h3.2 (i + 1) (by omega)⟩]
     rw [e4, List.range_succ_eq_map, List.map_cons, List.map_map, List.append_assoc]
     simp only [e4]
     simp
    ·rw [if_neg h3, if_neg]
     rintro ⟨h4, h5⟩
     refine h3 ⟨by rw [List.length_drop] at h4; rw [Nat.succ_mul]; omega, fun i hi => ?_⟩
     cases i with
     | zero => rw [Nat.zero_mul, List.drop_zero]; exact h2
     | succ i => rw [← e4]; exact h5 i (by omega)
   ·rw [if_neg h2, if_neg]
    rintro ⟨h4, h5⟩
    have := h5 0 (by omega)
    rw [Nat.zero_mul, List.drop_zero] at this
    exact h2 this
  ·rw [if_neg (c := (n + 1) * W ≤ l.length ∧ _) (by rintro ⟨h4, h5⟩; rw [Nat.succ_mul] at h4; omega)]
   by_cases h2 : cards.length ≤ l.length
   ·rw [list_keys hb h2]
    simp only []
    rw [if_pos (listL_short 8 meas.toNat _ _ (by rw [List.length_drop]; omega))]
   ·have h3 := listL_short 1 cards.length l [] (by omega)
    generalize listL 1 cards.length l false [] = r at *
    obtain ⟨x, y, z⟩ := r
    dsimp only at h3
    subst h3
    rw [if_pos (listL_true 8 meas.toNat y [])]
theorem decTail_bad {c : List Int × List Int × Bool} (h : c.2.2 = true) : decTail c = badP := by
 unfold decTail decM decRows
 rw [h, takeB_true, takeB_true, if_pos rfl]
theorem decode_ref {b : List Int} (hb : BytesOk b) : decodeP b = refDecP b := by
 unfold decodeP
 have hno : ¬ hdFits b → refDecP b = badP := fun h => if_neg (fun h2 => h h2.1)
 by_cases h4 : b.length < 4
 ·rw [if_pos h4, hno (fun h => by have := h.1.1; omega)]
 rw [if_neg h4]
 cases hmk : markP b
 ·rw [if_pos rfl, hno (fun h => by have := h.1.2; rw [hmk] at this; cases this)]
 rw [if_neg (by simp)]
 unfold decHead
 by_cases h5 : b.length < 5
 ·rw [hno (fun h => by have := h.1.1; omega)]
  have : b.drop 4 = [] := List.drop_eq_nil_of_le (by omega)
  rw [this]
  exact decTail_bad rfl
 have hl4 : 0 < (b.drop 4).length := by rw [List.length_drop]; omega
 obtain ⟨a1, a2, a3⟩ := take1_at (hb.drop 4) hl4
 have hD := hb.at_ 4
 have ed : rd (b.drop 4) 0 = hdD b := rd_drop b 4 0
 have hDb : 0 ≤ hdD b ∧ hdD b ≤ 255 := hD
 obtain ⟨d, hd⟩ : ∃ d : Nat, d = (hdD b).toNat := ⟨_, rfl⟩
 have hdz : hdD b = (d : Int) := by omega
 rw [a1, a2, a3, ed, ← hd, List.drop_drop]
 by_cases h6 : d ≤ (b.drop (4 + 1)).length
 rotate_left
 ·rw [decTail_bad (listL_short 1 d _ [] (by omega)), hno (fun h => by have := h.2.2; rw [List.length_drop] at h6; omega)]
 rw [list_keys (hb.drop (4 + 1)) h6, List.drop_drop]
 have ec : (List.range d).map (fun k : Nat => rd (b.drop (4 + 1)) (k : Int)) = hdTo b d := by
  unfold hdTo
  exact List.map_congr_left (fun k _ => rd_drop b (4 + 1) k)
 rw [ec]
 rw [List.length_drop] at h6
 unfold decTail decM
 dsimp only
 have hb2 := hb.drop (4 + 1 + d)
 by_cases h7 : 0 < (b.drop (4 + 1 + d)).length
 rotate_left
 ·rw [show takeB (b.drop (4 + 1 + d)) 1 false = true from if_pos (by omega), takeB_true, hno (fun h => by have := h.2.2; rw [List.length_drop] at h7; omega)]
  exact if_pos rfl
 obtain ⟨b1, b2, b3⟩ := take1_at hb2 h7
 have em : rd (b.drop (4 + 1 + d)) 0 = hdMeas b := by
  have := rd_drop b (4 + 1 + d) 0
  rw [show ((0 : Nat) : Int) = 0 from rfl] at this
  rw [this]
  unfold hdMeas
  congr 1
  omega
 rw [b1, b2, b3, em, List.drop_drop]
 have hb3 := hb.drop (4 + 1 + d + 1)
 by_cases h8 : 1 < (b.drop (4 + 1 + d + 1)).length
 rotate_left
 ·rw [show takeB (b.drop (4 + 1 + d + 1)) 2 false = true from if_pos (by omega), hno (fun h => by have := h.2.2; rw [List.length_drop] at h8; omega)]
  exact if_pos rfl
 obtain ⟨c1, c2, c3⟩ := take2_at hb3 h8
 have en : rd (b.drop (4 + 1 + d + 1)) 0 * 256 + rd (b.drop (4 + 1 + d + 1)) 1 = hdN b := by
  have e0 := rd_drop b (4 + 1 + d + 1) 0
  have e1 := rd_drop b (4 + 1 + d + 1) 1
  rw [show ((0 : Nat) : Int) = 0 from rfl] at e0
  rw [show ((1 : Nat) : Int) = 1 from rfl] at e1
  rw [e0, e1]
  unfold hdN
  rw [hdz]
  congr 1
  ·congr 2; omega
  ·congr 1; omega
 rw [c1, c2, c3, en, List.drop_drop]
 have er : b.drop (4 + 1 + d + 1 + 2) = hdRest b := by unfold hdRest; congr 1; omega
 rw [er]
 rw [List.length_drop] at h8
 unfold decRows
 rw [if_neg (by simp)]
 cases hck : checkP (hdTo b d) (hdMeas b)
 ·rw [if_pos rfl]
  exact (if_neg (fun h => by have := h.2.1; rw [← hd, hck] at this; cases this)).symm
 rw [if_neg (by simp)]
 have hdl : d ≤ 4 := by have := check_len hck; rwa [hdTo_length] at this
 have hf : hdFits b := ⟨⟨by omega, hmk⟩, by omega, by omega⟩
 by_cases h9 : 300 < hdN b
 ·rw [if_pos h9]
  exact (if_neg (fun h => by have := h.2.2.1; omega)).symm
 rw [if_neg h9, rowsL_eq _ _ _ _ _ (by unfold hdRest; exact hb.drop _), hdTo_length]
 have eW : d + 8 * (hdMeas b).toNat = refW b := by unfold refW; rw [← hd]
 have eA : ∀ i, refRow d (hdMeas b).toNat ((hdRest b).drop (i * refW b)) = refAt b i := fun i => by unfold refAt; rw [← hd]
 rw [eW]
 simp only [eA]
 by_cases h10 : (hdN b).toNat * refW b ≤ (hdRest b).length ∧ ∀ i, i < (hdN b).toNat → rightP (hdTo b d) (hdMeas b) (refAt b i) = true
 ·rw [if_pos h10]
  dsimp only
  by_cases h11 : (hdRest b).length = (hdN b).toNat * refW b
  ·rw [if_neg (by rw [List.length_drop]; omega)]
   have hok : refOk b := ⟨hf, by rw [← hd]; exact hck, by omega, h11, fun i hi => by rw [← hd]; exact h10.2 i hi⟩
   unfold refDecP
   rw [if_pos hok, ← hd]
   rfl
  ·rw [if_pos (by rw [List.length_drop]; have := h10.1; omega)]
   exact (if_neg (fun h => h11 h.2.2.2.1)).symm
 ·rw [if_neg h10]
  exact (if_neg (fun h => h10 ⟨Nat.le_of_eq h.2.2.2.1.symm, fun i hi => by have := h.2.2.2.2 i hi; rw [← hd] at this; exact this⟩)).symm
end Go.Proofs.Ytlacfpbfnedgdaa.Q
namespace Go.Proofs.Ytlacfpbfnedgdaa.Q
open Go.RowKit Go.Shelf Go.Proofs.YtlacfpbfnedgdaaW.PrintWords Go.Proofs.YtlacfpbfnedgdaaW.PrintLast Go.Proofs.YtlacfpbfnedgdaaW.PrintMore
set_option linter.unusedVariables false
set_option linter.unusedSimpArgs false
def refHead.T10 : Bool × List (List Nat × List Nat) := (true, [([], []), ([0], [0]), ([], []), ([], []), ([3], [3]), ([2, 4], [2, 4]), ([5], [5]), ([6], [6]), ([7], [7]), ([1, 8], [1, 8]), ([0, 1, 2, 3, 4, 5, 6, 7, 8, 9], []), ([10, 9, 9, 0, 1, 2, 3, 4, 5, 6, 7, 8, 9], [9, 10])])
def refHead.B10 : List Nat := [0, 1, 0, 0, 8, 28, 60, 124, 252, 511, 1023, 2047]
theorem refHead.tab10 : rtab .any (opsOf Try.f39 10) = refHead.T10 := by kernel_rfl
theorem refHead.bits10 : waitsOk refHead.T10.2 refHead.B10 = true := by kernel_rfl
def refHead.T11 : Bool × List (List Nat × List Nat) := (true, [([], []), ([], []), ([], []), ([2], [2]), ([1, 3], [1, 3]), ([4], [4]), ([5], [5]), ([6], [6]), ([], []), ([], []), ([9], [9]), ([8, 10], [8, 10]), ([11], [11]), ([12], [12]), ([7, 13], [7, 13]), ([], []), ([], []), ([16], [16]), ([15, 17], [15, 17]), ([], []), ([19], [19]), ([0, 20, 0], [0]), ([14, 21, 0, 1, 2, 3, 4, 5, 6, 7, 8, 9, 10, 11, 12, 13, 14, 21], [14]), ([18, 22, 0, 1, 2, 3, 4, 5, 6, 7, 8, 9, 10, 11, 12, 13, 14, 15, 16, 17, 18, 21, 22], [18]), ([20, 23, 0, 1, 2, 3, 4, 5, 6, 7, 8, 9, 10, 11, 12, 13, 14, 15, 16, 17, 18, 19, 20, 21, 22, 23], [20])])
def refHead.B11 : List Nat := [0, 0, 0, 4, 14, 30, 62, 126, 0, 0, 512, 1792, 3840, 7936, 16382, 0, 0, 65536, 229376, 0, 524288, 1572865, 3702783, 8388607, 16777215]
theorem refHead.tab11 : rtab .any (opsOf Try.f39 11) = refHead.T11 := by kernel_rfl
theorem refHead.bits11 : waitsOk refHead.T11.2 refHead.B11 = true := by kernel_rfl
def HeadPost (w : World) (cards : List Int) (meas n : Int) (rest : List Int) (is : Bool) (e : Ending) (w' : World) : Prop :=
 ∃ (v : Value) (A : Option Addr) (c : Nat), e = .returned (.tuple #[.agg #[v, .int .i64 meas], .int .i64 n, .slice A rest.length c, .bool is]) ∧ Kd.R (Kd.int .i64) 3 w' w.heap.size (fun _ => True) v cards ∧ rest.length ≤ c ∧ Kd.C (Kd.int .u8) w A rest.length rest ∧ Below w.heap.size w w'
theorem HeadPost.bad {w w' : World} {e : Ending} (he : e = .returned (.tuple #[.agg #[.slice none 0 0, .int .i64 0], .int .i64 0, .slice none 0 0, .bool false])) (hb : Below w.heap.size w w') : HeadPost w [] 0 0 [] false e w' :=
 ⟨_, none, 0, he, Kd.R_nil _ _ _ _ _, Nat.le_refl _, Kd.C_nil _ _, hb⟩
set_option maxHeartbeats 8000000 in
theorem head_short (A0 : Option Addr) (c0 : Nat) (b : List Int) (w : World) (hlt : b.length < 5) :
  Calls Try.prog 39 #[.slice A0 b.length c0] w (HeadPost w [] 0 0 [] false) := by
 have hu := Try.underlying24
 have hd : decide (b.length < 5) = true := decide_eq_true hlt
 have hd2 : decide ((b.length : Int) < 5) = true := decide_eq_true (by omega)
 clear hlt
 go_enter Try.func39, Try.ntmps39
 go_wp2_with (((with_reducible refine gate_dst (N := 2) rfl ?_); refine box_event ?hg (N := 2) ?hd (cs := #[.slice none 0 0, .int .i64 0]) (t := 24) ?hr ?_; (case hd => rfl); (case hg => rfl); (case hr => first | (go_simp; done) | (go_simp; rfl)); intro g2 hg w2 hbox hbw; have HB2 := am hbw; have HK2 := am hbox; have HG2 := am hg; have z0 : w2.cell? ⟨g2, 0, none⟩ = some (.slice none 0 0) := (blk_cell hbox 0).trans rfl; have z1 : w2.cell? ⟨g2, 1, none⟩ = some (.int .i64 0) := (blk_cell hbox 1).trans rfl; have f0 := blk_frozen hbox 0; have f1 := blk_frozen hbox 1; clear hg hbox hbw))
 go_wp2
 refine bodyPost_ret (results_list (rs := [.cell 2 24, .tmp 3, .tmp 4, .tmp 5]) rfl (by simp) (.cell g2 24 #[.slice none 0 0, .int .i64 0] (0, 0) _ rfl (blk_put (blk_put HK2.out 0 (.slice none 0 0) rfl) 1 (.int .i64 0) rfl) Try.underlying24 rfl (by kernel_rfl) (.tmp (.tmp (.tmp .nil))))) rfl ?_
 exact HeadPost.bad (by first | rfl | simp) (below_set (below_set HB2.out (Nat.le_of_eq HG2.out.symm)) (Nat.le_of_eq HG2.out.symm))
set_option maxHeartbeats 8000000 in
theorem head_unmarked (A0 : Option Addr) (c0 : Nat) (b : List Int) (w : World) (hr0 : Kd.C (Kd.int .u8) w A0 b.length b) (hc0 : b.length ≤ c0) (hge : 5 ≤ b.length) (hm : markP b = false) :
  Calls Try.prog 39 #[.slice A0 b.length c0] w (HeadPost w [] 0 0 [] false) := by
 have hu := Try.underlying24
 have hd : decide (b.length < 5) = false := decide_eq_false (by omega)
 have hd2 : decide ((b.length : Int) < 5) = false := decide_eq_false (by omega)
 obtain ⟨h1, h2⟩ := mark_runs A0 c0 b w hr0 hc0 (by omega)
 have hmk : ((strOfNums (b.take 4)).toList == [67, 85, 66, 49]) = false := hm
 have hmk' : ((strOfNums (b.take 4)).toList != [67, 85, 66, 49]) = true := by rw [bne, hmk]; rfl
 have H2 := am h2
 clear h2 hr0 hm hge
 generalize strOfNums (b.take 4) = s at H2 hmk hmk'
 go_enter Try.func39, Try.ntmps39
 go_wp2_with (((with_reducible refine gate_dst (N := 2) rfl ?_); refine box_event ?hg (N := 2) ?hd (cs := #[.slice none 0 0, .int .i64 0]) (t := 24) ?hr ?_; (case hd => rfl); (case hg => rfl); (case hr => first | (go_simp; done) | (go_simp; rfl)); intro g2 hg w2 hbox hbw; have HB2 := am hbw; have HK2 := am hbox; have HG2 := am hg; have z0 : w2.cell? ⟨g2, 0, none⟩ = some (.slice none 0 0) := (blk_cell hbox 0).trans rfl; have z1 : w2.cell? ⟨g2, 1, none⟩ = some (.int .i64 0) := (blk_cell hbox 1).trans rfl; have f0 := blk_frozen hbox 0; have f1 := blk_frozen hbox 1; have h3 := H2.out w2 hbw; clear hg hbox hbw))
 go_wp2
 refine bodyPost_ret (results_list (rs := [.cell 2 24, .tmp 3, .tmp 4, .tmp 5]) rfl (by simp) (.cell g2 24 #[.slice none 0 0, .int .i64 0] (0, 0) _ rfl (blk_put (blk_put HK2.out 0 (.slice none 0 0) rfl) 1 (.int .i64 0) rfl) Try.underlying24 rfl (by kernel_rfl) (.tmp (.tmp (.tmp .nil))))) rfl ?_
 exact HeadPost.bad (by first | rfl | simp) (below_set (below_set HB2.out (Nat.le_of_eq HG2.out.symm)) (Nat.le_of_eq HG2.out.symm))
set_option maxHeartbeats 8000000 in
set_option maxRecDepth 100000 in
theorem head_main (A0 : Option Addr) (c0 : Nat) (b : List Int) (w : World) (hr0 : Kd.C (Kd.int .u8) w A0 b.length b) (hc0 : b.length ≤ c0) (hbo : BytesOk b) (hge : 5 ≤ b.length) (hmx : b.length ≤ 100000000000) (hm : markP b = true) :
  Calls Try.prog 39 #[.slice A0 b.length c0] w (fun e w' => if hdD b ≤ 4 ∧ 8 + hdD b ≤ b.length then HeadPost w (hdTo b (hdD b).toNat) (hdMeas b) (hdN b) (hdRest b) (checkP (hdTo b (hdD b).toNat) (hdMeas b)) e w' else HeadPost w [] 0 0 [] false e w') := by
 have hu := Try.underlying24
 have hd : decide (b.length < 5) = false := decide_eq_false (by omega)
 have hd2 : decide ((b.length : Int) < 5) = false := decide_eq_false (by omega)
 obtain ⟨h1, h2⟩ := mark_runs A0 c0 b w hr0 hc0 (by omega)
 have hmk : ((strOfNums (b.take 4)).toList == [67, 85, 66, 49]) = true := hm
 have hmk' : ((strOfNums (b.take 4)).toList != [67, 85, 66, 49]) = false := by rw [bne, hmk]; rfl
 have H2 := am h2
 obtain ⟨ad, e4, x4⟩ := Kd.at_int hr0 4 (by decide) (by omega)
 subst e4
 have hD := hbo.at_ 4
 obtain ⟨dn, hdn⟩ : ∃ dn : Nat, dn = (hdD b).toNat := ⟨_, rfl⟩
 have hdz : hdD b = (dn : Int) := by have : hdD b = rd b 4 := rfl; omega
 have hdr : rd b 4 = (dn : Int) := hdz
 rw [hdr, show (4 : Int).toNat = 4 from rfl] at x4
 simp only [Nat.reduceMul, Nat.reduceEqDiff, Go.Addr.add, ↓reduceIte] at x4
 have hdl : dn ≤ 255 := by omega
 have hwd : wrap64 (dn : Int) = dn := by unfold wrap64; omega
 have X4 := am x4
 have HR0 := am (And.intro hc0 hr0)
 have HLEN := am (And.intro hge hmx)
 have HBO := am hbo
 have p4 := eq_true (show (4 : Int) < (b.length : Int) by omega)
 have p4n := eq_true (show 4 < b.length by omega)
 have hw8 : wrap64 (8 + (dn : Int)) = (8 + (dn : Int)) := by unfold wrap64; omega
 have HDZ := am hdz
 have HDN := am hdn
 clear h2 hr0 hm hge hmx hbo hc0 hdz hdn hdr hD x4
 generalize hst : strOfNums (b.take 4) = s at H2 hmk hmk'
 clear hst
 rw [← HDN.out, HDZ.out]
 by_cases hfit : (dn : Int) ≤ 4 ∧ 8 + (dn : Int) ≤ b.length
 rotate_left
 ·simp only [if_neg hfit]
  by_cases hd4 : (dn : Int) > 4
  ·have c4 : decide ((dn : Int) > 4) = true := decide_eq_true hd4
   have c4' : decide (4 < (dn : Int)) = true := decide_eq_true hd4
   have c4'' : decide (4 < dn) = true := decide_eq_true (by omega)
   clear hfit hd4
   go_enter Try.func39, Try.ntmps39
   go_wp2_with (((with_reducible refine gate_dst (N := 2) rfl ?_); refine box_event ?hg (N := 2) ?hd (cs := #[.slice none 0 0, .int .i64 0]) (t := 24) ?hr ?_; (case hd => rfl); (case hg => rfl); (case hr => first | (go_simp; done) | (go_simp; rfl)); intro g2 hg w2 hbox hbw; have HB2 := am hbw; have HK2 := am hbox; have HG2 := am hg; have z0 : w2.cell? ⟨g2, 0, none⟩ = some (.slice none 0 0) := (blk_cell hbox 0).trans rfl; have z1 : w2.cell? ⟨g2, 1, none⟩ = some (.int .i64 0) := (blk_cell hbox 1).trans rfl; have f0 := blk_frozen hbox 0; have f1 := blk_frozen hbox 1; have h3 := H2.out w2 hbw; have hx4 := (hbw.cell (World.block_lt_of_cell? w _ X4.out)).trans X4.out; clear hg hbox hbw))
   go_wp2
   refine bodyPost_ret (results_list (rs := [.cell 2 24, .tmp 3, .tmp 4, .tmp 5]) rfl (by simp) (.cell g2 24 #[.slice none 0 0, .int .i64 0] (0, 0) _ rfl (blk_put (blk_put HK2.out 0 (.slice none 0 0) rfl) 1 (.int .i64 0) rfl) Try.underlying24 rfl (by kernel_rfl) (.tmp (.tmp (.tmp .nil))))) rfl ?_
   exact HeadPost.bad (by first | rfl | simp) (below_set (below_set HB2.out (Nat.le_of_eq HG2.out.symm)) (Nat.le_of_eq HG2.out.symm))
  ·have c4 : decide ((dn : Int) > 4) = false := decide_eq_false hd4
   have c4' : decide (4 < (dn : Int)) = false := decide_eq_false hd4
   have c4'' : decide (4 < dn) = false := decide_eq_false (by omega)
   have c8 : decide ((b.length : Int) < (8 + (dn : Int))) = true := decide_eq_true (by omega)
   have c8' : decide (b.length < 8 + dn) = true := decide_eq_true (by omega)
   clear hfit hd4
   go_enter Try.func39, Try.ntmps39
   go_wp2_with (((with_reducible refine gate_dst (N := 2) rfl ?_); refine box_event ?hg (N := 2) ?hd (cs := #[.slice none 0 0, .int .i64 0]) (t := 24) ?hr ?_; (case hd => rfl); (case hg => rfl); (case hr => first | (go_simp; done) | (go_simp; rfl)); intro g2 hg w2 hbox hbw; have HB2 := am hbw; have HK2 := am hbox; have HG2 := am hg; have z0 : w2.cell? ⟨g2, 0, none⟩ = some (.slice none 0 0) := (blk_cell hbox 0).trans rfl; have z1 : w2.cell? ⟨g2, 1, none⟩ = some (.int .i64 0) := (blk_cell hbox 1).trans rfl; have f0 := blk_frozen hbox 0; have f1 := blk_frozen hbox 1; have h3 := H2.out w2 hbw; have hx4 := (hbw.cell (World.block_lt_of_cell? w _ X4.out)).trans X4.out; clear hg hbox hbw))
   go_wp2
   refine bodyPost_ret (results_list (rs := [.cell 2 24, .tmp 3, .tmp 4, .tmp 5]) rfl (by simp) (.cell g2 24 #[.slice none 0 0, .int .i64 0] (0, 0) _ rfl (blk_put (blk_put HK2.out 0 (.slice none 0 0) rfl) 1 (.int .i64 0) rfl) Try.underlying24 rfl (by kernel_rfl) (.tmp (.tmp (.tmp .nil))))) rfl ?_
   exact HeadPost.bad (by first | rfl | simp) (below_set (below_set HB2.out (Nat.le_of_eq HG2.out.symm)) (Nat.le_of_eq HG2.out.symm))
 ·simp only [if_pos hfit]
  have hd4 : dn ≤ 4 := by omega
  have h8 : 8 + dn ≤ b.length := by omega
  clear hfit
  have c4 : decide ((dn : Int) > 4) = false := decide_eq_false (by omega)
  have c4' : decide (4 < (dn : Int)) = false := decide_eq_false (by omega)
  have c4'' : decide (4 < dn) = false := decide_eq_false (by omega)
  have c8 : decide ((b.length : Int) < (8 + (dn : Int))) = false := decide_eq_false (by omega)
  have c8' : decide (b.length < 8 + dn) = false := decide_eq_false (by omega)
  have hw5 : wrap64 (5 + (dn : Int)) = (5 + (dn : Int)) := by unfold wrap64; omega
  have hw6 : wrap64 (6 + (dn : Int)) = (6 + (dn : Int)) := by unfold wrap64; omega
  have hw7 : wrap64 (7 + (dn : Int)) = (7 + (dn : Int)) := by unfold wrap64; omega
  obtain ⟨_, e5, x5⟩ := Kd.at_int HR0.out.2 ((5 + dn : Nat) : Int) (by omega) (by omega)
  cases e5
  obtain ⟨_, e6, x6⟩ := Kd.at_int HR0.out.2 ((6 + dn : Nat) : Int) (by omega) (by omega)
  cases e6
  obtain ⟨_, e7, x7⟩ := Kd.at_int HR0.out.2 ((7 + dn : Nat) : Int) (by omega) (by omega)
  cases e7
  rw [Int.toNat_natCast] at x5 x6 x7
  have hm5 := HBO.out.at_ ((5 + dn : Nat) : Int)
  have hm6 := HBO.out.at_ ((6 + dn : Nat) : Int)
  have hm7 := HBO.out.at_ ((7 + dn : Nat) : Int)
  have em : rd b ((5 + dn : Nat) : Int) = hdMeas b := by unfold hdMeas; rw [HDZ.out]; congr 1
  have en : rd b ((6 + dn : Nat) : Int) * 256 + rd b ((7 + dn : Nat) : Int) = hdN b := by unfold hdN; rw [HDZ.out]; congr 1
  obtain ⟨y6, hy6⟩ : ∃ y, y = rd b ((6 + dn : Nat) : Int) := ⟨_, rfl⟩
  obtain ⟨y7, hy7⟩ : ∃ y, y = rd b ((7 + dn : Nat) : Int) := ⟨_, rfl⟩
  rw [em] at x5 hm5
  rw [← hy6] at x6 hm6 en
  rw [← hy7] at x7 hm7 en
  have HEN := am en
  have HDW : Aside0 ((8 + hdD b).toNat = 8 + dn) := ⟨by rw [HDZ.out]; omega⟩
  have HRL : Aside0 (hdRest b = b.drop (8 + dn)) := ⟨by unfold hdRest; rw [HDW.out]⟩
  obtain ⟨ms, hms⟩ : ∃ ms, ms = hdMeas b := ⟨_, rfl⟩
  rw [← hms] at x5 hm5 ⊢
  have hwm : wrap64 ms = ms := by unfold wrap64; omega
  have hwy6 : wrap64 y6 = y6 := by unfold wrap64; omega
  have hwy7 : wrap64 y7 = y7 := by unfold wrap64; omega
  have X6 := am x6
  have X7 := am x7
  have X5 := am x5
  have HM6 := am (And.intro hm6 hm7)
  have HH := am (And.intro hd4 h8)
  have q5 := eq_true (show (5 + (dn : Int)) < (b.length : Int) by omega)
  have q5n := eq_true (show 5 + dn < b.length by omega)
  have q5z := eq_true (show (0 : Int) ≤ (5 + (dn : Int)) by omega)
  clear x5 x6 x7 em en hy6 hy7 hm5 hm6 hm7 hd4 h8 hms
  go_enter Try.func39, Try.ntmps39
  go_wp2_with (first | ((with_reducible refine gate_dst (N := 2) rfl ?_); refine box_event ?hg (N := 2) ?hd (cs := #[.slice none 0 0, .int .i64 0]) (t := 24) ?hr ?_; (case hd => rfl); (case hg => rfl); (case hr => first | (go_simp; done) | (go_simp; rfl)); intro g2 hg w2 hbox hbw; have HB2 := am hbw; have HK2 := am hbox; have HG2 := am hg; have z0 : w2.cell? ⟨g2, 0, none⟩ = some (.slice none 0 0) := (blk_cell hbox 0).trans rfl; have z1 : w2.cell? ⟨g2, 1, none⟩ = some (.int .i64 0) := (blk_cell hbox 1).trans rfl; have f0 := blk_frozen hbox 0; have f1 := blk_frozen hbox 1; have h3 := H2.out w2 hbw; have hx4 := (hbw.cell (World.block_lt_of_cell? w _ X4.out)).trans X4.out; have hx5 := (hbw.cell (World.block_lt_of_cell? w _ X5.out)).trans X5.out; clear hg hbox hbw) | ((with_reducible refine gate_dst (N := 7) rfl ?_); refine box_event ?hg (N := 7) ?hd (cs := #[.slice none 0 0, .int .i64 0]) (t := 24) ?hr ?_; (case hd => rfl); (case hg => rfl); (case hr => first | (go_simp; done) | (go_simp; rfl)); intro g7 hg w3 hbox hbw; have HB3 := am hbw; have HK7 := am hbox; have HLO7 := am (show w.heap.size ≤ g7 by rw [hg]; exact HB2.out.size); have HNE : Aside0 (g2 ≠ g7) := am (by rw [hg]; have := blk_lt HK2.out; omega); have z70 : w3.cell? ⟨g7, 0, none⟩ = some (.slice none 0 0) := (blk_cell hbox 0).trans rfl; have z71 : w3.cell? ⟨g7, 1, none⟩ = some (.int .i64 0) := (blk_cell hbox 1).trans rfl; have f70 := blk_frozen hbox 0; have f71 := blk_frozen hbox 1; clear hg hbox hbw))
  generalize hw4 : (w3.setCell ⟨g7, 0, none⟩ (.slice none 0 0)).setCell ⟨g7, 1, none⟩ (.int .i64 ms) = w4
  have hg7 : w.heap.size ≤ g7 := HLO7.out
  have hB4 : Below w.heap.size w w4 := by rw [← hw4]; exact below_set (below_set (below_step HB2.out HB3.out) hg7) hg7
  have hK7 : w4.heap[g7]? = some (.cells #[.slice none 0 0, .int .i64 ms] 24 (0, 0)) := by rw [← hw4]; exact blk_put (blk_put HK7.out 0 _ rfl) 1 _ rfl
  have hK2 : w4.heap[g2]? = some (.cells #[.slice none 0 0, .int .i64 0] 24 (0, 0)) := by rw [← hw4, Below.heap_setCell _ _ _ _ HNE.out, Below.heap_setCell _ _ _ _ HNE.out]; exact blk_below HK2.out HB3.out
  have hlt : g2 < w4.heap.size ∧ g7 < w4.heap.size := ⟨blk_lt hK2, blk_lt hK7⟩
  have HB4 := am hB4
  have K7 := am hK7
  have K2 := am hK2
  have HLT := am hlt
  have HWS := am (And.intro hw6 (And.intro hw7 (And.intro hw8 (And.intro hwy6 hwy7))))
  clear hw4 hg7 hB4 hK7 hK2 hlt HK2 HB2 HB3 HK7 z70 z71 f70 f71 hw5 hw6 hw7 hw8 hwy6 hwy7 hwm hwd
  go_loopg [8] (dn + 1) (fun kq v8 w' => ∃ (i : Nat) (u : Value), v8 = .int .i64 (i : Int) ∧ Aside0 (i + kq = dn + 1 ∧ i ≤ dn) ∧ Aside0 (Kd.R (Kd.int .i64) 3 w' w.heap.size (fun k => w4.heap.size ≤ k) u (hdTo b i)) ∧ Aside0 (w'.heap[g2]? = some (.cells #[.slice none 0 0, .int .i64 0] 24 (0, 0))) ∧ Aside0 (w'.heap[g7]? = some (.cells #[u, .int .i64 ms] 24 (0, 0))) ∧ Aside0 (Below w.heap.size w w' ∧ w4.heap.size ≤ w'.heap.size))
  case atStart => exact ⟨0, .slice none 0 0, rfl, ⟨by omega, by omega⟩, ⟨Kd.R_nil _ _ _ _ _⟩, K2, K7, ⟨HB4.out, Nat.le_refl _⟩⟩
  case round =>
  obtain ⟨i, u, rfl, HI, HO, L2, L7, HB⟩ := hrel
  cases gk with
  | zero => exact absurd HI.out (by omega)
  | succ k1 =>
  obtain ⟨kk, hkk⟩ : ∃ kk, kk = hdTo b i := ⟨_, rfl⟩
  rw [← hkk] at HO
  obtain ⟨Ak, ck, rfl⟩ := Kd.R_slice HO.out
  have HKL : Aside0 (kk.length = i) := ⟨by rw [hkk, hdTo_length]⟩
  by_cases hi : i < dn
  ·have hd1 : decide ((i : Int) < (dn : Int)) = true := decide_eq_true (by omega)
   have hd2 : decide (i < dn) = true := decide_eq_true hi
   have hwi : wrap64 ((i : Int) + 1) = ((i + 1 : Nat) : Int) := by have := HH.out.1; unfold wrap64; omega
   obtain ⟨j5, hj5⟩ : ∃ j5 : Int, j5 = 5 + (i : Int) := ⟨_, rfl⟩
   have hw5i : wrap64 (5 + (i : Int)) = j5 := by have := HH.out.1; rw [hj5]; unfold wrap64; omega
   obtain ⟨_, e5, x5⟩ := Kd.at_int HR0.out.2 ((5 + i : Nat) : Int) (by omega) (by have := HH.out.2; omega)
   cases e5
   rw [show ((5 + i : Nat) : Int) = j5 by omega] at x5
   have hy := HBO.out.at_ j5
   have hsn := hdTo_succ b i
   rw [← hkk, show ((5 + i : Nat) : Int) = j5 by omega] at hsn
   generalize rd b j5 = y at *
   have hwy : wrap64 y = y := by unfold wrap64; omega
   obtain ⟨kn, hkn⟩ : ∃ kn, kn = hdTo b (i + 1) := ⟨_, rfl⟩
   rw [← hkn] at hsn
   have HSN := am hsn
   have HKN := am hkn
   have X5 := am ((HB.out.1.cell (World.block_lt_of_cell? w _ x5)).trans x5)
   have q5 := eq_true (show j5 < (b.length : Int) by have := HH.out.2; omega)
   have q5z := eq_true (show (0 : Int) ≤ j5 by omega)
   have HHI := am hi
   have L70 := am (bc L7 0)
   clear hi hy hsn hkn hkk x5 hj5
   generalize wr = wo at *
   go_wp2
   refine start_ (n := 12) (S := fun w' => w'.cell? ⟨g7, 0, none⟩ = some (.slice Ak kk.length ck) ∧ w'.cell? (ad.add j5.toNat) = some (.int .u8 y)) (ds := [9, 11]) (bb 12 0) (by kernel_rfl) rfl rfl ⟨L70.out, X5.out⟩ (fun hHeld => ?_)
   refine with_tabW refHead.tab10 refHead.bits10 (fun HT_ HW_ => ?_)
   generalize hwd : wo.drew = wd at hHeld ⊢
   have HDR : Aside0 (Below wo.heap.size wo wd) := ⟨by rw [← hwd]; exact below_drew (Below.refl _ _)⟩
   clear hwd
   refine pu (i := 0) (N := some 45) (bb 12 1) HT_ ?_
   refine pu (i := 2) (N := some 47) (bb 12 5) HT_ ?_
   refine pu (i := 3) (N := some 48) (bb 12 13) HT_ ?_
   refine pu (i := 4) (N := some 49) (bb 12 29) HT_ ?_
   refine pu (i := 5) (N := some 50) (bb 12 61) HT_ ?_
   refine tk (i := 1) (N := some 46) (bb 12 63) HT_ HW_ hHeld ?_
   refine tk (i := 6) (N := some 51) (bb 12 127) HT_ HW_ hHeld ?_
   refine tk (i := 7) (N := some 52) (bb 12 255) HT_ HW_ hHeld ?_
   refine one_ (i := 8) (N := some 53) (bb 12 511) rfl rfl (one_of HT_.out (by kernel_rfl)) (by decide) (fun K hK => ?_)
   refine value_ (w1 := ?_) (v := ?_) (by rfl) rfl ?_ ?_
   rotate_left 2
   ·go_simp
    constructor
    ·rfl
    ·rfl
   have HDA := am (fun o => below_alloc HDR.out o)
   refine hK.out _ _ ⟨(World.cell?_alloc_lt _ _ _ (World.block_lt_of_cell? _ _ hHeld.1)).trans hHeld.1, (World.cell?_alloc_lt _ _ _ (World.block_lt_of_cell? _ _ hHeld.2)).trans hHeld.2⟩ (fun hHeld => ?_)
   clear hK K
   refine nm ?_
   refine last_ (i := 9) (N := some 54) (bb 12 1023) rfl rfl (one_of HT_.out (by kernel_rfl)) (by decide) (fun K hK => ?_)
   refine Kd.R_append_step (Kd.int .i64) (w0 := w) w.heap.size (by rfl) (.tmp 46) (.tmp 53) 22 3 (.int .i64 0) 8 rfl Try.underlying22 info3 rfl (by decide) (by omega) (.slice Ak kk.length ck) kk y [.int .i64 y] (fun k => w4.heap.size ≤ k) (fun _ => False) rfl rfl ?aP (fun _ hk => hk.elim) ?aF ?aO ?aB ?aS ?aL ?_
   (case aP => exact rfl)
   (case aF => exact fun k hk => Nat.le_trans HB.out.2 (Nat.le_trans HDR.out.size hk))
   (case aO => exact Kd.R_below HO.out HDR.out)
   (case aB => exact below_step HB.out.1 HDR.out)
   (case aS => exact Nat.le_trans HB.out.1.size HDR.out.size)
   (case aL => have := HKL.out; have := HI.out; have := HH.out; omega)
   intro v2 w6 ho hb hg hat
   rw [← HSN.out] at ho
   obtain ⟨Ak2, ck2, rfl⟩ := Kd.R_slice ho
   have HO2 := am ho
   have L2b := am (blk_grown (blk_below L2.out HDR.out) hg (fun e => by have := HO.out.1 g2 e.symm; have := HLT.out.1; omega))
   have L7b := am (blk_grown (blk_below L7.out HDR.out) hg (fun e => by have := HO.out.1 g7 e.symm; have := HLT.out.2; omega))
   have HBb := am (And.intro hb (Nat.le_trans (Nat.le_trans HB.out.2 HDR.out.size) hg.size))
   clear ho hb hg hat
   refine hK.out _ _ ?_
   clear hK K
   refine nm ?_
   refine pu (i := 10) (N := some 55) (bb 12 2047) HT_ ?_
   refine last_ (i := 11) (N := none) (bb 12 4095) rfl rfl (one_of HT_.out (by kernel_rfl)) (by decide) (fun K hK => ?_)
   have hs := bc L7b 0
   have hfs := blk_frozen L7b.out 0
   refine skip_ (w1 := ?_) (by rfl) rfl ?_ ?_
   rotate_left
   ·go_simp
    rfl
   refine hK.out _ _ ?_
   clear hK K
   refine done_ (done_of HT_.out (by kernel_rfl)) ?_
   go_wp2
   go_roundg k1
   case measure => have := HI.out; have := HHI.out; omega
   case rel => exact ⟨i + 1, .slice Ak2 kn.length ck2, by first | rfl | simp [hwi], ⟨by have := HI.out; have := HHI.out; omega, by have := HHI.out; omega⟩, ⟨by rw [← HKN.out]; exact Kd.R_far HO2.out (fun k hk => by have := HLT.out.2; have h1 : w4.heap.size ≤ k := hk; show k ≠ g7; omega) _⟩, ⟨(Below.heap_setCell _ _ _ _ HNE.out).trans L2b.out⟩, ⟨blk_put L7b.out 0 _ rfl⟩, ⟨below_set HBb.out.1 HLO7.out, by have := HBb.out.2; simpa [World.setCell] using this⟩⟩
  ·have hd1 : decide ((i : Int) < (dn : Int)) = false := decide_eq_false (by omega)
   have hd2 : decide (i < dn) = false := decide_eq_false hi
   obtain rfl : i = dn := by have := HI.out; omega
   obtain ⟨j6, hj6⟩ : ∃ j : Int, j = 6 + (i : Int) := ⟨_, rfl⟩
   have q6 := eq_true (show j6 < (b.length : Int) by have := HH.out.2; omega)
   have q6z := eq_true (show (0 : Int) ≤ j6 by omega)
   obtain ⟨j7, hj7⟩ : ∃ j : Int, j = 7 + (i : Int) := ⟨_, rfl⟩
   have q7 := eq_true (show j7 < (b.length : Int) by have := HH.out.2; omega)
   have q7z := eq_true (show (0 : Int) ≤ j7 by omega)
   obtain ⟨j8, hj8⟩ : ∃ j : Int, j = 8 + (i : Int) := ⟨_, rfl⟩
   obtain ⟨i0, hi0, _, hsz, _⟩ := info_parts info5
   have hcut := cut_from (P := Try.prog) 36 5 .i64 Try.underlying36 hi0 1 hsz (some ad) b.length c0 j8 (by omega) (by have := HH.out.2; omega)
   rw [show j8.toNat = 8 + i by omega, Nat.mul_one] at hcut
   obtain ⟨A', hA'⟩ : ∃ A', A' = (if c0 = 8 + i then some ad else (some ad : Option Addr).map (·.add (8 + i))) := ⟨_, rfl⟩
   rw [← hA'] at hcut
   have hdrop := Kd.C_drop (k := Kd.int .u8) HR0.out.2 HH.out.2 HR0.out.1
   rw [show (Kd.int .u8).sz = 1 from rfl, Nat.mul_one, ← hA'] at hdrop
   obtain ⟨lr, hlr⟩ : ∃ lr, lr = b.drop (8 + i) := ⟨_, rfl⟩
   rw [← hlr] at hdrop
   have hlrl : b.length - (8 + i) = lr.length := by rw [hlr, List.length_drop]
   rw [hlrl] at hcut
   obtain ⟨c', hc'⟩ : ∃ c', c' = c0 - (8 + i) := ⟨_, rfl⟩
   rw [← hc'] at hcut
   have HRC : Aside0 (lr.length ≤ c' ∧ Kd.C (Kd.int .u8) w A' lr.length lr) := ⟨by have := HR0.out.1; omega, hdrop⟩
   have HLR : Aside0 (hdRest b = lr) := ⟨by rw [HRL.out, hlr]⟩
   have hor : Go.bits .or .i64 (wrap64 (y6 * 256)) y7 = y6 * 256 + y7 := by
    have h1 := HM6.out
    have := numOf_step y6 y7 h1.2.1 (by omega)
    rw [HWS.out.2.2.2.2] at this
    rw [this]; unfold wrap64; omega
   have hck := ref_check kk ms 10 (by decide)
   have HKK := am hkk
   obtain ⟨q, hq⟩ : ∃ q, q = checkP kk ms := ⟨_, rfl⟩
   rw [← hq] at hck
   have HQ := am hq
   have HCK := am hck
   have X6a := am (show wr.cell? (ad.add j6.toNat) = some (.int .u8 y6) by rw [show j6.toNat = 6 + i by omega]; exact (HB.out.1.cell (World.block_lt_of_cell? w _ X6.out)).trans X6.out)
   have X7a := am (show wr.cell? (ad.add j7.toNat) = some (.int .u8 y7) by rw [show j7.toNat = 7 + i by omega]; exact (HB.out.1.cell (World.block_lt_of_cell? w _ X7.out)).trans X7.out)
   have X6b := am (show w.cell? (ad.add j6.toNat) = some (.int .u8 y6) by rw [show j6.toNat = 6 + i by omega]; exact X6.out)
   have X7b := am (show w.cell? (ad.add j7.toNat) = some (.int .u8 y7) by rw [show j7.toNat = 7 + i by omega]; exact X7.out)
   have L70 := am (bc L7 0)
   have L71 := am (bc L7 1)
   clear hi hi0 hsz hA' hdrop hlr hlrl hc' hkk hck hq X6 X7
   obtain ⟨hw6, hw7, hw8, hwy6, hwy7⟩ := HWS.out
   replace hw6 := hw6.trans hj6.symm
   replace hw7 := hw7.trans hj7.symm
   replace hw8 := hw8.trans hj8.symm
   clear hj6 hj7 hj8
   generalize wr = wo at *
   go_wp2
   refine start_ (n := 25) (S := fun w' => w'.cell? ⟨g7, 0, none⟩ = some (.slice Ak kk.length ck) ∧ w'.cell? ⟨g7, 1, none⟩ = some (.int .i64 ms) ∧ w'.cell? (ad.add j6.toNat) = some (.int .u8 y6) ∧ w'.cell? (ad.add j7.toNat) = some (.int .u8 y7)) (ds := []) (bb 25 0) (by kernel_rfl) rfl rfl ⟨L70.out, L71.out, X6a.out, X7a.out⟩ (fun hHeld => ?_)
   refine with_tabW refHead.tab11 refHead.bits11 (fun HT_ HW_ => ?_)
   generalize hwd : wo.drew = wd at hHeld ⊢
   have HDR : Aside0 (Below wo.heap.size wo wd) := ⟨by rw [← hwd]; exact below_drew (Below.refl _ _)⟩
   clear hwd
   refine pu (i := 1) (N := some 57) (bb 25 2) HT_ ?_
   refine pu (i := 2) (N := some 58) (bb 25 6) HT_ ?_
   refine pu (i := 3) (N := some 59) (bb 25 14) HT_ ?_
   refine pu (i := 4) (N := some 60) (bb 25 30) HT_ ?_
   refine pu (i := 8) (N := some 64) (bb 25 286) HT_ ?_
   refine pu (i := 9) (N := some 65) (bb 25 798) HT_ ?_
   refine pu (i := 10) (N := some 66) (bb 25 1822) HT_ ?_
   refine pu (i := 11) (N := some 67) (bb 25 3870) HT_ ?_
   refine pu (i := 15) (N := some 71) (bb 25 36638) HT_ ?_
   refine pu (i := 16) (N := some 72) (bb 25 102174) HT_ ?_
   refine pu (i := 17) (N := some 73) (bb 25 233246) HT_ ?_
   refine pu (i := 18) (N := some 74) (bb 25 495390) HT_ ?_
   refine tk (i := 0) (N := some 56) (bb 25 495391) HT_ HW_ hHeld ?_
   refine tk (i := 5) (N := some 61) (bb 25 495423) HT_ HW_ hHeld ?_
   refine tk (i := 6) (N := some 62) (bb 25 495487) HT_ HW_ hHeld ?_
   refine tk (i := 12) (N := some 68) (bb 25 499583) HT_ HW_ hHeld ?_
   refine tk (i := 13) (N := some 69) (bb 25 507775) HT_ HW_ hHeld ?_
   refine tk (i := 19) (N := some 75) (bb 25 1032063) HT_ HW_ hHeld ?_
   refine pu (i := 7) (N := some 63) (bb 25 1032191) HT_ ?_
   refine pu (i := 14) (N := some 70) (bb 25 1048575) HT_ ?_
   refine one_ (i := 20) (N := some 76) (bb 25 2097151) rfl rfl (one_of HT_.out (by kernel_rfl)) (by decide) (fun K hK => ?_)
   refine goes_ Try.func18 (by kernel_rfl) rfl #[.agg #[.slice Ak kk.length ck, .int .i64 ms]] (by rfl) rfl rfl (by (try simp only [List.map_toArray, List.map_cons, List.map_nil]); first | done | rfl) ?_
   with_reducible refine (hypercuberef1_Check.calls 10 Ak ck kk ms q _ (Kd.C_below (Kd.R_reads' HO.out).2.2 HDR.out) (Kd.R_reads' HO.out).2.1 HCK.out).mono ?_

   rintro e wd2 ⟨rfl, hb⟩
   replace HDR := am (below_step HDR.out hb)
   clear hb
   refine ⟨_, rfl, ?_⟩
   refine hK.out _ _ ⟨(Below.cell HDR.out (World.block_lt_of_cell? wo _ L70.out)).trans L70.out, (Below.cell HDR.out (World.block_lt_of_cell? wo _ L71.out)).trans L71.out, (Below.cell HDR.out (World.block_lt_of_cell? wo _ X6a.out)).trans X6a.out, (Below.cell HDR.out (World.block_lt_of_cell? wo _ X7a.out)).trans X7a.out⟩ (fun hHeld => ?_)
   clear hK K
   refine nm ?_
   refine one_ (i := 21) (N := none) (bb 25 4194303) rfl rfl (one_of HT_.out (by kernel_rfl)) (by decide) (fun K hK => ?_)
   have L2d := am (blk_below L2.out HDR.out)
   have hs0 := bc L2d 0
   have hs1 := bc L2d 1
   have hf0 := blk_frozen L2d.out 0
   have hf1 := blk_frozen L2d.out 1
   refine skip_ (w1 := ?_) (by rfl) rfl ?_ ?_
   rotate_left
   ·go_simp
    rfl
   have L2c := am (blk_put (blk_put L2d.out 0 (.slice Ak kk.length ck) rfl) 1 (.int .i64 ms) rfl)
   have hg2 : w.heap.size ≤ g2 := Nat.le_of_eq HG2.out.symm
   have HBc := am (below_set (below_set (below_step HB.out.1 HDR.out) hg2 (j := 0) (v := .slice Ak kk.length ck)) hg2 (j := 1) (v := .int .i64 ms))
   have HOc := am (Kd.R_far (p := ⟨g2, 1, none⟩) (Kd.R_far (p := ⟨g2, 0, none⟩) (Kd.R_below HO.out HDR.out) (fun k hk => by have h1 : w4.heap.size ≤ k := hk; have := HLT.out.1; show k ≠ g2; omega) (.slice Ak kk.length ck)) (fun k hk => by have h1 : w4.heap.size ≤ k := hk; have := HLT.out.1; show k ≠ g2; omega) (.int .i64 ms))
   have hadb : ∀ {a : Addr} {v : Value}, w.cell? a = some v → a.block ≠ g2 := fun h e => by have := World.block_lt_of_cell? w _ h; omega
   have hfr : ∀ {a : Addr} {v : Value}, a.block ≠ g2 → wo.cell? a = some v → ((wd2.setCell ⟨g2, 0, none⟩ (.slice Ak kk.length ck)).setCell ⟨g2, 1, none⟩ (.int .i64 ms)).cell? a = some v := fun {a v} hn h => by
    have h2 := (Below.cell HDR.out (World.block_lt_of_cell? wo _ h)).trans h
    have e : ((wd2.setCell ⟨g2, 0, none⟩ (.slice Ak kk.length ck)).setCell ⟨g2, 1, none⟩ (.int .i64 ms)).heap[a.block]? = wd2.heap[a.block]? := by rw [Below.heap_setCell _ _ _ _ hn, Below.heap_setCell _ _ _ _ hn]
    unfold World.cell? at h2 ⊢
    rw [e]; exact h2
   have H5 := am (And.intro (hfr (fun e => HNE.out e.symm) L70.out) (And.intro (hfr (fun e => HNE.out e.symm) L71.out) (And.intro (hfr (hadb X6b.out) X6a.out) (hfr (hadb X7b.out) X7a.out))))
   clear hs0 hs1 hf0 hf1 hg2 hadb hfr
   refine hK.out _ _ ⟨H5.out.1, H5.out.2.1, H5.out.2.2.1, H5.out.2.2.2⟩ (fun hHeld => ?_)
   clear hK K
   refine pu (i := 22) (N := some 3) (bb 25 8388607) HT_ ?_
   refine pu (i := 23) (N := some 4) (bb 25 16777215) HT_ ?_
   refine pu (i := 24) (N := some 5) (bb 25 33554431) HT_ ?_
   refine done_ (done_of HT_.out (by kernel_rfl)) ?_
   go_wp2
   refine bodyPost_ret (results_list (rs := [.cell 2 24, .tmp 3, .tmp 4, .tmp 5]) rfl (by simp) (.cell g2 24 #[.slice Ak kk.length ck, .int .i64 ms] (0, 0) _ rfl L2c.out Try.underlying24 rfl (by kernel_rfl) (.tmp (.tmp (.tmp .nil))))) rfl ?_
   rw [← HKK.out, ← HQ.out, HLR.out, ← HEN.out]
   exact ⟨_, _, _, by first | rfl | (simp; done), Kd.R_mono HOc.out (fun _ _ => trivial), HRC.out.1, HRC.out.2, HBc.out⟩
theorem head_calls (A0 : Option Addr) (c0 : Nat) (b : List Int) (w : World) (hr0 : Kd.C (Kd.int .u8) w A0 b.length b) (hc0 : b.length ≤ c0) (hbo : BytesOk b) (hmx : b.length ≤ 100000000000) :
  Calls Try.prog 39 #[.slice A0 b.length c0] w (fun e w' => if hdFits b then HeadPost w (hdTo b (hdD b).toNat) (hdMeas b) (hdN b) (hdRest b) (checkP (hdTo b (hdD b).toNat) (hdMeas b)) e w' else HeadPost w [] 0 0 [] false e w') := by
 by_cases h5 : b.length < 5
 ·simp only [if_neg (show ¬ hdFits b from fun h => by have := h.1.1; omega)]
  exact head_short A0 c0 b w h5
 ·cases hm : markP b
  ·simp only [if_neg (show ¬ hdFits b from fun h => by have := h.1.2; rw [hm] at this; cases this)]
   exact head_unmarked A0 c0 b w hr0 hc0 (by omega) hm
  ·refine (head_main A0 c0 b w hr0 hc0 hbo (by omega) hmx hm).mono ?_
   intro e w' h
   by_cases hf : hdD b ≤ 4 ∧ 8 + hdD b ≤ b.length
   ·rw [if_pos hf] at h
    rw [if_pos ⟨⟨by omega, hm⟩, hf⟩]; exact h
   ·rw [if_neg hf] at h
    rw [if_neg (fun h2 => hf h2.2)]; exact h
def rowW (cards : List Int) (meas : Int) : Nat := cards.length + 8 * meas.toNat
def rowsN (cards : List Int) (meas : Int) (rest : List Int) (n : Nat) : List S33 := (List.range n).map fun i => refRow cards.length meas.toNat (rest.drop (i * rowW cards meas))
theorem rowsN_succ (cards : List Int) (meas : Int) (rest : List Int) (n : Nat) : rowsN cards meas rest (n + 1) = rowsN cards meas rest n ++ [refRow cards.length meas.toNat (rest.drop (n * rowW cards meas))] := by unfold rowsN; rw [List.range_succ, List.map_append]; rfl
theorem rowsN_length (cards : List Int) (meas : Int) (rest : List Int) (n : Nat) : (rowsN cards meas rest n).length = n := by simp [rowsN]
def rowsFit (cards : List Int) (meas n : Int) (rest : List Int) : Prop := rest.length = n.toNat * rowW cards meas ∧ ∀ i, i < n.toNat → rightP cards meas (refRow cards.length meas.toNat (rest.drop (i * rowW cards meas))) = true
theorem dec_facts {b : List Int} (hbo : BytesOk b) (hmx : b.length ≤ 100000000000) : ∃ (cards : List Int) (meas n : Int) (rest : List Int) (is : Bool),
  (∀ (A : Option Addr) (c : Nat) (w : World), Kd.C (Kd.int .u8) w A b.length b → b.length ≤ c → Calls Try.prog 39 #[.slice A b.length c] w (HeadPost w cards meas n rest is)) ∧
  (¬ (is = true ∧ n ≤ 300) → refDecP b = badP) ∧
  (is = true → n ≤ 300 → ((1 ≤ cards.length ∧ cards.length ≤ 4) ∧ (0 ≤ meas ∧ meas ≤ 2) ∧ 0 ≤ n) ∧ (rest.length ≤ b.length ∧ BytesOk rest) ∧ (¬ rowsFit cards meas n rest → refDecP b = badP) ∧ (rowsFit cards meas n rest → refDecP b = (cards, meas, rowsN cards meas rest n.toNat, 0))) := by
 by_cases hf : hdFits b
 rotate_left
 ·refine ⟨[], 0, 0, [], false, fun A c w h1 h2 => ?_, fun _ => ?_, fun h => by cases h⟩
  ·have := head_calls A c b w h1 h2 hbo hmx
   simp only [if_neg hf] at this
   exact this
  ·exact if_neg (fun h => hf h.1)
 ·refine ⟨hdTo b (hdD b).toNat, hdMeas b, hdN b, hdRest b, checkP (hdTo b (hdD b).toNat) (hdMeas b), fun A c w h1 h2 => ?_, fun h => ?_, fun h1 h2 => ?_⟩
  ·have := head_calls A c b w h1 h2 hbo hmx
   simp only [if_pos hf] at this
   exact this
  ·exact if_neg (fun h3 => h ⟨h3.2.1, h3.2.2.1⟩)
  ·have hlen := hdTo_length b (hdD b).toNat
   obtain ⟨⟨⟨⟨k1, k2⟩, k3⟩, k4⟩, k5⟩ : (((1 ≤ (hdTo b (hdD b).toNat).length ∧ (hdTo b (hdD b).toNat).length ≤ 4) ∧ True) ∧ 0 ≤ hdMeas b) ∧ hdMeas b ≤ 2 := by
    unfold checkP at h1
    simp only [Bool.and_eq_true, decide_eq_true_eq] at h1
    exact ⟨⟨⟨h1.1.1.1, trivial⟩, h1.1.2⟩, h1.2⟩
   have hn0 : 0 ≤ hdN b := by
    unfold hdN
    have h6 := hbo.at_ (6 + hdD b)
    have h7 := hbo.at_ (7 + hdD b)
    omega
   have hW : rowW (hdTo b (hdD b).toNat) (hdMeas b) = refW b := by unfold rowW refW; rw [hlen]
   have hA : ∀ i, refRow (hdTo b (hdD b).toNat).length (hdMeas b).toNat ((hdRest b).drop (i * rowW (hdTo b (hdD b).toNat) (hdMeas b))) = refAt b i := fun i => by unfold refAt; rw [hW, hlen]
   refine ⟨⟨⟨k1, k2⟩, ⟨k4, k5⟩, hn0⟩, ⟨by unfold hdRest; rw [List.length_drop]; omega, fun x hx => hbo x (List.mem_of_mem_drop hx)⟩, fun h => ?_, fun h => ?_⟩
   ·refine if_neg (fun h3 => h ⟨by rw [hW]; exact h3.2.2.2.1, fun i hi => by rw [hA]; exact h3.2.2.2.2 i hi⟩)
   ·unfold refDecP
    rw [if_pos ⟨hf, h1, h2, by rw [← hW]; exact h.1, fun i hi => by rw [← hA]; exact h.2 i hi⟩]
    unfold rowsN refRows
    congr 2
    congr 1
    exact List.map_congr_left (fun i _ => (hA i).symm)
def RefPost (w : World) (p : List Int × Int × List S33 × Int) (e : Ending) (w' : World) : Prop :=
 ∃ (A0 : Option Addr) (c0 : Nat) (A1 : Option Addr) (c1 : Nat), e = .returned (.tuple #[.agg #[.slice A0 p.1.length c0, .int .i64 p.2.1], .slice A1 p.2.2.1.length c1, .int .i64 p.2.2.2]) ∧ (p.1.length ≤ c0 ∧ Kd.C (Kd.int .i64) w' A0 p.1.length p.1) ∧ (p.2.2.1.length ≤ c1 ∧ Kd.C k33 w' A1 p.2.2.1.length p.2.2.1) ∧ Below w.heap.size w w'
theorem RefPost.bad {w w' : World} {e : Ending} (he : e = .returned (.tuple #[.agg #[.slice none 0 0, .int .i64 0], .slice none 0 0, .int .i64 1])) (hb : Below w.heap.size w w') : RefPost w badP e w' :=
 ⟨none, 0, none, 0, he, ⟨Nat.le_refl _, Kd.C_nil _ _⟩, ⟨Nat.le_refl _, Kd.C_nil _ _⟩, hb⟩
theorem take_rd {l : List Int} {n k : Nat} (h : k < n) : rd (l.take n) (k : Int) = rd l (k : Int) := by
 unfold rd
 rw [Int.toNat_natCast, List.getD_eq_getElem?_getD, List.getD_eq_getElem?_getD, List.getElem?_take_of_lt h]
theorem take_mid {l : List Int} {n j m : Nat} (h : j + m ≤ n) : ((l.take n).drop j).take m = (l.drop j).take m := by
 rw [List.drop_take, List.take_take, Nat.min_eq_left (by omega)]
def keyTo (y : List Int) (n : Nat) : List Int := (List.range n).map fun k : Nat => rd y (k : Int)
theorem keyTo_length (y : List Int) (n : Nat) : (keyTo y n).length = n := by simp [keyTo]
theorem keyTo_succ (y : List Int) (n : Nat) : keyTo y (n + 1) = keyTo y n ++ [rd y (n : Int)] := by unfold keyTo; rw [List.range_succ, List.map_append]; rfl
def mTo (y : List Int) (d n : Nat) : List Int := (List.range n).map fun k => numOf ((y.drop (d + 8 * k)).take 8)
theorem mTo_length (y : List Int) (d n : Nat) : (mTo y d n).length = n := by simp [mTo]
theorem mTo_succ (y : List Int) (d n : Nat) : mTo y d (n + 1) = mTo y d n ++ [numOf ((y.drop (d + 8 * n)).take 8)] := by unfold mTo; rw [List.range_succ, List.map_append]; rfl
theorem below_grown {w0 w wd w6 : World} {row : Option Nat} (h : Below w0.heap.size w0 w) (hd : Below w.heap.size w wd) (hg : wd.grownBy w6 row) (hr : ∀ q, row = some q → w0.heap.size ≤ q) : Below w0.heap.size w0 w6 := by
 have h2 := below_step h hd
 exact ⟨hg.os.trans h2.os, hg.tape.trans h2.tape, hg.output.trans h2.output, Nat.le_trans h2.size hg.size, fun k hk => (hg.block k (Nat.lt_of_lt_of_le hk h2.size) (fun e => by have := hr k e.symm; omega)).trans (h2.block k hk)⟩
theorem w64c {x : Int} (h0 : -9223372036854775808 ≤ x) (h1 : x ≤ 9223372036854775807) : wrap64 x = x := by unfold wrap64; omega
def refDec.T17 : Bool × List (List Nat × List Nat) := (true, [([], []), ([0], [0]), ([], []), ([], []), ([2, 3], [2, 3]), ([4], [4]), ([5], [5]), ([6], [6]), ([1, 7], [1, 7]), ([0, 1, 2, 3, 4, 5, 6, 7, 8], []), ([9, 8, 8, 0, 1, 2, 3, 4, 5, 6, 7, 8], [8, 9])])
def refDec.B17 : List Nat := [0, 1, 0, 0, 12, 28, 60, 124, 255, 511, 1023]
theorem refDec.tab17 : rtab .any (opsOf Try.f26 17) = refDec.T17 := by kernel_rfl
theorem refDec.bits17 : waitsOk refDec.T17.2 refDec.B17 = true := by kernel_rfl
def refDec.T21 : Bool × List (List Nat × List Nat) := (true, [([], []), ([0], [0]), ([], []), ([], []), ([], []), ([4], [4]), ([3, 5], [3, 5]), ([], []), ([], []), ([8], [8]), ([7, 9], [7, 9]), ([10], [10]), ([2, 6, 11], [2, 6, 11]), ([12], [12]), ([13], [13]), ([1, 14, 13], [1, 14]), ([0, 1, 2, 3, 4, 5, 6, 7, 8, 9, 10, 11, 12, 13, 14, 15], []), ([16, 15, 15, 0, 1, 2, 3, 4, 5, 6, 7, 8, 9, 10, 11, 12, 13, 14, 15], [15, 16])])
def refDec.B21 : List Nat := [0, 1, 0, 0, 0, 16, 56, 0, 0, 256, 896, 1920, 4092, 8188, 16380, 32767, 65535, 131071]
theorem refDec.tab21 : rtab .any (opsOf Try.f26 21) = refDec.T21 := by kernel_rfl
theorem refDec.bits21 : waitsOk refDec.T21.2 refDec.B21 = true := by kernel_rfl
set_option maxHeartbeats 8000000 in
set_option maxRecDepth 100000 in
theorem ref_dec (A0 : Option Addr) (c0 : Nat) (b : List Int) (w : World) (hr0 : Kd.C (Kd.int .u8) w A0 b.length b) (hc0 : b.length ≤ c0) (hbo : BytesOk b) (hmx : b.length ≤ 100000000000) :
  Calls Try.prog 26 #[.slice A0 b.length c0] w (RefPost w (refDecP b)) := by
 have hu := Try.underlying24
 have hu33 := Try.underlying33
 obtain ⟨cards, meas, n, rest, is, hh, hbad, hgood⟩ := dec_facts hbo hmx
 have HH := am hh
 have HBAD := am hbad
 have HGOOD := am hgood
 have HR0 := am (And.intro hc0 hr0)
 have HMX := am hmx
 clear hh hbad hgood hc0 hr0 hmx hbo
 go_enter Try.func26, Try.ntmps26
 go_wp2_with (((with_reducible refine gate_dst (N := 2) rfl ?_); refine box_event ?hg (N := 2) ?hd (cs := #[.slice none 0 0, .int .i64 0]) (t := 24) ?hr ?_; (case hd => rfl); (case hg => rfl); (case hr => first | (go_simp; done) | (go_simp; rfl)); intro g2 hg w2 hbox hbw; have HB2 := am hbw; have HK2 := am hbox; have HG2 : Aside0 (w.heap.size ≤ g2) := am (Nat.le_of_eq hg.symm); have z20 : w2.cell? ⟨g2, 0, none⟩ = some (.slice none 0 0) := (blk_cell hbox 0).trans rfl; have z21 : w2.cell? ⟨g2, 1, none⟩ = some (.int .i64 0) := (blk_cell hbox 1).trans rfl; have f20 := blk_frozen hbox 0; have f21 := blk_frozen hbox 1; clear hg hbox hbw))
 refine (HH.out A0 c0 w2 (Kd.C_below HR0.out.2 HB2.out) HR0.out.1).mono ?_
 rintro e w3 ⟨v, Ar, cr, rfl, ho, hle, hC, hb⟩
 obtain ⟨Ac, cc, rfl⟩ := Kd.R_slice ho
 have HO3 := am ho
 have HRE := am (And.intro hle hC)
 have HB23 := am hb
 clear ho hle hC hb
 have HL2 := am (blk_lt HK2.out)
 clear z20 z21 f20 f21
 by_cases hok : is = true ∧ n ≤ 300
 rotate_left
 ·have HP := am (HBAD.out hok)
  cases is with
  | false =>
   clear hok
   go_wp2_with (((with_reducible refine gate_dst (N := 5) rfl ?_); refine box_event ?hg (N := 5) ?hd (cs := #[.slice none 0 0, .int .i64 0]) (t := 24) ?hr ?_; (case hd => rfl); (case hg => rfl); (case hr => first | (go_simp; done) | (go_simp; rfl)); intro g5 hg w4 hbox hbw; have hg5 : w3.heap.size ≤ g5 := Nat.le_of_eq hg.symm; have hB3E : Below w3.heap.size w3 ((w4.setCell ⟨g5, 0, none⟩ (.slice Ac cards.length cc)).setCell ⟨g5, 1, none⟩ (.int .i64 meas)) := below_set (below_set hbw hg5) hg5; have K5 : Aside0 (((w4.setCell ⟨g5, 0, none⟩ (.slice Ac cards.length cc)).setCell ⟨g5, 1, none⟩ (.int .i64 meas)).heap[g5]? = some (.cells #[.slice Ac cards.length cc, .int .i64 meas] 24 (0, 0))) := ⟨blk_put (blk_put hbox 0 _ rfl) 1 _ rfl⟩; have K2 : Aside0 (((w4.setCell ⟨g5, 0, none⟩ (.slice Ac cards.length cc)).setCell ⟨g5, 1, none⟩ (.int .i64 meas)).heap[g2]? = some (.cells #[.slice none 0 0, .int .i64 0] 24 (0, 0))) := ⟨blk_below HK2.out (below_step HB23.out hB3E)⟩; have HBE : Aside0 (Below w.heap.size w ((w4.setCell ⟨g5, 0, none⟩ (.slice Ac cards.length cc)).setCell ⟨g5, 1, none⟩ (.int .i64 meas))) := ⟨below_step HB2.out (below_step HB23.out hB3E)⟩; have HO5 : Aside0 (Kd.R (Kd.int .i64) 3 ((w4.setCell ⟨g5, 0, none⟩ (.slice Ac cards.length cc)).setCell ⟨g5, 1, none⟩ (.int .i64 meas)) w2.heap.size (fun _ => True) (.slice Ac cards.length cc) cards) := ⟨Kd.R_below HO3.out hB3E⟩; have HREE : Aside0 (rest.length ≤ cr ∧ Kd.C (Kd.int .u8) ((w4.setCell ⟨g5, 0, none⟩ (.slice Ac cards.length cc)).setCell ⟨g5, 1, none⟩ (.int .i64 meas)) Ar rest.length rest) := ⟨HRE.out.1, Kd.C_below HRE.out.2 (below_step HB23.out hB3E)⟩; have z20 : ((w4.setCell ⟨g5, 0, none⟩ (.slice Ac cards.length cc)).setCell ⟨g5, 1, none⟩ (.int .i64 meas)).cell? ⟨g2, 0, none⟩ = some (.slice none 0 0) := bc K2 0; have z21 : ((w4.setCell ⟨g5, 0, none⟩ (.slice Ac cards.length cc)).setCell ⟨g5, 1, none⟩ (.int .i64 meas)).cell? ⟨g2, 1, none⟩ = some (.int .i64 0) := bc K2 1; have z50 : ((w4.setCell ⟨g5, 0, none⟩ (.slice Ac cards.length cc)).setCell ⟨g5, 1, none⟩ (.int .i64 meas)).cell? ⟨g5, 0, none⟩ = some (.slice Ac cards.length cc) := bc K5 0; have z51 : ((w4.setCell ⟨g5, 0, none⟩ (.slice Ac cards.length cc)).setCell ⟨g5, 1, none⟩ (.int .i64 meas)).cell? ⟨g5, 1, none⟩ = some (.int .i64 meas) := bc K5 1; have f20 : ((w4.setCell ⟨g5, 0, none⟩ (.slice Ac cards.length cc)).setCell ⟨g5, 1, none⟩ (.int .i64 meas)).frozen? ⟨g2, 0, none⟩ = false := blk_frozen K2.out 0; have f21 : ((w4.setCell ⟨g5, 0, none⟩ (.slice Ac cards.length cc)).setCell ⟨g5, 1, none⟩ (.int .i64 meas)).frozen? ⟨g2, 1, none⟩ = false := blk_frozen K2.out 1; have y50 : w4.cell? ⟨g5, 0, none⟩ = some (.slice none 0 0) := (blk_cell hbox 0).trans rfl; have y51 : w4.cell? ⟨g5, 1, none⟩ = some (.int .i64 0) := (blk_cell hbox 1).trans rfl; have x50 := blk_frozen hbox 0; have x51 := blk_frozen hbox 1; clear hg5 hB3E; clear hg hbox hbw))
   refine bodyPost_ret (results_list (rs := [.cell 2 24, .tmp 3, .tmp 4]) rfl (by simp) (.cell g2 24 #[.slice none 0 0, .int .i64 0] (0, 0) _ rfl (blk_put (blk_put K2.out 0 (.slice none 0 0) rfl) 1 (.int .i64 0) rfl) Try.underlying24 rfl (by kernel_rfl) (.tmp (.tmp .nil)))) rfl ?_
   rw [HP.out]
   exact RefPost.bad (by first | rfl | simp) (below_set (below_set (HBE.out) HG2.out) HG2.out)
  | true =>
   have hn3 : decide (n > 300) = true := decide_eq_true (Int.not_le.1 (fun h => hok ⟨rfl, h⟩))
   have hn3' : decide (300 < n) = true := decide_eq_true (Int.not_le.1 (fun h => hok ⟨rfl, h⟩))
   clear hok
   go_wp2_with (((with_reducible refine gate_dst (N := 5) rfl ?_); refine box_event ?hg (N := 5) ?hd (cs := #[.slice none 0 0, .int .i64 0]) (t := 24) ?hr ?_; (case hd => rfl); (case hg => rfl); (case hr => first | (go_simp; done) | (go_simp; rfl)); intro g5 hg w4 hbox hbw; have hg5 : w3.heap.size ≤ g5 := Nat.le_of_eq hg.symm; have hB3E : Below w3.heap.size w3 ((w4.setCell ⟨g5, 0, none⟩ (.slice Ac cards.length cc)).setCell ⟨g5, 1, none⟩ (.int .i64 meas)) := below_set (below_set hbw hg5) hg5; have K5 : Aside0 (((w4.setCell ⟨g5, 0, none⟩ (.slice Ac cards.length cc)).setCell ⟨g5, 1, none⟩ (.int .i64 meas)).heap[g5]? = some (.cells #[.slice Ac cards.length cc, .int .i64 meas] 24 (0, 0))) := ⟨blk_put (blk_put hbox 0 _ rfl) 1 _ rfl⟩; have K2 : Aside0 (((w4.setCell ⟨g5, 0, none⟩ (.slice Ac cards.length cc)).setCell ⟨g5, 1, none⟩ (.int .i64 meas)).heap[g2]? = some (.cells #[.slice none 0 0, .int .i64 0] 24 (0, 0))) := ⟨blk_below HK2.out (below_step HB23.out hB3E)⟩; have HBE : Aside0 (Below w.heap.size w ((w4.setCell ⟨g5, 0, none⟩ (.slice Ac cards.length cc)).setCell ⟨g5, 1, none⟩ (.int .i64 meas))) := ⟨below_step HB2.out (below_step HB23.out hB3E)⟩; have HO5 : Aside0 (Kd.R (Kd.int .i64) 3 ((w4.setCell ⟨g5, 0, none⟩ (.slice Ac cards.length cc)).setCell ⟨g5, 1, none⟩ (.int .i64 meas)) w2.heap.size (fun _ => True) (.slice Ac cards.length cc) cards) := ⟨Kd.R_below HO3.out hB3E⟩; have HREE : Aside0 (rest.length ≤ cr ∧ Kd.C (Kd.int .u8) ((w4.setCell ⟨g5, 0, none⟩ (.slice Ac cards.length cc)).setCell ⟨g5, 1, none⟩ (.int .i64 meas)) Ar rest.length rest) := ⟨HRE.out.1, Kd.C_below HRE.out.2 (below_step HB23.out hB3E)⟩; have z20 : ((w4.setCell ⟨g5, 0, none⟩ (.slice Ac cards.length cc)).setCell ⟨g5, 1, none⟩ (.int .i64 meas)).cell? ⟨g2, 0, none⟩ = some (.slice none 0 0) := bc K2 0; have z21 : ((w4.setCell ⟨g5, 0, none⟩ (.slice Ac cards.length cc)).setCell ⟨g5, 1, none⟩ (.int .i64 meas)).cell? ⟨g2, 1, none⟩ = some (.int .i64 0) := bc K2 1; have z50 : ((w4.setCell ⟨g5, 0, none⟩ (.slice Ac cards.length cc)).setCell ⟨g5, 1, none⟩ (.int .i64 meas)).cell? ⟨g5, 0, none⟩ = some (.slice Ac cards.length cc) := bc K5 0; have z51 : ((w4.setCell ⟨g5, 0, none⟩ (.slice Ac cards.length cc)).setCell ⟨g5, 1, none⟩ (.int .i64 meas)).cell? ⟨g5, 1, none⟩ = some (.int .i64 meas) := bc K5 1; have f20 : ((w4.setCell ⟨g5, 0, none⟩ (.slice Ac cards.length cc)).setCell ⟨g5, 1, none⟩ (.int .i64 meas)).frozen? ⟨g2, 0, none⟩ = false := blk_frozen K2.out 0; have f21 : ((w4.setCell ⟨g5, 0, none⟩ (.slice Ac cards.length cc)).setCell ⟨g5, 1, none⟩ (.int .i64 meas)).frozen? ⟨g2, 1, none⟩ = false := blk_frozen K2.out 1; have y50 : w4.cell? ⟨g5, 0, none⟩ = some (.slice none 0 0) := (blk_cell hbox 0).trans rfl; have y51 : w4.cell? ⟨g5, 1, none⟩ = some (.int .i64 0) := (blk_cell hbox 1).trans rfl; have x50 := blk_frozen hbox 0; have x51 := blk_frozen hbox 1; clear hg5 hB3E; clear hg hbox hbw))
   refine bodyPost_ret (results_list (rs := [.cell 2 24, .tmp 3, .tmp 4]) rfl (by simp) (.cell g2 24 #[.slice none 0 0, .int .i64 0] (0, 0) _ rfl (blk_put (blk_put K2.out 0 (.slice none 0 0) rfl) 1 (.int .i64 0) rfl) Try.underlying24 rfl (by kernel_rfl) (.tmp (.tmp .nil)))) rfl ?_
   rw [HP.out]
   exact RefPost.bad (by first | rfl | simp) (below_set (below_set (HBE.out) HG2.out) HG2.out)
 obtain ⟨rfl, hn300⟩ := hok
 have hn3 : decide (n > 300) = false := decide_eq_false (by omega)
 have hn3' : decide (300 < n) = false := decide_eq_false (by omega)
 obtain ⟨⟨⟨k1, k2⟩, ⟨k3, k4⟩, k5⟩, ⟨k6, k7⟩, hno, hyes⟩ := HGOOD.out rfl hn300
 have HNO := am hno
 have HYES := am hyes
 have HK := am (And.intro (And.intro k1 k2) (And.intro (And.intro k3 k4) (And.intro k5 hn300)))
 have HRL := am (And.intro (Nat.le_trans k6 HMX.out) k7)
 obtain ⟨W, hW⟩ : ∃ W : Nat, W = rowW cards meas := ⟨_, rfl⟩
 obtain ⟨m8, hm8⟩ : ∃ m8 : Int, m8 = 8 * meas := ⟨_, rfl⟩
 obtain ⟨N, hN⟩ : ∃ N : Nat, N = n.toNat := ⟨_, rfl⟩
 have hnN : n = (N : Int) := by omega
 have hWz : (W : Int) = (cards.length : Int) + m8 := by rw [hW, hm8]; unfold rowW; omega
 have hW20 : W ≤ 20 := by omega
 have hw8 : wrap64 (8 * meas) = m8 := by rw [hm8]; exact w64c (by omega) (by omega)
 have hww : wrap64 ((cards.length : Int) + m8) = (W : Int) := by rw [← hWz]; exact w64c (by omega) (by omega)
 have hNW : N * W ≤ 6000 := Nat.mul_le_mul (show N ≤ 300 by omega) hW20
 obtain ⟨nw, hnw⟩ : ∃ nw : Int, nw = ((N * W : Nat) : Int) := ⟨_, rfl⟩
 have hnwz : wrap64 (n * (W : Int)) = nw := by rw [hnw, hnN, ← Int.natCast_mul]; exact w64c (by omega) (by omega)
 have HW := am hW
 have HWN := am (And.intro hN (And.intro hnN (And.intro hW20 hWz)))
 have HM8 := am hm8
 clear k1 k2 k3 k4 k5 k6 k7 hno hyes hn300 HBAD HGOOD HH
 by_cases hlen : rest.length = N * W
 rotate_left
 ·have HP := am (HNO.out (fun h => hlen (by have := h.1; rw [← hN, ← hW] at this; exact this)))
  have hne : ((rest.length : Int) != nw) = true := by rw [bne_iff_ne]; rw [hnw]; exact fun h => hlen (by omega)
  have hne' : ((rest.length : Int) == nw) = false := by rw [beq_eq_false_iff_ne]; rw [hnw]; exact fun h => hlen (by omega)
  clear hlen hN hnN hW hWz hW20 hNW hm8 hnw
  go_wp2_with (((with_reducible refine gate_dst (N := 5) rfl ?_); refine box_event ?hg (N := 5) ?hd (cs := #[.slice none 0 0, .int .i64 0]) (t := 24) ?hr ?_; (case hd => rfl); (case hg => rfl); (case hr => first | (go_simp; done) | (go_simp; rfl)); intro g5 hg w4 hbox hbw; have hg5 : w3.heap.size ≤ g5 := Nat.le_of_eq hg.symm; have hB3E : Below w3.heap.size w3 ((w4.setCell ⟨g5, 0, none⟩ (.slice Ac cards.length cc)).setCell ⟨g5, 1, none⟩ (.int .i64 meas)) := below_set (below_set hbw hg5) hg5; have K5 : Aside0 (((w4.setCell ⟨g5, 0, none⟩ (.slice Ac cards.length cc)).setCell ⟨g5, 1, none⟩ (.int .i64 meas)).heap[g5]? = some (.cells #[.slice Ac cards.length cc, .int .i64 meas] 24 (0, 0))) := ⟨blk_put (blk_put hbox 0 _ rfl) 1 _ rfl⟩; have K2 : Aside0 (((w4.setCell ⟨g5, 0, none⟩ (.slice Ac cards.length cc)).setCell ⟨g5, 1, none⟩ (.int .i64 meas)).heap[g2]? = some (.cells #[.slice none 0 0, .int .i64 0] 24 (0, 0))) := ⟨blk_below HK2.out (below_step HB23.out hB3E)⟩; have HBE : Aside0 (Below w.heap.size w ((w4.setCell ⟨g5, 0, none⟩ (.slice Ac cards.length cc)).setCell ⟨g5, 1, none⟩ (.int .i64 meas))) := ⟨below_step HB2.out (below_step HB23.out hB3E)⟩; have HO5 : Aside0 (Kd.R (Kd.int .i64) 3 ((w4.setCell ⟨g5, 0, none⟩ (.slice Ac cards.length cc)).setCell ⟨g5, 1, none⟩ (.int .i64 meas)) w2.heap.size (fun _ => True) (.slice Ac cards.length cc) cards) := ⟨Kd.R_below HO3.out hB3E⟩; have HREE : Aside0 (rest.length ≤ cr ∧ Kd.C (Kd.int .u8) ((w4.setCell ⟨g5, 0, none⟩ (.slice Ac cards.length cc)).setCell ⟨g5, 1, none⟩ (.int .i64 meas)) Ar rest.length rest) := ⟨HRE.out.1, Kd.C_below HRE.out.2 (below_step HB23.out hB3E)⟩; have z20 : ((w4.setCell ⟨g5, 0, none⟩ (.slice Ac cards.length cc)).setCell ⟨g5, 1, none⟩ (.int .i64 meas)).cell? ⟨g2, 0, none⟩ = some (.slice none 0 0) := bc K2 0; have z21 : ((w4.setCell ⟨g5, 0, none⟩ (.slice Ac cards.length cc)).setCell ⟨g5, 1, none⟩ (.int .i64 meas)).cell? ⟨g2, 1, none⟩ = some (.int .i64 0) := bc K2 1; have z50 : ((w4.setCell ⟨g5, 0, none⟩ (.slice Ac cards.length cc)).setCell ⟨g5, 1, none⟩ (.int .i64 meas)).cell? ⟨g5, 0, none⟩ = some (.slice Ac cards.length cc) := bc K5 0; have z51 : ((w4.setCell ⟨g5, 0, none⟩ (.slice Ac cards.length cc)).setCell ⟨g5, 1, none⟩ (.int .i64 meas)).cell? ⟨g5, 1, none⟩ = some (.int .i64 meas) := bc K5 1; have f20 : ((w4.setCell ⟨g5, 0, none⟩ (.slice Ac cards.length cc)).setCell ⟨g5, 1, none⟩ (.int .i64 meas)).frozen? ⟨g2, 0, none⟩ = false := blk_frozen K2.out 0; have f21 : ((w4.setCell ⟨g5, 0, none⟩ (.slice Ac cards.length cc)).setCell ⟨g5, 1, none⟩ (.int .i64 meas)).frozen? ⟨g2, 1, none⟩ = false := blk_frozen K2.out 1; have y50 : w4.cell? ⟨g5, 0, none⟩ = some (.slice none 0 0) := (blk_cell hbox 0).trans rfl; have y51 : w4.cell? ⟨g5, 1, none⟩ = some (.int .i64 0) := (blk_cell hbox 1).trans rfl; have x50 := blk_frozen hbox 0; have x51 := blk_frozen hbox 1; clear hg5 hB3E; clear hg hbox hbw))
  refine bodyPost_ret (results_list (rs := [.cell 2 24, .tmp 3, .tmp 4]) rfl (by simp) (.cell g2 24 #[.slice none 0 0, .int .i64 0] (0, 0) _ rfl (blk_put (blk_put K2.out 0 (.slice none 0 0) rfl) 1 (.int .i64 0) rfl) Try.underlying24 rfl (by kernel_rfl) (.tmp (.tmp .nil)))) rfl ?_
  rw [HP.out]
  exact RefPost.bad (by first | rfl | simp) (below_set (below_set (HBE.out) HG2.out) HG2.out)
 have hne : ((rest.length : Int) != nw) = false := by rw [hnw, hlen]; simp
 have hne' : ((rest.length : Int) == nw) = true := by rw [hnw, hlen]; simp
 have HLEN := am (And.intro hlen hNW)
 clear hlen hN hnN hW hWz hW20 hNW hm8 hnw
 go_wp2_with (((with_reducible refine gate_dst (N := 5) rfl ?_); refine box_event ?hg (N := 5) ?hd (cs := #[.slice none 0 0, .int .i64 0]) (t := 24) ?hr ?_; (case hd => rfl); (case hg => rfl); (case hr => first | (go_simp; done) | (go_simp; rfl)); intro g5 hg w4 hbox hbw; have hg5 : w3.heap.size ≤ g5 := Nat.le_of_eq hg.symm; have hB3E : Below w3.heap.size w3 ((w4.setCell ⟨g5, 0, none⟩ (.slice Ac cards.length cc)).setCell ⟨g5, 1, none⟩ (.int .i64 meas)) := below_set (below_set hbw hg5) hg5; have K5 : Aside0 (((w4.setCell ⟨g5, 0, none⟩ (.slice Ac cards.length cc)).setCell ⟨g5, 1, none⟩ (.int .i64 meas)).heap[g5]? = some (.cells #[.slice Ac cards.length cc, .int .i64 meas] 24 (0, 0))) := ⟨blk_put (blk_put hbox 0 _ rfl) 1 _ rfl⟩; have K2 : Aside0 (((w4.setCell ⟨g5, 0, none⟩ (.slice Ac cards.length cc)).setCell ⟨g5, 1, none⟩ (.int .i64 meas)).heap[g2]? = some (.cells #[.slice none 0 0, .int .i64 0] 24 (0, 0))) := ⟨blk_below HK2.out (below_step HB23.out hB3E)⟩; have HBE : Aside0 (Below w.heap.size w ((w4.setCell ⟨g5, 0, none⟩ (.slice Ac cards.length cc)).setCell ⟨g5, 1, none⟩ (.int .i64 meas))) := ⟨below_step HB2.out (below_step HB23.out hB3E)⟩; have HO5 : Aside0 (Kd.R (Kd.int .i64) 3 ((w4.setCell ⟨g5, 0, none⟩ (.slice Ac cards.length cc)).setCell ⟨g5, 1, none⟩ (.int .i64 meas)) w2.heap.size (fun _ => True) (.slice Ac cards.length cc) cards) := ⟨Kd.R_below HO3.out hB3E⟩; have HREE : Aside0 (rest.length ≤ cr ∧ Kd.C (Kd.int .u8) ((w4.setCell ⟨g5, 0, none⟩ (.slice Ac cards.length cc)).setCell ⟨g5, 1, none⟩ (.int .i64 meas)) Ar rest.length rest) := ⟨HRE.out.1, Kd.C_below HRE.out.2 (below_step HB23.out hB3E)⟩; have z20 : ((w4.setCell ⟨g5, 0, none⟩ (.slice Ac cards.length cc)).setCell ⟨g5, 1, none⟩ (.int .i64 meas)).cell? ⟨g2, 0, none⟩ = some (.slice none 0 0) := bc K2 0; have z21 : ((w4.setCell ⟨g5, 0, none⟩ (.slice Ac cards.length cc)).setCell ⟨g5, 1, none⟩ (.int .i64 meas)).cell? ⟨g2, 1, none⟩ = some (.int .i64 0) := bc K2 1; have z50 : ((w4.setCell ⟨g5, 0, none⟩ (.slice Ac cards.length cc)).setCell ⟨g5, 1, none⟩ (.int .i64 meas)).cell? ⟨g5, 0, none⟩ = some (.slice Ac cards.length cc) := bc K5 0; have z51 : ((w4.setCell ⟨g5, 0, none⟩ (.slice Ac cards.length cc)).setCell ⟨g5, 1, none⟩ (.int .i64 meas)).cell? ⟨g5, 1, none⟩ = some (.int .i64 meas) := bc K5 1; have f20 : ((w4.setCell ⟨g5, 0, none⟩ (.slice Ac cards.length cc)).setCell ⟨g5, 1, none⟩ (.int .i64 meas)).frozen? ⟨g2, 0, none⟩ = false := blk_frozen K2.out 0; have f21 : ((w4.setCell ⟨g5, 0, none⟩ (.slice Ac cards.length cc)).setCell ⟨g5, 1, none⟩ (.int .i64 meas)).frozen? ⟨g2, 1, none⟩ = false := blk_frozen K2.out 1; have y50 : w4.cell? ⟨g5, 0, none⟩ = some (.slice none 0 0) := (blk_cell hbox 0).trans rfl; have y51 : w4.cell? ⟨g5, 1, none⟩ = some (.int .i64 0) := (blk_cell hbox 1).trans rfl; have x50 := blk_frozen hbox 0; have x51 := blk_frozen hbox 1; clear hg5 hB3E; clear hg hbox hbw))
 simp only [hw8, hww, hnwz]
 clear hne hne' hnwz hww hw8 hn3 hn3' z50 z51 z20 z21 f20 f21
 generalize ((w4.setCell ⟨g5, 0, none⟩ (.slice Ac cards.length cc)).setCell ⟨g5, 1, none⟩ (.int .i64 meas)) = wE at *
 have HOE := HO5
 have HCE := am (Kd.R_reads' HOE.out).2
 clear HO5 HRE HK2 HB2 HB23 HO3
 go_loopg [11, 12] (N + 1) (fun kq v11 v12 w' => ∃ i : Nat, v12 = .int .i64 (i : Int) ∧ Aside0 (i + kq = N + 1 ∧ i ≤ N) ∧ Aside0 (∀ q, q < i → rightP cards meas (refRow cards.length meas.toNat (rest.drop (q * W))) = true) ∧ Aside0 (Kd.S k33 33 w' wE.heap.size (fun _ => True) v11 (rowsN cards meas rest i)) ∧ Aside0 (Below wE.heap.size wE w'))
 case atStart => exact ⟨0, rfl, ⟨by omega, by omega⟩, ⟨fun q hq => absurd hq (by omega)⟩, ⟨Kd.S_nil _ _ _ _ _⟩, ⟨Below.refl _ _⟩⟩
 case round =>
 obtain ⟨i, rfl, HI, HQ, HS, HB⟩ := hrel
 cases gk with
 | zero => exact absurd HI.out (by omega)
 | succ k1 =>
 obtain ⟨At, ct, et⟩ := Kd.S_slice HS.out
 subst et
 obtain ⟨rows, hrows⟩ : ∃ r, r = rowsN cards meas rest i := ⟨_, rfl⟩
 rw [← hrows] at HS ⊢
 have HROWS := am hrows
 have hrl : rows.length = i := by rw [hrows, rowsN_length]
 have HROWL := am hrl
 have z50 := (HB.out.cell (World.block_lt_of_cell? wE _ (bc K5 0))).trans (bc K5 0)
 have z51 := (HB.out.cell (World.block_lt_of_cell? wE _ (bc K5 1))).trans (bc K5 1)
 clear hrows hrl
 by_cases hi : i < N
 rotate_left
 ·have hd1 : decide ((i : Int) < n) = false := decide_eq_false (by have := HWN.out; omega)
  obtain rfl : i = N := by have := HI.out; omega
  have K2r := am (blk_below K2.out HB.out)
  have z20 := bc K2r 0
  have z21 := bc K2r 1
  have f20 := blk_frozen K2r.out 0
  have f21 := blk_frozen K2r.out 1
  clear hi
  go_wp2
  refine bodyPost_ret (results_list (rs := [.cell 2 24, .tmp 3, .tmp 4]) rfl (by simp) (.cell g2 24 #[.slice Ac cards.length cc, .int .i64 meas] (0, 0) _ rfl (blk_put (blk_put K2r.out 0 (.slice Ac cards.length cc) rfl) 1 (.int .i64 meas) rfl) Try.underlying24 rfl (by kernel_rfl) (.tmp (.tmp .nil)))) rfl ?_
  rw [HYES.out ⟨by rw [← HWN.out.1, ← HW.out]; exact HLEN.out.1, fun q hq => by rw [← HW.out]; exact HQ.out q (by rw [HWN.out.1]; exact hq)⟩, ← HWN.out.1]
  have hB2 : w.heap.size ≤ g2 := HG2.out
  have hl2 := blk_lt K2.out
  have hs0 := HB.out.size
  refine ⟨Ac, cc, At, ct, ?_, ⟨HCE.out.1, ?_⟩, ⟨?_, ?_⟩, ?_⟩
  ·show _ = Ending.returned (.tuple #[.agg #[.slice Ac cards.length cc, .int .i64 meas], .slice At (rowsN cards meas rest i).length ct, .int .i64 0])
   rw [← HROWS.out]
   first | rfl | (simp; done)
  ·have hr := Kd.R_far (p := ⟨g2, 1, none⟩) (Kd.R_far (p := ⟨g2, 0, none⟩) (Kd.R_bound (Kd.R_below HOE.out HB.out)) (fun k hk => by have h1 : w2.heap.size ≤ k := hk.2.1; have := HL2.out; show k ≠ g2; omega) (.slice Ac cards.length cc)) (fun k hk => by have h1 : w2.heap.size ≤ k := hk.2.1; have := HL2.out; show k ≠ g2; omega) (.int .i64 meas)
   exact (Kd.R_reads' hr).2.2
  ·show (rowsN cards meas rest i).length ≤ ct
   rw [← HROWS.out]; exact (Kd.S_reads' HS.out).2.1
  ·show Kd.C k33 _ At (rowsN cards meas rest i).length (rowsN cards meas rest i)
   rw [← HROWS.out]
   have h1 := Kd.S_far (p := ⟨g2, 1, none⟩) (Kd.S_far (p := ⟨g2, 0, none⟩) (Kd.S_bound HS.out) (fun k hk => by have := hk.2.1; show k ≠ g2; omega) (.slice Ac cards.length cc)) (fun k hk => by have := hk.2.1; show k ≠ g2; omega) (.int .i64 meas)
   exact (Kd.S_reads' h1).2.2
  ·exact below_set (below_set (below_step HBE.out HB.out) hB2) hB2
 have hd1 : decide ((i : Int) < n) = true := decide_eq_true (by have := HWN.out; omega)
 have hiW : i * W + W ≤ rest.length := by
  rw [HLEN.out.1]
  have := Nat.mul_le_mul_right W (show i + 1 ≤ N by omega)
  rw [Nat.succ_mul] at this; exact this
 have hrs : rest.length ≤ 6000 := by have := HLEN.out; omega
 obtain ⟨j1, hj1⟩ : ∃ j : Int, j = ((i * W : Nat) : Int) := ⟨_, rfl⟩
 obtain ⟨j2, hj2⟩ : ∃ j : Int, j = ((i * W + W : Nat) : Int) := ⟨_, rfl⟩
 have hwm : wrap64 ((i : Int) * (W : Int)) = j1 := by rw [hj1, Int.natCast_mul]; exact w64c (by rw [← Int.natCast_mul]; omega) (by rw [← Int.natCast_mul]; omega)
 have hwa : wrap64 (j1 + (W : Int)) = j2 := by rw [show j1 + (W : Int) = j2 by omega]; exact w64c (by omega) (by omega)
 have hwi : wrap64 ((i : Int) + 1) = ((i + 1 : Nat) : Int) := w64c (by omega) (by have := HWN.out; have := HK.out; omega)
 obtain ⟨y, hy⟩ : ∃ y, y = rest.drop (i * W) := ⟨_, rfl⟩
 obtain ⟨lx, hlx⟩ : ∃ lx, lx = y.take W := ⟨_, rfl⟩
 have hyl : W ≤ y.length := by rw [hy, List.length_drop]; omega
 have hlxl : lx.length = W := by rw [hlx, List.length_take]; omega
 obtain ⟨i0, hi0, _, hsz, _⟩ := info_parts info5
 have hcut := cut_mid (P := Try.prog) 36 5 .i64 .i64 Try.underlying36 hi0 1 hsz Ar rest.length cr j1 j2 (by omega) (by omega) (by omega) HREE.out.1
 have hmid := Kd.C_mid (lo := i * W) (hi := i * W + W) HREE.out.2 (by omega) hiW HREE.out.1
 rw [show (Kd.int .u8).sz = 1 from rfl, List.drop_take, Nat.add_sub_cancel_left, ← hy, ← hlx] at hmid
 rw [show j1.toNat = i * W by omega, show j2.toNat - i * W = lx.length by omega] at hcut
 obtain ⟨Ax, hAx⟩ : ∃ A', A' = (if cr = i * W then Ar else Ar.map (·.add (i * W * 1))) := ⟨_, rfl⟩
 rw [← hAx] at hcut hmid
 obtain ⟨cx, hcx⟩ : ∃ c', c' = cr - i * W := ⟨_, rfl⟩
 rw [← hcx] at hcut
 have HLX : Aside0 (lx.length ≤ cx) := ⟨by have := HREE.out.1; omega⟩
 have hW1 : 1 ≤ W := by have h1 := HW.out; unfold rowW at h1; have := HK.out; omega
 clear hAx hcx
 obtain ⟨ax, eax, _⟩ := Kd.at_int hmid 0 (by decide) (by omega)
 subst eax
 have HXC := am hmid
 have HY := am hy
 have HXL := am (And.intro hlx (And.intro hlxl hyl))
 have HRB : Aside0 (BytesOk y) := ⟨fun x hx => HRL.out.2 x (List.mem_of_mem_drop (hy ▸ hx))⟩
 have HHI := am hi
 clear hi hiW hrs hj1 hj2 hy hlx hyl hlxl hi0 hsz hmid hW1
 generalize wr = wo at *
 go_wp2_with (((with_reducible refine gate_dst (N := 14) rfl ?_); refine box_event ?hg (N := 14) ?hd (cs := #[.slice none 0 0, .slice none 0 0]) (t := 33) ?hr ?_; (case hd => rfl); (case hg => rfl); (case hr => first | (go_simp; done) | (go_simp; rfl)); intro g14 hg wF hbox hbw; have HBF := am hbw; have HKF := am hbox; have HG14 : Aside0 (wo.heap.size ≤ g14) := am (Nat.le_of_eq hg.symm); clear hg hbox hbw))
 clear hwm hwa hcut z50 z51 hd1 hwi
 have hF14 : g14 < wF.heap.size := blk_lt HKF.out
 have HF14 := am hF14
 have HFO := am HBF.out.size
 clear hF14
 go_loopg [15] (cards.length + 1) (fun kq v15 w' => ∃ (k : Nat) (u : Value), v15 = .int .i64 (k : Int) ∧ Aside0 (k + kq = cards.length + 1 ∧ k ≤ cards.length) ∧ Aside0 (Kd.R (Kd.int .i64) 3 w' wE.heap.size (fun q => wF.heap.size ≤ q) u (keyTo y k)) ∧ Aside0 (w'.heap[g14]? = some (.cells #[u, .slice none 0 0] 33 (0, 0))) ∧ Aside0 (Below wo.heap.size wo w' ∧ wF.heap.size ≤ w'.heap.size))
 case atStart => exact ⟨0, .slice none 0 0, rfl, ⟨by omega, by omega⟩, ⟨Kd.R_nil _ _ _ _ _⟩, HKF, ⟨HBF.out, Nat.le_refl _⟩⟩
 case round =>
 obtain ⟨k, u, rfl, HJ, HKEY, L14, HBo⟩ := hrel
 cases gk with
 | zero => exact absurd HJ.out (by omega)
 | succ k2 =>
 obtain ⟨kk, hkk⟩ : ∃ kk, kk = keyTo y k := ⟨_, rfl⟩
 rw [← hkk] at HKEY
 obtain ⟨Ak, ck, rfl⟩ := Kd.R_slice HKEY.out
 have HKL : Aside0 (kk.length = k) := ⟨by rw [hkk, keyTo_length]⟩
 by_cases hk : k < cards.length
 ·have hd1 : decide ((k : Int) < (cards.length : Int)) = true := decide_eq_true (by omega)
  have hd2 : decide (k < cards.length) = true := decide_eq_true hk
  have hWd : cards.length ≤ W := by have h1 := HW.out; unfold rowW at h1; omega
  have hwk : wrap64 ((k : Int) + 1) = ((k + 1 : Nat) : Int) := w64c (by omega) (by have := HK.out; omega)
  obtain ⟨_, e5, x5⟩ := Kd.at_int HXC.out (k : Int) (by omega) (by have := HXL.out.2.1; omega)
  cases e5
  rw [Int.toNat_natCast, HXL.out.1, take_rd (show k < W by omega)] at x5
  have hz := HRB.out.at_ (k : Int)
  have hsn := keyTo_succ y k
  rw [← hkk] at hsn
  generalize rd y (k : Int) = z at *
  have hwz : wrap64 z = z := w64c (by omega) (by omega)
  obtain ⟨kn, hkn⟩ : ∃ kn, kn = keyTo y (k + 1) := ⟨_, rfl⟩
  rw [← hkn] at hsn
  have HSN := am hsn
  have HKN := am hkn
  have X5 := am (((below_step HB.out HBo.out.1).cell (World.block_lt_of_cell? wE _ x5)).trans x5)
  have q5 := eq_true (show (k : Int) < (lx.length : Int) by have := HXL.out.2.1; omega)
  have q5n := eq_true (show k < lx.length by have := HXL.out.2.1; omega)
  have q5z := eq_true (show (0 : Int) ≤ (k : Int) by omega)
  have HHK := am hk
  have L70 := am (bc L14 0)
  clear hk hz hsn hkn hkk x5 hWd
  generalize wr = wp at *
  go_wp2
  refine start_ (n := 11) (S := fun w' => w'.cell? ⟨g14, 0, none⟩ = some (.slice Ak kk.length ck) ∧ w'.cell? (ax.add k) = some (.int .u8 z)) (ds := [8, 10]) (bb 11 0) (by kernel_rfl) rfl rfl ⟨L70.out, X5.out⟩ (fun hHeld => ?_)
  refine with_tabW refDec.tab17 refDec.bits17 (fun HT_ HW_ => ?_)
  generalize hwd : wp.drew = wd at hHeld ⊢
  have HDR : Aside0 (Below wp.heap.size wp wd) := ⟨by rw [← hwd]; exact below_drew (Below.refl _ _)⟩
  clear hwd
  refine pu (i := 0) (N := some 66) (bb 11 1) HT_ ?_
  refine pu (i := 2) (N := some 68) (bb 11 5) HT_ ?_
  refine pu (i := 3) (N := some 69) (bb 11 13) HT_ ?_
  refine pu (i := 4) (N := some 70) (bb 11 29) HT_ ?_
  refine tk (i := 1) (N := some 67) (bb 11 31) HT_ HW_ hHeld ?_
  refine tk (i := 5) (N := some 71) (bb 11 63) HT_ HW_ hHeld ?_
  refine tk (i := 6) (N := some 72) (bb 11 127) HT_ HW_ hHeld ?_
  refine one_ (i := 7) (N := some 73) (bb 11 255) rfl rfl (one_of HT_.out (by kernel_rfl)) (by decide) (fun K hK => ?_)
  refine value_ (w1 := ?_) (v := ?_) (by rfl) rfl ?_ ?_
  rotate_left 2
  ·go_simp
   constructor
   ·rfl
   ·rfl
  refine hK.out _ _ ⟨(World.cell?_alloc_lt _ _ _ (World.block_lt_of_cell? _ _ hHeld.1)).trans hHeld.1, (World.cell?_alloc_lt _ _ _ (World.block_lt_of_cell? _ _ hHeld.2)).trans hHeld.2⟩ (fun hHeld => ?_)
  clear hK K
  refine nm ?_
  refine last_ (i := 8) (N := some 74) (bb 11 511) rfl rfl (one_of HT_.out (by kernel_rfl)) (by decide) (fun K hK => ?_)
  refine Kd.R_append_step (Kd.int .i64) (w0 := wE) wE.heap.size (by rfl) (.tmp 67) (.tmp 73) 22 3 (.int .i64 0) 8 rfl Try.underlying22 info3 rfl (by decide) (by omega) (.slice Ak kk.length ck) kk z [.int .i64 z] (fun q => wF.heap.size ≤ q) (fun _ => False) rfl rfl ?aP (fun _ hk => hk.elim) ?aF ?aO ?aB ?aS ?aL ?_
  (case aP => exact rfl)
  (case aF => exact fun q hq => Nat.le_trans HBo.out.2 (Nat.le_trans HDR.out.size hq))
  (case aO => exact Kd.R_below HKEY.out HDR.out)
  (case aB => exact below_step (below_step HB.out HBo.out.1) HDR.out)
  (case aS => exact (below_step (below_step HB.out HBo.out.1) HDR.out).size)
  (case aL => have := HKL.out; have := HJ.out; have := HK.out; omega)
  intro v2 w6 ho hb hg hat
  rw [← HSN.out] at ho
  obtain ⟨Ak2, ck2, rfl⟩ := Kd.R_slice ho
  have HO2 := am ho
  have L7b := am (blk_grown (blk_below L14.out HDR.out) hg (fun e => by have h1 : wF.heap.size ≤ g14 := HKEY.out.1 g14 e.symm; have := HF14.out; omega))
  have HBb := am (And.intro (below_grown HBo.out.1 HDR.out hg (fun q hq => Nat.le_trans HFO.out (HKEY.out.1 q hq))) (Nat.le_trans (Nat.le_trans HBo.out.2 HDR.out.size) hg.size))
  clear ho hb hg hat
  refine hK.out _ _ ?_
  clear hK K
  refine nm ?_
  refine pu (i := 9) (N := some 75) (bb 11 1023) HT_ ?_
  refine last_ (i := 10) (N := none) (bb 11 2047) rfl rfl (one_of HT_.out (by kernel_rfl)) (by decide) (fun K hK => ?_)
  have hs := bc L7b 0
  have hfs := blk_frozen L7b.out 0
  refine skip_ (w1 := ?_) (by rfl) rfl ?_ ?_
  rotate_left
  ·go_simp
   rfl
  refine hK.out _ _ ?_
  clear hK K
  refine done_ (done_of HT_.out (by kernel_rfl)) ?_
  go_wp2
  go_roundg k2
  case measure => have := HJ.out; have := HHK.out; omega
  case rel => exact ⟨k + 1, .slice Ak2 kn.length ck2, by first | rfl | simp [hwk], ⟨by have := HJ.out; have := HHK.out; omega, by have := HHK.out; omega⟩, ⟨by rw [← HKN.out]; exact Kd.R_far HO2.out (fun q hq => by have := HF14.out; have h1 : wF.heap.size ≤ q := hq; show q ≠ g14; omega) _⟩, ⟨blk_put L7b.out 0 _ rfl⟩, ⟨below_set HBb.out.1 HG14.out, by have := HBb.out.2; simpa [World.setCell] using this⟩⟩
 have hd1 : decide ((k : Int) < (cards.length : Int)) = false := decide_eq_false (by omega)
 have hd2 : decide (k < cards.length) = false := decide_eq_false hk
 obtain rfl : k = cards.length := by have := HJ.out; omega
 obtain ⟨M, hM⟩ : ∃ M : Nat, M = meas.toNat := ⟨_, rfl⟩
 have hMz : meas = (M : Int) := by have := HK.out; omega
 have HMM := am (And.intro hM hMz)
 have HKK := am hkk
 have L14G := L14
 clear hk hkk hM hMz HJ
 generalize wr = wG at *
 go_wp2
 clear hd1 hd2
 go_loopg [16] (M + 1) (fun kq v16 w' => ∃ (k : Nat) (u : Value), v16 = .int .i64 (k : Int) ∧ Aside0 (k + kq = M + 1 ∧ k ≤ M) ∧ Aside0 (Kd.R (Kd.int .i64) 3 w' wE.heap.size (fun q => wG.heap.size ≤ q) u (mTo y cards.length k)) ∧ Aside0 (w'.heap[g14]? = some (.cells #[.slice Ak kk.length ck, u] 33 (0, 0))) ∧ Aside0 ((∀ q, q < wG.heap.size → q ≠ g14 → w'.heap[q]? = wG.heap[q]?) ∧ wG.heap.size ≤ w'.heap.size) ∧ Aside0 (Below wo.heap.size wo w'))
 case atStart => exact ⟨0, .slice none 0 0, rfl, ⟨by omega, by omega⟩, ⟨Kd.R_nil _ _ _ _ _⟩, L14G, ⟨fun _ _ _ => rfl, Nat.le_refl _⟩, ⟨HBo.out.1⟩⟩
 case round =>
 obtain ⟨k, u, rfl, HJ, HMS, L14b, HKB, HBp⟩ := hrel
 cases gk with
 | zero => exact absurd HJ.out (by omega)
 | succ k3 =>
 obtain ⟨mm, hmm⟩ : ∃ mm, mm = mTo y cards.length k := ⟨_, rfl⟩
 rw [← hmm] at HMS
 obtain ⟨Am, cm, rfl⟩ := Kd.R_slice HMS.out
 have HML : Aside0 (mm.length = k) := ⟨by rw [hmm, mTo_length]⟩
 have z50 := ((below_step HB.out HBp.out).cell (World.block_lt_of_cell? wE _ (bc K5 0))).trans (bc K5 0)
 have z51 := ((below_step HB.out HBp.out).cell (World.block_lt_of_cell? wE _ (bc K5 1))).trans (bc K5 1)
 by_cases hk : k < M
 ·have hd1 : decide ((k : Int) < meas) = true := decide_eq_true (by have := HMM.out; omega)
  have hWM : cards.length + 8 * M = W := by rw [HW.out, HMM.out.1]; rfl
  have hwk : wrap64 ((k : Int) + 1) = ((k + 1 : Nat) : Int) := w64c (by omega) (by have := HK.out; have := HMM.out; omega)
  obtain ⟨k8, hk8⟩ : ∃ j : Int, j = 8 * (k : Int) := ⟨_, rfl⟩
  obtain ⟨j1, hj1⟩ : ∃ j : Int, j = (cards.length : Int) + k8 := ⟨_, rfl⟩
  obtain ⟨j2, hj2⟩ : ∃ j : Int, j = j1 + 8 := ⟨_, rfl⟩
  have hM2 : M ≤ 2 := by have := HK.out; have := HMM.out; omega
  have hc4 : cards.length ≤ 4 := HK.out.1.2
  have hw1 : wrap64 (8 * (k : Int)) = k8 := by rw [← hk8]; exact w64c (by omega) (by omega)
  have hw2 : wrap64 ((cards.length : Int) + k8) = j1 := by rw [← hj1]; exact w64c (by omega) (by omega)
  have hw3 : wrap64 (j1 + 8) = j2 := by rw [← hj2]; exact w64c (by omega) (by omega)
  obtain ⟨i0, hi0, _, hsz, _⟩ := info_parts info5
  have hlxl : lx.length = W := HXL.out.2.1
  have hcut := cut_mid (P := Try.prog) 36 5 .i64 .i64 Try.underlying36 hi0 1 hsz (some ax) lx.length cx j1 j2 (by omega) (by omega) (by omega) HLX.out
  have hmid := Kd.C_mid (lo := cards.length + 8 * k) (hi := cards.length + 8 * k + 8) HXC.out (by omega) (by omega) HLX.out
  obtain ⟨sb, hsb⟩ : ∃ s, s = (y.drop (cards.length + 8 * k)).take 8 := ⟨_, rfl⟩
  rw [show (Kd.int .u8).sz = 1 from rfl, List.drop_take, Nat.add_sub_cancel_left, HXL.out.1, take_mid (show cards.length + 8 * k + 8 ≤ W by omega), ← hsb] at hmid
  have hsl : sb.length = 8 := by rw [hsb, List.length_take, List.length_drop]; have := HXL.out.2.2; omega
  rw [show j1.toNat = cards.length + 8 * k by omega, show j2.toNat - (cards.length + 8 * k) = sb.length by omega] at hcut
  obtain ⟨A2, hA2⟩ : ∃ A', A' = (if cx = cards.length + 8 * k then some ax else (some ax : Option Addr).map (·.add ((cards.length + 8 * k) * 1))) := ⟨_, rfl⟩
  rw [← hA2] at hcut hmid
  obtain ⟨c2, hc2⟩ : ∃ c', c' = cx - (cards.length + 8 * k) := ⟨_, rfl⟩
  rw [← hc2] at hcut
  have HSB : Aside0 (sb.length ≤ c2 ∧ Kd.C (Kd.int .u8) wE A2 sb.length sb) := ⟨by have := HLX.out; omega, hmid⟩
  have HBK := am (ref_back sb hsl 10 (by decide))
  have hsn := mTo_succ y cards.length k
  rw [← hmm, ← hsb] at hsn
  generalize numOf sb = z at *
  obtain ⟨mn, hmn⟩ : ∃ mn, mn = mTo y cards.length (k + 1) := ⟨_, rfl⟩
  rw [← hmn] at hsn
  have HSN := am hsn
  have HMN := am hmn
  have HHK := am hk
  have L71 := am (bc L14b 1)
  clear hk hk8 hj1 hj2 hi0 hsz hsb hsl hA2 hmid hc2 hsn hmn hmm hWM hM2 hc4 hlxl
  generalize wr = wp at *
  go_wp2
  refine start_ (n := 18) (S := fun w' => w'.cell? ⟨g14, 1, none⟩ = some (.slice Am mm.length cm) ∧ True) (ds := [15, 17]) (bb 18 0) (by kernel_rfl) rfl rfl ⟨L71.out, trivial⟩ (fun hHeld => ?_)
  refine with_tabW refDec.tab21 refDec.bits21 (fun HT_ HW_ => ?_)
  generalize hwd : wp.drew = wd at hHeld ⊢
  have HDR : Aside0 (Below wp.heap.size wp wd) := ⟨by rw [← hwd]; exact below_drew (Below.refl _ _)⟩
  clear hwd
  refine pu (i := 0) (N := some 82) (bb 18 1) HT_ ?_
  refine pu (i := 2) (N := some 84) (bb 18 5) HT_ ?_
  refine pu (i := 3) (N := some 85) (bb 18 13) HT_ ?_
  refine pu (i := 4) (N := some 86) (bb 18 29) HT_ ?_
  refine pu (i := 5) (N := some 87) (bb 18 61) HT_ ?_
  refine pu (i := 6) (N := some 88) (bb 18 125) HT_ ?_
  refine pu (i := 7) (N := some 89) (bb 18 253) HT_ ?_
  refine pu (i := 8) (N := some 90) (bb 18 509) HT_ ?_
  refine pu (i := 9) (N := some 91) (bb 18 1021) HT_ ?_
  refine pu (i := 10) (N := some 92) (bb 18 2045) HT_ ?_
  refine pu (i := 11) (N := some 93) (bb 18 4093) HT_ ?_
  refine pu (i := 12) (N := some 94) (bb 18 8189) HT_ ?_
  refine tk (i := 1) (N := some 83) (bb 18 8191) HT_ HW_ hHeld ?_
  refine one_ (i := 13) (N := some 95) (bb 18 16383) rfl rfl (one_of HT_.out (by kernel_rfl)) (by decide) (fun K hK => ?_)
  refine goes_ Try.func40 (by kernel_rfl) rfl #[.slice A2 sb.length c2] (by rfl) rfl rfl (by (try simp only [List.map_toArray, List.map_cons, List.map_nil]); first | done | rfl) ?_
  with_reducible refine (hypercuberef1_Back.calls 10 A2 c2 sb z _ (Kd.C_below HSB.out.2 (below_step (below_step HB.out HBp.out) HDR.out)) HSB.out.1 HBK.out).mono ?_

  rintro e wd2 ⟨rfl, hd⟩
  replace HDR := am (below_step HDR.out hd.below)
  clear hd
  refine ⟨_, rfl, ?_⟩
  refine hK.out _ _ ⟨(Below.cell HDR.out (World.block_lt_of_cell? wp _ L71.out)).trans L71.out, trivial⟩ (fun hHeld => ?_)
  clear hK K
  refine nm ?_
  refine one_ (i := 14) (N := some 96) (bb 18 32767) rfl rfl (one_of HT_.out (by kernel_rfl)) (by decide) (fun K hK => ?_)
  refine value_ (w1 := ?_) (v := ?_) (by rfl) rfl ?_ ?_
  rotate_left 2
  ·go_simp
   constructor
   ·rfl
   ·rfl
  refine hK.out _ _ ⟨(World.cell?_alloc_lt _ _ _ (World.block_lt_of_cell? _ _ hHeld.1)).trans hHeld.1, trivial⟩ (fun hHeld => ?_)
  clear hK K
  refine nm ?_
  refine last_ (i := 15) (N := some 97) (bb 18 65535) rfl rfl (one_of HT_.out (by kernel_rfl)) (by decide) (fun K hK => ?_)
  refine Kd.R_append_step (Kd.int .i64) (w0 := wE) wE.heap.size (by rfl) (.tmp 83) (.tmp 96) 22 3 (.int .i64 0) 8 rfl Try.underlying22 info3 rfl (by decide) (by omega) (.slice Am mm.length cm) mm z [.int .i64 z] (fun q => wG.heap.size ≤ q) (fun _ => False) rfl rfl ?aP (fun _ hk => hk.elim) ?aF ?aO ?aB ?aS ?aL ?_
  (case aP => exact rfl)
  (case aF => exact fun q hq => Nat.le_trans HKB.out.2 (Nat.le_trans HDR.out.size hq))
  (case aO => exact Kd.R_below HMS.out HDR.out)
  (case aB => exact below_step (below_step HB.out HBp.out) HDR.out)
  (case aS => exact (below_step (below_step HB.out HBp.out) HDR.out).size)
  (case aL => have := HML.out; have := HJ.out; have := HK.out; have := HMM.out; omega)
  intro v2 w6 ho hb hg hat
  rw [← HSN.out] at ho
  obtain ⟨Am2, cm2, rfl⟩ := Kd.R_slice ho
  have HO2 := am ho
  have HGG := am (blk_lt L14G.out)
  have L7b := am (blk_grown (blk_below L14b.out HDR.out) hg (fun e => by have h1 : wG.heap.size ≤ g14 := HMS.out.1 g14 e.symm; have := HGG.out; omega))
  have HKBb := am (And.intro (fun q (hq : q < wG.heap.size) (hne : q ≠ g14) => (hg.block q (by have := HKB.out.2; have := HDR.out.size; omega) (fun e => by have h1 : wG.heap.size ≤ q := HMS.out.1 q e.symm; omega)).trans ((HDR.out.block q (by have := HKB.out.2; omega)).trans (HKB.out.1 q hq hne))) (Nat.le_trans (Nat.le_trans HKB.out.2 HDR.out.size) hg.size))
  have HBb := am (below_grown HBp.out HDR.out hg (fun q hq => Nat.le_trans HFO.out (Nat.le_trans HBo.out.2 (HMS.out.1 q hq))))
  clear ho hb hg hat
  refine hK.out _ _ ?_
  clear hK K
  refine nm ?_
  refine pu (i := 16) (N := some 98) (bb 18 131071) HT_ ?_
  refine last_ (i := 17) (N := none) (bb 18 262143) rfl rfl (one_of HT_.out (by kernel_rfl)) (by decide) (fun K hK => ?_)
  have hs := bc L7b 1
  have hfs := blk_frozen L7b.out 1
  refine skip_ (w1 := ?_) (by rfl) rfl ?_ ?_
  rotate_left
  ·go_simp
   rfl
  refine hK.out _ _ ?_
  clear hK K
  refine done_ (done_of HT_.out (by kernel_rfl)) ?_
  go_wp2
  go_roundg k3
  case measure => have := HJ.out; have := HHK.out; omega
  case rel => exact ⟨k + 1, .slice Am2 mn.length cm2, by first | rfl | simp [hwk], ⟨by have := HJ.out; have := HHK.out; omega, by have := HHK.out; omega⟩, ⟨by rw [← HMN.out]; exact Kd.R_far HO2.out (fun q hq => by have := HGG.out; have h1 : wG.heap.size ≤ q := hq; show q ≠ g14; omega) _⟩, ⟨blk_put L7b.out 1 _ rfl⟩, ⟨fun q hq hne => (Below.heap_setCell _ _ _ _ hne).trans (HKBb.out.1 q hq hne), by have := HKBb.out.2; simpa [World.setCell] using this⟩, ⟨below_set HBb.out HG14.out⟩⟩
 have hd1 : decide ((k : Int) < meas) = false := decide_eq_false (by have := HMM.out; omega)
 obtain rfl : k = M := by have := HJ.out; omega
 have HRK := am (Kd.R_mono (Kd.R_step (Kd.R_bound HKEY.out) (fun q hq hlt => HKB.out.1 q hlt (by have h1 : wF.heap.size ≤ q := hq.1; have := HF14.out; omega))) (ok' := fun q => wo.heap.size ≤ q) (fun q hq => Nat.le_trans HFO.out hq.1))
 have HRM := am (Kd.R_mono HMS.out (ok' := fun q => wo.heap.size ≤ q) (fun q hq => Nat.le_trans HFO.out (Nat.le_trans HBo.out.2 hq)))
 have hrow : refRow cards.length meas.toNat (rest.drop (i * W)) = ⟨kk, mm⟩ := by
  rw [← HY.out, HKK.out, hmm, ← HMM.out.1]; rfl
 have HROW := am hrow
 obtain ⟨q, hq⟩ : ∃ q, q = rightP cards meas ⟨kk, mm⟩ := ⟨_, rfl⟩
 have hrt : hypercuberef1_Right.f 10 cards meas kk mm = some q := by
  rw [ref_right, hq]
  exact right_eq cards meas ⟨kk, mm⟩ (by show kk.length ≤ _; have := HKL.out; have := HK.out; omega) 10 (by show kk.length + 2 ≤ 10; have := HKL.out; have := HK.out; omega)
 have HRT := am hrt
 have HQQ := am hq
 have y0 := bc L14b 0
 have y1 := bc L14b 1
 clear hk hmm hrow hq hrt
 generalize wr = wp at *
 go_wp2_with (fail)
 refine (hypercuberef1_Right.calls 10 Ac cc cards meas Ak ck kk Am cm mm q wp (Kd.C_below HCE.out.2 (below_step HB.out HBp.out)) HCE.out.1 (Kd.R_reads' HRK.out).2.2 (Kd.R_reads' HRK.out).2.1 (Kd.R_reads' HRM.out).2.2 (Kd.R_reads' HRM.out).2.1 HRT.out).mono ?_
 rintro e wH ⟨rfl, hb⟩
 have HBH := am hb
 clear hb y0 y1 z50 z51
 cases q with
 | false =>
  have HP := am (HNO.out (fun h => by
   have h1 := h.2 i (by rw [← HWN.out.1]; exact HHI.out)
   rw [← HW.out, HROW.out, ← HQQ.out] at h1
   cases h1))
  have K2r := am (blk_below K2.out (below_step HB.out (below_step HBp.out HBH.out)))
  have z20 := bc K2r 0
  have z21 := bc K2r 1
  have f20 := blk_frozen K2r.out 0
  have f21 := blk_frozen K2r.out 1
  go_wp2
  refine bodyPost_ret (results_list (rs := [.cell 2 24, .tmp 3, .tmp 4]) rfl (by simp) (.cell g2 24 #[.slice none 0 0, .int .i64 0] (0, 0) _ rfl (blk_put (blk_put K2r.out 0 (.slice none 0 0) rfl) 1 (.int .i64 0) rfl) Try.underlying24 rfl (by kernel_rfl) (.tmp (.tmp .nil)))) rfl ?_
  rw [HP.out]
  exact RefPost.bad (by first | rfl | simp) (below_set (below_set (below_step HBE.out (below_step HB.out (below_step HBp.out HBH.out))) HG2.out) HG2.out)
 | true =>
  have L14H := am (blk_below L14b.out HBH.out)
  have y0 := bc L14H 0
  have y1 := bc L14H 1
  have HMI := am (k33_mkM wH wE.heap.size (fun q => wo.heap.size ≤ q) (⟨kk, mm⟩ : S33) (Kd.R_below HRK.out HBH.out) (Kd.R_below HRM.out HBH.out))
  have HNI : Aside0 (Kd.S k33 33 wH wE.heap.size (fun k => True ∧ ¬ wo.heap.size ≤ k) (.slice At rows.length ct) rows) := ⟨Kd.S_below (Kd.S_mono (Kd.S_bound HS.out) (fun k hk => ⟨trivial, by have := hk.2.2.1; omega⟩)) (below_step HBp.out HBH.out)⟩
  have HOLT : Aside0 (∀ k, (Value.slice At rows.length ct).ownBlock = some k → k < wo.heap.size) := ⟨fun k hk => by obtain ⟨f, hf⟩ := Kd.S_bound HS.out; exact (hf.1 k hk).2.2.1⟩
  have HBI := am (below_step HB.out (below_step HBp.out HBH.out))
  have hsn := rowsN_succ cards meas rest i
  rw [← HROWS.out, ← HW.out, HROW.out] at hsn
  obtain ⟨rn, hrn⟩ : ∃ rn, rn = rowsN cards meas rest (i + 1) := ⟨_, rfl⟩
  rw [← hrn] at hsn
  have HSN := am hsn
  have HRN := am hrn
  have hwi : wrap64 ((i : Int) + 1) = ((i + 1 : Nat) : Int) := w64c (by omega) (by have := HHI.out; have := HWN.out; have := HK.out; omega)
  clear hsn hrn
  go_wp2_with (first
  | ((with_reducible refine gate_dst (N := 107) rfl ?_); refine Kd.S_append k33 (w0 := wE) wE.heap.size rfl (.tmp 104) (.tmp 106) 25 33 (.agg #[.slice none 0 0, .slice none 0 0]) 48 rfl Try.underlying25 info33 rfl (by decide) (by omega) (.slice At rows.length ct) rows (⟨kk, mm⟩ : S33) [.slice Ak kk.length ck, .slice Am mm.length cm] (fun _ => True) (fun q => wo.heap.size ≤ q) rfl rfl HMI.out (fun q hq => ⟨trivial, fun e => by have := HOLT.out q e.symm; omega⟩) (fun _ _ => trivial) HNI.out HBI.out HBI.out.size ?aL ?_; (case aL => have := HROWL.out; have := HHI.out; have := HWN.out; have := HK.out; omega); intro v1 w1 ho hb hg hat; rw [← HSN.out] at ho; obtain ⟨An, cn, rfl⟩ := Kd.S_slice ho; have HNN' := am ho; have HBN := am hb; clear ho hb hg hat))
  go_roundg k1
  case measure => have := HI.out; have := HHI.out; omega
  case rel => exact ⟨i + 1, by first | rfl | simp [hwi], ⟨by have := HI.out; have := HHI.out; omega, by have := HHI.out; omega⟩, ⟨fun p hp => by
   rcases Nat.lt_succ_iff_lt_or_eq.1 hp with h | h
   ·exact HQ.out p h
   ·rw [h, HROW.out]; exact HQQ.out.symm⟩, ⟨by rw [← HRN.out]; exact HNN'.out⟩, HBN⟩
end Go.Proofs.Ytlacfpbfnedgdaa.Q
