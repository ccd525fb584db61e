-- packed by wip/tools/pack.py (a program of this session) out of its own texts
import Derived.Test.YtlacfpbfnedgdaaPRecChecks0
import Derived.ArgAppend
import Derived.Below
import Derived.BigQuiet
import Derived.Deep.AppendLies
import Derived.Deep.CutBlock
import Derived.Deep.DeepCutAuto
import Derived.Deep.Draws
import Derived.Deep.LoopGhost
import Derived.Deep.OwnRows
import Derived.Deep.QuietTactic
import Derived.Deep.RegionHeld3
import Derived.Deep.RegionWith
import Derived.KernelRfl
import Derived.Laws.BitsLemmas
import Derived.Laws.BytesArg
import Derived.Laws.CopyOwn
import Derived.Laws.IdiomCopy
import Derived.Laws.MakeOwn
import Derived.Laws.OwnMore
import Derived.Laws.Rows
import Derived.Laws.Slices
import Derived.Lib.AppendStr
import Derived.Lib.ConvBytes
import Derived.Lib.SlBytesConst
import Derived.Lib.SliceRun
import Derived.Maps.AppendAt
import Derived.OrdersHeld
import Derived.OwnWalk
import Derived.RegionTactic
import Derived.RowKit
import Derived.RowKit3
import Derived.Shelf.Abstract
import Derived.Tactics
import Derived.Test.YtlacfpbfnedgdaaProg
import Derived.WalkKit
import Derived.WalkSpells
import Derived.WideLaws
import Derived.Test.YtlacfpbfnedgdaaPRecChecks1
import Derived.Test.YtlacfpbfnedgdaaPRecChecks3
import Derived.Test.YtlacfpbfnedgdaaPRecChecks4
import Derived.Test.YtlacfpbfnedgdaaPRecChecks5
import Derived.Test.YtlacfpbfnedgdaaPRecChecks6
import Derived.Test.YtlacfpbfnedgdaaPRecChecks7
import Derived.Test.YtlacfpbfnedgdaaPRecChecks9
import Derived.Test.YtlacfpbfnedgdaaPRecChecks10
import Derived.Test.YtlacfpbfnedgdaaPRecChecks11
import Derived.Test.YtlacfpbfnedgdaaPRecChecks12
namespace Go.Proofs.Ytlacfpbfnedgdaa.Q
open Go.RowKit Go.Proofs.YtlacfpbfnedgdaaW.PrintWords Go.Proofs.YtlacfpbfnedgdaaW.PrintLast Go.Proofs.YtlacfpbfnedgdaaW.PrintMore
attribute [local go_sem] max2_int min2_int max_two min_two max_three min_three max_four min_four
set_option linter.unusedVariables false
set_option linter.unusedSimpArgs false
def hypercubelaw1_known.f (k : Nat)  : Option (Bool) := (rec_Decode.f ([] : List Int)).bind fun bt185 => ((some (([3] : List Int) : List Int)).bind fun y194 => ((some (([(⟨(([2] : List Int)), (([7] : List Int))⟩ : S33)] : List (S33)) : List (S33))).bind fun y204 => ((rec_Encode.f k y194 1 y204).bind fun t207 => ((rec_Decode.f t207).bind fun bt210 => (if bt185.2.2.2 = 1 then (if bt210.2.2.2 = 0 then ((hypercuberef1_Same.f k y194 1 y204 bt210.1 bt210.2.1 bt210.2.2.1).bind fun t219 => (if t219 = true then ((rec_Check.f y194 1).bind fun t220 => (if t220 = true then (if 0 < (y204.length : Int) then ((rec_Right.f k y194 1 ((rd_T33 y204 0).f0) ((rd_T33 y204 0).f1)).bind fun t222 => (if t222 = true then ((rec_Sound.f k y194 1 y204).bind fun t223 => (some t223)) else (none))) else (none)) else (none))) else (none))) else (none)) else (none))))))
theorem hypercubelaw1_known.mono : ∀ k, LeO (hypercubelaw1_known.f k ) (hypercubelaw1_known.f (k + 1) ) := by
 intro  k
 unfold hypercubelaw1_known.f
 repeat' first
   | (with_reducible exact hypercuberef1_Same.mono _ _ _ _ _ _ _)
   | (with_reducible exact rec_Encode.mono _ _ _ _)
   | (with_reducible exact rec_Right.mono _ _ _ _ _)
   | (with_reducible exact rec_Sound.mono _ _ _ _)
   | (with_reducible exact LeO.refl _)
   | (with_reducible exact LeO.none _)
   | (with_reducible refine LeO.ite ?_ ?_)
   | (with_reducible refine LeO.bind ?_ (fun _ => ?_))
   | exact hypercuberef1_Same.mono _ _ _ _ _ _ _
   | exact rec_Encode.mono _ _ _ _
   | exact rec_Right.mono _ _ _ _ _
   | exact rec_Sound.mono _ _ _ _
   | exact LeO.none _
   | refine LeO.ite ?_ ?_
   | refine LeO.bind ?_ (fun _ => ?_)
def hypercubelaw1_known.T5 : Bool × List (List Nat × List Nat) := (true, [([], []), ([0], [0]), ([1], [1]), ([2], [2]), ([3, 2], [2, 3]), ([2, 4], [2, 4]), ([5, 2], [5]), ([6], [6]), ([6], [6]), ([6], [6]), ([6], [6]), ([7, 8, 9, 10, 6, 6], [6, 7, 8, 9, 10]), ([6, 11], [6, 11]), ([12, 11], [12]), ([13], [13]), ([14, 13, 13], [13, 14]), ([13, 15], [13, 15]), ([16, 15], [16]), ([17], [17]), ([17], [17]), ([19, 17], [17, 19]), ([20, 17], [17, 20]), ([18, 21, 17, 17], [17, 18, 21]), ([17, 22], [17, 22]), ([23, 22], [23]), ([24], [24]), ([24], [24]), ([25, 26, 24, 24], [24, 25, 26]), ([24, 27], [24, 27]), ([28, 27, 0, 1, 2, 3, 4, 5, 6, 7, 8, 9, 10, 11, 12, 13, 14, 15, 16, 17, 18, 19, 20, 21, 22, 23, 24, 25, 26, 27, 28], [28])])
def hypercubelaw1_known.B5 : List Nat := [0, 1, 3, 7, 15, 31, 63, 127, 127, 127, 127, 2047, 4095, 8191, 16383, 32767, 65535, 131071, 262143, 262143, 786431, 1835007, 4194303, 8388607, 16777215, 33554431, 33554431, 134217727, 268435455, 536870911]
theorem hypercubelaw1_known.tab5 : rtab .any (opsOf Try.f14 5) = hypercubelaw1_known.T5 := by kernel_rfl
theorem hypercubelaw1_known.bits5 : waitsOk hypercubelaw1_known.T5.2 hypercubelaw1_known.B5 = true := by kernel_rfl
set_option maxHeartbeats 8000000 in
set_option maxRecDepth 100000 in
theorem hypercubelaw1_known.calls (k : Nat)  (r : Bool) (w : World) (h : hypercubelaw1_known.f k  = some r) :
  Calls Try.prog 14 #[] w fun e w' => e = .returned (.bool r) ∧ Below w.heap.size w w' := by
 have hu24 := Try.underlying24
 have hu33 := Try.underlying33
 have HB := am (Below.refl w.heap.size w)
 have H : ((rec_Decode.f ([] : List Int)).bind fun bt185 => ((some (([3] : List Int) : List Int)).bind fun y194 => ((some (([(⟨(([2] : List Int)), (([7] : List Int))⟩ : S33)] : List (S33)) : List (S33))).bind fun y204 => ((rec_Encode.f k y194 1 y204).bind fun t207 => ((rec_Decode.f t207).bind fun bt210 => (if bt185.2.2.2 = 1 then (if bt210.2.2.2 = 0 then ((hypercuberef1_Same.f k y194 1 y204 bt210.1 bt210.2.1 bt210.2.2.1).bind fun t219 => (if t219 = true then ((rec_Check.f y194 1).bind fun t220 => (if t220 = true then (if 0 < (y204.length : Int) then ((rec_Right.f k y194 1 ((rd_T33 y204 0).f0) ((rd_T33 y204 0).f1)).bind fun t222 => (if t222 = true then ((rec_Sound.f k y194 1 y204).bind fun t223 => (some t223)) else (none))) else (none)) else (none))) else (none))) else (none)) else (none))))))) = some r := h
 clear h
 replace H := Option.bind_eq_some_iff.mp H
 obtain ⟨⟨t185, t188, t189, t192⟩, A10, H⟩ := H
 replace H : ((some (([3] : List Int) : List Int)).bind fun y194 => ((some (([(⟨(([2] : List Int)), (([7] : List Int))⟩ : S33)] : List (S33)) : List (S33))).bind fun y204 => ((rec_Encode.f k y194 1 y204).bind fun t207 => ((rec_Decode.f t207).bind fun bt210 => (if t192 = 1 then (if bt210.2.2.2 = 0 then ((hypercuberef1_Same.f k y194 1 y204 bt210.1 bt210.2.1 bt210.2.2.1).bind fun t219 => (if t219 = true then ((rec_Check.f y194 1).bind fun t220 => (if t220 = true then (if 0 < (y204.length : Int) then ((rec_Right.f k y194 1 ((rd_T33 y204 0).f0) ((rd_T33 y204 0).f1)).bind fun t222 => (if t222 = true then ((rec_Sound.f k y194 1 y204).bind fun t223 => (some t223)) else (none))) else (none)) else (none))) else (none))) else (none)) else (none)))))) = some r := H
 have A1 := am A10
 clear A10
 obtain ⟨y194, hy194⟩ : ∃ y_ : List Int, y_ = (([3] : List Int)) := ⟨_, rfl⟩
 replace H : ((some (([(⟨(([2] : List Int)), (([7] : List Int))⟩ : S33)] : List (S33)) : List (S33))).bind fun y204 => ((rec_Encode.f k y194 1 y204).bind fun t207 => ((rec_Decode.f t207).bind fun bt210 => (if t192 = 1 then (if bt210.2.2.2 = 0 then ((hypercuberef1_Same.f k y194 1 y204 bt210.1 bt210.2.1 bt210.2.2.1).bind fun t219 => (if t219 = true then ((rec_Check.f y194 1).bind fun t220 => (if t220 = true then (if 0 < (y204.length : Int) then ((rec_Right.f k y194 1 ((rd_T33 y204 0).f0) ((rd_T33 y204 0).f1)).bind fun t222 => (if t222 = true then ((rec_Sound.f k y194 1 y204).bind fun t223 => (some t223)) else (none))) else (none)) else (none))) else (none))) else (none)) else (none))))) = some r := by first | (rw [hy194]; with_reducible exact H) | (have H2_ := (Option.bind_some _ _).symm.trans H; rw [hy194]; with_reducible exact H2_) | (have H2_ := (Option.bind_some _ _).symm.trans H; with_reducible exact H2_) | with_reducible exact H | (rw [hy194]; exact H) | exact H
 have Ny194 := am hy194
 clear hy194
 obtain ⟨y198, hy198⟩ : ∃ y_ : List Int, y_ = (([2] : List Int)) := ⟨_, rfl⟩
 replace H : ((some (([(⟨y198, (([7] : List Int))⟩ : S33)] : List (S33)) : List (S33))).bind fun y204 => ((rec_Encode.f k y194 1 y204).bind fun t207 => ((rec_Decode.f t207).bind fun bt210 => (if t192 = 1 then (if bt210.2.2.2 = 0 then ((hypercuberef1_Same.f k y194 1 y204 bt210.1 bt210.2.1 bt210.2.2.1).bind fun t219 => (if t219 = true then ((rec_Check.f y194 1).bind fun t220 => (if t220 = true then (if 0 < (y204.length : Int) then ((rec_Right.f k y194 1 ((rd_T33 y204 0).f0) ((rd_T33 y204 0).f1)).bind fun t222 => (if t222 = true then ((rec_Sound.f k y194 1 y204).bind fun t223 => (some t223)) else (none))) else (none)) else (none))) else (none))) else (none)) else (none))))) = some r := by first | (rw [hy198]; with_reducible exact H) | (have H2_ := (Option.bind_some _ _).symm.trans H; rw [hy198]; with_reducible exact H2_) | (have H2_ := (Option.bind_some _ _).symm.trans H; with_reducible exact H2_) | with_reducible exact H | (rw [hy198]; exact H) | exact H
 have Ny198 := am hy198
 clear hy198
 obtain ⟨y201, hy201⟩ : ∃ y_ : List Int, y_ = (([7] : List Int)) := ⟨_, rfl⟩
 replace H : ((some (([(⟨y198, y201⟩ : S33)] : List (S33)) : List (S33))).bind fun y204 => ((rec_Encode.f k y194 1 y204).bind fun t207 => ((rec_Decode.f t207).bind fun bt210 => (if t192 = 1 then (if bt210.2.2.2 = 0 then ((hypercuberef1_Same.f k y194 1 y204 bt210.1 bt210.2.1 bt210.2.2.1).bind fun t219 => (if t219 = true then ((rec_Check.f y194 1).bind fun t220 => (if t220 = true then (if 0 < (y204.length : Int) then ((rec_Right.f k y194 1 ((rd_T33 y204 0).f0) ((rd_T33 y204 0).f1)).bind fun t222 => (if t222 = true then ((rec_Sound.f k y194 1 y204).bind fun t223 => (some t223)) else (none))) else (none)) else (none))) else (none))) else (none)) else (none))))) = some r := by first | (rw [hy201]; with_reducible exact H) | (have H2_ := (Option.bind_some _ _).symm.trans H; rw [hy201]; with_reducible exact H2_) | (have H2_ := (Option.bind_some _ _).symm.trans H; with_reducible exact H2_) | with_reducible exact H | (rw [hy201]; exact H) | exact H
 have Ny201 := am hy201
 clear hy201
 obtain ⟨y204, hy204⟩ : ∃ y_ : List (S33), y_ = (([(⟨y198, y201⟩ : S33)] : List (S33))) := ⟨_, rfl⟩
 replace H : ((rec_Encode.f k y194 1 y204).bind fun t207 => ((rec_Decode.f t207).bind fun bt210 => (if t192 = 1 then (if bt210.2.2.2 = 0 then ((hypercuberef1_Same.f k y194 1 y204 bt210.1 bt210.2.1 bt210.2.2.1).bind fun t219 => (if t219 = true then ((rec_Check.f y194 1).bind fun t220 => (if t220 = true then (if 0 < (y204.length : Int) then ((rec_Right.f k y194 1 ((rd_T33 y204 0).f0) ((rd_T33 y204 0).f1)).bind fun t222 => (if t222 = true then ((rec_Sound.f k y194 1 y204).bind fun t223 => (some t223)) else (none))) else (none)) else (none))) else (none))) else (none)) else (none)))) = some r := by first | (rw [hy204]; with_reducible exact H) | (have H2_ := (Option.bind_some _ _).symm.trans H; rw [hy204]; with_reducible exact H2_) | (have H2_ := (Option.bind_some _ _).symm.trans H; with_reducible exact H2_) | with_reducible exact H | (rw [hy204]; exact H) | exact H
 have Ny204 := am hy204
 clear hy204
 replace H := Option.bind_eq_some_iff.mp H
 obtain ⟨t207, A20, H⟩ := H
 replace H : ((rec_Decode.f t207).bind fun bt210 => (if t192 = 1 then (if bt210.2.2.2 = 0 then ((hypercuberef1_Same.f k y194 1 y204 bt210.1 bt210.2.1 bt210.2.2.1).bind fun t219 => (if t219 = true then ((rec_Check.f y194 1).bind fun t220 => (if t220 = true then (if 0 < (y204.length : Int) then ((rec_Right.f k y194 1 ((rd_T33 y204 0).f0) ((rd_T33 y204 0).f1)).bind fun t222 => (if t222 = true then ((rec_Sound.f k y194 1 y204).bind fun t223 => (some t223)) else (none))) else (none)) else (none))) else (none))) else (none)) else (none))) = some r := H
 have A2 := am A20
 clear A20
 replace H := Option.bind_eq_some_iff.mp H
 obtain ⟨⟨t210, t213, t214, t217⟩, A30, H⟩ := H
 replace H : (if t192 = 1 then (if t217 = 0 then ((hypercuberef1_Same.f k y194 1 y204 t210 t213 t214).bind fun t219 => (if t219 = true then ((rec_Check.f y194 1).bind fun t220 => (if t220 = true then (if 0 < (y204.length : Int) then ((rec_Right.f k y194 1 ((rd_T33 y204 0).f0) ((rd_T33 y204 0).f1)).bind fun t222 => (if t222 = true then ((rec_Sound.f k y194 1 y204).bind fun t223 => (some t223)) else (none))) else (none)) else (none))) else (none))) else (none)) else (none)) = some r := H
 have A3 := am A30
 clear A30
 by_cases c4 : t192 = 1
 ·rw [if_pos c4] at H
  have c4b0 : (t192 == 1) = true := beq_iff_eq.mpr c4
  have c4b1 : (t192 != 1) = false := bne_eq_false_iff_eq.mpr c4
  clear c4
  by_cases c5 : t217 = 0
  ·rw [if_pos c5] at H
   have c5b0 : (t217 == 0) = true := beq_iff_eq.mpr c5
   have c5b1 : (t217 != 0) = false := bne_eq_false_iff_eq.mpr c5
   clear c5
   replace H := Option.bind_eq_some_iff.mp H
   obtain ⟨t219, A60, H⟩ := H
   replace H : (if t219 = true then ((rec_Check.f y194 1).bind fun t220 => (if t220 = true then (if 0 < (y204.length : Int) then ((rec_Right.f k y194 1 ((rd_T33 y204 0).f0) ((rd_T33 y204 0).f1)).bind fun t222 => (if t222 = true then ((rec_Sound.f k y194 1 y204).bind fun t223 => (some t223)) else (none))) else (none)) else (none))) else (none)) = some r := H
   have A6 := am A60
   clear A60
   by_cases c7 : t219 = true
   ·subst c7
    have H1 : ((rec_Check.f y194 1).bind fun t220 => (if t220 = true then (if 0 < (y204.length : Int) then ((rec_Right.f k y194 1 ((rd_T33 y204 0).f0) ((rd_T33 y204 0).f1)).bind fun t222 => (if t222 = true then ((rec_Sound.f k y194 1 y204).bind fun t223 => (some t223)) else (none))) else (none)) else (none))) = some r := by rw [if_pos rfl] at H; exact H
    clear H
    have H := H1
    clear H1
    replace H := Option.bind_eq_some_iff.mp H
    obtain ⟨t220, A80, H⟩ := H
    replace H : (if t220 = true then (if 0 < (y204.length : Int) then ((rec_Right.f k y194 1 ((rd_T33 y204 0).f0) ((rd_T33 y204 0).f1)).bind fun t222 => (if t222 = true then ((rec_Sound.f k y194 1 y204).bind fun t223 => (some t223)) else (none))) else (none)) else (none)) = some r := H
    have A8 := am A80
    clear A80
    by_cases c9 : t220 = true
    ·subst c9
     have H1 : (if 0 < (y204.length : Int) then ((rec_Right.f k y194 1 ((rd_T33 y204 0).f0) ((rd_T33 y204 0).f1)).bind fun t222 => (if t222 = true then ((rec_Sound.f k y194 1 y204).bind fun t223 => (some t223)) else (none))) else (none)) = some r := by rw [if_pos rfl] at H; exact H
     clear H
     have H := H1
     clear H1
     by_cases c10 : 0 < (y204.length : Int)
     ·rw [if_pos c10] at H
      have c10b0 : decide (0 < (y204.length : Int)) = true := decide_eq_true c10
      have c10b1 : decide (0 < y204.length) = true := decide_eq_true (by omega)
      clear c10
      replace H := Option.bind_eq_some_iff.mp H
      obtain ⟨t222, A110, H⟩ := H
      replace H : (if t222 = true then ((rec_Sound.f k y194 1 y204).bind fun t223 => (some t223)) else (none)) = some r := H
      have A11 := am A110
      clear A110
      by_cases c12 : t222 = true
      ·subst c12
       have H1 : ((rec_Sound.f k y194 1 y204).bind fun t223 => (some t223)) = some r := by rw [if_pos rfl] at H; exact H
       clear H
       have H := H1
       clear H1
       replace H := Option.bind_eq_some_iff.mp H
       obtain ⟨t223, A130, H⟩ := H
       replace H : (some t223) = some r := H
       have A13 := am A130
       clear A130
       obtain rfl := Option.some.inj H
       go_enter Try.func14, Try.ntmps14
       try go_wp2_with (first | ((with_reducible refine gate_callee (f := 23) rfl ?_); refine goesL_ (some 10) rfl rfl Try.func23 (by kernel_rfl) rfl #[.slice none 0 0] rfl (by (try simp only [List.map_toArray, List.map_cons, List.map_nil]); first | done | rfl | (simp only [List.length_drop, List.length_take]; rfl)) ?_; (refine (rec_Decode.calls _ _ ([] : List Int) t185 t188 t189 t192 _ ?side1 ?side2 A1.out).mono ?_); (case side1 => exact Kd.C_nil _ _); (case side2 => exact Nat.le_refl _); rintro e w14 ⟨v186, v190, rfl, ho0, ho1, hb⟩; refine ⟨_, rfl, ?_⟩; have n0_ := am (Kd.R_lower ho0 (below_size (by repeat (first | (with_reducible first | exact HB.out | apply below_alloc | apply pw_below_drewN | apply below_drew1) | exact HB.out)))); have n1_ := am (Kd.N_lower (Kd.N_mono (ok' := fun k_ => some k_ ≠ (v186 : Value).ownBlock) (Kd.S_N (Kd.S_bound ho1)) (fun k_ hk_ => hk_.1)) (below_size (by repeat (first | (with_reducible first | exact HB.out | apply below_alloc | apply pw_below_drewN | apply below_drew1) | exact HB.out)))); have n2_ := am (below_step (by repeat (first | (with_reducible first | exact HB.out | apply below_alloc | apply pw_below_drewN | apply below_drew1) | exact HB.out)) hb); clear HB; have HO187 := n0_; have HO191 := n1_; have HB := n2_; clear n0_ n1_ n2_; (try clear hb); (try clear hb2); (try clear hk); (try clear hi); (try clear ho0); (try clear ho1)) | ((with_reducible refine gate_dst (N := 1) rfl ?_); refine box_event ?hg (N := 1) ?hd (cs := #[.slice none 0 0, .int .i64 0]) (t := 24) ?hr ?_; (case hd => rfl); (case hg => rfl); (case hr => first | (go_simp; done) | (go_simp; rfl)); intro gb193 hg w15 hbox hb; have n0_ := am (Kd.R_below (by (with_reducible repeat (first | apply Kd.R_alloc | apply Kd.R_drewN | apply Kd.R_drew)); exact HO187.out) hb); have n1_ := am (Kd.N_below (Kd.N_elderB (by (with_reducible repeat (first | apply Kd.N_alloc | apply Kd.N_drewN | apply Kd.N_drew)); exact HO191.out) gb193 (Nat.le_of_eq hg.symm)) hb); have n2_ := am (below_step (by repeat (first | (with_reducible first | exact HB.out | apply below_alloc | apply pw_below_drewN | apply below_drew1) | exact HB.out)) hb); have n3_ := am (hbox); have n4_ := am ((by rw [hg]; exact (below_size (by repeat (first | (with_reducible first | exact HB.out | apply below_alloc | apply pw_below_drewN | apply below_drew1) | exact HB.out))) : w.heap.size ≤ gb193)); have n5_ := am ((by rw [hg]; exact (below_size (by repeat (first | (with_reducible first | exact HB.out | apply below_alloc | apply pw_below_drewN | apply below_drew1) | exact HB.out))) : w.heap.size ≤ gb193)); clear HO187; clear HO191; clear HB; have HO187 := n0_; have HO191 := n1_; have HB := n2_; have BK193 := n3_; have GW193 := n4_; have GE193 := n5_; clear n0_ n1_ n2_ n3_ n4_ n5_; clear hb hbox hg; obtain ⟨Ao16, co16, eo16⟩ := Kd.R_slice HO187.out; subst eo16; have hcz17_0 : w15.cell? ⟨gb193, 0, none⟩ = some (.slice none 0 0) := (blk_cell BK193.out 0).trans rfl; have hcz17_1 : w15.cell? ⟨gb193, 1, none⟩ = some (.int .i64 0) := (blk_cell BK193.out 1).trans rfl; have hfz17_0 := blk_frozen BK193.out 0; have hfz17_1 := blk_frozen BK193.out 1) | ((with_reducible refine gate_dst (N := 14) rfl ?_); refine Kd.R_lit (Kd.int .i64) _ 3 ?hg (N := 14) ?hd (xs := ([3] : List Int)) (inner := [.int .i64 3]) (ok := fun _ => True) (okp := fun _ => True) ?hr ?hp (fun _ hk => hk) trivial (Below.refl _ _) (Nat.le_refl _) (by simp) ?_; (case hd => rfl); (case hg => rfl); (case hr => first | (go_simp; done) | (go_simp; rfl)); (case hp => exact (Reps.one (show Kd.M (Kd.int .i64) _ _ _ 3 [.int .i64 3] from rfl) (Reps.none _ _))); intro v195 w18 ho19 hb hg_ hnew_; clear hg_ hnew_; (first | rw [← Ny194.out] at ho19 | (simp only [Int.reduceToNat] at ho19; rw [← Ny194.out] at ho19)); have n0_ := am (Kd.R_elder' (by (with_reducible repeat (first | apply Kd.R_alloc | apply Kd.R_drewN | apply Kd.R_drew)); exact (Kd.R_mono (Kd.R_far (p := ⟨gb193, 1, none⟩) (Kd.R_far (p := ⟨gb193, 0, none⟩) (Kd.R_types HO187.out BK193.out (by decide)) (fun _ hk => hk.2) (.slice Ao16 t185.length co16)) (fun _ hk => hk.2) (.int .i64 t188)) (fun _ h_ => h_.1))) (Kd.R_base ho19) hb); have n1_ := am (Kd.N_elder' (by (with_reducible repeat (first | apply Kd.N_alloc | apply Kd.N_drewN | apply Kd.N_drew)); exact (Kd.N_mono (Kd.N_far (p := ⟨gb193, 1, none⟩) (Kd.N_far (p := ⟨gb193, 0, none⟩) (Kd.N_mono HO191.out (fun k_ hk => (⟨hk, hk.2⟩ : _ ∧ k_ ≠ gb193))) (fun _ hk => hk.2) (.slice Ao16 t185.length co16)) (fun _ hk => hk.2) (.int .i64 t188)) (fun _ h_ => h_.1))) (Kd.R_base ho19) hb); have n2_ := am (Kd.R_lower (Kd.R_new' ho19 (Kd.R_lt (by (with_reducible repeat (first | apply Kd.R_alloc | apply Kd.R_drewN | apply Kd.R_drew)); exact (Kd.R_mono (Kd.R_far (p := ⟨gb193, 1, none⟩) (Kd.R_far (p := ⟨gb193, 0, none⟩) (Kd.R_types HO187.out BK193.out (by decide)) (fun _ hk => hk.2) (.slice Ao16 t185.length co16)) (fun _ hk => hk.2) (.int .i64 t188)) (fun _ h_ => h_.1))))) (below_size (by repeat (first | (with_reducible first | exact HB.out | apply below_alloc | apply pw_below_drewN | apply below_drew1 | refine below_set ?_ GE193.out) | exact HB.out)))); have n3_ := am (blk_below (g := gb193) (o := .cells #[.slice Ao16 t185.length co16, .int .i64 t188] 24 (0, 0)) (by (with_reducible repeat (first | refine blk_drewN ?_ _ | refine blk_drew ?_ | refine blk_alloc ?_ _)); refine blk_put (cs := #[.slice Ao16 t185.length co16, .int .i64 0]) ?_ 1 _ rfl; (with_reducible repeat (first | refine blk_drewN ?_ _ | refine blk_drew ?_ | refine blk_alloc ?_ _)); refine blk_put (cs := #[.slice none 0 0, .int .i64 0]) ?_ 0 _ rfl; (with_reducible repeat (first | refine blk_drewN ?_ _ | refine blk_drew ?_ | refine blk_alloc ?_ _)); exact BK193.out) hb); have n4_ := am (below_step (by repeat (first | (with_reducible first | exact HB.out | apply below_alloc | apply pw_below_drewN | apply below_drew1 | refine below_set ?_ GE193.out) | exact HB.out)) hb); clear HO187; clear HO191; clear BK193; clear HB; have HO187 := n0_; have HO191 := n1_; have HO196 := n2_; have BK193 := n3_; have HB := n4_; clear n0_ n1_ n2_ n3_ n4_; clear hb ho19; obtain ⟨Ao20, co20, eo20⟩ := Kd.R_slice HO196.out; subst eo20) | ((with_reducible refine gate_dst (N := 4) rfl ?_); refine box_event ?hg (N := 4) ?hd (cs := #[.slice none 0 0, .int .i64 0]) (t := 24) ?hr ?_; (case hd => rfl); (case hg => rfl); (case hr => first | (go_simp; done) | (go_simp; rfl)); intro gb197 hg w21 hbox hb; have n0_ := am (Kd.R_below (by (with_reducible repeat (first | apply Kd.R_alloc | apply Kd.R_drewN | apply Kd.R_drew)); exact HO187.out) hb); have n1_ := am (Kd.N_below (Kd.N_elderB (by (with_reducible repeat (first | apply Kd.N_alloc | apply Kd.N_drewN | apply Kd.N_drew)); exact HO191.out) gb197 (Nat.le_of_eq hg.symm)) hb); have n2_ := am (Kd.R_below (by (with_reducible repeat (first | apply Kd.R_alloc | apply Kd.R_drewN | apply Kd.R_drew)); exact HO196.out) hb); have n3_ := am (blk_below (g := gb193) (o := .cells #[.slice Ao16 t185.length co16, .int .i64 t188] 24 (0, 0)) (by (with_reducible repeat (first | refine blk_drewN ?_ _ | refine blk_drew ?_ | refine blk_alloc ?_ _)); exact BK193.out) hb); have n4_ := am (below_step (by repeat (first | (with_reducible first | exact HB.out | apply below_alloc | apply pw_below_drewN | apply below_drew1 | refine below_set ?_ GE193.out) | exact HB.out)) hb); have n5_ := am (hbox); have n6_ := am ((by rw [hg]; exact (below_size (by repeat (first | (with_reducible first | exact HB.out | apply below_alloc | apply pw_below_drewN | apply below_drew1 | refine below_set ?_ GE193.out) | exact HB.out))) : w.heap.size ≤ gb197)); have n7_ := am ((by rw [hg]; exact (below_size (by repeat (first | (with_reducible first | exact HB.out | apply below_alloc | apply pw_below_drewN | apply below_drew1 | refine below_set ?_ GE193.out) | exact HB.out))) : w.heap.size ≤ gb197)); have n8_ := am ((by rw [hg]; exact Nat.ne_of_lt (blk_lt (g := gb193) (o := .cells #[.slice Ao16 t185.length co16, .int .i64 t188] 24 (0, 0)) (by (with_reducible repeat (first | refine blk_drewN ?_ _ | refine blk_drew ?_ | refine blk_alloc ?_ _)); exact BK193.out)) : gb193 ≠ gb197)); have n9_ := am ((by rw [hg]; exact Nat.ne_of_gt (blk_lt (g := gb193) (o := .cells #[.slice Ao16 t185.length co16, .int .i64 t188] 24 (0, 0)) (by (with_reducible repeat (first | refine blk_drewN ?_ _ | refine blk_drew ?_ | refine blk_alloc ?_ _)); exact BK193.out)) : gb197 ≠ gb193)); clear HO187; clear HO191; clear HO196; clear BK193; clear HB; have HO187 := n0_; have HO191 := n1_; have HO196 := n2_; have BK193 := n3_; have HB := n4_; have BK197 := n5_; have GW197 := n6_; have GE197 := n7_; have NB193_197 := n8_; have NB197_193 := n9_; clear n0_ n1_ n2_ n3_ n4_ n5_ n6_ n7_ n8_ n9_; clear hb hbox hg; have hnb22 := NB197_193.out; have hnc22 := NB193_197.out; have hcz23_0 : w21.cell? ⟨gb197, 0, none⟩ = some (.slice none 0 0) := (blk_cell BK197.out 0).trans rfl; have hcz23_1 : w21.cell? ⟨gb197, 1, none⟩ = some (.int .i64 0) := (blk_cell BK197.out 1).trans rfl; have hfz23_0 := blk_frozen BK197.out 0; have hfz23_1 := blk_frozen BK197.out 1) | ((with_reducible refine gate_dst (N := 16) rfl ?_); refine Kd.R_lit (Kd.int .i64) _ 3 ?hg (N := 16) ?hd (xs := ([2] : List Int)) (inner := [.int .i64 2]) (ok := fun _ => True) (okp := fun _ => True) ?hr ?hp (fun _ hk => hk) trivial (Below.refl _ _) (Nat.le_refl _) (by simp) ?_; (case hd => rfl); (case hg => rfl); (case hr => first | (go_simp; done) | (go_simp; rfl)); (case hp => exact (Reps.one (show Kd.M (Kd.int .i64) _ _ _ 2 [.int .i64 2] from rfl) (Reps.none _ _))); intro v199 w24 ho25 hb hg_ hnew_; clear hg_ hnew_; (first | rw [← Ny198.out] at ho25 | (simp only [Int.reduceToNat] at ho25; rw [← Ny198.out] at ho25)); have n0_ := am (Kd.R_elder' (by (with_reducible repeat (first | apply Kd.R_alloc | apply Kd.R_drewN | apply Kd.R_drew)); exact (Kd.R_mono (Kd.R_far (p := ⟨gb197, 1, none⟩) (Kd.R_far (p := ⟨gb197, 0, none⟩) (Kd.R_types HO187.out BK197.out (by decide)) (fun _ hk => hk.2) (.slice Ao20 y194.length co20)) (fun _ hk => hk.2) (.int .i64 1)) (fun _ h_ => h_.1))) (Kd.R_base ho25) hb); have n1_ := am (Kd.N_elder' (by (with_reducible repeat (first | apply Kd.N_alloc | apply Kd.N_drewN | apply Kd.N_drew)); exact (Kd.N_mono (Kd.N_far (p := ⟨gb197, 1, none⟩) (Kd.N_far (p := ⟨gb197, 0, none⟩) (Kd.N_mono HO191.out (fun k_ hk => (⟨hk, hk.2⟩ : _ ∧ k_ ≠ gb197))) (fun _ hk => hk.2) (.slice Ao20 y194.length co20)) (fun _ hk => hk.2) (.int .i64 1)) (fun _ h_ => h_.1))) (Kd.R_base ho25) hb); have n2_ := am (Kd.R_elder' (by (with_reducible repeat (first | apply Kd.R_alloc | apply Kd.R_drewN | apply Kd.R_drew)); exact (Kd.R_mono (Kd.R_far (p := ⟨gb197, 1, none⟩) (Kd.R_far (p := ⟨gb197, 0, none⟩) (Kd.R_types HO196.out BK197.out (by decide)) (fun _ hk => hk.2) (.slice Ao20 y194.length co20)) (fun _ hk => hk.2) (.int .i64 1)) (fun _ h_ => h_.1))) (Kd.R_base ho25) hb); have n3_ := am (Kd.R_lower (Kd.R_new' (Kd.R_new' ho25 (Kd.R_lt (by (with_reducible repeat (first | apply Kd.R_alloc | apply Kd.R_drewN | apply Kd.R_drew)); exact (Kd.R_mono (Kd.R_far (p := ⟨gb197, 1, none⟩) (Kd.R_far (p := ⟨gb197, 0, none⟩) (Kd.R_types HO187.out BK197.out (by decide)) (fun _ hk => hk.2) (.slice Ao20 y194.length co20)) (fun _ hk => hk.2) (.int .i64 1)) (fun _ h_ => h_.1))))) (Kd.R_lt (by (with_reducible repeat (first | apply Kd.R_alloc | apply Kd.R_drewN | apply Kd.R_drew)); exact (Kd.R_mono (Kd.R_far (p := ⟨gb197, 1, none⟩) (Kd.R_far (p := ⟨gb197, 0, none⟩) (Kd.R_types HO196.out BK197.out (by decide)) (fun _ hk => hk.2) (.slice Ao20 y194.length co20)) (fun _ hk => hk.2) (.int .i64 1)) (fun _ h_ => h_.1))))) (below_size (by repeat (first | (with_reducible first | exact HB.out | apply below_alloc | apply pw_below_drewN | apply below_drew1 | refine below_set ?_ GE193.out | refine below_set ?_ GE197.out) | exact HB.out)))); have n4_ := am (blk_below (g := gb193) (o := .cells #[.slice Ao16 t185.length co16, .int .i64 t188] 24 (0, 0)) (by (with_reducible repeat (first | refine blk_drewN ?_ _ | refine blk_drew ?_ | refine blk_alloc ?_ _)); refine blk_far ?_ NB193_197.out _; (with_reducible repeat (first | refine blk_drewN ?_ _ | refine blk_drew ?_ | refine blk_alloc ?_ _)); refine blk_far ?_ NB193_197.out _; (with_reducible repeat (first | refine blk_drewN ?_ _ | refine blk_drew ?_ | refine blk_alloc ?_ _)); exact BK193.out) hb); have n5_ := am (blk_below (g := gb197) (o := .cells #[.slice Ao20 y194.length co20, .int .i64 1] 24 (0, 0)) (by (with_reducible repeat (first | refine blk_drewN ?_ _ | refine blk_drew ?_ | refine blk_alloc ?_ _)); refine blk_put (cs := #[.slice Ao20 y194.length co20, .int .i64 0]) ?_ 1 _ rfl; (with_reducible repeat (first | refine blk_drewN ?_ _ | refine blk_drew ?_ | refine blk_alloc ?_ _)); refine blk_put (cs := #[.slice none 0 0, .int .i64 0]) ?_ 0 _ rfl; (with_reducible repeat (first | refine blk_drewN ?_ _ | refine blk_drew ?_ | refine blk_alloc ?_ _)); exact BK197.out) hb); have n6_ := am (below_step (by repeat (first | (with_reducible first | exact HB.out | apply below_alloc | apply pw_below_drewN | apply below_drew1 | refine below_set ?_ GE193.out | refine below_set ?_ GE197.out) | exact HB.out)) hb); clear HO187; clear HO191; clear HO196; clear BK193; clear BK197; clear HB; have HO187 := n0_; have HO191 := n1_; have HO196 := n2_; have HO200 := n3_; have BK193 := n4_; have BK197 := n5_; have HB := n6_; clear n0_ n1_ n2_ n3_ n4_ n5_ n6_; clear hb ho25) | ((with_reducible refine gate_dst (N := 17) rfl ?_); refine Kd.R_lit (Kd.int .i64) _ 3 ?hg (N := 17) ?hd (xs := ([7] : List Int)) (inner := [.int .i64 7]) (ok := fun _ => True) (okp := fun _ => True) ?hr ?hp (fun _ hk => hk) trivial (Below.refl _ _) (Nat.le_refl _) (by simp) ?_; (case hd => rfl); (case hg => rfl); (case hr => first | (go_simp; done) | (go_simp; rfl)); (case hp => exact (Reps.one (show Kd.M (Kd.int .i64) _ _ _ 7 [.int .i64 7] from rfl) (Reps.none _ _))); intro v202 w26 ho27 hb hg_ hnew_; clear hg_ hnew_; (first | rw [← Ny201.out] at ho27 | (simp only [Int.reduceToNat] at ho27; rw [← Ny201.out] at ho27)); have n0_ := am (Kd.R_elder' (by (with_reducible repeat (first | apply Kd.R_alloc | apply Kd.R_drewN | apply Kd.R_drew)); exact HO187.out) (Kd.R_base ho27) hb); have n1_ := am (Kd.N_elder' (by (with_reducible repeat (first | apply Kd.N_alloc | apply Kd.N_drewN | apply Kd.N_drew)); exact HO191.out) (Kd.R_base ho27) hb); have n2_ := am (Kd.R_elder' (by (with_reducible repeat (first | apply Kd.R_alloc | apply Kd.R_drewN | apply Kd.R_drew)); exact HO196.out) (Kd.R_base ho27) hb); have n3_ := am (Kd.R_elder' (by (with_reducible repeat (first | apply Kd.R_alloc | apply Kd.R_drewN | apply Kd.R_drew)); exact HO200.out) (Kd.R_base ho27) hb); have n4_ := am (Kd.R_lower (Kd.R_new' (Kd.R_new' (Kd.R_new' ho27 (Kd.R_lt (by (with_reducible repeat (first | apply Kd.R_alloc | apply Kd.R_drewN | apply Kd.R_drew)); exact HO187.out))) (Kd.R_lt (by (with_reducible repeat (first | apply Kd.R_alloc | apply Kd.R_drewN | apply Kd.R_drew)); exact HO196.out))) (Kd.R_lt (by (with_reducible repeat (first | apply Kd.R_alloc | apply Kd.R_drewN | apply Kd.R_drew)); exact HO200.out))) (below_size (by repeat (first | (with_reducible first | exact HB.out | apply below_alloc | apply pw_below_drewN | apply below_drew1 | refine below_set ?_ GE193.out | refine below_set ?_ GE197.out) | exact HB.out)))); have n5_ := am (blk_below (g := gb193) (o := .cells #[.slice Ao16 t185.length co16, .int .i64 t188] 24 (0, 0)) (by (with_reducible repeat (first | refine blk_drewN ?_ _ | refine blk_drew ?_ | refine blk_alloc ?_ _)); exact BK193.out) hb); have n6_ := am (blk_below (g := gb197) (o := .cells #[.slice Ao20 y194.length co20, .int .i64 1] 24 (0, 0)) (by (with_reducible repeat (first | refine blk_drewN ?_ _ | refine blk_drew ?_ | refine blk_alloc ?_ _)); exact BK197.out) hb); have n7_ := am (below_step (by repeat (first | (with_reducible first | exact HB.out | apply below_alloc | apply pw_below_drewN | apply below_drew1 | refine below_set ?_ GE193.out | refine below_set ?_ GE197.out) | exact HB.out)) hb); clear HO187; clear HO191; clear HO196; clear HO200; clear BK193; clear BK197; clear HB; have HO187 := n0_; have HO191 := n1_; have HO196 := n2_; have HO200 := n3_; have HO203 := n4_; have BK193 := n5_; have BK197 := n6_; have HB := n7_; clear n0_ n1_ n2_ n3_ n4_ n5_ n6_ n7_; clear hb ho27; obtain ⟨Ao28, co28, eo28⟩ := Kd.R_slice HO203.out; subst eo28; obtain ⟨Ao29, co29, eo29⟩ := Kd.R_slice HO200.out; subst eo29) | ((with_reducible refine gate_dst (N := 19) rfl ?_); refine Kd.N_lit k33 _ 33 ?hg (N' := 19) ?hd (xs := ([(⟨y198, y201⟩ : S33)] : List (S33))) (inner := [.slice Ao29 y198.length co29, .slice Ao28 y201.length co28]) (ok := (fun k_ => some k_ ≠ (.slice Ao16 t185.length co16 : Value).ownBlock ∧ some k_ ≠ (v190 : Value).ownBlock ∧ some k_ ≠ (.slice Ao20 y194.length co20 : Value).ownBlock ∧ k_ ≠ gb193 ∧ k_ ≠ gb197)) (okp := (fun k_ => some k_ ≠ (.slice Ao16 t185.length co16 : Value).ownBlock ∧ some k_ ≠ (v190 : Value).ownBlock ∧ some k_ ≠ (.slice Ao20 y194.length co20 : Value).ownBlock ∧ k_ ≠ gb193 ∧ k_ ≠ gb197)) ?hr ?hp (fun _ hk => hk) ((show ∀ k_, w26.heap.size ≤ k_ → (fun k_ => some k_ ≠ (.slice Ao16 t185.length co16 : Value).ownBlock ∧ some k_ ≠ (v190 : Value).ownBlock ∧ some k_ ≠ (.slice Ao20 y194.length co20 : Value).ownBlock ∧ k_ ≠ gb193 ∧ k_ ≠ gb197) k_ from fun k_ hk => ⟨Kd.fresh' (Kd.R_lt (by (with_reducible repeat (first | apply Kd.R_alloc | apply Kd.R_drewN | apply Kd.R_drew)); exact HO187.out)) k_ hk, Kd.fresh' (Kd.N_lt (by (with_reducible repeat (first | apply Kd.N_alloc | apply Kd.N_drewN | apply Kd.N_drew)); exact HO191.out)) k_ hk, Kd.fresh' (Kd.R_lt (by (with_reducible repeat (first | apply Kd.R_alloc | apply Kd.R_drewN | apply Kd.R_drew)); exact HO196.out)) k_ hk, Kd.freshB (g := gb193) (o := .cells #[.slice Ao16 t185.length co16, .int .i64 t188] 24 (0, 0)) (by (with_reducible repeat (first | refine blk_drewN ?_ _ | refine blk_drew ?_ | refine blk_alloc ?_ _)); exact BK193.out) k_ hk, Kd.freshB (g := gb197) (o := .cells #[.slice Ao20 y194.length co20, .int .i64 1] 24 (0, 0)) (by (with_reducible repeat (first | refine blk_drewN ?_ _ | refine blk_drew ?_ | refine blk_alloc ?_ _)); exact BK197.out) k_ hk⟩) _ (Nat.le_refl _)) (Below.refl _ _) (Nat.le_refl _) (by simp) ?_; (case hd => rfl); (case hg => rfl); (case hr => first | (go_simp; done) | (go_simp; rfl)); (case hp => exact (Reps.c2 (show Kd.FK k33 _ _ (⟨y198, y201⟩ : S33) [.slice Ao29 y198.length co29, .slice Ao28 y201.length co28] from (k33_mkF _ _ (⟨y198, y201⟩ : S33) (Kd.R_reads' (Kd.R_mono (ok' := (fun k_ => some k_ ≠ (.slice Ao16 t185.length co16 : Value).ownBlock ∧ some k_ ≠ (v190 : Value).ownBlock ∧ some k_ ≠ (.slice Ao20 y194.length co20 : Value).ownBlock ∧ k_ ≠ gb193 ∧ k_ ≠ gb197)) (Kd.R_types (Kd.R_types (Kd.R_apart' (HO200.out) (Kd.N_typed HO191.out) (by decide)) BK193.out (by decide)) BK197.out (by decide)) (fun k_ hk => ⟨hk.1.1.1.1.1.2, ⟨hk.1.1.2, ⟨hk.1.1.1.1.2, ⟨hk.1.2, hk.2⟩⟩⟩⟩))).2.1 (Kd.R_F (Kd.R_mono (ok' := (fun k_ => some k_ ≠ (.slice Ao16 t185.length co16 : Value).ownBlock ∧ some k_ ≠ (v190 : Value).ownBlock ∧ some k_ ≠ (.slice Ao20 y194.length co20 : Value).ownBlock ∧ k_ ≠ gb193 ∧ k_ ≠ gb197)) (Kd.R_types (Kd.R_types (Kd.R_apart' (HO200.out) (Kd.N_typed HO191.out) (by decide)) BK193.out (by decide)) BK197.out (by decide)) (fun k_ hk => ⟨hk.1.1.1.1.1.2, ⟨hk.1.1.2, ⟨hk.1.1.1.1.2, ⟨hk.1.2, hk.2⟩⟩⟩⟩))) (Kd.R_reads' (Kd.R_mono (ok' := (fun k_ => some k_ ≠ (.slice Ao16 t185.length co16 : Value).ownBlock ∧ some k_ ≠ (v190 : Value).ownBlock ∧ some k_ ≠ (.slice Ao20 y194.length co20 : Value).ownBlock ∧ k_ ≠ gb193 ∧ k_ ≠ gb197)) (Kd.R_types (Kd.R_types (Kd.R_apart' (HO203.out) (Kd.N_typed HO191.out) (by decide)) BK193.out (by decide)) BK197.out (by decide)) (fun k_ hk => ⟨hk.1.1.1.1.1.2, ⟨hk.1.1.2, ⟨hk.1.1.1.1.2, ⟨hk.1.2, hk.2⟩⟩⟩⟩))).2.1 (Kd.R_F (Kd.R_mono (ok' := (fun k_ => some k_ ≠ (.slice Ao16 t185.length co16 : Value).ownBlock ∧ some k_ ≠ (v190 : Value).ownBlock ∧ some k_ ≠ (.slice Ao20 y194.length co20 : Value).ownBlock ∧ k_ ≠ gb193 ∧ k_ ≠ gb197)) (Kd.R_types (Kd.R_types (Kd.R_apart' (HO203.out) (Kd.N_typed HO191.out) (by decide)) BK193.out (by decide)) BK197.out (by decide)) (fun k_ hk => ⟨hk.1.1.1.1.1.2, ⟨hk.1.1.2, ⟨hk.1.1.1.1.2, ⟨hk.1.2, hk.2⟩⟩⟩⟩))))) (Reps.none _ _))); intro v205 w30 ho31 hb hg_ hnew_; clear hg_ hnew_; (first | rw [← Ny204.out] at ho31 | (simp only [Int.reduceToNat] at ho31; rw [← Ny204.out] at ho31)); have n0_ := am (Kd.R_below (by (with_reducible repeat (first | apply Kd.R_alloc | apply Kd.R_drewN | apply Kd.R_drew)); exact HO187.out) hb); have n1_ := am (Kd.N_elder' (by (with_reducible repeat (first | apply Kd.N_alloc | apply Kd.N_drewN | apply Kd.N_drew)); exact HO191.out) (by first | exact Kd.N_base ho31 | exact Kd.S_base ho31 | exact Kd.R_base ho31) hb); have n2_ := am (Kd.R_below (by (with_reducible repeat (first | apply Kd.R_alloc | apply Kd.R_drewN | apply Kd.R_drew)); exact HO196.out) hb); have n3_ := am (Kd.N_lower ho31 (below_size (by repeat (first | (with_reducible first | exact HB.out | apply below_alloc | apply pw_below_drewN | apply below_drew1 | refine below_set ?_ GE193.out | refine below_set ?_ GE197.out) | exact HB.out)))); have n4_ := am (blk_below (g := gb193) (o := .cells #[.slice Ao16 t185.length co16, .int .i64 t188] 24 (0, 0)) (by (with_reducible repeat (first | refine blk_drewN ?_ _ | refine blk_drew ?_ | refine blk_alloc ?_ _)); exact BK193.out) hb); have n5_ := am (blk_below (g := gb197) (o := .cells #[.slice Ao20 y194.length co20, .int .i64 1] 24 (0, 0)) (by (with_reducible repeat (first | refine blk_drewN ?_ _ | refine blk_drew ?_ | refine blk_alloc ?_ _)); exact BK197.out) hb); have n6_ := am (below_step (by repeat (first | (with_reducible first | exact HB.out | apply below_alloc | apply pw_below_drewN | apply below_drew1 | refine below_set ?_ GE193.out | refine below_set ?_ GE197.out) | exact HB.out)) hb); clear HO187; clear HO191; clear HO196; clear BK193; clear BK197; clear HB; clear HO200; clear HO203; have HO187 := n0_; have HO191 := n1_; have HO196 := n2_; have HO206 := n3_; have BK193 := n4_; have BK197 := n5_; have HB := n6_; clear n0_ n1_ n2_ n3_ n4_ n5_ n6_; clear hb ho31; have hcz32_0 : w30.cell? ⟨gb197, 0, none⟩ = some (.slice Ao20 y194.length co20) := (blk_cell BK197.out 0).trans rfl; have hcz32_1 : w30.cell? ⟨gb197, 1, none⟩ = some (.int .i64 1) := (blk_cell BK197.out 1).trans rfl; have hfz32_0 := blk_frozen BK197.out 0; have hfz32_1 := blk_frozen BK197.out 1; obtain ⟨Ao33, co33, eo33⟩ := Kd.N_slice HO206.out; subst eo33) | ((with_reducible refine gate_callee (f := 22) rfl ?_); refine goesL_ (some 23) rfl rfl Try.func22 (by kernel_rfl) rfl #[.agg #[.slice Ao20 y194.length co20, .int .i64 1], .slice Ao33 y204.length co33] rfl (by (try simp only [List.map_toArray, List.map_cons, List.map_nil]); first | done | rfl | (simp only [List.length_drop, List.length_take]; rfl)) ?_; (with_reducible refine (rec_Encode.calls k _ _ y194 1 _ _ y204 t207 _ ?side1 ?side2 ?side3 ?side4 A2.out).mono ?_); (case side1 => repeat (first | exact (Kd.R_reads' HO196.out).2.2 | (with_reducible refine Kd.C_alloc ?_ _) | (with_reducible refine Kd.C_drewN ?_ _) | (with_reducible refine Kd.C_drew ?_))); (case side2 => exact (Kd.R_reads' HO196.out).2.1); (case side3 => repeat (first | exact (Kd.N_reads' HO206.out).2.2 | (with_reducible refine Kd.C_alloc ?_ _) | (with_reducible refine Kd.C_drewN ?_ _) | (with_reducible refine Kd.C_drew ?_))); (case side4 => exact (Kd.N_reads' HO206.out).2.1); rintro e w34 ⟨v208, rfl, ho0, hb⟩; refine ⟨_, rfl, ?_⟩; have n0_ := am (Kd.R_below (by (with_reducible repeat (first | apply Kd.R_alloc | apply Kd.R_drewN | apply Kd.R_drew)); exact HO187.out) hb); have n1_ := am (Kd.N_elder' (by (with_reducible repeat (first | apply Kd.N_alloc | apply Kd.N_drewN | apply Kd.N_drew)); exact HO191.out) (Kd.R_base ho0) hb); have n2_ := am (Kd.R_below (by (with_reducible repeat (first | apply Kd.R_alloc | apply Kd.R_drewN | apply Kd.R_drew)); exact HO196.out) hb); have n3_ := am (Kd.N_elder' (by (with_reducible repeat (first | apply Kd.N_alloc | apply Kd.N_drewN | apply Kd.N_drew)); exact HO206.out) (Kd.R_base ho0) hb); have n4_ := am (Kd.R_lower ho0 (below_size (by repeat (first | (with_reducible first | exact HB.out | apply below_alloc | apply pw_below_drewN | apply below_drew1 | refine below_set ?_ GE193.out | refine below_set ?_ GE197.out) | exact HB.out)))); have n5_ := am (blk_below (g := gb193) (o := .cells #[.slice Ao16 t185.length co16, .int .i64 t188] 24 (0, 0)) (by (with_reducible repeat (first | refine blk_drewN ?_ _ | refine blk_drew ?_ | refine blk_alloc ?_ _)); exact BK193.out) hb); have n6_ := am (blk_below (g := gb197) (o := .cells #[.slice Ao20 y194.length co20, .int .i64 1] 24 (0, 0)) (by (with_reducible repeat (first | refine blk_drewN ?_ _ | refine blk_drew ?_ | refine blk_alloc ?_ _)); exact BK197.out) hb); have n7_ := am (below_step (by repeat (first | (with_reducible first | exact HB.out | apply below_alloc | apply pw_below_drewN | apply below_drew1 | refine below_set ?_ GE193.out | refine below_set ?_ GE197.out) | exact HB.out)) hb); clear HO187; clear HO191; clear HO196; clear HO206; clear BK193; clear BK197; clear HB; have HO187 := n0_; have HO191 := n1_; have HO196 := n2_; have HO206 := n3_; have HO209 := n4_; have BK193 := n5_; have BK197 := n6_; have HB := n7_; clear n0_ n1_ n2_ n3_ n4_ n5_ n6_ n7_; (try clear hb); (try clear hb2); (try clear hk); (try clear hi); (try clear ho0); obtain ⟨Ao35, co35, eo35⟩ := Kd.R_slice HO209.out; subst eo35) | ((with_reducible refine gate_callee (f := 23) rfl ?_); refine goesL_ (some 24) rfl rfl Try.func23 (by kernel_rfl) rfl #[.slice Ao35 t207.length co35] rfl (by (try simp only [List.map_toArray, List.map_cons, List.map_nil]); first | done | rfl | (simp only [List.length_drop, List.length_take]; rfl)) ?_; (with_reducible refine (rec_Decode.calls _ _ t207 t210 t213 t214 t217 _ ?side1 ?side2 A3.out).mono ?_); (case side1 => repeat (first | exact (Kd.R_reads' HO209.out).2.2 | (with_reducible refine Kd.C_alloc ?_ _) | (with_reducible refine Kd.C_drewN ?_ _) | (with_reducible refine Kd.C_drew ?_))); (case side2 => exact (Kd.R_reads' HO209.out).2.1); rintro e w36 ⟨v211, v215, rfl, ho0, ho1, hb⟩; refine ⟨_, rfl, ?_⟩; have n0_ := am (Kd.R_elder' (by (with_reducible repeat (first | apply Kd.R_alloc | apply Kd.R_drewN | apply Kd.R_drew)); exact HO187.out) (Kd.R_base ho0) hb); have n1_ := am (Kd.N_mono (Kd.N_told (Kd.N_told (Kd.N_old (by (with_reducible repeat (first | apply Kd.N_alloc | apply Kd.N_drewN | apply Kd.N_drew)); exact HO191.out) hb) (Kd.R_base ho0)) (by first | exact Kd.N_base ho1 | exact Kd.S_base ho1 | exact Kd.R_base ho1)) (fun _ h_ => h_.1)); have n2_ := am (Kd.R_elder' (by (with_reducible repeat (first | apply Kd.R_alloc | apply Kd.R_drewN | apply Kd.R_drew)); exact HO196.out) (Kd.R_base ho0) hb); have n3_ := am (Kd.N_mono (Kd.N_told (Kd.N_told (Kd.N_old (by (with_reducible repeat (first | apply Kd.N_alloc | apply Kd.N_drewN | apply Kd.N_drew)); exact HO206.out) hb) (Kd.R_base ho0)) (by first | exact Kd.N_base ho1 | exact Kd.S_base ho1 | exact Kd.R_base ho1)) (fun _ h_ => h_.1)); have n4_ := am (Kd.R_below (by (with_reducible repeat (first | apply Kd.R_alloc | apply Kd.R_drewN | apply Kd.R_drew)); exact HO209.out) hb); have n5_ := am (Kd.R_lower (Kd.R_new' (Kd.R_new' ho0 (Kd.R_lt (by (with_reducible repeat (first | apply Kd.R_alloc | apply Kd.R_drewN | apply Kd.R_drew)); exact HO187.out))) (Kd.R_lt (by (with_reducible repeat (first | apply Kd.R_alloc | apply Kd.R_drewN | apply Kd.R_drew)); exact HO196.out))) (below_size (by repeat (first | (with_reducible first | exact HB.out | apply below_alloc | apply pw_below_drewN | apply below_drew1 | refine below_set ?_ GE193.out | refine below_set ?_ GE197.out) | exact HB.out)))); have n6_ := am (Kd.N_lower (Kd.N_mono (ok' := fun k_ => some k_ ≠ (v211 : Value).ownBlock ∧ some k_ ≠ (.slice Ao16 t185.length co16 : Value).ownBlock ∧ some k_ ≠ (v190 : Value).ownBlock ∧ some k_ ≠ (.slice Ao20 y194.length co20 : Value).ownBlock ∧ some k_ ≠ (.slice Ao33 y204.length co33 : Value).ownBlock ∧ some k_ ≠ (.slice Ao35 t207.length co35 : Value).ownBlock ∧ k_ ≠ gb193 ∧ k_ ≠ gb197) (Kd.S_N (Kd.S_bound ho1)) (fun k_ hk_ => ⟨hk_.1, (Kd.fresh' (Kd.R_lt (by (with_reducible repeat (first | apply Kd.R_alloc | apply Kd.R_drewN | apply Kd.R_drew)); exact HO187.out)) k_ hk_.2.1), (Kd.fresh' (Kd.N_lt (by (with_reducible repeat (first | apply Kd.N_alloc | apply Kd.N_drewN | apply Kd.N_drew)); exact HO191.out)) k_ hk_.2.1), (Kd.fresh' (Kd.R_lt (by (with_reducible repeat (first | apply Kd.R_alloc | apply Kd.R_drewN | apply Kd.R_drew)); exact HO196.out)) k_ hk_.2.1), (Kd.fresh' (Kd.N_lt (by (with_reducible repeat (first | apply Kd.N_alloc | apply Kd.N_drewN | apply Kd.N_drew)); exact HO206.out)) k_ hk_.2.1), (Kd.fresh' (Kd.R_lt (by (with_reducible repeat (first | apply Kd.R_alloc | apply Kd.R_drewN | apply Kd.R_drew)); exact HO209.out)) k_ hk_.2.1), (Kd.freshB (g := gb193) (o := .cells #[.slice Ao16 t185.length co16, .int .i64 t188] 24 (0, 0)) (by (with_reducible repeat (first | refine blk_drewN ?_ _ | refine blk_drew ?_ | refine blk_alloc ?_ _)); exact BK193.out) k_ hk_.2.1), (Kd.freshB (g := gb197) (o := .cells #[.slice Ao20 y194.length co20, .int .i64 1] 24 (0, 0)) (by (with_reducible repeat (first | refine blk_drewN ?_ _ | refine blk_drew ?_ | refine blk_alloc ?_ _)); exact BK197.out) k_ hk_.2.1)⟩)) (below_size (by repeat (first | (with_reducible first | exact HB.out | apply below_alloc | apply pw_below_drewN | apply below_drew1 | refine below_set ?_ GE193.out | refine below_set ?_ GE197.out) | exact HB.out)))); have n7_ := am (blk_below (g := gb193) (o := .cells #[.slice Ao16 t185.length co16, .int .i64 t188] 24 (0, 0)) (by (with_reducible repeat (first | refine blk_drewN ?_ _ | refine blk_drew ?_ | refine blk_alloc ?_ _)); exact BK193.out) hb); have n8_ := am (blk_below (g := gb197) (o := .cells #[.slice Ao20 y194.length co20, .int .i64 1] 24 (0, 0)) (by (with_reducible repeat (first | refine blk_drewN ?_ _ | refine blk_drew ?_ | refine blk_alloc ?_ _)); exact BK197.out) hb); have n9_ := am (below_step (by repeat (first | (with_reducible first | exact HB.out | apply below_alloc | apply pw_below_drewN | apply below_drew1 | refine below_set ?_ GE193.out | refine below_set ?_ GE197.out) | exact HB.out)) hb); clear HO187; clear HO191; clear HO196; clear HO206; clear HO209; clear BK193; clear BK197; clear HB; have HO187 := n0_; have HO191 := n1_; have HO196 := n2_; have HO206 := n3_; have HO209 := n4_; have HO212 := n5_; have HO216 := n6_; have BK193 := n7_; have BK197 := n8_; have HB := n9_; clear n0_ n1_ n2_ n3_ n4_ n5_ n6_ n7_ n8_ n9_; (try clear hb); (try clear hb2); (try clear hk); (try clear hi); (try clear ho0); (try clear ho1)) | ((with_reducible refine gate_dst (N := 6) rfl ?_); refine box_event ?hg (N := 6) ?hd (cs := #[.slice none 0 0, .int .i64 0]) (t := 24) ?hr ?_; (case hd => rfl); (case hg => rfl); (case hr => first | (go_simp; done) | (go_simp; rfl)); intro gb218 hg w37 hbox hb; have n0_ := am (Kd.R_below (by (with_reducible repeat (first | apply Kd.R_alloc | apply Kd.R_drewN | apply Kd.R_drew)); exact HO187.out) hb); have n1_ := am (Kd.N_below (Kd.N_elderB (by (with_reducible repeat (first | apply Kd.N_alloc | apply Kd.N_drewN | apply Kd.N_drew)); exact HO191.out) gb218 (Nat.le_of_eq hg.symm)) hb); have n2_ := am (Kd.R_below (by (with_reducible repeat (first | apply Kd.R_alloc | apply Kd.R_drewN | apply Kd.R_drew)); exact HO196.out) hb); have n3_ := am (Kd.N_below (Kd.N_elderB (by (with_reducible repeat (first | apply Kd.N_alloc | apply Kd.N_drewN | apply Kd.N_drew)); exact HO206.out) gb218 (Nat.le_of_eq hg.symm)) hb); have n4_ := am (Kd.R_below (by (with_reducible repeat (first | apply Kd.R_alloc | apply Kd.R_drewN | apply Kd.R_drew)); exact HO209.out) hb); have n5_ := am (Kd.R_below (by (with_reducible repeat (first | apply Kd.R_alloc | apply Kd.R_drewN | apply Kd.R_drew)); exact HO212.out) hb); have n6_ := am (Kd.N_below (Kd.N_elderB (by (with_reducible repeat (first | apply Kd.N_alloc | apply Kd.N_drewN | apply Kd.N_drew)); exact HO216.out) gb218 (Nat.le_of_eq hg.symm)) hb); have n7_ := am (blk_below (g := gb193) (o := .cells #[.slice Ao16 t185.length co16, .int .i64 t188] 24 (0, 0)) (by (with_reducible repeat (first | refine blk_drewN ?_ _ | refine blk_drew ?_ | refine blk_alloc ?_ _)); exact BK193.out) hb); have n8_ := am (blk_below (g := gb197) (o := .cells #[.slice Ao20 y194.length co20, .int .i64 1] 24 (0, 0)) (by (with_reducible repeat (first | refine blk_drewN ?_ _ | refine blk_drew ?_ | refine blk_alloc ?_ _)); exact BK197.out) hb); have n9_ := am (below_step (by repeat (first | (with_reducible first | exact HB.out | apply below_alloc | apply pw_below_drewN | apply below_drew1 | refine below_set ?_ GE193.out | refine below_set ?_ GE197.out) | exact HB.out)) hb); have n10_ := am (hbox); have n11_ := am ((by rw [hg]; exact (below_size (by repeat (first | (with_reducible first | exact HB.out | apply below_alloc | apply pw_below_drewN | apply below_drew1 | refine below_set ?_ GE193.out | refine below_set ?_ GE197.out) | exact HB.out))) : w.heap.size ≤ gb218)); have n12_ := am ((by rw [hg]; exact (below_size (by repeat (first | (with_reducible first | exact HB.out | apply below_alloc | apply pw_below_drewN | apply below_drew1 | refine below_set ?_ GE193.out | refine below_set ?_ GE197.out) | exact HB.out))) : w.heap.size ≤ gb218)); have n13_ := am ((by rw [hg]; exact Nat.ne_of_lt (blk_lt (g := gb193) (o := .cells #[.slice Ao16 t185.length co16, .int .i64 t188] 24 (0, 0)) (by (with_reducible repeat (first | refine blk_drewN ?_ _ | refine blk_drew ?_ | refine blk_alloc ?_ _)); exact BK193.out)) : gb193 ≠ gb218)); have n14_ := am ((by rw [hg]; exact Nat.ne_of_gt (blk_lt (g := gb193) (o := .cells #[.slice Ao16 t185.length co16, .int .i64 t188] 24 (0, 0)) (by (with_reducible repeat (first | refine blk_drewN ?_ _ | refine blk_drew ?_ | refine blk_alloc ?_ _)); exact BK193.out)) : gb218 ≠ gb193)); have n15_ := am ((by rw [hg]; exact Nat.ne_of_lt (blk_lt (g := gb197) (o := .cells #[.slice Ao20 y194.length co20, .int .i64 1] 24 (0, 0)) (by (with_reducible repeat (first | refine blk_drewN ?_ _ | refine blk_drew ?_ | refine blk_alloc ?_ _)); exact BK197.out)) : gb197 ≠ gb218)); have n16_ := am ((by rw [hg]; exact Nat.ne_of_gt (blk_lt (g := gb197) (o := .cells #[.slice Ao20 y194.length co20, .int .i64 1] 24 (0, 0)) (by (with_reducible repeat (first | refine blk_drewN ?_ _ | refine blk_drew ?_ | refine blk_alloc ?_ _)); exact BK197.out)) : gb218 ≠ gb197)); clear HO187; clear HO191; clear HO196; clear HO206; clear HO209; clear HO212; clear HO216; clear BK193; clear BK197; clear HB; have HO187 := n0_; have HO191 := n1_; have HO196 := n2_; have HO206 := n3_; have HO209 := n4_; have HO212 := n5_; have HO216 := n6_; have BK193 := n7_; have BK197 := n8_; have HB := n9_; have BK218 := n10_; have GW218 := n11_; have GE218 := n12_; have NB193_218 := n13_; have NB218_193 := n14_; have NB197_218 := n15_; have NB218_197 := n16_; clear n0_ n1_ n2_ n3_ n4_ n5_ n6_ n7_ n8_ n9_ n10_ n11_ n12_ n13_ n14_ n15_ n16_; clear hb hbox hg; obtain ⟨Ao38, co38, eo38⟩ := Kd.R_slice HO212.out; subst eo38; have hnb39 := NB218_193.out; have hnc39 := NB193_218.out; have hnb40 := NB218_197.out; have hnc40 := NB197_218.out; have hcz41_0 : w37.cell? ⟨gb218, 0, none⟩ = some (.slice none 0 0) := (blk_cell BK218.out 0).trans rfl; have hcz41_1 : w37.cell? ⟨gb218, 1, none⟩ = some (.int .i64 0) := (blk_cell BK218.out 1).trans rfl; have hfz41_0 := blk_frozen BK218.out 0; have hfz41_1 := blk_frozen BK218.out 1))
       have n0_ : Aside0 (Kd.R (Kd.int .i64) 3 ((w37.setCell ⟨gb218, 0, none⟩ (.slice Ao38 t210.length co38)).setCell ⟨gb218, 1, none⟩ (.int .i64 t213)) w.heap.size (fun k_ => some k_ ≠ (.slice Ao20 y194.length co20 : Value).ownBlock ∧ some k_ ≠ (.slice Ao38 t210.length co38 : Value).ownBlock) (.slice Ao16 t185.length co16) t185) := ⟨by (with_reducible repeat (first | apply Kd.R_alloc | apply Kd.R_drewN | apply Kd.R_drew)); exact Kd.R_mono (Kd.R_far (p := ⟨gb218, 1, none⟩) (Kd.R_far (p := ⟨gb218, 0, none⟩) (Kd.R_types HO187.out BK218.out (by decide)) (fun _ hk => hk.2) (.slice Ao38 t210.length co38)) (fun _ hk => hk.2) (.int .i64 t213)) (fun _ hk => ⟨hk.1.1.1.1.2, hk.1.2⟩)⟩
       have n1_ : Aside0 (Kd.N k33 33 ((w37.setCell ⟨gb218, 0, none⟩ (.slice Ao38 t210.length co38)).setCell ⟨gb218, 1, none⟩ (.int .i64 t213)) w.heap.size (fun k_ => some k_ ≠ (.slice Ao16 t185.length co16 : Value).ownBlock ∧ some k_ ≠ (.slice Ao20 y194.length co20 : Value).ownBlock ∧ some k_ ≠ (.slice Ao33 y204.length co33 : Value).ownBlock ∧ some k_ ≠ (.slice Ao35 t207.length co35 : Value).ownBlock ∧ some k_ ≠ (.slice Ao38 t210.length co38 : Value).ownBlock ∧ some k_ ≠ (v215 : Value).ownBlock ∧ k_ ≠ gb193 ∧ k_ ≠ gb197 ∧ k_ ≠ gb218) v190 t189) := ⟨by (with_reducible repeat (first | apply Kd.N_alloc | apply Kd.N_drewN | apply Kd.N_drew)); exact Kd.N_mono (Kd.N_far (p := ⟨gb218, 1, none⟩) (Kd.N_far (p := ⟨gb218, 0, none⟩) (Kd.N_mono HO191.out (fun k_ hk => (⟨hk, hk.2⟩ : _ ∧ k_ ≠ gb218))) (fun _ hk => hk.2) (.slice Ao38 t210.length co38)) (fun _ hk => hk.2) (.int .i64 t213)) (fun _ hk => ⟨hk.1.1.1.1.1.1.1.1.1.1.1, ⟨hk.1.1.1.1.1.1.1.1.1.2, ⟨hk.1.1.1.1.1.2, ⟨hk.1.1.1.1.2, ⟨hk.1.1.1.2, ⟨hk.1.1.2, ⟨hk.1.1.1.1.1.1.1.1.1.1.2, ⟨hk.1.1.1.1.1.1.1.1.2, hk.1.2⟩⟩⟩⟩⟩⟩⟩⟩)⟩
       have n2_ : Aside0 (Kd.R (Kd.int .i64) 3 ((w37.setCell ⟨gb218, 0, none⟩ (.slice Ao38 t210.length co38)).setCell ⟨gb218, 1, none⟩ (.int .i64 t213)) w.heap.size (fun k_ => some k_ ≠ (.slice Ao16 t185.length co16 : Value).ownBlock ∧ some k_ ≠ (.slice Ao38 t210.length co38 : Value).ownBlock) (.slice Ao20 y194.length co20) y194) := ⟨by (with_reducible repeat (first | apply Kd.R_alloc | apply Kd.R_drewN | apply Kd.R_drew)); exact Kd.R_mono (Kd.R_far (p := ⟨gb218, 1, none⟩) (Kd.R_far (p := ⟨gb218, 0, none⟩) (Kd.R_types HO196.out BK218.out (by decide)) (fun _ hk => hk.2) (.slice Ao38 t210.length co38)) (fun _ hk => hk.2) (.int .i64 t213)) (fun _ hk => ⟨hk.1.1.1.1.2, hk.1.2⟩)⟩
       have n3_ : Aside0 (Kd.N k33 33 ((w37.setCell ⟨gb218, 0, none⟩ (.slice Ao38 t210.length co38)).setCell ⟨gb218, 1, none⟩ (.int .i64 t213)) w.heap.size (fun k_ => some k_ ≠ (.slice Ao16 t185.length co16 : Value).ownBlock ∧ some k_ ≠ (v190 : Value).ownBlock ∧ some k_ ≠ (.slice Ao20 y194.length co20 : Value).ownBlock ∧ some k_ ≠ (.slice Ao35 t207.length co35 : Value).ownBlock ∧ some k_ ≠ (.slice Ao38 t210.length co38 : Value).ownBlock ∧ some k_ ≠ (v215 : Value).ownBlock ∧ k_ ≠ gb193 ∧ k_ ≠ gb197 ∧ k_ ≠ gb218) (.slice Ao33 y204.length co33) y204) := ⟨by (with_reducible repeat (first | apply Kd.N_alloc | apply Kd.N_drewN | apply Kd.N_drew)); exact Kd.N_mono (Kd.N_far (p := ⟨gb218, 1, none⟩) (Kd.N_far (p := ⟨gb218, 0, none⟩) (Kd.N_mono HO206.out (fun k_ hk => (⟨hk, hk.2⟩ : _ ∧ k_ ≠ gb218))) (fun _ hk => hk.2) (.slice Ao38 t210.length co38)) (fun _ hk => hk.2) (.int .i64 t213)) (fun _ hk => ⟨hk.1.1.1.1.1.1, ⟨hk.1.1.1.1.1.2.1, ⟨hk.1.1.1.1.1.2.2.1, ⟨hk.1.1.1.1.2, ⟨hk.1.1.1.2, ⟨hk.1.1.2, ⟨hk.1.1.1.1.1.2.2.2.1, ⟨hk.1.1.1.1.1.2.2.2.2, hk.1.2⟩⟩⟩⟩⟩⟩⟩⟩)⟩
       have n4_ : Aside0 (Kd.R (Kd.int .u8) 5 ((w37.setCell ⟨gb218, 0, none⟩ (.slice Ao38 t210.length co38)).setCell ⟨gb218, 1, none⟩ (.int .i64 t213)) w.heap.size (fun _ => True) (.slice Ao35 t207.length co35) t207) := ⟨by (with_reducible repeat (first | apply Kd.R_alloc | apply Kd.R_drewN | apply Kd.R_drew)); exact Kd.R_mono (Kd.R_far (p := ⟨gb218, 1, none⟩) (Kd.R_far (p := ⟨gb218, 0, none⟩) (Kd.R_types HO209.out BK218.out (by decide)) (fun _ hk => hk.2) (.slice Ao38 t210.length co38)) (fun _ hk => hk.2) (.int .i64 t213)) (fun _ hk => trivial)⟩
       have n5_ : Aside0 (Kd.R (Kd.int .i64) 3 ((w37.setCell ⟨gb218, 0, none⟩ (.slice Ao38 t210.length co38)).setCell ⟨gb218, 1, none⟩ (.int .i64 t213)) w.heap.size (fun k_ => some k_ ≠ (.slice Ao16 t185.length co16 : Value).ownBlock ∧ some k_ ≠ (.slice Ao20 y194.length co20 : Value).ownBlock) (.slice Ao38 t210.length co38) t210) := ⟨by (with_reducible repeat (first | apply Kd.R_alloc | apply Kd.R_drewN | apply Kd.R_drew)); exact Kd.R_mono (Kd.R_far (p := ⟨gb218, 1, none⟩) (Kd.R_far (p := ⟨gb218, 0, none⟩) (Kd.R_types HO212.out BK218.out (by decide)) (fun _ hk => hk.2) (.slice Ao38 t210.length co38)) (fun _ hk => hk.2) (.int .i64 t213)) (fun _ hk => ⟨hk.1.1.2, hk.1.2⟩)⟩
       have n6_ : Aside0 (Kd.N k33 33 ((w37.setCell ⟨gb218, 0, none⟩ (.slice Ao38 t210.length co38)).setCell ⟨gb218, 1, none⟩ (.int .i64 t213)) w.heap.size (fun k_ => some k_ ≠ (.slice Ao16 t185.length co16 : Value).ownBlock ∧ some k_ ≠ (v190 : Value).ownBlock ∧ some k_ ≠ (.slice Ao20 y194.length co20 : Value).ownBlock ∧ some k_ ≠ (.slice Ao33 y204.length co33 : Value).ownBlock ∧ some k_ ≠ (.slice Ao35 t207.length co35 : Value).ownBlock ∧ some k_ ≠ (.slice Ao38 t210.length co38 : Value).ownBlock ∧ k_ ≠ gb193 ∧ k_ ≠ gb197 ∧ k_ ≠ gb218) v215 t214) := ⟨by (with_reducible repeat (first | apply Kd.N_alloc | apply Kd.N_drewN | apply Kd.N_drew)); exact Kd.N_mono (Kd.N_far (p := ⟨gb218, 1, none⟩) (Kd.N_far (p := ⟨gb218, 0, none⟩) (Kd.N_mono HO216.out (fun k_ hk => (⟨hk, hk.2⟩ : _ ∧ k_ ≠ gb218))) (fun _ hk => hk.2) (.slice Ao38 t210.length co38)) (fun _ hk => hk.2) (.int .i64 t213)) (fun _ hk => ⟨hk.1.1.2.1, ⟨hk.1.1.2.2.1, ⟨hk.1.1.2.2.2.1, ⟨hk.1.1.2.2.2.2.1, ⟨hk.1.1.2.2.2.2.2.1, ⟨hk.1.1.1, ⟨hk.1.1.2.2.2.2.2.2.1, ⟨hk.1.1.2.2.2.2.2.2.2, hk.1.2⟩⟩⟩⟩⟩⟩⟩⟩)⟩
       have n7_ : Aside0 (((w37.setCell ⟨gb218, 0, none⟩ (.slice Ao38 t210.length co38)).setCell ⟨gb218, 1, none⟩ (.int .i64 t213)).heap[gb193]? = some (.cells #[.slice Ao16 t185.length co16, .int .i64 t188] 24 (0, 0))) := ⟨by (with_reducible repeat (first | refine blk_drewN ?_ _ | refine blk_drew ?_ | refine blk_alloc ?_ _)); refine blk_far ?_ NB193_218.out _; (with_reducible repeat (first | refine blk_drewN ?_ _ | refine blk_drew ?_ | refine blk_alloc ?_ _)); refine blk_far ?_ NB193_218.out _; (with_reducible repeat (first | refine blk_drewN ?_ _ | refine blk_drew ?_ | refine blk_alloc ?_ _)); exact BK193.out⟩
       have n8_ : Aside0 (((w37.setCell ⟨gb218, 0, none⟩ (.slice Ao38 t210.length co38)).setCell ⟨gb218, 1, none⟩ (.int .i64 t213)).heap[gb197]? = some (.cells #[.slice Ao20 y194.length co20, .int .i64 1] 24 (0, 0))) := ⟨by (with_reducible repeat (first | refine blk_drewN ?_ _ | refine blk_drew ?_ | refine blk_alloc ?_ _)); refine blk_far ?_ NB197_218.out _; (with_reducible repeat (first | refine blk_drewN ?_ _ | refine blk_drew ?_ | refine blk_alloc ?_ _)); refine blk_far ?_ NB197_218.out _; (with_reducible repeat (first | refine blk_drewN ?_ _ | refine blk_drew ?_ | refine blk_alloc ?_ _)); exact BK197.out⟩
       have n9_ : Aside0 (((w37.setCell ⟨gb218, 0, none⟩ (.slice Ao38 t210.length co38)).setCell ⟨gb218, 1, none⟩ (.int .i64 t213)).heap[gb218]? = some (.cells #[.slice Ao38 t210.length co38, .int .i64 t213] 24 (0, 0))) := ⟨by (with_reducible repeat (first | refine blk_drewN ?_ _ | refine blk_drew ?_ | refine blk_alloc ?_ _)); refine blk_put (cs := #[.slice Ao38 t210.length co38, .int .i64 0]) ?_ 1 _ rfl; (with_reducible repeat (first | refine blk_drewN ?_ _ | refine blk_drew ?_ | refine blk_alloc ?_ _)); refine blk_put (cs := #[.slice none 0 0, .int .i64 0]) ?_ 0 _ rfl; (with_reducible repeat (first | refine blk_drewN ?_ _ | refine blk_drew ?_ | refine blk_alloc ?_ _)); exact BK218.out⟩
       have n10_ : Aside0 (Below w.heap.size w ((w37.setCell ⟨gb218, 0, none⟩ (.slice Ao38 t210.length co38)).setCell ⟨gb218, 1, none⟩ (.int .i64 t213))) := ⟨by repeat (first | (with_reducible first | exact HB.out | apply below_alloc | apply pw_below_drewN | apply below_drew1 | refine below_set ?_ GE193.out | refine below_set ?_ GE197.out | refine below_set ?_ GE218.out) | exact HB.out)⟩
       (try clear HO187)
       (try clear HO191)
       (try clear HO196)
       (try clear HO206)
       (try clear HO209)
       (try clear HO212)
       (try clear HO216)
       (try clear BK193)
       (try clear BK197)
       (try clear BK218)
       (try clear HB)
       generalize ((w37.setCell ⟨gb218, 0, none⟩ (.slice Ao38 t210.length co38)).setCell ⟨gb218, 1, none⟩ (.int .i64 t213)) = w42 at n0_ n1_ n2_ n3_ n4_ n5_ n6_ n7_ n8_ n9_ n10_ ⊢
       have HO187 := n0_
       have HO191 := n1_
       have HO196 := n2_
       have HO206 := n3_
       have HO209 := n4_
       have HO212 := n5_
       have HO216 := n6_
       have BK193 := n7_
       have BK197 := n8_
       have BK218 := n9_
       have HB := n10_
       clear n0_ n1_ n2_ n3_ n4_ n5_ n6_ n7_ n8_ n9_ n10_
       have n0_ := am (Kd.R_drew HO187.out)
       have n1_ := am (Kd.N_drew HO191.out)
       have n2_ := am (Kd.R_drew HO196.out)
       have n3_ := am (Kd.N_drew HO206.out)
       have n4_ := am (Kd.R_drew HO209.out)
       have n5_ := am (Kd.R_drew HO212.out)
       have n6_ := am (Kd.N_drew HO216.out)
       have n7_ := am (blk_drew BK193.out)
       have n8_ := am (blk_drew BK197.out)
       have n9_ := am (blk_drew BK218.out)
       have n10_ := am (below_drew1 HB.out)
       clear HO187
       clear HO191
       clear HO196
       clear HO206
       clear HO209
       clear HO212
       clear HO216
       clear BK193
       clear BK197
       clear BK218
       clear HB
       have HO187 := n0_
       have HO191 := n1_
       have HO196 := n2_
       have HO206 := n3_
       have HO209 := n4_
       have HO212 := n5_
       have HO216 := n6_
       have BK193 := n7_
       have BK197 := n8_
       have BK218 := n9_
       have HB := n10_
       clear n0_ n1_ n2_ n3_ n4_ n5_ n6_ n7_ n8_ n9_ n10_
       obtain ⟨Ao44, co44, eo44⟩ := Kd.N_slice HO216.out
       (first | subst eo44 | (injection eo44 with f1_ f2_ f3_; have f4_ := f1_.symm; have f5_ := f3_.symm; clear f1_ f2_ f3_; subst f4_; subst f5_))
       have p221 : 0 ≤ (0 : Int) := (by omega)
       have q221 : 0 < (y204.length : Int) := of_decide_eq_true (by first | (with_reducible assumption) | assumption)
       obtain ⟨ad221, A221_0, c221_0, A221_1, c221_1, e221, hx221_0, hx221_1, hl221_0, hi221_0, hl221_1, hi221_1⟩ := at_T33 (Kd.N_reads' HO206.out).2.2 0 p221 q221
       cases e221
       obtain ⟨ce221, hce221, hMe221, hcc221⟩ := Kd.N_get HO206.out z33 0 p221 (by first | exact q221 | exact of_decide_eq_true (by first | (with_reducible assumption) | assumption) | (have e_ := (Kd.N_reads' HO206.out).1; omega))
       obtain ⟨ua221_0, uc221_0, ua221_1, uc221_1, rfl, ul221_0, ge221_0, ul221_1, ge221_1⟩ := k33_openF hMe221
       have hv221_0 := hcc221 0 _ rfl
       rw [Nat.add_zero] at hv221_0
       replace hv221_0 := Option.some.inj (hv221_0.symm.trans hx221_0)
       injection hv221_0 with hva_ hvn_ hvc_
       rw [hva_] at ge221_0
       rw [hvc_] at ul221_0
       have HL221_0 := am (show Kd.V (Kd.int .i64) 3 _ w.heap.size _ _ ((rd_T33 y204 0).f0) from Kd.V_mk ul221_0 ge221_0)
       clear hva_ hvn_ hvc_ ge221_0 ul221_0
       have hv221_1 := hcc221 1 _ rfl
       rw [add_field _ _ 1 (by omega)] at hv221_1
       replace hv221_1 := Option.some.inj (hv221_1.symm.trans hx221_1)
       injection hv221_1 with hva_ hvn_ hvc_
       rw [hva_] at ge221_1
       rw [hvc_] at ul221_1
       have HL221_1 := am (show Kd.V (Kd.int .i64) 3 _ w.heap.size _ _ ((rd_T33 y204 0).f1) from Kd.V_mk ul221_1 ge221_1)
       clear hva_ hvn_ hvc_ ge221_1 ul221_1
       clear hcc221 hce221
       have qi221 : (0 < y204.length) = True := eq_true (by omega)
       (try rw [show ((0 : Int)).toNat = 0 from rfl] at hx221_0)
       (try rw [show 0 * 2 = 0 from rfl] at hx221_0)
       (try rw [Addr.add_zero'] at hx221_0)
       (try rw [show ((0 : Int)).toNat = 0 from rfl] at hx221_1)
       (try rw [show 0 * 2 = 0 from rfl] at hx221_1)
       (try rw [Addr.add_zero'] at hx221_1)
       have HR221_0 := am hi221_0
       have HC221_0 := am hl221_0
       clear hi221_0 hl221_0
       have HR221_1 := am hi221_1
       have HC221_1 := am hl221_1
       clear hi221_1 hl221_1
       replace p221 := eq_true p221
       replace q221 := eq_true q221
       refine start_ (n := 30) (S := fun w' => w'.cell? ⟨gb197, 0, none⟩ = some (.slice Ao20 y194.length co20) ∧ w'.cell? ⟨gb197, 1, none⟩ = some (.int .i64 1) ∧ w'.cell? ⟨gb218, 0, none⟩ = some (.slice Ao38 t210.length co38) ∧ w'.cell? ⟨gb218, 1, none⟩ = some (.int .i64 t213) ∧ w'.cell? ad221 = some (.slice A221_0 ((rd_T33 y204 0).f0).length c221_0) ∧ w'.cell? ⟨ad221.block, ad221.off + 1, none⟩ = some (.slice A221_1 ((rd_T33 y204 0).f1).length c221_1)) (ds := []) (bb 30 0) (by kernel_rfl) rfl rfl ⟨(blk_cell BK197.out 0).trans rfl, (blk_cell BK197.out 1).trans rfl, (blk_cell BK218.out 0).trans rfl, (blk_cell BK218.out 1).trans rfl, hx221_0, hx221_1⟩ (fun hHeld => ?_); refine with_tabW hypercubelaw1_known.tab5 hypercubelaw1_known.bits5 (fun HT_ HW_ => ?_)
       generalize w42.drew = w43 at HO187 HO191 HO196 HO206 HO209 HO212 HO216 BK193 BK197 BK218 HB HL221_0 HL221_1 HR221_0 HR221_1 hx221_0 hx221_1 hHeld ⊢
       refine pure_ (i := 0) (N := some 28) (v := ?_) (a' := ?_) (bb 30 1) rfl rfl (any_of HT_.out (by kernel_rfl)) (fun _ _ _ h => h) (Or.inl ⟨by rfl, ?_⟩) ?_ ?_
       rotate_left
       ·intro w'
        go_simp
        with_reducible rfl
       rotate_left
       ·simp only [Act.put, List.setIfInBounds_toArray, List.set_cons_zero, List.set_cons_succ, i64_w, i32_w]
        rfl
       refine pure_ (i := 1) (N := some 29) (v := ?_) (a' := ?_) (bb 30 3) rfl rfl (any_of HT_.out (by kernel_rfl)) (fun _ _ _ h => h) (Or.inl ⟨by rfl, ?_⟩) ?_ ?_
       rotate_left
       ·intro w'
        go_simp
        with_reducible rfl
       rotate_left
       ·simp only [Act.put, List.setIfInBounds_toArray, List.set_cons_zero, List.set_cons_succ, i64_w, i32_w]
        rfl
       refine pure_ (i := 2) (N := some 30) (v := ?_) (a' := ?_) (bb 30 7) rfl rfl (any_of HT_.out (by kernel_rfl)) (fun _ _ _ h => h) (Or.inl ⟨by rfl, ?_⟩) ?_ ?_
       rotate_left
       ·intro w'
        go_simp
        with_reducible rfl
       rotate_left
       ·simp only [Act.put, List.setIfInBounds_toArray, List.set_cons_zero, List.set_cons_succ, i64_w, i32_w]
        rfl
       refine pure_ (i := 3) (N := some 31) (v := ?_) (a' := ?_) (bb 30 15) rfl rfl (any_of HT_.out (by kernel_rfl)) (fun _ _ _ h => h) (Or.inl ⟨by rfl, ?_⟩) ?_ ?_
       rotate_left
       ·intro w'
        go_simp
        with_reducible rfl
       rotate_left
       ·simp only [Act.put, List.setIfInBounds_toArray, List.set_cons_zero, List.set_cons_succ, i64_w, i32_w]
        rfl
       refine pure_ (i := 4) (N := some 32) (v := ?_) (a' := ?_) (bb 30 31) rfl rfl (any_of HT_.out (by kernel_rfl)) (fun _ _ _ h => h) (Or.inl ⟨by rfl, ?_⟩) ?_ ?_
       rotate_left
       ·intro w'
        go_simp
        with_reducible rfl
       rotate_left
       ·simp only [Act.put, List.setIfInBounds_toArray, List.set_cons_zero, List.set_cons_succ, i64_w, i32_w]
        rfl
       refine pure_ (i := 5) (N := some 33) (v := ?_) (a' := ?_) (bb 30 63) rfl rfl (any_of HT_.out (by kernel_rfl)) (fun _ _ _ h => h) (Or.inl ⟨by rfl, ?_⟩) ?_ ?_
       rotate_left
       ·intro w'
        go_simp
        with_reducible rfl
       rotate_left
       ·simp only [Act.put, List.setIfInBounds_toArray, List.set_cons_zero, List.set_cons_succ, i64_w, i32_w]
        rfl
       refine pure_ (i := 6) (N := some 34) (v := ?_) (a' := ?_) (bb 30 127) rfl rfl (any_of HT_.out (by kernel_rfl)) (fun _ _ _ h => h) (Or.inl ⟨by rfl, ?_⟩) ?_ ?_
       rotate_left
       ·intro w'
        go_simp
        with_reducible rfl
       rotate_left
       ·simp only [Act.put, List.setIfInBounds_toArray, List.set_cons_zero, List.set_cons_succ, i64_w, i32_w]
        rfl
       refine pure_ (i := 8) (N := some 36) (v := ?_) (a' := ?_) (bb 30 383) rfl rfl (any_of HT_.out (by kernel_rfl)) (fun _ _ _ h => h) (Or.inl ⟨by rfl, ?_⟩) ?_ ?_
       rotate_left
       ·intro w'
        go_simp
        with_reducible rfl
       rotate_left
       ·simp only [Act.put, List.setIfInBounds_toArray, List.set_cons_zero, List.set_cons_succ, i64_w, i32_w]
        rfl
       refine pure_ (i := 10) (N := some 38) (v := ?_) (a' := ?_) (bb 30 1407) rfl rfl (any_of HT_.out (by kernel_rfl)) (fun _ _ _ h => h) (Or.inl ⟨by rfl, ?_⟩) ?_ ?_
       rotate_left
       ·intro w'
        go_simp
        with_reducible rfl
       rotate_left
       ·simp only [Act.put, List.setIfInBounds_toArray, List.set_cons_zero, List.set_cons_succ, i64_w, i32_w]
        rfl
       refine take_ (i := 7) (N := some 35) (v := ?_) (a' := ?_) (bb 30 1535) rfl rfl (take_ofW HT_.out HW_.out (by kernel_rfl)) (fun _ _ _ h => h) (Or.inl ⟨by rfl, ?_⟩) hHeld ?_ ?_
       rotate_left
       ·rintro w' ⟨s0, s1, s2, s3, s4, s5⟩
        go_simp
        with_reducible rfl
       rotate_left
       ·simp only [Act.put, List.setIfInBounds_toArray, List.set_cons_zero, List.set_cons_succ, i64_w, i32_w]
        rfl
       refine take_ (i := 9) (N := some 37) (v := ?_) (a' := ?_) (bb 30 2047) rfl rfl (take_ofW HT_.out HW_.out (by kernel_rfl)) (fun _ _ _ h => h) (Or.inl ⟨by rfl, ?_⟩) hHeld ?_ ?_
       rotate_left
       ·rintro w' ⟨s0, s1, s2, s3, s4, s5⟩
        go_simp
        with_reducible rfl
       rotate_left
       ·simp only [Act.put, List.setIfInBounds_toArray, List.set_cons_zero, List.set_cons_succ, i64_w, i32_w]
        rfl
       refine one_ (i := 11) (N := some 39) (bb 30 4095) rfl rfl (one_of HT_.out (by kernel_rfl)) (by decide) (fun K hK => ?_)
       refine goes_ Try.func25 (by kernel_rfl) rfl #[.agg #[.slice Ao20 y194.length co20, .int .i64 1], .slice (some ad221) y204.length co33, .agg #[.slice Ao38 t210.length co38, .int .i64 t213], .slice Ao44 t214.length co44] (by rfl) rfl rfl (by (try simp only [List.map_toArray, List.map_cons, List.map_nil]); first | done | rfl | (simp only [List.length_drop, List.length_take]; rfl)) ?_
       with_reducible refine (hypercuberef1_Same.calls k _ _ y194 1 _ _ y204 _ _ t210 t213 _ _ t214 true _ ?side1 ?side2 ?side3 ?side4 ?side5 ?side6 ?side7 ?side8 A6.out).mono ?_
       (case side1 => repeat (first | exact (Kd.R_reads' HO196.out).2.2 | (with_reducible refine Kd.C_alloc ?_ _) | (with_reducible refine Kd.C_drewN ?_ _) | (with_reducible refine Kd.C_drew ?_)))
       (case side2 => exact (Kd.R_reads' HO196.out).2.1)
       (case side3 => repeat (first | exact (Kd.N_reads' HO206.out).2.2 | (with_reducible refine Kd.C_alloc ?_ _) | (with_reducible refine Kd.C_drewN ?_ _) | (with_reducible refine Kd.C_drew ?_)))
       (case side4 => exact (Kd.N_reads' HO206.out).2.1)
       (case side5 => repeat (first | exact (Kd.R_reads' HO212.out).2.2 | (with_reducible refine Kd.C_alloc ?_ _) | (with_reducible refine Kd.C_drewN ?_ _) | (with_reducible refine Kd.C_drew ?_)))
       (case side6 => exact (Kd.R_reads' HO212.out).2.1)
       (case side7 => repeat (first | exact (Kd.N_reads' HO216.out).2.2 | (with_reducible refine Kd.C_alloc ?_ _) | (with_reducible refine Kd.C_drewN ?_ _) | (with_reducible refine Kd.C_drew ?_)))
       (case side8 => exact (Kd.N_reads' HO216.out).2.1)
       rintro e w45 ⟨rfl, hb⟩
       have mv0_ := am (Kd.V_below (by (with_reducible repeat (first | apply Kd.V_alloc | apply Kd.V_drewN | apply Kd.V_drew)); exact HL221_0.out) hb)
       have mv1_ := am (Kd.V_below (by (with_reducible repeat (first | apply Kd.V_alloc | apply Kd.V_drewN | apply Kd.V_drew)); exact HL221_1.out) hb)
       have mv2_ := am (Kd.C_below (by repeat (first | (with_reducible exact HR221_0.out) | (with_reducible refine Kd.C_alloc ?_ _) | (with_reducible refine Kd.C_drewN ?_ _) | (with_reducible refine Kd.C_drew ?_) | exact HR221_0.out)) hb)
       have mv3_ := am (Kd.C_below (by repeat (first | (with_reducible exact HR221_1.out) | (with_reducible refine Kd.C_alloc ?_ _) | (with_reducible refine Kd.C_drewN ?_ _) | (with_reducible refine Kd.C_drew ?_) | exact HR221_1.out)) hb)
       clear HL221_0 HL221_1 HR221_0 HR221_1
       have HL221_0 := mv0_
       have HL221_1 := mv1_
       have HR221_0 := mv2_
       have HR221_1 := mv3_
       clear mv0_ mv1_ mv2_ mv3_
       have HS4_ := (hb.cell (World.block_lt_of_cell? _ _ (hHeld.2.2.2.2.1))).trans (hHeld.2.2.2.2.1)
       have HS5_ := (hb.cell (World.block_lt_of_cell? _ _ (hHeld.2.2.2.2.2))).trans (hHeld.2.2.2.2.2)
       refine ⟨_, rfl, ?_⟩
       have n0_ := am (Kd.R_below (by (with_reducible repeat (first | apply Kd.R_alloc | apply Kd.R_drewN | apply Kd.R_drew)); exact HO187.out) hb)
       have n1_ := am (Kd.N_below (by (with_reducible repeat (first | apply Kd.N_alloc | apply Kd.N_drewN | apply Kd.N_drew)); exact HO191.out) hb)
       have n2_ := am (Kd.R_below (by (with_reducible repeat (first | apply Kd.R_alloc | apply Kd.R_drewN | apply Kd.R_drew)); exact HO196.out) hb)
       have n3_ := am (Kd.N_below (by (with_reducible repeat (first | apply Kd.N_alloc | apply Kd.N_drewN | apply Kd.N_drew)); exact HO206.out) hb)
       have n4_ := am (Kd.R_below (by (with_reducible repeat (first | apply Kd.R_alloc | apply Kd.R_drewN | apply Kd.R_drew)); exact HO209.out) hb)
       have n5_ := am (Kd.R_below (by (with_reducible repeat (first | apply Kd.R_alloc | apply Kd.R_drewN | apply Kd.R_drew)); exact HO212.out) hb)
       have n6_ := am (Kd.N_below (by (with_reducible repeat (first | apply Kd.N_alloc | apply Kd.N_drewN | apply Kd.N_drew)); exact HO216.out) hb)
       have n7_ := am (blk_below (g := gb193) (o := .cells #[.slice Ao16 t185.length co16, .int .i64 t188] 24 (0, 0)) (by (with_reducible repeat (first | refine blk_drewN ?_ _ | refine blk_drew ?_ | refine blk_alloc ?_ _)); exact BK193.out) hb)
       have n8_ := am (blk_below (g := gb197) (o := .cells #[.slice Ao20 y194.length co20, .int .i64 1] 24 (0, 0)) (by (with_reducible repeat (first | refine blk_drewN ?_ _ | refine blk_drew ?_ | refine blk_alloc ?_ _)); exact BK197.out) hb)
       have n9_ := am (blk_below (g := gb218) (o := .cells #[.slice Ao38 t210.length co38, .int .i64 t213] 24 (0, 0)) (by (with_reducible repeat (first | refine blk_drewN ?_ _ | refine blk_drew ?_ | refine blk_alloc ?_ _)); exact BK218.out) hb)
       have n10_ := am (below_step (by repeat (first | (with_reducible first | exact HB.out | apply below_alloc | apply pw_below_drewN | apply below_drew1 | refine below_set ?_ GE193.out | refine below_set ?_ GE197.out | refine below_set ?_ GE218.out) | exact HB.out)) hb)
       clear HO187
       clear HO191
       clear HO196
       clear HO206
       clear HO209
       clear HO212
       clear HO216
       clear BK193
       clear BK197
       clear BK218
       clear HB
       have HO187 := n0_
       have HO191 := n1_
       have HO196 := n2_
       have HO206 := n3_
       have HO209 := n4_
       have HO212 := n5_
       have HO216 := n6_
       have BK193 := n7_
       have BK197 := n8_
       have BK218 := n9_
       have HB := n10_
       clear n0_ n1_ n2_ n3_ n4_ n5_ n6_ n7_ n8_ n9_ n10_
       (try clear hb)
       (try clear hb2)
       (try clear hk)
       (try clear hi)
       refine hK.out _ _ ⟨(blk_cell BK197.out 0).trans rfl, (blk_cell BK197.out 1).trans rfl, (blk_cell BK218.out 0).trans rfl, (blk_cell BK218.out 1).trans rfl, HS4_, HS5_⟩ (fun hHeld => ?_)
       clear hK K
       refine norm_ (a' := ?_) ?_ ?_
       rotate_left
       ·show Act.put _ (some 39) _ = _
        simp only [Act.put, List.setIfInBounds_toArray, List.set_cons_zero, List.set_cons_succ, i64_w, i32_w]
        rfl
       refine pure_ (i := 12) (N := some 40) (v := ?_) (a' := ?_) (bb 30 8191) rfl rfl (any_of HT_.out (by kernel_rfl)) (fun _ _ _ h => h) (Or.inl ⟨by rfl, ?_⟩) ?_ ?_
       rotate_left
       ·intro w'
        go_simp
        with_reducible rfl
       rotate_left
       ·simp only [Act.put, List.setIfInBounds_toArray, List.set_cons_zero, List.set_cons_succ, i64_w, i32_w]
        rfl
       refine pure_ (i := 13) (N := some 41) (v := ?_) (a' := ?_) (bb 30 16383) rfl rfl (any_of HT_.out (by kernel_rfl)) (fun _ _ _ h => h) (Or.inl ⟨by rfl, ?_⟩) ?_ ?_
       rotate_left
       ·intro w'
        go_simp
        with_reducible rfl
       rotate_left
       ·simp only [Act.put, List.setIfInBounds_toArray, List.set_cons_zero, List.set_cons_succ, i64_w, i32_w]
        rfl
       refine take_ (i := 14) (N := some 42) (v := ?_) (a' := ?_) (bb 30 32767) rfl rfl (take_ofW HT_.out HW_.out (by kernel_rfl)) (fun _ _ _ h => h) (Or.inl ⟨by rfl, ?_⟩) hHeld ?_ ?_
       rotate_left
       ·rintro w' ⟨s0, s1, s2, s3, s4, s5⟩
        go_simp
        with_reducible rfl
       rotate_left
       ·simp only [Act.put, List.setIfInBounds_toArray, List.set_cons_zero, List.set_cons_succ, i64_w, i32_w]
        rfl
       refine one_ (i := 15) (N := some 43) (bb 30 65535) rfl rfl (one_of HT_.out (by kernel_rfl)) (by decide) (fun K hK => ?_)
       refine goes_ Try.func17 (by kernel_rfl) rfl #[.agg #[.slice Ao20 y194.length co20, .int .i64 1]] (by rfl) rfl rfl (by (try simp only [List.map_toArray, List.map_cons, List.map_nil]); first | done | rfl | (simp only [List.length_drop, List.length_take]; rfl)) ?_
       with_reducible refine (rec_Check.calls _ _ y194 1 true _ ?side1 ?side2 A8.out).mono ?_
       (case side1 => repeat (first | exact (Kd.R_reads' HO196.out).2.2 | (with_reducible refine Kd.C_alloc ?_ _) | (with_reducible refine Kd.C_drewN ?_ _) | (with_reducible refine Kd.C_drew ?_)))
       (case side2 => exact (Kd.R_reads' HO196.out).2.1)
       rintro e w46 ⟨rfl, hb⟩
       have mv0_ := am (Kd.V_below (by (with_reducible repeat (first | apply Kd.V_alloc | apply Kd.V_drewN | apply Kd.V_drew)); exact HL221_0.out) hb)
       have mv1_ := am (Kd.V_below (by (with_reducible repeat (first | apply Kd.V_alloc | apply Kd.V_drewN | apply Kd.V_drew)); exact HL221_1.out) hb)
       have mv2_ := am (Kd.C_below (by repeat (first | (with_reducible exact HR221_0.out) | (with_reducible refine Kd.C_alloc ?_ _) | (with_reducible refine Kd.C_drewN ?_ _) | (with_reducible refine Kd.C_drew ?_) | exact HR221_0.out)) hb)
       have mv3_ := am (Kd.C_below (by repeat (first | (with_reducible exact HR221_1.out) | (with_reducible refine Kd.C_alloc ?_ _) | (with_reducible refine Kd.C_drewN ?_ _) | (with_reducible refine Kd.C_drew ?_) | exact HR221_1.out)) hb)
       clear HL221_0 HL221_1 HR221_0 HR221_1
       have HL221_0 := mv0_
       have HL221_1 := mv1_
       have HR221_0 := mv2_
       have HR221_1 := mv3_
       clear mv0_ mv1_ mv2_ mv3_
       have HS4_ := (hb.cell (World.block_lt_of_cell? _ _ (hHeld.2.2.2.2.1))).trans (hHeld.2.2.2.2.1)
       have HS5_ := (hb.cell (World.block_lt_of_cell? _ _ (hHeld.2.2.2.2.2))).trans (hHeld.2.2.2.2.2)
       refine ⟨_, rfl, ?_⟩
       have n0_ := am (Kd.R_below (by (with_reducible repeat (first | apply Kd.R_alloc | apply Kd.R_drewN | apply Kd.R_drew)); exact HO187.out) hb)
       have n1_ := am (Kd.N_below (by (with_reducible repeat (first | apply Kd.N_alloc | apply Kd.N_drewN | apply Kd.N_drew)); exact HO191.out) hb)
       have n2_ := am (Kd.R_below (by (with_reducible repeat (first | apply Kd.R_alloc | apply Kd.R_drewN | apply Kd.R_drew)); exact HO196.out) hb)
       have n3_ := am (Kd.N_below (by (with_reducible repeat (first | apply Kd.N_alloc | apply Kd.N_drewN | apply Kd.N_drew)); exact HO206.out) hb)
       have n4_ := am (Kd.R_below (by (with_reducible repeat (first | apply Kd.R_alloc | apply Kd.R_drewN | apply Kd.R_drew)); exact HO209.out) hb)
       have n5_ := am (Kd.R_below (by (with_reducible repeat (first | apply Kd.R_alloc | apply Kd.R_drewN | apply Kd.R_drew)); exact HO212.out) hb)
       have n6_ := am (Kd.N_below (by (with_reducible repeat (first | apply Kd.N_alloc | apply Kd.N_drewN | apply Kd.N_drew)); exact HO216.out) hb)
       have n7_ := am (blk_below (g := gb193) (o := .cells #[.slice Ao16 t185.length co16, .int .i64 t188] 24 (0, 0)) (by (with_reducible repeat (first | refine blk_drewN ?_ _ | refine blk_drew ?_ | refine blk_alloc ?_ _)); exact BK193.out) hb)
       have n8_ := am (blk_below (g := gb197) (o := .cells #[.slice Ao20 y194.length co20, .int .i64 1] 24 (0, 0)) (by (with_reducible repeat (first | refine blk_drewN ?_ _ | refine blk_drew ?_ | refine blk_alloc ?_ _)); exact BK197.out) hb)
       have n9_ := am (blk_below (g := gb218) (o := .cells #[.slice Ao38 t210.length co38, .int .i64 t213] 24 (0, 0)) (by (with_reducible repeat (first | refine blk_drewN ?_ _ | refine blk_drew ?_ | refine blk_alloc ?_ _)); exact BK218.out) hb)
       have n10_ := am (below_step (by repeat (first | (with_reducible first | exact HB.out | apply below_alloc | apply pw_below_drewN | apply below_drew1 | refine below_set ?_ GE193.out | refine below_set ?_ GE197.out | refine below_set ?_ GE218.out) | exact HB.out)) hb)
       clear HO187
       clear HO191
       clear HO196
       clear HO206
       clear HO209
       clear HO212
       clear HO216
       clear BK193
       clear BK197
       clear BK218
       clear HB
       have HO187 := n0_
       have HO191 := n1_
       have HO196 := n2_
       have HO206 := n3_
       have HO209 := n4_
       have HO212 := n5_
       have HO216 := n6_
       have BK193 := n7_
       have BK197 := n8_
       have BK218 := n9_
       have HB := n10_
       clear n0_ n1_ n2_ n3_ n4_ n5_ n6_ n7_ n8_ n9_ n10_
       (try clear hb)
       (try clear hb2)
       (try clear hk)
       (try clear hi)
       refine hK.out _ _ ⟨(blk_cell BK197.out 0).trans rfl, (blk_cell BK197.out 1).trans rfl, (blk_cell BK218.out 0).trans rfl, (blk_cell BK218.out 1).trans rfl, HS4_, HS5_⟩ (fun hHeld => ?_)
       clear hK K
       refine norm_ (a' := ?_) ?_ ?_
       rotate_left
       ·show Act.put _ (some 43) _ = _
        simp only [Act.put, List.setIfInBounds_toArray, List.set_cons_zero, List.set_cons_succ, i64_w, i32_w]
        rfl
       refine pure_ (i := 16) (N := some 44) (v := ?_) (a' := ?_) (bb 30 131071) rfl rfl (any_of HT_.out (by kernel_rfl)) (fun _ _ _ h => h) (Or.inl ⟨by rfl, ?_⟩) ?_ ?_
       rotate_left
       ·intro w'
        go_simp
        with_reducible rfl
       rotate_left
       ·simp only [Act.put, List.setIfInBounds_toArray, List.set_cons_zero, List.set_cons_succ, i64_w, i32_w]
        rfl
       refine pure_ (i := 17) (N := some 45) (v := ?_) (a' := ?_) (bb 30 262143) rfl rfl (any_of HT_.out (by kernel_rfl)) (fun _ _ _ h => h) (Or.inl ⟨by rfl, ?_⟩) ?_ ?_
       rotate_left
       ·intro w'
        go_simp
        with_reducible rfl
       rotate_left
       ·simp only [Act.put, List.setIfInBounds_toArray, List.set_cons_zero, List.set_cons_succ, i64_w, i32_w]
        rfl
       refine pure_ (i := 19) (N := some 47) (v := ?_) (a' := ?_) (bb 30 786431) rfl rfl (any_of HT_.out (by kernel_rfl)) (fun _ _ _ h => h) (Or.inl ⟨by rfl, ?_⟩) ?_ ?_
       rotate_left
       ·intro w'
        go_simp
        with_reducible rfl
       rotate_left
       ·simp only [Act.put, List.setIfInBounds_toArray, List.set_cons_zero, List.set_cons_succ, i64_w, i32_w]
        rfl
       refine pure_ (i := 20) (N := some 48) (v := ?_) (a' := ?_) (bb 30 1835007) rfl rfl (any_of HT_.out (by kernel_rfl)) (fun _ _ _ h => h) (Or.inl ⟨by rfl, ?_⟩) ?_ ?_
       rotate_left
       ·intro w'
        go_simp
        with_reducible rfl
       rotate_left
       ·simp only [Act.put, List.setIfInBounds_toArray, List.set_cons_zero, List.set_cons_succ, i64_w, i32_w]
        rfl
       refine take_ (i := 18) (N := some 46) (v := ?_) (a' := ?_) (bb 30 2097151) rfl rfl (take_ofW HT_.out HW_.out (by kernel_rfl)) (fun _ _ _ h => h) (Or.inl ⟨by rfl, ?_⟩) hHeld ?_ ?_
       rotate_left
       ·rintro w' ⟨s0, s1, s2, s3, s4, s5⟩
        go_simp
        with_reducible rfl
       rotate_left
       ·simp only [Act.put, List.setIfInBounds_toArray, List.set_cons_zero, List.set_cons_succ, i64_w, i32_w]
        rfl
       refine take_ (i := 21) (N := some 49) (v := ?_) (a' := ?_) (bb 30 4194303) rfl rfl (take_ofW HT_.out HW_.out (by kernel_rfl)) (fun _ _ _ h => h) (Or.inl ⟨by rfl, ?_⟩) hHeld ?_ ?_
       rotate_left
       ·rintro w' ⟨s0, s1, s2, s3, s4, s5⟩
        go_simp
        with_reducible rfl
       rotate_left
       ·simp only [Act.put, List.setIfInBounds_toArray, List.set_cons_zero, List.set_cons_succ, i64_w, i32_w]
        rfl
       refine one_ (i := 22) (N := some 50) (bb 30 8388607) rfl rfl (one_of HT_.out (by kernel_rfl)) (by decide) (fun K hK => ?_)
       refine goes_ Try.func19 (by kernel_rfl) rfl #[.agg #[.slice Ao20 y194.length co20, .int .i64 1], .agg #[.slice A221_0 ((rd_T33 y204 0).f0).length c221_0, .slice A221_1 ((rd_T33 y204 0).f1).length c221_1]] (by rfl) rfl rfl (by (try simp only [List.map_toArray, List.map_cons, List.map_nil]); first | done | rfl | (simp only [List.length_drop, List.length_take]; rfl)) ?_
       with_reducible refine (rec_Right.calls k _ _ y194 1 _ _ ((rd_T33 y204 0).f0) _ _ ((rd_T33 y204 0).f1) true _ ?side1 ?side2 ?side3 ?side4 ?side5 ?side6 A11.out).mono ?_
       (case side1 => repeat (first | exact (Kd.R_reads' HO196.out).2.2 | (with_reducible refine Kd.C_alloc ?_ _) | (with_reducible refine Kd.C_drewN ?_ _) | (with_reducible refine Kd.C_drew ?_)))
       (case side2 => exact (Kd.R_reads' HO196.out).2.1)
       (case side3 => repeat (first | exact (by repeat (first | (with_reducible exact HR221_0.out) | (with_reducible refine Kd.C_alloc ?_ _) | (with_reducible refine Kd.C_drewN ?_ _) | (with_reducible refine Kd.C_drew ?_) | exact HR221_0.out)) | (with_reducible refine Kd.C_alloc ?_ _) | (with_reducible refine Kd.C_drewN ?_ _) | (with_reducible refine Kd.C_drew ?_)))
       (case side4 => exact HC221_0.out)
       (case side5 => repeat (first | exact (by repeat (first | (with_reducible exact HR221_1.out) | (with_reducible refine Kd.C_alloc ?_ _) | (with_reducible refine Kd.C_drewN ?_ _) | (with_reducible refine Kd.C_drew ?_) | exact HR221_1.out)) | (with_reducible refine Kd.C_alloc ?_ _) | (with_reducible refine Kd.C_drewN ?_ _) | (with_reducible refine Kd.C_drew ?_)))
       (case side6 => exact HC221_1.out)
       rintro e w47 ⟨rfl, hb⟩
       have HS4_ := (hb.cell (World.block_lt_of_cell? _ _ (hHeld.2.2.2.2.1))).trans (hHeld.2.2.2.2.1)
       have HS5_ := (hb.cell (World.block_lt_of_cell? _ _ (hHeld.2.2.2.2.2))).trans (hHeld.2.2.2.2.2)
       refine ⟨_, rfl, ?_⟩
       have n0_ := am (Kd.R_below (by (with_reducible repeat (first | apply Kd.R_alloc | apply Kd.R_drewN | apply Kd.R_drew)); exact HO187.out) hb)
       have n1_ := am (Kd.N_below (by (with_reducible repeat (first | apply Kd.N_alloc | apply Kd.N_drewN | apply Kd.N_drew)); exact HO191.out) hb)
       have n2_ := am (Kd.R_below (by (with_reducible repeat (first | apply Kd.R_alloc | apply Kd.R_drewN | apply Kd.R_drew)); exact HO196.out) hb)
       have n3_ := am (Kd.N_below (by (with_reducible repeat (first | apply Kd.N_alloc | apply Kd.N_drewN | apply Kd.N_drew)); exact HO206.out) hb)
       have n4_ := am (Kd.R_below (by (with_reducible repeat (first | apply Kd.R_alloc | apply Kd.R_drewN | apply Kd.R_drew)); exact HO209.out) hb)
       have n5_ := am (Kd.R_below (by (with_reducible repeat (first | apply Kd.R_alloc | apply Kd.R_drewN | apply Kd.R_drew)); exact HO212.out) hb)
       have n6_ := am (Kd.N_below (by (with_reducible repeat (first | apply Kd.N_alloc | apply Kd.N_drewN | apply Kd.N_drew)); exact HO216.out) hb)
       have n7_ := am (Kd.V_below (by (with_reducible repeat (first | apply Kd.V_alloc | apply Kd.V_drewN | apply Kd.V_drew)); exact HL221_0.out) hb)
       have n8_ := am (Kd.V_below (by (with_reducible repeat (first | apply Kd.V_alloc | apply Kd.V_drewN | apply Kd.V_drew)); exact HL221_1.out) hb)
       have n9_ := am (blk_below (g := gb193) (o := .cells #[.slice Ao16 t185.length co16, .int .i64 t188] 24 (0, 0)) (by (with_reducible repeat (first | refine blk_drewN ?_ _ | refine blk_drew ?_ | refine blk_alloc ?_ _)); exact BK193.out) hb)
       have n10_ := am (blk_below (g := gb197) (o := .cells #[.slice Ao20 y194.length co20, .int .i64 1] 24 (0, 0)) (by (with_reducible repeat (first | refine blk_drewN ?_ _ | refine blk_drew ?_ | refine blk_alloc ?_ _)); exact BK197.out) hb)
       have n11_ := am (blk_below (g := gb218) (o := .cells #[.slice Ao38 t210.length co38, .int .i64 t213] 24 (0, 0)) (by (with_reducible repeat (first | refine blk_drewN ?_ _ | refine blk_drew ?_ | refine blk_alloc ?_ _)); exact BK218.out) hb)
       have n12_ := am (Kd.C_below (by repeat (first | (with_reducible exact HR221_0.out) | (with_reducible refine Kd.C_alloc ?_ _) | (with_reducible refine Kd.C_drewN ?_ _) | (with_reducible refine Kd.C_drew ?_) | exact HR221_0.out)) hb)
       have n13_ := am (Kd.C_below (by repeat (first | (with_reducible exact HR221_1.out) | (with_reducible refine Kd.C_alloc ?_ _) | (with_reducible refine Kd.C_drewN ?_ _) | (with_reducible refine Kd.C_drew ?_) | exact HR221_1.out)) hb)
       have n14_ := am (below_step (by repeat (first | (with_reducible first | exact HB.out | apply below_alloc | apply pw_below_drewN | apply below_drew1 | refine below_set ?_ GE193.out | refine below_set ?_ GE197.out | refine below_set ?_ GE218.out) | exact HB.out)) hb)
       clear HO187
       clear HO191
       clear HO196
       clear HO206
       clear HO209
       clear HO212
       clear HO216
       clear HL221_0
       clear HL221_1
       clear BK193
       clear BK197
       clear BK218
       clear HR221_0
       clear HR221_1
       clear HB
       have HO187 := n0_
       have HO191 := n1_
       have HO196 := n2_
       have HO206 := n3_
       have HO209 := n4_
       have HO212 := n5_
       have HO216 := n6_
       have HL221_0 := n7_
       have HL221_1 := n8_
       have BK193 := n9_
       have BK197 := n10_
       have BK218 := n11_
       have HR221_0 := n12_
       have HR221_1 := n13_
       have HB := n14_
       clear n0_ n1_ n2_ n3_ n4_ n5_ n6_ n7_ n8_ n9_ n10_ n11_ n12_ n13_ n14_
       (try clear hb)
       (try clear hb2)
       (try clear hk)
       (try clear hi)
       refine hK.out _ _ ⟨(blk_cell BK197.out 0).trans rfl, (blk_cell BK197.out 1).trans rfl, (blk_cell BK218.out 0).trans rfl, (blk_cell BK218.out 1).trans rfl, HS4_, HS5_⟩ (fun hHeld => ?_)
       clear hK K
       refine norm_ (a' := ?_) ?_ ?_
       rotate_left
       ·show Act.put _ (some 50) _ = _
        simp only [Act.put, List.setIfInBounds_toArray, List.set_cons_zero, List.set_cons_succ, i64_w, i32_w]
        rfl
       refine pure_ (i := 23) (N := some 51) (v := ?_) (a' := ?_) (bb 30 16777215) rfl rfl (any_of HT_.out (by kernel_rfl)) (fun _ _ _ h => h) (Or.inl ⟨by rfl, ?_⟩) ?_ ?_
       rotate_left
       ·intro w'
        go_simp
        with_reducible rfl
       rotate_left
       ·simp only [Act.put, List.setIfInBounds_toArray, List.set_cons_zero, List.set_cons_succ, i64_w, i32_w]
        rfl
       refine pure_ (i := 24) (N := some 52) (v := ?_) (a' := ?_) (bb 30 33554431) rfl rfl (any_of HT_.out (by kernel_rfl)) (fun _ _ _ h => h) (Or.inl ⟨by rfl, ?_⟩) ?_ ?_
       rotate_left
       ·intro w'
        go_simp
        with_reducible rfl
       rotate_left
       ·simp only [Act.put, List.setIfInBounds_toArray, List.set_cons_zero, List.set_cons_succ, i64_w, i32_w]
        rfl
       refine pure_ (i := 26) (N := some 54) (v := ?_) (a' := ?_) (bb 30 100663295) rfl rfl (any_of HT_.out (by kernel_rfl)) (fun _ _ _ h => h) (Or.inl ⟨by rfl, ?_⟩) ?_ ?_
       rotate_left
       ·intro w'
        go_simp
        with_reducible rfl
       rotate_left
       ·simp only [Act.put, List.setIfInBounds_toArray, List.set_cons_zero, List.set_cons_succ, i64_w, i32_w]
        rfl
       refine take_ (i := 25) (N := some 53) (v := ?_) (a' := ?_) (bb 30 134217727) rfl rfl (take_ofW HT_.out HW_.out (by kernel_rfl)) (fun _ _ _ h => h) (Or.inl ⟨by rfl, ?_⟩) hHeld ?_ ?_
       rotate_left
       ·rintro w' ⟨s0, s1, s2, s3, s4, s5⟩
        go_simp
        with_reducible rfl
       rotate_left
       ·simp only [Act.put, List.setIfInBounds_toArray, List.set_cons_zero, List.set_cons_succ, i64_w, i32_w]
        rfl
       refine one_ (i := 27) (N := some 55) (bb 30 268435455) rfl rfl (one_of HT_.out (by kernel_rfl)) (by decide) (fun K hK => ?_)
       refine goes_ Try.func27 (by kernel_rfl) rfl #[.agg #[.slice Ao20 y194.length co20, .int .i64 1], .slice (some ad221) y204.length co33] (by rfl) rfl rfl (by (try simp only [List.map_toArray, List.map_cons, List.map_nil]); first | done | rfl | (simp only [List.length_drop, List.length_take]; rfl)) ?_
       with_reducible refine (rec_Sound.calls k _ _ y194 1 _ _ y204 t223 _ ?side1 ?side2 ?side3 ?side4 A13.out).mono ?_
       (case side1 => repeat (first | exact (Kd.R_reads' HO196.out).2.2 | (with_reducible refine Kd.C_alloc ?_ _) | (with_reducible refine Kd.C_drewN ?_ _) | (with_reducible refine Kd.C_drew ?_)))
       (case side2 => exact (Kd.R_reads' HO196.out).2.1)
       (case side3 => repeat (first | exact (Kd.N_reads' HO206.out).2.2 | (with_reducible refine Kd.C_alloc ?_ _) | (with_reducible refine Kd.C_drewN ?_ _) | (with_reducible refine Kd.C_drew ?_)))
       (case side4 => exact (Kd.N_reads' HO206.out).2.1)
       rintro e w48 ⟨rfl, hb⟩
       have HS4_ := (hb.cell (World.block_lt_of_cell? _ _ (hHeld.2.2.2.2.1))).trans (hHeld.2.2.2.2.1)
       have HS5_ := (hb.cell (World.block_lt_of_cell? _ _ (hHeld.2.2.2.2.2))).trans (hHeld.2.2.2.2.2)
       refine ⟨_, rfl, ?_⟩
       have n0_ := am (Kd.R_below (by (with_reducible repeat (first | apply Kd.R_alloc | apply Kd.R_drewN | apply Kd.R_drew)); exact HO187.out) hb)
       have n1_ := am (Kd.N_below (by (with_reducible repeat (first | apply Kd.N_alloc | apply Kd.N_drewN | apply Kd.N_drew)); exact HO191.out) hb)
       have n2_ := am (Kd.R_below (by (with_reducible repeat (first | apply Kd.R_alloc | apply Kd.R_drewN | apply Kd.R_drew)); exact HO196.out) hb)
       have n3_ := am (Kd.N_below (by (with_reducible repeat (first | apply Kd.N_alloc | apply Kd.N_drewN | apply Kd.N_drew)); exact HO206.out) hb)
       have n4_ := am (Kd.R_below (by (with_reducible repeat (first | apply Kd.R_alloc | apply Kd.R_drewN | apply Kd.R_drew)); exact HO209.out) hb)
       have n5_ := am (Kd.R_below (by (with_reducible repeat (first | apply Kd.R_alloc | apply Kd.R_drewN | apply Kd.R_drew)); exact HO212.out) hb)
       have n6_ := am (Kd.N_below (by (with_reducible repeat (first | apply Kd.N_alloc | apply Kd.N_drewN | apply Kd.N_drew)); exact HO216.out) hb)
       have n7_ := am (Kd.V_below (by (with_reducible repeat (first | apply Kd.V_alloc | apply Kd.V_drewN | apply Kd.V_drew)); exact HL221_0.out) hb)
       have n8_ := am (Kd.V_below (by (with_reducible repeat (first | apply Kd.V_alloc | apply Kd.V_drewN | apply Kd.V_drew)); exact HL221_1.out) hb)
       have n9_ := am (blk_below (g := gb193) (o := .cells #[.slice Ao16 t185.length co16, .int .i64 t188] 24 (0, 0)) (by (with_reducible repeat (first | refine blk_drewN ?_ _ | refine blk_drew ?_ | refine blk_alloc ?_ _)); exact BK193.out) hb)
       have n10_ := am (blk_below (g := gb197) (o := .cells #[.slice Ao20 y194.length co20, .int .i64 1] 24 (0, 0)) (by (with_reducible repeat (first | refine blk_drewN ?_ _ | refine blk_drew ?_ | refine blk_alloc ?_ _)); exact BK197.out) hb)
       have n11_ := am (blk_below (g := gb218) (o := .cells #[.slice Ao38 t210.length co38, .int .i64 t213] 24 (0, 0)) (by (with_reducible repeat (first | refine blk_drewN ?_ _ | refine blk_drew ?_ | refine blk_alloc ?_ _)); exact BK218.out) hb)
       have n12_ := am (Kd.C_below (by repeat (first | (with_reducible exact HR221_0.out) | (with_reducible refine Kd.C_alloc ?_ _) | (with_reducible refine Kd.C_drewN ?_ _) | (with_reducible refine Kd.C_drew ?_) | exact HR221_0.out)) hb)
       have n13_ := am (Kd.C_below (by repeat (first | (with_reducible exact HR221_1.out) | (with_reducible refine Kd.C_alloc ?_ _) | (with_reducible refine Kd.C_drewN ?_ _) | (with_reducible refine Kd.C_drew ?_) | exact HR221_1.out)) hb)
       have n14_ := am (below_step (by repeat (first | (with_reducible first | exact HB.out | apply below_alloc | apply pw_below_drewN | apply below_drew1 | refine below_set ?_ GE193.out | refine below_set ?_ GE197.out | refine below_set ?_ GE218.out) | exact HB.out)) hb)
       clear HO187
       clear HO191
       clear HO196
       clear HO206
       clear HO209
       clear HO212
       clear HO216
       clear HL221_0
       clear HL221_1
       clear BK193
       clear BK197
       clear BK218
       clear HR221_0
       clear HR221_1
       clear HB
       have HO187 := n0_
       have HO191 := n1_
       have HO196 := n2_
       have HO206 := n3_
       have HO209 := n4_
       have HO212 := n5_
       have HO216 := n6_
       have HL221_0 := n7_
       have HL221_1 := n8_
       have BK193 := n9_
       have BK197 := n10_
       have BK218 := n11_
       have HR221_0 := n12_
       have HR221_1 := n13_
       have HB := n14_
       clear n0_ n1_ n2_ n3_ n4_ n5_ n6_ n7_ n8_ n9_ n10_ n11_ n12_ n13_ n14_
       (try clear hb)
       (try clear hb2)
       (try clear hk)
       (try clear hi)
       refine hK.out _ _ ⟨(blk_cell BK197.out 0).trans rfl, (blk_cell BK197.out 1).trans rfl, (blk_cell BK218.out 0).trans rfl, (blk_cell BK218.out 1).trans rfl, HS4_, HS5_⟩ (fun hHeld => ?_)
       clear hK K
       refine norm_ (a' := ?_) ?_ ?_
       rotate_left
       ·show Act.put _ (some 55) _ = _
        simp only [Act.put, List.setIfInBounds_toArray, List.set_cons_zero, List.set_cons_succ, i64_w, i32_w]
        rfl
       refine pure_ (i := 28) (N := some 56) (v := ?_) (a' := ?_) (bb 30 536870911) rfl rfl (any_of HT_.out (by kernel_rfl)) (fun _ _ _ h => h) (Or.inl ⟨by rfl, ?_⟩) ?_ ?_
       rotate_left
       ·intro w'
        go_simp
        with_reducible rfl
       rotate_left
       ·simp only [Act.put, List.setIfInBounds_toArray, List.set_cons_zero, List.set_cons_succ, i64_w, i32_w]
        rfl
       refine pure_ (i := 29) (N := some 0) (v := ?_) (a' := ?_) (bb 30 1073741823) rfl rfl (any_of HT_.out (by kernel_rfl)) (fun _ _ _ h => h) (Or.inl ⟨by rfl, ?_⟩) ?_ ?_
       rotate_left
       ·intro w'
        go_simp
        with_reducible rfl
       rotate_left
       ·simp only [Act.put, List.setIfInBounds_toArray, List.set_cons_zero, List.set_cons_succ, i64_w, i32_w]
        rfl
       refine done_ (done_of HT_.out (by kernel_rfl)) ?_
       try go_wp2
       go_ret
       exact ⟨by first | rfl | (simp [errW_none, errW_some] <;> rfl) | (simp [*, errW_none, errW_some] <;> rfl), by repeat (first | (with_reducible first | exact HB.out | apply below_alloc | apply pw_below_drewN | apply below_drew1 | refine below_set ?_ GE193.out | refine below_set ?_ GE197.out | refine below_set ?_ GE218.out) | exact HB.out)⟩
      ·replace c12 := Bool.eq_false_iff.mpr c12
       subst c12
       have H1 : (none) = some r := by rw [if_neg (show ¬ (false = true) by decide)] at H; exact H
       clear H
       have H := H1
       clear H1
       exact absurd H (by simp)
     ·rw [if_neg c10] at H
      exact absurd H (by simp)
    ·replace c9 := Bool.eq_false_iff.mpr c9
     subst c9
     have H1 : (none) = some r := by rw [if_neg (show ¬ (false = true) by decide)] at H; exact H
     clear H
     have H := H1
     clear H1
     exact absurd H (by simp)
   ·replace c7 := Bool.eq_false_iff.mpr c7
    subst c7
    have H1 : (none) = some r := by rw [if_neg (show ¬ (false = true) by decide)] at H; exact H
    clear H
    have H := H1
    clear H1
    exact absurd H (by simp)
  ·rw [if_neg c5] at H
   exact absurd H (by simp)
 ·rw [if_neg c4] at H
  exact absurd H (by simp)
end Go.Proofs.Ytlacfpbfnedgdaa.Q
namespace Go.Proofs.Ytlacfpbfnedgdaa.Q
open Go.RowKit Go.Proofs.YtlacfpbfnedgdaaW.PrintWords Go.Proofs.YtlacfpbfnedgdaaW.PrintLast Go.Proofs.YtlacfpbfnedgdaaW.PrintMore
set_option linter.unusedVariables false
set_option linter.unusedSimpArgs false
theorem known_40 : hypercubelaw1_known.f 60 = some true := by decide +kernel
theorem known_ev : Ev (fun k => hypercubelaw1_known.f k) true := Ev.of hypercubelaw1_known.mono known_40
def eight (x : Int) : List Int := [x / 72057594037927936 % 256, x / 281474976710656 % 256, x / 1099511627776 % 256, x / 4294967296 % 256, x / 16777216 % 256, x / 65536 % 256, x / 256 % 256, x % 256]
theorem eight_length (x : Int) : (eight x).length = 8 := rfl
theorem or_byte (q c : Int) (h0 : 0 ≤ c) (h1 : c < 256) (h2 : -9223372036854775808 ≤ q * 256) (h3 : q * 256 ≤ 9223372036854775552) : Go.bits .or .i64 (q * 256) c = q * 256 + c := by
 unfold Go.bits
 simp only []
 have hb : IntKind.i64.bits = 64 := rfl
 have key : ((BitVec.ofInt 64 (q * 256)) ||| (BitVec.ofInt 64 c)).toNat = ((q * 256) % 18446744073709551616 + c).toNat := by
  rw [BitVec.toNat_or, BitVec.toNat_ofInt, BitVec.toNat_ofInt]
  have e1 : (c % ((2 ^ 64 : Nat) : Int)).toNat = c.toNat := by
   have : c % ((2 ^ 64 : Nat) : Int) = c := Int.emod_eq_of_lt h0 (by have : ((2 ^ 64 : Nat) : Int) = 18446744073709551616 := rfl; omega)
   rw [this]
  have e2 : ((q * 256) % ((2 ^ 64 : Nat) : Int)).toNat = 2 ^ 8 * (((q * 256) % 18446744073709551616) / 256).toNat := by
   have : ((2 ^ 64 : Nat) : Int) = 18446744073709551616 := rfl
   rw [this]; omega
  rw [e1, e2, ← Nat.two_pow_add_eq_or_of_lt (by omega : c.toNat < 2 ^ 8)]
  omega
 show IntKind.i64.wrap ((((BitVec.ofInt 64 (q * 256)) ||| (BitVec.ofInt 64 c)).toNat : Int)) = _
 rw [key]
 have hw : ∀ n : Int, IntKind.i64.wrap n = wrap64 n := fun n => by
  unfold IntKind.wrap wrap64
  have hs : IntKind.i64.signed = true := rfl
  simp only [hb, hs, Bool.true_and]
  split
  ·rename_i h; have := of_decide_eq_true h; omega
  ·rename_i h; have := of_decide_eq_false (Bool.eq_false_iff.2 h); omega
 rw [hw]
 unfold wrap64
 omega
theorem numOf_step (y c : Int) (h0 : 0 ≤ c) (h1 : c < 256) : Go.bits .or .i64 (wrap64 (y * 256)) (wrap64 c) = wrap64 (y * 256 + c) := by
 have e : wrap64 (y * 256) = ((y + 36028797018963968) % 72057594037927936 - 36028797018963968) * 256 := by unfold wrap64; omega
 rw [e, w64 (x := c) (by omega) (by omega), or_byte _ _ h0 h1 (by omega) (by omega)]
 unfold wrap64
 omega
theorem numOf_eight (x : Int) (h0 : -9223372036854775808 ≤ x) (h1 : x ≤ 9223372036854775807) : numOf (eight x) = x := by
 have hb : ∀ y : Int, 0 ≤ y % 256 ∧ y % 256 < 256 := fun y => ⟨by omega, by omega⟩
 unfold numOf eight
 simp only [List.foldl_cons, List.foldl_nil]
 rw [numOf_step _ _ (hb _).1 (hb _).2, numOf_step _ _ (hb _).1 (hb _).2, numOf_step _ _ (hb _).1 (hb _).2, numOf_step _ _ (hb _).1 (hb _).2, numOf_step _ _ (hb _).1 (hb _).2, numOf_step _ _ (hb _).1 (hb _).2, numOf_step _ _ (hb _).1 (hb _).2, numOf_step _ _ (hb _).1 (hb _).2]
 unfold wrap64
 omega
def encRow (x : S33) : List Int := x.f0.map (· % 256) ++ x.f1.flatMap eight
def encP (cards : List Int) (meas : Int) (rows : List S33) : List Int :=
 [67, 85, 66, 49, (cards.length : Int) % 256] ++ cards.map (· % 256) ++ [meas % 256, (rows.length : Int) / 256 % 256, (rows.length : Int) % 256] ++ rows.flatMap encRow
def Small (cards : List Int) (rows : List S33) : Prop := cards.length ≤ 100 ∧ rows.length ≤ 1000 ∧ ∀ x ∈ rows, x.f0.length ≤ 100 ∧ x.f1.length ≤ 100
theorem encRow_le {x : S33} (h : x.f0.length ≤ 100 ∧ x.f1.length ≤ 100) : (encRow x).length ≤ 900 := by
 unfold encRow
 rw [List.length_append, List.length_map, List.length_flatMap]
 have : (x.f1.map fun y => (eight y).length) = x.f1.map fun _ => 8 := rfl
 rw [this, List.map_const', List.sum_replicate_nat]
 omega
theorem numOf_one (c : Int) (h0 : 0 ≤ c) (h1 : c < 256) : numOf [c] = c := by
 unfold numOf
 simp only [List.foldl_cons, List.foldl_nil]
 rw [numOf_step _ _ h0 h1]
 unfold wrap64
 omega
theorem numOf_two (a c : Int) (h0 : 0 ≤ a) (h1 : a < 256) (h2 : 0 ≤ c) (h3 : c < 256) : numOf [a, c] = a * 256 + c := by
 unfold numOf
 simp only [List.foldl_cons, List.foldl_nil]
 rw [numOf_step _ _ h0 h1, numOf_step _ _ h2 h3]
 unfold wrap64
 omega
theorem take1 (c : Int) (l : List Int) (h0 : 0 ≤ c) (h1 : c < 256) : takeV (c :: l) 1 = c ∧ takeL (c :: l) 1 = l ∧ ∀ b, takeB (c :: l) 1 b = b := by
 have h : ¬ (c :: l).length < 1 := by simp
 refine ⟨?_, ?_, fun b => ?_⟩
 ·unfold takeV; rw [if_neg h]; exact numOf_one c h0 h1
 ·unfold takeL; rw [if_neg h]; rfl
 ·unfold takeB; rw [if_neg h]
theorem take2 (a c : Int) (l : List Int) (h0 : 0 ≤ a) (h1 : a < 256) (h2 : 0 ≤ c) (h3 : c < 256) : takeV (a :: c :: l) 2 = a * 256 + c ∧ takeL (a :: c :: l) 2 = l ∧ ∀ b, takeB (a :: c :: l) 2 b = b := by
 have h : ¬ (a :: c :: l).length < 2 := by simp
 refine ⟨?_, ?_, fun b => ?_⟩
 ·unfold takeV; rw [if_neg h]; exact numOf_two a c h0 h1 h2 h3
 ·unfold takeL; rw [if_neg h]; rfl
 ·unfold takeB; rw [if_neg h]
theorem take8 (x : Int) (l : List Int) (h0 : -9223372036854775808 ≤ x) (h1 : x ≤ 9223372036854775807) : takeV (eight x ++ l) 8 = x ∧ takeL (eight x ++ l) 8 = l ∧ ∀ b, takeB (eight x ++ l) 8 b = b := by
 have h : ¬ (eight x ++ l).length < 8 := by rw [List.length_append, eight_length]; omega
 refine ⟨?_, ?_, fun b => ?_⟩
 ·unfold takeV; rw [if_neg h, List.take_left' (eight_length x)]; exact numOf_eight x h0 h1
 ·unfold takeL; rw [if_neg h, List.drop_left' (eight_length x)]
 ·unfold takeB; rw [if_neg h]
theorem list1 (l : List Int) : ∀ (ks acc : List Int), (∀ x ∈ ks, 0 ≤ x ∧ x < 256) → listL 1 ks.length (ks ++ l) false acc = (acc ++ ks, l, false)
 | [], acc, _ => by simp [listL]
 | c :: ks, acc, h => by
  have hc := h c List.mem_cons_self
  obtain ⟨h1, h2, h3⟩ := take1 c (ks ++ l) hc.1 hc.2
  rw [List.length_cons, listL_go, List.cons_append, h1, h2, h3, list1 l ks (acc ++ [c]) (fun x hx => h x (List.mem_cons_of_mem _ hx))]
  simp
theorem list8 (l : List Int) : ∀ (ks acc : List Int), (∀ x ∈ ks, -9223372036854775808 ≤ x ∧ x ≤ 9223372036854775807) → listL 8 ks.length (ks.flatMap eight ++ l) false acc = (acc ++ ks, l, false)
 | [], acc, _ => by simp [listL]
 | c :: ks, acc, h => by
  have hc := h c List.mem_cons_self
  obtain ⟨h1, h2, h3⟩ := take8 c (ks.flatMap eight ++ l) hc.1 hc.2
  rw [List.length_cons, listL_go, List.flatMap_cons, List.append_assoc, h1, h2, h3, list8 l ks (acc ++ [c]) (fun x hx => h x (List.mem_cons_of_mem _ hx))]
  simp
theorem map_mod {l : List Int} (h : ∀ x ∈ l, 0 ≤ x ∧ x < 256) : l.map (· % 256) = l := by
 induction l with
 | nil => rfl
 | cons x l ih =>
  have hx := h x List.mem_cons_self
  rw [List.map_cons, ih (fun y hy => h y (List.mem_cons_of_mem _ hy)), Int.emod_eq_of_lt hx.1 hx.2]
def GoodF (cards : List Int) (meas : Int) (rows : List S33) : Prop :=
 checkP cards meas = true ∧ rows.length ≤ 300 ∧ ∀ x ∈ rows, rightP cards meas x = true ∧ ∀ y ∈ x.f1, -9223372036854775808 ≤ y ∧ y ≤ 9223372036854775807
theorem check_open {cards : List Int} {meas : Int} (h : checkP cards meas = true) : 1 ≤ cards.length ∧ cards.length ≤ 4 ∧ (∀ x ∈ cards, 1 ≤ x ∧ x ≤ 16) ∧ 0 ≤ meas ∧ meas ≤ 2 := by
 unfold checkP at h
 simp only [Bool.and_eq_true, decide_eq_true_eq, List.all_eq_true] at h
 exact ⟨h.1.1.1.1, h.1.1.1.2, fun x hx => h.1.1.2 x hx, h.1.2, h.2⟩
theorem check_mk {cards : List Int} {meas : Int} (h1 : 1 ≤ cards.length) (h2 : cards.length ≤ 4) (h3 : ∀ x ∈ cards, 1 ≤ x ∧ x ≤ 16) (h4 : 0 ≤ meas) (h5 : meas ≤ 2) : checkP cards meas = true := by
 unfold checkP
 simp only [Bool.and_eq_true, decide_eq_true_eq, List.all_eq_true]
 exact ⟨⟨⟨⟨h1, h2⟩, h3⟩, h4⟩, h5⟩
theorem right_open {cards : List Int} {meas : Int} {x : S33} (h : rightP cards meas x = true) : x.f0.length = cards.length ∧ (x.f1.length : Int) = meas ∧ ∀ i : Nat, i < x.f0.length → 0 ≤ rd x.f0 i ∧ rd x.f0 i < rd cards i := by
 unfold rightP at h
 simp only [Bool.and_eq_true, decide_eq_true_eq, List.all_eq_true, List.mem_range] at h
 exact ⟨h.1.1, h.1.2, fun i hi => h.2 i hi⟩
theorem right_mk {cards : List Int} {meas : Int} {x : S33} (h1 : x.f0.length = cards.length) (h2 : (x.f1.length : Int) = meas) (h3 : ∀ i : Nat, i < x.f0.length → 0 ≤ rd x.f0 i ∧ rd x.f0 i < rd cards i) : rightP cards meas x = true := by
 unfold rightP
 simp only [Bool.and_eq_true, decide_eq_true_eq, List.all_eq_true, List.mem_range]
 exact ⟨⟨h1, h2⟩, fun i hi => h3 i hi⟩
theorem right_keys {cards : List Int} {meas : Int} {x : S33} (hc : checkP cards meas = true) (h : rightP cards meas x = true) : ∀ y ∈ x.f0, 0 ≤ y ∧ y < 256 := by
 obtain ⟨_, _, hcs, _, _⟩ := check_open hc
 obtain ⟨hl, _, hr⟩ := right_open h
 intro y hy
 obtain ⟨i, hi, rfl⟩ := List.getElem_of_mem hy
 have := hr i hi
 rw [rd_get hi, rd_get (by omega)] at this
 have h2 := hcs cards[i] (List.getElem_mem _)
 omega
theorem GoodF.small {cards : List Int} {meas : Int} {rows : List S33} (h : GoodF cards meas rows) : Small cards rows := by
 obtain ⟨hc, hl, hr⟩ := h
 obtain ⟨h1, h2, h3, h4, h5⟩ := check_open hc
 refine ⟨by omega, by omega, fun x hx => ?_⟩
 obtain ⟨h6, h7, _⟩ := right_open (hr x hx).1
 omega
theorem rows_back (cards : List Int) (meas : Int) (hc : checkP cards meas = true) (l : List Int) : ∀ (rows acc : List S33), (∀ x ∈ rows, rightP cards meas x = true ∧ ∀ y ∈ x.f1, -9223372036854775808 ≤ y ∧ y ≤ 9223372036854775807) →
  rowsL cards meas rows.length (rows.flatMap encRow ++ l) acc = some (acc ++ rows, l)
 | [], acc, _ => by simp [rowsL]
 | x :: rows, acc, h => by
  obtain ⟨hr, hm⟩ := h x List.mem_cons_self
  obtain ⟨hl, hml, _⟩ := right_open hr
  have hk := right_keys hc hr
  have e1 := list1 (x.f1.flatMap eight ++ (rows.flatMap encRow ++ l)) x.f0 [] hk
  have e2 := list8 (rows.flatMap encRow ++ l) x.f1 [] hm
  rw [List.length_cons]
  unfold rowsL
  have e0 : (x :: rows).flatMap encRow ++ l = x.f0 ++ (x.f1.flatMap eight ++ (rows.flatMap encRow ++ l)) := by
   rw [List.flatMap_cons]; unfold encRow; rw [map_mod hk]; simp
  rw [e0, ← hl, e1]
  simp only []
  have hmn : meas.toNat = x.f1.length := by omega
  rw [hmn, e2]
  simp only [List.nil_append]
  have hx : (⟨x.f0, x.f1⟩ : S33) = x := by cases x; rfl
  rw [if_neg (by simp), hx, if_pos hr, rows_back cards meas hc l rows (acc ++ [x]) (fun y hy => h y (List.mem_cons_of_mem _ hy))]
  simp
theorem back {cards : List Int} {meas : Int} {rows : List S33} (h : GoodF cards meas rows) : rec_Decode.f (encP cards meas rows) = some (cards, meas, rows, 0) := by
 have hsm := h.small
 obtain ⟨hc, hl, hr⟩ := h
 obtain ⟨h1, h2, h3, h4, h5⟩ := check_open hc
 have hcm : cards.map (· % 256) = cards := map_mod (fun x hx => by have := h3 x hx; omega)
 have hm : meas % 256 = meas := Int.emod_eq_of_lt h4 (by omega)
 have hcl : (cards.length : Int) % 256 = cards.length := Int.emod_eq_of_lt (by omega) (by omega)
 have he : encP cards meas rows = [67, 85, 66, 49] ++ ((cards.length : Int) :: (cards ++ (meas :: (rows.length : Int) / 256 % 256 :: (rows.length : Int) % 256 :: (rows.flatMap encRow ++ [])))) := by
  unfold encP
  rw [hcm, hm, hcl]
  simp
 have hlen : (encP cards meas rows).length ≤ 100000000000 := by
  have hb : (rows.flatMap encRow).length ≤ 900 * rows.length := by
   have : ∀ (l : List S33), (∀ x ∈ l, x.f0.length ≤ 100 ∧ x.f1.length ≤ 100) → (l.flatMap encRow).length ≤ 900 * l.length := by
    intro l
    induction l with
    | nil => intro _; simp
    | cons x l ih =>
     intro hx
     rw [List.flatMap_cons, List.length_append, List.length_cons]
     have a1 := encRow_le (hx x List.mem_cons_self)
     have a2 := ih (fun y hy => hx y (List.mem_cons_of_mem _ hy))
     omega
   exact this rows hsm.2.2
  rw [he]
  simp only [List.length_append, List.length_cons, List.length_nil]
  omega
 unfold rec_Decode.f
 rw [if_pos hlen]
 congr 1
 unfold decodeP
 rw [he, if_neg (by simp), List.drop_left' (by rfl)]
 have hmk : markP ([67, 85, 66, 49] ++ ((cards.length : Int) :: (cards ++ (meas :: (rows.length : Int) / 256 % 256 :: (rows.length : Int) % 256 :: (rows.flatMap encRow ++ []))))) = true := by
  unfold markP
  rw [List.take_left' (by rfl)]
  decide +kernel
 rw [hmk, if_neg (by simp)]
 unfold decHead
 obtain ⟨t1, t2, t3⟩ := take1 (cards.length : Int) (cards ++ (meas :: (rows.length : Int) / 256 % 256 :: (rows.length : Int) % 256 :: (rows.flatMap encRow ++ []))) (by omega) (by omega)
 rw [t1, t2, t3, Int.toNat_natCast, list1 _ cards [] (fun x hx => by have := h3 x hx; omega)]
 unfold decTail
 simp only [List.nil_append]
 obtain ⟨t4, t5, t6⟩ := take1 meas ((rows.length : Int) / 256 % 256 :: (rows.length : Int) % 256 :: (rows.flatMap encRow ++ [])) h4 (by omega)
 rw [t4, t5, t6]
 unfold decM
 obtain ⟨t7, t8, t9⟩ := take2 ((rows.length : Int) / 256 % 256) ((rows.length : Int) % 256) (rows.flatMap encRow ++ []) (by omega) (by omega) (by omega) (by omega)
 rw [t7, t8, t9]
 have hn : (rows.length : Int) / 256 % 256 * 256 + (rows.length : Int) % 256 = rows.length := by omega
 rw [hn]
 unfold decRows
 rw [if_neg (by simp), hc, if_neg (by simp), if_neg (by omega), Int.toNat_natCast, rows_back cards meas hc [] rows [] hr]
 simp
abbrev FR := List Int × Int × List S33
def RowOk (cards : List Int) (meas : Int) (x : S33) : Prop := rightP cards meas x = true ∧ ∀ y ∈ x.f1, -100 ≤ y ∧ y ≤ 100
theorem facts_l3 (x3 : List Int) (rows : List S33) (i : Nat) (hi : i < 1000) (kk : Int) (cards : List Int) (meas : Int) (hm0 : 0 ≤ meas) (hm : meas ≤ 2) (hrl : rows.length ≤ 1000) (key : List Int) {Q : FR → Prop}
  (H : ∀ ms : List Int, (ms.length : Int) = meas → (∀ y ∈ ms, -100 ≤ y ∧ y ≤ 100) → ∃ p, Ev (fun k => hypercubelaw1_Facts.l1 k x3 (rows ++ [⟨key, ms⟩]) ((i + 1 : Nat) : Int) cards meas) p ∧ Q p) (d : Nat) :
  ∀ (j : Nat) (ms : List Int), (meas.toNat - j) = d → (j : Int) ≤ meas → ms.length = j → (∀ y ∈ ms, -100 ≤ y ∧ y ≤ 100) → ∃ p, Ev (fun k => hypercubelaw1_Facts.l3 k x3 rows (i : Int) kk (j : Int) cards meas key ms) p ∧ Q p := by
 induction d with
 | zero =>
  intro j ms hd hj hl hb
  obtain ⟨p, h1, h2⟩ := H ms (by omega) hb
  exact ⟨p, Ev.step (fun k => by simp only [hypercubelaw1_Facts.l3]; rw [if_neg (by omega), if_pos (by omega), w64s hi (by omega)]) h1, h2⟩
 | succ d ih =>
  intro j ms hd hj hl hb
  have hw := within_eq (wrap64 (kk + (wrap64 (7 * (j : Int))))) 201 (by omega) (by omega)
  have b0 := Int.emod_nonneg (wrap64 (kk + (wrap64 (7 * (j : Int))))) (show (201 : Int) ≠ 0 by omega)
  have b1 := Int.emod_lt_of_pos (wrap64 (kk + (wrap64 (7 * (j : Int))))) (show (0 : Int) < 201 by omega)
  generalize (wrap64 (kk + (wrap64 (7 * (j : Int))))) % 201 = q at hw b0 b1
  obtain ⟨p, h1, h2⟩ := ih (j + 1) (ms ++ [wrap64 (q - 100)]) (by omega) (by omega) (by simp; omega) (fun y hy => by
   rcases List.mem_append.1 hy with hy | hy
   ·exact hb y hy
   ·rw [List.mem_singleton.1 hy, w64 (by omega) (by omega)]; omega)
  refine ⟨p, Ev.step (fun k => by simp only [hypercubelaw1_Facts.l3]; rw [if_pos (by omega), hw]; simp only [Option.bind_some]; rw [if_pos (by omega), w64s (show j < 1000 by omega) (by omega)]) h1, h2⟩
theorem facts_l2 (x3 : List Int) (rows : List S33) (i : Nat) (hi : i < 1000) (cards : List Int) (meas : Int) (hc : checkP cards meas = true) (hrl : rows.length ≤ 1000) {Q : FR → Prop}
  (H : ∀ x, RowOk cards meas x → ∃ p, Ev (fun k => hypercubelaw1_Facts.l1 k x3 (rows ++ [x]) ((i + 1 : Nat) : Int) cards meas) p ∧ Q p) (d : Nat) :
  ∀ (j : Nat) (kk : Int) (key : List Int), cards.length - j = d → j ≤ cards.length → key.length = j → (∀ a : Nat, a < key.length → 0 ≤ rd key a ∧ rd key a < rd cards a) →
   ∃ p, Ev (fun k => hypercubelaw1_Facts.l2 k x3 rows (i : Int) kk (j : Int) cards meas key) p ∧ Q p := by
 obtain ⟨h1, h2, h3, h4, h5⟩ := check_open hc
 induction d with
 | zero =>
  intro j kk key hd hj hl hb
  have := facts_l3 x3 rows i hi kk cards meas h4 h5 hrl key (fun ms hml hmb => H ⟨key, ms⟩ ⟨right_mk (by show key.length = _; omega) hml hb, hmb⟩) meas.toNat 0 [] (by omega) (by omega) rfl (by simp)
  obtain ⟨p, e1, e2⟩ := this
  exact ⟨p, Ev.step (fun k => by simp only [hypercubelaw1_Facts.l2]; rw [if_neg (by omega)]; rfl) e1, e2⟩
 | succ d ih =>
  intro j kk key hd hj hl hb
  have hja : j < cards.length := by omega
  have hcd := h3 cards[j] (List.getElem_mem hja)
  have hw := within_eq kk cards[j] (by omega) (by omega)
  have b0 := Int.emod_nonneg kk (show cards[j] ≠ 0 by omega)
  have b1 := Int.emod_lt_of_pos kk (show (0 : Int) < cards[j] by omega)
  generalize kk % cards[j] = q at hw b0 b1
  obtain ⟨p, e1, e2⟩ := ih (j + 1) (wrap64 (Int.tdiv kk 5)) (key ++ [q]) (by omega) (by omega) (by simp; omega) (fun a ha => by
   by_cases hak : a < key.length
   ·have hb1 := hb a hak
    have : rd (key ++ [q]) (a : Int) = rd key (a : Int) := by rw [rd_get ha, rd_get hak, List.getElem_append_left hak]
    rw [this]; exact hb1
   ·have hae : a = key.length := by simp at ha; omega
    subst hae
    have : rd (key ++ [q]) (key.length : Int) = q := by rw [rd_get ha]; simp
    rw [this, hl, rd_get hja]; exact ⟨b0, b1⟩)
  refine ⟨p, Ev.step (fun k => by simp only [hypercubelaw1_Facts.l2]; rw [if_pos (by omega), if_pos (by omega), rd_get hja, hw]; simp only [Option.bind_some]; rw [if_pos (by omega), w64s hja (by omega)]) e1, e2⟩
theorem facts_l1 (x3 : List Int) (cards : List Int) (meas : Int) (hc : checkP cards meas = true) (d : Nat) : ∀ (i : Nat) (rows : List S33), (min x3.length 40) - i = d → i ≤ min x3.length 40 → rows.length = i → (∀ x ∈ rows, RowOk cards meas x) →
  ∃ p, Ev (fun k => hypercubelaw1_Facts.l1 k x3 rows (i : Int) cards meas) p ∧ (p.1 = cards ∧ p.2.1 = meas ∧ p.2.2.length = min x3.length 40 ∧ ∀ x ∈ p.2.2, RowOk cards meas x) := by
 induction d with
 | zero =>
  intro i rows hd hi hl hr
  have fin : Ev (fun k => hypercubelaw1_Facts.j3 k x3 rows (i : Int) false cards meas) (cards, meas, rows) := Ev.step (fun k => by simp only [hypercubelaw1_Facts.j3]; rw [if_neg (by simp)]) (Ev.now _)
  refine ⟨(cards, meas, rows), ?_, rfl, rfl, by show rows.length = _; omega, hr⟩
  by_cases h : (i : Int) < x3.length
  ·have : decide ((i : Int) < 40) = false := decide_eq_false (by omega)
   exact Ev.step (fun k => by simp only [hypercubelaw1_Facts.l1]; rw [if_pos h, this]) fin
  ·exact Ev.step (fun k => by simp only [hypercubelaw1_Facts.l1]; rw [if_neg h]) fin
 | succ d ih =>
  intro i rows hd hi hl hr
  have hia : i < x3.length := by omega
  have hdec : decide ((i : Int) < 40) = true := decide_eq_true (by omega)
  obtain ⟨p, e1, e2⟩ := facts_l2 x3 rows i (by omega) cards meas hc (by omega) (fun x hx => ih (i + 1) (rows ++ [x]) (by omega) (by omega) (by simp; omega) (fun y hy => by
   rcases List.mem_append.1 hy with hy | hy
   ·exact hr y hy
   ·rw [List.mem_singleton.1 hy]; exact hx)) cards.length 0 (rd x3 i) [] (by omega) (by omega) rfl (fun a ha => by simp at ha)
  refine ⟨p, ?_, e2⟩
  refine Ev.step (fun k => by simp only [hypercubelaw1_Facts.l1]; rw [if_pos (by omega), hdec]) ?_
  exact Ev.step (fun k => by simp only [hypercubelaw1_Facts.j3]; rw [if_pos trivial, if_pos (by omega), if_pos (by omega)]; rfl) e1
theorem facts_l0 (x0 : Int) (x1 x3 : List Int) (meas : Int) (hm0 : 0 ≤ meas) (hm : meas ≤ 2) (d : Nat) : ∀ (i : Nat) (cards : List Int), (x0 % 4 + 1).toNat - i = d → (i : Int) ≤ x0 % 4 + 1 → cards.length = i → (∀ x ∈ cards, 1 ≤ x ∧ x ≤ 5) →
  ∃ p, Ev (fun k => hypercubelaw1_Facts.l0 k x0 x1 x3 (i : Int) cards meas) p ∧ (checkP p.1 p.2.1 = true ∧ p.2.1 = meas ∧ (p.1.length : Int) = x0 % 4 + 1 ∧ p.2.2.length = min x3.length 40 ∧ ∀ x ∈ p.2.2, RowOk p.1 p.2.1 x) := by
 have b0 := Int.emod_nonneg x0 (show (4 : Int) ≠ 0 by omega)
 have b1 := Int.emod_lt_of_pos x0 (show (0 : Int) < 4 by omega)
 have hw4 := within_eq x0 4 (by omega) (by omega)
 have hw7 := within_eq x0 7 (by omega) (by omega)
 induction d with
 | zero =>
  intro i cards hd hi hl hc
  have go : ∀ cs : List Int, cs.length = cards.length → (∀ x ∈ cs, 1 ≤ x ∧ x ≤ 16) → ∃ p, Ev (fun k => hypercubelaw1_Facts.j1 k x3 cs meas) p ∧ (checkP p.1 p.2.1 = true ∧ p.2.1 = meas ∧ (p.1.length : Int) = x0 % 4 + 1 ∧ p.2.2.length = min x3.length 40 ∧ ∀ x ∈ p.2.2, RowOk p.1 p.2.1 x) := by
   intro cs h1 h2
   have hck : checkP cs meas = true := check_mk (by omega) (by omega) h2 hm0 hm
   obtain ⟨p, e1, e2, e3, e4, e5⟩ := facts_l1 x3 cs meas hck (min x3.length 40) 0 [] (by omega) (by omega) rfl (by simp)
   refine ⟨p, Ev.step (fun k => by simp only [hypercubelaw1_Facts.j1]; rfl) e1, ?_, e3, ?_, e4, ?_⟩
   ·rw [e2, e3]; exact hck
   ·rw [e2]; omega
   ·rw [e2, e3]; exact e5
  by_cases h7 : x0 % 7 = 0
  ·obtain ⟨p, e1, e2⟩ := go (cards.set (0 : Int).toNat 16) (by simp) (fun x hx => by
    rcases List.mem_or_eq_of_mem_set hx with hx | rfl
    ·have := hc x hx; omega
    ·omega)
   refine ⟨p, ?_, e2⟩
   exact Ev.step (fun k => by simp only [hypercubelaw1_Facts.l0]; rw [hw4]; simp only [Option.bind_some]; rw [if_neg (by omega), hw7]; simp only [Option.bind_some]; rw [if_pos h7, if_pos (by omega)]) e1
  ·obtain ⟨p, e1, e2⟩ := go cards rfl (fun x hx => by have := hc x hx; omega)
   refine ⟨p, ?_, e2⟩
   exact Ev.step (fun k => by simp only [hypercubelaw1_Facts.l0]; rw [hw4]; simp only [Option.bind_some]; rw [if_neg (by omega), hw7]; simp only [Option.bind_some]; rw [if_neg h7]) e1
 | succ d ih =>
  intro i cards hd hi hl hc
  have next : ∀ q : Int, 0 ≤ q → q < 5 → ∃ p, Ev (fun k => hypercubelaw1_Facts.l0 k x0 x1 x3 ((i + 1 : Nat) : Int) (cards ++ [wrap64 (1 + q)]) meas) p ∧ (checkP p.1 p.2.1 = true ∧ p.2.1 = meas ∧ (p.1.length : Int) = x0 % 4 + 1 ∧ p.2.2.length = min x3.length 40 ∧ ∀ x ∈ p.2.2, RowOk p.1 p.2.1 x) := by
   intro q q0 q1
   refine ih (i + 1) (cards ++ [wrap64 (1 + q)]) (by omega) (by omega) (by simp; omega) (fun x hx => ?_)
   rcases List.mem_append.1 hx with hx | hx
   ·exact hc x hx
   ·rw [List.mem_singleton.1 hx, w64 (by omega) (by omega)]; omega
  by_cases h1 : (i : Int) < x1.length
  ·have hw := within_eq (rd x1 (i : Int)) 5 (by omega) (by omega)
   obtain ⟨p, e1, e2⟩ := next (rd x1 (i : Int) % 5) (by omega) (by omega)
   refine ⟨p, ?_, e2⟩
   exact Ev.step (fun k => by simp only [hypercubelaw1_Facts.l0]; rw [hw4]; simp only [Option.bind_some]; rw [if_pos (by omega), if_pos h1, if_pos (by omega), hw]; simp only [Option.bind_some]; rw [if_pos (by omega), w64s (show i < 1000 by omega) (by omega)]) e1
  ·have hw := within_eq (wrap64 ((i : Int) + 2)) 5 (by omega) (by omega)
   obtain ⟨p, e1, e2⟩ := next (wrap64 ((i : Int) + 2) % 5) (by omega) (by omega)
   refine ⟨p, ?_, e2⟩
   exact Ev.step (fun k => by simp only [hypercubelaw1_Facts.l0]; rw [hw4]; simp only [Option.bind_some]; rw [if_pos (by omega), if_neg h1, hw]; simp only [Option.bind_some]; rw [if_pos (by omega), w64s (show i < 1000 by omega) (by omega)]) e1
theorem facts_ev (a0 : Int) (l1 : List Int) (a2 : Int) (l3 : List Int) : ∃ cards meas rows, Ev (fun k => hypercubelaw1_Facts.f k a0 l1 a2 l3) (cards, meas, rows) ∧ checkP cards meas = true ∧ meas = a2 % 3 ∧ (cards.length : Int) = a0 % 4 + 1 ∧ rows.length = min l3.length 40 ∧ ∀ x ∈ rows, RowOk cards meas x := by
 have hw := within_eq a2 3 (by omega) (by omega)
 obtain ⟨⟨cards, meas, rows⟩, e1, e2, e3, e4, e5, e6⟩ := facts_l0 a0 l1 l3 (a2 % 3) (by omega) (by omega) (a0 % 4 + 1).toNat 0 [] (by omega) (by omega) rfl (by simp)
 refine ⟨cards, meas, rows, ?_, e2, e3, e4, e5, e6⟩
 exact Ev.congr (fun k => by unfold hypercubelaw1_Facts.f; rw [hw]; rfl) e1
theorem int_runK {P : Program} {oi : Oper} {a : Act} {t : TypeId} {p x : Operand} {W : World} {g : Nat} {z : Int} {cells : Array Value} {t2 : TypeId} (ho : oi.op = .store t p x) (hh : W.heap[g]? = some (.cells cells t2 (0, 0))) (hs : 0 < cells.size)
  (haddr : a.eval p = .pointer (some ⟨g, 0, none⟩)) (hx : a.eval x = .int .i64 z) (ht : (P.info? t).map (·.size) = some 1) : (execOp a.eval oi).run P W = .ok .skip (W.setCell ⟨g, 0, none⟩ (.int .i64 z)) := by
 have hrun : (Instr.storeAt t (.pointer (some ⟨g, 0, none⟩)) (.int .i64 z)).run P W = .ok () (W.setCells g 0 [.int .i64 z]) := run_store_run t (.int .i64 z) [.int .i64 z] hh rfl ht (by show 0 + 1 ≤ _; omega) (by intro q_ hq_; rcases List.mem_singleton.1 hq_ with rfl; rfl)
 unfold execOp
 simp only [ho, haddr, hx, Sem.run_bind, Sem.run_pure, Result.andThen_ok, hrun]
 rfl
def hypercubelaw1_RecChecks.T6 : Bool × List (List Nat × List Nat) := (true, [([], []), ([0], [0]), ([1], [1]), ([2, 1], [2]), ([3], [3]), ([4, 3, 3], [3, 4]), ([3], [3]), ([6, 5, 3], [3, 6]), ([5, 7, 3], [3, 5, 7]), ([3, 8], [3, 8])])
def hypercubelaw1_RecChecks.B6 : List Nat := [0, 1, 3, 7, 15, 31, 15, 127, 255, 511]
theorem hypercubelaw1_RecChecks.tab6 : rtab .any (opsOf Try.f3 6) = hypercubelaw1_RecChecks.T6 := by kernel_rfl
theorem hypercubelaw1_RecChecks.bits6 : waitsOk hypercubelaw1_RecChecks.T6.2 hypercubelaw1_RecChecks.B6 = true := by kernel_rfl
def hypercubelaw1_RecChecks.T11 : Bool × List (List Nat × List Nat) := (true, [([], []), ([], []), ([], []), ([1, 2], [1, 2]), ([3], [3]), ([0, 4], [0, 4]), ([], []), ([], []), ([], []), ([7, 8], [7, 8]), ([9], [9]), ([6, 10, 5], [6, 10]), ([5, 11], [5, 11])])
def hypercubelaw1_RecChecks.B11 : List Nat := [0, 0, 0, 6, 14, 31, 0, 0, 0, 384, 896, 2047, 4095]
theorem hypercubelaw1_RecChecks.tab11 : rtab .any (opsOf Try.f3 11) = hypercubelaw1_RecChecks.T11 := by kernel_rfl
theorem hypercubelaw1_RecChecks.bits11 : waitsOk hypercubelaw1_RecChecks.T11.2 hypercubelaw1_RecChecks.B11 = true := by kernel_rfl
def hypercubelaw1_RecChecks.T16 : Bool × List (List Nat × List Nat) := (true, [([], []), ([], []), ([], []), ([1, 2], [1, 2]), ([3], [3]), ([0, 4], [0, 4]), ([5], [5])])
def hypercubelaw1_RecChecks.B16 : List Nat := [0, 0, 0, 6, 14, 31, 63]
theorem hypercubelaw1_RecChecks.tab16 : rtab .any (opsOf Try.f3 16) = hypercubelaw1_RecChecks.T16 := by kernel_rfl
theorem hypercubelaw1_RecChecks.bits16 : waitsOk hypercubelaw1_RecChecks.T16.2 hypercubelaw1_RecChecks.B16 = true := by kernel_rfl
def hypercubelaw1_RecChecks.T19 : Bool × List (List Nat × List Nat) := (true, [([], []), ([], []), ([1], [1]), ([2], [2]), ([3], [3]), ([0, 4], [0, 4]), ([], []), ([], []), ([7], [7]), ([8], [8]), ([9], [9]), ([6, 10, 5], [6, 10]), ([5, 11], [5, 11]), ([], []), ([13, 12, 11, 0, 1, 2, 3, 4, 5, 6, 7, 8, 9, 10, 11, 12, 13], [12, 13])])
def hypercubelaw1_RecChecks.B19 : List Nat := [0, 0, 2, 6, 14, 31, 0, 0, 128, 384, 896, 2047, 4095, 0, 16383]
theorem hypercubelaw1_RecChecks.tab19 : rtab .any (opsOf Try.f3 19) = hypercubelaw1_RecChecks.T19 := by kernel_rfl
theorem hypercubelaw1_RecChecks.bits19 : waitsOk hypercubelaw1_RecChecks.T19.2 hypercubelaw1_RecChecks.B19 = true := by kernel_rfl
def hypercubelaw1_RecChecks.T22 : Bool × List (List Nat × List Nat) := (true, [([], []), ([0], [0]), ([], []), ([2], [2]), ([3], [3]), ([4], [4]), ([], []), ([6], [6]), ([7], [7]), ([8], [8]), ([9], [9]), ([], []), ([5, 10, 11], [5, 10, 11]), ([], []), ([13], [13]), ([12, 14], [12, 14]), ([15], [15]), ([1, 0, 1, 2, 3, 4, 5, 6, 7, 8, 9, 10, 11, 12, 13, 14, 15, 16], [1]), ([17, 16, 14, 0, 1, 2, 3, 4, 5, 6, 7, 8, 9, 10, 11, 12, 13, 14, 15, 16], [16, 17])])
def hypercubelaw1_RecChecks.B22 : List Nat := [0, 1, 0, 4, 12, 28, 0, 64, 192, 448, 960, 0, 4092, 0, 8192, 32764, 65532, 131071, 262143]
theorem hypercubelaw1_RecChecks.tab22 : rtab .any (opsOf Try.f3 22) = hypercubelaw1_RecChecks.T22 := by kernel_rfl
theorem hypercubelaw1_RecChecks.bits22 : waitsOk hypercubelaw1_RecChecks.T22.2 hypercubelaw1_RecChecks.B22 = true := by kernel_rfl
def hypercubelaw1_RecChecks.T29 : Bool × List (List Nat × List Nat) := (true, [([], []), ([], []), ([0, 1], [0, 1]), ([], []), ([], []), ([3, 4, 2], [3, 4]), ([2, 5], [2, 5])])
def hypercubelaw1_RecChecks.B29 : List Nat := [0, 0, 3, 0, 0, 31, 63]
theorem hypercubelaw1_RecChecks.tab29 : rtab .any (opsOf Try.f3 29) = hypercubelaw1_RecChecks.T29 := by kernel_rfl
theorem hypercubelaw1_RecChecks.bits29 : waitsOk hypercubelaw1_RecChecks.T29.2 hypercubelaw1_RecChecks.B29 = true := by kernel_rfl
def hypercubelaw1_RecChecks.T33 : Bool × List (List Nat × List Nat) := (true, [([], []), ([0], [0]), ([], []), ([2], [2]), ([], []), ([4], [4]), ([3, 5], [3, 5]), ([6], [6]), ([1, 0, 1, 2, 3, 4, 5, 6, 7], [1]), ([8, 7, 5, 0, 1, 2, 3, 4, 5, 6, 7], [7, 8])])
def hypercubelaw1_RecChecks.B33 : List Nat := [0, 1, 0, 4, 0, 16, 60, 124, 255, 511]
theorem hypercubelaw1_RecChecks.tab33 : rtab .any (opsOf Try.f3 33) = hypercubelaw1_RecChecks.T33 := by kernel_rfl
theorem hypercubelaw1_RecChecks.bits33 : waitsOk hypercubelaw1_RecChecks.T33.2 hypercubelaw1_RecChecks.B33 = true := by kernel_rfl
def hypercubelaw1_RecChecks.T40 : Bool × List (List Nat × List Nat) := (true, [([], []), ([0], [0]), ([], []), ([2, 1], [2]), ([1, 3], [1, 3]), ([4, 3, 0, 1, 2, 3, 4], [4])])
def hypercubelaw1_RecChecks.B40 : List Nat := [0, 1, 0, 7, 15, 31]
theorem hypercubelaw1_RecChecks.tab40 : rtab .any (opsOf Try.f3 40) = hypercubelaw1_RecChecks.T40 := by kernel_rfl
theorem hypercubelaw1_RecChecks.bits40 : waitsOk hypercubelaw1_RecChecks.T40.2 hypercubelaw1_RecChecks.B40 = true := by kernel_rfl
def hypercubelaw1_RecChecks.Pure : Prop := ∀ (l0 : List Int) (m0 : Int) (l1 : List S33) (a2 : Int) (l3 : List Int) (a4 : Int) (l5 : List Int) (a6 a7 : Int), 
 ∃ (k : Nat) (few : Bool) (cards : (List Int)) (meas : Int) (rows : (List S33)), (hypercubelaw1_known.f k = some true) ∧ (hypercubelaw1_Few.f k l0 m0 l1 = some few) ∧ (few = true → l0.length ≤ 100 ∧ l1.length ≤ 100 ∧ ∀ r ∈ l1, r.f0.length ≤ 100) ∧ (hypercubelaw1_Facts.f k a2 l3 a4 l5 = some (cards, meas, rows)) ∧ (rec_Check.f cards meas = some true) ∧ (∀ (c : List Int) (m : Int), c.length ≤ 100 → ∃ q, rec_Check.f c m = some q ∧ hypercuberef1_Check.f k c m = some q) ∧ (∀ (c : List Int) (m : Int) (x y : List Int), x.length ≤ 100 → ∃ q, rec_Right.f k c m x y = some q ∧ hypercuberef1_Right.f k c m x y = some q) ∧ (∀ r ∈ rows, rec_Right.f k cards meas r.f0 r.f1 = some true ∧ (0 < r.f0.length ∧ r.f0.length ≤ 50 ∧ r.f1.length ≤ 50)) ∧ ((0 < cards.length ∧ cards.length ≤ 50) ∧ rows.length ≤ 1000) ∧ (∀ (a : Int) (n : Nat), 0 < n → n ≤ 100 → ∃ j : Nat, j < n ∧ hypercubelaw1_within.f a (n : Int) = some (j : Int))
set_option maxHeartbeats 8000000 in
set_option maxRecDepth 100000 in
theorem hypercubelaw1_RecChecks.calls (k : Nat) (A0 : Option Addr) (c0 : Nat) (l0 : List Int) (m0 : Int) (A1 : Option Addr) (c1 : Nat) (l1 : List S33) (a2 : Int) (A3 : Option Addr) (c3 : Nat) (l3 : List Int) (a4 : Int) (A5 : Option Addr) (c5 : Nat) (l5 : List Int) (a6 a7 : Int) (w : World) (hr0 : Kd.C (Kd.int .i64) w A0 l0.length l0) (hc0 : l0.length ≤ c0) (hr1 : Kd.C k33 w A1 l1.length l1) (hc1 : l1.length ≤ c1) (hr3 : Kd.C (Kd.int .i64) w A3 l3.length l3) (hc3 : l3.length ≤ c3) (hr5 : Kd.C (Kd.int .i64) w A5 l5.length l5) (hc5 : l5.length ≤ c5)
  {few : Bool} {cards : (List Int)} {meas : Int} {rows : (List S33)} (h1 : hypercubelaw1_known.f k = some true) (h2 : hypercubelaw1_Few.f k l0 m0 l1 = some few) (h3 : few = true → l0.length ≤ 100 ∧ l1.length ≤ 100 ∧ ∀ r ∈ l1, r.f0.length ≤ 100) (h4 : hypercubelaw1_Facts.f k a2 l3 a4 l5 = some (cards, meas, rows)) (h5 : rec_Check.f cards meas = some true) (h6 : ∀ (c : List Int) (m : Int), c.length ≤ 100 → ∃ q, rec_Check.f c m = some q ∧ hypercuberef1_Check.f k c m = some q) (h7 : ∀ (c : List Int) (m : Int) (x y : List Int), x.length ≤ 100 → ∃ q, rec_Right.f k c m x y = some q ∧ hypercuberef1_Right.f k c m x y = some q) (h8 : ∀ r ∈ rows, rec_Right.f k cards meas r.f0 r.f1 = some true ∧ (0 < r.f0.length ∧ r.f0.length ≤ 50 ∧ r.f1.length ≤ 50)) (h9 : (0 < cards.length ∧ cards.length ≤ 50) ∧ rows.length ≤ 1000) (h10 : ∀ (a : Int) (n : Nat), 0 < n → n ≤ 100 → ∃ j : Nat, j < n ∧ hypercubelaw1_within.f a (n : Int) = some (j : Int)) :
  Calls Try.prog 3 #[.agg #[.slice A0 l0.length c0, .int .i64 m0], .slice A1 l1.length c1, .int .i64 a2, .slice A3 l3.length c3, .int .i64 a4, .slice A5 l5.length c5, .int .i64 a6, .int .i64 a7] w fun e w' => e = .returned (.bool true) ∧ Below w.heap.size w w' := by
 have hu24 := Try.underlying24
 have hu33 := Try.underlying33
 have H1 := am h1
 have H2 := am h2
 have H3 := am h3
 have H4 := am h4
 have H5 := am h5
 have H6 := am h6
 have H7 := am h7
 have H8 := am h8
 have H9 := am h9
 have H10 := am h10
 have HR0 := am hr0
 have HC0 := am hc0
 have HR1 := am hr1
 have HC1 := am hc1
 have HR3 := am hr3
 have HC3 := am hc3
 have HR5 := am hr5
 have HC5 := am hc5
 clear h1 h2 h3 h4 h5 h6 h7 h8 h9 h10 hr0 hc0 hr1 hc1 hr3 hc3 hr5 hc5
 go_enter Try.func3, Try.ntmps3
 go_wp2_with (first | ((with_reducible refine gate_dst (N := 8) rfl ?_); (try (refine gate_guard (by rfl) ?_; dsimp only)); refine box_event ?hg (N := 8) ?hd (cs := #[.slice A0 l0.length c0, .int .i64 m0]) (t := 24) ?hr ?_; (case hd => rfl); (case hg => rfl); (case hr => first | (go_simp; done) | (go_simp; rfl)); intro gb hg w1 hbox hb; have hcza0 : w1.cell? ⟨gb, 0, none⟩ = some (.slice A0 l0.length c0) := (blk_cell hbox 0).trans rfl; have hcza1 : w1.cell? ⟨gb, 1, none⟩ = some (.int .i64 m0) := (blk_cell hbox 1).trans rfl; have hfza0 := blk_frozen hbox 0; have hfza1 := blk_frozen hbox 1; have HBXa := am hbox; have HGa := am hg; have HBBa := am hb; clear hbox hg hb))
 clear hcza0 hcza1 hfza0 hfza1
 refine (hypercubelaw1_known.calls k true w1 H1.out).mono ?_
 rintro e w2 ⟨rfl, hb⟩
 have HKB := am (blk_below HBXa.out hb)
 have HB2 := am (below_step HBBa.out hb)
 clear hb HBXa HBBa
 have b0 := bc HKB 0
 have b1 := bc HKB 1
 go_wp2_with (fail)
 refine (hypercubelaw1_Few.calls k A0 c0 l0 m0 A1 c1 l1 few w2 (Kd.C_below HR0.out HB2.out) HC0.out (Kd.C_below HR1.out HB2.out) HC1.out H2.out).mono ?_
 rintro e w3 ⟨rfl, hb⟩
 have HKB3 := am (blk_below HKB.out hb)
 have HB3 := am (below_step HB2.out hb)
 clear hb HKB HB2 b0 b1
 cases few
 ·go_wp2
  go_ret
  exact ⟨by first | rfl | (simp; done), HB3.out⟩
 have HL := am (H3.out rfl)
 clear H2 H3
 go_wp2_with (fail)
 refine (hypercubelaw1_Facts.calls k a2 A3 c3 l3 a4 A5 c5 l5 cards meas rows w3 (Kd.C_below HR3.out HB3.out) HC3.out (Kd.C_below HR5.out HB3.out) HC5.out H4.out).mono ?_
 rintro e w4 ⟨v1, v2, rfl, ho0, ho1, hb⟩
 obtain ⟨A14, c14, rfl⟩ := Kd.R_slice ho0
 obtain ⟨A15, c15, rfl⟩ := Kd.S_slice ho1
 have HX := am (Kd.R_bound ho0)
 have HY : Aside0 (rows.length ≤ c15 ∧ Kd.C k33 w4 A15 rows.length rows) := ⟨(Kd.S_reads' ho1).2⟩
 have HB4 := am (below_step HB3.out hb)
 have HKB4 := am (blk_below HKB3.out hb)
 have HS34 := am (Nat.le_trans HB3.out.size (Nat.le_refl w3.heap.size))
 clear ho0 ho1 hb HKB3 HR3 HR5 HC3 HC5 H4
 go_wp2_with (first | ((with_reducible refine gate_dst (N := 17) rfl ?_); (try (refine gate_guard (by rfl) ?_; dsimp only)); refine box_event ?hg (N := 17) ?hd (cs := #[.slice none 0 0, .int .i64 0]) (t := 24) ?hr ?_; (case hd => rfl); (case hg => rfl); (case hr => first | (go_simp; done) | (go_simp; rfl)); intro gs hg w5 hbox hb; have hczb0 : w5.cell? ⟨gs, 0, none⟩ = some (.slice none 0 0) := (blk_cell hbox 0).trans rfl; have hczb1 : w5.cell? ⟨gs, 1, none⟩ = some (.int .i64 0) := (blk_cell hbox 1).trans rfl; have hfzb0 := blk_frozen hbox 0; have hfzb1 := blk_frozen hbox 1; have HBXb := am hbox; have HGb := am hg; have HBBb := am hb; clear hbox hg hb))
 generalize hw6 : (w5.setCell ⟨gs, 0, none⟩ (.slice A14 cards.length c14)).setCell ⟨gs, 1, none⟩ (.int .i64 meas) = w6
 have hgs : w4.heap.size ≤ gs := Nat.le_of_eq HGb.out.symm
 have hb46 : Below w4.heap.size w4 w6 := by rw [← hw6]; exact below_set (below_set HBBb.out hgs) hgs
 have HGS := am (show w6.heap[gs]? = some (.cells #[.slice A14 cards.length c14, .int .i64 meas] 24 (0, 0)) by rw [← hw6]; exact blk_put (blk_put HBXb.out 0 _ rfl) 1 _ rfl)
 have HX6 := am (Kd.R_lower (Kd.R_below (Kd.R_mono HX.out (fun k hk => (show k < w4.heap.size from hk.2.2.1))) hb46) HB3.out.size)
 have HXC := am (Kd.R_reads' HX6.out).2
 have HY6 := am (And.intro HY.out.1 (Kd.C_below HY.out.2 hb46))
 have HKB6 := am (blk_below HKB4.out hb46)
 have HB6 := am (below_step HB4.out hb46)
 have HGL := am hgs
 have HGW := am (Nat.le_trans HB4.out.size hgs)
 have R0 := am (Kd.C_below HR0.out HB6.out)
 have R1 := am (Kd.C_below HR1.out HB6.out)
 clear hw6 hgs hb46 hczb0 hczb1 hfzb0 hfzb1 HBXb HGb HBBb HX HY HKB4 HB4 HR0 HR1 HS34
 have G0 := am (bc HGS 0)
 have G1 := am (bc HGS 1)
 have K0 := am (bc HKB6 0)
 have K1 := am (bc HKB6 1)
 obtain ⟨q0, hq0⟩ := H6.out l0 m0 HL.out.1
 have HQ0 := am hq0
 clear hq0
 refine start_ (n := 10) (S := fun w' => w'.cell? ⟨gs, 0, none⟩ = some (.slice A14 cards.length c14) ∧ w'.cell? ⟨gs, 1, none⟩ = some (.int .i64 meas) ∧ w'.cell? ⟨gb, 0, none⟩ = some (.slice A0 l0.length c0) ∧ w'.cell? ⟨gb, 1, none⟩ = some (.int .i64 m0)) (ds := []) (bb 10 0) (by kernel_rfl) rfl rfl ⟨G0.out, G1.out, K0.out, K1.out⟩ (fun hHeld => ?_)
 refine with_tabW hypercubelaw1_RecChecks.tab6 hypercubelaw1_RecChecks.bits6 (fun HT_ HW_ => ?_)
 have HB := am (below_drew (Below.refl w6.heap.size w6))
 generalize w6.drew = wd at HB hHeld ⊢
 refine tk (i := 0) (N := some 36) (bb 10 1) HT_ HW_ hHeld ?_
 refine one_ (i := 1) (N := some 37) (bb 10 3) rfl rfl (one_of HT_.out (by kernel_rfl)) (by decide) (fun K hK => ?_)
 refine goes_ Try.func17 (by kernel_rfl) rfl #[.agg #[.slice A14 cards.length c14, .int .i64 meas]] (by rfl) rfl rfl (by (try simp only [List.map_toArray, List.map_cons, List.map_nil]); first | done | rfl) ?_
 with_reducible refine (rec_Check.calls A14 c14 cards meas true _ (Kd.C_below HXC.out.2 HB.out) HXC.out.1 H5.out).mono ?_

 rintro e wd1 ⟨rfl, hb⟩
 replace HB := am (below_step HB.out hb)
 clear hb
 refine ⟨_, rfl, ?_⟩
 refine hK.out _ _ ⟨(HB.out.cell (World.block_lt_of_cell? w6 _ G0.out)).trans G0.out, (HB.out.cell (World.block_lt_of_cell? w6 _ G1.out)).trans G1.out, (HB.out.cell (World.block_lt_of_cell? w6 _ K0.out)).trans K0.out, (HB.out.cell (World.block_lt_of_cell? w6 _ K1.out)).trans K1.out⟩ (fun hHeld => ?_)
 clear hK K
 refine nm ?_
 refine pu (i := 2) (N := some 38) (bb 10 7) HT_ ?_
 refine pu (i := 3) (N := some 39) (bb 10 15) HT_ ?_
 refine tk (i := 4) (N := some 40) (bb 10 31) HT_ HW_ hHeld ?_
 refine tk (i := 6) (N := some 42) (bb 10 95) HT_ HW_ hHeld ?_
 refine one_ (i := 5) (N := some 41) (bb 10 127) rfl rfl (one_of HT_.out (by kernel_rfl)) (by decide) (fun K hK => ?_)
 refine goes_ Try.func17 (by kernel_rfl) rfl #[.agg #[.slice A0 l0.length c0, .int .i64 m0]] (by rfl) rfl rfl (by (try simp only [List.map_toArray, List.map_cons, List.map_nil]); first | done | rfl) ?_
 with_reducible refine (rec_Check.calls A0 c0 l0 m0 q0 _ (Kd.C_below R0.out HB.out) HC0.out HQ0.out.1).mono ?_

 rintro e wd2 ⟨rfl, hb⟩
 replace HB := am (below_step HB.out hb)
 clear hb
 refine ⟨_, rfl, ?_⟩
 refine hK.out _ _ ⟨(HB.out.cell (World.block_lt_of_cell? w6 _ G0.out)).trans G0.out, (HB.out.cell (World.block_lt_of_cell? w6 _ G1.out)).trans G1.out, (HB.out.cell (World.block_lt_of_cell? w6 _ K0.out)).trans K0.out, (HB.out.cell (World.block_lt_of_cell? w6 _ K1.out)).trans K1.out⟩ (fun hHeld => ?_)
 clear hK K
 refine nm ?_
 refine one_ (i := 7) (N := some 43) (bb 10 255) rfl rfl (one_of HT_.out (by kernel_rfl)) (by decide) (fun K hK => ?_)
 refine goes_ Try.func18 (by kernel_rfl) rfl #[.agg #[.slice A0 l0.length c0, .int .i64 m0]] (by rfl) rfl rfl (by (try simp only [List.map_toArray, List.map_cons, List.map_nil]); first | done | rfl) ?_
 with_reducible refine (hypercuberef1_Check.calls k A0 c0 l0 m0 q0 _ (Kd.C_below R0.out HB.out) HC0.out HQ0.out.2).mono ?_

 rintro e wd3 ⟨rfl, hb⟩
 replace HB := am (below_step HB.out hb)
 clear hb
 refine ⟨_, rfl, ?_⟩
 refine hK.out _ _ ⟨(HB.out.cell (World.block_lt_of_cell? w6 _ G0.out)).trans G0.out, (HB.out.cell (World.block_lt_of_cell? w6 _ G1.out)).trans G1.out, (HB.out.cell (World.block_lt_of_cell? w6 _ K0.out)).trans K0.out, (HB.out.cell (World.block_lt_of_cell? w6 _ K1.out)).trans K1.out⟩ (fun hHeld => ?_)
 clear hK K
 refine nm ?_
 refine pu (i := 8) (N := some 44) (bb 10 511) HT_ ?_
 refine pu (i := 9) (N := some 45) (bb 10 1023) HT_ ?_
 refine done_ (done_of HT_.out (by kernel_rfl)) ?_
 have HW6 := HB.out
 generalize wd3 = w7 at *
 have HKS := am (below_step HB6.out HW6)
 have R1a := am (Kd.C_below R1.out HW6)
 have G07 := am ((HW6.cell (World.block_lt_of_cell? w6 _ G0.out)).trans G0.out)
 have G17 := am ((HW6.cell (World.block_lt_of_cell? w6 _ G1.out)).trans G1.out)
 have HXD := am (And.intro HXC.out.1 (Kd.C_below HXC.out.2 HW6))
 have HW67 := am HW6
 clear HW6 HB hHeld HT_ HW_ K0 K1 HQ0 R0 R1
 go_wp2
 go_loopg [19] (l1.length + 1) (fun kq v19 w' => ∃ i : Nat, v19 = .int .i64 (i : Int) ∧ Aside0 (i + kq = l1.length + 1 ∧ i ≤ l1.length) ∧ Aside0 (Below w7.heap.size w7 w'))
 case atStart => exact ⟨0, rfl, ⟨by omega, by omega⟩, ⟨Below.refl _ _⟩⟩
 case round =>
 obtain ⟨i, rfl, HI, HS⟩ := hrel
 cases gk with
 | zero => exact absurd HI.out (by omega)
 | succ k1 =>
 by_cases hi : i < l1.length
 ·have hd1 : decide ((i : Int) < (l1.length : Int)) = true := decide_eq_true (by omega)
  have hd2 : decide (i < l1.length) = true := decide_eq_true hi
  have pi := eq_true (show (0 : Int) ≤ (i : Int) by omega)
  have qi := eq_true (show (i : Int) < (l1.length : Int) by omega)
  have qi2 := eq_true hi
  have hwi : wrap64 ((i : Int) + 1) = ((i + 1 : Nat) : Int) := by have := HL.out.2.1; unfold wrap64; omega
  have hlx : (rd_T33 l1 (i : Int)).f0.length ≤ 100 := by
   refine HL.out.2.2 _ ?_
   unfold rd_T33
   rw [Int.toNat_natCast, List.getD_eq_getElem?_getD, List.getElem?_eq_getElem hi]; exact List.getElem_mem hi
  obtain ⟨ad, B0, d0, B1, d1, rfl, x0, x1, ld0, g0, ld1, g1⟩   := at_T33 (Kd.C_below R1a.out HS.out) (i : Int) (by omega) (by omega)
  generalize rd_T33 l1 (i : Int) = x at *
  rw [Int.toNat_natCast] at x0 x1
  obtain ⟨qx, hqx⟩ := H7.out cards meas x.f0 x.f1 hlx
  have HQX := am hqx
  have X0 := am x0
  have X1 := am x1
  have HLD := am (And.intro (And.intro ld0 g0) (And.intro ld1 g1))
  have HHI := am hi
  have G0r := am ((HS.out.cell (World.block_lt_of_cell? w7 _ G07.out)).trans G07.out)
  have G1r := am ((HS.out.cell (World.block_lt_of_cell? w7 _ G17.out)).trans G17.out)
  have HXr := am (Kd.C_below HXD.out.2 HS.out)
  clear hi hlx hqx x0 x1 ld0 g0 ld1 g1
  generalize wr = wo at *
  go_wp2
  refine start_ (n := 13) (S := fun w' => w'.cell? ⟨gs, 0, none⟩ = some (.slice A14 cards.length c14) ∧ w'.cell? ⟨gs, 1, none⟩ = some (.int .i64 meas) ∧ w'.cell? (ad.add (i * 2)) = some (.slice B0 x.f0.length d0) ∧ w'.cell? ⟨(ad.add (i * 2)).block, (ad.add (i * 2)).off + 1, none⟩ = some (.slice B1 x.f1.length d1)) (ds := []) (bb 13 0) (by kernel_rfl) rfl rfl ⟨G0r.out, G1r.out, X0.out, X1.out⟩ (fun hHeld => ?_)
  refine with_tabW hypercubelaw1_RecChecks.tab11 hypercubelaw1_RecChecks.bits11 (fun HT_ HW_ => ?_)
  have HB := am (below_drew (Below.refl wo.heap.size wo))
  generalize wo.drew = wd at HB hHeld ⊢
  refine pu (i := 1) (N := some 53) (bb 13 2) HT_ ?_
  refine pu (i := 2) (N := some 54) (bb 13 6) HT_ ?_
  refine pu (i := 3) (N := some 55) (bb 13 14) HT_ ?_
  refine pu (i := 7) (N := some 59) (bb 13 142) HT_ ?_
  refine pu (i := 8) (N := some 60) (bb 13 398) HT_ ?_
  refine pu (i := 9) (N := some 61) (bb 13 910) HT_ ?_
  refine tk (i := 0) (N := some 52) (bb 13 911) HT_ HW_ hHeld ?_
  refine tk (i := 4) (N := some 56) (bb 13 927) HT_ HW_ hHeld ?_
  refine tk (i := 6) (N := some 58) (bb 13 991) HT_ HW_ hHeld ?_
  refine tk (i := 10) (N := some 62) (bb 13 2015) HT_ HW_ hHeld ?_
  refine one_ (i := 5) (N := some 57) (bb 13 2047) rfl rfl (one_of HT_.out (by kernel_rfl)) (by decide) (fun K hK => ?_)
  refine goes_ Try.func19 (by kernel_rfl) rfl #[.agg #[.slice A14 cards.length c14, .int .i64 meas], .agg #[.slice B0 x.f0.length d0, .slice B1 x.f1.length d1]] (by rfl) rfl rfl (by (try simp only [List.map_toArray, List.map_cons, List.map_nil]); first | done | rfl) ?_
  with_reducible refine (rec_Right.calls k A14 c14 cards meas B0 d0 x.f0 B1 d1 x.f1 qx _ (Kd.C_below HXr.out HB.out) HXD.out.1 (Kd.C_below HLD.out.1.2 HB.out) HLD.out.1.1 (Kd.C_below HLD.out.2.2 HB.out) HLD.out.2.1 HQX.out.1).mono ?_

  rintro e wd4 ⟨rfl, hb⟩
  replace HB := am (below_step HB.out hb)
  clear hb
  refine ⟨_, rfl, ?_⟩
  refine hK.out _ _ ⟨(HB.out.cell (World.block_lt_of_cell? wo _ G0r.out)).trans G0r.out, (HB.out.cell (World.block_lt_of_cell? wo _ G1r.out)).trans G1r.out, (HB.out.cell (World.block_lt_of_cell? wo _ X0.out)).trans X0.out, (HB.out.cell (World.block_lt_of_cell? wo _ X1.out)).trans X1.out⟩ (fun hHeld => ?_)
  clear hK K
  refine nm ?_
  refine one_ (i := 11) (N := some 63) (bb 13 4095) rfl rfl (one_of HT_.out (by kernel_rfl)) (by decide) (fun K hK => ?_)
  refine goes_ Try.func20 (by kernel_rfl) rfl #[.agg #[.slice A14 cards.length c14, .int .i64 meas], .agg #[.slice B0 x.f0.length d0, .slice B1 x.f1.length d1]] (by rfl) rfl rfl (by (try simp only [List.map_toArray, List.map_cons, List.map_nil]); first | done | rfl) ?_
  with_reducible refine (hypercuberef1_Right.calls k A14 c14 cards meas B0 d0 x.f0 B1 d1 x.f1 qx _ (Kd.C_below HXr.out HB.out) HXD.out.1 (Kd.C_below HLD.out.1.2 HB.out) HLD.out.1.1 (Kd.C_below HLD.out.2.2 HB.out) HLD.out.2.1 HQX.out.2).mono ?_

  rintro e wd5 ⟨rfl, hb⟩
  replace HB := am (below_step HB.out hb)
  clear hb
  refine ⟨_, rfl, ?_⟩
  refine hK.out _ _ ⟨(HB.out.cell (World.block_lt_of_cell? wo _ G0r.out)).trans G0r.out, (HB.out.cell (World.block_lt_of_cell? wo _ G1r.out)).trans G1r.out, (HB.out.cell (World.block_lt_of_cell? wo _ X0.out)).trans X0.out, (HB.out.cell (World.block_lt_of_cell? wo _ X1.out)).trans X1.out⟩ (fun hHeld => ?_)
  clear hK K
  refine nm ?_
  refine pu (i := 12) (N := some 64) (bb 13 8191) HT_ ?_
  refine done_ (done_of HT_.out (by kernel_rfl)) ?_
  have HSn := am (below_step HS.out HB.out)
  clear HB hHeld HT_ HW_
  go_wp2
  go_roundg k1
  case measure => omega
  case rel => exact ⟨i + 1, by first | rfl | simp [hwi], ⟨by have := HI.out; have := HHI.out; omega, by have := HHI.out; omega⟩, HSn⟩
 have hd1 : decide ((i : Int) < (l1.length : Int)) = false := decide_eq_false (by omega)
 have hd2 : decide (i < l1.length) = false := decide_eq_false hi
 have HY8 := am (And.intro HY6.out.1 (Kd.C_below HY6.out.2 (below_step HW67.out HS.out)))
 have HB68 := am (below_step HW67.out HS.out)
 have G08 := am ((HS.out.cell (World.block_lt_of_cell? w7 _ G07.out)).trans G07.out)
 have G18 := am ((HS.out.cell (World.block_lt_of_cell? w7 _ G17.out)).trans G17.out)
 have HXE := am (And.intro HXD.out.1 (Kd.C_below HXD.out.2 HS.out))
 clear hi HS HI G07 G17 HXD HW67 R1a HKS
 generalize wr = w8 at *
 go_wp2
 go_loopg [20] (rows.length + 1) (fun kq v20 w' => ∃ i : Nat, v20 = .int .i64 (i : Int) ∧ Aside0 (i + kq = rows.length + 1 ∧ i ≤ rows.length) ∧ Aside0 (Below w8.heap.size w8 w'))
 case atStart => exact ⟨0, rfl, ⟨by omega, by omega⟩, ⟨Below.refl _ _⟩⟩
 case round =>
 obtain ⟨i, rfl, HI, HS⟩ := hrel
 cases gk with
 | zero => exact absurd HI.out (by omega)
 | succ k2 =>
 by_cases hi : i < rows.length
 ·have hd1 : decide ((i : Int) < (rows.length : Int)) = true := decide_eq_true (by omega)
  have hd2 : decide (i < rows.length) = true := decide_eq_true hi
  have pi := eq_true (show (0 : Int) ≤ (i : Int) by omega)
  have qi := eq_true (show (i : Int) < (rows.length : Int) by omega)
  have qi2 := eq_true hi
  have hwi : wrap64 ((i : Int) + 1) = ((i + 1 : Nat) : Int) := by have := H9.out.2; unfold wrap64; omega
  have hqx := (H8.out (rd_T33 rows (i : Int)) (by
   unfold rd_T33
   rw [Int.toNat_natCast, List.getD_eq_getElem?_getD, List.getElem?_eq_getElem hi]; exact List.getElem_mem hi)).1
  obtain ⟨ad, B0, d0, B1, d1, rfl, x0, x1, ld0, g0, ld1, g1⟩   := at_T33 (Kd.C_below HY8.out.2 HS.out) (i : Int) (by omega) (by omega)
  generalize rd_T33 rows (i : Int) = x at *
  rw [Int.toNat_natCast] at x0 x1
  have HQX := am hqx
  have X0 := am x0
  have X1 := am x1
  have HLD := am (And.intro (And.intro ld0 g0) (And.intro ld1 g1))
  have HHI := am hi
  have G0r := am ((HS.out.cell (World.block_lt_of_cell? w8 _ G08.out)).trans G08.out)
  have G1r := am ((HS.out.cell (World.block_lt_of_cell? w8 _ G18.out)).trans G18.out)
  have HXr := am (Kd.C_below HXE.out.2 HS.out)
  clear hi hqx x0 x1 ld0 g0 ld1 g1
  generalize wr = wo at *
  go_wp2
  refine start_ (n := 7) (S := fun w' => w'.cell? ⟨gs, 0, none⟩ = some (.slice A14 cards.length c14) ∧ w'.cell? ⟨gs, 1, none⟩ = some (.int .i64 meas) ∧ w'.cell? (ad.add (i * 2)) = some (.slice B0 x.f0.length d0) ∧ w'.cell? ⟨(ad.add (i * 2)).block, (ad.add (i * 2)).off + 1, none⟩ = some (.slice B1 x.f1.length d1)) (ds := []) (bb 7 0) (by kernel_rfl) rfl rfl ⟨G0r.out, G1r.out, X0.out, X1.out⟩ (fun hHeld => ?_)
  refine with_tabW hypercubelaw1_RecChecks.tab16 hypercubelaw1_RecChecks.bits16 (fun HT_ HW_ => ?_)
  have HB := am (below_drew (Below.refl wo.heap.size wo))
  generalize wo.drew = wd at HB hHeld ⊢
  refine pu (i := 1) (N := some 72) (bb 7 2) HT_ ?_
  refine pu (i := 2) (N := some 73) (bb 7 6) HT_ ?_
  refine pu (i := 3) (N := some 74) (bb 7 14) HT_ ?_
  refine tk (i := 0) (N := some 71) (bb 7 15) HT_ HW_ hHeld ?_
  refine tk (i := 4) (N := some 75) (bb 7 31) HT_ HW_ hHeld ?_
  refine one_ (i := 5) (N := some 76) (bb 7 63) rfl rfl (one_of HT_.out (by kernel_rfl)) (by decide) (fun K hK => ?_)
  refine goes_ Try.func19 (by kernel_rfl) rfl #[.agg #[.slice A14 cards.length c14, .int .i64 meas], .agg #[.slice B0 x.f0.length d0, .slice B1 x.f1.length d1]] (by rfl) rfl rfl (by (try simp only [List.map_toArray, List.map_cons, List.map_nil]); first | done | rfl) ?_
  with_reducible refine (rec_Right.calls k A14 c14 cards meas B0 d0 x.f0 B1 d1 x.f1 true _ (Kd.C_below HXr.out HB.out) HXE.out.1 (Kd.C_below HLD.out.1.2 HB.out) HLD.out.1.1 (Kd.C_below HLD.out.2.2 HB.out) HLD.out.2.1 HQX.out).mono ?_

  rintro e wd6 ⟨rfl, hb⟩
  replace HB := am (below_step HB.out hb)
  clear hb
  refine ⟨_, rfl, ?_⟩
  refine hK.out _ _ ⟨(HB.out.cell (World.block_lt_of_cell? wo _ G0r.out)).trans G0r.out, (HB.out.cell (World.block_lt_of_cell? wo _ G1r.out)).trans G1r.out, (HB.out.cell (World.block_lt_of_cell? wo _ X0.out)).trans X0.out, (HB.out.cell (World.block_lt_of_cell? wo _ X1.out)).trans X1.out⟩ (fun hHeld => ?_)
  clear hK K
  refine nm ?_
  refine pu (i := 6) (N := some 77) (bb 7 127) HT_ ?_
  refine done_ (done_of HT_.out (by kernel_rfl)) ?_
  have HSn := am (below_step HS.out HB.out)
  clear HB hHeld HT_ HW_
  go_wp2
  go_roundg k2
  case measure => omega
  case rel => exact ⟨i + 1, by first | rfl | simp [hwi], ⟨by have := HI.out; have := HHI.out; omega, by have := HHI.out; omega⟩, HSn⟩
 have hd1 : decide ((i : Int) < (rows.length : Int)) = false := decide_eq_false (by omega)
 have hd2 : decide (i < rows.length) = false := decide_eq_false hi
 have HB69 := am (below_step HB68.out HS.out)
 have HY9 := am (And.intro HY8.out.1 (Kd.C_below HY8.out.2 HS.out))
 have HX9 := am (Kd.R_below HX6.out HB69.out)
 have HGS9 := am (blk_below HGS.out HB69.out)
 have HB9 := am (below_step HB6.out HB69.out)
 have HL9 := am (blk_lt HGS.out)
 clear hi HS HI HY8 HB68 G08 G18 HXE HX6 HGS HY6 HKB6 HXC G0 G1 H5
 generalize wr = w9 at *
 by_cases hn : 0 < rows.length
 rotate_left
 ·have hn1 : decide ((rows.length : Int) > 0) = false := decide_eq_false (by omega)
  have hn2 : decide (0 < (rows.length : Int)) = false := decide_eq_false (by omega)
  have hn3 : decide (0 < rows.length) = false := decide_eq_false hn
  have hnil := eq_true (show rows = [] from List.eq_nil_of_length_eq_zero (by omega))
  have HGSr := HGS9
  have HXr := HX9
  have HBr := HB9
  clear hn HX9 HGS9 HB9 HY9 HB69
  generalize w9 = W at *
  have HXCr := am (Kd.R_reads' HXr.out).2
  obtain ⟨js, hjs, hws⟩ := H10.out a6 5 (by decide) (by decide)
  go_wp2_with (fail)
  refine (hypercubelaw1_within.calls a6 5 (js : Int) W hws).mono ?_
  rintro e wr1 ⟨rfl, hd⟩
  rename_i K5 hK5 K6 hK6 K7 hK7
  have HBr1 := am (below_step HBr.out hd.below)
  have HGSr1 := am (blk_below HGSr.out hd.below)
  have HXr1 := am (Kd.R_below HXr.out hd.below)
  clear hd hws HBr HGSr HXr HXCr
  have H40 : Aside0 (∀ {z16 z18 z19 z20 z21 z22 z23 z24 z25 z26 z27 z28 z29 z30 z31 z32 z33 z34 z35 z36 z37 z38 z39 z40 z41 z42 z43 z44 z45 z46 z47 z48 z49 z50 z51 z52 z53 z54 z55 z56 z57 z58 z59 z60 z61 z62 z63 z64 z65 z66 z67 z68 z69 z70 z71 z72 z73 z74 z75 z76 z77 z78 z79 z80 z81 z82 z83 z84 z85 z86 z87 z88 z89 z90 z91 z92 z93 z94 z95 z96 z97 z98 z99 z100 z101 z102 z103 z104 z105 z106 z107 z108 z109 z110 z111 z112 z113 z114 z115 z116 z117 z118 z119 z120 z121 z122 z123 z124 z125 z126 z127 z128 z129 z130 z131 z132 z133 z134 z135 z136 z137 z138 z139 z140 z141 z142 z143 z144 z145 z146 z147 z148 z149 z150 z151 z152 z153 z154 z155 z156 z157 z158 z159 z160 z161 z162 z163 z164 z165 z166 z167 z168 z169 z170 z171 z172 z173 z174 z175 z176 z177 z178 z179 z180 z181 z182 : Value} {W : World} {cs : List Int} {ms : Int} {A : Option Addr} {c : Nat}, (cs.length ≤ 100 ∧ cs.length ≤ c ∧ Kd.C (Kd.int .i64) W A cs.length cs ∧ (W.heap[gs]? = some (.cells #[.slice A cs.length c, .int .i64 ms] 24 (0, 0))) ∧ Below w.heap.size w W) → K5 { tmps := #[.agg #[.slice A0 l0.length c0, .int .i64 m0], .slice A1 l1.length c1, .int .i64 a2, .slice A3 l3.length c3, .int .i64 a4, .slice A5 l5.length c5, .int .i64 a6, .int .i64 a7, .pointer (some ⟨gb, 0, none⟩), undef, undef, undef, undef, undef, undef, undef, z16, .pointer (some ⟨gs, 0, none⟩), z18, z19, z20, z21, z22, z23, z24, z25, z26, z27, z28, z29, z30, z31, z32, z33, z34, z35, z36, z37, z38, z39, z40, z41, z42, z43, z44, z45, z46, z47, z48, z49, z50, z51, z52, z53, z54, z55, z56, z57, z58, z59, z60, z61, z62, z63, z64, z65, z66, z67, z68, z69, z70, z71, z72, z73, z74, z75, z76, z77, z78, z79, z80, z81, z82, z83, z84, z85, z86, z87, z88, z89, z90, z91, z92, z93, z94, z95, z96, z97, z98, z99, z100, z101, z102, z103, z104, z105, z106, z107, z108, z109, z110, z111, z112, z113, z114, z115, z116, z117, z118, z119, z120, z121, z122, z123, z124, z125, z126, z127, z128, z129, z130, z131, z132, z133, z134, z135, z136, z137, z138, z139, z140, z141, z142, z143, z144, z145, z146, z147, z148, z149, z150, z151, z152, z153, z154, z155, z156, z157, z158, z159, z160, z161, z162, z163, z164, z165, z166, z167, z168, z169, z170, z171, z172, z173, z174, z175, z176, z177, z178, z179, z180, z181, z182], defers := [] } W) := by
   constructor
   intro z16 z18 z19 z20 z21 z22 z23 z24 z25 z26 z27 z28 z29 z30 z31 z32 z33 z34 z35 z36 z37 z38 z39 z40 z41 z42 z43 z44 z45 z46 z47 z48 z49 z50 z51 z52 z53 z54 z55 z56 z57 z58 z59 z60 z61 z62 z63 z64 z65 z66 z67 z68 z69 z70 z71 z72 z73 z74 z75 z76 z77 z78 z79 z80 z81 z82 z83 z84 z85 z86 z87 z88 z89 z90 z91 z92 z93 z94 z95 z96 z97 z98 z99 z100 z101 z102 z103 z104 z105 z106 z107 z108 z109 z110 z111 z112 z113 z114 z115 z116 z117 z118 z119 z120 z121 z122 z123 z124 z125 z126 z127 z128 z129 z130 z131 z132 z133 z134 z135 z136 z137 z138 z139 z140 z141 z142 z143 z144 z145 z146 z147 z148 z149 z150 z151 z152 z153 z154 z155 z156 z157 z158 z159 z160 z161 z162 z163 z164 z165 z166 z167 z168 z169 z170 z171 z172 z173 z174 z175 z176 z177 z178 z179 z180 z181 z182 W cs ms A c ⟨hlc, hcc, hC, hgs, hB⟩
   obtain ⟨qy, hqy⟩ := H6.out cs ms hlc
   have HQY := am hqy
   have HCr := am (And.intro hcc hC)
   have HGSq := am hgs
   have HBq := am hB
   have G0 := am (bc HGSq 0)
   have G1 := am (bc HGSq 1)
   clear hlc hcc hC hgs hB hqy hK6 hK7
   refine hK5 _ _ ?_
   clear hK5
   go_wp2
   refine start_ (n := 6) (S := fun w' => w'.cell? ⟨gs, 0, none⟩ = some (.slice A cs.length c) ∧ w'.cell? ⟨gs, 1, none⟩ = some (.int .i64 ms)) (ds := []) (bb 6 0) (by kernel_rfl) rfl rfl ⟨G0.out, G1.out⟩ (fun hHeld => ?_)
   refine with_tabW hypercubelaw1_RecChecks.tab40 hypercubelaw1_RecChecks.bits40 (fun HT_ HW_ => ?_)
   have HB := am (below_drew (Below.refl W.heap.size W))
   generalize W.drew = wd at HB hHeld ⊢
   refine tk (i := 0) (N := some 178) (bb 6 1) HT_ HW_ hHeld ?_
   refine tk (i := 2) (N := some 180) (bb 6 5) HT_ HW_ hHeld ?_
   refine one_ (i := 1) (N := some 179) (bb 6 7) rfl rfl (one_of HT_.out (by kernel_rfl)) (by decide) (fun K hK => ?_)
   refine goes_ Try.func17 (by kernel_rfl) rfl #[.agg #[.slice A cs.length c, .int .i64 ms]] (by rfl) rfl rfl (by (try simp only [List.map_toArray, List.map_cons, List.map_nil]); first | done | rfl) ?_
   with_reducible refine (rec_Check.calls A c cs ms qy _ (Kd.C_below HCr.out.2 HB.out) HCr.out.1 HQY.out.1).mono ?_

   rintro e wd11 ⟨rfl, hb⟩
   replace HB := am (below_step HB.out hb)
   clear hb
   refine ⟨_, rfl, ?_⟩
   refine hK.out _ _ ⟨(HB.out.cell (World.block_lt_of_cell? W _ G0.out)).trans G0.out, (HB.out.cell (World.block_lt_of_cell? W _ G1.out)).trans G1.out⟩ (fun hHeld => ?_)
   clear hK K
   refine nm ?_
   refine one_ (i := 3) (N := some 181) (bb 6 15) rfl rfl (one_of HT_.out (by kernel_rfl)) (by decide) (fun K hK => ?_)
   refine goes_ Try.func18 (by kernel_rfl) rfl #[.agg #[.slice A cs.length c, .int .i64 ms]] (by rfl) rfl rfl (by (try simp only [List.map_toArray, List.map_cons, List.map_nil]); first | done | rfl) ?_
   with_reducible refine (hypercuberef1_Check.calls k A c cs ms qy _ (Kd.C_below HCr.out.2 HB.out) HCr.out.1 HQY.out.2).mono ?_

   rintro e wd12 ⟨rfl, hb⟩
   replace HB := am (below_step HB.out hb)
   clear hb
   refine ⟨_, rfl, ?_⟩
   refine hK.out _ _ ⟨(HB.out.cell (World.block_lt_of_cell? W _ G0.out)).trans G0.out, (HB.out.cell (World.block_lt_of_cell? W _ G1.out)).trans G1.out⟩ (fun hHeld => ?_)
   clear hK K
   refine nm ?_
   refine pu (i := 4) (N := some 182) (bb 6 31) HT_ ?_
   refine pu (i := 5) (N := some 16) (bb 6 63) HT_ ?_
   refine done_ (done_of HT_.out (by kernel_rfl)) ?_
   have HBn := HB.out
   clear HB hHeld HT_ HW_
   go_wp2
   go_ret
   exact ⟨by first | rfl | (simp; done), below_step HBq.out HBn⟩
  clear hK5
  have g0 := bc HGSr1 0
  have g1 := bc HGSr1 1
  have fr0 := blk_frozen HGSr1.out 0
  have fr1 := blk_frozen HGSr1.out 1
  obtain ⟨ji, hji⟩ : ∃ ji : Int, ji = (js : Int) := ⟨_, rfl⟩
  rw [← hji]
  rcases (show ji = 0 ∨ ji = 1 ∨ ji = 2 ∨ ji = 3 ∨ ji = 4 by omega) with rfl | rfl | rfl | rfl | rfl
  ·clear hji hjs
   obtain ⟨jv, hjv, hwv⟩ := H10.out a7 5 (by decide) (by decide)
   have HWV := am (show hypercubelaw1_within.f a7 5 = some (jv : Int) from hwv)
   obtain ⟨gc, cc, ec, hgc1, hgc2, cellsc, hcc⟩ := Kd.R_form HXr1.out H9.out.1.1
   injection ec with ec1 ec2 ec3
   obtain ⟨adc, rfl⟩ : ∃ adc, A14 = some adc := ⟨_, ec1⟩
   injection ec1 with ec1
   have HDC := am ec1
   have HCG : Aside0 (gc < w4.heap.size) := ⟨HXr1.out.1 gc (by rw [ec1]; simp [Value.ownBlock])⟩
   have HCC := am (And.intro hgc1 hcc)
   have HCK : Aside0 (0 < cellsc.size) := ⟨by
    have hr := (Kd.R_reads' HXr1.out).2.2
    rw [ec1] at hr
    obtain ⟨_, e6, hx6⟩ := Kd.at_int hr 0 (by decide) (by have := H9.out.1.1; omega)
    cases e6
    rw [show ((⟨gc, 0, none⟩ : Addr).add (0 : Int).toNat) = ⟨gc, 0, none⟩ by simp [Addr.add], blk_cell hcc] at hx6
    exact (Array.getElem?_eq_some_iff.1 hx6).1⟩
   have G0 := am g0
   have pc := eq_true (show (0 : Int) < (cards.length : Int) by have := H9.out.1.1; omega)
   have pc2 := eq_true H9.out.1.1
   have pc3 := eq_false (show ¬ cards = [] by intro h; have := H9.out.1.1; rw [h] at this; exact absurd this (by decide))
   have pj := eq_true (show (0 : Int) ≤ (jv : Int) by omega)
   have qj := eq_true (show (jv : Int) < 5 by omega)
   have qj2 := eq_true hjv
   have HJV := am hjv
   clear hjv hwv ec2 ec3 ec1 hgc1 hgc2 hcc g0 g1 fr0 fr1
   go_wp2
   refine start_ (n := 10) (S := fun w' => w'.cell? ⟨gs, 0, none⟩ = some (.slice (some adc) cards.length c14) ∧ True) (ds := [9]) (bb 10 0) (by kernel_rfl) rfl rfl ⟨G0.out, trivial⟩ (fun hHeld => ?_)
   refine with_tabW hypercubelaw1_RecChecks.tab33 hypercubelaw1_RecChecks.bits33 (fun HT_ HW_ => ?_)
   have HB := below_drew (Below.refl wr1.heap.size wr1)
   generalize wr1.drew = wd at HB hHeld ⊢
   refine pu (i := 0) (N := some 148) (bb 10 1) HT_ ?_
   refine tk (i := 1) (N := some 149) (bb 10 3) HT_ HW_ hHeld ?_
   refine pu (i := 2) (N := some 150) (bb 10 7) HT_ ?_
   refine pu (i := 4) (N := some 152) (bb 10 23) HT_ ?_
   refine join_ (σ := (Addr) × (Nat)) 3 (bb 10 127) (fun s_ => [(151, (.slice (some s_.1) 5 s_.2)), (153, .int .i64 (jv : Int)), (154, .pointer (some (Addr.add s_.1 jv)))]) (fun s_ w' => Below wr1.heap.size wr1 w' ∧ Kd.R (Kd.int .i64) 3 w' wr1.heap.size (fun _ => True) (.slice (some s_.1) 5 s_.2) [0, 1, 16, 17, a7]) ?_ ?_
   rotate_left
   ·intro ST11
    refine join_ (σ := (Addr) × (Nat)) 5 (bb 10 55) (fun s_ => [(153, .int .i64 (jv : Int))]) (fun s_ w' => Below wr1.heap.size wr1 w') ?_ ?_
    ·rintro ⟨ad5, q5⟩ W HB
     try dsimp only at *
     refine norm_ (a' := ?_) ?_ ?_
     rotate_left
     ·show putAll _ _ = _
      (first | (simp only [putAll, Act.put, List.setIfInBounds_toArray, List.set_cons_zero, List.set_cons_succ, i64_w, i32_w]; done) | (simp only [putAll, Act.put, List.setIfInBounds_toArray, List.set_cons_zero, List.set_cons_succ, i64_w, i32_w]; rfl))
     refine one_ (i := 3) (N := some 151) (bb 10 63) rfl rfl (one_of HT_.out (by kernel_rfl)) (by decide) (fun K hK => ?_)
     refine Kd.R_lit_step (Kd.int .i64) _ 3 ?hg (N := 151) ?hd (xs := ([0, 1, 16, 17, a7] : List Int)) (inner := [.int .i64 (0), .int .i64 (1), .int .i64 (16), .int .i64 (17), .int .i64 (a7)]) (ok := fun _ => True) (okp := fun _ => True) ?hr ?hp (fun _ hk => hk) trivial (Below.refl _ _) (Nat.le_refl _) (by simp) ?_; (case hd => rfl); (case hg => rfl); (case hr => first | (go_simp; done) | (go_simp; rfl)); (case hp => exact (Reps.one (show Kd.M (Kd.int .i64) _ _ _ (0) [.int .i64 (0)] from rfl) (Reps.one (show Kd.M (Kd.int .i64) _ _ _ (1) [.int .i64 (1)] from rfl) (Reps.one (show Kd.M (Kd.int .i64) _ _ _ (16) [.int .i64 (16)] from rfl) (Reps.one (show Kd.M (Kd.int .i64) _ _ _ (17) [.int .i64 (17)] from rfl) (Reps.one (show Kd.M (Kd.int .i64) _ _ _ (a7) [.int .i64 (a7)] from rfl) (Reps.none _ _)))))))
     intro s W1 ho hb hg_ hnew_
     clear hg_ hnew_
     have HB1 := below_step HB hb
     obtain ⟨As, cs, rfl⟩ := Kd.R_slice ho
     obtain ⟨ads, e5, _⟩ := Kd.at_int (Kd.R_reads' ho).2.2 0 (by decide) (by simp)
     cases e5
     refine hK.out _ _ ⟨(Below.cell HB1 (World.block_lt_of_cell? wr1 _ G0.out)).trans G0.out, trivial⟩ (fun hHeld => ?_)
     clear hK K
     refine nm ?_
     refine pu (i := 6) (N := some 154) (bb 10 127) HT_ ?_
     have hN := ST11 (ads, cs) W1 ⟨HB1, Kd.R_lower ho HB.size⟩
     refine norm_ ?_ hN
     show _ = putAll _ _
     (first | (simp only [putAll, Act.put, List.setIfInBounds_toArray, List.set_cons_zero, List.set_cons_succ, i64_w, i32_w]; done) | (simp only [putAll, Act.put, List.setIfInBounds_toArray, List.set_cons_zero, List.set_cons_succ, i64_w, i32_w]; rfl))
    intro ST01
    refine join_ (σ := (Addr) × (Nat)) 5 (bb 10 31) (fun s_ => [(151, (.slice (some s_.1) 5 s_.2))]) (fun s_ w' => Below wr1.heap.size wr1 w' ∧ Kd.R (Kd.int .i64) 3 w' wr1.heap.size (fun _ => True) (.slice (some s_.1) 5 s_.2) [0, 1, 16, 17, a7]) ?_ ?_
    ·rintro ⟨ad5, q5⟩ W ⟨HB, HL⟩
     try dsimp only at *
     refine norm_ (a' := ?_) ?_ ?_
     rotate_left
     ·show putAll _ _ = _
      (first | (simp only [putAll, Act.put, List.setIfInBounds_toArray, List.set_cons_zero, List.set_cons_succ, i64_w, i32_w]; done) | (simp only [putAll, Act.put, List.setIfInBounds_toArray, List.set_cons_zero, List.set_cons_succ, i64_w, i32_w]; rfl))
     refine one_ (i := 5) (N := some 153) (bb 10 63) rfl rfl (one_of HT_.out (by kernel_rfl)) (by decide) (fun K hK => ?_)
     refine goes_ Try.func21 (by kernel_rfl) rfl #[.int .i64 a7, .int .i64 5] (by rfl) rfl rfl (by (try simp only [List.map_toArray, List.map_cons, List.map_nil]); first | done | rfl) ?_
     with_reducible refine (hypercubelaw1_within.calls a7 5 (jv : Int) _ HWV.out).mono ?_
     rintro e W1 ⟨rfl, hd⟩
     refine ⟨_, rfl, ?_⟩
     have hb := hd.below
     clear hd
     have HB1 := below_step HB hb
     refine hK.out _ _ ⟨(Below.cell HB1 (World.block_lt_of_cell? wr1 _ G0.out)).trans G0.out, trivial⟩ (fun hHeld => ?_)
     clear hK K
     refine nm ?_
     refine pu (i := 6) (N := some 154) (bb 10 127) HT_ ?_
     have hN := ST11 (ad5, q5) W1 ⟨HB1, Kd.R_below HL hb⟩
     refine norm_ ?_ hN
     show _ = putAll _ _
     (first | (simp only [putAll, Act.put, List.setIfInBounds_toArray, List.set_cons_zero, List.set_cons_succ, i64_w, i32_w]; done) | (simp only [putAll, Act.put, List.setIfInBounds_toArray, List.set_cons_zero, List.set_cons_succ, i64_w, i32_w]; rfl))
    intro ST10
    generalize wd = W at *
    refine two_ (i := 3) (j := 5) (Ni := some 151) (Nj := some 153) (bb 10 31) (bb 10 55) rfl rfl rfl rfl (two_of HT_.out (by kernel_rfl)) (by decide) (by decide) (fun K hK => ?_) (fun K hK => ?_)
    ·refine Kd.R_lit_step (Kd.int .i64) _ 3 ?hg (N := 151) ?hd (xs := ([0, 1, 16, 17, a7] : List Int)) (inner := [.int .i64 (0), .int .i64 (1), .int .i64 (16), .int .i64 (17), .int .i64 (a7)]) (ok := fun _ => True) (okp := fun _ => True) ?hr ?hp (fun _ hk => hk) trivial (Below.refl _ _) (Nat.le_refl _) (by simp) ?_; (case hd => rfl); (case hg => rfl); (case hr => first | (go_simp; done) | (go_simp; rfl)); (case hp => exact (Reps.one (show Kd.M (Kd.int .i64) _ _ _ (0) [.int .i64 (0)] from rfl) (Reps.one (show Kd.M (Kd.int .i64) _ _ _ (1) [.int .i64 (1)] from rfl) (Reps.one (show Kd.M (Kd.int .i64) _ _ _ (16) [.int .i64 (16)] from rfl) (Reps.one (show Kd.M (Kd.int .i64) _ _ _ (17) [.int .i64 (17)] from rfl) (Reps.one (show Kd.M (Kd.int .i64) _ _ _ (a7) [.int .i64 (a7)] from rfl) (Reps.none _ _)))))))
     intro s W1 ho hb hg_ hnew_
     clear hg_ hnew_
     have HB1 := below_step HB hb
     obtain ⟨As, cs, rfl⟩ := Kd.R_slice ho
     obtain ⟨ads, e5, _⟩ := Kd.at_int (Kd.R_reads' ho).2.2 0 (by decide) (by simp)
     cases e5
     refine hK.out _ _ ⟨(Below.cell HB1 (World.block_lt_of_cell? wr1 _ G0.out)).trans G0.out, trivial⟩ (fun hHeld => ?_)
     clear hK K
     refine nm ?_
     have hN := ST10 (ads, cs) W1 ⟨HB1, Kd.R_lower ho HB.size⟩
     refine norm_ ?_ hN
     show _ = putAll _ _
     (first | (simp only [putAll, Act.put, List.setIfInBounds_toArray, List.set_cons_zero, List.set_cons_succ, i64_w, i32_w]; done) | (simp only [putAll, Act.put, List.setIfInBounds_toArray, List.set_cons_zero, List.set_cons_succ, i64_w, i32_w]; rfl))
    ·refine goes_ Try.func21 (by kernel_rfl) rfl #[.int .i64 a7, .int .i64 5] (by rfl) rfl rfl (by (try simp only [List.map_toArray, List.map_cons, List.map_nil]); first | done | rfl) ?_
     with_reducible refine (hypercubelaw1_within.calls a7 5 (jv : Int) _ HWV.out).mono ?_
     rintro e W1 ⟨rfl, hd⟩
     refine ⟨_, rfl, ?_⟩
     have hb := hd.below
     clear hd
     have HB1 := below_step HB hb
     refine hK.out _ _ ⟨(Below.cell HB1 (World.block_lt_of_cell? wr1 _ G0.out)).trans G0.out, trivial⟩ (fun hHeld => ?_)
     clear hK K
     refine nm ?_
     have hN := ST01 (⟨0, 0, none⟩, 0) W1 (HB1)
     refine norm_ ?_ hN
     show _ = putAll _ _
     (first | (simp only [putAll, Act.put, List.setIfInBounds_toArray, List.set_cons_zero, List.set_cons_succ, i64_w, i32_w]; done) | (simp only [putAll, Act.put, List.setIfInBounds_toArray, List.set_cons_zero, List.set_cons_succ, i64_w, i32_w]; rfl))
   rintro ⟨ad5, q5⟩ W ⟨HB, HL⟩
   try dsimp only at *
   refine norm_ (a' := ?_) ?_ ?_
   rotate_left
   ·show putAll _ _ = _
    (first | (simp only [putAll, Act.put, List.setIfInBounds_toArray, List.set_cons_zero, List.set_cons_succ, i64_w, i32_w]; done) | (simp only [putAll, Act.put, List.setIfInBounds_toArray, List.set_cons_zero, List.set_cons_succ, i64_w, i32_w]; rfl))
   refine one_ (i := 7) (N := some 155) (bb 10 255) rfl rfl (one_of HT_.out (by kernel_rfl)) (by decide) (fun K hK => ?_)
   obtain ⟨_, e6, hx6⟩ := Kd.at_int (Kd.R_reads' HL).2.2 (jv : Int) (by omega) (by have := HJV.out; simp only [List.length_cons, List.length_nil]; omega)
   cases e6
   rw [Int.toNat_natCast] at hx6
   generalize rd [0, 1, 16, 17, a7] (jv : Int) = y at hx6
   refine value_ (v := .int .i64 y) (w1 := W) rfl rfl (by go_simp; first | done | rfl) ?_
   clear hx6
   refine hK.out _ _ ⟨(Below.cell HB (World.block_lt_of_cell? wr1 _ G0.out)).trans G0.out, trivial⟩ (fun hHeld => ?_)
   clear hK K
   refine nm ?_
   refine pu (i := 8) (N := some 156) (bb 10 511) HT_ ?_
   refine last_ (i := 9) (N := none) (bb 10 1023) rfl rfl (one_of HT_.out (by kernel_rfl)) (by decide) (fun K hK => ?_)
   refine skip_ (w1 := W.setCell ⟨gc, 0, none⟩ (.int .i64 y)) rfl rfl (int_runK (t := 3) (p := .tmp 156) (x := .tmp 155) rfl (blk_below HCC.out.2 HB) HCK.out (congrArg (fun q => Value.pointer (some q)) HDC.out) rfl (by rfl)) ?_
   refine hK.out _ _ ?_
   clear hK K
   refine done_ (done_of HT_.out (by kernel_rfl)) ?_
   have hKW := Kd.R_below HXr1.out HB
   rw [HDC.out] at hKW
   have hx0 : W.cell? ⟨gc, 0, none⟩ = some (.int .i64 (rd cards 0)) := by
    obtain ⟨_, e6, hx6⟩ := Kd.at_int (Kd.R_reads' hKW).2.2 0 (by decide) (by have := H9.out.1.1; omega)
    cases e6
    rw [← show ((⟨gc, 0, none⟩ : Addr).add (0 : Int).toNat) = ⟨gc, 0, none⟩ by simp [Addr.add]]; exact hx6
   have hseg := (Kd.R_seg hKW (0 : Int) (by decide) (by have := H9.out.1.1; omega) (c := [.int .i64 (rd cards 0)]) (seg := [.int .i64 y]) (j := 0) rfl (fun j u hu => by
    rcases j with _ | j
    ·injection hu with hu; rw [← hu]; exact hx0
    ·simp at hu) (Nat.le_refl 1) (x' := y) (okp := fun _ => False) rfl (fun _ hk => hk.elim)).1
   have HKz := am (show Kd.R (Kd.int .i64) 3 (W.setCell ⟨gc, 0, none⟩ (.int .i64 y)) w.heap.size (fun k_ => k_ < w4.heap.size) (.slice (some ⟨gc, 0, none⟩) (cards.set 0 y).length c14) (cards.set 0 y) by rw [List.length_set]; exact hseg)
   rw [show (some (⟨gc, 0, none⟩ : Addr)) = some adc from congrArg some HDC.out.symm] at HKz
   have HGz := am ((Below.heap_setCell W ⟨gc, 0, none⟩ (.int .i64 y) gs (by have := HCG.out; have := HGL.out; show gs ≠ gc; omega)).trans (blk_below HGSr1.out HB))
   have HBz := am (show Below w.heap.size w (W.setCell ⟨gc, 0, none⟩ (.int .i64 y)) from below_set (below_step HBr1.out HB) HCC.out.1)
   rw [show Value.slice (some adc) cards.length c14 = .slice (some adc) (cards.set 0 y).length c14 by rw [List.length_set]] at HGz
   clear hKW hx0 hseg HL HB hHeld HT_ HW_
   generalize W.setCell ⟨gc, 0, none⟩ (.int .i64 y) = wz at *
   go_wp2
   exact H40.out ⟨by rw [List.length_set]; have := H9.out.1.2; omega, by rw [List.length_set]; exact (Kd.R_reads' HXr1.out).2.1, (Kd.R_reads' HKz.out).2.2, HGz.out, HBz.out⟩
  ·clear hji hjs
   obtain ⟨jv, hjv, hwv⟩ := H10.out a7 5 (by decide) (by decide)
   have pj := eq_true (show (0 : Int) ≤ (jv : Int) by omega)
   have qj := eq_true (show (jv : Int) < 5 by omega)
   have qj2 := eq_true hjv
   have HJV := am hjv
   go_wp2_with (first | ((with_reducible refine gate_dst (N := 160) rfl ?_); refine Kd.R_lit (Kd.int .i64) _ 3 ?hg (N := 160) ?hd (xs := ([-1, 0, 2, 3, a7] : List Int)) (inner := [.int .i64 (-1), .int .i64 (0), .int .i64 (2), .int .i64 (3), .int .i64 (a7)]) (ok := fun _ => True) (okp := fun _ => True) ?hr ?hp (fun _ hk => hk) trivial (Below.refl _ _) (Nat.le_refl _) (by simp) ?_; (case hd => rfl); (case hg => rfl); (case hr => first | (go_simp; done) | (go_simp; rfl)); (case hp => exact (Reps.one (show Kd.M (Kd.int .i64) _ _ _ (-1) [.int .i64 (-1)] from rfl) (Reps.one (show Kd.M (Kd.int .i64) _ _ _ (0) [.int .i64 (0)] from rfl) (Reps.one (show Kd.M (Kd.int .i64) _ _ _ (2) [.int .i64 (2)] from rfl) (Reps.one (show Kd.M (Kd.int .i64) _ _ _ (3) [.int .i64 (3)] from rfl) (Reps.one (show Kd.M (Kd.int .i64) _ _ _ (a7) [.int .i64 (a7)] from rfl) (Reps.none _ _))))))); intro vl wA ho hb hg_ hnew_; obtain ⟨Al, cl, rfl⟩ := Kd.R_slice ho; have HLa := am (Kd.R_reads' ho).2.2; have HBa := am hb; obtain ⟨_, e7, _⟩ := Kd.at_int HLa.out 0 (by decide) (by simp); cases e7; clear ho hb hg_ hnew_))
   refine (hypercubelaw1_within.calls a7 5 (jv : Int) wA hwv).mono ?_
   rintro e wB ⟨rfl, hd⟩
   obtain ⟨_, e6, hx6⟩ := Kd.at_int (Kd.C_below HLa.out hd.below) (jv : Int) (by omega) (by have := HJV.out; simp only [List.length_cons, List.length_nil]; omega)
   cases e6
   rw [Int.toNat_natCast] at hx6
   generalize rd [-1, 0, 2, 3, a7] (jv : Int) = y at hx6
   have HBb := am (below_step HBa.out hd.below)
   have hgb := blk_below HGSr1.out HBb.out
   have HGb := am hgb
   have g1 := (blk_cell hgb 1).trans rfl
   have fr1 := blk_frozen hgb 1
   clear hd hwv hgb
   go_wp2
   have HBz := below_step HBr1.out (show Below wr1.heap.size wr1 wB from HBb.out)
   exact H40.out ⟨by have := H9.out.1.2; omega, (Kd.R_reads' HXr1.out).2.1, (Kd.R_reads' (show Kd.R (Kd.int .i64) 3 (wB.setCell ⟨gs, 1, none⟩ (.int .i64 y)) w.heap.size (fun k => k < w4.heap.size) (.slice A14 cards.length c14) cards from Kd.R_far (Kd.R_below HXr1.out HBb.out) (fun k hk => by have := HGL.out; show k ≠ gs; omega) _)).2.2, blk_put HGb.out 1 _ rfl, below_set HBz HGW.out⟩
  ·clear hji hjs
   have HXq := am (show Kd.R (Kd.int .i64) 3 wr1 w.heap.size (fun k => k ≠ gs) (.slice A14 cards.length c14) cards from Kd.R_mono HXr1.out (fun k hk => by have := HGL.out; omega))
   have HGX' := am (blk_lt HGSr1.out)
   go_wp2_with (first
   | ((with_reducible refine gate_dst (N := 170) rfl ?_); refine Kd.R_lit (Kd.int .i64) _ 3 ?hg (N := 170) ?hd (xs := ([2, 2] : List Int)) (inner := [.int .i64 (2), .int .i64 (2)]) (ok := fun _ => True) (okp := fun _ => True) ?hr ?hp (fun _ hk => hk) trivial (Below.refl _ _) (Nat.le_refl _) (by simp) ?_; (case hd => rfl); (case hg => rfl); (case hr => first | (go_simp; done) | (go_simp; rfl)); (case hp => exact (Reps.one (show Kd.M (Kd.int .i64) _ _ _ (2) [.int .i64 (2)] from rfl) (Reps.one (show Kd.M (Kd.int .i64) _ _ _ (2) [.int .i64 (2)] from rfl) (Reps.none _ _)))); intro vl wA ho hb hg_ hnew_; obtain ⟨Al, cl, rfl⟩ := Kd.R_slice ho; have HLa := am (Kd.R_reads' ho).2.2; have HBa := am (below_step HBr1.out hb); have HXa := am (Kd.R_below HXq.out hb); have HGa := am (blk_below HGSr1.out hb); clear ho hb hg_ hnew_)
   | ((with_reducible refine gate_builtin (b := .append) (xs := #[.tmp 169, .tmp 170]) rfl ?_); (try (refine gate_guard (by rfl) ?_; dsimp only)); at_builtin; refine Kd.R_append_rows (Kd.int .i64) (w0 := w) w.heap.size rfl (.tmp 169) (.tmp 170) 22 3 (.int .i64 0) 8 rfl Try.underlying22 info3 rfl (by decide) (by omega) (.slice A14 cards.length c14) cards [2, 2] _ _ _ (fun k_ => k_ ≠ gs) (fun _ => False) rfl rfl ?aO ?aR (fun _ _ h => h) (fun _ h => h.elim) (fun k_ hk e => by have := blk_lt HGa.out; omega) ?aB ?aS ?aL ?_; (case aO => exact HXa.out); (case aR => exact HLa.out); (case aB => exact HBa.out); (case aS => exact HBa.out.size); (case aL => have := H9.out.1.2; simp only [List.length_cons, List.length_nil]; omega); intro vb wB ho hb hg hat; obtain ⟨kk, hkk⟩ : ∃ kk, kk = cards ++ [2, 2] := ⟨_, rfl⟩; rw [← hkk] at ho; have HLK : Aside0 (kk.length = cards.length + 2) := ⟨by rw [hkk]; simp⟩; obtain ⟨Ab, cb, rfl⟩ := Kd.R_slice ho; have HXb := am ho; have HBb := am hb; have HGb := am (blk_grown HGa.out hg (fun e => HXa.out.1 gs e.symm rfl)); have HGYb := am (blk_lt HGb.out); clear hkk; clear ho hb hg hat)
   | ((with_reducible refine gate_dst (N := 172) rfl ?_); refine Kd.R_lit (Kd.int .i64) _ 3 ?hg (N := 172) ?hd (xs := ([2] : List Int)) (inner := [.int .i64 (2)]) (ok := fun _ => True) (okp := fun _ => True) ?hr ?hp (fun _ hk => hk) trivial (Below.refl _ _) (Nat.le_refl _) (by simp) ?_; (case hd => rfl); (case hg => rfl); (case hr => first | (go_simp; done) | (go_simp; rfl)); (case hp => exact (Reps.one (show Kd.M (Kd.int .i64) _ _ _ (2) [.int .i64 (2)] from rfl) (Reps.none _ _))); intro vm wC ho hb hg_ hnew_; obtain ⟨Am, cm, rfl⟩ := Kd.R_slice ho; have HLc := am (Kd.R_reads' ho).2.2; have HBc := am (below_step HBb.out hb); have HXc := am (Kd.R_below HXb.out hb); have HGc := am (blk_below HGb.out hb); clear ho hb hg_ hnew_)
   | ((with_reducible refine gate_builtin (b := .append) (xs := #[.tmp 171, .tmp 172]) rfl ?_); (try (refine gate_guard (by rfl) ?_; dsimp only)); at_builtin; refine Kd.R_append_rows (Kd.int .i64) (w0 := w) w.heap.size rfl (.tmp 171) (.tmp 172) 22 3 (.int .i64 0) 8 rfl Try.underlying22 info3 rfl (by decide) (by omega) (.slice Ab kk.length cb) kk [2] _ _ _ (fun k_ => k_ ≠ gs) (fun _ => False) rfl rfl ?aO ?aR (fun _ _ h => h) (fun _ h => h.elim) (fun k_ hk e => by have := blk_lt HGc.out; omega) ?aB ?aS ?aL ?_; (case aO => exact HXc.out); (case aR => exact HLc.out); (case aB => exact HBc.out); (case aS => exact HBc.out.size); (case aL => have := H9.out.1.2; have := HLK.out; simp only [List.length_cons, List.length_nil]; omega); intro vd wD ho hb hg hat; obtain ⟨kj, hkj⟩ : ∃ kj, kj = kk ++ [2] := ⟨_, rfl⟩; rw [← hkj] at ho; have HLJ : Aside0 (kj.length = kk.length + 1) := ⟨by rw [hkj]; simp⟩; obtain ⟨Ad, cd, rfl⟩ := Kd.R_slice ho; have HXd := am ho; have HCa := am (Kd.R_reads' ho).2.1; have HBd := am hb; have HGd := am (blk_grown HGc.out hg (fun e => HXc.out.1 gs e.symm rfl)); have p0 := (blk_cell HGd.out 0).trans rfl; have pf := blk_frozen HGd.out 0; clear hkj; clear ho hb hg hat))
   exact H40.out ⟨by have := HLK.out; have := HLJ.out; have := H9.out.1.2; omega, HCa.out, (Kd.R_reads' (Kd.R_far (p := ⟨gs, 0, none⟩) HXd.out (fun k hk => hk) _)).2.2, blk_put HGd.out 0 _ rfl, below_set HBd.out HGW.out⟩
  ·clear hji hjs
   go_wp2
   exact H40.out ⟨show ([] : List Int).length ≤ 100 by decide, show ([] : List Int).length ≤ 0 by decide, (Kd.R_reads' (Kd.R_nil (Kd.int .i64) 3 _ 0 (fun _ => True))).2.2, blk_put HGSr1.out 0 _ rfl, below_set HBr1.out HGW.out⟩
  ·clear hji hjs
   go_wp2
   exact H40.out ⟨by have := H9.out.1.2; omega, (Kd.R_reads' HXr1.out).2.1, (Kd.R_reads' HXr1.out).2.2, HGSr1.out, HBr1.out⟩
 have hn1 : decide ((rows.length : Int) > 0) = true := decide_eq_true (by omega)
 have hn2 : decide (0 < (rows.length : Int)) = true := decide_eq_true (by omega)
 have hn3 : decide (0 < rows.length) = true := decide_eq_true hn
 have hnil := eq_false (show ¬ rows = [] by intro h; rw [h] at hn; exact absurd hn (by decide))
 have HN := am hn
 have hx0 := H8.out (rd_T33 rows 0) (by
  unfold rd_T33
  rw [List.getD_eq_getElem?_getD, show (0 : Int).toNat = 0 from rfl, List.getElem?_eq_getElem hn]; exact List.getElem_mem hn)
 obtain ⟨ad, B0, d0, B1, d1, rfl, x0, x1, ld0, g0, ld1, g1⟩ := at_T33 HY9.out.2 0 (by omega) (by omega)
 have ead : ad.add ((0 : Int).toNat * 2) = ad := by simp [Addr.add]
 rw [ead] at x0 x1
 have pn1 := eq_true HN.out
 have pn2 := eq_true (show (0 : Int) < (rows.length : Int) by have := HN.out; omega)
 generalize rd_T33 rows 0 = x at *
 have HX0 := am hx0.2
 have X0 := am x0
 have X1 := am x1
 have HLD := am (And.intro (And.intro ld0 g0) (And.intro ld1 g1))
 clear hn hx0 x0 x1 ld0 g0 ld1 g1 ead
 go_wp2
 refine start_ (n := 15) (S := fun w' => w'.cell? ad = some (.slice B0 x.f0.length d0) ∧ w'.cell? ⟨ad.block, ad.off + 1, none⟩ = some (.slice B1 x.f1.length d1)) (ds := [14]) (bb 15 0) (by kernel_rfl) rfl rfl ⟨X0.out, X1.out⟩ (fun hHeld => ?_)
 refine with_tabW hypercubelaw1_RecChecks.tab19 hypercubelaw1_RecChecks.bits19 (fun HT_ HW_ => ?_)
 have HB := below_drew (Below.refl w9.heap.size w9)
 generalize w9.drew = wd at HB hHeld ⊢
 refine pu (i := 1) (N := some 82) (bb 15 2) HT_ ?_
 refine pu (i := 2) (N := some 83) (bb 15 6) HT_ ?_
 refine pu (i := 3) (N := some 84) (bb 15 14) HT_ ?_
 refine tk (i := 4) (N := some 85) (bb 15 30) HT_ HW_ hHeld ?_
 refine pu (i := 7) (N := some 88) (bb 15 158) HT_ ?_
 refine pu (i := 8) (N := some 89) (bb 15 414) HT_ ?_
 refine pu (i := 9) (N := some 90) (bb 15 926) HT_ ?_
 refine tk (i := 10) (N := some 91) (bb 15 1950) HT_ HW_ hHeld ?_
 refine join_ (σ := (Nat → Nat) × (Value) × (Value) × (Option Addr) × (Nat) × (Option Addr) × (Nat) × (Nat)) 1 (bb 15 16383) (fun s_ => [(81, s_.2.1), (86, (.slice s_.2.2.2.1 x.f0.length s_.2.2.2.2.1)), (87, s_.2.2.1), (92, (.slice s_.2.2.2.2.2.1 x.f1.length s_.2.2.2.2.2.2.1)), (93, .agg #[(.slice s_.2.2.2.1 x.f0.length s_.2.2.2.2.1), (.slice s_.2.2.2.2.2.1 x.f1.length s_.2.2.2.2.2.2.1)]), (21, .pointer (some ⟨s_.2.2.2.2.2.2.2, 0, none⟩))]) (fun s_ w' => Below w9.heap.size w9 w' ∧ Kd.R (Kd.int .i64) 3 w' w9.heap.size (fun k_ => s_.1 k_ = 0) (.slice s_.2.2.2.1 x.f0.length s_.2.2.2.2.1) x.f0 ∧ Kd.R (Kd.int .i64) 3 w' w9.heap.size (fun k_ => s_.1 k_ = 1) (.slice s_.2.2.2.2.2.1 x.f1.length s_.2.2.2.2.2.2.1) x.f1 ∧ (w'.heap[s_.2.2.2.2.2.2.2]? = some (.cells #[.slice none 0 0, .slice none 0 0] 33 (0, 0)) ∧ s_.1 s_.2.2.2.2.2.2.2 = 9) ∧ w9.heap.size ≤ s_.2.2.2.2.2.2.2) ?_ ?_
 rotate_left
 ·intro ST11111
  refine join_ (σ := (Nat → Nat) × (Value) × (Value) × (Option Addr) × (Nat) × (Option Addr) × (Nat) × (Nat)) 3 (bb 15 10239) (fun s_ => [(81, s_.2.1), (86, (.slice s_.2.2.2.1 x.f0.length s_.2.2.2.2.1)), (87, (.slice s_.2.2.2.2.2.1 ([] : List Int).length s_.2.2.2.2.2.2.1)), (21, .pointer (some ⟨s_.2.2.2.2.2.2.2, 0, none⟩))]) (fun s_ w' => Below w9.heap.size w9 w' ∧ Kd.R (Kd.int .i64) 3 w' w9.heap.size (fun k_ => s_.1 k_ = 0) (.slice s_.2.2.2.1 x.f0.length s_.2.2.2.2.1) x.f0 ∧ Kd.R (Kd.int .i64) 3 w' w9.heap.size (fun k_ => s_.1 k_ = 1) (.slice s_.2.2.2.2.2.1 ([] : List Int).length s_.2.2.2.2.2.2.1) [] ∧ (w'.heap[s_.2.2.2.2.2.2.2]? = some (.cells #[.slice none 0 0, .slice none 0 0] 33 (0, 0)) ∧ s_.1 s_.2.2.2.2.2.2.2 = 9) ∧ w9.heap.size ≤ s_.2.2.2.2.2.2.2) ?_ ?_
  ·rintro ⟨f, s1, s2, U1, q1, U2, q2, g⟩ W ⟨HB, HU1, HU2, HX⟩
   try dsimp only at *
   refine norm_ (a' := ?_) ?_ ?_
   rotate_left
   ·show putAll _ _ = _
    (first | (simp only [putAll, Act.put, List.setIfInBounds_toArray, List.set_cons_zero, List.set_cons_succ, i64_w, i32_w]; done) | (simp only [putAll, Act.put, List.setIfInBounds_toArray, List.set_cons_zero, List.set_cons_succ, i64_w, i32_w]; rfl))
   refine one_ (i := 11) (N := some 92) (bb 15 12287) rfl rfl (one_of HT_.out (by kernel_rfl)) (by decide) (fun K hK => ?_)
   refine Kd.R_append_rows_step (Kd.int .i64) (w0 := w9) w9.heap.size (by rfl) (.tmp 87) (.tmp 91) 22 3 (.int .i64 0) 8 rfl Try.underlying22 info3 rfl (by decide) (by omega) (.slice U2 ([] : List Int).length q2) [] x.f1 _ _ _ (fun k_ => ow f W.heap.size 1 k_ = 1) (fun _ => False) rfl rfl (r_same HU2 1) (Kd.C_below HLD.out.2.2 HB) (fun _ _ h => h) (fun _ h => h.elim) (fun k_ hk => ow_new hk) HB HB.size ?aL ?_
   (case aL => have := HX0.out; simp only [List.length_nil]; omega)
   intro u W1 ho HB1 hg_ hat
   rw [List.nil_append] at ho
   obtain ⟨Au, cu, rfl⟩ := Kd.R_slice ho
   refine hK.out _ _ ⟨(Below.cell HB1 (World.block_lt_of_cell? w9 _ X0.out)).trans X0.out, (Below.cell HB1 (World.block_lt_of_cell? w9 _ X1.out)).trans X1.out⟩ (fun hHeld => ?_)
   clear hK K
   refine nm ?_
   refine pu (i := 12) (N := some 93) (bb 15 16383) HT_ ?_
   have hN := ST11111 ((ow f W.heap.size 1), s1, (.slice U2 ([] : List Int).length q2), U1, q1, Au, cu, g) W1 ⟨HB1, (r_app HU1 HU2 (by decide) hg_ 1), ho, ⟨b_app HX.1 HU2 (by decide) hg_ 1, HX.2⟩⟩
   refine norm_ ?_ hN
   show _ = putAll _ _
   (first | (simp only [putAll, Act.put, List.setIfInBounds_toArray, List.set_cons_zero, List.set_cons_succ, i64_w, i32_w]; done) | (simp only [putAll, Act.put, List.setIfInBounds_toArray, List.set_cons_zero, List.set_cons_succ, i64_w, i32_w]; rfl))
  intro ST11101
  refine join_ (σ := (Nat → Nat) × (Value) × (Value) × (Option Addr) × (Nat) × (Option Addr) × (Nat) × (Nat)) 2 (bb 15 8191) (fun s_ => [(81, s_.2.1), (86, (.slice s_.2.2.2.1 x.f0.length s_.2.2.2.2.1)), (87, s_.2.2.1), (92, (.slice s_.2.2.2.2.2.1 x.f1.length s_.2.2.2.2.2.2.1)), (93, .agg #[(.slice s_.2.2.2.1 x.f0.length s_.2.2.2.2.1), (.slice s_.2.2.2.2.2.1 x.f1.length s_.2.2.2.2.2.2.1)])]) (fun s_ w' => Below w9.heap.size w9 w' ∧ Kd.R (Kd.int .i64) 3 w' w9.heap.size (fun k_ => s_.1 k_ = 0) (.slice s_.2.2.2.1 x.f0.length s_.2.2.2.2.1) x.f0 ∧ Kd.R (Kd.int .i64) 3 w' w9.heap.size (fun k_ => s_.1 k_ = 1) (.slice s_.2.2.2.2.2.1 x.f1.length s_.2.2.2.2.2.2.1) x.f1) ?_ ?_
  ·rintro ⟨f, s1, s2, U1, q1, U2, q2, g⟩ W ⟨HB, HU1, HU2⟩
   try dsimp only at *
   refine norm_ (a' := ?_) ?_ ?_
   rotate_left
   ·show putAll _ _ = _
    (first | (simp only [putAll, Act.put, List.setIfInBounds_toArray, List.set_cons_zero, List.set_cons_succ, i64_w, i32_w]; done) | (simp only [putAll, Act.put, List.setIfInBounds_toArray, List.set_cons_zero, List.set_cons_succ, i64_w, i32_w]; rfl))
   refine one_ (i := 13) (N := some 21) (bb 15 16383) rfl rfl (one_of HT_.out (by kernel_rfl)) (by decide) (fun K hK => ?_)
   refine box_step (by rfl) rfl (cs := #[.slice none 0 0, .slice none 0 0]) (t := 33) (by first | (go_simp; done) | (go_simp; rfl)) ?_
   intro g1 hg W1 hk hb
   have HB1 := below_step HB hb
   refine hK.out _ _ ⟨(Below.cell HB1 (World.block_lt_of_cell? w9 _ X0.out)).trans X0.out, (Below.cell HB1 (World.block_lt_of_cell? w9 _ X1.out)).trans X1.out⟩ (fun hHeld => ?_)
   clear hK K
   refine nm ?_
   have hN := ST11111 ((ow f W.heap.size 9), s1, s2, U1, q1, U2, q2, g1) W1 ⟨HB1, (r_fresh HU1 hb 9), (r_fresh HU2 hb 9), ⟨⟨hk, ow_new (by rw [hg]; exact Nat.le_refl _)⟩, by rw [hg]; exact HB.size⟩⟩
   refine norm_ ?_ hN
   show _ = putAll _ _
   (first | (simp only [putAll, Act.put, List.setIfInBounds_toArray, List.set_cons_zero, List.set_cons_succ, i64_w, i32_w]; done) | (simp only [putAll, Act.put, List.setIfInBounds_toArray, List.set_cons_zero, List.set_cons_succ, i64_w, i32_w]; rfl))
  intro ST11110
  refine join_ (σ := (Nat → Nat) × (Value) × (Value) × (Option Addr) × (Nat) × (Option Addr) × (Nat) × (Nat)) 4 (bb 15 10207) (fun s_ => [(81, (.slice s_.2.2.2.1 ([] : List Int).length s_.2.2.2.2.1)), (87, (.slice s_.2.2.2.2.2.1 ([] : List Int).length s_.2.2.2.2.2.2.1)), (21, .pointer (some ⟨s_.2.2.2.2.2.2.2, 0, none⟩))]) (fun s_ w' => Below w9.heap.size w9 w' ∧ Kd.R (Kd.int .i64) 3 w' w9.heap.size (fun k_ => s_.1 k_ = 0) (.slice s_.2.2.2.1 ([] : List Int).length s_.2.2.2.2.1) [] ∧ Kd.R (Kd.int .i64) 3 w' w9.heap.size (fun k_ => s_.1 k_ = 1) (.slice s_.2.2.2.2.2.1 ([] : List Int).length s_.2.2.2.2.2.2.1) [] ∧ (w'.heap[s_.2.2.2.2.2.2.2]? = some (.cells #[.slice none 0 0, .slice none 0 0] 33 (0, 0)) ∧ s_.1 s_.2.2.2.2.2.2.2 = 9) ∧ w9.heap.size ≤ s_.2.2.2.2.2.2.2) ?_ ?_
  ·rintro ⟨f, s1, s2, U1, q1, U2, q2, g⟩ W ⟨HB, HU1, HU2, HX⟩
   try dsimp only at *
   refine norm_ (a' := ?_) ?_ ?_
   rotate_left
   ·show putAll _ _ = _
    (first | (simp only [putAll, Act.put, List.setIfInBounds_toArray, List.set_cons_zero, List.set_cons_succ, i64_w, i32_w]; done) | (simp only [putAll, Act.put, List.setIfInBounds_toArray, List.set_cons_zero, List.set_cons_succ, i64_w, i32_w]; rfl))
   refine one_ (i := 5) (N := some 86) (bb 15 10239) rfl rfl (one_of HT_.out (by kernel_rfl)) (by decide) (fun K hK => ?_)
   refine Kd.R_append_rows_step (Kd.int .i64) (w0 := w9) w9.heap.size (by rfl) (.tmp 81) (.tmp 85) 22 3 (.int .i64 0) 8 rfl Try.underlying22 info3 rfl (by decide) (by omega) (.slice U1 ([] : List Int).length q1) [] x.f0 _ _ _ (fun k_ => ow f W.heap.size 0 k_ = 0) (fun _ => False) rfl rfl (r_same HU1 0) (Kd.C_below HLD.out.1.2 HB) (fun _ _ h => h) (fun _ h => h.elim) (fun k_ hk => ow_new hk) HB HB.size ?aL ?_
   (case aL => have := HX0.out; simp only [List.length_nil]; omega)
   intro u W1 ho HB1 hg_ hat
   rw [List.nil_append] at ho
   obtain ⟨Au, cu, rfl⟩ := Kd.R_slice ho
   refine hK.out _ _ ⟨(Below.cell HB1 (World.block_lt_of_cell? w9 _ X0.out)).trans X0.out, (Below.cell HB1 (World.block_lt_of_cell? w9 _ X1.out)).trans X1.out⟩ (fun hHeld => ?_)
   clear hK K
   refine nm ?_
   have hN := ST11101 ((ow f W.heap.size 0), (.slice U1 ([] : List Int).length q1), undef, Au, cu, U2, q2, g) W1 ⟨HB1, ho, (r_app HU2 HU1 (by decide) hg_ 0), ⟨b_app HX.1 HU1 (by decide) hg_ 0, HX.2⟩⟩
   refine norm_ ?_ hN
   show _ = putAll _ _
   (first | (simp only [putAll, Act.put, List.setIfInBounds_toArray, List.set_cons_zero, List.set_cons_succ, i64_w, i32_w]; done) | (simp only [putAll, Act.put, List.setIfInBounds_toArray, List.set_cons_zero, List.set_cons_succ, i64_w, i32_w]; rfl))
  intro ST10101
  refine join_ (σ := (Nat → Nat) × (Value) × (Value) × (Option Addr) × (Nat) × (Option Addr) × (Nat) × (Nat)) 4 (bb 15 10175) (fun s_ => [(81, s_.2.1), (86, (.slice s_.2.2.2.1 x.f0.length s_.2.2.2.2.1)), (21, .pointer (some ⟨s_.2.2.2.2.2.2.2, 0, none⟩))]) (fun s_ w' => Below w9.heap.size w9 w' ∧ Kd.R (Kd.int .i64) 3 w' w9.heap.size (fun k_ => s_.1 k_ = 0) (.slice s_.2.2.2.1 x.f0.length s_.2.2.2.2.1) x.f0 ∧ (w'.heap[s_.2.2.2.2.2.2.2]? = some (.cells #[.slice none 0 0, .slice none 0 0] 33 (0, 0)) ∧ s_.1 s_.2.2.2.2.2.2.2 = 9) ∧ w9.heap.size ≤ s_.2.2.2.2.2.2.2) ?_ ?_
  ·rintro ⟨f, s1, s2, U1, q1, U2, q2, g⟩ W ⟨HB, HU1, HX⟩
   try dsimp only at *
   refine norm_ (a' := ?_) ?_ ?_
   rotate_left
   ·show putAll _ _ = _
    (first | (simp only [putAll, Act.put, List.setIfInBounds_toArray, List.set_cons_zero, List.set_cons_succ, i64_w, i32_w]; done) | (simp only [putAll, Act.put, List.setIfInBounds_toArray, List.set_cons_zero, List.set_cons_succ, i64_w, i32_w]; rfl))
   refine one_ (i := 6) (N := some 87) (bb 15 10239) rfl rfl (one_of HT_.out (by kernel_rfl)) (by decide) (fun K hK => ?_)
   refine Kd.R_lit_step (Kd.int .i64) _ 3 ?hg (N := 87) ?hd (xs := ([] : List Int)) (inner := []) (ok := fun _ => True) (okp := fun _ => True) ?hr ?hp (fun _ hk => hk) trivial (Below.refl _ _) (Nat.le_refl _) (by simp) ?_; (case hd => rfl); (case hg => rfl); (case hr => first | (go_simp; done) | (go_simp; rfl)); (case hp => exact Reps.none _ _)
   intro s W1 ho hb hg_ hnew_
   clear hg_ hnew_
   have HB1 := below_step HB hb
   obtain ⟨As, cs, rfl⟩ := Kd.R_slice ho
   refine hK.out _ _ ⟨(Below.cell HB1 (World.block_lt_of_cell? w9 _ X0.out)).trans X0.out, (Below.cell HB1 (World.block_lt_of_cell? w9 _ X1.out)).trans X1.out⟩ (fun hHeld => ?_)
   clear hK K
   refine nm ?_
   have hN := ST11101 ((ow f W.heap.size 1), s1, undef, U1, q1, As, cs, g) W1 ⟨HB1, (r_fresh HU1 hb 1), (r_lit f ho HB.size 1), ⟨b_fresh HX.1 hb 1, HX.2⟩⟩
   refine norm_ ?_ hN
   show _ = putAll _ _
   (first | (simp only [putAll, Act.put, List.setIfInBounds_toArray, List.set_cons_zero, List.set_cons_succ, i64_w, i32_w]; done) | (simp only [putAll, Act.put, List.setIfInBounds_toArray, List.set_cons_zero, List.set_cons_succ, i64_w, i32_w]; rfl))
  intro ST11001
  refine join_ (σ := (Nat → Nat) × (Value) × (Value) × (Option Addr) × (Nat) × (Option Addr) × (Nat) × (Nat)) 4 (bb 15 2047) (fun s_ => [(81, s_.2.1), (86, (.slice s_.2.2.2.1 x.f0.length s_.2.2.2.2.1)), (87, (.slice s_.2.2.2.2.2.1 ([] : List Int).length s_.2.2.2.2.2.2.1))]) (fun s_ w' => Below w9.heap.size w9 w' ∧ Kd.R (Kd.int .i64) 3 w' w9.heap.size (fun k_ => s_.1 k_ = 0) (.slice s_.2.2.2.1 x.f0.length s_.2.2.2.2.1) x.f0 ∧ Kd.R (Kd.int .i64) 3 w' w9.heap.size (fun k_ => s_.1 k_ = 1) (.slice s_.2.2.2.2.2.1 ([] : List Int).length s_.2.2.2.2.2.2.1) []) ?_ ?_
  ·rintro ⟨f, s1, s2, U1, q1, U2, q2, g⟩ W ⟨HB, HU1, HU2⟩
   try dsimp only at *
   refine norm_ (a' := ?_) ?_ ?_
   rotate_left
   ·show putAll _ _ = _
    (first | (simp only [putAll, Act.put, List.setIfInBounds_toArray, List.set_cons_zero, List.set_cons_succ, i64_w, i32_w]; done) | (simp only [putAll, Act.put, List.setIfInBounds_toArray, List.set_cons_zero, List.set_cons_succ, i64_w, i32_w]; rfl))
   refine two_ (i := 11) (j := 13) (Ni := some 92) (Nj := some 21) (bb 15 4095) (bb 15 10239) rfl rfl rfl rfl (two_of HT_.out (by kernel_rfl)) (by decide) (by decide) (fun K hK => ?_) (fun K hK => ?_)
   ·refine Kd.R_append_rows_step (Kd.int .i64) (w0 := w9) w9.heap.size (by rfl) (.tmp 87) (.tmp 91) 22 3 (.int .i64 0) 8 rfl Try.underlying22 info3 rfl (by decide) (by omega) (.slice U2 ([] : List Int).length q2) [] x.f1 _ _ _ (fun k_ => ow f W.heap.size 1 k_ = 1) (fun _ => False) rfl rfl (r_same HU2 1) (Kd.C_below HLD.out.2.2 HB) (fun _ _ h => h) (fun _ h => h.elim) (fun k_ hk => ow_new hk) HB HB.size ?aL ?_
    (case aL => have := HX0.out; simp only [List.length_nil]; omega)
    intro u W1 ho HB1 hg_ hat
    rw [List.nil_append] at ho
    obtain ⟨Au, cu, rfl⟩ := Kd.R_slice ho
    refine hK.out _ _ ⟨(Below.cell HB1 (World.block_lt_of_cell? w9 _ X0.out)).trans X0.out, (Below.cell HB1 (World.block_lt_of_cell? w9 _ X1.out)).trans X1.out⟩ (fun hHeld => ?_)
    clear hK K
    refine nm ?_
    refine pu (i := 12) (N := some 93) (bb 15 8191) HT_ ?_
    have hN := ST11110 ((ow f W.heap.size 1), s1, (.slice U2 ([] : List Int).length q2), U1, q1, Au, cu, 0) W1 ⟨HB1, (r_app HU1 HU2 (by decide) hg_ 1), ho⟩
    refine norm_ ?_ hN
    show _ = putAll _ _
    (first | (simp only [putAll, Act.put, List.setIfInBounds_toArray, List.set_cons_zero, List.set_cons_succ, i64_w, i32_w]; done) | (simp only [putAll, Act.put, List.setIfInBounds_toArray, List.set_cons_zero, List.set_cons_succ, i64_w, i32_w]; rfl))
   ·refine box_step (by rfl) rfl (cs := #[.slice none 0 0, .slice none 0 0]) (t := 33) (by first | (go_simp; done) | (go_simp; rfl)) ?_
    intro g1 hg W1 hk hb
    have HB1 := below_step HB hb
    refine hK.out _ _ ⟨(Below.cell HB1 (World.block_lt_of_cell? w9 _ X0.out)).trans X0.out, (Below.cell HB1 (World.block_lt_of_cell? w9 _ X1.out)).trans X1.out⟩ (fun hHeld => ?_)
    clear hK K
    refine nm ?_
    have hN := ST11101 ((ow f W.heap.size 9), s1, undef, U1, q1, U2, q2, g1) W1 ⟨HB1, (r_fresh HU1 hb 9), (r_fresh HU2 hb 9), ⟨⟨hk, ow_new (by rw [hg]; exact Nat.le_refl _)⟩, by rw [hg]; exact HB.size⟩⟩
    refine norm_ ?_ hN
    show _ = putAll _ _
    (first | (simp only [putAll, Act.put, List.setIfInBounds_toArray, List.set_cons_zero, List.set_cons_succ, i64_w, i32_w]; done) | (simp only [putAll, Act.put, List.setIfInBounds_toArray, List.set_cons_zero, List.set_cons_succ, i64_w, i32_w]; rfl))
  intro ST11100
  refine join_ (σ := (Nat → Nat) × (Value) × (Value) × (Option Addr) × (Nat) × (Option Addr) × (Nat) × (Nat)) 5 (bb 15 10206) (fun s_ => [(87, (.slice s_.2.2.2.2.2.1 ([] : List Int).length s_.2.2.2.2.2.2.1)), (21, .pointer (some ⟨s_.2.2.2.2.2.2.2, 0, none⟩))]) (fun s_ w' => Below w9.heap.size w9 w' ∧ Kd.R (Kd.int .i64) 3 w' w9.heap.size (fun k_ => s_.1 k_ = 1) (.slice s_.2.2.2.2.2.1 ([] : List Int).length s_.2.2.2.2.2.2.1) [] ∧ (w'.heap[s_.2.2.2.2.2.2.2]? = some (.cells #[.slice none 0 0, .slice none 0 0] 33 (0, 0)) ∧ s_.1 s_.2.2.2.2.2.2.2 = 9) ∧ w9.heap.size ≤ s_.2.2.2.2.2.2.2) ?_ ?_
  ·rintro ⟨f, s1, s2, U1, q1, U2, q2, g⟩ W ⟨HB, HU2, HX⟩
   try dsimp only at *
   refine norm_ (a' := ?_) ?_ ?_
   rotate_left
   ·show putAll _ _ = _
    (first | (simp only [putAll, Act.put, List.setIfInBounds_toArray, List.set_cons_zero, List.set_cons_succ, i64_w, i32_w]; done) | (simp only [putAll, Act.put, List.setIfInBounds_toArray, List.set_cons_zero, List.set_cons_succ, i64_w, i32_w]; rfl))
   refine one_ (i := 0) (N := some 81) (bb 15 10207) rfl rfl (one_of HT_.out (by kernel_rfl)) (by decide) (fun K hK => ?_)
   refine Kd.R_lit_step (Kd.int .i64) _ 3 ?hg (N := 81) ?hd (xs := ([] : List Int)) (inner := []) (ok := fun _ => True) (okp := fun _ => True) ?hr ?hp (fun _ hk => hk) trivial (Below.refl _ _) (Nat.le_refl _) (by simp) ?_; (case hd => rfl); (case hg => rfl); (case hr => first | (go_simp; done) | (go_simp; rfl)); (case hp => exact Reps.none _ _)
   intro s W1 ho hb hg_ hnew_
   clear hg_ hnew_
   have HB1 := below_step HB hb
   obtain ⟨As, cs, rfl⟩ := Kd.R_slice ho
   refine hK.out _ _ ⟨(Below.cell HB1 (World.block_lt_of_cell? w9 _ X0.out)).trans X0.out, (Below.cell HB1 (World.block_lt_of_cell? w9 _ X1.out)).trans X1.out⟩ (fun hHeld => ?_)
   clear hK K
   refine nm ?_
   have hN := ST10101 ((ow f W.heap.size 0), undef, undef, As, cs, U2, q2, g) W1 ⟨HB1, (r_lit f ho HB.size 0), (r_fresh HU2 hb 0), ⟨b_fresh HX.1 hb 0, HX.2⟩⟩
   refine norm_ ?_ hN
   show _ = putAll _ _
   (first | (simp only [putAll, Act.put, List.setIfInBounds_toArray, List.set_cons_zero, List.set_cons_succ, i64_w, i32_w]; done) | (simp only [putAll, Act.put, List.setIfInBounds_toArray, List.set_cons_zero, List.set_cons_succ, i64_w, i32_w]; rfl))
  intro ST00101
  refine join_ (σ := (Nat → Nat) × (Value) × (Value) × (Option Addr) × (Nat) × (Option Addr) × (Nat) × (Nat)) 5 (bb 15 10143) (fun s_ => [(81, (.slice s_.2.2.2.1 ([] : List Int).length s_.2.2.2.2.1)), (21, .pointer (some ⟨s_.2.2.2.2.2.2.2, 0, none⟩))]) (fun s_ w' => Below w9.heap.size w9 w' ∧ Kd.R (Kd.int .i64) 3 w' w9.heap.size (fun k_ => s_.1 k_ = 0) (.slice s_.2.2.2.1 ([] : List Int).length s_.2.2.2.2.1) [] ∧ (w'.heap[s_.2.2.2.2.2.2.2]? = some (.cells #[.slice none 0 0, .slice none 0 0] 33 (0, 0)) ∧ s_.1 s_.2.2.2.2.2.2.2 = 9) ∧ w9.heap.size ≤ s_.2.2.2.2.2.2.2) ?_ ?_
  ·rintro ⟨f, s1, s2, U1, q1, U2, q2, g⟩ W ⟨HB, HU1, HX⟩
   try dsimp only at *
   refine norm_ (a' := ?_) ?_ ?_
   rotate_left
   ·show putAll _ _ = _
    (first | (simp only [putAll, Act.put, List.setIfInBounds_toArray, List.set_cons_zero, List.set_cons_succ, i64_w, i32_w]; done) | (simp only [putAll, Act.put, List.setIfInBounds_toArray, List.set_cons_zero, List.set_cons_succ, i64_w, i32_w]; rfl))
   refine two_ (i := 5) (j := 6) (Ni := some 86) (Nj := some 87) (bb 15 10175) (bb 15 10207) rfl rfl rfl rfl (two_of HT_.out (by kernel_rfl)) (by decide) (by decide) (fun K hK => ?_) (fun K hK => ?_)
   ·refine Kd.R_append_rows_step (Kd.int .i64) (w0 := w9) w9.heap.size (by rfl) (.tmp 81) (.tmp 85) 22 3 (.int .i64 0) 8 rfl Try.underlying22 info3 rfl (by decide) (by omega) (.slice U1 ([] : List Int).length q1) [] x.f0 _ _ _ (fun k_ => ow f W.heap.size 0 k_ = 0) (fun _ => False) rfl rfl (r_same HU1 0) (Kd.C_below HLD.out.1.2 HB) (fun _ _ h => h) (fun _ h => h.elim) (fun k_ hk => ow_new hk) HB HB.size ?aL ?_
    (case aL => have := HX0.out; simp only [List.length_nil]; omega)
    intro u W1 ho HB1 hg_ hat
    rw [List.nil_append] at ho
    obtain ⟨Au, cu, rfl⟩ := Kd.R_slice ho
    refine hK.out _ _ ⟨(Below.cell HB1 (World.block_lt_of_cell? w9 _ X0.out)).trans X0.out, (Below.cell HB1 (World.block_lt_of_cell? w9 _ X1.out)).trans X1.out⟩ (fun hHeld => ?_)
    clear hK K
    refine nm ?_
    have hN := ST11001 ((ow f W.heap.size 0), (.slice U1 ([] : List Int).length q1), undef, Au, cu, none, 0, g) W1 ⟨HB1, ho, ⟨b_app HX.1 HU1 (by decide) hg_ 0, HX.2⟩⟩
    refine norm_ ?_ hN
    show _ = putAll _ _
    (first | (simp only [putAll, Act.put, List.setIfInBounds_toArray, List.set_cons_zero, List.set_cons_succ, i64_w, i32_w]; done) | (simp only [putAll, Act.put, List.setIfInBounds_toArray, List.set_cons_zero, List.set_cons_succ, i64_w, i32_w]; rfl))
   ·refine Kd.R_lit_step (Kd.int .i64) _ 3 ?hg (N := 87) ?hd (xs := ([] : List Int)) (inner := []) (ok := fun _ => True) (okp := fun _ => True) ?hr ?hp (fun _ hk => hk) trivial (Below.refl _ _) (Nat.le_refl _) (by simp) ?_; (case hd => rfl); (case hg => rfl); (case hr => first | (go_simp; done) | (go_simp; rfl)); (case hp => exact Reps.none _ _)
    intro s W1 ho hb hg_ hnew_
    clear hg_ hnew_
    have HB1 := below_step HB hb
    obtain ⟨As, cs, rfl⟩ := Kd.R_slice ho
    refine hK.out _ _ ⟨(Below.cell HB1 (World.block_lt_of_cell? w9 _ X0.out)).trans X0.out, (Below.cell HB1 (World.block_lt_of_cell? w9 _ X1.out)).trans X1.out⟩ (fun hHeld => ?_)
    clear hK K
    refine nm ?_
    have hN := ST10101 ((ow f W.heap.size 1), undef, undef, U1, q1, As, cs, g) W1 ⟨HB1, (r_fresh HU1 hb 1), (r_lit f ho HB.size 1), ⟨b_fresh HX.1 hb 1, HX.2⟩⟩
    refine norm_ ?_ hN
    show _ = putAll _ _
    (first | (simp only [putAll, Act.put, List.setIfInBounds_toArray, List.set_cons_zero, List.set_cons_succ, i64_w, i32_w]; done) | (simp only [putAll, Act.put, List.setIfInBounds_toArray, List.set_cons_zero, List.set_cons_succ, i64_w, i32_w]; rfl))
  intro ST10001
  refine join_ (σ := (Nat → Nat) × (Value) × (Value) × (Option Addr) × (Nat) × (Option Addr) × (Nat) × (Nat)) 5 (bb 15 2015) (fun s_ => [(81, (.slice s_.2.2.2.1 ([] : List Int).length s_.2.2.2.2.1)), (87, (.slice s_.2.2.2.2.2.1 ([] : List Int).length s_.2.2.2.2.2.2.1))]) (fun s_ w' => Below w9.heap.size w9 w' ∧ Kd.R (Kd.int .i64) 3 w' w9.heap.size (fun k_ => s_.1 k_ = 0) (.slice s_.2.2.2.1 ([] : List Int).length s_.2.2.2.2.1) [] ∧ Kd.R (Kd.int .i64) 3 w' w9.heap.size (fun k_ => s_.1 k_ = 1) (.slice s_.2.2.2.2.2.1 ([] : List Int).length s_.2.2.2.2.2.2.1) []) ?_ ?_
  ·rintro ⟨f, s1, s2, U1, q1, U2, q2, g⟩ W ⟨HB, HU1, HU2⟩
   try dsimp only at *
   refine norm_ (a' := ?_) ?_ ?_
   rotate_left
   ·show putAll _ _ = _
    (first | (simp only [putAll, Act.put, List.setIfInBounds_toArray, List.set_cons_zero, List.set_cons_succ, i64_w, i32_w]; done) | (simp only [putAll, Act.put, List.setIfInBounds_toArray, List.set_cons_zero, List.set_cons_succ, i64_w, i32_w]; rfl))
   refine two_ (i := 5) (j := 13) (Ni := some 86) (Nj := some 21) (bb 15 2047) (bb 15 10207) rfl rfl rfl rfl (two_of HT_.out (by kernel_rfl)) (by decide) (by decide) (fun K hK => ?_) (fun K hK => ?_)
   ·refine Kd.R_append_rows_step (Kd.int .i64) (w0 := w9) w9.heap.size (by rfl) (.tmp 81) (.tmp 85) 22 3 (.int .i64 0) 8 rfl Try.underlying22 info3 rfl (by decide) (by omega) (.slice U1 ([] : List Int).length q1) [] x.f0 _ _ _ (fun k_ => ow f W.heap.size 0 k_ = 0) (fun _ => False) rfl rfl (r_same HU1 0) (Kd.C_below HLD.out.1.2 HB) (fun _ _ h => h) (fun _ h => h.elim) (fun k_ hk => ow_new hk) HB HB.size ?aL ?_
    (case aL => have := HX0.out; simp only [List.length_nil]; omega)
    intro u W1 ho HB1 hg_ hat
    rw [List.nil_append] at ho
    obtain ⟨Au, cu, rfl⟩ := Kd.R_slice ho
    refine hK.out _ _ ⟨(Below.cell HB1 (World.block_lt_of_cell? w9 _ X0.out)).trans X0.out, (Below.cell HB1 (World.block_lt_of_cell? w9 _ X1.out)).trans X1.out⟩ (fun hHeld => ?_)
    clear hK K
    refine nm ?_
    have hN := ST11100 ((ow f W.heap.size 0), (.slice U1 ([] : List Int).length q1), undef, Au, cu, U2, q2, 0) W1 ⟨HB1, ho, (r_app HU2 HU1 (by decide) hg_ 0)⟩
    refine norm_ ?_ hN
    show _ = putAll _ _
    (first | (simp only [putAll, Act.put, List.setIfInBounds_toArray, List.set_cons_zero, List.set_cons_succ, i64_w, i32_w]; done) | (simp only [putAll, Act.put, List.setIfInBounds_toArray, List.set_cons_zero, List.set_cons_succ, i64_w, i32_w]; rfl))
   ·refine box_step (by rfl) rfl (cs := #[.slice none 0 0, .slice none 0 0]) (t := 33) (by first | (go_simp; done) | (go_simp; rfl)) ?_
    intro g1 hg W1 hk hb
    have HB1 := below_step HB hb
    refine hK.out _ _ ⟨(Below.cell HB1 (World.block_lt_of_cell? w9 _ X0.out)).trans X0.out, (Below.cell HB1 (World.block_lt_of_cell? w9 _ X1.out)).trans X1.out⟩ (fun hHeld => ?_)
    clear hK K
    refine nm ?_
    have hN := ST10101 ((ow f W.heap.size 9), undef, undef, U1, q1, U2, q2, g1) W1 ⟨HB1, (r_fresh HU1 hb 9), (r_fresh HU2 hb 9), ⟨⟨hk, ow_new (by rw [hg]; exact Nat.le_refl _)⟩, by rw [hg]; exact HB.size⟩⟩
    refine norm_ ?_ hN
    show _ = putAll _ _
    (first | (simp only [putAll, Act.put, List.setIfInBounds_toArray, List.set_cons_zero, List.set_cons_succ, i64_w, i32_w]; done) | (simp only [putAll, Act.put, List.setIfInBounds_toArray, List.set_cons_zero, List.set_cons_succ, i64_w, i32_w]; rfl))
  intro ST10100
  refine join_ (σ := (Nat → Nat) × (Value) × (Value) × (Option Addr) × (Nat) × (Option Addr) × (Nat) × (Nat)) 5 (bb 15 1983) (fun s_ => [(81, s_.2.1), (86, (.slice s_.2.2.2.1 x.f0.length s_.2.2.2.2.1))]) (fun s_ w' => Below w9.heap.size w9 w' ∧ Kd.R (Kd.int .i64) 3 w' w9.heap.size (fun k_ => s_.1 k_ = 0) (.slice s_.2.2.2.1 x.f0.length s_.2.2.2.2.1) x.f0) ?_ ?_
  ·rintro ⟨f, s1, s2, U1, q1, U2, q2, g⟩ W ⟨HB, HU1⟩
   try dsimp only at *
   refine norm_ (a' := ?_) ?_ ?_
   rotate_left
   ·show putAll _ _ = _
    (first | (simp only [putAll, Act.put, List.setIfInBounds_toArray, List.set_cons_zero, List.set_cons_succ, i64_w, i32_w]; done) | (simp only [putAll, Act.put, List.setIfInBounds_toArray, List.set_cons_zero, List.set_cons_succ, i64_w, i32_w]; rfl))
   refine two_ (i := 6) (j := 13) (Ni := some 87) (Nj := some 21) (bb 15 2047) (bb 15 10175) rfl rfl rfl rfl (two_of HT_.out (by kernel_rfl)) (by decide) (by decide) (fun K hK => ?_) (fun K hK => ?_)
   ·refine Kd.R_lit_step (Kd.int .i64) _ 3 ?hg (N := 87) ?hd (xs := ([] : List Int)) (inner := []) (ok := fun _ => True) (okp := fun _ => True) ?hr ?hp (fun _ hk => hk) trivial (Below.refl _ _) (Nat.le_refl _) (by simp) ?_; (case hd => rfl); (case hg => rfl); (case hr => first | (go_simp; done) | (go_simp; rfl)); (case hp => exact Reps.none _ _)
    intro s W1 ho hb hg_ hnew_
    clear hg_ hnew_
    have HB1 := below_step HB hb
    obtain ⟨As, cs, rfl⟩ := Kd.R_slice ho
    refine hK.out _ _ ⟨(Below.cell HB1 (World.block_lt_of_cell? w9 _ X0.out)).trans X0.out, (Below.cell HB1 (World.block_lt_of_cell? w9 _ X1.out)).trans X1.out⟩ (fun hHeld => ?_)
    clear hK K
    refine nm ?_
    have hN := ST11100 ((ow f W.heap.size 1), s1, undef, U1, q1, As, cs, 0) W1 ⟨HB1, (r_fresh HU1 hb 1), (r_lit f ho HB.size 1)⟩
    refine norm_ ?_ hN
    show _ = putAll _ _
    (first | (simp only [putAll, Act.put, List.setIfInBounds_toArray, List.set_cons_zero, List.set_cons_succ, i64_w, i32_w]; done) | (simp only [putAll, Act.put, List.setIfInBounds_toArray, List.set_cons_zero, List.set_cons_succ, i64_w, i32_w]; rfl))
   ·refine box_step (by rfl) rfl (cs := #[.slice none 0 0, .slice none 0 0]) (t := 33) (by first | (go_simp; done) | (go_simp; rfl)) ?_
    intro g1 hg W1 hk hb
    have HB1 := below_step HB hb
    refine hK.out _ _ ⟨(Below.cell HB1 (World.block_lt_of_cell? w9 _ X0.out)).trans X0.out, (Below.cell HB1 (World.block_lt_of_cell? w9 _ X1.out)).trans X1.out⟩ (fun hHeld => ?_)
    clear hK K
    refine nm ?_
    have hN := ST11001 ((ow f W.heap.size 9), s1, undef, U1, q1, none, 0, g1) W1 ⟨HB1, (r_fresh HU1 hb 9), ⟨⟨hk, ow_new (by rw [hg]; exact Nat.le_refl _)⟩, by rw [hg]; exact HB.size⟩⟩
    refine norm_ ?_ hN
    show _ = putAll _ _
    (first | (simp only [putAll, Act.put, List.setIfInBounds_toArray, List.set_cons_zero, List.set_cons_succ, i64_w, i32_w]; done) | (simp only [putAll, Act.put, List.setIfInBounds_toArray, List.set_cons_zero, List.set_cons_succ, i64_w, i32_w]; rfl))
  intro ST11000
  refine join_ (σ := (Nat → Nat) × (Value) × (Value) × (Option Addr) × (Nat) × (Option Addr) × (Nat) × (Nat)) 6 (bb 15 10142) (fun s_ => [(21, .pointer (some ⟨s_.2.2.2.2.2.2.2, 0, none⟩))]) (fun s_ w' => Below w9.heap.size w9 w' ∧ (w'.heap[s_.2.2.2.2.2.2.2]? = some (.cells #[.slice none 0 0, .slice none 0 0] 33 (0, 0)) ∧ s_.1 s_.2.2.2.2.2.2.2 = 9) ∧ w9.heap.size ≤ s_.2.2.2.2.2.2.2) ?_ ?_
  ·rintro ⟨f, s1, s2, U1, q1, U2, q2, g⟩ W ⟨HB, HX⟩
   try dsimp only at *
   refine norm_ (a' := ?_) ?_ ?_
   rotate_left
   ·show putAll _ _ = _
    (first | (simp only [putAll, Act.put, List.setIfInBounds_toArray, List.set_cons_zero, List.set_cons_succ, i64_w, i32_w]; done) | (simp only [putAll, Act.put, List.setIfInBounds_toArray, List.set_cons_zero, List.set_cons_succ, i64_w, i32_w]; rfl))
   refine two_ (i := 0) (j := 6) (Ni := some 81) (Nj := some 87) (bb 15 10143) (bb 15 10206) rfl rfl rfl rfl (two_of HT_.out (by kernel_rfl)) (by decide) (by decide) (fun K hK => ?_) (fun K hK => ?_)
   ·refine Kd.R_lit_step (Kd.int .i64) _ 3 ?hg (N := 81) ?hd (xs := ([] : List Int)) (inner := []) (ok := fun _ => True) (okp := fun _ => True) ?hr ?hp (fun _ hk => hk) trivial (Below.refl _ _) (Nat.le_refl _) (by simp) ?_; (case hd => rfl); (case hg => rfl); (case hr => first | (go_simp; done) | (go_simp; rfl)); (case hp => exact Reps.none _ _)
    intro s W1 ho hb hg_ hnew_
    clear hg_ hnew_
    have HB1 := below_step HB hb
    obtain ⟨As, cs, rfl⟩ := Kd.R_slice ho
    refine hK.out _ _ ⟨(Below.cell HB1 (World.block_lt_of_cell? w9 _ X0.out)).trans X0.out, (Below.cell HB1 (World.block_lt_of_cell? w9 _ X1.out)).trans X1.out⟩ (fun hHeld => ?_)
    clear hK K
    refine nm ?_
    have hN := ST10001 ((ow f W.heap.size 0), undef, undef, As, cs, none, 0, g) W1 ⟨HB1, (r_lit f ho HB.size 0), ⟨b_fresh HX.1 hb 0, HX.2⟩⟩
    refine norm_ ?_ hN
    show _ = putAll _ _
    (first | (simp only [putAll, Act.put, List.setIfInBounds_toArray, List.set_cons_zero, List.set_cons_succ, i64_w, i32_w]; done) | (simp only [putAll, Act.put, List.setIfInBounds_toArray, List.set_cons_zero, List.set_cons_succ, i64_w, i32_w]; rfl))
   ·refine Kd.R_lit_step (Kd.int .i64) _ 3 ?hg (N := 87) ?hd (xs := ([] : List Int)) (inner := []) (ok := fun _ => True) (okp := fun _ => True) ?hr ?hp (fun _ hk => hk) trivial (Below.refl _ _) (Nat.le_refl _) (by simp) ?_; (case hd => rfl); (case hg => rfl); (case hr => first | (go_simp; done) | (go_simp; rfl)); (case hp => exact Reps.none _ _)
    intro s W1 ho hb hg_ hnew_
    clear hg_ hnew_
    have HB1 := below_step HB hb
    obtain ⟨As, cs, rfl⟩ := Kd.R_slice ho
    refine hK.out _ _ ⟨(Below.cell HB1 (World.block_lt_of_cell? w9 _ X0.out)).trans X0.out, (Below.cell HB1 (World.block_lt_of_cell? w9 _ X1.out)).trans X1.out⟩ (fun hHeld => ?_)
    clear hK K
    refine nm ?_
    have hN := ST00101 ((ow f W.heap.size 1), undef, undef, none, 0, As, cs, g) W1 ⟨HB1, (r_lit f ho HB.size 1), ⟨b_fresh HX.1 hb 1, HX.2⟩⟩
    refine norm_ ?_ hN
    show _ = putAll _ _
    (first | (simp only [putAll, Act.put, List.setIfInBounds_toArray, List.set_cons_zero, List.set_cons_succ, i64_w, i32_w]; done) | (simp only [putAll, Act.put, List.setIfInBounds_toArray, List.set_cons_zero, List.set_cons_succ, i64_w, i32_w]; rfl))
  intro ST00001
  refine join_ (σ := (Nat → Nat) × (Value) × (Value) × (Option Addr) × (Nat) × (Option Addr) × (Nat) × (Nat)) 6 (bb 15 2014) (fun s_ => [(87, (.slice s_.2.2.2.2.2.1 ([] : List Int).length s_.2.2.2.2.2.2.1))]) (fun s_ w' => Below w9.heap.size w9 w' ∧ Kd.R (Kd.int .i64) 3 w' w9.heap.size (fun k_ => s_.1 k_ = 1) (.slice s_.2.2.2.2.2.1 ([] : List Int).length s_.2.2.2.2.2.2.1) []) ?_ ?_
  ·rintro ⟨f, s1, s2, U1, q1, U2, q2, g⟩ W ⟨HB, HU2⟩
   try dsimp only at *
   refine norm_ (a' := ?_) ?_ ?_
   rotate_left
   ·show putAll _ _ = _
    (first | (simp only [putAll, Act.put, List.setIfInBounds_toArray, List.set_cons_zero, List.set_cons_succ, i64_w, i32_w]; done) | (simp only [putAll, Act.put, List.setIfInBounds_toArray, List.set_cons_zero, List.set_cons_succ, i64_w, i32_w]; rfl))
   refine two_ (i := 0) (j := 13) (Ni := some 81) (Nj := some 21) (bb 15 2015) (bb 15 10206) rfl rfl rfl rfl (two_of HT_.out (by kernel_rfl)) (by decide) (by decide) (fun K hK => ?_) (fun K hK => ?_)
   ·refine Kd.R_lit_step (Kd.int .i64) _ 3 ?hg (N := 81) ?hd (xs := ([] : List Int)) (inner := []) (ok := fun _ => True) (okp := fun _ => True) ?hr ?hp (fun _ hk => hk) trivial (Below.refl _ _) (Nat.le_refl _) (by simp) ?_; (case hd => rfl); (case hg => rfl); (case hr => first | (go_simp; done) | (go_simp; rfl)); (case hp => exact Reps.none _ _)
    intro s W1 ho hb hg_ hnew_
    clear hg_ hnew_
    have HB1 := below_step HB hb
    obtain ⟨As, cs, rfl⟩ := Kd.R_slice ho
    refine hK.out _ _ ⟨(Below.cell HB1 (World.block_lt_of_cell? w9 _ X0.out)).trans X0.out, (Below.cell HB1 (World.block_lt_of_cell? w9 _ X1.out)).trans X1.out⟩ (fun hHeld => ?_)
    clear hK K
    refine nm ?_
    have hN := ST10100 ((ow f W.heap.size 0), undef, undef, As, cs, U2, q2, 0) W1 ⟨HB1, (r_lit f ho HB.size 0), (r_fresh HU2 hb 0)⟩
    refine norm_ ?_ hN
    show _ = putAll _ _
    (first | (simp only [putAll, Act.put, List.setIfInBounds_toArray, List.set_cons_zero, List.set_cons_succ, i64_w, i32_w]; done) | (simp only [putAll, Act.put, List.setIfInBounds_toArray, List.set_cons_zero, List.set_cons_succ, i64_w, i32_w]; rfl))
   ·refine box_step (by rfl) rfl (cs := #[.slice none 0 0, .slice none 0 0]) (t := 33) (by first | (go_simp; done) | (go_simp; rfl)) ?_
    intro g1 hg W1 hk hb
    have HB1 := below_step HB hb
    refine hK.out _ _ ⟨(Below.cell HB1 (World.block_lt_of_cell? w9 _ X0.out)).trans X0.out, (Below.cell HB1 (World.block_lt_of_cell? w9 _ X1.out)).trans X1.out⟩ (fun hHeld => ?_)
    clear hK K
    refine nm ?_
    have hN := ST00101 ((ow f W.heap.size 9), undef, undef, none, 0, U2, q2, g1) W1 ⟨HB1, (r_fresh HU2 hb 9), ⟨⟨hk, ow_new (by rw [hg]; exact Nat.le_refl _)⟩, by rw [hg]; exact HB.size⟩⟩
    refine norm_ ?_ hN
    show _ = putAll _ _
    (first | (simp only [putAll, Act.put, List.setIfInBounds_toArray, List.set_cons_zero, List.set_cons_succ, i64_w, i32_w]; done) | (simp only [putAll, Act.put, List.setIfInBounds_toArray, List.set_cons_zero, List.set_cons_succ, i64_w, i32_w]; rfl))
  intro ST00100
  refine join_ (σ := (Nat → Nat) × (Value) × (Value) × (Option Addr) × (Nat) × (Option Addr) × (Nat) × (Nat)) 6 (bb 15 1951) (fun s_ => [(81, (.slice s_.2.2.2.1 ([] : List Int).length s_.2.2.2.2.1))]) (fun s_ w' => Below w9.heap.size w9 w' ∧ Kd.R (Kd.int .i64) 3 w' w9.heap.size (fun k_ => s_.1 k_ = 0) (.slice s_.2.2.2.1 ([] : List Int).length s_.2.2.2.2.1) []) ?_ ?_
  ·rintro ⟨f, s1, s2, U1, q1, U2, q2, g⟩ W ⟨HB, HU1⟩
   try dsimp only at *
   refine norm_ (a' := ?_) ?_ ?_
   rotate_left
   ·show putAll _ _ = _
    (first | (simp only [putAll, Act.put, List.setIfInBounds_toArray, List.set_cons_zero, List.set_cons_succ, i64_w, i32_w]; done) | (simp only [putAll, Act.put, List.setIfInBounds_toArray, List.set_cons_zero, List.set_cons_succ, i64_w, i32_w]; rfl))
   refine three_ (i := 5) (j := 6) (k := 13) (Ni := some 86) (Nj := some 87) (Nk := some 21) (bb 15 1983) (bb 15 2015) (bb 15 10143) rfl rfl rfl rfl rfl rfl (three_of HT_.out (by kernel_rfl)) (by decide) (by decide) (by decide) (fun K hK => ?_) (fun K hK => ?_) (fun K hK => ?_)
   ·refine Kd.R_append_rows_step (Kd.int .i64) (w0 := w9) w9.heap.size (by rfl) (.tmp 81) (.tmp 85) 22 3 (.int .i64 0) 8 rfl Try.underlying22 info3 rfl (by decide) (by omega) (.slice U1 ([] : List Int).length q1) [] x.f0 _ _ _ (fun k_ => ow f W.heap.size 0 k_ = 0) (fun _ => False) rfl rfl (r_same HU1 0) (Kd.C_below HLD.out.1.2 HB) (fun _ _ h => h) (fun _ h => h.elim) (fun k_ hk => ow_new hk) HB HB.size ?aL ?_
    (case aL => have := HX0.out; simp only [List.length_nil]; omega)
    intro u W1 ho HB1 hg_ hat
    rw [List.nil_append] at ho
    obtain ⟨Au, cu, rfl⟩ := Kd.R_slice ho
    refine hK.out _ _ ⟨(Below.cell HB1 (World.block_lt_of_cell? w9 _ X0.out)).trans X0.out, (Below.cell HB1 (World.block_lt_of_cell? w9 _ X1.out)).trans X1.out⟩ (fun hHeld => ?_)
    clear hK K
    refine nm ?_
    have hN := ST11000 ((ow f W.heap.size 0), (.slice U1 ([] : List Int).length q1), undef, Au, cu, none, 0, 0) W1 ⟨HB1, ho⟩
    refine norm_ ?_ hN
    show _ = putAll _ _
    (first | (simp only [putAll, Act.put, List.setIfInBounds_toArray, List.set_cons_zero, List.set_cons_succ, i64_w, i32_w]; done) | (simp only [putAll, Act.put, List.setIfInBounds_toArray, List.set_cons_zero, List.set_cons_succ, i64_w, i32_w]; rfl))
   ·refine Kd.R_lit_step (Kd.int .i64) _ 3 ?hg (N := 87) ?hd (xs := ([] : List Int)) (inner := []) (ok := fun _ => True) (okp := fun _ => True) ?hr ?hp (fun _ hk => hk) trivial (Below.refl _ _) (Nat.le_refl _) (by simp) ?_; (case hd => rfl); (case hg => rfl); (case hr => first | (go_simp; done) | (go_simp; rfl)); (case hp => exact Reps.none _ _)
    intro s W1 ho hb hg_ hnew_
    clear hg_ hnew_
    have HB1 := below_step HB hb
    obtain ⟨As, cs, rfl⟩ := Kd.R_slice ho
    refine hK.out _ _ ⟨(Below.cell HB1 (World.block_lt_of_cell? w9 _ X0.out)).trans X0.out, (Below.cell HB1 (World.block_lt_of_cell? w9 _ X1.out)).trans X1.out⟩ (fun hHeld => ?_)
    clear hK K
    refine nm ?_
    have hN := ST10100 ((ow f W.heap.size 1), undef, undef, U1, q1, As, cs, 0) W1 ⟨HB1, (r_fresh HU1 hb 1), (r_lit f ho HB.size 1)⟩
    refine norm_ ?_ hN
    show _ = putAll _ _
    (first | (simp only [putAll, Act.put, List.setIfInBounds_toArray, List.set_cons_zero, List.set_cons_succ, i64_w, i32_w]; done) | (simp only [putAll, Act.put, List.setIfInBounds_toArray, List.set_cons_zero, List.set_cons_succ, i64_w, i32_w]; rfl))
   ·refine box_step (by rfl) rfl (cs := #[.slice none 0 0, .slice none 0 0]) (t := 33) (by first | (go_simp; done) | (go_simp; rfl)) ?_
    intro g1 hg W1 hk hb
    have HB1 := below_step HB hb
    refine hK.out _ _ ⟨(Below.cell HB1 (World.block_lt_of_cell? w9 _ X0.out)).trans X0.out, (Below.cell HB1 (World.block_lt_of_cell? w9 _ X1.out)).trans X1.out⟩ (fun hHeld => ?_)
    clear hK K
    refine nm ?_
    have hN := ST10001 ((ow f W.heap.size 9), undef, undef, U1, q1, none, 0, g1) W1 ⟨HB1, (r_fresh HU1 hb 9), ⟨⟨hk, ow_new (by rw [hg]; exact Nat.le_refl _)⟩, by rw [hg]; exact HB.size⟩⟩
    refine norm_ ?_ hN
    show _ = putAll _ _
    (first | (simp only [putAll, Act.put, List.setIfInBounds_toArray, List.set_cons_zero, List.set_cons_succ, i64_w, i32_w]; done) | (simp only [putAll, Act.put, List.setIfInBounds_toArray, List.set_cons_zero, List.set_cons_succ, i64_w, i32_w]; rfl))
  intro ST10000
  generalize hf0 : (fun _ : Nat => 0) = f
  generalize wd = W at *
  refine three_ (i := 0) (j := 6) (k := 13) (Ni := some 81) (Nj := some 87) (Nk := some 21) (bb 15 1951) (bb 15 2014) (bb 15 10142) rfl rfl rfl rfl rfl rfl (three_of HT_.out (by kernel_rfl)) (by decide) (by decide) (by decide) (fun K hK => ?_) (fun K hK => ?_) (fun K hK => ?_)
  ·refine Kd.R_lit_step (Kd.int .i64) _ 3 ?hg (N := 81) ?hd (xs := ([] : List Int)) (inner := []) (ok := fun _ => True) (okp := fun _ => True) ?hr ?hp (fun _ hk => hk) trivial (Below.refl _ _) (Nat.le_refl _) (by simp) ?_; (case hd => rfl); (case hg => rfl); (case hr => first | (go_simp; done) | (go_simp; rfl)); (case hp => exact Reps.none _ _)
   intro s W1 ho hb hg_ hnew_
   clear hg_ hnew_
   have HB1 := below_step HB hb
   obtain ⟨As, cs, rfl⟩ := Kd.R_slice ho
   refine hK.out _ _ ⟨(Below.cell HB1 (World.block_lt_of_cell? w9 _ X0.out)).trans X0.out, (Below.cell HB1 (World.block_lt_of_cell? w9 _ X1.out)).trans X1.out⟩ (fun hHeld => ?_)
   clear hK K
   refine nm ?_
   have hN := ST10000 ((ow f W.heap.size 0), undef, undef, As, cs, none, 0, 0) W1 ⟨HB1, (r_lit f ho HB.size 0)⟩
   refine norm_ ?_ hN
   show _ = putAll _ _
   (first | (simp only [putAll, Act.put, List.setIfInBounds_toArray, List.set_cons_zero, List.set_cons_succ, i64_w, i32_w]; done) | (simp only [putAll, Act.put, List.setIfInBounds_toArray, List.set_cons_zero, List.set_cons_succ, i64_w, i32_w]; rfl))
  ·refine Kd.R_lit_step (Kd.int .i64) _ 3 ?hg (N := 87) ?hd (xs := ([] : List Int)) (inner := []) (ok := fun _ => True) (okp := fun _ => True) ?hr ?hp (fun _ hk => hk) trivial (Below.refl _ _) (Nat.le_refl _) (by simp) ?_; (case hd => rfl); (case hg => rfl); (case hr => first | (go_simp; done) | (go_simp; rfl)); (case hp => exact Reps.none _ _)
   intro s W1 ho hb hg_ hnew_
   clear hg_ hnew_
   have HB1 := below_step HB hb
   obtain ⟨As, cs, rfl⟩ := Kd.R_slice ho
   refine hK.out _ _ ⟨(Below.cell HB1 (World.block_lt_of_cell? w9 _ X0.out)).trans X0.out, (Below.cell HB1 (World.block_lt_of_cell? w9 _ X1.out)).trans X1.out⟩ (fun hHeld => ?_)
   clear hK K
   refine nm ?_
   have hN := ST00100 ((ow f W.heap.size 1), undef, undef, none, 0, As, cs, 0) W1 ⟨HB1, (r_lit f ho HB.size 1)⟩
   refine norm_ ?_ hN
   show _ = putAll _ _
   (first | (simp only [putAll, Act.put, List.setIfInBounds_toArray, List.set_cons_zero, List.set_cons_succ, i64_w, i32_w]; done) | (simp only [putAll, Act.put, List.setIfInBounds_toArray, List.set_cons_zero, List.set_cons_succ, i64_w, i32_w]; rfl))
  ·refine box_step (by rfl) rfl (cs := #[.slice none 0 0, .slice none 0 0]) (t := 33) (by first | (go_simp; done) | (go_simp; rfl)) ?_
   intro g1 hg W1 hk hb
   have HB1 := below_step HB hb
   refine hK.out _ _ ⟨(Below.cell HB1 (World.block_lt_of_cell? w9 _ X0.out)).trans X0.out, (Below.cell HB1 (World.block_lt_of_cell? w9 _ X1.out)).trans X1.out⟩ (fun hHeld => ?_)
   clear hK K
   refine nm ?_
   have hN := ST00001 ((ow f W.heap.size 9), undef, undef, none, 0, none, 0, g1) W1 ⟨HB1, ⟨⟨hk, ow_new (by rw [hg]; exact Nat.le_refl _)⟩, by rw [hg]; exact HB.size⟩⟩
   refine norm_ ?_ hN
   show _ = putAll _ _
   (first | (simp only [putAll, Act.put, List.setIfInBounds_toArray, List.set_cons_zero, List.set_cons_succ, i64_w, i32_w]; done) | (simp only [putAll, Act.put, List.setIfInBounds_toArray, List.set_cons_zero, List.set_cons_succ, i64_w, i32_w]; rfl))
 rintro ⟨f, s1, s2, U1, q1, U2, q2, g⟩ W ⟨HB, HU1, HU2, HX⟩
 try dsimp only at *
 refine norm_ (a' := ?_) ?_ ?_
 rotate_left
 ·show putAll _ _ = _
  (first | (simp only [putAll, Act.put, List.setIfInBounds_toArray, List.set_cons_zero, List.set_cons_succ, i64_w, i32_w]; done) | (simp only [putAll, Act.put, List.setIfInBounds_toArray, List.set_cons_zero, List.set_cons_succ, i64_w, i32_w]; rfl))
 refine last_ (i := 14) (N := none) (bb 15 32767) rfl rfl (one_of HT_.out (by kernel_rfl)) (by decide) (fun K hK => ?_)
 refine skip_ (w1 := W.setCells g 0 [(.slice U1 x.f0.length q1), (.slice U2 x.f1.length q2)]) rfl rfl (box_runO (t := 33) (p := .tmp 21) (x := .tmp 93) rfl 0 HX.1.1 (by simp) rfl rfl rfl (by rfl) (by intro q_ hq_; simp at hq_; rcases hq_ with rfl | rfl <;> rfl)) ?_
 refine hK.out _ _ ?_
 clear hK K
 refine done_ (done_of HT_.out (by kernel_rfl)) ?_
 have HGR0 : (W.setCells g 0 [(.slice U1 x.f0.length q1), (.slice U2 x.f1.length q2)]).heap[g]? = some (.cells #[(.slice U1 x.f0.length q1), (.slice U2 x.f1.length q2)] 33 (0, 0)) := blk_put (blk_put HX.1.1 0 _ rfl) 1 _ rfl
 have HK10 := am (r_box HU1 HX.1.2 (by decide) [(.slice U1 x.f0.length q1), (.slice U2 x.f1.length q2)] 0)
 have HM10 := am (r_box HU2 HX.1.2 (by decide) [(.slice U1 x.f0.length q1), (.slice U2 x.f1.length q2)] 0)
 have HB910 := am (box_farO [(.slice U1 x.f0.length q1), (.slice U2 x.f1.length q2)] 0 HX.2 HB)
 have HGR := am HGR0
 have HGX := am HX.2
 have HFG := am HX.1.2
 clear HGR0 HX HU1 HU2 HB HLD X0 X1 hHeld HT_ HW_
 generalize W.setCells g 0 [(.slice U1 x.f0.length q1), (.slice U2 x.f1.length q2)] = w10 at *
 have HX10 := am (Kd.R_below HX9.out HB910.out)
 have HGS10 := am (blk_below HGS9.out HB910.out)
 have HB10 := am (below_step HB9.out HB910.out)
 go_wp2_with (fail)
 obtain ⟨jc, hjc, hwc⟩ := H10.out a6 4 (by decide) (by decide)
 refine (hypercubelaw1_within.calls a6 4 (jc : Int) w10 hwc).mono ?_
 rintro e w11 ⟨rfl, hd⟩
 rename_i K3 hK3 K2 hK2 K1 hK1 K0 hK0
 have HREST : Aside0 (∀ {z16 z18 z19 z20 z21 z22 z23 z24 z25 z26 z27 z28 z29 z30 z31 z32 z33 z34 z35 z36 z37 z38 z39 z40 z41 z42 z43 z44 z45 z46 z47 z48 z49 z50 z51 z52 z53 z54 z55 z56 z57 z58 z59 z60 z61 z62 z63 z64 z65 z66 z67 z68 z69 z70 z71 z72 z73 z74 z75 z76 z77 z78 z79 z80 z81 z82 z83 z84 z85 z86 z87 z88 z89 z90 z91 z92 z93 z94 z95 z96 z97 z98 z99 z100 z101 z102 z103 z104 z105 z106 z107 z108 z109 z110 z111 z112 z113 z114 z115 z116 z117 z118 z119 z120 z121 z122 z123 z124 z125 z126 z127 z128 z129 z130 z131 z132 z133 z134 z135 z136 z137 z138 z139 z140 z141 z142 z143 z144 z145 z146 z147 z148 z149 z150 z151 z152 z153 z154 z155 z156 z157 z158 z159 z160 z161 z162 z163 z164 z165 z166 z167 z168 z169 z170 z171 z172 z173 z174 z175 z176 z177 z178 z179 z180 z181 z182 : Value} {W : World}, (W.heap[gs]? = some (.cells #[.slice A14 cards.length c14, .int .i64 meas] 24 (0, 0))) ∧ (Kd.R (Kd.int .i64) 3 W w.heap.size (fun k => k < w4.heap.size) (.slice A14 cards.length c14) cards) ∧ Below w.heap.size w W → K3 { tmps := #[.agg #[.slice A0 l0.length c0, .int .i64 m0], .slice A1 l1.length c1, .int .i64 a2, .slice A3 l3.length c3, .int .i64 a4, .slice A5 l5.length c5, .int .i64 a6, .int .i64 a7, .pointer (some ⟨gb, 0, none⟩), undef, undef, undef, undef, undef, undef, undef, z16, .pointer (some ⟨gs, 0, none⟩), z18, z19, z20, z21, z22, z23, z24, z25, z26, z27, z28, z29, z30, z31, z32, z33, z34, z35, z36, z37, z38, z39, z40, z41, z42, z43, z44, z45, z46, z47, z48, z49, z50, z51, z52, z53, z54, z55, z56, z57, z58, z59, z60, z61, z62, z63, z64, z65, z66, z67, z68, z69, z70, z71, z72, z73, z74, z75, z76, z77, z78, z79, z80, z81, z82, z83, z84, z85, z86, z87, z88, z89, z90, z91, z92, z93, z94, z95, z96, z97, z98, z99, z100, z101, z102, z103, z104, z105, z106, z107, z108, z109, z110, z111, z112, z113, z114, z115, z116, z117, z118, z119, z120, z121, z122, z123, z124, z125, z126, z127, z128, z129, z130, z131, z132, z133, z134, z135, z136, z137, z138, z139, z140, z141, z142, z143, z144, z145, z146, z147, z148, z149, z150, z151, z152, z153, z154, z155, z156, z157, z158, z159, z160, z161, z162, z163, z164, z165, z166, z167, z168, z169, z170, z171, z172, z173, z174, z175, z176, z177, z178, z179, z180, z181, z182], defers := [] } W) := by
  constructor
  intro z16 z18 z19 z20 z21 z22 z23 z24 z25 z26 z27 z28 z29 z30 z31 z32 z33 z34 z35 z36 z37 z38 z39 z40 z41 z42 z43 z44 z45 z46 z47 z48 z49 z50 z51 z52 z53 z54 z55 z56 z57 z58 z59 z60 z61 z62 z63 z64 z65 z66 z67 z68 z69 z70 z71 z72 z73 z74 z75 z76 z77 z78 z79 z80 z81 z82 z83 z84 z85 z86 z87 z88 z89 z90 z91 z92 z93 z94 z95 z96 z97 z98 z99 z100 z101 z102 z103 z104 z105 z106 z107 z108 z109 z110 z111 z112 z113 z114 z115 z116 z117 z118 z119 z120 z121 z122 z123 z124 z125 z126 z127 z128 z129 z130 z131 z132 z133 z134 z135 z136 z137 z138 z139 z140 z141 z142 z143 z144 z145 z146 z147 z148 z149 z150 z151 z152 z153 z154 z155 z156 z157 z158 z159 z160 z161 z162 z163 z164 z165 z166 z167 z168 z169 z170 z171 z172 z173 z174 z175 z176 z177 z178 z179 z180 z181 z182 W ⟨HGSx, HXx, HBx⟩
  have HGSr := am HGSx
  have HXr := am HXx
  have HBr := am HBx
  clear HGSx HXx HBx hK2 hK1 hK0 hd HY9 HX0 HK10 HM10 HB910 HGR HGX HFG HX10 HGS10 HB10 HB9 HB69 HX9 HGS9
  refine hK3 _ _ ?_
  clear hK3
  have HXCr := am (Kd.R_reads' HXr.out).2
  obtain ⟨js, hjs, hws⟩ := H10.out a6 5 (by decide) (by decide)
  go_wp2_with (fail)
  refine (hypercubelaw1_within.calls a6 5 (js : Int) W hws).mono ?_
  rintro e wr1 ⟨rfl, hd⟩
  rename_i K5 hK5 K6 hK6 K7 hK7
  have HBr1 := am (below_step HBr.out hd.below)
  have HGSr1 := am (blk_below HGSr.out hd.below)
  have HXr1 := am (Kd.R_below HXr.out hd.below)
  clear hd hws HBr HGSr HXr HXCr
  have H40 : Aside0 (∀ {z16 z18 z19 z20 z21 z22 z23 z24 z25 z26 z27 z28 z29 z30 z31 z32 z33 z34 z35 z36 z37 z38 z39 z40 z41 z42 z43 z44 z45 z46 z47 z48 z49 z50 z51 z52 z53 z54 z55 z56 z57 z58 z59 z60 z61 z62 z63 z64 z65 z66 z67 z68 z69 z70 z71 z72 z73 z74 z75 z76 z77 z78 z79 z80 z81 z82 z83 z84 z85 z86 z87 z88 z89 z90 z91 z92 z93 z94 z95 z96 z97 z98 z99 z100 z101 z102 z103 z104 z105 z106 z107 z108 z109 z110 z111 z112 z113 z114 z115 z116 z117 z118 z119 z120 z121 z122 z123 z124 z125 z126 z127 z128 z129 z130 z131 z132 z133 z134 z135 z136 z137 z138 z139 z140 z141 z142 z143 z144 z145 z146 z147 z148 z149 z150 z151 z152 z153 z154 z155 z156 z157 z158 z159 z160 z161 z162 z163 z164 z165 z166 z167 z168 z169 z170 z171 z172 z173 z174 z175 z176 z177 z178 z179 z180 z181 z182 : Value} {W : World} {cs : List Int} {ms : Int} {A : Option Addr} {c : Nat}, (cs.length ≤ 100 ∧ cs.length ≤ c ∧ Kd.C (Kd.int .i64) W A cs.length cs ∧ (W.heap[gs]? = some (.cells #[.slice A cs.length c, .int .i64 ms] 24 (0, 0))) ∧ Below w.heap.size w W) → K5 { tmps := #[.agg #[.slice A0 l0.length c0, .int .i64 m0], .slice A1 l1.length c1, .int .i64 a2, .slice A3 l3.length c3, .int .i64 a4, .slice A5 l5.length c5, .int .i64 a6, .int .i64 a7, .pointer (some ⟨gb, 0, none⟩), undef, undef, undef, undef, undef, undef, undef, z16, .pointer (some ⟨gs, 0, none⟩), z18, z19, z20, z21, z22, z23, z24, z25, z26, z27, z28, z29, z30, z31, z32, z33, z34, z35, z36, z37, z38, z39, z40, z41, z42, z43, z44, z45, z46, z47, z48, z49, z50, z51, z52, z53, z54, z55, z56, z57, z58, z59, z60, z61, z62, z63, z64, z65, z66, z67, z68, z69, z70, z71, z72, z73, z74, z75, z76, z77, z78, z79, z80, z81, z82, z83, z84, z85, z86, z87, z88, z89, z90, z91, z92, z93, z94, z95, z96, z97, z98, z99, z100, z101, z102, z103, z104, z105, z106, z107, z108, z109, z110, z111, z112, z113, z114, z115, z116, z117, z118, z119, z120, z121, z122, z123, z124, z125, z126, z127, z128, z129, z130, z131, z132, z133, z134, z135, z136, z137, z138, z139, z140, z141, z142, z143, z144, z145, z146, z147, z148, z149, z150, z151, z152, z153, z154, z155, z156, z157, z158, z159, z160, z161, z162, z163, z164, z165, z166, z167, z168, z169, z170, z171, z172, z173, z174, z175, z176, z177, z178, z179, z180, z181, z182], defers := [] } W) := by
   constructor
   intro z16 z18 z19 z20 z21 z22 z23 z24 z25 z26 z27 z28 z29 z30 z31 z32 z33 z34 z35 z36 z37 z38 z39 z40 z41 z42 z43 z44 z45 z46 z47 z48 z49 z50 z51 z52 z53 z54 z55 z56 z57 z58 z59 z60 z61 z62 z63 z64 z65 z66 z67 z68 z69 z70 z71 z72 z73 z74 z75 z76 z77 z78 z79 z80 z81 z82 z83 z84 z85 z86 z87 z88 z89 z90 z91 z92 z93 z94 z95 z96 z97 z98 z99 z100 z101 z102 z103 z104 z105 z106 z107 z108 z109 z110 z111 z112 z113 z114 z115 z116 z117 z118 z119 z120 z121 z122 z123 z124 z125 z126 z127 z128 z129 z130 z131 z132 z133 z134 z135 z136 z137 z138 z139 z140 z141 z142 z143 z144 z145 z146 z147 z148 z149 z150 z151 z152 z153 z154 z155 z156 z157 z158 z159 z160 z161 z162 z163 z164 z165 z166 z167 z168 z169 z170 z171 z172 z173 z174 z175 z176 z177 z178 z179 z180 z181 z182 W cs ms A c ⟨hlc, hcc, hC, hgs, hB⟩
   obtain ⟨qy, hqy⟩ := H6.out cs ms hlc
   have HQY := am hqy
   have HCr := am (And.intro hcc hC)
   have HGSq := am hgs
   have HBq := am hB
   have G0 := am (bc HGSq 0)
   have G1 := am (bc HGSq 1)
   clear hlc hcc hC hgs hB hqy hK6 hK7
   refine hK5 _ _ ?_
   clear hK5
   go_wp2
   refine start_ (n := 6) (S := fun w' => w'.cell? ⟨gs, 0, none⟩ = some (.slice A cs.length c) ∧ w'.cell? ⟨gs, 1, none⟩ = some (.int .i64 ms)) (ds := []) (bb 6 0) (by kernel_rfl) rfl rfl ⟨G0.out, G1.out⟩ (fun hHeld => ?_)
   refine with_tabW hypercubelaw1_RecChecks.tab40 hypercubelaw1_RecChecks.bits40 (fun HT_ HW_ => ?_)
   have HB := am (below_drew (Below.refl W.heap.size W))
   generalize W.drew = wd at HB hHeld ⊢
   refine tk (i := 0) (N := some 178) (bb 6 1) HT_ HW_ hHeld ?_
   refine tk (i := 2) (N := some 180) (bb 6 5) HT_ HW_ hHeld ?_
   refine one_ (i := 1) (N := some 179) (bb 6 7) rfl rfl (one_of HT_.out (by kernel_rfl)) (by decide) (fun K hK => ?_)
   refine goes_ Try.func17 (by kernel_rfl) rfl #[.agg #[.slice A cs.length c, .int .i64 ms]] (by rfl) rfl rfl (by (try simp only [List.map_toArray, List.map_cons, List.map_nil]); first | done | rfl) ?_
   with_reducible refine (rec_Check.calls A c cs ms qy _ (Kd.C_below HCr.out.2 HB.out) HCr.out.1 HQY.out.1).mono ?_

   rintro e wd9 ⟨rfl, hb⟩
   replace HB := am (below_step HB.out hb)
   clear hb
   refine ⟨_, rfl, ?_⟩
   refine hK.out _ _ ⟨(HB.out.cell (World.block_lt_of_cell? W _ G0.out)).trans G0.out, (HB.out.cell (World.block_lt_of_cell? W _ G1.out)).trans G1.out⟩ (fun hHeld => ?_)
   clear hK K
   refine nm ?_
   refine one_ (i := 3) (N := some 181) (bb 6 15) rfl rfl (one_of HT_.out (by kernel_rfl)) (by decide) (fun K hK => ?_)
   refine goes_ Try.func18 (by kernel_rfl) rfl #[.agg #[.slice A cs.length c, .int .i64 ms]] (by rfl) rfl rfl (by (try simp only [List.map_toArray, List.map_cons, List.map_nil]); first | done | rfl) ?_
   with_reducible refine (hypercuberef1_Check.calls k A c cs ms qy _ (Kd.C_below HCr.out.2 HB.out) HCr.out.1 HQY.out.2).mono ?_

   rintro e wd10 ⟨rfl, hb⟩
   replace HB := am (below_step HB.out hb)
   clear hb
   refine ⟨_, rfl, ?_⟩
   refine hK.out _ _ ⟨(HB.out.cell (World.block_lt_of_cell? W _ G0.out)).trans G0.out, (HB.out.cell (World.block_lt_of_cell? W _ G1.out)).trans G1.out⟩ (fun hHeld => ?_)
   clear hK K
   refine nm ?_
   refine pu (i := 4) (N := some 182) (bb 6 31) HT_ ?_
   refine pu (i := 5) (N := some 16) (bb 6 63) HT_ ?_
   refine done_ (done_of HT_.out (by kernel_rfl)) ?_
   have HBn := HB.out
   clear HB hHeld HT_ HW_
   go_wp2
   go_ret
   exact ⟨by first | rfl | (simp; done), below_step HBq.out HBn⟩
  clear hK5
  have g0 := bc HGSr1 0
  have g1 := bc HGSr1 1
  have fr0 := blk_frozen HGSr1.out 0
  have fr1 := blk_frozen HGSr1.out 1
  obtain ⟨ji, hji⟩ : ∃ ji : Int, ji = (js : Int) := ⟨_, rfl⟩
  rw [← hji]
  rcases (show ji = 0 ∨ ji = 1 ∨ ji = 2 ∨ ji = 3 ∨ ji = 4 by omega) with rfl | rfl | rfl | rfl | rfl
  ·clear hji hjs
   obtain ⟨jv, hjv, hwv⟩ := H10.out a7 5 (by decide) (by decide)
   have HWV := am (show hypercubelaw1_within.f a7 5 = some (jv : Int) from hwv)
   obtain ⟨gc, cc, ec, hgc1, hgc2, cellsc, hcc⟩ := Kd.R_form HXr1.out H9.out.1.1
   injection ec with ec1 ec2 ec3
   obtain ⟨adc, rfl⟩ : ∃ adc, A14 = some adc := ⟨_, ec1⟩
   injection ec1 with ec1
   have HDC := am ec1
   have HCG : Aside0 (gc < w4.heap.size) := ⟨HXr1.out.1 gc (by rw [ec1]; simp [Value.ownBlock])⟩
   have HCC := am (And.intro hgc1 hcc)
   have HCK : Aside0 (0 < cellsc.size) := ⟨by
    have hr := (Kd.R_reads' HXr1.out).2.2
    rw [ec1] at hr
    obtain ⟨_, e6, hx6⟩ := Kd.at_int hr 0 (by decide) (by have := H9.out.1.1; omega)
    cases e6
    rw [show ((⟨gc, 0, none⟩ : Addr).add (0 : Int).toNat) = ⟨gc, 0, none⟩ by simp [Addr.add], blk_cell hcc] at hx6
    exact (Array.getElem?_eq_some_iff.1 hx6).1⟩
   have G0 := am g0
   have pc := eq_true (show (0 : Int) < (cards.length : Int) by have := H9.out.1.1; omega)
   have pc2 := eq_true H9.out.1.1
   have pc3 := eq_false (show ¬ cards = [] by intro h; have := H9.out.1.1; rw [h] at this; exact absurd this (by decide))
   have pj := eq_true (show (0 : Int) ≤ (jv : Int) by omega)
   have qj := eq_true (show (jv : Int) < 5 by omega)
   have qj2 := eq_true hjv
   have HJV := am hjv
   clear hjv hwv ec2 ec3 ec1 hgc1 hgc2 hcc g0 g1 fr0 fr1
   go_wp2
   refine start_ (n := 10) (S := fun w' => w'.cell? ⟨gs, 0, none⟩ = some (.slice (some adc) cards.length c14) ∧ True) (ds := [9]) (bb 10 0) (by kernel_rfl) rfl rfl ⟨G0.out, trivial⟩ (fun hHeld => ?_)
   refine with_tabW hypercubelaw1_RecChecks.tab33 hypercubelaw1_RecChecks.bits33 (fun HT_ HW_ => ?_)
   have HB := below_drew (Below.refl wr1.heap.size wr1)
   generalize wr1.drew = wd at HB hHeld ⊢
   refine pu (i := 0) (N := some 148) (bb 10 1) HT_ ?_
   refine tk (i := 1) (N := some 149) (bb 10 3) HT_ HW_ hHeld ?_
   refine pu (i := 2) (N := some 150) (bb 10 7) HT_ ?_
   refine pu (i := 4) (N := some 152) (bb 10 23) HT_ ?_
   refine join_ (σ := (Addr) × (Nat)) 3 (bb 10 127) (fun s_ => [(151, (.slice (some s_.1) 5 s_.2)), (153, .int .i64 (jv : Int)), (154, .pointer (some (Addr.add s_.1 jv)))]) (fun s_ w' => Below wr1.heap.size wr1 w' ∧ Kd.R (Kd.int .i64) 3 w' wr1.heap.size (fun _ => True) (.slice (some s_.1) 5 s_.2) [0, 1, 16, 17, a7]) ?_ ?_
   rotate_left
   ·intro ST11
    refine join_ (σ := (Addr) × (Nat)) 5 (bb 10 55) (fun s_ => [(153, .int .i64 (jv : Int))]) (fun s_ w' => Below wr1.heap.size wr1 w') ?_ ?_
    ·rintro ⟨ad5, q5⟩ W HB
     try dsimp only at *
     refine norm_ (a' := ?_) ?_ ?_
     rotate_left
     ·show putAll _ _ = _
      (first | (simp only [putAll, Act.put, List.setIfInBounds_toArray, List.set_cons_zero, List.set_cons_succ, i64_w, i32_w]; done) | (simp only [putAll, Act.put, List.setIfInBounds_toArray, List.set_cons_zero, List.set_cons_succ, i64_w, i32_w]; rfl))
     refine one_ (i := 3) (N := some 151) (bb 10 63) rfl rfl (one_of HT_.out (by kernel_rfl)) (by decide) (fun K hK => ?_)
     refine Kd.R_lit_step (Kd.int .i64) _ 3 ?hg (N := 151) ?hd (xs := ([0, 1, 16, 17, a7] : List Int)) (inner := [.int .i64 (0), .int .i64 (1), .int .i64 (16), .int .i64 (17), .int .i64 (a7)]) (ok := fun _ => True) (okp := fun _ => True) ?hr ?hp (fun _ hk => hk) trivial (Below.refl _ _) (Nat.le_refl _) (by simp) ?_; (case hd => rfl); (case hg => rfl); (case hr => first | (go_simp; done) | (go_simp; rfl)); (case hp => exact (Reps.one (show Kd.M (Kd.int .i64) _ _ _ (0) [.int .i64 (0)] from rfl) (Reps.one (show Kd.M (Kd.int .i64) _ _ _ (1) [.int .i64 (1)] from rfl) (Reps.one (show Kd.M (Kd.int .i64) _ _ _ (16) [.int .i64 (16)] from rfl) (Reps.one (show Kd.M (Kd.int .i64) _ _ _ (17) [.int .i64 (17)] from rfl) (Reps.one (show Kd.M (Kd.int .i64) _ _ _ (a7) [.int .i64 (a7)] from rfl) (Reps.none _ _)))))))
     intro s W1 ho hb hg_ hnew_
     clear hg_ hnew_
     have HB1 := below_step HB hb
     obtain ⟨As, cs, rfl⟩ := Kd.R_slice ho
     obtain ⟨ads, e5, _⟩ := Kd.at_int (Kd.R_reads' ho).2.2 0 (by decide) (by simp)
     cases e5
     refine hK.out _ _ ⟨(Below.cell HB1 (World.block_lt_of_cell? wr1 _ G0.out)).trans G0.out, trivial⟩ (fun hHeld => ?_)
     clear hK K
     refine nm ?_
     refine pu (i := 6) (N := some 154) (bb 10 127) HT_ ?_
     have hN := ST11 (ads, cs) W1 ⟨HB1, Kd.R_lower ho HB.size⟩
     refine norm_ ?_ hN
     show _ = putAll _ _
     (first | (simp only [putAll, Act.put, List.setIfInBounds_toArray, List.set_cons_zero, List.set_cons_succ, i64_w, i32_w]; done) | (simp only [putAll, Act.put, List.setIfInBounds_toArray, List.set_cons_zero, List.set_cons_succ, i64_w, i32_w]; rfl))
    intro ST01
    refine join_ (σ := (Addr) × (Nat)) 5 (bb 10 31) (fun s_ => [(151, (.slice (some s_.1) 5 s_.2))]) (fun s_ w' => Below wr1.heap.size wr1 w' ∧ Kd.R (Kd.int .i64) 3 w' wr1.heap.size (fun _ => True) (.slice (some s_.1) 5 s_.2) [0, 1, 16, 17, a7]) ?_ ?_
    ·rintro ⟨ad5, q5⟩ W ⟨HB, HL⟩
     try dsimp only at *
     refine norm_ (a' := ?_) ?_ ?_
     rotate_left
     ·show putAll _ _ = _
      (first | (simp only [putAll, Act.put, List.setIfInBounds_toArray, List.set_cons_zero, List.set_cons_succ, i64_w, i32_w]; done) | (simp only [putAll, Act.put, List.setIfInBounds_toArray, List.set_cons_zero, List.set_cons_succ, i64_w, i32_w]; rfl))
     refine one_ (i := 5) (N := some 153) (bb 10 63) rfl rfl (one_of HT_.out (by kernel_rfl)) (by decide) (fun K hK => ?_)
     refine goes_ Try.func21 (by kernel_rfl) rfl #[.int .i64 a7, .int .i64 5] (by rfl) rfl rfl (by (try simp only [List.map_toArray, List.map_cons, List.map_nil]); first | done | rfl) ?_
     with_reducible refine (hypercubelaw1_within.calls a7 5 (jv : Int) _ HWV.out).mono ?_
     rintro e W1 ⟨rfl, hd⟩
     refine ⟨_, rfl, ?_⟩
     have hb := hd.below
     clear hd
     have HB1 := below_step HB hb
     refine hK.out _ _ ⟨(Below.cell HB1 (World.block_lt_of_cell? wr1 _ G0.out)).trans G0.out, trivial⟩ (fun hHeld => ?_)
     clear hK K
     refine nm ?_
     refine pu (i := 6) (N := some 154) (bb 10 127) HT_ ?_
     have hN := ST11 (ad5, q5) W1 ⟨HB1, Kd.R_below HL hb⟩
     refine norm_ ?_ hN
     show _ = putAll _ _
     (first | (simp only [putAll, Act.put, List.setIfInBounds_toArray, List.set_cons_zero, List.set_cons_succ, i64_w, i32_w]; done) | (simp only [putAll, Act.put, List.setIfInBounds_toArray, List.set_cons_zero, List.set_cons_succ, i64_w, i32_w]; rfl))
    intro ST10
    generalize wd = W at *
    refine two_ (i := 3) (j := 5) (Ni := some 151) (Nj := some 153) (bb 10 31) (bb 10 55) rfl rfl rfl rfl (two_of HT_.out (by kernel_rfl)) (by decide) (by decide) (fun K hK => ?_) (fun K hK => ?_)
    ·refine Kd.R_lit_step (Kd.int .i64) _ 3 ?hg (N := 151) ?hd (xs := ([0, 1, 16, 17, a7] : List Int)) (inner := [.int .i64 (0), .int .i64 (1), .int .i64 (16), .int .i64 (17), .int .i64 (a7)]) (ok := fun _ => True) (okp := fun _ => True) ?hr ?hp (fun _ hk => hk) trivial (Below.refl _ _) (Nat.le_refl _) (by simp) ?_; (case hd => rfl); (case hg => rfl); (case hr => first | (go_simp; done) | (go_simp; rfl)); (case hp => exact (Reps.one (show Kd.M (Kd.int .i64) _ _ _ (0) [.int .i64 (0)] from rfl) (Reps.one (show Kd.M (Kd.int .i64) _ _ _ (1) [.int .i64 (1)] from rfl) (Reps.one (show Kd.M (Kd.int .i64) _ _ _ (16) [.int .i64 (16)] from rfl) (Reps.one (show Kd.M (Kd.int .i64) _ _ _ (17) [.int .i64 (17)] from rfl) (Reps.one (show Kd.M (Kd.int .i64) _ _ _ (a7) [.int .i64 (a7)] from rfl) (Reps.none _ _)))))))
     intro s W1 ho hb hg_ hnew_
     clear hg_ hnew_
     have HB1 := below_step HB hb
     obtain ⟨As, cs, rfl⟩ := Kd.R_slice ho
     obtain ⟨ads, e5, _⟩ := Kd.at_int (Kd.R_reads' ho).2.2 0 (by decide) (by simp)
     cases e5
     refine hK.out _ _ ⟨(Below.cell HB1 (World.block_lt_of_cell? wr1 _ G0.out)).trans G0.out, trivial⟩ (fun hHeld => ?_)
     clear hK K
     refine nm ?_
     have hN := ST10 (ads, cs) W1 ⟨HB1, Kd.R_lower ho HB.size⟩
     refine norm_ ?_ hN
     show _ = putAll _ _
     (first | (simp only [putAll, Act.put, List.setIfInBounds_toArray, List.set_cons_zero, List.set_cons_succ, i64_w, i32_w]; done) | (simp only [putAll, Act.put, List.setIfInBounds_toArray, List.set_cons_zero, List.set_cons_succ, i64_w, i32_w]; rfl))
    ·refine goes_ Try.func21 (by kernel_rfl) rfl #[.int .i64 a7, .int .i64 5] (by rfl) rfl rfl (by (try simp only [List.map_toArray, List.map_cons, List.map_nil]); first | done | rfl) ?_
     with_reducible refine (hypercubelaw1_within.calls a7 5 (jv : Int) _ HWV.out).mono ?_
     rintro e W1 ⟨rfl, hd⟩
     refine ⟨_, rfl, ?_⟩
     have hb := hd.below
     clear hd
     have HB1 := below_step HB hb
     refine hK.out _ _ ⟨(Below.cell HB1 (World.block_lt_of_cell? wr1 _ G0.out)).trans G0.out, trivial⟩ (fun hHeld => ?_)
     clear hK K
     refine nm ?_
     have hN := ST01 (⟨0, 0, none⟩, 0) W1 (HB1)
     refine norm_ ?_ hN
     show _ = putAll _ _
     (first | (simp only [putAll, Act.put, List.setIfInBounds_toArray, List.set_cons_zero, List.set_cons_succ, i64_w, i32_w]; done) | (simp only [putAll, Act.put, List.setIfInBounds_toArray, List.set_cons_zero, List.set_cons_succ, i64_w, i32_w]; rfl))
   rintro ⟨ad5, q5⟩ W ⟨HB, HL⟩
   try dsimp only at *
   refine norm_ (a' := ?_) ?_ ?_
   rotate_left
   ·show putAll _ _ = _
    (first | (simp only [putAll, Act.put, List.setIfInBounds_toArray, List.set_cons_zero, List.set_cons_succ, i64_w, i32_w]; done) | (simp only [putAll, Act.put, List.setIfInBounds_toArray, List.set_cons_zero, List.set_cons_succ, i64_w, i32_w]; rfl))
   refine one_ (i := 7) (N := some 155) (bb 10 255) rfl rfl (one_of HT_.out (by kernel_rfl)) (by decide) (fun K hK => ?_)
   obtain ⟨_, e6, hx6⟩ := Kd.at_int (Kd.R_reads' HL).2.2 (jv : Int) (by omega) (by have := HJV.out; simp only [List.length_cons, List.length_nil]; omega)
   cases e6
   rw [Int.toNat_natCast] at hx6
   generalize rd [0, 1, 16, 17, a7] (jv : Int) = y at hx6
   refine value_ (v := .int .i64 y) (w1 := W) rfl rfl (by go_simp; first | done | rfl) ?_
   clear hx6
   refine hK.out _ _ ⟨(Below.cell HB (World.block_lt_of_cell? wr1 _ G0.out)).trans G0.out, trivial⟩ (fun hHeld => ?_)
   clear hK K
   refine nm ?_
   refine pu (i := 8) (N := some 156) (bb 10 511) HT_ ?_
   refine last_ (i := 9) (N := none) (bb 10 1023) rfl rfl (one_of HT_.out (by kernel_rfl)) (by decide) (fun K hK => ?_)
   refine skip_ (w1 := W.setCell ⟨gc, 0, none⟩ (.int .i64 y)) rfl rfl (int_runK (t := 3) (p := .tmp 156) (x := .tmp 155) rfl (blk_below HCC.out.2 HB) HCK.out (congrArg (fun q => Value.pointer (some q)) HDC.out) rfl (by rfl)) ?_
   refine hK.out _ _ ?_
   clear hK K
   refine done_ (done_of HT_.out (by kernel_rfl)) ?_
   have hKW := Kd.R_below HXr1.out HB
   rw [HDC.out] at hKW
   have hx0 : W.cell? ⟨gc, 0, none⟩ = some (.int .i64 (rd cards 0)) := by
    obtain ⟨_, e6, hx6⟩ := Kd.at_int (Kd.R_reads' hKW).2.2 0 (by decide) (by have := H9.out.1.1; omega)
    cases e6
    rw [← show ((⟨gc, 0, none⟩ : Addr).add (0 : Int).toNat) = ⟨gc, 0, none⟩ by simp [Addr.add]]; exact hx6
   have hseg := (Kd.R_seg hKW (0 : Int) (by decide) (by have := H9.out.1.1; omega) (c := [.int .i64 (rd cards 0)]) (seg := [.int .i64 y]) (j := 0) rfl (fun j u hu => by
    rcases j with _ | j
    ·injection hu with hu; rw [← hu]; exact hx0
    ·simp at hu) (Nat.le_refl 1) (x' := y) (okp := fun _ => False) rfl (fun _ hk => hk.elim)).1
   have HKz := am (show Kd.R (Kd.int .i64) 3 (W.setCell ⟨gc, 0, none⟩ (.int .i64 y)) w.heap.size (fun k_ => k_ < w4.heap.size) (.slice (some ⟨gc, 0, none⟩) (cards.set 0 y).length c14) (cards.set 0 y) by rw [List.length_set]; exact hseg)
   rw [show (some (⟨gc, 0, none⟩ : Addr)) = some adc from congrArg some HDC.out.symm] at HKz
   have HGz := am ((Below.heap_setCell W ⟨gc, 0, none⟩ (.int .i64 y) gs (by have := HCG.out; have := HGL.out; show gs ≠ gc; omega)).trans (blk_below HGSr1.out HB))
   have HBz := am (show Below w.heap.size w (W.setCell ⟨gc, 0, none⟩ (.int .i64 y)) from below_set (below_step HBr1.out HB) HCC.out.1)
   rw [show Value.slice (some adc) cards.length c14 = .slice (some adc) (cards.set 0 y).length c14 by rw [List.length_set]] at HGz
   clear hKW hx0 hseg HL HB hHeld HT_ HW_
   generalize W.setCell ⟨gc, 0, none⟩ (.int .i64 y) = wz at *
   go_wp2
   exact H40.out ⟨by rw [List.length_set]; have := H9.out.1.2; omega, by rw [List.length_set]; exact (Kd.R_reads' HXr1.out).2.1, (Kd.R_reads' HKz.out).2.2, HGz.out, HBz.out⟩
  ·clear hji hjs
   obtain ⟨jv, hjv, hwv⟩ := H10.out a7 5 (by decide) (by decide)
   have pj := eq_true (show (0 : Int) ≤ (jv : Int) by omega)
   have qj := eq_true (show (jv : Int) < 5 by omega)
   have qj2 := eq_true hjv
   have HJV := am hjv
   go_wp2_with (first | ((with_reducible refine gate_dst (N := 160) rfl ?_); refine Kd.R_lit (Kd.int .i64) _ 3 ?hg (N := 160) ?hd (xs := ([-1, 0, 2, 3, a7] : List Int)) (inner := [.int .i64 (-1), .int .i64 (0), .int .i64 (2), .int .i64 (3), .int .i64 (a7)]) (ok := fun _ => True) (okp := fun _ => True) ?hr ?hp (fun _ hk => hk) trivial (Below.refl _ _) (Nat.le_refl _) (by simp) ?_; (case hd => rfl); (case hg => rfl); (case hr => first | (go_simp; done) | (go_simp; rfl)); (case hp => exact (Reps.one (show Kd.M (Kd.int .i64) _ _ _ (-1) [.int .i64 (-1)] from rfl) (Reps.one (show Kd.M (Kd.int .i64) _ _ _ (0) [.int .i64 (0)] from rfl) (Reps.one (show Kd.M (Kd.int .i64) _ _ _ (2) [.int .i64 (2)] from rfl) (Reps.one (show Kd.M (Kd.int .i64) _ _ _ (3) [.int .i64 (3)] from rfl) (Reps.one (show Kd.M (Kd.int .i64) _ _ _ (a7) [.int .i64 (a7)] from rfl) (Reps.none _ _))))))); intro vl wA ho hb hg_ hnew_; obtain ⟨Al, cl, rfl⟩ := Kd.R_slice ho; have HLa := am (Kd.R_reads' ho).2.2; have HBa := am hb; obtain ⟨_, e7, _⟩ := Kd.at_int HLa.out 0 (by decide) (by simp); cases e7; clear ho hb hg_ hnew_))
   refine (hypercubelaw1_within.calls a7 5 (jv : Int) wA hwv).mono ?_
   rintro e wB ⟨rfl, hd⟩
   obtain ⟨_, e6, hx6⟩ := Kd.at_int (Kd.C_below HLa.out hd.below) (jv : Int) (by omega) (by have := HJV.out; simp only [List.length_cons, List.length_nil]; omega)
   cases e6
   rw [Int.toNat_natCast] at hx6
   generalize rd [-1, 0, 2, 3, a7] (jv : Int) = y at hx6
   have HBb := am (below_step HBa.out hd.below)
   have hgb := blk_below HGSr1.out HBb.out
   have HGb := am hgb
   have g1 := (blk_cell hgb 1).trans rfl
   have fr1 := blk_frozen hgb 1
   clear hd hwv hgb
   go_wp2
   have HBz := below_step HBr1.out (show Below wr1.heap.size wr1 wB from HBb.out)
   exact H40.out ⟨by have := H9.out.1.2; omega, (Kd.R_reads' HXr1.out).2.1, (Kd.R_reads' (show Kd.R (Kd.int .i64) 3 (wB.setCell ⟨gs, 1, none⟩ (.int .i64 y)) w.heap.size (fun k => k < w4.heap.size) (.slice A14 cards.length c14) cards from Kd.R_far (Kd.R_below HXr1.out HBb.out) (fun k hk => by have := HGL.out; show k ≠ gs; omega) _)).2.2, blk_put HGb.out 1 _ rfl, below_set HBz HGW.out⟩
  ·clear hji hjs
   have HXq := am (show Kd.R (Kd.int .i64) 3 wr1 w.heap.size (fun k => k ≠ gs) (.slice A14 cards.length c14) cards from Kd.R_mono HXr1.out (fun k hk => by have := HGL.out; omega))
   have HGX' := am (blk_lt HGSr1.out)
   go_wp2_with (first
   | ((with_reducible refine gate_dst (N := 170) rfl ?_); refine Kd.R_lit (Kd.int .i64) _ 3 ?hg (N := 170) ?hd (xs := ([2, 2] : List Int)) (inner := [.int .i64 (2), .int .i64 (2)]) (ok := fun _ => True) (okp := fun _ => True) ?hr ?hp (fun _ hk => hk) trivial (Below.refl _ _) (Nat.le_refl _) (by simp) ?_; (case hd => rfl); (case hg => rfl); (case hr => first | (go_simp; done) | (go_simp; rfl)); (case hp => exact (Reps.one (show Kd.M (Kd.int .i64) _ _ _ (2) [.int .i64 (2)] from rfl) (Reps.one (show Kd.M (Kd.int .i64) _ _ _ (2) [.int .i64 (2)] from rfl) (Reps.none _ _)))); intro vl wA ho hb hg_ hnew_; obtain ⟨Al, cl, rfl⟩ := Kd.R_slice ho; have HLa := am (Kd.R_reads' ho).2.2; have HBa := am (below_step HBr1.out hb); have HXa := am (Kd.R_below HXq.out hb); have HGa := am (blk_below HGSr1.out hb); clear ho hb hg_ hnew_)
   | ((with_reducible refine gate_builtin (b := .append) (xs := #[.tmp 169, .tmp 170]) rfl ?_); (try (refine gate_guard (by rfl) ?_; dsimp only)); at_builtin; refine Kd.R_append_rows (Kd.int .i64) (w0 := w) w.heap.size rfl (.tmp 169) (.tmp 170) 22 3 (.int .i64 0) 8 rfl Try.underlying22 info3 rfl (by decide) (by omega) (.slice A14 cards.length c14) cards [2, 2] _ _ _ (fun k_ => k_ ≠ gs) (fun _ => False) rfl rfl ?aO ?aR (fun _ _ h => h) (fun _ h => h.elim) (fun k_ hk e => by have := blk_lt HGa.out; omega) ?aB ?aS ?aL ?_; (case aO => exact HXa.out); (case aR => exact HLa.out); (case aB => exact HBa.out); (case aS => exact HBa.out.size); (case aL => have := H9.out.1.2; simp only [List.length_cons, List.length_nil]; omega); intro vb wB ho hb hg hat; obtain ⟨kk, hkk⟩ : ∃ kk, kk = cards ++ [2, 2] := ⟨_, rfl⟩; rw [← hkk] at ho; have HLK : Aside0 (kk.length = cards.length + 2) := ⟨by rw [hkk]; simp⟩; obtain ⟨Ab, cb, rfl⟩ := Kd.R_slice ho; have HXb := am ho; have HBb := am hb; have HGb := am (blk_grown HGa.out hg (fun e => HXa.out.1 gs e.symm rfl)); have HGYb := am (blk_lt HGb.out); clear hkk; clear ho hb hg hat)
   | ((with_reducible refine gate_dst (N := 172) rfl ?_); refine Kd.R_lit (Kd.int .i64) _ 3 ?hg (N := 172) ?hd (xs := ([2] : List Int)) (inner := [.int .i64 (2)]) (ok := fun _ => True) (okp := fun _ => True) ?hr ?hp (fun _ hk => hk) trivial (Below.refl _ _) (Nat.le_refl _) (by simp) ?_; (case hd => rfl); (case hg => rfl); (case hr => first | (go_simp; done) | (go_simp; rfl)); (case hp => exact (Reps.one (show Kd.M (Kd.int .i64) _ _ _ (2) [.int .i64 (2)] from rfl) (Reps.none _ _))); intro vm wC ho hb hg_ hnew_; obtain ⟨Am, cm, rfl⟩ := Kd.R_slice ho; have HLc := am (Kd.R_reads' ho).2.2; have HBc := am (below_step HBb.out hb); have HXc := am (Kd.R_below HXb.out hb); have HGc := am (blk_below HGb.out hb); clear ho hb hg_ hnew_)
   | ((with_reducible refine gate_builtin (b := .append) (xs := #[.tmp 171, .tmp 172]) rfl ?_); (try (refine gate_guard (by rfl) ?_; dsimp only)); at_builtin; refine Kd.R_append_rows (Kd.int .i64) (w0 := w) w.heap.size rfl (.tmp 171) (.tmp 172) 22 3 (.int .i64 0) 8 rfl Try.underlying22 info3 rfl (by decide) (by omega) (.slice Ab kk.length cb) kk [2] _ _ _ (fun k_ => k_ ≠ gs) (fun _ => False) rfl rfl ?aO ?aR (fun _ _ h => h) (fun _ h => h.elim) (fun k_ hk e => by have := blk_lt HGc.out; omega) ?aB ?aS ?aL ?_; (case aO => exact HXc.out); (case aR => exact HLc.out); (case aB => exact HBc.out); (case aS => exact HBc.out.size); (case aL => have := H9.out.1.2; have := HLK.out; simp only [List.length_cons, List.length_nil]; omega); intro vd wD ho hb hg hat; obtain ⟨kj, hkj⟩ : ∃ kj, kj = kk ++ [2] := ⟨_, rfl⟩; rw [← hkj] at ho; have HLJ : Aside0 (kj.length = kk.length + 1) := ⟨by rw [hkj]; simp⟩; obtain ⟨Ad, cd, rfl⟩ := Kd.R_slice ho; have HXd := am ho; have HCa := am (Kd.R_reads' ho).2.1; have HBd := am hb; have HGd := am (blk_grown HGc.out hg (fun e => HXc.out.1 gs e.symm rfl)); have p0 := (blk_cell HGd.out 0).trans rfl; have pf := blk_frozen HGd.out 0; clear hkj; clear ho hb hg hat))
   exact H40.out ⟨by have := HLK.out; have := HLJ.out; have := H9.out.1.2; omega, HCa.out, (Kd.R_reads' (Kd.R_far (p := ⟨gs, 0, none⟩) HXd.out (fun k hk => hk) _)).2.2, blk_put HGd.out 0 _ rfl, below_set HBd.out HGW.out⟩
  ·clear hji hjs
   go_wp2
   exact H40.out ⟨show ([] : List Int).length ≤ 100 by decide, show ([] : List Int).length ≤ 0 by decide, (Kd.R_reads' (Kd.R_nil (Kd.int .i64) 3 _ 0 (fun _ => True))).2.2, blk_put HGSr1.out 0 _ rfl, below_set HBr1.out HGW.out⟩
  ·clear hji hjs
   go_wp2
   exact H40.out ⟨by have := H9.out.1.2; omega, (Kd.R_reads' HXr1.out).2.1, (Kd.R_reads' HXr1.out).2.2, HGSr1.out, HBr1.out⟩
 clear hK3
 have H29 : Aside0 (∀ {z16 z18 z19 z20 z22 z23 z24 z25 z26 z27 z28 z29 z30 z31 z32 z33 z34 z35 z36 z37 z38 z39 z40 z41 z42 z43 z44 z45 z46 z47 z48 z49 z50 z51 z52 z53 z54 z55 z56 z57 z58 z59 z60 z61 z62 z63 z64 z65 z66 z67 z68 z69 z70 z71 z72 z73 z74 z75 z76 z77 z78 z79 z80 z81 z82 z83 z84 z85 z86 z87 z88 z89 z90 z91 z92 z93 z94 z95 z96 z97 z98 z99 z100 z101 z102 z103 z104 z105 z106 z107 z108 z109 z110 z111 z112 z113 z114 z115 z116 z117 z118 z119 z120 z121 z122 z123 z124 z125 z126 z127 z128 z129 z130 z131 z132 z133 z134 z135 z136 z137 z138 z139 z140 z141 z142 z143 z144 z145 z146 z147 z148 z149 z150 z151 z152 z153 z154 z155 z156 z157 z158 z159 z160 z161 z162 z163 z164 z165 z166 z167 z168 z169 z170 z171 z172 z173 z174 z175 z176 z177 z178 z179 z180 z181 z182 : Value} {W : World} {kk mm : List Int} {Ak : Option Addr} {ck : Nat} {Am : Option Addr} {cm : Nat}, (kk.length ≤ 100 ∧ kk.length ≤ ck ∧ mm.length ≤ cm ∧ Kd.C (Kd.int .i64) W Ak kk.length kk ∧ Kd.C (Kd.int .i64) W Am mm.length mm ∧ (W.heap[g]? = some (.cells #[.slice Ak kk.length ck, .slice Am mm.length cm] 33 (0, 0))) ∧ (W.heap[gs]? = some (.cells #[.slice A14 cards.length c14, .int .i64 meas] 24 (0, 0))) ∧ (Kd.R (Kd.int .i64) 3 W w.heap.size (fun k => k < w4.heap.size) (.slice A14 cards.length c14) cards) ∧ Below w.heap.size w W) → K2 { tmps := #[.agg #[.slice A0 l0.length c0, .int .i64 m0], .slice A1 l1.length c1, .int .i64 a2, .slice A3 l3.length c3, .int .i64 a4, .slice A5 l5.length c5, .int .i64 a6, .int .i64 a7, .pointer (some ⟨gb, 0, none⟩), undef, undef, undef, undef, undef, undef, undef, z16, .pointer (some ⟨gs, 0, none⟩), z18, z19, z20, .pointer (some ⟨g, 0, none⟩), z22, z23, z24, z25, z26, z27, z28, z29, z30, z31, z32, z33, z34, z35, z36, z37, z38, z39, z40, z41, z42, z43, z44, z45, z46, z47, z48, z49, z50, z51, z52, z53, z54, z55, z56, z57, z58, z59, z60, z61, z62, z63, z64, z65, z66, z67, z68, z69, z70, z71, z72, z73, z74, z75, z76, z77, z78, z79, z80, z81, z82, z83, z84, z85, z86, z87, z88, z89, z90, z91, z92, z93, z94, z95, z96, z97, z98, z99, z100, z101, z102, z103, z104, z105, z106, z107, z108, z109, z110, z111, z112, z113, z114, z115, z116, z117, z118, z119, z120, z121, z122, z123, z124, z125, z126, z127, z128, z129, z130, z131, z132, z133, z134, z135, z136, z137, z138, z139, z140, z141, z142, z143, z144, z145, z146, z147, z148, z149, z150, z151, z152, z153, z154, z155, z156, z157, z158, z159, z160, z161, z162, z163, z164, z165, z166, z167, z168, z169, z170, z171, z172, z173, z174, z175, z176, z177, z178, z179, z180, z181, z182], defers := [] } W) := by
  constructor
  intro z16 z18 z19 z20 z22 z23 z24 z25 z26 z27 z28 z29 z30 z31 z32 z33 z34 z35 z36 z37 z38 z39 z40 z41 z42 z43 z44 z45 z46 z47 z48 z49 z50 z51 z52 z53 z54 z55 z56 z57 z58 z59 z60 z61 z62 z63 z64 z65 z66 z67 z68 z69 z70 z71 z72 z73 z74 z75 z76 z77 z78 z79 z80 z81 z82 z83 z84 z85 z86 z87 z88 z89 z90 z91 z92 z93 z94 z95 z96 z97 z98 z99 z100 z101 z102 z103 z104 z105 z106 z107 z108 z109 z110 z111 z112 z113 z114 z115 z116 z117 z118 z119 z120 z121 z122 z123 z124 z125 z126 z127 z128 z129 z130 z131 z132 z133 z134 z135 z136 z137 z138 z139 z140 z141 z142 z143 z144 z145 z146 z147 z148 z149 z150 z151 z152 z153 z154 z155 z156 z157 z158 z159 z160 z161 z162 z163 z164 z165 z166 z167 z168 z169 z170 z171 z172 z173 z174 z175 z176 z177 z178 z179 z180 z181 z182 W kk mm Ak ck Am cm ⟨hlk, hck, hcm, HCk, HCm, HGRx, HGSx, HXx, HBx⟩
  have HXr := am HXx
  have HKr := am (And.intro hck HCk)
  have HMr := am (And.intro hcm HCm)
  have HGRr := am HGRx
  have HGSr := am HGSx
  have HBr := am HBx
  have HLK := am hlk
  have HXC := am (Kd.R_reads' HXr.out).2
  clear hlk hck hcm HCk HCm HGRx HGSx HXx HBx hK1 hK0 hd HK10 HM10 HB910 HGR HGX HFG HX10 HGS10 HB10 HB9 HB69 HX9 HGS9
  obtain ⟨qx, hqx⟩ := H7.out cards meas kk mm HLK.out
  have HQX := am hqx
  have G0 := am (bc HGSr 0)
  have G1 := am (bc HGSr 1)
  have K0' := am (bc HGRr 0)
  have K1' := am (bc HGRr 1)
  clear hqx
  refine hK2 _ _ ?_
  clear hK2
  go_wp2
  refine start_ (n := 7) (S := fun w' => w'.cell? ⟨gs, 0, none⟩ = some (.slice A14 cards.length c14) ∧ w'.cell? ⟨gs, 1, none⟩ = some (.int .i64 meas) ∧ w'.cell? ⟨g, 0, none⟩ = some (.slice Ak kk.length ck) ∧ w'.cell? ⟨g, 1, none⟩ = some (.slice Am mm.length cm)) (ds := []) (bb 7 0) (by kernel_rfl) rfl rfl ⟨G0.out, G1.out, K0'.out, K1'.out⟩ (fun hHeld => ?_)
  refine with_tabW hypercubelaw1_RecChecks.tab29 hypercubelaw1_RecChecks.bits29 (fun HT_ HW_ => ?_)
  have HB := am (below_drew (Below.refl W.heap.size W))
  generalize W.drew = wd at HB hHeld ⊢
  refine tk (i := 0) (N := some 137) (bb 7 1) HT_ HW_ hHeld ?_
  refine tk (i := 1) (N := some 138) (bb 7 3) HT_ HW_ hHeld ?_
  refine tk (i := 3) (N := some 140) (bb 7 11) HT_ HW_ hHeld ?_
  refine tk (i := 4) (N := some 141) (bb 7 27) HT_ HW_ hHeld ?_
  refine one_ (i := 2) (N := some 139) (bb 7 31) rfl rfl (one_of HT_.out (by kernel_rfl)) (by decide) (fun K hK => ?_)
  refine goes_ Try.func19 (by kernel_rfl) rfl #[.agg #[.slice A14 cards.length c14, .int .i64 meas], .agg #[.slice Ak kk.length ck, .slice Am mm.length cm]] (by rfl) rfl rfl (by (try simp only [List.map_toArray, List.map_cons, List.map_nil]); first | done | rfl) ?_
  with_reducible refine (rec_Right.calls k A14 c14 cards meas Ak ck kk Am cm mm qx _ (Kd.C_below HXC.out.2 HB.out) HXC.out.1 (Kd.C_below HKr.out.2 HB.out) HKr.out.1 (Kd.C_below HMr.out.2 HB.out) HMr.out.1 HQX.out.1).mono ?_

  rintro e wd13 ⟨rfl, hb⟩
  replace HB := am (below_step HB.out hb)
  clear hb
  refine ⟨_, rfl, ?_⟩
  refine hK.out _ _ ⟨(HB.out.cell (World.block_lt_of_cell? W _ G0.out)).trans G0.out, (HB.out.cell (World.block_lt_of_cell? W _ G1.out)).trans G1.out, (HB.out.cell (World.block_lt_of_cell? W _ K0'.out)).trans K0'.out, (HB.out.cell (World.block_lt_of_cell? W _ K1'.out)).trans K1'.out⟩ (fun hHeld => ?_)
  clear hK K
  refine nm ?_
  refine one_ (i := 5) (N := some 142) (bb 7 63) rfl rfl (one_of HT_.out (by kernel_rfl)) (by decide) (fun K hK => ?_)
  refine goes_ Try.func20 (by kernel_rfl) rfl #[.agg #[.slice A14 cards.length c14, .int .i64 meas], .agg #[.slice Ak kk.length ck, .slice Am mm.length cm]] (by rfl) rfl rfl (by (try simp only [List.map_toArray, List.map_cons, List.map_nil]); first | done | rfl) ?_
  with_reducible refine (hypercuberef1_Right.calls k A14 c14 cards meas Ak ck kk Am cm mm qx _ (Kd.C_below HXC.out.2 HB.out) HXC.out.1 (Kd.C_below HKr.out.2 HB.out) HKr.out.1 (Kd.C_below HMr.out.2 HB.out) HMr.out.1 HQX.out.2).mono ?_

  rintro e wd14 ⟨rfl, hb⟩
  replace HB := am (below_step HB.out hb)
  clear hb
  refine ⟨_, rfl, ?_⟩
  refine hK.out _ _ ⟨(HB.out.cell (World.block_lt_of_cell? W _ G0.out)).trans G0.out, (HB.out.cell (World.block_lt_of_cell? W _ G1.out)).trans G1.out, (HB.out.cell (World.block_lt_of_cell? W _ K0'.out)).trans K0'.out, (HB.out.cell (World.block_lt_of_cell? W _ K1'.out)).trans K1'.out⟩ (fun hHeld => ?_)
  clear hK K
  refine nm ?_
  refine pu (i := 6) (N := some 143) (bb 7 127) HT_ ?_
  refine done_ (done_of HT_.out (by kernel_rfl)) ?_
  have HBn := HB.out
  clear HB hHeld HT_ HW_
  go_wp2
  exact HREST.out ⟨blk_below HGSr.out HBn, Kd.R_below HXr.out HBn, below_step HBr.out HBn⟩
 clear hK2 HREST
 have hb11 := hd.below
 have HB911 := am (below_step HB910.out hb11)
 have HK11 := am (Kd.R_below HK10.out hb11)
 have HM11 := am (Kd.R_below HM10.out hb11)
 have HGR11 := am (blk_below HGR.out hb11)
 have g0 := bc HGR11 0
 have g1 := bc HGR11 1
 have fr0 := blk_frozen HGR11.out 0
 have fr1 := blk_frozen HGR11.out 1
 clear hd hb11 HK10 HM10 HGR HX10 HGS10 HB10 HB910 HB69 HY9 hwc
 obtain ⟨ji, hji⟩ : ∃ ji : Int, ji = (jc : Int) := ⟨_, rfl⟩
 rw [← hji]
 rcases (show ji = 0 ∨ ji = 1 ∨ ji = 2 ∨ ji = 3 by omega) with rfl | rfl | rfl | rfl
 ·clear hji hjc
  obtain ⟨jv, hjv, hwv⟩ := H10.out a7 4 (by decide) (by decide)
  have HWV := am (show hypercubelaw1_within.f a7 4 = some (jv : Int) from hwv)
  obtain ⟨gc, cc, ec, hgc1, hgc2, cellsc, hcc⟩ := Kd.R_form HX9.out H9.out.1.1
  injection ec with ec1 ec2 ec3
  obtain ⟨adc, rfl⟩ : ∃ adc, A14 = some adc := ⟨_, ec1⟩
  injection ec1 with ec1
  obtain ⟨gk, ckk, ek, hgk1, hgk2, cellsk, hkk⟩ := Kd.R_form HK11.out HX0.out.1
  injection ek with ek1 ek2 ek3
  obtain ⟨adu, rfl⟩ : ∃ adu, U1 = some adu := ⟨_, ek1⟩
  injection ek1 with ek1
  have HDC := am ec1
  have HDU := am ek1
  have HFK : Aside0 (f gk = 0) := ⟨HK11.out.1 gk (by rw [ek1]; simp [Value.ownBlock])⟩
  have HGK := am (And.intro hgk1 hkk)
  have HCK : Aside0 (0 < cellsk.size) := ⟨by
   have hr := (Kd.R_reads' HK11.out).2.2
   rw [ek1] at hr
   obtain ⟨_, e6, hx6⟩ := Kd.at_int hr 0 (by decide) (by have := HX0.out.1; omega)
   cases e6
   rw [show ((⟨gk, 0, none⟩ : Addr).add (0 : Int).toNat) = ⟨gk, 0, none⟩ by simp [Addr.add], blk_cell hkk] at hx6
   exact (Array.getElem?_eq_some_iff.1 hx6).1⟩
  obtain ⟨_, e6, hx6⟩ := Kd.at_int (Kd.C_below (Kd.R_reads' HX9.out).2.2 HB911.out) 0 (by decide) (by have := H9.out.1.1; omega)
  cases e6
  rw [show adc.add (0 : Int).toNat = adc by simp [Addr.add]] at hx6
  generalize rd cards 0 = yc at *
  obtain ⟨yd, hyd⟩ : ∃ yd, wrap64 (yc - 1) = yd := ⟨_, rfl⟩
  have XC := am hx6
  have S0 := am (bc ⟨blk_below HGS9.out HB911.out⟩ 0)
  have G0 := am g0
  have pc := eq_true (show (0 : Int) < (cards.length : Int) by have := H9.out.1.1; omega)
  have pc2 := eq_true H9.out.1.1
  have pc3 := eq_false (show ¬ cards = [] by intro h; have := H9.out.1.1; rw [h] at this; exact absurd this (by decide))
  have pk := eq_true (show (0 : Int) < (x.f0.length : Int) by have := HX0.out.1; omega)
  have pk2 := eq_true HX0.out.1
  have pk3 := eq_false (show ¬ x.f0 = [] by intro h; have := HX0.out.1; rw [h] at this; exact absurd this (by decide))
  have pj := eq_true (show (0 : Int) ≤ (jv : Int) by omega)
  have qj := eq_true (show (jv : Int) < 4 by omega)
  have qj2 := eq_true hjv
  have HJV := am hjv
  clear hjv hwv ec2 ec3 ec1 ek1 ek2 ek3 hgc1 hgc2 hcc hgk1 hgk2 hkk hx6 g0 g1 fr0 fr1
  go_wp2
  refine start_ (n := 19) (S := fun w' => w'.cell? ⟨g, 0, none⟩ = some (.slice (some adu) x.f0.length q1) ∧ w'.cell? ⟨gs, 0, none⟩ = some (.slice (some adc) cards.length c14) ∧ w'.cell? adc = some (.int .i64 yc)) (ds := [18]) (bb 19 0) (by kernel_rfl) rfl rfl ⟨G0.out, S0.out, XC.out⟩ (fun hHeld => ?_)
  refine with_tabW hypercubelaw1_RecChecks.tab22 hypercubelaw1_RecChecks.bits22 (fun HT_ HW_ => ?_)
  have HB := below_drew (Below.refl w11.heap.size w11)
  generalize w11.drew = wd at HB hHeld ⊢
  refine pu (i := 0) (N := some 98) (bb 19 1) HT_ ?_
  refine tk (i := 1) (N := some 99) (bb 19 3) HT_ HW_ hHeld ?_
  refine pu (i := 2) (N := some 100) (bb 19 7) HT_ ?_
  refine tk (i := 3) (N := some 101) (bb 19 15) HT_ HW_ hHeld ?_
  refine pu (i := 4) (N := some 102) (bb 19 31) HT_ ?_
  refine tk (i := 5) (N := some 103) (bb 19 63) HT_ HW_ hHeld ?_
  refine pu (i := 6) (N := some 104) (bb 19 127) HT_ ?_
  refine tk (i := 7) (N := some 105) (bb 19 255) HT_ HW_ hHeld ?_
  refine pu (i := 8) (N := some 106) (bb 19 511) HT_ ?_
  refine tk (i := 9) (N := some 107) (bb 19 1023) HT_ HW_ hHeld ?_
  refine pu (i := 10) (N := some 108) (bb 19 2047) HT_ ?_
  refine pu (i := 11) (N := some 109) (bb 19 4095) HT_ ?_
  refine pu (i := 13) (N := some 111) (bb 19 12287) HT_ ?_
  refine join_ (σ := (Addr) × (Nat)) 3 (bb 19 65535) (fun s_ => [(110, (.slice (some s_.1) 4 s_.2)), (112, .int .i64 (jv : Int)), (113, .pointer (some (Addr.add s_.1 jv)))]) (fun s_ w' => Below w11.heap.size w11 w' ∧ Kd.R (Kd.int .i64) 3 w' w11.heap.size (fun _ => True) (.slice (some s_.1) 4 s_.2) [-1, yc, yd, a7]) ?_ ?_
  rotate_left
  ·intro ST11
   refine join_ (σ := (Addr) × (Nat)) 5 (bb 19 28671) (fun s_ => [(112, .int .i64 (jv : Int))]) (fun s_ w' => Below w11.heap.size w11 w') ?_ ?_
   ·rintro ⟨ad5, q5⟩ W HB
    try dsimp only at *
    refine norm_ (a' := ?_) ?_ ?_
    rotate_left
    ·show putAll _ _ = _
     (first | (simp only [putAll, Act.put, List.setIfInBounds_toArray, List.set_cons_zero, List.set_cons_succ, i64_w, i32_w]; done) | (simp only [putAll, Act.put, List.setIfInBounds_toArray, List.set_cons_zero, List.set_cons_succ, i64_w, i32_w]; rfl))
    refine one_ (i := 12) (N := some 110) (bb 19 32767) rfl rfl (one_of HT_.out (by kernel_rfl)) (by decide) (fun K hK => ?_)
    refine Kd.R_lit_step (Kd.int .i64) _ 3 ?hg (N := 110) ?hd (xs := ([-1, yc, yd, a7] : List Int)) (inner := [.int .i64 (-1), .int .i64 (yc), .int .i64 (yd), .int .i64 (a7)]) (ok := fun _ => True) (okp := fun _ => True) ?hr ?hp (fun _ hk => hk) trivial (Below.refl _ _) (Nat.le_refl _) (by simp) ?_; (case hd => rfl); (case hg => rfl); (case hr => first | (go_simp; done) | (go_simp; rfl)); (case hp => exact (Reps.one (show Kd.M (Kd.int .i64) _ _ _ (-1) [.int .i64 (-1)] from rfl) (Reps.one (show Kd.M (Kd.int .i64) _ _ _ (yc) [.int .i64 (yc)] from rfl) (Reps.one (show Kd.M (Kd.int .i64) _ _ _ (yd) [.int .i64 (yd)] from rfl) (Reps.one (show Kd.M (Kd.int .i64) _ _ _ (a7) [.int .i64 (a7)] from rfl) (Reps.none _ _))))))
    intro s W1 ho hb hg_ hnew_
    clear hg_ hnew_
    have HB1 := below_step HB hb
    obtain ⟨As, cs, rfl⟩ := Kd.R_slice ho
    obtain ⟨ads, e5, _⟩ := Kd.at_int (Kd.R_reads' ho).2.2 0 (by decide) (by simp)
    cases e5
    refine hK.out _ _ ⟨(Below.cell HB1 (World.block_lt_of_cell? w11 _ G0.out)).trans G0.out, (Below.cell HB1 (World.block_lt_of_cell? w11 _ S0.out)).trans S0.out, (Below.cell HB1 (World.block_lt_of_cell? w11 _ XC.out)).trans XC.out⟩ (fun hHeld => ?_)
    clear hK K
    refine nm ?_
    refine pu (i := 15) (N := some 113) (bb 19 65535) HT_ ?_
    have hN := ST11 (ads, cs) W1 ⟨HB1, Kd.R_lower ho HB.size⟩
    refine norm_ ?_ hN
    show _ = putAll _ _
    (first | (simp only [putAll, Act.put, List.setIfInBounds_toArray, List.set_cons_zero, List.set_cons_succ, i64_w, i32_w]; done) | (simp only [putAll, Act.put, List.setIfInBounds_toArray, List.set_cons_zero, List.set_cons_succ, i64_w, i32_w]; rfl))
   intro ST01
   refine join_ (σ := (Addr) × (Nat)) 5 (bb 19 16383) (fun s_ => [(110, (.slice (some s_.1) 4 s_.2))]) (fun s_ w' => Below w11.heap.size w11 w' ∧ Kd.R (Kd.int .i64) 3 w' w11.heap.size (fun _ => True) (.slice (some s_.1) 4 s_.2) [-1, yc, yd, a7]) ?_ ?_
   ·rintro ⟨ad5, q5⟩ W ⟨HB, HL⟩
    try dsimp only at *
    refine norm_ (a' := ?_) ?_ ?_
    rotate_left
    ·show putAll _ _ = _
     (first | (simp only [putAll, Act.put, List.setIfInBounds_toArray, List.set_cons_zero, List.set_cons_succ, i64_w, i32_w]; done) | (simp only [putAll, Act.put, List.setIfInBounds_toArray, List.set_cons_zero, List.set_cons_succ, i64_w, i32_w]; rfl))
    refine one_ (i := 14) (N := some 112) (bb 19 32767) rfl rfl (one_of HT_.out (by kernel_rfl)) (by decide) (fun K hK => ?_)
    refine goes_ Try.func21 (by kernel_rfl) rfl #[.int .i64 a7, .int .i64 4] (by rfl) rfl rfl (by (try simp only [List.map_toArray, List.map_cons, List.map_nil]); first | done | rfl) ?_
    with_reducible refine (hypercubelaw1_within.calls a7 4 (jv : Int) _ HWV.out).mono ?_
    rintro e W1 ⟨rfl, hd⟩
    refine ⟨_, rfl, ?_⟩
    have hb := hd.below
    clear hd
    have HB1 := below_step HB hb
    refine hK.out _ _ ⟨(Below.cell HB1 (World.block_lt_of_cell? w11 _ G0.out)).trans G0.out, (Below.cell HB1 (World.block_lt_of_cell? w11 _ S0.out)).trans S0.out, (Below.cell HB1 (World.block_lt_of_cell? w11 _ XC.out)).trans XC.out⟩ (fun hHeld => ?_)
    clear hK K
    refine nm ?_
    refine pu (i := 15) (N := some 113) (bb 19 65535) HT_ ?_
    have hN := ST11 (ad5, q5) W1 ⟨HB1, Kd.R_below HL hb⟩
    refine norm_ ?_ hN
    show _ = putAll _ _
    (first | (simp only [putAll, Act.put, List.setIfInBounds_toArray, List.set_cons_zero, List.set_cons_succ, i64_w, i32_w]; done) | (simp only [putAll, Act.put, List.setIfInBounds_toArray, List.set_cons_zero, List.set_cons_succ, i64_w, i32_w]; rfl))
   intro ST10
   generalize wd = W at *
   refine two_ (i := 12) (j := 14) (Ni := some 110) (Nj := some 112) (bb 19 16383) (bb 19 28671) rfl rfl rfl rfl (two_of HT_.out (by kernel_rfl)) (by decide) (by decide) (fun K hK => ?_) (fun K hK => ?_)
   ·refine Kd.R_lit_step (Kd.int .i64) _ 3 ?hg (N := 110) ?hd (xs := ([-1, yc, yd, a7] : List Int)) (inner := [.int .i64 (-1), .int .i64 (yc), .int .i64 (yd), .int .i64 (a7)]) (ok := fun _ => True) (okp := fun _ => True) ?hr ?hp (fun _ hk => hk) trivial (Below.refl _ _) (Nat.le_refl _) (by simp) ?_; (case hd => rfl); (case hg => rfl); (case hr => first | (go_simp; done) | (go_simp; rfl)); (case hp => exact (Reps.one (show Kd.M (Kd.int .i64) _ _ _ (-1) [.int .i64 (-1)] from rfl) (Reps.one (show Kd.M (Kd.int .i64) _ _ _ (yc) [.int .i64 (yc)] from rfl) (Reps.one (show Kd.M (Kd.int .i64) _ _ _ (yd) [.int .i64 (yd)] from rfl) (Reps.one (show Kd.M (Kd.int .i64) _ _ _ (a7) [.int .i64 (a7)] from rfl) (Reps.none _ _))))))
    intro s W1 ho hb hg_ hnew_
    clear hg_ hnew_
    have HB1 := below_step HB hb
    obtain ⟨As, cs, rfl⟩ := Kd.R_slice ho
    obtain ⟨ads, e5, _⟩ := Kd.at_int (Kd.R_reads' ho).2.2 0 (by decide) (by simp)
    cases e5
    refine hK.out _ _ ⟨(Below.cell HB1 (World.block_lt_of_cell? w11 _ G0.out)).trans G0.out, (Below.cell HB1 (World.block_lt_of_cell? w11 _ S0.out)).trans S0.out, (Below.cell HB1 (World.block_lt_of_cell? w11 _ XC.out)).trans XC.out⟩ (fun hHeld => ?_)
    clear hK K
    refine nm ?_
    have hN := ST10 (ads, cs) W1 ⟨HB1, Kd.R_lower ho HB.size⟩
    refine norm_ ?_ hN
    show _ = putAll _ _
    (first | (simp only [putAll, Act.put, List.setIfInBounds_toArray, List.set_cons_zero, List.set_cons_succ, i64_w, i32_w]; done) | (simp only [putAll, Act.put, List.setIfInBounds_toArray, List.set_cons_zero, List.set_cons_succ, i64_w, i32_w]; rfl))
   ·refine goes_ Try.func21 (by kernel_rfl) rfl #[.int .i64 a7, .int .i64 4] (by rfl) rfl rfl (by (try simp only [List.map_toArray, List.map_cons, List.map_nil]); first | done | rfl) ?_
    with_reducible refine (hypercubelaw1_within.calls a7 4 (jv : Int) _ HWV.out).mono ?_
    rintro e W1 ⟨rfl, hd⟩
    refine ⟨_, rfl, ?_⟩
    have hb := hd.below
    clear hd
    have HB1 := below_step HB hb
    refine hK.out _ _ ⟨(Below.cell HB1 (World.block_lt_of_cell? w11 _ G0.out)).trans G0.out, (Below.cell HB1 (World.block_lt_of_cell? w11 _ S0.out)).trans S0.out, (Below.cell HB1 (World.block_lt_of_cell? w11 _ XC.out)).trans XC.out⟩ (fun hHeld => ?_)
    clear hK K
    refine nm ?_
    have hN := ST01 (⟨0, 0, none⟩, 0) W1 (HB1)
    refine norm_ ?_ hN
    show _ = putAll _ _
    (first | (simp only [putAll, Act.put, List.setIfInBounds_toArray, List.set_cons_zero, List.set_cons_succ, i64_w, i32_w]; done) | (simp only [putAll, Act.put, List.setIfInBounds_toArray, List.set_cons_zero, List.set_cons_succ, i64_w, i32_w]; rfl))
  rintro ⟨ad5, q5⟩ W ⟨HB, HL⟩
  try dsimp only at *
  refine norm_ (a' := ?_) ?_ ?_
  rotate_left
  ·show putAll _ _ = _
   (first | (simp only [putAll, Act.put, List.setIfInBounds_toArray, List.set_cons_zero, List.set_cons_succ, i64_w, i32_w]; done) | (simp only [putAll, Act.put, List.setIfInBounds_toArray, List.set_cons_zero, List.set_cons_succ, i64_w, i32_w]; rfl))
  refine one_ (i := 16) (N := some 114) (bb 19 131071) rfl rfl (one_of HT_.out (by kernel_rfl)) (by decide) (fun K hK => ?_)
  obtain ⟨_, e6, hx6⟩ := Kd.at_int (Kd.R_reads' HL).2.2 (jv : Int) (by omega) (by have := HJV.out; simp only [List.length_cons, List.length_nil]; omega)
  cases e6
  rw [Int.toNat_natCast] at hx6
  generalize rd [-1, yc, yd, a7] (jv : Int) = y at hx6
  refine value_ (v := .int .i64 y) (w1 := W) rfl rfl (by go_simp; first | done | rfl) ?_
  clear hx6
  refine hK.out _ _ ⟨(Below.cell HB (World.block_lt_of_cell? w11 _ G0.out)).trans G0.out, (Below.cell HB (World.block_lt_of_cell? w11 _ S0.out)).trans S0.out, (Below.cell HB (World.block_lt_of_cell? w11 _ XC.out)).trans XC.out⟩ (fun hHeld => ?_)
  clear hK K
  refine nm ?_
  refine pu (i := 17) (N := some 115) (bb 19 262143) HT_ ?_
  refine last_ (i := 18) (N := none) (bb 19 524287) rfl rfl (one_of HT_.out (by kernel_rfl)) (by decide) (fun K hK => ?_)
  refine skip_ (w1 := W.setCell ⟨gk, 0, none⟩ (.int .i64 y)) rfl rfl (int_runK (t := 3) (p := .tmp 115) (x := .tmp 114) rfl (blk_below HGK.out.2 HB) HCK.out (congrArg (fun q => Value.pointer (some q)) HDU.out) rfl (by rfl)) ?_
  refine hK.out _ _ ?_
  clear hK K
  refine done_ (done_of HT_.out (by kernel_rfl)) ?_
  have hKW := Kd.R_below HK11.out HB
  rw [HDU.out] at hKW
  have hx0 : W.cell? ⟨gk, 0, none⟩ = some (.int .i64 (rd x.f0 0)) := by
   obtain ⟨_, e6, hx6⟩ := Kd.at_int (Kd.R_reads' hKW).2.2 0 (by decide) (by have := HX0.out.1; omega)
   cases e6
   rw [← show ((⟨gk, 0, none⟩ : Addr).add (0 : Int).toNat) = ⟨gk, 0, none⟩ by simp [Addr.add]]; exact hx6
  have hseg := (Kd.R_seg hKW (0 : Int) (by decide) (by have := HX0.out.1; omega) (c := [.int .i64 (rd x.f0 0)]) (seg := [.int .i64 y]) (j := 0) rfl (fun j u hu => by
   rcases j with _ | j
   ·injection hu with hu; rw [← hu]; exact hx0
   ·simp at hu) (Nat.le_refl 1) (x' := y) (okp := fun _ => False) rfl (fun _ hk => hk.elim)).1
  have HKz := am (show Kd.R (Kd.int .i64) 3 (W.setCell ⟨gk, 0, none⟩ (.int .i64 y)) w9.heap.size (fun k_ => f k_ = 0) (.slice (some ⟨gk, 0, none⟩) (x.f0.set 0 y).length q1) (x.f0.set 0 y) by rw [List.length_set]; exact hseg)
  rw [show (some (⟨gk, 0, none⟩ : Addr)) = some adu from congrArg some HDU.out.symm] at HKz
  have hne1 : ∀ q, q ≠ 0 → ∀ k, f k = q → k ≠ gk := fun q hq k hk e => hq (by rw [← hk, e, HFK.out])
  have HMz := am (r_re (w1 := W.setCell ⟨gk, 0, none⟩ (.int .i64 y)) (f' := f) (Kd.R_below HM11.out HB) (fun k hk _ => Below.heap_setCell W _ _ k (hne1 1 (by decide) k hk)) (fun _ _ => rfl))
  have HGz := am ((Below.heap_setCell W ⟨gk, 0, none⟩ (.int .i64 y) g (hne1 9 (by decide) g HFG.out)).trans (blk_below HGR11.out HB))
  have HBz := am (show Below w9.heap.size w9 (W.setCell ⟨gk, 0, none⟩ (.int .i64 y)) from below_set (below_step HB911.out HB) HGK.out.1)
  rw [show Value.slice (some adu) x.f0.length q1 = .slice (some adu) (x.f0.set 0 y).length q1 by rw [List.length_set]] at HGz
  clear hKW hx0 hseg hne1 HL HB hHeld HT_ HW_
  generalize W.setCell ⟨gk, 0, none⟩ (.int .i64 y) = wz at *
  go_wp2
  exact H29.out ⟨by rw [List.length_set]; have := HX0.out; omega, by rw [List.length_set]; exact (Kd.R_reads' HK11.out).2.1, (Kd.R_reads' HM11.out).2.1, (Kd.R_reads' HKz.out).2.2, (Kd.R_reads' HMz.out).2.2, HGz.out, blk_below HGS9.out HBz.out, Kd.R_below HX9.out HBz.out, below_step HB9.out HBz.out⟩
 ·clear hji hjc
  go_wp2_with (first
  | ((with_reducible refine gate_dst (N := 120) rfl ?_); refine Kd.R_lit (Kd.int .i64) _ 3 ?hg (N := 120) ?hd (xs := ([0] : List Int)) (inner := [.int .i64 (0)]) (ok := fun _ => True) (okp := fun _ => True) ?hr ?hp (fun _ hk => hk) trivial (Below.refl _ _) (Nat.le_refl _) (by simp) ?_; (case hd => rfl); (case hg => rfl); (case hr => first | (go_simp; done) | (go_simp; rfl)); (case hp => exact (Reps.one (show Kd.M (Kd.int .i64) _ _ _ (0) [.int .i64 (0)] from rfl) (Reps.none _ _))); intro vl wA ho hb hg_ hnew_; obtain ⟨Al, cl, rfl⟩ := Kd.R_slice ho; have HLa := am (Kd.R_reads' ho).2; have HBa := am (below_step HB911.out hb); have HKa := am (r_fresh HK11.out hb 5); have HMa := am (r_fresh HM11.out hb 5); have HGRa := am (b_fresh (And.intro HGR11.out HFG.out) hb 5); clear ho hb hg_ hnew_)
  | ((with_reducible refine gate_builtin (b := .append) (xs := #[.tmp 119, .tmp 120]) rfl ?_); (try (refine gate_guard (by rfl) ?_; dsimp only)); at_builtin; refine Kd.R_append_rows (Kd.int .i64) (w0 := w9) w9.heap.size rfl (.tmp 119) (.tmp 120) 22 3 (.int .i64 0) 8 rfl Try.underlying22 info3 rfl (by decide) (by omega) (.slice U1 x.f0.length q1) x.f0 [0] _ _ _ (fun k_ => ow (ow f w11.heap.size 5) wA.heap.size 0 k_ = 0) (fun _ => False) rfl rfl ?aO ?aR (fun _ _ h => h) (fun _ h => h.elim) (fun k_ hk => ow_new hk) ?aB ?aS ?aL ?_; (case aO => exact (r_same HKa.out 0)); (case aR => exact HLa.out.2); (case aB => exact HBa.out); (case aS => exact HBa.out.size); (case aL => have := HX0.out; simp only [List.length_cons, List.length_nil]; omega); intro vb wB ho hb hg hat; obtain ⟨kk, hkk⟩ : ∃ kk, kk = x.f0 ++ [0] := ⟨_, rfl⟩; rw [← hkk] at ho; have HLK : Aside0 (kk.length = x.f0.length + 1) := ⟨by rw [hkk]; simp⟩; obtain ⟨Ab, cb, rfl⟩ := Kd.R_slice ho; have HCa := am (Kd.R_reads' ho).2.1; have HKb := am ho; have HMb := am (r_app HMa.out HKa.out (by decide) hg 0); have HGRb := am (b_app HGRa.out HKa.out (by decide) hg 0); have HBb := am hb; have p0 := (blk_cell HGRb.out.1 0).trans rfl; have pf := blk_frozen HGRb.out.1 0; clear hkk; clear ho hb hg hat))
  exact H29.out ⟨by have := HLK.out; have := HX0.out; omega, HCa.out, (Kd.R_reads' HMb.out).2.1, (Kd.R_reads' (r_box HKb.out HGRb.out.2 (by decide) [_] 0)).2.2, (Kd.R_reads' (r_box HMb.out HGRb.out.2 (by decide) [_] 0)).2.2, blk_put HGRb.out.1 0 _ rfl, blk_below HGS9.out (below_set HBb.out HGX.out), Kd.R_below HX9.out (below_set HBb.out HGX.out), below_step HB9.out (below_set HBb.out HGX.out)⟩
 ·clear hji hjc
  go_wp2_with (first
  | ((with_reducible refine gate_dst (N := 128) rfl ?_); refine Kd.R_lit (Kd.int .i64) _ 3 ?hg (N := 128) ?hd (xs := ([a7] : List Int)) (inner := [.int .i64 (a7)]) (ok := fun _ => True) (okp := fun _ => True) ?hr ?hp (fun _ hk => hk) trivial (Below.refl _ _) (Nat.le_refl _) (by simp) ?_; (case hd => rfl); (case hg => rfl); (case hr => first | (go_simp; done) | (go_simp; rfl)); (case hp => exact (Reps.one (show Kd.M (Kd.int .i64) _ _ _ (a7) [.int .i64 (a7)] from rfl) (Reps.none _ _))); intro vl wA ho hb hg_ hnew_; obtain ⟨Al, cl, rfl⟩ := Kd.R_slice ho; have HLa := am (Kd.R_reads' ho).2; have HBa := am (below_step HB911.out hb); have HKa := am (r_fresh HK11.out hb 5); have HMa := am (r_fresh HM11.out hb 5); have HGRa := am (b_fresh (And.intro HGR11.out HFG.out) hb 5); clear ho hb hg_ hnew_)
  | ((with_reducible refine gate_builtin (b := .append) (xs := #[.tmp 126, .tmp 128]) rfl ?_); (try (refine gate_guard (by rfl) ?_; dsimp only)); at_builtin; refine Kd.R_append_rows (Kd.int .i64) (w0 := w9) w9.heap.size rfl (.tmp 126) (.tmp 128) 22 3 (.int .i64 0) 8 rfl Try.underlying22 info3 rfl (by decide) (by omega) (.slice U2 x.f1.length q2) x.f1 [a7] _ _ _ (fun k_ => ow (ow f w11.heap.size 5) wA.heap.size 1 k_ = 1) (fun _ => False) rfl rfl ?aO ?aR (fun _ _ h => h) (fun _ h => h.elim) (fun k_ hk => ow_new hk) ?aB ?aS ?aL ?_; (case aO => exact (r_same HMa.out 1)); (case aR => exact HLa.out.2); (case aB => exact HBa.out); (case aS => exact HBa.out.size); (case aL => have := HX0.out; simp only [List.length_cons, List.length_nil]; omega); intro vb wB ho hb hg hat; obtain ⟨kk, hkk⟩ : ∃ kk, kk = x.f1 ++ [a7] := ⟨_, rfl⟩; rw [← hkk] at ho; have HLK : Aside0 (kk.length = x.f1.length + 1) := ⟨by rw [hkk]; simp⟩; obtain ⟨Ab, cb, rfl⟩ := Kd.R_slice ho; have HCa := am (Kd.R_reads' ho).2.1; have HMb := am ho; have HKb := am (r_app HKa.out HMa.out (by decide) hg 1); have HGRb := am (b_app HGRa.out HMa.out (by decide) hg 1); have HBb := am hb; have p0 := (blk_cell HGRb.out.1 1).trans rfl; have pf := blk_frozen HGRb.out.1 1; clear hkk; clear ho hb hg hat))
  exact H29.out ⟨by have := HX0.out; omega, (Kd.R_reads' HKb.out).2.1, HCa.out, (Kd.R_reads' (r_box HKb.out HGRb.out.2 (by decide) [_] 1)).2.2, (Kd.R_reads' (r_box HMb.out HGRb.out.2 (by decide) [_] 1)).2.2, blk_put HGRb.out.1 1 _ rfl, blk_below HGS9.out (below_set HBb.out HGX.out), Kd.R_below HX9.out (below_set HBb.out HGX.out), below_step HB9.out (below_set HBb.out HGX.out)⟩
 ·clear hji hjc
  obtain ⟨i05, hi05, _, hsz5, _⟩ := info_parts info3
  obtain ⟨zz, hzz⟩ : ∃ zz : List Int, zz = x.f0.drop (1 : Int).toNat := ⟨_, rfl⟩
  have hzl : zz.length = x.f0.length - (1 : Int).toNat := by rw [hzz, List.length_drop]
  obtain ⟨Az, hAz⟩ : ∃ A1, A1 = (if q1 = (1 : Int).toNat then U1 else U1.map (·.add ((1 : Int).toNat * 1))) := ⟨_, rfl⟩
  obtain ⟨cz, hcz⟩ : ∃ c1, c1 = q1 - (1 : Int).toNat := ⟨_, rfl⟩
  have hcut := cut_from (P := Try.prog) 22 3 .i64 Try.underlying22 hi05 1 hsz5 U1 x.f0.length q1 1 (by decide) (by have := HX0.out.1; omega)
  rw [← hzl, ← hAz, ← hcz] at hcut
  have hrz : Kd.C (Kd.int .i64) (w11.setCells g 0 [.slice Az zz.length cz]) (if q1 = (1 : Int).toNat then U1 else U1.map (·.add ((1 : Int).toNat * 1))) (x.f0.drop (1 : Int).toNat).length (x.f0.drop (1 : Int).toNat) := Kd.C_drop (m := (1 : Int).toNat) (Kd.R_reads' (r_box HK11.out HFG.out (by decide) [.slice Az zz.length cz] 0)).2.2 (by have := HX0.out.1; omega) (Kd.R_reads' HK11.out).2.1
  rw [← hAz, ← hzz] at hrz
  have HRZ := am hrz
  clear hrz
  have HZC : Aside0 (zz.length ≤ cz ∧ zz.length ≤ 50) := ⟨by have := (Kd.R_reads' HK11.out).2.1; have := HX0.out; rw [hzl, hcz]; omega⟩
  clear hzz hzl hAz hcz hi05 hsz5
  go_wp2
  exact H29.out ⟨by have := HZC.out.2; omega, HZC.out.1, (Kd.R_reads' HM11.out).2.1, HRZ.out, (Kd.R_reads' (r_box HM11.out HFG.out (by decide) [_] 0)).2.2, blk_put HGR11.out 0 _ rfl, blk_below HGS9.out (below_set HB911.out HGX.out), Kd.R_below HX9.out (below_set HB911.out HGX.out), below_step HB9.out (below_set HB911.out HGX.out)⟩
end Go.Proofs.Ytlacfpbfnedgdaa.Q
