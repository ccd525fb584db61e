-- packed by wip/tools/pack.py (a program of this session) out of its own texts
import Derived.Test.YtlacfpbfnedgdaaPRecOrder0
import Derived.ArgAppend
import Derived.Below
import Derived.BigQuiet
import Derived.Deep.AppendLies
import Derived.Deep.CutBlock
import Derived.Deep.DeepCutAuto
import Derived.Deep.Draws
import Derived.Deep.LoopGhost
import Derived.Deep.OwnRows
import Derived.Deep.QuietTactic
import Derived.Deep.RegionHeld3
import Derived.Deep.RegionWith
import Derived.KernelRfl
import Derived.Laws.BitsLemmas
import Derived.Laws.BytesArg
import Derived.Laws.CopyOwn
import Derived.Laws.IdiomCopy
import Derived.Laws.MakeOwn
import Derived.Laws.OwnMore
import Derived.Laws.Rows
import Derived.Laws.Slices
import Derived.Lib.AppendStr
import Derived.Lib.ConvBytes
import Derived.Lib.SlBytesConst
import Derived.Lib.SliceRun
import Derived.Maps.AppendAt
import Derived.OrdersHeld
import Derived.OwnWalk
import Derived.RegionTactic
import Derived.RowKit
import Derived.RowKit3
import Derived.Shelf.Abstract
import Derived.Tactics
import Derived.Test.YtlacfpbfnedgdaaProg
import Derived.WalkKit
import Derived.WalkSpells
import Derived.WideLaws
import Derived.Test.YtlacfpbfnedgdaaPRecOrder1
import Derived.Test.YtlacfpbfnedgdaaPRecOrder3
import Derived.Test.YtlacfpbfnedgdaaPRecOrder4
import Derived.Test.YtlacfpbfnedgdaaPRecOrder5
import Derived.Test.YtlacfpbfnedgdaaPRecOrder6
import Derived.Test.YtlacfpbfnedgdaaPRecOrder7
import Derived.Test.YtlacfpbfnedgdaaPRecOrder8
import Derived.Test.YtlacfpbfnedgdaaPRecOrder9
import Derived.Test.YtlacfpbfnedgdaaPRecOrder10
namespace Go.Proofs.Ytlacfpbfnedgdaa.Q
open Go.RowKit Go.Proofs.YtlacfpbfnedgdaaW.PrintWords Go.Proofs.YtlacfpbfnedgdaaW.PrintLast Go.Proofs.YtlacfpbfnedgdaaW.PrintMore
attribute [local go_sem] max2_int min2_int max_two min_two max_three min_three max_four min_four
set_option linter.unusedVariables false
set_option linter.unusedSimpArgs false
def hypercubelaw1_known.f (k : Nat)  : Option (Bool) := (rec_Decode.f ([] : List Int)).bind fun bt185 => ((some (([3] : List Int) : List Int)).bind fun y194 => ((some (([(⟨(([2] : List Int)), (([7] : List Int))⟩ : S33)] : List (S33)) : List (S33))).bind fun y204 => ((rec_Encode.f k y194 1 y204).bind fun t207 => ((rec_Decode.f t207).bind fun bt210 => (if bt185.2.2.2 = 1 then (if bt210.2.2.2 = 0 then ((hypercuberef1_Same.f k y194 1 y204 bt210.1 bt210.2.1 bt210.2.2.1).bind fun t219 => (if t219 = true then ((rec_Check.f y194 1).bind fun t220 => (if t220 = true then (if 0 < (y204.length : Int) then ((rec_Right.f k y194 1 ((rd_T33 y204 0).f0) ((rd_T33 y204 0).f1)).bind fun t222 => (if t222 = true then ((rec_Sound.f k y194 1 y204).bind fun t223 => (some t223)) else (none))) else (none)) else (none))) else (none))) else (none)) else (none))))))
theorem hypercubelaw1_known.mono : ∀ k, LeO (hypercubelaw1_known.f k ) (hypercubelaw1_known.f (k + 1) ) := by
 intro  k
 unfold hypercubelaw1_known.f
 repeat' first
   | (with_reducible exact hypercuberef1_Same.mono _ _ _ _ _ _ _)
   | (with_reducible exact rec_Encode.mono _ _ _ _)
   | (with_reducible exact rec_Right.mono _ _ _ _ _)
   | (with_reducible exact rec_Sound.mono _ _ _ _)
   | (with_reducible exact LeO.refl _)
   | (with_reducible exact LeO.none _)
   | (with_reducible refine LeO.ite ?_ ?_)
   | (with_reducible refine LeO.bind ?_ (fun _ => ?_))
   | exact hypercuberef1_Same.mono _ _ _ _ _ _ _
   | exact rec_Encode.mono _ _ _ _
   | exact rec_Right.mono _ _ _ _ _
   | exact rec_Sound.mono _ _ _ _
   | exact LeO.none _
   | refine LeO.ite ?_ ?_
   | refine LeO.bind ?_ (fun _ => ?_)
def hypercubelaw1_known.T5 : Bool × List (List Nat × List Nat) := (true, [([], []), ([0], [0]), ([1], [1]), ([2], [2]), ([3, 2], [2, 3]), ([2, 4], [2, 4]), ([5, 2], [5]), ([6], [6]), ([6], [6]), ([6], [6]), ([6], [6]), ([7, 8, 9, 10, 6, 6], [6, 7, 8, 9, 10]), ([6, 11], [6, 11]), ([12, 11], [12]), ([13], [13]), ([14, 13, 13], [13, 14]), ([13, 15], [13, 15]), ([16, 15], [16]), ([17], [17]), ([17], [17]), ([19, 17], [17, 19]), ([20, 17], [17, 20]), ([18, 21, 17, 17], [17, 18, 21]), ([17, 22], [17, 22]), ([23, 22], [23]), ([24], [24]), ([24], [24]), ([25, 26, 24, 24], [24, 25, 26]), ([24, 27], [24, 27]), ([28, 27, 0, 1, 2, 3, 4, 5, 6, 7, 8, 9, 10, 11, 12, 13, 14, 15, 16, 17, 18, 19, 20, 21, 22, 23, 24, 25, 26, 27, 28], [28])])
def hypercubelaw1_known.B5 : List Nat := [0, 1, 3, 7, 15, 31, 63, 127, 127, 127, 127, 2047, 4095, 8191, 16383, 32767, 65535, 131071, 262143, 262143, 786431, 1835007, 4194303, 8388607, 16777215, 33554431, 33554431, 134217727, 268435455, 536870911]
theorem hypercubelaw1_known.tab5 : rtab .any (opsOf Try.f14 5) = hypercubelaw1_known.T5 := by kernel_rfl
theorem hypercubelaw1_known.bits5 : waitsOk hypercubelaw1_known.T5.2 hypercubelaw1_known.B5 = true := by kernel_rfl
set_option maxHeartbeats 8000000 in
set_option maxRecDepth 100000 in
theorem hypercubelaw1_known.calls (k : Nat)  (r : Bool) (w : World) (h : hypercubelaw1_known.f k  = some r) :
  Calls Try.prog 14 #[] w fun e w' => e = .returned (.bool r) ∧ Below w.heap.size w w' := by
 have hu24 := Try.underlying24
 have hu33 := Try.underlying33
 have HB := am (Below.refl w.heap.size w)
 have H : ((rec_Decode.f ([] : List Int)).bind fun bt185 => ((some (([3] : List Int) : List Int)).bind fun y194 => ((some (([(⟨(([2] : List Int)), (([7] : List Int))⟩ : S33)] : List (S33)) : List (S33))).bind fun y204 => ((rec_Encode.f k y194 1 y204).bind fun t207 => ((rec_Decode.f t207).bind fun bt210 => (if bt185.2.2.2 = 1 then (if bt210.2.2.2 = 0 then ((hypercuberef1_Same.f k y194 1 y204 bt210.1 bt210.2.1 bt210.2.2.1).bind fun t219 => (if t219 = true then ((rec_Check.f y194 1).bind fun t220 => (if t220 = true then (if 0 < (y204.length : Int) then ((rec_Right.f k y194 1 ((rd_T33 y204 0).f0) ((rd_T33 y204 0).f1)).bind fun t222 => (if t222 = true then ((rec_Sound.f k y194 1 y204).bind fun t223 => (some t223)) else (none))) else (none)) else (none))) else (none))) else (none)) else (none))))))) = some r := h
 clear h
 replace H := Option.bind_eq_some_iff.mp H
 obtain ⟨⟨t185, t188, t189, t192⟩, A10, H⟩ := H
 replace H : ((some (([3] : List Int) : List Int)).bind fun y194 => ((some (([(⟨(([2] : List Int)), (([7] : List Int))⟩ : S33)] : List (S33)) : List (S33))).bind fun y204 => ((rec_Encode.f k y194 1 y204).bind fun t207 => ((rec_Decode.f t207).bind fun bt210 => (if t192 = 1 then (if bt210.2.2.2 = 0 then ((hypercuberef1_Same.f k y194 1 y204 bt210.1 bt210.2.1 bt210.2.2.1).bind fun t219 => (if t219 = true then ((rec_Check.f y194 1).bind fun t220 => (if t220 = true then (if 0 < (y204.length : Int) then ((rec_Right.f k y194 1 ((rd_T33 y204 0).f0) ((rd_T33 y204 0).f1)).bind fun t222 => (if t222 = true then ((rec_Sound.f k y194 1 y204).bind fun t223 => (some t223)) else (none))) else (none)) else (none))) else (none))) else (none)) else (none)))))) = some r := H
 have A1 := am A10
 clear A10
 obtain ⟨y194, hy194⟩ : ∃ y_ : List Int, y_ = (([3] : List Int)) := ⟨_, rfl⟩
 replace H : ((some (([(⟨(([2] : List Int)), (([7] : List Int))⟩ : S33)] : List (S33)) : List (S33))).bind fun y204 => ((rec_Encode.f k y194 1 y204).bind fun t207 => ((rec_Decode.f t207).bind fun bt210 => (if t192 = 1 then (if bt210.2.2.2 = 0 then ((hypercuberef1_Same.f k y194 1 y204 bt210.1 bt210.2.1 bt210.2.2.1).bind fun t219 => (if t219 = true then ((rec_Check.f y194 1).bind fun t220 => (if t220 = true then (if 0 < (y204.length : Int) then ((rec_Right.f k y194 1 ((rd_T33 y204 0).f0) ((rd_T33 y204 0).f1)).bind fun t222 => (if t222 = true then ((rec_Sound.f k y194 1 y204).bind fun t223 => (some t223)) else (none))) else (none)) else (none))) else (none))) else (none)) else (none))))) = some r := by first | (rw [hy194]; with_reducible exact H) | (have H2_ := (Option.bind_some _ _).symm.trans H; rw [hy194]; with_reducible exact H2_) | (have H2_ := (Option.bind_some _ _).symm.trans H; with_reducible exact H2_) | with_reducible exact H | (rw [hy194]; exact H) | exact H
 have Ny194 := am hy194
 clear hy194
 obtain ⟨y198, hy198⟩ : ∃ y_ : List Int, y_ = (([2] : List Int)) := ⟨_, rfl⟩
 replace H : ((some (([(⟨y198, (([7] : List Int))⟩ : S33)] : List (S33)) : List (S33))).bind fun y204 => ((rec_Encode.f k y194 1 y204).bind fun t207 => ((rec_Decode.f t207).bind fun bt210 => (if t192 = 1 then (if bt210.2.2.2 = 0 then ((hypercuberef1_Same.f k y194 1 y204 bt210.1 bt210.2.1 bt210.2.2.1).bind fun t219 => (if t219 = true then ((rec_Check.f y194 1).bind fun t220 => (if t220 = true then (if 0 < (y204.length : Int) then ((rec_Right.f k y194 1 ((rd_T33 y204 0).f0) ((rd_T33 y204 0).f1)).bind fun t222 => (if t222 = true then ((rec_Sound.f k y194 1 y204).bind fun t223 => (some t223)) else (none))) else (none)) else (none))) else (none))) else (none)) else (none))))) = some r := by first | (rw [hy198]; with_reducible exact H) | (have H2_ := (Option.bind_some _ _).symm.trans H; rw [hy198]; with_reducible exact H2_) | (have H2_ := (Option.bind_some _ _).symm.trans H; with_reducible exact H2_) | with_reducible exact H | (rw [hy198]; exact H) | exact H
 have Ny198 := am hy198
 clear hy198
 obtain ⟨y201, hy201⟩ : ∃ y_ : List Int, y_ = (([7] : List Int)) := ⟨_, rfl⟩
 replace H : ((some (([(⟨y198, y201⟩ : S33)] : List (S33)) : List (S33))).bind fun y204 => ((rec_Encode.f k y194 1 y204).bind fun t207 => ((rec_Decode.f t207).bind fun bt210 => (if t192 = 1 then (if bt210.2.2.2 = 0 then ((hypercuberef1_Same.f k y194 1 y204 bt210.1 bt210.2.1 bt210.2.2.1).bind fun t219 => (if t219 = true then ((rec_Check.f y194 1).bind fun t220 => (if t220 = true then (if 0 < (y204.length : Int) then ((rec_Right.f k y194 1 ((rd_T33 y204 0).f0) ((rd_T33 y204 0).f1)).bind fun t222 => (if t222 = true then ((rec_Sound.f k y194 1 y204).bind fun t223 => (some t223)) else (none))) else (none)) else (none))) else (none))) else (none)) else (none))))) = some r := by first | (rw [hy201]; with_reducible exact H) | (have H2_ := (Option.bind_some _ _).symm.trans H; rw [hy201]; with_reducible exact H2_) | (have H2_ := (Option.bind_some _ _).symm.trans H; with_reducible exact H2_) | with_reducible exact H | (rw [hy201]; exact H) | exact H
 have Ny201 := am hy201
 clear hy201
 obtain ⟨y204, hy204⟩ : ∃ y_ : List (S33), y_ = (([(⟨y198, y201⟩ : S33)] : List (S33))) := ⟨_, rfl⟩
 replace H : ((rec_Encode.f k y194 1 y204).bind fun t207 => ((rec_Decode.f t207).bind fun bt210 => (if t192 = 1 then (if bt210.2.2.2 = 0 then ((hypercuberef1_Same.f k y194 1 y204 bt210.1 bt210.2.1 bt210.2.2.1).bind fun t219 => (if t219 = true then ((rec_Check.f y194 1).bind fun t220 => (if t220 = true then (if 0 < (y204.length : Int) then ((rec_Right.f k y194 1 ((rd_T33 y204 0).f0) ((rd_T33 y204 0).f1)).bind fun t222 => (if t222 = true then ((rec_Sound.f k y194 1 y204).bind fun t223 => (some t223)) else (none))) else (none)) else (none))) else (none))) else (none)) else (none)))) = some r := by first | (rw [hy204]; with_reducible exact H) | (have H2_ := (Option.bind_some _ _).symm.trans H; rw [hy204]; with_reducible exact H2_) | (have H2_ := (Option.bind_some _ _).symm.trans H; with_reducible exact H2_) | with_reducible exact H | (rw [hy204]; exact H) | exact H
 have Ny204 := am hy204
 clear hy204
 replace H := Option.bind_eq_some_iff.mp H
 obtain ⟨t207, A20, H⟩ := H
 replace H : ((rec_Decode.f t207).bind fun bt210 => (if t192 = 1 then (if bt210.2.2.2 = 0 then ((hypercuberef1_Same.f k y194 1 y204 bt210.1 bt210.2.1 bt210.2.2.1).bind fun t219 => (if t219 = true then ((rec_Check.f y194 1).bind fun t220 => (if t220 = true then (if 0 < (y204.length : Int) then ((rec_Right.f k y194 1 ((rd_T33 y204 0).f0) ((rd_T33 y204 0).f1)).bind fun t222 => (if t222 = true then ((rec_Sound.f k y194 1 y204).bind fun t223 => (some t223)) else (none))) else (none)) else (none))) else (none))) else (none)) else (none))) = some r := H
 have A2 := am A20
 clear A20
 replace H := Option.bind_eq_some_iff.mp H
 obtain ⟨⟨t210, t213, t214, t217⟩, A30, H⟩ := H
 replace H : (if t192 = 1 then (if t217 = 0 then ((hypercuberef1_Same.f k y194 1 y204 t210 t213 t214).bind fun t219 => (if t219 = true then ((rec_Check.f y194 1).bind fun t220 => (if t220 = true then (if 0 < (y204.length : Int) then ((rec_Right.f k y194 1 ((rd_T33 y204 0).f0) ((rd_T33 y204 0).f1)).bind fun t222 => (if t222 = true then ((rec_Sound.f k y194 1 y204).bind fun t223 => (some t223)) else (none))) else (none)) else (none))) else (none))) else (none)) else (none)) = some r := H
 have A3 := am A30
 clear A30
 by_cases c4 : t192 = 1
 ·rw [if_pos c4] at H
  have c4b0 : (t192 == 1) = true := beq_iff_eq.mpr c4
  have c4b1 : (t192 != 1) = false := bne_eq_false_iff_eq.mpr c4
  clear c4
  by_cases c5 : t217 = 0
  ·rw [if_pos c5] at H
   have c5b0 : (t217 == 0) = true := beq_iff_eq.mpr c5
   have c5b1 : (t217 != 0) = false := bne_eq_false_iff_eq.mpr c5
   clear c5
   replace H := Option.bind_eq_some_iff.mp H
   obtain ⟨t219, A60, H⟩ := H
   replace H : (if t219 = true then ((rec_Check.f y194 1).bind fun t220 => (if t220 = true then (if 0 < (y204.length : Int) then ((rec_Right.f k y194 1 ((rd_T33 y204 0).f0) ((rd_T33 y204 0).f1)).bind fun t222 => (if t222 = true then ((rec_Sound.f k y194 1 y204).bind fun t223 => (some t223)) else (none))) else (none)) else (none))) else (none)) = some r := H
   have A6 := am A60
   clear A60
   by_cases c7 : t219 = true
   ·subst c7
    have H1 : ((rec_Check.f y194 1).bind fun t220 => (if t220 = true then (if 0 < (y204.length : Int) then ((rec_Right.f k y194 1 ((rd_T33 y204 0).f0) ((rd_T33 y204 0).f1)).bind fun t222 => (if t222 = true then ((rec_Sound.f k y194 1 y204).bind fun t223 => (some t223)) else (none))) else (none)) else (none))) = some r := by rw [if_pos rfl] at H; exact H
    clear H
    have H := H1
    clear H1
    replace H := Option.bind_eq_some_iff.mp H
    obtain ⟨t220, A80, H⟩ := H
    replace H : (if t220 = true then (if 0 < (y204.length : Int) then ((rec_Right.f k y194 1 ((rd_T33 y204 0).f0) ((rd_T33 y204 0).f1)).bind fun t222 => (if t222 = true then ((rec_Sound.f k y194 1 y204).bind fun t223 => (some t223)) else (none))) else (none)) else (none)) = some r := H
    have A8 := am A80
    clear A80
    by_cases c9 : t220 = true
    ·subst c9
     have H1 : (if 0 < (y204.length : Int) then ((rec_Right.f k y194 1 ((rd_T33 y204 0).f0) ((rd_T33 y204 0).f1)).bind fun t222 => (if t222 = true then ((rec_Sound.f k y194 1 y204).bind fun t223 => (some t223)) else (none))) else (none)) = some r := by rw [if_pos rfl] at H; exact H
     clear H
     have H := H1
     clear H1
     by_cases c10 : 0 < (y204.length : Int)
     ·rw [if_pos c10] at H
      have c10b0 : decide (0 < (y204.length : Int)) = true := decide_eq_true c10
      have c10b1 : decide (0 < y204.length) = true := decide_eq_true (by omega)
      clear c10
      replace H := Option.bind_eq_some_iff.mp H
      obtain ⟨t222, A110, H⟩ := H
      replace H : (if t222 = true then ((rec_Sound.f k y194 1 y204).bind fun t223 => (some t223)) else (none)) = some r := H
      have A11 := am A110
      clear A110
      by_cases c12 : t222 = true
      ·subst c12
       have H1 : ((rec_Sound.f k y194 1 y204).bind fun t223 => (some t223)) = some r := by rw [if_pos rfl] at H; exact H
       clear H
       have H := H1
       clear H1
       replace H := Option.bind_eq_some_iff.mp H
       obtain ⟨t223, A130, H⟩ := H
       replace H : (some t223) = some r := H
       have A13 := am A130
       clear A130
       obtain rfl := Option.some.inj H
       go_enter Try.func14, Try.ntmps14
       try go_wp2_with (first | ((with_reducible refine gate_callee (f := 23) rfl ?_); refine goesL_ (some 10) rfl rfl Try.func23 (by kernel_rfl) rfl #[.slice none 0 0] rfl (by (try simp only [List.map_toArray, List.map_cons, List.map_nil]); first | done | rfl | (simp only [List.length_drop, List.length_take]; rfl)) ?_; (refine (rec_Decode.calls _ _ ([] : List Int) t185 t188 t189 t192 _ ?side1 ?side2 A1.out).mono ?_); (case side1 => exact Kd.C_nil _ _); (case side2 => exact Nat.le_refl _); rintro e w14 ⟨v186, v190, rfl, ho0, ho1, hb⟩; refine ⟨_, rfl, ?_⟩; have n0_ := am (Kd.R_lower ho0 (below_size (by repeat (first | (with_reducible first | exact HB.out | apply below_alloc | apply pw_below_drewN | apply below_drew1) | exact HB.out)))); have n1_ := am (Kd.N_lower (Kd.N_mono (ok' := fun k_ => some k_ ≠ (v186 : Value).ownBlock) (Kd.S_N (Kd.S_bound ho1)) (fun k_ hk_ => hk_.1)) (below_size (by repeat (first | (with_reducible first | exact HB.out | apply below_alloc | apply pw_below_drewN | apply below_drew1) | exact HB.out)))); have n2_ := am (below_step (by repeat (first | (with_reducible first | exact HB.out | apply below_alloc | apply pw_below_drewN | apply below_drew1) | exact HB.out)) hb); clear HB; have HO187 := n0_; have HO191 := n1_; have HB := n2_; clear n0_ n1_ n2_; (try clear hb); (try clear hb2); (try clear hk); (try clear hi); (try clear ho0); (try clear ho1)) | ((with_reducible refine gate_dst (N := 1) rfl ?_); refine box_event ?hg (N := 1) ?hd (cs := #[.slice none 0 0, .int .i64 0]) (t := 24) ?hr ?_; (case hd => rfl); (case hg => rfl); (case hr => first | (go_simp; done) | (go_simp; rfl)); intro gb193 hg w15 hbox hb; have n0_ := am (Kd.R_below (by (with_reducible repeat (first | apply Kd.R_alloc | apply Kd.R_drewN | apply Kd.R_drew)); exact HO187.out) hb); have n1_ := am (Kd.N_below (Kd.N_elderB (by (with_reducible repeat (first | apply Kd.N_alloc | apply Kd.N_drewN | apply Kd.N_drew)); exact HO191.out) gb193 (Nat.le_of_eq hg.symm)) hb); have n2_ := am (below_step (by repeat (first | (with_reducible first | exact HB.out | apply below_alloc | apply pw_below_drewN | apply below_drew1) | exact HB.out)) hb); have n3_ := am (hbox); have n4_ := am ((by rw [hg]; exact (below_size (by repeat (first | (with_reducible first | exact HB.out | apply below_alloc | apply pw_below_drewN | apply below_drew1) | exact HB.out))) : w.heap.size ≤ gb193)); have n5_ := am ((by rw [hg]; exact (below_size (by repeat (first | (with_reducible first | exact HB.out | apply below_alloc | apply pw_below_drewN | apply below_drew1) | exact HB.out))) : w.heap.size ≤ gb193)); clear HO187; clear HO191; clear HB; have HO187 := n0_; have HO191 := n1_; have HB := n2_; have BK193 := n3_; have GW193 := n4_; have GE193 := n5_; clear n0_ n1_ n2_ n3_ n4_ n5_; clear hb hbox hg; obtain ⟨Ao16, co16, eo16⟩ := Kd.R_slice HO187.out; subst eo16; have hcz17_0 : w15.cell? ⟨gb193, 0, none⟩ = some (.slice none 0 0) := (blk_cell BK193.out 0).trans rfl; have hcz17_1 : w15.cell? ⟨gb193, 1, none⟩ = some (.int .i64 0) := (blk_cell BK193.out 1).trans rfl; have hfz17_0 := blk_frozen BK193.out 0; have hfz17_1 := blk_frozen BK193.out 1) | ((with_reducible refine gate_dst (N := 14) rfl ?_); refine Kd.R_lit (Kd.int .i64) _ 3 ?hg (N := 14) ?hd (xs := ([3] : List Int)) (inner := [.int .i64 3]) (ok := fun _ => True) (okp := fun _ => True) ?hr ?hp (fun _ hk => hk) trivial (Below.refl _ _) (Nat.le_refl _) (by simp) ?_; (case hd => rfl); (case hg => rfl); (case hr => first | (go_simp; done) | (go_simp; rfl)); (case hp => exact (Reps.one (show Kd.M (Kd.int .i64) _ _ _ 3 [.int .i64 3] from rfl) (Reps.none _ _))); intro v195 w18 ho19 hb hg_ hnew_; clear hg_ hnew_; (first | rw [← Ny194.out] at ho19 | (simp only [Int.reduceToNat] at ho19; rw [← Ny194.out] at ho19)); have n0_ := am (Kd.R_elder' (by (with_reducible repeat (first | apply Kd.R_alloc | apply Kd.R_drewN | apply Kd.R_drew)); exact (Kd.R_mono (Kd.R_far (p := ⟨gb193, 1, none⟩) (Kd.R_far (p := ⟨gb193, 0, none⟩) (Kd.R_types HO187.out BK193.out (by decide)) (fun _ hk => hk.2) (.slice Ao16 t185.length co16)) (fun _ hk => hk.2) (.int .i64 t188)) (fun _ h_ => h_.1))) (Kd.R_base ho19) hb); have n1_ := am (Kd.N_elder' (by (with_reducible repeat (first | apply Kd.N_alloc | apply Kd.N_drewN | apply Kd.N_drew)); exact (Kd.N_mono (Kd.N_far (p := ⟨gb193, 1, none⟩) (Kd.N_far (p := ⟨gb193, 0, none⟩) (Kd.N_mono HO191.out (fun k_ hk => (⟨hk, hk.2⟩ : _ ∧ k_ ≠ gb193))) (fun _ hk => hk.2) (.slice Ao16 t185.length co16)) (fun _ hk => hk.2) (.int .i64 t188)) (fun _ h_ => h_.1))) (Kd.R_base ho19) hb); have n2_ := am (Kd.R_lower (Kd.R_new' ho19 (Kd.R_lt (by (with_reducible repeat (first | apply Kd.R_alloc | apply Kd.R_drewN | apply Kd.R_drew)); exact (Kd.R_mono (Kd.R_far (p := ⟨gb193, 1, none⟩) (Kd.R_far (p := ⟨gb193, 0, none⟩) (Kd.R_types HO187.out BK193.out (by decide)) (fun _ hk => hk.2) (.slice Ao16 t185.length co16)) (fun _ hk => hk.2) (.int .i64 t188)) (fun _ h_ => h_.1))))) (below_size (by repeat (first | (with_reducible first | exact HB.out | apply below_alloc | apply pw_below_drewN | apply below_drew1 | refine below_set ?_ GE193.out) | exact HB.out)))); have n3_ := am (blk_below (g := gb193) (o := .cells #[.slice Ao16 t185.length co16, .int .i64 t188] 24 (0, 0)) (by (with_reducible repeat (first | refine blk_drewN ?_ _ | refine blk_drew ?_ | refine blk_alloc ?_ _)); refine blk_put (cs := #[.slice Ao16 t185.length co16, .int .i64 0]) ?_ 1 _ rfl; (with_reducible repeat (first | refine blk_drewN ?_ _ | refine blk_drew ?_ | refine blk_alloc ?_ _)); refine blk_put (cs := #[.slice none 0 0, .int .i64 0]) ?_ 0 _ rfl; (with_reducible repeat (first | refine blk_drewN ?_ _ | refine blk_drew ?_ | refine blk_alloc ?_ _)); exact BK193.out) hb); have n4_ := am (below_step (by repeat (first | (with_reducible first | exact HB.out | apply below_alloc | apply pw_below_drewN | apply below_drew1 | refine below_set ?_ GE193.out) | exact HB.out)) hb); clear HO187; clear HO191; clear BK193; clear HB; have HO187 := n0_; have HO191 := n1_; have HO196 := n2_; have BK193 := n3_; have HB := n4_; clear n0_ n1_ n2_ n3_ n4_; clear hb ho19; obtain ⟨Ao20, co20, eo20⟩ := Kd.R_slice HO196.out; subst eo20) | ((with_reducible refine gate_dst (N := 4) rfl ?_); refine box_event ?hg (N := 4) ?hd (cs := #[.slice none 0 0, .int .i64 0]) (t := 24) ?hr ?_; (case hd => rfl); (case hg => rfl); (case hr => first | (go_simp; done) | (go_simp; rfl)); intro gb197 hg w21 hbox hb; have n0_ := am (Kd.R_below (by (with_reducible repeat (first | apply Kd.R_alloc | apply Kd.R_drewN | apply Kd.R_drew)); exact HO187.out) hb); have n1_ := am (Kd.N_below (Kd.N_elderB (by (with_reducible repeat (first | apply Kd.N_alloc | apply Kd.N_drewN | apply Kd.N_drew)); exact HO191.out) gb197 (Nat.le_of_eq hg.symm)) hb); have n2_ := am (Kd.R_below (by (with_reducible repeat (first | apply Kd.R_alloc | apply Kd.R_drewN | apply Kd.R_drew)); exact HO196.out) hb); have n3_ := am (blk_below (g := gb193) (o := .cells #[.slice Ao16 t185.length co16, .int .i64 t188] 24 (0, 0)) (by (with_reducible repeat (first | refine blk_drewN ?_ _ | refine blk_drew ?_ | refine blk_alloc ?_ _)); exact BK193.out) hb); have n4_ := am (below_step (by repeat (first | (with_reducible first | exact HB.out | apply below_alloc | apply pw_below_drewN | apply below_drew1 | refine below_set ?_ GE193.out) | exact HB.out)) hb); have n5_ := am (hbox); have n6_ := am ((by rw [hg]; exact (below_size (by repeat (first | (with_reducible first | exact HB.out | apply below_alloc | apply pw_below_drewN | apply below_drew1 | refine below_set ?_ GE193.out) | exact HB.out))) : w.heap.size ≤ gb197)); have n7_ := am ((by rw [hg]; exact (below_size (by repeat (first | (with_reducible first | exact HB.out | apply below_alloc | apply pw_below_drewN | apply below_drew1 | refine below_set ?_ GE193.out) | exact HB.out))) : w.heap.size ≤ gb197)); have n8_ := am ((by rw [hg]; exact Nat.ne_of_lt (blk_lt (g := gb193) (o := .cells #[.slice Ao16 t185.length co16, .int .i64 t188] 24 (0, 0)) (by (with_reducible repeat (first | refine blk_drewN ?_ _ | refine blk_drew ?_ | refine blk_alloc ?_ _)); exact BK193.out)) : gb193 ≠ gb197)); have n9_ := am ((by rw [hg]; exact Nat.ne_of_gt (blk_lt (g := gb193) (o := .cells #[.slice Ao16 t185.length co16, .int .i64 t188] 24 (0, 0)) (by (with_reducible repeat (first | refine blk_drewN ?_ _ | refine blk_drew ?_ | refine blk_alloc ?_ _)); exact BK193.out)) : gb197 ≠ gb193)); clear HO187; clear HO191; clear HO196; clear BK193; clear HB; have HO187 := n0_; have HO191 := n1_; have HO196 := n2_; have BK193 := n3_; have HB := n4_; have BK197 := n5_; have GW197 := n6_; have GE197 := n7_; have NB193_197 := n8_; have NB197_193 := n9_; clear n0_ n1_ n2_ n3_ n4_ n5_ n6_ n7_ n8_ n9_; clear hb hbox hg; have hnb22 := NB197_193.out; have hnc22 := NB193_197.out; have hcz23_0 : w21.cell? ⟨gb197, 0, none⟩ = some (.slice none 0 0) := (blk_cell BK197.out 0).trans rfl; have hcz23_1 : w21.cell? ⟨gb197, 1, none⟩ = some (.int .i64 0) := (blk_cell BK197.out 1).trans rfl; have hfz23_0 := blk_frozen BK197.out 0; have hfz23_1 := blk_frozen BK197.out 1) | ((with_reducible refine gate_dst (N := 16) rfl ?_); refine Kd.R_lit (Kd.int .i64) _ 3 ?hg (N := 16) ?hd (xs := ([2] : List Int)) (inner := [.int .i64 2]) (ok := fun _ => True) (okp := fun _ => True) ?hr ?hp (fun _ hk => hk) trivial (Below.refl _ _) (Nat.le_refl _) (by simp) ?_; (case hd => rfl); (case hg => rfl); (case hr => first | (go_simp; done) | (go_simp; rfl)); (case hp => exact (Reps.one (show Kd.M (Kd.int .i64) _ _ _ 2 [.int .i64 2] from rfl) (Reps.none _ _))); intro v199 w24 ho25 hb hg_ hnew_; clear hg_ hnew_; (first | rw [← Ny198.out] at ho25 | (simp only [Int.reduceToNat] at ho25; rw [← Ny198.out] at ho25)); have n0_ := am (Kd.R_elder' (by (with_reducible repeat (first | apply Kd.R_alloc | apply Kd.R_drewN | apply Kd.R_drew)); exact (Kd.R_mono (Kd.R_far (p := ⟨gb197, 1, none⟩) (Kd.R_far (p := ⟨gb197, 0, none⟩) (Kd.R_types HO187.out BK197.out (by decide)) (fun _ hk => hk.2) (.slice Ao20 y194.length co20)) (fun _ hk => hk.2) (.int .i64 1)) (fun _ h_ => h_.1))) (Kd.R_base ho25) hb); have n1_ := am (Kd.N_elder' (by (with_reducible repeat (first | apply Kd.N_alloc | apply Kd.N_drewN | apply Kd.N_drew)); exact (Kd.N_mono (Kd.N_far (p := ⟨gb197, 1, none⟩) (Kd.N_far (p := ⟨gb197, 0, none⟩) (Kd.N_mono HO191.out (fun k_ hk => (⟨hk, hk.2⟩ : _ ∧ k_ ≠ gb197))) (fun _ hk => hk.2) (.slice Ao20 y194.length co20)) (fun _ hk => hk.2) (.int .i64 1)) (fun _ h_ => h_.1))) (Kd.R_base ho25) hb); have n2_ := am (Kd.R_elder' (by (with_reducible repeat (first | apply Kd.R_alloc | apply Kd.R_drewN | apply Kd.R_drew)); exact (Kd.R_mono (Kd.R_far (p := ⟨gb197, 1, none⟩) (Kd.R_far (p := ⟨gb197, 0, none⟩) (Kd.R_types HO196.out BK197.out (by decide)) (fun _ hk => hk.2) (.slice Ao20 y194.length co20)) (fun _ hk => hk.2) (.int .i64 1)) (fun _ h_ => h_.1))) (Kd.R_base ho25) hb); have n3_ := am (Kd.R_lower (Kd.R_new' (Kd.R_new' ho25 (Kd.R_lt (by (with_reducible repeat (first | apply Kd.R_alloc | apply Kd.R_drewN | apply Kd.R_drew)); exact (Kd.R_mono (Kd.R_far (p := ⟨gb197, 1, none⟩) (Kd.R_far (p := ⟨gb197, 0, none⟩) (Kd.R_types HO187.out BK197.out (by decide)) (fun _ hk => hk.2) (.slice Ao20 y194.length co20)) (fun _ hk => hk.2) (.int .i64 1)) (fun _ h_ => h_.1))))) (Kd.R_lt (by (with_reducible repeat (first | apply Kd.R_alloc | apply Kd.R_drewN | apply Kd.R_drew)); exact (Kd.R_mono (Kd.R_far (p := ⟨gb197, 1, none⟩) (Kd.R_far (p := ⟨gb197, 0, none⟩) (Kd.R_types HO196.out BK197.out (by decide)) (fun _ hk => hk.2) (.slice Ao20 y194.length co20)) (fun _ hk => hk.2) (.int .i64 1)) (fun _ h_ => h_.1))))) (below_size (by repeat (first | (with_reducible first | exact HB.out | apply below_alloc | apply pw_below_drewN | apply below_drew1 | refine below_set ?_ GE193.out | refine below_set ?_ GE197.out) | exact HB.out)))); have n4_ := am (blk_below (g := gb193) (o := .cells #[.slice Ao16 t185.length co16, .int .i64 t188] 24 (0, 0)) (by (with_reducible repeat (first | refine blk_drewN ?_ _ | refine blk_drew ?_ | refine blk_alloc ?_ _)); refine blk_far ?_ NB193_197.out _; (with_reducible repeat (first | refine blk_drewN ?_ _ | refine blk_drew ?_ | refine blk_alloc ?_ _)); refine blk_far ?_ NB193_197.out _; (with_reducible repeat (first | refine blk_drewN ?_ _ | refine blk_drew ?_ | refine blk_alloc ?_ _)); exact BK193.out) hb); have n5_ := am (blk_below (g := gb197) (o := .cells #[.slice Ao20 y194.length co20, .int .i64 1] 24 (0, 0)) (by (with_reducible repeat (first | refine blk_drewN ?_ _ | refine blk_drew ?_ | refine blk_alloc ?_ _)); refine blk_put (cs := #[.slice Ao20 y194.length co20, .int .i64 0]) ?_ 1 _ rfl; (with_reducible repeat (first | refine blk_drewN ?_ _ | refine blk_drew ?_ | refine blk_alloc ?_ _)); refine blk_put (cs := #[.slice none 0 0, .int .i64 0]) ?_ 0 _ rfl; (with_reducible repeat (first | refine blk_drewN ?_ _ | refine blk_drew ?_ | refine blk_alloc ?_ _)); exact BK197.out) hb); have n6_ := am (below_step (by repeat (first | (with_reducible first | exact HB.out | apply below_alloc | apply pw_below_drewN | apply below_drew1 | refine below_set ?_ GE193.out | refine below_set ?_ GE197.out) | exact HB.out)) hb); clear HO187; clear HO191; clear HO196; clear BK193; clear BK197; clear HB; have HO187 := n0_; have HO191 := n1_; have HO196 := n2_; have HO200 := n3_; have BK193 := n4_; have BK197 := n5_; have HB := n6_; clear n0_ n1_ n2_ n3_ n4_ n5_ n6_; clear hb ho25) | ((with_reducible refine gate_dst (N := 17) rfl ?_); refine Kd.R_lit (Kd.int .i64) _ 3 ?hg (N := 17) ?hd (xs := ([7] : List Int)) (inner := [.int .i64 7]) (ok := fun _ => True) (okp := fun _ => True) ?hr ?hp (fun _ hk => hk) trivial (Below.refl _ _) (Nat.le_refl _) (by simp) ?_; (case hd => rfl); (case hg => rfl); (case hr => first | (go_simp; done) | (go_simp; rfl)); (case hp => exact (Reps.one (show Kd.M (Kd.int .i64) _ _ _ 7 [.int .i64 7] from rfl) (Reps.none _ _))); intro v202 w26 ho27 hb hg_ hnew_; clear hg_ hnew_; (first | rw [← Ny201.out] at ho27 | (simp only [Int.reduceToNat] at ho27; rw [← Ny201.out] at ho27)); have n0_ := am (Kd.R_elder' (by (with_reducible repeat (first | apply Kd.R_alloc | apply Kd.R_drewN | apply Kd.R_drew)); exact HO187.out) (Kd.R_base ho27) hb); have n1_ := am (Kd.N_elder' (by (with_reducible repeat (first | apply Kd.N_alloc | apply Kd.N_drewN | apply Kd.N_drew)); exact HO191.out) (Kd.R_base ho27) hb); have n2_ := am (Kd.R_elder' (by (with_reducible repeat (first | apply Kd.R_alloc | apply Kd.R_drewN | apply Kd.R_drew)); exact HO196.out) (Kd.R_base ho27) hb); have n3_ := am (Kd.R_elder' (by (with_reducible repeat (first | apply Kd.R_alloc | apply Kd.R_drewN | apply Kd.R_drew)); exact HO200.out) (Kd.R_base ho27) hb); have n4_ := am (Kd.R_lower (Kd.R_new' (Kd.R_new' (Kd.R_new' ho27 (Kd.R_lt (by (with_reducible repeat (first | apply Kd.R_alloc | apply Kd.R_drewN | apply Kd.R_drew)); exact HO187.out))) (Kd.R_lt (by (with_reducible repeat (first | apply Kd.R_alloc | apply Kd.R_drewN | apply Kd.R_drew)); exact HO196.out))) (Kd.R_lt (by (with_reducible repeat (first | apply Kd.R_alloc | apply Kd.R_drewN | apply Kd.R_drew)); exact HO200.out))) (below_size (by repeat (first | (with_reducible first | exact HB.out | apply below_alloc | apply pw_below_drewN | apply below_drew1 | refine below_set ?_ GE193.out | refine below_set ?_ GE197.out) | exact HB.out)))); have n5_ := am (blk_below (g := gb193) (o := .cells #[.slice Ao16 t185.length co16, .int .i64 t188] 24 (0, 0)) (by (with_reducible repeat (first | refine blk_drewN ?_ _ | refine blk_drew ?_ | refine blk_alloc ?_ _)); exact BK193.out) hb); have n6_ := am (blk_below (g := gb197) (o := .cells #[.slice Ao20 y194.length co20, .int .i64 1] 24 (0, 0)) (by (with_reducible repeat (first | refine blk_drewN ?_ _ | refine blk_drew ?_ | refine blk_alloc ?_ _)); exact BK197.out) hb); have n7_ := am (below_step (by repeat (first | (with_reducible first | exact HB.out | apply below_alloc | apply pw_below_drewN | apply below_drew1 | refine below_set ?_ GE193.out | refine below_set ?_ GE197.out) | exact HB.out)) hb); clear HO187; clear HO191; clear HO196; clear HO200; clear BK193; clear BK197; clear HB; have HO187 := n0_; have HO191 := n1_; have HO196 := n2_; have HO200 := n3_; have HO203 := n4_; have BK193 := n5_; have BK197 := n6_; have HB := n7_; clear n0_ n1_ n2_ n3_ n4_ n5_ n6_ n7_; clear hb ho27; obtain ⟨Ao28, co28, eo28⟩ := Kd.R_slice HO203.out; subst eo28; obtain ⟨Ao29, co29, eo29⟩ := Kd.R_slice HO200.out; subst eo29) | ((with_reducible refine gate_dst (N := 19) rfl ?_); refine Kd.N_lit k33 _ 33 ?hg (N' := 19) ?hd (xs := ([(⟨y198, y201⟩ : S33)] : List (S33))) (inner := [.slice Ao29 y198.length co29, .slice Ao28 y201.length co28]) (ok := (fun k_ => some k_ ≠ (.slice Ao16 t185.length co16 : Value).ownBlock ∧ some k_ ≠ (v190 : Value).ownBlock ∧ some k_ ≠ (.slice Ao20 y194.length co20 : Value).ownBlock ∧ k_ ≠ gb193 ∧ k_ ≠ gb197)) (okp := (fun k_ => some k_ ≠ (.slice Ao16 t185.length co16 : Value).ownBlock ∧ some k_ ≠ (v190 : Value).ownBlock ∧ some k_ ≠ (.slice Ao20 y194.length co20 : Value).ownBlock ∧ k_ ≠ gb193 ∧ k_ ≠ gb197)) ?hr ?hp (fun _ hk => hk) ((show ∀ k_, w26.heap.size ≤ k_ → (fun k_ => some k_ ≠ (.slice Ao16 t185.length co16 : Value).ownBlock ∧ some k_ ≠ (v190 : Value).ownBlock ∧ some k_ ≠ (.slice Ao20 y194.length co20 : Value).ownBlock ∧ k_ ≠ gb193 ∧ k_ ≠ gb197) k_ from fun k_ hk => ⟨Kd.fresh' (Kd.R_lt (by (with_reducible repeat (first | apply Kd.R_alloc | apply Kd.R_drewN | apply Kd.R_drew)); exact HO187.out)) k_ hk, Kd.fresh' (Kd.N_lt (by (with_reducible repeat (first | apply Kd.N_alloc | apply Kd.N_drewN | apply Kd.N_drew)); exact HO191.out)) k_ hk, Kd.fresh' (Kd.R_lt (by (with_reducible repeat (first | apply Kd.R_alloc | apply Kd.R_drewN | apply Kd.R_drew)); exact HO196.out)) k_ hk, Kd.freshB (g := gb193) (o := .cells #[.slice Ao16 t185.length co16, .int .i64 t188] 24 (0, 0)) (by (with_reducible repeat (first | refine blk_drewN ?_ _ | refine blk_drew ?_ | refine blk_alloc ?_ _)); exact BK193.out) k_ hk, Kd.freshB (g := gb197) (o := .cells #[.slice Ao20 y194.length co20, .int .i64 1] 24 (0, 0)) (by (with_reducible repeat (first | refine blk_drewN ?_ _ | refine blk_drew ?_ | refine blk_alloc ?_ _)); exact BK197.out) k_ hk⟩) _ (Nat.le_refl _)) (Below.refl _ _) (Nat.le_refl _) (by simp) ?_; (case hd => rfl); (case hg => rfl); (case hr => first | (go_simp; done) | (go_simp; rfl)); (case hp => exact (Reps.c2 (show Kd.FK k33 _ _ (⟨y198, y201⟩ : S33) [.slice Ao29 y198.length co29, .slice Ao28 y201.length co28] from (k33_mkF _ _ (⟨y198, y201⟩ : S33) (Kd.R_reads' (Kd.R_mono (ok' := (fun k_ => some k_ ≠ (.slice Ao16 t185.length co16 : Value).ownBlock ∧ some k_ ≠ (v190 : Value).ownBlock ∧ some k_ ≠ (.slice Ao20 y194.length co20 : Value).ownBlock ∧ k_ ≠ gb193 ∧ k_ ≠ gb197)) (Kd.R_types (Kd.R_types (Kd.R_apart' (HO200.out) (Kd.N_typed HO191.out) (by decide)) BK193.out (by decide)) BK197.out (by decide)) (fun k_ hk => ⟨hk.1.1.1.1.1.2, ⟨hk.1.1.2, ⟨hk.1.1.1.1.2, ⟨hk.1.2, hk.2⟩⟩⟩⟩))).2.1 (Kd.R_F (Kd.R_mono (ok' := (fun k_ => some k_ ≠ (.slice Ao16 t185.length co16 : Value).ownBlock ∧ some k_ ≠ (v190 : Value).ownBlock ∧ some k_ ≠ (.slice Ao20 y194.length co20 : Value).ownBlock ∧ k_ ≠ gb193 ∧ k_ ≠ gb197)) (Kd.R_types (Kd.R_types (Kd.R_apart' (HO200.out) (Kd.N_typed HO191.out) (by decide)) BK193.out (by decide)) BK197.out (by decide)) (fun k_ hk => ⟨hk.1.1.1.1.1.2, ⟨hk.1.1.2, ⟨hk.1.1.1.1.2, ⟨hk.1.2, hk.2⟩⟩⟩⟩))) (Kd.R_reads' (Kd.R_mono (ok' := (fun k_ => some k_ ≠ (.slice Ao16 t185.length co16 : Value).ownBlock ∧ some k_ ≠ (v190 : Value).ownBlock ∧ some k_ ≠ (.slice Ao20 y194.length co20 : Value).ownBlock ∧ k_ ≠ gb193 ∧ k_ ≠ gb197)) (Kd.R_types (Kd.R_types (Kd.R_apart' (HO203.out) (Kd.N_typed HO191.out) (by decide)) BK193.out (by decide)) BK197.out (by decide)) (fun k_ hk => ⟨hk.1.1.1.1.1.2, ⟨hk.1.1.2, ⟨hk.1.1.1.1.2, ⟨hk.1.2, hk.2⟩⟩⟩⟩))).2.1 (Kd.R_F (Kd.R_mono (ok' := (fun k_ => some k_ ≠ (.slice Ao16 t185.length co16 : Value).ownBlock ∧ some k_ ≠ (v190 : Value).ownBlock ∧ some k_ ≠ (.slice Ao20 y194.length co20 : Value).ownBlock ∧ k_ ≠ gb193 ∧ k_ ≠ gb197)) (Kd.R_types (Kd.R_types (Kd.R_apart' (HO203.out) (Kd.N_typed HO191.out) (by decide)) BK193.out (by decide)) BK197.out (by decide)) (fun k_ hk => ⟨hk.1.1.1.1.1.2, ⟨hk.1.1.2, ⟨hk.1.1.1.1.2, ⟨hk.1.2, hk.2⟩⟩⟩⟩))))) (Reps.none _ _))); intro v205 w30 ho31 hb hg_ hnew_; clear hg_ hnew_; (first | rw [← Ny204.out] at ho31 | (simp only [Int.reduceToNat] at ho31; rw [← Ny204.out] at ho31)); have n0_ := am (Kd.R_below (by (with_reducible repeat (first | apply Kd.R_alloc | apply Kd.R_drewN | apply Kd.R_drew)); exact HO187.out) hb); have n1_ := am (Kd.N_elder' (by (with_reducible repeat (first | apply Kd.N_alloc | apply Kd.N_drewN | apply Kd.N_drew)); exact HO191.out) (by first | exact Kd.N_base ho31 | exact Kd.S_base ho31 | exact Kd.R_base ho31) hb); have n2_ := am (Kd.R_below (by (with_reducible repeat (first | apply Kd.R_alloc | apply Kd.R_drewN | apply Kd.R_drew)); exact HO196.out) hb); have n3_ := am (Kd.N_lower ho31 (below_size (by repeat (first | (with_reducible first | exact HB.out | apply below_alloc | apply pw_below_drewN | apply below_drew1 | refine below_set ?_ GE193.out | refine below_set ?_ GE197.out) | exact HB.out)))); have n4_ := am (blk_below (g := gb193) (o := .cells #[.slice Ao16 t185.length co16, .int .i64 t188] 24 (0, 0)) (by (with_reducible repeat (first | refine blk_drewN ?_ _ | refine blk_drew ?_ | refine blk_alloc ?_ _)); exact BK193.out) hb); have n5_ := am (blk_below (g := gb197) (o := .cells #[.slice Ao20 y194.length co20, .int .i64 1] 24 (0, 0)) (by (with_reducible repeat (first | refine blk_drewN ?_ _ | refine blk_drew ?_ | refine blk_alloc ?_ _)); exact BK197.out) hb); have n6_ := am (below_step (by repeat (first | (with_reducible first | exact HB.out | apply below_alloc | apply pw_below_drewN | apply below_drew1 | refine below_set ?_ GE193.out | refine below_set ?_ GE197.out) | exact HB.out)) hb); clear HO187; clear HO191; clear HO196; clear BK193; clear BK197; clear HB; clear HO200; clear HO203; have HO187 := n0_; have HO191 := n1_; have HO196 := n2_; have HO206 := n3_; have BK193 := n4_; have BK197 := n5_; have HB := n6_; clear n0_ n1_ n2_ n3_ n4_ n5_ n6_; clear hb ho31; have hcz32_0 : w30.cell? ⟨gb197, 0, none⟩ = some (.slice Ao20 y194.length co20) := (blk_cell BK197.out 0).trans rfl; have hcz32_1 : w30.cell? ⟨gb197, 1, none⟩ = some (.int .i64 1) := (blk_cell BK197.out 1).trans rfl; have hfz32_0 := blk_frozen BK197.out 0; have hfz32_1 := blk_frozen BK197.out 1; obtain ⟨Ao33, co33, eo33⟩ := Kd.N_slice HO206.out; subst eo33) | ((with_reducible refine gate_callee (f := 22) rfl ?_); refine goesL_ (some 23) rfl rfl Try.func22 (by kernel_rfl) rfl #[.agg #[.slice Ao20 y194.length co20, .int .i64 1], .slice Ao33 y204.length co33] rfl (by (try simp only [List.map_toArray, List.map_cons, List.map_nil]); first | done | rfl | (simp only [List.length_drop, List.length_take]; rfl)) ?_; (with_reducible refine (rec_Encode.calls k _ _ y194 1 _ _ y204 t207 _ ?side1 ?side2 ?side3 ?side4 A2.out).mono ?_); (case side1 => repeat (first | exact (Kd.R_reads' HO196.out).2.2 | (with_reducible refine Kd.C_alloc ?_ _) | (with_reducible refine Kd.C_drewN ?_ _) | (with_reducible refine Kd.C_drew ?_))); (case side2 => exact (Kd.R_reads' HO196.out).2.1); (case side3 => repeat (first | exact (Kd.N_reads' HO206.out).2.2 | (with_reducible refine Kd.C_alloc ?_ _) | (with_reducible refine Kd.C_drewN ?_ _) | (with_reducible refine Kd.C_drew ?_))); (case side4 => exact (Kd.N_reads' HO206.out).2.1); rintro e w34 ⟨v208, rfl, ho0, hb⟩; refine ⟨_, rfl, ?_⟩; have n0_ := am (Kd.R_below (by (with_reducible repeat (first | apply Kd.R_alloc | apply Kd.R_drewN | apply Kd.R_drew)); exact HO187.out) hb); have n1_ := am (Kd.N_elder' (by (with_reducible repeat (first | apply Kd.N_alloc | apply Kd.N_drewN | apply Kd.N_drew)); exact HO191.out) (Kd.R_base ho0) hb); have n2_ := am (Kd.R_below (by (with_reducible repeat (first | apply Kd.R_alloc | apply Kd.R_drewN | apply Kd.R_drew)); exact HO196.out) hb); have n3_ := am (Kd.N_elder' (by (with_reducible repeat (first | apply Kd.N_alloc | apply Kd.N_drewN | apply Kd.N_drew)); exact HO206.out) (Kd.R_base ho0) hb); have n4_ := am (Kd.R_lower ho0 (below_size (by repeat (first | (with_reducible first | exact HB.out | apply below_alloc | apply pw_below_drewN | apply below_drew1 | refine below_set ?_ GE193.out | refine below_set ?_ GE197.out) | exact HB.out)))); have n5_ := am (blk_below (g := gb193) (o := .cells #[.slice Ao16 t185.length co16, .int .i64 t188] 24 (0, 0)) (by (with_reducible repeat (first | refine blk_drewN ?_ _ | refine blk_drew ?_ | refine blk_alloc ?_ _)); exact BK193.out) hb); have n6_ := am (blk_below (g := gb197) (o := .cells #[.slice Ao20 y194.length co20, .int .i64 1] 24 (0, 0)) (by (with_reducible repeat (first | refine blk_drewN ?_ _ | refine blk_drew ?_ | refine blk_alloc ?_ _)); exact BK197.out) hb); have n7_ := am (below_step (by repeat (first | (with_reducible first | exact HB.out | apply below_alloc | apply pw_below_drewN | apply below_drew1 | refine below_set ?_ GE193.out | refine below_set ?_ GE197.out) | exact HB.out)) hb); clear HO187; clear HO191; clear HO196; clear HO206; clear BK193; clear BK197; clear HB; have HO187 := n0_; have HO191 := n1_; have HO196 := n2_; have HO206 := n3_; have HO209 := n4_; have BK193 := n5_; have BK197 := n6_; have HB := n7_; clear n0_ n1_ n2_ n3_ n4_ n5_ n6_ n7_; (try clear hb); (try clear hb2); (try clear hk); (try clear hi); (try clear ho0); obtain ⟨Ao35, co35, eo35⟩ := Kd.R_slice HO209.out; subst eo35) | ((with_reducible refine gate_callee (f := 23) rfl ?_); refine goesL_ (some 24) rfl rfl Try.func23 (by kernel_rfl) rfl #[.slice Ao35 t207.length co35] rfl (by (try simp only [List.map_toArray, List.map_cons, List.map_nil]); first | done | rfl | (simp only [List.length_drop, List.length_take]; rfl)) ?_; (with_reducible refine (rec_Decode.calls _ _ t207 t210 t213 t214 t217 _ ?side1 ?side2 A3.out).mono ?_); (case side1 => repeat (first | exact (Kd.R_reads' HO209.out).2.2 | (with_reducible refine Kd.C_alloc ?_ _) | (with_reducible refine Kd.C_drewN ?_ _) | (with_reducible refine Kd.C_drew ?_))); (case side2 => exact (Kd.R_reads' HO209.out).2.1); rintro e w36 ⟨v211, v215, rfl, ho0, ho1, hb⟩; refine ⟨_, rfl, ?_⟩; have n0_ := am (Kd.R_elder' (by (with_reducible repeat (first | apply Kd.R_alloc | apply Kd.R_drewN | apply Kd.R_drew)); exact HO187.out) (Kd.R_base ho0) hb); have n1_ := am (Kd.N_mono (Kd.N_told (Kd.N_told (Kd.N_old (by (with_reducible repeat (first | apply Kd.N_alloc | apply Kd.N_drewN | apply Kd.N_drew)); exact HO191.out) hb) (Kd.R_base ho0)) (by first | exact Kd.N_base ho1 | exact Kd.S_base ho1 | exact Kd.R_base ho1)) (fun _ h_ => h_.1)); have n2_ := am (Kd.R_elder' (by (with_reducible repeat (first | apply Kd.R_alloc | apply Kd.R_drewN | apply Kd.R_drew)); exact HO196.out) (Kd.R_base ho0) hb); have n3_ := am (Kd.N_mono (Kd.N_told (Kd.N_told (Kd.N_old (by (with_reducible repeat (first | apply Kd.N_alloc | apply Kd.N_drewN | apply Kd.N_drew)); exact HO206.out) hb) (Kd.R_base ho0)) (by first | exact Kd.N_base ho1 | exact Kd.S_base ho1 | exact Kd.R_base ho1)) (fun _ h_ => h_.1)); have n4_ := am (Kd.R_below (by (with_reducible repeat (first | apply Kd.R_alloc | apply Kd.R_drewN | apply Kd.R_drew)); exact HO209.out) hb); have n5_ := am (Kd.R_lower (Kd.R_new' (Kd.R_new' ho0 (Kd.R_lt (by (with_reducible repeat (first | apply Kd.R_alloc | apply Kd.R_drewN | apply Kd.R_drew)); exact HO187.out))) (Kd.R_lt (by (with_reducible repeat (first | apply Kd.R_alloc | apply Kd.R_drewN | apply Kd.R_drew)); exact HO196.out))) (below_size (by repeat (first | (with_reducible first | exact HB.out | apply below_alloc | apply pw_below_drewN | apply below_drew1 | refine below_set ?_ GE193.out | refine below_set ?_ GE197.out) | exact HB.out)))); have n6_ := am (Kd.N_lower (Kd.N_mono (ok' := fun k_ => some k_ ≠ (v211 : Value).ownBlock ∧ some k_ ≠ (.slice Ao16 t185.length co16 : Value).ownBlock ∧ some k_ ≠ (v190 : Value).ownBlock ∧ some k_ ≠ (.slice Ao20 y194.length co20 : Value).ownBlock ∧ some k_ ≠ (.slice Ao33 y204.length co33 : Value).ownBlock ∧ some k_ ≠ (.slice Ao35 t207.length co35 : Value).ownBlock ∧ k_ ≠ gb193 ∧ k_ ≠ gb197) (Kd.S_N (Kd.S_bound ho1)) (fun k_ hk_ => ⟨hk_.1, (Kd.fresh' (Kd.R_lt (by (with_reducible repeat (first | apply Kd.R_alloc | apply Kd.R_drewN | apply Kd.R_drew)); exact HO187.out)) k_ hk_.2.1), (Kd.fresh' (Kd.N_lt (by (with_reducible repeat (first | apply Kd.N_alloc | apply Kd.N_drewN | apply Kd.N_drew)); exact HO191.out)) k_ hk_.2.1), (Kd.fresh' (Kd.R_lt (by (with_reducible repeat (first | apply Kd.R_alloc | apply Kd.R_drewN | apply Kd.R_drew)); exact HO196.out)) k_ hk_.2.1), (Kd.fresh' (Kd.N_lt (by (with_reducible repeat (first | apply Kd.N_alloc | apply Kd.N_drewN | apply Kd.N_drew)); exact HO206.out)) k_ hk_.2.1), (Kd.fresh' (Kd.R_lt (by (with_reducible repeat (first | apply Kd.R_alloc | apply Kd.R_drewN | apply Kd.R_drew)); exact HO209.out)) k_ hk_.2.1), (Kd.freshB (g := gb193) (o := .cells #[.slice Ao16 t185.length co16, .int .i64 t188] 24 (0, 0)) (by (with_reducible repeat (first | refine blk_drewN ?_ _ | refine blk_drew ?_ | refine blk_alloc ?_ _)); exact BK193.out) k_ hk_.2.1), (Kd.freshB (g := gb197) (o := .cells #[.slice Ao20 y194.length co20, .int .i64 1] 24 (0, 0)) (by (with_reducible repeat (first | refine blk_drewN ?_ _ | refine blk_drew ?_ | refine blk_alloc ?_ _)); exact BK197.out) k_ hk_.2.1)⟩)) (below_size (by repeat (first | (with_reducible first | exact HB.out | apply below_alloc | apply pw_below_drewN | apply below_drew1 | refine below_set ?_ GE193.out | refine below_set ?_ GE197.out) | exact HB.out)))); have n7_ := am (blk_below (g := gb193) (o := .cells #[.slice Ao16 t185.length co16, .int .i64 t188] 24 (0, 0)) (by (with_reducible repeat (first | refine blk_drewN ?_ _ | refine blk_drew ?_ | refine blk_alloc ?_ _)); exact BK193.out) hb); have n8_ := am (blk_below (g := gb197) (o := .cells #[.slice Ao20 y194.length co20, .int .i64 1] 24 (0, 0)) (by (with_reducible repeat (first | refine blk_drewN ?_ _ | refine blk_drew ?_ | refine blk_alloc ?_ _)); exact BK197.out) hb); have n9_ := am (below_step (by repeat (first | (with_reducible first | exact HB.out | apply below_alloc | apply pw_below_drewN | apply below_drew1 | refine below_set ?_ GE193.out | refine below_set ?_ GE197.out) | exact HB.out)) hb); clear HO187; clear HO191; clear HO196; clear HO206; clear HO209; clear BK193; clear BK197; clear HB; have HO187 := n0_; have HO191 := n1_; have HO196 := n2_; have HO206 := n3_; have HO209 := n4_; have HO212 := n5_; have HO216 := n6_; have BK193 := n7_; have BK197 := n8_; have HB := n9_; clear n0_ n1_ n2_ n3_ n4_ n5_ n6_ n7_ n8_ n9_; (try clear hb); (try clear hb2); (try clear hk); (try clear hi); (try clear ho0); (try clear ho1)) | ((with_reducible refine gate_dst (N := 6) rfl ?_); refine box_event ?hg (N := 6) ?hd (cs := #[.slice none 0 0, .int .i64 0]) (t := 24) ?hr ?_; (case hd => rfl); (case hg => rfl); (case hr => first | (go_simp; done) | (go_simp; rfl)); intro gb218 hg w37 hbox hb; have n0_ := am (Kd.R_below (by (with_reducible repeat (first | apply Kd.R_alloc | apply Kd.R_drewN | apply Kd.R_drew)); exact HO187.out) hb); have n1_ := am (Kd.N_below (Kd.N_elderB (by (with_reducible repeat (first | apply Kd.N_alloc | apply Kd.N_drewN | apply Kd.N_drew)); exact HO191.out) gb218 (Nat.le_of_eq hg.symm)) hb); have n2_ := am (Kd.R_below (by (with_reducible repeat (first | apply Kd.R_alloc | apply Kd.R_drewN | apply Kd.R_drew)); exact HO196.out) hb); have n3_ := am (Kd.N_below (Kd.N_elderB (by (with_reducible repeat (first | apply Kd.N_alloc | apply Kd.N_drewN | apply Kd.N_drew)); exact HO206.out) gb218 (Nat.le_of_eq hg.symm)) hb); have n4_ := am (Kd.R_below (by (with_reducible repeat (first | apply Kd.R_alloc | apply Kd.R_drewN | apply Kd.R_drew)); exact HO209.out) hb); have n5_ := am (Kd.R_below (by (with_reducible repeat (first | apply Kd.R_alloc | apply Kd.R_drewN | apply Kd.R_drew)); exact HO212.out) hb); have n6_ := am (Kd.N_below (Kd.N_elderB (by (with_reducible repeat (first | apply Kd.N_alloc | apply Kd.N_drewN | apply Kd.N_drew)); exact HO216.out) gb218 (Nat.le_of_eq hg.symm)) hb); have n7_ := am (blk_below (g := gb193) (o := .cells #[.slice Ao16 t185.length co16, .int .i64 t188] 24 (0, 0)) (by (with_reducible repeat (first | refine blk_drewN ?_ _ | refine blk_drew ?_ | refine blk_alloc ?_ _)); exact BK193.out) hb); have n8_ := am (blk_below (g := gb197) (o := .cells #[.slice Ao20 y194.length co20, .int .i64 1] 24 (0, 0)) (by (with_reducible repeat (first | refine blk_drewN ?_ _ | refine blk_drew ?_ | refine blk_alloc ?_ _)); exact BK197.out) hb); have n9_ := am (below_step (by repeat (first | (with_reducible first | exact HB.out | apply below_alloc | apply pw_below_drewN | apply below_drew1 | refine below_set ?_ GE193.out | refine below_set ?_ GE197.out) | exact HB.out)) hb); have n10_ := am (hbox); have n11_ := am ((by rw [hg]; exact (below_size (by repeat (first | (with_reducible first | exact HB.out | apply below_alloc | apply pw_below_drewN | apply below_drew1 | refine below_set ?_ GE193.out | refine below_set ?_ GE197.out) | exact HB.out))) : w.heap.size ≤ gb218)); have n12_ := am ((by rw [hg]; exact (below_size (by repeat (first | (with_reducible first | exact HB.out | apply below_alloc | apply pw_below_drewN | apply below_drew1 | refine below_set ?_ GE193.out | refine below_set ?_ GE197.out) | exact HB.out))) : w.heap.size ≤ gb218)); have n13_ := am ((by rw [hg]; exact Nat.ne_of_lt (blk_lt (g := gb193) (o := .cells #[.slice Ao16 t185.length co16, .int .i64 t188] 24 (0, 0)) (by (with_reducible repeat (first | refine blk_drewN ?_ _ | refine blk_drew ?_ | refine blk_alloc ?_ _)); exact BK193.out)) : gb193 ≠ gb218)); have n14_ := am ((by rw [hg]; exact Nat.ne_of_gt (blk_lt (g := gb193) (o := .cells #[.slice Ao16 t185.length co16, .int .i64 t188] 24 (0, 0)) (by (with_reducible repeat (first | refine blk_drewN ?_ _ | refine blk_drew ?_ | refine blk_alloc ?_ _)); exact BK193.out)) : gb218 ≠ gb193)); have n15_ := am ((by rw [hg]; exact Nat.ne_of_lt (blk_lt (g := gb197) (o := .cells #[.slice Ao20 y194.length co20, .int .i64 1] 24 (0, 0)) (by (with_reducible repeat (first | refine blk_drewN ?_ _ | refine blk_drew ?_ | refine blk_alloc ?_ _)); exact BK197.out)) : gb197 ≠ gb218)); have n16_ := am ((by rw [hg]; exact Nat.ne_of_gt (blk_lt (g := gb197) (o := .cells #[.slice Ao20 y194.length co20, .int .i64 1] 24 (0, 0)) (by (with_reducible repeat (first | refine blk_drewN ?_ _ | refine blk_drew ?_ | refine blk_alloc ?_ _)); exact BK197.out)) : gb218 ≠ gb197)); clear HO187; clear HO191; clear HO196; clear HO206; clear HO209; clear HO212; clear HO216; clear BK193; clear BK197; clear HB; have HO187 := n0_; have HO191 := n1_; have HO196 := n2_; have HO206 := n3_; have HO209 := n4_; have HO212 := n5_; have HO216 := n6_; have BK193 := n7_; have BK197 := n8_; have HB := n9_; have BK218 := n10_; have GW218 := n11_; have GE218 := n12_; have NB193_218 := n13_; have NB218_193 := n14_; have NB197_218 := n15_; have NB218_197 := n16_; clear n0_ n1_ n2_ n3_ n4_ n5_ n6_ n7_ n8_ n9_ n10_ n11_ n12_ n13_ n14_ n15_ n16_; clear hb hbox hg; obtain ⟨Ao38, co38, eo38⟩ := Kd.R_slice HO212.out; subst eo38; have hnb39 := NB218_193.out; have hnc39 := NB193_218.out; have hnb40 := NB218_197.out; have hnc40 := NB197_218.out; have hcz41_0 : w37.cell? ⟨gb218, 0, none⟩ = some (.slice none 0 0) := (blk_cell BK218.out 0).trans rfl; have hcz41_1 : w37.cell? ⟨gb218, 1, none⟩ = some (.int .i64 0) := (blk_cell BK218.out 1).trans rfl; have hfz41_0 := blk_frozen BK218.out 0; have hfz41_1 := blk_frozen BK218.out 1))
       have n0_ : Aside0 (Kd.R (Kd.int .i64) 3 ((w37.setCell ⟨gb218, 0, none⟩ (.slice Ao38 t210.length co38)).setCell ⟨gb218, 1, none⟩ (.int .i64 t213)) w.heap.size (fun k_ => some k_ ≠ (.slice Ao20 y194.length co20 : Value).ownBlock ∧ some k_ ≠ (.slice Ao38 t210.length co38 : Value).ownBlock) (.slice Ao16 t185.length co16) t185) := ⟨by (with_reducible repeat (first | apply Kd.R_alloc | apply Kd.R_drewN | apply Kd.R_drew)); exact Kd.R_mono (Kd.R_far (p := ⟨gb218, 1, none⟩) (Kd.R_far (p := ⟨gb218, 0, none⟩) (Kd.R_types HO187.out BK218.out (by decide)) (fun _ hk => hk.2) (.slice Ao38 t210.length co38)) (fun _ hk => hk.2) (.int .i64 t213)) (fun _ hk => ⟨hk.1.1.1.1.2, hk.1.2⟩)⟩
       have n1_ : Aside0 (Kd.N k33 33 ((w37.setCell ⟨gb218, 0, none⟩ (.slice Ao38 t210.length co38)).setCell ⟨gb218, 1, none⟩ (.int .i64 t213)) w.heap.size (fun k_ => some k_ ≠ (.slice Ao16 t185.length co16 : Value).ownBlock ∧ some k_ ≠ (.slice Ao20 y194.length co20 : Value).ownBlock ∧ some k_ ≠ (.slice Ao33 y204.length co33 : Value).ownBlock ∧ some k_ ≠ (.slice Ao35 t207.length co35 : Value).ownBlock ∧ some k_ ≠ (.slice Ao38 t210.length co38 : Value).ownBlock ∧ some k_ ≠ (v215 : Value).ownBlock ∧ k_ ≠ gb193 ∧ k_ ≠ gb197 ∧ k_ ≠ gb218) v190 t189) := ⟨by (with_reducible repeat (first | apply Kd.N_alloc | apply Kd.N_drewN | apply Kd.N_drew)); exact Kd.N_mono (Kd.N_far (p := ⟨gb218, 1, none⟩) (Kd.N_far (p := ⟨gb218, 0, none⟩) (Kd.N_mono HO191.out (fun k_ hk => (⟨hk, hk.2⟩ : _ ∧ k_ ≠ gb218))) (fun _ hk => hk.2) (.slice Ao38 t210.length co38)) (fun _ hk => hk.2) (.int .i64 t213)) (fun _ hk => ⟨hk.1.1.1.1.1.1.1.1.1.1.1, ⟨hk.1.1.1.1.1.1.1.1.1.2, ⟨hk.1.1.1.1.1.2, ⟨hk.1.1.1.1.2, ⟨hk.1.1.1.2, ⟨hk.1.1.2, ⟨hk.1.1.1.1.1.1.1.1.1.1.2, ⟨hk.1.1.1.1.1.1.1.1.2, hk.1.2⟩⟩⟩⟩⟩⟩⟩⟩)⟩
       have n2_ : Aside0 (Kd.R (Kd.int .i64) 3 ((w37.setCell ⟨gb218, 0, none⟩ (.slice Ao38 t210.length co38)).setCell ⟨gb218, 1, none⟩ (.int .i64 t213)) w.heap.size (fun k_ => some k_ ≠ (.slice Ao16 t185.length co16 : Value).ownBlock ∧ some k_ ≠ (.slice Ao38 t210.length co38 : Value).ownBlock) (.slice Ao20 y194.length co20) y194) := ⟨by (with_reducible repeat (first | apply Kd.R_alloc | apply Kd.R_drewN | apply Kd.R_drew)); exact Kd.R_mono (Kd.R_far (p := ⟨gb218, 1, none⟩) (Kd.R_far (p := ⟨gb218, 0, none⟩) (Kd.R_types HO196.out BK218.out (by decide)) (fun _ hk => hk.2) (.slice Ao38 t210.length co38)) (fun _ hk => hk.2) (.int .i64 t213)) (fun _ hk => ⟨hk.1.1.1.1.2, hk.1.2⟩)⟩
       have n3_ : Aside0 (Kd.N k33 33 ((w37.setCell ⟨gb218, 0, none⟩ (.slice Ao38 t210.length co38)).setCell ⟨gb218, 1, none⟩ (.int .i64 t213)) w.heap.size (fun k_ => some k_ ≠ (.slice Ao16 t185.length co16 : Value).ownBlock ∧ some k_ ≠ (v190 : Value).ownBlock ∧ some k_ ≠ (.slice Ao20 y194.length co20 : Value).ownBlock ∧ some k_ ≠ (.slice Ao35 t207.length co35 : Value).ownBlock ∧ some k_ ≠ (.slice Ao38 t210.length co38 : Value).ownBlock ∧ some k_ ≠ (v215 : Value).ownBlock ∧ k_ ≠ gb193 ∧ k_ ≠ gb197 ∧ k_ ≠ gb218) (.slice Ao33 y204.length co33) y204) := ⟨by (with_reducible repeat (first | apply Kd.N_alloc | apply Kd.N_drewN | apply Kd.N_drew)); exact Kd.N_mono (Kd.N_far (p := ⟨gb218, 1, none⟩) (Kd.N_far (p := ⟨gb218, 0, none⟩) (Kd.N_mono HO206.out (fun k_ hk => (⟨hk, hk.2⟩ : _ ∧ k_ ≠ gb218))) (fun _ hk => hk.2) (.slice Ao38 t210.length co38)) (fun _ hk => hk.2) (.int .i64 t213)) (fun _ hk => ⟨hk.1.1.1.1.1.1, ⟨hk.1.1.1.1.1.2.1, ⟨hk.1.1.1.1.1.2.2.1, ⟨hk.1.1.1.1.2, ⟨hk.1.1.1.2, ⟨hk.1.1.2, ⟨hk.1.1.1.1.1.2.2.2.1, ⟨hk.1.1.1.1.1.2.2.2.2, hk.1.2⟩⟩⟩⟩⟩⟩⟩⟩)⟩
       have n4_ : Aside0 (Kd.R (Kd.int .u8) 5 ((w37.setCell ⟨gb218, 0, none⟩ (.slice Ao38 t210.length co38)).setCell ⟨gb218, 1, none⟩ (.int .i64 t213)) w.heap.size (fun _ => True) (.slice Ao35 t207.length co35) t207) := ⟨by (with_reducible repeat (first | apply Kd.R_alloc | apply Kd.R_drewN | apply Kd.R_drew)); exact Kd.R_mono (Kd.R_far (p := ⟨gb218, 1, none⟩) (Kd.R_far (p := ⟨gb218, 0, none⟩) (Kd.R_types HO209.out BK218.out (by decide)) (fun _ hk => hk.2) (.slice Ao38 t210.length co38)) (fun _ hk => hk.2) (.int .i64 t213)) (fun _ hk => trivial)⟩
       have n5_ : Aside0 (Kd.R (Kd.int .i64) 3 ((w37.setCell ⟨gb218, 0, none⟩ (.slice Ao38 t210.length co38)).setCell ⟨gb218, 1, none⟩ (.int .i64 t213)) w.heap.size (fun k_ => some k_ ≠ (.slice Ao16 t185.length co16 : Value).ownBlock ∧ some k_ ≠ (.slice Ao20 y194.length co20 : Value).ownBlock) (.slice Ao38 t210.length co38) t210) := ⟨by (with_reducible repeat (first | apply Kd.R_alloc | apply Kd.R_drewN | apply Kd.R_drew)); exact Kd.R_mono (Kd.R_far (p := ⟨gb218, 1, none⟩) (Kd.R_far (p := ⟨gb218, 0, none⟩) (Kd.R_types HO212.out BK218.out (by decide)) (fun _ hk => hk.2) (.slice Ao38 t210.length co38)) (fun _ hk => hk.2) (.int .i64 t213)) (fun _ hk => ⟨hk.1.1.2, hk.1.2⟩)⟩
       have n6_ : Aside0 (Kd.N k33 33 ((w37.setCell ⟨gb218, 0, none⟩ (.slice Ao38 t210.length co38)).setCell ⟨gb218, 1, none⟩ (.int .i64 t213)) w.heap.size (fun k_ => some k_ ≠ (.slice Ao16 t185.length co16 : Value).ownBlock ∧ some k_ ≠ (v190 : Value).ownBlock ∧ some k_ ≠ (.slice Ao20 y194.length co20 : Value).ownBlock ∧ some k_ ≠ (.slice Ao33 y204.length co33 : Value).ownBlock ∧ some k_ ≠ (.slice Ao35 t207.length co35 : Value).ownBlock ∧ some k_ ≠ (.slice Ao38 t210.length co38 : Value).ownBlock ∧ k_ ≠ gb193 ∧ k_ ≠ gb197 ∧ k_ ≠ gb218) v215 t214) := ⟨by (with_reducible repeat (first | apply Kd.N_alloc | apply Kd.N_drewN | apply Kd.N_drew)); exact Kd.N_mono (Kd.N_far (p := ⟨gb218, 1, none⟩) (Kd.N_far (p := ⟨gb218, 0, none⟩) (Kd.N_mono HO216.out (fun k_ hk => (⟨hk, hk.2⟩ : _ ∧ k_ ≠ gb218))) (fun _ hk => hk.2) (.slice Ao38 t210.length co38)) (fun _ hk => hk.2) (.int .i64 t213)) (fun _ hk => ⟨hk.1.1.2.1, ⟨hk.1.1.2.2.1, ⟨hk.1.1.2.2.2.1, ⟨hk.1.1.2.2.2.2.1, ⟨hk.1.1.2.2.2.2.2.1, ⟨hk.1.1.1, ⟨hk.1.1.2.2.2.2.2.2.1, ⟨hk.1.1.2.2.2.2.2.2.2, hk.1.2⟩⟩⟩⟩⟩⟩⟩⟩)⟩
       have n7_ : Aside0 (((w37.setCell ⟨gb218, 0, none⟩ (.slice Ao38 t210.length co38)).setCell ⟨gb218, 1, none⟩ (.int .i64 t213)).heap[gb193]? = some (.cells #[.slice Ao16 t185.length co16, .int .i64 t188] 24 (0, 0))) := ⟨by (with_reducible repeat (first | refine blk_drewN ?_ _ | refine blk_drew ?_ | refine blk_alloc ?_ _)); refine blk_far ?_ NB193_218.out _; (with_reducible repeat (first | refine blk_drewN ?_ _ | refine blk_drew ?_ | refine blk_alloc ?_ _)); refine blk_far ?_ NB193_218.out _; (with_reducible repeat (first | refine blk_drewN ?_ _ | refine blk_drew ?_ | refine blk_alloc ?_ _)); exact BK193.out⟩
       have n8_ : Aside0 (((w37.setCell ⟨gb218, 0, none⟩ (.slice Ao38 t210.length co38)).setCell ⟨gb218, 1, none⟩ (.int .i64 t213)).heap[gb197]? = some (.cells #[.slice Ao20 y194.length co20, .int .i64 1] 24 (0, 0))) := ⟨by (with_reducible repeat (first | refine blk_drewN ?_ _ | refine blk_drew ?_ | refine blk_alloc ?_ _)); refine blk_far ?_ NB197_218.out _; (with_reducible repeat (first | refine blk_drewN ?_ _ | refine blk_drew ?_ | refine blk_alloc ?_ _)); refine blk_far ?_ NB197_218.out _; (with_reducible repeat (first | refine blk_drewN ?_ _ | refine blk_drew ?_ | refine blk_alloc ?_ _)); exact BK197.out⟩
       have n9_ : Aside0 (((w37.setCell ⟨gb218, 0, none⟩ (.slice Ao38 t210.length co38)).setCell ⟨gb218, 1, none⟩ (.int .i64 t213)).heap[gb218]? = some (.cells #[.slice Ao38 t210.length co38, .int .i64 t213] 24 (0, 0))) := ⟨by (with_reducible repeat (first | refine blk_drewN ?_ _ | refine blk_drew ?_ | refine blk_alloc ?_ _)); refine blk_put (cs := #[.slice Ao38 t210.length co38, .int .i64 0]) ?_ 1 _ rfl; (with_reducible repeat (first | refine blk_drewN ?_ _ | refine blk_drew ?_ | refine blk_alloc ?_ _)); refine blk_put (cs := #[.slice none 0 0, .int .i64 0]) ?_ 0 _ rfl; (with_reducible repeat (first | refine blk_drewN ?_ _ | refine blk_drew ?_ | refine blk_alloc ?_ _)); exact BK218.out⟩
       have n10_ : Aside0 (Below w.heap.size w ((w37.setCell ⟨gb218, 0, none⟩ (.slice Ao38 t210.length co38)).setCell ⟨gb218, 1, none⟩ (.int .i64 t213))) := ⟨by repeat (first | (with_reducible first | exact HB.out | apply below_alloc | apply pw_below_drewN | apply below_drew1 | refine below_set ?_ GE193.out | refine below_set ?_ GE197.out | refine below_set ?_ GE218.out) | exact HB.out)⟩
       (try clear HO187)
       (try clear HO191)
       (try clear HO196)
       (try clear HO206)
       (try clear HO209)
       (try clear HO212)
       (try clear HO216)
       (try clear BK193)
       (try clear BK197)
       (try clear BK218)
       (try clear HB)
       generalize ((w37.setCell ⟨gb218, 0, none⟩ (.slice Ao38 t210.length co38)).setCell ⟨gb218, 1, none⟩ (.int .i64 t213)) = w42 at n0_ n1_ n2_ n3_ n4_ n5_ n6_ n7_ n8_ n9_ n10_ ⊢
       have HO187 := n0_
       have HO191 := n1_
       have HO196 := n2_
       have HO206 := n3_
       have HO209 := n4_
       have HO212 := n5_
       have HO216 := n6_
       have BK193 := n7_
       have BK197 := n8_
       have BK218 := n9_
       have HB := n10_
       clear n0_ n1_ n2_ n3_ n4_ n5_ n6_ n7_ n8_ n9_ n10_
       have n0_ := am (Kd.R_drew HO187.out)
       have n1_ := am (Kd.N_drew HO191.out)
       have n2_ := am (Kd.R_drew HO196.out)
       have n3_ := am (Kd.N_drew HO206.out)
       have n4_ := am (Kd.R_drew HO209.out)
       have n5_ := am (Kd.R_drew HO212.out)
       have n6_ := am (Kd.N_drew HO216.out)
       have n7_ := am (blk_drew BK193.out)
       have n8_ := am (blk_drew BK197.out)
       have n9_ := am (blk_drew BK218.out)
       have n10_ := am (below_drew1 HB.out)
       clear HO187
       clear HO191
       clear HO196
       clear HO206
       clear HO209
       clear HO212
       clear HO216
       clear BK193
       clear BK197
       clear BK218
       clear HB
       have HO187 := n0_
       have HO191 := n1_
       have HO196 := n2_
       have HO206 := n3_
       have HO209 := n4_
       have HO212 := n5_
       have HO216 := n6_
       have BK193 := n7_
       have BK197 := n8_
       have BK218 := n9_
       have HB := n10_
       clear n0_ n1_ n2_ n3_ n4_ n5_ n6_ n7_ n8_ n9_ n10_
       obtain ⟨Ao44, co44, eo44⟩ := Kd.N_slice HO216.out
       (first | subst eo44 | (injection eo44 with f1_ f2_ f3_; have f4_ := f1_.symm; have f5_ := f3_.symm; clear f1_ f2_ f3_; subst f4_; subst f5_))
       have p221 : 0 ≤ (0 : Int) := (by omega)
       have q221 : 0 < (y204.length : Int) := of_decide_eq_true (by first | (with_reducible assumption) | assumption)
       obtain ⟨ad221, A221_0, c221_0, A221_1, c221_1, e221, hx221_0, hx221_1, hl221_0, hi221_0, hl221_1, hi221_1⟩ := at_T33 (Kd.N_reads' HO206.out).2.2 0 p221 q221
       cases e221
       obtain ⟨ce221, hce221, hMe221, hcc221⟩ := Kd.N_get HO206.out z33 0 p221 (by first | exact q221 | exact of_decide_eq_true (by first | (with_reducible assumption) | assumption) | (have e_ := (Kd.N_reads' HO206.out).1; omega))
       obtain ⟨ua221_0, uc221_0, ua221_1, uc221_1, rfl, ul221_0, ge221_0, ul221_1, ge221_1⟩ := k33_openF hMe221
       have hv221_0 := hcc221 0 _ rfl
       rw [Nat.add_zero] at hv221_0
       replace hv221_0 := Option.some.inj (hv221_0.symm.trans hx221_0)
       injection hv221_0 with hva_ hvn_ hvc_
       rw [hva_] at ge221_0
       rw [hvc_] at ul221_0
       have HL221_0 := am (show Kd.V (Kd.int .i64) 3 _ w.heap.size _ _ ((rd_T33 y204 0).f0) from Kd.V_mk ul221_0 ge221_0)
       clear hva_ hvn_ hvc_ ge221_0 ul221_0
       have hv221_1 := hcc221 1 _ rfl
       rw [add_field _ _ 1 (by omega)] at hv221_1
       replace hv221_1 := Option.some.inj (hv221_1.symm.trans hx221_1)
       injection hv221_1 with hva_ hvn_ hvc_
       rw [hva_] at ge221_1
       rw [hvc_] at ul221_1
       have HL221_1 := am (show Kd.V (Kd.int .i64) 3 _ w.heap.size _ _ ((rd_T33 y204 0).f1) from Kd.V_mk ul221_1 ge221_1)
       clear hva_ hvn_ hvc_ ge221_1 ul221_1
       clear hcc221 hce221
       have qi221 : (0 < y204.length) = True := eq_true (by omega)
       (try rw [show ((0 : Int)).toNat = 0 from rfl] at hx221_0)
       (try rw [show 0 * 2 = 0 from rfl] at hx221_0)
       (try rw [Addr.add_zero'] at hx221_0)
       (try rw [show ((0 : Int)).toNat = 0 from rfl] at hx221_1)
       (try rw [show 0 * 2 = 0 from rfl] at hx221_1)
       (try rw [Addr.add_zero'] at hx221_1)
       have HR221_0 := am hi221_0
       have HC221_0 := am hl221_0
       clear hi221_0 hl221_0
       have HR221_1 := am hi221_1
       have HC221_1 := am hl221_1
       clear hi221_1 hl221_1
       replace p221 := eq_true p221
       replace q221 := eq_true q221
       refine start_ (n := 30) (S := fun w' => w'.cell? ⟨gb197, 0, none⟩ = some (.slice Ao20 y194.length co20) ∧ w'.cell? ⟨gb197, 1, none⟩ = some (.int .i64 1) ∧ w'.cell? ⟨gb218, 0, none⟩ = some (.slice Ao38 t210.length co38) ∧ w'.cell? ⟨gb218, 1, none⟩ = some (.int .i64 t213) ∧ w'.cell? ad221 = some (.slice A221_0 ((rd_T33 y204 0).f0).length c221_0) ∧ w'.cell? ⟨ad221.block, ad221.off + 1, none⟩ = some (.slice A221_1 ((rd_T33 y204 0).f1).length c221_1)) (ds := []) (bb 30 0) (by kernel_rfl) rfl rfl ⟨(blk_cell BK197.out 0).trans rfl, (blk_cell BK197.out 1).trans rfl, (blk_cell BK218.out 0).trans rfl, (blk_cell BK218.out 1).trans rfl, hx221_0, hx221_1⟩ (fun hHeld => ?_); refine with_tabW hypercubelaw1_known.tab5 hypercubelaw1_known.bits5 (fun HT_ HW_ => ?_)
       generalize w42.drew = w43 at HO187 HO191 HO196 HO206 HO209 HO212 HO216 BK193 BK197 BK218 HB HL221_0 HL221_1 HR221_0 HR221_1 hx221_0 hx221_1 hHeld ⊢
       refine pure_ (i := 0) (N := some 28) (v := ?_) (a' := ?_) (bb 30 1) rfl rfl (any_of HT_.out (by kernel_rfl)) (fun _ _ _ h => h) (Or.inl ⟨by rfl, ?_⟩) ?_ ?_
       rotate_left
       ·intro w'
        go_simp
        with_reducible rfl
       rotate_left
       ·simp only [Act.put, List.setIfInBounds_toArray, List.set_cons_zero, List.set_cons_succ, i64_w, i32_w]
        rfl
       refine pure_ (i := 1) (N := some 29) (v := ?_) (a' := ?_) (bb 30 3) rfl rfl (any_of HT_.out (by kernel_rfl)) (fun _ _ _ h => h) (Or.inl ⟨by rfl, ?_⟩) ?_ ?_
       rotate_left
       ·intro w'
        go_simp
        with_reducible rfl
       rotate_left
       ·simp only [Act.put, List.setIfInBounds_toArray, List.set_cons_zero, List.set_cons_succ, i64_w, i32_w]
        rfl
       refine pure_ (i := 2) (N := some 30) (v := ?_) (a' := ?_) (bb 30 7) rfl rfl (any_of HT_.out (by kernel_rfl)) (fun _ _ _ h => h) (Or.inl ⟨by rfl, ?_⟩) ?_ ?_
       rotate_left
       ·intro w'
        go_simp
        with_reducible rfl
       rotate_left
       ·simp only [Act.put, List.setIfInBounds_toArray, List.set_cons_zero, List.set_cons_succ, i64_w, i32_w]
        rfl
       refine pure_ (i := 3) (N := some 31) (v := ?_) (a' := ?_) (bb 30 15) rfl rfl (any_of HT_.out (by kernel_rfl)) (fun _ _ _ h => h) (Or.inl ⟨by rfl, ?_⟩) ?_ ?_
       rotate_left
       ·intro w'
        go_simp
        with_reducible rfl
       rotate_left
       ·simp only [Act.put, List.setIfInBounds_toArray, List.set_cons_zero, List.set_cons_succ, i64_w, i32_w]
        rfl
       refine pure_ (i := 4) (N := some 32) (v := ?_) (a' := ?_) (bb 30 31) rfl rfl (any_of HT_.out (by kernel_rfl)) (fun _ _ _ h => h) (Or.inl ⟨by rfl, ?_⟩) ?_ ?_
       rotate_left
       ·intro w'
        go_simp
        with_reducible rfl
       rotate_left
       ·simp only [Act.put, List.setIfInBounds_toArray, List.set_cons_zero, List.set_cons_succ, i64_w, i32_w]
        rfl
       refine pure_ (i := 5) (N := some 33) (v := ?_) (a' := ?_) (bb 30 63) rfl rfl (any_of HT_.out (by kernel_rfl)) (fun _ _ _ h => h) (Or.inl ⟨by rfl, ?_⟩) ?_ ?_
       rotate_left
       ·intro w'
        go_simp
        with_reducible rfl
       rotate_left
       ·simp only [Act.put, List.setIfInBounds_toArray, List.set_cons_zero, List.set_cons_succ, i64_w, i32_w]
        rfl
       refine pure_ (i := 6) (N := some 34) (v := ?_) (a' := ?_) (bb 30 127) rfl rfl (any_of HT_.out (by kernel_rfl)) (fun _ _ _ h => h) (Or.inl ⟨by rfl, ?_⟩) ?_ ?_
       rotate_left
       ·intro w'
        go_simp
        with_reducible rfl
       rotate_left
       ·simp only [Act.put, List.setIfInBounds_toArray, List.set_cons_zero, List.set_cons_succ, i64_w, i32_w]
        rfl
       refine pure_ (i := 8) (N := some 36) (v := ?_) (a' := ?_) (bb 30 383) rfl rfl (any_of HT_.out (by kernel_rfl)) (fun _ _ _ h => h) (Or.inl ⟨by rfl, ?_⟩) ?_ ?_
       rotate_left
       ·intro w'
        go_simp
        with_reducible rfl
       rotate_left
       ·simp only [Act.put, List.setIfInBounds_toArray, List.set_cons_zero, List.set_cons_succ, i64_w, i32_w]
        rfl
       refine pure_ (i := 10) (N := some 38) (v := ?_) (a' := ?_) (bb 30 1407) rfl rfl (any_of HT_.out (by kernel_rfl)) (fun _ _ _ h => h) (Or.inl ⟨by rfl, ?_⟩) ?_ ?_
       rotate_left
       ·intro w'
        go_simp
        with_reducible rfl
       rotate_left
       ·simp only [Act.put, List.setIfInBounds_toArray, List.set_cons_zero, List.set_cons_succ, i64_w, i32_w]
        rfl
       refine take_ (i := 7) (N := some 35) (v := ?_) (a' := ?_) (bb 30 1535) rfl rfl (take_ofW HT_.out HW_.out (by kernel_rfl)) (fun _ _ _ h => h) (Or.inl ⟨by rfl, ?_⟩) hHeld ?_ ?_
       rotate_left
       ·rintro w' ⟨s0, s1, s2, s3, s4, s5⟩
        go_simp
        with_reducible rfl
       rotate_left
       ·simp only [Act.put, List.setIfInBounds_toArray, List.set_cons_zero, List.set_cons_succ, i64_w, i32_w]
        rfl
       refine take_ (i := 9) (N := some 37) (v := ?_) (a' := ?_) (bb 30 2047) rfl rfl (take_ofW HT_.out HW_.out (by kernel_rfl)) (fun _ _ _ h => h) (Or.inl ⟨by rfl, ?_⟩) hHeld ?_ ?_
       rotate_left
       ·rintro w' ⟨s0, s1, s2, s3, s4, s5⟩
        go_simp
        with_reducible rfl
       rotate_left
       ·simp only [Act.put, List.setIfInBounds_toArray, List.set_cons_zero, List.set_cons_succ, i64_w, i32_w]
        rfl
       refine one_ (i := 11) (N := some 39) (bb 30 4095) rfl rfl (one_of HT_.out (by kernel_rfl)) (by decide) (fun K hK => ?_)
       refine goes_ Try.func25 (by kernel_rfl) rfl #[.agg #[.slice Ao20 y194.length co20, .int .i64 1], .slice (some ad221) y204.length co33, .agg #[.slice Ao38 t210.length co38, .int .i64 t213], .slice Ao44 t214.length co44] (by rfl) rfl rfl (by (try simp only [List.map_toArray, List.map_cons, List.map_nil]); first | done | rfl | (simp only [List.length_drop, List.length_take]; rfl)) ?_
       with_reducible refine (hypercuberef1_Same.calls k _ _ y194 1 _ _ y204 _ _ t210 t213 _ _ t214 true _ ?side1 ?side2 ?side3 ?side4 ?side5 ?side6 ?side7 ?side8 A6.out).mono ?_
       (case side1 => repeat (first | exact (Kd.R_reads' HO196.out).2.2 | (with_reducible refine Kd.C_alloc ?_ _) | (with_reducible refine Kd.C_drewN ?_ _) | (with_reducible refine Kd.C_drew ?_)))
       (case side2 => exact (Kd.R_reads' HO196.out).2.1)
       (case side3 => repeat (first | exact (Kd.N_reads' HO206.out).2.2 | (with_reducible refine Kd.C_alloc ?_ _) | (with_reducible refine Kd.C_drewN ?_ _) | (with_reducible refine Kd.C_drew ?_)))
       (case side4 => exact (Kd.N_reads' HO206.out).2.1)
       (case side5 => repeat (first | exact (Kd.R_reads' HO212.out).2.2 | (with_reducible refine Kd.C_alloc ?_ _) | (with_reducible refine Kd.C_drewN ?_ _) | (with_reducible refine Kd.C_drew ?_)))
       (case side6 => exact (Kd.R_reads' HO212.out).2.1)
       (case side7 => repeat (first | exact (Kd.N_reads' HO216.out).2.2 | (with_reducible refine Kd.C_alloc ?_ _) | (with_reducible refine Kd.C_drewN ?_ _) | (with_reducible refine Kd.C_drew ?_)))
       (case side8 => exact (Kd.N_reads' HO216.out).2.1)
       rintro e w45 ⟨rfl, hb⟩
       have mv0_ := am (Kd.V_below (by (with_reducible repeat (first | apply Kd.V_alloc | apply Kd.V_drewN | apply Kd.V_drew)); exact HL221_0.out) hb)
       have mv1_ := am (Kd.V_below (by (with_reducible repeat (first | apply Kd.V_alloc | apply Kd.V_drewN | apply Kd.V_drew)); exact HL221_1.out) hb)
       have mv2_ := am (Kd.C_below (by repeat (first | (with_reducible exact HR221_0.out) | (with_reducible refine Kd.C_alloc ?_ _) | (with_reducible refine Kd.C_drewN ?_ _) | (with_reducible refine Kd.C_drew ?_) | exact HR221_0.out)) hb)
       have mv3_ := am (Kd.C_below (by repeat (first | (with_reducible exact HR221_1.out) | (with_reducible refine Kd.C_alloc ?_ _) | (with_reducible refine Kd.C_drewN ?_ _) | (with_reducible refine Kd.C_drew ?_) | exact HR221_1.out)) hb)
       clear HL221_0 HL221_1 HR221_0 HR221_1
       have HL221_0 := mv0_
       have HL221_1 := mv1_
       have HR221_0 := mv2_
       have HR221_1 := mv3_
       clear mv0_ mv1_ mv2_ mv3_
       have HS4_ := (hb.cell (World.block_lt_of_cell? _ _ (hHeld.2.2.2.2.1))).trans (hHeld.2.2.2.2.1)
       have HS5_ := (hb.cell (World.block_lt_of_cell? _ _ (hHeld.2.2.2.2.2))).trans (hHeld.2.2.2.2.2)
       refine ⟨_, rfl, ?_⟩
       have n0_ := am (Kd.R_below (by (with_reducible repeat (first | apply Kd.R_alloc | apply Kd.R_drewN | apply Kd.R_drew)); exact HO187.out) hb)
       have n1_ := am (Kd.N_below (by (with_reducible repeat (first | apply Kd.N_alloc | apply Kd.N_drewN | apply Kd.N_drew)); exact HO191.out) hb)
       have n2_ := am (Kd.R_below (by (with_reducible repeat (first | apply Kd.R_alloc | apply Kd.R_drewN | apply Kd.R_drew)); exact HO196.out) hb)
       have n3_ := am (Kd.N_below (by (with_reducible repeat (first | apply Kd.N_alloc | apply Kd.N_drewN | apply Kd.N_drew)); exact HO206.out) hb)
       have n4_ := am (Kd.R_below (by (with_reducible repeat (first | apply Kd.R_alloc | apply Kd.R_drewN | apply Kd.R_drew)); exact HO209.out) hb)
       have n5_ := am (Kd.R_below (by (with_reducible repeat (first | apply Kd.R_alloc | apply Kd.R_drewN | apply Kd.R_drew)); exact HO212.out) hb)
       have n6_ := am (Kd.N_below (by (with_reducible repeat (first | apply Kd.N_alloc | apply Kd.N_drewN | apply Kd.N_drew)); exact HO216.out) hb)
       have n7_ := am (blk_below (g := gb193) (o := .cells #[.slice Ao16 t185.length co16, .int .i64 t188] 24 (0, 0)) (by (with_reducible repeat (first | refine blk_drewN ?_ _ | refine blk_drew ?_ | refine blk_alloc ?_ _)); exact BK193.out) hb)
       have n8_ := am (blk_below (g := gb197) (o := .cells #[.slice Ao20 y194.length co20, .int .i64 1] 24 (0, 0)) (by (with_reducible repeat (first | refine blk_drewN ?_ _ | refine blk_drew ?_ | refine blk_alloc ?_ _)); exact BK197.out) hb)
       have n9_ := am (blk_below (g := gb218) (o := .cells #[.slice Ao38 t210.length co38, .int .i64 t213] 24 (0, 0)) (by (with_reducible repeat (first | refine blk_drewN ?_ _ | refine blk_drew ?_ | refine blk_alloc ?_ _)); exact BK218.out) hb)
       have n10_ := am (below_step (by repeat (first | (with_reducible first | exact HB.out | apply below_alloc | apply pw_below_drewN | apply below_drew1 | refine below_set ?_ GE193.out | refine below_set ?_ GE197.out | refine below_set ?_ GE218.out) | exact HB.out)) hb)
       clear HO187
       clear HO191
       clear HO196
       clear HO206
       clear HO209
       clear HO212
       clear HO216
       clear BK193
       clear BK197
       clear BK218
       clear HB
       have HO187 := n0_
       have HO191 := n1_
       have HO196 := n2_
       have HO206 := n3_
       have HO209 := n4_
       have HO212 := n5_
       have HO216 := n6_
       have BK193 := n7_
       have BK197 := n8_
       have BK218 := n9_
       have HB := n10_
       clear n0_ n1_ n2_ n3_ n4_ n5_ n6_ n7_ n8_ n9_ n10_
       (try clear hb)
       (try clear hb2)
       (try clear hk)
       (try clear hi)
       refine hK.out _ _ ⟨(blk_cell BK197.out 0).trans rfl, (blk_cell BK197.out 1).trans rfl, (blk_cell BK218.out 0).trans rfl, (blk_cell BK218.out 1).trans rfl, HS4_, HS5_⟩ (fun hHeld => ?_)
       clear hK K
       refine norm_ (a' := ?_) ?_ ?_
       rotate_left
       ·show Act.put _ (some 39) _ = _
        simp only [Act.put, List.setIfInBounds_toArray, List.set_cons_zero, List.set_cons_succ, i64_w, i32_w]
        rfl
       refine pure_ (i := 12) (N := some 40) (v := ?_) (a' := ?_) (bb 30 8191) rfl rfl (any_of HT_.out (by kernel_rfl)) (fun _ _ _ h => h) (Or.inl ⟨by rfl, ?_⟩) ?_ ?_
       rotate_left
       ·intro w'
        go_simp
        with_reducible rfl
       rotate_left
       ·simp only [Act.put, List.setIfInBounds_toArray, List.set_cons_zero, List.set_cons_succ, i64_w, i32_w]
        rfl
       refine pure_ (i := 13) (N := some 41) (v := ?_) (a' := ?_) (bb 30 16383) rfl rfl (any_of HT_.out (by kernel_rfl)) (fun _ _ _ h => h) (Or.inl ⟨by rfl, ?_⟩) ?_ ?_
       rotate_left
       ·intro w'
        go_simp
        with_reducible rfl
       rotate_left
       ·simp only [Act.put, List.setIfInBounds_toArray, List.set_cons_zero, List.set_cons_succ, i64_w, i32_w]
        rfl
       refine take_ (i := 14) (N := some 42) (v := ?_) (a' := ?_) (bb 30 32767) rfl rfl (take_ofW HT_.out HW_.out (by kernel_rfl)) (fun _ _ _ h => h) (Or.inl ⟨by rfl, ?_⟩) hHeld ?_ ?_
       rotate_left
       ·rintro w' ⟨s0, s1, s2, s3, s4, s5⟩
        go_simp
        with_reducible rfl
       rotate_left
       ·simp only [Act.put, List.setIfInBounds_toArray, List.set_cons_zero, List.set_cons_succ, i64_w, i32_w]
        rfl
       refine one_ (i := 15) (N := some 43) (bb 30 65535) rfl rfl (one_of HT_.out (by kernel_rfl)) (by decide) (fun K hK => ?_)
       refine goes_ Try.func17 (by kernel_rfl) rfl #[.agg #[.slice Ao20 y194.length co20, .int .i64 1]] (by rfl) rfl rfl (by (try simp only [List.map_toArray, List.map_cons, List.map_nil]); first | done | rfl | (simp only [List.length_drop, List.length_take]; rfl)) ?_
       with_reducible refine (rec_Check.calls _ _ y194 1 true _ ?side1 ?side2 A8.out).mono ?_
       (case side1 => repeat (first | exact (Kd.R_reads' HO196.out).2.2 | (with_reducible refine Kd.C_alloc ?_ _) | (with_reducible refine Kd.C_drewN ?_ _) | (with_reducible refine Kd.C_drew ?_)))
       (case side2 => exact (Kd.R_reads' HO196.out).2.1)
       rintro e w46 ⟨rfl, hb⟩
       have mv0_ := am (Kd.V_below (by (with_reducible repeat (first | apply Kd.V_alloc | apply Kd.V_drewN | apply Kd.V_drew)); exact HL221_0.out) hb)
       have mv1_ := am (Kd.V_below (by (with_reducible repeat (first | apply Kd.V_alloc | apply Kd.V_drewN | apply Kd.V_drew)); exact HL221_1.out) hb)
       have mv2_ := am (Kd.C_below (by repeat (first | (with_reducible exact HR221_0.out) | (with_reducible refine Kd.C_alloc ?_ _) | (with_reducible refine Kd.C_drewN ?_ _) | (with_reducible refine Kd.C_drew ?_) | exact HR221_0.out)) hb)
       have mv3_ := am (Kd.C_below (by repeat (first | (with_reducible exact HR221_1.out) | (with_reducible refine Kd.C_alloc ?_ _) | (with_reducible refine Kd.C_drewN ?_ _) | (with_reducible refine Kd.C_drew ?_) | exact HR221_1.out)) hb)
       clear HL221_0 HL221_1 HR221_0 HR221_1
       have HL221_0 := mv0_
       have HL221_1 := mv1_
       have HR221_0 := mv2_
       have HR221_1 := mv3_
       clear mv0_ mv1_ mv2_ mv3_
       have HS4_ := (hb.cell (World.block_lt_of_cell? _ _ (hHeld.2.2.2.2.1))).trans (hHeld.2.2.2.2.1)
       have HS5_ := (hb.cell (World.block_lt_of_cell? _ _ (hHeld.2.2.2.2.2))).trans (hHeld.2.2.2.2.2)
       refine ⟨_, rfl, ?_⟩
       have n0_ := am (Kd.R_below (by (with_reducible repeat (first | apply Kd.R_alloc | apply Kd.R_drewN | apply Kd.R_drew)); exact HO187.out) hb)
       have n1_ := am (Kd.N_below (by (with_reducible repeat (first | apply Kd.N_alloc | apply Kd.N_drewN | apply Kd.N_drew)); exact HO191.out) hb)
       have n2_ := am (Kd.R_below (by (with_reducible repeat (first | apply Kd.R_alloc | apply Kd.R_drewN | apply Kd.R_drew)); exact HO196.out) hb)
       have n3_ := am (Kd.N_below (by (with_reducible repeat (first | apply Kd.N_alloc | apply Kd.N_drewN | apply Kd.N_drew)); exact HO206.out) hb)
       have n4_ := am (Kd.R_below (by (with_reducible repeat (first | apply Kd.R_alloc | apply Kd.R_drewN | apply Kd.R_drew)); exact HO209.out) hb)
       have n5_ := am (Kd.R_below (by (with_reducible repeat (first | apply Kd.R_alloc | apply Kd.R_drewN | apply Kd.R_drew)); exact HO212.out) hb)
       have n6_ := am (Kd.N_below (by (with_reducible repeat (first | apply Kd.N_alloc | apply Kd.N_drewN | apply Kd.N_drew)); exact HO216.out) hb)
       have n7_ := am (blk_below (g := gb193) (o := .cells #[.slice Ao16 t185.length co16, .int .i64 t188] 24 (0, 0)) (by (with_reducible repeat (first | refine blk_drewN ?_ _ | refine blk_drew ?_ | refine blk_alloc ?_ _)); exact BK193.out) hb)
       have n8_ := am (blk_below (g := gb197) (o := .cells #[.slice Ao20 y194.length co20, .int .i64 1] 24 (0, 0)) (by (with_reducible repeat (first | refine blk_drewN ?_ _ | refine blk_drew ?_ | refine blk_alloc ?_ _)); exact BK197.out) hb)
       have n9_ := am (blk_below (g := gb218) (o := .cells #[.slice Ao38 t210.length co38, .int .i64 t213] 24 (0, 0)) (by (with_reducible repeat (first | refine blk_drewN ?_ _ | refine blk_drew ?_ | refine blk_alloc ?_ _)); exact BK218.out) hb)
       have n10_ := am (below_step (by repeat (first | (with_reducible first | exact HB.out | apply below_alloc | apply pw_below_drewN | apply below_drew1 | refine below_set ?_ GE193.out | refine below_set ?_ GE197.out | refine below_set ?_ GE218.out) | exact HB.out)) hb)
       clear HO187
       clear HO191
       clear HO196
       clear HO206
       clear HO209
       clear HO212
       clear HO216
       clear BK193
       clear BK197
       clear BK218
       clear HB
       have HO187 := n0_
       have HO191 := n1_
       have HO196 := n2_
       have HO206 := n3_
       have HO209 := n4_
       have HO212 := n5_
       have HO216 := n6_
       have BK193 := n7_
       have BK197 := n8_
       have BK218 := n9_
       have HB := n10_
       clear n0_ n1_ n2_ n3_ n4_ n5_ n6_ n7_ n8_ n9_ n10_
       (try clear hb)
       (try clear hb2)
       (try clear hk)
       (try clear hi)
       refine hK.out _ _ ⟨(blk_cell BK197.out 0).trans rfl, (blk_cell BK197.out 1).trans rfl, (blk_cell BK218.out 0).trans rfl, (blk_cell BK218.out 1).trans rfl, HS4_, HS5_⟩ (fun hHeld => ?_)
       clear hK K
       refine norm_ (a' := ?_) ?_ ?_
       rotate_left
       ·show Act.put _ (some 43) _ = _
        simp only [Act.put, List.setIfInBounds_toArray, List.set_cons_zero, List.set_cons_succ, i64_w, i32_w]
        rfl
       refine pure_ (i := 16) (N := some 44) (v := ?_) (a' := ?_) (bb 30 131071) rfl rfl (any_of HT_.out (by kernel_rfl)) (fun _ _ _ h => h) (Or.inl ⟨by rfl, ?_⟩) ?_ ?_
       rotate_left
       ·intro w'
        go_simp
        with_reducible rfl
       rotate_left
       ·simp only [Act.put, List.setIfInBounds_toArray, List.set_cons_zero, List.set_cons_succ, i64_w, i32_w]
        rfl
       refine pure_ (i := 17) (N := some 45) (v := ?_) (a' := ?_) (bb 30 262143) rfl rfl (any_of HT_.out (by kernel_rfl)) (fun _ _ _ h => h) (Or.inl ⟨by rfl, ?_⟩) ?_ ?_
       rotate_left
       ·intro w'
        go_simp
        with_reducible rfl
       rotate_left
       ·simp only [Act.put, List.setIfInBounds_toArray, List.set_cons_zero, List.set_cons_succ, i64_w, i32_w]
        rfl
       refine pure_ (i := 19) (N := some 47) (v := ?_) (a' := ?_) (bb 30 786431) rfl rfl (any_of HT_.out (by kernel_rfl)) (fun _ _ _ h => h) (Or.inl ⟨by rfl, ?_⟩) ?_ ?_
       rotate_left
       ·intro w'
        go_simp
        with_reducible rfl
       rotate_left
       ·simp only [Act.put, List.setIfInBounds_toArray, List.set_cons_zero, List.set_cons_succ, i64_w, i32_w]
        rfl
       refine pure_ (i := 20) (N := some 48) (v := ?_) (a' := ?_) (bb 30 1835007) rfl rfl (any_of HT_.out (by kernel_rfl)) (fun _ _ _ h => h) (Or.inl ⟨by rfl, ?_⟩) ?_ ?_
       rotate_left
       ·intro w'
        go_simp
        with_reducible rfl
       rotate_left
       ·simp only [Act.put, List.setIfInBounds_toArray, List.set_cons_zero, List.set_cons_succ, i64_w, i32_w]
        rfl
       refine take_ (i := 18) (N := some 46) (v := ?_) (a' := ?_) (bb 30 2097151) rfl rfl (take_ofW HT_.out HW_.out (by kernel_rfl)) (fun _ _ _ h => h) (Or.inl ⟨by rfl, ?_⟩) hHeld ?_ ?_
       rotate_left
       ·rintro w' ⟨s0, s1, s2, s3, s4, s5⟩
        go_simp
        with_reducible rfl
       rotate_left
       ·simp only [Act.put, List.setIfInBounds_toArray, List.set_cons_zero, List.set_cons_succ, i64_w, i32_w]
        rfl
       refine take_ (i := 21) (N := some 49) (v := ?_) (a' := ?_) (bb 30 4194303) rfl rfl (take_ofW HT_.out HW_.out (by kernel_rfl)) (fun _ _ _ h => h) (Or.inl ⟨by rfl, ?_⟩) hHeld ?_ ?_
       rotate_left
       ·rintro w' ⟨s0, s1, s2, s3, s4, s5⟩
        go_simp
        with_reducible rfl
       rotate_left
       ·simp only [Act.put, List.setIfInBounds_toArray, List.set_cons_zero, List.set_cons_succ, i64_w, i32_w]
        rfl
       refine one_ (i := 22) (N := some 50) (bb 30 8388607) rfl rfl (one_of HT_.out (by kernel_rfl)) (by decide) (fun K hK => ?_)
       refine goes_ Try.func19 (by kernel_rfl) rfl #[.agg #[.slice Ao20 y194.length co20, .int .i64 1], .agg #[.slice A221_0 ((rd_T33 y204 0).f0).length c221_0, .slice A221_1 ((rd_T33 y204 0).f1).length c221_1]] (by rfl) rfl rfl (by (try simp only [List.map_toArray, List.map_cons, List.map_nil]); first | done | rfl | (simp only [List.length_drop, List.length_take]; rfl)) ?_
       with_reducible refine (rec_Right.calls k _ _ y194 1 _ _ ((rd_T33 y204 0).f0) _ _ ((rd_T33 y204 0).f1) true _ ?side1 ?side2 ?side3 ?side4 ?side5 ?side6 A11.out).mono ?_
       (case side1 => repeat (first | exact (Kd.R_reads' HO196.out).2.2 | (with_reducible refine Kd.C_alloc ?_ _) | (with_reducible refine Kd.C_drewN ?_ _) | (with_reducible refine Kd.C_drew ?_)))
       (case side2 => exact (Kd.R_reads' HO196.out).2.1)
       (case side3 => repeat (first | exact (by repeat (first | (with_reducible exact HR221_0.out) | (with_reducible refine Kd.C_alloc ?_ _) | (with_reducible refine Kd.C_drewN ?_ _) | (with_reducible refine Kd.C_drew ?_) | exact HR221_0.out)) | (with_reducible refine Kd.C_alloc ?_ _) | (with_reducible refine Kd.C_drewN ?_ _) | (with_reducible refine Kd.C_drew ?_)))
       (case side4 => exact HC221_0.out)
       (case side5 => repeat (first | exact (by repeat (first | (with_reducible exact HR221_1.out) | (with_reducible refine Kd.C_alloc ?_ _) | (with_reducible refine Kd.C_drewN ?_ _) | (with_reducible refine Kd.C_drew ?_) | exact HR221_1.out)) | (with_reducible refine Kd.C_alloc ?_ _) | (with_reducible refine Kd.C_drewN ?_ _) | (with_reducible refine Kd.C_drew ?_)))
       (case side6 => exact HC221_1.out)
       rintro e w47 ⟨rfl, hb⟩
       have HS4_ := (hb.cell (World.block_lt_of_cell? _ _ (hHeld.2.2.2.2.1))).trans (hHeld.2.2.2.2.1)
       have HS5_ := (hb.cell (World.block_lt_of_cell? _ _ (hHeld.2.2.2.2.2))).trans (hHeld.2.2.2.2.2)
       refine ⟨_, rfl, ?_⟩
       have n0_ := am (Kd.R_below (by (with_reducible repeat (first | apply Kd.R_alloc | apply Kd.R_drewN | apply Kd.R_drew)); exact HO187.out) hb)
       have n1_ := am (Kd.N_below (by (with_reducible repeat (first | apply Kd.N_alloc | apply Kd.N_drewN | apply Kd.N_drew)); exact HO191.out) hb)
       have n2_ := am (Kd.R_below (by (with_reducible repeat (first | apply Kd.R_alloc | apply Kd.R_drewN | apply Kd.R_drew)); exact HO196.out) hb)
       have n3_ := am (Kd.N_below (by (with_reducible repeat (first | apply Kd.N_alloc | apply Kd.N_drewN | apply Kd.N_drew)); exact HO206.out) hb)
       have n4_ := am (Kd.R_below (by (with_reducible repeat (first | apply Kd.R_alloc | apply Kd.R_drewN | apply Kd.R_drew)); exact HO209.out) hb)
       have n5_ := am (Kd.R_below (by (with_reducible repeat (first | apply Kd.R_alloc | apply Kd.R_drewN | apply Kd.R_drew)); exact HO212.out) hb)
       have n6_ := am (Kd.N_below (by (with_reducible repeat (first | apply Kd.N_alloc | apply Kd.N_drewN | apply Kd.N_drew)); exact HO216.out) hb)
       have n7_ := am (Kd.V_below (by (with_reducible repeat (first | apply Kd.V_alloc | apply Kd.V_drewN | apply Kd.V_drew)); exact HL221_0.out) hb)
       have n8_ := am (Kd.V_below (by (with_reducible repeat (first | apply Kd.V_alloc | apply Kd.V_drewN | apply Kd.V_drew)); exact HL221_1.out) hb)
       have n9_ := am (blk_below (g := gb193) (o := .cells #[.slice Ao16 t185.length co16, .int .i64 t188] 24 (0, 0)) (by (with_reducible repeat (first | refine blk_drewN ?_ _ | refine blk_drew ?_ | refine blk_alloc ?_ _)); exact BK193.out) hb)
       have n10_ := am (blk_below (g := gb197) (o := .cells #[.slice Ao20 y194.length co20, .int .i64 1] 24 (0, 0)) (by (with_reducible repeat (first | refine blk_drewN ?_ _ | refine blk_drew ?_ | refine blk_alloc ?_ _)); exact BK197.out) hb)
       have n11_ := am (blk_below (g := gb218) (o := .cells #[.slice Ao38 t210.length co38, .int .i64 t213] 24 (0, 0)) (by (with_reducible repeat (first | refine blk_drewN ?_ _ | refine blk_drew ?_ | refine blk_alloc ?_ _)); exact BK218.out) hb)
       have n12_ := am (Kd.C_below (by repeat (first | (with_reducible exact HR221_0.out) | (with_reducible refine Kd.C_alloc ?_ _) | (with_reducible refine Kd.C_drewN ?_ _) | (with_reducible refine Kd.C_drew ?_) | exact HR221_0.out)) hb)
       have n13_ := am (Kd.C_below (by repeat (first | (with_reducible exact HR221_1.out) | (with_reducible refine Kd.C_alloc ?_ _) | (with_reducible refine Kd.C_drewN ?_ _) | (with_reducible refine Kd.C_drew ?_) | exact HR221_1.out)) hb)
       have n14_ := am (below_step (by repeat (first | (with_reducible first | exact HB.out | apply below_alloc | apply pw_below_drewN | apply below_drew1 | refine below_set ?_ GE193.out | refine below_set ?_ GE197.out | refine below_set ?_ GE218.out) | exact HB.out)) hb)
       clear HO187
       clear HO191
       clear HO196
       clear HO206
       clear HO209
       clear HO212
       clear HO216
       clear HL221_0
       clear HL221_1
       clear BK193
       clear BK197
       clear BK218
       clear HR221_0
       clear HR221_1
       clear HB
       have HO187 := n0_
       have HO191 := n1_
       have HO196 := n2_
       have HO206 := n3_
       have HO209 := n4_
       have HO212 := n5_
       have HO216 := n6_
       have HL221_0 := n7_
       have HL221_1 := n8_
       have BK193 := n9_
       have BK197 := n10_
       have BK218 := n11_
       have HR221_0 := n12_
       have HR221_1 := n13_
       have HB := n14_
       clear n0_ n1_ n2_ n3_ n4_ n5_ n6_ n7_ n8_ n9_ n10_ n11_ n12_ n13_ n14_
       (try clear hb)
       (try clear hb2)
       (try clear hk)
       (try clear hi)
       refine hK.out _ _ ⟨(blk_cell BK197.out 0).trans rfl, (blk_cell BK197.out 1).trans rfl, (blk_cell BK218.out 0).trans rfl, (blk_cell BK218.out 1).trans rfl, HS4_, HS5_⟩ (fun hHeld => ?_)
       clear hK K
       refine norm_ (a' := ?_) ?_ ?_
       rotate_left
       ·show Act.put _ (some 50) _ = _
        simp only [Act.put, List.setIfInBounds_toArray, List.set_cons_zero, List.set_cons_succ, i64_w, i32_w]
        rfl
       refine pure_ (i := 23) (N := some 51) (v := ?_) (a' := ?_) (bb 30 16777215) rfl rfl (any_of HT_.out (by kernel_rfl)) (fun _ _ _ h => h) (Or.inl ⟨by rfl, ?_⟩) ?_ ?_
       rotate_left
       ·intro w'
        go_simp
        with_reducible rfl
       rotate_left
       ·simp only [Act.put, List.setIfInBounds_toArray, List.set_cons_zero, List.set_cons_succ, i64_w, i32_w]
        rfl
       refine pure_ (i := 24) (N := some 52) (v := ?_) (a' := ?_) (bb 30 33554431) rfl rfl (any_of HT_.out (by kernel_rfl)) (fun _ _ _ h => h) (Or.inl ⟨by rfl, ?_⟩) ?_ ?_
       rotate_left
       ·intro w'
        go_simp
        with_reducible rfl
       rotate_left
       ·simp only [Act.put, List.setIfInBounds_toArray, List.set_cons_zero, List.set_cons_succ, i64_w, i32_w]
        rfl
       refine pure_ (i := 26) (N := some 54) (v := ?_) (a' := ?_) (bb 30 100663295) rfl rfl (any_of HT_.out (by kernel_rfl)) (fun _ _ _ h => h) (Or.inl ⟨by rfl, ?_⟩) ?_ ?_
       rotate_left
       ·intro w'
        go_simp
        with_reducible rfl
       rotate_left
       ·simp only [Act.put, List.setIfInBounds_toArray, List.set_cons_zero, List.set_cons_succ, i64_w, i32_w]
        rfl
       refine take_ (i := 25) (N := some 53) (v := ?_) (a' := ?_) (bb 30 134217727) rfl rfl (take_ofW HT_.out HW_.out (by kernel_rfl)) (fun _ _ _ h => h) (Or.inl ⟨by rfl, ?_⟩) hHeld ?_ ?_
       rotate_left
       ·rintro w' ⟨s0, s1, s2, s3, s4, s5⟩
        go_simp
        with_reducible rfl
       rotate_left
       ·simp only [Act.put, List.setIfInBounds_toArray, List.set_cons_zero, List.set_cons_succ, i64_w, i32_w]
        rfl
       refine one_ (i := 27) (N := some 55) (bb 30 268435455) rfl rfl (one_of HT_.out (by kernel_rfl)) (by decide) (fun K hK => ?_)
       refine goes_ Try.func27 (by kernel_rfl) rfl #[.agg #[.slice Ao20 y194.length co20, .int .i64 1], .slice (some ad221) y204.length co33] (by rfl) rfl rfl (by (try simp only [List.map_toArray, List.map_cons, List.map_nil]); first | done | rfl | (simp only [List.length_drop, List.length_take]; rfl)) ?_
       with_reducible refine (rec_Sound.calls k _ _ y194 1 _ _ y204 t223 _ ?side1 ?side2 ?side3 ?side4 A13.out).mono ?_
       (case side1 => repeat (first | exact (Kd.R_reads' HO196.out).2.2 | (with_reducible refine Kd.C_alloc ?_ _) | (with_reducible refine Kd.C_drewN ?_ _) | (with_reducible refine Kd.C_drew ?_)))
       (case side2 => exact (Kd.R_reads' HO196.out).2.1)
       (case side3 => repeat (first | exact (Kd.N_reads' HO206.out).2.2 | (with_reducible refine Kd.C_alloc ?_ _) | (with_reducible refine Kd.C_drewN ?_ _) | (with_reducible refine Kd.C_drew ?_)))
       (case side4 => exact (Kd.N_reads' HO206.out).2.1)
       rintro e w48 ⟨rfl, hb⟩
       have HS4_ := (hb.cell (World.block_lt_of_cell? _ _ (hHeld.2.2.2.2.1))).trans (hHeld.2.2.2.2.1)
       have HS5_ := (hb.cell (World.block_lt_of_cell? _ _ (hHeld.2.2.2.2.2))).trans (hHeld.2.2.2.2.2)
       refine ⟨_, rfl, ?_⟩
       have n0_ := am (Kd.R_below (by (with_reducible repeat (first | apply Kd.R_alloc | apply Kd.R_drewN | apply Kd.R_drew)); exact HO187.out) hb)
       have n1_ := am (Kd.N_below (by (with_reducible repeat (first | apply Kd.N_alloc | apply Kd.N_drewN | apply Kd.N_drew)); exact HO191.out) hb)
       have n2_ := am (Kd.R_below (by (with_reducible repeat (first | apply Kd.R_alloc | apply Kd.R_drewN | apply Kd.R_drew)); exact HO196.out) hb)
       have n3_ := am (Kd.N_below (by (with_reducible repeat (first | apply Kd.N_alloc | apply Kd.N_drewN | apply Kd.N_drew)); exact HO206.out) hb)
       have n4_ := am (Kd.R_below (by (with_reducible repeat (first | apply Kd.R_alloc | apply Kd.R_drewN | apply Kd.R_drew)); exact HO209.out) hb)
       have n5_ := am (Kd.R_below (by (with_reducible repeat (first | apply Kd.R_alloc | apply Kd.R_drewN | apply Kd.R_drew)); exact HO212.out) hb)
       have n6_ := am (Kd.N_below (by (with_reducible repeat (first | apply Kd.N_alloc | apply Kd.N_drewN | apply Kd.N_drew)); exact HO216.out) hb)
       have n7_ := am (Kd.V_below (by (with_reducible repeat (first | apply Kd.V_alloc | apply Kd.V_drewN | apply Kd.V_drew)); exact HL221_0.out) hb)
       have n8_ := am (Kd.V_below (by (with_reducible repeat (first | apply Kd.V_alloc | apply Kd.V_drewN | apply Kd.V_drew)); exact HL221_1.out) hb)
       have n9_ := am (blk_below (g := gb193) (o := .cells #[.slice Ao16 t185.length co16, .int .i64 t188] 24 (0, 0)) (by (with_reducible repeat (first | refine blk_drewN ?_ _ | refine blk_drew ?_ | refine blk_alloc ?_ _)); exact BK193.out) hb)
       have n10_ := am (blk_below (g := gb197) (o := .cells #[.slice Ao20 y194.length co20, .int .i64 1] 24 (0, 0)) (by (with_reducible repeat (first | refine blk_drewN ?_ _ | refine blk_drew ?_ | refine blk_alloc ?_ _)); exact BK197.out) hb)
       have n11_ := am (blk_below (g := gb218) (o := .cells #[.slice Ao38 t210.length co38, .int .i64 t213] 24 (0, 0)) (by (with_reducible repeat (first | refine blk_drewN ?_ _ | refine blk_drew ?_ | refine blk_alloc ?_ _)); exact BK218.out) hb)
       have n12_ := am (Kd.C_below (by repeat (first | (with_reducible exact HR221_0.out) | (with_reducible refine Kd.C_alloc ?_ _) | (with_reducible refine Kd.C_drewN ?_ _) | (with_reducible refine Kd.C_drew ?_) | exact HR221_0.out)) hb)
       have n13_ := am (Kd.C_below (by repeat (first | (with_reducible exact HR221_1.out) | (with_reducible refine Kd.C_alloc ?_ _) | (with_reducible refine Kd.C_drewN ?_ _) | (with_reducible refine Kd.C_drew ?_) | exact HR221_1.out)) hb)
       have n14_ := am (below_step (by repeat (first | (with_reducible first | exact HB.out | apply below_alloc | apply pw_below_drewN | apply below_drew1 | refine below_set ?_ GE193.out | refine below_set ?_ GE197.out | refine below_set ?_ GE218.out) | exact HB.out)) hb)
       clear HO187
       clear HO191
       clear HO196
       clear HO206
       clear HO209
       clear HO212
       clear HO216
       clear HL221_0
       clear HL221_1
       clear BK193
       clear BK197
       clear BK218
       clear HR221_0
       clear HR221_1
       clear HB
       have HO187 := n0_
       have HO191 := n1_
       have HO196 := n2_
       have HO206 := n3_
       have HO209 := n4_
       have HO212 := n5_
       have HO216 := n6_
       have HL221_0 := n7_
       have HL221_1 := n8_
       have BK193 := n9_
       have BK197 := n10_
       have BK218 := n11_
       have HR221_0 := n12_
       have HR221_1 := n13_
       have HB := n14_
       clear n0_ n1_ n2_ n3_ n4_ n5_ n6_ n7_ n8_ n9_ n10_ n11_ n12_ n13_ n14_
       (try clear hb)
       (try clear hb2)
       (try clear hk)
       (try clear hi)
       refine hK.out _ _ ⟨(blk_cell BK197.out 0).trans rfl, (blk_cell BK197.out 1).trans rfl, (blk_cell BK218.out 0).trans rfl, (blk_cell BK218.out 1).trans rfl, HS4_, HS5_⟩ (fun hHeld => ?_)
       clear hK K
       refine norm_ (a' := ?_) ?_ ?_
       rotate_left
       ·show Act.put _ (some 55) _ = _
        simp only [Act.put, List.setIfInBounds_toArray, List.set_cons_zero, List.set_cons_succ, i64_w, i32_w]
        rfl
       refine pure_ (i := 28) (N := some 56) (v := ?_) (a' := ?_) (bb 30 536870911) rfl rfl (any_of HT_.out (by kernel_rfl)) (fun _ _ _ h => h) (Or.inl ⟨by rfl, ?_⟩) ?_ ?_
       rotate_left
       ·intro w'
        go_simp
        with_reducible rfl
       rotate_left
       ·simp only [Act.put, List.setIfInBounds_toArray, List.set_cons_zero, List.set_cons_succ, i64_w, i32_w]
        rfl
       refine pure_ (i := 29) (N := some 0) (v := ?_) (a' := ?_) (bb 30 1073741823) rfl rfl (any_of HT_.out (by kernel_rfl)) (fun _ _ _ h => h) (Or.inl ⟨by rfl, ?_⟩) ?_ ?_
       rotate_left
       ·intro w'
        go_simp
        with_reducible rfl
       rotate_left
       ·simp only [Act.put, List.setIfInBounds_toArray, List.set_cons_zero, List.set_cons_succ, i64_w, i32_w]
        rfl
       refine done_ (done_of HT_.out (by kernel_rfl)) ?_
       try go_wp2
       go_ret
       exact ⟨by first | rfl | (simp [errW_none, errW_some] <;> rfl) | (simp [*, errW_none, errW_some] <;> rfl), by repeat (first | (with_reducible first | exact HB.out | apply below_alloc | apply pw_below_drewN | apply below_drew1 | refine below_set ?_ GE193.out | refine below_set ?_ GE197.out | refine below_set ?_ GE218.out) | exact HB.out)⟩
      ·replace c12 := Bool.eq_false_iff.mpr c12
       subst c12
       have H1 : (none) = some r := by rw [if_neg (show ¬ (false = true) by decide)] at H; exact H
       clear H
       have H := H1
       clear H1
       exact absurd H (by simp)
     ·rw [if_neg c10] at H
      exact absurd H (by simp)
    ·replace c9 := Bool.eq_false_iff.mpr c9
     subst c9
     have H1 : (none) = some r := by rw [if_neg (show ¬ (false = true) by decide)] at H; exact H
     clear H
     have H := H1
     clear H1
     exact absurd H (by simp)
   ·replace c7 := Bool.eq_false_iff.mpr c7
    subst c7
    have H1 : (none) = some r := by rw [if_neg (show ¬ (false = true) by decide)] at H; exact H
    clear H
    have H := H1
    clear H1
    exact absurd H (by simp)
  ·rw [if_neg c5] at H
   exact absurd H (by simp)
 ·rw [if_neg c4] at H
  exact absurd H (by simp)
end Go.Proofs.Ytlacfpbfnedgdaa.Q
namespace Go.Proofs.Ytlacfpbfnedgdaa.Q
open Go.RowKit Go.Proofs.YtlacfpbfnedgdaaW.PrintWords Go.Proofs.YtlacfpbfnedgdaaW.PrintLast Go.Proofs.YtlacfpbfnedgdaaW.PrintMore
set_option linter.unusedVariables false
set_option linter.unusedSimpArgs false
theorem known_40 : hypercubelaw1_known.f 60 = some true := by decide +kernel
theorem known_ev : Ev (fun k => hypercubelaw1_known.f k) true := Ev.of hypercubelaw1_known.mono known_40
def oL (ms : List Int) : Nat → List S33
 | 0 => []
 | i + 1 => oL ms i ++ [⟨[0], [rd ms (i : Int)]⟩]
theorem oL_length (ms : List Int) : ∀ i, (oL ms i).length = i
 | 0 => rfl
 | i + 1 => by simp [oL, oL_length ms i]
def swpL (xs : List S33) (a b : Nat) : List S33 := (xs.set a (rd_T33 xs (b : Int))).set b (rd_T33 xs (a : Int))
def swapsL (o : List Int) (l : List S33) : Nat → List S33
 | 0 => l
 | i + 1 => swpL (swapsL o l i) (i % l.length) (rd o (i : Int) % (l.length : Int)).toNat
theorem swapsL_length (o : List Int) (l : List S33) : ∀ i, (swapsL o l i).length = l.length
 | 0 => rfl
 | i + 1 => by simp only [swapsL, swpL, List.length_set]; exact swapsL_length o l i
def hypercubelaw1_RecOrder.T15 : Bool × List (List Nat × List Nat) := (true, [([], []), ([], []), ([1], [1]), ([0, 2], [0, 2]), ([], []), ([], []), ([4, 5], [4, 5]), ([6], [6]), ([], []), ([8], [8]), ([7, 9], [7, 9]), ([3, 10, 0, 1, 2, 3], [3]), ([10, 11, 0, 1, 2, 3, 4, 5, 6, 7, 8, 9, 10, 11], [10])])
def hypercubelaw1_RecOrder.B15 : List Nat := [0, 0, 2, 7, 0, 0, 48, 112, 0, 256, 1008, 2047, 4095]
theorem hypercubelaw1_RecOrder.tab15 : rtab .any (opsOf Try.f13 15) = hypercubelaw1_RecOrder.T15 := by kernel_rfl
theorem hypercubelaw1_RecOrder.bits15 : waitsOk hypercubelaw1_RecOrder.T15.2 hypercubelaw1_RecOrder.B15 = true := by kernel_rfl
def hypercubelaw1_RecOrder.T16 : Bool × List (List Nat × List Nat) := (true, [([], []), ([], []), ([], []), ([], []), ([], []), ([], []), ([4, 5], [4, 5]), ([6], [6]), ([], []), ([], []), ([8, 9], [8, 9]), ([10], [10]), ([0, 1, 0, 1, 4, 5, 6, 7, 11], [0, 1]), ([12, 7, 0, 1, 4, 5, 6, 7, 11], [7, 12]), ([2, 3, 0, 1, 2, 3, 4, 5, 6, 7, 8, 9, 10, 11, 12, 13], [2, 3]), ([14, 11, 13, 0, 1, 2, 3, 4, 5, 6, 7, 8, 9, 10, 11, 12, 13], [11, 14])])
def hypercubelaw1_RecOrder.B16 : List Nat := [0, 0, 0, 0, 0, 0, 48, 112, 0, 0, 768, 1792, 4083, 8179, 16383, 32767]
theorem hypercubelaw1_RecOrder.tab16 : rtab .any (opsOf Try.f13 16) = hypercubelaw1_RecOrder.T16 := by kernel_rfl
theorem hypercubelaw1_RecOrder.bits16 : waitsOk hypercubelaw1_RecOrder.T16.2 hypercubelaw1_RecOrder.B16 = true := by kernel_rfl
def hypercubelaw1_RecOrder.T17 : Bool × List (List Nat × List Nat) := (true, [([], []), ([], []), ([0, 1], [0, 1]), ([], []), ([], []), ([3, 4, 2], [3, 4]), ([2, 5], [2, 5]), ([6, 5], [6]), ([7], [7]), ([7], [7]), ([8, 9, 7, 7], [7, 8, 9]), ([7], [7]), ([7], [7]), ([11, 12, 10, 7], [7, 11, 12]), ([10, 13, 7], [7, 10, 13]), ([7, 14], [7, 14]), ([15, 13, 0, 1, 2, 3, 4, 5, 6, 7, 8, 9, 10, 11, 12, 13, 14, 15], [15])])
def hypercubelaw1_RecOrder.B17 : List Nat := [0, 0, 3, 0, 0, 31, 63, 127, 255, 255, 1023, 255, 255, 8191, 16383, 32767, 65535]
theorem hypercubelaw1_RecOrder.tab17 : rtab .any (opsOf Try.f13 17) = hypercubelaw1_RecOrder.T17 := by kernel_rfl
theorem hypercubelaw1_RecOrder.bits17 : waitsOk hypercubelaw1_RecOrder.T17.2 hypercubelaw1_RecOrder.B17 = true := by kernel_rfl
def hypercubelaw1_RecOrder.Pure : Prop := ∀ (l0 : List Int) (l1 : List Int), l0.length ≤ maxLen → l0.length * 8 ≤ 140737488351232 → (∀ x ∈ l0, (Lit.int .i64 x).wf = true) → l1.length ≤ maxLen → l1.length * 8 ≤ 140737488351232 → (∀ x ∈ l1, (Lit.int .i64 x).wf = true) →
 ∃ k b, (hypercubelaw1_known.f k = some true) ∧ (l0.length ≤ 60 → ∀ i : Nat, i < l1.length → 0 < l0.length → hypercubelaw1_within.f (rd l1 (i : Int)) (l0.length : Int) = some (rd l1 (i : Int) % (l0.length : Int))) ∧ (l0.length ≤ 60 → rec_Sound.f k [1] 1 (oL l0 l0.length) = some b) ∧ (l0.length ≤ 60 → rec_Sound.f k [1] 1 (swapsL l1 (oL l0 l0.length) (if l0.length = 0 then 0 else min l1.length 60)) = some b) ∧ (l0.length ≤ 60 → hypercuberef1_Sound.f k [1] 1 (oL l0 l0.length) = some b)
set_option maxHeartbeats 8000000 in
set_option maxRecDepth 100000 in
theorem hypercubelaw1_RecOrder.calls (k : Nat) (A0 : Option Addr) (c0 : Nat) (l0 : List Int) (A1 : Option Addr) (c1 : Nat) (l1 : List Int) (w : World) (hr0 : Kd.C (Kd.int .i64) w A0 l0.length l0) (hc0 : l0.length ≤ c0) (hr1 : Kd.C (Kd.int .i64) w A1 l1.length l1) (hc1 : l1.length ≤ c1)
  {b : Bool} (h1 : hypercubelaw1_known.f k = some true) (h2 : l0.length ≤ 60 → ∀ i : Nat, i < l1.length → 0 < l0.length → hypercubelaw1_within.f (rd l1 (i : Int)) (l0.length : Int) = some (rd l1 (i : Int) % (l0.length : Int))) (h3 : l0.length ≤ 60 → rec_Sound.f k [1] 1 (oL l0 l0.length) = some b) (h4 : l0.length ≤ 60 → rec_Sound.f k [1] 1 (swapsL l1 (oL l0 l0.length) (if l0.length = 0 then 0 else min l1.length 60)) = some b) (h5 : l0.length ≤ 60 → hypercuberef1_Sound.f k [1] 1 (oL l0 l0.length) = some b) :
  Calls Try.prog 13 #[.slice A0 l0.length c0, .slice A1 l1.length c1] w fun e w' => e = .returned (.bool true) ∧ Below w.heap.size w w' := by
 have hu33 := Try.underlying33
 have hu25 := Try.underlying24
 have H1 := am h1
 have H2 := am h2
 have H3 := am h3
 have H4 := am h4
 have H5 := am h5
 have HR0 := am hr0
 have HC0 := am hc0
 have HR1 := am hr1
 have HC1 := am hc1
 clear h1 h2 h3 h4 h5 hr0 hc0 hr1 hc1
 go_enter Try.func13, Try.ntmps13
 go_wp2_with (fail)
 refine (hypercubelaw1_known.calls k true w H1.out).mono ?_
 rintro e w1 ⟨rfl, hb1⟩
 have HB1 := am hb1
 clear hb1
 by_cases hms : l0.length ≤ 60
 rotate_left
 ·have hc1 : decide ((l0.length : Int) > 60) = true := decide_eq_true (by omega)
  have hc2 : decide (60 < (l0.length : Int)) = true := decide_eq_true (by omega)
  have hc3 : decide (60 < l0.length) = true := decide_eq_true (by omega)
  go_wp2
  go_ret
  exact ⟨rfl, HB1.out⟩
 have hc1 : decide ((l0.length : Int) > 60) = false := decide_eq_false (by omega)
 have hc2 : decide (60 < (l0.length : Int)) = false := decide_eq_false (by omega)
 have hc3 : decide (60 < l0.length) = false := decide_eq_false (by omega)
 have HMS := am hms
 clear hms
 go_wp2_with (first
 | ((with_reducible refine gate_dst (N := 17) rfl ?_); refine Kd.R_lit (Kd.int .i64) _ 3 ?hg (N := 17) ?hd (xs := ([1] : List Int)) (inner := [.int .i64 1]) (ok := fun _ => True) (okp := fun _ => True) ?hr ?hp (fun _ hk => hk) trivial (Below.refl _ _) (Nat.le_refl _) (by simp) ?_; (case hd => rfl); (case hg => rfl); (case hr => first | (go_simp; done) | (go_simp; rfl)); (case hp => exact (Reps.one (show Kd.M (Kd.int .i64) _ _ _ 1 [.int .i64 1] from rfl) (Reps.none _ _))); intro v17 w2 ho hb hg_ hnew_; have HKV := am ho; have HB2 := am hb; obtain ⟨Ak, ck, rfl⟩ := Kd.R_slice ho; clear ho hb hg_ hnew_)
 | ((with_reducible refine gate_dst (N := 5) rfl ?_); (try (refine gate_guard (by rfl) ?_; dsimp only)); refine box_event ?hg (N := 5) ?hd (cs := #[.slice none 0 0, .int .i64 0]) (t := 24) ?hr ?_; (case hd => rfl); (case hg => rfl); (case hr => first | (go_simp; done) | (go_simp; rfl)); intro gb hg w3 hbox hb; have hcz0 : w3.cell? ⟨gb, 0, none⟩ = some (.slice none 0 0) := (blk_cell hbox 0).trans rfl; have hcz1 : w3.cell? ⟨gb, 1, none⟩ = some (.int .i64 0) := (blk_cell hbox 1).trans rfl; have hfz0 := blk_frozen hbox 0; have hfz1 := blk_frozen hbox 1; have HBX := am hbox; have HG := am hg; have HB3 := am hb; clear hbox hg hb))
 generalize hw4 : (w3.setCell ⟨gb, 0, none⟩ (.slice Ak 1 ck)).setCell ⟨gb, 1, none⟩ (.int .i64 1) = w4
 have hgb : w2.heap.size ≤ gb := Nat.le_of_eq HG.out.symm
 have HB4 : Aside0 (Below w2.heap.size w2 w4) := ⟨by rw [← hw4]; exact below_set (below_set HB3.out hgb) hgb⟩
 have HK4 := am (show w4.heap[gb]? = some (.cells #[.slice Ak 1 ck, .int .i64 1] 24 (0, 0)) by rw [← hw4]; exact blk_put (blk_put HBX.out 0 _ rfl) 1 _ rfl)
 have HC4 := am (Kd.C_below (Kd.R_reads' HKV.out).2.2 HB4.out)
 have HCL := am (show [(1 : Int)].length ≤ ck from (Kd.R_reads' HKV.out).2.1)
 have HB14 := am (below_step (below_step HB1.out HB2.out) HB4.out)
 have HR0' := am (Kd.C_below HR0.out HB14.out)
 have HR1' := am (Kd.C_below HR1.out HB14.out)
 clear hw4 hgb hcz0 hcz1 hfz0 hfz1 HBX HG HB3 HB4 HB2 HB1 HKV
 go_loopg [6, 8] (l0.length + 1) (fun kq v6 v8 w' => ∃ i : Nat, v8 = .int .i64 (i : Int) ∧ Aside0 (i + kq = l0.length + 1 ∧ i ≤ l0.length) ∧ Aside0 (Below w4.heap.size w4 w') ∧ Aside0 (Kd.N k33 33 w' w4.heap.size (fun _ => True) v6 (oL l0 i)))
 case atStart => exact ⟨0, rfl, ⟨by omega, by omega⟩, ⟨Below.refl _ _⟩, ⟨Kd.N_nil _ _ _ _ _⟩⟩
 case round =>
 obtain ⟨i, rfl, HI, HS, HN⟩ := hrel
 obtain ⟨Al, cl, el⟩ := Kd.N_slice HN.out
 subst el
 cases gk with
 | zero => exact absurd HI.out (by omega)
 | succ k1 =>
 by_cases hi : i < l0.length
 ·have hd1 : decide ((i : Int) < (l0.length : Int)) = true := decide_eq_true (by omega)
  have hd2 : decide (i < l0.length) = true := decide_eq_true hi
  have pi := eq_true (show (0 : Int) ≤ (i : Int) by omega)
  have qi := eq_true (show (i : Int) < (l0.length : Int) by omega)
  have qi2 := eq_true hi
  have hwi : wrap64 ((i : Int) + 1) = ((i + 1 : Nat) : Int) := by have := HMS.out; unfold wrap64; omega
  have hAl := oL_length l0 i
  have hA1 : oL l0 (i + 1) = oL l0 i ++ [⟨[0], [rd l0 (i : Int)]⟩] := rfl
  have HAL := am hAl
  have HA1 := am hA1
  have HHI := am hi
  clear hi hAl hA1
  generalize oL l0 i = ol at *
  generalize hov : rd l0 (i : Int) = ov at *
  have HOV := am hov
  clear hov
  generalize wr = wo at *
  go_wp2_with (first
  | ((with_reducible refine gate_dst (N := 26) rfl ?_); refine Kd.R_lit (Kd.int .i64) _ 3 ?hg (N := 26) ?hd (xs := ([0] : List Int)) (inner := [.int .i64 0]) (ok := fun _ => True) (okp := fun _ => True) ?hr ?hp (fun _ hk => hk) trivial (Below.refl _ _) (Nat.le_refl _) (by simp) ?_; (case hd => rfl); (case hg => rfl); (case hr => first | (go_simp; done) | (go_simp; rfl)); (case hp => exact (Reps.one (show Kd.M (Kd.int .i64) _ _ _ 0 [.int .i64 0] from rfl) (Reps.none _ _))); intro v26 w26 ho hb hg_ hnew_; have HB26 := am hb; obtain ⟨A26, c26, rfl⟩ := Kd.R_slice ho; have HO26 := am ho; obtain ⟨ad5, e5, x5⟩ := Kd.at_int (Kd.C_below HR0'.out (below_step HS.out HB26.out)) (i : Int) (by have := HHI.out; omega) (by have := HHI.out; omega); cases e5; rw [Int.toNat_natCast, HOV.out] at x5; clear ho hb hg_ hnew_)
  | ((with_reducible refine gate_dst (N := 31) rfl ?_); refine Kd.R_lit (Kd.int .i64) _ 3 ?hg (N := 31) ?hd (xs := ([ov] : List Int)) (inner := [.int .i64 ov]) (ok := fun _ => True) (okp := fun _ => True) ?hr ?hp (fun _ hk => hk) trivial (Below.refl _ _) (Nat.le_refl _) (by simp) ?_; (case hd => rfl); (case hg => rfl); (case hr => first | (go_simp; done) | (go_simp; rfl)); (case hp => exact (Reps.one (show Kd.M (Kd.int .i64) _ _ _ ov [.int .i64 ov] from rfl) (Reps.none _ _))); intro v31 w31 ho hb hg_ hnew_; obtain ⟨A31, c31, rfl⟩ := Kd.R_slice ho; have HWo := am (below_step HB26.out hb); have HSW := am (below_step HS.out HWo.out); have HNW := am (Kd.N_below HN.out HWo.out); have HL26 := am (show ([0] : List Int).length ≤ c26 from (Kd.R_reads' HO26.out).2.1); have HF26 := am (Kd.F_below (Kd.F_mono (ok' := fun k_ => wo.heap.size ≤ k_) (Kd.R_F (Kd.R_bound HO26.out)) (fun _ hk => hk.2.1)) hb); have HL31 := am (show ([ov] : List Int).length ≤ c31 from (Kd.R_reads' ho).2.1); have HF31 := am (Kd.F_mono (ok' := fun k_ => wo.heap.size ≤ k_) (Kd.R_F (Kd.R_bound ho)) (fun _ hk => Nat.le_trans HB26.out.size hk.2.1)); clear ho hb hg_ hnew_)
  | ((with_reducible refine gate_builtin (b := .append) (xs := #[.tmp 25, .tmp 33]) rfl ?_); (try (refine gate_guard (by rfl) ?_; dsimp only)); at_builtin; refine Kd.N_append k33 (w0 := w4) w4.heap.size rfl (.tmp 25) (.tmp 33) 25 33 (.agg #[(.slice none 0 0), (.slice none 0 0)]) 48 rfl Try.underlying25 info33 rfl (by decide) (by omega) (.slice Al ol.length cl) ol ⟨[0], [ov]⟩ [.slice A26 1 c26, .slice A31 1 c31] (fun _ => True) (fun k_ => wo.heap.size ≤ k_) rfl rfl (k33_mkF _ _ ⟨[0], [ov]⟩ HL26.out HF26.out HL31.out HF31.out) ?aK (fun _ _ => trivial) HNW.out HSW.out HSW.out.size ?aL ?_; (case aK => exact fun k_ hk => ⟨trivial, fun e_ => by have e2_ := Kd.N_lt HN.out k_ e_.symm; omega⟩); (case aL => have := HAL.out; have := HHI.out; have := HMS.out; omega); intro vv wz ho hb hg hat; have HNz := am ho; have HSz := am hb; clear ho hb hg hat))
  go_roundg k1
  case measure => omega
  case rel => exact ⟨i + 1, by first | rfl | simp [hwi], ⟨by have := HI.out; have := HHI.out; omega, by have := HHI.out; omega⟩, HSz, ⟨by rw [HA1.out]; exact HNz.out⟩⟩
 ·have hd1 : decide ((i : Int) < (l0.length : Int)) = false := decide_eq_false (by omega)
  have hd2 : decide (i < l0.length) = false := decide_eq_false hi
  have hil : i = l0.length := by have := HI.out; omega
  have hln := oL_length l0 i
  have h3 := H3.out HMS.out
  have h4 := H4.out HMS.out
  have h5 := H5.out HMS.out
  have h2 := H2.out HMS.out
  rw [← hil] at h2 h3 h4 h5
  rw [show (if i = 0 then 0 else min l1.length 60) = (if (oL l0 i).length = 0 then 0 else min l1.length 60) by rw [hln]] at h4
  have HQ2 : Aside0 (∀ j : Nat, j < l1.length → 0 < (oL l0 i).length → hypercubelaw1_within.f (rd l1 (j : Int)) ((oL l0 i).length : Int) = some (rd l1 (j : Int) % ((oL l0 i).length : Int))) := ⟨by rw [hln]; exact h2⟩
  have HQ3 := am h3
  have HQ4 := am h4
  have HQ5 := am h5
  have HLN := am (show (oL l0 i).length ≤ 60 by rw [hln, hil]; exact HMS.out)
  have HM6 := am (Kd.N_reads' HN.out).2
  have HF6 := am (Kd.N_F HN.out)
  have HS14 := am (below_step HB14.out HS.out)
  have HR18 := am (Kd.C_below HR1'.out HS.out)
  have HK8 := am (blk_below HK4.out HS.out)
  have HC8 := am (Kd.C_below HC4.out HS.out)
  clear hi hil hln h2 h3 h4 h5 HS HN HI
  generalize oL l0 i = l at *
  generalize wr = w8 at *
  go_wp2_with (first
  | ((with_reducible refine gate_builtin (b := .append) (xs := #[.tmp 35, .tmp 36]) rfl ?_); (try (refine gate_guard (by rfl) ?_; dsimp only)); at_builtin; refine Kd.N_append_rows k33 (w0 := w8) w8.heap.size rfl (.tmp 35) (.tmp 36) 25 33 (.agg #[(.slice none 0 0), (.slice none 0 0)]) 48 rfl Try.underlying25 info33 rfl (by decide) (by omega) (.slice none 0 0) [] l _ _ _ (fun _ => True) (fun _ => True) rfl rfl (Kd.N_nil _ _ _ _ _) HF6.out (fun k_ _ => ⟨trivial, fun e_ => by cases e_⟩) (fun _ _ => trivial) (Below.refl _ _) (Nat.le_refl _) ?aL ?_; (case aL => have := HLN.out; simp only [List.length_nil]; omega); intro vv w9 ho hb hg hat; rw [List.nil_append] at ho; obtain ⟨A19, c19, rfl⟩ := Kd.N_slice ho; have HN9 := am ho; have HB89 := am hb; clear ho hb hg hat))
  go_loopg [9, 10, 11] (min l1.length 60 + 1) (fun kq v9 v10 v11 w' => ∃ i : Nat, v9 = .int .i64 (i : Int) ∧ Aside0 (i + kq = min l1.length 60 + 1 ∧ i ≤ (if l.length = 0 then 0 else min l1.length 60)) ∧ Aside0 (Below w8.heap.size w8 w') ∧ Aside0 (Kd.N k33 33 w' w8.heap.size (fun _ => True) (.slice A19 l.length c19) (swapsL l1 l i)))
  case atStart => exact ⟨0, rfl, ⟨by omega, by omega⟩, HB89, ⟨HN9.out⟩⟩
  case round =>
  obtain ⟨i, rfl, HI, HS, HN⟩ := hrel
  cases gk with
  | zero => exact absurd HI.out.1 (by have := HI.out.2; split at this <;> omega)
  | succ k1 =>
  by_cases hi : i < (if l.length = 0 then 0 else min l1.length 60)
  ·have hl0 : 0 < l.length := by rcases Nat.eq_zero_or_pos l.length with h | h; (rw [if_pos h] at hi; omega); exact h
   have hi2 : i < l1.length ∧ i < 60 := by rw [if_neg (by omega)] at hi; omega
   have hf1 : decide ((i : Int) < (l1.length : Int)) = true := decide_eq_true (by omega)
   have hf2 : decide ((i : Int) < 60) = true := decide_eq_true (by omega)
   have hf3 : decide ((l.length : Int) > 0) = true := decide_eq_true (by omega)
   have hf4 : decide (0 < (l.length : Int)) = true := decide_eq_true (by omega)
   have hf5 : decide (0 < l.length) = true := decide_eq_true hl0
   have hf6 : decide (i < l1.length) = true := decide_eq_true hi2.1
   have pi := eq_true (show (0 : Int) ≤ (i : Int) by omega)
   have qi := eq_true (show (i : Int) < (l1.length : Int) by omega)
   have hwi : wrap64 ((i : Int) + 1) = ((i + 1 : Nat) : Int) := by unfold wrap64; omega
   obtain ⟨gm, cap, e1, hgb, hgs, cells, hcells⟩ := Kd.N_form HN.out (by rw [swapsL_length]; exact hl0)
   injection e1 with eA en ec
   obtain ⟨adm, ead, hadm⟩ : ∃ adm, A19 = some adm ∧ adm = ⟨gm, 0, none⟩ := ⟨_, eA, rfl⟩
   subst ead
   obtain ⟨ax, hax⟩ : ∃ ax : Nat, ax = i % l.length := ⟨_, rfl⟩
   obtain ⟨bx, hbx⟩ : ∃ bx : Nat, bx = (rd l1 (i : Int) % (l.length : Int)).toNat := ⟨_, rfl⟩
   have hb0 := Int.emod_nonneg (rd l1 (i : Int)) (show (l.length : Int) ≠ 0 by omega)
   have hb1 := Int.emod_lt_of_pos (rd l1 (i : Int)) (show (0 : Int) < (l.length : Int) by omega)
   have hwt := HQ2.out i hi2.1 hl0
   rw [show rd l1 (i : Int) % (l.length : Int) = (bx : Int) by omega] at hwt
   have HW := am hwt
   have hal : ax < l.length := by rw [hax]; exact Nat.mod_lt _ hl0
   have hbl : bx < l.length := by omega
   have hrem : Int.tmod (i : Int) (l.length : Int) = (ax : Int) := by rw [hax]; rfl
   have hn0 : ((l.length : Int) == 0) = false := beq_eq_false_iff_ne.mpr (by omega)
   have hn1 : ((l.length : Int) != 0) = true := bne_iff_ne.mpr (by omega)
   have hn2 : (l.length == 0) = false := beq_eq_false_iff_ne.mpr (by omega)
   have hn3 := eq_false (show ¬ l = [] by intro h; rw [h] at hl0; exact absurd hl0 (by decide))
   have pa := eq_true (show (0 : Int) ≤ (ax : Int) by omega)
   have qa := eq_true (show (ax : Int) < (l.length : Int) by omega)
   have pb := eq_true (show (0 : Int) ≤ (bx : Int) by omega)
   have qb := eq_true (show (bx : Int) < (l.length : Int) by omega)
   have qa2 := eq_true hal
   have qb2 := eq_true hbl
   obtain ⟨ad5, e5, x5⟩ := Kd.at_int (Kd.C_below HR18.out HS.out) (i : Int) (by omega) (by omega)
   cases e5
   rw [Int.toNat_natCast] at x5
   have X5 := am x5
   have HADM := am hadm
   have HAL := am hal
   have HBL := am hbl
   have HAX := am hax
   have HBX := am hbx
   have HI2 := am hi2
   have HL0 := am hl0
   clear x5 hadm hal hbl hi hi2 hl0 hb0 hb1 hwt eA en ec hgb hgs hcells cells hax hbx
   generalize hov : rd l1 (i : Int) = ov at *
   have HOV := am hov
   clear hov
   go_wp2
   refine start_ (n := 13) (S := fun w' => w'.cell? (ad5.add i) = some (.int .i64 ov) ∧ True) (ds := []) (bb 13 0) (by kernel_rfl) rfl rfl ⟨X5.out, trivial⟩ (fun hHeld => ?_)
   refine with_tabW hypercubelaw1_RecOrder.tab15 hypercubelaw1_RecOrder.bits15 (fun HT_ HW_ => ?_)
   have HB := am (below_drew (Below.refl wr.heap.size wr))
   generalize wr.drew = wd at HB hHeld ⊢
   refine pu (i := 0) (N := some 53) (bb 13 1) HT_ ?_
   refine pu (i := 1) (N := some 54) (bb 13 3) HT_ ?_
   refine pu (i := 2) (N := some 55) (bb 13 7) HT_ ?_
   refine pu (i := 3) (N := some 56) (bb 13 15) HT_ ?_
   refine pu (i := 4) (N := some 57) (bb 13 31) HT_ ?_
   refine pu (i := 5) (N := some 58) (bb 13 63) HT_ ?_
   refine pu (i := 6) (N := some 59) (bb 13 127) HT_ ?_
   refine pu (i := 8) (N := some 61) (bb 13 383) HT_ ?_
   refine pu (i := 9) (N := some 62) (bb 13 895) HT_ ?_
   refine tk (i := 7) (N := some 60) (bb 13 1023) HT_ HW_ hHeld ?_
   refine one_ (i := 10) (N := some 63) (bb 13 2047) rfl rfl (one_of HT_.out (by kernel_rfl)) (by decide) (fun K hK => ?_)
   refine goes_ Try.func21 (by kernel_rfl) rfl #[.int .i64 ov, .int .i64 (l.length : Int)] (by rfl) rfl rfl (by (try simp only [List.map_toArray, List.map_cons, List.map_nil]); first | done | rfl) ?_
   with_reducible refine (hypercubelaw1_within.calls ov (l.length : Int) (bx : Int) _ HW.out).mono ?_

   rintro e wd2 ⟨rfl, hd⟩
   replace HB := am (below_step HB.out hd.below)
   clear hd
   refine ⟨_, rfl, ?_⟩
   refine hK.out _ _ ⟨(HB.out.cell (World.block_lt_of_cell? wr _ X5.out)).trans X5.out, trivial⟩ (fun hHeld => ?_)
   clear hK K
   refine nm ?_
   refine pu (i := 11) (N := some 10) (bb 13 4095) HT_ ?_
   refine pu (i := 12) (N := some 11) (bb 13 8191) HT_ ?_
   refine done_ (done_of HT_.out (by kernel_rfl)) ?_
   have HSW := am (below_step HS.out HB.out)
   have HN2 : Aside0 (Kd.N k33 33 wd2 w8.heap.size (fun _ => True) (.slice (some ⟨gm, 0, none⟩) l.length c19) (swapsL l1 l i)) := ⟨by have := Kd.N_below HN.out HB.out; rwa [HADM.out] at this⟩
   obtain ⟨ca, la, oa, fa, xa⟩ := N_at HN2.out z33 ax HAL.out
   obtain ⟨cb, lb, ob, fb, xb⟩ := N_at HN2.out z33 bx HBL.out
   obtain ⟨A0, c0, A2, c2, ea, _⟩ := k33_openF fa
   subst ea
   obtain ⟨B0, d0, B2, d2, eb, _⟩ := k33_openF fb
   subst eb
   have HXA : (swapsL l1 l i).getD ax z33 = rd_T33 (swapsL l1 l i) (ax : Int) := rfl
   have HXB : (swapsL l1 l i).getD bx z33 = rd_T33 (swapsL l1 l i) (bx : Int) := rfl
   rw [HXA] at fa xa oa
   rw [HXB] at fb xb ob
   obtain ⟨x, hx⟩ : ∃ x, x = rd_T33 (swapsL l1 l i) (ax : Int) := ⟨_, rfl⟩
   obtain ⟨y, hy⟩ : ∃ y, y = rd_T33 (swapsL l1 l i) (bx : Int) := ⟨_, rfl⟩
   rw [← hx] at fa xa oa
   rw [← hy] at fb xb ob
   have ADA : Aside0 (adm.add (ax * 2) = ⟨gm, ax * 2, none⟩) := ⟨by rw [HADM.out, Addr.add_lit, Nat.zero_add]⟩
   have ADB : Aside0 (adm.add (bx * 2) = ⟨gm, bx * 2, none⟩) := ⟨by rw [HADM.out, Addr.add_lit, Nat.zero_add]⟩
   have CA0 : Aside0 (wd2.cell? (adm.add (ax * 2)) = some (.slice A0 x.f0.length c0)) := ⟨by rw [ADA.out]; exact xa 0 _ rfl⟩
   have CA1 : Aside0 (wd2.cell? ⟨(adm.add (ax * 2)).block, (adm.add (ax * 2)).off + 1, none⟩ = some (.slice A2 x.f1.length c2)) := ⟨by rw [ADA.out]; exact xa 1 _ rfl⟩
   have CB0 : Aside0 (wd2.cell? (adm.add (bx * 2)) = some (.slice B0 y.f0.length d0)) := ⟨by rw [ADB.out]; exact xb 0 _ rfl⟩
   have CB1 : Aside0 (wd2.cell? ⟨(adm.add (bx * 2)).block, (adm.add (bx * 2)).off + 1, none⟩ = some (.slice B2 y.f1.length d2)) := ⟨by rw [ADB.out]; exact xb 1 _ rfl⟩
   have FA := am fa
   have FB := am fb
   have OA := am oa
   have OB := am ob
   have HX := am hx
   have HY := am hy
   clear fa fb oa ob xa xb hx hy la lb HXA HXB HN
   go_wp2
   refine start_ (n := 16) (S := fun w' => w'.cell? (adm.add (ax * 2)) = some (.slice A0 x.f0.length c0) ∧ w'.cell? ⟨(adm.add (ax * 2)).block, (adm.add (ax * 2)).off + 1, none⟩ = some (.slice A2 x.f1.length c2) ∧ w'.cell? (adm.add (bx * 2)) = some (.slice B0 y.f0.length d0) ∧ w'.cell? ⟨(adm.add (bx * 2)).block, (adm.add (bx * 2)).off + 1, none⟩ = some (.slice B2 y.f1.length d2)) (ds := [13, 15]) (bb 16 0) (by kernel_rfl) rfl rfl ⟨CA0.out, CA1.out, CB0.out, CB1.out⟩ (fun hHeld => ?_)
   refine with_tabW hypercubelaw1_RecOrder.tab16 hypercubelaw1_RecOrder.bits16 (fun HT_ HW_ => ?_)
   have HN2' := Kd.N_below HN2.out (below_drew (Below.refl _ _))
   have HS2' := below_step HSW.out (below_drew (Below.refl _ _))
   have FA2 := Kd.FK_below FA.out (below_drew (Below.refl _ _))
   have FB2 := Kd.FK_below FB.out (below_drew (Below.refl _ _))
   refine pu (i := 0) (N := some 64) (bb 16 1) HT_ ?_
   refine pu (i := 1) (N := some 65) (bb 16 3) HT_ ?_
   refine pu (i := 2) (N := some 66) (bb 16 7) HT_ ?_
   refine pu (i := 3) (N := some 67) (bb 16 15) HT_ ?_
   refine pu (i := 4) (N := some 68) (bb 16 31) HT_ ?_
   refine pu (i := 5) (N := some 69) (bb 16 63) HT_ ?_
   refine pu (i := 6) (N := some 70) (bb 16 127) HT_ ?_
   refine pu (i := 8) (N := some 72) (bb 16 383) HT_ ?_
   refine pu (i := 9) (N := some 73) (bb 16 895) HT_ ?_
   refine pu (i := 10) (N := some 74) (bb 16 1919) HT_ ?_
   refine tk (i := 7) (N := some 71) (bb 16 2047) HT_ HW_ hHeld ?_
   refine tk (i := 11) (N := some 75) (bb 16 4095) HT_ HW_ hHeld ?_
   refine pu (i := 12) (N := some 76) (bb 16 8191) HT_ ?_
   refine last_ (i := 13) (N := none) (bb 16 16383) rfl rfl (one_of HT_.out (by kernel_rfl)) (by decide) (fun K hK => ?_)
   refine skip_ (w1 := wd2.drew.setCells gm (ax * 2) [.slice B0 y.f0.length d0, .slice B2 y.f1.length d2]) rfl rfl (put_run (t := 33) (p := .tmp 76) (x := .tmp 71) rfl HN2' ax HAL.out rfl (congrArg (fun q => Value.pointer (some q)) ADA.out) rfl rfl (by rfl) OB.out) ?_
   obtain ⟨HN3, HS3, HG3⟩ := N_put HN2' ax HAL.out (seg := [.slice B0 y.f0.length d0, .slice B2 y.f1.length d2]) rfl FB2 (fun k hk => hk) HS2'
   have FA3 := Kd.FK_step FA2 (fun k hk hlt => HG3.block k hlt (fun e => hk.2 (Option.some.inj e)))
   refine hK.out _ _ ?_
   clear hK K
   refine pu (i := 14) (N := some 77) (bb 16 32767) HT_ ?_
   refine last_ (i := 15) (N := none) (bb 16 65535) rfl rfl (one_of HT_.out (by kernel_rfl)) (by decide) (fun K hK => ?_)
   refine skip_ (w1 := (wd2.drew.setCells gm (ax * 2) [.slice B0 y.f0.length d0, .slice B2 y.f1.length d2]).setCells gm (bx * 2) [.slice A0 x.f0.length c0, .slice A2 x.f1.length c2]) rfl rfl (put_run (t := 33) (p := .tmp 77) (x := .tmp 75) rfl HN3 bx HBL.out rfl (congrArg (fun q => Value.pointer (some q)) ADB.out) rfl rfl (by rfl) OA.out) ?_
   obtain ⟨HN5, HB5, _⟩ := N_put HN3 bx HBL.out (seg := [.slice A0 x.f0.length c0, .slice A2 x.f1.length c2]) rfl FA3 (fun k hk => hk) HS3
   refine hK.out _ _ ?_
   clear hK K
   refine done_ (done_of HT_.out (by kernel_rfl)) ?_
   have HS2 := am HB5
   go_wp2
   go_roundg k1
   case measure => omega
   case rel => exact ⟨i + 1, by first | rfl | simp [hwi], ⟨by have := HI.out; have := HI2.out; omega, by have := HL0.out; have := HI2.out; rw [if_neg (by omega)]; omega⟩, HS2, ⟨by rw [HADM.out]; simp only [swapsL, swpL]; rw [HOV.out, ← HAX.out, ← HBX.out, ← HX.out, ← HY.out]; exact HN5⟩⟩
  ·have hiJ : i = (if l.length = 0 then 0 else min l1.length 60) := by have := HI.out.2; omega
   have hex : (¬ i < l1.length) ∨ (i < l1.length ∧ ¬ i < 60) ∨ (i < l1.length ∧ i < 60 ∧ l.length = 0) := by
    by_cases h1 : i < l1.length
    ·by_cases h2 : i < 60
     ·refine .inr (.inr ⟨h1, h2, ?_⟩)
      rcases Nat.eq_zero_or_pos l.length with h | h
      ·exact h
      ·rw [if_neg (by omega)] at hi; omega
     ·exact .inr (.inl ⟨h1, h2⟩)
    ·exact .inl h1
   have h8 := HQ4.out
   rw [← hiJ] at h8
   have hlen := swapsL_length l1 l i
   have hn := HN.out
   have HM6r := am (And.intro HM6.out.1 (Kd.C_below HM6.out.2 HS.out))
   have HLL := am HLN.out
   have hle := HM6r.out
   obtain ⟨m, hm⟩ : ∃ m, m = swapsL l1 l i := ⟨_, rfl⟩
   rw [← hm] at hn hlen h8
   have hcap : m.length ≤ c19 := by have := (Kd.N_reads' hn).2.1; omega
   have HMM : Aside0 (m.length ≤ c19 ∧ Kd.C k33 wr A19 m.length m) := ⟨(Kd.N_reads' (by rw [← hlen] at hn; exact hn)).2⟩
   have HH8 := am h8
   have HKr := am (blk_below HK8.out HS.out)
   have HCr := am (Kd.C_below HC8.out HS.out)
   have HBr := am (below_step HS14.out HS.out)
   have Q0 := am (bc HKr 0)
   have Q1 := am (bc HKr 1)
   have HLM := am hlen
   have HCALL : Aside0 (∀ W : World, Below wr.heap.size wr W → Calls Try.prog 27 #[.agg #[.slice Ak ([1] : List Int).length ck, .int .i64 1], .slice A19 l.length c19] W (fun e w' => e = .returned (.bool b) ∧ Below W.heap.size W w')) := ⟨fun W hB => by rw [← HLM.out]; exact rec_Sound.calls k Ak ck [1] 1 A19 c19 m b W (Kd.C_below HCr.out hB) HCL.out (Kd.C_below HMM.out.2 hB) HMM.out.1 HH8.out⟩
   clear hi hn h8 hiJ hm hle hcap hlen
   generalize wr = w10 at *
   rcases hex with h | ⟨h, h'⟩ | ⟨h, h', h0⟩
   ·have hf1 : decide ((i : Int) < (l1.length : Int)) = false := decide_eq_false (by omega)
    have hf6 : decide (i < l1.length) = false := decide_eq_false h
    clear h
    go_wp2
    refine start_ (n := 17) (S := fun w' => w'.cell? ⟨gb, 0, none⟩ = some (.slice Ak 1 ck) ∧ w'.cell? ⟨gb, 1, none⟩ = some (.int .i64 1)) (ds := []) (bb 17 0) (by kernel_rfl) rfl rfl ⟨Q0.out, Q1.out⟩ (fun hHeld => ?_)
    refine with_tabW hypercubelaw1_RecOrder.tab17 hypercubelaw1_RecOrder.bits17 (fun HT_ HW_ => ?_)
    have HB := am (below_drew (Below.refl w10.heap.size w10))
    generalize w10.drew = wd at HB hHeld ⊢
    refine pu (i := 1) (N := some 79) (bb 17 2) HT_ ?_
    refine pu (i := 4) (N := some 82) (bb 17 18) HT_ ?_
    refine tk (i := 0) (N := some 78) (bb 17 19) HT_ HW_ hHeld ?_
    refine tk (i := 3) (N := some 81) (bb 17 27) HT_ HW_ hHeld ?_
    refine one_ (i := 2) (N := some 80) (bb 17 31) rfl rfl (one_of HT_.out (by kernel_rfl)) (by decide) (fun K hK => ?_)
    refine goes_ Try.func27 (by kernel_rfl) rfl #[.agg #[.slice Ak ([1] : List Int).length ck, .int .i64 1], .slice Al l.length cl] (by rfl) rfl rfl (by (try simp only [List.map_toArray, List.map_cons, List.map_nil]); first | done | rfl) ?_
    with_reducible refine (rec_Sound.calls k Ak ck [1] 1 Al cl l b _ (Kd.C_below HCr.out HB.out) HCL.out (Kd.C_below HM6r.out.2 HB.out) HM6r.out.1 HQ3.out).mono ?_
    rintro e wd2 ⟨rfl, hb⟩
    replace HB := am (below_step HB.out hb)
    clear hb
    refine ⟨_, rfl, ?_⟩
    refine hK.out _ _ ⟨(HB.out.cell (World.block_lt_of_cell? w10 _ Q0.out)).trans Q0.out, (HB.out.cell (World.block_lt_of_cell? w10 _ Q1.out)).trans Q1.out⟩ (fun hHeld => ?_)
    clear hK K
    refine nm ?_
    refine one_ (i := 5) (N := some 83) (bb 17 63) rfl rfl (one_of HT_.out (by kernel_rfl)) (by decide) (fun K hK => ?_)
    refine goes_ Try.func27 (by kernel_rfl) rfl #[.agg #[.slice Ak ([1] : List Int).length ck, .int .i64 1], .slice A19 l.length c19] (by rfl) rfl rfl (by (try simp only [List.map_toArray, List.map_cons, List.map_nil]); first | done | rfl) ?_
    with_reducible refine (HCALL.out _ HB.out).mono ?_
    rintro e wd3 ⟨rfl, hb⟩
    replace HB := am (below_step HB.out hb)
    clear hb
    refine ⟨_, rfl, ?_⟩
    refine hK.out _ _ ⟨(HB.out.cell (World.block_lt_of_cell? w10 _ Q0.out)).trans Q0.out, (HB.out.cell (World.block_lt_of_cell? w10 _ Q1.out)).trans Q1.out⟩ (fun hHeld => ?_)
    clear hK K
    refine nm ?_
    refine pu (i := 6) (N := some 84) (bb 17 127) HT_ ?_
    refine pu (i := 7) (N := some 85) (bb 17 255) HT_ ?_
    refine pu (i := 9) (N := some 87) (bb 17 767) HT_ ?_
    refine pu (i := 12) (N := some 90) (bb 17 4863) HT_ ?_
    refine tk (i := 8) (N := some 86) (bb 17 5119) HT_ HW_ hHeld ?_
    refine tk (i := 11) (N := some 89) (bb 17 7167) HT_ HW_ hHeld ?_
    refine one_ (i := 10) (N := some 88) (bb 17 8191) rfl rfl (one_of HT_.out (by kernel_rfl)) (by decide) (fun K hK => ?_)
    refine goes_ Try.func27 (by kernel_rfl) rfl #[.agg #[.slice Ak ([1] : List Int).length ck, .int .i64 1], .slice Al l.length cl] (by rfl) rfl rfl (by (try simp only [List.map_toArray, List.map_cons, List.map_nil]); first | done | rfl) ?_
    with_reducible refine (rec_Sound.calls k Ak ck [1] 1 Al cl l b _ (Kd.C_below HCr.out HB.out) HCL.out (Kd.C_below HM6r.out.2 HB.out) HM6r.out.1 HQ3.out).mono ?_
    rintro e wd4 ⟨rfl, hb⟩
    replace HB := am (below_step HB.out hb)
    clear hb
    refine ⟨_, rfl, ?_⟩
    refine hK.out _ _ ⟨(HB.out.cell (World.block_lt_of_cell? w10 _ Q0.out)).trans Q0.out, (HB.out.cell (World.block_lt_of_cell? w10 _ Q1.out)).trans Q1.out⟩ (fun hHeld => ?_)
    clear hK K
    refine nm ?_
    refine one_ (i := 13) (N := some 91) (bb 17 16383) rfl rfl (one_of HT_.out (by kernel_rfl)) (by decide) (fun K hK => ?_)
    refine goes_ Try.func28 (by kernel_rfl) rfl #[.agg #[.slice Ak ([1] : List Int).length ck, .int .i64 1], .slice Al l.length cl] (by rfl) rfl rfl (by (try simp only [List.map_toArray, List.map_cons, List.map_nil]); first | done | rfl) ?_
    with_reducible refine (hypercuberef1_Sound.calls k Ak ck [1] 1 Al cl l b _ (Kd.C_below HCr.out HB.out) HCL.out (Kd.C_below HM6r.out.2 HB.out) HM6r.out.1 HQ5.out).mono ?_
    rintro e wd5 ⟨rfl, hb⟩
    replace HB := am (below_step HB.out hb)
    clear hb
    refine ⟨_, rfl, ?_⟩
    refine hK.out _ _ ⟨(HB.out.cell (World.block_lt_of_cell? w10 _ Q0.out)).trans Q0.out, (HB.out.cell (World.block_lt_of_cell? w10 _ Q1.out)).trans Q1.out⟩ (fun hHeld => ?_)
    clear hK K
    refine nm ?_
    refine pu (i := 14) (N := some 92) (bb 17 32767) HT_ ?_
    refine pu (i := 15) (N := some 93) (bb 17 65535) HT_ ?_
    refine pu (i := 16) (N := some 4) (bb 17 131071) HT_ ?_
    refine done_ (done_of HT_.out (by kernel_rfl)) ?_
    go_wp2
    go_ret
    exact ⟨rfl, below_step HBr.out HB.out⟩
   ·have hf1 : decide ((i : Int) < (l1.length : Int)) = true := decide_eq_true (by omega)
    have hf6 : decide (i < l1.length) = true := decide_eq_true h
    have hf2 : decide ((i : Int) < 60) = false := decide_eq_false (by omega)
    clear h h'
    go_wp2
    refine start_ (n := 17) (S := fun w' => w'.cell? ⟨gb, 0, none⟩ = some (.slice Ak 1 ck) ∧ w'.cell? ⟨gb, 1, none⟩ = some (.int .i64 1)) (ds := []) (bb 17 0) (by kernel_rfl) rfl rfl ⟨Q0.out, Q1.out⟩ (fun hHeld => ?_)
    refine with_tabW hypercubelaw1_RecOrder.tab17 hypercubelaw1_RecOrder.bits17 (fun HT_ HW_ => ?_)
    have HB := am (below_drew (Below.refl w10.heap.size w10))
    generalize w10.drew = wd at HB hHeld ⊢
    refine pu (i := 1) (N := some 79) (bb 17 2) HT_ ?_
    refine pu (i := 4) (N := some 82) (bb 17 18) HT_ ?_
    refine tk (i := 0) (N := some 78) (bb 17 19) HT_ HW_ hHeld ?_
    refine tk (i := 3) (N := some 81) (bb 17 27) HT_ HW_ hHeld ?_
    refine one_ (i := 2) (N := some 80) (bb 17 31) rfl rfl (one_of HT_.out (by kernel_rfl)) (by decide) (fun K hK => ?_)
    refine goes_ Try.func27 (by kernel_rfl) rfl #[.agg #[.slice Ak ([1] : List Int).length ck, .int .i64 1], .slice Al l.length cl] (by rfl) rfl rfl (by (try simp only [List.map_toArray, List.map_cons, List.map_nil]); first | done | rfl) ?_
    with_reducible refine (rec_Sound.calls k Ak ck [1] 1 Al cl l b _ (Kd.C_below HCr.out HB.out) HCL.out (Kd.C_below HM6r.out.2 HB.out) HM6r.out.1 HQ3.out).mono ?_
    rintro e wd2 ⟨rfl, hb⟩
    replace HB := am (below_step HB.out hb)
    clear hb
    refine ⟨_, rfl, ?_⟩
    refine hK.out _ _ ⟨(HB.out.cell (World.block_lt_of_cell? w10 _ Q0.out)).trans Q0.out, (HB.out.cell (World.block_lt_of_cell? w10 _ Q1.out)).trans Q1.out⟩ (fun hHeld => ?_)
    clear hK K
    refine nm ?_
    refine one_ (i := 5) (N := some 83) (bb 17 63) rfl rfl (one_of HT_.out (by kernel_rfl)) (by decide) (fun K hK => ?_)
    refine goes_ Try.func27 (by kernel_rfl) rfl #[.agg #[.slice Ak ([1] : List Int).length ck, .int .i64 1], .slice A19 l.length c19] (by rfl) rfl rfl (by (try simp only [List.map_toArray, List.map_cons, List.map_nil]); first | done | rfl) ?_
    with_reducible refine (HCALL.out _ HB.out).mono ?_
    rintro e wd3 ⟨rfl, hb⟩
    replace HB := am (below_step HB.out hb)
    clear hb
    refine ⟨_, rfl, ?_⟩
    refine hK.out _ _ ⟨(HB.out.cell (World.block_lt_of_cell? w10 _ Q0.out)).trans Q0.out, (HB.out.cell (World.block_lt_of_cell? w10 _ Q1.out)).trans Q1.out⟩ (fun hHeld => ?_)
    clear hK K
    refine nm ?_
    refine pu (i := 6) (N := some 84) (bb 17 127) HT_ ?_
    refine pu (i := 7) (N := some 85) (bb 17 255) HT_ ?_
    refine pu (i := 9) (N := some 87) (bb 17 767) HT_ ?_
    refine pu (i := 12) (N := some 90) (bb 17 4863) HT_ ?_
    refine tk (i := 8) (N := some 86) (bb 17 5119) HT_ HW_ hHeld ?_
    refine tk (i := 11) (N := some 89) (bb 17 7167) HT_ HW_ hHeld ?_
    refine one_ (i := 10) (N := some 88) (bb 17 8191) rfl rfl (one_of HT_.out (by kernel_rfl)) (by decide) (fun K hK => ?_)
    refine goes_ Try.func27 (by kernel_rfl) rfl #[.agg #[.slice Ak ([1] : List Int).length ck, .int .i64 1], .slice Al l.length cl] (by rfl) rfl rfl (by (try simp only [List.map_toArray, List.map_cons, List.map_nil]); first | done | rfl) ?_
    with_reducible refine (rec_Sound.calls k Ak ck [1] 1 Al cl l b _ (Kd.C_below HCr.out HB.out) HCL.out (Kd.C_below HM6r.out.2 HB.out) HM6r.out.1 HQ3.out).mono ?_
    rintro e wd4 ⟨rfl, hb⟩
    replace HB := am (below_step HB.out hb)
    clear hb
    refine ⟨_, rfl, ?_⟩
    refine hK.out _ _ ⟨(HB.out.cell (World.block_lt_of_cell? w10 _ Q0.out)).trans Q0.out, (HB.out.cell (World.block_lt_of_cell? w10 _ Q1.out)).trans Q1.out⟩ (fun hHeld => ?_)
    clear hK K
    refine nm ?_
    refine one_ (i := 13) (N := some 91) (bb 17 16383) rfl rfl (one_of HT_.out (by kernel_rfl)) (by decide) (fun K hK => ?_)
    refine goes_ Try.func28 (by kernel_rfl) rfl #[.agg #[.slice Ak ([1] : List Int).length ck, .int .i64 1], .slice Al l.length cl] (by rfl) rfl rfl (by (try simp only [List.map_toArray, List.map_cons, List.map_nil]); first | done | rfl) ?_
    with_reducible refine (hypercuberef1_Sound.calls k Ak ck [1] 1 Al cl l b _ (Kd.C_below HCr.out HB.out) HCL.out (Kd.C_below HM6r.out.2 HB.out) HM6r.out.1 HQ5.out).mono ?_
    rintro e wd5 ⟨rfl, hb⟩
    replace HB := am (below_step HB.out hb)
    clear hb
    refine ⟨_, rfl, ?_⟩
    refine hK.out _ _ ⟨(HB.out.cell (World.block_lt_of_cell? w10 _ Q0.out)).trans Q0.out, (HB.out.cell (World.block_lt_of_cell? w10 _ Q1.out)).trans Q1.out⟩ (fun hHeld => ?_)
    clear hK K
    refine nm ?_
    refine pu (i := 14) (N := some 92) (bb 17 32767) HT_ ?_
    refine pu (i := 15) (N := some 93) (bb 17 65535) HT_ ?_
    refine pu (i := 16) (N := some 4) (bb 17 131071) HT_ ?_
    refine done_ (done_of HT_.out (by kernel_rfl)) ?_
    go_wp2
    go_ret
    exact ⟨rfl, below_step HBr.out HB.out⟩
   ·have hf1 : decide ((i : Int) < (l1.length : Int)) = true := decide_eq_true (by omega)
    have hf6 : decide (i < l1.length) = true := decide_eq_true h
    have hf2 : decide ((i : Int) < 60) = true := decide_eq_true (by omega)
    have hf3 : decide ((l.length : Int) > 0) = false := decide_eq_false (by omega)
    have hf4 : decide (0 < (l.length : Int)) = false := decide_eq_false (by omega)
    have hf5 : decide (0 < l.length) = false := decide_eq_false (by omega)
    clear h h' h0
    go_wp2
    refine start_ (n := 17) (S := fun w' => w'.cell? ⟨gb, 0, none⟩ = some (.slice Ak 1 ck) ∧ w'.cell? ⟨gb, 1, none⟩ = some (.int .i64 1)) (ds := []) (bb 17 0) (by kernel_rfl) rfl rfl ⟨Q0.out, Q1.out⟩ (fun hHeld => ?_)
    refine with_tabW hypercubelaw1_RecOrder.tab17 hypercubelaw1_RecOrder.bits17 (fun HT_ HW_ => ?_)
    have HB := am (below_drew (Below.refl w10.heap.size w10))
    generalize w10.drew = wd at HB hHeld ⊢
    refine pu (i := 1) (N := some 79) (bb 17 2) HT_ ?_
    refine pu (i := 4) (N := some 82) (bb 17 18) HT_ ?_
    refine tk (i := 0) (N := some 78) (bb 17 19) HT_ HW_ hHeld ?_
    refine tk (i := 3) (N := some 81) (bb 17 27) HT_ HW_ hHeld ?_
    refine one_ (i := 2) (N := some 80) (bb 17 31) rfl rfl (one_of HT_.out (by kernel_rfl)) (by decide) (fun K hK => ?_)
    refine goes_ Try.func27 (by kernel_rfl) rfl #[.agg #[.slice Ak ([1] : List Int).length ck, .int .i64 1], .slice Al l.length cl] (by rfl) rfl rfl (by (try simp only [List.map_toArray, List.map_cons, List.map_nil]); first | done | rfl) ?_
    with_reducible refine (rec_Sound.calls k Ak ck [1] 1 Al cl l b _ (Kd.C_below HCr.out HB.out) HCL.out (Kd.C_below HM6r.out.2 HB.out) HM6r.out.1 HQ3.out).mono ?_
    rintro e wd2 ⟨rfl, hb⟩
    replace HB := am (below_step HB.out hb)
    clear hb
    refine ⟨_, rfl, ?_⟩
    refine hK.out _ _ ⟨(HB.out.cell (World.block_lt_of_cell? w10 _ Q0.out)).trans Q0.out, (HB.out.cell (World.block_lt_of_cell? w10 _ Q1.out)).trans Q1.out⟩ (fun hHeld => ?_)
    clear hK K
    refine nm ?_
    refine one_ (i := 5) (N := some 83) (bb 17 63) rfl rfl (one_of HT_.out (by kernel_rfl)) (by decide) (fun K hK => ?_)
    refine goes_ Try.func27 (by kernel_rfl) rfl #[.agg #[.slice Ak ([1] : List Int).length ck, .int .i64 1], .slice A19 l.length c19] (by rfl) rfl rfl (by (try simp only [List.map_toArray, List.map_cons, List.map_nil]); first | done | rfl) ?_
    with_reducible refine (HCALL.out _ HB.out).mono ?_
    rintro e wd3 ⟨rfl, hb⟩
    replace HB := am (below_step HB.out hb)
    clear hb
    refine ⟨_, rfl, ?_⟩
    refine hK.out _ _ ⟨(HB.out.cell (World.block_lt_of_cell? w10 _ Q0.out)).trans Q0.out, (HB.out.cell (World.block_lt_of_cell? w10 _ Q1.out)).trans Q1.out⟩ (fun hHeld => ?_)
    clear hK K
    refine nm ?_
    refine pu (i := 6) (N := some 84) (bb 17 127) HT_ ?_
    refine pu (i := 7) (N := some 85) (bb 17 255) HT_ ?_
    refine pu (i := 9) (N := some 87) (bb 17 767) HT_ ?_
    refine pu (i := 12) (N := some 90) (bb 17 4863) HT_ ?_
    refine tk (i := 8) (N := some 86) (bb 17 5119) HT_ HW_ hHeld ?_
    refine tk (i := 11) (N := some 89) (bb 17 7167) HT_ HW_ hHeld ?_
    refine one_ (i := 10) (N := some 88) (bb 17 8191) rfl rfl (one_of HT_.out (by kernel_rfl)) (by decide) (fun K hK => ?_)
    refine goes_ Try.func27 (by kernel_rfl) rfl #[.agg #[.slice Ak ([1] : List Int).length ck, .int .i64 1], .slice Al l.length cl] (by rfl) rfl rfl (by (try simp only [List.map_toArray, List.map_cons, List.map_nil]); first | done | rfl) ?_
    with_reducible refine (rec_Sound.calls k Ak ck [1] 1 Al cl l b _ (Kd.C_below HCr.out HB.out) HCL.out (Kd.C_below HM6r.out.2 HB.out) HM6r.out.1 HQ3.out).mono ?_
    rintro e wd4 ⟨rfl, hb⟩
    replace HB := am (below_step HB.out hb)
    clear hb
    refine ⟨_, rfl, ?_⟩
    refine hK.out _ _ ⟨(HB.out.cell (World.block_lt_of_cell? w10 _ Q0.out)).trans Q0.out, (HB.out.cell (World.block_lt_of_cell? w10 _ Q1.out)).trans Q1.out⟩ (fun hHeld => ?_)
    clear hK K
    refine nm ?_
    refine one_ (i := 13) (N := some 91) (bb 17 16383) rfl rfl (one_of HT_.out (by kernel_rfl)) (by decide) (fun K hK => ?_)
    refine goes_ Try.func28 (by kernel_rfl) rfl #[.agg #[.slice Ak ([1] : List Int).length ck, .int .i64 1], .slice Al l.length cl] (by rfl) rfl rfl (by (try simp only [List.map_toArray, List.map_cons, List.map_nil]); first | done | rfl) ?_
    with_reducible refine (hypercuberef1_Sound.calls k Ak ck [1] 1 Al cl l b _ (Kd.C_below HCr.out HB.out) HCL.out (Kd.C_below HM6r.out.2 HB.out) HM6r.out.1 HQ5.out).mono ?_
    rintro e wd5 ⟨rfl, hb⟩
    replace HB := am (below_step HB.out hb)
    clear hb
    refine ⟨_, rfl, ?_⟩
    refine hK.out _ _ ⟨(HB.out.cell (World.block_lt_of_cell? w10 _ Q0.out)).trans Q0.out, (HB.out.cell (World.block_lt_of_cell? w10 _ Q1.out)).trans Q1.out⟩ (fun hHeld => ?_)
    clear hK K
    refine nm ?_
    refine pu (i := 14) (N := some 92) (bb 17 32767) HT_ ?_
    refine pu (i := 15) (N := some 93) (bb 17 65535) HT_ ?_
    refine pu (i := 16) (N := some 4) (bb 17 131071) HT_ ?_
    refine done_ (done_of HT_.out (by kernel_rfl)) ?_
    go_wp2
    go_ret
    exact ⟨rfl, below_step HBr.out HB.out⟩
theorem hypercubelaw1_RecOrder.walk (P : hypercubelaw1_RecOrder.Pure) (a0 : Option Addr) (len0 cap0 : Nat) (z0 : List Int) (a1 : Option Addr) (len1 cap1 : Nat) (z1 : List Int) (w : World) (w0 : (a0 = none ∧ len0 = 0 ∧ cap0 = 0 ∧ z0 = []) ∨ ∃ x, a0 = some x ∧ len0 ≤ cap0 ∧ cap0 ≤ maxLen ∧ z0.length = cap0 ∧ (∀ i, i < z0.length → w.cell? (x.add i) = some (.int .i64 (z0.getD i 0))) ∧ ∀ n ∈ z0, (Lit.int .i64 n).wf = true) (y0 : len0 * 8 ≤ 140737488351232) (w1 : (a1 = none ∧ len1 = 0 ∧ cap1 = 0 ∧ z1 = []) ∨ ∃ x, a1 = some x ∧ len1 ≤ cap1 ∧ cap1 ≤ maxLen ∧ z1.length = cap1 ∧ (∀ i, i < z1.length → w.cell? (x.add i) = some (.int .i64 (z1.getD i 0))) ∧ ∀ n ∈ z1, (Lit.int .i64 n).wf = true) (y1 : len1 * 8 ≤ 140737488351232) :
  Calls Try.prog 13 #[.slice a0 len0 cap0, .slice a1 len1 cap1] w fun e w' => e = .returned (.bool true) ∧ Below w.heap.size w w' := by
 obtain ⟨l0, rfl, hr0, hm0, hw0, hc0⟩ := ReadsInt.ofRowC w0
 obtain ⟨l1, rfl, hr1, hm1, hw1, hc1⟩ := ReadsInt.ofRowC w1
 obtain ⟨k, b, h1, h2, h3, h4, h5⟩ := P l0 l1 hm0 y0 hw0 hm1 y1 hw1
 exact hypercubelaw1_RecOrder.calls k _ _ l0 _ _ l1 w (Kd.C_of_reads (d := (0 : Int)) (h1 := fun _ => rfl) hr0) hc0 (Kd.C_of_reads (d := (0 : Int)) (h1 := fun _ => rfl) hr1) hc1 h1 h2 h3 h4 h5
end Go.Proofs.Ytlacfpbfnedgdaa.Q
