-- packed by wip/tools/pack.py (a program of this session) out of its own texts
import Derived.Test.YtlacfpbfnedgdaaPRecOwn0
import Derived.ArgAppend
import Derived.Below
import Derived.BigQuiet
import Derived.Deep.AppendLies
import Derived.Deep.CutBlock
import Derived.Deep.DeepCutAuto
import Derived.Deep.Draws
import Derived.Deep.LoopGhost
import Derived.Deep.OwnRows
import Derived.Deep.QuietTactic
import Derived.Deep.RegionHeld3
import Derived.Deep.RegionWith
import Derived.KernelRfl
import Derived.Laws.BitsLemmas
import Derived.Laws.BytesArg
import Derived.Laws.CopyOwn
import Derived.Laws.IdiomCopy
import Derived.Laws.MakeOwn
import Derived.Laws.OwnMore
import Derived.Laws.Rows
import Derived.Laws.Slices
import Derived.Lib.AppendStr
import Derived.Lib.ConvBytes
import Derived.Lib.SlBytesConst
import Derived.Lib.SliceRun
import Derived.Maps.AppendAt
import Derived.OrdersHeld
import Derived.OwnWalk
import Derived.RegionTactic
import Derived.RowKit
import Derived.RowKit3
import Derived.Shelf.Abstract
import Derived.Tactics
import Derived.Test.YtlacfpbfnedgdaaProg
import Derived.WalkKit
import Derived.WalkSpells
import Derived.WideLaws
import Derived.Test.YtlacfpbfnedgdaaPRecOwn1
import Derived.Test.YtlacfpbfnedgdaaPRecOwn3
import Derived.Test.YtlacfpbfnedgdaaPRecOwn4
import Derived.Test.YtlacfpbfnedgdaaPRecOwn5
import Derived.Test.YtlacfpbfnedgdaaPRecOwn6
import Derived.Test.YtlacfpbfnedgdaaPRecOwn7
import Derived.Test.YtlacfpbfnedgdaaPRecOwn8
import Derived.Test.YtlacfpbfnedgdaaPRecOwn9
import Derived.Test.YtlacfpbfnedgdaaPRecOwn10
import Derived.Test.YtlacfpbfnedgdaaPRecOwn11
namespace Go.Proofs.Ytlacfpbfnedgdaa.Q
open Go.RowKit Go.Proofs.YtlacfpbfnedgdaaW.PrintWords Go.Proofs.YtlacfpbfnedgdaaW.PrintLast Go.Proofs.YtlacfpbfnedgdaaW.PrintMore
attribute [local go_sem] max2_int min2_int max_two min_two max_three min_three max_four min_four
set_option linter.unusedVariables false
set_option linter.unusedSimpArgs false
def hypercubelaw1_known.f (k : Nat)  : Option (Bool) := (rec_Decode.f ([] : List Int)).bind fun bt185 => ((some (([3] : List Int) : List Int)).bind fun y194 => ((some (([(⟨(([2] : List Int)), (([7] : List Int))⟩ : S33)] : List (S33)) : List (S33))).bind fun y204 => ((rec_Encode.f k y194 1 y204).bind fun t207 => ((rec_Decode.f t207).bind fun bt210 => (if bt185.2.2.2 = 1 then (if bt210.2.2.2 = 0 then ((hypercuberef1_Same.f k y194 1 y204 bt210.1 bt210.2.1 bt210.2.2.1).bind fun t219 => (if t219 = true then ((rec_Check.f y194 1).bind fun t220 => (if t220 = true then (if 0 < (y204.length : Int) then ((rec_Right.f k y194 1 ((rd_T33 y204 0).f0) ((rd_T33 y204 0).f1)).bind fun t222 => (if t222 = true then ((rec_Sound.f k y194 1 y204).bind fun t223 => (some t223)) else (none))) else (none)) else (none))) else (none))) else (none)) else (none))))))
theorem hypercubelaw1_known.mono : ∀ k, LeO (hypercubelaw1_known.f k ) (hypercubelaw1_known.f (k + 1) ) := by
 intro  k
 unfold hypercubelaw1_known.f
 repeat' first
   | (with_reducible exact hypercuberef1_Same.mono _ _ _ _ _ _ _)
   | (with_reducible exact rec_Encode.mono _ _ _ _)
   | (with_reducible exact rec_Right.mono _ _ _ _ _)
   | (with_reducible exact rec_Sound.mono _ _ _ _)
   | (with_reducible exact LeO.refl _)
   | (with_reducible exact LeO.none _)
   | (with_reducible refine LeO.ite ?_ ?_)
   | (with_reducible refine LeO.bind ?_ (fun _ => ?_))
   | exact hypercuberef1_Same.mono _ _ _ _ _ _ _
   | exact rec_Encode.mono _ _ _ _
   | exact rec_Right.mono _ _ _ _ _
   | exact rec_Sound.mono _ _ _ _
   | exact LeO.none _
   | refine LeO.ite ?_ ?_
   | refine LeO.bind ?_ (fun _ => ?_)
def hypercubelaw1_known.T5 : Bool × List (List Nat × List Nat) := (true, [([], []), ([0], [0]), ([1], [1]), ([2], [2]), ([3, 2], [2, 3]), ([2, 4], [2, 4]), ([5, 2], [5]), ([6], [6]), ([6], [6]), ([6], [6]), ([6], [6]), ([7, 8, 9, 10, 6, 6], [6, 7, 8, 9, 10]), ([6, 11], [6, 11]), ([12, 11], [12]), ([13], [13]), ([14, 13, 13], [13, 14]), ([13, 15], [13, 15]), ([16, 15], [16]), ([17], [17]), ([17], [17]), ([19, 17], [17, 19]), ([20, 17], [17, 20]), ([18, 21, 17, 17], [17, 18, 21]), ([17, 22], [17, 22]), ([23, 22], [23]), ([24], [24]), ([24], [24]), ([25, 26, 24, 24], [24, 25, 26]), ([24, 27], [24, 27]), ([28, 27, 0, 1, 2, 3, 4, 5, 6, 7, 8, 9, 10, 11, 12, 13, 14, 15, 16, 17, 18, 19, 20, 21, 22, 23, 24, 25, 26, 27, 28], [28])])
def hypercubelaw1_known.B5 : List Nat := [0, 1, 3, 7, 15, 31, 63, 127, 127, 127, 127, 2047, 4095, 8191, 16383, 32767, 65535, 131071, 262143, 262143, 786431, 1835007, 4194303, 8388607, 16777215, 33554431, 33554431, 134217727, 268435455, 536870911]
theorem hypercubelaw1_known.tab5 : rtab .any (opsOf Try.f14 5) = hypercubelaw1_known.T5 := by kernel_rfl
theorem hypercubelaw1_known.bits5 : waitsOk hypercubelaw1_known.T5.2 hypercubelaw1_known.B5 = true := by kernel_rfl
set_option maxHeartbeats 8000000 in
set_option maxRecDepth 100000 in
theorem hypercubelaw1_known.calls (k : Nat)  (r : Bool) (w : World) (h : hypercubelaw1_known.f k  = some r) :
  Calls Try.prog 14 #[] w fun e w' => e = .returned (.bool r) ∧ Below w.heap.size w w' := by
 have hu24 := Try.underlying24
 have hu33 := Try.underlying33
 have HB := am (Below.refl w.heap.size w)
 have H : ((rec_Decode.f ([] : List Int)).bind fun bt185 => ((some (([3] : List Int) : List Int)).bind fun y194 => ((some (([(⟨(([2] : List Int)), (([7] : List Int))⟩ : S33)] : List (S33)) : List (S33))).bind fun y204 => ((rec_Encode.f k y194 1 y204).bind fun t207 => ((rec_Decode.f t207).bind fun bt210 => (if bt185.2.2.2 = 1 then (if bt210.2.2.2 = 0 then ((hypercuberef1_Same.f k y194 1 y204 bt210.1 bt210.2.1 bt210.2.2.1).bind fun t219 => (if t219 = true then ((rec_Check.f y194 1).bind fun t220 => (if t220 = true then (if 0 < (y204.length : Int) then ((rec_Right.f k y194 1 ((rd_T33 y204 0).f0) ((rd_T33 y204 0).f1)).bind fun t222 => (if t222 = true then ((rec_Sound.f k y194 1 y204).bind fun t223 => (some t223)) else (none))) else (none)) else (none))) else (none))) else (none)) else (none))))))) = some r := h
 clear h
 replace H := Option.bind_eq_some_iff.mp H
 obtain ⟨⟨t185, t188, t189, t192⟩, A10, H⟩ := H
 replace H : ((some (([3] : List Int) : List Int)).bind fun y194 => ((some (([(⟨(([2] : List Int)), (([7] : List Int))⟩ : S33)] : List (S33)) : List (S33))).bind fun y204 => ((rec_Encode.f k y194 1 y204).bind fun t207 => ((rec_Decode.f t207).bind fun bt210 => (if t192 = 1 then (if bt210.2.2.2 = 0 then ((hypercuberef1_Same.f k y194 1 y204 bt210.1 bt210.2.1 bt210.2.2.1).bind fun t219 => (if t219 = true then ((rec_Check.f y194 1).bind fun t220 => (if t220 = true then (if 0 < (y204.length : Int) then ((rec_Right.f k y194 1 ((rd_T33 y204 0).f0) ((rd_T33 y204 0).f1)).bind fun t222 => (if t222 = true then ((rec_Sound.f k y194 1 y204).bind fun t223 => (some t223)) else (none))) else (none)) else (none))) else (none))) else (none)) else (none)))))) = some r := H
 have A1 := am A10
 clear A10
 obtain ⟨y194, hy194⟩ : ∃ y_ : List Int, y_ = (([3] : List Int)) := ⟨_, rfl⟩
 replace H : ((some (([(⟨(([2] : List Int)), (([7] : List Int))⟩ : S33)] : List (S33)) : List (S33))).bind fun y204 => ((rec_Encode.f k y194 1 y204).bind fun t207 => ((rec_Decode.f t207).bind fun bt210 => (if t192 = 1 then (if bt210.2.2.2 = 0 then ((hypercuberef1_Same.f k y194 1 y204 bt210.1 bt210.2.1 bt210.2.2.1).bind fun t219 => (if t219 = true then ((rec_Check.f y194 1).bind fun t220 => (if t220 = true then (if 0 < (y204.length : Int) then ((rec_Right.f k y194 1 ((rd_T33 y204 0).f0) ((rd_T33 y204 0).f1)).bind fun t222 => (if t222 = true then ((rec_Sound.f k y194 1 y204).bind fun t223 => (some t223)) else (none))) else (none)) else (none))) else (none))) else (none)) else (none))))) = some r := by first | (rw [hy194]; with_reducible exact H) | (have H2_ := (Option.bind_some _ _).symm.trans H; rw [hy194]; with_reducible exact H2_) | (have H2_ := (Option.bind_some _ _).symm.trans H; with_reducible exact H2_) | with_reducible exact H | (rw [hy194]; exact H) | exact H
 have Ny194 := am hy194
 clear hy194
 obtain ⟨y198, hy198⟩ : ∃ y_ : List Int, y_ = (([2] : List Int)) := ⟨_, rfl⟩
 replace H : ((some (([(⟨y198, (([7] : List Int))⟩ : S33)] : List (S33)) : List (S33))).bind fun y204 => ((rec_Encode.f k y194 1 y204).bind fun t207 => ((rec_Decode.f t207).bind fun bt210 => (if t192 = 1 then (if bt210.2.2.2 = 0 then ((hypercuberef1_Same.f k y194 1 y204 bt210.1 bt210.2.1 bt210.2.2.1).bind fun t219 => (if t219 = true then ((rec_Check.f y194 1).bind fun t220 => (if t220 = true then (if 0 < (y204.length : Int) then ((rec_Right.f k y194 1 ((rd_T33 y204 0).f0) ((rd_T33 y204 0).f1)).bind fun t222 => (if t222 = true then ((rec_Sound.f k y194 1 y204).bind fun t223 => (some t223)) else (none))) else (none)) else (none))) else (none))) else (none)) else (none))))) = some r := by first | (rw [hy198]; with_reducible exact H) | (have H2_ := (Option.bind_some _ _).symm.trans H; rw [hy198]; with_reducible exact H2_) | (have H2_ := (Option.bind_some _ _).symm.trans H; with_reducible exact H2_) | with_reducible exact H | (rw [hy198]; exact H) | exact H
 have Ny198 := am hy198
 clear hy198
 obtain ⟨y201, hy201⟩ : ∃ y_ : List Int, y_ = (([7] : List Int)) := ⟨_, rfl⟩
 replace H : ((some (([(⟨y198, y201⟩ : S33)] : List (S33)) : List (S33))).bind fun y204 => ((rec_Encode.f k y194 1 y204).bind fun t207 => ((rec_Decode.f t207).bind fun bt210 => (if t192 = 1 then (if bt210.2.2.2 = 0 then ((hypercuberef1_Same.f k y194 1 y204 bt210.1 bt210.2.1 bt210.2.2.1).bind fun t219 => (if t219 = true then ((rec_Check.f y194 1).bind fun t220 => (if t220 = true then (if 0 < (y204.length : Int) then ((rec_Right.f k y194 1 ((rd_T33 y204 0).f0) ((rd_T33 y204 0).f1)).bind fun t222 => (if t222 = true then ((rec_Sound.f k y194 1 y204).bind fun t223 => (some t223)) else (none))) else (none)) else (none))) else (none))) else (none)) else (none))))) = some r := by first | (rw [hy201]; with_reducible exact H) | (have H2_ := (Option.bind_some _ _).symm.trans H; rw [hy201]; with_reducible exact H2_) | (have H2_ := (Option.bind_some _ _).symm.trans H; with_reducible exact H2_) | with_reducible exact H | (rw [hy201]; exact H) | exact H
 have Ny201 := am hy201
 clear hy201
 obtain ⟨y204, hy204⟩ : ∃ y_ : List (S33), y_ = (([(⟨y198, y201⟩ : S33)] : List (S33))) := ⟨_, rfl⟩
 replace H : ((rec_Encode.f k y194 1 y204).bind fun t207 => ((rec_Decode.f t207).bind fun bt210 => (if t192 = 1 then (if bt210.2.2.2 = 0 then ((hypercuberef1_Same.f k y194 1 y204 bt210.1 bt210.2.1 bt210.2.2.1).bind fun t219 => (if t219 = true then ((rec_Check.f y194 1).bind fun t220 => (if t220 = true then (if 0 < (y204.length : Int) then ((rec_Right.f k y194 1 ((rd_T33 y204 0).f0) ((rd_T33 y204 0).f1)).bind fun t222 => (if t222 = true then ((rec_Sound.f k y194 1 y204).bind fun t223 => (some t223)) else (none))) else (none)) else (none))) else (none))) else (none)) else (none)))) = some r := by first | (rw [hy204]; with_reducible exact H) | (have H2_ := (Option.bind_some _ _).symm.trans H; rw [hy204]; with_reducible exact H2_) | (have H2_ := (Option.bind_some _ _).symm.trans H; with_reducible exact H2_) | with_reducible exact H | (rw [hy204]; exact H) | exact H
 have Ny204 := am hy204
 clear hy204
 replace H := Option.bind_eq_some_iff.mp H
 obtain ⟨t207, A20, H⟩ := H
 replace H : ((rec_Decode.f t207).bind fun bt210 => (if t192 = 1 then (if bt210.2.2.2 = 0 then ((hypercuberef1_Same.f k y194 1 y204 bt210.1 bt210.2.1 bt210.2.2.1).bind fun t219 => (if t219 = true then ((rec_Check.f y194 1).bind fun t220 => (if t220 = true then (if 0 < (y204.length : Int) then ((rec_Right.f k y194 1 ((rd_T33 y204 0).f0) ((rd_T33 y204 0).f1)).bind fun t222 => (if t222 = true then ((rec_Sound.f k y194 1 y204).bind fun t223 => (some t223)) else (none))) else (none)) else (none))) else (none))) else (none)) else (none))) = some r := H
 have A2 := am A20
 clear A20
 replace H := Option.bind_eq_some_iff.mp H
 obtain ⟨⟨t210, t213, t214, t217⟩, A30, H⟩ := H
 replace H : (if t192 = 1 then (if t217 = 0 then ((hypercuberef1_Same.f k y194 1 y204 t210 t213 t214).bind fun t219 => (if t219 = true then ((rec_Check.f y194 1).bind fun t220 => (if t220 = true then (if 0 < (y204.length : Int) then ((rec_Right.f k y194 1 ((rd_T33 y204 0).f0) ((rd_T33 y204 0).f1)).bind fun t222 => (if t222 = true then ((rec_Sound.f k y194 1 y204).bind fun t223 => (some t223)) else (none))) else (none)) else (none))) else (none))) else (none)) else (none)) = some r := H
 have A3 := am A30
 clear A30
 by_cases c4 : t192 = 1
 ·rw [if_pos c4] at H
  have c4b0 : (t192 == 1) = true := beq_iff_eq.mpr c4
  have c4b1 : (t192 != 1) = false := bne_eq_false_iff_eq.mpr c4
  clear c4
  by_cases c5 : t217 = 0
  ·rw [if_pos c5] at H
   have c5b0 : (t217 == 0) = true := beq_iff_eq.mpr c5
   have c5b1 : (t217 != 0) = false := bne_eq_false_iff_eq.mpr c5
   clear c5
   replace H := Option.bind_eq_some_iff.mp H
   obtain ⟨t219, A60, H⟩ := H
   replace H : (if t219 = true then ((rec_Check.f y194 1).bind fun t220 => (if t220 = true then (if 0 < (y204.length : Int) then ((rec_Right.f k y194 1 ((rd_T33 y204 0).f0) ((rd_T33 y204 0).f1)).bind fun t222 => (if t222 = true then ((rec_Sound.f k y194 1 y204).bind fun t223 => (some t223)) else (none))) else (none)) else (none))) else (none)) = some r := H
   have A6 := am A60
   clear A60
   by_cases c7 : t219 = true
   ·subst c7
    have H1 : ((rec_Check.f y194 1).bind fun t220 => (if t220 = true then (if 0 < (y204.length : Int) then ((rec_Right.f k y194 1 ((rd_T33 y204 0).f0) ((rd_T33 y204 0).f1)).bind fun t222 => (if t222 = true then ((rec_Sound.f k y194 1 y204).bind fun t223 => (some t223)) else (none))) else (none)) else (none))) = some r := by rw [if_pos rfl] at H; exact H
    clear H
    have H := H1
    clear H1
    replace H := Option.bind_eq_some_iff.mp H
    obtain ⟨t220, A80, H⟩ := H
    replace H : (if t220 = true then (if 0 < (y204.length : Int) then ((rec_Right.f k y194 1 ((rd_T33 y204 0).f0) ((rd_T33 y204 0).f1)).bind fun t222 => (if t222 = true then ((rec_Sound.f k y194 1 y204).bind fun t223 => (some t223)) else (none))) else (none)) else (none)) = some r := H
    have A8 := am A80
    clear A80
    by_cases c9 : t220 = true
    ·subst c9
     have H1 : (if 0 < (y204.length : Int) then ((rec_Right.f k y194 1 ((rd_T33 y204 0).f0) ((rd_T33 y204 0).f1)).bind fun t222 => (if t222 = true then ((rec_Sound.f k y194 1 y204).bind fun t223 => (some t223)) else (none))) else (none)) = some r := by rw [if_pos rfl] at H; exact H
     clear H
     have H := H1
     clear H1
     by_cases c10 : 0 < (y204.length : Int)
     ·rw [if_pos c10] at H
      have c10b0 : decide (0 < (y204.length : Int)) = true := decide_eq_true c10
      have c10b1 : decide (0 < y204.length) = true := decide_eq_true (by omega)
      clear c10
      replace H := Option.bind_eq_some_iff.mp H
      obtain ⟨t222, A110, H⟩ := H
      replace H : (if t222 = true then ((rec_Sound.f k y194 1 y204).bind fun t223 => (some t223)) else (none)) = some r := H
      have A11 := am A110
      clear A110
      by_cases c12 : t222 = true
      ·subst c12
       have H1 : ((rec_Sound.f k y194 1 y204).bind fun t223 => (some t223)) = some r := by rw [if_pos rfl] at H; exact H
       clear H
       have H := H1
       clear H1
       replace H := Option.bind_eq_some_iff.mp H
       obtain ⟨t223, A130, H⟩ := H
       replace H : (some t223) = some r := H
       have A13 := am A130
       clear A130
       obtain rfl := Option.some.inj H
       go_enter Try.func14, Try.ntmps14
       try go_wp2_with (first | ((with_reducible refine gate_callee (f := 23) rfl ?_); refine goesL_ (some 10) rfl rfl Try.func23 (by kernel_rfl) rfl #[.slice none 0 0] rfl (by (try simp only [List.map_toArray, List.map_cons, List.map_nil]); first | done | rfl | (simp only [List.length_drop, List.length_take]; rfl)) ?_; (refine (rec_Decode.calls _ _ ([] : List Int) t185 t188 t189 t192 _ ?side1 ?side2 A1.out).mono ?_); (case side1 => exact Kd.C_nil _ _); (case side2 => exact Nat.le_refl _); rintro e w14 ⟨v186, v190, rfl, ho0, ho1, hb⟩; refine ⟨_, rfl, ?_⟩; have n0_ := am (Kd.R_lower ho0 (below_size (by repeat (first | (with_reducible first | exact HB.out | apply below_alloc | apply pw_below_drewN | apply below_drew1) | exact HB.out)))); have n1_ := am (Kd.N_lower (Kd.N_mono (ok' := fun k_ => some k_ ≠ (v186 : Value).ownBlock) (Kd.S_N (Kd.S_bound ho1)) (fun k_ hk_ => hk_.1)) (below_size (by repeat (first | (with_reducible first | exact HB.out | apply below_alloc | apply pw_below_drewN | apply below_drew1) | exact HB.out)))); have n2_ := am (below_step (by repeat (first | (with_reducible first | exact HB.out | apply below_alloc | apply pw_below_drewN | apply below_drew1) | exact HB.out)) hb); clear HB; have HO187 := n0_; have HO191 := n1_; have HB := n2_; clear n0_ n1_ n2_; (try clear hb); (try clear hb2); (try clear hk); (try clear hi); (try clear ho0); (try clear ho1)) | ((with_reducible refine gate_dst (N := 1) rfl ?_); refine box_event ?hg (N := 1) ?hd (cs := #[.slice none 0 0, .int .i64 0]) (t := 24) ?hr ?_; (case hd => rfl); (case hg => rfl); (case hr => first | (go_simp; done) | (go_simp; rfl)); intro gb193 hg w15 hbox hb; have n0_ := am (Kd.R_below (by (with_reducible repeat (first | apply Kd.R_alloc | apply Kd.R_drewN | apply Kd.R_drew)); exact HO187.out) hb); have n1_ := am (Kd.N_below (Kd.N_elderB (by (with_reducible repeat (first | apply Kd.N_alloc | apply Kd.N_drewN | apply Kd.N_drew)); exact HO191.out) gb193 (Nat.le_of_eq hg.symm)) hb); have n2_ := am (below_step (by repeat (first | (with_reducible first | exact HB.out | apply below_alloc | apply pw_below_drewN | apply below_drew1) | exact HB.out)) hb); have n3_ := am (hbox); have n4_ := am ((by rw [hg]; exact (below_size (by repeat (first | (with_reducible first | exact HB.out | apply below_alloc | apply pw_below_drewN | apply below_drew1) | exact HB.out))) : w.heap.size ≤ gb193)); have n5_ := am ((by rw [hg]; exact (below_size (by repeat (first | (with_reducible first | exact HB.out | apply below_alloc | apply pw_below_drewN | apply below_drew1) | exact HB.out))) : w.heap.size ≤ gb193)); clear HO187; clear HO191; clear HB; have HO187 := n0_; have HO191 := n1_; have HB := n2_; have BK193 := n3_; have GW193 := n4_; have GE193 := n5_; clear n0_ n1_ n2_ n3_ n4_ n5_; clear hb hbox hg; obtain ⟨Ao16, co16, eo16⟩ := Kd.R_slice HO187.out; subst eo16; have hcz17_0 : w15.cell? ⟨gb193, 0, none⟩ = some (.slice none 0 0) := (blk_cell BK193.out 0).trans rfl; have hcz17_1 : w15.cell? ⟨gb193, 1, none⟩ = some (.int .i64 0) := (blk_cell BK193.out 1).trans rfl; have hfz17_0 := blk_frozen BK193.out 0; have hfz17_1 := blk_frozen BK193.out 1) | ((with_reducible refine gate_dst (N := 14) rfl ?_); refine Kd.R_lit (Kd.int .i64) _ 3 ?hg (N := 14) ?hd (xs := ([3] : List Int)) (inner := [.int .i64 3]) (ok := fun _ => True) (okp := fun _ => True) ?hr ?hp (fun _ hk => hk) trivial (Below.refl _ _) (Nat.le_refl _) (by simp) ?_; (case hd => rfl); (case hg => rfl); (case hr => first | (go_simp; done) | (go_simp; rfl)); (case hp => exact (Reps.one (show Kd.M (Kd.int .i64) _ _ _ 3 [.int .i64 3] from rfl) (Reps.none _ _))); intro v195 w18 ho19 hb hg_ hnew_; clear hg_ hnew_; (first | rw [← Ny194.out] at ho19 | (simp only [Int.reduceToNat] at ho19; rw [← Ny194.out] at ho19)); have n0_ := am (Kd.R_elder' (by (with_reducible repeat (first | apply Kd.R_alloc | apply Kd.R_drewN | apply Kd.R_drew)); exact (Kd.R_mono (Kd.R_far (p := ⟨gb193, 1, none⟩) (Kd.R_far (p := ⟨gb193, 0, none⟩) (Kd.R_types HO187.out BK193.out (by decide)) (fun _ hk => hk.2) (.slice Ao16 t185.length co16)) (fun _ hk => hk.2) (.int .i64 t188)) (fun _ h_ => h_.1))) (Kd.R_base ho19) hb); have n1_ := am (Kd.N_elder' (by (with_reducible repeat (first | apply Kd.N_alloc | apply Kd.N_drewN | apply Kd.N_drew)); exact (Kd.N_mono (Kd.N_far (p := ⟨gb193, 1, none⟩) (Kd.N_far (p := ⟨gb193, 0, none⟩) (Kd.N_mono HO191.out (fun k_ hk => (⟨hk, hk.2⟩ : _ ∧ k_ ≠ gb193))) (fun _ hk => hk.2) (.slice Ao16 t185.length co16)) (fun _ hk => hk.2) (.int .i64 t188)) (fun _ h_ => h_.1))) (Kd.R_base ho19) hb); have n2_ := am (Kd.R_lower (Kd.R_new' ho19 (Kd.R_lt (by (with_reducible repeat (first | apply Kd.R_alloc | apply Kd.R_drewN | apply Kd.R_drew)); exact (Kd.R_mono (Kd.R_far (p := ⟨gb193, 1, none⟩) (Kd.R_far (p := ⟨gb193, 0, none⟩) (Kd.R_types HO187.out BK193.out (by decide)) (fun _ hk => hk.2) (.slice Ao16 t185.length co16)) (fun _ hk => hk.2) (.int .i64 t188)) (fun _ h_ => h_.1))))) (below_size (by repeat (first | (with_reducible first | exact HB.out | apply below_alloc | apply pw_below_drewN | apply below_drew1 | refine below_set ?_ GE193.out) | exact HB.out)))); have n3_ := am (blk_below (g := gb193) (o := .cells #[.slice Ao16 t185.length co16, .int .i64 t188] 24 (0, 0)) (by (with_reducible repeat (first | refine blk_drewN ?_ _ | refine blk_drew ?_ | refine blk_alloc ?_ _)); refine blk_put (cs := #[.slice Ao16 t185.length co16, .int .i64 0]) ?_ 1 _ rfl; (with_reducible repeat (first | refine blk_drewN ?_ _ | refine blk_drew ?_ | refine blk_alloc ?_ _)); refine blk_put (cs := #[.slice none 0 0, .int .i64 0]) ?_ 0 _ rfl; (with_reducible repeat (first | refine blk_drewN ?_ _ | refine blk_drew ?_ | refine blk_alloc ?_ _)); exact BK193.out) hb); have n4_ := am (below_step (by repeat (first | (with_reducible first | exact HB.out | apply below_alloc | apply pw_below_drewN | apply below_drew1 | refine below_set ?_ GE193.out) | exact HB.out)) hb); clear HO187; clear HO191; clear BK193; clear HB; have HO187 := n0_; have HO191 := n1_; have HO196 := n2_; have BK193 := n3_; have HB := n4_; clear n0_ n1_ n2_ n3_ n4_; clear hb ho19; obtain ⟨Ao20, co20, eo20⟩ := Kd.R_slice HO196.out; subst eo20) | ((with_reducible refine gate_dst (N := 4) rfl ?_); refine box_event ?hg (N := 4) ?hd (cs := #[.slice none 0 0, .int .i64 0]) (t := 24) ?hr ?_; (case hd => rfl); (case hg => rfl); (case hr => first | (go_simp; done) | (go_simp; rfl)); intro gb197 hg w21 hbox hb; have n0_ := am (Kd.R_below (by (with_reducible repeat (first | apply Kd.R_alloc | apply Kd.R_drewN | apply Kd.R_drew)); exact HO187.out) hb); have n1_ := am (Kd.N_below (Kd.N_elderB (by (with_reducible repeat (first | apply Kd.N_alloc | apply Kd.N_drewN | apply Kd.N_drew)); exact HO191.out) gb197 (Nat.le_of_eq hg.symm)) hb); have n2_ := am (Kd.R_below (by (with_reducible repeat (first | apply Kd.R_alloc | apply Kd.R_drewN | apply Kd.R_drew)); exact HO196.out) hb); have n3_ := am (blk_below (g := gb193) (o := .cells #[.slice Ao16 t185.length co16, .int .i64 t188] 24 (0, 0)) (by (with_reducible repeat (first | refine blk_drewN ?_ _ | refine blk_drew ?_ | refine blk_alloc ?_ _)); exact BK193.out) hb); have n4_ := am (below_step (by repeat (first | (with_reducible first | exact HB.out | apply below_alloc | apply pw_below_drewN | apply below_drew1 | refine below_set ?_ GE193.out) | exact HB.out)) hb); have n5_ := am (hbox); have n6_ := am ((by rw [hg]; exact (below_size (by repeat (first | (with_reducible first | exact HB.out | apply below_alloc | apply pw_below_drewN | apply below_drew1 | refine below_set ?_ GE193.out) | exact HB.out))) : w.heap.size ≤ gb197)); have n7_ := am ((by rw [hg]; exact (below_size (by repeat (first | (with_reducible first | exact HB.out | apply below_alloc | apply pw_below_drewN | apply below_drew1 | refine below_set ?_ GE193.out) | exact HB.out))) : w.heap.size ≤ gb197)); have n8_ := am ((by rw [hg]; exact Nat.ne_of_lt (blk_lt (g := gb193) (o := .cells #[.slice Ao16 t185.length co16, .int .i64 t188] 24 (0, 0)) (by (with_reducible repeat (first | refine blk_drewN ?_ _ | refine blk_drew ?_ | refine blk_alloc ?_ _)); exact BK193.out)) : gb193 ≠ gb197)); have n9_ := am ((by rw [hg]; exact Nat.ne_of_gt (blk_lt (g := gb193) (o := .cells #[.slice Ao16 t185.length co16, .int .i64 t188] 24 (0, 0)) (by (with_reducible repeat (first | refine blk_drewN ?_ _ | refine blk_drew ?_ | refine blk_alloc ?_ _)); exact BK193.out)) : gb197 ≠ gb193)); clear HO187; clear HO191; clear HO196; clear BK193; clear HB; have HO187 := n0_; have HO191 := n1_; have HO196 := n2_; have BK193 := n3_; have HB := n4_; have BK197 := n5_; have GW197 := n6_; have GE197 := n7_; have NB193_197 := n8_; have NB197_193 := n9_; clear n0_ n1_ n2_ n3_ n4_ n5_ n6_ n7_ n8_ n9_; clear hb hbox hg; have hnb22 := NB197_193.out; have hnc22 := NB193_197.out; have hcz23_0 : w21.cell? ⟨gb197, 0, none⟩ = some (.slice none 0 0) := (blk_cell BK197.out 0).trans rfl; have hcz23_1 : w21.cell? ⟨gb197, 1, none⟩ = some (.int .i64 0) := (blk_cell BK197.out 1).trans rfl; have hfz23_0 := blk_frozen BK197.out 0; have hfz23_1 := blk_frozen BK197.out 1) | ((with_reducible refine gate_dst (N := 16) rfl ?_); refine Kd.R_lit (Kd.int .i64) _ 3 ?hg (N := 16) ?hd (xs := ([2] : List Int)) (inner := [.int .i64 2]) (ok := fun _ => True) (okp := fun _ => True) ?hr ?hp (fun _ hk => hk) trivial (Below.refl _ _) (Nat.le_refl _) (by simp) ?_; (case hd => rfl); (case hg => rfl); (case hr => first | (go_simp; done) | (go_simp; rfl)); (case hp => exact (Reps.one (show Kd.M (Kd.int .i64) _ _ _ 2 [.int .i64 2] from rfl) (Reps.none _ _))); intro v199 w24 ho25 hb hg_ hnew_; clear hg_ hnew_; (first | rw [← Ny198.out] at ho25 | (simp only [Int.reduceToNat] at ho25; rw [← Ny198.out] at ho25)); have n0_ := am (Kd.R_elder' (by (with_reducible repeat (first | apply Kd.R_alloc | apply Kd.R_drewN | apply Kd.R_drew)); exact (Kd.R_mono (Kd.R_far (p := ⟨gb197, 1, none⟩) (Kd.R_far (p := ⟨gb197, 0, none⟩) (Kd.R_types HO187.out BK197.out (by decide)) (fun _ hk => hk.2) (.slice Ao20 y194.length co20)) (fun _ hk => hk.2) (.int .i64 1)) (fun _ h_ => h_.1))) (Kd.R_base ho25) hb); have n1_ := am (Kd.N_elder' (by (with_reducible repeat (first | apply Kd.N_alloc | apply Kd.N_drewN | apply Kd.N_drew)); exact (Kd.N_mono (Kd.N_far (p := ⟨gb197, 1, none⟩) (Kd.N_far (p := ⟨gb197, 0, none⟩) (Kd.N_mono HO191.out (fun k_ hk => (⟨hk, hk.2⟩ : _ ∧ k_ ≠ gb197))) (fun _ hk => hk.2) (.slice Ao20 y194.length co20)) (fun _ hk => hk.2) (.int .i64 1)) (fun _ h_ => h_.1))) (Kd.R_base ho25) hb); have n2_ := am (Kd.R_elder' (by (with_reducible repeat (first | apply Kd.R_alloc | apply Kd.R_drewN | apply Kd.R_drew)); exact (Kd.R_mono (Kd.R_far (p := ⟨gb197, 1, none⟩) (Kd.R_far (p := ⟨gb197, 0, none⟩) (Kd.R_types HO196.out BK197.out (by decide)) (fun _ hk => hk.2) (.slice Ao20 y194.length co20)) (fun _ hk => hk.2) (.int .i64 1)) (fun _ h_ => h_.1))) (Kd.R_base ho25) hb); have n3_ := am (Kd.R_lower (Kd.R_new' (Kd.R_new' ho25 (Kd.R_lt (by (with_reducible repeat (first | apply Kd.R_alloc | apply Kd.R_drewN | apply Kd.R_drew)); exact (Kd.R_mono (Kd.R_far (p := ⟨gb197, 1, none⟩) (Kd.R_far (p := ⟨gb197, 0, none⟩) (Kd.R_types HO187.out BK197.out (by decide)) (fun _ hk => hk.2) (.slice Ao20 y194.length co20)) (fun _ hk => hk.2) (.int .i64 1)) (fun _ h_ => h_.1))))) (Kd.R_lt (by (with_reducible repeat (first | apply Kd.R_alloc | apply Kd.R_drewN | apply Kd.R_drew)); exact (Kd.R_mono (Kd.R_far (p := ⟨gb197, 1, none⟩) (Kd.R_far (p := ⟨gb197, 0, none⟩) (Kd.R_types HO196.out BK197.out (by decide)) (fun _ hk => hk.2) (.slice Ao20 y194.length co20)) (fun _ hk => hk.2) (.int .i64 1)) (fun _ h_ => h_.1))))) (below_size (by repeat (first | (with_reducible first | exact HB.out | apply below_alloc | apply pw_below_drewN | apply below_drew1 | refine below_set ?_ GE193.out | refine below_set ?_ GE197.out) | exact HB.out)))); have n4_ := am (blk_below (g := gb193) (o := .cells #[.slice Ao16 t185.length co16, .int .i64 t188] 24 (0, 0)) (by (with_reducible repeat (first | refine blk_drewN ?_ _ | refine blk_drew ?_ | refine blk_alloc ?_ _)); refine blk_far ?_ NB193_197.out _; (with_reducible repeat (first | refine blk_drewN ?_ _ | refine blk_drew ?_ | refine blk_alloc ?_ _)); refine blk_far ?_ NB193_197.out _; (with_reducible repeat (first | refine blk_drewN ?_ _ | refine blk_drew ?_ | refine blk_alloc ?_ _)); exact BK193.out) hb); have n5_ := am (blk_below (g := gb197) (o := .cells #[.slice Ao20 y194.length co20, .int .i64 1] 24 (0, 0)) (by (with_reducible repeat (first | refine blk_drewN ?_ _ | refine blk_drew ?_ | refine blk_alloc ?_ _)); refine blk_put (cs := #[.slice Ao20 y194.length co20, .int .i64 0]) ?_ 1 _ rfl; (with_reducible repeat (first | refine blk_drewN ?_ _ | refine blk_drew ?_ | refine blk_alloc ?_ _)); refine blk_put (cs := #[.slice none 0 0, .int .i64 0]) ?_ 0 _ rfl; (with_reducible repeat (first | refine blk_drewN ?_ _ | refine blk_drew ?_ | refine blk_alloc ?_ _)); exact BK197.out) hb); have n6_ := am (below_step (by repeat (first | (with_reducible first | exact HB.out | apply below_alloc | apply pw_below_drewN | apply below_drew1 | refine below_set ?_ GE193.out | refine below_set ?_ GE197.out) | exact HB.out)) hb); clear HO187; clear HO191; clear HO196; clear BK193; clear BK197; clear HB; have HO187 := n0_; have HO191 := n1_; have HO196 := n2_; have HO200 := n3_; have BK193 := n4_; have BK197 := n5_; have HB := n6_; clear n0_ n1_ n2_ n3_ n4_ n5_ n6_; clear hb ho25) | ((with_reducible refine gate_dst (N := 17) rfl ?_); refine Kd.R_lit (Kd.int .i64) _ 3 ?hg (N := 17) ?hd (xs := ([7] : List Int)) (inner := [.int .i64 7]) (ok := fun _ => True) (okp := fun _ => True) ?hr ?hp (fun _ hk => hk) trivial (Below.refl _ _) (Nat.le_refl _) (by simp) ?_; (case hd => rfl); (case hg => rfl); (case hr => first | (go_simp; done) | (go_simp; rfl)); (case hp => exact (Reps.one (show Kd.M (Kd.int .i64) _ _ _ 7 [.int .i64 7] from rfl) (Reps.none _ _))); intro v202 w26 ho27 hb hg_ hnew_; clear hg_ hnew_; (first | rw [← Ny201.out] at ho27 | (simp only [Int.reduceToNat] at ho27; rw [← Ny201.out] at ho27)); have n0_ := am (Kd.R_elder' (by (with_reducible repeat (first | apply Kd.R_alloc | apply Kd.R_drewN | apply Kd.R_drew)); exact HO187.out) (Kd.R_base ho27) hb); have n1_ := am (Kd.N_elder' (by (with_reducible repeat (first | apply Kd.N_alloc | apply Kd.N_drewN | apply Kd.N_drew)); exact HO191.out) (Kd.R_base ho27) hb); have n2_ := am (Kd.R_elder' (by (with_reducible repeat (first | apply Kd.R_alloc | apply Kd.R_drewN | apply Kd.R_drew)); exact HO196.out) (Kd.R_base ho27) hb); have n3_ := am (Kd.R_elder' (by (with_reducible repeat (first | apply Kd.R_alloc | apply Kd.R_drewN | apply Kd.R_drew)); exact HO200.out) (Kd.R_base ho27) hb); have n4_ := am (Kd.R_lower (Kd.R_new' (Kd.R_new' (Kd.R_new' ho27 (Kd.R_lt (by (with_reducible repeat (first | apply Kd.R_alloc | apply Kd.R_drewN | apply Kd.R_drew)); exact HO187.out))) (Kd.R_lt (by (with_reducible repeat (first | apply Kd.R_alloc | apply Kd.R_drewN | apply Kd.R_drew)); exact HO196.out))) (Kd.R_lt (by (with_reducible repeat (first | apply Kd.R_alloc | apply Kd.R_drewN | apply Kd.R_drew)); exact HO200.out))) (below_size (by repeat (first | (with_reducible first | exact HB.out | apply below_alloc | apply pw_below_drewN | apply below_drew1 | refine below_set ?_ GE193.out | refine below_set ?_ GE197.out) | exact HB.out)))); have n5_ := am (blk_below (g := gb193) (o := .cells #[.slice Ao16 t185.length co16, .int .i64 t188] 24 (0, 0)) (by (with_reducible repeat (first | refine blk_drewN ?_ _ | refine blk_drew ?_ | refine blk_alloc ?_ _)); exact BK193.out) hb); have n6_ := am (blk_below (g := gb197) (o := .cells #[.slice Ao20 y194.length co20, .int .i64 1] 24 (0, 0)) (by (with_reducible repeat (first | refine blk_drewN ?_ _ | refine blk_drew ?_ | refine blk_alloc ?_ _)); exact BK197.out) hb); have n7_ := am (below_step (by repeat (first | (with_reducible first | exact HB.out | apply below_alloc | apply pw_below_drewN | apply below_drew1 | refine below_set ?_ GE193.out | refine below_set ?_ GE197.out) | exact HB.out)) hb); clear HO187; clear HO191; clear HO196; clear HO200; clear BK193; clear BK197; clear HB; have HO187 := n0_; have HO191 := n1_; have HO196 := n2_; have HO200 := n3_; have HO203 := n4_; have BK193 := n5_; have BK197 := n6_; have HB := n7_; clear n0_ n1_ n2_ n3_ n4_ n5_ n6_ n7_; clear hb ho27; obtain ⟨Ao28, co28, eo28⟩ := Kd.R_slice HO203.out; subst eo28; obtain ⟨Ao29, co29, eo29⟩ := Kd.R_slice HO200.out; subst eo29) | ((with_reducible refine gate_dst (N := 19) rfl ?_); refine Kd.N_lit k33 _ 33 ?hg (N' := 19) ?hd (xs := ([(⟨y198, y201⟩ : S33)] : List (S33))) (inner := [.slice Ao29 y198.length co29, .slice Ao28 y201.length co28]) (ok := (fun k_ => some k_ ≠ (.slice Ao16 t185.length co16 : Value).ownBlock ∧ some k_ ≠ (v190 : Value).ownBlock ∧ some k_ ≠ (.slice Ao20 y194.length co20 : Value).ownBlock ∧ k_ ≠ gb193 ∧ k_ ≠ gb197)) (okp := (fun k_ => some k_ ≠ (.slice Ao16 t185.length co16 : Value).ownBlock ∧ some k_ ≠ (v190 : Value).ownBlock ∧ some k_ ≠ (.slice Ao20 y194.length co20 : Value).ownBlock ∧ k_ ≠ gb193 ∧ k_ ≠ gb197)) ?hr ?hp (fun _ hk => hk) ((show ∀ k_, w26.heap.size ≤ k_ → (fun k_ => some k_ ≠ (.slice Ao16 t185.length co16 : Value).ownBlock ∧ some k_ ≠ (v190 : Value).ownBlock ∧ some k_ ≠ (.slice Ao20 y194.length co20 : Value).ownBlock ∧ k_ ≠ gb193 ∧ k_ ≠ gb197) k_ from fun k_ hk => ⟨Kd.fresh' (Kd.R_lt (by (with_reducible repeat (first | apply Kd.R_alloc | apply Kd.R_drewN | apply Kd.R_drew)); exact HO187.out)) k_ hk, Kd.fresh' (Kd.N_lt (by (with_reducible repeat (first | apply Kd.N_alloc | apply Kd.N_drewN | apply Kd.N_drew)); exact HO191.out)) k_ hk, Kd.fresh' (Kd.R_lt (by (with_reducible repeat (first | apply Kd.R_alloc | apply Kd.R_drewN | apply Kd.R_drew)); exact HO196.out)) k_ hk, Kd.freshB (g := gb193) (o := .cells #[.slice Ao16 t185.length co16, .int .i64 t188] 24 (0, 0)) (by (with_reducible repeat (first | refine blk_drewN ?_ _ | refine blk_drew ?_ | refine blk_alloc ?_ _)); exact BK193.out) k_ hk, Kd.freshB (g := gb197) (o := .cells #[.slice Ao20 y194.length co20, .int .i64 1] 24 (0, 0)) (by (with_reducible repeat (first | refine blk_drewN ?_ _ | refine blk_drew ?_ | refine blk_alloc ?_ _)); exact BK197.out) k_ hk⟩) _ (Nat.le_refl _)) (Below.refl _ _) (Nat.le_refl _) (by simp) ?_; (case hd => rfl); (case hg => rfl); (case hr => first | (go_simp; done) | (go_simp; rfl)); (case hp => exact (Reps.c2 (show Kd.FK k33 _ _ (⟨y198, y201⟩ : S33) [.slice Ao29 y198.length co29, .slice Ao28 y201.length co28] from (k33_mkF _ _ (⟨y198, y201⟩ : S33) (Kd.R_reads' (Kd.R_mono (ok' := (fun k_ => some k_ ≠ (.slice Ao16 t185.length co16 : Value).ownBlock ∧ some k_ ≠ (v190 : Value).ownBlock ∧ some k_ ≠ (.slice Ao20 y194.length co20 : Value).ownBlock ∧ k_ ≠ gb193 ∧ k_ ≠ gb197)) (Kd.R_types (Kd.R_types (Kd.R_apart' (HO200.out) (Kd.N_typed HO191.out) (by decide)) BK193.out (by decide)) BK197.out (by decide)) (fun k_ hk => ⟨hk.1.1.1.1.1.2, ⟨hk.1.1.2, ⟨hk.1.1.1.1.2, ⟨hk.1.2, hk.2⟩⟩⟩⟩))).2.1 (Kd.R_F (Kd.R_mono (ok' := (fun k_ => some k_ ≠ (.slice Ao16 t185.length co16 : Value).ownBlock ∧ some k_ ≠ (v190 : Value).ownBlock ∧ some k_ ≠ (.slice Ao20 y194.length co20 : Value).ownBlock ∧ k_ ≠ gb193 ∧ k_ ≠ gb197)) (Kd.R_types (Kd.R_types (Kd.R_apart' (HO200.out) (Kd.N_typed HO191.out) (by decide)) BK193.out (by decide)) BK197.out (by decide)) (fun k_ hk => ⟨hk.1.1.1.1.1.2, ⟨hk.1.1.2, ⟨hk.1.1.1.1.2, ⟨hk.1.2, hk.2⟩⟩⟩⟩))) (Kd.R_reads' (Kd.R_mono (ok' := (fun k_ => some k_ ≠ (.slice Ao16 t185.length co16 : Value).ownBlock ∧ some k_ ≠ (v190 : Value).ownBlock ∧ some k_ ≠ (.slice Ao20 y194.length co20 : Value).ownBlock ∧ k_ ≠ gb193 ∧ k_ ≠ gb197)) (Kd.R_types (Kd.R_types (Kd.R_apart' (HO203.out) (Kd.N_typed HO191.out) (by decide)) BK193.out (by decide)) BK197.out (by decide)) (fun k_ hk => ⟨hk.1.1.1.1.1.2, ⟨hk.1.1.2, ⟨hk.1.1.1.1.2, ⟨hk.1.2, hk.2⟩⟩⟩⟩))).2.1 (Kd.R_F (Kd.R_mono (ok' := (fun k_ => some k_ ≠ (.slice Ao16 t185.length co16 : Value).ownBlock ∧ some k_ ≠ (v190 : Value).ownBlock ∧ some k_ ≠ (.slice Ao20 y194.length co20 : Value).ownBlock ∧ k_ ≠ gb193 ∧ k_ ≠ gb197)) (Kd.R_types (Kd.R_types (Kd.R_apart' (HO203.out) (Kd.N_typed HO191.out) (by decide)) BK193.out (by decide)) BK197.out (by decide)) (fun k_ hk => ⟨hk.1.1.1.1.1.2, ⟨hk.1.1.2, ⟨hk.1.1.1.1.2, ⟨hk.1.2, hk.2⟩⟩⟩⟩))))) (Reps.none _ _))); intro v205 w30 ho31 hb hg_ hnew_; clear hg_ hnew_; (first | rw [← Ny204.out] at ho31 | (simp only [Int.reduceToNat] at ho31; rw [← Ny204.out] at ho31)); have n0_ := am (Kd.R_below (by (with_reducible repeat (first | apply Kd.R_alloc | apply Kd.R_drewN | apply Kd.R_drew)); exact HO187.out) hb); have n1_ := am (Kd.N_elder' (by (with_reducible repeat (first | apply Kd.N_alloc | apply Kd.N_drewN | apply Kd.N_drew)); exact HO191.out) (by first | exact Kd.N_base ho31 | exact Kd.S_base ho31 | exact Kd.R_base ho31) hb); have n2_ := am (Kd.R_below (by (with_reducible repeat (first | apply Kd.R_alloc | apply Kd.R_drewN | apply Kd.R_drew)); exact HO196.out) hb); have n3_ := am (Kd.N_lower ho31 (below_size (by repeat (first | (with_reducible first | exact HB.out | apply below_alloc | apply pw_below_drewN | apply below_drew1 | refine below_set ?_ GE193.out | refine below_set ?_ GE197.out) | exact HB.out)))); have n4_ := am (blk_below (g := gb193) (o := .cells #[.slice Ao16 t185.length co16, .int .i64 t188] 24 (0, 0)) (by (with_reducible repeat (first | refine blk_drewN ?_ _ | refine blk_drew ?_ | refine blk_alloc ?_ _)); exact BK193.out) hb); have n5_ := am (blk_below (g := gb197) (o := .cells #[.slice Ao20 y194.length co20, .int .i64 1] 24 (0, 0)) (by (with_reducible repeat (first | refine blk_drewN ?_ _ | refine blk_drew ?_ | refine blk_alloc ?_ _)); exact BK197.out) hb); have n6_ := am (below_step (by repeat (first | (with_reducible first | exact HB.out | apply below_alloc | apply pw_below_drewN | apply below_drew1 | refine below_set ?_ GE193.out | refine below_set ?_ GE197.out) | exact HB.out)) hb); clear HO187; clear HO191; clear HO196; clear BK193; clear BK197; clear HB; clear HO200; clear HO203; have HO187 := n0_; have HO191 := n1_; have HO196 := n2_; have HO206 := n3_; have BK193 := n4_; have BK197 := n5_; have HB := n6_; clear n0_ n1_ n2_ n3_ n4_ n5_ n6_; clear hb ho31; have hcz32_0 : w30.cell? ⟨gb197, 0, none⟩ = some (.slice Ao20 y194.length co20) := (blk_cell BK197.out 0).trans rfl; have hcz32_1 : w30.cell? ⟨gb197, 1, none⟩ = some (.int .i64 1) := (blk_cell BK197.out 1).trans rfl; have hfz32_0 := blk_frozen BK197.out 0; have hfz32_1 := blk_frozen BK197.out 1; obtain ⟨Ao33, co33, eo33⟩ := Kd.N_slice HO206.out; subst eo33) | ((with_reducible refine gate_callee (f := 22) rfl ?_); refine goesL_ (some 23) rfl rfl Try.func22 (by kernel_rfl) rfl #[.agg #[.slice Ao20 y194.length co20, .int .i64 1], .slice Ao33 y204.length co33] rfl (by (try simp only [List.map_toArray, List.map_cons, List.map_nil]); first | done | rfl | (simp only [List.length_drop, List.length_take]; rfl)) ?_; (with_reducible refine (rec_Encode.calls k _ _ y194 1 _ _ y204 t207 _ ?side1 ?side2 ?side3 ?side4 A2.out).mono ?_); (case side1 => repeat (first | exact (Kd.R_reads' HO196.out).2.2 | (with_reducible refine Kd.C_alloc ?_ _) | (with_reducible refine Kd.C_drewN ?_ _) | (with_reducible refine Kd.C_drew ?_))); (case side2 => exact (Kd.R_reads' HO196.out).2.1); (case side3 => repeat (first | exact (Kd.N_reads' HO206.out).2.2 | (with_reducible refine Kd.C_alloc ?_ _) | (with_reducible refine Kd.C_drewN ?_ _) | (with_reducible refine Kd.C_drew ?_))); (case side4 => exact (Kd.N_reads' HO206.out).2.1); rintro e w34 ⟨v208, rfl, ho0, hb⟩; refine ⟨_, rfl, ?_⟩; have n0_ := am (Kd.R_below (by (with_reducible repeat (first | apply Kd.R_alloc | apply Kd.R_drewN | apply Kd.R_drew)); exact HO187.out) hb); have n1_ := am (Kd.N_elder' (by (with_reducible repeat (first | apply Kd.N_alloc | apply Kd.N_drewN | apply Kd.N_drew)); exact HO191.out) (Kd.R_base ho0) hb); have n2_ := am (Kd.R_below (by (with_reducible repeat (first | apply Kd.R_alloc | apply Kd.R_drewN | apply Kd.R_drew)); exact HO196.out) hb); have n3_ := am (Kd.N_elder' (by (with_reducible repeat (first | apply Kd.N_alloc | apply Kd.N_drewN | apply Kd.N_drew)); exact HO206.out) (Kd.R_base ho0) hb); have n4_ := am (Kd.R_lower ho0 (below_size (by repeat (first | (with_reducible first | exact HB.out | apply below_alloc | apply pw_below_drewN | apply below_drew1 | refine below_set ?_ GE193.out | refine below_set ?_ GE197.out) | exact HB.out)))); have n5_ := am (blk_below (g := gb193) (o := .cells #[.slice Ao16 t185.length co16, .int .i64 t188] 24 (0, 0)) (by (with_reducible repeat (first | refine blk_drewN ?_ _ | refine blk_drew ?_ | refine blk_alloc ?_ _)); exact BK193.out) hb); have n6_ := am (blk_below (g := gb197) (o := .cells #[.slice Ao20 y194.length co20, .int .i64 1] 24 (0, 0)) (by (with_reducible repeat (first | refine blk_drewN ?_ _ | refine blk_drew ?_ | refine blk_alloc ?_ _)); exact BK197.out) hb); have n7_ := am (below_step (by repeat (first | (with_reducible first | exact HB.out | apply below_alloc | apply pw_below_drewN | apply below_drew1 | refine below_set ?_ GE193.out | refine below_set ?_ GE197.out) | exact HB.out)) hb); clear HO187; clear HO191; clear HO196; clear HO206; clear BK193; clear BK197; clear HB; have HO187 := n0_; have HO191 := n1_; have HO196 := n2_; have HO206 := n3_; have HO209 := n4_; have BK193 := n5_; have BK197 := n6_; have HB := n7_; clear n0_ n1_ n2_ n3_ n4_ n5_ n6_ n7_; (try clear hb); (try clear hb2); (try clear hk); (try clear hi); (try clear ho0); obtain ⟨Ao35, co35, eo35⟩ := Kd.R_slice HO209.out; subst eo35) | ((with_reducible refine gate_callee (f := 23) rfl ?_); refine goesL_ (some 24) rfl rfl Try.func23 (by kernel_rfl) rfl #[.slice Ao35 t207.length co35] rfl (by (try simp only [List.map_toArray, List.map_cons, List.map_nil]); first | done | rfl | (simp only [List.length_drop, List.length_take]; rfl)) ?_; (with_reducible refine (rec_Decode.calls _ _ t207 t210 t213 t214 t217 _ ?side1 ?side2 A3.out).mono ?_); (case side1 => repeat (first | exact (Kd.R_reads' HO209.out).2.2 | (with_reducible refine Kd.C_alloc ?_ _) | (with_reducible refine Kd.C_drewN ?_ _) | (with_reducible refine Kd.C_drew ?_))); (case side2 => exact (Kd.R_reads' HO209.out).2.1); rintro e w36 ⟨v211, v215, rfl, ho0, ho1, hb⟩; refine ⟨_, rfl, ?_⟩; have n0_ := am (Kd.R_elder' (by (with_reducible repeat (first | apply Kd.R_alloc | apply Kd.R_drewN | apply Kd.R_drew)); exact HO187.out) (Kd.R_base ho0) hb); have n1_ := am (Kd.N_mono (Kd.N_told (Kd.N_told (Kd.N_old (by (with_reducible repeat (first | apply Kd.N_alloc | apply Kd.N_drewN | apply Kd.N_drew)); exact HO191.out) hb) (Kd.R_base ho0)) (by first | exact Kd.N_base ho1 | exact Kd.S_base ho1 | exact Kd.R_base ho1)) (fun _ h_ => h_.1)); have n2_ := am (Kd.R_elder' (by (with_reducible repeat (first | apply Kd.R_alloc | apply Kd.R_drewN | apply Kd.R_drew)); exact HO196.out) (Kd.R_base ho0) hb); have n3_ := am (Kd.N_mono (Kd.N_told (Kd.N_told (Kd.N_old (by (with_reducible repeat (first | apply Kd.N_alloc | apply Kd.N_drewN | apply Kd.N_drew)); exact HO206.out) hb) (Kd.R_base ho0)) (by first | exact Kd.N_base ho1 | exact Kd.S_base ho1 | exact Kd.R_base ho1)) (fun _ h_ => h_.1)); have n4_ := am (Kd.R_below (by (with_reducible repeat (first | apply Kd.R_alloc | apply Kd.R_drewN | apply Kd.R_drew)); exact HO209.out) hb); have n5_ := am (Kd.R_lower (Kd.R_new' (Kd.R_new' ho0 (Kd.R_lt (by (with_reducible repeat (first | apply Kd.R_alloc | apply Kd.R_drewN | apply Kd.R_drew)); exact HO187.out))) (Kd.R_lt (by (with_reducible repeat (first | apply Kd.R_alloc | apply Kd.R_drewN | apply Kd.R_drew)); exact HO196.out))) (below_size (by repeat (first | (with_reducible first | exact HB.out | apply below_alloc | apply pw_below_drewN | apply below_drew1 | refine below_set ?_ GE193.out | refine below_set ?_ GE197.out) | exact HB.out)))); have n6_ := am (Kd.N_lower (Kd.N_mono (ok' := fun k_ => some k_ ≠ (v211 : Value).ownBlock ∧ some k_ ≠ (.slice Ao16 t185.length co16 : Value).ownBlock ∧ some k_ ≠ (v190 : Value).ownBlock ∧ some k_ ≠ (.slice Ao20 y194.length co20 : Value).ownBlock ∧ some k_ ≠ (.slice Ao33 y204.length co33 : Value).ownBlock ∧ some k_ ≠ (.slice Ao35 t207.length co35 : Value).ownBlock ∧ k_ ≠ gb193 ∧ k_ ≠ gb197) (Kd.S_N (Kd.S_bound ho1)) (fun k_ hk_ => ⟨hk_.1, (Kd.fresh' (Kd.R_lt (by (with_reducible repeat (first | apply Kd.R_alloc | apply Kd.R_drewN | apply Kd.R_drew)); exact HO187.out)) k_ hk_.2.1), (Kd.fresh' (Kd.N_lt (by (with_reducible repeat (first | apply Kd.N_alloc | apply Kd.N_drewN | apply Kd.N_drew)); exact HO191.out)) k_ hk_.2.1), (Kd.fresh' (Kd.R_lt (by (with_reducible repeat (first | apply Kd.R_alloc | apply Kd.R_drewN | apply Kd.R_drew)); exact HO196.out)) k_ hk_.2.1), (Kd.fresh' (Kd.N_lt (by (with_reducible repeat (first | apply Kd.N_alloc | apply Kd.N_drewN | apply Kd.N_drew)); exact HO206.out)) k_ hk_.2.1), (Kd.fresh' (Kd.R_lt (by (with_reducible repeat (first | apply Kd.R_alloc | apply Kd.R_drewN | apply Kd.R_drew)); exact HO209.out)) k_ hk_.2.1), (Kd.freshB (g := gb193) (o := .cells #[.slice Ao16 t185.length co16, .int .i64 t188] 24 (0, 0)) (by (with_reducible repeat (first | refine blk_drewN ?_ _ | refine blk_drew ?_ | refine blk_alloc ?_ _)); exact BK193.out) k_ hk_.2.1), (Kd.freshB (g := gb197) (o := .cells #[.slice Ao20 y194.length co20, .int .i64 1] 24 (0, 0)) (by (with_reducible repeat (first | refine blk_drewN ?_ _ | refine blk_drew ?_ | refine blk_alloc ?_ _)); exact BK197.out) k_ hk_.2.1)⟩)) (below_size (by repeat (first | (with_reducible first | exact HB.out | apply below_alloc | apply pw_below_drewN | apply below_drew1 | refine below_set ?_ GE193.out | refine below_set ?_ GE197.out) | exact HB.out)))); have n7_ := am (blk_below (g := gb193) (o := .cells #[.slice Ao16 t185.length co16, .int .i64 t188] 24 (0, 0)) (by (with_reducible repeat (first | refine blk_drewN ?_ _ | refine blk_drew ?_ | refine blk_alloc ?_ _)); exact BK193.out) hb); have n8_ := am (blk_below (g := gb197) (o := .cells #[.slice Ao20 y194.length co20, .int .i64 1] 24 (0, 0)) (by (with_reducible repeat (first | refine blk_drewN ?_ _ | refine blk_drew ?_ | refine blk_alloc ?_ _)); exact BK197.out) hb); have n9_ := am (below_step (by repeat (first | (with_reducible first | exact HB.out | apply below_alloc | apply pw_below_drewN | apply below_drew1 | refine below_set ?_ GE193.out | refine below_set ?_ GE197.out) | exact HB.out)) hb); clear HO187; clear HO191; clear HO196; clear HO206; clear HO209; clear BK193; clear BK197; clear HB; have HO187 := n0_; have HO191 := n1_; have HO196 := n2_; have HO206 := n3_; have HO209 := n4_; have HO212 := n5_; have HO216 := n6_; have BK193 := n7_; have BK197 := n8_; have HB := n9_; clear n0_ n1_ n2_ n3_ n4_ n5_ n6_ n7_ n8_ n9_; (try clear hb); (try clear hb2); (try clear hk); (try clear hi); (try clear ho0); (try clear ho1)) | ((with_reducible refine gate_dst (N := 6) rfl ?_); refine box_event ?hg (N := 6) ?hd (cs := #[.slice none 0 0, .int .i64 0]) (t := 24) ?hr ?_; (case hd => rfl); (case hg => rfl); (case hr => first | (go_simp; done) | (go_simp; rfl)); intro gb218 hg w37 hbox hb; have n0_ := am (Kd.R_below (by (with_reducible repeat (first | apply Kd.R_alloc | apply Kd.R_drewN | apply Kd.R_drew)); exact HO187.out) hb); have n1_ := am (Kd.N_below (Kd.N_elderB (by (with_reducible repeat (first | apply Kd.N_alloc | apply Kd.N_drewN | apply Kd.N_drew)); exact HO191.out) gb218 (Nat.le_of_eq hg.symm)) hb); have n2_ := am (Kd.R_below (by (with_reducible repeat (first | apply Kd.R_alloc | apply Kd.R_drewN | apply Kd.R_drew)); exact HO196.out) hb); have n3_ := am (Kd.N_below (Kd.N_elderB (by (with_reducible repeat (first | apply Kd.N_alloc | apply Kd.N_drewN | apply Kd.N_drew)); exact HO206.out) gb218 (Nat.le_of_eq hg.symm)) hb); have n4_ := am (Kd.R_below (by (with_reducible repeat (first | apply Kd.R_alloc | apply Kd.R_drewN | apply Kd.R_drew)); exact HO209.out) hb); have n5_ := am (Kd.R_below (by (with_reducible repeat (first | apply Kd.R_alloc | apply Kd.R_drewN | apply Kd.R_drew)); exact HO212.out) hb); have n6_ := am (Kd.N_below (Kd.N_elderB (by (with_reducible repeat (first | apply Kd.N_alloc | apply Kd.N_drewN | apply Kd.N_drew)); exact HO216.out) gb218 (Nat.le_of_eq hg.symm)) hb); have n7_ := am (blk_below (g := gb193) (o := .cells #[.slice Ao16 t185.length co16, .int .i64 t188] 24 (0, 0)) (by (with_reducible repeat (first | refine blk_drewN ?_ _ | refine blk_drew ?_ | refine blk_alloc ?_ _)); exact BK193.out) hb); have n8_ := am (blk_below (g := gb197) (o := .cells #[.slice Ao20 y194.length co20, .int .i64 1] 24 (0, 0)) (by (with_reducible repeat (first | refine blk_drewN ?_ _ | refine blk_drew ?_ | refine blk_alloc ?_ _)); exact BK197.out) hb); have n9_ := am (below_step (by repeat (first | (with_reducible first | exact HB.out | apply below_alloc | apply pw_below_drewN | apply below_drew1 | refine below_set ?_ GE193.out | refine below_set ?_ GE197.out) | exact HB.out)) hb); have n10_ := am (hbox); have n11_ := am ((by rw [hg]; exact (below_size (by repeat (first | (with_reducible first | exact HB.out | apply below_alloc | apply pw_below_drewN | apply below_drew1 | refine below_set ?_ GE193.out | refine below_set ?_ GE197.out) | exact HB.out))) : w.heap.size ≤ gb218)); have n12_ := am ((by rw [hg]; exact (below_size (by repeat (first | (with_reducible first | exact HB.out | apply below_alloc | apply pw_below_drewN | apply below_drew1 | refine below_set ?_ GE193.out | refine below_set ?_ GE197.out) | exact HB.out))) : w.heap.size ≤ gb218)); have n13_ := am ((by rw [hg]; exact Nat.ne_of_lt (blk_lt (g := gb193) (o := .cells #[.slice Ao16 t185.length co16, .int .i64 t188] 24 (0, 0)) (by (with_reducible repeat (first | refine blk_drewN ?_ _ | refine blk_drew ?_ | refine blk_alloc ?_ _)); exact BK193.out)) : gb193 ≠ gb218)); have n14_ := am ((by rw [hg]; exact Nat.ne_of_gt (blk_lt (g := gb193) (o := .cells #[.slice Ao16 t185.length co16, .int .i64 t188] 24 (0, 0)) (by (with_reducible repeat (first | refine blk_drewN ?_ _ | refine blk_drew ?_ | refine blk_alloc ?_ _)); exact BK193.out)) : gb218 ≠ gb193)); have n15_ := am ((by rw [hg]; exact Nat.ne_of_lt (blk_lt (g := gb197) (o := .cells #[.slice Ao20 y194.length co20, .int .i64 1] 24 (0, 0)) (by (with_reducible repeat (first | refine blk_drewN ?_ _ | refine blk_drew ?_ | refine blk_alloc ?_ _)); exact BK197.out)) : gb197 ≠ gb218)); have n16_ := am ((by rw [hg]; exact Nat.ne_of_gt (blk_lt (g := gb197) (o := .cells #[.slice Ao20 y194.length co20, .int .i64 1] 24 (0, 0)) (by (with_reducible repeat (first | refine blk_drewN ?_ _ | refine blk_drew ?_ | refine blk_alloc ?_ _)); exact BK197.out)) : gb218 ≠ gb197)); clear HO187; clear HO191; clear HO196; clear HO206; clear HO209; clear HO212; clear HO216; clear BK193; clear BK197; clear HB; have HO187 := n0_; have HO191 := n1_; have HO196 := n2_; have HO206 := n3_; have HO209 := n4_; have HO212 := n5_; have HO216 := n6_; have BK193 := n7_; have BK197 := n8_; have HB := n9_; have BK218 := n10_; have GW218 := n11_; have GE218 := n12_; have NB193_218 := n13_; have NB218_193 := n14_; have NB197_218 := n15_; have NB218_197 := n16_; clear n0_ n1_ n2_ n3_ n4_ n5_ n6_ n7_ n8_ n9_ n10_ n11_ n12_ n13_ n14_ n15_ n16_; clear hb hbox hg; obtain ⟨Ao38, co38, eo38⟩ := Kd.R_slice HO212.out; subst eo38; have hnb39 := NB218_193.out; have hnc39 := NB193_218.out; have hnb40 := NB218_197.out; have hnc40 := NB197_218.out; have hcz41_0 : w37.cell? ⟨gb218, 0, none⟩ = some (.slice none 0 0) := (blk_cell BK218.out 0).trans rfl; have hcz41_1 : w37.cell? ⟨gb218, 1, none⟩ = some (.int .i64 0) := (blk_cell BK218.out 1).trans rfl; have hfz41_0 := blk_frozen BK218.out 0; have hfz41_1 := blk_frozen BK218.out 1))
       have n0_ : Aside0 (Kd.R (Kd.int .i64) 3 ((w37.setCell ⟨gb218, 0, none⟩ (.slice Ao38 t210.length co38)).setCell ⟨gb218, 1, none⟩ (.int .i64 t213)) w.heap.size (fun k_ => some k_ ≠ (.slice Ao20 y194.length co20 : Value).ownBlock ∧ some k_ ≠ (.slice Ao38 t210.length co38 : Value).ownBlock) (.slice Ao16 t185.length co16) t185) := ⟨by (with_reducible repeat (first | apply Kd.R_alloc | apply Kd.R_drewN | apply Kd.R_drew)); exact Kd.R_mono (Kd.R_far (p := ⟨gb218, 1, none⟩) (Kd.R_far (p := ⟨gb218, 0, none⟩) (Kd.R_types HO187.out BK218.out (by decide)) (fun _ hk => hk.2) (.slice Ao38 t210.length co38)) (fun _ hk => hk.2) (.int .i64 t213)) (fun _ hk => ⟨hk.1.1.1.1.2, hk.1.2⟩)⟩
       have n1_ : Aside0 (Kd.N k33 33 ((w37.setCell ⟨gb218, 0, none⟩ (.slice Ao38 t210.length co38)).setCell ⟨gb218, 1, none⟩ (.int .i64 t213)) w.heap.size (fun k_ => some k_ ≠ (.slice Ao16 t185.length co16 : Value).ownBlock ∧ some k_ ≠ (.slice Ao20 y194.length co20 : Value).ownBlock ∧ some k_ ≠ (.slice Ao33 y204.length co33 : Value).ownBlock ∧ some k_ ≠ (.slice Ao35 t207.length co35 : Value).ownBlock ∧ some k_ ≠ (.slice Ao38 t210.length co38 : Value).ownBlock ∧ some k_ ≠ (v215 : Value).ownBlock ∧ k_ ≠ gb193 ∧ k_ ≠ gb197 ∧ k_ ≠ gb218) v190 t189) := ⟨by (with_reducible repeat (first | apply Kd.N_alloc | apply Kd.N_drewN | apply Kd.N_drew)); exact Kd.N_mono (Kd.N_far (p := ⟨gb218, 1, none⟩) (Kd.N_far (p := ⟨gb218, 0, none⟩) (Kd.N_mono HO191.out (fun k_ hk => (⟨hk, hk.2⟩ : _ ∧ k_ ≠ gb218))) (fun _ hk => hk.2) (.slice Ao38 t210.length co38)) (fun _ hk => hk.2) (.int .i64 t213)) (fun _ hk => ⟨hk.1.1.1.1.1.1.1.1.1.1.1, ⟨hk.1.1.1.1.1.1.1.1.1.2, ⟨hk.1.1.1.1.1.2, ⟨hk.1.1.1.1.2, ⟨hk.1.1.1.2, ⟨hk.1.1.2, ⟨hk.1.1.1.1.1.1.1.1.1.1.2, ⟨hk.1.1.1.1.1.1.1.1.2, hk.1.2⟩⟩⟩⟩⟩⟩⟩⟩)⟩
       have n2_ : Aside0 (Kd.R (Kd.int .i64) 3 ((w37.setCell ⟨gb218, 0, none⟩ (.slice Ao38 t210.length co38)).setCell ⟨gb218, 1, none⟩ (.int .i64 t213)) w.heap.size (fun k_ => some k_ ≠ (.slice Ao16 t185.length co16 : Value).ownBlock ∧ some k_ ≠ (.slice Ao38 t210.length co38 : Value).ownBlock) (.slice Ao20 y194.length co20) y194) := ⟨by (with_reducible repeat (first | apply Kd.R_alloc | apply Kd.R_drewN | apply Kd.R_drew)); exact Kd.R_mono (Kd.R_far (p := ⟨gb218, 1, none⟩) (Kd.R_far (p := ⟨gb218, 0, none⟩) (Kd.R_types HO196.out BK218.out (by decide)) (fun _ hk => hk.2) (.slice Ao38 t210.length co38)) (fun _ hk => hk.2) (.int .i64 t213)) (fun _ hk => ⟨hk.1.1.1.1.2, hk.1.2⟩)⟩
       have n3_ : Aside0 (Kd.N k33 33 ((w37.setCell ⟨gb218, 0, none⟩ (.slice Ao38 t210.length co38)).setCell ⟨gb218, 1, none⟩ (.int .i64 t213)) w.heap.size (fun k_ => some k_ ≠ (.slice Ao16 t185.length co16 : Value).ownBlock ∧ some k_ ≠ (v190 : Value).ownBlock ∧ some k_ ≠ (.slice Ao20 y194.length co20 : Value).ownBlock ∧ some k_ ≠ (.slice Ao35 t207.length co35 : Value).ownBlock ∧ some k_ ≠ (.slice Ao38 t210.length co38 : Value).ownBlock ∧ some k_ ≠ (v215 : Value).ownBlock ∧ k_ ≠ gb193 ∧ k_ ≠ gb197 ∧ k_ ≠ gb218) (.slice Ao33 y204.length co33) y204) := ⟨by (with_reducible repeat (first | apply Kd.N_alloc | apply Kd.N_drewN | apply Kd.N_drew)); exact Kd.N_mono (Kd.N_far (p := ⟨gb218, 1, none⟩) (Kd.N_far (p := ⟨gb218, 0, none⟩) (Kd.N_mono HO206.out (fun k_ hk => (⟨hk, hk.2⟩ : _ ∧ k_ ≠ gb218))) (fun _ hk => hk.2) (.slice Ao38 t210.length co38)) (fun _ hk => hk.2) (.int .i64 t213)) (fun _ hk => ⟨hk.1.1.1.1.1.1, ⟨hk.1.1.1.1.1.2.1, ⟨hk.1.1.1.1.1.2.2.1, ⟨hk.1.1.1.1.2, ⟨hk.1.1.1.2, ⟨hk.1.1.2, ⟨hk.1.1.1.1.1.2.2.2.1, ⟨hk.1.1.1.1.1.2.2.2.2, hk.1.2⟩⟩⟩⟩⟩⟩⟩⟩)⟩
       have n4_ : Aside0 (Kd.R (Kd.int .u8) 5 ((w37.setCell ⟨gb218, 0, none⟩ (.slice Ao38 t210.length co38)).setCell ⟨gb218, 1, none⟩ (.int .i64 t213)) w.heap.size (fun _ => True) (.slice Ao35 t207.length co35) t207) := ⟨by (with_reducible repeat (first | apply Kd.R_alloc | apply Kd.R_drewN | apply Kd.R_drew)); exact Kd.R_mono (Kd.R_far (p := ⟨gb218, 1, none⟩) (Kd.R_far (p := ⟨gb218, 0, none⟩) (Kd.R_types HO209.out BK218.out (by decide)) (fun _ hk => hk.2) (.slice Ao38 t210.length co38)) (fun _ hk => hk.2) (.int .i64 t213)) (fun _ hk => trivial)⟩
       have n5_ : Aside0 (Kd.R (Kd.int .i64) 3 ((w37.setCell ⟨gb218, 0, none⟩ (.slice Ao38 t210.length co38)).setCell ⟨gb218, 1, none⟩ (.int .i64 t213)) w.heap.size (fun k_ => some k_ ≠ (.slice Ao16 t185.length co16 : Value).ownBlock ∧ some k_ ≠ (.slice Ao20 y194.length co20 : Value).ownBlock) (.slice Ao38 t210.length co38) t210) := ⟨by (with_reducible repeat (first | apply Kd.R_alloc | apply Kd.R_drewN | apply Kd.R_drew)); exact Kd.R_mono (Kd.R_far (p := ⟨gb218, 1, none⟩) (Kd.R_far (p := ⟨gb218, 0, none⟩) (Kd.R_types HO212.out BK218.out (by decide)) (fun _ hk => hk.2) (.slice Ao38 t210.length co38)) (fun _ hk => hk.2) (.int .i64 t213)) (fun _ hk => ⟨hk.1.1.2, hk.1.2⟩)⟩
       have n6_ : Aside0 (Kd.N k33 33 ((w37.setCell ⟨gb218, 0, none⟩ (.slice Ao38 t210.length co38)).setCell ⟨gb218, 1, none⟩ (.int .i64 t213)) w.heap.size (fun k_ => some k_ ≠ (.slice Ao16 t185.length co16 : Value).ownBlock ∧ some k_ ≠ (v190 : Value).ownBlock ∧ some k_ ≠ (.slice Ao20 y194.length co20 : Value).ownBlock ∧ some k_ ≠ (.slice Ao33 y204.length co33 : Value).ownBlock ∧ some k_ ≠ (.slice Ao35 t207.length co35 : Value).ownBlock ∧ some k_ ≠ (.slice Ao38 t210.length co38 : Value).ownBlock ∧ k_ ≠ gb193 ∧ k_ ≠ gb197 ∧ k_ ≠ gb218) v215 t214) := ⟨by (with_reducible repeat (first | apply Kd.N_alloc | apply Kd.N_drewN | apply Kd.N_drew)); exact Kd.N_mono (Kd.N_far (p := ⟨gb218, 1, none⟩) (Kd.N_far (p := ⟨gb218, 0, none⟩) (Kd.N_mono HO216.out (fun k_ hk => (⟨hk, hk.2⟩ : _ ∧ k_ ≠ gb218))) (fun _ hk => hk.2) (.slice Ao38 t210.length co38)) (fun _ hk => hk.2) (.int .i64 t213)) (fun _ hk => ⟨hk.1.1.2.1, ⟨hk.1.1.2.2.1, ⟨hk.1.1.2.2.2.1, ⟨hk.1.1.2.2.2.2.1, ⟨hk.1.1.2.2.2.2.2.1, ⟨hk.1.1.1, ⟨hk.1.1.2.2.2.2.2.2.1, ⟨hk.1.1.2.2.2.2.2.2.2, hk.1.2⟩⟩⟩⟩⟩⟩⟩⟩)⟩
       have n7_ : Aside0 (((w37.setCell ⟨gb218, 0, none⟩ (.slice Ao38 t210.length co38)).setCell ⟨gb218, 1, none⟩ (.int .i64 t213)).heap[gb193]? = some (.cells #[.slice Ao16 t185.length co16, .int .i64 t188] 24 (0, 0))) := ⟨by (with_reducible repeat (first | refine blk_drewN ?_ _ | refine blk_drew ?_ | refine blk_alloc ?_ _)); refine blk_far ?_ NB193_218.out _; (with_reducible repeat (first | refine blk_drewN ?_ _ | refine blk_drew ?_ | refine blk_alloc ?_ _)); refine blk_far ?_ NB193_218.out _; (with_reducible repeat (first | refine blk_drewN ?_ _ | refine blk_drew ?_ | refine blk_alloc ?_ _)); exact BK193.out⟩
       have n8_ : Aside0 (((w37.setCell ⟨gb218, 0, none⟩ (.slice Ao38 t210.length co38)).setCell ⟨gb218, 1, none⟩ (.int .i64 t213)).heap[gb197]? = some (.cells #[.slice Ao20 y194.length co20, .int .i64 1] 24 (0, 0))) := ⟨by (with_reducible repeat (first | refine blk_drewN ?_ _ | refine blk_drew ?_ | refine blk_alloc ?_ _)); refine blk_far ?_ NB197_218.out _; (with_reducible repeat (first | refine blk_drewN ?_ _ | refine blk_drew ?_ | refine blk_alloc ?_ _)); refine blk_far ?_ NB197_218.out _; (with_reducible repeat (first | refine blk_drewN ?_ _ | refine blk_drew ?_ | refine blk_alloc ?_ _)); exact BK197.out⟩
       have n9_ : Aside0 (((w37.setCell ⟨gb218, 0, none⟩ (.slice Ao38 t210.length co38)).setCell ⟨gb218, 1, none⟩ (.int .i64 t213)).heap[gb218]? = some (.cells #[.slice Ao38 t210.length co38, .int .i64 t213] 24 (0, 0))) := ⟨by (with_reducible repeat (first | refine blk_drewN ?_ _ | refine blk_drew ?_ | refine blk_alloc ?_ _)); refine blk_put (cs := #[.slice Ao38 t210.length co38, .int .i64 0]) ?_ 1 _ rfl; (with_reducible repeat (first | refine blk_drewN ?_ _ | refine blk_drew ?_ | refine blk_alloc ?_ _)); refine blk_put (cs := #[.slice none 0 0, .int .i64 0]) ?_ 0 _ rfl; (with_reducible repeat (first | refine blk_drewN ?_ _ | refine blk_drew ?_ | refine blk_alloc ?_ _)); exact BK218.out⟩
       have n10_ : Aside0 (Below w.heap.size w ((w37.setCell ⟨gb218, 0, none⟩ (.slice Ao38 t210.length co38)).setCell ⟨gb218, 1, none⟩ (.int .i64 t213))) := ⟨by repeat (first | (with_reducible first | exact HB.out | apply below_alloc | apply pw_below_drewN | apply below_drew1 | refine below_set ?_ GE193.out | refine below_set ?_ GE197.out | refine below_set ?_ GE218.out) | exact HB.out)⟩
       (try clear HO187)
       (try clear HO191)
       (try clear HO196)
       (try clear HO206)
       (try clear HO209)
       (try clear HO212)
       (try clear HO216)
       (try clear BK193)
       (try clear BK197)
       (try clear BK218)
       (try clear HB)
       generalize ((w37.setCell ⟨gb218, 0, none⟩ (.slice Ao38 t210.length co38)).setCell ⟨gb218, 1, none⟩ (.int .i64 t213)) = w42 at n0_ n1_ n2_ n3_ n4_ n5_ n6_ n7_ n8_ n9_ n10_ ⊢
       have HO187 := n0_
       have HO191 := n1_
       have HO196 := n2_
       have HO206 := n3_
       have HO209 := n4_
       have HO212 := n5_
       have HO216 := n6_
       have BK193 := n7_
       have BK197 := n8_
       have BK218 := n9_
       have HB := n10_
       clear n0_ n1_ n2_ n3_ n4_ n5_ n6_ n7_ n8_ n9_ n10_
       have n0_ := am (Kd.R_drew HO187.out)
       have n1_ := am (Kd.N_drew HO191.out)
       have n2_ := am (Kd.R_drew HO196.out)
       have n3_ := am (Kd.N_drew HO206.out)
       have n4_ := am (Kd.R_drew HO209.out)
       have n5_ := am (Kd.R_drew HO212.out)
       have n6_ := am (Kd.N_drew HO216.out)
       have n7_ := am (blk_drew BK193.out)
       have n8_ := am (blk_drew BK197.out)
       have n9_ := am (blk_drew BK218.out)
       have n10_ := am (below_drew1 HB.out)
       clear HO187
       clear HO191
       clear HO196
       clear HO206
       clear HO209
       clear HO212
       clear HO216
       clear BK193
       clear BK197
       clear BK218
       clear HB
       have HO187 := n0_
       have HO191 := n1_
       have HO196 := n2_
       have HO206 := n3_
       have HO209 := n4_
       have HO212 := n5_
       have HO216 := n6_
       have BK193 := n7_
       have BK197 := n8_
       have BK218 := n9_
       have HB := n10_
       clear n0_ n1_ n2_ n3_ n4_ n5_ n6_ n7_ n8_ n9_ n10_
       obtain ⟨Ao44, co44, eo44⟩ := Kd.N_slice HO216.out
       (first | subst eo44 | (injection eo44 with f1_ f2_ f3_; have f4_ := f1_.symm; have f5_ := f3_.symm; clear f1_ f2_ f3_; subst f4_; subst f5_))
       have p221 : 0 ≤ (0 : Int) := (by omega)
       have q221 : 0 < (y204.length : Int) := of_decide_eq_true (by first | (with_reducible assumption) | assumption)
       obtain ⟨ad221, A221_0, c221_0, A221_1, c221_1, e221, hx221_0, hx221_1, hl221_0, hi221_0, hl221_1, hi221_1⟩ := at_T33 (Kd.N_reads' HO206.out).2.2 0 p221 q221
       cases e221
       obtain ⟨ce221, hce221, hMe221, hcc221⟩ := Kd.N_get HO206.out z33 0 p221 (by first | exact q221 | exact of_decide_eq_true (by first | (with_reducible assumption) | assumption) | (have e_ := (Kd.N_reads' HO206.out).1; omega))
       obtain ⟨ua221_0, uc221_0, ua221_1, uc221_1, rfl, ul221_0, ge221_0, ul221_1, ge221_1⟩ := k33_openF hMe221
       have hv221_0 := hcc221 0 _ rfl
       rw [Nat.add_zero] at hv221_0
       replace hv221_0 := Option.some.inj (hv221_0.symm.trans hx221_0)
       injection hv221_0 with hva_ hvn_ hvc_
       rw [hva_] at ge221_0
       rw [hvc_] at ul221_0
       have HL221_0 := am (show Kd.V (Kd.int .i64) 3 _ w.heap.size _ _ ((rd_T33 y204 0).f0) from Kd.V_mk ul221_0 ge221_0)
       clear hva_ hvn_ hvc_ ge221_0 ul221_0
       have hv221_1 := hcc221 1 _ rfl
       rw [add_field _ _ 1 (by omega)] at hv221_1
       replace hv221_1 := Option.some.inj (hv221_1.symm.trans hx221_1)
       injection hv221_1 with hva_ hvn_ hvc_
       rw [hva_] at ge221_1
       rw [hvc_] at ul221_1
       have HL221_1 := am (show Kd.V (Kd.int .i64) 3 _ w.heap.size _ _ ((rd_T33 y204 0).f1) from Kd.V_mk ul221_1 ge221_1)
       clear hva_ hvn_ hvc_ ge221_1 ul221_1
       clear hcc221 hce221
       have qi221 : (0 < y204.length) = True := eq_true (by omega)
       (try rw [show ((0 : Int)).toNat = 0 from rfl] at hx221_0)
       (try rw [show 0 * 2 = 0 from rfl] at hx221_0)
       (try rw [Addr.add_zero'] at hx221_0)
       (try rw [show ((0 : Int)).toNat = 0 from rfl] at hx221_1)
       (try rw [show 0 * 2 = 0 from rfl] at hx221_1)
       (try rw [Addr.add_zero'] at hx221_1)
       have HR221_0 := am hi221_0
       have HC221_0 := am hl221_0
       clear hi221_0 hl221_0
       have HR221_1 := am hi221_1
       have HC221_1 := am hl221_1
       clear hi221_1 hl221_1
       replace p221 := eq_true p221
       replace q221 := eq_true q221
       refine start_ (n := 30) (S := fun w' => w'.cell? ⟨gb197, 0, none⟩ = some (.slice Ao20 y194.length co20) ∧ w'.cell? ⟨gb197, 1, none⟩ = some (.int .i64 1) ∧ w'.cell? ⟨gb218, 0, none⟩ = some (.slice Ao38 t210.length co38) ∧ w'.cell? ⟨gb218, 1, none⟩ = some (.int .i64 t213) ∧ w'.cell? ad221 = some (.slice A221_0 ((rd_T33 y204 0).f0).length c221_0) ∧ w'.cell? ⟨ad221.block, ad221.off + 1, none⟩ = some (.slice A221_1 ((rd_T33 y204 0).f1).length c221_1)) (ds := []) (bb 30 0) (by kernel_rfl) rfl rfl ⟨(blk_cell BK197.out 0).trans rfl, (blk_cell BK197.out 1).trans rfl, (blk_cell BK218.out 0).trans rfl, (blk_cell BK218.out 1).trans rfl, hx221_0, hx221_1⟩ (fun hHeld => ?_); refine with_tabW hypercubelaw1_known.tab5 hypercubelaw1_known.bits5 (fun HT_ HW_ => ?_)
       generalize w42.drew = w43 at HO187 HO191 HO196 HO206 HO209 HO212 HO216 BK193 BK197 BK218 HB HL221_0 HL221_1 HR221_0 HR221_1 hx221_0 hx221_1 hHeld ⊢
       refine pure_ (i := 0) (N := some 28) (v := ?_) (a' := ?_) (bb 30 1) rfl rfl (any_of HT_.out (by kernel_rfl)) (fun _ _ _ h => h) (Or.inl ⟨by rfl, ?_⟩) ?_ ?_
       rotate_left
       ·intro w'
        go_simp
        with_reducible rfl
       rotate_left
       ·simp only [Act.put, List.setIfInBounds_toArray, List.set_cons_zero, List.set_cons_succ, i64_w, i32_w]
        rfl
       refine pure_ (i := 1) (N := some 29) (v := ?_) (a' := ?_) (bb 30 3) rfl rfl (any_of HT_.out (by kernel_rfl)) (fun _ _ _ h => h) (Or.inl ⟨by rfl, ?_⟩) ?_ ?_
       rotate_left
       ·intro w'
        go_simp
        with_reducible rfl
       rotate_left
       ·simp only [Act.put, List.setIfInBounds_toArray, List.set_cons_zero, List.set_cons_succ, i64_w, i32_w]
        rfl
       refine pure_ (i := 2) (N := some 30) (v := ?_) (a' := ?_) (bb 30 7) rfl rfl (any_of HT_.out (by kernel_rfl)) (fun _ _ _ h => h) (Or.inl ⟨by rfl, ?_⟩) ?_ ?_
       rotate_left
       ·intro w'
        go_simp
        with_reducible rfl
       rotate_left
       ·simp only [Act.put, List.setIfInBounds_toArray, List.set_cons_zero, List.set_cons_succ, i64_w, i32_w]
        rfl
       refine pure_ (i := 3) (N := some 31) (v := ?_) (a' := ?_) (bb 30 15) rfl rfl (any_of HT_.out (by kernel_rfl)) (fun _ _ _ h => h) (Or.inl ⟨by rfl, ?_⟩) ?_ ?_
       rotate_left
       ·intro w'
        go_simp
        with_reducible rfl
       rotate_left
       ·simp only [Act.put, List.setIfInBounds_toArray, List.set_cons_zero, List.set_cons_succ, i64_w, i32_w]
        rfl
       refine pure_ (i := 4) (N := some 32) (v := ?_) (a' := ?_) (bb 30 31) rfl rfl (any_of HT_.out (by kernel_rfl)) (fun _ _ _ h => h) (Or.inl ⟨by rfl, ?_⟩) ?_ ?_
       rotate_left
       ·intro w'
        go_simp
        with_reducible rfl
       rotate_left
       ·simp only [Act.put, List.setIfInBounds_toArray, List.set_cons_zero, List.set_cons_succ, i64_w, i32_w]
        rfl
       refine pure_ (i := 5) (N := some 33) (v := ?_) (a' := ?_) (bb 30 63) rfl rfl (any_of HT_.out (by kernel_rfl)) (fun _ _ _ h => h) (Or.inl ⟨by rfl, ?_⟩) ?_ ?_
       rotate_left
       ·intro w'
        go_simp
        with_reducible rfl
       rotate_left
       ·simp only [Act.put, List.setIfInBounds_toArray, List.set_cons_zero, List.set_cons_succ, i64_w, i32_w]
        rfl
       refine pure_ (i := 6) (N := some 34) (v := ?_) (a' := ?_) (bb 30 127) rfl rfl (any_of HT_.out (by kernel_rfl)) (fun _ _ _ h => h) (Or.inl ⟨by rfl, ?_⟩) ?_ ?_
       rotate_left
       ·intro w'
        go_simp
        with_reducible rfl
       rotate_left
       ·simp only [Act.put, List.setIfInBounds_toArray, List.set_cons_zero, List.set_cons_succ, i64_w, i32_w]
        rfl
       refine pure_ (i := 8) (N := some 36) (v := ?_) (a' := ?_) (bb 30 383) rfl rfl (any_of HT_.out (by kernel_rfl)) (fun _ _ _ h => h) (Or.inl ⟨by rfl, ?_⟩) ?_ ?_
       rotate_left
       ·intro w'
        go_simp
        with_reducible rfl
       rotate_left
       ·simp only [Act.put, List.setIfInBounds_toArray, List.set_cons_zero, List.set_cons_succ, i64_w, i32_w]
        rfl
       refine pure_ (i := 10) (N := some 38) (v := ?_) (a' := ?_) (bb 30 1407) rfl rfl (any_of HT_.out (by kernel_rfl)) (fun _ _ _ h => h) (Or.inl ⟨by rfl, ?_⟩) ?_ ?_
       rotate_left
       ·intro w'
        go_simp
        with_reducible rfl
       rotate_left
       ·simp only [Act.put, List.setIfInBounds_toArray, List.set_cons_zero, List.set_cons_succ, i64_w, i32_w]
        rfl
       refine take_ (i := 7) (N := some 35) (v := ?_) (a' := ?_) (bb 30 1535) rfl rfl (take_ofW HT_.out HW_.out (by kernel_rfl)) (fun _ _ _ h => h) (Or.inl ⟨by rfl, ?_⟩) hHeld ?_ ?_
       rotate_left
       ·rintro w' ⟨s0, s1, s2, s3, s4, s5⟩
        go_simp
        with_reducible rfl
       rotate_left
       ·simp only [Act.put, List.setIfInBounds_toArray, List.set_cons_zero, List.set_cons_succ, i64_w, i32_w]
        rfl
       refine take_ (i := 9) (N := some 37) (v := ?_) (a' := ?_) (bb 30 2047) rfl rfl (take_ofW HT_.out HW_.out (by kernel_rfl)) (fun _ _ _ h => h) (Or.inl ⟨by rfl, ?_⟩) hHeld ?_ ?_
       rotate_left
       ·rintro w' ⟨s0, s1, s2, s3, s4, s5⟩
        go_simp
        with_reducible rfl
       rotate_left
       ·simp only [Act.put, List.setIfInBounds_toArray, List.set_cons_zero, List.set_cons_succ, i64_w, i32_w]
        rfl
       refine one_ (i := 11) (N := some 39) (bb 30 4095) rfl rfl (one_of HT_.out (by kernel_rfl)) (by decide) (fun K hK => ?_)
       refine goes_ Try.func25 (by kernel_rfl) rfl #[.agg #[.slice Ao20 y194.length co20, .int .i64 1], .slice (some ad221) y204.length co33, .agg #[.slice Ao38 t210.length co38, .int .i64 t213], .slice Ao44 t214.length co44] (by rfl) rfl rfl (by (try simp only [List.map_toArray, List.map_cons, List.map_nil]); first | done | rfl | (simp only [List.length_drop, List.length_take]; rfl)) ?_
       with_reducible refine (hypercuberef1_Same.calls k _ _ y194 1 _ _ y204 _ _ t210 t213 _ _ t214 true _ ?side1 ?side2 ?side3 ?side4 ?side5 ?side6 ?side7 ?side8 A6.out).mono ?_
       (case side1 => repeat (first | exact (Kd.R_reads' HO196.out).2.2 | (with_reducible refine Kd.C_alloc ?_ _) | (with_reducible refine Kd.C_drewN ?_ _) | (with_reducible refine Kd.C_drew ?_)))
       (case side2 => exact (Kd.R_reads' HO196.out).2.1)
       (case side3 => repeat (first | exact (Kd.N_reads' HO206.out).2.2 | (with_reducible refine Kd.C_alloc ?_ _) | (with_reducible refine Kd.C_drewN ?_ _) | (with_reducible refine Kd.C_drew ?_)))
       (case side4 => exact (Kd.N_reads' HO206.out).2.1)
       (case side5 => repeat (first | exact (Kd.R_reads' HO212.out).2.2 | (with_reducible refine Kd.C_alloc ?_ _) | (with_reducible refine Kd.C_drewN ?_ _) | (with_reducible refine Kd.C_drew ?_)))
       (case side6 => exact (Kd.R_reads' HO212.out).2.1)
       (case side7 => repeat (first | exact (Kd.N_reads' HO216.out).2.2 | (with_reducible refine Kd.C_alloc ?_ _) | (with_reducible refine Kd.C_drewN ?_ _) | (with_reducible refine Kd.C_drew ?_)))
       (case side8 => exact (Kd.N_reads' HO216.out).2.1)
       rintro e w45 ⟨rfl, hb⟩
       have mv0_ := am (Kd.V_below (by (with_reducible repeat (first | apply Kd.V_alloc | apply Kd.V_drewN | apply Kd.V_drew)); exact HL221_0.out) hb)
       have mv1_ := am (Kd.V_below (by (with_reducible repeat (first | apply Kd.V_alloc | apply Kd.V_drewN | apply Kd.V_drew)); exact HL221_1.out) hb)
       have mv2_ := am (Kd.C_below (by repeat (first | (with_reducible exact HR221_0.out) | (with_reducible refine Kd.C_alloc ?_ _) | (with_reducible refine Kd.C_drewN ?_ _) | (with_reducible refine Kd.C_drew ?_) | exact HR221_0.out)) hb)
       have mv3_ := am (Kd.C_below (by repeat (first | (with_reducible exact HR221_1.out) | (with_reducible refine Kd.C_alloc ?_ _) | (with_reducible refine Kd.C_drewN ?_ _) | (with_reducible refine Kd.C_drew ?_) | exact HR221_1.out)) hb)
       clear HL221_0 HL221_1 HR221_0 HR221_1
       have HL221_0 := mv0_
       have HL221_1 := mv1_
       have HR221_0 := mv2_
       have HR221_1 := mv3_
       clear mv0_ mv1_ mv2_ mv3_
       have HS4_ := (hb.cell (World.block_lt_of_cell? _ _ (hHeld.2.2.2.2.1))).trans (hHeld.2.2.2.2.1)
       have HS5_ := (hb.cell (World.block_lt_of_cell? _ _ (hHeld.2.2.2.2.2))).trans (hHeld.2.2.2.2.2)
       refine ⟨_, rfl, ?_⟩
       have n0_ := am (Kd.R_below (by (with_reducible repeat (first | apply Kd.R_alloc | apply Kd.R_drewN | apply Kd.R_drew)); exact HO187.out) hb)
       have n1_ := am (Kd.N_below (by (with_reducible repeat (first | apply Kd.N_alloc | apply Kd.N_drewN | apply Kd.N_drew)); exact HO191.out) hb)
       have n2_ := am (Kd.R_below (by (with_reducible repeat (first | apply Kd.R_alloc | apply Kd.R_drewN | apply Kd.R_drew)); exact HO196.out) hb)
       have n3_ := am (Kd.N_below (by (with_reducible repeat (first | apply Kd.N_alloc | apply Kd.N_drewN | apply Kd.N_drew)); exact HO206.out) hb)
       have n4_ := am (Kd.R_below (by (with_reducible repeat (first | apply Kd.R_alloc | apply Kd.R_drewN | apply Kd.R_drew)); exact HO209.out) hb)
       have n5_ := am (Kd.R_below (by (with_reducible repeat (first | apply Kd.R_alloc | apply Kd.R_drewN | apply Kd.R_drew)); exact HO212.out) hb)
       have n6_ := am (Kd.N_below (by (with_reducible repeat (first | apply Kd.N_alloc | apply Kd.N_drewN | apply Kd.N_drew)); exact HO216.out) hb)
       have n7_ := am (blk_below (g := gb193) (o := .cells #[.slice Ao16 t185.length co16, .int .i64 t188] 24 (0, 0)) (by (with_reducible repeat (first | refine blk_drewN ?_ _ | refine blk_drew ?_ | refine blk_alloc ?_ _)); exact BK193.out) hb)
       have n8_ := am (blk_below (g := gb197) (o := .cells #[.slice Ao20 y194.length co20, .int .i64 1] 24 (0, 0)) (by (with_reducible repeat (first | refine blk_drewN ?_ _ | refine blk_drew ?_ | refine blk_alloc ?_ _)); exact BK197.out) hb)
       have n9_ := am (blk_below (g := gb218) (o := .cells #[.slice Ao38 t210.length co38, .int .i64 t213] 24 (0, 0)) (by (with_reducible repeat (first | refine blk_drewN ?_ _ | refine blk_drew ?_ | refine blk_alloc ?_ _)); exact BK218.out) hb)
       have n10_ := am (below_step (by repeat (first | (with_reducible first | exact HB.out | apply below_alloc | apply pw_below_drewN | apply below_drew1 | refine below_set ?_ GE193.out | refine below_set ?_ GE197.out | refine below_set ?_ GE218.out) | exact HB.out)) hb)
       clear HO187
       clear HO191
       clear HO196
       clear HO206
       clear HO209
       clear HO212
       clear HO216
       clear BK193
       clear BK197
       clear BK218
       clear HB
       have HO187 := n0_
       have HO191 := n1_
       have HO196 := n2_
       have HO206 := n3_
       have HO209 := n4_
       have HO212 := n5_
       have HO216 := n6_
       have BK193 := n7_
       have BK197 := n8_
       have BK218 := n9_
       have HB := n10_
       clear n0_ n1_ n2_ n3_ n4_ n5_ n6_ n7_ n8_ n9_ n10_
       (try clear hb)
       (try clear hb2)
       (try clear hk)
       (try clear hi)
       refine hK.out _ _ ⟨(blk_cell BK197.out 0).trans rfl, (blk_cell BK197.out 1).trans rfl, (blk_cell BK218.out 0).trans rfl, (blk_cell BK218.out 1).trans rfl, HS4_, HS5_⟩ (fun hHeld => ?_)
       clear hK K
       refine norm_ (a' := ?_) ?_ ?_
       rotate_left
       ·show Act.put _ (some 39) _ = _
        simp only [Act.put, List.setIfInBounds_toArray, List.set_cons_zero, List.set_cons_succ, i64_w, i32_w]
        rfl
       refine pure_ (i := 12) (N := some 40) (v := ?_) (a' := ?_) (bb 30 8191) rfl rfl (any_of HT_.out (by kernel_rfl)) (fun _ _ _ h => h) (Or.inl ⟨by rfl, ?_⟩) ?_ ?_
       rotate_left
       ·intro w'
        go_simp
        with_reducible rfl
       rotate_left
       ·simp only [Act.put, List.setIfInBounds_toArray, List.set_cons_zero, List.set_cons_succ, i64_w, i32_w]
        rfl
       refine pure_ (i := 13) (N := some 41) (v := ?_) (a' := ?_) (bb 30 16383) rfl rfl (any_of HT_.out (by kernel_rfl)) (fun _ _ _ h => h) (Or.inl ⟨by rfl, ?_⟩) ?_ ?_
       rotate_left
       ·intro w'
        go_simp
        with_reducible rfl
       rotate_left
       ·simp only [Act.put, List.setIfInBounds_toArray, List.set_cons_zero, List.set_cons_succ, i64_w, i32_w]
        rfl
       refine take_ (i := 14) (N := some 42) (v := ?_) (a' := ?_) (bb 30 32767) rfl rfl (take_ofW HT_.out HW_.out (by kernel_rfl)) (fun _ _ _ h => h) (Or.inl ⟨by rfl, ?_⟩) hHeld ?_ ?_
       rotate_left
       ·rintro w' ⟨s0, s1, s2, s3, s4, s5⟩
        go_simp
        with_reducible rfl
       rotate_left
       ·simp only [Act.put, List.setIfInBounds_toArray, List.set_cons_zero, List.set_cons_succ, i64_w, i32_w]
        rfl
       refine one_ (i := 15) (N := some 43) (bb 30 65535) rfl rfl (one_of HT_.out (by kernel_rfl)) (by decide) (fun K hK => ?_)
       refine goes_ Try.func17 (by kernel_rfl) rfl #[.agg #[.slice Ao20 y194.length co20, .int .i64 1]] (by rfl) rfl rfl (by (try simp only [List.map_toArray, List.map_cons, List.map_nil]); first | done | rfl | (simp only [List.length_drop, List.length_take]; rfl)) ?_
       with_reducible refine (rec_Check.calls _ _ y194 1 true _ ?side1 ?side2 A8.out).mono ?_
       (case side1 => repeat (first | exact (Kd.R_reads' HO196.out).2.2 | (with_reducible refine Kd.C_alloc ?_ _) | (with_reducible refine Kd.C_drewN ?_ _) | (with_reducible refine Kd.C_drew ?_)))
       (case side2 => exact (Kd.R_reads' HO196.out).2.1)
       rintro e w46 ⟨rfl, hb⟩
       have mv0_ := am (Kd.V_below (by (with_reducible repeat (first | apply Kd.V_alloc | apply Kd.V_drewN | apply Kd.V_drew)); exact HL221_0.out) hb)
       have mv1_ := am (Kd.V_below (by (with_reducible repeat (first | apply Kd.V_alloc | apply Kd.V_drewN | apply Kd.V_drew)); exact HL221_1.out) hb)
       have mv2_ := am (Kd.C_below (by repeat (first | (with_reducible exact HR221_0.out) | (with_reducible refine Kd.C_alloc ?_ _) | (with_reducible refine Kd.C_drewN ?_ _) | (with_reducible refine Kd.C_drew ?_) | exact HR221_0.out)) hb)
       have mv3_ := am (Kd.C_below (by repeat (first | (with_reducible exact HR221_1.out) | (with_reducible refine Kd.C_alloc ?_ _) | (with_reducible refine Kd.C_drewN ?_ _) | (with_reducible refine Kd.C_drew ?_) | exact HR221_1.out)) hb)
       clear HL221_0 HL221_1 HR221_0 HR221_1
       have HL221_0 := mv0_
       have HL221_1 := mv1_
       have HR221_0 := mv2_
       have HR221_1 := mv3_
       clear mv0_ mv1_ mv2_ mv3_
       have HS4_ := (hb.cell (World.block_lt_of_cell? _ _ (hHeld.2.2.2.2.1))).trans (hHeld.2.2.2.2.1)
       have HS5_ := (hb.cell (World.block_lt_of_cell? _ _ (hHeld.2.2.2.2.2))).trans (hHeld.2.2.2.2.2)
       refine ⟨_, rfl, ?_⟩
       have n0_ := am (Kd.R_below (by (with_reducible repeat (first | apply Kd.R_alloc | apply Kd.R_drewN | apply Kd.R_drew)); exact HO187.out) hb)
       have n1_ := am (Kd.N_below (by (with_reducible repeat (first | apply Kd.N_alloc | apply Kd.N_drewN | apply Kd.N_drew)); exact HO191.out) hb)
       have n2_ := am (Kd.R_below (by (with_reducible repeat (first | apply Kd.R_alloc | apply Kd.R_drewN | apply Kd.R_drew)); exact HO196.out) hb)
       have n3_ := am (Kd.N_below (by (with_reducible repeat (first | apply Kd.N_alloc | apply Kd.N_drewN | apply Kd.N_drew)); exact HO206.out) hb)
       have n4_ := am (Kd.R_below (by (with_reducible repeat (first | apply Kd.R_alloc | apply Kd.R_drewN | apply Kd.R_drew)); exact HO209.out) hb)
       have n5_ := am (Kd.R_below (by (with_reducible repeat (first | apply Kd.R_alloc | apply Kd.R_drewN | apply Kd.R_drew)); exact HO212.out) hb)
       have n6_ := am (Kd.N_below (by (with_reducible repeat (first | apply Kd.N_alloc | apply Kd.N_drewN | apply Kd.N_drew)); exact HO216.out) hb)
       have n7_ := am (blk_below (g := gb193) (o := .cells #[.slice Ao16 t185.length co16, .int .i64 t188] 24 (0, 0)) (by (with_reducible repeat (first | refine blk_drewN ?_ _ | refine blk_drew ?_ | refine blk_alloc ?_ _)); exact BK193.out) hb)
       have n8_ := am (blk_below (g := gb197) (o := .cells #[.slice Ao20 y194.length co20, .int .i64 1] 24 (0, 0)) (by (with_reducible repeat (first | refine blk_drewN ?_ _ | refine blk_drew ?_ | refine blk_alloc ?_ _)); exact BK197.out) hb)
       have n9_ := am (blk_below (g := gb218) (o := .cells #[.slice Ao38 t210.length co38, .int .i64 t213] 24 (0, 0)) (by (with_reducible repeat (first | refine blk_drewN ?_ _ | refine blk_drew ?_ | refine blk_alloc ?_ _)); exact BK218.out) hb)
       have n10_ := am (below_step (by repeat (first | (with_reducible first | exact HB.out | apply below_alloc | apply pw_below_drewN | apply below_drew1 | refine below_set ?_ GE193.out | refine below_set ?_ GE197.out | refine below_set ?_ GE218.out) | exact HB.out)) hb)
       clear HO187
       clear HO191
       clear HO196
       clear HO206
       clear HO209
       clear HO212
       clear HO216
       clear BK193
       clear BK197
       clear BK218
       clear HB
       have HO187 := n0_
       have HO191 := n1_
       have HO196 := n2_
       have HO206 := n3_
       have HO209 := n4_
       have HO212 := n5_
       have HO216 := n6_
       have BK193 := n7_
       have BK197 := n8_
       have BK218 := n9_
       have HB := n10_
       clear n0_ n1_ n2_ n3_ n4_ n5_ n6_ n7_ n8_ n9_ n10_
       (try clear hb)
       (try clear hb2)
       (try clear hk)
       (try clear hi)
       refine hK.out _ _ ⟨(blk_cell BK197.out 0).trans rfl, (blk_cell BK197.out 1).trans rfl, (blk_cell BK218.out 0).trans rfl, (blk_cell BK218.out 1).trans rfl, HS4_, HS5_⟩ (fun hHeld => ?_)
       clear hK K
       refine norm_ (a' := ?_) ?_ ?_
       rotate_left
       ·show Act.put _ (some 43) _ = _
        simp only [Act.put, List.setIfInBounds_toArray, List.set_cons_zero, List.set_cons_succ, i64_w, i32_w]
        rfl
       refine pure_ (i := 16) (N := some 44) (v := ?_) (a' := ?_) (bb 30 131071) rfl rfl (any_of HT_.out (by kernel_rfl)) (fun _ _ _ h => h) (Or.inl ⟨by rfl, ?_⟩) ?_ ?_
       rotate_left
       ·intro w'
        go_simp
        with_reducible rfl
       rotate_left
       ·simp only [Act.put, List.setIfInBounds_toArray, List.set_cons_zero, List.set_cons_succ, i64_w, i32_w]
        rfl
       refine pure_ (i := 17) (N := some 45) (v := ?_) (a' := ?_) (bb 30 262143) rfl rfl (any_of HT_.out (by kernel_rfl)) (fun _ _ _ h => h) (Or.inl ⟨by rfl, ?_⟩) ?_ ?_
       rotate_left
       ·intro w'
        go_simp
        with_reducible rfl
       rotate_left
       ·simp only [Act.put, List.setIfInBounds_toArray, List.set_cons_zero, List.set_cons_succ, i64_w, i32_w]
        rfl
       refine pure_ (i := 19) (N := some 47) (v := ?_) (a' := ?_) (bb 30 786431) rfl rfl (any_of HT_.out (by kernel_rfl)) (fun _ _ _ h => h) (Or.inl ⟨by rfl, ?_⟩) ?_ ?_
       rotate_left
       ·intro w'
        go_simp
        with_reducible rfl
       rotate_left
       ·simp only [Act.put, List.setIfInBounds_toArray, List.set_cons_zero, List.set_cons_succ, i64_w, i32_w]
        rfl
       refine pure_ (i := 20) (N := some 48) (v := ?_) (a' := ?_) (bb 30 1835007) rfl rfl (any_of HT_.out (by kernel_rfl)) (fun _ _ _ h => h) (Or.inl ⟨by rfl, ?_⟩) ?_ ?_
       rotate_left
       ·intro w'
        go_simp
        with_reducible rfl
       rotate_left
       ·simp only [Act.put, List.setIfInBounds_toArray, List.set_cons_zero, List.set_cons_succ, i64_w, i32_w]
        rfl
       refine take_ (i := 18) (N := some 46) (v := ?_) (a' := ?_) (bb 30 2097151) rfl rfl (take_ofW HT_.out HW_.out (by kernel_rfl)) (fun _ _ _ h => h) (Or.inl ⟨by rfl, ?_⟩) hHeld ?_ ?_
       rotate_left
       ·rintro w' ⟨s0, s1, s2, s3, s4, s5⟩
        go_simp
        with_reducible rfl
       rotate_left
       ·simp only [Act.put, List.setIfInBounds_toArray, List.set_cons_zero, List.set_cons_succ, i64_w, i32_w]
        rfl
       refine take_ (i := 21) (N := some 49) (v := ?_) (a' := ?_) (bb 30 4194303) rfl rfl (take_ofW HT_.out HW_.out (by kernel_rfl)) (fun _ _ _ h => h) (Or.inl ⟨by rfl, ?_⟩) hHeld ?_ ?_
       rotate_left
       ·rintro w' ⟨s0, s1, s2, s3, s4, s5⟩
        go_simp
        with_reducible rfl
       rotate_left
       ·simp only [Act.put, List.setIfInBounds_toArray, List.set_cons_zero, List.set_cons_succ, i64_w, i32_w]
        rfl
       refine one_ (i := 22) (N := some 50) (bb 30 8388607) rfl rfl (one_of HT_.out (by kernel_rfl)) (by decide) (fun K hK => ?_)
       refine goes_ Try.func19 (by kernel_rfl) rfl #[.agg #[.slice Ao20 y194.length co20, .int .i64 1], .agg #[.slice A221_0 ((rd_T33 y204 0).f0).length c221_0, .slice A221_1 ((rd_T33 y204 0).f1).length c221_1]] (by rfl) rfl rfl (by (try simp only [List.map_toArray, List.map_cons, List.map_nil]); first | done | rfl | (simp only [List.length_drop, List.length_take]; rfl)) ?_
       with_reducible refine (rec_Right.calls k _ _ y194 1 _ _ ((rd_T33 y204 0).f0) _ _ ((rd_T33 y204 0).f1) true _ ?side1 ?side2 ?side3 ?side4 ?side5 ?side6 A11.out).mono ?_
       (case side1 => repeat (first | exact (Kd.R_reads' HO196.out).2.2 | (with_reducible refine Kd.C_alloc ?_ _) | (with_reducible refine Kd.C_drewN ?_ _) | (with_reducible refine Kd.C_drew ?_)))
       (case side2 => exact (Kd.R_reads' HO196.out).2.1)
       (case side3 => repeat (first | exact (by repeat (first | (with_reducible exact HR221_0.out) | (with_reducible refine Kd.C_alloc ?_ _) | (with_reducible refine Kd.C_drewN ?_ _) | (with_reducible refine Kd.C_drew ?_) | exact HR221_0.out)) | (with_reducible refine Kd.C_alloc ?_ _) | (with_reducible refine Kd.C_drewN ?_ _) | (with_reducible refine Kd.C_drew ?_)))
       (case side4 => exact HC221_0.out)
       (case side5 => repeat (first | exact (by repeat (first | (with_reducible exact HR221_1.out) | (with_reducible refine Kd.C_alloc ?_ _) | (with_reducible refine Kd.C_drewN ?_ _) | (with_reducible refine Kd.C_drew ?_) | exact HR221_1.out)) | (with_reducible refine Kd.C_alloc ?_ _) | (with_reducible refine Kd.C_drewN ?_ _) | (with_reducible refine Kd.C_drew ?_)))
       (case side6 => exact HC221_1.out)
       rintro e w47 ⟨rfl, hb⟩
       have HS4_ := (hb.cell (World.block_lt_of_cell? _ _ (hHeld.2.2.2.2.1))).trans (hHeld.2.2.2.2.1)
       have HS5_ := (hb.cell (World.block_lt_of_cell? _ _ (hHeld.2.2.2.2.2))).trans (hHeld.2.2.2.2.2)
       refine ⟨_, rfl, ?_⟩
       have n0_ := am (Kd.R_below (by (with_reducible repeat (first | apply Kd.R_alloc | apply Kd.R_drewN | apply Kd.R_drew)); exact HO187.out) hb)
       have n1_ := am (Kd.N_below (by (with_reducible repeat (first | apply Kd.N_alloc | apply Kd.N_drewN | apply Kd.N_drew)); exact HO191.out) hb)
       have n2_ := am (Kd.R_below (by (with_reducible repeat (first | apply Kd.R_alloc | apply Kd.R_drewN | apply Kd.R_drew)); exact HO196.out) hb)
       have n3_ := am (Kd.N_below (by (with_reducible repeat (first | apply Kd.N_alloc | apply Kd.N_drewN | apply Kd.N_drew)); exact HO206.out) hb)
       have n4_ := am (Kd.R_below (by (with_reducible repeat (first | apply Kd.R_alloc | apply Kd.R_drewN | apply Kd.R_drew)); exact HO209.out) hb)
       have n5_ := am (Kd.R_below (by (with_reducible repeat (first | apply Kd.R_alloc | apply Kd.R_drewN | apply Kd.R_drew)); exact HO212.out) hb)
       have n6_ := am (Kd.N_below (by (with_reducible repeat (first | apply Kd.N_alloc | apply Kd.N_drewN | apply Kd.N_drew)); exact HO216.out) hb)
       have n7_ := am (Kd.V_below (by (with_reducible repeat (first | apply Kd.V_alloc | apply Kd.V_drewN | apply Kd.V_drew)); exact HL221_0.out) hb)
       have n8_ := am (Kd.V_below (by (with_reducible repeat (first | apply Kd.V_alloc | apply Kd.V_drewN | apply Kd.V_drew)); exact HL221_1.out) hb)
       have n9_ := am (blk_below (g := gb193) (o := .cells #[.slice Ao16 t185.length co16, .int .i64 t188] 24 (0, 0)) (by (with_reducible repeat (first | refine blk_drewN ?_ _ | refine blk_drew ?_ | refine blk_alloc ?_ _)); exact BK193.out) hb)
       have n10_ := am (blk_below (g := gb197) (o := .cells #[.slice Ao20 y194.length co20, .int .i64 1] 24 (0, 0)) (by (with_reducible repeat (first | refine blk_drewN ?_ _ | refine blk_drew ?_ | refine blk_alloc ?_ _)); exact BK197.out) hb)
       have n11_ := am (blk_below (g := gb218) (o := .cells #[.slice Ao38 t210.length co38, .int .i64 t213] 24 (0, 0)) (by (with_reducible repeat (first | refine blk_drewN ?_ _ | refine blk_drew ?_ | refine blk_alloc ?_ _)); exact BK218.out) hb)
       have n12_ := am (Kd.C_below (by repeat (first | (with_reducible exact HR221_0.out) | (with_reducible refine Kd.C_alloc ?_ _) | (with_reducible refine Kd.C_drewN ?_ _) | (with_reducible refine Kd.C_drew ?_) | exact HR221_0.out)) hb)
       have n13_ := am (Kd.C_below (by repeat (first | (with_reducible exact HR221_1.out) | (with_reducible refine Kd.C_alloc ?_ _) | (with_reducible refine Kd.C_drewN ?_ _) | (with_reducible refine Kd.C_drew ?_) | exact HR221_1.out)) hb)
       have n14_ := am (below_step (by repeat (first | (with_reducible first | exact HB.out | apply below_alloc | apply pw_below_drewN | apply below_drew1 | refine below_set ?_ GE193.out | refine below_set ?_ GE197.out | refine below_set ?_ GE218.out) | exact HB.out)) hb)
       clear HO187
       clear HO191
       clear HO196
       clear HO206
       clear HO209
       clear HO212
       clear HO216
       clear HL221_0
       clear HL221_1
       clear BK193
       clear BK197
       clear BK218
       clear HR221_0
       clear HR221_1
       clear HB
       have HO187 := n0_
       have HO191 := n1_
       have HO196 := n2_
       have HO206 := n3_
       have HO209 := n4_
       have HO212 := n5_
       have HO216 := n6_
       have HL221_0 := n7_
       have HL221_1 := n8_
       have BK193 := n9_
       have BK197 := n10_
       have BK218 := n11_
       have HR221_0 := n12_
       have HR221_1 := n13_
       have HB := n14_
       clear n0_ n1_ n2_ n3_ n4_ n5_ n6_ n7_ n8_ n9_ n10_ n11_ n12_ n13_ n14_
       (try clear hb)
       (try clear hb2)
       (try clear hk)
       (try clear hi)
       refine hK.out _ _ ⟨(blk_cell BK197.out 0).trans rfl, (blk_cell BK197.out 1).trans rfl, (blk_cell BK218.out 0).trans rfl, (blk_cell BK218.out 1).trans rfl, HS4_, HS5_⟩ (fun hHeld => ?_)
       clear hK K
       refine norm_ (a' := ?_) ?_ ?_
       rotate_left
       ·show Act.put _ (some 50) _ = _
        simp only [Act.put, List.setIfInBounds_toArray, List.set_cons_zero, List.set_cons_succ, i64_w, i32_w]
        rfl
       refine pure_ (i := 23) (N := some 51) (v := ?_) (a' := ?_) (bb 30 16777215) rfl rfl (any_of HT_.out (by kernel_rfl)) (fun _ _ _ h => h) (Or.inl ⟨by rfl, ?_⟩) ?_ ?_
       rotate_left
       ·intro w'
        go_simp
        with_reducible rfl
       rotate_left
       ·simp only [Act.put, List.setIfInBounds_toArray, List.set_cons_zero, List.set_cons_succ, i64_w, i32_w]
        rfl
       refine pure_ (i := 24) (N := some 52) (v := ?_) (a' := ?_) (bb 30 33554431) rfl rfl (any_of HT_.out (by kernel_rfl)) (fun _ _ _ h => h) (Or.inl ⟨by rfl, ?_⟩) ?_ ?_
       rotate_left
       ·intro w'
        go_simp
        with_reducible rfl
       rotate_left
       ·simp only [Act.put, List.setIfInBounds_toArray, List.set_cons_zero, List.set_cons_succ, i64_w, i32_w]
        rfl
       refine pure_ (i := 26) (N := some 54) (v := ?_) (a' := ?_) (bb 30 100663295) rfl rfl (any_of HT_.out (by kernel_rfl)) (fun _ _ _ h => h) (Or.inl ⟨by rfl, ?_⟩) ?_ ?_
       rotate_left
       ·intro w'
        go_simp
        with_reducible rfl
       rotate_left
       ·simp only [Act.put, List.setIfInBounds_toArray, List.set_cons_zero, List.set_cons_succ, i64_w, i32_w]
        rfl
       refine take_ (i := 25) (N := some 53) (v := ?_) (a' := ?_) (bb 30 134217727) rfl rfl (take_ofW HT_.out HW_.out (by kernel_rfl)) (fun _ _ _ h => h) (Or.inl ⟨by rfl, ?_⟩) hHeld ?_ ?_
       rotate_left
       ·rintro w' ⟨s0, s1, s2, s3, s4, s5⟩
        go_simp
        with_reducible rfl
       rotate_left
       ·simp only [Act.put, List.setIfInBounds_toArray, List.set_cons_zero, List.set_cons_succ, i64_w, i32_w]
        rfl
       refine one_ (i := 27) (N := some 55) (bb 30 268435455) rfl rfl (one_of HT_.out (by kernel_rfl)) (by decide) (fun K hK => ?_)
       refine goes_ Try.func27 (by kernel_rfl) rfl #[.agg #[.slice Ao20 y194.length co20, .int .i64 1], .slice (some ad221) y204.length co33] (by rfl) rfl rfl (by (try simp only [List.map_toArray, List.map_cons, List.map_nil]); first | done | rfl | (simp only [List.length_drop, List.length_take]; rfl)) ?_
       with_reducible refine (rec_Sound.calls k _ _ y194 1 _ _ y204 t223 _ ?side1 ?side2 ?side3 ?side4 A13.out).mono ?_
       (case side1 => repeat (first | exact (Kd.R_reads' HO196.out).2.2 | (with_reducible refine Kd.C_alloc ?_ _) | (with_reducible refine Kd.C_drewN ?_ _) | (with_reducible refine Kd.C_drew ?_)))
       (case side2 => exact (Kd.R_reads' HO196.out).2.1)
       (case side3 => repeat (first | exact (Kd.N_reads' HO206.out).2.2 | (with_reducible refine Kd.C_alloc ?_ _) | (with_reducible refine Kd.C_drewN ?_ _) | (with_reducible refine Kd.C_drew ?_)))
       (case side4 => exact (Kd.N_reads' HO206.out).2.1)
       rintro e w48 ⟨rfl, hb⟩
       have HS4_ := (hb.cell (World.block_lt_of_cell? _ _ (hHeld.2.2.2.2.1))).trans (hHeld.2.2.2.2.1)
       have HS5_ := (hb.cell (World.block_lt_of_cell? _ _ (hHeld.2.2.2.2.2))).trans (hHeld.2.2.2.2.2)
       refine ⟨_, rfl, ?_⟩
       have n0_ := am (Kd.R_below (by (with_reducible repeat (first | apply Kd.R_alloc | apply Kd.R_drewN | apply Kd.R_drew)); exact HO187.out) hb)
       have n1_ := am (Kd.N_below (by (with_reducible repeat (first | apply Kd.N_alloc | apply Kd.N_drewN | apply Kd.N_drew)); exact HO191.out) hb)
       have n2_ := am (Kd.R_below (by (with_reducible repeat (first | apply Kd.R_alloc | apply Kd.R_drewN | apply Kd.R_drew)); exact HO196.out) hb)
       have n3_ := am (Kd.N_below (by (with_reducible repeat (first | apply Kd.N_alloc | apply Kd.N_drewN | apply Kd.N_drew)); exact HO206.out) hb)
       have n4_ := am (Kd.R_below (by (with_reducible repeat (first | apply Kd.R_alloc | apply Kd.R_drewN | apply Kd.R_drew)); exact HO209.out) hb)
       have n5_ := am (Kd.R_below (by (with_reducible repeat (first | apply Kd.R_alloc | apply Kd.R_drewN | apply Kd.R_drew)); exact HO212.out) hb)
       have n6_ := am (Kd.N_below (by (with_reducible repeat (first | apply Kd.N_alloc | apply Kd.N_drewN | apply Kd.N_drew)); exact HO216.out) hb)
       have n7_ := am (Kd.V_below (by (with_reducible repeat (first | apply Kd.V_alloc | apply Kd.V_drewN | apply Kd.V_drew)); exact HL221_0.out) hb)
       have n8_ := am (Kd.V_below (by (with_reducible repeat (first | apply Kd.V_alloc | apply Kd.V_drewN | apply Kd.V_drew)); exact HL221_1.out) hb)
       have n9_ := am (blk_below (g := gb193) (o := .cells #[.slice Ao16 t185.length co16, .int .i64 t188] 24 (0, 0)) (by (with_reducible repeat (first | refine blk_drewN ?_ _ | refine blk_drew ?_ | refine blk_alloc ?_ _)); exact BK193.out) hb)
       have n10_ := am (blk_below (g := gb197) (o := .cells #[.slice Ao20 y194.length co20, .int .i64 1] 24 (0, 0)) (by (with_reducible repeat (first | refine blk_drewN ?_ _ | refine blk_drew ?_ | refine blk_alloc ?_ _)); exact BK197.out) hb)
       have n11_ := am (blk_below (g := gb218) (o := .cells #[.slice Ao38 t210.length co38, .int .i64 t213] 24 (0, 0)) (by (with_reducible repeat (first | refine blk_drewN ?_ _ | refine blk_drew ?_ | refine blk_alloc ?_ _)); exact BK218.out) hb)
       have n12_ := am (Kd.C_below (by repeat (first | (with_reducible exact HR221_0.out) | (with_reducible refine Kd.C_alloc ?_ _) | (with_reducible refine Kd.C_drewN ?_ _) | (with_reducible refine Kd.C_drew ?_) | exact HR221_0.out)) hb)
       have n13_ := am (Kd.C_below (by repeat (first | (with_reducible exact HR221_1.out) | (with_reducible refine Kd.C_alloc ?_ _) | (with_reducible refine Kd.C_drewN ?_ _) | (with_reducible refine Kd.C_drew ?_) | exact HR221_1.out)) hb)
       have n14_ := am (below_step (by repeat (first | (with_reducible first | exact HB.out | apply below_alloc | apply pw_below_drewN | apply below_drew1 | refine below_set ?_ GE193.out | refine below_set ?_ GE197.out | refine below_set ?_ GE218.out) | exact HB.out)) hb)
       clear HO187
       clear HO191
       clear HO196
       clear HO206
       clear HO209
       clear HO212
       clear HO216
       clear HL221_0
       clear HL221_1
       clear BK193
       clear BK197
       clear BK218
       clear HR221_0
       clear HR221_1
       clear HB
       have HO187 := n0_
       have HO191 := n1_
       have HO196 := n2_
       have HO206 := n3_
       have HO209 := n4_
       have HO212 := n5_
       have HO216 := n6_
       have HL221_0 := n7_
       have HL221_1 := n8_
       have BK193 := n9_
       have BK197 := n10_
       have BK218 := n11_
       have HR221_0 := n12_
       have HR221_1 := n13_
       have HB := n14_
       clear n0_ n1_ n2_ n3_ n4_ n5_ n6_ n7_ n8_ n9_ n10_ n11_ n12_ n13_ n14_
       (try clear hb)
       (try clear hb2)
       (try clear hk)
       (try clear hi)
       refine hK.out _ _ ⟨(blk_cell BK197.out 0).trans rfl, (blk_cell BK197.out 1).trans rfl, (blk_cell BK218.out 0).trans rfl, (blk_cell BK218.out 1).trans rfl, HS4_, HS5_⟩ (fun hHeld => ?_)
       clear hK K
       refine norm_ (a' := ?_) ?_ ?_
       rotate_left
       ·show Act.put _ (some 55) _ = _
        simp only [Act.put, List.setIfInBounds_toArray, List.set_cons_zero, List.set_cons_succ, i64_w, i32_w]
        rfl
       refine pure_ (i := 28) (N := some 56) (v := ?_) (a' := ?_) (bb 30 536870911) rfl rfl (any_of HT_.out (by kernel_rfl)) (fun _ _ _ h => h) (Or.inl ⟨by rfl, ?_⟩) ?_ ?_
       rotate_left
       ·intro w'
        go_simp
        with_reducible rfl
       rotate_left
       ·simp only [Act.put, List.setIfInBounds_toArray, List.set_cons_zero, List.set_cons_succ, i64_w, i32_w]
        rfl
       refine pure_ (i := 29) (N := some 0) (v := ?_) (a' := ?_) (bb 30 1073741823) rfl rfl (any_of HT_.out (by kernel_rfl)) (fun _ _ _ h => h) (Or.inl ⟨by rfl, ?_⟩) ?_ ?_
       rotate_left
       ·intro w'
        go_simp
        with_reducible rfl
       rotate_left
       ·simp only [Act.put, List.setIfInBounds_toArray, List.set_cons_zero, List.set_cons_succ, i64_w, i32_w]
        rfl
       refine done_ (done_of HT_.out (by kernel_rfl)) ?_
       try go_wp2
       go_ret
       exact ⟨by first | rfl | (simp [errW_none, errW_some] <;> rfl) | (simp [*, errW_none, errW_some] <;> rfl), by repeat (first | (with_reducible first | exact HB.out | apply below_alloc | apply pw_below_drewN | apply below_drew1 | refine below_set ?_ GE193.out | refine below_set ?_ GE197.out | refine below_set ?_ GE218.out) | exact HB.out)⟩
      ·replace c12 := Bool.eq_false_iff.mpr c12
       subst c12
       have H1 : (none) = some r := by rw [if_neg (show ¬ (false = true) by decide)] at H; exact H
       clear H
       have H := H1
       clear H1
       exact absurd H (by simp)
     ·rw [if_neg c10] at H
      exact absurd H (by simp)
    ·replace c9 := Bool.eq_false_iff.mpr c9
     subst c9
     have H1 : (none) = some r := by rw [if_neg (show ¬ (false = true) by decide)] at H; exact H
     clear H
     have H := H1
     clear H1
     exact absurd H (by simp)
   ·replace c7 := Bool.eq_false_iff.mpr c7
    subst c7
    have H1 : (none) = some r := by rw [if_neg (show ¬ (false = true) by decide)] at H; exact H
    clear H
    have H := H1
    clear H1
    exact absurd H (by simp)
  ·rw [if_neg c5] at H
   exact absurd H (by simp)
 ·rw [if_neg c4] at H
  exact absurd H (by simp)
end Go.Proofs.Ytlacfpbfnedgdaa.Q
namespace Go.Proofs.Ytlacfpbfnedgdaa.Q
open Go.RowKit Go.Proofs.YtlacfpbfnedgdaaW.PrintWords Go.Proofs.YtlacfpbfnedgdaaW.PrintLast Go.Proofs.YtlacfpbfnedgdaaW.PrintMore
set_option linter.unusedVariables false
set_option linter.unusedSimpArgs false
theorem known_40 : hypercubelaw1_known.f 60 = some true := by decide +kernel
theorem known_ev : Ev (fun k => hypercubelaw1_known.f k) true := Ev.of hypercubelaw1_known.mono known_40
def eight (x : Int) : List Int := [x / 72057594037927936 % 256, x / 281474976710656 % 256, x / 1099511627776 % 256, x / 4294967296 % 256, x / 16777216 % 256, x / 65536 % 256, x / 256 % 256, x % 256]
theorem eight_length (x : Int) : (eight x).length = 8 := rfl
theorem or_byte (q c : Int) (h0 : 0 ≤ c) (h1 : c < 256) (h2 : -9223372036854775808 ≤ q * 256) (h3 : q * 256 ≤ 9223372036854775552) : Go.bits .or .i64 (q * 256) c = q * 256 + c := by
 unfold Go.bits
 simp only []
 have hb : IntKind.i64.bits = 64 := rfl
 have key : ((BitVec.ofInt 64 (q * 256)) ||| (BitVec.ofInt 64 c)).toNat = ((q * 256) % 18446744073709551616 + c).toNat := by
  rw [BitVec.toNat_or, BitVec.toNat_ofInt, BitVec.toNat_ofInt]
  have e1 : (c % ((2 ^ 64 : Nat) : Int)).toNat = c.toNat := by
   have : c % ((2 ^ 64 : Nat) : Int) = c := Int.emod_eq_of_lt h0 (by have : ((2 ^ 64 : Nat) : Int) = 18446744073709551616 := rfl; omega)
   rw [this]
  have e2 : ((q * 256) % ((2 ^ 64 : Nat) : Int)).toNat = 2 ^ 8 * (((q * 256) % 18446744073709551616) / 256).toNat := by
   have : ((2 ^ 64 : Nat) : Int) = 18446744073709551616 := rfl
   rw [this]; omega
  rw [e1, e2, ← Nat.two_pow_add_eq_or_of_lt (by omega : c.toNat < 2 ^ 8)]
  omega
 show IntKind.i64.wrap ((((BitVec.ofInt 64 (q * 256)) ||| (BitVec.ofInt 64 c)).toNat : Int)) = _
 rw [key]
 have hw : ∀ n : Int, IntKind.i64.wrap n = wrap64 n := fun n => by
  unfold IntKind.wrap wrap64
  have hs : IntKind.i64.signed = true := rfl
  simp only [hb, hs, Bool.true_and]
  split
  ·rename_i h; have := of_decide_eq_true h; omega
  ·rename_i h; have := of_decide_eq_false (Bool.eq_false_iff.2 h); omega
 rw [hw]
 unfold wrap64
 omega
theorem numOf_step (y c : Int) (h0 : 0 ≤ c) (h1 : c < 256) : Go.bits .or .i64 (wrap64 (y * 256)) (wrap64 c) = wrap64 (y * 256 + c) := by
 have e : wrap64 (y * 256) = ((y + 36028797018963968) % 72057594037927936 - 36028797018963968) * 256 := by unfold wrap64; omega
 rw [e, w64 (x := c) (by omega) (by omega), or_byte _ _ h0 h1 (by omega) (by omega)]
 unfold wrap64
 omega
theorem numOf_eight (x : Int) (h0 : -9223372036854775808 ≤ x) (h1 : x ≤ 9223372036854775807) : numOf (eight x) = x := by
 have hb : ∀ y : Int, 0 ≤ y % 256 ∧ y % 256 < 256 := fun y => ⟨by omega, by omega⟩
 unfold numOf eight
 simp only [List.foldl_cons, List.foldl_nil]
 rw [numOf_step _ _ (hb _).1 (hb _).2, numOf_step _ _ (hb _).1 (hb _).2, numOf_step _ _ (hb _).1 (hb _).2, numOf_step _ _ (hb _).1 (hb _).2, numOf_step _ _ (hb _).1 (hb _).2, numOf_step _ _ (hb _).1 (hb _).2, numOf_step _ _ (hb _).1 (hb _).2, numOf_step _ _ (hb _).1 (hb _).2]
 unfold wrap64
 omega
theorem small_ev (l : List Int) (hn : l.length ≤ 1000000000) (d : Nat) : ∀ (i : Nat) (b : List Int), l.length - i = d → i ≤ l.length → b.length ≤ 10000000000 →
  b.length + d ≤ 10000000000 → Ev (fun k => rec_small.l0 k b l (l.length : Int) (i : Int)) (b ++ (l.drop i).map (· % 256)) := by
 induction d with
 | zero =>
  intro i b hd hi hb hb2
  rw [List.drop_eq_nil_of_le (by omega), List.map_nil, List.append_nil]
  exact Ev.step (fun k => by simp only [rec_small.l0]; rw [if_neg (by omega)]) (Ev.now _)
 | succ d ih =>
  intro i b hd hi hb hb2
  have ha : i < l.length := by omega
  rw [drop_cons ha, List.map_cons]
  have := ih (i + 1) (b ++ [l[i] % 256]) (by omega) (by omega) (by simp; omega) (by simp; omega)
  rw [List.append_assoc] at this
  exact Ev.step (fun k => by simp only [rec_small.l0]; rw [if_pos (by omega), if_pos (by omega), if_pos (by omega), if_pos (by omega), rd_get ha, w64s ha (by omega)]) this
theorem small_f (b l : List Int) (hn : l.length ≤ 1000000000) (hb : b.length ≤ 1000000000) : Ev (fun k => rec_small.f k b l) (b ++ l.map (· % 256)) := by
 have := small_ev l hn l.length 0 b (by omega) (by omega) (by omega) (by omega)
 exact this
theorem shr64 (x : Int) (n : Nat) (h : n ≤ 64) : shr .i64 x (n : Int) = x / 2 ^ n := by
 unfold shr
 rw [Int.toNat_natCast, Nat.min_eq_left (by exact h)]
theorem great_eight (x : Int) (l : List Int) (n j : Int) (b : List Int) (hb : b.length ≤ 10000000000) {r : List Int} (h : Ev (fun k => rec_great.l0 k (b ++ eight x) l n (wrap64 (j + 1))) r) : Ev (fun k => rec_great.l1 k b x 56 l n j) r := by
 have e : b ++ eight x = ((((((((b ++ [shr .i64 x 56 % 256]) ++ [shr .i64 x 48 % 256]) ++ [shr .i64 x 40 % 256]) ++ [shr .i64 x 32 % 256]) ++ [shr .i64 x 24 % 256]) ++ [shr .i64 x 16 % 256]) ++ [shr .i64 x 8 % 256]) ++ [shr .i64 x 0 % 256]) := by
  have s56 := shr64 x 56 (by decide +kernel); have s48 := shr64 x 48 (by decide +kernel); have s40 := shr64 x 40 (by decide +kernel); have s32 := shr64 x 32 (by decide +kernel)
  have s24 := shr64 x 24 (by decide +kernel); have s16 := shr64 x 16 (by decide +kernel); have s8 := shr64 x 8 (by decide +kernel); have s0 := shr64 x 0 (by decide +kernel)
  rw [show shr .i64 x 56 = _ from s56, show shr .i64 x 48 = _ from s48, show shr .i64 x 40 = _ from s40, show shr .i64 x 32 = _ from s32, show shr .i64 x 24 = _ from s24, show shr .i64 x 16 = _ from s16, show shr .i64 x 8 = _ from s8, show shr .i64 x 0 = _ from s0]
  simp [eight]
 rw [e] at h
 have st : ∀ (c : List Int) (q q' : Int), 0 ≤ q → wrap64 (q - 8) = q' → c.length ≤ 10000001000 → Ev (fun k => rec_great.l1 k (c ++ [shr .i64 x q % 256]) x q' l n j) r → Ev (fun k => rec_great.l1 k c x q l n j) r := by
  intro c q q' h0 hq hc hr
  exact Ev.step (fun k => by simp only [rec_great.l1]; rw [if_pos (by omega), if_pos h0, if_pos (by omega), hq]) hr
 refine st _ 56 48 (by decide +kernel) (by decide +kernel) (by omega) (st _ 48 40 (by decide +kernel) (by decide +kernel) (by simp; omega) (st _ 40 32 (by decide +kernel) (by decide +kernel) (by simp; omega) (st _ 32 24 (by decide +kernel) (by decide +kernel) (by simp; omega)
  (st _ 24 16 (by decide +kernel) (by decide +kernel) (by simp; omega) (st _ 16 8 (by decide +kernel) (by decide +kernel) (by simp; omega) (st _ 8 0 (by decide +kernel) (by decide +kernel) (by simp; omega) (st _ 0 (-8) (by decide +kernel) (by decide +kernel) (by simp; omega) ?_)))))))
 exact Ev.step (fun k => by simp only [rec_great.l1]; rw [if_neg (by omega)]) h
theorem great_ev (l : List Int) (hn : l.length ≤ 1000000000) (d : Nat) : ∀ (i : Nat) (b : List Int), l.length - i = d → i ≤ l.length → b.length + 8 * d ≤ 10000000000 →
  Ev (fun k => rec_great.l0 k b l (l.length : Int) (i : Int)) (b ++ (l.drop i).flatMap eight) := by
 induction d with
 | zero =>
  intro i b hd hi hb
  rw [List.drop_eq_nil_of_le (by omega), List.flatMap_nil, List.append_nil]
  exact Ev.step (fun k => by simp only [rec_great.l0]; rw [if_neg (by omega)]) (Ev.now _)
 | succ d ih =>
  intro i b hd hi hb
  have ha : i < l.length := by omega
  rw [drop_cons ha, List.flatMap_cons]
  have := ih (i + 1) (b ++ eight l[i]) (by omega) (by omega) (by simp [eight_length]; omega)
  rw [List.append_assoc] at this
  refine Ev.step (fun k => by simp only [rec_great.l0]; rw [if_pos (by omega), if_pos (by omega), if_pos (by omega), rd_get ha]) (great_eight l[i] l (l.length : Int) (i : Int) b (by omega) ?_)
  rw [w64s ha (by omega)]
  exact this
theorem great_f (b l : List Int) (hn : l.length ≤ 100000000) (hb : b.length ≤ 1000000000) : Ev (fun k => rec_great.f k b l) (b ++ l.flatMap eight) := by
 have := great_ev l (by omega) l.length 0 b (by omega) (by omega) (by omega)
 exact this
def encRow (x : S33) : List Int := x.f0.map (· % 256) ++ x.f1.flatMap eight
def encP (cards : List Int) (meas : Int) (rows : List S33) : List Int :=
 [67, 85, 66, 49, (cards.length : Int) % 256] ++ cards.map (· % 256) ++ [meas % 256, (rows.length : Int) / 256 % 256, (rows.length : Int) % 256] ++ rows.flatMap encRow
def Small (cards : List Int) (rows : List S33) : Prop := cards.length ≤ 100 ∧ rows.length ≤ 1000 ∧ ∀ x ∈ rows, x.f0.length ≤ 100 ∧ x.f1.length ≤ 100
theorem encRow_le {x : S33} (h : x.f0.length ≤ 100 ∧ x.f1.length ≤ 100) : (encRow x).length ≤ 900 := by
 unfold encRow
 rw [List.length_append, List.length_map, List.length_flatMap]
 have : (x.f1.map fun y => (eight y).length) = x.f1.map fun _ => 8 := rfl
 rw [this, List.map_const', List.sum_replicate_nat]
 omega
theorem rec_encode_l0 (rows : List S33) (hl : rows.length ≤ 1000) (hr : ∀ x ∈ rows, x.f0.length ≤ 100 ∧ x.f1.length ≤ 100) (d : Nat) : ∀ (i : Nat) (b : List Int), rows.length - i = d → i ≤ rows.length → b.length + 900 * d ≤ 1000000 →
  Ev (fun k => rec_Encode.l0 k b rows (rows.length : Int) (i : Int)) (b ++ (rows.drop i).flatMap encRow) := by
 induction d with
 | zero =>
  intro i b hd hi hb
  rw [List.drop_eq_nil_of_le (by omega), List.flatMap_nil, List.append_nil]
  exact Ev.step (fun k => by simp only [rec_Encode.l0]; rw [if_neg (by omega)]; unfold rec_own.f; rw [if_pos (by omega)]; rfl) (Ev.now _)
 | succ d ih =>
  intro i b hd hi hb
  have ha : i < rows.length := by omega
  have hx := hr rows[i] (List.getElem_mem ha)
  have hxl := encRow_le hx
  rw [drop_cons ha, List.flatMap_cons]
  have := ih (i + 1) (b ++ encRow rows[i]) (by omega) (by omega) (by rw [List.length_append]; omega)
  rw [List.append_assoc] at this
  refine Ev.step (fun k => by simp only [rec_Encode.l0]; rw [if_pos (by omega), if_pos (by omega), if_pos (by omega), rdT_get ha, w64s ha (by omega)]) (Ev.bind (small_f b rows[i].f0 (by omega) (by omega)) (Ev.bind (great_f (b ++ rows[i].f0.map (· % 256)) rows[i].f1 (by omega) (by rw [List.length_append, List.length_map]; omega)) ?_))
  rw [List.append_assoc]
  exact this
theorem rec_encode_ev (cards : List Int) (meas : Int) (rows : List S33) (h : Small cards rows) : Ev (fun k => rec_Encode.f k cards meas rows) (encP cards meas rows) := by
 obtain ⟨hc, hl, hr⟩ := h
 have h1 := small_f [67, 85, 66, 49] [(cards.length : Int)] (by simp) (by simp)
 have h2 := small_f ([67, 85, 66, 49] ++ [(cards.length : Int)].map (· % 256)) cards (by omega) (by simp)
 have h3 := small_f ([67, 85, 66, 49] ++ [(cards.length : Int)].map (· % 256) ++ cards.map (· % 256)) [meas, (rows.length : Int) / 256, (rows.length : Int)] (by simp) (by simp; omega)
 have h4 := rec_encode_l0 rows hl hr rows.length 0 ([67, 85, 66, 49] ++ [(cards.length : Int)].map (· % 256) ++ cards.map (· % 256) ++ [meas, (rows.length : Int) / 256, (rows.length : Int)].map (· % 256)) (by omega) (by omega) (by simp; omega)
 refine Ev.congr (fun k => by unfold rec_Encode.f; rfl) (Ev.bind h1 (Ev.bind h2 (Ev.bind h3 ?_)))
 have e : encP cards meas rows = [67, 85, 66, 49] ++ [(cards.length : Int)].map (· % 256) ++ cards.map (· % 256) ++ [meas, (rows.length : Int) / 256, (rows.length : Int)].map (· % 256) ++ (rows.drop 0).flatMap encRow := by simp [encP]
 rw [e]
 exact h4
theorem eight_f (x : Int) : Ev (fun k => hypercuberef1_Eight.f k x) (eight x) := by
 have e : eight x = ((((((((([] : List Int) ++ [shr .i64 x 56 % 256]) ++ [shr .i64 x 48 % 256]) ++ [shr .i64 x 40 % 256]) ++ [shr .i64 x 32 % 256]) ++ [shr .i64 x 24 % 256]) ++ [shr .i64 x 16 % 256]) ++ [shr .i64 x 8 % 256]) ++ [shr .i64 x 0 % 256]) := by
  have s56 := shr64 x 56 (by decide +kernel); have s48 := shr64 x 48 (by decide +kernel); have s40 := shr64 x 40 (by decide +kernel); have s32 := shr64 x 32 (by decide +kernel)
  have s24 := shr64 x 24 (by decide +kernel); have s16 := shr64 x 16 (by decide +kernel); have s8 := shr64 x 8 (by decide +kernel); have s0 := shr64 x 0 (by decide +kernel)
  rw [show shr .i64 x 56 = _ from s56, show shr .i64 x 48 = _ from s48, show shr .i64 x 40 = _ from s40, show shr .i64 x 32 = _ from s32, show shr .i64 x 24 = _ from s24, show shr .i64 x 16 = _ from s16, show shr .i64 x 8 = _ from s8, show shr .i64 x 0 = _ from s0]
  simp [eight]
 rw [e]
 have st : ∀ (c : List Int) (q q' y : Int), q < 8 → IntKind.u64.wrap (wrap64 (56 - wrap64 (8 * q))) = y → 0 ≤ y → wrap64 (q + 1) = q' → c.length ≤ 1000 → ∀ {r}, Ev (fun k => hypercuberef1_Eight.l0 k x (c ++ [shr .i64 x y % 256]) q') r → Ev (fun k => hypercuberef1_Eight.l0 k x c q) r := by
  intro c q q' y h0 hy hy0 hq hc r hr
  exact Ev.step (fun k => by simp only [hypercuberef1_Eight.l0]; rw [if_pos h0, hy, if_pos hy0, if_pos (by omega), hq]) hr
 show Ev (fun k => hypercuberef1_Eight.l0 k x [] 0) _
 refine st _ 0 1 56 (by decide +kernel) (by decide +kernel) (by decide +kernel) (by decide +kernel) (by simp) (st _ 1 2 48 (by decide +kernel) (by decide +kernel) (by decide +kernel) (by decide +kernel) (by simp) (st _ 2 3 40 (by decide +kernel) (by decide +kernel) (by decide +kernel) (by decide +kernel) (by simp) (st _ 3 4 32 (by decide +kernel) (by decide +kernel) (by decide +kernel) (by decide +kernel) (by simp)
  (st _ 4 5 24 (by decide +kernel) (by decide +kernel) (by decide +kernel) (by decide +kernel) (by simp) (st _ 5 6 16 (by decide +kernel) (by decide +kernel) (by decide +kernel) (by decide +kernel) (by simp) (st _ 6 7 8 (by decide +kernel) (by decide +kernel) (by decide +kernel) (by decide +kernel) (by simp) (st _ 7 8 0 (by decide +kernel) (by decide +kernel) (by decide +kernel) (by decide +kernel) (by simp) ?_)))))))
 exact Ev.step (fun k => by simp only [hypercuberef1_Eight.l0]; rw [if_neg (by omega)]) (Ev.now _)
theorem ref_l3 (rows : List S33) (i : Nat) (ha : i < rows.length) (hl : rows.length ≤ 1000) (hx : rows[i].f1.length ≤ 100) {r : List Int} (d : Nat) : ∀ (j : Nat) (b : List Int), rows[i].f1.length - j = d → j ≤ rows[i].f1.length → b.length + 8 * d ≤ 10000000 →
  Ev (fun k => hypercuberef1_Encode.l1 k rows (b ++ (rows[i].f1.drop j).flatMap eight) (((i + 1 : Nat) : Int))) r → Ev (fun k => hypercuberef1_Encode.l3 k rows b (i : Int) (j : Int)) r := by
 induction d with
 | zero =>
  intro j b hd hj hb h
  rw [List.drop_eq_nil_of_le (by omega), List.flatMap_nil, List.append_nil] at h
  exact Ev.step (fun k => by simp only [hypercuberef1_Encode.l3]; rw [if_pos (by omega), if_pos (by omega), rdT_get ha, if_neg (by omega), w64s ha (by omega)]) h
 | succ d ih =>
  intro j b hd hj hb h
  have hja : j < rows[i].f1.length := by omega
  rw [drop_cons hja, List.flatMap_cons, ← List.append_assoc] at h
  have := ih (j + 1) (b ++ eight rows[i].f1[j]) (by omega) (by omega) (by rw [List.length_append, eight_length]; omega) h
  refine Ev.step (fun k => by simp only [hypercuberef1_Encode.l3]; rw [if_pos (by omega), if_pos (by omega), rdT_get ha, if_pos (by omega), if_pos (by omega), rd_get hja, w64s hja (by omega)]) (Ev.bind (eight_f _) ?_)
  exact Ev.congr (fun k => by rw [if_pos (by rw [eight_length]; omega)]) this
theorem ref_l2 (rows : List S33) (i : Nat) (ha : i < rows.length) (hl : rows.length ≤ 1000) (hx : rows[i].f0.length ≤ 100) {r : List Int} (d : Nat) : ∀ (j : Nat) (b : List Int), rows[i].f0.length - j = d → j ≤ rows[i].f0.length → b.length + d ≤ 10000000 →
  Ev (fun k => hypercuberef1_Encode.l3 k rows (b ++ (rows[i].f0.drop j).map (· % 256)) (i : Int) 0) r → Ev (fun k => hypercuberef1_Encode.l2 k rows b (i : Int) (j : Int)) r := by
 induction d with
 | zero =>
  intro j b hd hj hb h
  rw [List.drop_eq_nil_of_le (by omega), List.map_nil, List.append_nil] at h
  exact Ev.step (fun k => by simp only [hypercuberef1_Encode.l2]; rw [if_pos (by omega), if_pos (by omega), rdT_get ha, if_neg (by omega)]) h
 | succ d ih =>
  intro j b hd hj hb h
  have hja : j < rows[i].f0.length := by omega
  rw [drop_cons hja, List.map_cons, List.append_cons] at h
  have := ih (j + 1) (b ++ [rows[i].f0[j] % 256]) (by omega) (by omega) (by simp; omega) h
  exact Ev.step (fun k => by simp only [hypercuberef1_Encode.l2]; rw [if_pos (by omega), if_pos (by omega), rdT_get ha, if_pos (by omega), if_pos (by omega), if_pos (by omega), rd_get hja, w64s hja (by omega)]) this
theorem ref_l1 (rows : List S33) (hl : rows.length ≤ 1000) (hr : ∀ x ∈ rows, x.f0.length ≤ 100 ∧ x.f1.length ≤ 100) (d : Nat) : ∀ (i : Nat) (b : List Int), rows.length - i = d → i ≤ rows.length → b.length + 900 * d ≤ 1000000 →
  Ev (fun k => hypercuberef1_Encode.l1 k rows b (i : Int)) (b ++ (rows.drop i).flatMap encRow) := by
 induction d with
 | zero =>
  intro i b hd hi hb
  rw [List.drop_eq_nil_of_le (by omega), List.flatMap_nil, List.append_nil]
  exact Ev.step (fun k => by simp only [hypercuberef1_Encode.l1]; rw [if_neg (by omega)]) (Ev.now _)
 | succ d ih =>
  intro i b hd hi hb
  have ha : i < rows.length := by omega
  have hx := hr rows[i] (List.getElem_mem ha)
  have hxl := encRow_le hx
  rw [drop_cons ha, List.flatMap_cons]
  have h0 := ih (i + 1) (b ++ encRow rows[i]) (by omega) (by omega) (by rw [List.length_append]; omega)
  rw [List.append_assoc] at h0
  have h1 : Ev (fun k => hypercuberef1_Encode.l1 k rows ((b ++ (rows[i].f0.drop 0).map (· % 256)) ++ (rows[i].f1.drop 0).flatMap eight) (((i + 1 : Nat) : Int))) (b ++ (encRow rows[i] ++ List.flatMap encRow (List.drop (i + 1) rows))) := by
   have e : (b ++ (rows[i].f0.drop 0).map (· % 256)) ++ (rows[i].f1.drop 0).flatMap eight = b ++ encRow rows[i] := by rw [List.drop_zero, List.drop_zero, List.append_assoc]; rfl
   rw [e]
   exact h0
  have h2 := ref_l3 rows i ha hl hx.2 rows[i].f1.length 0 (b ++ (rows[i].f0.drop 0).map (· % 256)) (by omega) (by omega) (by rw [List.length_append, List.length_map, List.drop_zero]; omega) h1
  have h3 := ref_l2 rows i ha hl hx.1 rows[i].f0.length 0 b (by omega) (by omega) (by omega) h2
  exact Ev.step (fun k => by simp only [hypercuberef1_Encode.l1]; rw [if_pos (by omega)]; rfl) h3
theorem ref_l0 (cards : List Int) (meas : Int) (rows : List S33) (hc : cards.length ≤ 100) {r : List Int} (d : Nat) : ∀ (j : Nat) (b : List Int), cards.length - j = d → j ≤ cards.length → b.length + d ≤ 10000 →
  Ev (fun k => hypercuberef1_Encode.l1 k rows (((b ++ (cards.drop j).map (· % 256)) ++ [meas % 256]) ++ [(rows.length : Int) / 256 % 256, (rows.length : Int) % 256]) 0) r → Ev (fun k => hypercuberef1_Encode.l0 k rows b (j : Int) cards meas) r := by
 induction d with
 | zero =>
  intro j b hd hj hb h
  rw [List.drop_eq_nil_of_le (by omega), List.map_nil, List.append_nil] at h
  refine Ev.step (fun k => by simp only [hypercuberef1_Encode.l0]; rw [if_neg (by omega), if_pos (by omega)]) ?_
  simp only [Option.bind_some, hypercuberef1_Two.f]
  exact Ev.congr (fun k => by rw [if_pos (by simp <;> omega)]) h
 | succ d ih =>
  intro j b hd hj hb h
  have hja : j < cards.length := by omega
  rw [drop_cons hja, List.map_cons, show b ++ (cards[j] % 256 :: (cards.drop (j + 1)).map (· % 256)) = (b ++ [cards[j] % 256]) ++ (cards.drop (j + 1)).map (· % 256) by simp] at h
  have := ih (j + 1) (b ++ [cards[j] % 256]) (by omega) (by omega) (by simp; omega) h
  exact Ev.step (fun k => by simp only [hypercuberef1_Encode.l0]; rw [if_pos (by omega), if_pos (by omega), if_pos (by omega), rd_get hja, w64s hja (by omega)]) this
theorem ref_encode_ev (cards : List Int) (meas : Int) (rows : List S33) (h : Small cards rows) : Ev (fun k => hypercuberef1_Encode.f k cards meas rows) (encP cards meas rows) := by
 obtain ⟨hc, hl, hr⟩ := h
 have h1 := ref_l1 rows hl hr rows.length 0 ((([67, 85, 66, 49] ++ [(cards.length : Int) % 256]) ++ (cards.drop 0).map (· % 256) ++ [meas % 256]) ++ [(rows.length : Int) / 256 % 256, (rows.length : Int) % 256]) (by omega) (by omega) (by simp; omega)
 have e : encP cards meas rows = ((([67, 85, 66, 49] ++ [(cards.length : Int) % 256]) ++ (cards.drop 0).map (· % 256) ++ [meas % 256]) ++ [(rows.length : Int) / 256 % 256, (rows.length : Int) % 256]) ++ (rows.drop 0).flatMap encRow := by simp [encP]
 rw [e]
 have h2 := ref_l0 cards meas rows hc cards.length 0 ([67, 85, 66, 49] ++ [(cards.length : Int) % 256]) (by omega) (by omega) (by simp; omega) h1
 refine Ev.congr (fun k => ?_) h2
 unfold hypercuberef1_Encode.f
 simp only [Option.bind_some]
 rw [if_pos (by simp)]
 rfl
theorem numOf_one (c : Int) (h0 : 0 ≤ c) (h1 : c < 256) : numOf [c] = c := by
 unfold numOf
 simp only [List.foldl_cons, List.foldl_nil]
 rw [numOf_step _ _ h0 h1]
 unfold wrap64
 omega
theorem numOf_two (a c : Int) (h0 : 0 ≤ a) (h1 : a < 256) (h2 : 0 ≤ c) (h3 : c < 256) : numOf [a, c] = a * 256 + c := by
 unfold numOf
 simp only [List.foldl_cons, List.foldl_nil]
 rw [numOf_step _ _ h0 h1, numOf_step _ _ h2 h3]
 unfold wrap64
 omega
theorem take1 (c : Int) (l : List Int) (h0 : 0 ≤ c) (h1 : c < 256) : takeV (c :: l) 1 = c ∧ takeL (c :: l) 1 = l ∧ ∀ b, takeB (c :: l) 1 b = b := by
 have h : ¬ (c :: l).length < 1 := by simp
 refine ⟨?_, ?_, fun b => ?_⟩
 ·unfold takeV; rw [if_neg h]; exact numOf_one c h0 h1
 ·unfold takeL; rw [if_neg h]; rfl
 ·unfold takeB; rw [if_neg h]
theorem take2 (a c : Int) (l : List Int) (h0 : 0 ≤ a) (h1 : a < 256) (h2 : 0 ≤ c) (h3 : c < 256) : takeV (a :: c :: l) 2 = a * 256 + c ∧ takeL (a :: c :: l) 2 = l ∧ ∀ b, takeB (a :: c :: l) 2 b = b := by
 have h : ¬ (a :: c :: l).length < 2 := by simp
 refine ⟨?_, ?_, fun b => ?_⟩
 ·unfold takeV; rw [if_neg h]; exact numOf_two a c h0 h1 h2 h3
 ·unfold takeL; rw [if_neg h]; rfl
 ·unfold takeB; rw [if_neg h]
theorem take8 (x : Int) (l : List Int) (h0 : -9223372036854775808 ≤ x) (h1 : x ≤ 9223372036854775807) : takeV (eight x ++ l) 8 = x ∧ takeL (eight x ++ l) 8 = l ∧ ∀ b, takeB (eight x ++ l) 8 b = b := by
 have h : ¬ (eight x ++ l).length < 8 := by rw [List.length_append, eight_length]; omega
 refine ⟨?_, ?_, fun b => ?_⟩
 ·unfold takeV; rw [if_neg h, List.take_left' (eight_length x)]; exact numOf_eight x h0 h1
 ·unfold takeL; rw [if_neg h, List.drop_left' (eight_length x)]
 ·unfold takeB; rw [if_neg h]
theorem list1 (l : List Int) : ∀ (ks acc : List Int), (∀ x ∈ ks, 0 ≤ x ∧ x < 256) → listL 1 ks.length (ks ++ l) false acc = (acc ++ ks, l, false)
 | [], acc, _ => by simp [listL]
 | c :: ks, acc, h => by
  have hc := h c List.mem_cons_self
  obtain ⟨h1, h2, h3⟩ := take1 c (ks ++ l) hc.1 hc.2
  rw [List.length_cons, listL_go, List.cons_append, h1, h2, h3, list1 l ks (acc ++ [c]) (fun x hx => h x (List.mem_cons_of_mem _ hx))]
  simp
theorem list8 (l : List Int) : ∀ (ks acc : List Int), (∀ x ∈ ks, -9223372036854775808 ≤ x ∧ x ≤ 9223372036854775807) → listL 8 ks.length (ks.flatMap eight ++ l) false acc = (acc ++ ks, l, false)
 | [], acc, _ => by simp [listL]
 | c :: ks, acc, h => by
  have hc := h c List.mem_cons_self
  obtain ⟨h1, h2, h3⟩ := take8 c (ks.flatMap eight ++ l) hc.1 hc.2
  rw [List.length_cons, listL_go, List.flatMap_cons, List.append_assoc, h1, h2, h3, list8 l ks (acc ++ [c]) (fun x hx => h x (List.mem_cons_of_mem _ hx))]
  simp
theorem map_mod {l : List Int} (h : ∀ x ∈ l, 0 ≤ x ∧ x < 256) : l.map (· % 256) = l := by
 induction l with
 | nil => rfl
 | cons x l ih =>
  have hx := h x List.mem_cons_self
  rw [List.map_cons, ih (fun y hy => h y (List.mem_cons_of_mem _ hy)), Int.emod_eq_of_lt hx.1 hx.2]
def GoodF (cards : List Int) (meas : Int) (rows : List S33) : Prop :=
 checkP cards meas = true ∧ rows.length ≤ 300 ∧ ∀ x ∈ rows, rightP cards meas x = true ∧ ∀ y ∈ x.f1, -9223372036854775808 ≤ y ∧ y ≤ 9223372036854775807
theorem check_open {cards : List Int} {meas : Int} (h : checkP cards meas = true) : 1 ≤ cards.length ∧ cards.length ≤ 4 ∧ (∀ x ∈ cards, 1 ≤ x ∧ x ≤ 16) ∧ 0 ≤ meas ∧ meas ≤ 2 := by
 unfold checkP at h
 simp only [Bool.and_eq_true, decide_eq_true_eq, List.all_eq_true] at h
 exact ⟨h.1.1.1.1, h.1.1.1.2, fun x hx => h.1.1.2 x hx, h.1.2, h.2⟩
theorem check_mk {cards : List Int} {meas : Int} (h1 : 1 ≤ cards.length) (h2 : cards.length ≤ 4) (h3 : ∀ x ∈ cards, 1 ≤ x ∧ x ≤ 16) (h4 : 0 ≤ meas) (h5 : meas ≤ 2) : checkP cards meas = true := by
 unfold checkP
 simp only [Bool.and_eq_true, decide_eq_true_eq, List.all_eq_true]
 exact ⟨⟨⟨⟨h1, h2⟩, h3⟩, h4⟩, h5⟩
theorem right_open {cards : List Int} {meas : Int} {x : S33} (h : rightP cards meas x = true) : x.f0.length = cards.length ∧ (x.f1.length : Int) = meas ∧ ∀ i : Nat, i < x.f0.length → 0 ≤ rd x.f0 i ∧ rd x.f0 i < rd cards i := by
 unfold rightP at h
 simp only [Bool.and_eq_true, decide_eq_true_eq, List.all_eq_true, List.mem_range] at h
 exact ⟨h.1.1, h.1.2, fun i hi => h.2 i hi⟩
theorem right_mk {cards : List Int} {meas : Int} {x : S33} (h1 : x.f0.length = cards.length) (h2 : (x.f1.length : Int) = meas) (h3 : ∀ i : Nat, i < x.f0.length → 0 ≤ rd x.f0 i ∧ rd x.f0 i < rd cards i) : rightP cards meas x = true := by
 unfold rightP
 simp only [Bool.and_eq_true, decide_eq_true_eq, List.all_eq_true, List.mem_range]
 exact ⟨⟨h1, h2⟩, fun i hi => h3 i hi⟩
theorem right_keys {cards : List Int} {meas : Int} {x : S33} (hc : checkP cards meas = true) (h : rightP cards meas x = true) : ∀ y ∈ x.f0, 0 ≤ y ∧ y < 256 := by
 obtain ⟨_, _, hcs, _, _⟩ := check_open hc
 obtain ⟨hl, _, hr⟩ := right_open h
 intro y hy
 obtain ⟨i, hi, rfl⟩ := List.getElem_of_mem hy
 have := hr i hi
 rw [rd_get hi, rd_get (by omega)] at this
 have h2 := hcs cards[i] (List.getElem_mem _)
 omega
theorem GoodF.small {cards : List Int} {meas : Int} {rows : List S33} (h : GoodF cards meas rows) : Small cards rows := by
 obtain ⟨hc, hl, hr⟩ := h
 obtain ⟨h1, h2, h3, h4, h5⟩ := check_open hc
 refine ⟨by omega, by omega, fun x hx => ?_⟩
 obtain ⟨h6, h7, _⟩ := right_open (hr x hx).1
 omega
theorem GoodF.mild {cards : List Int} {meas : Int} {rows : List S33} (h : GoodF cards meas rows) : Mild rows := by
 obtain ⟨h1, h2, h3⟩ := h.small
 exact ⟨by omega, fun x hx => by have := h3 x hx; omega⟩
theorem rows_back (cards : List Int) (meas : Int) (hc : checkP cards meas = true) (l : List Int) : ∀ (rows acc : List S33), (∀ x ∈ rows, rightP cards meas x = true ∧ ∀ y ∈ x.f1, -9223372036854775808 ≤ y ∧ y ≤ 9223372036854775807) →
  rowsL cards meas rows.length (rows.flatMap encRow ++ l) acc = some (acc ++ rows, l)
 | [], acc, _ => by simp [rowsL]
 | x :: rows, acc, h => by
  obtain ⟨hr, hm⟩ := h x List.mem_cons_self
  obtain ⟨hl, hml, _⟩ := right_open hr
  have hk := right_keys hc hr
  have e1 := list1 (x.f1.flatMap eight ++ (rows.flatMap encRow ++ l)) x.f0 [] hk
  have e2 := list8 (rows.flatMap encRow ++ l) x.f1 [] hm
  rw [List.length_cons]
  unfold rowsL
  have e0 : (x :: rows).flatMap encRow ++ l = x.f0 ++ (x.f1.flatMap eight ++ (rows.flatMap encRow ++ l)) := by
   rw [List.flatMap_cons]; unfold encRow; rw [map_mod hk]; simp
  rw [e0, ← hl, e1]
  simp only []
  have hmn : meas.toNat = x.f1.length := by omega
  rw [hmn, e2]
  simp only [List.nil_append]
  have hx : (⟨x.f0, x.f1⟩ : S33) = x := by cases x; rfl
  rw [if_neg (by simp), hx, if_pos hr, rows_back cards meas hc l rows (acc ++ [x]) (fun y hy => h y (List.mem_cons_of_mem _ hy))]
  simp
theorem back {cards : List Int} {meas : Int} {rows : List S33} (h : GoodF cards meas rows) : rec_Decode.f (encP cards meas rows) = some (cards, meas, rows, 0) := by
 have hsm := h.small
 obtain ⟨hc, hl, hr⟩ := h
 obtain ⟨h1, h2, h3, h4, h5⟩ := check_open hc
 have hcm : cards.map (· % 256) = cards := map_mod (fun x hx => by have := h3 x hx; omega)
 have hm : meas % 256 = meas := Int.emod_eq_of_lt h4 (by omega)
 have hcl : (cards.length : Int) % 256 = cards.length := Int.emod_eq_of_lt (by omega) (by omega)
 have he : encP cards meas rows = [67, 85, 66, 49] ++ ((cards.length : Int) :: (cards ++ (meas :: (rows.length : Int) / 256 % 256 :: (rows.length : Int) % 256 :: (rows.flatMap encRow ++ [])))) := by
  unfold encP
  rw [hcm, hm, hcl]
  simp
 have hlen : (encP cards meas rows).length ≤ 100000000000 := by
  have hb : (rows.flatMap encRow).length ≤ 900 * rows.length := by
   have : ∀ (l : List S33), (∀ x ∈ l, x.f0.length ≤ 100 ∧ x.f1.length ≤ 100) → (l.flatMap encRow).length ≤ 900 * l.length := by
    intro l
    induction l with
    | nil => intro _; simp
    | cons x l ih =>
     intro hx
     rw [List.flatMap_cons, List.length_append, List.length_cons]
     have a1 := encRow_le (hx x List.mem_cons_self)
     have a2 := ih (fun y hy => hx y (List.mem_cons_of_mem _ hy))
     omega
   exact this rows hsm.2.2
  rw [he]
  simp only [List.length_append, List.length_cons, List.length_nil]
  omega
 unfold rec_Decode.f
 rw [if_pos hlen]
 congr 1
 unfold decodeP
 rw [he, if_neg (by simp), List.drop_left' (by rfl)]
 have hmk : markP ([67, 85, 66, 49] ++ ((cards.length : Int) :: (cards ++ (meas :: (rows.length : Int) / 256 % 256 :: (rows.length : Int) % 256 :: (rows.flatMap encRow ++ []))))) = true := by
  unfold markP
  rw [List.take_left' (by rfl)]
  decide +kernel
 rw [hmk, if_neg (by simp)]
 unfold decHead
 obtain ⟨t1, t2, t3⟩ := take1 (cards.length : Int) (cards ++ (meas :: (rows.length : Int) / 256 % 256 :: (rows.length : Int) % 256 :: (rows.flatMap encRow ++ []))) (by omega) (by omega)
 rw [t1, t2, t3, Int.toNat_natCast, list1 _ cards [] (fun x hx => by have := h3 x hx; omega)]
 unfold decTail
 simp only [List.nil_append]
 obtain ⟨t4, t5, t6⟩ := take1 meas ((rows.length : Int) / 256 % 256 :: (rows.length : Int) % 256 :: (rows.flatMap encRow ++ [])) h4 (by omega)
 rw [t4, t5, t6]
 unfold decM
 obtain ⟨t7, t8, t9⟩ := take2 ((rows.length : Int) / 256 % 256) ((rows.length : Int) % 256) (rows.flatMap encRow ++ []) (by omega) (by omega) (by omega) (by omega)
 rw [t7, t8, t9]
 have hn : (rows.length : Int) / 256 % 256 * 256 + (rows.length : Int) % 256 = rows.length := by omega
 rw [hn]
 unfold decRows
 rw [if_neg (by simp), hc, if_neg (by simp), if_neg (by omega), Int.toNat_natCast, rows_back cards meas hc [] rows [] hr]
 simp
abbrev FR := List Int × Int × List S33
def RowOk (cards : List Int) (meas : Int) (x : S33) : Prop := rightP cards meas x = true ∧ ∀ y ∈ x.f1, -100 ≤ y ∧ y ≤ 100
theorem facts_l3 (x3 : List Int) (rows : List S33) (i : Nat) (hi : i < 1000) (kk : Int) (cards : List Int) (meas : Int) (hm0 : 0 ≤ meas) (hm : meas ≤ 2) (hrl : rows.length ≤ 1000) (key : List Int) {Q : FR → Prop}
  (H : ∀ ms : List Int, (ms.length : Int) = meas → (∀ y ∈ ms, -100 ≤ y ∧ y ≤ 100) → ∃ p, Ev (fun k => hypercubelaw1_Facts.l1 k x3 (rows ++ [⟨key, ms⟩]) ((i + 1 : Nat) : Int) cards meas) p ∧ Q p) (d : Nat) :
  ∀ (j : Nat) (ms : List Int), (meas.toNat - j) = d → (j : Int) ≤ meas → ms.length = j → (∀ y ∈ ms, -100 ≤ y ∧ y ≤ 100) → ∃ p, Ev (fun k => hypercubelaw1_Facts.l3 k x3 rows (i : Int) kk (j : Int) cards meas key ms) p ∧ Q p := by
 induction d with
 | zero =>
  intro j ms hd hj hl hb
  obtain ⟨p, h1, h2⟩ := H ms (by omega) hb
  exact ⟨p, Ev.step (fun k => by simp only [hypercubelaw1_Facts.l3]; rw [if_neg (by omega), if_pos (by omega), w64s hi (by omega)]) h1, h2⟩
 | succ d ih =>
  intro j ms hd hj hl hb
  have hw := within_eq (wrap64 (kk + (wrap64 (7 * (j : Int))))) 201 (by omega) (by omega)
  have b0 := Int.emod_nonneg (wrap64 (kk + (wrap64 (7 * (j : Int))))) (show (201 : Int) ≠ 0 by omega)
  have b1 := Int.emod_lt_of_pos (wrap64 (kk + (wrap64 (7 * (j : Int))))) (show (0 : Int) < 201 by omega)
  generalize (wrap64 (kk + (wrap64 (7 * (j : Int))))) % 201 = q at hw b0 b1
  obtain ⟨p, h1, h2⟩ := ih (j + 1) (ms ++ [wrap64 (q - 100)]) (by omega) (by omega) (by simp; omega) (fun y hy => by
   rcases List.mem_append.1 hy with hy | hy
   ·exact hb y hy
   ·rw [List.mem_singleton.1 hy, w64 (by omega) (by omega)]; omega)
  refine ⟨p, Ev.step (fun k => by simp only [hypercubelaw1_Facts.l3]; rw [if_pos (by omega), hw]; simp only [Option.bind_some]; rw [if_pos (by omega), w64s (show j < 1000 by omega) (by omega)]) h1, h2⟩
theorem facts_l2 (x3 : List Int) (rows : List S33) (i : Nat) (hi : i < 1000) (cards : List Int) (meas : Int) (hc : checkP cards meas = true) (hrl : rows.length ≤ 1000) {Q : FR → Prop}
  (H : ∀ x, RowOk cards meas x → ∃ p, Ev (fun k => hypercubelaw1_Facts.l1 k x3 (rows ++ [x]) ((i + 1 : Nat) : Int) cards meas) p ∧ Q p) (d : Nat) :
  ∀ (j : Nat) (kk : Int) (key : List Int), cards.length - j = d → j ≤ cards.length → key.length = j → (∀ a : Nat, a < key.length → 0 ≤ rd key a ∧ rd key a < rd cards a) →
   ∃ p, Ev (fun k => hypercubelaw1_Facts.l2 k x3 rows (i : Int) kk (j : Int) cards meas key) p ∧ Q p := by
 obtain ⟨h1, h2, h3, h4, h5⟩ := check_open hc
 induction d with
 | zero =>
  intro j kk key hd hj hl hb
  have := facts_l3 x3 rows i hi kk cards meas h4 h5 hrl key (fun ms hml hmb => H ⟨key, ms⟩ ⟨right_mk (by show key.length = _; omega) hml hb, hmb⟩) meas.toNat 0 [] (by omega) (by omega) rfl (by simp)
  obtain ⟨p, e1, e2⟩ := this
  exact ⟨p, Ev.step (fun k => by simp only [hypercubelaw1_Facts.l2]; rw [if_neg (by omega)]; rfl) e1, e2⟩
 | succ d ih =>
  intro j kk key hd hj hl hb
  have hja : j < cards.length := by omega
  have hcd := h3 cards[j] (List.getElem_mem hja)
  have hw := within_eq kk cards[j] (by omega) (by omega)
  have b0 := Int.emod_nonneg kk (show cards[j] ≠ 0 by omega)
  have b1 := Int.emod_lt_of_pos kk (show (0 : Int) < cards[j] by omega)
  generalize kk % cards[j] = q at hw b0 b1
  obtain ⟨p, e1, e2⟩ := ih (j + 1) (wrap64 (Int.tdiv kk 5)) (key ++ [q]) (by omega) (by omega) (by simp; omega) (fun a ha => by
   by_cases hak : a < key.length
   ·have hb1 := hb a hak
    have : rd (key ++ [q]) (a : Int) = rd key (a : Int) := by rw [rd_get ha, rd_get hak, List.getElem_append_left hak]
    rw [this]; exact hb1
   ·have hae : a = key.length := by simp at ha; omega
    subst hae
    have : rd (key ++ [q]) (key.length : Int) = q := by rw [rd_get ha]; simp
    rw [this, hl, rd_get hja]; exact ⟨b0, b1⟩)
  refine ⟨p, Ev.step (fun k => by simp only [hypercubelaw1_Facts.l2]; rw [if_pos (by omega), if_pos (by omega), rd_get hja, hw]; simp only [Option.bind_some]; rw [if_pos (by omega), w64s hja (by omega)]) e1, e2⟩
theorem facts_l1 (x3 : List Int) (cards : List Int) (meas : Int) (hc : checkP cards meas = true) (d : Nat) : ∀ (i : Nat) (rows : List S33), (min x3.length 40) - i = d → i ≤ min x3.length 40 → rows.length = i → (∀ x ∈ rows, RowOk cards meas x) →
  ∃ p, Ev (fun k => hypercubelaw1_Facts.l1 k x3 rows (i : Int) cards meas) p ∧ (p.1 = cards ∧ p.2.1 = meas ∧ p.2.2.length = min x3.length 40 ∧ ∀ x ∈ p.2.2, RowOk cards meas x) := by
 induction d with
 | zero =>
  intro i rows hd hi hl hr
  have fin : Ev (fun k => hypercubelaw1_Facts.j3 k x3 rows (i : Int) false cards meas) (cards, meas, rows) := Ev.step (fun k => by simp only [hypercubelaw1_Facts.j3]; rw [if_neg (by simp)]) (Ev.now _)
  refine ⟨(cards, meas, rows), ?_, rfl, rfl, by show rows.length = _; omega, hr⟩
  by_cases h : (i : Int) < x3.length
  ·have : decide ((i : Int) < 40) = false := decide_eq_false (by omega)
   exact Ev.step (fun k => by simp only [hypercubelaw1_Facts.l1]; rw [if_pos h, this]) fin
  ·exact Ev.step (fun k => by simp only [hypercubelaw1_Facts.l1]; rw [if_neg h]) fin
 | succ d ih =>
  intro i rows hd hi hl hr
  have hia : i < x3.length := by omega
  have hdec : decide ((i : Int) < 40) = true := decide_eq_true (by omega)
  obtain ⟨p, e1, e2⟩ := facts_l2 x3 rows i (by omega) cards meas hc (by omega) (fun x hx => ih (i + 1) (rows ++ [x]) (by omega) (by omega) (by simp; omega) (fun y hy => by
   rcases List.mem_append.1 hy with hy | hy
   ·exact hr y hy
   ·rw [List.mem_singleton.1 hy]; exact hx)) cards.length 0 (rd x3 i) [] (by omega) (by omega) rfl (fun a ha => by simp at ha)
  refine ⟨p, ?_, e2⟩
  refine Ev.step (fun k => by simp only [hypercubelaw1_Facts.l1]; rw [if_pos (by omega), hdec]) ?_
  exact Ev.step (fun k => by simp only [hypercubelaw1_Facts.j3]; rw [if_pos trivial, if_pos (by omega), if_pos (by omega)]; rfl) e1
theorem facts_l0 (x0 : Int) (x1 x3 : List Int) (meas : Int) (hm0 : 0 ≤ meas) (hm : meas ≤ 2) (d : Nat) : ∀ (i : Nat) (cards : List Int), (x0 % 4 + 1).toNat - i = d → (i : Int) ≤ x0 % 4 + 1 → cards.length = i → (∀ x ∈ cards, 1 ≤ x ∧ x ≤ 5) →
  ∃ p, Ev (fun k => hypercubelaw1_Facts.l0 k x0 x1 x3 (i : Int) cards meas) p ∧ (checkP p.1 p.2.1 = true ∧ p.2.1 = meas ∧ (p.1.length : Int) = x0 % 4 + 1 ∧ p.2.2.length = min x3.length 40 ∧ ∀ x ∈ p.2.2, RowOk p.1 p.2.1 x) := by
 have b0 := Int.emod_nonneg x0 (show (4 : Int) ≠ 0 by omega)
 have b1 := Int.emod_lt_of_pos x0 (show (0 : Int) < 4 by omega)
 have hw4 := within_eq x0 4 (by omega) (by omega)
 have hw7 := within_eq x0 7 (by omega) (by omega)
 induction d with
 | zero =>
  intro i cards hd hi hl hc
  have go : ∀ cs : List Int, cs.length = cards.length → (∀ x ∈ cs, 1 ≤ x ∧ x ≤ 16) → ∃ p, Ev (fun k => hypercubelaw1_Facts.j1 k x3 cs meas) p ∧ (checkP p.1 p.2.1 = true ∧ p.2.1 = meas ∧ (p.1.length : Int) = x0 % 4 + 1 ∧ p.2.2.length = min x3.length 40 ∧ ∀ x ∈ p.2.2, RowOk p.1 p.2.1 x) := by
   intro cs h1 h2
   have hck : checkP cs meas = true := check_mk (by omega) (by omega) h2 hm0 hm
   obtain ⟨p, e1, e2, e3, e4, e5⟩ := facts_l1 x3 cs meas hck (min x3.length 40) 0 [] (by omega) (by omega) rfl (by simp)
   refine ⟨p, Ev.step (fun k => by simp only [hypercubelaw1_Facts.j1]; rfl) e1, ?_, e3, ?_, e4, ?_⟩
   ·rw [e2, e3]; exact hck
   ·rw [e2]; omega
   ·rw [e2, e3]; exact e5
  by_cases h7 : x0 % 7 = 0
  ·obtain ⟨p, e1, e2⟩ := go (cards.set (0 : Int).toNat 16) (by simp) (fun x hx => by
    rcases List.mem_or_eq_of_mem_set hx with hx | rfl
    ·have := hc x hx; omega
    ·omega)
   refine ⟨p, ?_, e2⟩
   exact Ev.step (fun k => by simp only [hypercubelaw1_Facts.l0]; rw [hw4]; simp only [Option.bind_some]; rw [if_neg (by omega), hw7]; simp only [Option.bind_some]; rw [if_pos h7, if_pos (by omega)]) e1
  ·obtain ⟨p, e1, e2⟩ := go cards rfl (fun x hx => by have := hc x hx; omega)
   refine ⟨p, ?_, e2⟩
   exact Ev.step (fun k => by simp only [hypercubelaw1_Facts.l0]; rw [hw4]; simp only [Option.bind_some]; rw [if_neg (by omega), hw7]; simp only [Option.bind_some]; rw [if_neg h7]) e1
 | succ d ih =>
  intro i cards hd hi hl hc
  have next : ∀ q : Int, 0 ≤ q → q < 5 → ∃ p, Ev (fun k => hypercubelaw1_Facts.l0 k x0 x1 x3 ((i + 1 : Nat) : Int) (cards ++ [wrap64 (1 + q)]) meas) p ∧ (checkP p.1 p.2.1 = true ∧ p.2.1 = meas ∧ (p.1.length : Int) = x0 % 4 + 1 ∧ p.2.2.length = min x3.length 40 ∧ ∀ x ∈ p.2.2, RowOk p.1 p.2.1 x) := by
   intro q q0 q1
   refine ih (i + 1) (cards ++ [wrap64 (1 + q)]) (by omega) (by omega) (by simp; omega) (fun x hx => ?_)
   rcases List.mem_append.1 hx with hx | hx
   ·exact hc x hx
   ·rw [List.mem_singleton.1 hx, w64 (by omega) (by omega)]; omega
  by_cases h1 : (i : Int) < x1.length
  ·have hw := within_eq (rd x1 (i : Int)) 5 (by omega) (by omega)
   obtain ⟨p, e1, e2⟩ := next (rd x1 (i : Int) % 5) (by omega) (by omega)
   refine ⟨p, ?_, e2⟩
   exact Ev.step (fun k => by simp only [hypercubelaw1_Facts.l0]; rw [hw4]; simp only [Option.bind_some]; rw [if_pos (by omega), if_pos h1, if_pos (by omega), hw]; simp only [Option.bind_some]; rw [if_pos (by omega), w64s (show i < 1000 by omega) (by omega)]) e1
  ·have hw := within_eq (wrap64 ((i : Int) + 2)) 5 (by omega) (by omega)
   obtain ⟨p, e1, e2⟩ := next (wrap64 ((i : Int) + 2) % 5) (by omega) (by omega)
   refine ⟨p, ?_, e2⟩
   exact Ev.step (fun k => by simp only [hypercubelaw1_Facts.l0]; rw [hw4]; simp only [Option.bind_some]; rw [if_pos (by omega), if_neg h1, hw]; simp only [Option.bind_some]; rw [if_pos (by omega), w64s (show i < 1000 by omega) (by omega)]) e1
theorem facts_ev (a0 : Int) (l1 : List Int) (a2 : Int) (l3 : List Int) : ∃ cards meas rows, Ev (fun k => hypercubelaw1_Facts.f k a0 l1 a2 l3) (cards, meas, rows) ∧ checkP cards meas = true ∧ meas = a2 % 3 ∧ (cards.length : Int) = a0 % 4 + 1 ∧ rows.length = min l3.length 40 ∧ ∀ x ∈ rows, RowOk cards meas x := by
 have hw := within_eq a2 3 (by omega) (by omega)
 obtain ⟨⟨cards, meas, rows⟩, e1, e2, e3, e4, e5, e6⟩ := facts_l0 a0 l1 l3 (a2 % 3) (by omega) (by omega) (a0 % 4 + 1).toNat 0 [] (by omega) (by omega) rfl (by simp)
 refine ⟨cards, meas, rows, ?_, e2, e3, e4, e5, e6⟩
 exact Ev.congr (fun k => by unfold hypercubelaw1_Facts.f; rw [hw]; rfl) e1
theorem facts_good {cards : List Int} {meas : Int} {rows : List S33} {n : Nat} (h1 : checkP cards meas = true) (h2 : rows.length = min n 40) (h3 : ∀ x ∈ rows, RowOk cards meas x) : GoodF cards meas rows :=
 ⟨h1, by omega, fun x hx => ⟨(h3 x hx).1, fun y hy => by have := (h3 x hx).2 y hy; omega⟩⟩
def SW (w1 w4 : World) (gc : Nat) : Nat → Prop := fun k => (w1.heap.size ≤ k ∧ k < w4.heap.size) ∨ k = gc
def KeyAt (w1 w4 : World) (ad : Addr) (rows : List S33) (W : World) (i : Nat) : Prop :=
 ∃ (ak : Addr) (c b o : Nat) (cells : Array Value), W.cell? (ad.add (i * 2)) = some (.slice (some ak) (rows.getD i z33).f0.length c) ∧ ak = ⟨b, o, none⟩ ∧ W.heap[b]? = some (.cells cells 3 (0, 0)) ∧ o < cells.size ∧ (w1.heap.size ≤ b ∧ b < w4.heap.size) ∧ b ≠ ad.block
theorem KeyAt.set {w1 w4 W : World} {ad : Addr} {rows : List S33} {b o : Nat} {cells : Array Value} {u : Value} (hb : W.heap[b]? = some (.cells cells 3 (0, 0))) (hne : b ≠ ad.block) {i : Nat} (h : KeyAt w1 w4 ad rows W i) : KeyAt w1 w4 ad rows (W.setCell ⟨b, o, none⟩ u) i := by
 obtain ⟨ak, c, b', o', cells', h1, h2, h3, h4, h5, h6⟩ := h
 have hbl : (ad.add (i * 2)).block = ad.block := add_block _ _
 have hx : (W.setCell ⟨b, o, none⟩ u).heap[ad.block]? = W.heap[ad.block]? := Below.heap_setCell W _ u _ (fun e => hne e.symm)
 have h1' : (W.setCell ⟨b, o, none⟩ u).cell? (ad.add (i * 2)) = some (.slice (some ak) (rows.getD i z33).f0.length c) := by
  rw [← h1]
  simp only [World.cell?, hbl, hx]
 by_cases e : b' = b
 ·subst e
  rw [hb] at h3
  injection h3 with h3
  injection h3 with h3
  subst h3
  exact ⟨ak, c, b', o', _, h1', h2, blk_set hb o u, by rw [Array.size_setIfInBounds]; exact h4, h5, h6⟩
 ·exact ⟨ak, c, b', o', cells', h1', h2, (Below.heap_setCell W _ u _ e).trans h3, h4, h5, h6⟩
theorem KeyAt.move {w1 w4 W W' : World} {ad : Addr} {rows : List S33} {i : Nat} (h : KeyAt w1 w4 ad rows W i) (ha : ad.block < w4.heap.size) (hm : ∀ k, k < w4.heap.size → W'.heap[k]? = W.heap[k]?) : KeyAt w1 w4 ad rows W' i := by
 obtain ⟨ak, c, b', o', cells', h1, h2, h3, h4, h5, h6⟩ := h
 have hbl : (ad.add (i * 2)).block = ad.block := add_block _ _
 refine ⟨ak, c, b', o', cells', ?_, h2, (hm _ h5.2).trans h3, h4, h5, h6⟩
 rw [← h1]
 simp only [World.cell?, hbl, hm _ ha]
def BytesAt (gc n : Nat) (W : World) : Prop := ∃ cells : Array Value, W.heap[gc]? = some (.cells cells 5 (0, 0)) ∧ ∀ i, i < n → ∃ z, cells[i]? = some (.int .u8 z)
theorem BytesAt.set {gc n i : Nat} {W : World} (h : BytesAt gc n W) (z : Int) : BytesAt gc n (W.setCell ⟨gc, i, none⟩ (.int .u8 z)) := by
 obtain ⟨cells, h1, h2⟩ := h
 refine ⟨_, blk_set h1 i _, fun j hj => ?_⟩
 obtain ⟨z', hz⟩ := h2 j hj
 by_cases e : i = j
 ·subst e
  have hlt := (Array.getElem?_eq_some_iff.1 hz).1
  exact ⟨z, by simp [hlt]⟩
 ·exact ⟨z', by rw [Array.getElem?_setIfInBounds_ne e]; exact hz⟩
theorem keys_at {w1 w4 : World} {A : Option Addr} {c : Nat} {ok : Nat → Prop} {rows : List S33} (h : Kd.S k33 33 w4 w1.heap.size ok (.slice A rows.length c) rows) (hp : ∀ r ∈ rows, 0 < r.f0.length) (hn : 0 < rows.length) :
  ∃ ad, A = some ad ∧ ad.block < w4.heap.size ∧ ∀ i, i < rows.length → KeyAt w1 w4 ad rows w4 i := by
 obtain ⟨g, cap, e, hb1, hb2, cells, hh⟩ := Kd.S_form h hn
 injection e with e1 e2 e3
 subst e1
 refine ⟨_, rfl, hb2, fun i hi => ?_⟩
 obtain ⟨cc, hc, hM, hcell⟩ := Kd.S_get h z33 (i : Int) (by omega) (by omega)
 obtain ⟨v0, v1, rfl, r0, r1⟩ := k33_openM hM
 have hlen : 0 < (rows.getD i z33).f0.length := hp _ (by rw [List.getD_eq_getElem?_getD, List.getElem?_eq_getElem hi]; exact List.getElem_mem hi)
 obtain ⟨A0, c0, rfl⟩ := Kd.R_slice r0
 obtain ⟨g0, cap0, e0, hg1, hg2, cells0, hh0⟩ := Kd.R_form r0 hlen
 injection e0 with e4 e5 e6
 subst e4
 obtain ⟨ad0, e7, hx⟩ := Kd.at_int (Kd.R_reads' r0).2.2 0 (by decide) (by exact_mod_cast hlen)
 cases e7
 have h0 := hcell 0 _ rfl
 rw [Int.toNat_natCast] at h0
 refine ⟨⟨g0, 0, none⟩, c0, g0, 0, cells0, h0, rfl, hh0, ?_, ⟨hg1, hg2⟩, fun e => ?_⟩
 ·rw [show ((⟨g0, 0, none⟩ : Addr).add (0 : Int).toNat) = ⟨g0, 0, none⟩ by simp [Addr.add], blk_cell hh0] at hx
  exact (Array.getElem?_eq_some_iff.1 hx).1
 ·rw [e] at hh0
  have hh' : w4.heap[g]? = some (.cells cells0 3 (0, 0)) := hh0
  rw [hh] at hh'
  injection hh' with hh'
  injection hh' with _ h2
  exact absurd h2 (by decide)
def hypercubelaw1_RecOwn.T16 : Bool × List (List Nat × List Nat) := (true, [([], []), ([0], [0]), ([1], [1]), ([2], [2]), ([2], [2]), ([2], [2]), ([2], [2]), ([3, 4, 5, 6, 2, 2], [2, 3, 4, 5, 6]), ([2, 7], [2, 7]), ([8, 7], [8]), ([9], [9]), ([10, 9], [9, 10]), ([9], [9]), ([9], [9]), ([12, 13, 9, 9], [9, 12, 13]), ([14, 9], [9, 14]), ([11, 15, 9], [9, 11, 15]), ([9, 16], [9, 16]), ([17, 14, 0, 1, 2, 3, 4, 5, 6, 7, 8, 9, 10, 11, 12, 13, 14, 15, 16, 17], [17])])
def hypercubelaw1_RecOwn.B16 : List Nat := [0, 1, 3, 7, 7, 7, 7, 127, 255, 511, 1023, 2047, 1023, 1023, 13311, 29695, 65535, 131071, 262143]
theorem hypercubelaw1_RecOwn.tab16 : rtab .any (opsOf Try.f9 16) = hypercubelaw1_RecOwn.T16 := by kernel_rfl
theorem hypercubelaw1_RecOwn.bits16 : waitsOk hypercubelaw1_RecOwn.T16.2 hypercubelaw1_RecOwn.B16 = true := by kernel_rfl
theorem name_calls {P : Program} {f : FuncId} {a : Array Value} {W : World} {R : Ending → World → Prop} (h : ∀ w, w = W → Calls P f a w R) : Calls P f a W R := h W rfl
theorem R_empty8 {w : World} {g base : Nat} (h : w.heap[g]? = some (.cells #[] 5 (0, 0))) (hb : base ≤ g) : Kd.R (Kd.int .u8) 5 w base (fun _ => True) (.slice (some ⟨g, 0, none⟩) 0 0) [] :=
 ⟨fun _ _ => trivial, [], ⟨rfl, .inr ⟨g, 0, #[], rfl, hb, h, Nat.le_refl _, by decide, rfl, rfl⟩⟩, Reps.none _ _⟩
theorem new_at8 {w : World} {n : Nat} (o : Obj) (h : w.heap.size = n) : (w.alloc o).heap[n]? = some o := by rw [← h]; exact heap_alloc_new w o
def hypercubelaw1_RecOwn.Pure : Prop := ∀ (a0 : Int) (l1 : List Int) (a2 : Int) (l3 : List Int) (a4 : Int), (Lit.int .i64 a0).wf = true → l1.length ≤ maxLen → l1.length * 8 ≤ 140737488351232 → (∀ x ∈ l1, (Lit.int .i64 x).wf = true) → (Lit.int .i64 a2).wf = true → l3.length ≤ maxLen → l3.length * 8 ≤ 140737488351232 → (∀ x ∈ l3, (Lit.int .i64 x).wf = true) → (Lit.int .u8 a4).wf = true →
 ∃ k cards meas rows b, (hypercubelaw1_known.f k = some true) ∧ (hypercubelaw1_Facts.f k a0 l1 a2 l3 = some (cards, meas, rows)) ∧ (rec_Encode.f k cards meas rows = some b) ∧ (rec_Decode.f b = some (cards, meas, rows, 0)) ∧ (∀ r ∈ rows, 0 < r.f0.length) ∧ ((0 < b.length ∧ b.length ≤ 1000000) ∧ rows.length ≤ 1000) ∧ (hypercuberef1_Same.f k cards meas rows cards meas rows = some true) ∧ (hypercuberef1_Encode.f k cards meas rows = some b)
set_option maxHeartbeats 8000000 in
set_option maxRecDepth 100000 in
theorem hypercubelaw1_RecOwn.calls (k : Nat) (a0 : Int) (A1 : Option Addr) (c1 : Nat) (l1 : List Int) (a2 : Int) (A3 : Option Addr) (c3 : Nat) (l3 : List Int) (a4 : Int) (w : World) (hr1 : Kd.C (Kd.int .i64) w A1 l1.length l1) (hc1 : l1.length ≤ c1) (hr3 : Kd.C (Kd.int .i64) w A3 l3.length l3) (hc3 : l3.length ≤ c3)
  {cards : List Int} {meas : Int} {rows : List S33} {b : List Int} (h1 : hypercubelaw1_known.f k = some true) (h2 : hypercubelaw1_Facts.f k a0 l1 a2 l3 = some (cards, meas, rows)) (h3 : rec_Encode.f k cards meas rows = some b) (h4 : rec_Decode.f b = some (cards, meas, rows, 0)) (h5 : ∀ r ∈ rows, 0 < r.f0.length) (h6 : (0 < b.length ∧ b.length ≤ 1000000) ∧ rows.length ≤ 1000) (h7 : hypercuberef1_Same.f k cards meas rows cards meas rows = some true) (h8 : hypercuberef1_Encode.f k cards meas rows = some b) :
  Calls Try.prog 9 #[.int .i64 a0, .slice A1 l1.length c1, .int .i64 a2, .slice A3 l3.length c3, .int .u8 a4] w fun e w' => e = .returned (.bool true) ∧ Below w.heap.size w w' := by
 have hu25 := Try.underlying24
 have H1 := am h1
 have H2 := am h2
 have H3 := am h3
 have H4 := am h4
 have H5 := am h5
 have H6 := am h6
 have H7 := am h7
 have H8 := am h8
 have HR1 := am hr1
 have HC1 := am hc1
 have HR3 := am hr3
 have HC3 := am hc3
 clear h1 h2 h3 h4 h5 h6 h7 h8 hr1 hc1 hr3 hc3
 go_enter Try.func9, Try.ntmps9
 go_wp2_with (fail)
 refine (hypercubelaw1_known.calls k true w H1.out).mono ?_
 rintro e w1 ⟨rfl, hb1⟩
 have HB1 := am hb1
 have HA1 := am (Kd.C_below HR1.out hb1)
 have HA3 := am (Kd.C_below HR3.out hb1)
 clear hb1
 go_wp2_with (fail)
 refine (hypercubelaw1_Facts.calls k a0 A1 c1 l1 a2 A3 c3 l3 cards meas rows w1 HA1.out HC1.out HA3.out HC3.out H2.out).mono ?_
 rintro e w2 ⟨v1, v2, rfl, ho0, ho1, hb2⟩
 obtain ⟨A14, c14, rfl⟩ := Kd.R_slice ho0
 obtain ⟨A15, c15, rfl⟩ := Kd.S_slice ho1
 have HX := am (Kd.R_reads' ho0).2
 have HY := am ho1
 have HB2 := am hb2
 clear ho0 ho1 hb2
 go_wp2_with (first | ((with_reducible refine gate_dst (N := 11) rfl ?_); (try (refine gate_guard (by rfl) ?_; dsimp only)); refine box_event ?hg (N := 11) ?hd (cs := #[.slice none 0 0, .int .i64 0]) (t := 24) ?hr ?_; (case hd => rfl); (case hg => rfl); (case hr => first | (go_simp; done) | (go_simp; rfl)); intro gb hg w3 hbox hb; have hcz0 : w3.cell? ⟨gb, 0, none⟩ = some (.slice none 0 0) := (blk_cell hbox 0).trans rfl; have hcz1 : w3.cell? ⟨gb, 1, none⟩ = some (.int .i64 0) := (blk_cell hbox 1).trans rfl; have hfz0 := blk_frozen hbox 0; have hfz1 := blk_frozen hbox 1; have HBXa := am hbox; have HGa := am hg; have HBBa := am hb; clear hbox hg hb))
 refine name_calls ?_
 intro w4 hw4
 have hgb : w2.heap.size ≤ gb := Nat.le_of_eq HGa.out.symm
 have hb4 : Below w2.heap.size w2 w4 := by rw [hw4]; exact below_set (below_set HBBa.out hgb) hgb
 have HB14 := am (below_step HB2.out hb4)
 have HX4 := am (Kd.C_below HX.out.2 hb4)
 have HY4 := am (Kd.S_below HY.out hb4)
 clear hw4 hb4 hgb hcz0 hcz1 hfz0 hfz1 HBXa HGa HBBa HY
 refine (rec_Encode.calls k A14 c14 cards meas A15 c15 rows b w4 HX4.out HX.out.1 (Kd.S_reads' HY4.out).2.2 (Kd.S_reads' HY4.out).2.1 H3.out).mono ?_
 rintro e w5 ⟨v5, rfl, ho0, hb⟩
 obtain ⟨Ab, cb, rfl⟩ := Kd.R_slice ho0
 have HBR := am ho0
 have HBC := am (Kd.R_reads' ho0).2.2
 have HB45 := am hb
 clear ho0 hb
 go_wp2_with (first | ((with_reducible refine gate_builtin (b := .append) (xs := #[.tmp 35, .tmp 36]) rfl ?_); (try (refine gate_guard (by rfl) ?_; dsimp only)); at_builtin; refine Kd.R_append_rows (Kd.int .u8) (w0 := w5) w5.heap.size rfl (.tmp 35) (.tmp 36) 36 5 (.int .u8 0) 1 rfl Try.underlying36 info5 rfl (by decide) (by omega) (.slice (some ⟨w5.heap.size, 0, none⟩) 0 0) [] b _ _ _ (fun _ => True) (fun _ => False) rfl rfl ?aO ?aR (fun _ _ h => h) (fun _ h => h.elim) (fun _ _ => trivial) ?aB ?aS ?aL ?_; (case aO => exact R_empty8 (new_at8 _ rfl) (Nat.le_refl _)); (case aR => exact Kd.C_alloc HBC.out _); (case aB => exact below_alloc (Below.refl _ _) _); (case aS => rw [World.size_alloc]; omega); (case aL => have := H6.out.1.2; simp only [List.length_nil]; omega); intro vc w6 ho hb hg hat; rw [List.nil_append] at ho; obtain ⟨Ac, cc, rfl⟩ := Kd.R_slice ho; have HC6 := am ho; have HB56 := am hb; clear ho hb hg hat))
 refine (rec_Decode.calls Ac cc b cards meas rows 0 w6 (Kd.R_reads' HC6.out).2.2 (Kd.R_reads' HC6.out).2.1 H4.out).mono ?_
 rintro e w7 ⟨v7, v8, rfl, ho0, ho1, hb⟩
 obtain ⟨At, ct, rfl⟩ := Kd.R_slice ho0
 obtain ⟨Am, cm, rfl⟩ := Kd.S_slice ho1
 have HT7 := am ho0
 have HM7 := am (Kd.S_R ho1)
 have HB67 := am hb
 clear ho0 ho1 hb
 go_wp2_with (first | ((with_reducible refine gate_dst (N := 15) rfl ?_); (try (refine gate_guard (by rfl) ?_; dsimp only)); refine box_event ?hg (N := 15) ?hd (cs := #[.slice none 0 0, .int .i64 0]) (t := 24) ?hr ?_; (case hd => rfl); (case hg => rfl); (case hr => first | (go_simp; done) | (go_simp; rfl)); intro gt hg w8 hbox hb; have hcz0 : w8.cell? ⟨gt, 0, none⟩ = some (.slice none 0 0) := (blk_cell hbox 0).trans rfl; have hcz1 : w8.cell? ⟨gt, 1, none⟩ = some (.int .i64 0) := (blk_cell hbox 1).trans rfl; have hfz0 := blk_frozen hbox 0; have hfz1 := blk_frozen hbox 1; have HBXb := am hbox; have HGb := am hg; have HBBb := am hb; clear hbox hg hb))
 generalize hw9 : (w8.setCell ⟨gt, 0, none⟩ (.slice At cards.length ct)).setCell ⟨gt, 1, none⟩ (.int .i64 meas) = w9
 have hgt : w7.heap.size ≤ gt := Nat.le_of_eq HGb.out.symm
 have hb79 : Below w7.heap.size w7 w9 := by rw [← hw9]; exact below_set (below_set HBBb.out hgt) hgt
 have HGT := am (show w9.heap[gt]? = some (.cells #[.slice At cards.length ct, .int .i64 meas] 24 (0, 0)) by rw [← hw9]; exact blk_put (blk_put HBXb.out 0 _ rfl) 1 _ rfl)
 have HS1 := am HB14.out.size
 have HS2 := am HB45.out.size
 have HS3 := am HB56.out.size
 have HS4 := am HB67.out.size
 have HGT7 := am hgt
 have HB49 := am (below_step HB45.out (below_step HB56.out (below_step HB67.out hb79)))
 have HB69 := am (below_step HB67.out hb79)
 have HB79 := am hb79
 have HB19 := am (below_step HB14.out HB49.out)
 obtain ⟨gc, capc, ec, hgc1, hgc2, cellsc, hcc⟩ := Kd.R_form HC6.out H6.out.1.1
 injection ec with ec1 ec2 ec3
 obtain ⟨adc, eadc, hadc⟩ : ∃ adc, Ac = some adc ∧ adc = ⟨gc, 0, none⟩ := ⟨_, ec1, rfl⟩
 subst eadc
 have HADC := am hadc
 have HGC := am (And.intro hgc1 hgc2)
 have HBY : Aside0 (BytesAt gc b.length w9) := ⟨⟨cellsc, blk_below hcc HB69.out, fun i hi => by
  have hr := HC6.out
  rw [hadc] at hr
  obtain ⟨h1, _⟩ := Kd.R_cell (0 : Int) hr (i : Int) (by omega) (by omega)
  rw [Int.toNat_natCast, blk_cell hcc] at h1
  exact ⟨_, h1⟩⟩⟩
 have HKE : Aside0 (∀ i : Nat, i < rows.length → ∃ ad, A15 = some ad ∧ ad.block < w4.heap.size ∧ KeyAt w1 w4 ad rows w9 i) := ⟨fun i hi => by
  obtain ⟨ad, e, hbl, hk⟩ := keys_at HY4.out H5.out (by omega)
  exact ⟨ad, e, hbl, (hk i hi).move hbl (fun k hk => HB49.out.block k hk)⟩⟩
 have HL1 := am (fun W' (hk : Kept w9 W' (SW w1 w4 gc)) => Kd.C_kept_came (Kd.heap_int .i64) HA1.out HB19.out (fun k hs => by have := HS1.out; have := HS2.out; have := HGC.out.1; rcases hs with hs | hs <;> omega) W' hk)
 have HL3 := am (fun W' (hk : Kept w9 W' (SW w1 w4 gc)) => Kd.C_kept_came (Kd.heap_int .i64) HA3.out HB19.out (fun k hs => by have := HS1.out; have := HS2.out; have := HGC.out.1; rcases hs with hs | hs <;> omega) W' hk)
 have HLB := am (fun W' (hk : Kept w9 W' (SW w1 w4 gc)) => Kd.C_kept_own (Kd.R_below (Kd.R_bound HBR.out) (below_step HB56.out (below_step HB67.out hb79))) (fun k hk2 hs => by have := hk2.2.1; have := hk2.2.2.1; have := HGC.out.1; rcases hs with hs | hs <;> omega) W' hk)
 have HLT := am (fun W' (hk : Kept w9 W' (SW w1 w4 gc)) => Kd.C_kept_own (Kd.R_below (Kd.R_bound HT7.out) hb79) (fun k hk2 hs => by have := hk2.2.1; have := HS2.out; have := HS3.out; have := HGC.out.2; rcases hs with hs | hs <;> omega) W' hk)
 have HLM := am (fun W' (hk : Kept w9 W' (SW w1 w4 gc)) => Kd.C_kept_own (Kd.R_below (Kd.R_bound HM7.out) hb79) (fun k hk2 hs => by have := hk2.2.1; have := HS2.out; have := HS3.out; have := HGC.out.2; rcases hs with hs | hs <;> omega) W' hk)
 have HNT : Aside0 (¬ SW w1 w4 gc gt) := ⟨fun hs => by have := HGT7.out; have := HS2.out; have := HS3.out; have := HS4.out; have := HGC.out.2; rcases hs with hs | hs <;> omega⟩
 have HTC := am (Kd.R_reads' HT7.out).2.1
 have HMC := am (Kd.R_reads' HM7.out).2.1
 have HBL := am (Kd.R_reads' HBR.out).2.1
 clear hw9 hgt hb79 hcz0 hcz1 hfz0 hfz1 HBXb HGb HBBb ec1 ec2 ec3 hgc1 hgc2 hcc hadc HT7 HM7 HBR HBC HX HX4 HY4 HB45 HB56 HB67 HC6
 go_loopg [18] (b.length + 1) (fun kq v18 w' => ∃ i : Nat, v18 = .int .i64 (i : Int) ∧ Aside0 (i + kq = b.length + 1 ∧ i ≤ b.length) ∧ Aside0 (Kept w9 w' (fun k => k = gc) ∧ BytesAt gc b.length w') ∧ Aside0 (Below w1.heap.size w1 w'))
 case atStart => exact ⟨0, rfl, ⟨by omega, by omega⟩, ⟨Kept.refl _ _, HBY.out⟩, HB19⟩
 case round =>
 obtain ⟨i, rfl, HI, HS, HBW⟩ := hrel
 cases gk with
 | zero => exact absurd HI.out (by omega)
 | succ k1 =>
 by_cases hi : i < b.length
 ·have hd1 : decide ((i : Int) < (b.length : Int)) = true := decide_eq_true (by omega)
  have hd2 : decide (i < b.length) = true := decide_eq_true hi
  have pi := eq_true (show (0 : Int) ≤ (i : Int) by omega)
  have qi := eq_true (show (i : Int) < (b.length : Int) by omega)
  have qi2 := eq_true hi
  obtain ⟨cells, hh, hz⟩ := HS.out.2
  obtain ⟨z, hz⟩ := hz i hi
  have hadd : adc.add i = ⟨gc, i, none⟩ := by rw [HADC.out, Addr.add_lit, Nat.zero_add]
  have hx : wr.cell? (adc.add i) = some (.int .u8 z) := by rw [hadd, blk_cell hh]; exact hz
  have hf : wr.frozen? (adc.add i) = false := by rw [hadd]; exact blk_frozen hh i
  have HST : Aside0 (∀ z', Kept w9 (wr.setCell (adc.add i) (.int .u8 z')) (fun k => k = gc) ∧ BytesAt gc b.length (wr.setCell (adc.add i) (.int .u8 z')) ∧ Below w1.heap.size w1 (wr.setCell (adc.add i) (.int .u8 z'))) := ⟨fun z' => by rw [hadd]; exact ⟨Kept.setCell HS.out.1 (.inl rfl) _, HS.out.2.set z', below_set HBW.out (show w1.heap.size ≤ gc by have := HS1.out; have := HS2.out; have := HGC.out.1; omega)⟩⟩
  have HHI := am hi
  have hwi : wrap64 ((i : Int) + 1) = ((i + 1 : Nat) : Int) := by have := H6.out.1.2; unfold wrap64; omega
  clear hi hadd hh hz
  go_wp2
  go_roundg k1
  case measure => omega
  case rel => exact ⟨i + 1, by first | rfl | simp [hwi], ⟨by have := HI.out; have := HHI.out; omega, by have := HHI.out; omega⟩, ⟨⟨(HST.out _).1, (HST.out _).2.1⟩⟩, ⟨(HST.out _).2.2⟩⟩
 ·have hd1 : decide ((i : Int) < (b.length : Int)) = false := decide_eq_false (by omega)
  have hd2 : decide (i < b.length) = false := decide_eq_false hi
  have HK0 := am HS.out.1
  clear hi HS
  generalize wr = w10 at *
  go_wp2
  go_loopg [19] (rows.length + 1) (fun kq v19 w' => ∃ q : Nat, v19 = .int .i64 (q : Int) ∧ Aside0 (q + kq = rows.length + 1 ∧ q ≤ rows.length) ∧ Aside0 (Kept w9 w' (SW w1 w4 gc)) ∧ Aside0 (Below w1.heap.size w1 w') ∧ Aside0 (∀ i : Nat, i < rows.length → ∃ ad, A15 = some ad ∧ ad.block < w4.heap.size ∧ KeyAt w1 w4 ad rows w' i))
  case atStart => exact ⟨0, rfl, ⟨by omega, by omega⟩, ⟨Kept.mono HK0.out (fun k hk => .inr hk)⟩, HBW, ⟨fun i hi => by
   obtain ⟨ad, e, hbl, hk⟩ := HKE.out i hi
   exact ⟨ad, e, hbl, hk.move hbl (fun k hk => HK0.out.2 k (Nat.lt_of_lt_of_le hk HB49.out.size) (fun e => by have := HGC.out.1; have := HS2.out; omega))⟩⟩⟩
  case round =>
  clear HBW
  obtain ⟨q, rfl, HQ, HK, HBW, HKK⟩ := hrel
  cases gk with
  | zero => exact absurd HQ.out (by omega)
  | succ k2 =>
  by_cases hq : q < rows.length
  ·have he1 : decide ((q : Int) < (rows.length : Int)) = true := decide_eq_true (by omega)
   have he2 : decide (q < rows.length) = true := decide_eq_true hq
   have pq := eq_true (show (0 : Int) ≤ (q : Int) by omega)
   have qq := eq_true (show (q : Int) < (rows.length : Int) by omega)
   have qq2 := eq_true hq
   obtain ⟨ad, ea, hbl, ak, ca, ba, oa, cells, hh1, hak, hh2, hlt, hrg, hne⟩ := HKK.out q hq
   subst ea
   have hlen : 0 < (rows.getD q z33).f0.length := H5.out _ (by rw [List.getD_eq_getElem?_getD, List.getElem?_eq_getElem hq]; exact List.getElem_mem hq)
   generalize (rows.getD q z33).f0.length = m at *
   have pm := eq_true (show (0 : Int) < (m : Int) by omega)
   have pm2 := eq_true hlen
   obtain ⟨u0, hx⟩ : ∃ u0, wr.cell? ak = some u0 := ⟨cells[oa]'hlt, by rw [hak, blk_cell hh2, Array.getElem?_eq_getElem hlt]⟩
   have hf : wr.frozen? ak = false := by rw [hak]; exact blk_frozen hh2 oa
   have HST : Aside0 (∀ u, Kept w9 (wr.setCell ak u) (SW w1 w4 gc) ∧ Below w1.heap.size w1 (wr.setCell ak u) ∧ ∀ i : Nat, i < rows.length → ∃ ad', some ad = some ad' ∧ ad'.block < w4.heap.size ∧ KeyAt w1 w4 ad' rows (wr.setCell ak u) i) := ⟨fun u => by
    rw [hak]
    refine ⟨Kept.setCell HK.out (.inl (.inl hrg)) _, below_set HBW.out hrg.1, fun i hi => ?_⟩
    obtain ⟨ad', e, hb', hk'⟩ := HKK.out i hi
    cases e
    exact ⟨_, rfl, hb', hk'.set hh2 hne⟩⟩
   have HHQ := am hq
   have hwq : wrap64 ((q : Int) + 1) = ((q + 1 : Nat) : Int) := by have := H6.out.2; unfold wrap64; omega
   clear hq hak hh2 hlt hrg hne hbl hlen
   go_wp2
   go_roundg k2
   case measure => omega
   case rel => exact ⟨q + 1, by first | rfl | simp [hwq], ⟨by have := HQ.out; have := HHQ.out; omega, by have := HHQ.out; omega⟩, ⟨(HST.out _).1⟩, ⟨(HST.out _).2.1⟩, ⟨(HST.out _).2.2⟩⟩
  ·have he1 : decide ((q : Int) < (rows.length : Int)) = false := decide_eq_false (by omega)
   have he2 : decide (q < rows.length) = false := decide_eq_false hq
   have hk := HK.out
   have HL1r := am (HL1.out _ hk)
   have HL3r := am (HL3.out _ hk)
   have HLBr := am (HLB.out _ hk)
   have HLTr := am (HLT.out _ hk)
   have HLMr := am (HLM.out _ hk)
   have HGTr := am (blk_kept HGT.out hk HNT.out)
   have HBr := am (below_step HB1.out HBW.out)
   clear hq hk HK HKK HBW HL1 HL3 HLB HLT HLM HNT HGT HKE HBY HK0 HB19 HB49 HB69 HB79
   generalize wr = w11 at *
   go_wp2_with (fail)
   refine (hypercubelaw1_Facts.calls k a0 A1 c1 l1 a2 A3 c3 l3 cards meas rows w11 HL1r.out HC1.out HL3r.out HC3.out H2.out).mono ?_
   rintro e w12 ⟨v11, v12, rfl, ho0, ho1, hb⟩
   obtain ⟨Au, cu, rfl⟩ := Kd.R_slice ho0
   obtain ⟨An, cn, rfl⟩ := Kd.S_slice ho1
   have HU := am (Kd.R_reads' ho0).2
   have HN := am (Kd.S_reads' ho1).2
   have HB12 := am hb
   clear ho0 ho1 hb
   go_wp2_with (first | ((with_reducible refine gate_dst (N := 20) rfl ?_); (try (refine gate_guard (by rfl) ?_; dsimp only)); refine box_event ?hg (N := 20) ?hd (cs := #[.slice none 0 0, .int .i64 0]) (t := 24) ?hr ?_; (case hd => rfl); (case hg => rfl); (case hr => first | (go_simp; done) | (go_simp; rfl)); intro gn hg w13 hbox hb; have hcz0 : w13.cell? ⟨gn, 0, none⟩ = some (.slice none 0 0) := (blk_cell hbox 0).trans rfl; have hcz1 : w13.cell? ⟨gn, 1, none⟩ = some (.int .i64 0) := (blk_cell hbox 1).trans rfl; have hfz0 := blk_frozen hbox 0; have hfz1 := blk_frozen hbox 1; have HBXc := am hbox; have HGc := am hg; have HBBc := am hb; clear hbox hg hb))
   generalize hw14 : (w13.setCell ⟨gn, 0, none⟩ (.slice Au cards.length cu)).setCell ⟨gn, 1, none⟩ (.int .i64 meas) = w14
   have hgn : w12.heap.size ≤ gn := Nat.le_of_eq HGc.out.symm
   have hb24 : Below w12.heap.size w12 w14 := by rw [← hw14]; exact below_set (below_set HBBc.out hgn) hgn
   have HGN := am (show w14.heap[gn]? = some (.cells #[.slice Au cards.length cu, .int .i64 meas] 24 (0, 0)) by rw [← hw14]; exact blk_put (blk_put HBXc.out 0 _ rfl) 1 _ rfl)
   have HB14' := am (below_step HB12.out hb24)
   have HGT14 := am (blk_below HGTr.out HB14'.out)
   have HU14 := am (Kd.C_below HU.out.2 hb24)
   have HN14 := am (Kd.C_below HN.out.2 hb24)
   have HB14b := am (Kd.C_below HLBr.out HB14'.out)
   have HT14 := am (Kd.C_below HLTr.out HB14'.out)
   have HM14 := am (Kd.C_below HLMr.out HB14'.out)
   have HBz := am (below_step HBr.out HB14'.out)
   have T0 := am (bc HGT14 0)
   have T1 := am (bc HGT14 1)
   have N0 := am (bc HGN 0)
   have N1 := am (bc HGN 1)
   have HCV : Aside0 (∀ W : World, Below w14.heap.size w14 W → (convert 36 9 (.slice Ab b.length cb)).run Try.prog W = .ok (.string (strOfNums b)) W) := ⟨fun W hB => Kd.C_string Try.underlying36 Try.underlying5 Try.underlying9 (Kd.C_below HB14b.out hB)⟩
   clear hw14 hgn hb24 hcz0 hcz1 hfz0 hfz1 HBXc HGc HBBc
   go_wp2
   refine start_ (n := 19) (S := fun w' => w'.cell? ⟨gt, 0, none⟩ = some (.slice At cards.length ct) ∧ w'.cell? ⟨gt, 1, none⟩ = some (.int .i64 meas) ∧ w'.cell? ⟨gn, 0, none⟩ = some (.slice Au cards.length cu) ∧ w'.cell? ⟨gn, 1, none⟩ = some (.int .i64 meas) ∧ (convert 36 9 (.slice Ab b.length cb)).run Try.prog w' = .ok (.string (strOfNums b)) w') (ds := []) (bb 19 0) (by kernel_rfl) rfl rfl ⟨T0.out, T1.out, N0.out, N1.out, HCV.out _ (below_drew (Below.refl _ _))⟩ (fun hHeld => ?_)
   refine with_tabW hypercubelaw1_RecOwn.tab16 hypercubelaw1_RecOwn.bits16 (fun HT_ HW_ => ?_)
   have HB := am (below_drew (Below.refl w14.heap.size w14))
   generalize w14.drew = wd at HB hHeld ⊢
   refine pu (i := 0) (N := some 77) (bb 19 1) HT_ ?_
   refine pu (i := 1) (N := some 78) (bb 19 3) HT_ ?_
   refine pu (i := 2) (N := some 79) (bb 19 7) HT_ ?_
   refine pu (i := 4) (N := some 81) (bb 19 23) HT_ ?_
   refine pu (i := 6) (N := some 83) (bb 19 87) HT_ ?_
   refine tk (i := 3) (N := some 80) (bb 19 95) HT_ HW_ hHeld ?_
   refine tk (i := 5) (N := some 82) (bb 19 127) HT_ HW_ hHeld ?_
   refine one_ (i := 7) (N := some 84) (bb 19 255) rfl rfl (one_of HT_.out (by kernel_rfl)) (by decide) (fun K hK => ?_)
   refine goes_ Try.func25 (by kernel_rfl) rfl #[.agg #[.slice At cards.length ct, .int .i64 meas], .slice Am rows.length cm, .agg #[.slice Au cards.length cu, .int .i64 meas], .slice An rows.length cn] (by rfl) rfl rfl (by (try simp only [List.map_toArray, List.map_cons, List.map_nil]); first | done | rfl) ?_
   with_reducible refine (hypercuberef1_Same.calls k At ct cards meas Am cm rows Au cu cards meas An cn rows true _ (Kd.C_below HT14.out HB.out) HTC.out (Kd.C_below HM14.out HB.out) HMC.out (Kd.C_below HU14.out HB.out) HU.out.1 (Kd.C_below HN14.out HB.out) HN.out.1 H7.out).mono ?_

   rintro e wd2 ⟨rfl, hb⟩
   replace HB := am (below_step HB.out hb)
   clear hb
   refine ⟨_, rfl, ?_⟩
   refine hK.out _ _ ⟨(HB.out.cell (World.block_lt_of_cell? w14 _ T0.out)).trans T0.out, (HB.out.cell (World.block_lt_of_cell? w14 _ T1.out)).trans T1.out, (HB.out.cell (World.block_lt_of_cell? w14 _ N0.out)).trans N0.out, (HB.out.cell (World.block_lt_of_cell? w14 _ N1.out)).trans N1.out, HCV.out _ HB.out⟩ (fun hHeld => ?_)
   clear hK K
   refine nm ?_
   refine pu (i := 8) (N := some 85) (bb 19 511) HT_ ?_
   refine pu (i := 9) (N := some 86) (bb 19 1023) HT_ ?_
   refine pu (i := 10) (N := some 87) (bb 19 2047) HT_ ?_
   refine pu (i := 13) (N := some 90) (bb 19 10239) HT_ ?_
   refine tk (i := 11) (N := some 88) (bb 19 12287) HT_ HW_ hHeld ?_
   refine tk (i := 12) (N := some 89) (bb 19 16383) HT_ HW_ hHeld ?_
   refine one_ (i := 14) (N := some 91) (bb 19 32767) rfl rfl (one_of HT_.out (by kernel_rfl)) (by decide) (fun K hK => ?_)
   refine goes_ Try.func24 (by kernel_rfl) rfl #[.agg #[.slice Au cards.length cu, .int .i64 meas], .slice An rows.length cn] (by rfl) rfl rfl (by (try simp only [List.map_toArray, List.map_cons, List.map_nil]); first | done | rfl) ?_
   with_reducible refine (hypercuberef1_Encode.calls k Au cu cards meas An cn rows b _ (Kd.C_below HU14.out HB.out) HU.out.1 (Kd.C_below HN14.out HB.out) HN.out.1 H8.out).mono ?_

   rintro e wd3 ⟨ve, rfl, ho0, hb⟩
   obtain ⟨Ae, ce, rfl⟩ := Kd.R_slice ho0
   have HE := am (Kd.R_reads' ho0).2.2
   replace HB := am (below_step HB.out hb)
   clear hb ho0
   refine ⟨_, rfl, ?_⟩
   refine hK.out _ _ ⟨(HB.out.cell (World.block_lt_of_cell? w14 _ T0.out)).trans T0.out, (HB.out.cell (World.block_lt_of_cell? w14 _ T1.out)).trans T1.out, (HB.out.cell (World.block_lt_of_cell? w14 _ N0.out)).trans N0.out, (HB.out.cell (World.block_lt_of_cell? w14 _ N1.out)).trans N1.out, HCV.out _ HB.out⟩ (fun hHeld => ?_)
   clear hK K
   refine nm ?_
   refine one_ (i := 15) (N := some 92) (bb 19 65535) rfl rfl (one_of HT_.out (by kernel_rfl)) (by decide) (fun K hK => ?_)
   have hcv : (convert 36 9 (.slice Ae b.length ce)).run Try.prog wd3 = .ok (.string (strOfNums b)) wd3 := Kd.C_string Try.underlying36 Try.underlying5 Try.underlying9 HE.out
   refine value_ (v := .string (strOfNums b)) (w1 := wd3) rfl rfl (by go_simp; first | done | rfl) ?_
   clear hcv
   refine hK.out _ _ ⟨(HB.out.cell (World.block_lt_of_cell? w14 _ T0.out)).trans T0.out, (HB.out.cell (World.block_lt_of_cell? w14 _ T1.out)).trans T1.out, (HB.out.cell (World.block_lt_of_cell? w14 _ N0.out)).trans N0.out, (HB.out.cell (World.block_lt_of_cell? w14 _ N1.out)).trans N1.out, HCV.out _ HB.out⟩ (fun hHeld => ?_)
   clear hK K
   refine nm ?_
   refine pu (i := 16) (N := some 93) (bb 19 131071) HT_ ?_
   refine pu (i := 17) (N := some 94) (bb 19 262143) HT_ ?_
   refine pu (i := 18) (N := some 10) (bb 19 524287) HT_ ?_
   refine done_ (done_of HT_.out (by kernel_rfl)) ?_
   go_wp2
   go_ret
   exact ⟨by first | rfl | (simp; done), below_step HBz.out HB.out⟩
theorem hypercubelaw1_RecOwn.walk (P : hypercubelaw1_RecOwn.Pure) (a0 : Int) (a1 : Option Addr) (len1 cap1 : Nat) (z1 : List Int) (a2 : Int) (a3 : Option Addr) (len3 cap3 : Nat) (z3 : List Int) (a4 : Int) (w : World) (w0 : (Lit.int .i64 a0).wf = true) (w1 : (a1 = none ∧ len1 = 0 ∧ cap1 = 0 ∧ z1 = []) ∨ ∃ x, a1 = some x ∧ len1 ≤ cap1 ∧ cap1 ≤ maxLen ∧ z1.length = cap1 ∧ (∀ i, i < z1.length → w.cell? (x.add i) = some (.int .i64 (z1.getD i 0))) ∧ ∀ n ∈ z1, (Lit.int .i64 n).wf = true) (y1 : len1 * 8 ≤ 140737488351232) (w2 : (Lit.int .i64 a2).wf = true) (w3 : (a3 = none ∧ len3 = 0 ∧ cap3 = 0 ∧ z3 = []) ∨ ∃ x, a3 = some x ∧ len3 ≤ cap3 ∧ cap3 ≤ maxLen ∧ z3.length = cap3 ∧ (∀ i, i < z3.length → w.cell? (x.add i) = some (.int .i64 (z3.getD i 0))) ∧ ∀ n ∈ z3, (Lit.int .i64 n).wf = true) (y3 : len3 * 8 ≤ 140737488351232) (w4 : (Lit.int .u8 a4).wf = true) :
  Calls Try.prog 9 #[.int .i64 a0, .slice a1 len1 cap1, .int .i64 a2, .slice a3 len3 cap3, .int .u8 a4] w fun e w' => e = .returned (.bool true) ∧ Below w.heap.size w w' := by
 obtain ⟨l1, rfl, hr1, hm1, hw1, hc1⟩ := ReadsInt.ofRowC w1
 obtain ⟨l3, rfl, hr3, hm3, hw3, hc3⟩ := ReadsInt.ofRowC w3
 obtain ⟨k, cards, meas, rows, b, h1, h2, h3, h4, h5, h6, h7, h8⟩ := P a0 l1 a2 l3 a4 w0 hm1 y1 hw1 w2 hm3 y3 hw3 w4
 exact hypercubelaw1_RecOwn.calls k a0 _ _ l1 a2 _ _ l3 a4 w (Kd.C_of_reads (d := (0 : Int)) (h1 := fun _ => rfl) hr1) hc1 (Kd.C_of_reads (d := (0 : Int)) (h1 := fun _ => rfl) hr3) hc3 h1 h2 h3 h4 h5 h6 h7 h8
end Go.Proofs.Ytlacfpbfnedgdaa.Q
