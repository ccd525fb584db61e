-- packed by wip/tools/pack.py (a program of this session) out of its own texts
import Derived.Test.YtlacfpbfnedgdaaPRecApart0
import Derived.ArgAppend
import Derived.Below
import Derived.BigQuiet
import Derived.Deep.AppendLies
import Derived.Deep.CutBlock
import Derived.Deep.DeepCutAuto
import Derived.Deep.Draws
import Derived.Deep.LoopGhost
import Derived.Deep.OwnRows
import Derived.Deep.QuietTactic
import Derived.Deep.RegionHeld3
import Derived.Deep.RegionWith
import Derived.KernelRfl
import Derived.Laws.BitsLemmas
import Derived.Laws.BytesArg
import Derived.Laws.CopyOwn
import Derived.Laws.IdiomCopy
import Derived.Laws.MakeOwn
import Derived.Laws.OwnMore
import Derived.Laws.Rows
import Derived.Laws.Slices
import Derived.Lib.AppendStr
import Derived.Lib.ConvBytes
import Derived.Lib.SlBytesConst
import Derived.Lib.SliceRun
import Derived.Maps.AppendAt
import Derived.OrdersHeld
import Derived.OwnWalk
import Derived.RegionTactic
import Derived.RowKit
import Derived.RowKit3
import Derived.Shelf.Abstract
import Derived.Tactics
import Derived.Test.YtlacfpbfnedgdaaProg
import Derived.WalkKit
import Derived.WalkSpells
import Derived.WideLaws
import Derived.Test.YtlacfpbfnedgdaaPRecApart1
import Derived.Test.YtlacfpbfnedgdaaPRecApart3
import Derived.Test.YtlacfpbfnedgdaaPRecApart4
import Derived.Test.YtlacfpbfnedgdaaPRecApart5
import Derived.Test.YtlacfpbfnedgdaaPRecApart6
import Derived.Test.YtlacfpbfnedgdaaPRecApart7
import Derived.Test.YtlacfpbfnedgdaaPRecApart8
import Derived.Test.YtlacfpbfnedgdaaPRecApart9
import Derived.Test.YtlacfpbfnedgdaaPRecApart10
import Derived.Test.YtlacfpbfnedgdaaPRecApart11
namespace Go.Proofs.Ytlacfpbfnedgdaa.Q
open Go.RowKit Go.Proofs.YtlacfpbfnedgdaaW.PrintWords Go.Proofs.YtlacfpbfnedgdaaW.PrintLast Go.Proofs.YtlacfpbfnedgdaaW.PrintMore
attribute [local go_sem] max2_int min2_int max_two min_two max_three min_three max_four min_four
set_option linter.unusedVariables false
set_option linter.unusedSimpArgs false
def hypercubelaw1_known.f (k : Nat)  : Option (Bool) := (rec_Decode.f ([] : List Int)).bind fun bt185 => ((some (([3] : List Int) : List Int)).bind fun y194 => ((some (([(⟨(([2] : List Int)), (([7] : List Int))⟩ : S33)] : List (S33)) : List (S33))).bind fun y204 => ((rec_Encode.f k y194 1 y204).bind fun t207 => ((rec_Decode.f t207).bind fun bt210 => (if bt185.2.2.2 = 1 then (if bt210.2.2.2 = 0 then ((hypercuberef1_Same.f k y194 1 y204 bt210.1 bt210.2.1 bt210.2.2.1).bind fun t219 => (if t219 = true then ((rec_Check.f y194 1).bind fun t220 => (if t220 = true then (if 0 < (y204.length : Int) then ((rec_Right.f k y194 1 ((rd_T33 y204 0).f0) ((rd_T33 y204 0).f1)).bind fun t222 => (if t222 = true then ((rec_Sound.f k y194 1 y204).bind fun t223 => (some t223)) else (none))) else (none)) else (none))) else (none))) else (none)) else (none))))))
theorem hypercubelaw1_known.mono : ∀ k, LeO (hypercubelaw1_known.f k ) (hypercubelaw1_known.f (k + 1) ) := by
 intro  k
 unfold hypercubelaw1_known.f
 repeat' first
   | (with_reducible exact hypercuberef1_Same.mono _ _ _ _ _ _ _)
   | (with_reducible exact rec_Encode.mono _ _ _ _)
   | (with_reducible exact rec_Right.mono _ _ _ _ _)
   | (with_reducible exact rec_Sound.mono _ _ _ _)
   | (with_reducible exact LeO.refl _)
   | (with_reducible exact LeO.none _)
   | (with_reducible refine LeO.ite ?_ ?_)
   | (with_reducible refine LeO.bind ?_ (fun _ => ?_))
   | exact hypercuberef1_Same.mono _ _ _ _ _ _ _
   | exact rec_Encode.mono _ _ _ _
   | exact rec_Right.mono _ _ _ _ _
   | exact rec_Sound.mono _ _ _ _
   | exact LeO.none _
   | refine LeO.ite ?_ ?_
   | refine LeO.bind ?_ (fun _ => ?_)
def hypercubelaw1_known.T5 : Bool × List (List Nat × List Nat) := (true, [([], []), ([0], [0]), ([1], [1]), ([2], [2]), ([3, 2], [2, 3]), ([2, 4], [2, 4]), ([5, 2], [5]), ([6], [6]), ([6], [6]), ([6], [6]), ([6], [6]), ([7, 8, 9, 10, 6, 6], [6, 7, 8, 9, 10]), ([6, 11], [6, 11]), ([12, 11], [12]), ([13], [13]), ([14, 13, 13], [13, 14]), ([13, 15], [13, 15]), ([16, 15], [16]), ([17], [17]), ([17], [17]), ([19, 17], [17, 19]), ([20, 17], [17, 20]), ([18, 21, 17, 17], [17, 18, 21]), ([17, 22], [17, 22]), ([23, 22], [23]), ([24], [24]), ([24], [24]), ([25, 26, 24, 24], [24, 25, 26]), ([24, 27], [24, 27]), ([28, 27, 0, 1, 2, 3, 4, 5, 6, 7, 8, 9, 10, 11, 12, 13, 14, 15, 16, 17, 18, 19, 20, 21, 22, 23, 24, 25, 26, 27, 28], [28])])
def hypercubelaw1_known.B5 : List Nat := [0, 1, 3, 7, 15, 31, 63, 127, 127, 127, 127, 2047, 4095, 8191, 16383, 32767, 65535, 131071, 262143, 262143, 786431, 1835007, 4194303, 8388607, 16777215, 33554431, 33554431, 134217727, 268435455, 536870911]
theorem hypercubelaw1_known.tab5 : rtab .any (opsOf Try.f14 5) = hypercubelaw1_known.T5 := by kernel_rfl
theorem hypercubelaw1_known.bits5 : waitsOk hypercubelaw1_known.T5.2 hypercubelaw1_known.B5 = true := by kernel_rfl
set_option maxHeartbeats 8000000 in
set_option maxRecDepth 100000 in
theorem hypercubelaw1_known.calls (k : Nat)  (r : Bool) (w : World) (h : hypercubelaw1_known.f k  = some r) :
  Calls Try.prog 14 #[] w fun e w' => e = .returned (.bool r) ∧ Below w.heap.size w w' := by
 have hu24 := Try.underlying24
 have hu33 := Try.underlying33
 have HB := am (Below.refl w.heap.size w)
 have H : ((rec_Decode.f ([] : List Int)).bind fun bt185 => ((some (([3] : List Int) : List Int)).bind fun y194 => ((some (([(⟨(([2] : List Int)), (([7] : List Int))⟩ : S33)] : List (S33)) : List (S33))).bind fun y204 => ((rec_Encode.f k y194 1 y204).bind fun t207 => ((rec_Decode.f t207).bind fun bt210 => (if bt185.2.2.2 = 1 then (if bt210.2.2.2 = 0 then ((hypercuberef1_Same.f k y194 1 y204 bt210.1 bt210.2.1 bt210.2.2.1).bind fun t219 => (if t219 = true then ((rec_Check.f y194 1).bind fun t220 => (if t220 = true then (if 0 < (y204.length : Int) then ((rec_Right.f k y194 1 ((rd_T33 y204 0).f0) ((rd_T33 y204 0).f1)).bind fun t222 => (if t222 = true then ((rec_Sound.f k y194 1 y204).bind fun t223 => (some t223)) else (none))) else (none)) else (none))) else (none))) else (none)) else (none))))))) = some r := h
 clear h
 replace H := Option.bind_eq_some_iff.mp H
 obtain ⟨⟨t185, t188, t189, t192⟩, A10, H⟩ := H
 replace H : ((some (([3] : List Int) : List Int)).bind fun y194 => ((some (([(⟨(([2] : List Int)), (([7] : List Int))⟩ : S33)] : List (S33)) : List (S33))).bind fun y204 => ((rec_Encode.f k y194 1 y204).bind fun t207 => ((rec_Decode.f t207).bind fun bt210 => (if t192 = 1 then (if bt210.2.2.2 = 0 then ((hypercuberef1_Same.f k y194 1 y204 bt210.1 bt210.2.1 bt210.2.2.1).bind fun t219 => (if t219 = true then ((rec_Check.f y194 1).bind fun t220 => (if t220 = true then (if 0 < (y204.length : Int) then ((rec_Right.f k y194 1 ((rd_T33 y204 0).f0) ((rd_T33 y204 0).f1)).bind fun t222 => (if t222 = true then ((rec_Sound.f k y194 1 y204).bind fun t223 => (some t223)) else (none))) else (none)) else (none))) else (none))) else (none)) else (none)))))) = some r := H
 have A1 := am A10
 clear A10
 obtain ⟨y194, hy194⟩ : ∃ y_ : List Int, y_ = (([3] : List Int)) := ⟨_, rfl⟩
 replace H : ((some (([(⟨(([2] : List Int)), (([7] : List Int))⟩ : S33)] : List (S33)) : List (S33))).bind fun y204 => ((rec_Encode.f k y194 1 y204).bind fun t207 => ((rec_Decode.f t207).bind fun bt210 => (if t192 = 1 then (if bt210.2.2.2 = 0 then ((hypercuberef1_Same.f k y194 1 y204 bt210.1 bt210.2.1 bt210.2.2.1).bind fun t219 => (if t219 = true then ((rec_Check.f y194 1).bind fun t220 => (if t220 = true then (if 0 < (y204.length : Int) then ((rec_Right.f k y194 1 ((rd_T33 y204 0).f0) ((rd_T33 y204 0).f1)).bind fun t222 => (if t222 = true then ((rec_Sound.f k y194 1 y204).bind fun t223 => (some t223)) else (none))) else (none)) else (none))) else (none))) else (none)) else (none))))) = some r := by first | (rw [hy194]; with_reducible exact H) | (have H2_ := (Option.bind_some _ _).symm.trans H; rw [hy194]; with_reducible exact H2_) | (have H2_ := (Option.bind_some _ _).symm.trans H; with_reducible exact H2_) | with_reducible exact H | (rw [hy194]; exact H) | exact H
 have Ny194 := am hy194
 clear hy194
 obtain ⟨y198, hy198⟩ : ∃ y_ : List Int, y_ = (([2] : List Int)) := ⟨_, rfl⟩
 replace H : ((some (([(⟨y198, (([7] : List Int))⟩ : S33)] : List (S33)) : List (S33))).bind fun y204 => ((rec_Encode.f k y194 1 y204).bind fun t207 => ((rec_Decode.f t207).bind fun bt210 => (if t192 = 1 then (if bt210.2.2.2 = 0 then ((hypercuberef1_Same.f k y194 1 y204 bt210.1 bt210.2.1 bt210.2.2.1).bind fun t219 => (if t219 = true then ((rec_Check.f y194 1).bind fun t220 => (if t220 = true then (if 0 < (y204.length : Int) then ((rec_Right.f k y194 1 ((rd_T33 y204 0).f0) ((rd_T33 y204 0).f1)).bind fun t222 => (if t222 = true then ((rec_Sound.f k y194 1 y204).bind fun t223 => (some t223)) else (none))) else (none)) else (none))) else (none))) else (none)) else (none))))) = some r := by first | (rw [hy198]; with_reducible exact H) | (have H2_ := (Option.bind_some _ _).symm.trans H; rw [hy198]; with_reducible exact H2_) | (have H2_ := (Option.bind_some _ _).symm.trans H; with_reducible exact H2_) | with_reducible exact H | (rw [hy198]; exact H) | exact H
 have Ny198 := am hy198
 clear hy198
 obtain ⟨y201, hy201⟩ : ∃ y_ : List Int, y_ = (([7] : List Int)) := ⟨_, rfl⟩
 replace H : ((some (([(⟨y198, y201⟩ : S33)] : List (S33)) : List (S33))).bind fun y204 => ((rec_Encode.f k y194 1 y204).bind fun t207 => ((rec_Decode.f t207).bind fun bt210 => (if t192 = 1 then (if bt210.2.2.2 = 0 then ((hypercuberef1_Same.f k y194 1 y204 bt210.1 bt210.2.1 bt210.2.2.1).bind fun t219 => (if t219 = true then ((rec_Check.f y194 1).bind fun t220 => (if t220 = true then (if 0 < (y204.length : Int) then ((rec_Right.f k y194 1 ((rd_T33 y204 0).f0) ((rd_T33 y204 0).f1)).bind fun t222 => (if t222 = true then ((rec_Sound.f k y194 1 y204).bind fun t223 => (some t223)) else (none))) else (none)) else (none))) else (none))) else (none)) else (none))))) = some r := by first | (rw [hy201]; with_reducible exact H) | (have H2_ := (Option.bind_some _ _).symm.trans H; rw [hy201]; with_reducible exact H2_) | (have H2_ := (Option.bind_some _ _).symm.trans H; with_reducible exact H2_) | with_reducible exact H | (rw [hy201]; exact H) | exact H
 have Ny201 := am hy201
 clear hy201
 obtain ⟨y204, hy204⟩ : ∃ y_ : List (S33), y_ = (([(⟨y198, y201⟩ : S33)] : List (S33))) := ⟨_, rfl⟩
 replace H : ((rec_Encode.f k y194 1 y204).bind fun t207 => ((rec_Decode.f t207).bind fun bt210 => (if t192 = 1 then (if bt210.2.2.2 = 0 then ((hypercuberef1_Same.f k y194 1 y204 bt210.1 bt210.2.1 bt210.2.2.1).bind fun t219 => (if t219 = true then ((rec_Check.f y194 1).bind fun t220 => (if t220 = true then (if 0 < (y204.length : Int) then ((rec_Right.f k y194 1 ((rd_T33 y204 0).f0) ((rd_T33 y204 0).f1)).bind fun t222 => (if t222 = true then ((rec_Sound.f k y194 1 y204).bind fun t223 => (some t223)) else (none))) else (none)) else (none))) else (none))) else (none)) else (none)))) = some r := by first | (rw [hy204]; with_reducible exact H) | (have H2_ := (Option.bind_some _ _).symm.trans H; rw [hy204]; with_reducible exact H2_) | (have H2_ := (Option.bind_some _ _).symm.trans H; with_reducible exact H2_) | with_reducible exact H | (rw [hy204]; exact H) | exact H
 have Ny204 := am hy204
 clear hy204
 replace H := Option.bind_eq_some_iff.mp H
 obtain ⟨t207, A20, H⟩ := H
 replace H : ((rec_Decode.f t207).bind fun bt210 => (if t192 = 1 then (if bt210.2.2.2 = 0 then ((hypercuberef1_Same.f k y194 1 y204 bt210.1 bt210.2.1 bt210.2.2.1).bind fun t219 => (if t219 = true then ((rec_Check.f y194 1).bind fun t220 => (if t220 = true then (if 0 < (y204.length : Int) then ((rec_Right.f k y194 1 ((rd_T33 y204 0).f0) ((rd_T33 y204 0).f1)).bind fun t222 => (if t222 = true then ((rec_Sound.f k y194 1 y204).bind fun t223 => (some t223)) else (none))) else (none)) else (none))) else (none))) else (none)) else (none))) = some r := H
 have A2 := am A20
 clear A20
 replace H := Option.bind_eq_some_iff.mp H
 obtain ⟨⟨t210, t213, t214, t217⟩, A30, H⟩ := H
 replace H : (if t192 = 1 then (if t217 = 0 then ((hypercuberef1_Same.f k y194 1 y204 t210 t213 t214).bind fun t219 => (if t219 = true then ((rec_Check.f y194 1).bind fun t220 => (if t220 = true then (if 0 < (y204.length : Int) then ((rec_Right.f k y194 1 ((rd_T33 y204 0).f0) ((rd_T33 y204 0).f1)).bind fun t222 => (if t222 = true then ((rec_Sound.f k y194 1 y204).bind fun t223 => (some t223)) else (none))) else (none)) else (none))) else (none))) else (none)) else (none)) = some r := H
 have A3 := am A30
 clear A30
 by_cases c4 : t192 = 1
 ·rw [if_pos c4] at H
  have c4b0 : (t192 == 1) = true := beq_iff_eq.mpr c4
  have c4b1 : (t192 != 1) = false := bne_eq_false_iff_eq.mpr c4
  clear c4
  by_cases c5 : t217 = 0
  ·rw [if_pos c5] at H
   have c5b0 : (t217 == 0) = true := beq_iff_eq.mpr c5
   have c5b1 : (t217 != 0) = false := bne_eq_false_iff_eq.mpr c5
   clear c5
   replace H := Option.bind_eq_some_iff.mp H
   obtain ⟨t219, A60, H⟩ := H
   replace H : (if t219 = true then ((rec_Check.f y194 1).bind fun t220 => (if t220 = true then (if 0 < (y204.length : Int) then ((rec_Right.f k y194 1 ((rd_T33 y204 0).f0) ((rd_T33 y204 0).f1)).bind fun t222 => (if t222 = true then ((rec_Sound.f k y194 1 y204).bind fun t223 => (some t223)) else (none))) else (none)) else (none))) else (none)) = some r := H
   have A6 := am A60
   clear A60
   by_cases c7 : t219 = true
   ·subst c7
    have H1 : ((rec_Check.f y194 1).bind fun t220 => (if t220 = true then (if 0 < (y204.length : Int) then ((rec_Right.f k y194 1 ((rd_T33 y204 0).f0) ((rd_T33 y204 0).f1)).bind fun t222 => (if t222 = true then ((rec_Sound.f k y194 1 y204).bind fun t223 => (some t223)) else (none))) else (none)) else (none))) = some r := by rw [if_pos rfl] at H; exact H
    clear H
    have H := H1
    clear H1
    replace H := Option.bind_eq_some_iff.mp H
    obtain ⟨t220, A80, H⟩ := H
    replace H : (if t220 = true then (if 0 < (y204.length : Int) then ((rec_Right.f k y194 1 ((rd_T33 y204 0).f0) ((rd_T33 y204 0).f1)).bind fun t222 => (if t222 = true then ((rec_Sound.f k y194 1 y204).bind fun t223 => (some t223)) else (none))) else (none)) else (none)) = some r := H
    have A8 := am A80
    clear A80
    by_cases c9 : t220 = true
    ·subst c9
     have H1 : (if 0 < (y204.length : Int) then ((rec_Right.f k y194 1 ((rd_T33 y204 0).f0) ((rd_T33 y204 0).f1)).bind fun t222 => (if t222 = true then ((rec_Sound.f k y194 1 y204).bind fun t223 => (some t223)) else (none))) else (none)) = some r := by rw [if_pos rfl] at H; exact H
     clear H
     have H := H1
     clear H1
     by_cases c10 : 0 < (y204.length : Int)
     ·rw [if_pos c10] at H
      have c10b0 : decide (0 < (y204.length : Int)) = true := decide_eq_true c10
      have c10b1 : decide (0 < y204.length) = true := decide_eq_true (by omega)
      clear c10
      replace H := Option.bind_eq_some_iff.mp H
      obtain ⟨t222, A110, H⟩ := H
      replace H : (if t222 = true then ((rec_Sound.f k y194 1 y204).bind fun t223 => (some t223)) else (none)) = some r := H
      have A11 := am A110
      clear A110
      by_cases c12 : t222 = true
      ·subst c12
       have H1 : ((rec_Sound.f k y194 1 y204).bind fun t223 => (some t223)) = some r := by rw [if_pos rfl] at H; exact H
       clear H
       have H := H1
       clear H1
       replace H := Option.bind_eq_some_iff.mp H
       obtain ⟨t223, A130, H⟩ := H
       replace H : (some t223) = some r := H
       have A13 := am A130
       clear A130
       obtain rfl := Option.some.inj H
       go_enter Try.func14, Try.ntmps14
       try go_wp2_with (first | ((with_reducible refine gate_callee (f := 23) rfl ?_); refine goesL_ (some 10) rfl rfl Try.func23 (by kernel_rfl) rfl #[.slice none 0 0] rfl (by (try simp only [List.map_toArray, List.map_cons, List.map_nil]); first | done | rfl | (simp only [List.length_drop, List.length_take]; rfl)) ?_; (refine (rec_Decode.calls _ _ ([] : List Int) t185 t188 t189 t192 _ ?side1 ?side2 A1.out).mono ?_); (case side1 => exact Kd.C_nil _ _); (case side2 => exact Nat.le_refl _); rintro e w14 ⟨v186, v190, rfl, ho0, ho1, hb⟩; refine ⟨_, rfl, ?_⟩; have n0_ := am (Kd.R_lower ho0 (below_size (by repeat (first | (with_reducible first | exact HB.out | apply below_alloc | apply pw_below_drewN | apply below_drew1) | exact HB.out)))); have n1_ := am (Kd.N_lower (Kd.N_mono (ok' := fun k_ => some k_ ≠ (v186 : Value).ownBlock) (Kd.S_N (Kd.S_bound ho1)) (fun k_ hk_ => hk_.1)) (below_size (by repeat (first | (with_reducible first | exact HB.out | apply below_alloc | apply pw_below_drewN | apply below_drew1) | exact HB.out)))); have n2_ := am (below_step (by repeat (first | (with_reducible first | exact HB.out | apply below_alloc | apply pw_below_drewN | apply below_drew1) | exact HB.out)) hb); clear HB; have HO187 := n0_; have HO191 := n1_; have HB := n2_; clear n0_ n1_ n2_; (try clear hb); (try clear hb2); (try clear hk); (try clear hi); (try clear ho0); (try clear ho1)) | ((with_reducible refine gate_dst (N := 1) rfl ?_); refine box_event ?hg (N := 1) ?hd (cs := #[.slice none 0 0, .int .i64 0]) (t := 24) ?hr ?_; (case hd => rfl); (case hg => rfl); (case hr => first | (go_simp; done) | (go_simp; rfl)); intro gb193 hg w15 hbox hb; have n0_ := am (Kd.R_below (by (with_reducible repeat (first | apply Kd.R_alloc | apply Kd.R_drewN | apply Kd.R_drew)); exact HO187.out) hb); have n1_ := am (Kd.N_below (Kd.N_elderB (by (with_reducible repeat (first | apply Kd.N_alloc | apply Kd.N_drewN | apply Kd.N_drew)); exact HO191.out) gb193 (Nat.le_of_eq hg.symm)) hb); have n2_ := am (below_step (by repeat (first | (with_reducible first | exact HB.out | apply below_alloc | apply pw_below_drewN | apply below_drew1) | exact HB.out)) hb); have n3_ := am (hbox); have n4_ := am ((by rw [hg]; exact (below_size (by repeat (first | (with_reducible first | exact HB.out | apply below_alloc | apply pw_below_drewN | apply below_drew1) | exact HB.out))) : w.heap.size ≤ gb193)); have n5_ := am ((by rw [hg]; exact (below_size (by repeat (first | (with_reducible first | exact HB.out | apply below_alloc | apply pw_below_drewN | apply below_drew1) | exact HB.out))) : w.heap.size ≤ gb193)); clear HO187; clear HO191; clear HB; have HO187 := n0_; have HO191 := n1_; have HB := n2_; have BK193 := n3_; have GW193 := n4_; have GE193 := n5_; clear n0_ n1_ n2_ n3_ n4_ n5_; clear hb hbox hg; obtain ⟨Ao16, co16, eo16⟩ := Kd.R_slice HO187.out; subst eo16; have hcz17_0 : w15.cell? ⟨gb193, 0, none⟩ = some (.slice none 0 0) := (blk_cell BK193.out 0).trans rfl; have hcz17_1 : w15.cell? ⟨gb193, 1, none⟩ = some (.int .i64 0) := (blk_cell BK193.out 1).trans rfl; have hfz17_0 := blk_frozen BK193.out 0; have hfz17_1 := blk_frozen BK193.out 1) | ((with_reducible refine gate_dst (N := 14) rfl ?_); refine Kd.R_lit (Kd.int .i64) _ 3 ?hg (N := 14) ?hd (xs := ([3] : List Int)) (inner := [.int .i64 3]) (ok := fun _ => True) (okp := fun _ => True) ?hr ?hp (fun _ hk => hk) trivial (Below.refl _ _) (Nat.le_refl _) (by simp) ?_; (case hd => rfl); (case hg => rfl); (case hr => first | (go_simp; done) | (go_simp; rfl)); (case hp => exact (Reps.one (show Kd.M (Kd.int .i64) _ _ _ 3 [.int .i64 3] from rfl) (Reps.none _ _))); intro v195 w18 ho19 hb hg_ hnew_; clear hg_ hnew_; (first | rw [← Ny194.out] at ho19 | (simp only [Int.reduceToNat] at ho19; rw [← Ny194.out] at ho19)); have n0_ := am (Kd.R_elder' (by (with_reducible repeat (first | apply Kd.R_alloc | apply Kd.R_drewN | apply Kd.R_drew)); exact (Kd.R_mono (Kd.R_far (p := ⟨gb193, 1, none⟩) (Kd.R_far (p := ⟨gb193, 0, none⟩) (Kd.R_types HO187.out BK193.out (by decide)) (fun _ hk => hk.2) (.slice Ao16 t185.length co16)) (fun _ hk => hk.2) (.int .i64 t188)) (fun _ h_ => h_.1))) (Kd.R_base ho19) hb); have n1_ := am (Kd.N_elder' (by (with_reducible repeat (first | apply Kd.N_alloc | apply Kd.N_drewN | apply Kd.N_drew)); exact (Kd.N_mono (Kd.N_far (p := ⟨gb193, 1, none⟩) (Kd.N_far (p := ⟨gb193, 0, none⟩) (Kd.N_mono HO191.out (fun k_ hk => (⟨hk, hk.2⟩ : _ ∧ k_ ≠ gb193))) (fun _ hk => hk.2) (.slice Ao16 t185.length co16)) (fun _ hk => hk.2) (.int .i64 t188)) (fun _ h_ => h_.1))) (Kd.R_base ho19) hb); have n2_ := am (Kd.R_lower (Kd.R_new' ho19 (Kd.R_lt (by (with_reducible repeat (first | apply Kd.R_alloc | apply Kd.R_drewN | apply Kd.R_drew)); exact (Kd.R_mono (Kd.R_far (p := ⟨gb193, 1, none⟩) (Kd.R_far (p := ⟨gb193, 0, none⟩) (Kd.R_types HO187.out BK193.out (by decide)) (fun _ hk => hk.2) (.slice Ao16 t185.length co16)) (fun _ hk => hk.2) (.int .i64 t188)) (fun _ h_ => h_.1))))) (below_size (by repeat (first | (with_reducible first | exact HB.out | apply below_alloc | apply pw_below_drewN | apply below_drew1 | refine below_set ?_ GE193.out) | exact HB.out)))); have n3_ := am (blk_below (g := gb193) (o := .cells #[.slice Ao16 t185.length co16, .int .i64 t188] 24 (0, 0)) (by (with_reducible repeat (first | refine blk_drewN ?_ _ | refine blk_drew ?_ | refine blk_alloc ?_ _)); refine blk_put (cs := #[.slice Ao16 t185.length co16, .int .i64 0]) ?_ 1 _ rfl; (with_reducible repeat (first | refine blk_drewN ?_ _ | refine blk_drew ?_ | refine blk_alloc ?_ _)); refine blk_put (cs := #[.slice none 0 0, .int .i64 0]) ?_ 0 _ rfl; (with_reducible repeat (first | refine blk_drewN ?_ _ | refine blk_drew ?_ | refine blk_alloc ?_ _)); exact BK193.out) hb); have n4_ := am (below_step (by repeat (first | (with_reducible first | exact HB.out | apply below_alloc | apply pw_below_drewN | apply below_drew1 | refine below_set ?_ GE193.out) | exact HB.out)) hb); clear HO187; clear HO191; clear BK193; clear HB; have HO187 := n0_; have HO191 := n1_; have HO196 := n2_; have BK193 := n3_; have HB := n4_; clear n0_ n1_ n2_ n3_ n4_; clear hb ho19; obtain ⟨Ao20, co20, eo20⟩ := Kd.R_slice HO196.out; subst eo20) | ((with_reducible refine gate_dst (N := 4) rfl ?_); refine box_event ?hg (N := 4) ?hd (cs := #[.slice none 0 0, .int .i64 0]) (t := 24) ?hr ?_; (case hd => rfl); (case hg => rfl); (case hr => first | (go_simp; done) | (go_simp; rfl)); intro gb197 hg w21 hbox hb; have n0_ := am (Kd.R_below (by (with_reducible repeat (first | apply Kd.R_alloc | apply Kd.R_drewN | apply Kd.R_drew)); exact HO187.out) hb); have n1_ := am (Kd.N_below (Kd.N_elderB (by (with_reducible repeat (first | apply Kd.N_alloc | apply Kd.N_drewN | apply Kd.N_drew)); exact HO191.out) gb197 (Nat.le_of_eq hg.symm)) hb); have n2_ := am (Kd.R_below (by (with_reducible repeat (first | apply Kd.R_alloc | apply Kd.R_drewN | apply Kd.R_drew)); exact HO196.out) hb); have n3_ := am (blk_below (g := gb193) (o := .cells #[.slice Ao16 t185.length co16, .int .i64 t188] 24 (0, 0)) (by (with_reducible repeat (first | refine blk_drewN ?_ _ | refine blk_drew ?_ | refine blk_alloc ?_ _)); exact BK193.out) hb); have n4_ := am (below_step (by repeat (first | (with_reducible first | exact HB.out | apply below_alloc | apply pw_below_drewN | apply below_drew1 | refine below_set ?_ GE193.out) | exact HB.out)) hb); have n5_ := am (hbox); have n6_ := am ((by rw [hg]; exact (below_size (by repeat (first | (with_reducible first | exact HB.out | apply below_alloc | apply pw_below_drewN | apply below_drew1 | refine below_set ?_ GE193.out) | exact HB.out))) : w.heap.size ≤ gb197)); have n7_ := am ((by rw [hg]; exact (below_size (by repeat (first | (with_reducible first | exact HB.out | apply below_alloc | apply pw_below_drewN | apply below_drew1 | refine below_set ?_ GE193.out) | exact HB.out))) : w.heap.size ≤ gb197)); have n8_ := am ((by rw [hg]; exact Nat.ne_of_lt (blk_lt (g := gb193) (o := .cells #[.slice Ao16 t185.length co16, .int .i64 t188] 24 (0, 0)) (by (with_reducible repeat (first | refine blk_drewN ?_ _ | refine blk_drew ?_ | refine blk_alloc ?_ _)); exact BK193.out)) : gb193 ≠ gb197)); have n9_ := am ((by rw [hg]; exact Nat.ne_of_gt (blk_lt (g := gb193) (o := .cells #[.slice Ao16 t185.length co16, .int .i64 t188] 24 (0, 0)) (by (with_reducible repeat (first | refine blk_drewN ?_ _ | refine blk_drew ?_ | refine blk_alloc ?_ _)); exact BK193.out)) : gb197 ≠ gb193)); clear HO187; clear HO191; clear HO196; clear BK193; clear HB; have HO187 := n0_; have HO191 := n1_; have HO196 := n2_; have BK193 := n3_; have HB := n4_; have BK197 := n5_; have GW197 := n6_; have GE197 := n7_; have NB193_197 := n8_; have NB197_193 := n9_; clear n0_ n1_ n2_ n3_ n4_ n5_ n6_ n7_ n8_ n9_; clear hb hbox hg; have hnb22 := NB197_193.out; have hnc22 := NB193_197.out; have hcz23_0 : w21.cell? ⟨gb197, 0, none⟩ = some (.slice none 0 0) := (blk_cell BK197.out 0).trans rfl; have hcz23_1 : w21.cell? ⟨gb197, 1, none⟩ = some (.int .i64 0) := (blk_cell BK197.out 1).trans rfl; have hfz23_0 := blk_frozen BK197.out 0; have hfz23_1 := blk_frozen BK197.out 1) | ((with_reducible refine gate_dst (N := 16) rfl ?_); refine Kd.R_lit (Kd.int .i64) _ 3 ?hg (N := 16) ?hd (xs := ([2] : List Int)) (inner := [.int .i64 2]) (ok := fun _ => True) (okp := fun _ => True) ?hr ?hp (fun _ hk => hk) trivial (Below.refl _ _) (Nat.le_refl _) (by simp) ?_; (case hd => rfl); (case hg => rfl); (case hr => first | (go_simp; done) | (go_simp; rfl)); (case hp => exact (Reps.one (show Kd.M (Kd.int .i64) _ _ _ 2 [.int .i64 2] from rfl) (Reps.none _ _))); intro v199 w24 ho25 hb hg_ hnew_; clear hg_ hnew_; (first | rw [← Ny198.out] at ho25 | (simp only [Int.reduceToNat] at ho25; rw [← Ny198.out] at ho25)); have n0_ := am (Kd.R_elder' (by (with_reducible repeat (first | apply Kd.R_alloc | apply Kd.R_drewN | apply Kd.R_drew)); exact (Kd.R_mono (Kd.R_far (p := ⟨gb197, 1, none⟩) (Kd.R_far (p := ⟨gb197, 0, none⟩) (Kd.R_types HO187.out BK197.out (by decide)) (fun _ hk => hk.2) (.slice Ao20 y194.length co20)) (fun _ hk => hk.2) (.int .i64 1)) (fun _ h_ => h_.1))) (Kd.R_base ho25) hb); have n1_ := am (Kd.N_elder' (by (with_reducible repeat (first | apply Kd.N_alloc | apply Kd.N_drewN | apply Kd.N_drew)); exact (Kd.N_mono (Kd.N_far (p := ⟨gb197, 1, none⟩) (Kd.N_far (p := ⟨gb197, 0, none⟩) (Kd.N_mono HO191.out (fun k_ hk => (⟨hk, hk.2⟩ : _ ∧ k_ ≠ gb197))) (fun _ hk => hk.2) (.slice Ao20 y194.length co20)) (fun _ hk => hk.2) (.int .i64 1)) (fun _ h_ => h_.1))) (Kd.R_base ho25) hb); have n2_ := am (Kd.R_elder' (by (with_reducible repeat (first | apply Kd.R_alloc | apply Kd.R_drewN | apply Kd.R_drew)); exact (Kd.R_mono (Kd.R_far (p := ⟨gb197, 1, none⟩) (Kd.R_far (p := ⟨gb197, 0, none⟩) (Kd.R_types HO196.out BK197.out (by decide)) (fun _ hk => hk.2) (.slice Ao20 y194.length co20)) (fun _ hk => hk.2) (.int .i64 1)) (fun _ h_ => h_.1))) (Kd.R_base ho25) hb); have n3_ := am (Kd.R_lower (Kd.R_new' (Kd.R_new' ho25 (Kd.R_lt (by (with_reducible repeat (first | apply Kd.R_alloc | apply Kd.R_drewN | apply Kd.R_drew)); exact (Kd.R_mono (Kd.R_far (p := ⟨gb197, 1, none⟩) (Kd.R_far (p := ⟨gb197, 0, none⟩) (Kd.R_types HO187.out BK197.out (by decide)) (fun _ hk => hk.2) (.slice Ao20 y194.length co20)) (fun _ hk => hk.2) (.int .i64 1)) (fun _ h_ => h_.1))))) (Kd.R_lt (by (with_reducible repeat (first | apply Kd.R_alloc | apply Kd.R_drewN | apply Kd.R_drew)); exact (Kd.R_mono (Kd.R_far (p := ⟨gb197, 1, none⟩) (Kd.R_far (p := ⟨gb197, 0, none⟩) (Kd.R_types HO196.out BK197.out (by decide)) (fun _ hk => hk.2) (.slice Ao20 y194.length co20)) (fun _ hk => hk.2) (.int .i64 1)) (fun _ h_ => h_.1))))) (below_size (by repeat (first | (with_reducible first | exact HB.out | apply below_alloc | apply pw_below_drewN | apply below_drew1 | refine below_set ?_ GE193.out | refine below_set ?_ GE197.out) | exact HB.out)))); have n4_ := am (blk_below (g := gb193) (o := .cells #[.slice Ao16 t185.length co16, .int .i64 t188] 24 (0, 0)) (by (with_reducible repeat (first | refine blk_drewN ?_ _ | refine blk_drew ?_ | refine blk_alloc ?_ _)); refine blk_far ?_ NB193_197.out _; (with_reducible repeat (first | refine blk_drewN ?_ _ | refine blk_drew ?_ | refine blk_alloc ?_ _)); refine blk_far ?_ NB193_197.out _; (with_reducible repeat (first | refine blk_drewN ?_ _ | refine blk_drew ?_ | refine blk_alloc ?_ _)); exact BK193.out) hb); have n5_ := am (blk_below (g := gb197) (o := .cells #[.slice Ao20 y194.length co20, .int .i64 1] 24 (0, 0)) (by (with_reducible repeat (first | refine blk_drewN ?_ _ | refine blk_drew ?_ | refine blk_alloc ?_ _)); refine blk_put (cs := #[.slice Ao20 y194.length co20, .int .i64 0]) ?_ 1 _ rfl; (with_reducible repeat (first | refine blk_drewN ?_ _ | refine blk_drew ?_ | refine blk_alloc ?_ _)); refine blk_put (cs := #[.slice none 0 0, .int .i64 0]) ?_ 0 _ rfl; (with_reducible repeat (first | refine blk_drewN ?_ _ | refine blk_drew ?_ | refine blk_alloc ?_ _)); exact BK197.out) hb); have n6_ := am (below_step (by repeat (first | (with_reducible first | exact HB.out | apply below_alloc | apply pw_below_drewN | apply below_drew1 | refine below_set ?_ GE193.out | refine below_set ?_ GE197.out) | exact HB.out)) hb); clear HO187; clear HO191; clear HO196; clear BK193; clear BK197; clear HB; have HO187 := n0_; have HO191 := n1_; have HO196 := n2_; have HO200 := n3_; have BK193 := n4_; have BK197 := n5_; have HB := n6_; clear n0_ n1_ n2_ n3_ n4_ n5_ n6_; clear hb ho25) | ((with_reducible refine gate_dst (N := 17) rfl ?_); refine Kd.R_lit (Kd.int .i64) _ 3 ?hg (N := 17) ?hd (xs := ([7] : List Int)) (inner := [.int .i64 7]) (ok := fun _ => True) (okp := fun _ => True) ?hr ?hp (fun _ hk => hk) trivial (Below.refl _ _) (Nat.le_refl _) (by simp) ?_; (case hd => rfl); (case hg => rfl); (case hr => first | (go_simp; done) | (go_simp; rfl)); (case hp => exact (Reps.one (show Kd.M (Kd.int .i64) _ _ _ 7 [.int .i64 7] from rfl) (Reps.none _ _))); intro v202 w26 ho27 hb hg_ hnew_; clear hg_ hnew_; (first | rw [← Ny201.out] at ho27 | (simp only [Int.reduceToNat] at ho27; rw [← Ny201.out] at ho27)); have n0_ := am (Kd.R_elder' (by (with_reducible repeat (first | apply Kd.R_alloc | apply Kd.R_drewN | apply Kd.R_drew)); exact HO187.out) (Kd.R_base ho27) hb); have n1_ := am (Kd.N_elder' (by (with_reducible repeat (first | apply Kd.N_alloc | apply Kd.N_drewN | apply Kd.N_drew)); exact HO191.out) (Kd.R_base ho27) hb); have n2_ := am (Kd.R_elder' (by (with_reducible repeat (first | apply Kd.R_alloc | apply Kd.R_drewN | apply Kd.R_drew)); exact HO196.out) (Kd.R_base ho27) hb); have n3_ := am (Kd.R_elder' (by (with_reducible repeat (first | apply Kd.R_alloc | apply Kd.R_drewN | apply Kd.R_drew)); exact HO200.out) (Kd.R_base ho27) hb); have n4_ := am (Kd.R_lower (Kd.R_new' (Kd.R_new' (Kd.R_new' ho27 (Kd.R_lt (by (with_reducible repeat (first | apply Kd.R_alloc | apply Kd.R_drewN | apply Kd.R_drew)); exact HO187.out))) (Kd.R_lt (by (with_reducible repeat (first | apply Kd.R_alloc | apply Kd.R_drewN | apply Kd.R_drew)); exact HO196.out))) (Kd.R_lt (by (with_reducible repeat (first | apply Kd.R_alloc | apply Kd.R_drewN | apply Kd.R_drew)); exact HO200.out))) (below_size (by repeat (first | (with_reducible first | exact HB.out | apply below_alloc | apply pw_below_drewN | apply below_drew1 | refine below_set ?_ GE193.out | refine below_set ?_ GE197.out) | exact HB.out)))); have n5_ := am (blk_below (g := gb193) (o := .cells #[.slice Ao16 t185.length co16, .int .i64 t188] 24 (0, 0)) (by (with_reducible repeat (first | refine blk_drewN ?_ _ | refine blk_drew ?_ | refine blk_alloc ?_ _)); exact BK193.out) hb); have n6_ := am (blk_below (g := gb197) (o := .cells #[.slice Ao20 y194.length co20, .int .i64 1] 24 (0, 0)) (by (with_reducible repeat (first | refine blk_drewN ?_ _ | refine blk_drew ?_ | refine blk_alloc ?_ _)); exact BK197.out) hb); have n7_ := am (below_step (by repeat (first | (with_reducible first | exact HB.out | apply below_alloc | apply pw_below_drewN | apply below_drew1 | refine below_set ?_ GE193.out | refine below_set ?_ GE197.out) | exact HB.out)) hb); clear HO187; clear HO191; clear HO196; clear HO200; clear BK193; clear BK197; clear HB; have HO187 := n0_; have HO191 := n1_; have HO196 := n2_; have HO200 := n3_; have HO203 := n4_; have BK193 := n5_; have BK197 := n6_; have HB := n7_; clear n0_ n1_ n2_ n3_ n4_ n5_ n6_ n7_; clear hb ho27; obtain ⟨Ao28, co28, eo28⟩ := Kd.R_slice HO203.out; subst eo28; obtain ⟨Ao29, co29, eo29⟩ := Kd.R_slice HO200.out; subst eo29) | ((with_reducible refine gate_dst (N := 19) rfl ?_); refine Kd.N_lit k33 _ 33 ?hg (N' := 19) ?hd (xs := ([(⟨y198, y201⟩ : S33)] : List (S33))) (inner := [.slice Ao29 y198.length co29, .slice Ao28 y201.length co28]) (ok := (fun k_ => some k_ ≠ (.slice Ao16 t185.length co16 : Value).ownBlock ∧ some k_ ≠ (v190 : Value).ownBlock ∧ some k_ ≠ (.slice Ao20 y194.length co20 : Value).ownBlock ∧ k_ ≠ gb193 ∧ k_ ≠ gb197)) (okp := (fun k_ => some k_ ≠ (.slice Ao16 t185.length co16 : Value).ownBlock ∧ some k_ ≠ (v190 : Value).ownBlock ∧ some k_ ≠ (.slice Ao20 y194.length co20 : Value).ownBlock ∧ k_ ≠ gb193 ∧ k_ ≠ gb197)) ?hr ?hp (fun _ hk => hk) ((show ∀ k_, w26.heap.size ≤ k_ → (fun k_ => some k_ ≠ (.slice Ao16 t185.length co16 : Value).ownBlock ∧ some k_ ≠ (v190 : Value).ownBlock ∧ some k_ ≠ (.slice Ao20 y194.length co20 : Value).ownBlock ∧ k_ ≠ gb193 ∧ k_ ≠ gb197) k_ from fun k_ hk => ⟨Kd.fresh' (Kd.R_lt (by (with_reducible repeat (first | apply Kd.R_alloc | apply Kd.R_drewN | apply Kd.R_drew)); exact HO187.out)) k_ hk, Kd.fresh' (Kd.N_lt (by (with_reducible repeat (first | apply Kd.N_alloc | apply Kd.N_drewN | apply Kd.N_drew)); exact HO191.out)) k_ hk, Kd.fresh' (Kd.R_lt (by (with_reducible repeat (first | apply Kd.R_alloc | apply Kd.R_drewN | apply Kd.R_drew)); exact HO196.out)) k_ hk, Kd.freshB (g := gb193) (o := .cells #[.slice Ao16 t185.length co16, .int .i64 t188] 24 (0, 0)) (by (with_reducible repeat (first | refine blk_drewN ?_ _ | refine blk_drew ?_ | refine blk_alloc ?_ _)); exact BK193.out) k_ hk, Kd.freshB (g := gb197) (o := .cells #[.slice Ao20 y194.length co20, .int .i64 1] 24 (0, 0)) (by (with_reducible repeat (first | refine blk_drewN ?_ _ | refine blk_drew ?_ | refine blk_alloc ?_ _)); exact BK197.out) k_ hk⟩) _ (Nat.le_refl _)) (Below.refl _ _) (Nat.le_refl _) (by simp) ?_; (case hd => rfl); (case hg => rfl); (case hr => first | (go_simp; done) | (go_simp; rfl)); (case hp => exact (Reps.c2 (show Kd.FK k33 _ _ (⟨y198, y201⟩ : S33) [.slice Ao29 y198.length co29, .slice Ao28 y201.length co28] from (k33_mkF _ _ (⟨y198, y201⟩ : S33) (Kd.R_reads' (Kd.R_mono (ok' := (fun k_ => some k_ ≠ (.slice Ao16 t185.length co16 : Value).ownBlock ∧ some k_ ≠ (v190 : Value).ownBlock ∧ some k_ ≠ (.slice Ao20 y194.length co20 : Value).ownBlock ∧ k_ ≠ gb193 ∧ k_ ≠ gb197)) (Kd.R_types (Kd.R_types (Kd.R_apart' (HO200.out) (Kd.N_typed HO191.out) (by decide)) BK193.out (by decide)) BK197.out (by decide)) (fun k_ hk => ⟨hk.1.1.1.1.1.2, ⟨hk.1.1.2, ⟨hk.1.1.1.1.2, ⟨hk.1.2, hk.2⟩⟩⟩⟩))).2.1 (Kd.R_F (Kd.R_mono (ok' := (fun k_ => some k_ ≠ (.slice Ao16 t185.length co16 : Value).ownBlock ∧ some k_ ≠ (v190 : Value).ownBlock ∧ some k_ ≠ (.slice Ao20 y194.length co20 : Value).ownBlock ∧ k_ ≠ gb193 ∧ k_ ≠ gb197)) (Kd.R_types (Kd.R_types (Kd.R_apart' (HO200.out) (Kd.N_typed HO191.out) (by decide)) BK193.out (by decide)) BK197.out (by decide)) (fun k_ hk => ⟨hk.1.1.1.1.1.2, ⟨hk.1.1.2, ⟨hk.1.1.1.1.2, ⟨hk.1.2, hk.2⟩⟩⟩⟩))) (Kd.R_reads' (Kd.R_mono (ok' := (fun k_ => some k_ ≠ (.slice Ao16 t185.length co16 : Value).ownBlock ∧ some k_ ≠ (v190 : Value).ownBlock ∧ some k_ ≠ (.slice Ao20 y194.length co20 : Value).ownBlock ∧ k_ ≠ gb193 ∧ k_ ≠ gb197)) (Kd.R_types (Kd.R_types (Kd.R_apart' (HO203.out) (Kd.N_typed HO191.out) (by decide)) BK193.out (by decide)) BK197.out (by decide)) (fun k_ hk => ⟨hk.1.1.1.1.1.2, ⟨hk.1.1.2, ⟨hk.1.1.1.1.2, ⟨hk.1.2, hk.2⟩⟩⟩⟩))).2.1 (Kd.R_F (Kd.R_mono (ok' := (fun k_ => some k_ ≠ (.slice Ao16 t185.length co16 : Value).ownBlock ∧ some k_ ≠ (v190 : Value).ownBlock ∧ some k_ ≠ (.slice Ao20 y194.length co20 : Value).ownBlock ∧ k_ ≠ gb193 ∧ k_ ≠ gb197)) (Kd.R_types (Kd.R_types (Kd.R_apart' (HO203.out) (Kd.N_typed HO191.out) (by decide)) BK193.out (by decide)) BK197.out (by decide)) (fun k_ hk => ⟨hk.1.1.1.1.1.2, ⟨hk.1.1.2, ⟨hk.1.1.1.1.2, ⟨hk.1.2, hk.2⟩⟩⟩⟩))))) (Reps.none _ _))); intro v205 w30 ho31 hb hg_ hnew_; clear hg_ hnew_; (first | rw [← Ny204.out] at ho31 | (simp only [Int.reduceToNat] at ho31; rw [← Ny204.out] at ho31)); have n0_ := am (Kd.R_below (by (with_reducible repeat (first | apply Kd.R_alloc | apply Kd.R_drewN | apply Kd.R_drew)); exact HO187.out) hb); have n1_ := am (Kd.N_elder' (by (with_reducible repeat (first | apply Kd.N_alloc | apply Kd.N_drewN | apply Kd.N_drew)); exact HO191.out) (by first | exact Kd.N_base ho31 | exact Kd.S_base ho31 | exact Kd.R_base ho31) hb); have n2_ := am (Kd.R_below (by (with_reducible repeat (first | apply Kd.R_alloc | apply Kd.R_drewN | apply Kd.R_drew)); exact HO196.out) hb); have n3_ := am (Kd.N_lower ho31 (below_size (by repeat (first | (with_reducible first | exact HB.out | apply below_alloc | apply pw_below_drewN | apply below_drew1 | refine below_set ?_ GE193.out | refine below_set ?_ GE197.out) | exact HB.out)))); have n4_ := am (blk_below (g := gb193) (o := .cells #[.slice Ao16 t185.length co16, .int .i64 t188] 24 (0, 0)) (by (with_reducible repeat (first | refine blk_drewN ?_ _ | refine blk_drew ?_ | refine blk_alloc ?_ _)); exact BK193.out) hb); have n5_ := am (blk_below (g := gb197) (o := .cells #[.slice Ao20 y194.length co20, .int .i64 1] 24 (0, 0)) (by (with_reducible repeat (first | refine blk_drewN ?_ _ | refine blk_drew ?_ | refine blk_alloc ?_ _)); exact BK197.out) hb); have n6_ := am (below_step (by repeat (first | (with_reducible first | exact HB.out | apply below_alloc | apply pw_below_drewN | apply below_drew1 | refine below_set ?_ GE193.out | refine below_set ?_ GE197.out) | exact HB.out)) hb); clear HO187; clear HO191; clear HO196; clear BK193; clear BK197; clear HB; clear HO200; clear HO203; have HO187 := n0_; have HO191 := n1_; have HO196 := n2_; have HO206 := n3_; have BK193 := n4_; have BK197 := n5_; have HB := n6_; clear n0_ n1_ n2_ n3_ n4_ n5_ n6_; clear hb ho31; have hcz32_0 : w30.cell? ⟨gb197, 0, none⟩ = some (.slice Ao20 y194.length co20) := (blk_cell BK197.out 0).trans rfl; have hcz32_1 : w30.cell? ⟨gb197, 1, none⟩ = some (.int .i64 1) := (blk_cell BK197.out 1).trans rfl; have hfz32_0 := blk_frozen BK197.out 0; have hfz32_1 := blk_frozen BK197.out 1; obtain ⟨Ao33, co33, eo33⟩ := Kd.N_slice HO206.out; subst eo33) | ((with_reducible refine gate_callee (f := 22) rfl ?_); refine goesL_ (some 23) rfl rfl Try.func22 (by kernel_rfl) rfl #[.agg #[.slice Ao20 y194.length co20, .int .i64 1], .slice Ao33 y204.length co33] rfl (by (try simp only [List.map_toArray, List.map_cons, List.map_nil]); first | done | rfl | (simp only [List.length_drop, List.length_take]; rfl)) ?_; (with_reducible refine (rec_Encode.calls k _ _ y194 1 _ _ y204 t207 _ ?side1 ?side2 ?side3 ?side4 A2.out).mono ?_); (case side1 => repeat (first | exact (Kd.R_reads' HO196.out).2.2 | (with_reducible refine Kd.C_alloc ?_ _) | (with_reducible refine Kd.C_drewN ?_ _) | (with_reducible refine Kd.C_drew ?_))); (case side2 => exact (Kd.R_reads' HO196.out).2.1); (case side3 => repeat (first | exact (Kd.N_reads' HO206.out).2.2 | (with_reducible refine Kd.C_alloc ?_ _) | (with_reducible refine Kd.C_drewN ?_ _) | (with_reducible refine Kd.C_drew ?_))); (case side4 => exact (Kd.N_reads' HO206.out).2.1); rintro e w34 ⟨v208, rfl, ho0, hb⟩; refine ⟨_, rfl, ?_⟩; have n0_ := am (Kd.R_below (by (with_reducible repeat (first | apply Kd.R_alloc | apply Kd.R_drewN | apply Kd.R_drew)); exact HO187.out) hb); have n1_ := am (Kd.N_elder' (by (with_reducible repeat (first | apply Kd.N_alloc | apply Kd.N_drewN | apply Kd.N_drew)); exact HO191.out) (Kd.R_base ho0) hb); have n2_ := am (Kd.R_below (by (with_reducible repeat (first | apply Kd.R_alloc | apply Kd.R_drewN | apply Kd.R_drew)); exact HO196.out) hb); have n3_ := am (Kd.N_elder' (by (with_reducible repeat (first | apply Kd.N_alloc | apply Kd.N_drewN | apply Kd.N_drew)); exact HO206.out) (Kd.R_base ho0) hb); have n4_ := am (Kd.R_lower ho0 (below_size (by repeat (first | (with_reducible first | exact HB.out | apply below_alloc | apply pw_below_drewN | apply below_drew1 | refine below_set ?_ GE193.out | refine below_set ?_ GE197.out) | exact HB.out)))); have n5_ := am (blk_below (g := gb193) (o := .cells #[.slice Ao16 t185.length co16, .int .i64 t188] 24 (0, 0)) (by (with_reducible repeat (first | refine blk_drewN ?_ _ | refine blk_drew ?_ | refine blk_alloc ?_ _)); exact BK193.out) hb); have n6_ := am (blk_below (g := gb197) (o := .cells #[.slice Ao20 y194.length co20, .int .i64 1] 24 (0, 0)) (by (with_reducible repeat (first | refine blk_drewN ?_ _ | refine blk_drew ?_ | refine blk_alloc ?_ _)); exact BK197.out) hb); have n7_ := am (below_step (by repeat (first | (with_reducible first | exact HB.out | apply below_alloc | apply pw_below_drewN | apply below_drew1 | refine below_set ?_ GE193.out | refine below_set ?_ GE197.out) | exact HB.out)) hb); clear HO187; clear HO191; clear HO196; clear HO206; clear BK193; clear BK197; clear HB; have HO187 := n0_; have HO191 := n1_; have HO196 := n2_; have HO206 := n3_; have HO209 := n4_; have BK193 := n5_; have BK197 := n6_; have HB := n7_; clear n0_ n1_ n2_ n3_ n4_ n5_ n6_ n7_; (try clear hb); (try clear hb2); (try clear hk); (try clear hi); (try clear ho0); obtain ⟨Ao35, co35, eo35⟩ := Kd.R_slice HO209.out; subst eo35) | ((with_reducible refine gate_callee (f := 23) rfl ?_); refine goesL_ (some 24) rfl rfl Try.func23 (by kernel_rfl) rfl #[.slice Ao35 t207.length co35] rfl (by (try simp only [List.map_toArray, List.map_cons, List.map_nil]); first | done | rfl | (simp only [List.length_drop, List.length_take]; rfl)) ?_; (with_reducible refine (rec_Decode.calls _ _ t207 t210 t213 t214 t217 _ ?side1 ?side2 A3.out).mono ?_); (case side1 => repeat (first | exact (Kd.R_reads' HO209.out).2.2 | (with_reducible refine Kd.C_alloc ?_ _) | (with_reducible refine Kd.C_drewN ?_ _) | (with_reducible refine Kd.C_drew ?_))); (case side2 => exact (Kd.R_reads' HO209.out).2.1); rintro e w36 ⟨v211, v215, rfl, ho0, ho1, hb⟩; refine ⟨_, rfl, ?_⟩; have n0_ := am (Kd.R_elder' (by (with_reducible repeat (first | apply Kd.R_alloc | apply Kd.R_drewN | apply Kd.R_drew)); exact HO187.out) (Kd.R_base ho0) hb); have n1_ := am (Kd.N_mono (Kd.N_told (Kd.N_told (Kd.N_old (by (with_reducible repeat (first | apply Kd.N_alloc | apply Kd.N_drewN | apply Kd.N_drew)); exact HO191.out) hb) (Kd.R_base ho0)) (by first | exact Kd.N_base ho1 | exact Kd.S_base ho1 | exact Kd.R_base ho1)) (fun _ h_ => h_.1)); have n2_ := am (Kd.R_elder' (by (with_reducible repeat (first | apply Kd.R_alloc | apply Kd.R_drewN | apply Kd.R_drew)); exact HO196.out) (Kd.R_base ho0) hb); have n3_ := am (Kd.N_mono (Kd.N_told (Kd.N_told (Kd.N_old (by (with_reducible repeat (first | apply Kd.N_alloc | apply Kd.N_drewN | apply Kd.N_drew)); exact HO206.out) hb) (Kd.R_base ho0)) (by first | exact Kd.N_base ho1 | exact Kd.S_base ho1 | exact Kd.R_base ho1)) (fun _ h_ => h_.1)); have n4_ := am (Kd.R_below (by (with_reducible repeat (first | apply Kd.R_alloc | apply Kd.R_drewN | apply Kd.R_drew)); exact HO209.out) hb); have n5_ := am (Kd.R_lower (Kd.R_new' (Kd.R_new' ho0 (Kd.R_lt (by (with_reducible repeat (first | apply Kd.R_alloc | apply Kd.R_drewN | apply Kd.R_drew)); exact HO187.out))) (Kd.R_lt (by (with_reducible repeat (first | apply Kd.R_alloc | apply Kd.R_drewN | apply Kd.R_drew)); exact HO196.out))) (below_size (by repeat (first | (with_reducible first | exact HB.out | apply below_alloc | apply pw_below_drewN | apply below_drew1 | refine below_set ?_ GE193.out | refine below_set ?_ GE197.out) | exact HB.out)))); have n6_ := am (Kd.N_lower (Kd.N_mono (ok' := fun k_ => some k_ ≠ (v211 : Value).ownBlock ∧ some k_ ≠ (.slice Ao16 t185.length co16 : Value).ownBlock ∧ some k_ ≠ (v190 : Value).ownBlock ∧ some k_ ≠ (.slice Ao20 y194.length co20 : Value).ownBlock ∧ some k_ ≠ (.slice Ao33 y204.length co33 : Value).ownBlock ∧ some k_ ≠ (.slice Ao35 t207.length co35 : Value).ownBlock ∧ k_ ≠ gb193 ∧ k_ ≠ gb197) (Kd.S_N (Kd.S_bound ho1)) (fun k_ hk_ => ⟨hk_.1, (Kd.fresh' (Kd.R_lt (by (with_reducible repeat (first | apply Kd.R_alloc | apply Kd.R_drewN | apply Kd.R_drew)); exact HO187.out)) k_ hk_.2.1), (Kd.fresh' (Kd.N_lt (by (with_reducible repeat (first | apply Kd.N_alloc | apply Kd.N_drewN | apply Kd.N_drew)); exact HO191.out)) k_ hk_.2.1), (Kd.fresh' (Kd.R_lt (by (with_reducible repeat (first | apply Kd.R_alloc | apply Kd.R_drewN | apply Kd.R_drew)); exact HO196.out)) k_ hk_.2.1), (Kd.fresh' (Kd.N_lt (by (with_reducible repeat (first | apply Kd.N_alloc | apply Kd.N_drewN | apply Kd.N_drew)); exact HO206.out)) k_ hk_.2.1), (Kd.fresh' (Kd.R_lt (by (with_reducible repeat (first | apply Kd.R_alloc | apply Kd.R_drewN | apply Kd.R_drew)); exact HO209.out)) k_ hk_.2.1), (Kd.freshB (g := gb193) (o := .cells #[.slice Ao16 t185.length co16, .int .i64 t188] 24 (0, 0)) (by (with_reducible repeat (first | refine blk_drewN ?_ _ | refine blk_drew ?_ | refine blk_alloc ?_ _)); exact BK193.out) k_ hk_.2.1), (Kd.freshB (g := gb197) (o := .cells #[.slice Ao20 y194.length co20, .int .i64 1] 24 (0, 0)) (by (with_reducible repeat (first | refine blk_drewN ?_ _ | refine blk_drew ?_ | refine blk_alloc ?_ _)); exact BK197.out) k_ hk_.2.1)⟩)) (below_size (by repeat (first | (with_reducible first | exact HB.out | apply below_alloc | apply pw_below_drewN | apply below_drew1 | refine below_set ?_ GE193.out | refine below_set ?_ GE197.out) | exact HB.out)))); have n7_ := am (blk_below (g := gb193) (o := .cells #[.slice Ao16 t185.length co16, .int .i64 t188] 24 (0, 0)) (by (with_reducible repeat (first | refine blk_drewN ?_ _ | refine blk_drew ?_ | refine blk_alloc ?_ _)); exact BK193.out) hb); have n8_ := am (blk_below (g := gb197) (o := .cells #[.slice Ao20 y194.length co20, .int .i64 1] 24 (0, 0)) (by (with_reducible repeat (first | refine blk_drewN ?_ _ | refine blk_drew ?_ | refine blk_alloc ?_ _)); exact BK197.out) hb); have n9_ := am (below_step (by repeat (first | (with_reducible first | exact HB.out | apply below_alloc | apply pw_below_drewN | apply below_drew1 | refine below_set ?_ GE193.out | refine below_set ?_ GE197.out) | exact HB.out)) hb); clear HO187; clear HO191; clear HO196; clear HO206; clear HO209; clear BK193; clear BK197; clear HB; have HO187 := n0_; have HO191 := n1_; have HO196 := n2_; have HO206 := n3_; have HO209 := n4_; have HO212 := n5_; have HO216 := n6_; have BK193 := n7_; have BK197 := n8_; have HB := n9_; clear n0_ n1_ n2_ n3_ n4_ n5_ n6_ n7_ n8_ n9_; (try clear hb); (try clear hb2); (try clear hk); (try clear hi); (try clear ho0); (try clear ho1)) | ((with_reducible refine gate_dst (N := 6) rfl ?_); refine box_event ?hg (N := 6) ?hd (cs := #[.slice none 0 0, .int .i64 0]) (t := 24) ?hr ?_; (case hd => rfl); (case hg => rfl); (case hr => first | (go_simp; done) | (go_simp; rfl)); intro gb218 hg w37 hbox hb; have n0_ := am (Kd.R_below (by (with_reducible repeat (first | apply Kd.R_alloc | apply Kd.R_drewN | apply Kd.R_drew)); exact HO187.out) hb); have n1_ := am (Kd.N_below (Kd.N_elderB (by (with_reducible repeat (first | apply Kd.N_alloc | apply Kd.N_drewN | apply Kd.N_drew)); exact HO191.out) gb218 (Nat.le_of_eq hg.symm)) hb); have n2_ := am (Kd.R_below (by (with_reducible repeat (first | apply Kd.R_alloc | apply Kd.R_drewN | apply Kd.R_drew)); exact HO196.out) hb); have n3_ := am (Kd.N_below (Kd.N_elderB (by (with_reducible repeat (first | apply Kd.N_alloc | apply Kd.N_drewN | apply Kd.N_drew)); exact HO206.out) gb218 (Nat.le_of_eq hg.symm)) hb); have n4_ := am (Kd.R_below (by (with_reducible repeat (first | apply Kd.R_alloc | apply Kd.R_drewN | apply Kd.R_drew)); exact HO209.out) hb); have n5_ := am (Kd.R_below (by (with_reducible repeat (first | apply Kd.R_alloc | apply Kd.R_drewN | apply Kd.R_drew)); exact HO212.out) hb); have n6_ := am (Kd.N_below (Kd.N_elderB (by (with_reducible repeat (first | apply Kd.N_alloc | apply Kd.N_drewN | apply Kd.N_drew)); exact HO216.out) gb218 (Nat.le_of_eq hg.symm)) hb); have n7_ := am (blk_below (g := gb193) (o := .cells #[.slice Ao16 t185.length co16, .int .i64 t188] 24 (0, 0)) (by (with_reducible repeat (first | refine blk_drewN ?_ _ | refine blk_drew ?_ | refine blk_alloc ?_ _)); exact BK193.out) hb); have n8_ := am (blk_below (g := gb197) (o := .cells #[.slice Ao20 y194.length co20, .int .i64 1] 24 (0, 0)) (by (with_reducible repeat (first | refine blk_drewN ?_ _ | refine blk_drew ?_ | refine blk_alloc ?_ _)); exact BK197.out) hb); have n9_ := am (below_step (by repeat (first | (with_reducible first | exact HB.out | apply below_alloc | apply pw_below_drewN | apply below_drew1 | refine below_set ?_ GE193.out | refine below_set ?_ GE197.out) | exact HB.out)) hb); have n10_ := am (hbox); have n11_ := am ((by rw [hg]; exact (below_size (by repeat (first | (with_reducible first | exact HB.out | apply below_alloc | apply pw_below_drewN | apply below_drew1 | refine below_set ?_ GE193.out | refine below_set ?_ GE197.out) | exact HB.out))) : w.heap.size ≤ gb218)); have n12_ := am ((by rw [hg]; exact (below_size (by repeat (first | (with_reducible first | exact HB.out | apply below_alloc | apply pw_below_drewN | apply below_drew1 | refine below_set ?_ GE193.out | refine below_set ?_ GE197.out) | exact HB.out))) : w.heap.size ≤ gb218)); have n13_ := am ((by rw [hg]; exact Nat.ne_of_lt (blk_lt (g := gb193) (o := .cells #[.slice Ao16 t185.length co16, .int .i64 t188] 24 (0, 0)) (by (with_reducible repeat (first | refine blk_drewN ?_ _ | refine blk_drew ?_ | refine blk_alloc ?_ _)); exact BK193.out)) : gb193 ≠ gb218)); have n14_ := am ((by rw [hg]; exact Nat.ne_of_gt (blk_lt (g := gb193) (o := .cells #[.slice Ao16 t185.length co16, .int .i64 t188] 24 (0, 0)) (by (with_reducible repeat (first | refine blk_drewN ?_ _ | refine blk_drew ?_ | refine blk_alloc ?_ _)); exact BK193.out)) : gb218 ≠ gb193)); have n15_ := am ((by rw [hg]; exact Nat.ne_of_lt (blk_lt (g := gb197) (o := .cells #[.slice Ao20 y194.length co20, .int .i64 1] 24 (0, 0)) (by (with_reducible repeat (first | refine blk_drewN ?_ _ | refine blk_drew ?_ | refine blk_alloc ?_ _)); exact BK197.out)) : gb197 ≠ gb218)); have n16_ := am ((by rw [hg]; exact Nat.ne_of_gt (blk_lt (g := gb197) (o := .cells #[.slice Ao20 y194.length co20, .int .i64 1] 24 (0, 0)) (by (with_reducible repeat (first | refine blk_drewN ?_ _ | refine blk_drew ?_ | refine blk_alloc ?_ _)); exact BK197.out)) : gb218 ≠ gb197)); clear HO187; clear HO191; clear HO196; clear HO206; clear HO209; clear HO212; clear HO216; clear BK193; clear BK197; clear HB; have HO187 := n0_; have HO191 := n1_; have HO196 := n2_; have HO206 := n3_; have HO209 := n4_; have HO212 := n5_; have HO216 := n6_; have BK193 := n7_; have BK197 := n8_; have HB := n9_; have BK218 := n10_; have GW218 := n11_; have GE218 := n12_; have NB193_218 := n13_; have NB218_193 := n14_; have NB197_218 := n15_; have NB218_197 := n16_; clear n0_ n1_ n2_ n3_ n4_ n5_ n6_ n7_ n8_ n9_ n10_ n11_ n12_ n13_ n14_ n15_ n16_; clear hb hbox hg; obtain ⟨Ao38, co38, eo38⟩ := Kd.R_slice HO212.out; subst eo38; have hnb39 := NB218_193.out; have hnc39 := NB193_218.out; have hnb40 := NB218_197.out; have hnc40 := NB197_218.out; have hcz41_0 : w37.cell? ⟨gb218, 0, none⟩ = some (.slice none 0 0) := (blk_cell BK218.out 0).trans rfl; have hcz41_1 : w37.cell? ⟨gb218, 1, none⟩ = some (.int .i64 0) := (blk_cell BK218.out 1).trans rfl; have hfz41_0 := blk_frozen BK218.out 0; have hfz41_1 := blk_frozen BK218.out 1))
       have n0_ : Aside0 (Kd.R (Kd.int .i64) 3 ((w37.setCell ⟨gb218, 0, none⟩ (.slice Ao38 t210.length co38)).setCell ⟨gb218, 1, none⟩ (.int .i64 t213)) w.heap.size (fun k_ => some k_ ≠ (.slice Ao20 y194.length co20 : Value).ownBlock ∧ some k_ ≠ (.slice Ao38 t210.length co38 : Value).ownBlock) (.slice Ao16 t185.length co16) t185) := ⟨by (with_reducible repeat (first | apply Kd.R_alloc | apply Kd.R_drewN | apply Kd.R_drew)); exact Kd.R_mono (Kd.R_far (p := ⟨gb218, 1, none⟩) (Kd.R_far (p := ⟨gb218, 0, none⟩) (Kd.R_types HO187.out BK218.out (by decide)) (fun _ hk => hk.2) (.slice Ao38 t210.length co38)) (fun _ hk => hk.2) (.int .i64 t213)) (fun _ hk => ⟨hk.1.1.1.1.2, hk.1.2⟩)⟩
       have n1_ : Aside0 (Kd.N k33 33 ((w37.setCell ⟨gb218, 0, none⟩ (.slice Ao38 t210.length co38)).setCell ⟨gb218, 1, none⟩ (.int .i64 t213)) w.heap.size (fun k_ => some k_ ≠ (.slice Ao16 t185.length co16 : Value).ownBlock ∧ some k_ ≠ (.slice Ao20 y194.length co20 : Value).ownBlock ∧ some k_ ≠ (.slice Ao33 y204.length co33 : Value).ownBlock ∧ some k_ ≠ (.slice Ao35 t207.length co35 : Value).ownBlock ∧ some k_ ≠ (.slice Ao38 t210.length co38 : Value).ownBlock ∧ some k_ ≠ (v215 : Value).ownBlock ∧ k_ ≠ gb193 ∧ k_ ≠ gb197 ∧ k_ ≠ gb218) v190 t189) := ⟨by (with_reducible repeat (first | apply Kd.N_alloc | apply Kd.N_drewN | apply Kd.N_drew)); exact Kd.N_mono (Kd.N_far (p := ⟨gb218, 1, none⟩) (Kd.N_far (p := ⟨gb218, 0, none⟩) (Kd.N_mono HO191.out (fun k_ hk => (⟨hk, hk.2⟩ : _ ∧ k_ ≠ gb218))) (fun _ hk => hk.2) (.slice Ao38 t210.length co38)) (fun _ hk => hk.2) (.int .i64 t213)) (fun _ hk => ⟨hk.1.1.1.1.1.1.1.1.1.1.1, ⟨hk.1.1.1.1.1.1.1.1.1.2, ⟨hk.1.1.1.1.1.2, ⟨hk.1.1.1.1.2, ⟨hk.1.1.1.2, ⟨hk.1.1.2, ⟨hk.1.1.1.1.1.1.1.1.1.1.2, ⟨hk.1.1.1.1.1.1.1.1.2, hk.1.2⟩⟩⟩⟩⟩⟩⟩⟩)⟩
       have n2_ : Aside0 (Kd.R (Kd.int .i64) 3 ((w37.setCell ⟨gb218, 0, none⟩ (.slice Ao38 t210.length co38)).setCell ⟨gb218, 1, none⟩ (.int .i64 t213)) w.heap.size (fun k_ => some k_ ≠ (.slice Ao16 t185.length co16 : Value).ownBlock ∧ some k_ ≠ (.slice Ao38 t210.length co38 : Value).ownBlock) (.slice Ao20 y194.length co20) y194) := ⟨by (with_reducible repeat (first | apply Kd.R_alloc | apply Kd.R_drewN | apply Kd.R_drew)); exact Kd.R_mono (Kd.R_far (p := ⟨gb218, 1, none⟩) (Kd.R_far (p := ⟨gb218, 0, none⟩) (Kd.R_types HO196.out BK218.out (by decide)) (fun _ hk => hk.2) (.slice Ao38 t210.length co38)) (fun _ hk => hk.2) (.int .i64 t213)) (fun _ hk => ⟨hk.1.1.1.1.2, hk.1.2⟩)⟩
       have n3_ : Aside0 (Kd.N k33 33 ((w37.setCell ⟨gb218, 0, none⟩ (.slice Ao38 t210.length co38)).setCell ⟨gb218, 1, none⟩ (.int .i64 t213)) w.heap.size (fun k_ => some k_ ≠ (.slice Ao16 t185.length co16 : Value).ownBlock ∧ some k_ ≠ (v190 : Value).ownBlock ∧ some k_ ≠ (.slice Ao20 y194.length co20 : Value).ownBlock ∧ some k_ ≠ (.slice Ao35 t207.length co35 : Value).ownBlock ∧ some k_ ≠ (.slice Ao38 t210.length co38 : Value).ownBlock ∧ some k_ ≠ (v215 : Value).ownBlock ∧ k_ ≠ gb193 ∧ k_ ≠ gb197 ∧ k_ ≠ gb218) (.slice Ao33 y204.length co33) y204) := ⟨by (with_reducible repeat (first | apply Kd.N_alloc | apply Kd.N_drewN | apply Kd.N_drew)); exact Kd.N_mono (Kd.N_far (p := ⟨gb218, 1, none⟩) (Kd.N_far (p := ⟨gb218, 0, none⟩) (Kd.N_mono HO206.out (fun k_ hk => (⟨hk, hk.2⟩ : _ ∧ k_ ≠ gb218))) (fun _ hk => hk.2) (.slice Ao38 t210.length co38)) (fun _ hk => hk.2) (.int .i64 t213)) (fun _ hk => ⟨hk.1.1.1.1.1.1, ⟨hk.1.1.1.1.1.2.1, ⟨hk.1.1.1.1.1.2.2.1, ⟨hk.1.1.1.1.2, ⟨hk.1.1.1.2, ⟨hk.1.1.2, ⟨hk.1.1.1.1.1.2.2.2.1, ⟨hk.1.1.1.1.1.2.2.2.2, hk.1.2⟩⟩⟩⟩⟩⟩⟩⟩)⟩
       have n4_ : Aside0 (Kd.R (Kd.int .u8) 5 ((w37.setCell ⟨gb218, 0, none⟩ (.slice Ao38 t210.length co38)).setCell ⟨gb218, 1, none⟩ (.int .i64 t213)) w.heap.size (fun _ => True) (.slice Ao35 t207.length co35) t207) := ⟨by (with_reducible repeat (first | apply Kd.R_alloc | apply Kd.R_drewN | apply Kd.R_drew)); exact Kd.R_mono (Kd.R_far (p := ⟨gb218, 1, none⟩) (Kd.R_far (p := ⟨gb218, 0, none⟩) (Kd.R_types HO209.out BK218.out (by decide)) (fun _ hk => hk.2) (.slice Ao38 t210.length co38)) (fun _ hk => hk.2) (.int .i64 t213)) (fun _ hk => trivial)⟩
       have n5_ : Aside0 (Kd.R (Kd.int .i64) 3 ((w37.setCell ⟨gb218, 0, none⟩ (.slice Ao38 t210.length co38)).setCell ⟨gb218, 1, none⟩ (.int .i64 t213)) w.heap.size (fun k_ => some k_ ≠ (.slice Ao16 t185.length co16 : Value).ownBlock ∧ some k_ ≠ (.slice Ao20 y194.length co20 : Value).ownBlock) (.slice Ao38 t210.length co38) t210) := ⟨by (with_reducible repeat (first | apply Kd.R_alloc | apply Kd.R_drewN | apply Kd.R_drew)); exact Kd.R_mono (Kd.R_far (p := ⟨gb218, 1, none⟩) (Kd.R_far (p := ⟨gb218, 0, none⟩) (Kd.R_types HO212.out BK218.out (by decide)) (fun _ hk => hk.2) (.slice Ao38 t210.length co38)) (fun _ hk => hk.2) (.int .i64 t213)) (fun _ hk => ⟨hk.1.1.2, hk.1.2⟩)⟩
       have n6_ : Aside0 (Kd.N k33 33 ((w37.setCell ⟨gb218, 0, none⟩ (.slice Ao38 t210.length co38)).setCell ⟨gb218, 1, none⟩ (.int .i64 t213)) w.heap.size (fun k_ => some k_ ≠ (.slice Ao16 t185.length co16 : Value).ownBlock ∧ some k_ ≠ (v190 : Value).ownBlock ∧ some k_ ≠ (.slice Ao20 y194.length co20 : Value).ownBlock ∧ some k_ ≠ (.slice Ao33 y204.length co33 : Value).ownBlock ∧ some k_ ≠ (.slice Ao35 t207.length co35 : Value).ownBlock ∧ some k_ ≠ (.slice Ao38 t210.length co38 : Value).ownBlock ∧ k_ ≠ gb193 ∧ k_ ≠ gb197 ∧ k_ ≠ gb218) v215 t214) := ⟨by (with_reducible repeat (first | apply Kd.N_alloc | apply Kd.N_drewN | apply Kd.N_drew)); exact Kd.N_mono (Kd.N_far (p := ⟨gb218, 1, none⟩) (Kd.N_far (p := ⟨gb218, 0, none⟩) (Kd.N_mono HO216.out (fun k_ hk => (⟨hk, hk.2⟩ : _ ∧ k_ ≠ gb218))) (fun _ hk => hk.2) (.slice Ao38 t210.length co38)) (fun _ hk => hk.2) (.int .i64 t213)) (fun _ hk => ⟨hk.1.1.2.1, ⟨hk.1.1.2.2.1, ⟨hk.1.1.2.2.2.1, ⟨hk.1.1.2.2.2.2.1, ⟨hk.1.1.2.2.2.2.2.1, ⟨hk.1.1.1, ⟨hk.1.1.2.2.2.2.2.2.1, ⟨hk.1.1.2.2.2.2.2.2.2, hk.1.2⟩⟩⟩⟩⟩⟩⟩⟩)⟩
       have n7_ : Aside0 (((w37.setCell ⟨gb218, 0, none⟩ (.slice Ao38 t210.length co38)).setCell ⟨gb218, 1, none⟩ (.int .i64 t213)).heap[gb193]? = some (.cells #[.slice Ao16 t185.length co16, .int .i64 t188] 24 (0, 0))) := ⟨by (with_reducible repeat (first | refine blk_drewN ?_ _ | refine blk_drew ?_ | refine blk_alloc ?_ _)); refine blk_far ?_ NB193_218.out _; (with_reducible repeat (first | refine blk_drewN ?_ _ | refine blk_drew ?_ | refine blk_alloc ?_ _)); refine blk_far ?_ NB193_218.out _; (with_reducible repeat (first | refine blk_drewN ?_ _ | refine blk_drew ?_ | refine blk_alloc ?_ _)); exact BK193.out⟩
       have n8_ : Aside0 (((w37.setCell ⟨gb218, 0, none⟩ (.slice Ao38 t210.length co38)).setCell ⟨gb218, 1, none⟩ (.int .i64 t213)).heap[gb197]? = some (.cells #[.slice Ao20 y194.length co20, .int .i64 1] 24 (0, 0))) := ⟨by (with_reducible repeat (first | refine blk_drewN ?_ _ | refine blk_drew ?_ | refine blk_alloc ?_ _)); refine blk_far ?_ NB197_218.out _; (with_reducible repeat (first | refine blk_drewN ?_ _ | refine blk_drew ?_ | refine blk_alloc ?_ _)); refine blk_far ?_ NB197_218.out _; (with_reducible repeat (first | refine blk_drewN ?_ _ | refine blk_drew ?_ | refine blk_alloc ?_ _)); exact BK197.out⟩
       have n9_ : Aside0 (((w37.setCell ⟨gb218, 0, none⟩ (.slice Ao38 t210.length co38)).setCell ⟨gb218, 1, none⟩ (.int .i64 t213)).heap[gb218]? = some (.cells #[.slice Ao38 t210.length co38, .int .i64 t213] 24 (0, 0))) := ⟨by (with_reducible repeat (first | refine blk_drewN ?_ _ | refine blk_drew ?_ | refine blk_alloc ?_ _)); refine blk_put (cs := #[.slice Ao38 t210.length co38, .int .i64 0]) ?_ 1 _ rfl; (with_reducible repeat (first | refine blk_drewN ?_ _ | refine blk_drew ?_ | refine blk_alloc ?_ _)); refine blk_put (cs := #[.slice none 0 0, .int .i64 0]) ?_ 0 _ rfl; (with_reducible repeat (first | refine blk_drewN ?_ _ | refine blk_drew ?_ | refine blk_alloc ?_ _)); exact BK218.out⟩
       have n10_ : Aside0 (Below w.heap.size w ((w37.setCell ⟨gb218, 0, none⟩ (.slice Ao38 t210.length co38)).setCell ⟨gb218, 1, none⟩ (.int .i64 t213))) := ⟨by repeat (first | (with_reducible first | exact HB.out | apply below_alloc | apply pw_below_drewN | apply below_drew1 | refine below_set ?_ GE193.out | refine below_set ?_ GE197.out | refine below_set ?_ GE218.out) | exact HB.out)⟩
       (try clear HO187)
       (try clear HO191)
       (try clear HO196)
       (try clear HO206)
       (try clear HO209)
       (try clear HO212)
       (try clear HO216)
       (try clear BK193)
       (try clear BK197)
       (try clear BK218)
       (try clear HB)
       generalize ((w37.setCell ⟨gb218, 0, none⟩ (.slice Ao38 t210.length co38)).setCell ⟨gb218, 1, none⟩ (.int .i64 t213)) = w42 at n0_ n1_ n2_ n3_ n4_ n5_ n6_ n7_ n8_ n9_ n10_ ⊢
       have HO187 := n0_
       have HO191 := n1_
       have HO196 := n2_
       have HO206 := n3_
       have HO209 := n4_
       have HO212 := n5_
       have HO216 := n6_
       have BK193 := n7_
       have BK197 := n8_
       have BK218 := n9_
       have HB := n10_
       clear n0_ n1_ n2_ n3_ n4_ n5_ n6_ n7_ n8_ n9_ n10_
       have n0_ := am (Kd.R_drew HO187.out)
       have n1_ := am (Kd.N_drew HO191.out)
       have n2_ := am (Kd.R_drew HO196.out)
       have n3_ := am (Kd.N_drew HO206.out)
       have n4_ := am (Kd.R_drew HO209.out)
       have n5_ := am (Kd.R_drew HO212.out)
       have n6_ := am (Kd.N_drew HO216.out)
       have n7_ := am (blk_drew BK193.out)
       have n8_ := am (blk_drew BK197.out)
       have n9_ := am (blk_drew BK218.out)
       have n10_ := am (below_drew1 HB.out)
       clear HO187
       clear HO191
       clear HO196
       clear HO206
       clear HO209
       clear HO212
       clear HO216
       clear BK193
       clear BK197
       clear BK218
       clear HB
       have HO187 := n0_
       have HO191 := n1_
       have HO196 := n2_
       have HO206 := n3_
       have HO209 := n4_
       have HO212 := n5_
       have HO216 := n6_
       have BK193 := n7_
       have BK197 := n8_
       have BK218 := n9_
       have HB := n10_
       clear n0_ n1_ n2_ n3_ n4_ n5_ n6_ n7_ n8_ n9_ n10_
       obtain ⟨Ao44, co44, eo44⟩ := Kd.N_slice HO216.out
       (first | subst eo44 | (injection eo44 with f1_ f2_ f3_; have f4_ := f1_.symm; have f5_ := f3_.symm; clear f1_ f2_ f3_; subst f4_; subst f5_))
       have p221 : 0 ≤ (0 : Int) := (by omega)
       have q221 : 0 < (y204.length : Int) := of_decide_eq_true (by first | (with_reducible assumption) | assumption)
       obtain ⟨ad221, A221_0, c221_0, A221_1, c221_1, e221, hx221_0, hx221_1, hl221_0, hi221_0, hl221_1, hi221_1⟩ := at_T33 (Kd.N_reads' HO206.out).2.2 0 p221 q221
       cases e221
       obtain ⟨ce221, hce221, hMe221, hcc221⟩ := Kd.N_get HO206.out z33 0 p221 (by first | exact q221 | exact of_decide_eq_true (by first | (with_reducible assumption) | assumption) | (have e_ := (Kd.N_reads' HO206.out).1; omega))
       obtain ⟨ua221_0, uc221_0, ua221_1, uc221_1, rfl, ul221_0, ge221_0, ul221_1, ge221_1⟩ := k33_openF hMe221
       have hv221_0 := hcc221 0 _ rfl
       rw [Nat.add_zero] at hv221_0
       replace hv221_0 := Option.some.inj (hv221_0.symm.trans hx221_0)
       injection hv221_0 with hva_ hvn_ hvc_
       rw [hva_] at ge221_0
       rw [hvc_] at ul221_0
       have HL221_0 := am (show Kd.V (Kd.int .i64) 3 _ w.heap.size _ _ ((rd_T33 y204 0).f0) from Kd.V_mk ul221_0 ge221_0)
       clear hva_ hvn_ hvc_ ge221_0 ul221_0
       have hv221_1 := hcc221 1 _ rfl
       rw [add_field _ _ 1 (by omega)] at hv221_1
       replace hv221_1 := Option.some.inj (hv221_1.symm.trans hx221_1)
       injection hv221_1 with hva_ hvn_ hvc_
       rw [hva_] at ge221_1
       rw [hvc_] at ul221_1
       have HL221_1 := am (show Kd.V (Kd.int .i64) 3 _ w.heap.size _ _ ((rd_T33 y204 0).f1) from Kd.V_mk ul221_1 ge221_1)
       clear hva_ hvn_ hvc_ ge221_1 ul221_1
       clear hcc221 hce221
       have qi221 : (0 < y204.length) = True := eq_true (by omega)
       (try rw [show ((0 : Int)).toNat = 0 from rfl] at hx221_0)
       (try rw [show 0 * 2 = 0 from rfl] at hx221_0)
       (try rw [Addr.add_zero'] at hx221_0)
       (try rw [show ((0 : Int)).toNat = 0 from rfl] at hx221_1)
       (try rw [show 0 * 2 = 0 from rfl] at hx221_1)
       (try rw [Addr.add_zero'] at hx221_1)
       have HR221_0 := am hi221_0
       have HC221_0 := am hl221_0
       clear hi221_0 hl221_0
       have HR221_1 := am hi221_1
       have HC221_1 := am hl221_1
       clear hi221_1 hl221_1
       replace p221 := eq_true p221
       replace q221 := eq_true q221
       refine start_ (n := 30) (S := fun w' => w'.cell? ⟨gb197, 0, none⟩ = some (.slice Ao20 y194.length co20) ∧ w'.cell? ⟨gb197, 1, none⟩ = some (.int .i64 1) ∧ w'.cell? ⟨gb218, 0, none⟩ = some (.slice Ao38 t210.length co38) ∧ w'.cell? ⟨gb218, 1, none⟩ = some (.int .i64 t213) ∧ w'.cell? ad221 = some (.slice A221_0 ((rd_T33 y204 0).f0).length c221_0) ∧ w'.cell? ⟨ad221.block, ad221.off + 1, none⟩ = some (.slice A221_1 ((rd_T33 y204 0).f1).length c221_1)) (ds := []) (bb 30 0) (by kernel_rfl) rfl rfl ⟨(blk_cell BK197.out 0).trans rfl, (blk_cell BK197.out 1).trans rfl, (blk_cell BK218.out 0).trans rfl, (blk_cell BK218.out 1).trans rfl, hx221_0, hx221_1⟩ (fun hHeld => ?_); refine with_tabW hypercubelaw1_known.tab5 hypercubelaw1_known.bits5 (fun HT_ HW_ => ?_)
       generalize w42.drew = w43 at HO187 HO191 HO196 HO206 HO209 HO212 HO216 BK193 BK197 BK218 HB HL221_0 HL221_1 HR221_0 HR221_1 hx221_0 hx221_1 hHeld ⊢
       refine pure_ (i := 0) (N := some 28) (v := ?_) (a' := ?_) (bb 30 1) rfl rfl (any_of HT_.out (by kernel_rfl)) (fun _ _ _ h => h) (Or.inl ⟨by rfl, ?_⟩) ?_ ?_
       rotate_left
       ·intro w'
        go_simp
        with_reducible rfl
       rotate_left
       ·simp only [Act.put, List.setIfInBounds_toArray, List.set_cons_zero, List.set_cons_succ, i64_w, i32_w]
        rfl
       refine pure_ (i := 1) (N := some 29) (v := ?_) (a' := ?_) (bb 30 3) rfl rfl (any_of HT_.out (by kernel_rfl)) (fun _ _ _ h => h) (Or.inl ⟨by rfl, ?_⟩) ?_ ?_
       rotate_left
       ·intro w'
        go_simp
        with_reducible rfl
       rotate_left
       ·simp only [Act.put, List.setIfInBounds_toArray, List.set_cons_zero, List.set_cons_succ, i64_w, i32_w]
        rfl
       refine pure_ (i := 2) (N := some 30) (v := ?_) (a' := ?_) (bb 30 7) rfl rfl (any_of HT_.out (by kernel_rfl)) (fun _ _ _ h => h) (Or.inl ⟨by rfl, ?_⟩) ?_ ?_
       rotate_left
       ·intro w'
        go_simp
        with_reducible rfl
       rotate_left
       ·simp only [Act.put, List.setIfInBounds_toArray, List.set_cons_zero, List.set_cons_succ, i64_w, i32_w]
        rfl
       refine pure_ (i := 3) (N := some 31) (v := ?_) (a' := ?_) (bb 30 15) rfl rfl (any_of HT_.out (by kernel_rfl)) (fun _ _ _ h => h) (Or.inl ⟨by rfl, ?_⟩) ?_ ?_
       rotate_left
       ·intro w'
        go_simp
        with_reducible rfl
       rotate_left
       ·simp only [Act.put, List.setIfInBounds_toArray, List.set_cons_zero, List.set_cons_succ, i64_w, i32_w]
        rfl
       refine pure_ (i := 4) (N := some 32) (v := ?_) (a' := ?_) (bb 30 31) rfl rfl (any_of HT_.out (by kernel_rfl)) (fun _ _ _ h => h) (Or.inl ⟨by rfl, ?_⟩) ?_ ?_
       rotate_left
       ·intro w'
        go_simp
        with_reducible rfl
       rotate_left
       ·simp only [Act.put, List.setIfInBounds_toArray, List.set_cons_zero, List.set_cons_succ, i64_w, i32_w]
        rfl
       refine pure_ (i := 5) (N := some 33) (v := ?_) (a' := ?_) (bb 30 63) rfl rfl (any_of HT_.out (by kernel_rfl)) (fun _ _ _ h => h) (Or.inl ⟨by rfl, ?_⟩) ?_ ?_
       rotate_left
       ·intro w'
        go_simp
        with_reducible rfl
       rotate_left
       ·simp only [Act.put, List.setIfInBounds_toArray, List.set_cons_zero, List.set_cons_succ, i64_w, i32_w]
        rfl
       refine pure_ (i := 6) (N := some 34) (v := ?_) (a' := ?_) (bb 30 127) rfl rfl (any_of HT_.out (by kernel_rfl)) (fun _ _ _ h => h) (Or.inl ⟨by rfl, ?_⟩) ?_ ?_
       rotate_left
       ·intro w'
        go_simp
        with_reducible rfl
       rotate_left
       ·simp only [Act.put, List.setIfInBounds_toArray, List.set_cons_zero, List.set_cons_succ, i64_w, i32_w]
        rfl
       refine pure_ (i := 8) (N := some 36) (v := ?_) (a' := ?_) (bb 30 383) rfl rfl (any_of HT_.out (by kernel_rfl)) (fun _ _ _ h => h) (Or.inl ⟨by rfl, ?_⟩) ?_ ?_
       rotate_left
       ·intro w'
        go_simp
        with_reducible rfl
       rotate_left
       ·simp only [Act.put, List.setIfInBounds_toArray, List.set_cons_zero, List.set_cons_succ, i64_w, i32_w]
        rfl
       refine pure_ (i := 10) (N := some 38) (v := ?_) (a' := ?_) (bb 30 1407) rfl rfl (any_of HT_.out (by kernel_rfl)) (fun _ _ _ h => h) (Or.inl ⟨by rfl, ?_⟩) ?_ ?_
       rotate_left
       ·intro w'
        go_simp
        with_reducible rfl
       rotate_left
       ·simp only [Act.put, List.setIfInBounds_toArray, List.set_cons_zero, List.set_cons_succ, i64_w, i32_w]
        rfl
       refine take_ (i := 7) (N := some 35) (v := ?_) (a' := ?_) (bb 30 1535) rfl rfl (take_ofW HT_.out HW_.out (by kernel_rfl)) (fun _ _ _ h => h) (Or.inl ⟨by rfl, ?_⟩) hHeld ?_ ?_
       rotate_left
       ·rintro w' ⟨s0, s1, s2, s3, s4, s5⟩
        go_simp
        with_reducible rfl
       rotate_left
       ·simp only [Act.put, List.setIfInBounds_toArray, List.set_cons_zero, List.set_cons_succ, i64_w, i32_w]
        rfl
       refine take_ (i := 9) (N := some 37) (v := ?_) (a' := ?_) (bb 30 2047) rfl rfl (take_ofW HT_.out HW_.out (by kernel_rfl)) (fun _ _ _ h => h) (Or.inl ⟨by rfl, ?_⟩) hHeld ?_ ?_
       rotate_left
       ·rintro w' ⟨s0, s1, s2, s3, s4, s5⟩
        go_simp
        with_reducible rfl
       rotate_left
       ·simp only [Act.put, List.setIfInBounds_toArray, List.set_cons_zero, List.set_cons_succ, i64_w, i32_w]
        rfl
       refine one_ (i := 11) (N := some 39) (bb 30 4095) rfl rfl (one_of HT_.out (by kernel_rfl)) (by decide) (fun K hK => ?_)
       refine goes_ Try.func25 (by kernel_rfl) rfl #[.agg #[.slice Ao20 y194.length co20, .int .i64 1], .slice (some ad221) y204.length co33, .agg #[.slice Ao38 t210.length co38, .int .i64 t213], .slice Ao44 t214.length co44] (by rfl) rfl rfl (by (try simp only [List.map_toArray, List.map_cons, List.map_nil]); first | done | rfl | (simp only [List.length_drop, List.length_take]; rfl)) ?_
       with_reducible refine (hypercuberef1_Same.calls k _ _ y194 1 _ _ y204 _ _ t210 t213 _ _ t214 true _ ?side1 ?side2 ?side3 ?side4 ?side5 ?side6 ?side7 ?side8 A6.out).mono ?_
       (case side1 => repeat (first | exact (Kd.R_reads' HO196.out).2.2 | (with_reducible refine Kd.C_alloc ?_ _) | (with_reducible refine Kd.C_drewN ?_ _) | (with_reducible refine Kd.C_drew ?_)))
       (case side2 => exact (Kd.R_reads' HO196.out).2.1)
       (case side3 => repeat (first | exact (Kd.N_reads' HO206.out).2.2 | (with_reducible refine Kd.C_alloc ?_ _) | (with_reducible refine Kd.C_drewN ?_ _) | (with_reducible refine Kd.C_drew ?_)))
       (case side4 => exact (Kd.N_reads' HO206.out).2.1)
       (case side5 => repeat (first | exact (Kd.R_reads' HO212.out).2.2 | (with_reducible refine Kd.C_alloc ?_ _) | (with_reducible refine Kd.C_drewN ?_ _) | (with_reducible refine Kd.C_drew ?_)))
       (case side6 => exact (Kd.R_reads' HO212.out).2.1)
       (case side7 => repeat (first | exact (Kd.N_reads' HO216.out).2.2 | (with_reducible refine Kd.C_alloc ?_ _) | (with_reducible refine Kd.C_drewN ?_ _) | (with_reducible refine Kd.C_drew ?_)))
       (case side8 => exact (Kd.N_reads' HO216.out).2.1)
       rintro e w45 ⟨rfl, hb⟩
       have mv0_ := am (Kd.V_below (by (with_reducible repeat (first | apply Kd.V_alloc | apply Kd.V_drewN | apply Kd.V_drew)); exact HL221_0.out) hb)
       have mv1_ := am (Kd.V_below (by (with_reducible repeat (first | apply Kd.V_alloc | apply Kd.V_drewN | apply Kd.V_drew)); exact HL221_1.out) hb)
       have mv2_ := am (Kd.C_below (by repeat (first | (with_reducible exact HR221_0.out) | (with_reducible refine Kd.C_alloc ?_ _) | (with_reducible refine Kd.C_drewN ?_ _) | (with_reducible refine Kd.C_drew ?_) | exact HR221_0.out)) hb)
       have mv3_ := am (Kd.C_below (by repeat (first | (with_reducible exact HR221_1.out) | (with_reducible refine Kd.C_alloc ?_ _) | (with_reducible refine Kd.C_drewN ?_ _) | (with_reducible refine Kd.C_drew ?_) | exact HR221_1.out)) hb)
       clear HL221_0 HL221_1 HR221_0 HR221_1
       have HL221_0 := mv0_
       have HL221_1 := mv1_
       have HR221_0 := mv2_
       have HR221_1 := mv3_
       clear mv0_ mv1_ mv2_ mv3_
       have HS4_ := (hb.cell (World.block_lt_of_cell? _ _ (hHeld.2.2.2.2.1))).trans (hHeld.2.2.2.2.1)
       have HS5_ := (hb.cell (World.block_lt_of_cell? _ _ (hHeld.2.2.2.2.2))).trans (hHeld.2.2.2.2.2)
       refine ⟨_, rfl, ?_⟩
       have n0_ := am (Kd.R_below (by (with_reducible repeat (first | apply Kd.R_alloc | apply Kd.R_drewN | apply Kd.R_drew)); exact HO187.out) hb)
       have n1_ := am (Kd.N_below (by (with_reducible repeat (first | apply Kd.N_alloc | apply Kd.N_drewN | apply Kd.N_drew)); exact HO191.out) hb)
       have n2_ := am (Kd.R_below (by (with_reducible repeat (first | apply Kd.R_alloc | apply Kd.R_drewN | apply Kd.R_drew)); exact HO196.out) hb)
       have n3_ := am (Kd.N_below (by (with_reducible repeat (first | apply Kd.N_alloc | apply Kd.N_drewN | apply Kd.N_drew)); exact HO206.out) hb)
       have n4_ := am (Kd.R_below (by (with_reducible repeat (first | apply Kd.R_alloc | apply Kd.R_drewN | apply Kd.R_drew)); exact HO209.out) hb)
       have n5_ := am (Kd.R_below (by (with_reducible repeat (first | apply Kd.R_alloc | apply Kd.R_drewN | apply Kd.R_drew)); exact HO212.out) hb)
       have n6_ := am (Kd.N_below (by (with_reducible repeat (first | apply Kd.N_alloc | apply Kd.N_drewN | apply Kd.N_drew)); exact HO216.out) hb)
       have n7_ := am (blk_below (g := gb193) (o := .cells #[.slice Ao16 t185.length co16, .int .i64 t188] 24 (0, 0)) (by (with_reducible repeat (first | refine blk_drewN ?_ _ | refine blk_drew ?_ | refine blk_alloc ?_ _)); exact BK193.out) hb)
       have n8_ := am (blk_below (g := gb197) (o := .cells #[.slice Ao20 y194.length co20, .int .i64 1] 24 (0, 0)) (by (with_reducible repeat (first | refine blk_drewN ?_ _ | refine blk_drew ?_ | refine blk_alloc ?_ _)); exact BK197.out) hb)
       have n9_ := am (blk_below (g := gb218) (o := .cells #[.slice Ao38 t210.length co38, .int .i64 t213] 24 (0, 0)) (by (with_reducible repeat (first | refine blk_drewN ?_ _ | refine blk_drew ?_ | refine blk_alloc ?_ _)); exact BK218.out) hb)
       have n10_ := am (below_step (by repeat (first | (with_reducible first | exact HB.out | apply below_alloc | apply pw_below_drewN | apply below_drew1 | refine below_set ?_ GE193.out | refine below_set ?_ GE197.out | refine below_set ?_ GE218.out) | exact HB.out)) hb)
       clear HO187
       clear HO191
       clear HO196
       clear HO206
       clear HO209
       clear HO212
       clear HO216
       clear BK193
       clear BK197
       clear BK218
       clear HB
       have HO187 := n0_
       have HO191 := n1_
       have HO196 := n2_
       have HO206 := n3_
       have HO209 := n4_
       have HO212 := n5_
       have HO216 := n6_
       have BK193 := n7_
       have BK197 := n8_
       have BK218 := n9_
       have HB := n10_
       clear n0_ n1_ n2_ n3_ n4_ n5_ n6_ n7_ n8_ n9_ n10_
       (try clear hb)
       (try clear hb2)
       (try clear hk)
       (try clear hi)
       refine hK.out _ _ ⟨(blk_cell BK197.out 0).trans rfl, (blk_cell BK197.out 1).trans rfl, (blk_cell BK218.out 0).trans rfl, (blk_cell BK218.out 1).trans rfl, HS4_, HS5_⟩ (fun hHeld => ?_)
       clear hK K
       refine norm_ (a' := ?_) ?_ ?_
       rotate_left
       ·show Act.put _ (some 39) _ = _
        simp only [Act.put, List.setIfInBounds_toArray, List.set_cons_zero, List.set_cons_succ, i64_w, i32_w]
        rfl
       refine pure_ (i := 12) (N := some 40) (v := ?_) (a' := ?_) (bb 30 8191) rfl rfl (any_of HT_.out (by kernel_rfl)) (fun _ _ _ h => h) (Or.inl ⟨by rfl, ?_⟩) ?_ ?_
       rotate_left
       ·intro w'
        go_simp
        with_reducible rfl
       rotate_left
       ·simp only [Act.put, List.setIfInBounds_toArray, List.set_cons_zero, List.set_cons_succ, i64_w, i32_w]
        rfl
       refine pure_ (i := 13) (N := some 41) (v := ?_) (a' := ?_) (bb 30 16383) rfl rfl (any_of HT_.out (by kernel_rfl)) (fun _ _ _ h => h) (Or.inl ⟨by rfl, ?_⟩) ?_ ?_
       rotate_left
       ·intro w'
        go_simp
        with_reducible rfl
       rotate_left
       ·simp only [Act.put, List.setIfInBounds_toArray, List.set_cons_zero, List.set_cons_succ, i64_w, i32_w]
        rfl
       refine take_ (i := 14) (N := some 42) (v := ?_) (a' := ?_) (bb 30 32767) rfl rfl (take_ofW HT_.out HW_.out (by kernel_rfl)) (fun _ _ _ h => h) (Or.inl ⟨by rfl, ?_⟩) hHeld ?_ ?_
       rotate_left
       ·rintro w' ⟨s0, s1, s2, s3, s4, s5⟩
        go_simp
        with_reducible rfl
       rotate_left
       ·simp only [Act.put, List.setIfInBounds_toArray, List.set_cons_zero, List.set_cons_succ, i64_w, i32_w]
        rfl
       refine one_ (i := 15) (N := some 43) (bb 30 65535) rfl rfl (one_of HT_.out (by kernel_rfl)) (by decide) (fun K hK => ?_)
       refine goes_ Try.func17 (by kernel_rfl) rfl #[.agg #[.slice Ao20 y194.length co20, .int .i64 1]] (by rfl) rfl rfl (by (try simp only [List.map_toArray, List.map_cons, List.map_nil]); first | done | rfl | (simp only [List.length_drop, List.length_take]; rfl)) ?_
       with_reducible refine (rec_Check.calls _ _ y194 1 true _ ?side1 ?side2 A8.out).mono ?_
       (case side1 => repeat (first | exact (Kd.R_reads' HO196.out).2.2 | (with_reducible refine Kd.C_alloc ?_ _) | (with_reducible refine Kd.C_drewN ?_ _) | (with_reducible refine Kd.C_drew ?_)))
       (case side2 => exact (Kd.R_reads' HO196.out).2.1)
       rintro e w46 ⟨rfl, hb⟩
       have mv0_ := am (Kd.V_below (by (with_reducible repeat (first | apply Kd.V_alloc | apply Kd.V_drewN | apply Kd.V_drew)); exact HL221_0.out) hb)
       have mv1_ := am (Kd.V_below (by (with_reducible repeat (first | apply Kd.V_alloc | apply Kd.V_drewN | apply Kd.V_drew)); exact HL221_1.out) hb)
       have mv2_ := am (Kd.C_below (by repeat (first | (with_reducible exact HR221_0.out) | (with_reducible refine Kd.C_alloc ?_ _) | (with_reducible refine Kd.C_drewN ?_ _) | (with_reducible refine Kd.C_drew ?_) | exact HR221_0.out)) hb)
       have mv3_ := am (Kd.C_below (by repeat (first | (with_reducible exact HR221_1.out) | (with_reducible refine Kd.C_alloc ?_ _) | (with_reducible refine Kd.C_drewN ?_ _) | (with_reducible refine Kd.C_drew ?_) | exact HR221_1.out)) hb)
       clear HL221_0 HL221_1 HR221_0 HR221_1
       have HL221_0 := mv0_
       have HL221_1 := mv1_
       have HR221_0 := mv2_
       have HR221_1 := mv3_
       clear mv0_ mv1_ mv2_ mv3_
       have HS4_ := (hb.cell (World.block_lt_of_cell? _ _ (hHeld.2.2.2.2.1))).trans (hHeld.2.2.2.2.1)
       have HS5_ := (hb.cell (World.block_lt_of_cell? _ _ (hHeld.2.2.2.2.2))).trans (hHeld.2.2.2.2.2)
       refine ⟨_, rfl, ?_⟩
       have n0_ := am (Kd.R_below (by (with_reducible repeat (first | apply Kd.R_alloc | apply Kd.R_drewN | apply Kd.R_drew)); exact HO187.out) hb)
       have n1_ := am (Kd.N_below (by (with_reducible repeat (first | apply Kd.N_alloc | apply Kd.N_drewN | apply Kd.N_drew)); exact HO191.out) hb)
       have n2_ := am (Kd.R_below (by (with_reducible repeat (first | apply Kd.R_alloc | apply Kd.R_drewN | apply Kd.R_drew)); exact HO196.out) hb)
       have n3_ := am (Kd.N_below (by (with_reducible repeat (first | apply Kd.N_alloc | apply Kd.N_drewN | apply Kd.N_drew)); exact HO206.out) hb)
       have n4_ := am (Kd.R_below (by (with_reducible repeat (first | apply Kd.R_alloc | apply Kd.R_drewN | apply Kd.R_drew)); exact HO209.out) hb)
       have n5_ := am (Kd.R_below (by (with_reducible repeat (first | apply Kd.R_alloc | apply Kd.R_drewN | apply Kd.R_drew)); exact HO212.out) hb)
       have n6_ := am (Kd.N_below (by (with_reducible repeat (first | apply Kd.N_alloc | apply Kd.N_drewN | apply Kd.N_drew)); exact HO216.out) hb)
       have n7_ := am (blk_below (g := gb193) (o := .cells #[.slice Ao16 t185.length co16, .int .i64 t188] 24 (0, 0)) (by (with_reducible repeat (first | refine blk_drewN ?_ _ | refine blk_drew ?_ | refine blk_alloc ?_ _)); exact BK193.out) hb)
       have n8_ := am (blk_below (g := gb197) (o := .cells #[.slice Ao20 y194.length co20, .int .i64 1] 24 (0, 0)) (by (with_reducible repeat (first | refine blk_drewN ?_ _ | refine blk_drew ?_ | refine blk_alloc ?_ _)); exact BK197.out) hb)
       have n9_ := am (blk_below (g := gb218) (o := .cells #[.slice Ao38 t210.length co38, .int .i64 t213] 24 (0, 0)) (by (with_reducible repeat (first | refine blk_drewN ?_ _ | refine blk_drew ?_ | refine blk_alloc ?_ _)); exact BK218.out) hb)
       have n10_ := am (below_step (by repeat (first | (with_reducible first | exact HB.out | apply below_alloc | apply pw_below_drewN | apply below_drew1 | refine below_set ?_ GE193.out | refine below_set ?_ GE197.out | refine below_set ?_ GE218.out) | exact HB.out)) hb)
       clear HO187
       clear HO191
       clear HO196
       clear HO206
       clear HO209
       clear HO212
       clear HO216
       clear BK193
       clear BK197
       clear BK218
       clear HB
       have HO187 := n0_
       have HO191 := n1_
       have HO196 := n2_
       have HO206 := n3_
       have HO209 := n4_
       have HO212 := n5_
       have HO216 := n6_
       have BK193 := n7_
       have BK197 := n8_
       have BK218 := n9_
       have HB := n10_
       clear n0_ n1_ n2_ n3_ n4_ n5_ n6_ n7_ n8_ n9_ n10_
       (try clear hb)
       (try clear hb2)
       (try clear hk)
       (try clear hi)
       refine hK.out _ _ ⟨(blk_cell BK197.out 0).trans rfl, (blk_cell BK197.out 1).trans rfl, (blk_cell BK218.out 0).trans rfl, (blk_cell BK218.out 1).trans rfl, HS4_, HS5_⟩ (fun hHeld => ?_)
       clear hK K
       refine norm_ (a' := ?_) ?_ ?_
       rotate_left
       ·show Act.put _ (some 43) _ = _
        simp only [Act.put, List.setIfInBounds_toArray, List.set_cons_zero, List.set_cons_succ, i64_w, i32_w]
        rfl
       refine pure_ (i := 16) (N := some 44) (v := ?_) (a' := ?_) (bb 30 131071) rfl rfl (any_of HT_.out (by kernel_rfl)) (fun _ _ _ h => h) (Or.inl ⟨by rfl, ?_⟩) ?_ ?_
       rotate_left
       ·intro w'
        go_simp
        with_reducible rfl
       rotate_left
       ·simp only [Act.put, List.setIfInBounds_toArray, List.set_cons_zero, List.set_cons_succ, i64_w, i32_w]
        rfl
       refine pure_ (i := 17) (N := some 45) (v := ?_) (a' := ?_) (bb 30 262143) rfl rfl (any_of HT_.out (by kernel_rfl)) (fun _ _ _ h => h) (Or.inl ⟨by rfl, ?_⟩) ?_ ?_
       rotate_left
       ·intro w'
        go_simp
        with_reducible rfl
       rotate_left
       ·simp only [Act.put, List.setIfInBounds_toArray, List.set_cons_zero, List.set_cons_succ, i64_w, i32_w]
        rfl
       refine pure_ (i := 19) (N := some 47) (v := ?_) (a' := ?_) (bb 30 786431) rfl rfl (any_of HT_.out (by kernel_rfl)) (fun _ _ _ h => h) (Or.inl ⟨by rfl, ?_⟩) ?_ ?_
       rotate_left
       ·intro w'
        go_simp
        with_reducible rfl
       rotate_left
       ·simp only [Act.put, List.setIfInBounds_toArray, List.set_cons_zero, List.set_cons_succ, i64_w, i32_w]
        rfl
       refine pure_ (i := 20) (N := some 48) (v := ?_) (a' := ?_) (bb 30 1835007) rfl rfl (any_of HT_.out (by kernel_rfl)) (fun _ _ _ h => h) (Or.inl ⟨by rfl, ?_⟩) ?_ ?_
       rotate_left
       ·intro w'
        go_simp
        with_reducible rfl
       rotate_left
       ·simp only [Act.put, List.setIfInBounds_toArray, List.set_cons_zero, List.set_cons_succ, i64_w, i32_w]
        rfl
       refine take_ (i := 18) (N := some 46) (v := ?_) (a' := ?_) (bb 30 2097151) rfl rfl (take_ofW HT_.out HW_.out (by kernel_rfl)) (fun _ _ _ h => h) (Or.inl ⟨by rfl, ?_⟩) hHeld ?_ ?_
       rotate_left
       ·rintro w' ⟨s0, s1, s2, s3, s4, s5⟩
        go_simp
        with_reducible rfl
       rotate_left
       ·simp only [Act.put, List.setIfInBounds_toArray, List.set_cons_zero, List.set_cons_succ, i64_w, i32_w]
        rfl
       refine take_ (i := 21) (N := some 49) (v := ?_) (a' := ?_) (bb 30 4194303) rfl rfl (take_ofW HT_.out HW_.out (by kernel_rfl)) (fun _ _ _ h => h) (Or.inl ⟨by rfl, ?_⟩) hHeld ?_ ?_
       rotate_left
       ·rintro w' ⟨s0, s1, s2, s3, s4, s5⟩
        go_simp
        with_reducible rfl
       rotate_left
       ·simp only [Act.put, List.setIfInBounds_toArray, List.set_cons_zero, List.set_cons_succ, i64_w, i32_w]
        rfl
       refine one_ (i := 22) (N := some 50) (bb 30 8388607) rfl rfl (one_of HT_.out (by kernel_rfl)) (by decide) (fun K hK => ?_)
       refine goes_ Try.func19 (by kernel_rfl) rfl #[.agg #[.slice Ao20 y194.length co20, .int .i64 1], .agg #[.slice A221_0 ((rd_T33 y204 0).f0).length c221_0, .slice A221_1 ((rd_T33 y204 0).f1).length c221_1]] (by rfl) rfl rfl (by (try simp only [List.map_toArray, List.map_cons, List.map_nil]); first | done | rfl | (simp only [List.length_drop, List.length_take]; rfl)) ?_
       with_reducible refine (rec_Right.calls k _ _ y194 1 _ _ ((rd_T33 y204 0).f0) _ _ ((rd_T33 y204 0).f1) true _ ?side1 ?side2 ?side3 ?side4 ?side5 ?side6 A11.out).mono ?_
       (case side1 => repeat (first | exact (Kd.R_reads' HO196.out).2.2 | (with_reducible refine Kd.C_alloc ?_ _) | (with_reducible refine Kd.C_drewN ?_ _) | (with_reducible refine Kd.C_drew ?_)))
       (case side2 => exact (Kd.R_reads' HO196.out).2.1)
       (case side3 => repeat (first | exact (by repeat (first | (with_reducible exact HR221_0.out) | (with_reducible refine Kd.C_alloc ?_ _) | (with_reducible refine Kd.C_drewN ?_ _) | (with_reducible refine Kd.C_drew ?_) | exact HR221_0.out)) | (with_reducible refine Kd.C_alloc ?_ _) | (with_reducible refine Kd.C_drewN ?_ _) | (with_reducible refine Kd.C_drew ?_)))
       (case side4 => exact HC221_0.out)
       (case side5 => repeat (first | exact (by repeat (first | (with_reducible exact HR221_1.out) | (with_reducible refine Kd.C_alloc ?_ _) | (with_reducible refine Kd.C_drewN ?_ _) | (with_reducible refine Kd.C_drew ?_) | exact HR221_1.out)) | (with_reducible refine Kd.C_alloc ?_ _) | (with_reducible refine Kd.C_drewN ?_ _) | (with_reducible refine Kd.C_drew ?_)))
       (case side6 => exact HC221_1.out)
       rintro e w47 ⟨rfl, hb⟩
       have HS4_ := (hb.cell (World.block_lt_of_cell? _ _ (hHeld.2.2.2.2.1))).trans (hHeld.2.2.2.2.1)
       have HS5_ := (hb.cell (World.block_lt_of_cell? _ _ (hHeld.2.2.2.2.2))).trans (hHeld.2.2.2.2.2)
       refine ⟨_, rfl, ?_⟩
       have n0_ := am (Kd.R_below (by (with_reducible repeat (first | apply Kd.R_alloc | apply Kd.R_drewN | apply Kd.R_drew)); exact HO187.out) hb)
       have n1_ := am (Kd.N_below (by (with_reducible repeat (first | apply Kd.N_alloc | apply Kd.N_drewN | apply Kd.N_drew)); exact HO191.out) hb)
       have n2_ := am (Kd.R_below (by (with_reducible repeat (first | apply Kd.R_alloc | apply Kd.R_drewN | apply Kd.R_drew)); exact HO196.out) hb)
       have n3_ := am (Kd.N_below (by (with_reducible repeat (first | apply Kd.N_alloc | apply Kd.N_drewN | apply Kd.N_drew)); exact HO206.out) hb)
       have n4_ := am (Kd.R_below (by (with_reducible repeat (first | apply Kd.R_alloc | apply Kd.R_drewN | apply Kd.R_drew)); exact HO209.out) hb)
       have n5_ := am (Kd.R_below (by (with_reducible repeat (first | apply Kd.R_alloc | apply Kd.R_drewN | apply Kd.R_drew)); exact HO212.out) hb)
       have n6_ := am (Kd.N_below (by (with_reducible repeat (first | apply Kd.N_alloc | apply Kd.N_drewN | apply Kd.N_drew)); exact HO216.out) hb)
       have n7_ := am (Kd.V_below (by (with_reducible repeat (first | apply Kd.V_alloc | apply Kd.V_drewN | apply Kd.V_drew)); exact HL221_0.out) hb)
       have n8_ := am (Kd.V_below (by (with_reducible repeat (first | apply Kd.V_alloc | apply Kd.V_drewN | apply Kd.V_drew)); exact HL221_1.out) hb)
       have n9_ := am (blk_below (g := gb193) (o := .cells #[.slice Ao16 t185.length co16, .int .i64 t188] 24 (0, 0)) (by (with_reducible repeat (first | refine blk_drewN ?_ _ | refine blk_drew ?_ | refine blk_alloc ?_ _)); exact BK193.out) hb)
       have n10_ := am (blk_below (g := gb197) (o := .cells #[.slice Ao20 y194.length co20, .int .i64 1] 24 (0, 0)) (by (with_reducible repeat (first | refine blk_drewN ?_ _ | refine blk_drew ?_ | refine blk_alloc ?_ _)); exact BK197.out) hb)
       have n11_ := am (blk_below (g := gb218) (o := .cells #[.slice Ao38 t210.length co38, .int .i64 t213] 24 (0, 0)) (by (with_reducible repeat (first | refine blk_drewN ?_ _ | refine blk_drew ?_ | refine blk_alloc ?_ _)); exact BK218.out) hb)
       have n12_ := am (Kd.C_below (by repeat (first | (with_reducible exact HR221_0.out) | (with_reducible refine Kd.C_alloc ?_ _) | (with_reducible refine Kd.C_drewN ?_ _) | (with_reducible refine Kd.C_drew ?_) | exact HR221_0.out)) hb)
       have n13_ := am (Kd.C_below (by repeat (first | (with_reducible exact HR221_1.out) | (with_reducible refine Kd.C_alloc ?_ _) | (with_reducible refine Kd.C_drewN ?_ _) | (with_reducible refine Kd.C_drew ?_) | exact HR221_1.out)) hb)
       have n14_ := am (below_step (by repeat (first | (with_reducible first | exact HB.out | apply below_alloc | apply pw_below_drewN | apply below_drew1 | refine below_set ?_ GE193.out | refine below_set ?_ GE197.out | refine below_set ?_ GE218.out) | exact HB.out)) hb)
       clear HO187
       clear HO191
       clear HO196
       clear HO206
       clear HO209
       clear HO212
       clear HO216
       clear HL221_0
       clear HL221_1
       clear BK193
       clear BK197
       clear BK218
       clear HR221_0
       clear HR221_1
       clear HB
       have HO187 := n0_
       have HO191 := n1_
       have HO196 := n2_
       have HO206 := n3_
       have HO209 := n4_
       have HO212 := n5_
       have HO216 := n6_
       have HL221_0 := n7_
       have HL221_1 := n8_
       have BK193 := n9_
       have BK197 := n10_
       have BK218 := n11_
       have HR221_0 := n12_
       have HR221_1 := n13_
       have HB := n14_
       clear n0_ n1_ n2_ n3_ n4_ n5_ n6_ n7_ n8_ n9_ n10_ n11_ n12_ n13_ n14_
       (try clear hb)
       (try clear hb2)
       (try clear hk)
       (try clear hi)
       refine hK.out _ _ ⟨(blk_cell BK197.out 0).trans rfl, (blk_cell BK197.out 1).trans rfl, (blk_cell BK218.out 0).trans rfl, (blk_cell BK218.out 1).trans rfl, HS4_, HS5_⟩ (fun hHeld => ?_)
       clear hK K
       refine norm_ (a' := ?_) ?_ ?_
       rotate_left
       ·show Act.put _ (some 50) _ = _
        simp only [Act.put, List.setIfInBounds_toArray, List.set_cons_zero, List.set_cons_succ, i64_w, i32_w]
        rfl
       refine pure_ (i := 23) (N := some 51) (v := ?_) (a' := ?_) (bb 30 16777215) rfl rfl (any_of HT_.out (by kernel_rfl)) (fun _ _ _ h => h) (Or.inl ⟨by rfl, ?_⟩) ?_ ?_
       rotate_left
       ·intro w'
        go_simp
        with_reducible rfl
       rotate_left
       ·simp only [Act.put, List.setIfInBounds_toArray, List.set_cons_zero, List.set_cons_succ, i64_w, i32_w]
        rfl
       refine pure_ (i := 24) (N := some 52) (v := ?_) (a' := ?_) (bb 30 33554431) rfl rfl (any_of HT_.out (by kernel_rfl)) (fun _ _ _ h => h) (Or.inl ⟨by rfl, ?_⟩) ?_ ?_
       rotate_left
       ·intro w'
        go_simp
        with_reducible rfl
       rotate_left
       ·simp only [Act.put, List.setIfInBounds_toArray, List.set_cons_zero, List.set_cons_succ, i64_w, i32_w]
        rfl
       refine pure_ (i := 26) (N := some 54) (v := ?_) (a' := ?_) (bb 30 100663295) rfl rfl (any_of HT_.out (by kernel_rfl)) (fun _ _ _ h => h) (Or.inl ⟨by rfl, ?_⟩) ?_ ?_
       rotate_left
       ·intro w'
        go_simp
        with_reducible rfl
       rotate_left
       ·simp only [Act.put, List.setIfInBounds_toArray, List.set_cons_zero, List.set_cons_succ, i64_w, i32_w]
        rfl
       refine take_ (i := 25) (N := some 53) (v := ?_) (a' := ?_) (bb 30 134217727) rfl rfl (take_ofW HT_.out HW_.out (by kernel_rfl)) (fun _ _ _ h => h) (Or.inl ⟨by rfl, ?_⟩) hHeld ?_ ?_
       rotate_left
       ·rintro w' ⟨s0, s1, s2, s3, s4, s5⟩
        go_simp
        with_reducible rfl
       rotate_left
       ·simp only [Act.put, List.setIfInBounds_toArray, List.set_cons_zero, List.set_cons_succ, i64_w, i32_w]
        rfl
       refine one_ (i := 27) (N := some 55) (bb 30 268435455) rfl rfl (one_of HT_.out (by kernel_rfl)) (by decide) (fun K hK => ?_)
       refine goes_ Try.func27 (by kernel_rfl) rfl #[.agg #[.slice Ao20 y194.length co20, .int .i64 1], .slice (some ad221) y204.length co33] (by rfl) rfl rfl (by (try simp only [List.map_toArray, List.map_cons, List.map_nil]); first | done | rfl | (simp only [List.length_drop, List.length_take]; rfl)) ?_
       with_reducible refine (rec_Sound.calls k _ _ y194 1 _ _ y204 t223 _ ?side1 ?side2 ?side3 ?side4 A13.out).mono ?_
       (case side1 => repeat (first | exact (Kd.R_reads' HO196.out).2.2 | (with_reducible refine Kd.C_alloc ?_ _) | (with_reducible refine Kd.C_drewN ?_ _) | (with_reducible refine Kd.C_drew ?_)))
       (case side2 => exact (Kd.R_reads' HO196.out).2.1)
       (case side3 => repeat (first | exact (Kd.N_reads' HO206.out).2.2 | (with_reducible refine Kd.C_alloc ?_ _) | (with_reducible refine Kd.C_drewN ?_ _) | (with_reducible refine Kd.C_drew ?_)))
       (case side4 => exact (Kd.N_reads' HO206.out).2.1)
       rintro e w48 ⟨rfl, hb⟩
       have HS4_ := (hb.cell (World.block_lt_of_cell? _ _ (hHeld.2.2.2.2.1))).trans (hHeld.2.2.2.2.1)
       have HS5_ := (hb.cell (World.block_lt_of_cell? _ _ (hHeld.2.2.2.2.2))).trans (hHeld.2.2.2.2.2)
       refine ⟨_, rfl, ?_⟩
       have n0_ := am (Kd.R_below (by (with_reducible repeat (first | apply Kd.R_alloc | apply Kd.R_drewN | apply Kd.R_drew)); exact HO187.out) hb)
       have n1_ := am (Kd.N_below (by (with_reducible repeat (first | apply Kd.N_alloc | apply Kd.N_drewN | apply Kd.N_drew)); exact HO191.out) hb)
       have n2_ := am (Kd.R_below (by (with_reducible repeat (first | apply Kd.R_alloc | apply Kd.R_drewN | apply Kd.R_drew)); exact HO196.out) hb)
       have n3_ := am (Kd.N_below (by (with_reducible repeat (first | apply Kd.N_alloc | apply Kd.N_drewN | apply Kd.N_drew)); exact HO206.out) hb)
       have n4_ := am (Kd.R_below (by (with_reducible repeat (first | apply Kd.R_alloc | apply Kd.R_drewN | apply Kd.R_drew)); exact HO209.out) hb)
       have n5_ := am (Kd.R_below (by (with_reducible repeat (first | apply Kd.R_alloc | apply Kd.R_drewN | apply Kd.R_drew)); exact HO212.out) hb)
       have n6_ := am (Kd.N_below (by (with_reducible repeat (first | apply Kd.N_alloc | apply Kd.N_drewN | apply Kd.N_drew)); exact HO216.out) hb)
       have n7_ := am (Kd.V_below (by (with_reducible repeat (first | apply Kd.V_alloc | apply Kd.V_drewN | apply Kd.V_drew)); exact HL221_0.out) hb)
       have n8_ := am (Kd.V_below (by (with_reducible repeat (first | apply Kd.V_alloc | apply Kd.V_drewN | apply Kd.V_drew)); exact HL221_1.out) hb)
       have n9_ := am (blk_below (g := gb193) (o := .cells #[.slice Ao16 t185.length co16, .int .i64 t188] 24 (0, 0)) (by (with_reducible repeat (first | refine blk_drewN ?_ _ | refine blk_drew ?_ | refine blk_alloc ?_ _)); exact BK193.out) hb)
       have n10_ := am (blk_below (g := gb197) (o := .cells #[.slice Ao20 y194.length co20, .int .i64 1] 24 (0, 0)) (by (with_reducible repeat (first | refine blk_drewN ?_ _ | refine blk_drew ?_ | refine blk_alloc ?_ _)); exact BK197.out) hb)
       have n11_ := am (blk_below (g := gb218) (o := .cells #[.slice Ao38 t210.length co38, .int .i64 t213] 24 (0, 0)) (by (with_reducible repeat (first | refine blk_drewN ?_ _ | refine blk_drew ?_ | refine blk_alloc ?_ _)); exact BK218.out) hb)
       have n12_ := am (Kd.C_below (by repeat (first | (with_reducible exact HR221_0.out) | (with_reducible refine Kd.C_alloc ?_ _) | (with_reducible refine Kd.C_drewN ?_ _) | (with_reducible refine Kd.C_drew ?_) | exact HR221_0.out)) hb)
       have n13_ := am (Kd.C_below (by repeat (first | (with_reducible exact HR221_1.out) | (with_reducible refine Kd.C_alloc ?_ _) | (with_reducible refine Kd.C_drewN ?_ _) | (with_reducible refine Kd.C_drew ?_) | exact HR221_1.out)) hb)
       have n14_ := am (below_step (by repeat (first | (with_reducible first | exact HB.out | apply below_alloc | apply pw_below_drewN | apply below_drew1 | refine below_set ?_ GE193.out | refine below_set ?_ GE197.out | refine below_set ?_ GE218.out) | exact HB.out)) hb)
       clear HO187
       clear HO191
       clear HO196
       clear HO206
       clear HO209
       clear HO212
       clear HO216
       clear HL221_0
       clear HL221_1
       clear BK193
       clear BK197
       clear BK218
       clear HR221_0
       clear HR221_1
       clear HB
       have HO187 := n0_
       have HO191 := n1_
       have HO196 := n2_
       have HO206 := n3_
       have HO209 := n4_
       have HO212 := n5_
       have HO216 := n6_
       have HL221_0 := n7_
       have HL221_1 := n8_
       have BK193 := n9_
       have BK197 := n10_
       have BK218 := n11_
       have HR221_0 := n12_
       have HR221_1 := n13_
       have HB := n14_
       clear n0_ n1_ n2_ n3_ n4_ n5_ n6_ n7_ n8_ n9_ n10_ n11_ n12_ n13_ n14_
       (try clear hb)
       (try clear hb2)
       (try clear hk)
       (try clear hi)
       refine hK.out _ _ ⟨(blk_cell BK197.out 0).trans rfl, (blk_cell BK197.out 1).trans rfl, (blk_cell BK218.out 0).trans rfl, (blk_cell BK218.out 1).trans rfl, HS4_, HS5_⟩ (fun hHeld => ?_)
       clear hK K
       refine norm_ (a' := ?_) ?_ ?_
       rotate_left
       ·show Act.put _ (some 55) _ = _
        simp only [Act.put, List.setIfInBounds_toArray, List.set_cons_zero, List.set_cons_succ, i64_w, i32_w]
        rfl
       refine pure_ (i := 28) (N := some 56) (v := ?_) (a' := ?_) (bb 30 536870911) rfl rfl (any_of HT_.out (by kernel_rfl)) (fun _ _ _ h => h) (Or.inl ⟨by rfl, ?_⟩) ?_ ?_
       rotate_left
       ·intro w'
        go_simp
        with_reducible rfl
       rotate_left
       ·simp only [Act.put, List.setIfInBounds_toArray, List.set_cons_zero, List.set_cons_succ, i64_w, i32_w]
        rfl
       refine pure_ (i := 29) (N := some 0) (v := ?_) (a' := ?_) (bb 30 1073741823) rfl rfl (any_of HT_.out (by kernel_rfl)) (fun _ _ _ h => h) (Or.inl ⟨by rfl, ?_⟩) ?_ ?_
       rotate_left
       ·intro w'
        go_simp
        with_reducible rfl
       rotate_left
       ·simp only [Act.put, List.setIfInBounds_toArray, List.set_cons_zero, List.set_cons_succ, i64_w, i32_w]
        rfl
       refine done_ (done_of HT_.out (by kernel_rfl)) ?_
       try go_wp2
       go_ret
       exact ⟨by first | rfl | (simp [errW_none, errW_some] <;> rfl) | (simp [*, errW_none, errW_some] <;> rfl), by repeat (first | (with_reducible first | exact HB.out | apply below_alloc | apply pw_below_drewN | apply below_drew1 | refine below_set ?_ GE193.out | refine below_set ?_ GE197.out | refine below_set ?_ GE218.out) | exact HB.out)⟩
      ·replace c12 := Bool.eq_false_iff.mpr c12
       subst c12
       have H1 : (none) = some r := by rw [if_neg (show ¬ (false = true) by decide)] at H; exact H
       clear H
       have H := H1
       clear H1
       exact absurd H (by simp)
     ·rw [if_neg c10] at H
      exact absurd H (by simp)
    ·replace c9 := Bool.eq_false_iff.mpr c9
     subst c9
     have H1 : (none) = some r := by rw [if_neg (show ¬ (false = true) by decide)] at H; exact H
     clear H
     have H := H1
     clear H1
     exact absurd H (by simp)
   ·replace c7 := Bool.eq_false_iff.mpr c7
    subst c7
    have H1 : (none) = some r := by rw [if_neg (show ¬ (false = true) by decide)] at H; exact H
    clear H
    have H := H1
    clear H1
    exact absurd H (by simp)
  ·rw [if_neg c5] at H
   exact absurd H (by simp)
 ·rw [if_neg c4] at H
  exact absurd H (by simp)
end Go.Proofs.Ytlacfpbfnedgdaa.Q
namespace Go.Proofs.Ytlacfpbfnedgdaa.Q
open Go.RowKit Go.Proofs.YtlacfpbfnedgdaaW.PrintWords Go.Proofs.YtlacfpbfnedgdaaW.PrintLast Go.Proofs.YtlacfpbfnedgdaaW.PrintMore
set_option linter.unusedVariables false
set_option linter.unusedSimpArgs false
theorem known_40 : hypercubelaw1_known.f 60 = some true := by decide +kernel
theorem known_ev : Ev (fun k => hypercubelaw1_known.f k) true := Ev.of hypercubelaw1_known.mono known_40
def eight (x : Int) : List Int := [x / 72057594037927936 % 256, x / 281474976710656 % 256, x / 1099511627776 % 256, x / 4294967296 % 256, x / 16777216 % 256, x / 65536 % 256, x / 256 % 256, x % 256]
theorem eight_length (x : Int) : (eight x).length = 8 := rfl
theorem or_byte (q c : Int) (h0 : 0 ≤ c) (h1 : c < 256) (h2 : -9223372036854775808 ≤ q * 256) (h3 : q * 256 ≤ 9223372036854775552) : Go.bits .or .i64 (q * 256) c = q * 256 + c := by
 unfold Go.bits
 simp only []
 have hb : IntKind.i64.bits = 64 := rfl
 have key : ((BitVec.ofInt 64 (q * 256)) ||| (BitVec.ofInt 64 c)).toNat = ((q * 256) % 18446744073709551616 + c).toNat := by
  rw [BitVec.toNat_or, BitVec.toNat_ofInt, BitVec.toNat_ofInt]
  have e1 : (c % ((2 ^ 64 : Nat) : Int)).toNat = c.toNat := by
   have : c % ((2 ^ 64 : Nat) : Int) = c := Int.emod_eq_of_lt h0 (by have : ((2 ^ 64 : Nat) : Int) = 18446744073709551616 := rfl; omega)
   rw [this]
  have e2 : ((q * 256) % ((2 ^ 64 : Nat) : Int)).toNat = 2 ^ 8 * (((q * 256) % 18446744073709551616) / 256).toNat := by
   have : ((2 ^ 64 : Nat) : Int) = 18446744073709551616 := rfl
   rw [this]; omega
  rw [e1, e2, ← Nat.two_pow_add_eq_or_of_lt (by omega : c.toNat < 2 ^ 8)]
  omega
 show IntKind.i64.wrap ((((BitVec.ofInt 64 (q * 256)) ||| (BitVec.ofInt 64 c)).toNat : Int)) = _
 rw [key]
 have hw : ∀ n : Int, IntKind.i64.wrap n = wrap64 n := fun n => by
  unfold IntKind.wrap wrap64
  have hs : IntKind.i64.signed = true := rfl
  simp only [hb, hs, Bool.true_and]
  split
  ·rename_i h; have := of_decide_eq_true h; omega
  ·rename_i h; have := of_decide_eq_false (Bool.eq_false_iff.2 h); omega
 rw [hw]
 unfold wrap64
 omega
theorem numOf_step (y c : Int) (h0 : 0 ≤ c) (h1 : c < 256) : Go.bits .or .i64 (wrap64 (y * 256)) (wrap64 c) = wrap64 (y * 256 + c) := by
 have e : wrap64 (y * 256) = ((y + 36028797018963968) % 72057594037927936 - 36028797018963968) * 256 := by unfold wrap64; omega
 rw [e, w64 (x := c) (by omega) (by omega), or_byte _ _ h0 h1 (by omega) (by omega)]
 unfold wrap64
 omega
theorem numOf_eight (x : Int) (h0 : -9223372036854775808 ≤ x) (h1 : x ≤ 9223372036854775807) : numOf (eight x) = x := by
 have hb : ∀ y : Int, 0 ≤ y % 256 ∧ y % 256 < 256 := fun y => ⟨by omega, by omega⟩
 unfold numOf eight
 simp only [List.foldl_cons, List.foldl_nil]
 rw [numOf_step _ _ (hb _).1 (hb _).2, numOf_step _ _ (hb _).1 (hb _).2, numOf_step _ _ (hb _).1 (hb _).2, numOf_step _ _ (hb _).1 (hb _).2, numOf_step _ _ (hb _).1 (hb _).2, numOf_step _ _ (hb _).1 (hb _).2, numOf_step _ _ (hb _).1 (hb _).2, numOf_step _ _ (hb _).1 (hb _).2]
 unfold wrap64
 omega
theorem small_ev (l : List Int) (hn : l.length ≤ 1000000000) (d : Nat) : ∀ (i : Nat) (b : List Int), l.length - i = d → i ≤ l.length → b.length ≤ 10000000000 →
  b.length + d ≤ 10000000000 → Ev (fun k => rec_small.l0 k b l (l.length : Int) (i : Int)) (b ++ (l.drop i).map (· % 256)) := by
 induction d with
 | zero =>
  intro i b hd hi hb hb2
  rw [List.drop_eq_nil_of_le (by omega), List.map_nil, List.append_nil]
  exact Ev.step (fun k => by simp only [rec_small.l0]; rw [if_neg (by omega)]) (Ev.now _)
 | succ d ih =>
  intro i b hd hi hb hb2
  have ha : i < l.length := by omega
  rw [drop_cons ha, List.map_cons]
  have := ih (i + 1) (b ++ [l[i] % 256]) (by omega) (by omega) (by simp; omega) (by simp; omega)
  rw [List.append_assoc] at this
  exact Ev.step (fun k => by simp only [rec_small.l0]; rw [if_pos (by omega), if_pos (by omega), if_pos (by omega), if_pos (by omega), rd_get ha, w64s ha (by omega)]) this
theorem small_f (b l : List Int) (hn : l.length ≤ 1000000000) (hb : b.length ≤ 1000000000) : Ev (fun k => rec_small.f k b l) (b ++ l.map (· % 256)) := by
 have := small_ev l hn l.length 0 b (by omega) (by omega) (by omega) (by omega)
 exact this
theorem shr64 (x : Int) (n : Nat) (h : n ≤ 64) : shr .i64 x (n : Int) = x / 2 ^ n := by
 unfold shr
 rw [Int.toNat_natCast, Nat.min_eq_left (by exact h)]
theorem great_eight (x : Int) (l : List Int) (n j : Int) (b : List Int) (hb : b.length ≤ 10000000000) {r : List Int} (h : Ev (fun k => rec_great.l0 k (b ++ eight x) l n (wrap64 (j + 1))) r) : Ev (fun k => rec_great.l1 k b x 56 l n j) r := by
 have e : b ++ eight x = ((((((((b ++ [shr .i64 x 56 % 256]) ++ [shr .i64 x 48 % 256]) ++ [shr .i64 x 40 % 256]) ++ [shr .i64 x 32 % 256]) ++ [shr .i64 x 24 % 256]) ++ [shr .i64 x 16 % 256]) ++ [shr .i64 x 8 % 256]) ++ [shr .i64 x 0 % 256]) := by
  have s56 := shr64 x 56 (by decide +kernel); have s48 := shr64 x 48 (by decide +kernel); have s40 := shr64 x 40 (by decide +kernel); have s32 := shr64 x 32 (by decide +kernel)
  have s24 := shr64 x 24 (by decide +kernel); have s16 := shr64 x 16 (by decide +kernel); have s8 := shr64 x 8 (by decide +kernel); have s0 := shr64 x 0 (by decide +kernel)
  rw [show shr .i64 x 56 = _ from s56, show shr .i64 x 48 = _ from s48, show shr .i64 x 40 = _ from s40, show shr .i64 x 32 = _ from s32, show shr .i64 x 24 = _ from s24, show shr .i64 x 16 = _ from s16, show shr .i64 x 8 = _ from s8, show shr .i64 x 0 = _ from s0]
  simp [eight]
 rw [e] at h
 have st : ∀ (c : List Int) (q q' : Int), 0 ≤ q → wrap64 (q - 8) = q' → c.length ≤ 10000001000 → Ev (fun k => rec_great.l1 k (c ++ [shr .i64 x q % 256]) x q' l n j) r → Ev (fun k => rec_great.l1 k c x q l n j) r := by
  intro c q q' h0 hq hc hr
  exact Ev.step (fun k => by simp only [rec_great.l1]; rw [if_pos (by omega), if_pos h0, if_pos (by omega), hq]) hr
 refine st _ 56 48 (by decide +kernel) (by decide +kernel) (by omega) (st _ 48 40 (by decide +kernel) (by decide +kernel) (by simp; omega) (st _ 40 32 (by decide +kernel) (by decide +kernel) (by simp; omega) (st _ 32 24 (by decide +kernel) (by decide +kernel) (by simp; omega)
  (st _ 24 16 (by decide +kernel) (by decide +kernel) (by simp; omega) (st _ 16 8 (by decide +kernel) (by decide +kernel) (by simp; omega) (st _ 8 0 (by decide +kernel) (by decide +kernel) (by simp; omega) (st _ 0 (-8) (by decide +kernel) (by decide +kernel) (by simp; omega) ?_)))))))
 exact Ev.step (fun k => by simp only [rec_great.l1]; rw [if_neg (by omega)]) h
theorem great_ev (l : List Int) (hn : l.length ≤ 1000000000) (d : Nat) : ∀ (i : Nat) (b : List Int), l.length - i = d → i ≤ l.length → b.length + 8 * d ≤ 10000000000 →
  Ev (fun k => rec_great.l0 k b l (l.length : Int) (i : Int)) (b ++ (l.drop i).flatMap eight) := by
 induction d with
 | zero =>
  intro i b hd hi hb
  rw [List.drop_eq_nil_of_le (by omega), List.flatMap_nil, List.append_nil]
  exact Ev.step (fun k => by simp only [rec_great.l0]; rw [if_neg (by omega)]) (Ev.now _)
 | succ d ih =>
  intro i b hd hi hb
  have ha : i < l.length := by omega
  rw [drop_cons ha, List.flatMap_cons]
  have := ih (i + 1) (b ++ eight l[i]) (by omega) (by omega) (by simp [eight_length]; omega)
  rw [List.append_assoc] at this
  refine Ev.step (fun k => by simp only [rec_great.l0]; rw [if_pos (by omega), if_pos (by omega), if_pos (by omega), rd_get ha]) (great_eight l[i] l (l.length : Int) (i : Int) b (by omega) ?_)
  rw [w64s ha (by omega)]
  exact this
theorem great_f (b l : List Int) (hn : l.length ≤ 100000000) (hb : b.length ≤ 1000000000) : Ev (fun k => rec_great.f k b l) (b ++ l.flatMap eight) := by
 have := great_ev l (by omega) l.length 0 b (by omega) (by omega) (by omega)
 exact this
def encRow (x : S33) : List Int := x.f0.map (· % 256) ++ x.f1.flatMap eight
def encP (cards : List Int) (meas : Int) (rows : List S33) : List Int :=
 [67, 85, 66, 49, (cards.length : Int) % 256] ++ cards.map (· % 256) ++ [meas % 256, (rows.length : Int) / 256 % 256, (rows.length : Int) % 256] ++ rows.flatMap encRow
def Small (cards : List Int) (rows : List S33) : Prop := cards.length ≤ 100 ∧ rows.length ≤ 1000 ∧ ∀ x ∈ rows, x.f0.length ≤ 100 ∧ x.f1.length ≤ 100
theorem encRow_le {x : S33} (h : x.f0.length ≤ 100 ∧ x.f1.length ≤ 100) : (encRow x).length ≤ 900 := by
 unfold encRow
 rw [List.length_append, List.length_map, List.length_flatMap]
 have : (x.f1.map fun y => (eight y).length) = x.f1.map fun _ => 8 := rfl
 rw [this, List.map_const', List.sum_replicate_nat]
 omega
theorem rec_encode_l0 (rows : List S33) (hl : rows.length ≤ 1000) (hr : ∀ x ∈ rows, x.f0.length ≤ 100 ∧ x.f1.length ≤ 100) (d : Nat) : ∀ (i : Nat) (b : List Int), rows.length - i = d → i ≤ rows.length → b.length + 900 * d ≤ 1000000 →
  Ev (fun k => rec_Encode.l0 k b rows (rows.length : Int) (i : Int)) (b ++ (rows.drop i).flatMap encRow) := by
 induction d with
 | zero =>
  intro i b hd hi hb
  rw [List.drop_eq_nil_of_le (by omega), List.flatMap_nil, List.append_nil]
  exact Ev.step (fun k => by simp only [rec_Encode.l0]; rw [if_neg (by omega)]; unfold rec_own.f; rw [if_pos (by omega)]; rfl) (Ev.now _)
 | succ d ih =>
  intro i b hd hi hb
  have ha : i < rows.length := by omega
  have hx := hr rows[i] (List.getElem_mem ha)
  have hxl := encRow_le hx
  rw [drop_cons ha, List.flatMap_cons]
  have := ih (i + 1) (b ++ encRow rows[i]) (by omega) (by omega) (by rw [List.length_append]; omega)
  rw [List.append_assoc] at this
  refine Ev.step (fun k => by simp only [rec_Encode.l0]; rw [if_pos (by omega), if_pos (by omega), if_pos (by omega), rdT_get ha, w64s ha (by omega)]) (Ev.bind (small_f b rows[i].f0 (by omega) (by omega)) (Ev.bind (great_f (b ++ rows[i].f0.map (· % 256)) rows[i].f1 (by omega) (by rw [List.length_append, List.length_map]; omega)) ?_))
  rw [List.append_assoc]
  exact this
theorem rec_encode_ev (cards : List Int) (meas : Int) (rows : List S33) (h : Small cards rows) : Ev (fun k => rec_Encode.f k cards meas rows) (encP cards meas rows) := by
 obtain ⟨hc, hl, hr⟩ := h
 have h1 := small_f [67, 85, 66, 49] [(cards.length : Int)] (by simp) (by simp)
 have h2 := small_f ([67, 85, 66, 49] ++ [(cards.length : Int)].map (· % 256)) cards (by omega) (by simp)
 have h3 := small_f ([67, 85, 66, 49] ++ [(cards.length : Int)].map (· % 256) ++ cards.map (· % 256)) [meas, (rows.length : Int) / 256, (rows.length : Int)] (by simp) (by simp; omega)
 have h4 := rec_encode_l0 rows hl hr rows.length 0 ([67, 85, 66, 49] ++ [(cards.length : Int)].map (· % 256) ++ cards.map (· % 256) ++ [meas, (rows.length : Int) / 256, (rows.length : Int)].map (· % 256)) (by omega) (by omega) (by simp; omega)
 refine Ev.congr (fun k => by unfold rec_Encode.f; rfl) (Ev.bind h1 (Ev.bind h2 (Ev.bind h3 ?_)))
 have e : encP cards meas rows = [67, 85, 66, 49] ++ [(cards.length : Int)].map (· % 256) ++ cards.map (· % 256) ++ [meas, (rows.length : Int) / 256, (rows.length : Int)].map (· % 256) ++ (rows.drop 0).flatMap encRow := by simp [encP]
 rw [e]
 exact h4
theorem numOf_one (c : Int) (h0 : 0 ≤ c) (h1 : c < 256) : numOf [c] = c := by
 unfold numOf
 simp only [List.foldl_cons, List.foldl_nil]
 rw [numOf_step _ _ h0 h1]
 unfold wrap64
 omega
theorem numOf_two (a c : Int) (h0 : 0 ≤ a) (h1 : a < 256) (h2 : 0 ≤ c) (h3 : c < 256) : numOf [a, c] = a * 256 + c := by
 unfold numOf
 simp only [List.foldl_cons, List.foldl_nil]
 rw [numOf_step _ _ h0 h1, numOf_step _ _ h2 h3]
 unfold wrap64
 omega
theorem take1 (c : Int) (l : List Int) (h0 : 0 ≤ c) (h1 : c < 256) : takeV (c :: l) 1 = c ∧ takeL (c :: l) 1 = l ∧ ∀ b, takeB (c :: l) 1 b = b := by
 have h : ¬ (c :: l).length < 1 := by simp
 refine ⟨?_, ?_, fun b => ?_⟩
 ·unfold takeV; rw [if_neg h]; exact numOf_one c h0 h1
 ·unfold takeL; rw [if_neg h]; rfl
 ·unfold takeB; rw [if_neg h]
theorem take2 (a c : Int) (l : List Int) (h0 : 0 ≤ a) (h1 : a < 256) (h2 : 0 ≤ c) (h3 : c < 256) : takeV (a :: c :: l) 2 = a * 256 + c ∧ takeL (a :: c :: l) 2 = l ∧ ∀ b, takeB (a :: c :: l) 2 b = b := by
 have h : ¬ (a :: c :: l).length < 2 := by simp
 refine ⟨?_, ?_, fun b => ?_⟩
 ·unfold takeV; rw [if_neg h]; exact numOf_two a c h0 h1 h2 h3
 ·unfold takeL; rw [if_neg h]; rfl
 ·unfold takeB; rw [if_neg h]
theorem take8 (x : Int) (l : List Int) (h0 : -9223372036854775808 ≤ x) (h1 : x ≤ 9223372036854775807) : takeV (eight x ++ l) 8 = x ∧ takeL (eight x ++ l) 8 = l ∧ ∀ b, takeB (eight x ++ l) 8 b = b := by
 have h : ¬ (eight x ++ l).length < 8 := by rw [List.length_append, eight_length]; omega
 refine ⟨?_, ?_, fun b => ?_⟩
 ·unfold takeV; rw [if_neg h, List.take_left' (eight_length x)]; exact numOf_eight x h0 h1
 ·unfold takeL; rw [if_neg h, List.drop_left' (eight_length x)]
 ·unfold takeB; rw [if_neg h]
theorem list1 (l : List Int) : ∀ (ks acc : List Int), (∀ x ∈ ks, 0 ≤ x ∧ x < 256) → listL 1 ks.length (ks ++ l) false acc = (acc ++ ks, l, false)
 | [], acc, _ => by simp [listL]
 | c :: ks, acc, h => by
  have hc := h c List.mem_cons_self
  obtain ⟨h1, h2, h3⟩ := take1 c (ks ++ l) hc.1 hc.2
  rw [List.length_cons, listL_go, List.cons_append, h1, h2, h3, list1 l ks (acc ++ [c]) (fun x hx => h x (List.mem_cons_of_mem _ hx))]
  simp
theorem list8 (l : List Int) : ∀ (ks acc : List Int), (∀ x ∈ ks, -9223372036854775808 ≤ x ∧ x ≤ 9223372036854775807) → listL 8 ks.length (ks.flatMap eight ++ l) false acc = (acc ++ ks, l, false)
 | [], acc, _ => by simp [listL]
 | c :: ks, acc, h => by
  have hc := h c List.mem_cons_self
  obtain ⟨h1, h2, h3⟩ := take8 c (ks.flatMap eight ++ l) hc.1 hc.2
  rw [List.length_cons, listL_go, List.flatMap_cons, List.append_assoc, h1, h2, h3, list8 l ks (acc ++ [c]) (fun x hx => h x (List.mem_cons_of_mem _ hx))]
  simp
theorem map_mod {l : List Int} (h : ∀ x ∈ l, 0 ≤ x ∧ x < 256) : l.map (· % 256) = l := by
 induction l with
 | nil => rfl
 | cons x l ih =>
  have hx := h x List.mem_cons_self
  rw [List.map_cons, ih (fun y hy => h y (List.mem_cons_of_mem _ hy)), Int.emod_eq_of_lt hx.1 hx.2]
def GoodF (cards : List Int) (meas : Int) (rows : List S33) : Prop :=
 checkP cards meas = true ∧ rows.length ≤ 300 ∧ ∀ x ∈ rows, rightP cards meas x = true ∧ ∀ y ∈ x.f1, -9223372036854775808 ≤ y ∧ y ≤ 9223372036854775807
theorem check_open {cards : List Int} {meas : Int} (h : checkP cards meas = true) : 1 ≤ cards.length ∧ cards.length ≤ 4 ∧ (∀ x ∈ cards, 1 ≤ x ∧ x ≤ 16) ∧ 0 ≤ meas ∧ meas ≤ 2 := by
 unfold checkP at h
 simp only [Bool.and_eq_true, decide_eq_true_eq, List.all_eq_true] at h
 exact ⟨h.1.1.1.1, h.1.1.1.2, fun x hx => h.1.1.2 x hx, h.1.2, h.2⟩
theorem check_mk {cards : List Int} {meas : Int} (h1 : 1 ≤ cards.length) (h2 : cards.length ≤ 4) (h3 : ∀ x ∈ cards, 1 ≤ x ∧ x ≤ 16) (h4 : 0 ≤ meas) (h5 : meas ≤ 2) : checkP cards meas = true := by
 unfold checkP
 simp only [Bool.and_eq_true, decide_eq_true_eq, List.all_eq_true]
 exact ⟨⟨⟨⟨h1, h2⟩, h3⟩, h4⟩, h5⟩
theorem right_open {cards : List Int} {meas : Int} {x : S33} (h : rightP cards meas x = true) : x.f0.length = cards.length ∧ (x.f1.length : Int) = meas ∧ ∀ i : Nat, i < x.f0.length → 0 ≤ rd x.f0 i ∧ rd x.f0 i < rd cards i := by
 unfold rightP at h
 simp only [Bool.and_eq_true, decide_eq_true_eq, List.all_eq_true, List.mem_range] at h
 exact ⟨h.1.1, h.1.2, fun i hi => h.2 i hi⟩
theorem right_mk {cards : List Int} {meas : Int} {x : S33} (h1 : x.f0.length = cards.length) (h2 : (x.f1.length : Int) = meas) (h3 : ∀ i : Nat, i < x.f0.length → 0 ≤ rd x.f0 i ∧ rd x.f0 i < rd cards i) : rightP cards meas x = true := by
 unfold rightP
 simp only [Bool.and_eq_true, decide_eq_true_eq, List.all_eq_true, List.mem_range]
 exact ⟨⟨h1, h2⟩, fun i hi => h3 i hi⟩
theorem right_keys {cards : List Int} {meas : Int} {x : S33} (hc : checkP cards meas = true) (h : rightP cards meas x = true) : ∀ y ∈ x.f0, 0 ≤ y ∧ y < 256 := by
 obtain ⟨_, _, hcs, _, _⟩ := check_open hc
 obtain ⟨hl, _, hr⟩ := right_open h
 intro y hy
 obtain ⟨i, hi, rfl⟩ := List.getElem_of_mem hy
 have := hr i hi
 rw [rd_get hi, rd_get (by omega)] at this
 have h2 := hcs cards[i] (List.getElem_mem _)
 omega
theorem GoodF.small {cards : List Int} {meas : Int} {rows : List S33} (h : GoodF cards meas rows) : Small cards rows := by
 obtain ⟨hc, hl, hr⟩ := h
 obtain ⟨h1, h2, h3, h4, h5⟩ := check_open hc
 refine ⟨by omega, by omega, fun x hx => ?_⟩
 obtain ⟨h6, h7, _⟩ := right_open (hr x hx).1
 omega
theorem GoodF.mild {cards : List Int} {meas : Int} {rows : List S33} (h : GoodF cards meas rows) : Mild rows := by
 obtain ⟨h1, h2, h3⟩ := h.small
 exact ⟨by omega, fun x hx => by have := h3 x hx; omega⟩
theorem rows_back (cards : List Int) (meas : Int) (hc : checkP cards meas = true) (l : List Int) : ∀ (rows acc : List S33), (∀ x ∈ rows, rightP cards meas x = true ∧ ∀ y ∈ x.f1, -9223372036854775808 ≤ y ∧ y ≤ 9223372036854775807) →
  rowsL cards meas rows.length (rows.flatMap encRow ++ l) acc = some (acc ++ rows, l)
 | [], acc, _ => by simp [rowsL]
 | x :: rows, acc, h => by
  obtain ⟨hr, hm⟩ := h x List.mem_cons_self
  obtain ⟨hl, hml, _⟩ := right_open hr
  have hk := right_keys hc hr
  have e1 := list1 (x.f1.flatMap eight ++ (rows.flatMap encRow ++ l)) x.f0 [] hk
  have e2 := list8 (rows.flatMap encRow ++ l) x.f1 [] hm
  rw [List.length_cons]
  unfold rowsL
  have e0 : (x :: rows).flatMap encRow ++ l = x.f0 ++ (x.f1.flatMap eight ++ (rows.flatMap encRow ++ l)) := by
   rw [List.flatMap_cons]; unfold encRow; rw [map_mod hk]; simp
  rw [e0, ← hl, e1]
  simp only []
  have hmn : meas.toNat = x.f1.length := by omega
  rw [hmn, e2]
  simp only [List.nil_append]
  have hx : (⟨x.f0, x.f1⟩ : S33) = x := by cases x; rfl
  rw [if_neg (by simp), hx, if_pos hr, rows_back cards meas hc l rows (acc ++ [x]) (fun y hy => h y (List.mem_cons_of_mem _ hy))]
  simp
theorem back {cards : List Int} {meas : Int} {rows : List S33} (h : GoodF cards meas rows) : rec_Decode.f (encP cards meas rows) = some (cards, meas, rows, 0) := by
 have hsm := h.small
 obtain ⟨hc, hl, hr⟩ := h
 obtain ⟨h1, h2, h3, h4, h5⟩ := check_open hc
 have hcm : cards.map (· % 256) = cards := map_mod (fun x hx => by have := h3 x hx; omega)
 have hm : meas % 256 = meas := Int.emod_eq_of_lt h4 (by omega)
 have hcl : (cards.length : Int) % 256 = cards.length := Int.emod_eq_of_lt (by omega) (by omega)
 have he : encP cards meas rows = [67, 85, 66, 49] ++ ((cards.length : Int) :: (cards ++ (meas :: (rows.length : Int) / 256 % 256 :: (rows.length : Int) % 256 :: (rows.flatMap encRow ++ [])))) := by
  unfold encP
  rw [hcm, hm, hcl]
  simp
 have hlen : (encP cards meas rows).length ≤ 100000000000 := by
  have hb : (rows.flatMap encRow).length ≤ 900 * rows.length := by
   have : ∀ (l : List S33), (∀ x ∈ l, x.f0.length ≤ 100 ∧ x.f1.length ≤ 100) → (l.flatMap encRow).length ≤ 900 * l.length := by
    intro l
    induction l with
    | nil => intro _; simp
    | cons x l ih =>
     intro hx
     rw [List.flatMap_cons, List.length_append, List.length_cons]
     have a1 := encRow_le (hx x List.mem_cons_self)
     have a2 := ih (fun y hy => hx y (List.mem_cons_of_mem _ hy))
     omega
   exact this rows hsm.2.2
  rw [he]
  simp only [List.length_append, List.length_cons, List.length_nil]
  omega
 unfold rec_Decode.f
 rw [if_pos hlen]
 congr 1
 unfold decodeP
 rw [he, if_neg (by simp), List.drop_left' (by rfl)]
 have hmk : markP ([67, 85, 66, 49] ++ ((cards.length : Int) :: (cards ++ (meas :: (rows.length : Int) / 256 % 256 :: (rows.length : Int) % 256 :: (rows.flatMap encRow ++ []))))) = true := by
  unfold markP
  rw [List.take_left' (by rfl)]
  decide +kernel
 rw [hmk, if_neg (by simp)]
 unfold decHead
 obtain ⟨t1, t2, t3⟩ := take1 (cards.length : Int) (cards ++ (meas :: (rows.length : Int) / 256 % 256 :: (rows.length : Int) % 256 :: (rows.flatMap encRow ++ []))) (by omega) (by omega)
 rw [t1, t2, t3, Int.toNat_natCast, list1 _ cards [] (fun x hx => by have := h3 x hx; omega)]
 unfold decTail
 simp only [List.nil_append]
 obtain ⟨t4, t5, t6⟩ := take1 meas ((rows.length : Int) / 256 % 256 :: (rows.length : Int) % 256 :: (rows.flatMap encRow ++ [])) h4 (by omega)
 rw [t4, t5, t6]
 unfold decM
 obtain ⟨t7, t8, t9⟩ := take2 ((rows.length : Int) / 256 % 256) ((rows.length : Int) % 256) (rows.flatMap encRow ++ []) (by omega) (by omega) (by omega) (by omega)
 rw [t7, t8, t9]
 have hn : (rows.length : Int) / 256 % 256 * 256 + (rows.length : Int) % 256 = rows.length := by omega
 rw [hn]
 unfold decRows
 rw [if_neg (by simp), hc, if_neg (by simp), if_neg (by omega), Int.toNat_natCast, rows_back cards meas hc [] rows [] hr]
 simp
abbrev FR := List Int × Int × List S33
def RowOk (cards : List Int) (meas : Int) (x : S33) : Prop := rightP cards meas x = true ∧ ∀ y ∈ x.f1, -100 ≤ y ∧ y ≤ 100
theorem facts_l3 (x3 : List Int) (rows : List S33) (i : Nat) (hi : i < 1000) (kk : Int) (cards : List Int) (meas : Int) (hm0 : 0 ≤ meas) (hm : meas ≤ 2) (hrl : rows.length ≤ 1000) (key : List Int) {Q : FR → Prop}
  (H : ∀ ms : List Int, (ms.length : Int) = meas → (∀ y ∈ ms, -100 ≤ y ∧ y ≤ 100) → ∃ p, Ev (fun k => hypercubelaw1_Facts.l1 k x3 (rows ++ [⟨key, ms⟩]) ((i + 1 : Nat) : Int) cards meas) p ∧ Q p) (d : Nat) :
  ∀ (j : Nat) (ms : List Int), (meas.toNat - j) = d → (j : Int) ≤ meas → ms.length = j → (∀ y ∈ ms, -100 ≤ y ∧ y ≤ 100) → ∃ p, Ev (fun k => hypercubelaw1_Facts.l3 k x3 rows (i : Int) kk (j : Int) cards meas key ms) p ∧ Q p := by
 induction d with
 | zero =>
  intro j ms hd hj hl hb
  obtain ⟨p, h1, h2⟩ := H ms (by omega) hb
  exact ⟨p, Ev.step (fun k => by simp only [hypercubelaw1_Facts.l3]; rw [if_neg (by omega), if_pos (by omega), w64s hi (by omega)]) h1, h2⟩
 | succ d ih =>
  intro j ms hd hj hl hb
  have hw := within_eq (wrap64 (kk + (wrap64 (7 * (j : Int))))) 201 (by omega) (by omega)
  have b0 := Int.emod_nonneg (wrap64 (kk + (wrap64 (7 * (j : Int))))) (show (201 : Int) ≠ 0 by omega)
  have b1 := Int.emod_lt_of_pos (wrap64 (kk + (wrap64 (7 * (j : Int))))) (show (0 : Int) < 201 by omega)
  generalize (wrap64 (kk + (wrap64 (7 * (j : Int))))) % 201 = q at hw b0 b1
  obtain ⟨p, h1, h2⟩ := ih (j + 1) (ms ++ [wrap64 (q - 100)]) (by omega) (by omega) (by simp; omega) (fun y hy => by
   rcases List.mem_append.1 hy with hy | hy
   ·exact hb y hy
   ·rw [List.mem_singleton.1 hy, w64 (by omega) (by omega)]; omega)
  refine ⟨p, Ev.step (fun k => by simp only [hypercubelaw1_Facts.l3]; rw [if_pos (by omega), hw]; simp only [Option.bind_some]; rw [if_pos (by omega), w64s (show j < 1000 by omega) (by omega)]) h1, h2⟩
theorem facts_l2 (x3 : List Int) (rows : List S33) (i : Nat) (hi : i < 1000) (cards : List Int) (meas : Int) (hc : checkP cards meas = true) (hrl : rows.length ≤ 1000) {Q : FR → Prop}
  (H : ∀ x, RowOk cards meas x → ∃ p, Ev (fun k => hypercubelaw1_Facts.l1 k x3 (rows ++ [x]) ((i + 1 : Nat) : Int) cards meas) p ∧ Q p) (d : Nat) :
  ∀ (j : Nat) (kk : Int) (key : List Int), cards.length - j = d → j ≤ cards.length → key.length = j → (∀ a : Nat, a < key.length → 0 ≤ rd key a ∧ rd key a < rd cards a) →
   ∃ p, Ev (fun k => hypercubelaw1_Facts.l2 k x3 rows (i : Int) kk (j : Int) cards meas key) p ∧ Q p := by
 obtain ⟨h1, h2, h3, h4, h5⟩ := check_open hc
 induction d with
 | zero =>
  intro j kk key hd hj hl hb
  have := facts_l3 x3 rows i hi kk cards meas h4 h5 hrl key (fun ms hml hmb => H ⟨key, ms⟩ ⟨right_mk (by show key.length = _; omega) hml hb, hmb⟩) meas.toNat 0 [] (by omega) (by omega) rfl (by simp)
  obtain ⟨p, e1, e2⟩ := this
  exact ⟨p, Ev.step (fun k => by simp only [hypercubelaw1_Facts.l2]; rw [if_neg (by omega)]; rfl) e1, e2⟩
 | succ d ih =>
  intro j kk key hd hj hl hb
  have hja : j < cards.length := by omega
  have hcd := h3 cards[j] (List.getElem_mem hja)
  have hw := within_eq kk cards[j] (by omega) (by omega)
  have b0 := Int.emod_nonneg kk (show cards[j] ≠ 0 by omega)
  have b1 := Int.emod_lt_of_pos kk (show (0 : Int) < cards[j] by omega)
  generalize kk % cards[j] = q at hw b0 b1
  obtain ⟨p, e1, e2⟩ := ih (j + 1) (wrap64 (Int.tdiv kk 5)) (key ++ [q]) (by omega) (by omega) (by simp; omega) (fun a ha => by
   by_cases hak : a < key.length
   ·have hb1 := hb a hak
    have : rd (key ++ [q]) (a : Int) = rd key (a : Int) := by rw [rd_get ha, rd_get hak, List.getElem_append_left hak]
    rw [this]; exact hb1
   ·have hae : a = key.length := by simp at ha; omega
    subst hae
    have : rd (key ++ [q]) (key.length : Int) = q := by rw [rd_get ha]; simp
    rw [this, hl, rd_get hja]; exact ⟨b0, b1⟩)
  refine ⟨p, Ev.step (fun k => by simp only [hypercubelaw1_Facts.l2]; rw [if_pos (by omega), if_pos (by omega), rd_get hja, hw]; simp only [Option.bind_some]; rw [if_pos (by omega), w64s hja (by omega)]) e1, e2⟩
theorem facts_l1 (x3 : List Int) (cards : List Int) (meas : Int) (hc : checkP cards meas = true) (d : Nat) : ∀ (i : Nat) (rows : List S33), (min x3.length 40) - i = d → i ≤ min x3.length 40 → rows.length = i → (∀ x ∈ rows, RowOk cards meas x) →
  ∃ p, Ev (fun k => hypercubelaw1_Facts.l1 k x3 rows (i : Int) cards meas) p ∧ (p.1 = cards ∧ p.2.1 = meas ∧ p.2.2.length = min x3.length 40 ∧ ∀ x ∈ p.2.2, RowOk cards meas x) := by
 induction d with
 | zero =>
  intro i rows hd hi hl hr
  have fin : Ev (fun k => hypercubelaw1_Facts.j3 k x3 rows (i : Int) false cards meas) (cards, meas, rows) := Ev.step (fun k => by simp only [hypercubelaw1_Facts.j3]; rw [if_neg (by simp)]) (Ev.now _)
  refine ⟨(cards, meas, rows), ?_, rfl, rfl, by show rows.length = _; omega, hr⟩
  by_cases h : (i : Int) < x3.length
  ·have : decide ((i : Int) < 40) = false := decide_eq_false (by omega)
   exact Ev.step (fun k => by simp only [hypercubelaw1_Facts.l1]; rw [if_pos h, this]) fin
  ·exact Ev.step (fun k => by simp only [hypercubelaw1_Facts.l1]; rw [if_neg h]) fin
 | succ d ih =>
  intro i rows hd hi hl hr
  have hia : i < x3.length := by omega
  have hdec : decide ((i : Int) < 40) = true := decide_eq_true (by omega)
  obtain ⟨p, e1, e2⟩ := facts_l2 x3 rows i (by omega) cards meas hc (by omega) (fun x hx => ih (i + 1) (rows ++ [x]) (by omega) (by omega) (by simp; omega) (fun y hy => by
   rcases List.mem_append.1 hy with hy | hy
   ·exact hr y hy
   ·rw [List.mem_singleton.1 hy]; exact hx)) cards.length 0 (rd x3 i) [] (by omega) (by omega) rfl (fun a ha => by simp at ha)
  refine ⟨p, ?_, e2⟩
  refine Ev.step (fun k => by simp only [hypercubelaw1_Facts.l1]; rw [if_pos (by omega), hdec]) ?_
  exact Ev.step (fun k => by simp only [hypercubelaw1_Facts.j3]; rw [if_pos trivial, if_pos (by omega), if_pos (by omega)]; rfl) e1
theorem facts_l0 (x0 : Int) (x1 x3 : List Int) (meas : Int) (hm0 : 0 ≤ meas) (hm : meas ≤ 2) (d : Nat) : ∀ (i : Nat) (cards : List Int), (x0 % 4 + 1).toNat - i = d → (i : Int) ≤ x0 % 4 + 1 → cards.length = i → (∀ x ∈ cards, 1 ≤ x ∧ x ≤ 5) →
  ∃ p, Ev (fun k => hypercubelaw1_Facts.l0 k x0 x1 x3 (i : Int) cards meas) p ∧ (checkP p.1 p.2.1 = true ∧ p.2.1 = meas ∧ (p.1.length : Int) = x0 % 4 + 1 ∧ p.2.2.length = min x3.length 40 ∧ ∀ x ∈ p.2.2, RowOk p.1 p.2.1 x) := by
 have b0 := Int.emod_nonneg x0 (show (4 : Int) ≠ 0 by omega)
 have b1 := Int.emod_lt_of_pos x0 (show (0 : Int) < 4 by omega)
 have hw4 := within_eq x0 4 (by omega) (by omega)
 have hw7 := within_eq x0 7 (by omega) (by omega)
 induction d with
 | zero =>
  intro i cards hd hi hl hc
  have go : ∀ cs : List Int, cs.length = cards.length → (∀ x ∈ cs, 1 ≤ x ∧ x ≤ 16) → ∃ p, Ev (fun k => hypercubelaw1_Facts.j1 k x3 cs meas) p ∧ (checkP p.1 p.2.1 = true ∧ p.2.1 = meas ∧ (p.1.length : Int) = x0 % 4 + 1 ∧ p.2.2.length = min x3.length 40 ∧ ∀ x ∈ p.2.2, RowOk p.1 p.2.1 x) := by
   intro cs h1 h2
   have hck : checkP cs meas = true := check_mk (by omega) (by omega) h2 hm0 hm
   obtain ⟨p, e1, e2, e3, e4, e5⟩ := facts_l1 x3 cs meas hck (min x3.length 40) 0 [] (by omega) (by omega) rfl (by simp)
   refine ⟨p, Ev.step (fun k => by simp only [hypercubelaw1_Facts.j1]; rfl) e1, ?_, e3, ?_, e4, ?_⟩
   ·rw [e2, e3]; exact hck
   ·rw [e2]; omega
   ·rw [e2, e3]; exact e5
  by_cases h7 : x0 % 7 = 0
  ·obtain ⟨p, e1, e2⟩ := go (cards.set (0 : Int).toNat 16) (by simp) (fun x hx => by
    rcases List.mem_or_eq_of_mem_set hx with hx | rfl
    ·have := hc x hx; omega
    ·omega)
   refine ⟨p, ?_, e2⟩
   exact Ev.step (fun k => by simp only [hypercubelaw1_Facts.l0]; rw [hw4]; simp only [Option.bind_some]; rw [if_neg (by omega), hw7]; simp only [Option.bind_some]; rw [if_pos h7, if_pos (by omega)]) e1
  ·obtain ⟨p, e1, e2⟩ := go cards rfl (fun x hx => by have := hc x hx; omega)
   refine ⟨p, ?_, e2⟩
   exact Ev.step (fun k => by simp only [hypercubelaw1_Facts.l0]; rw [hw4]; simp only [Option.bind_some]; rw [if_neg (by omega), hw7]; simp only [Option.bind_some]; rw [if_neg h7]) e1
 | succ d ih =>
  intro i cards hd hi hl hc
  have next : ∀ q : Int, 0 ≤ q → q < 5 → ∃ p, Ev (fun k => hypercubelaw1_Facts.l0 k x0 x1 x3 ((i + 1 : Nat) : Int) (cards ++ [wrap64 (1 + q)]) meas) p ∧ (checkP p.1 p.2.1 = true ∧ p.2.1 = meas ∧ (p.1.length : Int) = x0 % 4 + 1 ∧ p.2.2.length = min x3.length 40 ∧ ∀ x ∈ p.2.2, RowOk p.1 p.2.1 x) := by
   intro q q0 q1
   refine ih (i + 1) (cards ++ [wrap64 (1 + q)]) (by omega) (by omega) (by simp; omega) (fun x hx => ?_)
   rcases List.mem_append.1 hx with hx | hx
   ·exact hc x hx
   ·rw [List.mem_singleton.1 hx, w64 (by omega) (by omega)]; omega
  by_cases h1 : (i : Int) < x1.length
  ·have hw := within_eq (rd x1 (i : Int)) 5 (by omega) (by omega)
   obtain ⟨p, e1, e2⟩ := next (rd x1 (i : Int) % 5) (by omega) (by omega)
   refine ⟨p, ?_, e2⟩
   exact Ev.step (fun k => by simp only [hypercubelaw1_Facts.l0]; rw [hw4]; simp only [Option.bind_some]; rw [if_pos (by omega), if_pos h1, if_pos (by omega), hw]; simp only [Option.bind_some]; rw [if_pos (by omega), w64s (show i < 1000 by omega) (by omega)]) e1
  ·have hw := within_eq (wrap64 ((i : Int) + 2)) 5 (by omega) (by omega)
   obtain ⟨p, e1, e2⟩ := next (wrap64 ((i : Int) + 2) % 5) (by omega) (by omega)
   refine ⟨p, ?_, e2⟩
   exact Ev.step (fun k => by simp only [hypercubelaw1_Facts.l0]; rw [hw4]; simp only [Option.bind_some]; rw [if_pos (by omega), if_neg h1, hw]; simp only [Option.bind_some]; rw [if_pos (by omega), w64s (show i < 1000 by omega) (by omega)]) e1
theorem facts_ev (a0 : Int) (l1 : List Int) (a2 : Int) (l3 : List Int) : ∃ cards meas rows, Ev (fun k => hypercubelaw1_Facts.f k a0 l1 a2 l3) (cards, meas, rows) ∧ checkP cards meas = true ∧ meas = a2 % 3 ∧ (cards.length : Int) = a0 % 4 + 1 ∧ rows.length = min l3.length 40 ∧ ∀ x ∈ rows, RowOk cards meas x := by
 have hw := within_eq a2 3 (by omega) (by omega)
 obtain ⟨⟨cards, meas, rows⟩, e1, e2, e3, e4, e5, e6⟩ := facts_l0 a0 l1 l3 (a2 % 3) (by omega) (by omega) (a0 % 4 + 1).toNat 0 [] (by omega) (by omega) rfl (by simp)
 refine ⟨cards, meas, rows, ?_, e2, e3, e4, e5, e6⟩
 exact Ev.congr (fun k => by unfold hypercubelaw1_Facts.f; rw [hw]; rfl) e1
theorem facts_good {cards : List Int} {meas : Int} {rows : List S33} {n : Nat} (h1 : checkP cards meas = true) (h2 : rows.length = min n 40) (h3 : ∀ x ∈ rows, RowOk cards meas x) : GoodF cards meas rows :=
 ⟨h1, by omega, fun x hx => ⟨(h3 x hx).1, fun y hy => by have := (h3 x hx).2 y hy; omega⟩⟩
def apR (rows : List S33) (i : Nat) (v : Int) : List S33 := if 0 < rows.length then rows.set i ⟨(rows.getD i z33).f0.set 0 v, (rows.getD i z33).f1⟩ else rows
theorem apR_length (rows : List S33) (i : Nat) (v : Int) : (apR rows i v).length = rows.length := by unfold apR; split <;> simp
theorem narrow_aux {P : Program} {md : Region.Mode} {ops : Array Oper} {Q : Exit → Act → World → Prop} {S S' : World → Prop} (h1 : ∀ w, S' w → S w) : ∀ (fuel : Nat) (l : Array Bool) (a : Act) (w : World), S' w → wpAnyLast P md ops Q S' [] fuel l a w → wpAnyLast P md ops Q S [] fuel l a w
 | 0, _, _, _, _, h => h
 | fuel + 1, _, _, _, hS, h => ⟨h.1, fun i hi => wpOp_mono (fun a' w' h' => ⟨fun _ _ => h1 _ (h'.1 (by simp) hS), narrow_aux h1 fuel _ a' w' (h'.1 (by simp) hS) h'.2⟩) (h.2 i hi)⟩
theorem narrow_ {P : Program} {md : Region.Mode} {ops : Array Oper} {Q : Exit → Act → World → Prop} {S : World → Prop} {fuel : Nat} {l : Array Bool} {a : Act} {w : World} (C : World → Prop) (hC : C w) (hS : S w) (h : C w ∧ S w → wpAnyLast P md ops Q (fun w' => C w' ∧ S w') [] fuel l a w) : wpAnyLast P md ops Q S [] fuel l a w :=
 narrow_aux (fun _ h => h.2) fuel l a w ⟨hC, hS⟩ (h ⟨hC, hS⟩)
theorem int_run {P : Program} {oi : Oper} {a : Act} {t : TypeId} {p x : Operand} {W : World} {g : Nat} {z : Int} {cells : Array Value} {t2 : TypeId} (ho : oi.op = .store t p x) (hh : W.heap[g]? = some (.cells cells t2 (0, 0))) (hs : 0 < cells.size)
  (haddr : a.eval p = .pointer (some ⟨g, 0, none⟩)) (hx : a.eval x = .int .i64 z) (ht : (P.info? t).map (·.size) = some 1) : (execOp a.eval oi).run P W = .ok .skip (W.setCell ⟨g, 0, none⟩ (.int .i64 z)) := by
 have hrun : (Instr.storeAt t (.pointer (some ⟨g, 0, none⟩)) (.int .i64 z)).run P W = .ok () (W.setCells g 0 [.int .i64 z]) := run_store_run t (.int .i64 z) [.int .i64 z] hh rfl ht (by show 0 + 1 ≤ _; omega) (by intro q_ hq_; rcases List.mem_singleton.1 hq_ with rfl; rfl)
 unfold execOp
 simp only [ho, haddr, hx, Sem.run_bind, Sem.run_pure, Result.andThen_ok, hrun]
 rfl
theorem key_put {w1 W : World} {g n c0 bk ck len : Nat} {ok : Nat → Prop} {rows : List S33} (hS : Kd.S k33d 33 W w1.heap.size ok (.slice (some ⟨g, 0, none⟩) n c0) rows) (i : Nat) (hn : i < rows.length) (hl : n = rows.length) (hm : 0 < (rows.getD i z33).f0.length) (v : Int)
  (hx : W.cell? ⟨g, i * 2, none⟩ = some (.slice (some ⟨bk, 0, none⟩) len ck)) : Kd.S k33d 33 (W.setCell ⟨bk, 0, none⟩ (.int .i64 v)) w1.heap.size ok (.slice (some ⟨g, 0, none⟩) n c0) (rows.set i ⟨(rows.getD i z33).f0.set 0 v, (rows.getD i z33).f1⟩) := by
 obtain ⟨oki, c, hcl, hM, hcell, hoki, hH⟩ := Kd.S_lend hS z33 (i : Int) (by omega) (by omega)
 have hM' : k33d.M W w1.heap.size oki (rows.getD i z33) c := hM
 obtain ⟨v0, v1, rfl, r0, r1⟩ := k33_openM hM'.1
 have hne := hM'.2 v0 v1 rfl
 have hc0 : W.cell? ⟨g, i * 2, none⟩ = some v0 := hcell 0 _ rfl
 rw [hx] at hc0
 injection hc0 with hc0
 subst hc0
 have hokb : oki bk := r0.1 bk (by simp [Value.ownBlock])
 have hlen : len = (rows.getD i z33).f0.length := (Kd.R_reads' r0).1
 obtain ⟨ad1, e6, hx0⟩ := Kd.at_int (Kd.R_reads' r0).2.2 0 (by decide) (by omega)
 cases e6
 have hx0' : W.cell? ⟨bk, 0, none⟩ = some (.int .i64 (rd (rows.getD i z33).f0 0)) := by rw [← show ((⟨bk, 0, none⟩ : Addr).add (0 : Int).toNat) = ⟨bk, 0, none⟩ by simp [Addr.add]]; exact hx0
 have hseg := Kd.R_seg r0 (0 : Int) (by decide) (by omega) (c := [.int .i64 (rd (rows.getD i z33).f0 0)]) (seg := [.int .i64 v]) (j := 0) rfl (fun j u hu => by
  rcases j with _ | j
  ·injection hu with hu; rw [← hu]; exact hx0'
  ·simp at hu) (Nat.le_refl 1) (x' := v) (okp := fun _ => False) rfl (fun _ hk => hk.elim)
 have r0' : Kd.R (Kd.int .i64) 3 (W.setCell ⟨bk, 0, none⟩ (.int .i64 v)) w1.heap.size oki (.slice (some ⟨bk, 0, none⟩) len ck) ((rows.getD i z33).f0.set 0 v) := hseg.1
 have r1' : Kd.R (Kd.int .i64) 3 (W.setCell ⟨bk, 0, none⟩ (.int .i64 v)) w1.heap.size oki v1 (rows.getD i z33).f1 := Kd.R_mono (Kd.R_step (Kd.R_tight rfl r1) (fun k hk _ => Below.heap_setCell W _ _ k (fun e => hne k (by rw [e]; simp [Value.ownBlock]) hk.symm))) (fun k hk => r1.1 k hk.symm)
 have H5 := Kd.H_step hH (w1 := W.setCell ⟨bk, 0, none⟩ (.int .i64 v)) (fun k _ hno _ => Below.heap_setCell W _ _ k (fun e => hno (by rw [e]; exact hokb)))
 exact Kd.H_back H5 (x' := (⟨(rows.getD i z33).f0.set 0 v, (rows.getD i z33).f1⟩ : S33)) (okp := oki) ⟨k33_mkM _ _ _ (⟨(rows.getD i z33).f0.set 0 v, (rows.getD i z33).f1⟩ : S33) r0' r1', hM'.2⟩ (fun _ h => h)
theorem key_at {w1 w4 : World} {c0 n : Nat} {A : Option Addr} {ok : Nat → Prop} {rows : List S33} (hS : Kd.S k33d 33 w4 w1.heap.size ok (.slice A n c0) rows) (i : Nat) (hn : i < rows.length) (hm : 0 < (rows.getD i z33).f0.length) :
  ∃ (g bk ck n1 c1 : Nat) (A1 : Option Addr) (cells : Array Value), A = some ⟨g, 0, none⟩ ∧ n = rows.length ∧ w4.cell? ⟨g, i * 2, none⟩ = some (.slice (some ⟨bk, 0, none⟩) (rows.getD i z33).f0.length ck) ∧ w4.cell? ⟨g, i * 2 + 1, none⟩ = some (.slice A1 n1 c1) ∧
   w1.heap.size ≤ bk ∧ ok bk ∧ w4.heap[bk]? = some (.cells cells 3 (0, 0)) ∧ 0 < cells.size := by
 have hl := (Kd.S_reads' hS).1
 subst hl
 obtain ⟨g, cap, e, hb1, hb2, cells, hh⟩ := Kd.S_form hS (by omega)
 injection e with e1 e2 e3
 subst e1
 obtain ⟨oki, c, hcl, hM, hcell, hoki, hH⟩ := Kd.S_lend hS z33 (i : Int) (by omega) (by omega)
 have hM' : k33d.M w4 w1.heap.size oki (rows.getD i z33) c := hM
 obtain ⟨v0, v1, rfl, r0, r1⟩ := k33_openM hM'.1
 obtain ⟨bk, ck, e5, hm1, hm2, cells1, hh1⟩ := Kd.R_form r0 hm
 subst e5
 obtain ⟨A1, c1, e7⟩ := Kd.R_slice r1
 subst e7
 have hokb : oki bk := r0.1 bk (by simp [Value.ownBlock])
 obtain ⟨ad1, e6, hx0⟩ := Kd.at_int (Kd.R_reads' r0).2.2 0 (by decide) (by omega)
 cases e6
 rw [show ((⟨bk, 0, none⟩ : Addr).add (0 : Int).toNat) = ⟨bk, 0, none⟩ by simp [Addr.add], blk_cell hh1] at hx0
 exact ⟨g, bk, ck, _, c1, A1, cells1, rfl, rfl, hcell 0 _ rfl, hcell 1 _ rfl, hm1, (hoki bk hokb).1, hh1, (Array.getElem?_eq_some_iff.1 hx0).1⟩
theorem S_far {α : Type} {d : Kd α} {e base : Nat} {W W' : World} {ok : Nat → Prop} {v : Value} {xs : List α} (h : Kd.S d e W base ok v xs) (hb : ∀ k, base ≤ k → W'.heap[k]? = W.heap[k]?) : Kd.S d e W' base ok v xs :=
 Kd.S_mono (Kd.S_step (Kd.S_bound h) (fun k hk _ => hb k hk.2.1)) (fun _ hk => hk.1)
theorem R_far {α : Type} {d : Kd α} {e base : Nat} {W W' : World} {ok : Nat → Prop} {v : Value} {xs : List α} (h : d.R e W base ok v xs) (hb : ∀ k, base ≤ k → W'.heap[k]? = W.heap[k]?) : d.R e W' base ok v xs :=
 Kd.R_mono (Kd.R_step (Kd.R_bound h) (fun k hk _ => hb k hk.2.1)) (fun _ hk => hk.1)
theorem name_calls {P : Program} {f : FuncId} {a : Array Value} {W : World} {R : Ending → World → Prop} (h : ∀ w, w = W → Calls P f a w R) : Calls P f a W R := h W rfl
def hypercubelaw1_RecApart.T9 : Bool × List (List Nat × List Nat) := (true, [([], []), ([0], [0]), ([], []), ([2], [2]), ([], []), ([4], [4]), ([5], [5]), ([6], [6]), ([3, 7], [3, 7]), ([1, 0, 1, 2, 3, 4, 5, 6, 7, 8], [1]), ([9, 8, 8, 0, 1, 2, 3, 4, 5, 6, 7, 8], [8, 9])])
def hypercubelaw1_RecApart.B9 : List Nat := [0, 1, 0, 4, 0, 16, 48, 112, 252, 511, 1023]
theorem hypercubelaw1_RecApart.tab9 : rtab .any (opsOf Try.f10 9) = hypercubelaw1_RecApart.T9 := by kernel_rfl
theorem hypercubelaw1_RecApart.bits9 : waitsOk hypercubelaw1_RecApart.T9.2 hypercubelaw1_RecApart.B9 = true := by kernel_rfl
def hypercubelaw1_RecApart.T10 : Bool × List (List Nat × List Nat) := (true, [([], []), ([], []), ([0, 1], [0, 1]), ([2], [2]), ([], []), ([], []), ([4, 5, 2], [4, 5]), ([6], [6]), ([3, 7], [3, 7]), ([], []), ([], []), ([], []), ([], []), ([9, 10, 11, 12, 6], [9, 10, 11, 12]), ([8, 13], [8, 13]), ([14, 13, 0, 1, 2, 3, 4, 5, 6, 7, 8, 9, 10, 11, 12, 13, 14], [14])])
def hypercubelaw1_RecApart.B10 : List Nat := [0, 0, 3, 7, 0, 0, 55, 119, 255, 0, 0, 0, 0, 7799, 16383, 32767]
theorem hypercubelaw1_RecApart.tab10 : rtab .any (opsOf Try.f10 10) = hypercubelaw1_RecApart.T10 := by kernel_rfl
theorem hypercubelaw1_RecApart.bits10 : waitsOk hypercubelaw1_RecApart.T10.2 hypercubelaw1_RecApart.B10 = true := by kernel_rfl
def hypercubelaw1_RecApart.Pure : Prop := ∀ (a0 : Int) (l1 : List Int) (a2 : Int) (l3 : List Int) (l4 : List Int) (a5 : Bool) (a6 : Int), (Lit.int .i64 a0).wf = true → l1.length ≤ maxLen → l1.length * 8 ≤ 140737488351232 → (∀ x ∈ l1, (Lit.int .i64 x).wf = true) → (Lit.int .i64 a2).wf = true → l3.length ≤ maxLen → l3.length * 8 ≤ 140737488351232 → (∀ x ∈ l3, (Lit.int .i64 x).wf = true) → l4.length ≤ maxLen → l4.length * 8 ≤ 140737488351232 → (∀ x ∈ l4, (Lit.int .i64 x).wf = true) → (Lit.int .i64 a6).wf = true →
 ∃ (k : Nat) (cards : (List Int)) (meas : Int) (rows : (List S33)) (cards2 : (List Int)) (meas2 : Int) (rows2 : (List S33)) (ax : Nat) (v : Int) (tc : (List Int)) (tm : Int) (tr : (List S33)) (b : (List Int)) (b2 : (List Int)) (q : Bool), (hypercubelaw1_known.f k = some true) ∧ (hypercubelaw1_Facts.f k a0 l1 a2 l3 = some (cards, meas, rows)) ∧ (hypercubelaw1_Facts.f k a0 l1 a2 l4 = some (cards2, meas2, rows2)) ∧ (a5 = true → 0 < rows.length → hypercubelaw1_within.f a6 (rows.length : Int) = some (ax : Int) ∧ ax < rows.length) ∧ (a5 = true → 0 < rows.length → hypercubelaw1_within.f (wrap64 (Int.tdiv a6 50)) (rd cards 0) = some v) ∧ (0 < cards.length ∧ ∀ r ∈ rows, 0 < r.f0.length) ∧ ((a5 = false → tc = cards2 ∧ tm = meas2 ∧ tr = rows2) ∧ (a5 = true → tc = cards ∧ tm = meas ∧ tr = apR rows ax v)) ∧ (rec_Encode.f k cards meas rows = some b) ∧ (rec_Encode.f k tc tm tr = some b2) ∧ (hypercuberef1_Same.f k cards meas rows tc tm tr = some q) ∧ (((strOfNums b).toList == (strOfNums b2).toList) = q)
set_option maxHeartbeats 8000000 in
set_option maxRecDepth 100000 in
theorem hypercubelaw1_RecApart.calls (k : Nat) (a0 : Int) (A1 : Option Addr) (c1 : Nat) (l1 : List Int) (a2 : Int) (A3 : Option Addr) (c3 : Nat) (l3 : List Int) (A4 : Option Addr) (c4 : Nat) (l4 : List Int) (a5 : Bool) (a6 : Int) (w : World) (hr1 : Kd.C (Kd.int .i64) w A1 l1.length l1) (hc1 : l1.length ≤ c1) (hr3 : Kd.C (Kd.int .i64) w A3 l3.length l3) (hc3 : l3.length ≤ c3) (hr4 : Kd.C (Kd.int .i64) w A4 l4.length l4) (hc4 : l4.length ≤ c4)
  {cards : (List Int)} {meas : Int} {rows : (List S33)} {cards2 : (List Int)} {meas2 : Int} {rows2 : (List S33)} {ax : Nat} {v : Int} {tc : (List Int)} {tm : Int} {tr : (List S33)} {b : (List Int)} {b2 : (List Int)} {q : Bool} (h1 : hypercubelaw1_known.f k = some true) (h2 : hypercubelaw1_Facts.f k a0 l1 a2 l3 = some (cards, meas, rows)) (h3 : hypercubelaw1_Facts.f k a0 l1 a2 l4 = some (cards2, meas2, rows2)) (h4 : a5 = true → 0 < rows.length → hypercubelaw1_within.f a6 (rows.length : Int) = some (ax : Int) ∧ ax < rows.length) (h5 : a5 = true → 0 < rows.length → hypercubelaw1_within.f (wrap64 (Int.tdiv a6 50)) (rd cards 0) = some v) (h6 : 0 < cards.length ∧ ∀ r ∈ rows, 0 < r.f0.length) (h7 : (a5 = false → tc = cards2 ∧ tm = meas2 ∧ tr = rows2) ∧ (a5 = true → tc = cards ∧ tm = meas ∧ tr = apR rows ax v)) (h8 : rec_Encode.f k cards meas rows = some b) (h9 : rec_Encode.f k tc tm tr = some b2) (h10 : hypercuberef1_Same.f k cards meas rows tc tm tr = some q) (h11 : ((strOfNums b).toList == (strOfNums b2).toList) = q) :
  Calls Try.prog 10 #[.int .i64 a0, .slice A1 l1.length c1, .int .i64 a2, .slice A3 l3.length c3, .slice A4 l4.length c4, .bool a5, .int .i64 a6] w fun e w' => e = .returned (.bool true) ∧ Below w.heap.size w w' := by
 have hu25 := Try.underlying24
 have H1 := am h1
 have H2 := am h2
 have H3 := am h3
 have H4 := am h4
 have H5 := am h5
 have H6 := am h6
 have H7 := am h7
 have H8 := am h8
 have H9 := am h9
 have H10 := am h10
 have H11 := am h11
 have HR1 := am hr1
 have HC1 := am hc1
 have HR3 := am hr3
 have HC3 := am hc3
 have HR4 := am hr4
 have HC4 := am hc4
 clear h1 h2 h3 h4 h5 h6 h7 h8 h9 h10 h11 hr1 hc1 hr3 hc3 hr4 hc4
 go_enter Try.func10, Try.ntmps10
 go_wp2_with (fail)
 refine (hypercubelaw1_known.calls k true w H1.out).mono ?_
 rintro e w1 ⟨rfl, hb1⟩
 have HB1 := am hb1
 clear hb1
 go_wp2_with (fail)
 refine (hypercubelaw1_Facts.callsD k a0 A1 c1 l1 a2 A3 c3 l3 cards meas rows w1 (Kd.C_below HR1.out HB1.out) HC1.out (Kd.C_below HR3.out HB1.out) HC3.out H2.out).mono ?_
 rintro e w2 ⟨v1, v2, rfl, ho0, ho1, hb2⟩
 obtain ⟨A14, c14, rfl⟩ := Kd.R_slice ho0
 obtain ⟨A15, c15, rfl⟩ := Kd.S_slice ho1
 have HX := am (Kd.R_reads' ho0).2
 have HY : Aside0 (rows.length ≤ c15 ∧ Kd.C k33 w2 A15 rows.length rows) := ⟨(Kd.S_reads' ho1).2⟩
 have HB2 := am hb2
 clear ho0 ho1 hb2
 go_wp2_with (first | ((with_reducible refine gate_dst (N := 15) rfl ?_); (try (refine gate_guard (by rfl) ?_; dsimp only)); refine box_event ?hg (N := 15) ?hd (cs := #[.slice none 0 0, .int .i64 0]) (t := 24) ?hr ?_; (case hd => rfl); (case hg => rfl); (case hr => first | (go_simp; done) | (go_simp; rfl)); intro gb hg w3 hbox hb; have hcza0 : w3.cell? ⟨gb, 0, none⟩ = some (.slice none 0 0) := (blk_cell hbox 0).trans rfl; have hcza1 : w3.cell? ⟨gb, 1, none⟩ = some (.int .i64 0) := (blk_cell hbox 1).trans rfl; have hfza0 := blk_frozen hbox 0; have hfza1 := blk_frozen hbox 1; have HBXa := am hbox; have HGa := am hg; have HBBa := am hb; clear hbox hg hb))
 refine name_calls ?_
 intro w4 hw4
 have hgb : w2.heap.size ≤ gb := Nat.le_of_eq HGa.out.symm
 have hb4 : Below w2.heap.size w2 w4 := by rw [hw4]; exact below_set (below_set HBBa.out hgb) hgb
 have HB14 := am (below_step HB2.out hb4)
 have HK4 := am (show w4.heap[gb]? = some (.cells #[.slice A14 cards.length c14, .int .i64 meas] 24 (0, 0)) by rw [hw4]; exact blk_put (blk_put HBXa.out 0 _ rfl) 1 _ rfl)
 have HX4 := am (And.intro HX.out.1 (Kd.C_below HX.out.2 hb4))
 have HY4 := am (And.intro HY.out.1 (Kd.C_below HY.out.2 hb4))
 clear hw4 hb4 hgb hcza0 hcza1 hfza0 hfza1 HBXa HGa HBBa HX HY
 have HB04 := am (below_step HB1.out HB14.out)
 refine (hypercubelaw1_Facts.callsD k a0 A1 c1 l1 a2 A4 c4 l4 cards2 meas2 rows2 w4 (Kd.C_below HR1.out HB04.out) HC1.out (Kd.C_below HR4.out HB04.out) HC4.out H3.out).mono ?_
 rintro e w5 ⟨v3, v4, rfl, ho0, ho1, hb5⟩
 obtain ⟨At, ct, rfl⟩ := Kd.R_slice ho0
 obtain ⟨Am, cm, rfl⟩ := Kd.S_slice ho1
 have HT5 := am (Kd.R_reads' ho0).2
 have HM5 : Aside0 (rows2.length ≤ cm ∧ Kd.C k33 w5 Am rows2.length rows2) := ⟨(Kd.S_reads' ho1).2⟩
 have HB15 := am (below_step HB14.out hb5)
 have HK5 := am (blk_below HK4.out hb5)
 have HX5 := am (And.intro HX4.out.1 (Kd.C_below HX4.out.2 hb5))
 have HY5 := am (And.intro HY4.out.1 (Kd.C_below HY4.out.2 hb5))
 clear ho0 ho1 hb5 HK4 HX4 HY4
 have H10' := H10
 cases a5
 ·obtain ⟨rfl, rfl, rfl⟩ := H7.out.1 rfl
  go_wp2_with (first | ((with_reducible refine gate_dst (N := 17) rfl ?_); (try (refine gate_guard (by rfl) ?_; dsimp only)); refine box_event ?hg (N := 17) ?hd (cs := #[.slice none 0 0, .int .i64 0]) (t := 24) ?hr ?_; (case hd => rfl); (case hg => rfl); (case hr => first | (go_simp; done) | (go_simp; rfl)); intro gt hg w6 hbox hb; have hczb0 : w6.cell? ⟨gt, 0, none⟩ = some (.slice none 0 0) := (blk_cell hbox 0).trans rfl; have hczb1 : w6.cell? ⟨gt, 1, none⟩ = some (.int .i64 0) := (blk_cell hbox 1).trans rfl; have hfzb0 := blk_frozen hbox 0; have hfzb1 := blk_frozen hbox 1; have HBXb := am hbox; have HGb := am hg; have HBBb := am hb; clear hbox hg hb))
  generalize hw8 : (w6.setCell ⟨gt, 0, none⟩ (.slice At tc.length ct)).setCell ⟨gt, 1, none⟩ (.int .i64 tm) = w8
  have hgt : w5.heap.size ≤ gt := Nat.le_of_eq HGb.out.symm
  have hb58 : Below w5.heap.size w5 w8 := by rw [← hw8]; exact below_set (below_set HBBb.out hgt) hgt
  have HGT := am (show w8.heap[gt]? = some (.cells #[.slice At tc.length ct, .int .i64 tm] 24 (0, 0)) by rw [← hw8]; exact blk_put (blk_put HBXb.out 0 _ rfl) 1 _ rfl)
  have HX8 := am (And.intro HX5.out.1 (Kd.C_below HX5.out.2 hb58))
  have HY8 := am (And.intro HY5.out.1 (Kd.C_below HY5.out.2 hb58))
  have HT8 := am (And.intro HT5.out.1 (Kd.C_below HT5.out.2 hb58))
  have HM8 := am (And.intro HM5.out.1 (Kd.C_below HM5.out.2 hb58))
  have HK8 := am (blk_below HK5.out hb58)
  have HB8 := am (below_step HB15.out hb58)
  clear hw8 hgt hb58 hczb0 hczb1 hfzb0 hfzb1 HBXb HGb HBBb
  have Q0 := am (bc HK8 0)
  have Q1 := am (bc HK8 1)
  have T0 := am (bc HGT 0)
  have T1 := am (bc HGT 1)
  have hq2 := H11.out
  obtain ⟨s1, hs1⟩ : ∃ s, s = strOfNums b := ⟨_, rfl⟩
  obtain ⟨s2, hs2⟩ : ∃ s, s = strOfNums b2 := ⟨_, rfl⟩
  rw [← hs1, ← hs2] at hq2
  have HS1 := am hs1
  have HS2 := am hs2
  clear hs1 hs2
  go_wp2
  refine start_ (n := 16) (S := fun w' => w'.cell? ⟨gb, 0, none⟩ = some (.slice A14 cards.length c14) ∧ w'.cell? ⟨gb, 1, none⟩ = some (.int .i64 meas) ∧ w'.cell? ⟨gt, 0, none⟩ = some (.slice At tc.length ct) ∧ w'.cell? ⟨gt, 1, none⟩ = some (.int .i64 tm)) (ds := []) (bb 16 0) (by kernel_rfl) rfl rfl ⟨Q0.out, Q1.out, T0.out, T1.out⟩ (fun hHeld => ?_)
  refine with_tabW hypercubelaw1_RecApart.tab10 hypercubelaw1_RecApart.bits10 (fun HT_ HW_ => ?_)
  have HB := am (below_drew (Below.refl w8.heap.size w8))
  generalize w8.drew = wd at HB hHeld ⊢
  refine pu (i := 1) (N := some 68) (bb 16 2) HT_ ?_
  refine pu (i := 5) (N := some 72) (bb 16 34) HT_ ?_
  refine pu (i := 10) (N := some 77) (bb 16 1058) HT_ ?_
  refine pu (i := 12) (N := some 79) (bb 16 5154) HT_ ?_
  refine tk (i := 0) (N := some 67) (bb 16 5155) HT_ HW_ hHeld ?_
  refine tk (i := 4) (N := some 71) (bb 16 5171) HT_ HW_ hHeld ?_
  refine tk (i := 9) (N := some 76) (bb 16 5683) HT_ HW_ hHeld ?_
  refine tk (i := 11) (N := some 78) (bb 16 7731) HT_ HW_ hHeld ?_
  refine one_ (i := 2) (N := some 69) (bb 16 7735) rfl rfl (one_of HT_.out (by kernel_rfl)) (by decide) (fun K hK => ?_)
  refine goes_ Try.func22 (by kernel_rfl) rfl #[.agg #[.slice A14 cards.length c14, .int .i64 meas], .slice A15 rows.length c15] (by rfl) rfl rfl (by (try simp only [List.map_toArray, List.map_cons, List.map_nil]); first | done | rfl) ?_
  with_reducible refine (rec_Encode.calls k A14 c14 cards meas A15 c15 rows b _ (Kd.C_below HX8.out.2 HB.out) HX8.out.1 (Kd.C_below HY8.out.2 HB.out) HY8.out.1 H8.out).mono ?_

  rintro e wp ⟨vp, rfl, ho0, hb⟩
  obtain ⟨Ap, cp, rfl⟩ := Kd.R_slice ho0
  have Cp : Aside0 (∀ W : World, Below wp.heap.size wp W → (convert 36 9 (.slice Ap b.length cp)).run Try.prog W = .ok (.string s1) W) := ⟨fun W hB => by rw [HS1.out]; exact Kd.C_string Try.underlying36 Try.underlying5 Try.underlying9 (Kd.C_below (Kd.R_reads' ho0).2.2 hB)⟩
  replace HB := am (below_step HB.out hb)
  have Hp := am (Below.refl wp.heap.size wp)
  clear hb ho0
  refine ⟨_, rfl, ?_⟩
  refine hK.out _ _ ⟨(HB.out.cell (World.block_lt_of_cell? w8 _ Q0.out)).trans Q0.out, (HB.out.cell (World.block_lt_of_cell? w8 _ Q1.out)).trans Q1.out, (HB.out.cell (World.block_lt_of_cell? w8 _ T0.out)).trans T0.out, (HB.out.cell (World.block_lt_of_cell? w8 _ T1.out)).trans T1.out⟩ (fun hHeld => ?_)
  clear hK K
  refine nm ?_
  refine narrow_ (fun w' => (convert 36 9 (.slice Ap b.length cp)).run Try.prog w' = .ok (.string s1) w') (Cp.out _ Hp.out) hHeld (fun hHeld => ?_)
  refine tk (i := 3) (N := some 70) (bb 16 7743) HT_ HW_ hHeld ?_
  refine one_ (i := 6) (N := some 73) (bb 16 7807) rfl rfl (one_of HT_.out (by kernel_rfl)) (by decide) (fun K hK => ?_)
  refine goes_ Try.func22 (by kernel_rfl) rfl #[.agg #[.slice At tc.length ct, .int .i64 tm], .slice Am tr.length cm] (by rfl) rfl rfl (by (try simp only [List.map_toArray, List.map_cons, List.map_nil]); first | done | rfl) ?_
  with_reducible refine (rec_Encode.calls k At ct tc tm Am cm tr b2 _ (Kd.C_below HT8.out.2 HB.out) HT8.out.1 (Kd.C_below HM8.out.2 HB.out) HM8.out.1 H9.out).mono ?_

  rintro e wq ⟨vq, rfl, ho0, hb⟩
  obtain ⟨Aq, cq, rfl⟩ := Kd.R_slice ho0
  have Cq : Aside0 (∀ W : World, Below wq.heap.size wq W → (convert 36 9 (.slice Aq b2.length cq)).run Try.prog W = .ok (.string s2) W) := ⟨fun W hB => by rw [HS2.out]; exact Kd.C_string Try.underlying36 Try.underlying5 Try.underlying9 (Kd.C_below (Kd.R_reads' ho0).2.2 hB)⟩
  replace HB := am (below_step HB.out hb)
  replace Hp := am (below_step Hp.out hb)
  have Hq := am (Below.refl wq.heap.size wq)
  clear hb ho0
  refine ⟨_, rfl, ?_⟩
  refine hK.out _ _ ⟨Cp.out _ Hp.out, (HB.out.cell (World.block_lt_of_cell? w8 _ Q0.out)).trans Q0.out, (HB.out.cell (World.block_lt_of_cell? w8 _ Q1.out)).trans Q1.out, (HB.out.cell (World.block_lt_of_cell? w8 _ T0.out)).trans T0.out, (HB.out.cell (World.block_lt_of_cell? w8 _ T1.out)).trans T1.out⟩ (fun hHeld => ?_)
  clear hK K
  refine nm ?_
  refine narrow_ (fun w' => (convert 36 9 (.slice Aq b2.length cq)).run Try.prog w' = .ok (.string s2) w') (Cq.out _ Hq.out) hHeld (fun hHeld => ?_)
  refine tk (i := 7) (N := some 74) (bb 16 7935) HT_ HW_ hHeld ?_
  refine pu (i := 8) (N := some 75) (bb 16 8191) HT_ ?_
  refine one_ (i := 13) (N := some 80) (bb 16 16383) rfl rfl (one_of HT_.out (by kernel_rfl)) (by decide) (fun K hK => ?_)
  refine goes_ Try.func25 (by kernel_rfl) rfl #[.agg #[.slice A14 cards.length c14, .int .i64 meas], .slice A15 rows.length c15, .agg #[.slice At tc.length ct, .int .i64 tm], .slice Am tr.length cm] (by rfl) rfl rfl (by (try simp only [List.map_toArray, List.map_cons, List.map_nil]); first | done | rfl) ?_
  with_reducible refine (hypercuberef1_Same.calls k A14 c14 cards meas A15 c15 rows At ct tc tm Am cm tr q _ (Kd.C_below HX8.out.2 HB.out) HX8.out.1 (Kd.C_below HY8.out.2 HB.out) HY8.out.1 (Kd.C_below HT8.out.2 HB.out) HT8.out.1 (Kd.C_below HM8.out.2 HB.out) HM8.out.1 H10.out).mono ?_

  rintro e wd3 ⟨rfl, hb⟩
  replace HB := am (below_step HB.out hb)
  replace Hp := am (below_step Hp.out hb)
  replace Hq := am (below_step Hq.out hb)
  clear hb
  refine ⟨_, rfl, ?_⟩
  refine hK.out _ _ ⟨Cq.out _ Hq.out, Cp.out _ Hp.out, (HB.out.cell (World.block_lt_of_cell? w8 _ Q0.out)).trans Q0.out, (HB.out.cell (World.block_lt_of_cell? w8 _ Q1.out)).trans Q1.out, (HB.out.cell (World.block_lt_of_cell? w8 _ T0.out)).trans T0.out, (HB.out.cell (World.block_lt_of_cell? w8 _ T1.out)).trans T1.out⟩ (fun hHeld => ?_)
  clear hK K
  refine nm ?_
  refine pu (i := 14) (N := some 81) (bb 16 32767) HT_ ?_
  refine pu (i := 15) (N := some 14) (bb 16 65535) HT_ ?_
  refine done_ (done_of HT_.out (by kernel_rfl)) ?_
  go_wp2
  go_ret
  exact ⟨by first | rfl | (simp; done) | (simp [hq2]; done) | exact congrArg (fun x => Ending.returned (.bool x)) (by simpa using hq2), below_step HB1.out (below_step HB8.out HB.out)⟩
 ·obtain ⟨e1, e2, e3⟩ := H7.out.2 rfl
  have e1 := e1.symm
  subst e1
  have e2 := e2.symm
  subst e2
  go_wp2_with (first | ((with_reducible refine gate_dst (N := 17) rfl ?_); (try (refine gate_guard (by rfl) ?_; dsimp only)); refine box_event ?hg (N := 17) ?hd (cs := #[.slice none 0 0, .int .i64 0]) (t := 24) ?hr ?_; (case hd => rfl); (case hg => rfl); (case hr => first | (go_simp; done) | (go_simp; rfl)); intro gt hg w6 hbox hb; have hczb0 : w6.cell? ⟨gt, 0, none⟩ = some (.slice none 0 0) := (blk_cell hbox 0).trans rfl; have hczb1 : w6.cell? ⟨gt, 1, none⟩ = some (.int .i64 0) := (blk_cell hbox 1).trans rfl; have hfzb0 := blk_frozen hbox 0; have hfzb1 := blk_frozen hbox 1; have HBXb := am hbox; have HGb := am hg; have HBBb := am hb; clear hbox hg hb))
  refine name_calls ?_
  intro w7 hw7
  have hgt : w5.heap.size ≤ gt := Nat.le_of_eq HGb.out.symm
  have hb57 : Below w5.heap.size w5 w7 := by rw [hw7]; exact below_set (below_set HBBb.out hgt) hgt
  have HGT7 := am (show w7.heap[gt]? = some (.cells #[.slice At cards2.length ct, .int .i64 meas2] 24 (0, 0)) by rw [hw7]; exact blk_put (blk_put HBXb.out 0 _ rfl) 1 _ rfl)
  have HB57 := am hb57
  have HGL := am hgt
  clear hw7 hgt hb57 hczb0 hczb1 hfzb0 hfzb1 HBXb HGb HBBb HT5 HM5
  have HB07 := am (below_step HB1.out (below_step HB15.out HB57.out))
  refine (hypercubelaw1_Facts.callsD k a0 A1 c1 l1 a2 A3 c3 l3 cards meas rows w7 (Kd.C_below HR1.out HB07.out) HC1.out (Kd.C_below HR3.out HB07.out) HC3.out H2.out).mono ?_
  rintro e w9 ⟨v5, v6, rfl, ho0, ho1, hb9⟩
  obtain ⟨Au, cu, rfl⟩ := Kd.R_slice ho0
  obtain ⟨An, cn, rfl⟩ := Kd.S_slice ho1
  have HTR := am ho0
  have HSR := am ho1
  have hgt9 : w9.heap[gt]? = some (.cells #[.slice At cards2.length ct, .int .i64 meas2] 24 (0, 0)) := blk_below HGT7.out hb9
  have HLT := am (blk_lt HGT7.out)
  have HGT9 := am hgt9
  have HB59 := am (below_step HB57.out hb9)
  have hct0 : w9.cell? ⟨gt, 0, none⟩ = some (.slice At cards2.length ct) := bc HGT9 0
  have hct1 : w9.cell? ⟨gt, 1, none⟩ = some (.int .i64 meas2) := bc HGT9 1
  have hft0 := blk_frozen HGT9.out 0
  have hft1 := blk_frozen HGT9.out 1
  clear ho0 ho1 hb9 hgt9
  by_cases hn : 0 < rows.length
  ·obtain ⟨hwt, hax⟩ := H4.out (by first | rfl | trivial) hn
   have HAX := am hax
   have HV := am (H5.out (by first | rfl | trivial) hn)
   have HW := am hwt
   have hm0 : 0 < (rows.getD ax z33).f0.length := H6.out.2 _ (by rw [List.getD_eq_getElem?_getD, List.getElem?_eq_getElem hax]; exact List.getElem_mem hax)
   have HM0 := am hm0
   have HN := am hn
   obtain ⟨g, bk, ck, n1, c1', A1', cells, eA, _, x0, x1, hbk, hok, hhk, hcs⟩ := key_at HSR.out ax hax hm0
   obtain ⟨gc, cc, ec, hgc1, hgc2, cellsc, hcc⟩ := Kd.R_form HTR.out H6.out.1
   injection ec with ec1 ec2 ec3
   subst ec1
   subst eA
   obtain ⟨adc, eadc, hadc⟩ : ∃ adc, (some (⟨gc, 0, none⟩ : Addr)) = some adc ∧ adc = ⟨gc, 0, none⟩ := ⟨⟨gc, 0, none⟩, rfl, rfl⟩
   obtain ⟨ada, eada, hada⟩ : ∃ ada, (some (⟨g, 0, none⟩ : Addr)) = some ada ∧ ada = ⟨g, 0, none⟩ := ⟨⟨g, 0, none⟩, rfl, rfl⟩
   obtain ⟨adk, hadk⟩ : ∃ adk : Addr, adk = ⟨bk, 0, none⟩ := ⟨_, rfl⟩
   have HDC := am hadc
   have HDA := am hada
   have HDK := am hadk
   have HNE : Aside0 (bk ≠ gc) := ⟨fun e => hok (by rw [e]; simp [Value.ownBlock])⟩
   have HBK := am hbk
   have HHK := am hhk
   have HCS := am hcs
   have HGC := am hgc1
   have X0 := am x0
   have X1 := am x1
   have XC : Aside0 (w9.cell? ⟨gc, 0, none⟩ = some (.int .i64 (rd cards 0))) := ⟨by
    obtain ⟨ad1, e6, hx0⟩ := Kd.at_int (Kd.R_reads' HTR.out).2.2 0 (by decide) (by have := H6.out.1; omega)
    cases e6
    rw [← show ((⟨gc, 0, none⟩ : Addr).add (0 : Int).toNat) = ⟨gc, 0, none⟩ by simp [Addr.add]]; exact hx0⟩
   have HGB : Aside0 (w7.heap.size ≤ g) := ⟨by
    obtain ⟨g', cap', e', h1, _⟩ := Kd.S_form HSR.out hn
    injection e' with e1 _ _
    injection e1 with e1
    injection e1 with e1
    rw [e1]; exact h1⟩
   have hn1 : decide ((rows.length : Int) > 0) = true := decide_eq_true (by omega)
   have hn2 : decide (0 < (rows.length : Int)) = true := decide_eq_true (by omega)
   have hn3 : decide (0 < rows.length) = true := decide_eq_true hn
   have hnil := eq_false (show ¬ rows = [] by intro h; rw [h] at hn; exact absurd hn (by decide))
   rw [eadc] at HTR ⊢
   rw [eada] at HSR ⊢
   clear hwt hax hm0 hn x0 x1 hbk hok hhk hcs hgc1 hgc2 hcc ec2 ec3 hadc hada hadk eadc eada
   go_wp2_with (fail)
   refine name_calls ?_
   intro w10 hw10
   have hfar : ∀ k, k ≠ gt → w10.heap[k]? = w9.heap[k]? := fun k hk => by rw [hw10]; exact (Below.heap_setCell _ _ _ k hk).trans (Below.heap_setCell _ _ _ k hk)
   have hcell : ∀ (q : Addr) (u : Value), q.block ≠ gt → w9.cell? q = some u → w10.cell? q = some u := fun q u hq hu => by rw [← hu]; unfold World.cell?; rw [hfar _ hq]
   have HB510 := am (show Below w5.heap.size w5 w10 by rw [hw10]; exact below_set (below_set HB59.out HGL.out) HGL.out)
   have HGT10 := am (show w10.heap[gt]? = some (.cells #[.slice (some adc) cards.length cu, .int .i64 meas] 24 (0, 0)) by rw [hw10]; exact blk_put (blk_put HGT9.out 0 _ rfl) 1 _ rfl)
   have HTR10 := am (R_far HTR.out (fun k hk => hfar k (by have := HLT.out; omega)))
   have HSR10 := am (S_far HSR.out (fun k hk => hfar k (by have := HLT.out; omega)))
   have X010 := am (hcell _ _ (by have := HLT.out; have := HGB.out; show g ≠ gt; omega) X0.out)
   have X110 := am (hcell _ _ (by have := HLT.out; have := HGB.out; show g ≠ gt; omega) X1.out)
   have XC10 := am (hcell _ _ (by have := HLT.out; have := HGC.out; show gc ≠ gt; omega) XC.out)
   have HHK10 := am ((hfar bk (by have := HLT.out; have := HBK.out; omega)).trans HHK.out)
   clear hw10 hfar hcell hct0 hct1 hft0 hft1 HTR HSR HGT9 HB59 X0 X1 XC HHK HGT7
   refine (hypercubelaw1_within.calls a6 (rows.length : Int) (ax : Int) w10 HW.out).mono ?_
   rintro e w11 ⟨rfl, hd⟩
   have hb11 := hd.below
   have HB511 := am (below_step HB510.out hb11)
   have HGT11 := am (blk_below HGT10.out hb11)
   have HTR11 := am (Kd.R_below HTR10.out hb11)
   have HSR11 := am (Kd.S_below HSR10.out hb11)
   have XC11 := am ((hb11.cell (World.block_lt_of_cell? w10 _ XC10.out)).trans XC10.out)
   have HHK11 := am (blk_below HHK10.out hb11)
   have X011 := am ((hb11.cell (World.block_lt_of_cell? w10 _ X010.out)).trans X010.out)
   generalize hx0 : rows.getD ax z33 = x0 at *
   have HX0 := am hx0
   clear hx0
   have C0 : w11.cell? (ada.add (ax * 2)) = some (.slice (some adk) x0.f0.length ck) := by rw [HDA.out, HDK.out, Addr.add_lit, Nat.zero_add]; exact X011.out
   have C1 : w11.cell? ⟨(ada.add (ax * 2)).block, (ada.add (ax * 2)).off + 1, none⟩ = some (.slice A1' n1 c1') := by rw [HDA.out, Addr.add_lit, Nat.zero_add]; exact (hb11.cell (World.block_lt_of_cell? w10 _ X110.out)).trans X110.out
   have pa := eq_true (show (0 : Int) ≤ (ax : Int) by omega)
   have qa := eq_true (show (ax : Int) < (rows.length : Int) by have := HAX.out; omega)
   have qa2 := eq_true HAX.out
   clear hd hb11 HB510 HGT10 HTR10 HSR10 XC10 HHK10 X010 X110
   go_wp2_with (first | ((with_reducible refine gate_dst (N := 19) rfl ?_); (try (refine gate_guard (by rfl) ?_; dsimp only)); refine box_event ?hg (N := 19) ?hd (cs := #[.slice none 0 0, .slice none 0 0]) (t := 33) ?hr ?_; (case hd => rfl); (case hg => rfl); (case hr => first | (go_simp; done) | (go_simp; rfl)); intro gr hg w12 hbox hb; have hczc0 : w12.cell? ⟨gr, 0, none⟩ = some (.slice none 0 0) := (blk_cell hbox 0).trans rfl; have hczc1 : w12.cell? ⟨gr, 1, none⟩ = some (.slice none 0 0) := (blk_cell hbox 1).trans rfl; have hfzc0 := blk_frozen hbox 0; have hfzc1 := blk_frozen hbox 1; have HBXc := am hbox; have HGc := am hg; have HBBc := am hb; clear hbox hg hb))
   generalize hw13 : (w12.setCell ⟨gr, 0, none⟩ (.slice (some adk) x0.f0.length ck)).setCell ⟨gr, 1, none⟩ (.slice A1' n1 c1') = w13
   have hgr : w11.heap.size ≤ gr := Nat.le_of_eq HGc.out.symm
   have hb13 : Below w11.heap.size w11 w13 := by rw [← hw13]; exact below_set (below_set HBBc.out hgr) hgr
   have HGR := am (show w13.heap[gr]? = some (.cells #[.slice (some adk) x0.f0.length ck, .slice A1' n1 c1'] 33 (0, 0)) by rw [← hw13]; exact blk_put (blk_put HBXc.out 0 _ rfl) 1 _ rfl)
   have HB513 := am (below_step HB511.out hb13)
   have HGT13 := am (blk_below HGT11.out hb13)
   have HTR13 := am (Kd.R_below HTR11.out hb13)
   have HSR13 := am (Kd.S_below HSR11.out hb13)
   have HHK13 := am (blk_below HHK11.out hb13)
   have X013 := am ((hb13.cell (World.block_lt_of_cell? w11 _ X011.out)).trans X011.out)
   have XC13 : Aside0 (w13.cell? adc = some (.int .i64 (rd cards 0))) := ⟨by rw [HDC.out]; exact (hb13.cell (World.block_lt_of_cell? w11 _ XC11.out)).trans XC11.out⟩
   have R0 := am (bc HGR 0)
   have S0 := am (bc HGT13 0)
   have pc := eq_true (show (0 : Int) < (cards.length : Int) by have := H6.out.1; omega)
   have pc2 := eq_true H6.out.1
   have pc3 := eq_false (show ¬ cards = [] by intro h; have := H6.out.1; rw [h] at this; exact absurd this (by decide))
   have pk := eq_true (show (0 : Int) < (x0.f0.length : Int) by have := HM0.out; omega)
   have pk2 := eq_true HM0.out
   have pk3 := eq_false (show ¬ x0.f0 = [] by intro h; have := HM0.out; rw [h] at this; exact absurd this (by decide))
   clear hw13 hgr hb13 hczc0 hczc1 hfzc0 hfzc1 HBXc HGc HBBc C0 C1 HB511 HGT11 HTR11 HSR11 HHK11 X011 XC11
   go_wp2
   refine start_ (n := 11) (S := fun w' => w'.cell? ⟨gr, 0, none⟩ = some (.slice (some adk) x0.f0.length ck) ∧ w'.cell? ⟨gt, 0, none⟩ = some (.slice (some adc) cards.length cu) ∧ w'.cell? adc = some (.int .i64 (rd cards 0))) (ds := [10]) (bb 11 0) (by kernel_rfl) rfl rfl ⟨R0.out, S0.out, XC13.out⟩ (fun hHeld => ?_)
   refine with_tabW hypercubelaw1_RecApart.tab9 hypercubelaw1_RecApart.bits9 (fun HT_ HW_ => ?_)
   have HB := am (below_drew (Below.refl w13.heap.size w13))
   generalize w13.drew = wd at HB hHeld ⊢
   refine pu (i := 0) (N := some 57) (bb 11 1) HT_ ?_
   refine pu (i := 2) (N := some 59) (bb 11 5) HT_ ?_
   refine pu (i := 3) (N := some 60) (bb 11 13) HT_ ?_
   refine pu (i := 4) (N := some 61) (bb 11 29) HT_ ?_
   refine tk (i := 1) (N := some 58) (bb 11 31) HT_ HW_ hHeld ?_
   refine tk (i := 5) (N := some 62) (bb 11 63) HT_ HW_ hHeld ?_
   refine pu (i := 6) (N := some 63) (bb 11 127) HT_ ?_
   refine tk (i := 7) (N := some 64) (bb 11 255) HT_ HW_ hHeld ?_
   refine one_ (i := 8) (N := some 65) (bb 11 511) rfl rfl (one_of HT_.out (by kernel_rfl)) (by decide) (fun K hK => ?_)
   refine goes_ Try.func21 (by kernel_rfl) rfl #[.int .i64 (wrap64 (Int.tdiv a6 50)), .int .i64 (rd cards 0)] (by rfl) rfl rfl (by (try simp only [List.map_toArray, List.map_cons, List.map_nil]); first | done | rfl) ?_
   with_reducible refine (hypercubelaw1_within.calls (wrap64 (Int.tdiv a6 50)) (rd cards 0) v _ HV.out).mono ?_

   rintro e wd2 ⟨rfl, hd⟩
   replace HB := am (below_step HB.out hd.below)
   clear hd
   refine ⟨_, rfl, ?_⟩
   refine hK.out _ _ ⟨(HB.out.cell (World.block_lt_of_cell? w13 _ R0.out)).trans R0.out, (HB.out.cell (World.block_lt_of_cell? w13 _ S0.out)).trans S0.out, (HB.out.cell (World.block_lt_of_cell? w13 _ XC13.out)).trans XC13.out⟩ (fun hHeld => ?_)
   clear hK K
   refine nm ?_
   refine pu (i := 9) (N := some 66) (bb 11 1023) HT_ ?_
   refine last_ (i := 10) (N := none) (bb 11 2047) rfl rfl (one_of HT_.out (by kernel_rfl)) (by decide) (fun K hK => ?_)
   refine skip_ (w1 := wd2.setCell ⟨bk, 0, none⟩ (.int .i64 v)) rfl rfl (int_run (t := 3) (p := .tmp 66) (x := .tmp 65) rfl (blk_below HHK13.out HB.out) HCS.out (congrArg (fun q => Value.pointer (some q)) HDK.out) rfl (by rfl)) ?_
   refine hK.out _ _ ?_
   clear hK K
   refine done_ (done_of HT_.out (by kernel_rfl)) ?_
   have hap : apR rows ax v = rows.set ax ⟨x0.f0.set 0 v, x0.f1⟩ := by rw [← HX0.out]; exact if_pos HN.out
   have hS2 := Kd.S_below HSR13.out HB.out
   rw [HDA.out] at hS2
   have hS8 := key_put hS2 ax HAX.out rfl (by rw [HX0.out]; exact HM0.out) v ((HB.out.cell (World.block_lt_of_cell? w13 _ X013.out)).trans X013.out)
   rw [HX0.out, ← hap, ← e3, ← HDA.out] at hS8
   have hT2 := Kd.R_below HTR13.out HB.out
   rw [HDC.out] at hT2
   have hT8 := Kd.R_step (Kd.R_tight rfl hT2) (w1 := wd2.setCell ⟨bk, 0, none⟩ (.int .i64 v)) (fun k hk _ => Below.heap_setCell wd2 _ _ k (fun e => HNE.out (by
    have hk' : k = gc := by simpa [Value.ownBlock] using hk
    exact e.symm.trans hk')))
   rw [← HDC.out] at hT8
   have hb58 : Below w5.heap.size w5 (wd2.setCell ⟨bk, 0, none⟩ (.int .i64 v)) := below_set (below_step HB513.out HB.out) (Nat.le_trans HB57.out.size HBK.out)
   have hg8 := (Below.heap_setCell wd2 ⟨bk, 0, none⟩ (.int .i64 v) gt (by have := HLT.out; have := HBK.out; show gt ≠ bk; omega)).trans (blk_below HGT13.out HB.out)
   have hlen : tr.length = rows.length := by rw [e3, apR_length]
   rw [show Value.slice (some ada) rows.length cn = .slice (some ada) tr.length cn by rw [hlen]] at hS8 ⊢
   have HGT := am hg8
   have HT8 := am (Kd.R_reads' hT8).2
   have HM8 : Aside0 (tr.length ≤ cn ∧ Kd.C k33 _ (some ada) tr.length tr) := ⟨(Kd.S_reads' hS8).2⟩
   have HX8 := am (And.intro HX5.out.1 (Kd.C_below HX5.out.2 hb58))
   have HY8 := am (And.intro HY5.out.1 (Kd.C_below HY5.out.2 hb58))
   have HK8 := am (blk_below HK5.out hb58)
   have HB8 := am (below_step HB15.out hb58)
   clear hS2 hS8 hT2 hT8 hb58 hg8 hlen hap e3 HB HX0 HSR13 HTR13 HGT13 HHK13 X013 XC13 R0 S0 HB513 HGR hHeld HT_ HW_
   generalize wd2.setCell ⟨bk, 0, none⟩ (.int .i64 v) = w8 at *
   have Q0 := am (bc HK8 0)
   have Q1 := am (bc HK8 1)
   have T0 := am (bc HGT 0)
   have T1 := am (bc HGT 1)
   have hq2 := H11.out
   obtain ⟨s1, hs1⟩ : ∃ s, s = strOfNums b := ⟨_, rfl⟩
   obtain ⟨s2, hs2⟩ : ∃ s, s = strOfNums b2 := ⟨_, rfl⟩
   rw [← hs1, ← hs2] at hq2
   have HS1 := am hs1
   have HS2 := am hs2
   clear hs1 hs2
   go_wp2
   refine start_ (n := 16) (S := fun w' => w'.cell? ⟨gb, 0, none⟩ = some (.slice A14 cards.length c14) ∧ w'.cell? ⟨gb, 1, none⟩ = some (.int .i64 meas) ∧ w'.cell? ⟨gt, 0, none⟩ = some (.slice (some adc) cards.length cu) ∧ w'.cell? ⟨gt, 1, none⟩ = some (.int .i64 meas)) (ds := []) (bb 16 0) (by kernel_rfl) rfl rfl ⟨Q0.out, Q1.out, T0.out, T1.out⟩ (fun hHeld => ?_)
   refine with_tabW hypercubelaw1_RecApart.tab10 hypercubelaw1_RecApart.bits10 (fun HT_ HW_ => ?_)
   have HB := am (below_drew (Below.refl w8.heap.size w8))
   generalize w8.drew = wd at HB hHeld ⊢
   refine pu (i := 1) (N := some 68) (bb 16 2) HT_ ?_
   refine pu (i := 5) (N := some 72) (bb 16 34) HT_ ?_
   refine pu (i := 10) (N := some 77) (bb 16 1058) HT_ ?_
   refine pu (i := 12) (N := some 79) (bb 16 5154) HT_ ?_
   refine tk (i := 0) (N := some 67) (bb 16 5155) HT_ HW_ hHeld ?_
   refine tk (i := 4) (N := some 71) (bb 16 5171) HT_ HW_ hHeld ?_
   refine tk (i := 9) (N := some 76) (bb 16 5683) HT_ HW_ hHeld ?_
   refine tk (i := 11) (N := some 78) (bb 16 7731) HT_ HW_ hHeld ?_
   refine one_ (i := 2) (N := some 69) (bb 16 7735) rfl rfl (one_of HT_.out (by kernel_rfl)) (by decide) (fun K hK => ?_)
   refine goes_ Try.func22 (by kernel_rfl) rfl #[.agg #[.slice A14 cards.length c14, .int .i64 meas], .slice A15 rows.length c15] (by rfl) rfl rfl (by (try simp only [List.map_toArray, List.map_cons, List.map_nil]); first | done | rfl) ?_
   with_reducible refine (rec_Encode.calls k A14 c14 cards meas A15 c15 rows b _ (Kd.C_below HX8.out.2 HB.out) HX8.out.1 (Kd.C_below HY8.out.2 HB.out) HY8.out.1 H8.out).mono ?_

   rintro e wp ⟨vp, rfl, ho0, hb⟩
   obtain ⟨Ap, cp, rfl⟩ := Kd.R_slice ho0
   have Cp : Aside0 (∀ W : World, Below wp.heap.size wp W → (convert 36 9 (.slice Ap b.length cp)).run Try.prog W = .ok (.string s1) W) := ⟨fun W hB => by rw [HS1.out]; exact Kd.C_string Try.underlying36 Try.underlying5 Try.underlying9 (Kd.C_below (Kd.R_reads' ho0).2.2 hB)⟩
   replace HB := am (below_step HB.out hb)
   have Hp := am (Below.refl wp.heap.size wp)
   clear hb ho0
   refine ⟨_, rfl, ?_⟩
   refine hK.out _ _ ⟨(HB.out.cell (World.block_lt_of_cell? w8 _ Q0.out)).trans Q0.out, (HB.out.cell (World.block_lt_of_cell? w8 _ Q1.out)).trans Q1.out, (HB.out.cell (World.block_lt_of_cell? w8 _ T0.out)).trans T0.out, (HB.out.cell (World.block_lt_of_cell? w8 _ T1.out)).trans T1.out⟩ (fun hHeld => ?_)
   clear hK K
   refine nm ?_
   refine narrow_ (fun w' => (convert 36 9 (.slice Ap b.length cp)).run Try.prog w' = .ok (.string s1) w') (Cp.out _ Hp.out) hHeld (fun hHeld => ?_)
   refine tk (i := 3) (N := some 70) (bb 16 7743) HT_ HW_ hHeld ?_
   refine one_ (i := 6) (N := some 73) (bb 16 7807) rfl rfl (one_of HT_.out (by kernel_rfl)) (by decide) (fun K hK => ?_)
   refine goes_ Try.func22 (by kernel_rfl) rfl #[.agg #[.slice (some adc) cards.length cu, .int .i64 meas], .slice (some ada) tr.length cn] (by rfl) rfl rfl (by (try simp only [List.map_toArray, List.map_cons, List.map_nil]); first | done | rfl) ?_
   with_reducible refine (rec_Encode.calls k (some adc) cu cards meas (some ada) cn tr b2 _ (Kd.C_below HT8.out.2 HB.out) HT8.out.1 (Kd.C_below HM8.out.2 HB.out) HM8.out.1 H9.out).mono ?_

   rintro e wq ⟨vq, rfl, ho0, hb⟩
   obtain ⟨Aq, cq, rfl⟩ := Kd.R_slice ho0
   have Cq : Aside0 (∀ W : World, Below wq.heap.size wq W → (convert 36 9 (.slice Aq b2.length cq)).run Try.prog W = .ok (.string s2) W) := ⟨fun W hB => by rw [HS2.out]; exact Kd.C_string Try.underlying36 Try.underlying5 Try.underlying9 (Kd.C_below (Kd.R_reads' ho0).2.2 hB)⟩
   replace HB := am (below_step HB.out hb)
   replace Hp := am (below_step Hp.out hb)
   have Hq := am (Below.refl wq.heap.size wq)
   clear hb ho0
   refine ⟨_, rfl, ?_⟩
   refine hK.out _ _ ⟨Cp.out _ Hp.out, (HB.out.cell (World.block_lt_of_cell? w8 _ Q0.out)).trans Q0.out, (HB.out.cell (World.block_lt_of_cell? w8 _ Q1.out)).trans Q1.out, (HB.out.cell (World.block_lt_of_cell? w8 _ T0.out)).trans T0.out, (HB.out.cell (World.block_lt_of_cell? w8 _ T1.out)).trans T1.out⟩ (fun hHeld => ?_)
   clear hK K
   refine nm ?_
   refine narrow_ (fun w' => (convert 36 9 (.slice Aq b2.length cq)).run Try.prog w' = .ok (.string s2) w') (Cq.out _ Hq.out) hHeld (fun hHeld => ?_)
   refine tk (i := 7) (N := some 74) (bb 16 7935) HT_ HW_ hHeld ?_
   refine pu (i := 8) (N := some 75) (bb 16 8191) HT_ ?_
   refine one_ (i := 13) (N := some 80) (bb 16 16383) rfl rfl (one_of HT_.out (by kernel_rfl)) (by decide) (fun K hK => ?_)
   refine goes_ Try.func25 (by kernel_rfl) rfl #[.agg #[.slice A14 cards.length c14, .int .i64 meas], .slice A15 rows.length c15, .agg #[.slice (some adc) cards.length cu, .int .i64 meas], .slice (some ada) tr.length cn] (by rfl) rfl rfl (by (try simp only [List.map_toArray, List.map_cons, List.map_nil]); first | done | rfl) ?_
   with_reducible refine (hypercuberef1_Same.calls k A14 c14 cards meas A15 c15 rows (some adc) cu cards meas (some ada) cn tr q _ (Kd.C_below HX8.out.2 HB.out) HX8.out.1 (Kd.C_below HY8.out.2 HB.out) HY8.out.1 (Kd.C_below HT8.out.2 HB.out) HT8.out.1 (Kd.C_below HM8.out.2 HB.out) HM8.out.1 H10.out).mono ?_

   rintro e wd3 ⟨rfl, hb⟩
   replace HB := am (below_step HB.out hb)
   replace Hp := am (below_step Hp.out hb)
   replace Hq := am (below_step Hq.out hb)
   clear hb
   refine ⟨_, rfl, ?_⟩
   refine hK.out _ _ ⟨Cq.out _ Hq.out, Cp.out _ Hp.out, (HB.out.cell (World.block_lt_of_cell? w8 _ Q0.out)).trans Q0.out, (HB.out.cell (World.block_lt_of_cell? w8 _ Q1.out)).trans Q1.out, (HB.out.cell (World.block_lt_of_cell? w8 _ T0.out)).trans T0.out, (HB.out.cell (World.block_lt_of_cell? w8 _ T1.out)).trans T1.out⟩ (fun hHeld => ?_)
   clear hK K
   refine nm ?_
   refine pu (i := 14) (N := some 81) (bb 16 32767) HT_ ?_
   refine pu (i := 15) (N := some 14) (bb 16 65535) HT_ ?_
   refine done_ (done_of HT_.out (by kernel_rfl)) ?_
   go_wp2
   go_ret
   exact ⟨by first | rfl | (simp; done) | (simp [hq2]; done) | exact congrArg (fun x => Ending.returned (.bool x)) (by simpa using hq2), below_step HB1.out (below_step HB8.out HB.out)⟩
  ·have hn1 : decide ((rows.length : Int) > 0) = false := decide_eq_false (by omega)
   have hn2 : decide (0 < (rows.length : Int)) = false := decide_eq_false (by omega)
   have hn3 : decide (0 < rows.length) = false := decide_eq_false hn
   have hnil := eq_true (show rows = [] from List.eq_nil_of_length_eq_zero (by omega))
   have hap : apR rows ax v = rows := if_neg hn
   clear hn
   rw [hap] at e3
   have e3 := e3.symm
   subst e3
   go_wp2
   generalize hw8 : (w9.setCell ⟨gt, 0, none⟩ (.slice Au cards.length cu)).setCell ⟨gt, 1, none⟩ (.int .i64 meas) = w8
   have hfar : ∀ k, k ≠ gt → w8.heap[k]? = w9.heap[k]? := fun k hk => by rw [← hw8]; exact (Below.heap_setCell _ _ _ k hk).trans (Below.heap_setCell _ _ _ k hk)
   have hb58 : Below w5.heap.size w5 w8 := by rw [← hw8]; exact below_set (below_set HB59.out HGL.out) HGL.out
   have HGT := am (show w8.heap[gt]? = some (.cells #[.slice Au cards.length cu, .int .i64 meas] 24 (0, 0)) by rw [← hw8]; exact blk_put (blk_put HGT9.out 0 _ rfl) 1 _ rfl)
   have HT8 := am (Kd.R_reads' (R_far HTR.out (fun k hk => hfar k (by have := HLT.out; omega)))).2
   have HM8 : Aside0 (rows.length ≤ cn ∧ Kd.C k33 w8 An rows.length rows) := ⟨(Kd.S_reads' (S_far HSR.out (fun k hk => hfar k (by have := HLT.out; omega)))).2⟩
   have HX8 := am (And.intro HX5.out.1 (Kd.C_below HX5.out.2 hb58))
   have HY8 := am (And.intro HY5.out.1 (Kd.C_below HY5.out.2 hb58))
   have HK8 := am (blk_below HK5.out hb58)
   have HB8 := am (below_step HB15.out hb58)
   clear hw8 hfar hb58 hct0 hct1 hft0 hft1 HTR HSR HGT9 HB59 hap
   have Q0 := am (bc HK8 0)
   have Q1 := am (bc HK8 1)
   have T0 := am (bc HGT 0)
   have T1 := am (bc HGT 1)
   have hq2 := H11.out
   obtain ⟨s1, hs1⟩ : ∃ s, s = strOfNums b := ⟨_, rfl⟩
   obtain ⟨s2, hs2⟩ : ∃ s, s = strOfNums b2 := ⟨_, rfl⟩
   rw [← hs1, ← hs2] at hq2
   have HS1 := am hs1
   have HS2 := am hs2
   clear hs1 hs2
   go_wp2
   refine start_ (n := 16) (S := fun w' => w'.cell? ⟨gb, 0, none⟩ = some (.slice A14 cards.length c14) ∧ w'.cell? ⟨gb, 1, none⟩ = some (.int .i64 meas) ∧ w'.cell? ⟨gt, 0, none⟩ = some (.slice Au cards.length cu) ∧ w'.cell? ⟨gt, 1, none⟩ = some (.int .i64 meas)) (ds := []) (bb 16 0) (by kernel_rfl) rfl rfl ⟨Q0.out, Q1.out, T0.out, T1.out⟩ (fun hHeld => ?_)
   refine with_tabW hypercubelaw1_RecApart.tab10 hypercubelaw1_RecApart.bits10 (fun HT_ HW_ => ?_)
   have HB := am (below_drew (Below.refl w8.heap.size w8))
   generalize w8.drew = wd at HB hHeld ⊢
   refine pu (i := 1) (N := some 68) (bb 16 2) HT_ ?_
   refine pu (i := 5) (N := some 72) (bb 16 34) HT_ ?_
   refine pu (i := 10) (N := some 77) (bb 16 1058) HT_ ?_
   refine pu (i := 12) (N := some 79) (bb 16 5154) HT_ ?_
   refine tk (i := 0) (N := some 67) (bb 16 5155) HT_ HW_ hHeld ?_
   refine tk (i := 4) (N := some 71) (bb 16 5171) HT_ HW_ hHeld ?_
   refine tk (i := 9) (N := some 76) (bb 16 5683) HT_ HW_ hHeld ?_
   refine tk (i := 11) (N := some 78) (bb 16 7731) HT_ HW_ hHeld ?_
   refine one_ (i := 2) (N := some 69) (bb 16 7735) rfl rfl (one_of HT_.out (by kernel_rfl)) (by decide) (fun K hK => ?_)
   refine goes_ Try.func22 (by kernel_rfl) rfl #[.agg #[.slice A14 cards.length c14, .int .i64 meas], .slice A15 rows.length c15] (by rfl) rfl rfl (by (try simp only [List.map_toArray, List.map_cons, List.map_nil]); first | done | rfl) ?_
   with_reducible refine (rec_Encode.calls k A14 c14 cards meas A15 c15 rows b _ (Kd.C_below HX8.out.2 HB.out) HX8.out.1 (Kd.C_below HY8.out.2 HB.out) HY8.out.1 H8.out).mono ?_

   rintro e wp ⟨vp, rfl, ho0, hb⟩
   obtain ⟨Ap, cp, rfl⟩ := Kd.R_slice ho0
   have Cp : Aside0 (∀ W : World, Below wp.heap.size wp W → (convert 36 9 (.slice Ap b.length cp)).run Try.prog W = .ok (.string s1) W) := ⟨fun W hB => by rw [HS1.out]; exact Kd.C_string Try.underlying36 Try.underlying5 Try.underlying9 (Kd.C_below (Kd.R_reads' ho0).2.2 hB)⟩
   replace HB := am (below_step HB.out hb)
   have Hp := am (Below.refl wp.heap.size wp)
   clear hb ho0
   refine ⟨_, rfl, ?_⟩
   refine hK.out _ _ ⟨(HB.out.cell (World.block_lt_of_cell? w8 _ Q0.out)).trans Q0.out, (HB.out.cell (World.block_lt_of_cell? w8 _ Q1.out)).trans Q1.out, (HB.out.cell (World.block_lt_of_cell? w8 _ T0.out)).trans T0.out, (HB.out.cell (World.block_lt_of_cell? w8 _ T1.out)).trans T1.out⟩ (fun hHeld => ?_)
   clear hK K
   refine nm ?_
   refine narrow_ (fun w' => (convert 36 9 (.slice Ap b.length cp)).run Try.prog w' = .ok (.string s1) w') (Cp.out _ Hp.out) hHeld (fun hHeld => ?_)
   refine tk (i := 3) (N := some 70) (bb 16 7743) HT_ HW_ hHeld ?_
   refine one_ (i := 6) (N := some 73) (bb 16 7807) rfl rfl (one_of HT_.out (by kernel_rfl)) (by decide) (fun K hK => ?_)
   refine goes_ Try.func22 (by kernel_rfl) rfl #[.agg #[.slice Au cards.length cu, .int .i64 meas], .slice An rows.length cn] (by rfl) rfl rfl (by (try simp only [List.map_toArray, List.map_cons, List.map_nil]); first | done | rfl) ?_
   with_reducible refine (rec_Encode.calls k Au cu cards meas An cn rows b2 _ (Kd.C_below HT8.out.2 HB.out) HT8.out.1 (Kd.C_below HM8.out.2 HB.out) HM8.out.1 H9.out).mono ?_

   rintro e wq ⟨vq, rfl, ho0, hb⟩
   obtain ⟨Aq, cq, rfl⟩ := Kd.R_slice ho0
   have Cq : Aside0 (∀ W : World, Below wq.heap.size wq W → (convert 36 9 (.slice Aq b2.length cq)).run Try.prog W = .ok (.string s2) W) := ⟨fun W hB => by rw [HS2.out]; exact Kd.C_string Try.underlying36 Try.underlying5 Try.underlying9 (Kd.C_below (Kd.R_reads' ho0).2.2 hB)⟩
   replace HB := am (below_step HB.out hb)
   replace Hp := am (below_step Hp.out hb)
   have Hq := am (Below.refl wq.heap.size wq)
   clear hb ho0
   refine ⟨_, rfl, ?_⟩
   refine hK.out _ _ ⟨Cp.out _ Hp.out, (HB.out.cell (World.block_lt_of_cell? w8 _ Q0.out)).trans Q0.out, (HB.out.cell (World.block_lt_of_cell? w8 _ Q1.out)).trans Q1.out, (HB.out.cell (World.block_lt_of_cell? w8 _ T0.out)).trans T0.out, (HB.out.cell (World.block_lt_of_cell? w8 _ T1.out)).trans T1.out⟩ (fun hHeld => ?_)
   clear hK K
   refine nm ?_
   refine narrow_ (fun w' => (convert 36 9 (.slice Aq b2.length cq)).run Try.prog w' = .ok (.string s2) w') (Cq.out _ Hq.out) hHeld (fun hHeld => ?_)
   refine tk (i := 7) (N := some 74) (bb 16 7935) HT_ HW_ hHeld ?_
   refine pu (i := 8) (N := some 75) (bb 16 8191) HT_ ?_
   refine one_ (i := 13) (N := some 80) (bb 16 16383) rfl rfl (one_of HT_.out (by kernel_rfl)) (by decide) (fun K hK => ?_)
   refine goes_ Try.func25 (by kernel_rfl) rfl #[.agg #[.slice A14 cards.length c14, .int .i64 meas], .slice A15 rows.length c15, .agg #[.slice Au cards.length cu, .int .i64 meas], .slice An rows.length cn] (by rfl) rfl rfl (by (try simp only [List.map_toArray, List.map_cons, List.map_nil]); first | done | rfl) ?_
   with_reducible refine (hypercuberef1_Same.calls k A14 c14 cards meas A15 c15 rows Au cu cards meas An cn rows q _ (Kd.C_below HX8.out.2 HB.out) HX8.out.1 (Kd.C_below HY8.out.2 HB.out) HY8.out.1 (Kd.C_below HT8.out.2 HB.out) HT8.out.1 (Kd.C_below HM8.out.2 HB.out) HM8.out.1 H10.out).mono ?_

   rintro e wd3 ⟨rfl, hb⟩
   replace HB := am (below_step HB.out hb)
   replace Hp := am (below_step Hp.out hb)
   replace Hq := am (below_step Hq.out hb)
   clear hb
   refine ⟨_, rfl, ?_⟩
   refine hK.out _ _ ⟨Cq.out _ Hq.out, Cp.out _ Hp.out, (HB.out.cell (World.block_lt_of_cell? w8 _ Q0.out)).trans Q0.out, (HB.out.cell (World.block_lt_of_cell? w8 _ Q1.out)).trans Q1.out, (HB.out.cell (World.block_lt_of_cell? w8 _ T0.out)).trans T0.out, (HB.out.cell (World.block_lt_of_cell? w8 _ T1.out)).trans T1.out⟩ (fun hHeld => ?_)
   clear hK K
   refine nm ?_
   refine pu (i := 14) (N := some 81) (bb 16 32767) HT_ ?_
   refine pu (i := 15) (N := some 14) (bb 16 65535) HT_ ?_
   refine done_ (done_of HT_.out (by kernel_rfl)) ?_
   go_wp2
   go_ret
   exact ⟨by first | rfl | (simp; done) | (simp [hq2]; done) | exact congrArg (fun x => Ending.returned (.bool x)) (by simpa using hq2), below_step HB1.out (below_step HB8.out HB.out)⟩
theorem hypercubelaw1_RecApart.walk (P : hypercubelaw1_RecApart.Pure) (a0 : Int) (a1 : Option Addr) (len1 cap1 : Nat) (z1 : List Int) (a2 : Int) (a3 : Option Addr) (len3 cap3 : Nat) (z3 : List Int) (a4 : Option Addr) (len4 cap4 : Nat) (z4 : List Int) (a5 : Bool) (a6 : Int) (w : World) (w0 : (Lit.int .i64 a0).wf = true) (w1 : (a1 = none ∧ len1 = 0 ∧ cap1 = 0 ∧ z1 = []) ∨ ∃ x, a1 = some x ∧ len1 ≤ cap1 ∧ cap1 ≤ maxLen ∧ z1.length = cap1 ∧ (∀ i, i < z1.length → w.cell? (x.add i) = some (.int .i64 (z1.getD i 0))) ∧ ∀ n ∈ z1, (Lit.int .i64 n).wf = true) (y1 : len1 * 8 ≤ 140737488351232) (w2 : (Lit.int .i64 a2).wf = true) (w3 : (a3 = none ∧ len3 = 0 ∧ cap3 = 0 ∧ z3 = []) ∨ ∃ x, a3 = some x ∧ len3 ≤ cap3 ∧ cap3 ≤ maxLen ∧ z3.length = cap3 ∧ (∀ i, i < z3.length → w.cell? (x.add i) = some (.int .i64 (z3.getD i 0))) ∧ ∀ n ∈ z3, (Lit.int .i64 n).wf = true) (y3 : len3 * 8 ≤ 140737488351232) (w4 : (a4 = none ∧ len4 = 0 ∧ cap4 = 0 ∧ z4 = []) ∨ ∃ x, a4 = some x ∧ len4 ≤ cap4 ∧ cap4 ≤ maxLen ∧ z4.length = cap4 ∧ (∀ i, i < z4.length → w.cell? (x.add i) = some (.int .i64 (z4.getD i 0))) ∧ ∀ n ∈ z4, (Lit.int .i64 n).wf = true) (y4 : len4 * 8 ≤ 140737488351232) (w6 : (Lit.int .i64 a6).wf = true) :
  Calls Try.prog 10 #[.int .i64 a0, .slice a1 len1 cap1, .int .i64 a2, .slice a3 len3 cap3, .slice a4 len4 cap4, .bool a5, .int .i64 a6] w fun e w' => e = .returned (.bool true) ∧ Below w.heap.size w w' := by
 obtain ⟨l1, rfl, hr1, hm1, hw1, hc1⟩ := ReadsInt.ofRowC w1
 obtain ⟨l3, rfl, hr3, hm3, hw3, hc3⟩ := ReadsInt.ofRowC w3
 obtain ⟨l4, rfl, hr4, hm4, hw4, hc4⟩ := ReadsInt.ofRowC w4
 obtain ⟨k, cards, meas, rows, cards2, meas2, rows2, ax, v, tc, tm, tr, b, b2, q, h1, h2, h3, h4, h5, h6, h7, h8, h9, h10, h11⟩ := P a0 l1 a2 l3 l4 a5 a6 w0 hm1 y1 hw1 w2 hm3 y3 hw3 hm4 y4 hw4 w6
 exact hypercubelaw1_RecApart.calls k a0 _ _ l1 a2 _ _ l3 _ _ l4 a5 a6 w (Kd.C_of_reads (d := (0 : Int)) (h1 := fun _ => rfl) hr1) hc1 (Kd.C_of_reads (d := (0 : Int)) (h1 := fun _ => rfl) hr3) hc3 (Kd.C_of_reads (d := (0 : Int)) (h1 := fun _ => rfl) hr4) hc4 h1 h2 h3 h4 h5 h6 h7 h8 h9 h10 h11
end Go.Proofs.Ytlacfpbfnedgdaa.Q
