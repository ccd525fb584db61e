-- packed by wip/tools/pack.py (a program of this session) out of its own texts
import Derived.Test.YtmkjkkmilopcpaaPCellBack0
import Derived.ArgAppend
import Derived.Below
import Derived.BigQuiet
import Derived.Deep.AppendLies
import Derived.Deep.CutBlock
import Derived.Deep.DeepCutAuto
import Derived.Deep.Draws
import Derived.Deep.LoopGhost
import Derived.Deep.OwnRows
import Derived.Deep.QuietTactic
import Derived.Deep.RegionHeld3
import Derived.KernelRfl
import Derived.Laws.BitsLemmas
import Derived.Laws.BytesArg
import Derived.Laws.IdiomCopy
import Derived.Laws.MakeOwn
import Derived.Laws.OwnMore
import Derived.Laws.Rows
import Derived.Laws.Slices
import Derived.Lib.AppendStr
import Derived.Lib.ConvBytes
import Derived.Lib.SliceRun
import Derived.Maps.AppendAt
import Derived.OrdersHeld
import Derived.OwnWalk
import Derived.RowKit
import Derived.RowKit3
import Derived.Tactics
import Derived.Test.YtmkjkkmilopcpaaProg
import Derived.WalkKit
import Derived.WalkSpells
import Derived.WideLaws
import Derived.Test.YtmkjkkmilopcpaaPCellBack1
import Derived.Test.YtmkjkkmilopcpaaPCellBack3
import Derived.Test.YtmkjkkmilopcpaaPCellBack4
import Derived.Test.YtmkjkkmilopcpaaPCellBack5
import Derived.Test.YtmkjkkmilopcpaaPCellBack6
namespace Go.Proofs.Ytmkjkkmilopcpaa.Q
open Go.RowKit Go.Proofs.YtmkjkkmilopcpaaW.PrintWords Go.Proofs.YtmkjkkmilopcpaaW.PrintLast Go.Proofs.YtmkjkkmilopcpaaW.PrintMore
set_option linter.unusedVariables false
set_option linter.unusedSimpArgs false
def slices_Clone_int_int.f (l0 : List Int) : Option (List Int) := if l0.length * 8 ≤ 140737488355328 then some l0 else none
set_option maxHeartbeats 2000000 in
theorem slices_Clone_int_int.calls (A0 : Option Addr) (c0 : Nat) (l0 : List Int) (r : List Int) (w : World) (hr0 : Kd.C (Kd.int .i64) w A0 l0.length l0) (hc0 : l0.length ≤ c0) (h : slices_Clone_int_int.f l0 = some r) :
  Calls Try.prog 40 #[.slice A0 l0.length c0] w fun e w' => ∃ v0_ : Value, e = .returned (v0_) ∧ Kd.R (Kd.int .i64) 3 w' w.heap.size (fun _ => True) v0_ r ∧ Below w.heap.size w w' := by
 unfold slices_Clone_int_int.f at h
 split at h
 case isFalse => cases h
 case isTrue hl =>
 obtain rfl := Option.some.inj h
 clear h
 have heq : ∀ W : World, (binOp .eql 22 (.slice A0 l0.length c0) (.slice none 0 0)).run Try.prog W = .ok (.bool A0.isNone) W := fun W => Lib.run_eql_slice_nil W _ _ A0 _ _ _ _ Try.underlying22
 cases A0 with
 | none =>
  have hb : (none : Option Addr).isNone = true := rfl
  rw [hb] at heq
  have hn : Aside0 (l0 = []) := ⟨by
   cases l0 with
   | nil => rfl
   | cons x xs => obtain ⟨ad, e, _⟩ := (Kd.reads_of_C (d := x) hr0).2.2 (by simp); cases e⟩
  clear hr0
  go_enter Try.func40, Try.ntmps40
  go_wp2
  go_ret
  obtain rfl := hn.out
  exact ⟨_, rfl, Kd.R_nil _ _ _ _ _, Below.refl _ _⟩
 | some ad =>
  have hb : (some ad).isNone = false := rfl
  rw [hb] at heq
  have hlen : (([] : List Int).length + l0.length) * 8 ≤ 140737488355328 := by simpa using hl
  have HR := am (Kd.C_alloc hr0 (.cells #[] 3))
  have HN : Aside0 (Kd.R (Kd.int .i64) 3 (w.alloc (.cells #[] 3)) w.heap.size (fun _ => True) (.slice (some ⟨w.heap.size, 0, none⟩) 0 0) []) := by
   obtain hl := OwnRow.lit (R := (Kd.int .i64).M (w.alloc (.cells #[] 3)) w.heap.size (fun k => True ∧ some k ≠ (Value.slice (some ⟨w.heap.size, 0, none⟩) 0 0).ownBlock)) (e := 3) (size := (Kd.int .i64).sz) (ps := ([] : List Int)) w w.heap.size (inner := []) (Reps.none _ _) (Nat.le_refl _) (by simp)
   exact ⟨⟨fun k hk => trivial, hl⟩⟩
  clear hr0
  go_enter Try.func40, Try.ntmps40
  go_wp2_with (((with_reducible refine gate_builtin (b := .append) (xs := #[.tmp 5, .tmp 6]) rfl ?_); at_builtin; refine Kd.R_append_rows (Kd.int .i64) (w0 := w) w.heap.size rfl (.tmp 5) (.tmp 6) 22 3 (.int .i64 0) 8 rfl Try.underlying22 info3 rfl (by decide) (by decide) (.slice (some ⟨w.heap.size, 0, none⟩) 0 0) [] l0 _ _ _ (fun _ => True) (fun _ => False) rfl rfl HN.out HR.out (fun _ _ h => h) (fun k hk => hk.elim) (fun k hk => trivial) ((Below.refl _ w).alloc (Nat.le_refl _) _) (by simp) hlen ?_; intro v3 w3 ho hb hg hat; have O3 := am ho; have B3 := am hb; clear ho hb hg hat))
  go_ret
  exact ⟨_, rfl, O3.out, B3.out⟩
end Go.Proofs.Ytmkjkkmilopcpaa.Q
namespace Go.Proofs.Ytmkjkkmilopcpaa.Q
open Go.RowKit Go.Proofs.YtmkjkkmilopcpaaW.PrintWords Go.Proofs.YtmkjkkmilopcpaaW.PrintLast Go.Proofs.YtmkjkkmilopcpaaW.PrintMore
attribute [local go_sem] max2_int min2_int max_two min_two max_three min_three max_four min_four
set_option linter.unusedVariables false
set_option linter.unusedSimpArgs false
def cell_Join_3.f (a0 : Int) (a1 : Int) : Option (Int) := some (mx a0 a1)
set_option maxHeartbeats 8000000 in
set_option maxRecDepth 100000 in
theorem cell_Join_3.calls (a0 : Int) (a1 : Int) (r : Int) (w : World) (h : cell_Join_3.f a0 a1 = some r) :
  Calls Try.prog 44 #[.int .i64 a0, .int .i64 a1] w fun e w' => e = .returned (.int .i64 r) ∧ Below w.heap.size w w' := by
 have HB := am (Below.refl w.heap.size w)
 have H : (some (mx a0 a1)) = some r := h
 clear h
 obtain ⟨ji3, hji3⟩ : ∃ j_ : Int, (mx a0 a1) = j_ := ⟨_, rfl⟩
 replace H : (some ji3) = some r := by first | (rw [hji3] at H; exact H) | (simp only [hji3] at H ⊢; exact H)
 have hji3_ : (if a0 < a1 then a1 else a0) = ji3 := hji3
 obtain rfl := Option.some.inj H
 go_enter Try.func44, Try.ntmps44
 go_wp2
 go_ret
 exact ⟨by first | rfl | (simp [errW_none, errW_some] <;> rfl) | (simp only [← hji3]; first | rfl | (simp [errW_none, errW_some] <;> rfl)) | (simp [*, errW_none, errW_some] <;> rfl), zw HB⟩
def cell_both_J3.l0 : Nat → List Int → List Int → List Int → Int → Int → Option (List Int)
 | 0, _, _, _, _, _ => none
 | k + 1, x1, x7, x10, x11, x12 => if x12 < x11 then (if 0 ≤ x12 then (if x12 < (x10.length : Int) then (if x12 < (x1.length : Int) then ((cell_Join_3.f (rd x10 x12) (rd x1 x12)).bind fun t109 => (if x7.length < 17592186044416 then (cell_both_J3.l0 k x1 (x7 ++ [t109]) x10 x11 (wrap64 (x12 + 1))) else (none))) else (cell_both_J3.l0 k x1 x7 x10 x11 (wrap64 (x12 + 1)))) else (none)) else (none)) else ((slices_Clone_int_int.f x7).bind fun t113 => (some t113))
def cell_both_J3.f (k : Nat) (l0 : List Int) (l1 : List Int) : Option (List Int) := cell_both_J3.l0 k l1 ([] : List Int) l0 (l0.length : Int) 0
set_option maxHeartbeats 8000000 in
set_option maxRecDepth 100000 in
theorem cell_both_J3.calls (k : Nat) (A0 : Option Addr) (c0 : Nat) (l0 : List Int) (A1 : Option Addr) (c1 : Nat) (l1 : List Int) (r : List Int) (w : World) (hr0 : Kd.C (Kd.int .i64) w A0 l0.length l0) (hc0 : l0.length ≤ c0) (hr1 : Kd.C (Kd.int .i64) w A1 l1.length l1) (hc1 : l1.length ≤ c1) (h : cell_both_J3.f k l0 l1 = some r) :
  Calls Try.prog 41 #[.slice A0 l0.length c0, .slice A1 l1.length c1, .func (.func 44) #[] #[]] w fun e w' => ∃ v0_ : Value, e = .returned (v0_) ∧ Kd.R (Kd.int .i64) 3 w' w.heap.size (fun _ => True) v0_ r ∧ Below w.heap.size w w' := by
 have HR0 := am hr0
 have HC0 := am hc0
 clear hr0 hc0
 have HR1 := am hr1
 have HC1 := am hc1
 clear hr1 hc1
 have HB := am (Below.refl w.heap.size w)
 have H : (cell_both_J3.l0 k l1 ([] : List Int) l0 (l0.length : Int) 0) = some r := h
 clear h
 have H' := am H
 clear H
 go_enter Try.func41, Try.ntmps41
 go_wp2
 go_loopg [7, 12] k (fun kq v7 v12 w' => ∃ (x7_1 : List Int) (x12_1 : Int), v12 = .int .i64 x12_1 ∧ Aside0 (cell_both_J3.l0 kq l1 x7_1 l0 (l0.length : Int) x12_1 = some r) ∧ Aside0 (kq ≤ k) ∧ Aside0 (Kd.R (Kd.int .i64) 3 w' w.heap.size (fun _ => True) v7 x7_1) ∧ Aside0 (Below w.heap.size w w'))
 case atStart => exact ⟨(([] : List Int)), (0), zz, H', ⟨Nat.le_refl _⟩, ⟨by first | exact Kd.R_nil _ _ _ _ _ | exact Kd.N_nil _ _ _ _ _ | exact Kd.V_nil _ _ _ _ _ | exact Kd.Q_nil _ _ _ _ _ | exact Kd.S_nil _ _ _ _ _⟩, ⟨zw HB⟩⟩
 case round =>
  clear H'
  try clear c1
  try clear p2
  obtain ⟨x7_1, x12_1, rfl, HA, HK1, HO_7, HB⟩ := hrel
  cases gk with
  | zero => exact absurd HA.out (by simp [cell_both_J3.l0])
  | succ k1 =>
   have H := HA.out
   clear HA
   simp only [cell_both_J3.l0] at H
   by_cases c3 : x12_1 < (l0.length : Int)
   ·rw [if_pos c3] at H
    have c3b0 : decide (x12_1 < (l0.length : Int)) = true := decide_eq_true c3
    clear c3
    by_cases c4 : 0 ≤ x12_1
    ·rw [if_pos c4] at H
     have c4b0 : decide (0 ≤ x12_1) = true := decide_eq_true c4
     clear c4
     by_cases c5 : x12_1 < (l0.length : Int)
     ·rw [if_pos c5] at H
      have c5b0 : decide (x12_1 < (l0.length : Int)) = true := decide_eq_true c5
      clear c5
      by_cases c6 : x12_1 < (l1.length : Int)
      ·rw [if_pos c6] at H
       have c6b0 : decide (x12_1 < (l1.length : Int)) = true := decide_eq_true c6
       clear c6
       replace H := Option.bind_eq_some_iff.mp H
       obtain ⟨t109, A70, H⟩ := H
       replace H : (if x7_1.length < 17592186044416 then (cell_both_J3.l0 k1 l1 (x7_1 ++ [t109]) l0 (l0.length : Int) (wrap64 (x12_1 + 1))) else (none)) = some r := H
       have A7 := am A70
       clear A70
       by_cases c8 : x7_1.length < 17592186044416
       ·rw [if_pos c8] at H
        have LMc8 := am c8
        clear c8
        obtain ⟨y110, hy110⟩ : ∃ y_ : List Int, y_ = (x7_1 ++ [t109]) := ⟨_, rfl⟩
        replace H : (cell_both_J3.l0 k1 l1 y110 l0 (l0.length : Int) (wrap64 (x12_1 + 1))) = some r := by rw [hy110]; with_reducible exact H
        have Ny110 := am hy110
        clear hy110
        have H' := am H
        clear H
        have p107 : 0 ≤ (x12_1 : Int) := zd
        have q107 : x12_1 < (l0.length : Int) := zd
        obtain ⟨ad107, e107, hx107_0⟩ := Kd.at_int HR0.out x12_1 p107 q107
        cases e107
        replace hx107_0 := zc HB hx107_0
        replace p107 := eq_true p107
        replace q107 := eq_true q107
        have p108 : 0 ≤ (x12_1 : Int) := zd
        have q108 : x12_1 < (l1.length : Int) := zd
        obtain ⟨ad108, e108, hx108_0⟩ := Kd.at_int HR1.out x12_1 p108 q108
        cases e108
        replace hx108_0 := zc HB hx108_0
        replace p108 := eq_true p108
        replace q108 := eq_true q108
        go_wp2_with (first | ((with_reducible refine gate_callee_v rfl ?_); refine goesLv_ (some 28) rfl rfl Try.func44 (by kernel_rfl) rfl #[.int .i64 (rd l0 x12_1), .int .i64 (rd l1 x12_1)] rfl zm ?_; (with_reducible refine (cell_Join_3.calls (rd l0 x12_1) (rd l1 x12_1) t109 _ A7.out).mono ?_); rintro e w9 ⟨rfl, hb⟩; refine ⟨_, rfl, ?_⟩; have n0_ := am (Kd.R_below (ze HO_7) hb); have n1_ := am (below_step (zw HB) hb); clear HO_7 HB; revert n0_ n1_; intro HO_7 HB; (try clear hb); (try clear hb2); (try clear hk); (try clear hi)) | ((with_reducible refine gate_builtin (b := .append) (xs := #[.tmp 21, .tmp 29]) rfl ?_); at_builtin; refine Kd.R_append (Kd.int .i64) (w0 := w) w.heap.size rfl (.tmp 21) (.tmp 29) 22 3 (.int .i64 0) 8 rfl Try.underlying22 info3 rfl (by decide) (by omega) u7 x7_1 t109 [.int .i64 t109] (fun _ => True) (fun _ => False) rfl rfl ?aP (fun _ hk => hk.elim) ?aF ?aO ?aB ?aS ?aL ?_; (case aP => exact rfl); (case aB => exact (zw HB)); (case aF => exact (fun _ _ => trivial)); (case aO => exact (ze HO_7)); (case aS => exact (below_size (zw HB))); (case aL => have := LMc8.out; omega); intro v111 w10 ho hb hg hat; rw [← Ny110.out] at ho; have n0_ := am (hb); have n1_ := am (ho); clear HB HO_7; revert n0_ n1_; intro HB HO112; clear ho hb hg hat))
        go_roundg k1
        case measure => have := HK1.out; omega
        case rel => exact ⟨(y110), (wrap64 (x12_1 + 1)), zz, H', ⟨by have := HK1.out; omega⟩, ⟨by refine zr ?_; exact HO112.out⟩, ⟨zw HB⟩⟩
       ·rw [if_neg c8] at H
        exact absurd H (by simp)
      ·rw [if_neg c6] at H
       have c6b0 : decide (x12_1 < (l1.length : Int)) = false := decide_eq_false c6
       clear c6
       have H' := am H
       clear H
       have p107 : 0 ≤ (x12_1 : Int) := zd
       have q107 : x12_1 < (l0.length : Int) := zd
       obtain ⟨ad107, e107, hx107_0⟩ := Kd.at_int HR0.out x12_1 p107 q107
       cases e107
       replace hx107_0 := zc HB hx107_0
       replace p107 := eq_true p107
       replace q107 := eq_true q107
       go_wp2
       go_roundg k1
       case measure => have := HK1.out; omega
       case rel => exact ⟨(x7_1), (wrap64 (x12_1 + 1)), zz, H', ⟨by have := HK1.out; omega⟩, ⟨by refine zr ?_; exact HO_7.out⟩, ⟨zw HB⟩⟩
     ·rw [if_neg c5] at H
      exact absurd H (by simp)
    ·rw [if_neg c4] at H
     exact absurd H (by simp)
   ·rw [if_neg c3] at H
    have c3b0 : decide (x12_1 < (l0.length : Int)) = false := decide_eq_false c3
    clear c3
    replace H := Option.bind_eq_some_iff.mp H
    obtain ⟨t113, A110, H⟩ := H
    replace H : (some t113) = some r := H
    have A11 := am A110
    clear A110
    obtain rfl := Option.some.inj H
    obtain ⟨Ao12, co12, eo12⟩ := Kd.R_slice HO_7.out
    subst eo12
    go_wp2_with (first | ((with_reducible refine gate_callee (f := 40) rfl ?_); refine goesL_ (some 33) rfl rfl Try.func40 (by kernel_rfl) rfl #[.slice Ao12 x7_1.length co12] rfl zm ?_; (with_reducible refine (slices_Clone_int_int.calls _ _ x7_1 t113 _ ?side1 ?side2 A11.out).mono ?_); (case side1 => repeat (first | exact (Kd.R_reads' HO_7.out).2.2 | (with_reducible refine Kd.C_alloc ?_ _) | (with_reducible refine Kd.C_drewN ?_ _) | (with_reducible refine Kd.C_drew ?_))); (case side2 => exact (Kd.R_reads' HO_7.out).2.1); rintro e w13 ⟨v114, rfl, ho0, hb⟩; refine ⟨_, rfl, ?_⟩; have n0_ := am (Kd.R_elder' (ze HO_7) (Kd.R_base ho0) hb); have n1_ := am (Kd.R_lower (Kd.R_new' ho0 (Kd.R_lt (ze HO_7))) (below_size (zw HB))); have n2_ := am (below_step (zw HB) hb); clear HO_7 HB; revert n0_ n1_ n2_; intro HO_7 HO115 HB; (try clear hb); (try clear hb2); (try clear hk); (try clear hi); (try clear ho0)))
    go_ret
    exact ⟨_, by first | rfl | (simp [errW_none, errW_some] <;> rfl) | (simp [*, errW_none, errW_some] <;> rfl), by refine zr ?_; exact Kd.R_mono HO115.out (fun _ hk => trivial), zw HB⟩
def cell_Join_2.f (a0 : Int) (a1 : Int) : Option (Int) := some (mn a0 a1)
set_option maxHeartbeats 8000000 in
set_option maxRecDepth 100000 in
theorem cell_Join_2.calls (a0 : Int) (a1 : Int) (r : Int) (w : World) (h : cell_Join_2.f a0 a1 = some r) :
  Calls Try.prog 43 #[.int .i64 a0, .int .i64 a1] w fun e w' => e = .returned (.int .i64 r) ∧ Below w.heap.size w w' := by
 have HB := am (Below.refl w.heap.size w)
 have H : (some (mn a0 a1)) = some r := h
 clear h
 obtain ⟨ji3, hji3⟩ : ∃ j_ : Int, (mn a0 a1) = j_ := ⟨_, rfl⟩
 replace H : (some ji3) = some r := by first | (rw [hji3] at H; exact H) | (simp only [hji3] at H ⊢; exact H)
 have hji3_ : (if a1 < a0 then a1 else a0) = ji3 := hji3
 obtain rfl := Option.some.inj H
 go_enter Try.func43, Try.ntmps43
 go_wp2
 go_ret
 exact ⟨by first | rfl | (simp [errW_none, errW_some] <;> rfl) | (simp only [← hji3]; first | rfl | (simp [errW_none, errW_some] <;> rfl)) | (simp [*, errW_none, errW_some] <;> rfl), zw HB⟩
def cell_both_J2.l0 : Nat → List Int → List Int → List Int → Int → Int → Option (List Int)
 | 0, _, _, _, _, _ => none
 | k + 1, x1, x7, x10, x11, x12 => if x12 < x11 then (if 0 ≤ x12 then (if x12 < (x10.length : Int) then (if x12 < (x1.length : Int) then ((cell_Join_2.f (rd x10 x12) (rd x1 x12)).bind fun t118 => (if x7.length < 17592186044416 then (cell_both_J2.l0 k x1 (x7 ++ [t118]) x10 x11 (wrap64 (x12 + 1))) else (none))) else (cell_both_J2.l0 k x1 x7 x10 x11 (wrap64 (x12 + 1)))) else (none)) else (none)) else ((slices_Clone_int_int.f x7).bind fun t122 => (some t122))
def cell_both_J2.f (k : Nat) (l0 : List Int) (l1 : List Int) : Option (List Int) := cell_both_J2.l0 k l1 ([] : List Int) l0 (l0.length : Int) 0
set_option maxHeartbeats 8000000 in
set_option maxRecDepth 100000 in
theorem cell_both_J2.calls (k : Nat) (A0 : Option Addr) (c0 : Nat) (l0 : List Int) (A1 : Option Addr) (c1 : Nat) (l1 : List Int) (r : List Int) (w : World) (hr0 : Kd.C (Kd.int .i64) w A0 l0.length l0) (hc0 : l0.length ≤ c0) (hr1 : Kd.C (Kd.int .i64) w A1 l1.length l1) (hc1 : l1.length ≤ c1) (h : cell_both_J2.f k l0 l1 = some r) :
  Calls Try.prog 41 #[.slice A0 l0.length c0, .slice A1 l1.length c1, .func (.func 43) #[] #[]] w fun e w' => ∃ v0_ : Value, e = .returned (v0_) ∧ Kd.R (Kd.int .i64) 3 w' w.heap.size (fun _ => True) v0_ r ∧ Below w.heap.size w w' := by
 have HR0 := am hr0
 have HC0 := am hc0
 clear hr0 hc0
 have HR1 := am hr1
 have HC1 := am hc1
 clear hr1 hc1
 have HB := am (Below.refl w.heap.size w)
 have H : (cell_both_J2.l0 k l1 ([] : List Int) l0 (l0.length : Int) 0) = some r := h
 clear h
 have H' := am H
 clear H
 go_enter Try.func41, Try.ntmps41
 go_wp2
 go_loopg [7, 12] k (fun kq v7 v12 w' => ∃ (x7_1 : List Int) (x12_1 : Int), v12 = .int .i64 x12_1 ∧ Aside0 (cell_both_J2.l0 kq l1 x7_1 l0 (l0.length : Int) x12_1 = some r) ∧ Aside0 (kq ≤ k) ∧ Aside0 (Kd.R (Kd.int .i64) 3 w' w.heap.size (fun _ => True) v7 x7_1) ∧ Aside0 (Below w.heap.size w w'))
 case atStart => exact ⟨(([] : List Int)), (0), zz, H', ⟨Nat.le_refl _⟩, ⟨by first | exact Kd.R_nil _ _ _ _ _ | exact Kd.N_nil _ _ _ _ _ | exact Kd.V_nil _ _ _ _ _ | exact Kd.Q_nil _ _ _ _ _ | exact Kd.S_nil _ _ _ _ _⟩, ⟨zw HB⟩⟩
 case round =>
  clear H'
  try clear c1
  try clear p2
  obtain ⟨x7_1, x12_1, rfl, HA, HK1, HO_7, HB⟩ := hrel
  cases gk with
  | zero => exact absurd HA.out (by simp [cell_both_J2.l0])
  | succ k1 =>
   have H := HA.out
   clear HA
   simp only [cell_both_J2.l0] at H
   by_cases c3 : x12_1 < (l0.length : Int)
   ·rw [if_pos c3] at H
    have c3b0 : decide (x12_1 < (l0.length : Int)) = true := decide_eq_true c3
    clear c3
    by_cases c4 : 0 ≤ x12_1
    ·rw [if_pos c4] at H
     have c4b0 : decide (0 ≤ x12_1) = true := decide_eq_true c4
     clear c4
     by_cases c5 : x12_1 < (l0.length : Int)
     ·rw [if_pos c5] at H
      have c5b0 : decide (x12_1 < (l0.length : Int)) = true := decide_eq_true c5
      clear c5
      by_cases c6 : x12_1 < (l1.length : Int)
      ·rw [if_pos c6] at H
       have c6b0 : decide (x12_1 < (l1.length : Int)) = true := decide_eq_true c6
       clear c6
       replace H := Option.bind_eq_some_iff.mp H
       obtain ⟨t118, A70, H⟩ := H
       replace H : (if x7_1.length < 17592186044416 then (cell_both_J2.l0 k1 l1 (x7_1 ++ [t118]) l0 (l0.length : Int) (wrap64 (x12_1 + 1))) else (none)) = some r := H
       have A7 := am A70
       clear A70
       by_cases c8 : x7_1.length < 17592186044416
       ·rw [if_pos c8] at H
        have LMc8 := am c8
        clear c8
        obtain ⟨y119, hy119⟩ : ∃ y_ : List Int, y_ = (x7_1 ++ [t118]) := ⟨_, rfl⟩
        replace H : (cell_both_J2.l0 k1 l1 y119 l0 (l0.length : Int) (wrap64 (x12_1 + 1))) = some r := by rw [hy119]; with_reducible exact H
        have Ny119 := am hy119
        clear hy119
        have H' := am H
        clear H
        have p116 : 0 ≤ (x12_1 : Int) := zd
        have q116 : x12_1 < (l0.length : Int) := zd
        obtain ⟨ad116, e116, hx116_0⟩ := Kd.at_int HR0.out x12_1 p116 q116
        cases e116
        replace hx116_0 := zc HB hx116_0
        replace p116 := eq_true p116
        replace q116 := eq_true q116
        have p117 : 0 ≤ (x12_1 : Int) := zd
        have q117 : x12_1 < (l1.length : Int) := zd
        obtain ⟨ad117, e117, hx117_0⟩ := Kd.at_int HR1.out x12_1 p117 q117
        cases e117
        replace hx117_0 := zc HB hx117_0
        replace p117 := eq_true p117
        replace q117 := eq_true q117
        go_wp2_with (first | ((with_reducible refine gate_callee_v rfl ?_); refine goesLv_ (some 28) rfl rfl Try.func43 (by kernel_rfl) rfl #[.int .i64 (rd l0 x12_1), .int .i64 (rd l1 x12_1)] rfl zm ?_; (with_reducible refine (cell_Join_2.calls (rd l0 x12_1) (rd l1 x12_1) t118 _ A7.out).mono ?_); rintro e w9 ⟨rfl, hb⟩; refine ⟨_, rfl, ?_⟩; have n0_ := am (Kd.R_below (ze HO_7) hb); have n1_ := am (below_step (zw HB) hb); clear HO_7 HB; revert n0_ n1_; intro HO_7 HB; (try clear hb); (try clear hb2); (try clear hk); (try clear hi)) | ((with_reducible refine gate_builtin (b := .append) (xs := #[.tmp 21, .tmp 29]) rfl ?_); at_builtin; refine Kd.R_append (Kd.int .i64) (w0 := w) w.heap.size rfl (.tmp 21) (.tmp 29) 22 3 (.int .i64 0) 8 rfl Try.underlying22 info3 rfl (by decide) (by omega) u7 x7_1 t118 [.int .i64 t118] (fun _ => True) (fun _ => False) rfl rfl ?aP (fun _ hk => hk.elim) ?aF ?aO ?aB ?aS ?aL ?_; (case aP => exact rfl); (case aB => exact (zw HB)); (case aF => exact (fun _ _ => trivial)); (case aO => exact (ze HO_7)); (case aS => exact (below_size (zw HB))); (case aL => have := LMc8.out; omega); intro v120 w10 ho hb hg hat; rw [← Ny119.out] at ho; have n0_ := am (hb); have n1_ := am (ho); clear HB HO_7; revert n0_ n1_; intro HB HO121; clear ho hb hg hat))
        go_roundg k1
        case measure => have := HK1.out; omega
        case rel => exact ⟨(y119), (wrap64 (x12_1 + 1)), zz, H', ⟨by have := HK1.out; omega⟩, ⟨by refine zr ?_; exact HO121.out⟩, ⟨zw HB⟩⟩
       ·rw [if_neg c8] at H
        exact absurd H (by simp)
      ·rw [if_neg c6] at H
       have c6b0 : decide (x12_1 < (l1.length : Int)) = false := decide_eq_false c6
       clear c6
       have H' := am H
       clear H
       have p116 : 0 ≤ (x12_1 : Int) := zd
       have q116 : x12_1 < (l0.length : Int) := zd
       obtain ⟨ad116, e116, hx116_0⟩ := Kd.at_int HR0.out x12_1 p116 q116
       cases e116
       replace hx116_0 := zc HB hx116_0
       replace p116 := eq_true p116
       replace q116 := eq_true q116
       go_wp2
       go_roundg k1
       case measure => have := HK1.out; omega
       case rel => exact ⟨(x7_1), (wrap64 (x12_1 + 1)), zz, H', ⟨by have := HK1.out; omega⟩, ⟨by refine zr ?_; exact HO_7.out⟩, ⟨zw HB⟩⟩
     ·rw [if_neg c5] at H
      exact absurd H (by simp)
    ·rw [if_neg c4] at H
     exact absurd H (by simp)
   ·rw [if_neg c3] at H
    have c3b0 : decide (x12_1 < (l0.length : Int)) = false := decide_eq_false c3
    clear c3
    replace H := Option.bind_eq_some_iff.mp H
    obtain ⟨t122, A110, H⟩ := H
    replace H : (some t122) = some r := H
    have A11 := am A110
    clear A110
    obtain rfl := Option.some.inj H
    obtain ⟨Ao12, co12, eo12⟩ := Kd.R_slice HO_7.out
    subst eo12
    go_wp2_with (first | ((with_reducible refine gate_callee (f := 40) rfl ?_); refine goesL_ (some 33) rfl rfl Try.func40 (by kernel_rfl) rfl #[.slice Ao12 x7_1.length co12] rfl zm ?_; (with_reducible refine (slices_Clone_int_int.calls _ _ x7_1 t122 _ ?side1 ?side2 A11.out).mono ?_); (case side1 => repeat (first | exact (Kd.R_reads' HO_7.out).2.2 | (with_reducible refine Kd.C_alloc ?_ _) | (with_reducible refine Kd.C_drewN ?_ _) | (with_reducible refine Kd.C_drew ?_))); (case side2 => exact (Kd.R_reads' HO_7.out).2.1); rintro e w13 ⟨v123, rfl, ho0, hb⟩; refine ⟨_, rfl, ?_⟩; have n0_ := am (Kd.R_elder' (ze HO_7) (Kd.R_base ho0) hb); have n1_ := am (Kd.R_lower (Kd.R_new' ho0 (Kd.R_lt (ze HO_7))) (below_size (zw HB))); have n2_ := am (below_step (zw HB) hb); clear HO_7 HB; revert n0_ n1_ n2_; intro HO_7 HO124 HB; (try clear hb); (try clear hb2); (try clear hk); (try clear hi); (try clear ho0)))
    go_ret
    exact ⟨_, by first | rfl | (simp [errW_none, errW_some] <;> rfl) | (simp [*, errW_none, errW_some] <;> rfl), by refine zr ?_; exact Kd.R_mono HO124.out (fun _ hk => trivial), zw HB⟩
def cell_Join_1.f (a0 : Int) (a1 : Int) : Option (Int) := some (wrap64 (a0 + a1))
set_option maxHeartbeats 8000000 in
set_option maxRecDepth 100000 in
theorem cell_Join_1.calls (a0 : Int) (a1 : Int) (r : Int) (w : World) (h : cell_Join_1.f a0 a1 = some r) :
  Calls Try.prog 42 #[.int .i64 a0, .int .i64 a1] w fun e w' => e = .returned (.int .i64 r) ∧ Drawn0 w w' := by
 have H : (some (wrap64 (a0 + a1))) = some r := h
 clear h
 obtain rfl := Option.some.inj H
 go_enter Try.func42, Try.ntmps42
 go_wp2
 go_ret
 exact ⟨by first | rfl | (simp; done) | (simp [*]; done), by repeat (first | exact Drawn0.refl _ | apply Drawn0.step)⟩
def cell_both_J1.l0 : Nat → List Int → List Int → List Int → Int → Int → Option (List Int)
 | 0, _, _, _, _, _ => none
 | k + 1, x1, x7, x10, x11, x12 => if x12 < x11 then (if 0 ≤ x12 then (if x12 < (x10.length : Int) then (if x12 < (x1.length : Int) then ((cell_Join_1.f (rd x10 x12) (rd x1 x12)).bind fun t127 => (if x7.length < 17592186044416 then (cell_both_J1.l0 k x1 (x7 ++ [t127]) x10 x11 (wrap64 (x12 + 1))) else (none))) else (cell_both_J1.l0 k x1 x7 x10 x11 (wrap64 (x12 + 1)))) else (none)) else (none)) else ((slices_Clone_int_int.f x7).bind fun t131 => (some t131))
def cell_both_J1.f (k : Nat) (l0 : List Int) (l1 : List Int) : Option (List Int) := cell_both_J1.l0 k l1 ([] : List Int) l0 (l0.length : Int) 0
set_option maxHeartbeats 8000000 in
set_option maxRecDepth 100000 in
theorem cell_both_J1.calls (k : Nat) (A0 : Option Addr) (c0 : Nat) (l0 : List Int) (A1 : Option Addr) (c1 : Nat) (l1 : List Int) (r : List Int) (w : World) (hr0 : Kd.C (Kd.int .i64) w A0 l0.length l0) (hc0 : l0.length ≤ c0) (hr1 : Kd.C (Kd.int .i64) w A1 l1.length l1) (hc1 : l1.length ≤ c1) (h : cell_both_J1.f k l0 l1 = some r) :
  Calls Try.prog 41 #[.slice A0 l0.length c0, .slice A1 l1.length c1, .func (.func 42) #[] #[]] w fun e w' => ∃ v0_ : Value, e = .returned (v0_) ∧ Kd.R (Kd.int .i64) 3 w' w.heap.size (fun _ => True) v0_ r ∧ Below w.heap.size w w' := by
 have HR0 := am hr0
 have HC0 := am hc0
 clear hr0 hc0
 have HR1 := am hr1
 have HC1 := am hc1
 clear hr1 hc1
 have HB := am (Below.refl w.heap.size w)
 have H : (cell_both_J1.l0 k l1 ([] : List Int) l0 (l0.length : Int) 0) = some r := h
 clear h
 have H' := am H
 clear H
 go_enter Try.func41, Try.ntmps41
 go_wp2
 go_loopg [7, 12] k (fun kq v7 v12 w' => ∃ (x7_1 : List Int) (x12_1 : Int), v12 = .int .i64 x12_1 ∧ Aside0 (cell_both_J1.l0 kq l1 x7_1 l0 (l0.length : Int) x12_1 = some r) ∧ Aside0 (kq ≤ k) ∧ Aside0 (Kd.R (Kd.int .i64) 3 w' w.heap.size (fun _ => True) v7 x7_1) ∧ Aside0 (Below w.heap.size w w'))
 case atStart => exact ⟨(([] : List Int)), (0), zz, H', ⟨Nat.le_refl _⟩, ⟨by first | exact Kd.R_nil _ _ _ _ _ | exact Kd.N_nil _ _ _ _ _ | exact Kd.V_nil _ _ _ _ _ | exact Kd.Q_nil _ _ _ _ _ | exact Kd.S_nil _ _ _ _ _⟩, ⟨zw HB⟩⟩
 case round =>
  clear H'
  try clear c1
  try clear p2
  obtain ⟨x7_1, x12_1, rfl, HA, HK1, HO_7, HB⟩ := hrel
  cases gk with
  | zero => exact absurd HA.out (by simp [cell_both_J1.l0])
  | succ k1 =>
   have H := HA.out
   clear HA
   simp only [cell_both_J1.l0] at H
   by_cases c3 : x12_1 < (l0.length : Int)
   ·rw [if_pos c3] at H
    have c3b0 : decide (x12_1 < (l0.length : Int)) = true := decide_eq_true c3
    clear c3
    by_cases c4 : 0 ≤ x12_1
    ·rw [if_pos c4] at H
     have c4b0 : decide (0 ≤ x12_1) = true := decide_eq_true c4
     clear c4
     by_cases c5 : x12_1 < (l0.length : Int)
     ·rw [if_pos c5] at H
      have c5b0 : decide (x12_1 < (l0.length : Int)) = true := decide_eq_true c5
      clear c5
      by_cases c6 : x12_1 < (l1.length : Int)
      ·rw [if_pos c6] at H
       have c6b0 : decide (x12_1 < (l1.length : Int)) = true := decide_eq_true c6
       clear c6
       replace H := Option.bind_eq_some_iff.mp H
       obtain ⟨t127, A70, H⟩ := H
       replace H : (if x7_1.length < 17592186044416 then (cell_both_J1.l0 k1 l1 (x7_1 ++ [t127]) l0 (l0.length : Int) (wrap64 (x12_1 + 1))) else (none)) = some r := H
       have A7 := am A70
       clear A70
       by_cases c8 : x7_1.length < 17592186044416
       ·rw [if_pos c8] at H
        have LMc8 := am c8
        clear c8
        obtain ⟨y128, hy128⟩ : ∃ y_ : List Int, y_ = (x7_1 ++ [t127]) := ⟨_, rfl⟩
        replace H : (cell_both_J1.l0 k1 l1 y128 l0 (l0.length : Int) (wrap64 (x12_1 + 1))) = some r := by rw [hy128]; with_reducible exact H
        have Ny128 := am hy128
        clear hy128
        have H' := am H
        clear H
        have p125 : 0 ≤ (x12_1 : Int) := zd
        have q125 : x12_1 < (l0.length : Int) := zd
        obtain ⟨ad125, e125, hx125_0⟩ := Kd.at_int HR0.out x12_1 p125 q125
        cases e125
        replace hx125_0 := zc HB hx125_0
        replace p125 := eq_true p125
        replace q125 := eq_true q125
        have p126 : 0 ≤ (x12_1 : Int) := zd
        have q126 : x12_1 < (l1.length : Int) := zd
        obtain ⟨ad126, e126, hx126_0⟩ := Kd.at_int HR1.out x12_1 p126 q126
        cases e126
        replace hx126_0 := zc HB hx126_0
        replace p126 := eq_true p126
        replace q126 := eq_true q126
        go_wp2_with (first | ((with_reducible refine gate_callee_v rfl ?_); refine goesLv_ (some 28) rfl rfl Try.func42 (by kernel_rfl) rfl #[.int .i64 (rd l0 x12_1), .int .i64 (rd l1 x12_1)] rfl zm ?_; (with_reducible refine (cell_Join_1.calls (rd l0 x12_1) (rd l1 x12_1) t127 _ A7.out).mono ?_); rintro e w' ⟨rfl, ⟨nd, rfl⟩⟩; refine ⟨_, rfl, ?_⟩) | ((with_reducible refine gate_builtin (b := .append) (xs := #[.tmp 21, .tmp 29]) rfl ?_); at_builtin; refine Kd.R_append (Kd.int .i64) (w0 := w) w.heap.size rfl (.tmp 21) (.tmp 29) 22 3 (.int .i64 0) 8 rfl Try.underlying22 info3 rfl (by decide) (by omega) u7 x7_1 t127 [.int .i64 t127] (fun _ => True) (fun _ => False) rfl rfl ?aP (fun _ hk => hk.elim) ?aF ?aO ?aB ?aS ?aL ?_; (case aP => exact rfl); (case aB => exact (zw HB)); (case aF => exact (fun _ _ => trivial)); (case aO => exact (ze HO_7)); (case aS => exact (below_size (zw HB))); (case aL => have := LMc8.out; omega); intro v129 w9 ho hb hg hat; rw [← Ny128.out] at ho; have n0_ := am (hb); have n1_ := am (ho); clear HB HO_7; revert n0_ n1_; intro HB HO130; clear ho hb hg hat))
        go_roundg k1
        case measure => have := HK1.out; omega
        case rel => exact ⟨(y128), (wrap64 (x12_1 + 1)), zz, H', ⟨by have := HK1.out; omega⟩, ⟨by refine zr ?_; exact HO130.out⟩, ⟨zw HB⟩⟩
       ·rw [if_neg c8] at H
        exact absurd H (by simp)
      ·rw [if_neg c6] at H
       have c6b0 : decide (x12_1 < (l1.length : Int)) = false := decide_eq_false c6
       clear c6
       have H' := am H
       clear H
       have p125 : 0 ≤ (x12_1 : Int) := zd
       have q125 : x12_1 < (l0.length : Int) := zd
       obtain ⟨ad125, e125, hx125_0⟩ := Kd.at_int HR0.out x12_1 p125 q125
       cases e125
       replace hx125_0 := zc HB hx125_0
       replace p125 := eq_true p125
       replace q125 := eq_true q125
       go_wp2
       go_roundg k1
       case measure => have := HK1.out; omega
       case rel => exact ⟨(x7_1), (wrap64 (x12_1 + 1)), zz, H', ⟨by have := HK1.out; omega⟩, ⟨by refine zr ?_; exact HO_7.out⟩, ⟨zw HB⟩⟩
     ·rw [if_neg c5] at H
      exact absurd H (by simp)
    ·rw [if_neg c4] at H
     exact absurd H (by simp)
   ·rw [if_neg c3] at H
    have c3b0 : decide (x12_1 < (l0.length : Int)) = false := decide_eq_false c3
    clear c3
    replace H := Option.bind_eq_some_iff.mp H
    obtain ⟨t131, A100, H⟩ := H
    replace H : (some t131) = some r := H
    have A10 := am A100
    clear A100
    obtain rfl := Option.some.inj H
    obtain ⟨Ao11, co11, eo11⟩ := Kd.R_slice HO_7.out
    subst eo11
    go_wp2_with (first | ((with_reducible refine gate_callee (f := 40) rfl ?_); refine goesL_ (some 33) rfl rfl Try.func40 (by kernel_rfl) rfl #[.slice Ao11 x7_1.length co11] rfl zm ?_; (with_reducible refine (slices_Clone_int_int.calls _ _ x7_1 t131 _ ?side1 ?side2 A10.out).mono ?_); (case side1 => repeat (first | exact (Kd.R_reads' HO_7.out).2.2 | (with_reducible refine Kd.C_alloc ?_ _) | (with_reducible refine Kd.C_drewN ?_ _) | (with_reducible refine Kd.C_drew ?_))); (case side2 => exact (Kd.R_reads' HO_7.out).2.1); rintro e w12 ⟨v132, rfl, ho0, hb⟩; refine ⟨_, rfl, ?_⟩; have n0_ := am (Kd.R_elder' (ze HO_7) (Kd.R_base ho0) hb); have n1_ := am (Kd.R_lower (Kd.R_new' ho0 (Kd.R_lt (ze HO_7))) (below_size (zw HB))); have n2_ := am (below_step (zw HB) hb); clear HO_7 HB; revert n0_ n1_ n2_; intro HO_7 HO133 HB; (try clear hb); (try clear hb2); (try clear hk); (try clear hi); (try clear ho0)))
    go_ret
    exact ⟨_, by first | rfl | (simp [errW_none, errW_some] <;> rfl) | (simp [*, errW_none, errW_some] <;> rfl), by refine zr ?_; exact Kd.R_mono HO133.out (fun _ hk => trivial), zw HB⟩
def cell_Join.f (k : Nat) (l0_0 : List Int) (a0_1 : Int) (l0_2 : List Int) (l0_3 : List Int) (l0_4 : List Int) (l1_0 : List Int) (a1_1 : Int) (l1_2 : List Int) (l1_3 : List Int) (l1_4 : List Int) : Option (List Int × Int × List Int × List Int × List Int) := (slices_Clone_int_int.f l0_0).bind fun t137 => ((cell_both_J1.f k l0_2 l1_2).bind fun t140 => ((cell_both_J2.f k l0_3 l1_3).bind fun t143 => ((cell_both_J3.f k l0_4 l1_4).bind fun t146 => (some (t137, wrap64 (a0_1 + a1_1), t140, t143, t146)))))
def cell_Join.T1 : Bool × List (List Nat × List Nat) := (true, [([], []), ([0], [0]), ([1], [1]), ([], []), ([3], [3]), ([], []), ([5], [5]), ([4, 6], [4, 6]), ([], []), ([8], [8]), ([], []), ([10], [10]), ([9, 11, 2], [9, 11]), ([], []), ([13], [13]), ([], []), ([15], [15]), ([14, 16, 12], [14, 16]), ([], []), ([18], [18]), ([], []), ([20], [20]), ([19, 21, 17], [19, 21]), ([2, 7, 12, 17, 22], [2, 7, 12, 17, 22]), ([23, 22, 0, 1, 2, 3, 4, 5, 6, 7, 8, 9, 10, 11, 12, 13, 14, 15, 16, 17, 18, 19, 20, 21, 22, 23], [23])])
def cell_Join.B1 : List Nat := [0, 1, 3, 0, 8, 0, 32, 120, 0, 256, 0, 1024, 3847, 0, 8192, 0, 32768, 130823, 0, 262144, 0, 1048576, 4194055, 8388607, 16777215]
theorem cell_Join.tab1 : rtab .any (opsOf Try.f21 1) = cell_Join.T1 := by kernel_rfl
theorem cell_Join.bits1 : waitsOk cell_Join.T1.2 cell_Join.B1 = true := by kernel_rfl
set_option maxHeartbeats 8000000 in
set_option maxRecDepth 100000 in
theorem cell_Join.calls (k : Nat) (A0_0 : Option Addr) (c0_0 : Nat) (l0_0 : List Int) (a0_1 : Int) (A0_2 : Option Addr) (c0_2 : Nat) (l0_2 : List Int) (A0_3 : Option Addr) (c0_3 : Nat) (l0_3 : List Int) (A0_4 : Option Addr) (c0_4 : Nat) (l0_4 : List Int) (A1_0 : Option Addr) (c1_0 : Nat) (l1_0 : List Int) (a1_1 : Int) (A1_2 : Option Addr) (c1_2 : Nat) (l1_2 : List Int) (A1_3 : Option Addr) (c1_3 : Nat) (l1_3 : List Int) (A1_4 : Option Addr) (c1_4 : Nat) (l1_4 : List Int) (r1 : List Int) (r2 : Int) (r3 : List Int) (r4 : List Int) (r5 : List Int) (w : World) (hr0_0 : Kd.C (Kd.int .i64) w A0_0 l0_0.length l0_0) (hc0_0 : l0_0.length ≤ c0_0) (hr0_2 : Kd.C (Kd.int .i64) w A0_2 l0_2.length l0_2) (hc0_2 : l0_2.length ≤ c0_2) (hr0_3 : Kd.C (Kd.int .i64) w A0_3 l0_3.length l0_3) (hc0_3 : l0_3.length ≤ c0_3) (hr0_4 : Kd.C (Kd.int .i64) w A0_4 l0_4.length l0_4) (hc0_4 : l0_4.length ≤ c0_4) (hr1_0 : Kd.C (Kd.int .i64) w A1_0 l1_0.length l1_0) (hc1_0 : l1_0.length ≤ c1_0) (hr1_2 : Kd.C (Kd.int .i64) w A1_2 l1_2.length l1_2) (hc1_2 : l1_2.length ≤ c1_2) (hr1_3 : Kd.C (Kd.int .i64) w A1_3 l1_3.length l1_3) (hc1_3 : l1_3.length ≤ c1_3) (hr1_4 : Kd.C (Kd.int .i64) w A1_4 l1_4.length l1_4) (hc1_4 : l1_4.length ≤ c1_4) (h : cell_Join.f k l0_0 a0_1 l0_2 l0_3 l0_4 l1_0 a1_1 l1_2 l1_3 l1_4 = some (r1, r2, r3, r4, r5)) :
  Calls Try.prog 21 #[.agg #[.slice A0_0 l0_0.length c0_0, .int .i64 a0_1, .slice A0_2 l0_2.length c0_2, .slice A0_3 l0_3.length c0_3, .slice A0_4 l0_4.length c0_4], .agg #[.slice A1_0 l1_0.length c1_0, .int .i64 a1_1, .slice A1_2 l1_2.length c1_2, .slice A1_3 l1_3.length c1_3, .slice A1_4 l1_4.length c1_4]] w fun e w' => ∃ v0_ v2_ v3_ v4_ : Value, e = .returned (.agg #[v0_, .int .i64 r2, v2_, v3_, v4_]) ∧ Kd.R (Kd.int .i64) 3 w' w.heap.size (fun k_ => some k_ ≠ (v2_ : Value).ownBlock ∧ some k_ ≠ (v3_ : Value).ownBlock ∧ some k_ ≠ (v4_ : Value).ownBlock) v0_ r1 ∧ Kd.R (Kd.int .i64) 3 w' w.heap.size (fun k_ => some k_ ≠ (v0_ : Value).ownBlock ∧ some k_ ≠ (v3_ : Value).ownBlock ∧ some k_ ≠ (v4_ : Value).ownBlock) v2_ r3 ∧ Kd.R (Kd.int .i64) 3 w' w.heap.size (fun k_ => some k_ ≠ (v0_ : Value).ownBlock ∧ some k_ ≠ (v2_ : Value).ownBlock ∧ some k_ ≠ (v4_ : Value).ownBlock) v3_ r4 ∧ Kd.R (Kd.int .i64) 3 w' w.heap.size (fun k_ => some k_ ≠ (v0_ : Value).ownBlock ∧ some k_ ≠ (v2_ : Value).ownBlock ∧ some k_ ≠ (v3_ : Value).ownBlock) v4_ r5 ∧ Below w.heap.size w w' := by
 have hu30 := Try.underlying30
 have HR0_0 := am hr0_0
 have HC0_0 := am hc0_0
 clear hr0_0 hc0_0
 have HR0_2 := am hr0_2
 have HC0_2 := am hc0_2
 clear hr0_2 hc0_2
 have HR0_3 := am hr0_3
 have HC0_3 := am hc0_3
 clear hr0_3 hc0_3
 have HR0_4 := am hr0_4
 have HC0_4 := am hc0_4
 clear hr0_4 hc0_4
 have HR1_0 := am hr1_0
 have HC1_0 := am hc1_0
 clear hr1_0 hc1_0
 have HR1_2 := am hr1_2
 have HC1_2 := am hc1_2
 clear hr1_2 hc1_2
 have HR1_3 := am hr1_3
 have HC1_3 := am hc1_3
 clear hr1_3 hc1_3
 have HR1_4 := am hr1_4
 have HC1_4 := am hc1_4
 clear hr1_4 hc1_4
 have HB := am (Below.refl w.heap.size w)
 have H : ((slices_Clone_int_int.f l0_0).bind fun t137 => ((cell_both_J1.f k l0_2 l1_2).bind fun t140 => ((cell_both_J2.f k l0_3 l1_3).bind fun t143 => ((cell_both_J3.f k l0_4 l1_4).bind fun t146 => (some (t137, wrap64 (a0_1 + a1_1), t140, t143, t146)))))) = some (r1, r2, r3, r4, r5) := h
 clear h
 replace H := Option.bind_eq_some_iff.mp H
 obtain ⟨t137, A30, H⟩ := H
 replace H : ((cell_both_J1.f k l0_2 l1_2).bind fun t140 => ((cell_both_J2.f k l0_3 l1_3).bind fun t143 => ((cell_both_J3.f k l0_4 l1_4).bind fun t146 => (some (t137, wrap64 (a0_1 + a1_1), t140, t143, t146))))) = some (r1, r2, r3, r4, r5) := H
 have A3 := am A30
 clear A30
 replace H := Option.bind_eq_some_iff.mp H
 obtain ⟨t140, A40, H⟩ := H
 replace H : ((cell_both_J2.f k l0_3 l1_3).bind fun t143 => ((cell_both_J3.f k l0_4 l1_4).bind fun t146 => (some (t137, wrap64 (a0_1 + a1_1), t140, t143, t146)))) = some (r1, r2, r3, r4, r5) := H
 have A4 := am A40
 clear A40
 replace H := Option.bind_eq_some_iff.mp H
 obtain ⟨t143, A50, H⟩ := H
 replace H : ((cell_both_J3.f k l0_4 l1_4).bind fun t146 => (some (t137, wrap64 (a0_1 + a1_1), t140, t143, t146))) = some (r1, r2, r3, r4, r5) := H
 have A5 := am A50
 clear A50
 replace H := Option.bind_eq_some_iff.mp H
 obtain ⟨t146, A60, H⟩ := H
 replace H : (some (t137, wrap64 (a0_1 + a1_1), t140, t143, t146)) = some (r1, r2, r3, r4, r5) := H
 have A6 := am A60
 clear A60
 simp only [Option.some.injEq, Prod.mk.injEq] at H
 obtain ⟨rfl, rfl, rfl, rfl, rfl⟩ := H
 go_enter Try.func21, Try.ntmps21
 try go_wp2_with (first | ((with_reducible refine gate_dst (N := 2) rfl ?_); refine zX #[.slice A0_0 l0_0.length c0_0, .int .i64 a0_1, .slice A0_2 l0_2.length c0_2, .slice A0_3 l0_3.length c0_3, .slice A0_4 l0_4.length c0_4] 30 ?_; intro gb134 hg w7 hbox hb; have n0_ := am (below_step (wmv HB.out) hb); have n1_ := am (hbox); have n2_ := am ((by rw [hg]; exact (below_size (wmv HB.out)) : w.heap.size ≤ gb134)); have n3_ := am ((by rw [hg]; exact (below_size (wmv HB.out)) : w.heap.size ≤ gb134)); clear HB; revert n0_ n1_ n2_ n3_; intro HB BK134 GW134 GE134; clear hb hbox hg) | ((with_reducible refine gate_dst (N := 3) rfl ?_); refine zX #[.slice A1_0 l1_0.length c1_0, .int .i64 a1_1, .slice A1_2 l1_2.length c1_2, .slice A1_3 l1_3.length c1_3, .slice A1_4 l1_4.length c1_4] 30 ?_; intro gb135 hg w8 hbox hb; have n0_ := am (blk_below (bmv BK134.out) hb); have n1_ := am (below_step (wmv HB.out) hb); have n2_ := am (hbox); have n3_ := am ((by rw [hg]; exact (below_size (wmv HB.out)) : w.heap.size ≤ gb135)); have n4_ := am ((by rw [hg]; exact (below_size (wmv HB.out)) : w.heap.size ≤ gb135)); have n5_ := am ((by rw [hg]; exact Nat.ne_of_lt (blk_lt (bmv BK134.out)) : gb134 ≠ gb135)); have n6_ := am ((by rw [hg]; exact Nat.ne_of_gt (blk_lt (bmv BK134.out)) : gb135 ≠ gb134)); clear BK134 HB; revert n0_ n1_ n2_ n3_ n4_ n5_ n6_; intro BK134 HB BK135 GW135 GE135 NB134_135 NB135_134; clear hb hbox hg) | ((with_reducible refine gate_dst (N := 4) rfl ?_); refine zX #[.slice none 0 0, .int .i64 0, .slice none 0 0, .slice none 0 0, .slice none 0 0] 30 ?_; intro gb136 hg w9 hbox hb; have n0_ := am (blk_below (bmv BK134.out) hb); have n1_ := am (blk_below (bmv BK135.out) hb); have n2_ := am (below_step (wmv HB.out) hb); have n3_ := am (hbox); have n4_ := am ((by rw [hg]; exact (below_size (wmv HB.out)) : w.heap.size ≤ gb136)); have n5_ := am ((by rw [hg]; exact (below_size (wmv HB.out)) : w.heap.size ≤ gb136)); have n6_ := am ((by rw [hg]; exact Nat.ne_of_lt (blk_lt (bmv BK134.out)) : gb134 ≠ gb136)); have n7_ := am ((by rw [hg]; exact Nat.ne_of_gt (blk_lt (bmv BK134.out)) : gb136 ≠ gb134)); have n8_ := am ((by rw [hg]; exact Nat.ne_of_lt (blk_lt (bmv BK135.out)) : gb135 ≠ gb136)); have n9_ := am ((by rw [hg]; exact Nat.ne_of_gt (blk_lt (bmv BK135.out)) : gb136 ≠ gb135)); clear BK134 BK135 HB; revert n0_ n1_ n2_ n3_ n4_ n5_ n6_ n7_ n8_ n9_; intro BK134 BK135 HB BK136 GW136 GE136 NB134_136 NB136_134 NB135_136 NB136_135; clear hb hbox hg))
 have n0_ := am (blk_drew BK134.out)
 have n1_ := am (blk_drew BK135.out)
 have n2_ := am (blk_drew BK136.out)
 have n3_ := am (below_drew1 HB.out)
 clear BK134 BK135 BK136 HB
 revert n0_ n1_ n2_ n3_
 intro BK134 BK135 BK136 HB
 refine start_ (n := 25) (S := fun w' => w'.cell? ⟨gb134, 0, none⟩ = some (.slice A0_0 l0_0.length c0_0) ∧ w'.cell? ⟨gb134, 1, none⟩ = some (.int .i64 a0_1) ∧ w'.cell? ⟨gb134, 2, none⟩ = some (.slice A0_2 l0_2.length c0_2) ∧ w'.cell? ⟨gb134, 3, none⟩ = some (.slice A0_3 l0_3.length c0_3) ∧ w'.cell? ⟨gb134, 4, none⟩ = some (.slice A0_4 l0_4.length c0_4) ∧ w'.cell? ⟨gb135, 0, none⟩ = some (.slice A1_0 l1_0.length c1_0) ∧ w'.cell? ⟨gb135, 1, none⟩ = some (.int .i64 a1_1) ∧ w'.cell? ⟨gb135, 2, none⟩ = some (.slice A1_2 l1_2.length c1_2) ∧ w'.cell? ⟨gb135, 3, none⟩ = some (.slice A1_3 l1_3.length c1_3) ∧ w'.cell? ⟨gb135, 4, none⟩ = some (.slice A1_4 l1_4.length c1_4)) (ds := []) (bb 25 0) (by kernel_rfl) rfl rfl ⟨bc BK134 0, bc BK134 1, bc BK134 2, bc BK134 3, bc BK134 4, bc BK135 0, bc BK135 1, bc BK135 2, bc BK135 3, bc BK135 4⟩ (fun hHeld => ?_); refine with_tabW cell_Join.tab1 cell_Join.bits1 (fun HT_ HW_ => ?_)
 generalize w9.drew = w10 at BK134 BK135 BK136 HB hHeld ⊢
 refine zu 0 (some 5) (bb 25 1) HT_ ?_
 refine zu 3 (some 8) (bb 25 9) HT_ ?_
 refine zu 5 (some 10) (bb 25 41) HT_ ?_
 refine zu 8 (some 13) (bb 25 297) HT_ ?_
 refine zu 10 (some 15) (bb 25 1321) HT_ ?_
 refine zu 13 (some 18) (bb 25 9513) HT_ ?_
 refine zu 15 (some 20) (bb 25 42281) HT_ ?_
 refine zu 18 (some 23) (bb 25 304425) HT_ ?_
 refine zu 20 (some 25) (bb 25 1353001) HT_ ?_
 refine zk 1 (some 6) (bb 25 1353003) HT_ HW_ hHeld ?_
 refine zk 4 (some 9) (bb 25 1353019) HT_ HW_ hHeld ?_
 refine zk 6 (some 11) (bb 25 1353083) HT_ HW_ hHeld ?_
 refine zu 7 (some 12) (bb 25 1353211) HT_ ?_
 refine zk 9 (some 14) (bb 25 1353723) HT_ HW_ hHeld ?_
 refine zk 11 (some 16) (bb 25 1355771) HT_ HW_ hHeld ?_
 refine zk 14 (some 19) (bb 25 1372155) HT_ HW_ hHeld ?_
 refine zk 16 (some 21) (bb 25 1437691) HT_ HW_ hHeld ?_
 refine zk 19 (some 24) (bb 25 1961979) HT_ HW_ hHeld ?_
 refine zk 21 (some 26) (bb 25 4059131) HT_ HW_ hHeld ?_
 refine zo 2 (some 7) (bb 25 4059135) HT_ (fun K hK => ?_)
 refine goes_ Try.func40 (by kernel_rfl) rfl #[.slice A0_0 l0_0.length c0_0] (by rfl) rfl rfl zm ?_
 with_reducible refine (slices_Clone_int_int.calls _ _ l0_0 t137 _ ?side1 ?side2 A3.out).mono ?_
 (case side1 => exact Kd.Cw HR0_0.out HB.out)
 (case side2 => exact HC0_0.out)
 rintro e w11 ⟨v138, rfl, ho0, hb⟩
 refine ⟨_, rfl, ?_⟩
 have n0_ := am (Kd.R_lower ho0 (below_size (wmv HB.out)))
 have n1_ := am (blk_below (bmv BK134.out) hb)
 have n2_ := am (blk_below (bmv BK135.out) hb)
 have n3_ := am (blk_below (bmv BK136.out) hb)
 have n4_ := am (below_step (wmv HB.out) hb)
 clear BK134 BK135 BK136 HB
 revert n0_ n1_ n2_ n3_ n4_
 intro HO139 BK134 BK135 BK136 HB
 (try clear hb)
 (try clear hb2)
 (try clear hk)
 (try clear hi)
 (try clear ho0)
 refine hK.out _ _ ⟨bc BK134 0, bc BK134 1, bc BK134 2, bc BK134 3, bc BK134 4, bc BK135 0, bc BK135 1, bc BK135 2, bc BK135 3, bc BK135 4⟩ (fun hHeld => ?_)
 clear hK K
 refine nm ?_
 refine zo 12 (some 17) (bb 25 4063231) HT_ (fun K hK => ?_)
 refine goes_ Try.func41 (by kernel_rfl) rfl #[.slice A0_2 l0_2.length c0_2, .slice A1_2 l1_2.length c1_2, .func (.func 42) #[] #[]] (by rfl) rfl rfl zm ?_
 with_reducible refine (cell_both_J1.calls k _ _ l0_2 _ _ l1_2 t140 _ ?side1 ?side2 ?side3 ?side4 A4.out).mono ?_
 (case side1 => exact Kd.Cw HR0_2.out HB.out)
 (case side2 => exact HC0_2.out)
 (case side3 => exact Kd.Cw HR1_2.out HB.out)
 (case side4 => exact HC1_2.out)
 rintro e w12 ⟨v141, rfl, ho0, hb⟩
 refine ⟨_, rfl, ?_⟩
 have n0_ := am (Kd.R_elder' (Kd.R_mv HO139.out) (Kd.R_base ho0) hb)
 have n1_ := am (Kd.R_lower (Kd.R_new' ho0 (Kd.R_lt (Kd.R_mv HO139.out))) (below_size (wmv HB.out)))
 have n2_ := am (blk_below (bmv BK134.out) hb)
 have n3_ := am (blk_below (bmv BK135.out) hb)
 have n4_ := am (blk_below (bmv BK136.out) hb)
 have n5_ := am (below_step (wmv HB.out) hb)
 clear HO139 BK134 BK135 BK136 HB
 revert n0_ n1_ n2_ n3_ n4_ n5_
 intro HO139 HO142 BK134 BK135 BK136 HB
 (try clear hb)
 (try clear hb2)
 (try clear hk)
 (try clear hi)
 (try clear ho0)
 refine hK.out _ _ ⟨bc BK134 0, bc BK134 1, bc BK134 2, bc BK134 3, bc BK134 4, bc BK135 0, bc BK135 1, bc BK135 2, bc BK135 3, bc BK135 4⟩ (fun hHeld => ?_)
 clear hK K
 refine nm ?_
 refine zo 17 (some 22) (bb 25 4194303) HT_ (fun K hK => ?_)
 refine goes_ Try.func41 (by kernel_rfl) rfl #[.slice A0_3 l0_3.length c0_3, .slice A1_3 l1_3.length c1_3, .func (.func 43) #[] #[]] (by rfl) rfl rfl zm ?_
 with_reducible refine (cell_both_J2.calls k _ _ l0_3 _ _ l1_3 t143 _ ?side1 ?side2 ?side3 ?side4 A5.out).mono ?_
 (case side1 => exact Kd.Cw HR0_3.out HB.out)
 (case side2 => exact HC0_3.out)
 (case side3 => exact Kd.Cw HR1_3.out HB.out)
 (case side4 => exact HC1_3.out)
 rintro e w13 ⟨v144, rfl, ho0, hb⟩
 refine ⟨_, rfl, ?_⟩
 have n0_ := am (Kd.R_elder' (Kd.R_mv HO139.out) (Kd.R_base ho0) hb)
 have n1_ := am (Kd.R_elder' (Kd.R_mv HO142.out) (Kd.R_base ho0) hb)
 have n2_ := am (Kd.R_lower (Kd.R_new' (Kd.R_new' ho0 (Kd.R_lt (Kd.R_mv HO139.out))) (Kd.R_lt (Kd.R_mv HO142.out))) (below_size (wmv HB.out)))
 have n3_ := am (blk_below (bmv BK134.out) hb)
 have n4_ := am (blk_below (bmv BK135.out) hb)
 have n5_ := am (blk_below (bmv BK136.out) hb)
 have n6_ := am (below_step (wmv HB.out) hb)
 clear HO139 HO142 BK134 BK135 BK136 HB
 revert n0_ n1_ n2_ n3_ n4_ n5_ n6_
 intro HO139 HO142 HO145 BK134 BK135 BK136 HB
 (try clear hb)
 (try clear hb2)
 (try clear hk)
 (try clear hi)
 (try clear ho0)
 refine hK.out _ _ ⟨bc BK134 0, bc BK134 1, bc BK134 2, bc BK134 3, bc BK134 4, bc BK135 0, bc BK135 1, bc BK135 2, bc BK135 3, bc BK135 4⟩ (fun hHeld => ?_)
 clear hK K
 refine nm ?_
 refine zo 22 (some 27) (bb 25 8388607) HT_ (fun K hK => ?_)
 refine goes_ Try.func41 (by kernel_rfl) rfl #[.slice A0_4 l0_4.length c0_4, .slice A1_4 l1_4.length c1_4, .func (.func 44) #[] #[]] (by rfl) rfl rfl zm ?_
 with_reducible refine (cell_both_J3.calls k _ _ l0_4 _ _ l1_4 t146 _ ?side1 ?side2 ?side3 ?side4 A6.out).mono ?_
 (case side1 => exact Kd.Cw HR0_4.out HB.out)
 (case side2 => exact HC0_4.out)
 (case side3 => exact Kd.Cw HR1_4.out HB.out)
 (case side4 => exact HC1_4.out)
 rintro e w14 ⟨v147, rfl, ho0, hb⟩
 refine ⟨_, rfl, ?_⟩
 have n0_ := am (Kd.R_elder' (Kd.R_mv HO139.out) (Kd.R_base ho0) hb)
 have n1_ := am (Kd.R_elder' (Kd.R_mv HO142.out) (Kd.R_base ho0) hb)
 have n2_ := am (Kd.R_elder' (Kd.R_mv HO145.out) (Kd.R_base ho0) hb)
 have n3_ := am (Kd.R_lower (Kd.R_new' (Kd.R_new' (Kd.R_new' ho0 (Kd.R_lt (Kd.R_mv HO139.out))) (Kd.R_lt (Kd.R_mv HO142.out))) (Kd.R_lt (Kd.R_mv HO145.out))) (below_size (wmv HB.out)))
 have n4_ := am (blk_below (bmv BK134.out) hb)
 have n5_ := am (blk_below (bmv BK135.out) hb)
 have n6_ := am (blk_below (bmv BK136.out) hb)
 have n7_ := am (below_step (wmv HB.out) hb)
 clear HO139 HO142 HO145 BK134 BK135 BK136 HB
 revert n0_ n1_ n2_ n3_ n4_ n5_ n6_ n7_
 intro HO139 HO142 HO145 HO148 BK134 BK135 BK136 HB
 (try clear hb)
 (try clear hb2)
 (try clear hk)
 (try clear hi)
 (try clear ho0)
 obtain ⟨Ao15, co15, eo15⟩ := Kd.R_slice HO148.out
 (first | subst eo15 | (injection eo15 with f1_ f2_ f3_; have f4_ := f1_.symm; have f5_ := f3_.symm; clear f1_ f2_ f3_; subst f4_; subst f5_))
 obtain ⟨Ao16, co16, eo16⟩ := Kd.R_slice HO145.out
 (first | subst eo16 | (injection eo16 with f1_ f2_ f3_; have f4_ := f1_.symm; have f5_ := f3_.symm; clear f1_ f2_ f3_; subst f4_; subst f5_))
 obtain ⟨Ao17, co17, eo17⟩ := Kd.R_slice HO142.out
 (first | subst eo17 | (injection eo17 with f1_ f2_ f3_; have f4_ := f1_.symm; have f5_ := f3_.symm; clear f1_ f2_ f3_; subst f4_; subst f5_))
 obtain ⟨Ao18, co18, eo18⟩ := Kd.R_slice HO139.out
 (first | subst eo18 | (injection eo18 with f1_ f2_ f3_; have f4_ := f1_.symm; have f5_ := f3_.symm; clear f1_ f2_ f3_; subst f4_; subst f5_))
 refine hK.out _ _ ⟨bc BK134 0, bc BK134 1, bc BK134 2, bc BK134 3, bc BK134 4, bc BK135 0, bc BK135 1, bc BK135 2, bc BK135 3, bc BK135 4⟩ (fun hHeld => ?_)
 clear hK K
 refine nm ?_
 refine zu 23 (some 28) (bb 25 16777215) HT_ ?_
 refine zo 24 none (bb 25 33554431) HT_ (fun K hK => ?_)
 have hs19 : w14.cell? ⟨gb136, 0, none⟩ = some (.slice none 0 0) := (blk_cell BK136.out 0).trans rfl
 have hfs19 := blk_frozen BK136.out 0
 have hns19_0 := NB134_136.out
 have hns19_1 := NB135_136.out
 have hms19_0 := NB136_134.out
 have hms19_1 := NB136_135.out
 have hs20 : w14.cell? ⟨gb136, 1, none⟩ = some (.int .i64 0) := (blk_cell BK136.out 1).trans rfl
 have hfs20 := blk_frozen BK136.out 1
 have hns20_0 := NB134_136.out
 have hns20_1 := NB135_136.out
 have hms20_0 := NB136_134.out
 have hms20_1 := NB136_135.out
 have hs21 : w14.cell? ⟨gb136, 2, none⟩ = some (.slice none 0 0) := (blk_cell BK136.out 2).trans rfl
 have hfs21 := blk_frozen BK136.out 2
 have hns21_0 := NB134_136.out
 have hns21_1 := NB135_136.out
 have hms21_0 := NB136_134.out
 have hms21_1 := NB136_135.out
 have hs22 : w14.cell? ⟨gb136, 3, none⟩ = some (.slice none 0 0) := (blk_cell BK136.out 3).trans rfl
 have hfs22 := blk_frozen BK136.out 3
 have hns22_0 := NB134_136.out
 have hns22_1 := NB135_136.out
 have hms22_0 := NB136_134.out
 have hms22_1 := NB136_135.out
 have hs23 : w14.cell? ⟨gb136, 4, none⟩ = some (.slice none 0 0) := (blk_cell BK136.out 4).trans rfl
 have hfs23 := blk_frozen BK136.out 4
 have hns23_0 := NB134_136.out
 have hns23_1 := NB135_136.out
 have hms23_0 := NB136_134.out
 have hms23_1 := NB136_135.out
 refine skip_ (w1 := ?_) (by rfl) rfl ?_ ?_
 rotate_left
 ·go_simp
  rfl
 refine hK.out _ _ ⟨((cell_far (p := ⟨gb136, _, none⟩) NB134_136.out _).trans (((cell_far (p := ⟨gb136, _, none⟩) NB134_136.out _).trans (((cell_far (p := ⟨gb136, _, none⟩) NB134_136.out _).trans (((cell_far (p := ⟨gb136, _, none⟩) NB134_136.out _).trans (((cell_far (p := ⟨gb136, _, none⟩) NB134_136.out _).trans (hHeld.1)))))))))), ((cell_far (p := ⟨gb136, _, none⟩) NB134_136.out _).trans (((cell_far (p := ⟨gb136, _, none⟩) NB134_136.out _).trans (((cell_far (p := ⟨gb136, _, none⟩) NB134_136.out _).trans (((cell_far (p := ⟨gb136, _, none⟩) NB134_136.out _).trans (((cell_far (p := ⟨gb136, _, none⟩) NB134_136.out _).trans (hHeld.2.1)))))))))), ((cell_far (p := ⟨gb136, _, none⟩) NB134_136.out _).trans (((cell_far (p := ⟨gb136, _, none⟩) NB134_136.out _).trans (((cell_far (p := ⟨gb136, _, none⟩) NB134_136.out _).trans (((cell_far (p := ⟨gb136, _, none⟩) NB134_136.out _).trans (((cell_far (p := ⟨gb136, _, none⟩) NB134_136.out _).trans (hHeld.2.2.1)))))))))), ((cell_far (p := ⟨gb136, _, none⟩) NB134_136.out _).trans (((cell_far (p := ⟨gb136, _, none⟩) NB134_136.out _).trans (((cell_far (p := ⟨gb136, _, none⟩) NB134_136.out _).trans (((cell_far (p := ⟨gb136, _, none⟩) NB134_136.out _).trans (((cell_far (p := ⟨gb136, _, none⟩) NB134_136.out _).trans (hHeld.2.2.2.1)))))))))), ((cell_far (p := ⟨gb136, _, none⟩) NB134_136.out _).trans (((cell_far (p := ⟨gb136, _, none⟩) NB134_136.out _).trans (((cell_far (p := ⟨gb136, _, none⟩) NB134_136.out _).trans (((cell_far (p := ⟨gb136, _, none⟩) NB134_136.out _).trans (((cell_far (p := ⟨gb136, _, none⟩) NB134_136.out _).trans (hHeld.2.2.2.2.1)))))))))), ((cell_far (p := ⟨gb136, _, none⟩) NB135_136.out _).trans (((cell_far (p := ⟨gb136, _, none⟩) NB135_136.out _).trans (((cell_far (p := ⟨gb136, _, none⟩) NB135_136.out _).trans (((cell_far (p := ⟨gb136, _, none⟩) NB135_136.out _).trans (((cell_far (p := ⟨gb136, _, none⟩) NB135_136.out _).trans (hHeld.2.2.2.2.2.1)))))))))), ((cell_far (p := ⟨gb136, _, none⟩) NB135_136.out _).trans (((cell_far (p := ⟨gb136, _, none⟩) NB135_136.out _).trans (((cell_far (p := ⟨gb136, _, none⟩) NB135_136.out _).trans (((cell_far (p := ⟨gb136, _, none⟩) NB135_136.out _).trans (((cell_far (p := ⟨gb136, _, none⟩) NB135_136.out _).trans (hHeld.2.2.2.2.2.2.1)))))))))), ((cell_far (p := ⟨gb136, _, none⟩) NB135_136.out _).trans (((cell_far (p := ⟨gb136, _, none⟩) NB135_136.out _).trans (((cell_far (p := ⟨gb136, _, none⟩) NB135_136.out _).trans (((cell_far (p := ⟨gb136, _, none⟩) NB135_136.out _).trans (((cell_far (p := ⟨gb136, _, none⟩) NB135_136.out _).trans (hHeld.2.2.2.2.2.2.2.1)))))))))), ((cell_far (p := ⟨gb136, _, none⟩) NB135_136.out _).trans (((cell_far (p := ⟨gb136, _, none⟩) NB135_136.out _).trans (((cell_far (p := ⟨gb136, _, none⟩) NB135_136.out _).trans (((cell_far (p := ⟨gb136, _, none⟩) NB135_136.out _).trans (((cell_far (p := ⟨gb136, _, none⟩) NB135_136.out _).trans (hHeld.2.2.2.2.2.2.2.2.1)))))))))), ((cell_far (p := ⟨gb136, _, none⟩) NB135_136.out _).trans (((cell_far (p := ⟨gb136, _, none⟩) NB135_136.out _).trans (((cell_far (p := ⟨gb136, _, none⟩) NB135_136.out _).trans (((cell_far (p := ⟨gb136, _, none⟩) NB135_136.out _).trans (((cell_far (p := ⟨gb136, _, none⟩) NB135_136.out _).trans (hHeld.2.2.2.2.2.2.2.2.2))))))))))⟩ (fun hHeld => ?_)
 clear hK K
 refine done_ (done_of HT_.out (by kernel_rfl)) ?_
 try go_wp2
 refine bodyPost_ret (results_cell_row rfl _ _ gb136 30 #[.slice Ao18 t137.length co18, .int .i64 (wrap64 (a0_1 + a1_1)), .slice Ao17 t140.length co17, .slice Ao16 t143.length co16, .slice Ao15 t146.length co15] (0, 0) _ rfl (by refine zq ?_; refine blk_put (cs := #[.slice Ao18 t137.length co18, .int .i64 (wrap64 (a0_1 + a1_1)), .slice Ao17 t140.length co17, .slice Ao16 t143.length co16, .slice none 0 0]) ?_ 4 _ rfl; refine zq ?_; refine blk_put (cs := #[.slice Ao18 t137.length co18, .int .i64 (wrap64 (a0_1 + a1_1)), .slice Ao17 t140.length co17, .slice none 0 0, .slice none 0 0]) ?_ 3 _ rfl; refine zq ?_; refine blk_put (cs := #[.slice Ao18 t137.length co18, .int .i64 (wrap64 (a0_1 + a1_1)), .slice none 0 0, .slice none 0 0, .slice none 0 0]) ?_ 2 _ rfl; refine zq ?_; refine blk_put (cs := #[.slice Ao18 t137.length co18, .int .i64 0, .slice none 0 0, .slice none 0 0, .slice none 0 0]) ?_ 1 _ rfl; refine zq ?_; refine blk_put (cs := #[.slice none 0 0, .int .i64 0, .slice none 0 0, .slice none 0 0, .slice none 0 0]) ?_ 0 _ rfl; refine zq ?_; exact BK136.out) Try.underlying30 rfl (by kernel_rfl)) rfl ?_
 exact ⟨_, _, _, _, by first | rfl | (simp [errW_none, errW_some] <;> rfl) | (simp [*, errW_none, errW_some] <;> rfl), by refine zr ?_; exact Kd.R_mono (Kd.R_far (p := ⟨gb136, 4, none⟩) (Kd.R_far (p := ⟨gb136, 3, none⟩) (Kd.R_far (p := ⟨gb136, 2, none⟩) (Kd.R_far (p := ⟨gb136, 1, none⟩) (Kd.R_far (p := ⟨gb136, 0, none⟩) (Kd.R_types HO139.out BK136.out (by decide)) (fun _ hk => hk.2) (.slice Ao18 t137.length co18)) (fun _ hk => hk.2) (.int .i64 (wrap64 (a0_1 + a1_1)))) (fun _ hk => hk.2) (.slice Ao17 t140.length co17)) (fun _ hk => hk.2) (.slice Ao16 t143.length co16)) (fun _ hk => hk.2) (.slice Ao15 t146.length co15)) (fun _ hk => ⟨hk.1.1.1.2, ⟨hk.1.1.2, hk.1.2⟩⟩), by refine zr ?_; exact Kd.R_mono (Kd.R_far (p := ⟨gb136, 4, none⟩) (Kd.R_far (p := ⟨gb136, 3, none⟩) (Kd.R_far (p := ⟨gb136, 2, none⟩) (Kd.R_far (p := ⟨gb136, 1, none⟩) (Kd.R_far (p := ⟨gb136, 0, none⟩) (Kd.R_types HO142.out BK136.out (by decide)) (fun _ hk => hk.2) (.slice Ao18 t137.length co18)) (fun _ hk => hk.2) (.int .i64 (wrap64 (a0_1 + a1_1)))) (fun _ hk => hk.2) (.slice Ao17 t140.length co17)) (fun _ hk => hk.2) (.slice Ao16 t143.length co16)) (fun _ hk => hk.2) (.slice Ao15 t146.length co15)) (fun _ hk => ⟨hk.1.1.1.2, ⟨hk.1.1.2, hk.1.2⟩⟩), by refine zr ?_; exact Kd.R_mono (Kd.R_far (p := ⟨gb136, 4, none⟩) (Kd.R_far (p := ⟨gb136, 3, none⟩) (Kd.R_far (p := ⟨gb136, 2, none⟩) (Kd.R_far (p := ⟨gb136, 1, none⟩) (Kd.R_far (p := ⟨gb136, 0, none⟩) (Kd.R_types HO145.out BK136.out (by decide)) (fun _ hk => hk.2) (.slice Ao18 t137.length co18)) (fun _ hk => hk.2) (.int .i64 (wrap64 (a0_1 + a1_1)))) (fun _ hk => hk.2) (.slice Ao17 t140.length co17)) (fun _ hk => hk.2) (.slice Ao16 t143.length co16)) (fun _ hk => hk.2) (.slice Ao15 t146.length co15)) (fun _ hk => ⟨hk.1.1.1.2, ⟨hk.1.1.2, hk.1.2⟩⟩), by refine zr ?_; exact Kd.R_mono (Kd.R_far (p := ⟨gb136, 4, none⟩) (Kd.R_far (p := ⟨gb136, 3, none⟩) (Kd.R_far (p := ⟨gb136, 2, none⟩) (Kd.R_far (p := ⟨gb136, 1, none⟩) (Kd.R_far (p := ⟨gb136, 0, none⟩) (Kd.R_types HO148.out BK136.out (by decide)) (fun _ hk => hk.2) (.slice Ao18 t137.length co18)) (fun _ hk => hk.2) (.int .i64 (wrap64 (a0_1 + a1_1)))) (fun _ hk => hk.2) (.slice Ao17 t140.length co17)) (fun _ hk => hk.2) (.slice Ao16 t143.length co16)) (fun _ hk => hk.2) (.slice Ao15 t146.length co15)) (fun _ hk => ⟨hk.1.1.1.2, ⟨hk.1.1.2, hk.1.2⟩⟩), zw HB⟩
def cell_Group_1.f (k : Nat) (l0_0 : List Int) (a0_1 : Int) (l0_2 : List Int) (l0_3 : List Int) (l0_4 : List Int) (l1_0 : List Int) (a1_1 : Int) (l1_2 : List Int) (l1_3 : List Int) (l1_4 : List Int) : Option (Int) := (cell_Less.f k l0_0 l1_0).bind fun t151 => (some t151)
set_option maxHeartbeats 8000000 in
set_option maxRecDepth 100000 in
theorem cell_Group_1.calls (k : Nat) (A0_0 : Option Addr) (c0_0 : Nat) (l0_0 : List Int) (a0_1 : Int) (A0_2 : Option Addr) (c0_2 : Nat) (l0_2 : List Int) (A0_3 : Option Addr) (c0_3 : Nat) (l0_3 : List Int) (A0_4 : Option Addr) (c0_4 : Nat) (l0_4 : List Int) (A1_0 : Option Addr) (c1_0 : Nat) (l1_0 : List Int) (a1_1 : Int) (A1_2 : Option Addr) (c1_2 : Nat) (l1_2 : List Int) (A1_3 : Option Addr) (c1_3 : Nat) (l1_3 : List Int) (A1_4 : Option Addr) (c1_4 : Nat) (l1_4 : List Int) (r : Int) (w : World) (hr0_0 : Kd.C (Kd.int .i64) w A0_0 l0_0.length l0_0) (hc0_0 : l0_0.length ≤ c0_0) (hr0_2 : Kd.C (Kd.int .i64) w A0_2 l0_2.length l0_2) (hc0_2 : l0_2.length ≤ c0_2) (hr0_3 : Kd.C (Kd.int .i64) w A0_3 l0_3.length l0_3) (hc0_3 : l0_3.length ≤ c0_3) (hr0_4 : Kd.C (Kd.int .i64) w A0_4 l0_4.length l0_4) (hc0_4 : l0_4.length ≤ c0_4) (hr1_0 : Kd.C (Kd.int .i64) w A1_0 l1_0.length l1_0) (hc1_0 : l1_0.length ≤ c1_0) (hr1_2 : Kd.C (Kd.int .i64) w A1_2 l1_2.length l1_2) (hc1_2 : l1_2.length ≤ c1_2) (hr1_3 : Kd.C (Kd.int .i64) w A1_3 l1_3.length l1_3) (hc1_3 : l1_3.length ≤ c1_3) (hr1_4 : Kd.C (Kd.int .i64) w A1_4 l1_4.length l1_4) (hc1_4 : l1_4.length ≤ c1_4) (h : cell_Group_1.f k l0_0 a0_1 l0_2 l0_3 l0_4 l1_0 a1_1 l1_2 l1_3 l1_4 = some r) :
  Calls Try.prog 46 #[.agg #[.slice A0_0 l0_0.length c0_0, .int .i64 a0_1, .slice A0_2 l0_2.length c0_2, .slice A0_3 l0_3.length c0_3, .slice A0_4 l0_4.length c0_4], .agg #[.slice A1_0 l1_0.length c1_0, .int .i64 a1_1, .slice A1_2 l1_2.length c1_2, .slice A1_3 l1_3.length c1_3, .slice A1_4 l1_4.length c1_4]] w fun e w' => e = .returned (.int .i64 r) ∧ Below w.heap.size w w' := by
 have hu30 := Try.underlying30
 have HR0_0 := am hr0_0
 have HC0_0 := am hc0_0
 clear hr0_0 hc0_0
 have HR0_2 := am hr0_2
 have HC0_2 := am hc0_2
 clear hr0_2 hc0_2
 have HR0_3 := am hr0_3
 have HC0_3 := am hc0_3
 clear hr0_3 hc0_3
 have HR0_4 := am hr0_4
 have HC0_4 := am hc0_4
 clear hr0_4 hc0_4
 have HR1_0 := am hr1_0
 have HC1_0 := am hc1_0
 clear hr1_0 hc1_0
 have HR1_2 := am hr1_2
 have HC1_2 := am hc1_2
 clear hr1_2 hc1_2
 have HR1_3 := am hr1_3
 have HC1_3 := am hc1_3
 clear hr1_3 hc1_3
 have HR1_4 := am hr1_4
 have HC1_4 := am hc1_4
 clear hr1_4 hc1_4
 have HB := am (Below.refl w.heap.size w)
 have H : ((cell_Less.f k l0_0 l1_0).bind fun t151 => (some t151)) = some r := h
 clear h
 replace H := Option.bind_eq_some_iff.mp H
 obtain ⟨t151, A30, H⟩ := H
 replace H : (some t151) = some r := H
 have A3 := am A30
 clear A30
 obtain rfl := Option.some.inj H
 go_enter Try.func46, Try.ntmps46
 go_wp2_with (first | ((with_reducible refine gate_dst (N := 2) rfl ?_); refine zX #[.slice A0_0 l0_0.length c0_0, .int .i64 a0_1, .slice A0_2 l0_2.length c0_2, .slice A0_3 l0_3.length c0_3, .slice A0_4 l0_4.length c0_4] 30 ?_; intro gb149 hg w4 hbox hb; have n0_ := am (below_step (zw HB) hb); have n1_ := am (hbox); have n2_ := am ((by rw [hg]; exact (below_size (zw HB)) : w.heap.size ≤ gb149)); have n3_ := am ((by rw [hg]; exact (below_size (zw HB)) : w.heap.size ≤ gb149)); clear HB; revert n0_ n1_ n2_ n3_; intro HB BK149 GW149 GE149; clear hb hbox hg) | ((with_reducible refine gate_dst (N := 3) rfl ?_); refine zX #[.slice A1_0 l1_0.length c1_0, .int .i64 a1_1, .slice A1_2 l1_2.length c1_2, .slice A1_3 l1_3.length c1_3, .slice A1_4 l1_4.length c1_4] 30 ?_; intro gb150 hg w5 hbox hb; have n0_ := am (blk_below (g := gb149) (o := .cells #[.slice A0_0 l0_0.length c0_0, .int .i64 a0_1, .slice A0_2 l0_2.length c0_2, .slice A0_3 l0_3.length c0_3, .slice A0_4 l0_4.length c0_4] 30 (0, 0)) (zb BK149) hb); have n1_ := am (below_step (zw HB) hb); have n2_ := am (hbox); have n3_ := am ((by rw [hg]; exact (below_size (zw HB)) : w.heap.size ≤ gb150)); have n4_ := am ((by rw [hg]; exact (below_size (zw HB)) : w.heap.size ≤ gb150)); have n5_ := am ((by rw [hg]; exact Nat.ne_of_lt (blk_lt (g := gb149) (o := .cells #[.slice A0_0 l0_0.length c0_0, .int .i64 a0_1, .slice A0_2 l0_2.length c0_2, .slice A0_3 l0_3.length c0_3, .slice A0_4 l0_4.length c0_4] 30 (0, 0)) (zb BK149)) : gb149 ≠ gb150)); have n6_ := am ((by rw [hg]; exact Nat.ne_of_gt (blk_lt (g := gb149) (o := .cells #[.slice A0_0 l0_0.length c0_0, .int .i64 a0_1, .slice A0_2 l0_2.length c0_2, .slice A0_3 l0_3.length c0_3, .slice A0_4 l0_4.length c0_4] 30 (0, 0)) (zb BK149)) : gb150 ≠ gb149)); clear BK149 HB; revert n0_ n1_ n2_ n3_ n4_ n5_ n6_; intro BK149 HB BK150 GW150 GE150 NB149_150 NB150_149; clear hb hbox hg; have hnb6 := NB149_150.out; have hnc6 := NB150_149.out; have hcz7_0 : w5.cell? ⟨gb149, 0, none⟩ = some (.slice A0_0 l0_0.length c0_0) := (blk_cell BK149.out 0).trans rfl; have hcz7_1 : w5.cell? ⟨gb149, 1, none⟩ = some (.int .i64 a0_1) := (blk_cell BK149.out 1).trans rfl; have hcz7_2 : w5.cell? ⟨gb149, 2, none⟩ = some (.slice A0_2 l0_2.length c0_2) := (blk_cell BK149.out 2).trans rfl; have hcz7_3 : w5.cell? ⟨gb149, 3, none⟩ = some (.slice A0_3 l0_3.length c0_3) := (blk_cell BK149.out 3).trans rfl; have hcz7_4 : w5.cell? ⟨gb149, 4, none⟩ = some (.slice A0_4 l0_4.length c0_4) := (blk_cell BK149.out 4).trans rfl; have hfz7_0 := blk_frozen BK149.out 0; have hfz7_1 := blk_frozen BK149.out 1; have hfz7_2 := blk_frozen BK149.out 2; have hfz7_3 := blk_frozen BK149.out 3; have hfz7_4 := blk_frozen BK149.out 4; have hcz8_0 : w5.cell? ⟨gb150, 0, none⟩ = some (.slice A1_0 l1_0.length c1_0) := (blk_cell BK150.out 0).trans rfl; have hcz8_1 : w5.cell? ⟨gb150, 1, none⟩ = some (.int .i64 a1_1) := (blk_cell BK150.out 1).trans rfl; have hcz8_2 : w5.cell? ⟨gb150, 2, none⟩ = some (.slice A1_2 l1_2.length c1_2) := (blk_cell BK150.out 2).trans rfl; have hcz8_3 : w5.cell? ⟨gb150, 3, none⟩ = some (.slice A1_3 l1_3.length c1_3) := (blk_cell BK150.out 3).trans rfl; have hcz8_4 : w5.cell? ⟨gb150, 4, none⟩ = some (.slice A1_4 l1_4.length c1_4) := (blk_cell BK150.out 4).trans rfl; have hfz8_0 := blk_frozen BK150.out 0; have hfz8_1 := blk_frozen BK150.out 1; have hfz8_2 := blk_frozen BK150.out 2; have hfz8_3 := blk_frozen BK150.out 3; have hfz8_4 := blk_frozen BK150.out 4) | (go_at_call 17; (with_reducible refine (cell_Less.calls k _ _ l0_0 _ _ l1_0 t151 _ ?side1 ?side2 ?side3 ?side4 A3.out).mono ?_); (case side1 => repeat (first | exact (Kd.C_below HR0_0.out HB.out) | (with_reducible refine Kd.C_alloc ?_ _) | (with_reducible refine Kd.C_drewN ?_ _) | (with_reducible refine Kd.C_drew ?_))); (case side2 => exact HC0_0.out); (case side3 => repeat (first | exact (Kd.C_below HR1_0.out HB.out) | (with_reducible refine Kd.C_alloc ?_ _) | (with_reducible refine Kd.C_drewN ?_ _) | (with_reducible refine Kd.C_drew ?_))); (case side4 => exact HC1_0.out); rintro e w' ⟨rfl, ⟨nd, rfl⟩⟩))
 go_ret
 exact ⟨by first | rfl | (simp [errW_none, errW_some] <;> rfl) | (simp [*, errW_none, errW_some] <;> rfl), zw HB⟩
def bsf_G1.l0 : Nat → List (S30) → Int → Int → Int → List Int → Int → List Int → List Int → List Int → Option (Int × Bool)
 | 0, _, _, _, _, _, _, _, _, _ => none
 | k + 1, x0, x8, x9, x10, x153000, x153001, x153002, x153003, x153004 => if x9 < x10 then (if 0 ≤ (wrap64 ((IntKind.u64.wrap (wrap64 (x9 + x10))) / 2)) then (if (wrap64 ((IntKind.u64.wrap (wrap64 (x9 + x10))) / 2)) < (x0.length : Int) then ((cell_Group_1.f k ((rd_T30 x0 (wrap64 ((IntKind.u64.wrap (wrap64 (x9 + x10))) / 2))).f0) ((rd_T30 x0 (wrap64 ((IntKind.u64.wrap (wrap64 (x9 + x10))) / 2))).f1) ((rd_T30 x0 (wrap64 ((IntKind.u64.wrap (wrap64 (x9 + x10))) / 2))).f2) ((rd_T30 x0 (wrap64 ((IntKind.u64.wrap (wrap64 (x9 + x10))) / 2))).f3) ((rd_T30 x0 (wrap64 ((IntKind.u64.wrap (wrap64 (x9 + x10))) / 2))).f4) x153000 x153001 x153002 x153003 x153004).bind fun t154 => (if t154 < 0 then (bsf_G1.l0 k x0 x8 (wrap64 ((wrap64 ((IntKind.u64.wrap (wrap64 (x9 + x10))) / 2)) + 1)) x10 x153000 x153001 x153002 x153003 x153004) else (bsf_G1.l0 k x0 x8 x9 (wrap64 ((IntKind.u64.wrap (wrap64 (x9 + x10))) / 2)) x153000 x153001 x153002 x153003 x153004))) else (none)) else (none)) else (if x9 < x8 then (if 0 ≤ x9 then (if x9 < (x0.length : Int) then ((cell_Group_1.f k ((rd_T30 x0 x9).f0) ((rd_T30 x0 x9).f1) ((rd_T30 x0 x9).f2) ((rd_T30 x0 x9).f3) ((rd_T30 x0 x9).f4) x153000 x153001 x153002 x153003 x153004).bind fun t156 => (some (x9, (t156 == 0)))) else (none)) else (none)) else (some (x9, false)))
def bsf_G1.f (k : Nat) (l0 : List (S30)) (l1_0 : List Int) (a1_1 : Int) (l1_2 : List Int) (l1_3 : List Int) (l1_4 : List Int) : Option (Int × Bool) := bsf_G1.l0 k l0 (l0.length : Int) 0 (l0.length : Int) l1_0 a1_1 l1_2 l1_3 l1_4
def bsf_G1.T5 : Bool × List (List Nat × List Nat) := (true, [([], []), ([], []), ([], []), ([1, 2], [1, 2]), ([3], [3]), ([], []), ([0, 4, 5], [0, 4, 5]), ([6], [6])])
def bsf_G1.B5 : List Nat := [0, 0, 0, 6, 14, 0, 63, 127]
theorem bsf_G1.tab5 : rtab .any (opsOf Try.f64 5) = bsf_G1.T5 := by kernel_rfl
theorem bsf_G1.bits5 : waitsOk bsf_G1.T5.2 bsf_G1.B5 = true := by kernel_rfl
def bsf_G1.T8 : Bool × List (List Nat × List Nat) := (true, [([], []), ([], []), ([], []), ([1, 2], [1, 2]), ([3], [3]), ([4], [4]), ([4], [4]), ([4], [4]), ([6, 7, 4], [4, 6, 7]), ([8, 4], [4, 8]), ([4], [4]), ([5, 9, 10, 4, 4], [4, 5, 9, 10]), ([11, 4], [4, 11]), ([4, 12], [4, 12]), ([0, 11, 0], [0]), ([13, 14, 0, 1, 2, 3, 4, 5, 6, 7, 8, 9, 10, 11, 12, 13, 14], [13])])
def bsf_G1.B8 : List Nat := [0, 0, 0, 6, 14, 30, 30, 30, 222, 478, 30, 2046, 4094, 8190, 4095, 32767]
theorem bsf_G1.tab8 : rtab .any (opsOf Try.f64 8) = bsf_G1.T8 := by kernel_rfl
theorem bsf_G1.bits8 : waitsOk bsf_G1.T8.2 bsf_G1.B8 = true := by kernel_rfl
set_option maxHeartbeats 8000000 in
set_option maxRecDepth 100000 in
theorem bsf_G1.calls (k : Nat) (A0 : Option Addr) (c0 : Nat) (l0 : List (S30)) (A1_0 : Option Addr) (c1_0 : Nat) (l1_0 : List Int) (a1_1 : Int) (A1_2 : Option Addr) (c1_2 : Nat) (l1_2 : List Int) (A1_3 : Option Addr) (c1_3 : Nat) (l1_3 : List Int) (A1_4 : Option Addr) (c1_4 : Nat) (l1_4 : List Int) (r1 : Int) (r2 : Bool) (w : World) (hr0 : Kd.C k30 w A0 l0.length l0) (hc0 : l0.length ≤ c0) (hr1_0 : Kd.C (Kd.int .i64) w A1_0 l1_0.length l1_0) (hc1_0 : l1_0.length ≤ c1_0) (hr1_2 : Kd.C (Kd.int .i64) w A1_2 l1_2.length l1_2) (hc1_2 : l1_2.length ≤ c1_2) (hr1_3 : Kd.C (Kd.int .i64) w A1_3 l1_3.length l1_3) (hc1_3 : l1_3.length ≤ c1_3) (hr1_4 : Kd.C (Kd.int .i64) w A1_4 l1_4.length l1_4) (hc1_4 : l1_4.length ≤ c1_4) (h : bsf_G1.f k l0 l1_0 a1_1 l1_2 l1_3 l1_4 = some (r1, r2)) :
  Calls Try.prog 64 #[.slice A0 l0.length c0, .agg #[.slice A1_0 l1_0.length c1_0, .int .i64 a1_1, .slice A1_2 l1_2.length c1_2, .slice A1_3 l1_3.length c1_3, .slice A1_4 l1_4.length c1_4], .func (.func 46) #[] #[]] w fun e w' => e = .returned (.tuple #[.int .i64 r1, .bool r2]) ∧ Below w.heap.size w w' := by
 have hu30 := Try.underlying30
 have HR0 := am hr0
 have HC0 := am hc0
 clear hr0 hc0
 have HR1_0 := am hr1_0
 have HC1_0 := am hc1_0
 clear hr1_0 hc1_0
 have HR1_2 := am hr1_2
 have HC1_2 := am hc1_2
 clear hr1_2 hc1_2
 have HR1_3 := am hr1_3
 have HC1_3 := am hc1_3
 clear hr1_3 hc1_3
 have HR1_4 := am hr1_4
 have HC1_4 := am hc1_4
 clear hr1_4 hc1_4
 have HB := am (Below.refl w.heap.size w)
 have H : (bsf_G1.l0 k l0 (l0.length : Int) 0 (l0.length : Int) l1_0 a1_1 l1_2 l1_3 l1_4) = some (r1, r2) := h
 clear h
 have H' := am H
 clear H
 go_enter Try.func64, Try.ntmps64
 go_wp2_with (first | ((with_reducible refine gate_dst (N := 4) rfl ?_); refine zX #[.slice A1_0 l1_0.length c1_0, .int .i64 a1_1, .slice A1_2 l1_2.length c1_2, .slice A1_3 l1_3.length c1_3, .slice A1_4 l1_4.length c1_4] 30 ?_; intro gb152 hg w3 hbox hb; have n0_ := am (below_step (wmv HB.out) hb); have n1_ := am (hbox); have n2_ := am ((by rw [hg]; exact (below_size (wmv HB.out)) : w.heap.size ≤ gb152)); have n3_ := am ((by rw [hg]; exact (below_size (wmv HB.out)) : w.heap.size ≤ gb152)); clear HB; revert n0_ n1_ n2_ n3_; intro HB BK152 GW152 GE152; clear hb hbox hg))
 go_loopg [9, 10] k (fun kq v9 v10 w' => ∃ (x9_1 : Int) (x10_1 : Int), v9 = .int .i64 x9_1 ∧ v10 = .int .i64 x10_1 ∧ Aside0 (bsf_G1.l0 kq l0 (l0.length : Int) x9_1 x10_1 l1_0 a1_1 l1_2 l1_3 l1_4 = some (r1, r2)) ∧ Aside0 (kq ≤ k) ∧ Aside0 (w'.heap[gb152]? = some (.cells #[(.slice A1_0 l1_0.length c1_0), .int .i64 a1_1, (.slice A1_2 l1_2.length c1_2), (.slice A1_3 l1_3.length c1_3), (.slice A1_4 l1_4.length c1_4)] 30 (0, 0))) ∧ Aside0 (Below w.heap.size w w'))
 case atStart => exact ⟨(0), ((l0.length : Int)), zz, zz, H', ⟨Nat.le_refl _⟩, ⟨by refine zq ?_; exact BK152.out⟩, ⟨zw HB⟩⟩
 case round =>
  clear H'
  try clear c1
  try clear p2
  obtain ⟨x9_1, x10_1, rfl, rfl, HA, HK1, BK152, HB⟩ := hrel
  cases gk with
  | zero => exact absurd HA.out (by simp [bsf_G1.l0])
  | succ k1 =>
   have H := HA.out
   clear HA
   simp only [bsf_G1.l0] at H
   by_cases c4 : x9_1 < x10_1
   ·rw [if_pos c4] at H
    have c4b0 : decide (x9_1 < x10_1) = true := decide_eq_true c4
    clear c4
    obtain ⟨ji5, hji5⟩ : ∃ j_ : Int, (wrap64 ((IntKind.u64.wrap (wrap64 (x9_1 + x10_1))) / 2)) = j_ := ⟨_, rfl⟩
    replace H : (if 0 ≤ (ji5) then (if (ji5) < (l0.length : Int) then ((cell_Group_1.f k1 ((rd_T30 l0 (ji5)).f0) ((rd_T30 l0 (ji5)).f1) ((rd_T30 l0 (ji5)).f2) ((rd_T30 l0 (ji5)).f3) ((rd_T30 l0 (ji5)).f4) l1_0 a1_1 l1_2 l1_3 l1_4).bind fun t154 => (if t154 < 0 then (bsf_G1.l0 k1 l0 (l0.length : Int) (wrap64 ((ji5) + 1)) x10_1 l1_0 a1_1 l1_2 l1_3 l1_4) else (bsf_G1.l0 k1 l0 (l0.length : Int) x9_1 ji5 l1_0 a1_1 l1_2 l1_3 l1_4))) else (none)) else (none)) = some (r1, r2) := by first | (rw [hji5] at H; exact H) | (simp only [hji5] at H ⊢; exact H)
    have hji5w : (IntKind.i64.wrap ((IntKind.u64.wrap (wrap64 (x9_1 + x10_1))) / 2)) = ji5 := (i64_w _).trans hji5
    by_cases c6 : 0 ≤ (ji5)
    ·rw [if_pos c6] at H
     have c6b0 : decide (0 ≤ (ji5)) = true := decide_eq_true c6
     clear c6
     by_cases c7 : (ji5) < (l0.length : Int)
     ·rw [if_pos c7] at H
      have c7b0 : decide ((ji5) < (l0.length : Int)) = true := decide_eq_true c7
      clear c7
      replace H := Option.bind_eq_some_iff.mp H
      obtain ⟨t154, A80, H⟩ := H
      replace H : (if t154 < 0 then (bsf_G1.l0 k1 l0 (l0.length : Int) (wrap64 ((ji5) + 1)) x10_1 l1_0 a1_1 l1_2 l1_3 l1_4) else (bsf_G1.l0 k1 l0 (l0.length : Int) x9_1 ji5 l1_0 a1_1 l1_2 l1_3 l1_4)) = some (r1, r2) := H
      have A8 := am A80
      clear A80
      by_cases c9 : t154 < 0
      ·rw [if_pos c9] at H
       have c9b0 : decide (t154 < 0) = true := decide_eq_true c9
       clear c9
       have H' := am H
       clear H
       try go_wp2
       have n0_ := am (blk_drew BK152.out)
       have n1_ := am (below_drew1 HB.out)
       clear BK152 HB
       revert n0_ n1_
       intro BK152 HB
       have p153 : 0 ≤ ((ji5) : Int) := zd
       have q153 : (ji5) < (l0.length : Int) := zd
       obtain ⟨ad153, A153_0, c153_0, A153_2, c153_2, A153_3, c153_3, A153_4, c153_4, e153, hx153_0, hx153_1, hx153_2, hx153_3, hx153_4, hl153_0, hi153_0, hl153_2, hi153_2, hl153_3, hi153_3, hl153_4, hi153_4⟩ := at_T30 HR0.out (ji5) p153 q153
       have hw153_4 := hx153_4
       have hw153_3 := hx153_3
       have hw153_2 := hx153_2
       have hw153_1 := hx153_1
       have hw153_0 := hx153_0
       cases e153
       replace hx153_0 := zc HB hx153_0
       replace hx153_1 := zc HB hx153_1
       replace hx153_2 := zc HB hx153_2
       replace hx153_3 := zc HB hx153_3
       replace hx153_4 := zc HB hx153_4
       have HR153_0 := am hi153_0
       have HC153_0 := am hl153_0
       clear hi153_0 hl153_0
       have HR153_2 := am hi153_2
       have HC153_2 := am hl153_2
       clear hi153_2 hl153_2
       have HR153_3 := am hi153_3
       have HC153_3 := am hl153_3
       clear hi153_3 hl153_3
       have HR153_4 := am hi153_4
       have HC153_4 := am hl153_4
       clear hi153_4 hl153_4
       replace p153 := eq_true p153
       replace q153 := eq_true q153
       refine start_ (n := 8) (S := fun w' => w'.cell? ⟨gb152, 0, none⟩ = some (.slice A1_0 l1_0.length c1_0) ∧ w'.cell? ⟨gb152, 1, none⟩ = some (.int .i64 a1_1) ∧ w'.cell? ⟨gb152, 2, none⟩ = some (.slice A1_2 l1_2.length c1_2) ∧ w'.cell? ⟨gb152, 3, none⟩ = some (.slice A1_3 l1_3.length c1_3) ∧ w'.cell? ⟨gb152, 4, none⟩ = some (.slice A1_4 l1_4.length c1_4) ∧ w'.cell? (ad153.add (((ji5)).toNat * 5)) = some (.slice A153_0 ((rd_T30 l0 (ji5)).f0).length c153_0) ∧ w'.cell? ⟨(ad153.add (((ji5)).toNat * 5)).block, (ad153.add (((ji5)).toNat * 5)).off + 1, none⟩ = some (.int .i64 ((rd_T30 l0 (ji5)).f1)) ∧ w'.cell? ⟨(ad153.add (((ji5)).toNat * 5)).block, (ad153.add (((ji5)).toNat * 5)).off + 2, none⟩ = some (.slice A153_2 ((rd_T30 l0 (ji5)).f2).length c153_2) ∧ w'.cell? ⟨(ad153.add (((ji5)).toNat * 5)).block, (ad153.add (((ji5)).toNat * 5)).off + 3, none⟩ = some (.slice A153_3 ((rd_T30 l0 (ji5)).f3).length c153_3) ∧ w'.cell? ⟨(ad153.add (((ji5)).toNat * 5)).block, (ad153.add (((ji5)).toNat * 5)).off + 4, none⟩ = some (.slice A153_4 ((rd_T30 l0 (ji5)).f4).length c153_4)) (ds := []) (bb 8 0) (by kernel_rfl) rfl rfl ⟨bc BK152 0, bc BK152 1, bc BK152 2, bc BK152 3, bc BK152 4, (zc HB hw153_0), (zc HB hw153_1), (zc HB hw153_2), (zc HB hw153_3), (zc HB hw153_4)⟩ (fun hHeld => ?_); refine with_tabW bsf_G1.tab5 bsf_G1.bits5 (fun HT_ HW_ => ?_)
       generalize wr.drew = w10 at BK152 HB HR153_0 HR153_2 HR153_3 HR153_4 hx153_0 hx153_1 hx153_2 hx153_3 hx153_4 hHeld ⊢
       refine zu 0 (some 24) (bb 8 1) HT_ ?_
       refine zu 1 (some 25) (bb 8 3) HT_ ?_
       refine zu 2 (some 26) (bb 8 7) HT_ ?_
       refine zu 3 (some 27) (bb 8 15) HT_ ?_
       refine zk 4 (some 28) (bb 8 31) HT_ HW_ hHeld ?_
       refine zk 5 (some 29) (bb 8 63) HT_ HW_ hHeld ?_
       refine zo 6 (some 30) (bb 8 127) HT_ (fun K hK => ?_)
       refine goesv_ Try.func46 (by kernel_rfl) rfl #[.agg #[.slice A153_0 ((rd_T30 l0 (ji5)).f0).length c153_0, .int .i64 ((rd_T30 l0 (ji5)).f1), .slice A153_2 ((rd_T30 l0 (ji5)).f2).length c153_2, .slice A153_3 ((rd_T30 l0 (ji5)).f3).length c153_3, .slice A153_4 ((rd_T30 l0 (ji5)).f4).length c153_4], .agg #[.slice A1_0 l1_0.length c1_0, .int .i64 a1_1, .slice A1_2 l1_2.length c1_2, .slice A1_3 l1_3.length c1_3, .slice A1_4 l1_4.length c1_4]] (by rfl) rfl rfl (by (try simp only [List.map_toArray, List.map_cons, List.map_nil]); first | done | (simp only [hji5]; rfl) | rfl | (simp only [List.length_drop, List.length_take]; rfl)) ?_
       with_reducible refine (cell_Group_1.calls k1 _ _ ((rd_T30 l0 (ji5)).f0) ((rd_T30 l0 (ji5)).f1) _ _ ((rd_T30 l0 (ji5)).f2) _ _ ((rd_T30 l0 (ji5)).f3) _ _ ((rd_T30 l0 (ji5)).f4) _ _ l1_0 a1_1 _ _ l1_2 _ _ l1_3 _ _ l1_4 t154 _ ?side1 ?side2 ?side3 ?side4 ?side5 ?side6 ?side7 ?side8 ?side9 ?side10 ?side11 ?side12 ?side13 ?side14 ?side15 ?side16 A8.out).mono ?_
       (case side1 => exact Kd.Cw HR153_0.out HB.out)
       (case side2 => exact HC153_0.out)
       (case side3 => exact Kd.Cw HR153_2.out HB.out)
       (case side4 => exact HC153_2.out)
       (case side5 => exact Kd.Cw HR153_3.out HB.out)
       (case side6 => exact HC153_3.out)
       (case side7 => exact Kd.Cw HR153_4.out HB.out)
       (case side8 => exact HC153_4.out)
       (case side9 => exact Kd.Cw HR1_0.out HB.out)
       (case side10 => exact HC1_0.out)
       (case side11 => exact Kd.Cw HR1_2.out HB.out)
       (case side12 => exact HC1_2.out)
       (case side13 => exact Kd.Cw HR1_3.out HB.out)
       (case side14 => exact HC1_3.out)
       (case side15 => exact Kd.Cw HR1_4.out HB.out)
       (case side16 => exact HC1_4.out)
       rintro e w11 ⟨rfl, hb⟩
       refine ⟨_, rfl, ?_⟩
       have n0_ := am (blk_below (bmv BK152.out) hb)
       have n1_ := am (below_step (wmv HB.out) hb)
       clear BK152 HB
       revert n0_ n1_
       intro BK152 HB
       (try clear hb)
       (try clear hb2)
       (try clear hk)
       (try clear hi)
       refine hK.out _ _ ⟨bc BK152 0, bc BK152 1, bc BK152 2, bc BK152 3, bc BK152 4, (zc HB hw153_0), (zc HB hw153_1), (zc HB hw153_2), (zc HB hw153_3), (zc HB hw153_4)⟩ (fun hHeld => ?_)
       clear hK K
       refine nm ?_
       refine zu 7 (some 31) (bb 8 255) HT_ ?_
       refine done_ (done_of HT_.out (by kernel_rfl)) ?_
       try go_wp2
       go_roundg k1
       case measure => have := HK1.out; omega
       case rel => exact ⟨(wrap64 ((ji5) + 1)), (x10_1), (by first | rfl | (simp; done) | (simp only [← hji5] <;> (first | rfl | simp)) | (simp [*]; done)), zz, H', ⟨by have := HK1.out; omega⟩, ⟨by refine zq ?_; exact BK152.out⟩, ⟨zw HB⟩⟩
      ·rw [if_neg c9] at H
       have c9b0 : decide (t154 < 0) = false := decide_eq_false c9
       clear c9
       have H' := am H
       clear H
       try go_wp2
       have n0_ := am (blk_drew BK152.out)
       have n1_ := am (below_drew1 HB.out)
       clear BK152 HB
       revert n0_ n1_
       intro BK152 HB
       have p153 : 0 ≤ ((ji5) : Int) := zd
       have q153 : (ji5) < (l0.length : Int) := zd
       obtain ⟨ad153, A153_0, c153_0, A153_2, c153_2, A153_3, c153_3, A153_4, c153_4, e153, hx153_0, hx153_1, hx153_2, hx153_3, hx153_4, hl153_0, hi153_0, hl153_2, hi153_2, hl153_3, hi153_3, hl153_4, hi153_4⟩ := at_T30 HR0.out (ji5) p153 q153
       have hw153_4 := hx153_4
       have hw153_3 := hx153_3
       have hw153_2 := hx153_2
       have hw153_1 := hx153_1
       have hw153_0 := hx153_0
       cases e153
       replace hx153_0 := zc HB hx153_0
       replace hx153_1 := zc HB hx153_1
       replace hx153_2 := zc HB hx153_2
       replace hx153_3 := zc HB hx153_3
       replace hx153_4 := zc HB hx153_4
       have HR153_0 := am hi153_0
       have HC153_0 := am hl153_0
       clear hi153_0 hl153_0
       have HR153_2 := am hi153_2
       have HC153_2 := am hl153_2
       clear hi153_2 hl153_2
       have HR153_3 := am hi153_3
       have HC153_3 := am hl153_3
       clear hi153_3 hl153_3
       have HR153_4 := am hi153_4
       have HC153_4 := am hl153_4
       clear hi153_4 hl153_4
       replace p153 := eq_true p153
       replace q153 := eq_true q153
       refine start_ (n := 8) (S := fun w' => w'.cell? ⟨gb152, 0, none⟩ = some (.slice A1_0 l1_0.length c1_0) ∧ w'.cell? ⟨gb152, 1, none⟩ = some (.int .i64 a1_1) ∧ w'.cell? ⟨gb152, 2, none⟩ = some (.slice A1_2 l1_2.length c1_2) ∧ w'.cell? ⟨gb152, 3, none⟩ = some (.slice A1_3 l1_3.length c1_3) ∧ w'.cell? ⟨gb152, 4, none⟩ = some (.slice A1_4 l1_4.length c1_4) ∧ w'.cell? (ad153.add (((ji5)).toNat * 5)) = some (.slice A153_0 ((rd_T30 l0 (ji5)).f0).length c153_0) ∧ w'.cell? ⟨(ad153.add (((ji5)).toNat * 5)).block, (ad153.add (((ji5)).toNat * 5)).off + 1, none⟩ = some (.int .i64 ((rd_T30 l0 (ji5)).f1)) ∧ w'.cell? ⟨(ad153.add (((ji5)).toNat * 5)).block, (ad153.add (((ji5)).toNat * 5)).off + 2, none⟩ = some (.slice A153_2 ((rd_T30 l0 (ji5)).f2).length c153_2) ∧ w'.cell? ⟨(ad153.add (((ji5)).toNat * 5)).block, (ad153.add (((ji5)).toNat * 5)).off + 3, none⟩ = some (.slice A153_3 ((rd_T30 l0 (ji5)).f3).length c153_3) ∧ w'.cell? ⟨(ad153.add (((ji5)).toNat * 5)).block, (ad153.add (((ji5)).toNat * 5)).off + 4, none⟩ = some (.slice A153_4 ((rd_T30 l0 (ji5)).f4).length c153_4)) (ds := []) (bb 8 0) (by kernel_rfl) rfl rfl ⟨bc BK152 0, bc BK152 1, bc BK152 2, bc BK152 3, bc BK152 4, (zc HB hw153_0), (zc HB hw153_1), (zc HB hw153_2), (zc HB hw153_3), (zc HB hw153_4)⟩ (fun hHeld => ?_); refine with_tabW bsf_G1.tab5 bsf_G1.bits5 (fun HT_ HW_ => ?_)
       generalize wr.drew = w12 at BK152 HB HR153_0 HR153_2 HR153_3 HR153_4 hx153_0 hx153_1 hx153_2 hx153_3 hx153_4 hHeld ⊢
       refine zu 0 (some 24) (bb 8 1) HT_ ?_
       refine zu 1 (some 25) (bb 8 3) HT_ ?_
       refine zu 2 (some 26) (bb 8 7) HT_ ?_
       refine zu 3 (some 27) (bb 8 15) HT_ ?_
       refine zk 4 (some 28) (bb 8 31) HT_ HW_ hHeld ?_
       refine zk 5 (some 29) (bb 8 63) HT_ HW_ hHeld ?_
       refine zo 6 (some 30) (bb 8 127) HT_ (fun K hK => ?_)
       refine goesv_ Try.func46 (by kernel_rfl) rfl #[.agg #[.slice A153_0 ((rd_T30 l0 (ji5)).f0).length c153_0, .int .i64 ((rd_T30 l0 (ji5)).f1), .slice A153_2 ((rd_T30 l0 (ji5)).f2).length c153_2, .slice A153_3 ((rd_T30 l0 (ji5)).f3).length c153_3, .slice A153_4 ((rd_T30 l0 (ji5)).f4).length c153_4], .agg #[.slice A1_0 l1_0.length c1_0, .int .i64 a1_1, .slice A1_2 l1_2.length c1_2, .slice A1_3 l1_3.length c1_3, .slice A1_4 l1_4.length c1_4]] (by rfl) rfl rfl (by (try simp only [List.map_toArray, List.map_cons, List.map_nil]); first | done | (simp only [hji5]; rfl) | rfl | (simp only [List.length_drop, List.length_take]; rfl)) ?_
       with_reducible refine (cell_Group_1.calls k1 _ _ ((rd_T30 l0 (ji5)).f0) ((rd_T30 l0 (ji5)).f1) _ _ ((rd_T30 l0 (ji5)).f2) _ _ ((rd_T30 l0 (ji5)).f3) _ _ ((rd_T30 l0 (ji5)).f4) _ _ l1_0 a1_1 _ _ l1_2 _ _ l1_3 _ _ l1_4 t154 _ ?side1 ?side2 ?side3 ?side4 ?side5 ?side6 ?side7 ?side8 ?side9 ?side10 ?side11 ?side12 ?side13 ?side14 ?side15 ?side16 A8.out).mono ?_
       (case side1 => exact Kd.Cw HR153_0.out HB.out)
       (case side2 => exact HC153_0.out)
       (case side3 => exact Kd.Cw HR153_2.out HB.out)
       (case side4 => exact HC153_2.out)
       (case side5 => exact Kd.Cw HR153_3.out HB.out)
       (case side6 => exact HC153_3.out)
       (case side7 => exact Kd.Cw HR153_4.out HB.out)
       (case side8 => exact HC153_4.out)
       (case side9 => exact Kd.Cw HR1_0.out HB.out)
       (case side10 => exact HC1_0.out)
       (case side11 => exact Kd.Cw HR1_2.out HB.out)
       (case side12 => exact HC1_2.out)
       (case side13 => exact Kd.Cw HR1_3.out HB.out)
       (case side14 => exact HC1_3.out)
       (case side15 => exact Kd.Cw HR1_4.out HB.out)
       (case side16 => exact HC1_4.out)
       rintro e w13 ⟨rfl, hb⟩
       refine ⟨_, rfl, ?_⟩
       have n0_ := am (blk_below (bmv BK152.out) hb)
       have n1_ := am (below_step (wmv HB.out) hb)
       clear BK152 HB
       revert n0_ n1_
       intro BK152 HB
       (try clear hb)
       (try clear hb2)
       (try clear hk)
       (try clear hi)
       refine hK.out _ _ ⟨bc BK152 0, bc BK152 1, bc BK152 2, bc BK152 3, bc BK152 4, (zc HB hw153_0), (zc HB hw153_1), (zc HB hw153_2), (zc HB hw153_3), (zc HB hw153_4)⟩ (fun hHeld => ?_)
       clear hK K
       refine nm ?_
       refine zu 7 (some 31) (bb 8 255) HT_ ?_
       refine done_ (done_of HT_.out (by kernel_rfl)) ?_
       try go_wp2
       go_roundg k1
       case measure => have := HK1.out; omega
       case rel => exact ⟨(x9_1), (ji5), zz, (by first | rfl | (simp; done) | (simp only [← hji5] <;> (first | rfl | simp)) | (simp [*]; done)), H', ⟨by have := HK1.out; omega⟩, ⟨by refine zq ?_; exact BK152.out⟩, ⟨zw HB⟩⟩
     ·rw [if_neg c7] at H
      exact absurd H (by simp)
    ·rw [if_neg c6] at H
     exact absurd H (by simp)
   ·rw [if_neg c4] at H
    have c4b0 : decide (x9_1 < x10_1) = false := decide_eq_false c4
    clear c4
    by_cases c14 : x9_1 < (l0.length : Int)
    ·rw [if_pos c14] at H
     have c14b0 : decide (x9_1 < (l0.length : Int)) = true := decide_eq_true c14
     clear c14
     by_cases c15 : 0 ≤ x9_1
     ·rw [if_pos c15] at H
      have c15b0 : decide (0 ≤ x9_1) = true := decide_eq_true c15
      clear c15
      by_cases c16 : x9_1 < (l0.length : Int)
      ·rw [if_pos c16] at H
       have c16b0 : decide (x9_1 < (l0.length : Int)) = true := decide_eq_true c16
       clear c16
       replace H := Option.bind_eq_some_iff.mp H
       obtain ⟨t156, A170, H⟩ := H
       replace H : (some (x9_1, (t156 == 0))) = some (r1, r2) := H
       have A17 := am A170
       clear A170
       simp only [Option.some.injEq, Prod.mk.injEq] at H
       obtain ⟨rfl, rfl⟩ := H
       try go_wp2
       have n0_ := am (blk_drew BK152.out)
       have n1_ := am (below_drew1 HB.out)
       clear BK152 HB
       revert n0_ n1_
       intro BK152 HB
       have p155 : 0 ≤ (x9_1 : Int) := zd
       have q155 : x9_1 < (l0.length : Int) := zd
       obtain ⟨ad155, A155_0, c155_0, A155_2, c155_2, A155_3, c155_3, A155_4, c155_4, e155, hx155_0, hx155_1, hx155_2, hx155_3, hx155_4, hl155_0, hi155_0, hl155_2, hi155_2, hl155_3, hi155_3, hl155_4, hi155_4⟩ := at_T30 HR0.out x9_1 p155 q155
       have hw155_4 := hx155_4
       have hw155_3 := hx155_3
       have hw155_2 := hx155_2
       have hw155_1 := hx155_1
       have hw155_0 := hx155_0
       cases e155
       replace hx155_0 := zc HB hx155_0
       replace hx155_1 := zc HB hx155_1
       replace hx155_2 := zc HB hx155_2
       replace hx155_3 := zc HB hx155_3
       replace hx155_4 := zc HB hx155_4
       have HR155_0 := am hi155_0
       have HC155_0 := am hl155_0
       clear hi155_0 hl155_0
       have HR155_2 := am hi155_2
       have HC155_2 := am hl155_2
       clear hi155_2 hl155_2
       have HR155_3 := am hi155_3
       have HC155_3 := am hl155_3
       clear hi155_3 hl155_3
       have HR155_4 := am hi155_4
       have HC155_4 := am hl155_4
       clear hi155_4 hl155_4
       replace p155 := eq_true p155
       replace q155 := eq_true q155
       refine start_ (n := 16) (S := fun w' => w'.cell? ⟨gb152, 0, none⟩ = some (.slice A1_0 l1_0.length c1_0) ∧ w'.cell? ⟨gb152, 1, none⟩ = some (.int .i64 a1_1) ∧ w'.cell? ⟨gb152, 2, none⟩ = some (.slice A1_2 l1_2.length c1_2) ∧ w'.cell? ⟨gb152, 3, none⟩ = some (.slice A1_3 l1_3.length c1_3) ∧ w'.cell? ⟨gb152, 4, none⟩ = some (.slice A1_4 l1_4.length c1_4) ∧ w'.cell? (ad155.add ((x9_1).toNat * 5)) = some (.slice A155_0 ((rd_T30 l0 x9_1).f0).length c155_0) ∧ w'.cell? ⟨(ad155.add ((x9_1).toNat * 5)).block, (ad155.add ((x9_1).toNat * 5)).off + 1, none⟩ = some (.int .i64 ((rd_T30 l0 x9_1).f1)) ∧ w'.cell? ⟨(ad155.add ((x9_1).toNat * 5)).block, (ad155.add ((x9_1).toNat * 5)).off + 2, none⟩ = some (.slice A155_2 ((rd_T30 l0 x9_1).f2).length c155_2) ∧ w'.cell? ⟨(ad155.add ((x9_1).toNat * 5)).block, (ad155.add ((x9_1).toNat * 5)).off + 3, none⟩ = some (.slice A155_3 ((rd_T30 l0 x9_1).f3).length c155_3) ∧ w'.cell? ⟨(ad155.add ((x9_1).toNat * 5)).block, (ad155.add ((x9_1).toNat * 5)).off + 4, none⟩ = some (.slice A155_4 ((rd_T30 l0 x9_1).f4).length c155_4)) (ds := []) (bb 16 0) (by kernel_rfl) rfl rfl ⟨bc BK152 0, bc BK152 1, bc BK152 2, bc BK152 3, bc BK152 4, (zc HB hw155_0), (zc HB hw155_1), (zc HB hw155_2), (zc HB hw155_3), (zc HB hw155_4)⟩ (fun hHeld => ?_); refine with_tabW bsf_G1.tab8 bsf_G1.bits8 (fun HT_ HW_ => ?_)
       generalize wr.drew = w18 at BK152 HB HR155_0 HR155_2 HR155_3 HR155_4 hx155_0 hx155_1 hx155_2 hx155_3 hx155_4 hHeld ⊢
       refine zu 0 (some 35) (bb 16 1) HT_ ?_
       refine zu 1 (some 36) (bb 16 3) HT_ ?_
       refine zu 2 (some 37) (bb 16 7) HT_ ?_
       refine zu 3 (some 38) (bb 16 15) HT_ ?_
       refine zu 4 (some 39) (bb 16 31) HT_ ?_
       refine zu 5 (some 40) (bb 16 63) HT_ ?_
       refine zu 6 (some 41) (bb 16 127) HT_ ?_
       refine zu 7 (some 42) (bb 16 255) HT_ ?_
       refine zu 8 (some 43) (bb 16 511) HT_ ?_
       refine zk 9 (some 44) (bb 16 1023) HT_ HW_ hHeld ?_
       refine zk 10 (some 45) (bb 16 2047) HT_ HW_ hHeld ?_
       refine zo 11 (some 46) (bb 16 4095) HT_ (fun K hK => ?_)
       refine goesv_ Try.func46 (by kernel_rfl) rfl #[.agg #[.slice A155_0 ((rd_T30 l0 x9_1).f0).length c155_0, .int .i64 ((rd_T30 l0 x9_1).f1), .slice A155_2 ((rd_T30 l0 x9_1).f2).length c155_2, .slice A155_3 ((rd_T30 l0 x9_1).f3).length c155_3, .slice A155_4 ((rd_T30 l0 x9_1).f4).length c155_4], .agg #[.slice A1_0 l1_0.length c1_0, .int .i64 a1_1, .slice A1_2 l1_2.length c1_2, .slice A1_3 l1_3.length c1_3, .slice A1_4 l1_4.length c1_4]] (by rfl) rfl rfl zm ?_
       with_reducible refine (cell_Group_1.calls k1 _ _ ((rd_T30 l0 x9_1).f0) ((rd_T30 l0 x9_1).f1) _ _ ((rd_T30 l0 x9_1).f2) _ _ ((rd_T30 l0 x9_1).f3) _ _ ((rd_T30 l0 x9_1).f4) _ _ l1_0 a1_1 _ _ l1_2 _ _ l1_3 _ _ l1_4 t156 _ ?side1 ?side2 ?side3 ?side4 ?side5 ?side6 ?side7 ?side8 ?side9 ?side10 ?side11 ?side12 ?side13 ?side14 ?side15 ?side16 A17.out).mono ?_
       (case side1 => exact Kd.Cw HR155_0.out HB.out)
       (case side2 => exact HC155_0.out)
       (case side3 => exact Kd.Cw HR155_2.out HB.out)
       (case side4 => exact HC155_2.out)
       (case side5 => exact Kd.Cw HR155_3.out HB.out)
       (case side6 => exact HC155_3.out)
       (case side7 => exact Kd.Cw HR155_4.out HB.out)
       (case side8 => exact HC155_4.out)
       (case side9 => exact Kd.Cw HR1_0.out HB.out)
       (case side10 => exact HC1_0.out)
       (case side11 => exact Kd.Cw HR1_2.out HB.out)
       (case side12 => exact HC1_2.out)
       (case side13 => exact Kd.Cw HR1_3.out HB.out)
       (case side14 => exact HC1_3.out)
       (case side15 => exact Kd.Cw HR1_4.out HB.out)
       (case side16 => exact HC1_4.out)
       rintro e w19 ⟨rfl, hb⟩
       refine ⟨_, rfl, ?_⟩
       have n0_ := am (blk_below (bmv BK152.out) hb)
       have n1_ := am (below_step (wmv HB.out) hb)
       clear BK152 HB
       revert n0_ n1_
       intro BK152 HB
       (try clear hb)
       (try clear hb2)
       (try clear hk)
       (try clear hi)
       refine hK.out _ _ ⟨bc BK152 0, bc BK152 1, bc BK152 2, bc BK152 3, bc BK152 4, (zc HB hw155_0), (zc HB hw155_1), (zc HB hw155_2), (zc HB hw155_3), (zc HB hw155_4)⟩ (fun hHeld => ?_)
       clear hK K
       refine nm ?_
       refine zu 12 (some 47) (bb 16 8191) HT_ ?_
       refine zu 13 (some 48) (bb 16 16383) HT_ ?_
       refine zu 14 (some 6) (bb 16 32767) HT_ ?_
       refine zu 15 (some 7) (bb 16 65535) HT_ ?_
       refine done_ (done_of HT_.out (by kernel_rfl)) ?_
       try go_wp2
       go_ret2
       exact ⟨by first | rfl | (simp [errW_none, errW_some] <;> rfl) | (simp [*, errW_none, errW_some] <;> rfl), zw HB⟩
      ·rw [if_neg c16] at H
       exact absurd H (by simp)
     ·rw [if_neg c15] at H
      exact absurd H (by simp)
    ·rw [if_neg c14] at H
     have c14b0 : decide (x9_1 < (l0.length : Int)) = false := decide_eq_false c14
     clear c14
     simp only [Option.some.injEq, Prod.mk.injEq] at H
     obtain ⟨rfl, rfl⟩ := H
     try go_wp2
     have n0_ := am (blk_drew BK152.out)
     have n1_ := am (below_drew1 HB.out)
     clear BK152 HB
     revert n0_ n1_
     intro BK152 HB
     refine start_ (n := 16) (S := fun w' => True) (ds := []) (bb 16 0) (by kernel_rfl) rfl rfl trivial (fun hHeld => ?_); refine with_tabW bsf_G1.tab8 bsf_G1.bits8 (fun HT_ HW_ => ?_)
     generalize wr.drew = w20 at BK152 HB hHeld ⊢
     refine zu 0 (some 35) (bb 16 1) HT_ ?_
     refine zu 1 (some 36) (bb 16 3) HT_ ?_
     refine zu 2 (some 37) (bb 16 7) HT_ ?_
     refine zu 3 (some 38) (bb 16 15) HT_ ?_
     refine zu 4 (some 39) (bb 16 31) HT_ ?_
     refine zn 5 (some 40) (bb 16 63) HT_ ?_
     refine zn 6 (some 41) (bb 16 127) HT_ ?_
     refine zn 7 (some 42) (bb 16 255) HT_ ?_
     refine zn 8 (some 43) (bb 16 511) HT_ ?_
     refine zn 9 (some 44) (bb 16 1023) HT_ ?_
     refine zn 10 (some 45) (bb 16 2047) HT_ ?_
     refine zn 11 (some 46) (bb 16 4095) HT_ ?_
     refine zn 12 (some 47) (bb 16 8191) HT_ ?_
     refine zu 13 (some 48) (bb 16 16383) HT_ ?_
     refine zu 14 (some 6) (bb 16 32767) HT_ ?_
     refine zu 15 (some 7) (bb 16 65535) HT_ ?_
     refine done_ (done_of HT_.out (by kernel_rfl)) ?_
     try go_wp2
     go_ret2
     exact ⟨by first | rfl | (simp [errW_none, errW_some] <;> rfl) | (simp [*, errW_none, errW_some] <;> rfl), zw HB⟩
def cell_own.f (l0_0 : List Int) (a0_1 : Int) (l0_2 : List Int) (l0_3 : List Int) (l0_4 : List Int) : Option (List Int × Int × List Int × List Int × List Int) := (slices_Clone_int_int.f l0_0).bind fun t169 => ((slices_Clone_int_int.f l0_2).bind fun t172 => ((slices_Clone_int_int.f l0_3).bind fun t175 => ((slices_Clone_int_int.f l0_4).bind fun t178 => (some (t169, a0_1, t172, t175, t178)))))
def cell_own.T1 : Bool × List (List Nat × List Nat) := (true, [([], []), ([0], [0]), ([1], [1]), ([], []), ([3], [3]), ([], []), ([5], [5]), ([6, 2], [6]), ([], []), ([8], [8]), ([9, 7], [9]), ([], []), ([11], [11]), ([12, 10], [12]), ([2, 4, 7, 10, 13], [2, 4, 7, 10, 13]), ([14, 13, 0, 1, 2, 3, 4, 5, 6, 7, 8, 9, 10, 11, 12, 13, 14], [14])])
def cell_own.B1 : List Nat := [0, 1, 3, 0, 8, 0, 32, 103, 0, 256, 999, 0, 2048, 8167, 16383, 32767]
theorem cell_own.tab1 : rtab .any (opsOf Try.f48 1) = cell_own.T1 := by kernel_rfl
theorem cell_own.bits1 : waitsOk cell_own.T1.2 cell_own.B1 = true := by kernel_rfl
set_option maxHeartbeats 8000000 in
set_option maxRecDepth 100000 in
theorem cell_own.calls (A0_0 : Option Addr) (c0_0 : Nat) (l0_0 : List Int) (a0_1 : Int) (A0_2 : Option Addr) (c0_2 : Nat) (l0_2 : List Int) (A0_3 : Option Addr) (c0_3 : Nat) (l0_3 : List Int) (A0_4 : Option Addr) (c0_4 : Nat) (l0_4 : List Int) (r1 : List Int) (r2 : Int) (r3 : List Int) (r4 : List Int) (r5 : List Int) (w : World) (hr0_0 : Kd.C (Kd.int .i64) w A0_0 l0_0.length l0_0) (hc0_0 : l0_0.length ≤ c0_0) (hr0_2 : Kd.C (Kd.int .i64) w A0_2 l0_2.length l0_2) (hc0_2 : l0_2.length ≤ c0_2) (hr0_3 : Kd.C (Kd.int .i64) w A0_3 l0_3.length l0_3) (hc0_3 : l0_3.length ≤ c0_3) (hr0_4 : Kd.C (Kd.int .i64) w A0_4 l0_4.length l0_4) (hc0_4 : l0_4.length ≤ c0_4) (h : cell_own.f l0_0 a0_1 l0_2 l0_3 l0_4 = some (r1, r2, r3, r4, r5)) :
  Calls Try.prog 48 #[.agg #[.slice A0_0 l0_0.length c0_0, .int .i64 a0_1, .slice A0_2 l0_2.length c0_2, .slice A0_3 l0_3.length c0_3, .slice A0_4 l0_4.length c0_4]] w fun e w' => ∃ v0_ v2_ v3_ v4_ : Value, e = .returned (.agg #[v0_, .int .i64 r2, v2_, v3_, v4_]) ∧ Kd.R (Kd.int .i64) 3 w' w.heap.size (fun k_ => some k_ ≠ (v2_ : Value).ownBlock ∧ some k_ ≠ (v3_ : Value).ownBlock ∧ some k_ ≠ (v4_ : Value).ownBlock) v0_ r1 ∧ Kd.R (Kd.int .i64) 3 w' w.heap.size (fun k_ => some k_ ≠ (v0_ : Value).ownBlock ∧ some k_ ≠ (v3_ : Value).ownBlock ∧ some k_ ≠ (v4_ : Value).ownBlock) v2_ r3 ∧ Kd.R (Kd.int .i64) 3 w' w.heap.size (fun k_ => some k_ ≠ (v0_ : Value).ownBlock ∧ some k_ ≠ (v2_ : Value).ownBlock ∧ some k_ ≠ (v4_ : Value).ownBlock) v3_ r4 ∧ Kd.R (Kd.int .i64) 3 w' w.heap.size (fun k_ => some k_ ≠ (v0_ : Value).ownBlock ∧ some k_ ≠ (v2_ : Value).ownBlock ∧ some k_ ≠ (v3_ : Value).ownBlock) v4_ r5 ∧ Below w.heap.size w w' := by
 have hu30 := Try.underlying30
 have HR0_0 := am hr0_0
 have HC0_0 := am hc0_0
 clear hr0_0 hc0_0
 have HR0_2 := am hr0_2
 have HC0_2 := am hc0_2
 clear hr0_2 hc0_2
 have HR0_3 := am hr0_3
 have HC0_3 := am hc0_3
 clear hr0_3 hc0_3
 have HR0_4 := am hr0_4
 have HC0_4 := am hc0_4
 clear hr0_4 hc0_4
 have HB := am (Below.refl w.heap.size w)
 have H : ((slices_Clone_int_int.f l0_0).bind fun t169 => ((slices_Clone_int_int.f l0_2).bind fun t172 => ((slices_Clone_int_int.f l0_3).bind fun t175 => ((slices_Clone_int_int.f l0_4).bind fun t178 => (some (t169, a0_1, t172, t175, t178)))))) = some (r1, r2, r3, r4, r5) := h
 clear h
 replace H := Option.bind_eq_some_iff.mp H
 obtain ⟨t169, A20, H⟩ := H
 replace H : ((slices_Clone_int_int.f l0_2).bind fun t172 => ((slices_Clone_int_int.f l0_3).bind fun t175 => ((slices_Clone_int_int.f l0_4).bind fun t178 => (some (t169, a0_1, t172, t175, t178))))) = some (r1, r2, r3, r4, r5) := H
 have A2 := am A20
 clear A20
 replace H := Option.bind_eq_some_iff.mp H
 obtain ⟨t172, A30, H⟩ := H
 replace H : ((slices_Clone_int_int.f l0_3).bind fun t175 => ((slices_Clone_int_int.f l0_4).bind fun t178 => (some (t169, a0_1, t172, t175, t178)))) = some (r1, r2, r3, r4, r5) := H
 have A3 := am A30
 clear A30
 replace H := Option.bind_eq_some_iff.mp H
 obtain ⟨t175, A40, H⟩ := H
 replace H : ((slices_Clone_int_int.f l0_4).bind fun t178 => (some (t169, a0_1, t172, t175, t178))) = some (r1, r2, r3, r4, r5) := H
 have A4 := am A40
 clear A40
 replace H := Option.bind_eq_some_iff.mp H
 obtain ⟨t178, A50, H⟩ := H
 replace H : (some (t169, a0_1, t172, t175, t178)) = some (r1, r2, r3, r4, r5) := H
 have A5 := am A50
 clear A50
 simp only [Option.some.injEq, Prod.mk.injEq] at H
 obtain ⟨rfl, rfl, rfl, rfl, rfl⟩ := H
 go_enter Try.func48, Try.ntmps48
 try go_wp2_with (first | ((with_reducible refine gate_dst (N := 1) rfl ?_); refine zX #[.slice A0_0 l0_0.length c0_0, .int .i64 a0_1, .slice A0_2 l0_2.length c0_2, .slice A0_3 l0_3.length c0_3, .slice A0_4 l0_4.length c0_4] 30 ?_; intro gb167 hg w6 hbox hb; have n0_ := am (below_step (wmv HB.out) hb); have n1_ := am (hbox); have n2_ := am ((by rw [hg]; exact (below_size (wmv HB.out)) : w.heap.size ≤ gb167)); have n3_ := am ((by rw [hg]; exact (below_size (wmv HB.out)) : w.heap.size ≤ gb167)); clear HB; revert n0_ n1_ n2_ n3_; intro HB BK167 GW167 GE167; clear hb hbox hg) | ((with_reducible refine gate_dst (N := 2) rfl ?_); refine zX #[.slice none 0 0, .int .i64 0, .slice none 0 0, .slice none 0 0, .slice none 0 0] 30 ?_; intro gb168 hg w7 hbox hb; have n0_ := am (blk_below (bmv BK167.out) hb); have n1_ := am (below_step (wmv HB.out) hb); have n2_ := am (hbox); have n3_ := am ((by rw [hg]; exact (below_size (wmv HB.out)) : w.heap.size ≤ gb168)); have n4_ := am ((by rw [hg]; exact (below_size (wmv HB.out)) : w.heap.size ≤ gb168)); have n5_ := am ((by rw [hg]; exact Nat.ne_of_lt (blk_lt (bmv BK167.out)) : gb167 ≠ gb168)); have n6_ := am ((by rw [hg]; exact Nat.ne_of_gt (blk_lt (bmv BK167.out)) : gb168 ≠ gb167)); clear BK167 HB; revert n0_ n1_ n2_ n3_ n4_ n5_ n6_; intro BK167 HB BK168 GW168 GE168 NB167_168 NB168_167; clear hb hbox hg))
 have n0_ := am (blk_drew BK167.out)
 have n1_ := am (blk_drew BK168.out)
 have n2_ := am (below_drew1 HB.out)
 clear BK167 BK168 HB
 revert n0_ n1_ n2_
 intro BK167 BK168 HB
 refine start_ (n := 16) (S := fun w' => w'.cell? ⟨gb167, 0, none⟩ = some (.slice A0_0 l0_0.length c0_0) ∧ w'.cell? ⟨gb167, 1, none⟩ = some (.int .i64 a0_1) ∧ w'.cell? ⟨gb167, 2, none⟩ = some (.slice A0_2 l0_2.length c0_2) ∧ w'.cell? ⟨gb167, 3, none⟩ = some (.slice A0_3 l0_3.length c0_3) ∧ w'.cell? ⟨gb167, 4, none⟩ = some (.slice A0_4 l0_4.length c0_4)) (ds := []) (bb 16 0) (by kernel_rfl) rfl rfl ⟨bc BK167 0, bc BK167 1, bc BK167 2, bc BK167 3, bc BK167 4⟩ (fun hHeld => ?_); refine with_tabW cell_own.tab1 cell_own.bits1 (fun HT_ HW_ => ?_)
 generalize w7.drew = w8 at BK167 BK168 HB hHeld ⊢
 refine zu 0 (some 3) (bb 16 1) HT_ ?_
 refine zu 3 (some 6) (bb 16 9) HT_ ?_
 refine zu 5 (some 8) (bb 16 41) HT_ ?_
 refine zu 8 (some 11) (bb 16 297) HT_ ?_
 refine zu 11 (some 14) (bb 16 2345) HT_ ?_
 refine zk 1 (some 4) (bb 16 2347) HT_ HW_ hHeld ?_
 refine zk 4 (some 7) (bb 16 2363) HT_ HW_ hHeld ?_
 refine zk 6 (some 9) (bb 16 2427) HT_ HW_ hHeld ?_
 refine zk 9 (some 12) (bb 16 2939) HT_ HW_ hHeld ?_
 refine zk 12 (some 15) (bb 16 7035) HT_ HW_ hHeld ?_
 refine zo 2 (some 5) (bb 16 7039) HT_ (fun K hK => ?_)
 refine goes_ Try.func40 (by kernel_rfl) rfl #[.slice A0_0 l0_0.length c0_0] (by rfl) rfl rfl zm ?_
 with_reducible refine (slices_Clone_int_int.calls _ _ l0_0 t169 _ ?side1 ?side2 A2.out).mono ?_
 (case side1 => exact Kd.Cw HR0_0.out HB.out)
 (case side2 => exact HC0_0.out)
 rintro e w9 ⟨v170, rfl, ho0, hb⟩
 refine ⟨_, rfl, ?_⟩
 have n0_ := am (Kd.R_lower ho0 (below_size (wmv HB.out)))
 have n1_ := am (blk_below (bmv BK167.out) hb)
 have n2_ := am (blk_below (bmv BK168.out) hb)
 have n3_ := am (below_step (wmv HB.out) hb)
 clear BK167 BK168 HB
 revert n0_ n1_ n2_ n3_
 intro HO171 BK167 BK168 HB
 (try clear hb)
 (try clear hb2)
 (try clear hk)
 (try clear hi)
 (try clear ho0)
 refine hK.out _ _ ⟨bc BK167 0, bc BK167 1, bc BK167 2, bc BK167 3, bc BK167 4⟩ (fun hHeld => ?_)
 clear hK K
 refine nm ?_
 refine zo 7 (some 10) (bb 16 7167) HT_ (fun K hK => ?_)
 refine goes_ Try.func40 (by kernel_rfl) rfl #[.slice A0_2 l0_2.length c0_2] (by rfl) rfl rfl zm ?_
 with_reducible refine (slices_Clone_int_int.calls _ _ l0_2 t172 _ ?side1 ?side2 A3.out).mono ?_
 (case side1 => exact Kd.Cw HR0_2.out HB.out)
 (case side2 => exact HC0_2.out)
 rintro e w10 ⟨v173, rfl, ho0, hb⟩
 refine ⟨_, rfl, ?_⟩
 have n0_ := am (Kd.R_elder' (Kd.R_mv HO171.out) (Kd.R_base ho0) hb)
 have n1_ := am (Kd.R_lower (Kd.R_new' ho0 (Kd.R_lt (Kd.R_mv HO171.out))) (below_size (wmv HB.out)))
 have n2_ := am (blk_below (bmv BK167.out) hb)
 have n3_ := am (blk_below (bmv BK168.out) hb)
 have n4_ := am (below_step (wmv HB.out) hb)
 clear HO171 BK167 BK168 HB
 revert n0_ n1_ n2_ n3_ n4_
 intro HO171 HO174 BK167 BK168 HB
 (try clear hb)
 (try clear hb2)
 (try clear hk)
 (try clear hi)
 (try clear ho0)
 refine hK.out _ _ ⟨bc BK167 0, bc BK167 1, bc BK167 2, bc BK167 3, bc BK167 4⟩ (fun hHeld => ?_)
 clear hK K
 refine nm ?_
 refine zo 10 (some 13) (bb 16 8191) HT_ (fun K hK => ?_)
 refine goes_ Try.func40 (by kernel_rfl) rfl #[.slice A0_3 l0_3.length c0_3] (by rfl) rfl rfl zm ?_
 with_reducible refine (slices_Clone_int_int.calls _ _ l0_3 t175 _ ?side1 ?side2 A4.out).mono ?_
 (case side1 => exact Kd.Cw HR0_3.out HB.out)
 (case side2 => exact HC0_3.out)
 rintro e w11 ⟨v176, rfl, ho0, hb⟩
 refine ⟨_, rfl, ?_⟩
 have n0_ := am (Kd.R_elder' (Kd.R_mv HO171.out) (Kd.R_base ho0) hb)
 have n1_ := am (Kd.R_elder' (Kd.R_mv HO174.out) (Kd.R_base ho0) hb)
 have n2_ := am (Kd.R_lower (Kd.R_new' (Kd.R_new' ho0 (Kd.R_lt (Kd.R_mv HO171.out))) (Kd.R_lt (Kd.R_mv HO174.out))) (below_size (wmv HB.out)))
 have n3_ := am (blk_below (bmv BK167.out) hb)
 have n4_ := am (blk_below (bmv BK168.out) hb)
 have n5_ := am (below_step (wmv HB.out) hb)
 clear HO171 HO174 BK167 BK168 HB
 revert n0_ n1_ n2_ n3_ n4_ n5_
 intro HO171 HO174 HO177 BK167 BK168 HB
 (try clear hb)
 (try clear hb2)
 (try clear hk)
 (try clear hi)
 (try clear ho0)
 refine hK.out _ _ ⟨bc BK167 0, bc BK167 1, bc BK167 2, bc BK167 3, bc BK167 4⟩ (fun hHeld => ?_)
 clear hK K
 refine nm ?_
 refine zo 13 (some 16) (bb 16 16383) HT_ (fun K hK => ?_)
 refine goes_ Try.func40 (by kernel_rfl) rfl #[.slice A0_4 l0_4.length c0_4] (by rfl) rfl rfl zm ?_
 with_reducible refine (slices_Clone_int_int.calls _ _ l0_4 t178 _ ?side1 ?side2 A5.out).mono ?_
 (case side1 => exact Kd.Cw HR0_4.out HB.out)
 (case side2 => exact HC0_4.out)
 rintro e w12 ⟨v179, rfl, ho0, hb⟩
 refine ⟨_, rfl, ?_⟩
 have n0_ := am (Kd.R_elder' (Kd.R_mv HO171.out) (Kd.R_base ho0) hb)
 have n1_ := am (Kd.R_elder' (Kd.R_mv HO174.out) (Kd.R_base ho0) hb)
 have n2_ := am (Kd.R_elder' (Kd.R_mv HO177.out) (Kd.R_base ho0) hb)
 have n3_ := am (Kd.R_lower (Kd.R_new' (Kd.R_new' (Kd.R_new' ho0 (Kd.R_lt (Kd.R_mv HO171.out))) (Kd.R_lt (Kd.R_mv HO174.out))) (Kd.R_lt (Kd.R_mv HO177.out))) (below_size (wmv HB.out)))
 have n4_ := am (blk_below (bmv BK167.out) hb)
 have n5_ := am (blk_below (bmv BK168.out) hb)
 have n6_ := am (below_step (wmv HB.out) hb)
 clear HO171 HO174 HO177 BK167 BK168 HB
 revert n0_ n1_ n2_ n3_ n4_ n5_ n6_
 intro HO171 HO174 HO177 HO180 BK167 BK168 HB
 (try clear hb)
 (try clear hb2)
 (try clear hk)
 (try clear hi)
 (try clear ho0)
 obtain ⟨Ao13, co13, eo13⟩ := Kd.R_slice HO180.out
 (first | subst eo13 | (injection eo13 with f1_ f2_ f3_; have f4_ := f1_.symm; have f5_ := f3_.symm; clear f1_ f2_ f3_; subst f4_; subst f5_))
 obtain ⟨Ao14, co14, eo14⟩ := Kd.R_slice HO177.out
 (first | subst eo14 | (injection eo14 with f1_ f2_ f3_; have f4_ := f1_.symm; have f5_ := f3_.symm; clear f1_ f2_ f3_; subst f4_; subst f5_))
 obtain ⟨Ao15, co15, eo15⟩ := Kd.R_slice HO174.out
 (first | subst eo15 | (injection eo15 with f1_ f2_ f3_; have f4_ := f1_.symm; have f5_ := f3_.symm; clear f1_ f2_ f3_; subst f4_; subst f5_))
 obtain ⟨Ao16, co16, eo16⟩ := Kd.R_slice HO171.out
 (first | subst eo16 | (injection eo16 with f1_ f2_ f3_; have f4_ := f1_.symm; have f5_ := f3_.symm; clear f1_ f2_ f3_; subst f4_; subst f5_))
 refine hK.out _ _ ⟨bc BK167 0, bc BK167 1, bc BK167 2, bc BK167 3, bc BK167 4⟩ (fun hHeld => ?_)
 clear hK K
 refine nm ?_
 refine zu 14 (some 17) (bb 16 32767) HT_ ?_
 refine zo 15 none (bb 16 65535) HT_ (fun K hK => ?_)
 have hs17 : w12.cell? ⟨gb168, 0, none⟩ = some (.slice none 0 0) := (blk_cell BK168.out 0).trans rfl
 have hfs17 := blk_frozen BK168.out 0
 have hns17_0 := NB167_168.out
 have hms17_0 := NB168_167.out
 have hs18 : w12.cell? ⟨gb168, 1, none⟩ = some (.int .i64 0) := (blk_cell BK168.out 1).trans rfl
 have hfs18 := blk_frozen BK168.out 1
 have hns18_0 := NB167_168.out
 have hms18_0 := NB168_167.out
 have hs19 : w12.cell? ⟨gb168, 2, none⟩ = some (.slice none 0 0) := (blk_cell BK168.out 2).trans rfl
 have hfs19 := blk_frozen BK168.out 2
 have hns19_0 := NB167_168.out
 have hms19_0 := NB168_167.out
 have hs20 : w12.cell? ⟨gb168, 3, none⟩ = some (.slice none 0 0) := (blk_cell BK168.out 3).trans rfl
 have hfs20 := blk_frozen BK168.out 3
 have hns20_0 := NB167_168.out
 have hms20_0 := NB168_167.out
 have hs21 : w12.cell? ⟨gb168, 4, none⟩ = some (.slice none 0 0) := (blk_cell BK168.out 4).trans rfl
 have hfs21 := blk_frozen BK168.out 4
 have hns21_0 := NB167_168.out
 have hms21_0 := NB168_167.out
 refine skip_ (w1 := ?_) (by rfl) rfl ?_ ?_
 rotate_left
 ·go_simp
  rfl
 refine hK.out _ _ ⟨((cell_far (p := ⟨gb168, _, none⟩) NB167_168.out _).trans (((cell_far (p := ⟨gb168, _, none⟩) NB167_168.out _).trans (((cell_far (p := ⟨gb168, _, none⟩) NB167_168.out _).trans (((cell_far (p := ⟨gb168, _, none⟩) NB167_168.out _).trans (((cell_far (p := ⟨gb168, _, none⟩) NB167_168.out _).trans (hHeld.1)))))))))), ((cell_far (p := ⟨gb168, _, none⟩) NB167_168.out _).trans (((cell_far (p := ⟨gb168, _, none⟩) NB167_168.out _).trans (((cell_far (p := ⟨gb168, _, none⟩) NB167_168.out _).trans (((cell_far (p := ⟨gb168, _, none⟩) NB167_168.out _).trans (((cell_far (p := ⟨gb168, _, none⟩) NB167_168.out _).trans (hHeld.2.1)))))))))), ((cell_far (p := ⟨gb168, _, none⟩) NB167_168.out _).trans (((cell_far (p := ⟨gb168, _, none⟩) NB167_168.out _).trans (((cell_far (p := ⟨gb168, _, none⟩) NB167_168.out _).trans (((cell_far (p := ⟨gb168, _, none⟩) NB167_168.out _).trans (((cell_far (p := ⟨gb168, _, none⟩) NB167_168.out _).trans (hHeld.2.2.1)))))))))), ((cell_far (p := ⟨gb168, _, none⟩) NB167_168.out _).trans (((cell_far (p := ⟨gb168, _, none⟩) NB167_168.out _).trans (((cell_far (p := ⟨gb168, _, none⟩) NB167_168.out _).trans (((cell_far (p := ⟨gb168, _, none⟩) NB167_168.out _).trans (((cell_far (p := ⟨gb168, _, none⟩) NB167_168.out _).trans (hHeld.2.2.2.1)))))))))), ((cell_far (p := ⟨gb168, _, none⟩) NB167_168.out _).trans (((cell_far (p := ⟨gb168, _, none⟩) NB167_168.out _).trans (((cell_far (p := ⟨gb168, _, none⟩) NB167_168.out _).trans (((cell_far (p := ⟨gb168, _, none⟩) NB167_168.out _).trans (((cell_far (p := ⟨gb168, _, none⟩) NB167_168.out _).trans (hHeld.2.2.2.2))))))))))⟩ (fun hHeld => ?_)
 clear hK K
 refine done_ (done_of HT_.out (by kernel_rfl)) ?_
 try go_wp2
 refine bodyPost_ret (results_cell_row rfl _ _ gb168 30 #[.slice Ao16 t169.length co16, .int .i64 a0_1, .slice Ao15 t172.length co15, .slice Ao14 t175.length co14, .slice Ao13 t178.length co13] (0, 0) _ rfl (by refine zq ?_; refine blk_put (cs := #[.slice Ao16 t169.length co16, .int .i64 a0_1, .slice Ao15 t172.length co15, .slice Ao14 t175.length co14, .slice none 0 0]) ?_ 4 _ rfl; refine zq ?_; refine blk_put (cs := #[.slice Ao16 t169.length co16, .int .i64 a0_1, .slice Ao15 t172.length co15, .slice none 0 0, .slice none 0 0]) ?_ 3 _ rfl; refine zq ?_; refine blk_put (cs := #[.slice Ao16 t169.length co16, .int .i64 a0_1, .slice none 0 0, .slice none 0 0, .slice none 0 0]) ?_ 2 _ rfl; refine zq ?_; refine blk_put (cs := #[.slice Ao16 t169.length co16, .int .i64 0, .slice none 0 0, .slice none 0 0, .slice none 0 0]) ?_ 1 _ rfl; refine zq ?_; refine blk_put (cs := #[.slice none 0 0, .int .i64 0, .slice none 0 0, .slice none 0 0, .slice none 0 0]) ?_ 0 _ rfl; refine zq ?_; exact BK168.out) Try.underlying30 rfl (by kernel_rfl)) rfl ?_
 exact ⟨_, _, _, _, by first | rfl | (simp [errW_none, errW_some] <;> rfl) | (simp [*, errW_none, errW_some] <;> rfl), by refine zr ?_; exact Kd.R_mono (Kd.R_far (p := ⟨gb168, 4, none⟩) (Kd.R_far (p := ⟨gb168, 3, none⟩) (Kd.R_far (p := ⟨gb168, 2, none⟩) (Kd.R_far (p := ⟨gb168, 1, none⟩) (Kd.R_far (p := ⟨gb168, 0, none⟩) (Kd.R_types HO171.out BK168.out (by decide)) (fun _ hk => hk.2) (.slice Ao16 t169.length co16)) (fun _ hk => hk.2) (.int .i64 a0_1)) (fun _ hk => hk.2) (.slice Ao15 t172.length co15)) (fun _ hk => hk.2) (.slice Ao14 t175.length co14)) (fun _ hk => hk.2) (.slice Ao13 t178.length co13)) (fun _ hk => ⟨hk.1.1.1.2, ⟨hk.1.1.2, hk.1.2⟩⟩), by refine zr ?_; exact Kd.R_mono (Kd.R_far (p := ⟨gb168, 4, none⟩) (Kd.R_far (p := ⟨gb168, 3, none⟩) (Kd.R_far (p := ⟨gb168, 2, none⟩) (Kd.R_far (p := ⟨gb168, 1, none⟩) (Kd.R_far (p := ⟨gb168, 0, none⟩) (Kd.R_types HO174.out BK168.out (by decide)) (fun _ hk => hk.2) (.slice Ao16 t169.length co16)) (fun _ hk => hk.2) (.int .i64 a0_1)) (fun _ hk => hk.2) (.slice Ao15 t172.length co15)) (fun _ hk => hk.2) (.slice Ao14 t175.length co14)) (fun _ hk => hk.2) (.slice Ao13 t178.length co13)) (fun _ hk => ⟨hk.1.1.1.2, ⟨hk.1.1.2, hk.1.2⟩⟩), by refine zr ?_; exact Kd.R_mono (Kd.R_far (p := ⟨gb168, 4, none⟩) (Kd.R_far (p := ⟨gb168, 3, none⟩) (Kd.R_far (p := ⟨gb168, 2, none⟩) (Kd.R_far (p := ⟨gb168, 1, none⟩) (Kd.R_far (p := ⟨gb168, 0, none⟩) (Kd.R_types HO177.out BK168.out (by decide)) (fun _ hk => hk.2) (.slice Ao16 t169.length co16)) (fun _ hk => hk.2) (.int .i64 a0_1)) (fun _ hk => hk.2) (.slice Ao15 t172.length co15)) (fun _ hk => hk.2) (.slice Ao14 t175.length co14)) (fun _ hk => hk.2) (.slice Ao13 t178.length co13)) (fun _ hk => ⟨hk.1.1.1.2, ⟨hk.1.1.2, hk.1.2⟩⟩), by refine zr ?_; exact Kd.R_mono (Kd.R_far (p := ⟨gb168, 4, none⟩) (Kd.R_far (p := ⟨gb168, 3, none⟩) (Kd.R_far (p := ⟨gb168, 2, none⟩) (Kd.R_far (p := ⟨gb168, 1, none⟩) (Kd.R_far (p := ⟨gb168, 0, none⟩) (Kd.R_types HO180.out BK168.out (by decide)) (fun _ hk => hk.2) (.slice Ao16 t169.length co16)) (fun _ hk => hk.2) (.int .i64 a0_1)) (fun _ hk => hk.2) (.slice Ao15 t172.length co15)) (fun _ hk => hk.2) (.slice Ao14 t175.length co14)) (fun _ hk => hk.2) (.slice Ao13 t178.length co13)) (fun _ hk => ⟨hk.1.1.1.2, ⟨hk.1.1.2, hk.1.2⟩⟩), zw HB⟩
end Go.Proofs.Ytmkjkkmilopcpaa.Q
namespace Go.Proofs.Ytmkjkkmilopcpaa.Q
open Go.RowKit Go.Proofs.YtmkjkkmilopcpaaW.PrintWords Go.Proofs.YtmkjkkmilopcpaaW.PrintLast Go.Proofs.YtmkjkkmilopcpaaW.PrintMore
set_option linter.unusedVariables false
set_option linter.unusedSimpArgs false
def slices_Clone_byte_byte.f (l0 : List Int) : Option (List Int) := if l0.length * 1 ≤ 140737488355328 then some l0 else none
set_option maxHeartbeats 2000000 in
theorem slices_Clone_byte_byte.calls (A0 : Option Addr) (c0 : Nat) (l0 : List Int) (r : List Int) (w : World) (hr0 : Kd.C (Kd.int .u8) w A0 l0.length l0) (hc0 : l0.length ≤ c0) (h : slices_Clone_byte_byte.f l0 = some r) :
  Calls Try.prog 62 #[.slice A0 l0.length c0] w fun e w' => ∃ v0_ : Value, e = .returned (v0_) ∧ Kd.R (Kd.int .u8) 5 w' w.heap.size (fun _ => True) v0_ r ∧ Below w.heap.size w w' := by
 unfold slices_Clone_byte_byte.f at h
 split at h
 case isFalse => cases h
 case isTrue hl =>
 obtain rfl := Option.some.inj h
 clear h
 have heq : ∀ W : World, (binOp .eql 51 (.slice A0 l0.length c0) (.slice none 0 0)).run Try.prog W = .ok (.bool A0.isNone) W := fun W => Lib.run_eql_slice_nil W _ _ A0 _ _ _ _ Try.underlying51
 cases A0 with
 | none =>
  have hb : (none : Option Addr).isNone = true := rfl
  rw [hb] at heq
  have hn : Aside0 (l0 = []) := ⟨by
   cases l0 with
   | nil => rfl
   | cons x xs => obtain ⟨ad, e, _⟩ := (Kd.reads_of_C (d := x) hr0).2.2 (by simp); cases e⟩
  clear hr0
  go_enter Try.func62, Try.ntmps62
  go_wp2
  go_ret
  obtain rfl := hn.out
  exact ⟨_, rfl, Kd.R_nil _ _ _ _ _, Below.refl _ _⟩
 | some ad =>
  have hb : (some ad).isNone = false := rfl
  rw [hb] at heq
  have hlen : (([] : List Int).length + l0.length) * 1 ≤ 140737488355328 := by simpa using hl
  have HR := am (Kd.C_alloc hr0 (.cells #[] 5))
  have HN : Aside0 (Kd.R (Kd.int .u8) 5 (w.alloc (.cells #[] 5)) w.heap.size (fun _ => True) (.slice (some ⟨w.heap.size, 0, none⟩) 0 0) []) := by
   obtain hl := OwnRow.lit (R := (Kd.int .u8).M (w.alloc (.cells #[] 5)) w.heap.size (fun k => True ∧ some k ≠ (Value.slice (some ⟨w.heap.size, 0, none⟩) 0 0).ownBlock)) (e := 5) (size := (Kd.int .u8).sz) (ps := ([] : List Int)) w w.heap.size (inner := []) (Reps.none _ _) (Nat.le_refl _) (by simp)
   exact ⟨⟨fun k hk => trivial, hl⟩⟩
  clear hr0
  go_enter Try.func62, Try.ntmps62
  go_wp2_with (((with_reducible refine gate_builtin (b := .append) (xs := #[.tmp 5, .tmp 6]) rfl ?_); at_builtin; refine Kd.R_append_rows (Kd.int .u8) (w0 := w) w.heap.size rfl (.tmp 5) (.tmp 6) 51 5 (.int .u8 0) 1 rfl Try.underlying51 info5 rfl (by decide) (by decide) (.slice (some ⟨w.heap.size, 0, none⟩) 0 0) [] l0 _ _ _ (fun _ => True) (fun _ => False) rfl rfl HN.out HR.out (fun _ _ h => h) (fun k hk => hk.elim) (fun k hk => trivial) ((Below.refl _ w).alloc (Nat.le_refl _) _) (by simp) hlen ?_; intro v3 w3 ho hb hg hat; have O3 := am ho; have B3 := am hb; clear ho hb hg hat))
  go_ret
  exact ⟨_, rfl, O3.out, B3.out⟩
end Go.Proofs.Ytmkjkkmilopcpaa.Q
namespace Go.Proofs.Ytmkjkkmilopcpaa.Q
open Go.RowKit Go.Proofs.YtmkjkkmilopcpaaW.PrintWords Go.Proofs.YtmkjkkmilopcpaaW.PrintLast Go.Proofs.YtmkjkkmilopcpaaW.PrintMore
attribute [local go_sem] max2_int min2_int max_two min_two max_three min_three max_four min_four
set_option linter.unusedVariables false
set_option linter.unusedSimpArgs false
mutual
def cell_Encode.l0 : Nat → List Int → List (S30) → Int → Int → Option (List Int)
 | 0, _, _, _, _ => none
 | k + 1, x5, x16, x17, x18 => if x18 < x17 then (if 0 ≤ x18 then (if x18 < (x16.length : Int) then ((cell_put.f k x5 1 ((rd_T30 x16 x18).f0)).bind fun t809 => ((cell_put.f k t809 2 (([(rd_T30 x16 x18).f1] : List Int))).bind fun t815 => (cell_Encode.l1 k t815 x16 x17 x18 (((rd_T30 x16 x18).f2).length : Int) 0 ((rd_T30 x16 x18).f0) ((rd_T30 x16 x18).f1) ((rd_T30 x16 x18).f2) ((rd_T30 x16 x18).f3) ((rd_T30 x16 x18).f4)))) else (none)) else (none)) else ((slices_Clone_byte_byte.f x5).bind fun t804 => (some t804))
def cell_Encode.l1 : Nat → List Int → List (S30) → Int → Int → Int → Int → List Int → Int → List Int → List Int → List Int → Option (List Int)
 | 0, _, _, _, _, _, _, _, _, _, _, _ => none
 | k + 1, x5, x16, x17, x18, x32, x33, x809000, x809001, x809002, x809003, x809004 => if x33 < x32 then (if 0 ≤ x33 then (if x33 < (x809002.length : Int) then (if x33 < (x809003.length : Int) then (if x33 < (x809004.length : Int) then ((cell_put.f k x5 8 (([rd x809002 x33, rd x809003 x33, rd x809004 x33] : List Int))).bind fun t824 => (cell_Encode.l1 k t824 x16 x17 x18 x32 (wrap64 (x33 + 1)) x809000 x809001 x809002 x809003 x809004)) else (none)) else (none)) else (none)) else (none)) else (cell_Encode.l0 k x5 x16 x17 (wrap64 (x18 + 1)))
end
def cell_Encode.f (k : Nat) (a0 : Int) (l1 : List (S30)) : Option (List Int) := (cell_put.f k ([] : List Int) 1 (([a0] : List Int))).bind fun t795 => ((cell_put.f k t795 2 (([(l1.length : Int)] : List Int))).bind fun t801 => (cell_Encode.l0 k t801 l1 (l1.length : Int) 0))
def cell_Encode.T5 : Bool × List (List Nat × List Nat) := (true, [([], []), ([], []), ([1], [1]), ([0, 2], [0, 2]), ([], []), ([4], [4]), ([5], [5]), ([3, 6, 3], [3, 6]), ([7, 7, 0, 1, 2, 3, 4, 5, 6, 7], [0, 7])])
def cell_Encode.B5 : List Nat := [0, 0, 2, 7, 0, 16, 48, 127, 255]
theorem cell_Encode.tab5 : rtab .any (opsOf Try.f38 5) = cell_Encode.T5 := by kernel_rfl
theorem cell_Encode.bits5 : waitsOk cell_Encode.T5.2 cell_Encode.B5 = true := by kernel_rfl
def cell_Encode.T9 : Bool × List (List Nat × List Nat) := (true, [([], []), ([], []), ([1], [1]), ([], []), ([2, 3], [2, 3]), ([4], [4]), ([], []), ([6], [6]), ([], []), ([7, 8], [7, 8]), ([9], [9]), ([], []), ([11], [11]), ([], []), ([12, 13], [12, 13]), ([14], [14]), ([5, 10, 15], [5, 10, 15]), ([0, 16], [0, 16]), ([17, 17, 0, 1, 2, 3, 4, 5, 6, 7, 8, 9, 10, 11, 12, 13, 14, 15, 16, 17], [0, 17])])
def cell_Encode.B9 : List Nat := [0, 0, 2, 0, 14, 30, 0, 64, 0, 448, 960, 0, 2048, 0, 14336, 30720, 65534, 131071, 262143]
theorem cell_Encode.tab9 : rtab .any (opsOf Try.f38 9) = cell_Encode.T9 := by kernel_rfl
theorem cell_Encode.bits9 : waitsOk cell_Encode.T9.2 cell_Encode.B9 = true := by kernel_rfl
set_option maxHeartbeats 8000000 in
set_option maxRecDepth 100000 in
theorem cell_Encode.calls (k : Nat) (a0 : Int) (A1 : Option Addr) (c1 : Nat) (l1 : List (S30)) (r : List Int) (w : World) (hr1 : Kd.C k30 w A1 l1.length l1) (hc1 : l1.length ≤ c1) (h : cell_Encode.f k a0 l1 = some r) :
  Calls Try.prog 38 #[.int .i64 a0, .slice A1 l1.length c1] w fun e w' => ∃ v0_ : Value, e = .returned (v0_) ∧ Kd.R (Kd.int .u8) 5 w' w.heap.size (fun _ => True) v0_ r ∧ Below w.heap.size w w' := by
 have hu30 := Try.underlying30
 have HR1 := am hr1
 have HC1 := am hc1
 clear hr1 hc1
 have HB := am (Below.refl w.heap.size w)
 have H : ((cell_put.f k ([] : List Int) 1 (([a0] : List Int))).bind fun t795 => ((cell_put.f k t795 2 (([(l1.length : Int)] : List Int))).bind fun t801 => (cell_Encode.l0 k t801 l1 (l1.length : Int) 0))) = some r := h
 clear h
 obtain ⟨y792, hy792⟩ : ∃ y_ : List Int, y_ = (([a0] : List Int)) := ⟨_, rfl⟩
 replace H : ((cell_put.f k ([] : List Int) 1 y792).bind fun t795 => ((cell_put.f k t795 2 (([(l1.length : Int)] : List Int))).bind fun t801 => (cell_Encode.l0 k t801 l1 (l1.length : Int) 0))) = some r := by rw [hy792]; with_reducible exact H
 have Ny792 := am hy792
 clear hy792
 replace H := Option.bind_eq_some_iff.mp H
 obtain ⟨t795, A30, H⟩ := H
 replace H : ((cell_put.f k t795 2 (([(l1.length : Int)] : List Int))).bind fun t801 => (cell_Encode.l0 k t801 l1 (l1.length : Int) 0)) = some r := H
 have A3 := am A30
 clear A30
 obtain ⟨y798, hy798⟩ : ∃ y_ : List Int, y_ = (([(l1.length : Int)] : List Int)) := ⟨_, rfl⟩
 replace H : ((cell_put.f k t795 2 y798).bind fun t801 => (cell_Encode.l0 k t801 l1 (l1.length : Int) 0)) = some r := by rw [hy798]; with_reducible exact H
 have Ny798 := am hy798
 clear hy798
 replace H := Option.bind_eq_some_iff.mp H
 obtain ⟨t801, A40, H⟩ := H
 replace H : (cell_Encode.l0 k t801 l1 (l1.length : Int) 0) = some r := H
 have A4 := am A40
 clear A40
 have H' := am H
 clear H
 go_enter Try.func38, Try.ntmps38
 go_wp2_with (first | ((with_reducible refine gate_dst (N := 10) rfl ?_); refine Kd.R_lit (Kd.int .i64) _ 3 ?hg (N := 10) ?hd (xs := ([a0] : List Int)) (inner := [.int .i64 a0]) (ok := fun _ => True) (okp := fun _ => True) ?hr ?hp (fun _ hk => hk) trivial (Below.refl _ _) (Nat.le_refl _) (by simp) ?_; (case hd => rfl); (case hg => rfl); (case hr => first | (go_simp; done) | (go_simp; rfl)); (case hp => exact (Reps.one (show Kd.M (Kd.int .i64) _ _ _ a0 [.int .i64 a0] from rfl) (Reps.none _ _))); intro v793 w5 ho6 hb hg_ hnew_; clear hg_ hnew_; (first | rw [← Ny792.out] at ho6 | (simp only [Int.reduceToNat] at ho6; rw [← Ny792.out] at ho6)); have n0_ := am (Kd.R_lower ho6 (below_size (zw HB))); have n1_ := am (below_step (zw HB) hb); clear HB; revert n0_ n1_; intro HO794 HB; clear hb ho6; obtain ⟨Ao7, co7, eo7⟩ := Kd.R_slice HO794.out; subst eo7) | ((with_reducible refine gate_callee (f := 61) rfl ?_); refine goesL_ (some 11) rfl rfl Try.func61 (by kernel_rfl) rfl #[.slice none 0 0, .int .i64 1, .slice Ao7 y792.length co7] rfl zm ?_; (refine (cell_put.calls k (fun k_ => some k_ = (.slice none 0 0 : Value).ownBlock) (.slice none 0 0) ([] : List Int) 1 _ _ y792 t795 w _ ?side1 ?side2 ?side3 ?side4 A3.out).mono ?_); (case side1 => repeat (first | (with_reducible first | exact HB.out | apply below_alloc | apply pw_below_drewN | apply below_drew1) | exact HB.out)); (case side2 => exact Kd.R_nil _ _ _ _ _); (case side3 => exact Kd.C_kept_own (HO794.out) (fun k_ hk_ hs_ => (fun e_ => by simp [Value.ownBlock] at e_) hs_)); (case side4 => exact (Kd.R_reads' HO794.out).2.1); rintro e w8 ⟨v796, rfl, ho0, hb, hkp⟩; refine ⟨_, rfl, ?_⟩; have n0_ := am (Kd.R_mono (ok' := fun k_ => True) (Kd.R_keptB (HO794.out) hkp (fun k_ hk_ hs_ => (fun e_ => by simp [Value.ownBlock] at e_) hs_)) (fun k_ hk_ => trivial)); have n1_ := am (Kd.R_mono (ok' := fun k_ => True) ho0 (fun k_ hk_ => trivial)); have n2_ := am (hb); clear HO794 HB; revert n0_ n1_ n2_; intro HO794 HO797 HB; (try clear hb); (try clear hkp); (try clear ho0)) | ((with_reducible refine gate_dst (N := 14) rfl ?_); refine Kd.R_lit (Kd.int .i64) _ 3 ?hg (N := 14) ?hd (xs := ([(l1.length : Int)] : List Int)) (inner := [.int .i64 (l1.length : Int)]) (ok := fun _ => True) (okp := fun _ => True) ?hr ?hp (fun _ hk => hk) trivial (Below.refl _ _) (Nat.le_refl _) (by simp) ?_; (case hd => rfl); (case hg => rfl); (case hr => first | (go_simp; done) | (go_simp; rfl)); (case hp => exact (Reps.one (show Kd.M (Kd.int .i64) _ _ _ (l1.length : Int) [.int .i64 (l1.length : Int)] from rfl) (Reps.none _ _))); intro v799 w9 ho10 hb hg_ hnew_; clear hg_ hnew_; (first | rw [← Ny798.out] at ho10 | (simp only [Int.reduceToNat] at ho10; rw [← Ny798.out] at ho10)); have n0_ := am (Kd.R_elder' (ze HO794) (Kd.R_base ho10) hb); have n1_ := am (Kd.R_below (ze HO797) hb); have n2_ := am (Kd.R_lower (Kd.R_new' ho10 (Kd.R_lt (ze HO794))) (below_size (zw HB))); have n3_ := am (below_step (zw HB) hb); clear HO794 HO797 HB; revert n0_ n1_ n2_ n3_; intro HO794 HO797 HO800 HB; clear hb ho10; obtain ⟨Ao11, co11, eo11⟩ := Kd.R_slice HO797.out; subst eo11; obtain ⟨Ao12, co12, eo12⟩ := Kd.R_slice HO800.out; subst eo12) | ((with_reducible refine gate_callee (f := 61) rfl ?_); refine goesL_ (some 15) rfl rfl Try.func61 (by kernel_rfl) rfl #[.slice Ao11 t795.length co11, .int .i64 2, .slice Ao12 y798.length co12] rfl zm ?_; (with_reducible refine (cell_put.calls k (fun k_ => some k_ = (.slice Ao11 t795.length co11 : Value).ownBlock) (.slice Ao11 t795.length co11) t795 2 _ _ y798 t801 w _ ?side1 ?side2 ?side3 ?side4 A4.out).mono ?_); (case side1 => repeat (first | (with_reducible first | exact HB.out | apply below_alloc | apply pw_below_drewN | apply below_drew1) | exact HB.out)); (case side2 => exact Kd.R_tight rfl HO797.out); (case side3 => exact Kd.C_kept_own ((Kd.R_apart' HO800.out (Kd.R_typed HO797.out) (by decide))) (fun k_ hk_ hs_ => (hk_.2) hs_)); (case side4 => exact (Kd.R_reads' HO800.out).2.1); rintro e w13 ⟨v802, rfl, ho0, hb, hkp⟩; refine ⟨_, rfl, ?_⟩; have n0_ := am (Kd.R_mono (ok' := fun k_ => some k_ ≠ (.slice Ao12 y798.length co12 : Value).ownBlock) (Kd.R_keptB ((Kd.R_apart' HO794.out (Kd.R_typed HO797.out) (by decide))) hkp (fun k_ hk_ hs_ => (hk_.2) hs_)) (fun k_ hk_ => hk_.1.1.2)); have n1_ := am (Kd.R_mono (ok' := fun k_ => some k_ ≠ (.slice Ao7 y792.length co7 : Value).ownBlock) (Kd.R_keptB ((Kd.R_apart' HO800.out (Kd.R_typed HO797.out) (by decide))) hkp (fun k_ hk_ hs_ => (hk_.2) hs_)) (fun k_ hk_ => hk_.1.1.2)); have n2_ := am (Kd.R_mono (ok' := fun k_ => True) ho0 (fun k_ hk_ => trivial)); have n3_ := am (hb); clear HO794 HO800 HB HO797; revert n0_ n1_ n2_ n3_; intro HO794 HO800 HO803 HB; (try clear hb); (try clear hkp); (try clear ho0)))
 go_loopg [5, 18] k (fun kq v5 v18 w' => ∃ (x5_1 : List Int) (x18_1 : Int), v18 = .int .i64 x18_1 ∧ Aside0 (cell_Encode.l0 kq x5_1 l1 (l1.length : Int) x18_1 = some r) ∧ Aside0 (kq ≤ k) ∧ Aside0 (Kd.R (Kd.int .u8) 5 w' w.heap.size (fun _ => True) v5 x5_1) ∧ Aside0 (Below w.heap.size w w'))
 case atStart => exact ⟨(t801), (0), zz, H', ⟨Nat.le_refl _⟩, ⟨by refine zr ?_; exact HO803.out⟩, ⟨zw HB⟩⟩
 case round =>
  clear H'
  try clear c1
  try clear p2
  try clear c3
  try clear c6
  obtain ⟨x5_1, x18_1, rfl, HA, HK1, HO_5, HB⟩ := hrel
  cases gk with
  | zero => exact absurd HA.out (by simp [cell_Encode.l0])
  | succ k1 =>
   have H := HA.out
   clear HA
   simp only [cell_Encode.l0] at H
   by_cases c14 : x18_1 < (l1.length : Int)
   ·rw [if_pos c14] at H
    have c14b0 : decide (x18_1 < (l1.length : Int)) = true := decide_eq_true c14
    clear c14
    by_cases c15 : 0 ≤ x18_1
    ·rw [if_pos c15] at H
     have c15b0 : decide (0 ≤ x18_1) = true := decide_eq_true c15
     clear c15
     by_cases c16 : x18_1 < (l1.length : Int)
     ·rw [if_pos c16] at H
      have c16b0 : decide (x18_1 < (l1.length : Int)) = true := decide_eq_true c16
      clear c16
      replace H := Option.bind_eq_some_iff.mp H
      obtain ⟨t809, A170, H⟩ := H
      replace H : ((cell_put.f k1 t809 2 (([(rd_T30 l1 x18_1).f1] : List Int))).bind fun t815 => (cell_Encode.l1 k1 t815 l1 (l1.length : Int) x18_1 (((rd_T30 l1 x18_1).f2).length : Int) 0 ((rd_T30 l1 x18_1).f0) ((rd_T30 l1 x18_1).f1) ((rd_T30 l1 x18_1).f2) ((rd_T30 l1 x18_1).f3) ((rd_T30 l1 x18_1).f4))) = some r := H
      have A17 := am A170
      clear A170
      obtain ⟨y812, hy812⟩ : ∃ y_ : List Int, y_ = (([(rd_T30 l1 x18_1).f1] : List Int)) := ⟨_, rfl⟩
      replace H : ((cell_put.f k1 t809 2 y812).bind fun t815 => (cell_Encode.l1 k1 t815 l1 (l1.length : Int) x18_1 (((rd_T30 l1 x18_1).f2).length : Int) 0 ((rd_T30 l1 x18_1).f0) ((rd_T30 l1 x18_1).f1) ((rd_T30 l1 x18_1).f2) ((rd_T30 l1 x18_1).f3) ((rd_T30 l1 x18_1).f4))) = some r := by rw [hy812]; with_reducible exact H
      have Ny812 := am hy812
      clear hy812
      replace H := Option.bind_eq_some_iff.mp H
      obtain ⟨t815, A180, H⟩ := H
      replace H : (cell_Encode.l1 k1 t815 l1 (l1.length : Int) x18_1 (((rd_T30 l1 x18_1).f2).length : Int) 0 ((rd_T30 l1 x18_1).f0) ((rd_T30 l1 x18_1).f1) ((rd_T30 l1 x18_1).f2) ((rd_T30 l1 x18_1).f3) ((rd_T30 l1 x18_1).f4)) = some r := H
      have A18 := am A180
      clear A180
      have H' := am H
      clear H
      have p807 : 0 ≤ (x18_1 : Int) := zd
      have q807 : x18_1 < (l1.length : Int) := zd
      obtain ⟨ad807, A807_0, c807_0, A807_2, c807_2, A807_3, c807_3, A807_4, c807_4, e807, hx807_0, hx807_1, hx807_2, hx807_3, hx807_4, hl807_0, hi807_0, hl807_2, hi807_2, hl807_3, hi807_3, hl807_4, hi807_4⟩ := at_T30 HR1.out x18_1 p807 q807
      cases e807
      replace hx807_0 := zc HB hx807_0
      replace hx807_1 := zc HB hx807_1
      replace hx807_2 := zc HB hx807_2
      replace hx807_3 := zc HB hx807_3
      replace hx807_4 := zc HB hx807_4
      have HR807_0 := am hi807_0
      have HC807_0 := am hl807_0
      clear hi807_0 hl807_0
      have HR807_2 := am hi807_2
      have HC807_2 := am hl807_2
      clear hi807_2 hl807_2
      have HR807_3 := am hi807_3
      have HC807_3 := am hl807_3
      clear hi807_3 hl807_3
      have HR807_4 := am hi807_4
      have HC807_4 := am hl807_4
      clear hi807_4 hl807_4
      replace p807 := eq_true p807
      replace q807 := eq_true q807
      try go_wp2_with (first | ((with_reducible refine gate_dst (N := 7) rfl ?_); refine zX #[.slice none 0 0, .int .i64 0, .slice none 0 0, .slice none 0 0, .slice none 0 0] 30 ?_; intro gb808 hg w19 hbox hb; have n0_ := am (Kd.R_below (Kd.R_mv HO_5.out) hb); have n1_ := am (below_step (wmv HB.out) hb); have n2_ := am (hbox); have n3_ := am ((by rw [hg]; exact (below_size (wmv HB.out)) : w.heap.size ≤ gb808)); have n4_ := am ((by rw [hg]; exact (below_size (wmv HB.out)) : w.heap.size ≤ gb808)); clear HO_5 HB; revert n0_ n1_ n2_ n3_ n4_; intro HO_5 HB BK808 GW808 GE808; clear hb hbox hg; have hcz20_0 : w19.cell? ⟨gb808, 0, none⟩ = some (.slice none 0 0) := (blk_cell BK808.out 0).trans rfl; have hcz20_1 : w19.cell? ⟨gb808, 1, none⟩ = some (.int .i64 0) := (blk_cell BK808.out 1).trans rfl; have hcz20_2 : w19.cell? ⟨gb808, 2, none⟩ = some (.slice none 0 0) := (blk_cell BK808.out 2).trans rfl; have hcz20_3 : w19.cell? ⟨gb808, 3, none⟩ = some (.slice none 0 0) := (blk_cell BK808.out 3).trans rfl; have hcz20_4 : w19.cell? ⟨gb808, 4, none⟩ = some (.slice none 0 0) := (blk_cell BK808.out 4).trans rfl; have hfz20_0 := blk_frozen BK808.out 0; have hfz20_1 := blk_frozen BK808.out 1; have hfz20_2 := blk_frozen BK808.out 2; have hfz20_3 := blk_frozen BK808.out 3; have hfz20_4 := blk_frozen BK808.out 4; obtain ⟨Ao21, co21, eo21⟩ := Kd.R_slice HO_5.out; subst eo21))
      have n0_ : Aside0 (Kd.R (Kd.int .u8) 5 (((((w19.setCell ⟨gb808, 0, none⟩ (.slice A807_0 ((rd_T30 l1 x18_1).f0).length c807_0)).setCell ⟨gb808, 1, none⟩ (.int .i64 ((rd_T30 l1 x18_1).f1))).setCell ⟨gb808, 2, none⟩ (.slice A807_2 ((rd_T30 l1 x18_1).f2).length c807_2)).setCell ⟨gb808, 3, none⟩ (.slice A807_3 ((rd_T30 l1 x18_1).f3).length c807_3)).setCell ⟨gb808, 4, none⟩ (.slice A807_4 ((rd_T30 l1 x18_1).f4).length c807_4)) w.heap.size (fun _ => True) (.slice Ao21 x5_1.length co21) x5_1) := ⟨by refine zr ?_; exact Kd.R_mono (Kd.R_far (p := ⟨gb808, 4, none⟩) (Kd.R_far (p := ⟨gb808, 3, none⟩) (Kd.R_far (p := ⟨gb808, 2, none⟩) (Kd.R_far (p := ⟨gb808, 1, none⟩) (Kd.R_far (p := ⟨gb808, 0, none⟩) (Kd.R_types HO_5.out BK808.out (by decide)) (fun _ hk => hk.2) (.slice A807_0 ((rd_T30 l1 x18_1).f0).length c807_0)) (fun _ hk => hk.2) (.int .i64 ((rd_T30 l1 x18_1).f1))) (fun _ hk => hk.2) (.slice A807_2 ((rd_T30 l1 x18_1).f2).length c807_2)) (fun _ hk => hk.2) (.slice A807_3 ((rd_T30 l1 x18_1).f3).length c807_3)) (fun _ hk => hk.2) (.slice A807_4 ((rd_T30 l1 x18_1).f4).length c807_4)) (fun _ hk => trivial)⟩
      have n1_ : Aside0 ((((((w19.setCell ⟨gb808, 0, none⟩ (.slice A807_0 ((rd_T30 l1 x18_1).f0).length c807_0)).setCell ⟨gb808, 1, none⟩ (.int .i64 ((rd_T30 l1 x18_1).f1))).setCell ⟨gb808, 2, none⟩ (.slice A807_2 ((rd_T30 l1 x18_1).f2).length c807_2)).setCell ⟨gb808, 3, none⟩ (.slice A807_3 ((rd_T30 l1 x18_1).f3).length c807_3)).setCell ⟨gb808, 4, none⟩ (.slice A807_4 ((rd_T30 l1 x18_1).f4).length c807_4)).heap[gb808]? = some (.cells #[.slice A807_0 ((rd_T30 l1 x18_1).f0).length c807_0, .int .i64 ((rd_T30 l1 x18_1).f1), .slice A807_2 ((rd_T30 l1 x18_1).f2).length c807_2, .slice A807_3 ((rd_T30 l1 x18_1).f3).length c807_3, .slice A807_4 ((rd_T30 l1 x18_1).f4).length c807_4] 30 (0, 0))) := ⟨by refine zq ?_; refine blk_put (cs := #[.slice A807_0 ((rd_T30 l1 x18_1).f0).length c807_0, .int .i64 ((rd_T30 l1 x18_1).f1), .slice A807_2 ((rd_T30 l1 x18_1).f2).length c807_2, .slice A807_3 ((rd_T30 l1 x18_1).f3).length c807_3, .slice none 0 0]) ?_ 4 _ rfl; refine zq ?_; refine blk_put (cs := #[.slice A807_0 ((rd_T30 l1 x18_1).f0).length c807_0, .int .i64 ((rd_T30 l1 x18_1).f1), .slice A807_2 ((rd_T30 l1 x18_1).f2).length c807_2, .slice none 0 0, .slice none 0 0]) ?_ 3 _ rfl; refine zq ?_; refine blk_put (cs := #[.slice A807_0 ((rd_T30 l1 x18_1).f0).length c807_0, .int .i64 ((rd_T30 l1 x18_1).f1), .slice none 0 0, .slice none 0 0, .slice none 0 0]) ?_ 2 _ rfl; refine zq ?_; refine blk_put (cs := #[.slice A807_0 ((rd_T30 l1 x18_1).f0).length c807_0, .int .i64 0, .slice none 0 0, .slice none 0 0, .slice none 0 0]) ?_ 1 _ rfl; refine zq ?_; refine blk_put (cs := #[.slice none 0 0, .int .i64 0, .slice none 0 0, .slice none 0 0, .slice none 0 0]) ?_ 0 _ rfl; refine zq ?_; exact BK808.out⟩
      have n2_ : Aside0 (Below w.heap.size w (((((w19.setCell ⟨gb808, 0, none⟩ (.slice A807_0 ((rd_T30 l1 x18_1).f0).length c807_0)).setCell ⟨gb808, 1, none⟩ (.int .i64 ((rd_T30 l1 x18_1).f1))).setCell ⟨gb808, 2, none⟩ (.slice A807_2 ((rd_T30 l1 x18_1).f2).length c807_2)).setCell ⟨gb808, 3, none⟩ (.slice A807_3 ((rd_T30 l1 x18_1).f3).length c807_3)).setCell ⟨gb808, 4, none⟩ (.slice A807_4 ((rd_T30 l1 x18_1).f4).length c807_4))) := ⟨zw HB⟩
      (try clear HO_5)
      (try clear BK808)
      (try clear HB)
      generalize (((((w19.setCell ⟨gb808, 0, none⟩ (.slice A807_0 ((rd_T30 l1 x18_1).f0).length c807_0)).setCell ⟨gb808, 1, none⟩ (.int .i64 ((rd_T30 l1 x18_1).f1))).setCell ⟨gb808, 2, none⟩ (.slice A807_2 ((rd_T30 l1 x18_1).f2).length c807_2)).setCell ⟨gb808, 3, none⟩ (.slice A807_3 ((rd_T30 l1 x18_1).f3).length c807_3)).setCell ⟨gb808, 4, none⟩ (.slice A807_4 ((rd_T30 l1 x18_1).f4).length c807_4)) = w22 at n0_ n1_ n2_ ⊢
      revert n0_ n1_ n2_
      intro HO_5 BK808 HB
      have n0_ := am (Kd.R_drew HO_5.out)
      have n1_ := am (blk_drew BK808.out)
      have n2_ := am (below_drew1 HB.out)
      clear HO_5 BK808 HB
      revert n0_ n1_ n2_
      intro HO_5 BK808 HB
      refine start_ (n := 9) (S := fun w' => w'.cell? ⟨gb808, 0, none⟩ = some (.slice A807_0 ((rd_T30 l1 x18_1).f0).length c807_0) ∧ w'.cell? ⟨gb808, 1, none⟩ = some (.int .i64 ((rd_T30 l1 x18_1).f1)) ∧ w'.cell? ⟨gb808, 2, none⟩ = some (.slice A807_2 ((rd_T30 l1 x18_1).f2).length c807_2) ∧ w'.cell? ⟨gb808, 3, none⟩ = some (.slice A807_3 ((rd_T30 l1 x18_1).f3).length c807_3) ∧ w'.cell? ⟨gb808, 4, none⟩ = some (.slice A807_4 ((rd_T30 l1 x18_1).f4).length c807_4)) (ds := []) (bb 9 0) (by kernel_rfl) rfl rfl ⟨(blk_cell BK808.out 0).trans rfl, (blk_cell BK808.out 1).trans rfl, (blk_cell BK808.out 2).trans rfl, (blk_cell BK808.out 3).trans rfl, (blk_cell BK808.out 4).trans rfl⟩ (fun hHeld => ?_); refine with_tabW cell_Encode.tab5 cell_Encode.bits5 (fun HT_ HW_ => ?_)
      generalize w22.drew = w23 at HO_5 BK808 HB hHeld ⊢
      refine pure_ (i := 0) (N := some 22) (v := ?_) (a' := ?_) (bb 9 1) rfl rfl (any_of HT_.out (by kernel_rfl)) (fun _ _ _ h => h) (Or.inl ⟨by rfl, ?_⟩) ?_ ?_
      rotate_left
      ·intro w'
       go_simp
       with_reducible rfl
      rotate_left
      ·simp only [ps]
       rfl
      refine pure_ (i := 1) (N := some 23) (v := ?_) (a' := ?_) (bb 9 3) rfl rfl (any_of HT_.out (by kernel_rfl)) (fun _ _ _ h => h) (Or.inl ⟨by rfl, ?_⟩) ?_ ?_
      rotate_left
      ·intro w'
       go_simp
       with_reducible rfl
      rotate_left
      ·simp only [ps]
       rfl
      refine pure_ (i := 4) (N := some 26) (v := ?_) (a' := ?_) (bb 9 19) rfl rfl (any_of HT_.out (by kernel_rfl)) (fun _ _ _ h => h) (Or.inl ⟨by rfl, ?_⟩) ?_ ?_
      rotate_left
      ·intro w'
       go_simp
       with_reducible rfl
      rotate_left
      ·simp only [ps]
       rfl
      refine take_ (i := 2) (N := some 24) (v := ?_) (a' := ?_) (bb 9 23) rfl rfl (take_ofW HT_.out HW_.out (by kernel_rfl)) (fun _ _ _ h => h) (Or.inl ⟨by rfl, ?_⟩) hHeld ?_ ?_
      rotate_left
      ·rintro w' ⟨s0, s1, s2, s3, s4⟩
       go_simp
       with_reducible rfl
      rotate_left
      ·simp only [ps]
       rfl
      refine take_ (i := 5) (N := some 27) (v := ?_) (a' := ?_) (bb 9 55) rfl rfl (take_ofW HT_.out HW_.out (by kernel_rfl)) (fun _ _ _ h => h) (Or.inl ⟨by rfl, ?_⟩) hHeld ?_ ?_
      rotate_left
      ·rintro w' ⟨s0, s1, s2, s3, s4⟩
       go_simp
       with_reducible rfl
      rotate_left
      ·simp only [ps]
       rfl
      refine join_ (σ := Value × Value) 2 (bb 9 127) (fun s_ => [(25, s_.1), (28, s_.2)]) (fun s_ w' => (w'.cell? ⟨gb808, 0, none⟩ = some (.slice A807_0 ((rd_T30 l1 x18_1).f0).length c807_0) ∧ w'.cell? ⟨gb808, 1, none⟩ = some (.int .i64 ((rd_T30 l1 x18_1).f1)) ∧ w'.cell? ⟨gb808, 2, none⟩ = some (.slice A807_2 ((rd_T30 l1 x18_1).f2).length c807_2) ∧ w'.cell? ⟨gb808, 3, none⟩ = some (.slice A807_3 ((rd_T30 l1 x18_1).f3).length c807_3) ∧ w'.cell? ⟨gb808, 4, none⟩ = some (.slice A807_4 ((rd_T30 l1 x18_1).f4).length c807_4)) ∧ (Kd.R (Kd.int .u8) 5 w' w.heap.size (fun _ => True) s_.1 t809) ∧ (Kd.R (Kd.int .i64) 3 w' w.heap.size (fun _ => True) s_.2 y812) ∧ (w'.heap[gb808]? = some (.cells #[.slice A807_0 ((rd_T30 l1 x18_1).f0).length c807_0, .int .i64 ((rd_T30 l1 x18_1).f1), .slice A807_2 ((rd_T30 l1 x18_1).f2).length c807_2, .slice A807_3 ((rd_T30 l1 x18_1).f3).length c807_3, .slice A807_4 ((rd_T30 l1 x18_1).f4).length c807_4] 30 (0, 0))) ∧ (Below w.heap.size w w')) ?_ ?_
      rotate_left
      ·intro hCont
       refine two_ (i := 3) (j := 6) (Ni := some 25) (Nj := some 28) (bb 9 63) (bb 9 119) rfl rfl rfl rfl (two_of HT_.out (by kernel_rfl)) (by decide) (by decide) (fun K hK => ?_) (fun K hK => ?_)
       ·skip
        refine goes_ Try.func61 (by kernel_rfl) rfl #[.slice Ao21 x5_1.length co21, .int .i64 1, .slice A807_0 ((rd_T30 l1 x18_1).f0).length c807_0] (by rfl) rfl rfl zm ?_
        with_reducible refine (cell_put.calls k1 (fun k_ => some k_ = (.slice Ao21 x5_1.length co21 : Value).ownBlock) (.slice Ao21 x5_1.length co21) x5_1 1 _ _ ((rd_T30 l1 x18_1).f0) t809 w _ ?side1 ?side2 ?side3 ?side4 A17.out).mono ?_
        (case side1 => repeat (first | (with_reducible first | exact HB.out | apply below_alloc | apply pw_below_drewN | apply below_drew1 | refine below_set ?_ GE808.out) | exact HB.out))
        (case side2 => exact Kd.R_tight rfl HO_5.out)
        (case side3 => exact Kd.C_kept_came (Kd.heap_int .i64) HR807_0.out (wmv HB.out) (fun k_ hs_ => (fun e_ => Kd.R_base HO_5.out k_ e_.symm) hs_))
        (case side4 => exact HC807_0.out)
        rintro e w24 ⟨v810, rfl, ho0, hb, hkp⟩
        refine ⟨_, rfl, ?_⟩
        have n0_ := am (blk_kept (bmv BK808.out) hkp (fun hs_ => (fun e_ => (Kd.R_ne HO_5.out BK808.out (by decide)) e_) hs_))
        have n1_ := am (Kd.R_mono (ok' := fun k_ => True) ho0 (fun k_ hk_ => trivial))
        have n2_ := am (hb)
        clear BK808 HB HO_5
        revert n0_ n1_ n2_
        intro BK808 HO811 HB
        (try clear hb)
        (try clear hkp)
        (try clear ho0)
        refine hK.out _ _ ⟨(blk_cell BK808.out 0).trans rfl, (blk_cell BK808.out 1).trans rfl, (blk_cell BK808.out 2).trans rfl, (blk_cell BK808.out 3).trans rfl, (blk_cell BK808.out 4).trans rfl⟩ (fun hHeld => ?_)
        clear hK K
        refine norm_ (a' := ?_) ?_ ?_
        rotate_left
        ·show Act.put _ (some 25) _ = _
         simp only [ps]
         rfl
        refine zo 6 (some 28) (bb 9 127) HT_ (fun K hK => ?_)
        refine Kd.R_lit_step (Kd.int .i64) _ 3 ?hg (N := 28) ?hd (xs := ([(rd_T30 l1 x18_1).f1] : List Int)) (inner := [.int .i64 ((rd_T30 l1 x18_1).f1)]) (ok := fun _ => True) (okp := fun _ => True) ?hr ?hp (fun _ hk => hk) trivial (Below.refl _ _) (Nat.le_refl _) (by simp) ?_; (case hd => rfl); (case hg => rfl); (case hr => first | (go_simp; done) | (go_simp; rfl)); (case hp => exact (Reps.one (show Kd.M (Kd.int .i64) _ _ _ ((rd_T30 l1 x18_1).f1) [.int .i64 ((rd_T30 l1 x18_1).f1)] from rfl) (Reps.none _ _)))
        intro v813 w25 ho26 hb hg_ hnew_
        clear hg_ hnew_
        (first | rw [← Ny812.out] at ho26 | (simp only [Int.reduceToNat] at ho26; rw [← Ny812.out] at ho26))
        have n0_ := am (Kd.R_below (Kd.R_mv HO811.out) hb)
        have n1_ := am (Kd.R_lower ho26 (below_size (wmv HB.out)))
        have n2_ := am (blk_below (bmv BK808.out) hb)
        have n3_ := am (below_step (wmv HB.out) hb)
        clear HO811 BK808 HB
        revert n0_ n1_ n2_ n3_
        intro HO811 HO814 BK808 HB
        clear hb ho26
        refine hK.out _ _ ⟨(blk_cell BK808.out 0).trans rfl, (blk_cell BK808.out 1).trans rfl, (blk_cell BK808.out 2).trans rfl, (blk_cell BK808.out 3).trans rfl, (blk_cell BK808.out 4).trans rfl⟩ (fun hHeld => ?_)
        clear hK K
        refine norm_ (a' := ?_) ?_ ?_
        rotate_left
        ·show Act.put _ (some 28) _ = _
         simp only [ps]
         rfl
        exact norm_ (by simp only [putAll, Act.put, List.setIfInBounds_toArray, List.set_cons_zero, List.set_cons_succ]) (hCont (v810, v813) _ ⟨hHeld, (Kd.R_mv HO811.out), (Kd.R_mv HO814.out), (bmv BK808.out), (wmv HB.out)⟩)
       ·skip
        refine Kd.R_lit_step (Kd.int .i64) _ 3 ?hg (N := 28) ?hd (xs := ([(rd_T30 l1 x18_1).f1] : List Int)) (inner := [.int .i64 ((rd_T30 l1 x18_1).f1)]) (ok := fun _ => True) (okp := fun _ => True) ?hr ?hp (fun _ hk => hk) trivial (Below.refl _ _) (Nat.le_refl _) (by simp) ?_; (case hd => rfl); (case hg => rfl); (case hr => first | (go_simp; done) | (go_simp; rfl)); (case hp => exact (Reps.one (show Kd.M (Kd.int .i64) _ _ _ ((rd_T30 l1 x18_1).f1) [.int .i64 ((rd_T30 l1 x18_1).f1)] from rfl) (Reps.none _ _)))
        intro v813 w24 ho25 hb hg_ hnew_
        clear hg_ hnew_
        (first | rw [← Ny812.out] at ho25 | (simp only [Int.reduceToNat] at ho25; rw [← Ny812.out] at ho25))
        have n0_ := am (Kd.R_below (Kd.R_mv HO_5.out) hb)
        have n1_ := am (Kd.R_lower ho25 (below_size (wmv HB.out)))
        have n2_ := am (blk_below (bmv BK808.out) hb)
        have n3_ := am (below_step (wmv HB.out) hb)
        clear HO_5 BK808 HB
        revert n0_ n1_ n2_ n3_
        intro HO_5 HO814 BK808 HB
        clear hb ho25
        refine hK.out _ _ ⟨(blk_cell BK808.out 0).trans rfl, (blk_cell BK808.out 1).trans rfl, (blk_cell BK808.out 2).trans rfl, (blk_cell BK808.out 3).trans rfl, (blk_cell BK808.out 4).trans rfl⟩ (fun hHeld => ?_)
        clear hK K
        refine norm_ (a' := ?_) ?_ ?_
        rotate_left
        ·show Act.put _ (some 28) _ = _
         simp only [ps]
         rfl
        refine zo 3 (some 25) (bb 9 127) HT_ (fun K hK => ?_)
        refine goes_ Try.func61 (by kernel_rfl) rfl #[.slice Ao21 x5_1.length co21, .int .i64 1, .slice A807_0 ((rd_T30 l1 x18_1).f0).length c807_0] (by rfl) rfl rfl zm ?_
        with_reducible refine (cell_put.calls k1 (fun k_ => some k_ = (.slice Ao21 x5_1.length co21 : Value).ownBlock) (.slice Ao21 x5_1.length co21) x5_1 1 _ _ ((rd_T30 l1 x18_1).f0) t809 w _ ?side1 ?side2 ?side3 ?side4 A17.out).mono ?_
        (case side1 => repeat (first | (with_reducible first | exact HB.out | apply below_alloc | apply pw_below_drewN | apply below_drew1 | refine below_set ?_ GE808.out) | exact HB.out))
        (case side2 => exact Kd.R_tight rfl HO_5.out)
        (case side3 => exact Kd.C_kept_came (Kd.heap_int .i64) HR807_0.out (wmv HB.out) (fun k_ hs_ => (fun e_ => Kd.R_base HO_5.out k_ e_.symm) hs_))
        (case side4 => exact HC807_0.out)
        rintro e w26 ⟨v810, rfl, ho0, hb, hkp⟩
        refine ⟨_, rfl, ?_⟩
        have n0_ := am (blk_kept (bmv BK808.out) hkp (fun hs_ => (fun e_ => (Kd.R_ne HO_5.out BK808.out (by decide)) e_) hs_))
        have n1_ := am (Kd.R_mono (ok' := fun k_ => True) (Kd.R_keptB ((Kd.R_apart' HO814.out (Kd.R_typed HO_5.out) (by decide))) hkp (fun k_ hk_ hs_ => (hk_.2) hs_)) (fun k_ hk_ => trivial))
        have n2_ := am (Kd.R_mono (ok' := fun k_ => True) ho0 (fun k_ hk_ => trivial))
        have n3_ := am (hb)
        clear BK808 HO814 HB HO_5
        revert n0_ n1_ n2_ n3_
        intro BK808 HO814 HO811 HB
        (try clear hb)
        (try clear hkp)
        (try clear ho0)
        refine hK.out _ _ ⟨(blk_cell BK808.out 0).trans rfl, (blk_cell BK808.out 1).trans rfl, (blk_cell BK808.out 2).trans rfl, (blk_cell BK808.out 3).trans rfl, (blk_cell BK808.out 4).trans rfl⟩ (fun hHeld => ?_)
        clear hK K
        refine norm_ (a' := ?_) ?_ ?_
        rotate_left
        ·show Act.put _ (some 25) _ = _
         simp only [ps]
         rfl
        exact norm_ (by simp only [putAll, Act.put, List.setIfInBounds_toArray, List.set_cons_zero, List.set_cons_succ]) (hCont (v810, v813) _ ⟨hHeld, (Kd.R_mv HO811.out), (Kd.R_mv HO814.out), (bmv BK808.out), (wmv HB.out)⟩)
      rintro ⟨v810, v813⟩ w27 ⟨hS_, h0_, h1_, h2_, h3_⟩
      have n0_ : Aside0 (Kd.R (Kd.int .u8) 5 w27 w.heap.size (fun _ => True) v810 t809) := ⟨h0_⟩
      have n1_ : Aside0 (Kd.R (Kd.int .i64) 3 w27 w.heap.size (fun _ => True) v813 y812) := ⟨h1_⟩
      have n2_ : Aside0 (w27.heap[gb808]? = some (.cells #[.slice A807_0 ((rd_T30 l1 x18_1).f0).length c807_0, .int .i64 ((rd_T30 l1 x18_1).f1), .slice A807_2 ((rd_T30 l1 x18_1).f2).length c807_2, .slice A807_3 ((rd_T30 l1 x18_1).f3).length c807_3, .slice A807_4 ((rd_T30 l1 x18_1).f4).length c807_4] 30 (0, 0))) := ⟨h2_⟩
      have n3_ : Aside0 (Below w.heap.size w w27) := ⟨h3_⟩
      clear HO_5
      clear BK808
      clear HB
      clear h0_ h1_ h2_ h3_
      revert n0_ n1_ n2_ n3_
      intro HO811 HO814 BK808 HB
      have hHeld : w27.cell? ⟨gb808, 0, none⟩ = some (.slice A807_0 ((rd_T30 l1 x18_1).f0).length c807_0) ∧ w27.cell? ⟨gb808, 1, none⟩ = some (.int .i64 ((rd_T30 l1 x18_1).f1)) ∧ w27.cell? ⟨gb808, 2, none⟩ = some (.slice A807_2 ((rd_T30 l1 x18_1).f2).length c807_2) ∧ w27.cell? ⟨gb808, 3, none⟩ = some (.slice A807_3 ((rd_T30 l1 x18_1).f3).length c807_3) ∧ w27.cell? ⟨gb808, 4, none⟩ = some (.slice A807_4 ((rd_T30 l1 x18_1).f4).length c807_4) := hS_
      obtain ⟨Ao28, co28, eo28⟩ := Kd.R_slice HO811.out
      (first | subst eo28 | (injection eo28 with f1_ f2_ f3_; have f4_ := f1_.symm; have f5_ := f3_.symm; clear f1_ f2_ f3_; subst f4_; subst f5_))
      obtain ⟨Ao29, co29, eo29⟩ := Kd.R_slice HO814.out
      (first | subst eo29 | (injection eo29 with f1_ f2_ f3_; have f4_ := f1_.symm; have f5_ := f3_.symm; clear f1_ f2_ f3_; subst f4_; subst f5_))
      refine norm_ (a' := ?_) ?_ ?_
      rotate_left
      ·simp only [putAll, Act.put, List.setIfInBounds_toArray, List.set_cons_zero, List.set_cons_succ]
       rfl
      refine zo 7 (some 29) (bb 9 255) HT_ (fun K hK => ?_)
      refine goes_ Try.func61 (by kernel_rfl) rfl #[.slice Ao28 t809.length co28, .int .i64 2, .slice Ao29 y812.length co29] (by rfl) rfl rfl zm ?_
      with_reducible refine (cell_put.calls k1 (fun k_ => some k_ = (.slice Ao28 t809.length co28 : Value).ownBlock) (.slice Ao28 t809.length co28) t809 2 _ _ y812 t815 w _ ?side1 ?side2 ?side3 ?side4 A18.out).mono ?_
      (case side1 => repeat (first | (with_reducible first | exact HB.out | apply below_alloc | apply pw_below_drewN | apply below_drew1 | refine below_set ?_ GE808.out) | exact HB.out))
      (case side2 => exact Kd.R_tight rfl HO811.out)
      (case side3 => exact Kd.C_kept_own ((Kd.R_apart' HO814.out (Kd.R_typed HO811.out) (by decide))) (fun k_ hk_ hs_ => (hk_.2) hs_))
      (case side4 => exact (Kd.R_reads' HO814.out).2.1)
      rintro e w30 ⟨v816, rfl, ho0, hb, hkp⟩
      refine ⟨_, rfl, ?_⟩
      have n0_ := am (blk_kept (bmv BK808.out) hkp (fun hs_ => (fun e_ => (Kd.R_ne HO811.out BK808.out (by decide)) e_) hs_))
      have n1_ := am (Kd.R_mono (ok' := fun k_ => True) (Kd.R_keptB ((Kd.R_apart' HO814.out (Kd.R_typed HO811.out) (by decide))) hkp (fun k_ hk_ hs_ => (hk_.2) hs_)) (fun k_ hk_ => trivial))
      have n2_ := am (Kd.R_mono (ok' := fun k_ => True) ho0 (fun k_ hk_ => trivial))
      have n3_ := am (hb)
      clear BK808 HO814 HB HO811
      revert n0_ n1_ n2_ n3_
      intro BK808 HO814 HO817 HB
      (try clear hb)
      (try clear hkp)
      (try clear ho0)
      refine hK.out _ _ ⟨(blk_cell BK808.out 0).trans rfl, (blk_cell BK808.out 1).trans rfl, (blk_cell BK808.out 2).trans rfl, (blk_cell BK808.out 3).trans rfl, (blk_cell BK808.out 4).trans rfl⟩ (fun hHeld => ?_)
      clear hK K
      refine norm_ (a' := ?_) ?_ ?_
      rotate_left
      ·show Act.put _ (some 29) _ = _
       simp only [ps]
       rfl
      refine pure_ (i := 8) (N := some 5) (v := ?_) (a' := ?_) (bb 9 511) rfl rfl (any_of HT_.out (by kernel_rfl)) (fun _ _ _ h => h) (Or.inl ⟨by rfl, ?_⟩) ?_ ?_
      rotate_left
      ·intro w'
       go_simp
       with_reducible rfl
      rotate_left
      ·simp only [ps]
       rfl
      refine done_ (done_of HT_.out (by kernel_rfl)) ?_
      have hcz31_0 : w30.cell? ⟨gb808, 0, none⟩ = some (.slice A807_0 ((rd_T30 l1 x18_1).f0).length c807_0) := (blk_cell BK808.out 0).trans rfl
      have hcz31_1 : w30.cell? ⟨gb808, 1, none⟩ = some (.int .i64 ((rd_T30 l1 x18_1).f1)) := (blk_cell BK808.out 1).trans rfl
      have hcz31_2 : w30.cell? ⟨gb808, 2, none⟩ = some (.slice A807_2 ((rd_T30 l1 x18_1).f2).length c807_2) := (blk_cell BK808.out 2).trans rfl
      have hcz31_3 : w30.cell? ⟨gb808, 3, none⟩ = some (.slice A807_3 ((rd_T30 l1 x18_1).f3).length c807_3) := (blk_cell BK808.out 3).trans rfl
      have hcz31_4 : w30.cell? ⟨gb808, 4, none⟩ = some (.slice A807_4 ((rd_T30 l1 x18_1).f4).length c807_4) := (blk_cell BK808.out 4).trans rfl
      have hfz31_0 := blk_frozen BK808.out 0
      have hfz31_1 := blk_frozen BK808.out 1
      have hfz31_2 := blk_frozen BK808.out 2
      have hfz31_3 := blk_frozen BK808.out 3
      have hfz31_4 := blk_frozen BK808.out 4
      try go_wp2
      go_loopg [5, 33] k1 (fun kq v5 v33 w' => ∃ (x5_2 : List Int) (x33_2 : Int), v33 = .int .i64 x33_2 ∧ Aside0 (cell_Encode.l1 kq x5_2 l1 (l1.length : Int) x18_1 (((rd_T30 l1 x18_1).f2).length : Int) x33_2 ((rd_T30 l1 x18_1).f0) ((rd_T30 l1 x18_1).f1) ((rd_T30 l1 x18_1).f2) ((rd_T30 l1 x18_1).f3) ((rd_T30 l1 x18_1).f4) = some r) ∧ Aside0 (kq ≤ k1) ∧ Aside0 (Kd.R (Kd.int .u8) 5 w' w.heap.size (fun _ => True) v5 x5_2) ∧ Aside0 (w'.heap[gb808]? = some (.cells #[(.slice A807_0 ((rd_T30 l1 x18_1).f0).length c807_0), .int .i64 ((rd_T30 l1 x18_1).f1), (.slice A807_2 ((rd_T30 l1 x18_1).f2).length c807_2), (.slice A807_3 ((rd_T30 l1 x18_1).f3).length c807_3), (.slice A807_4 ((rd_T30 l1 x18_1).f4).length c807_4)] 30 (0, 0))) ∧ Aside0 (Below w.heap.size w w'))
      case atStart => exact ⟨(t815), (0), zz, H', ⟨Nat.le_refl _⟩, ⟨by refine zr ?_; exact HO817.out⟩, ⟨by refine zq ?_; exact BK808.out⟩, ⟨zw HB⟩⟩
      case round =>
       clear H'
       try clear c1
       try clear p2
       try clear c3
       try clear c6
       try clear c8
       try clear p8
       try clear q8
       try clear hx8
       try clear c14
       try clear c14b0
       try clear c15
       try clear c15b0
       try clear c16
       try clear c16b0
       try clear hcz20_0
       try clear hcz20_1
       try clear hcz20_2
       try clear hcz20_3
       try clear hcz20_4
       try clear hcz31_0
       try clear hcz31_1
       try clear hcz31_2
       try clear hcz31_3
       try clear hcz31_4
       try clear hfz20_0
       try clear hfz20_1
       try clear hfz20_2
       try clear hfz20_3
       try clear hfz20_4
       try clear hfz31_0
       try clear hfz31_1
       try clear hfz31_2
       try clear hfz31_3
       try clear hfz31_4
       try clear hx807_0
       try clear hx807_1
       try clear hx807_2
       try clear hx807_3
       try clear hx807_4
       try clear p2
       try clear p807
       try clear q807
       obtain ⟨x5_2, x33_2, rfl, HA, HK2, HO_5, BK808, HB⟩ := hrel
       cases gk with
       | zero => exact absurd HA.out (by simp [cell_Encode.l1])
       | succ k2 =>
        have H := HA.out
        clear HA
        simp only [cell_Encode.l1] at H
        by_cases c32 : x33_2 < (((rd_T30 l1 x18_1).f2).length : Int)
        ·rw [if_pos c32] at H
         have c32b0 : decide (x33_2 < (((rd_T30 l1 x18_1).f2).length : Int)) = true := decide_eq_true c32
         clear c32
         by_cases c33 : 0 ≤ x33_2
         ·rw [if_pos c33] at H
          have c33b0 : decide (0 ≤ x33_2) = true := decide_eq_true c33
          clear c33
          by_cases c34 : x33_2 < (((rd_T30 l1 x18_1).f2).length : Int)
          ·rw [if_pos c34] at H
           have c34b0 : decide (x33_2 < (((rd_T30 l1 x18_1).f2).length : Int)) = true := decide_eq_true c34
           clear c34
           by_cases c35 : x33_2 < (((rd_T30 l1 x18_1).f3).length : Int)
           ·rw [if_pos c35] at H
            have c35b0 : decide (x33_2 < (((rd_T30 l1 x18_1).f3).length : Int)) = true := decide_eq_true c35
            clear c35
            by_cases c36 : x33_2 < (((rd_T30 l1 x18_1).f4).length : Int)
            ·rw [if_pos c36] at H
             have c36b0 : decide (x33_2 < (((rd_T30 l1 x18_1).f4).length : Int)) = true := decide_eq_true c36
             clear c36
             obtain ⟨y821, hy821⟩ : ∃ y_ : List Int, y_ = (([rd ((rd_T30 l1 x18_1).f2) x33_2, rd ((rd_T30 l1 x18_1).f3) x33_2, rd ((rd_T30 l1 x18_1).f4) x33_2] : List Int)) := ⟨_, rfl⟩
             replace H : ((cell_put.f k2 x5_2 8 y821).bind fun t824 => (cell_Encode.l1 k2 t824 l1 (l1.length : Int) x18_1 (((rd_T30 l1 x18_1).f2).length : Int) (wrap64 (x33_2 + 1)) ((rd_T30 l1 x18_1).f0) ((rd_T30 l1 x18_1).f1) ((rd_T30 l1 x18_1).f2) ((rd_T30 l1 x18_1).f3) ((rd_T30 l1 x18_1).f4))) = some r := by rw [hy821]; with_reducible exact H
             have Ny821 := am hy821
             clear hy821
             replace H := Option.bind_eq_some_iff.mp H
             obtain ⟨t824, A370, H⟩ := H
             replace H : (cell_Encode.l1 k2 t824 l1 (l1.length : Int) x18_1 (((rd_T30 l1 x18_1).f2).length : Int) (wrap64 (x33_2 + 1)) ((rd_T30 l1 x18_1).f0) ((rd_T30 l1 x18_1).f1) ((rd_T30 l1 x18_1).f2) ((rd_T30 l1 x18_1).f3) ((rd_T30 l1 x18_1).f4)) = some r := H
             have A37 := am A370
             clear A370
             have H' := am H
             clear H
             try go_wp2
             have n0_ := am (Kd.R_drew HO_5.out)
             have n1_ := am (blk_drew BK808.out)
             have n2_ := am (below_drew1 HB.out)
             clear HO_5 BK808 HB
             revert n0_ n1_ n2_
             intro HO_5 BK808 HB
             have p818 : 0 ≤ (x33_2 : Int) := zd
             have q818 : x33_2 < (((rd_T30 l1 x18_1).f2).length : Int) := zd
             obtain ⟨ad818, e818, hx818_0⟩ := Kd.at_int HR807_2.out x33_2 p818 q818
             have hw818_0 := hx818_0
             cases e818
             replace hx818_0 := zc HB hx818_0
             replace p818 := eq_true p818
             replace q818 := eq_true q818
             have p819 : 0 ≤ (x33_2 : Int) := zd
             have q819 : x33_2 < (((rd_T30 l1 x18_1).f3).length : Int) := zd
             obtain ⟨ad819, e819, hx819_0⟩ := Kd.at_int HR807_3.out x33_2 p819 q819
             have hw819_0 := hx819_0
             cases e819
             replace hx819_0 := zc HB hx819_0
             replace p819 := eq_true p819
             replace q819 := eq_true q819
             have p820 : 0 ≤ (x33_2 : Int) := zd
             have q820 : x33_2 < (((rd_T30 l1 x18_1).f4).length : Int) := zd
             obtain ⟨ad820, e820, hx820_0⟩ := Kd.at_int HR807_4.out x33_2 p820 q820
             have hw820_0 := hx820_0
             cases e820
             replace hx820_0 := zc HB hx820_0
             replace p820 := eq_true p820
             replace q820 := eq_true q820
             refine start_ (n := 19) (S := fun w' => w'.cell? ⟨gb808, 0, none⟩ = some (.slice A807_0 ((rd_T30 l1 x18_1).f0).length c807_0) ∧ w'.cell? ⟨gb808, 1, none⟩ = some (.int .i64 ((rd_T30 l1 x18_1).f1)) ∧ w'.cell? ⟨gb808, 2, none⟩ = some (.slice (some ad818) ((rd_T30 l1 x18_1).f2).length c807_2) ∧ w'.cell? ⟨gb808, 3, none⟩ = some (.slice (some ad819) ((rd_T30 l1 x18_1).f3).length c807_3) ∧ w'.cell? ⟨gb808, 4, none⟩ = some (.slice (some ad820) ((rd_T30 l1 x18_1).f4).length c807_4) ∧ w'.cell? (ad818.add (x33_2).toNat) = some (.int .i64 (rd ((rd_T30 l1 x18_1).f2) x33_2)) ∧ w'.cell? (ad819.add (x33_2).toNat) = some (.int .i64 (rd ((rd_T30 l1 x18_1).f3) x33_2)) ∧ w'.cell? (ad820.add (x33_2).toNat) = some (.int .i64 (rd ((rd_T30 l1 x18_1).f4) x33_2))) (ds := []) (bb 19 0) (by kernel_rfl) rfl rfl ⟨(blk_cell BK808.out 0).trans rfl, (blk_cell BK808.out 1).trans rfl, (blk_cell BK808.out 2).trans rfl, (blk_cell BK808.out 3).trans rfl, (blk_cell BK808.out 4).trans rfl, (zc HB hw818_0), (zc HB hw819_0), (zc HB hw820_0)⟩ (fun hHeld => ?_); refine with_tabW cell_Encode.tab9 cell_Encode.bits9 (fun HT_ HW_ => ?_)
             generalize wr.drew = w38 at HO_5 BK808 HB hx818_0 hx819_0 hx820_0 hHeld ⊢
             refine pure_ (i := 0) (N := some 36) (v := ?_) (a' := ?_) (bb 19 1) rfl rfl (any_of HT_.out (by kernel_rfl)) (fun _ _ _ h => h) (Or.inl ⟨by rfl, ?_⟩) ?_ ?_
             rotate_left
             ·intro w'
              go_simp
              with_reducible rfl
             rotate_left
             ·simp only [ps]
              rfl
             refine pure_ (i := 1) (N := some 37) (v := ?_) (a' := ?_) (bb 19 3) rfl rfl (any_of HT_.out (by kernel_rfl)) (fun _ _ _ h => h) (Or.inl ⟨by rfl, ?_⟩) ?_ ?_
             rotate_left
             ·intro w'
              go_simp
              with_reducible rfl
             rotate_left
             ·simp only [ps]
              rfl
             refine pure_ (i := 3) (N := some 39) (v := ?_) (a' := ?_) (bb 19 11) rfl rfl (any_of HT_.out (by kernel_rfl)) (fun _ _ _ h => h) (Or.inl ⟨by rfl, ?_⟩) ?_ ?_
             rotate_left
             ·intro w'
              go_simp
              with_reducible rfl
             rotate_left
             ·simp only [ps]
              rfl
             refine pure_ (i := 6) (N := some 42) (v := ?_) (a' := ?_) (bb 19 75) rfl rfl (any_of HT_.out (by kernel_rfl)) (fun _ _ _ h => h) (Or.inl ⟨by rfl, ?_⟩) ?_ ?_
             rotate_left
             ·intro w'
              go_simp
              with_reducible rfl
             rotate_left
             ·simp only [ps]
              rfl
             refine pure_ (i := 8) (N := some 44) (v := ?_) (a' := ?_) (bb 19 331) rfl rfl (any_of HT_.out (by kernel_rfl)) (fun _ _ _ h => h) (Or.inl ⟨by rfl, ?_⟩) ?_ ?_
             rotate_left
             ·intro w'
              go_simp
              with_reducible rfl
             rotate_left
             ·simp only [ps]
              rfl
             refine pure_ (i := 11) (N := some 47) (v := ?_) (a' := ?_) (bb 19 2379) rfl rfl (any_of HT_.out (by kernel_rfl)) (fun _ _ _ h => h) (Or.inl ⟨by rfl, ?_⟩) ?_ ?_
             rotate_left
             ·intro w'
              go_simp
              with_reducible rfl
             rotate_left
             ·simp only [ps]
              rfl
             refine pure_ (i := 13) (N := some 49) (v := ?_) (a' := ?_) (bb 19 10571) rfl rfl (any_of HT_.out (by kernel_rfl)) (fun _ _ _ h => h) (Or.inl ⟨by rfl, ?_⟩) ?_ ?_
             rotate_left
             ·intro w'
              go_simp
              with_reducible rfl
             rotate_left
             ·simp only [ps]
              rfl
             refine take_ (i := 2) (N := some 38) (v := ?_) (a' := ?_) (bb 19 10575) rfl rfl (take_ofW HT_.out HW_.out (by kernel_rfl)) (fun _ _ _ h => h) (Or.inl ⟨by rfl, ?_⟩) hHeld ?_ ?_
             rotate_left
             ·rintro w' ⟨s0, s1, s2, s3, s4, s5, s6, s7⟩
              go_simp
              with_reducible rfl
             rotate_left
             ·simp only [ps]
              rfl
             refine pure_ (i := 4) (N := some 40) (v := ?_) (a' := ?_) (bb 19 10591) rfl rfl (any_of HT_.out (by kernel_rfl)) (fun _ _ _ h => h) (Or.inl ⟨by rfl, ?_⟩) ?_ ?_
             rotate_left
             ·intro w'
              go_simp
              with_reducible rfl
             rotate_left
             ·simp only [ps]
              rfl
             refine take_ (i := 5) (N := some 41) (v := ?_) (a' := ?_) (bb 19 10623) rfl rfl (take_ofW HT_.out HW_.out (by kernel_rfl)) (fun _ _ _ h => h) (Or.inl ⟨by rfl, ?_⟩) hHeld ?_ ?_
             rotate_left
             ·rintro w' ⟨s0, s1, s2, s3, s4, s5, s6, s7⟩
              go_simp
              with_reducible rfl
             rotate_left
             ·simp only [ps]
              rfl
             refine take_ (i := 7) (N := some 43) (v := ?_) (a' := ?_) (bb 19 10751) rfl rfl (take_ofW HT_.out HW_.out (by kernel_rfl)) (fun _ _ _ h => h) (Or.inl ⟨by rfl, ?_⟩) hHeld ?_ ?_
             rotate_left
             ·rintro w' ⟨s0, s1, s2, s3, s4, s5, s6, s7⟩
              go_simp
              with_reducible rfl
             rotate_left
             ·simp only [ps]
              rfl
             refine pure_ (i := 9) (N := some 45) (v := ?_) (a' := ?_) (bb 19 11263) rfl rfl (any_of HT_.out (by kernel_rfl)) (fun _ _ _ h => h) (Or.inl ⟨by rfl, ?_⟩) ?_ ?_
             rotate_left
             ·intro w'
              go_simp
              with_reducible rfl
             rotate_left
             ·simp only [ps]
              rfl
             refine take_ (i := 10) (N := some 46) (v := ?_) (a' := ?_) (bb 19 12287) rfl rfl (take_ofW HT_.out HW_.out (by kernel_rfl)) (fun _ _ _ h => h) (Or.inl ⟨by rfl, ?_⟩) hHeld ?_ ?_
             rotate_left
             ·rintro w' ⟨s0, s1, s2, s3, s4, s5, s6, s7⟩
              go_simp
              with_reducible rfl
             rotate_left
             ·simp only [ps]
              rfl
             refine take_ (i := 12) (N := some 48) (v := ?_) (a' := ?_) (bb 19 16383) rfl rfl (take_ofW HT_.out HW_.out (by kernel_rfl)) (fun _ _ _ h => h) (Or.inl ⟨by rfl, ?_⟩) hHeld ?_ ?_
             rotate_left
             ·rintro w' ⟨s0, s1, s2, s3, s4, s5, s6, s7⟩
              go_simp
              with_reducible rfl
             rotate_left
             ·simp only [ps]
              rfl
             refine pure_ (i := 14) (N := some 50) (v := ?_) (a' := ?_) (bb 19 32767) rfl rfl (any_of HT_.out (by kernel_rfl)) (fun _ _ _ h => h) (Or.inl ⟨by rfl, ?_⟩) ?_ ?_
             rotate_left
             ·intro w'
              go_simp
              with_reducible rfl
             rotate_left
             ·simp only [ps]
              rfl
             refine take_ (i := 15) (N := some 51) (v := ?_) (a' := ?_) (bb 19 65535) rfl rfl (take_ofW HT_.out HW_.out (by kernel_rfl)) (fun _ _ _ h => h) (Or.inl ⟨by rfl, ?_⟩) hHeld ?_ ?_
             rotate_left
             ·rintro w' ⟨s0, s1, s2, s3, s4, s5, s6, s7⟩
              go_simp
              with_reducible rfl
             rotate_left
             ·simp only [ps]
              rfl
             refine zo 16 (some 52) (bb 19 131071) HT_ (fun K hK => ?_)
             refine Kd.R_lit_step (Kd.int .i64) _ 3 ?hg (N := 52) ?hd (xs := ([rd ((rd_T30 l1 x18_1).f2) x33_2, rd ((rd_T30 l1 x18_1).f3) x33_2, rd ((rd_T30 l1 x18_1).f4) x33_2] : List Int)) (inner := [.int .i64 (rd ((rd_T30 l1 x18_1).f2) x33_2), .int .i64 (rd ((rd_T30 l1 x18_1).f3) x33_2), .int .i64 (rd ((rd_T30 l1 x18_1).f4) x33_2)]) (ok := fun _ => True) (okp := fun _ => True) ?hr ?hp (fun _ hk => hk) trivial (Below.refl _ _) (Nat.le_refl _) (by simp) ?_; (case hd => rfl); (case hg => rfl); (case hr => first | (go_simp; done) | (go_simp; rfl)); (case hp => exact (Reps.one (show Kd.M (Kd.int .i64) _ _ _ (rd ((rd_T30 l1 x18_1).f2) x33_2) [.int .i64 (rd ((rd_T30 l1 x18_1).f2) x33_2)] from rfl) (Reps.one (show Kd.M (Kd.int .i64) _ _ _ (rd ((rd_T30 l1 x18_1).f3) x33_2) [.int .i64 (rd ((rd_T30 l1 x18_1).f3) x33_2)] from rfl) (Reps.one (show Kd.M (Kd.int .i64) _ _ _ (rd ((rd_T30 l1 x18_1).f4) x33_2) [.int .i64 (rd ((rd_T30 l1 x18_1).f4) x33_2)] from rfl) (Reps.none _ _)))))
             intro v822 w39 ho40 hb hg_ hnew_
             clear hg_ hnew_
             (first | rw [← Ny821.out] at ho40 | (simp only [Int.reduceToNat] at ho40; rw [← Ny821.out] at ho40))
             have n0_ := am (Kd.R_below (Kd.R_mv HO_5.out) hb)
             have n1_ := am (Kd.R_lower ho40 (below_size (wmv HB.out)))
             have n2_ := am (blk_below (bmv BK808.out) hb)
             have n3_ := am (below_step (wmv HB.out) hb)
             clear HO_5 BK808 HB
             revert n0_ n1_ n2_ n3_
             intro HO_5 HO823 BK808 HB
             clear hb ho40
             obtain ⟨Ao41, co41, eo41⟩ := Kd.R_slice HO_5.out
             (first | subst eo41 | (injection eo41 with f1_ f2_ f3_; have f4_ := f1_.symm; have f5_ := f3_.symm; clear f1_ f2_ f3_; subst f4_; subst f5_))
             obtain ⟨Ao42, co42, eo42⟩ := Kd.R_slice HO823.out
             (first | subst eo42 | (injection eo42 with f1_ f2_ f3_; have f4_ := f1_.symm; have f5_ := f3_.symm; clear f1_ f2_ f3_; subst f4_; subst f5_))
             refine hK.out _ _ ⟨(blk_cell BK808.out 0).trans rfl, (blk_cell BK808.out 1).trans rfl, (blk_cell BK808.out 2).trans rfl, (blk_cell BK808.out 3).trans rfl, (blk_cell BK808.out 4).trans rfl, (zc HB hw818_0), (zc HB hw819_0), (zc HB hw820_0)⟩ (fun hHeld => ?_)
             clear hK K
             refine norm_ (a' := ?_) ?_ ?_
             rotate_left
             ·show Act.put _ (some 52) _ = _
              simp only [ps]
              rfl
             refine zo 17 (some 53) (bb 19 262143) HT_ (fun K hK => ?_)
             refine goes_ Try.func61 (by kernel_rfl) rfl #[.slice Ao41 x5_2.length co41, .int .i64 8, .slice Ao42 y821.length co42] (by rfl) rfl rfl zm ?_
             with_reducible refine (cell_put.calls k2 (fun k_ => some k_ = (.slice Ao41 x5_2.length co41 : Value).ownBlock) (.slice Ao41 x5_2.length co41) x5_2 8 _ _ y821 t824 w _ ?side1 ?side2 ?side3 ?side4 A37.out).mono ?_
             (case side1 => repeat (first | (with_reducible first | exact HB.out | apply below_alloc | apply pw_below_drewN | apply below_drew1 | refine below_set ?_ GE808.out) | exact HB.out))
             (case side2 => exact Kd.R_tight rfl HO_5.out)
             (case side3 => exact Kd.C_kept_own ((Kd.R_apart' HO823.out (Kd.R_typed HO_5.out) (by decide))) (fun k_ hk_ hs_ => (hk_.2) hs_))
             (case side4 => exact (Kd.R_reads' HO823.out).2.1)
             rintro e w43 ⟨v825, rfl, ho0, hb, hkp⟩
             refine ⟨_, rfl, ?_⟩
             have n0_ := am (blk_kept (bmv BK808.out) hkp (fun hs_ => (fun e_ => (Kd.R_ne HO_5.out BK808.out (by decide)) e_) hs_))
             have n1_ := am (Kd.R_mono (ok' := fun k_ => True) (Kd.R_keptB ((Kd.R_apart' HO823.out (Kd.R_typed HO_5.out) (by decide))) hkp (fun k_ hk_ hs_ => (hk_.2) hs_)) (fun k_ hk_ => trivial))
             have n2_ := am (Kd.R_mono (ok' := fun k_ => True) ho0 (fun k_ hk_ => trivial))
             have n3_ := am (hb)
             clear BK808 HO823 HB HO_5
             revert n0_ n1_ n2_ n3_
             intro BK808 HO823 HO826 HB
             (try clear hb)
             (try clear hkp)
             (try clear ho0)
             refine hK.out _ _ ⟨(blk_cell BK808.out 0).trans rfl, (blk_cell BK808.out 1).trans rfl, (blk_cell BK808.out 2).trans rfl, (blk_cell BK808.out 3).trans rfl, (blk_cell BK808.out 4).trans rfl, (zc HB hw818_0), (zc HB hw819_0), (zc HB hw820_0)⟩ (fun hHeld => ?_)
             clear hK K
             refine norm_ (a' := ?_) ?_ ?_
             rotate_left
             ·show Act.put _ (some 53) _ = _
              simp only [ps]
              rfl
             refine pure_ (i := 18) (N := some 5) (v := ?_) (a' := ?_) (bb 19 524287) rfl rfl (any_of HT_.out (by kernel_rfl)) (fun _ _ _ h => h) (Or.inl ⟨by rfl, ?_⟩) ?_ ?_
             rotate_left
             ·intro w'
              go_simp
              with_reducible rfl
             rotate_left
             ·simp only [ps]
              rfl
             refine done_ (done_of HT_.out (by kernel_rfl)) ?_
             try go_wp2
             go_roundg k2
             case measure => have := HK1.out; have := HK2.out; omega
             case rel => exact ⟨(t824), (wrap64 (x33_2 + 1)), zz, H', ⟨by have := HK1.out; have := HK2.out; omega⟩, ⟨by refine zr ?_; exact HO826.out⟩, ⟨by refine zq ?_; exact BK808.out⟩, ⟨zw HB⟩⟩
            ·rw [if_neg c36] at H
             exact absurd H (by simp)
           ·rw [if_neg c35] at H
            exact absurd H (by simp)
          ·rw [if_neg c34] at H
           exact absurd H (by simp)
         ·rw [if_neg c33] at H
          exact absurd H (by simp)
        ·rw [if_neg c32] at H
         have c32b0 : decide (x33_2 < (((rd_T30 l1 x18_1).f2).length : Int)) = false := decide_eq_false c32
         clear c32
         have H' := am H
         clear H
         go_wp2
         go_roundg k2
         case measure => have := HK1.out; have := HK2.out; omega
         case rel => exact ⟨(x5_2), (wrap64 (x18_1 + 1)), zz, H', ⟨by have := HK1.out; have := HK2.out; omega⟩, ⟨by refine zr ?_; exact HO_5.out⟩, ⟨zw HB⟩⟩
     ·rw [if_neg c16] at H
      exact absurd H (by simp)
    ·rw [if_neg c15] at H
     exact absurd H (by simp)
   ·rw [if_neg c14] at H
    have c14b0 : decide (x18_1 < (l1.length : Int)) = false := decide_eq_false c14
    clear c14
    replace H := Option.bind_eq_some_iff.mp H
    obtain ⟨t804, A440, H⟩ := H
    replace H : (some t804) = some r := H
    have A44 := am A440
    clear A440
    obtain rfl := Option.some.inj H
    obtain ⟨Ao45, co45, eo45⟩ := Kd.R_slice HO_5.out
    subst eo45
    go_wp2_with (first | ((with_reducible refine gate_callee (f := 62) rfl ?_); refine goesL_ (some 57) rfl rfl Try.func62 (by kernel_rfl) rfl #[.slice Ao45 x5_1.length co45] rfl zm ?_; (with_reducible refine (slices_Clone_byte_byte.calls _ _ x5_1 t804 _ ?side1 ?side2 A44.out).mono ?_); (case side1 => repeat (first | exact (Kd.R_reads' HO_5.out).2.2 | (with_reducible refine Kd.C_alloc ?_ _) | (with_reducible refine Kd.C_drewN ?_ _) | (with_reducible refine Kd.C_drew ?_))); (case side2 => exact (Kd.R_reads' HO_5.out).2.1); rintro e w46 ⟨v805, rfl, ho0, hb⟩; refine ⟨_, rfl, ?_⟩; have n0_ := am (Kd.R_elder' (ze HO_5) (Kd.R_base ho0) hb); have n1_ := am (Kd.R_lower (Kd.R_new' ho0 (Kd.R_lt (ze HO_5))) (below_size (zw HB))); have n2_ := am (below_step (zw HB) hb); clear HO_5 HB; revert n0_ n1_ n2_; intro HO_5 HO806 HB; (try clear hb); (try clear hb2); (try clear hk); (try clear hi); (try clear ho0)))
    go_ret
    exact ⟨_, by first | rfl | (simp [errW_none, errW_some] <;> rfl) | (simp [*, errW_none, errW_some] <;> rfl), by refine zr ?_; exact Kd.R_mono HO806.out (fun _ hk => trivial), zw HB⟩
end Go.Proofs.Ytmkjkkmilopcpaa.Q
namespace Go.Proofs.Ytmkjkkmilopcpaa.Q
open Go.RowKit Go.Proofs.YtmkjkkmilopcpaaW.PrintWords Go.Proofs.YtmkjkkmilopcpaaW.PrintLast Go.Proofs.YtmkjkkmilopcpaaW.PrintMore
set_option linter.unusedVariables false
set_option linter.unusedSimpArgs false
theorem R_none_nilC {α : Type} {d : Kd α} {e : Nat} {w : World} {base : Nat} {ok : Nat → Prop} {n c : Nat} {xs : List α} (h : d.R e w base ok (.slice none n c) xs) : xs = [] ∧ n = 0 ∧ c = 0 := by
 obtain ⟨_, inner, ho, hr⟩ := h
 rcases ho.2 with ⟨he, h0⟩ | ⟨g, cap, cur, he, _⟩
 ·injection he with _ h1 h2
  exact ⟨List.eq_nil_of_length_eq_zero h0, h1, h2⟩
 ·cases he
set_option maxHeartbeats 2000000 in
theorem CloneCells_calls {α : Type} (d : Kd α) (hsz : d.sz = 5) (v : Value) (xs : List α) (base : Nat) (ok : Nat → Prop) (w0 w : World) (hB : Below base w0 w) (hbase : base ≤ w.heap.size)
  (hR : d.R 30 w base ok v xs) (hfresh : ∀ k, w.heap.size ≤ k → ok k) (hl : xs.length * 104 ≤ 140737488355328) :
  Calls Try.prog 49 #[v] w fun e w' => ∃ v1 : Value, e = .returned v1 ∧ d.R 30 w' base ok v1 xs ∧ Below base w0 w' ∧ Below w.heap.size w w' := by
 have O := am hR
 have B := am hB
 have F := am hfresh
 obtain ⟨A, c, e⟩ := Kd.R_slice hR
 subst e
 clear hR hB hfresh
 have heq : ∀ W : World, (binOp .eql 28 (.slice A xs.length c) (.slice none 0 0)).run Try.prog W = .ok (.bool A.isNone) W := fun W => Lib.run_eql_slice_nil W _ _ A _ _ _ _ Try.underlying28
 cases A with
 | none =>
  have hb : (none : Option Addr).isNone = true := rfl
  rw [hb] at heq
  go_enter Try.func49, Try.ntmps49
  go_wp2
  go_ret
  obtain ⟨rfl, _, rfl⟩ := R_none_nilC O.out
  exact ⟨_, rfl, Kd.R_nil _ _ _ _ _, B.out, Below.refl _ _⟩
 | some ad =>
  have hb : (some ad).isNone = false := rfl
  rw [hb] at heq
  have hlen : (([] : List α).length + xs.length) * 104 ≤ 140737488355328 := by simpa using hl
  have hO := Kd.R_alloc O.out (.cells #[] 30)
  have hrr : ReadsRow (d.M (w.alloc (.cells #[] 30)) base (fun k => ok k ∧ k < w.heap.size)) d.sz (w.alloc (.cells #[] 30)) (some ad) xs.length xs := by
   obtain ⟨A, c', e, hlc, hr⟩ := OwnRow.reads (Kd.R_bound O.out).2
   injection e with e1 e2 e3
   subst e1
   exact hr.imp_ (below_alloc (Below.refl _ _) _) (fun x cs hx => d.M_mono (fun k hk => ⟨hk.1.1, hk.1.2.2.1⟩) (Kd.M_below hx (below_alloc (Below.refl _ _) _)))
  have HR := am hrr
  have HN : Aside0 (d.R 30 (w.alloc (.cells #[] 30)) base ok (.slice (some ⟨w.heap.size, 0, none⟩) 0 0) []) := by
   obtain hl := OwnRow.lit (R := d.M (w.alloc (.cells #[] 30)) base (fun k => ok k ∧ some k ≠ (Value.slice (some ⟨w.heap.size, 0, none⟩) 0 0).ownBlock)) (e := 30) (size := d.sz) (ps := ([] : List α)) w base (inner := []) (Reps.none _ _) hbase (by simp)
   exact ⟨⟨fun k hk => F.out k (by simp [Value.ownBlock] at hk; omega), hl⟩⟩
  clear hO hrr
  go_enter Try.func49, Try.ntmps49
  go_wp2_with (((with_reducible refine gate_builtin (b := .append) (xs := #[.tmp 5, .tmp 6]) rfl ?_); at_builtin; refine Kd.R_append_rows d (w0 := w0) base rfl (.tmp 5) (.tmp 6) 28 30 (.agg #[.slice none 0 0, .int .i64 0, .slice none 0 0, .slice none 0 0, .slice none 0 0]) 104 rfl Try.underlying28 (by rw [hsz]; exact info30) (by rw [hsz]; rfl) (by omega) (by decide) (.slice (some ⟨w.heap.size, 0, none⟩) 0 0) [] xs _ _ _ ok (fun k => ok k ∧ k < w.heap.size) rfl rfl HN.out HR.out (fun _ _ h => h) (fun k hk => ⟨hk.1, fun e => by simp [Value.ownBlock] at e; omega⟩) (fun k hk => F.out k (by simp at hk; omega)) (B.out.alloc hbase _) (by simp; omega) hlen ?_; intro v3 w3 ho hb hg hat; have O3 := am ho; have B3 := am hb; have G3 := am hg; clear ho hb hg hat))
  go_ret
  refine ⟨_, rfl, O3.out, B3.out, ?_⟩
  exact pw_below_grown (below_alloc (Below.refl _ _) _) _ (by simp) G3.out (fun k e => by simp [Value.ownBlock] at e; omega)
end Go.Proofs.Ytmkjkkmilopcpaa.Q
