-- packed by wip/tools/pack.py (a program of this session) out of its own texts
import Derived.Test.YtmkjkkmilopcpaaPCellBack0
import Derived.ArgAppend
import Derived.Below
import Derived.BigQuiet
import Derived.Deep.AppendLies
import Derived.Deep.CutBlock
import Derived.Deep.DeepCutAuto
import Derived.Deep.Draws
import Derived.Deep.LoopGhost
import Derived.Deep.OwnRows
import Derived.Deep.QuietTactic
import Derived.Deep.RegionHeld3
import Derived.KernelRfl
import Derived.Laws.BitsLemmas
import Derived.Laws.BytesArg
import Derived.Laws.IdiomCopy
import Derived.Laws.MakeOwn
import Derived.Laws.OwnMore
import Derived.Laws.Rows
import Derived.Laws.Slices
import Derived.Lib.AppendStr
import Derived.Lib.ConvBytes
import Derived.Maps.AppendAt
import Derived.OrdersHeld
import Derived.OwnWalk
import Derived.RowKit
import Derived.RowKit3
import Derived.Shelf.Abstract
import Derived.Tactics
import Derived.Test.YtmkjkkmilopcpaaProg
import Derived.WalkKit
import Derived.WideLaws
import Derived.Test.YtmkjkkmilopcpaaPCellBack1
import Derived.Test.YtmkjkkmilopcpaaPCellBack3
import Derived.Test.YtmkjkkmilopcpaaPCellBack4
import Derived.Test.YtmkjkkmilopcpaaPCellBack5
namespace Go.Proofs.Ytmkjkkmilopcpaa.Q
open Go.RowKit Go.Proofs.YtmkjkkmilopcpaaW.PrintWords Go.Proofs.YtmkjkkmilopcpaaW.PrintLast Go.Proofs.YtmkjkkmilopcpaaW.PrintMore
set_option linter.unusedVariables false
set_option linter.unusedSimpArgs false
theorem ret_i64 {a b : Int} (h : a = b) : Ending.returned (.int .i64 a) = .returned (.int .i64 b) := by rw [h]
theorem ret_bool {a b : Bool} (h : a = b) : Ending.returned (.bool a) = .returned (.bool b) := by rw [h]
def SaysInt (g : Nat) (lb : Array Value) (p : Int → Bool) (w : World) : Prop :=
 ∀ W x, Below w.heap.size w W → Calls Try.prog g (#[.int .i64 x] ++ lb) W fun e w' => e = .returned (.bool (p x)) ∧ ∃ n, w' = W.drewN n
def idxFrom (p : Int → Bool) (l : List Int) (j : Nat) : Int :=
 match (l.drop j).findIdx? p with
 | some i => ((j + i : Nat) : Int)
 | none => -1
theorem idxFrom_hit {p : Int → Bool} {l : List Int} {j : Nat} (h : j < l.length) (hp : p (rd l j) = true) : idxFrom p l j = j := by
 have hd : l.drop j = rd l j :: l.drop (j + 1) := by
  rw [List.drop_eq_getElem_cons h]
  simp [rd, List.getD_eq_getElem?_getD, h]
 simp [idxFrom, hd, List.findIdx?_cons, hp]
theorem idxFrom_miss {p : Int → Bool} {l : List Int} {j : Nat} (h : j < l.length) (hp : p (rd l j) = false) : idxFrom p l (j + 1) = idxFrom p l j := by
 have hd : l.drop j = rd l j :: l.drop (j + 1) := by
  rw [List.drop_eq_getElem_cons h]
  simp [rd, List.getD_eq_getElem?_getD, h]
 simp only [idxFrom, hd, List.findIdx?_cons, hp]
 cases (l.drop (j + 1)).findIdx? p <;> simp <;> omega
theorem idxFrom_end {p : Int → Bool} {l : List Int} : idxFrom p l l.length = -1 := by simp [idxFrom]
set_option maxHeartbeats 1000000 in
theorem IndexFunc_calls (A0 : Option Addr) (c0 : Nat) (l : List Int) (g : Nat) (lb : Array Value) (p : Int → Bool) (w : World)
  (hr0 : Kd.C (Kd.int .i64) w A0 l.length l) (hc0 : l.length ≤ c0) (hp : SaysInt g lb p w)
  (eg : ∀ args w, (callFunc g args).run Try.prog w = .ok (.enter g args) w) :
  Calls Try.prog 77 #[.slice A0 l.length c0, .func (.func g) #[] lb] w fun e w' => e = .returned (.int .i64 (idxFrom p l 0)) ∧ ∃ n, w' = w.drewN n := by
 have HR := am hr0
 have HP : ∀ (x : Int) (q : Nat), Calls Try.prog g (#[.int .i64 x] ++ lb) (w.drewN q) fun e w' => e = .returned (.bool (p x)) ∧ ∃ q', w' = (w.drewN q).drewN q' := fun x q => hp _ x (pw_below_drewN (Below.refl _ w) q)
 clear hr0 hp
 have hmx : l.length ≤ 9223372036854775807 := HR.out.2.1
 go_enter Try.func77, Try.ntmps77
 go_wp2
 go_loopg [5, 8] l.length (fun gg _ s8 wr => ∃ kk q : Nat, kk ≤ l.length ∧ l.length - kk ≤ gg ∧ s8 = .int .i64 kk ∧ wr = w.drewN q ∧ Aside0 (idxFrom p l kk = idxFrom p l 0))
 case atStart => exact ⟨0, 0, Nat.zero_le _, by omega, rfl, rfl, ⟨rfl⟩⟩
 case round =>
  obtain ⟨kk, q, hkk, hg, rfl, rfl, A⟩ := hrel
  by_cases hlt : kk < l.length
  ·have hltz : (kk : Int) < (l.length : Int) := by omega
   obtain ⟨ad, e0, hcell⟩ := Kd.at_int HR.out (kk : Int) (by omega) hltz
   cases e0
   simp only [Int.toNat_natCast] at hcell
   generalize hy : rd l kk = y at hcell
   have B := am hy
   clear hy
   have hcall := HP y
   clear HP
   cases hq : p y with
   | true =>
    rw [hq] at hcall
    go_wp2_with fail
    refine (hcall _).mono ?_
    rintro e w' ⟨rfl, q', rfl⟩
    clear hcall
    go_wp2
    go_ret
    exact ⟨ret_i64 ((idxFrom_hit hlt (by rw [B.out]; exact hq)).symm.trans A.out), _, rfl⟩
   | false =>
    rw [hq] at hcall
    go_wp2_with fail
    refine (hcall _).mono ?_
    rintro e w' ⟨rfl, q', rfl⟩
    clear hcall
    go_wp2
    go_roundg (l.length - (kk + 1))
    case measure => omega
    case rel => exact ⟨kk + 1, _, by omega, by omega, by go_num, rfl, ⟨(idxFrom_miss hlt (by rw [B.out]; exact hq)).trans A.out⟩⟩
  ·have hltz : ¬ (kk : Int) < (l.length : Int) := by omega
   obtain rfl : kk = l.length := by omega
   clear HP
   go_wp2
   go_ret
   exact ⟨ret_i64 (idxFrom_end.symm.trans A.out), q, rfl⟩
theorem idxFrom_any (p : Int → Bool) (l : List Int) : decide (0 ≤ idxFrom p l 0) = l.any p := by
 unfold idxFrom
 simp only [List.drop_zero]
 cases h : l.findIdx? p with
 | some i =>
  obtain ⟨hi, hp, _⟩ := List.findIdx?_eq_some_iff_getElem.1 h
  have : l.any p = true := List.any_eq_true.2 ⟨l[i], List.getElem_mem hi, hp⟩
  rw [this]; exact decide_eq_true (Int.natCast_nonneg _)
 | none =>
  have := List.findIdx?_eq_none_iff.1 h
  have h2 : l.any p = false := by
   rw [Bool.eq_false_iff]
   intro h3
   obtain ⟨x, hx, hpx⟩ := List.any_eq_true.1 h3
   have := this x hx
   simp_all
  rw [h2]; decide
set_option maxHeartbeats 1000000 in
theorem ContainsFunc_calls (A0 : Option Addr) (c0 : Nat) (l : List Int) (g : Nat) (lb : Array Value) (p : Int → Bool) (w : World)
  (hr0 : Kd.C (Kd.int .i64) w A0 l.length l) (hc0 : l.length ≤ c0) (hp : SaysInt g lb p w)
  (eg : ∀ args w, (callFunc g args).run Try.prog w = .ok (.enter g args) w) :
  Calls Try.prog 74 #[.slice A0 l.length c0, .func (.func g) #[] lb] w fun e w' => e = .returned (.bool (l.any p)) ∧ ∃ n, w' = w.drewN n := by
 have hcon := IndexFunc_calls A0 c0 l g lb p w hr0 hc0 hp eg
 clear hr0 hp eg
 have hany := am (idxFrom_any p l)
 generalize idxFrom p l 0 = r at hcon hany
 go_enter Try.func74, Try.ntmps74
 go_wp2_with (go_at_call 77; refine hcon.mono ?_; clear hcon; rintro e w' ⟨rfl, q, rfl⟩)
 go_ret
 exact ⟨ret_bool hany.out, q, rfl⟩
theorem within_lit (B : Nat) (lo hi : Int) (w : World) (hB : B + 1 < w.heap.size) (h0 : w.cell? ⟨B, 0, none⟩ = some (.int .i64 lo)) (h1 : w.cell? ⟨B + 1, 0, none⟩ = some (.int .i64 hi)) :
  SaysInt 75 #[.pointer (some ⟨B, 0, none⟩), .pointer (some ⟨B + 1, 0, none⟩)] (fun x => decide (x < lo) || decide (hi < x)) w := fun W x hb => by
 have hc0 : W.cell? ⟨B, 0, none⟩ = some (.int .i64 lo) := (hb.cell (p := ⟨B, 0, none⟩) (by show B < _; omega)).trans h0
 have hc1 : W.cell? ⟨B + 1, 0, none⟩ = some (.int .i64 hi) := (hb.cell (p := ⟨B + 1, 0, none⟩) (by show B + 1 < _; omega)).trans h1
 clear hb h0 h1 hB
 show Calls Try.prog 75 #[.int .i64 x, .pointer (some ⟨B, 0, none⟩), .pointer (some ⟨B + 1, 0, none⟩)] W _
 by_cases c0 : x < lo
 ·have d0 : decide (x < lo) = true := decide_eq_true c0
  go_enter Try.func75, Try.ntmps75
  go_wp2
  go_ret
  exact ⟨by simp [d0], 0, rfl⟩
 ·have d0 : decide (x < lo) = false := decide_eq_false c0
  by_cases c1 : hi < x
  ·have d1 : decide (hi < x) = true := decide_eq_true c1
   go_enter Try.func75, Try.ntmps75
   go_wp2
   go_ret
   exact ⟨by simp [d0, d1], 0, rfl⟩
  ·have d1 : decide (hi < x) = false := decide_eq_false c1
   go_enter Try.func75, Try.ntmps75
   go_wp2
   go_ret
   exact ⟨by simp [d0, d1], 0, rfl⟩
def rec_within_int.f (l0 : List Int) (a1 : Int) (a2 : Int) : Option (Bool) := some (l0.all fun x => decide (a1 ≤ x) && decide (x ≤ a2))
theorem within_not (l : List Int) (lo hi : Int) : (!l.any fun x => decide (x < lo) || decide (hi < x)) = l.all fun x => decide (lo ≤ x) && decide (x ≤ hi) := by
 rw [List.not_any_eq_all_not]
 congr 1
 funext x
 by_cases a : x < lo <;> by_cases b : hi < x <;> simp [a, b] <;> omega
set_option maxHeartbeats 1000000 in
theorem rec_within_int.calls (A0 : Option Addr) (c0 : Nat) (l0 : List Int) (a1 : Int) (a2 : Int) (r : Bool) (w : World) (hr0 : Kd.C (Kd.int .i64) w A0 l0.length l0) (hc0 : l0.length ≤ c0) (h : rec_within_int.f l0 a1 a2 = some r) :
  Calls Try.prog 67 #[.slice A0 l0.length c0, .int .i64 a1, .int .i64 a2] w fun e w' => e = .returned (.bool r) ∧ Below w.heap.size w w' := by
 obtain rfl := Option.some.inj h
 have eg : ∀ args w, (callFunc 75 args).run Try.prog w = .ok (.enter 75 args) w := enters_of Try.func75 (by kernel_rfl) rfl
 have hb : Below w.heap.size w ((w.alloc (.cells #[.int .i64 a1] 3)).alloc (.cells #[.int .i64 a2] 3)) := ((Below.refl _ w).alloc (Nat.le_refl _) _).alloc (by simp) _
 have hcon := ContainsFunc_calls A0 c0 l0 75 #[.pointer (some ⟨w.heap.size, 0, none⟩), .pointer (some ⟨w.heap.size + 1, 0, none⟩)] _ _ (Kd.C_below hr0 hb) hc0
  (within_lit w.heap.size a1 a2 _ (by simp) (by simp) (by simp)) eg
 have HB := am hb
 have hn := am (within_not l0 a1 a2)
 clear hb eg hr0 h
 generalize (l0.any fun x => decide (x < a1) || decide (a2 < x)) = b at hcon hn
 go_enter Try.func67, Try.ntmps67
 go_wp2_with (go_at_call 74; refine hcon.mono ?_; clear hcon; rintro e w' ⟨rfl, q, rfl⟩)
 go_ret
 exact ⟨ret_bool hn.out, pw_below_drewN HB.out q⟩
end Go.Proofs.Ytmkjkkmilopcpaa.Q
namespace Go.Proofs.Ytmkjkkmilopcpaa.Q
open Go.RowKit Go.Proofs.YtmkjkkmilopcpaaW.PrintWords Go.Proofs.YtmkjkkmilopcpaaW.PrintLast Go.Proofs.YtmkjkkmilopcpaaW.PrintMore
attribute [local go_sem] max2_int min2_int max_two min_two max_three min_three max_four min_four
set_option linter.unusedVariables false
set_option linter.unusedSimpArgs false
def rec_Check.f (l0_0 : List Int) (a0_1 : Int) : Option (Bool) := if (l0_0.length : Int) ≥ 1 then (if (l0_0.length : Int) ≤ 4 then ((rec_within_int.f l0_0 1 16).bind fun t713 => (if t713 = true then (if a0_1 ≥ 0 then (some (decide (a0_1 ≤ 2))) else (some false)) else (some false))) else (some false)) else (some false)
set_option maxHeartbeats 8000000 in
set_option maxRecDepth 100000 in
theorem rec_Check.calls (A0_0 : Option Addr) (c0_0 : Nat) (l0_0 : List Int) (a0_1 : Int) (r : Bool) (w : World) (hr0_0 : Kd.C (Kd.int .i64) w A0_0 l0_0.length l0_0) (hc0_0 : l0_0.length ≤ c0_0) (h : rec_Check.f l0_0 a0_1 = some r) :
  Calls Try.prog 55 #[.agg #[.slice A0_0 l0_0.length c0_0, .int .i64 a0_1]] w fun e w' => e = .returned (.bool r) ∧ Below w.heap.size w w' := by
 have hu35 := Try.underlying35
 have HR0_0 := am hr0_0
 have HC0_0 := am hc0_0
 clear hr0_0 hc0_0
 have HB := am (Below.refl w.heap.size w)
 have H : (if (l0_0.length : Int) ≥ 1 then (if (l0_0.length : Int) ≤ 4 then ((rec_within_int.f l0_0 1 16).bind fun t713 => (if t713 = true then (if a0_1 ≥ 0 then (some (decide (a0_1 ≤ 2))) else (some false)) else (some false))) else (some false)) else (some false)) = some r := h
 clear h
 by_cases c2 : (l0_0.length : Int) ≥ 1
 ·rw [if_pos c2] at H
  have c2b0 : decide (1 ≤ (l0_0.length : Int)) = true := decide_eq_true c2
  have c2b1 : decide (1 ≤ l0_0.length) = true := decide_eq_true (by omega)
  clear c2
  by_cases c3 : (l0_0.length : Int) ≤ 4
  ·rw [if_pos c3] at H
   have c3b0 : decide ((l0_0.length : Int) ≤ 4) = true := decide_eq_true c3
   have c3b1 : decide (l0_0.length ≤ 4) = true := decide_eq_true (by omega)
   clear c3
   replace H := Option.bind_eq_some_iff.mp H
   obtain ⟨t713, A40, H⟩ := H
   replace H : (if t713 = true then (if a0_1 ≥ 0 then (some (decide (a0_1 ≤ 2))) else (some false)) else (some false)) = some r := H
   have A4 := am A40
   clear A40
   by_cases c5 : t713 = true
   ·subst c5
    have H1 : (if a0_1 ≥ 0 then (some (decide (a0_1 ≤ 2))) else (some false)) = some r := by rw [if_pos rfl] at H; exact H
    clear H
    have H := H1
    clear H1
    by_cases c6 : a0_1 ≥ 0
    ·rw [if_pos c6] at H
     have c6b0 : decide (0 ≤ a0_1) = true := decide_eq_true c6
     clear c6
     obtain rfl := Option.some.inj H
     go_enter Try.func55, Try.ntmps55
     go_wp2_with (first | ((with_reducible refine gate_dst (N := 1) rfl ?_); (try (refine gate_guard (by rfl) ?_; dsimp only)); refine zX #[.slice A0_0 l0_0.length c0_0, .int .i64 a0_1] 35 ?_; intro gb712 hg w7 hbox hb; have n0_ := am (below_step (zw HB) hb); have n1_ := am (hbox); have n2_ := am ((by rw [hg]; exact (below_size (zw HB)) : w.heap.size ≤ gb712)); have n3_ := am ((by rw [hg]; exact (below_size (zw HB)) : w.heap.size ≤ gb712)); clear HB; have HB := n0_; have BK712 := n1_; have GW712 := n2_; have GE712 := n3_; clear n0_ n1_ n2_ n3_; clear hb hbox hg; have hcz8_0 : w7.cell? ⟨gb712, 0, none⟩ = some (.slice A0_0 l0_0.length c0_0) := (blk_cell BK712.out 0).trans rfl; have hcz8_1 : w7.cell? ⟨gb712, 1, none⟩ = some (.int .i64 a0_1) := (blk_cell BK712.out 1).trans rfl; have hfz8_0 := blk_frozen BK712.out 0; have hfz8_1 := blk_frozen BK712.out 1) | (go_at_call 67; (with_reducible refine (rec_within_int.calls _ _ l0_0 1 16 true _ ?side1 ?side2 A4.out).mono ?_); (case side1 => repeat (first | exact (Kd.C_below HR0_0.out HB.out) | (with_reducible refine Kd.C_alloc ?_ _) | (with_reducible refine Kd.C_drewN ?_ _) | (with_reducible refine Kd.C_drew ?_))); (case side2 => exact HC0_0.out); rintro e w9 ⟨rfl, hb⟩; have n0_ := am (blk_below (g := gb712) (o := .cells #[.slice A0_0 l0_0.length c0_0, .int .i64 a0_1] 35 (0, 0)) (zb BK712) hb); have n1_ := am (below_step (zw HB) hb); clear BK712; clear HB; have BK712 := n0_; have HB := n1_; clear n0_ n1_; (try clear hb); (try clear hb2); (try clear hk); (try clear hi); have hcz10_0 : w9.cell? ⟨gb712, 0, none⟩ = some (.slice A0_0 l0_0.length c0_0) := (blk_cell BK712.out 0).trans rfl; have hcz10_1 : w9.cell? ⟨gb712, 1, none⟩ = some (.int .i64 a0_1) := (blk_cell BK712.out 1).trans rfl; have hfz10_0 := blk_frozen BK712.out 0; have hfz10_1 := blk_frozen BK712.out 1))
     go_ret
     exact ⟨by first | rfl | (simp [errW_none, errW_some] <;> rfl) | (simp [*, errW_none, errW_some] <;> rfl), zw HB⟩
    ·rw [if_neg c6] at H
     have c6b0 : decide (0 ≤ a0_1) = false := decide_eq_false c6
     clear c6
     obtain rfl := Option.some.inj H
     go_enter Try.func55, Try.ntmps55
     go_wp2_with (first | ((with_reducible refine gate_dst (N := 1) rfl ?_); (try (refine gate_guard (by rfl) ?_; dsimp only)); refine zX #[.slice A0_0 l0_0.length c0_0, .int .i64 a0_1] 35 ?_; intro gb712 hg w11 hbox hb; have n0_ := am (below_step (zw HB) hb); have n1_ := am (hbox); have n2_ := am ((by rw [hg]; exact (below_size (zw HB)) : w.heap.size ≤ gb712)); have n3_ := am ((by rw [hg]; exact (below_size (zw HB)) : w.heap.size ≤ gb712)); clear HB; have HB := n0_; have BK712 := n1_; have GW712 := n2_; have GE712 := n3_; clear n0_ n1_ n2_ n3_; clear hb hbox hg; have hcz12_0 : w11.cell? ⟨gb712, 0, none⟩ = some (.slice A0_0 l0_0.length c0_0) := (blk_cell BK712.out 0).trans rfl; have hcz12_1 : w11.cell? ⟨gb712, 1, none⟩ = some (.int .i64 a0_1) := (blk_cell BK712.out 1).trans rfl; have hfz12_0 := blk_frozen BK712.out 0; have hfz12_1 := blk_frozen BK712.out 1) | (go_at_call 67; (with_reducible refine (rec_within_int.calls _ _ l0_0 1 16 true _ ?side1 ?side2 A4.out).mono ?_); (case side1 => repeat (first | exact (Kd.C_below HR0_0.out HB.out) | (with_reducible refine Kd.C_alloc ?_ _) | (with_reducible refine Kd.C_drewN ?_ _) | (with_reducible refine Kd.C_drew ?_))); (case side2 => exact HC0_0.out); rintro e w13 ⟨rfl, hb⟩; have n0_ := am (blk_below (g := gb712) (o := .cells #[.slice A0_0 l0_0.length c0_0, .int .i64 a0_1] 35 (0, 0)) (zb BK712) hb); have n1_ := am (below_step (zw HB) hb); clear BK712; clear HB; have BK712 := n0_; have HB := n1_; clear n0_ n1_; (try clear hb); (try clear hb2); (try clear hk); (try clear hi); have hcz14_0 : w13.cell? ⟨gb712, 0, none⟩ = some (.slice A0_0 l0_0.length c0_0) := (blk_cell BK712.out 0).trans rfl; have hcz14_1 : w13.cell? ⟨gb712, 1, none⟩ = some (.int .i64 a0_1) := (blk_cell BK712.out 1).trans rfl; have hfz14_0 := blk_frozen BK712.out 0; have hfz14_1 := blk_frozen BK712.out 1))
     go_ret
     exact ⟨by first | rfl | (simp [errW_none, errW_some] <;> rfl) | (simp [*, errW_none, errW_some] <;> rfl), zw HB⟩
   ·replace c5 := Bool.eq_false_iff.mpr c5
    subst c5
    have H1 : (some false) = some r := by rw [if_neg (show ¬ (false = true) by decide)] at H; exact H
    clear H
    have H := H1
    clear H1
    obtain rfl := Option.some.inj H
    go_enter Try.func55, Try.ntmps55
    go_wp2_with (first | ((with_reducible refine gate_dst (N := 1) rfl ?_); (try (refine gate_guard (by rfl) ?_; dsimp only)); refine zX #[.slice A0_0 l0_0.length c0_0, .int .i64 a0_1] 35 ?_; intro gb712 hg w15 hbox hb; have n0_ := am (below_step (zw HB) hb); have n1_ := am (hbox); have n2_ := am ((by rw [hg]; exact (below_size (zw HB)) : w.heap.size ≤ gb712)); have n3_ := am ((by rw [hg]; exact (below_size (zw HB)) : w.heap.size ≤ gb712)); clear HB; have HB := n0_; have BK712 := n1_; have GW712 := n2_; have GE712 := n3_; clear n0_ n1_ n2_ n3_; clear hb hbox hg; have hcz16_0 : w15.cell? ⟨gb712, 0, none⟩ = some (.slice A0_0 l0_0.length c0_0) := (blk_cell BK712.out 0).trans rfl; have hcz16_1 : w15.cell? ⟨gb712, 1, none⟩ = some (.int .i64 a0_1) := (blk_cell BK712.out 1).trans rfl; have hfz16_0 := blk_frozen BK712.out 0; have hfz16_1 := blk_frozen BK712.out 1) | (go_at_call 67; (with_reducible refine (rec_within_int.calls _ _ l0_0 1 16 false _ ?side1 ?side2 A4.out).mono ?_); (case side1 => repeat (first | exact (Kd.C_below HR0_0.out HB.out) | (with_reducible refine Kd.C_alloc ?_ _) | (with_reducible refine Kd.C_drewN ?_ _) | (with_reducible refine Kd.C_drew ?_))); (case side2 => exact HC0_0.out); rintro e w17 ⟨rfl, hb⟩; have n0_ := am (blk_below (g := gb712) (o := .cells #[.slice A0_0 l0_0.length c0_0, .int .i64 a0_1] 35 (0, 0)) (zb BK712) hb); have n1_ := am (below_step (zw HB) hb); clear BK712; clear HB; have BK712 := n0_; have HB := n1_; clear n0_ n1_; (try clear hb); (try clear hb2); (try clear hk); (try clear hi)))
    go_ret
    exact ⟨by first | rfl | (simp [errW_none, errW_some] <;> rfl) | (simp [*, errW_none, errW_some] <;> rfl), zw HB⟩
  ·rw [if_neg c3] at H
   have c3b0 : decide ((l0_0.length : Int) ≤ 4) = false := decide_eq_false c3
   have c3b1 : decide (l0_0.length ≤ 4) = false := decide_eq_false (by omega)
   clear c3
   obtain rfl := Option.some.inj H
   go_enter Try.func55, Try.ntmps55
   go_wp2_with (first | ((with_reducible refine gate_dst (N := 1) rfl ?_); (try (refine gate_guard (by rfl) ?_; dsimp only)); refine zX #[.slice A0_0 l0_0.length c0_0, .int .i64 a0_1] 35 ?_; intro gb712 hg w18 hbox hb; have n0_ := am (below_step (zw HB) hb); have n1_ := am (hbox); have n2_ := am ((by rw [hg]; exact (below_size (zw HB)) : w.heap.size ≤ gb712)); have n3_ := am ((by rw [hg]; exact (below_size (zw HB)) : w.heap.size ≤ gb712)); clear HB; have HB := n0_; have BK712 := n1_; have GW712 := n2_; have GE712 := n3_; clear n0_ n1_ n2_ n3_; clear hb hbox hg; have hcz19_0 : w18.cell? ⟨gb712, 0, none⟩ = some (.slice A0_0 l0_0.length c0_0) := (blk_cell BK712.out 0).trans rfl; have hcz19_1 : w18.cell? ⟨gb712, 1, none⟩ = some (.int .i64 a0_1) := (blk_cell BK712.out 1).trans rfl; have hfz19_0 := blk_frozen BK712.out 0; have hfz19_1 := blk_frozen BK712.out 1))
   go_ret
   exact ⟨by first | rfl | (simp [errW_none, errW_some] <;> rfl) | (simp [*, errW_none, errW_some] <;> rfl), zw HB⟩
 ·rw [if_neg c2] at H
  have c2b0 : decide (1 ≤ (l0_0.length : Int)) = false := decide_eq_false c2
  have c2b1 : decide (1 ≤ l0_0.length) = false := decide_eq_false (by omega)
  clear c2
  obtain rfl := Option.some.inj H
  go_enter Try.func55, Try.ntmps55
  go_wp2_with (first | ((with_reducible refine gate_dst (N := 1) rfl ?_); (try (refine gate_guard (by rfl) ?_; dsimp only)); refine zX #[.slice A0_0 l0_0.length c0_0, .int .i64 a0_1] 35 ?_; intro gb712 hg w20 hbox hb; have n0_ := am (below_step (zw HB) hb); have n1_ := am (hbox); have n2_ := am ((by rw [hg]; exact (below_size (zw HB)) : w.heap.size ≤ gb712)); have n3_ := am ((by rw [hg]; exact (below_size (zw HB)) : w.heap.size ≤ gb712)); clear HB; have HB := n0_; have BK712 := n1_; have GW712 := n2_; have GE712 := n3_; clear n0_ n1_ n2_ n3_; clear hb hbox hg; have hcz21_0 : w20.cell? ⟨gb712, 0, none⟩ = some (.slice A0_0 l0_0.length c0_0) := (blk_cell BK712.out 0).trans rfl; have hcz21_1 : w20.cell? ⟨gb712, 1, none⟩ = some (.int .i64 a0_1) := (blk_cell BK712.out 1).trans rfl; have hfz21_0 := blk_frozen BK712.out 0; have hfz21_1 := blk_frozen BK712.out 1))
  go_ret
  exact ⟨by first | rfl | (simp [errW_none, errW_some] <;> rfl) | (simp [*, errW_none, errW_some] <;> rfl), zw HB⟩
end Go.Proofs.Ytmkjkkmilopcpaa.Q
