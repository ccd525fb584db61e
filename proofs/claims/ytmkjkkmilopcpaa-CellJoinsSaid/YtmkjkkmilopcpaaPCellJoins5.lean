-- packed by wip/tools/pack.py (a program of this session) out of its own texts
import Derived.Test.YtmkjkkmilopcpaaPCellJoins0
import Derived.ArgAppend
import Derived.Below
import Derived.BigQuiet
import Derived.Deep.AppendLies
import Derived.Deep.CutBlock
import Derived.Deep.DeepCutAuto
import Derived.Deep.Draws
import Derived.Deep.LoopGhost
import Derived.Deep.OwnRows
import Derived.Deep.QuietTactic
import Derived.Deep.RegionHeld3
import Derived.KernelRfl
import Derived.Laws.BitsLemmas
import Derived.Laws.BytesArg
import Derived.Laws.IdiomCopy
import Derived.Laws.MakeOwn
import Derived.Laws.OwnMore
import Derived.Laws.Rows
import Derived.Laws.Slices
import Derived.Lib.AppendStr
import Derived.Lib.ConvBytes
import Derived.Maps.AppendAt
import Derived.OrdersHeld
import Derived.OwnWalk
import Derived.RowKit
import Derived.RowKit3
import Derived.Tactics
import Derived.Test.YtmkjkkmilopcpaaProg
import Derived.WalkKit
import Derived.WideLaws
import Derived.Test.YtmkjkkmilopcpaaPCellJoins1
import Derived.Test.YtmkjkkmilopcpaaPCellJoins3
import Derived.Test.YtmkjkkmilopcpaaPCellJoins4
namespace Go.Proofs.Ytmkjkkmilopcpaa.Q
open Go.RowKit Go.Proofs.YtmkjkkmilopcpaaW.PrintWords Go.Proofs.YtmkjkkmilopcpaaW.PrintLast Go.Proofs.YtmkjkkmilopcpaaW.PrintMore
attribute [local go_sem] max2_int min2_int max_two min_two max_three min_three max_four min_four
set_option linter.unusedVariables false
set_option linter.unusedSimpArgs false
def errW : Option Int → Value
  | none => .nilIface
  | some c => .iface 0 (.int .i64 c)
theorem errW_none : errW none = .nilIface := rfl
theorem errW_some (c : Int) : errW (some c) = .iface 0 (.int .i64 c) := rfl
theorem info3 : (Try.prog.info? 3).map (fun i => (i.zero, i.size, i.bytes)) = some (some (.int .i64 0), 1, 8) := by kernel_rfl
theorem info30 : (Try.prog.info? 30).map (fun i => (i.zero, i.size, i.bytes)) = some (some (.agg #[(.slice none 0 0), (.int .i64 0), (.slice none 0 0), (.slice none 0 0), (.slice none 0 0)]), 5, 104) := by kernel_rfl
structure S30 where
  f0 : (List Int)
  f1 : Int
  f2 : (List Int)
  f3 : (List Int)
  f4 : (List Int)
def z30 : S30 := ⟨([] : List Int), (0 : Int), ([] : List Int), ([] : List Int), ([] : List Int)⟩
def k30 : Kd S30 := Kd.iso (Kd.pair (Kd.slice 3 (Kd.int .i64)) (Kd.pair (Kd.int .i64) (Kd.pair (Kd.slice 3 (Kd.int .i64)) (Kd.pair (Kd.slice 3 (Kd.int .i64)) (Kd.slice 3 (Kd.int .i64)))))) (fun x : S30 => (x.f0, x.f1, x.f2, x.f3, x.f4))
theorem k30_open {w : World} {x : S30} {cs : List Value} (h : k30.K w x cs) : ∃ A0 c0 A2 c2 A3 c3 A4 c4, cs = [.slice A0 x.f0.length c0, .int .i64 x.f1, .slice A2 x.f2.length c2, .slice A3 x.f3.length c3, .slice A4 x.f4.length c4] ∧ x.f0.length ≤ c0 ∧ (Kd.int .i64).C w A0 x.f0.length x.f0 ∧ x.f2.length ≤ c2 ∧ (Kd.int .i64).C w A2 x.f2.length x.f2 ∧ x.f3.length ≤ c3 ∧ (Kd.int .i64).C w A3 x.f3.length x.f3 ∧ x.f4.length ≤ c4 ∧ (Kd.int .i64).C w A4 x.f4.length x.f4 := by
  obtain ⟨_, _, rfl, ⟨A0, c0, rfl, l0, g0⟩, ⟨_, _, rfl, rfl, ⟨_, _, rfl, ⟨A2, c2, rfl, l2, g2⟩, ⟨_, _, rfl, ⟨A3, c3, rfl, l3, g3⟩, ⟨A4, c4, rfl, l4, g4⟩⟩⟩⟩⟩ := h
  exact ⟨A0, c0, A2, c2, A3, c3, A4, c4, rfl, l0, g0, l2, g2, l3, g3, l4, g4⟩
theorem k30_openM {w : World} {base : Nat} {ok : Nat → Prop} {x : S30} {cs : List Value} (h : k30.M w base ok x cs) : ∃ v0 v2 v3 v4, cs = [v0, .int .i64 x.f1, v2, v3, v4] ∧ (Kd.int .i64).R 3 w base ok v0 x.f0 ∧ (Kd.int .i64).R 3 w base ok v2 x.f2 ∧ (Kd.int .i64).R 3 w base ok v3 x.f3 ∧ (Kd.int .i64).R 3 w base ok v4 x.f4 := by
  obtain ⟨_, _, rfl, ⟨v0, rfl, g0⟩, ⟨_, _, rfl, rfl, ⟨_, _, rfl, ⟨v2, rfl, g2⟩, ⟨_, _, rfl, ⟨v3, rfl, g3⟩, ⟨v4, rfl, g4⟩⟩⟩⟩⟩ := h
  exact ⟨v0, v2, v3, v4, rfl, g0, g2, g3, g4⟩
theorem k30_mk (w : World) (x : S30) {A0 : Option Addr} {c0 : Nat} (l0 : x.f0.length ≤ c0) (g0 : (Kd.int .i64).C w A0 x.f0.length x.f0) {A2 : Option Addr} {c2 : Nat} (l2 : x.f2.length ≤ c2) (g2 : (Kd.int .i64).C w A2 x.f2.length x.f2) {A3 : Option Addr} {c3 : Nat} (l3 : x.f3.length ≤ c3) (g3 : (Kd.int .i64).C w A3 x.f3.length x.f3) {A4 : Option Addr} {c4 : Nat} (l4 : x.f4.length ≤ c4) (g4 : (Kd.int .i64).C w A4 x.f4.length x.f4) : k30.K w x [.slice A0 x.f0.length c0, .int .i64 x.f1, .slice A2 x.f2.length c2, .slice A3 x.f3.length c3, .slice A4 x.f4.length c4] := ⟨[.slice A0 x.f0.length c0], [.int .i64 x.f1, .slice A2 x.f2.length c2, .slice A3 x.f3.length c3, .slice A4 x.f4.length c4], rfl, ⟨A0, c0, rfl, l0, g0⟩, ⟨[.int .i64 x.f1], [.slice A2 x.f2.length c2, .slice A3 x.f3.length c3, .slice A4 x.f4.length c4], rfl, rfl, ⟨[.slice A2 x.f2.length c2], [.slice A3 x.f3.length c3, .slice A4 x.f4.length c4], rfl, ⟨A2, c2, rfl, l2, g2⟩, ⟨[.slice A3 x.f3.length c3], [.slice A4 x.f4.length c4], rfl, ⟨A3, c3, rfl, l3, g3⟩, ⟨A4, c4, rfl, l4, g4⟩⟩⟩⟩⟩
theorem k30_mkM (w : World) (base : Nat) (ok : Nat → Prop) (x : S30) {v0 : Value} (g0 : (Kd.int .i64).R 3 w base ok v0 x.f0) {v2 : Value} (g2 : (Kd.int .i64).R 3 w base ok v2 x.f2) {v3 : Value} (g3 : (Kd.int .i64).R 3 w base ok v3 x.f3) {v4 : Value} (g4 : (Kd.int .i64).R 3 w base ok v4 x.f4) : k30.M w base ok x [v0, .int .i64 x.f1, v2, v3, v4] := ⟨[v0], [.int .i64 x.f1, v2, v3, v4], rfl, ⟨v0, rfl, g0⟩, ⟨[.int .i64 x.f1], [v2, v3, v4], rfl, rfl, ⟨[v2], [v3, v4], rfl, ⟨v2, rfl, g2⟩, ⟨[v3], [v4], rfl, ⟨v3, rfl, g3⟩, ⟨v4, rfl, g4⟩⟩⟩⟩⟩
theorem k30_mkF (W : World) (ok : Nat → Prop) (x : S30) {A0 : Option Addr} {c0 : Nat} (l0 : x.f0.length ≤ c0) (g0 : Kd.F (Kd.int .i64) W ok A0 x.f0.length x.f0) {A2 : Option Addr} {c2 : Nat} (l2 : x.f2.length ≤ c2) (g2 : Kd.F (Kd.int .i64) W ok A2 x.f2.length x.f2) {A3 : Option Addr} {c3 : Nat} (l3 : x.f3.length ≤ c3) (g3 : Kd.F (Kd.int .i64) W ok A3 x.f3.length x.f3) {A4 : Option Addr} {c4 : Nat} (l4 : x.f4.length ≤ c4) (g4 : Kd.F (Kd.int .i64) W ok A4 x.f4.length x.f4) : Kd.FK k30 W ok x [.slice A0 x.f0.length c0, .int .i64 x.f1, .slice A2 x.f2.length c2, .slice A3 x.f3.length c3, .slice A4 x.f4.length c4] := fun W2 hW => k30_mk W2 x l0 (g0 W2 hW) l2 (g2 W2 hW) l3 (g3 W2 hW) l4 (g4 W2 hW)
def rd_T30 (xs : List S30) (i : Int) : S30 := xs.getD i.toNat z30
theorem at_T30 {w : World} {A : Option Addr} {n : Nat} {xs : List S30} (h : Kd.C k30 w A n xs) (i : Int) (h0 : 0 ≤ i) (h1 : i < n) : ∃ ad A0 c0 A2 c2 A3 c3 A4 c4, A = some ad ∧ w.cell? (ad.add (i.toNat * 5)) = some (.slice A0 (rd_T30 xs i).f0.length c0) ∧ w.cell? ⟨(ad.add (i.toNat * 5)).block, (ad.add (i.toNat * 5)).off + 1, none⟩ = some (.int .i64 (rd_T30 xs i).f1) ∧ w.cell? ⟨(ad.add (i.toNat * 5)).block, (ad.add (i.toNat * 5)).off + 2, none⟩ = some (.slice A2 (rd_T30 xs i).f2.length c2) ∧ w.cell? ⟨(ad.add (i.toNat * 5)).block, (ad.add (i.toNat * 5)).off + 3, none⟩ = some (.slice A3 (rd_T30 xs i).f3.length c3) ∧ w.cell? ⟨(ad.add (i.toNat * 5)).block, (ad.add (i.toNat * 5)).off + 4, none⟩ = some (.slice A4 (rd_T30 xs i).f4.length c4) ∧ (rd_T30 xs i).f0.length ≤ c0 ∧ (Kd.int .i64).C w A0 (rd_T30 xs i).f0.length (rd_T30 xs i).f0 ∧ (rd_T30 xs i).f2.length ≤ c2 ∧ (Kd.int .i64).C w A2 (rd_T30 xs i).f2.length (rd_T30 xs i).f2 ∧ (rd_T30 xs i).f3.length ≤ c3 ∧ (Kd.int .i64).C w A3 (rd_T30 xs i).f3.length (rd_T30 xs i).f3 ∧ (rd_T30 xs i).f4.length ≤ c4 ∧ (Kd.int .i64).C w A4 (rd_T30 xs i).f4.length (rd_T30 xs i).f4 := by
  obtain ⟨ad, c, e, _, hK, hc0⟩ := Kd.C_get h z30 i h0 h1
  have hc : ∀ j u, c[j]? = some u → w.cell? (ad.add (i.toNat * 5 + j)) = some u := hc0
  obtain ⟨A0, c0, A2, c2, A3, c3, A4, c4, rfl, l0, g0, l2, g2, l3, g3, l4, g4⟩ := k30_open hK
  exact ⟨ad, A0, c0, A2, c2, A3, c3, A4, c4, e, hc 0 _ rfl, by rw [← add_field _ _ 1 (by omega)]; exact hc 1 _ rfl, by rw [← add_field _ _ 2 (by omega)]; exact hc 2 _ rfl, by rw [← add_field _ _ 3 (by omega)]; exact hc 3 _ rfl, by rw [← add_field _ _ 4 (by omega)]; exact hc 4 _ rfl, l0, g0, l2, g2, l3, g3, l4, g4⟩
structure S45 where
  f0 : (List Int)
  f1 : (List Int)
def cmp_isNaN_int.f (a0 : Int) : Option (Bool) := some (a0 != a0)
set_option maxHeartbeats 8000000 in
set_option maxRecDepth 100000 in
theorem cmp_isNaN_int.calls (a0 : Int) (r : Bool) (w : World) (h : cmp_isNaN_int.f a0 = some r) :
  Calls Try.prog 71 #[.int .i64 a0] w fun e w' => e = .returned (.bool r) ∧ Drawn0 w w' := by
 have H : (some (a0 != a0)) = some r := h
 clear h
 obtain rfl := Option.some.inj H
 go_enter Try.func71, Try.ntmps71
 go_wp2
 go_ret
 exact ⟨by first | rfl | (simp; done) | (simp [*]; done), by repeat (first | exact Drawn0.refl _ | apply Drawn0.step)⟩
def cmp_Compare_int.f (a0 : Int) (a1 : Int) : Option (Int) := (cmp_isNaN_int.f a0).bind fun t101 => ((cmp_isNaN_int.f a1).bind fun t102 => (if t101 = true then (if t102 = true then (some 0) else (some (-1))) else (if t102 = true then (some 1) else (if a0 < a1 then (some (-1)) else (if a0 > a1 then (some 1) else (some 0))))))
set_option maxHeartbeats 8000000 in
set_option maxRecDepth 100000 in
theorem cmp_Compare_int.calls (a0 : Int) (a1 : Int) (r : Int) (w : World) (h : cmp_Compare_int.f a0 a1 = some r) :
  Calls Try.prog 63 #[.int .i64 a0, .int .i64 a1] w fun e w' => e = .returned (.int .i64 r) ∧ Drawn0 w w' := by
 have H : ((cmp_isNaN_int.f a0).bind fun t101 => ((cmp_isNaN_int.f a1).bind fun t102 => (if t101 = true then (if t102 = true then (some 0) else (some (-1))) else (if t102 = true then (some 1) else (if a0 < a1 then (some (-1)) else (if a0 > a1 then (some 1) else (some 0))))))) = some r := h
 clear h
 replace H := Option.bind_eq_some_iff.mp H
 obtain ⟨t101, A30, H⟩ := H
 replace H : ((cmp_isNaN_int.f a1).bind fun t102 => (if t101 = true then (if t102 = true then (some 0) else (some (-1))) else (if t102 = true then (some 1) else (if a0 < a1 then (some (-1)) else (if a0 > a1 then (some 1) else (some 0)))))) = some r := H
 have A3 := am A30
 clear A30
 replace H := Option.bind_eq_some_iff.mp H
 obtain ⟨t102, A40, H⟩ := H
 replace H : (if t101 = true then (if t102 = true then (some 0) else (some (-1))) else (if t102 = true then (some 1) else (if a0 < a1 then (some (-1)) else (if a0 > a1 then (some 1) else (some 0))))) = some r := H
 have A4 := am A40
 clear A40
 by_cases c5 : t101 = true
 ·subst c5
  have H1 : (if t102 = true then (some 0) else (some (-1))) = some r := by rw [if_pos rfl] at H; exact H
  clear H
  have H := H1
  clear H1
  by_cases c6 : t102 = true
  ·subst c6
   have H1 : (some 0) = some r := by rw [if_pos rfl] at H; exact H
   clear H
   have H := H1
   clear H1
   obtain rfl := Option.some.inj H
   go_enter Try.func63, Try.ntmps63
   go_wp2_with (first | ((with_reducible refine gate_callee (f := 71) rfl ?_); refine goesL_ (some 8) rfl rfl Try.func71 (by kernel_rfl) rfl #[.int .i64 a0] rfl (by (try simp only [List.map_toArray, List.map_cons, List.map_nil]); first | done | rfl | (simp only [List.length_drop, List.length_take]; rfl)) ?_; (with_reducible refine (cmp_isNaN_int.calls a0 true _ A3.out).mono ?_); rintro e w' ⟨rfl, ⟨nd, rfl⟩⟩; refine ⟨_, rfl, ?_⟩) | ((with_reducible refine gate_callee (f := 71) rfl ?_); refine goesL_ (some 10) rfl rfl Try.func71 (by kernel_rfl) rfl #[.int .i64 a1] rfl (by (try simp only [List.map_toArray, List.map_cons, List.map_nil]); first | done | rfl | (simp only [List.length_drop, List.length_take]; rfl)) ?_; (with_reducible refine (cmp_isNaN_int.calls a1 true _ A4.out).mono ?_); rintro e w' ⟨rfl, ⟨nd, rfl⟩⟩; refine ⟨_, rfl, ?_⟩))
   go_ret
   exact ⟨by first | rfl | (simp; done) | (simp [*]; done), by repeat (first | exact Drawn0.refl _ | apply Drawn0.step)⟩
  ·replace c6 := Bool.eq_false_iff.mpr c6
   subst c6
   have H1 : (some (-1)) = some r := by rw [if_neg (show ¬ (false = true) by decide)] at H; exact H
   clear H
   have H := H1
   clear H1
   obtain rfl := Option.some.inj H
   go_enter Try.func63, Try.ntmps63
   go_wp2_with (first | ((with_reducible refine gate_callee (f := 71) rfl ?_); refine goesL_ (some 8) rfl rfl Try.func71 (by kernel_rfl) rfl #[.int .i64 a0] rfl (by (try simp only [List.map_toArray, List.map_cons, List.map_nil]); first | done | rfl | (simp only [List.length_drop, List.length_take]; rfl)) ?_; (with_reducible refine (cmp_isNaN_int.calls a0 true _ A3.out).mono ?_); rintro e w' ⟨rfl, ⟨nd, rfl⟩⟩; refine ⟨_, rfl, ?_⟩) | ((with_reducible refine gate_callee (f := 71) rfl ?_); refine goesL_ (some 10) rfl rfl Try.func71 (by kernel_rfl) rfl #[.int .i64 a1] rfl (by (try simp only [List.map_toArray, List.map_cons, List.map_nil]); first | done | rfl | (simp only [List.length_drop, List.length_take]; rfl)) ?_; (with_reducible refine (cmp_isNaN_int.calls a1 false _ A4.out).mono ?_); rintro e w' ⟨rfl, ⟨nd, rfl⟩⟩; refine ⟨_, rfl, ?_⟩))
   go_ret
   exact ⟨by first | rfl | (simp; done) | (simp [*]; done), by repeat (first | exact Drawn0.refl _ | apply Drawn0.step)⟩
 ·replace c5 := Bool.eq_false_iff.mpr c5
  subst c5
  have H1 : (if t102 = true then (some 1) else (if a0 < a1 then (some (-1)) else (if a0 > a1 then (some 1) else (some 0)))) = some r := by rw [if_neg (show ¬ (false = true) by decide)] at H; exact H
  clear H
  have H := H1
  clear H1
  by_cases c7 : t102 = true
  ·subst c7
   have H1 : (some 1) = some r := by rw [if_pos rfl] at H; exact H
   clear H
   have H := H1
   clear H1
   obtain rfl := Option.some.inj H
   go_enter Try.func63, Try.ntmps63
   go_wp2_with (first | ((with_reducible refine gate_callee (f := 71) rfl ?_); refine goesL_ (some 8) rfl rfl Try.func71 (by kernel_rfl) rfl #[.int .i64 a0] rfl (by (try simp only [List.map_toArray, List.map_cons, List.map_nil]); first | done | rfl | (simp only [List.length_drop, List.length_take]; rfl)) ?_; (with_reducible refine (cmp_isNaN_int.calls a0 false _ A3.out).mono ?_); rintro e w' ⟨rfl, ⟨nd, rfl⟩⟩; refine ⟨_, rfl, ?_⟩) | ((with_reducible refine gate_callee (f := 71) rfl ?_); refine goesL_ (some 10) rfl rfl Try.func71 (by kernel_rfl) rfl #[.int .i64 a1] rfl (by (try simp only [List.map_toArray, List.map_cons, List.map_nil]); first | done | rfl | (simp only [List.length_drop, List.length_take]; rfl)) ?_; (with_reducible refine (cmp_isNaN_int.calls a1 true _ A4.out).mono ?_); rintro e w' ⟨rfl, ⟨nd, rfl⟩⟩; refine ⟨_, rfl, ?_⟩))
   go_ret
   exact ⟨by first | rfl | (simp; done) | (simp [*]; done), by repeat (first | exact Drawn0.refl _ | apply Drawn0.step)⟩
  ·replace c7 := Bool.eq_false_iff.mpr c7
   subst c7
   have H1 : (if a0 < a1 then (some (-1)) else (if a0 > a1 then (some 1) else (some 0))) = some r := by rw [if_neg (show ¬ (false = true) by decide)] at H; exact H
   clear H
   have H := H1
   clear H1
   by_cases c8 : a0 < a1
   ·rw [if_pos c8] at H
    have c8b0 : decide (a0 < a1) = true := decide_eq_true c8
    clear c8
    obtain rfl := Option.some.inj H
    go_enter Try.func63, Try.ntmps63
    go_wp2_with (first | ((with_reducible refine gate_callee (f := 71) rfl ?_); refine goesL_ (some 8) rfl rfl Try.func71 (by kernel_rfl) rfl #[.int .i64 a0] rfl (by (try simp only [List.map_toArray, List.map_cons, List.map_nil]); first | done | rfl | (simp only [List.length_drop, List.length_take]; rfl)) ?_; (with_reducible refine (cmp_isNaN_int.calls a0 false _ A3.out).mono ?_); rintro e w' ⟨rfl, ⟨nd, rfl⟩⟩; refine ⟨_, rfl, ?_⟩) | ((with_reducible refine gate_callee (f := 71) rfl ?_); refine goesL_ (some 10) rfl rfl Try.func71 (by kernel_rfl) rfl #[.int .i64 a1] rfl (by (try simp only [List.map_toArray, List.map_cons, List.map_nil]); first | done | rfl | (simp only [List.length_drop, List.length_take]; rfl)) ?_; (with_reducible refine (cmp_isNaN_int.calls a1 false _ A4.out).mono ?_); rintro e w' ⟨rfl, ⟨nd, rfl⟩⟩; refine ⟨_, rfl, ?_⟩))
    go_ret
    exact ⟨by first | rfl | (simp; done) | (simp [*]; done), by repeat (first | exact Drawn0.refl _ | apply Drawn0.step)⟩
   ·rw [if_neg c8] at H
    have c8b0 : decide (a0 < a1) = false := decide_eq_false c8
    clear c8
    by_cases c9 : a0 > a1
    ·rw [if_pos c9] at H
     have c9b0 : decide (a1 < a0) = true := decide_eq_true c9
     clear c9
     obtain rfl := Option.some.inj H
     go_enter Try.func63, Try.ntmps63
     go_wp2_with (first | ((with_reducible refine gate_callee (f := 71) rfl ?_); refine goesL_ (some 8) rfl rfl Try.func71 (by kernel_rfl) rfl #[.int .i64 a0] rfl (by (try simp only [List.map_toArray, List.map_cons, List.map_nil]); first | done | rfl | (simp only [List.length_drop, List.length_take]; rfl)) ?_; (with_reducible refine (cmp_isNaN_int.calls a0 false _ A3.out).mono ?_); rintro e w' ⟨rfl, ⟨nd, rfl⟩⟩; refine ⟨_, rfl, ?_⟩) | ((with_reducible refine gate_callee (f := 71) rfl ?_); refine goesL_ (some 10) rfl rfl Try.func71 (by kernel_rfl) rfl #[.int .i64 a1] rfl (by (try simp only [List.map_toArray, List.map_cons, List.map_nil]); first | done | rfl | (simp only [List.length_drop, List.length_take]; rfl)) ?_; (with_reducible refine (cmp_isNaN_int.calls a1 false _ A4.out).mono ?_); rintro e w' ⟨rfl, ⟨nd, rfl⟩⟩; refine ⟨_, rfl, ?_⟩))
     go_ret
     exact ⟨by first | rfl | (simp; done) | (simp [*]; done), by repeat (first | exact Drawn0.refl _ | apply Drawn0.step)⟩
    ·rw [if_neg c9] at H
     have c9b0 : decide (a1 < a0) = false := decide_eq_false c9
     clear c9
     obtain rfl := Option.some.inj H
     go_enter Try.func63, Try.ntmps63
     go_wp2_with (first | ((with_reducible refine gate_callee (f := 71) rfl ?_); refine goesL_ (some 8) rfl rfl Try.func71 (by kernel_rfl) rfl #[.int .i64 a0] rfl (by (try simp only [List.map_toArray, List.map_cons, List.map_nil]); first | done | rfl | (simp only [List.length_drop, List.length_take]; rfl)) ?_; (with_reducible refine (cmp_isNaN_int.calls a0 false _ A3.out).mono ?_); rintro e w' ⟨rfl, ⟨nd, rfl⟩⟩; refine ⟨_, rfl, ?_⟩) | ((with_reducible refine gate_callee (f := 71) rfl ?_); refine goesL_ (some 10) rfl rfl Try.func71 (by kernel_rfl) rfl #[.int .i64 a1] rfl (by (try simp only [List.map_toArray, List.map_cons, List.map_nil]); first | done | rfl | (simp only [List.length_drop, List.length_take]; rfl)) ?_; (with_reducible refine (cmp_isNaN_int.calls a1 false _ A4.out).mono ?_); rintro e w' ⟨rfl, ⟨nd, rfl⟩⟩; refine ⟨_, rfl, ?_⟩))
     go_ret
     exact ⟨by first | rfl | (simp; done) | (simp [*]; done), by repeat (first | exact Drawn0.refl _ | apply Drawn0.step)⟩
def slices_Compare_int_int.l0 : Nat → List Int → List Int → List Int → Int → Int → Option (Int)
 | 0, _, _, _, _, _ => none
 | k + 1, x0, x1, x9, x10, x11 => if x11 < x10 then (if 0 ≤ x11 then (if x11 < (x9.length : Int) then (if x11 ≥ (x1.length : Int) then (some 1) else (if x11 < (x1.length : Int) then ((cmp_Compare_int.f (rd x9 x11) (rd x1 x11)).bind fun t105 => (if t105 = 0 then (slices_Compare_int_int.l0 k x0 x1 x9 x10 (wrap64 (x11 + 1))) else (some t105))) else (none))) else (none)) else (none)) else (if (x0.length : Int) < (x1.length : Int) then (some (-1)) else (some 0))
def slices_Compare_int_int.f (k : Nat) (l0 : List Int) (l1 : List Int) : Option (Int) := slices_Compare_int_int.l0 k l0 l1 l0 (l0.length : Int) 0
set_option maxHeartbeats 8000000 in
set_option maxRecDepth 100000 in
theorem slices_Compare_int_int.calls (k : Nat) (A0 : Option Addr) (c0 : Nat) (l0 : List Int) (A1 : Option Addr) (c1 : Nat) (l1 : List Int) (r : Int) (w : World) (hr0 : Kd.C (Kd.int .i64) w A0 l0.length l0) (hc0 : l0.length ≤ c0) (hr1 : Kd.C (Kd.int .i64) w A1 l1.length l1) (hc1 : l1.length ≤ c1) (h : slices_Compare_int_int.f k l0 l1 = some r) :
  Calls Try.prog 39 #[.slice A0 l0.length c0, .slice A1 l1.length c1] w fun e w' => e = .returned (.int .i64 r) ∧ Drawn0 w w' := by
 have HR0 := am hr0
 have HC0 := am hc0
 clear hr0 hc0
 have HR1 := am hr1
 have HC1 := am hc1
 clear hr1 hc1
 have H : (slices_Compare_int_int.l0 k l0 l1 l0 (l0.length : Int) 0) = some r := h
 clear h
 have H' := am H
 clear H
 go_enter Try.func39, Try.ntmps39
 go_wp2
 go_loopg [11] k (fun kq v11 w' => ∃ (x11_1 : Int), v11 = .int .i64 x11_1 ∧ Aside0 (slices_Compare_int_int.l0 kq l0 l1 l0 (l0.length : Int) x11_1 = some r) ∧ Aside0 (kq ≤ k) ∧ Drawn0 w w')
 case atStart => exact ⟨(0), (by first | rfl | (simp; done) | (simp [*]; done)), H', ⟨Nat.le_refl _⟩, by repeat (first | exact Drawn0.refl _ | apply Drawn0.step)⟩
 case round =>
  clear H'
  try clear c1
  try clear p2
  obtain ⟨x11_1, rfl, HA, HK1, ⟨m1, rfl⟩⟩ := hrel
  cases gk with
  | zero => exact absurd HA.out (by simp [slices_Compare_int_int.l0])
  | succ k1 =>
   have H := HA.out
   clear HA
   simp only [slices_Compare_int_int.l0] at H
   by_cases c3 : x11_1 < (l0.length : Int)
   ·rw [if_pos c3] at H
    have c3b0 : decide (x11_1 < (l0.length : Int)) = true := decide_eq_true c3
    clear c3
    by_cases c4 : 0 ≤ x11_1
    ·rw [if_pos c4] at H
     have c4b0 : decide (0 ≤ x11_1) = true := decide_eq_true c4
     clear c4
     by_cases c5 : x11_1 < (l0.length : Int)
     ·rw [if_pos c5] at H
      have c5b0 : decide (x11_1 < (l0.length : Int)) = true := decide_eq_true c5
      clear c5
      by_cases c6 : x11_1 ≥ (l1.length : Int)
      ·rw [if_pos c6] at H
       have c6b0 : decide ((l1.length : Int) ≤ x11_1) = true := decide_eq_true c6
       clear c6
       obtain rfl := Option.some.inj H
       have p103 : 0 ≤ (x11_1 : Int) := of_decide_eq_true (by first | (with_reducible assumption) | assumption)
       have q103 : x11_1 < (l0.length : Int) := of_decide_eq_true (by first | (with_reducible assumption) | assumption)
       obtain ⟨ad103, e103, hx103_0⟩ := Kd.at_int HR0.out x11_1 p103 q103
       cases e103
       replace p103 := eq_true p103
       replace q103 := eq_true q103
       go_wp2
       go_ret
       exact ⟨by first | rfl | (simp; done) | (simp [*]; done), by repeat (first | exact Drawn0.refl _ | apply Drawn0.step)⟩
      ·rw [if_neg c6] at H
       have c6b0 : decide ((l1.length : Int) ≤ x11_1) = false := decide_eq_false c6
       clear c6
       by_cases c7 : x11_1 < (l1.length : Int)
       ·rw [if_pos c7] at H
        have c7b0 : decide (x11_1 < (l1.length : Int)) = true := decide_eq_true c7
        clear c7
        replace H := Option.bind_eq_some_iff.mp H
        obtain ⟨t105, A80, H⟩ := H
        replace H : (if t105 = 0 then (slices_Compare_int_int.l0 k1 l0 l1 l0 (l0.length : Int) (wrap64 (x11_1 + 1))) else (some t105)) = some r := H
        have A8 := am A80
        clear A80
        by_cases c9 : t105 = 0
        ·rw [if_pos c9] at H
         have c9b0 : (t105 == 0) = true := beq_iff_eq.mpr c9
         have c9b1 : (t105 != 0) = false := bne_eq_false_iff_eq.mpr c9
         clear c9
         have H' := am H
         clear H
         have p103 : 0 ≤ (x11_1 : Int) := of_decide_eq_true (by first | (with_reducible assumption) | assumption)
         have q103 : x11_1 < (l0.length : Int) := of_decide_eq_true (by first | (with_reducible assumption) | assumption)
         obtain ⟨ad103, e103, hx103_0⟩ := Kd.at_int HR0.out x11_1 p103 q103
         cases e103
         replace p103 := eq_true p103
         replace q103 := eq_true q103
         have p104 : 0 ≤ (x11_1 : Int) := of_decide_eq_true (by first | (with_reducible assumption) | assumption)
         have q104 : x11_1 < (l1.length : Int) := of_decide_eq_true (by first | (with_reducible assumption) | assumption)
         obtain ⟨ad104, e104, hx104_0⟩ := Kd.at_int HR1.out x11_1 p104 q104
         cases e104
         replace p104 := eq_true p104
         replace q104 := eq_true q104
         go_wp2_with (first | ((with_reducible refine gate_callee (f := 63) rfl ?_); refine goesL_ (some 26) rfl rfl Try.func63 (by kernel_rfl) rfl #[.int .i64 (rd l0 x11_1), .int .i64 (rd l1 x11_1)] rfl (by (try simp only [List.map_toArray, List.map_cons, List.map_nil]); first | done | rfl | (simp only [List.length_drop, List.length_take]; rfl)) ?_; (with_reducible refine (cmp_Compare_int.calls (rd l0 x11_1) (rd l1 x11_1) t105 _ A8.out).mono ?_); rintro e w' ⟨rfl, ⟨nd, rfl⟩⟩; refine ⟨_, rfl, ?_⟩))
         go_roundg k1
         case measure => have := HK1.out; omega
         case rel => exact ⟨(wrap64 (x11_1 + 1)), (by first | rfl | (simp; done) | (simp [*]; done)), H', ⟨by have := HK1.out; omega⟩, by repeat (first | exact Drawn0.refl _ | apply Drawn0.step)⟩
        ·rw [if_neg c9] at H
         have c9b0 : (t105 == 0) = false := beq_eq_false_iff_ne.mpr c9
         have c9b1 : (t105 != 0) = true := bne_iff_ne.mpr c9
         obtain rfl := Option.some.inj H
         have p103 : 0 ≤ (x11_1 : Int) := of_decide_eq_true (by first | (with_reducible assumption) | assumption)
         have q103 : x11_1 < (l0.length : Int) := of_decide_eq_true (by first | (with_reducible assumption) | assumption)
         obtain ⟨ad103, e103, hx103_0⟩ := Kd.at_int HR0.out x11_1 p103 q103
         cases e103
         replace p103 := eq_true p103
         replace q103 := eq_true q103
         have p104 : 0 ≤ (x11_1 : Int) := of_decide_eq_true (by first | (with_reducible assumption) | assumption)
         have q104 : x11_1 < (l1.length : Int) := of_decide_eq_true (by first | (with_reducible assumption) | assumption)
         obtain ⟨ad104, e104, hx104_0⟩ := Kd.at_int HR1.out x11_1 p104 q104
         cases e104
         replace p104 := eq_true p104
         replace q104 := eq_true q104
         go_wp2_with (first | ((with_reducible refine gate_callee (f := 63) rfl ?_); refine goesL_ (some 26) rfl rfl Try.func63 (by kernel_rfl) rfl #[.int .i64 (rd l0 x11_1), .int .i64 (rd l1 x11_1)] rfl (by (try simp only [List.map_toArray, List.map_cons, List.map_nil]); first | done | rfl | (simp only [List.length_drop, List.length_take]; rfl)) ?_; (with_reducible refine (cmp_Compare_int.calls (rd l0 x11_1) (rd l1 x11_1) t105 _ A8.out).mono ?_); rintro e w' ⟨rfl, ⟨nd, rfl⟩⟩; refine ⟨_, rfl, ?_⟩))
         go_ret
         exact ⟨by first | rfl | (simp; done) | (simp [*]; done), by repeat (first | exact Drawn0.refl _ | apply Drawn0.step)⟩
       ·rw [if_neg c7] at H
        exact absurd H (by simp)
     ·rw [if_neg c5] at H
      exact absurd H (by simp)
    ·rw [if_neg c4] at H
     exact absurd H (by simp)
   ·rw [if_neg c3] at H
    have c3b0 : decide (x11_1 < (l0.length : Int)) = false := decide_eq_false c3
    clear c3
    by_cases c10 : (l0.length : Int) < (l1.length : Int)
    ·rw [if_pos c10] at H
     have c10b0 : decide ((l0.length : Int) < (l1.length : Int)) = true := decide_eq_true c10
     have c10b1 : decide (l0.length < l1.length) = true := decide_eq_true (Int.ofNat_lt.mp c10)
     clear c10
     obtain rfl := Option.some.inj H
     go_wp2
     go_ret
     exact ⟨by first | rfl | (simp; done) | (simp [*]; done), by repeat (first | exact Drawn0.refl _ | apply Drawn0.step)⟩
    ·rw [if_neg c10] at H
     have c10b0 : decide ((l0.length : Int) < (l1.length : Int)) = false := decide_eq_false c10
     have c10b1 : decide (l0.length < l1.length) = false := decide_eq_false (fun h => c10 (Int.ofNat_lt.mpr h))
     clear c10
     obtain rfl := Option.some.inj H
     go_wp2
     go_ret
     exact ⟨by first | rfl | (simp; done) | (simp [*]; done), by repeat (first | exact Drawn0.refl _ | apply Drawn0.step)⟩
def cell_Less.f (k : Nat) (l0 : List Int) (l1 : List Int) : Option (Int) := (slices_Compare_int_int.f k l0 l1).bind fun t106 => (some t106)
set_option maxHeartbeats 8000000 in
set_option maxRecDepth 100000 in
theorem cell_Less.calls (k : Nat) (A0 : Option Addr) (c0 : Nat) (l0 : List Int) (A1 : Option Addr) (c1 : Nat) (l1 : List Int) (r : Int) (w : World) (hr0 : Kd.C (Kd.int .i64) w A0 l0.length l0) (hc0 : l0.length ≤ c0) (hr1 : Kd.C (Kd.int .i64) w A1 l1.length l1) (hc1 : l1.length ≤ c1) (h : cell_Less.f k l0 l1 = some r) :
  Calls Try.prog 17 #[.slice A0 l0.length c0, .slice A1 l1.length c1] w fun e w' => e = .returned (.int .i64 r) ∧ Drawn0 w w' := by
 have HR0 := am hr0
 have HC0 := am hc0
 clear hr0 hc0
 have HR1 := am hr1
 have HC1 := am hc1
 clear hr1 hc1
 have H : ((slices_Compare_int_int.f k l0 l1).bind fun t106 => (some t106)) = some r := h
 clear h
 replace H := Option.bind_eq_some_iff.mp H
 obtain ⟨t106, A30, H⟩ := H
 replace H : (some t106) = some r := H
 have A3 := am A30
 clear A30
 obtain rfl := Option.some.inj H
 go_enter Try.func17, Try.ntmps17
 go_wp2_with (first | ((with_reducible refine gate_callee (f := 39) rfl ?_); refine goesL_ (some 7) rfl rfl Try.func39 (by kernel_rfl) rfl #[.slice A0 l0.length c0, .slice A1 l1.length c1] rfl (by (try simp only [List.map_toArray, List.map_cons, List.map_nil]); first | done | rfl | (simp only [List.length_drop, List.length_take]; rfl)) ?_; (with_reducible refine (slices_Compare_int_int.calls k _ _ l0 _ _ l1 t106 _ ?side1 ?side2 ?side3 ?side4 A3.out).mono ?_); (case side1 => repeat (first | exact HR0.out | (with_reducible refine Kd.C_alloc ?_ _) | (with_reducible refine Kd.C_drewN ?_ _) | (with_reducible refine Kd.C_drew ?_))); (case side2 => exact HC0.out); (case side3 => repeat (first | exact HR1.out | (with_reducible refine Kd.C_alloc ?_ _) | (with_reducible refine Kd.C_drewN ?_ _) | (with_reducible refine Kd.C_drew ?_))); (case side4 => exact HC1.out); rintro e w' ⟨rfl, ⟨nd, rfl⟩⟩; refine ⟨_, rfl, ?_⟩))
 go_ret
 exact ⟨by first | rfl | (simp; done) | (simp [*]; done), by repeat (first | exact Drawn0.refl _ | apply Drawn0.step)⟩
def hypercuberef2_Join.l0 : Nat → Int → List Int → Int → List Int → List Int → List Int → List Int → Int → List Int → List Int → List Int → List Int → Int → List Int → List Int → List Int → Option (List Int × Int × List Int × List Int × List Int)
 | 0, _, _, _, _, _, _, _, _, _, _, _, _, _, _, _, _ => none
 | k + 1, x6, x605000, x605001, x605002, x605003, x605004, x606000, x606001, x606002, x606003, x606004, x614000, x614001, x614002, x614003, x614004 => if x6 < (x605002.length : Int) then (if 0 ≤ x6 then (if x6 < (x606002.length : Int) then (if x614002.length < 17592186044416 then (if x6 < (x605003.length : Int) then (if x6 < (x606003.length : Int) then (if x614003.length < 17592186044416 then (if x6 < (x605004.length : Int) then (if x6 < (x606004.length : Int) then (if x614004.length < 17592186044416 then (hypercuberef2_Join.l0 k (wrap64 (x6 + 1)) x605000 x605001 x605002 x605003 x605004 x606000 x606001 x606002 x606003 x606004 x614000 x614001 (x614002 ++ [wrap64 ((rd x605002 x6) + (rd x606002 x6))]) (x614003 ++ [mn (rd x605003 x6) (rd x606003 x6)]) (x614004 ++ [mx (rd x605004 x6) (rd x606004 x6)])) else (none)) else (none)) else (none)) else (none)) else (none)) else (none)) else (none)) else (none)) else (none)) else (some (x614000, x614001, x614002, x614003, x614004))
def hypercuberef2_Join.f (k : Nat) (l0_0 : List Int) (a0_1 : Int) (l0_2 : List Int) (l0_3 : List Int) (l0_4 : List Int) (l1_0 : List Int) (a1_1 : Int) (l1_2 : List Int) (l1_3 : List Int) (l1_4 : List Int) : Option (List Int × Int × List Int × List Int × List Int) := (some (([] : List Int) : List Int)).bind fun y607 => (if y607.length + l0_0.length < 17592186044416 then (hypercuberef2_Join.l0 k 0 l0_0 a0_1 l0_2 l0_3 l0_4 l1_0 a1_1 l1_2 l1_3 l1_4 (y607 ++ l0_0) (wrap64 (a0_1 + a1_1)) ([] : List Int) ([] : List Int) ([] : List Int)) else (none))
def hypercuberef2_Join.T1 : Bool × List (List Nat × List Nat) := (true, [([], []), ([], []), ([1], [1]), ([0, 2], [0, 2]), ([], []), ([4], [4]), ([], []), ([6], [6]), ([5, 7], [5, 7]), ([3, 8], [3, 8]), ([], []), ([10, 9, 3, 0, 1, 2, 3, 4, 5, 6, 7, 8, 9, 10], [9, 10])])
def hypercuberef2_Join.B1 : List Nat := [0, 0, 2, 7, 0, 16, 0, 64, 240, 511, 0, 2047]
theorem hypercuberef2_Join.tab1 : rtab .any (opsOf Try.f33 1) = hypercuberef2_Join.T1 := by kernel_rfl
theorem hypercuberef2_Join.bits1 : waitsOk hypercuberef2_Join.T1.2 hypercuberef2_Join.B1 = true := by kernel_rfl
def hypercuberef2_Join.T5 : Bool × List (List Nat × List Nat) := (true, [([], []), ([0], [0]), ([], []), ([2], [2]), ([], []), ([3, 4], [3, 4]), ([5], [5]), ([], []), ([7], [7]), ([], []), ([8, 9], [8, 9]), ([10], [10]), ([6, 11], [6, 11]), ([12], [12]), ([1, 13], [1, 13]), ([0, 1, 2, 3, 4, 5, 6, 7, 8, 9, 10, 11, 12, 13, 14], []), ([15, 14, 14, 0, 1, 2, 3, 4, 5, 6, 7, 8, 9, 10, 11, 12, 13, 14], [14, 15])])
def hypercuberef2_Join.B5 : List Nat := [0, 1, 0, 4, 0, 28, 60, 0, 128, 0, 896, 1920, 4092, 8188, 16383, 32767, 65535]
theorem hypercuberef2_Join.tab5 : rtab .any (opsOf Try.f33 5) = hypercuberef2_Join.T5 := by kernel_rfl
theorem hypercuberef2_Join.bits5 : waitsOk hypercuberef2_Join.T5.2 hypercuberef2_Join.B5 = true := by kernel_rfl
def hypercuberef2_Join.T6 : Bool × List (List Nat × List Nat) := (true, [([], []), ([0], [0]), ([], []), ([2], [2]), ([], []), ([3, 4], [3, 4]), ([5], [5]), ([], []), ([7], [7]), ([], []), ([8, 9], [8, 9]), ([10], [10]), ([6, 11], [6, 11]), ([12], [12]), ([1, 13], [1, 13]), ([0, 1, 2, 3, 4, 5, 6, 7, 8, 9, 10, 11, 12, 13, 14], []), ([15, 14, 14, 0, 1, 2, 3, 4, 5, 6, 7, 8, 9, 10, 11, 12, 13, 14], [14, 15])])
def hypercuberef2_Join.B6 : List Nat := [0, 1, 0, 4, 0, 28, 60, 0, 128, 0, 896, 1920, 4092, 8188, 16383, 32767, 65535]
theorem hypercuberef2_Join.tab6 : rtab .any (opsOf Try.f33 6) = hypercuberef2_Join.T6 := by kernel_rfl
theorem hypercuberef2_Join.bits6 : waitsOk hypercuberef2_Join.T6.2 hypercuberef2_Join.B6 = true := by kernel_rfl
def hypercuberef2_Join.T7 : Bool × List (List Nat × List Nat) := (true, [([], []), ([0], [0]), ([], []), ([2], [2]), ([], []), ([3, 4], [3, 4]), ([5], [5]), ([], []), ([7], [7]), ([], []), ([8, 9], [8, 9]), ([10], [10]), ([6, 11], [6, 11]), ([12], [12]), ([1, 13], [1, 13]), ([0, 1, 2, 3, 4, 5, 6, 7, 8, 9, 10, 11, 12, 13, 14], []), ([15, 14, 14, 0, 1, 2, 3, 4, 5, 6, 7, 8, 9, 10, 11, 12, 13, 14], [14, 15])])
def hypercuberef2_Join.B7 : List Nat := [0, 1, 0, 4, 0, 28, 60, 0, 128, 0, 896, 1920, 4092, 8188, 16383, 32767, 65535]
theorem hypercuberef2_Join.tab7 : rtab .any (opsOf Try.f33 7) = hypercuberef2_Join.T7 := by kernel_rfl
theorem hypercuberef2_Join.bits7 : waitsOk hypercuberef2_Join.T7.2 hypercuberef2_Join.B7 = true := by kernel_rfl
set_option maxHeartbeats 8000000 in
set_option maxRecDepth 100000 in
theorem hypercuberef2_Join.calls (k : Nat) (A0_0 : Option Addr) (c0_0 : Nat) (l0_0 : List Int) (a0_1 : Int) (A0_2 : Option Addr) (c0_2 : Nat) (l0_2 : List Int) (A0_3 : Option Addr) (c0_3 : Nat) (l0_3 : List Int) (A0_4 : Option Addr) (c0_4 : Nat) (l0_4 : List Int) (A1_0 : Option Addr) (c1_0 : Nat) (l1_0 : List Int) (a1_1 : Int) (A1_2 : Option Addr) (c1_2 : Nat) (l1_2 : List Int) (A1_3 : Option Addr) (c1_3 : Nat) (l1_3 : List Int) (A1_4 : Option Addr) (c1_4 : Nat) (l1_4 : List Int) (r1 : List Int) (r2 : Int) (r3 : List Int) (r4 : List Int) (r5 : List Int) (w : World) (hr0_0 : Kd.C (Kd.int .i64) w A0_0 l0_0.length l0_0) (hc0_0 : l0_0.length ≤ c0_0) (hr0_2 : Kd.C (Kd.int .i64) w A0_2 l0_2.length l0_2) (hc0_2 : l0_2.length ≤ c0_2) (hr0_3 : Kd.C (Kd.int .i64) w A0_3 l0_3.length l0_3) (hc0_3 : l0_3.length ≤ c0_3) (hr0_4 : Kd.C (Kd.int .i64) w A0_4 l0_4.length l0_4) (hc0_4 : l0_4.length ≤ c0_4) (hr1_0 : Kd.C (Kd.int .i64) w A1_0 l1_0.length l1_0) (hc1_0 : l1_0.length ≤ c1_0) (hr1_2 : Kd.C (Kd.int .i64) w A1_2 l1_2.length l1_2) (hc1_2 : l1_2.length ≤ c1_2) (hr1_3 : Kd.C (Kd.int .i64) w A1_3 l1_3.length l1_3) (hc1_3 : l1_3.length ≤ c1_3) (hr1_4 : Kd.C (Kd.int .i64) w A1_4 l1_4.length l1_4) (hc1_4 : l1_4.length ≤ c1_4) (h : hypercuberef2_Join.f k l0_0 a0_1 l0_2 l0_3 l0_4 l1_0 a1_1 l1_2 l1_3 l1_4 = some (r1, r2, r3, r4, r5)) :
  Calls Try.prog 33 #[.agg #[.slice A0_0 l0_0.length c0_0, .int .i64 a0_1, .slice A0_2 l0_2.length c0_2, .slice A0_3 l0_3.length c0_3, .slice A0_4 l0_4.length c0_4], .agg #[.slice A1_0 l1_0.length c1_0, .int .i64 a1_1, .slice A1_2 l1_2.length c1_2, .slice A1_3 l1_3.length c1_3, .slice A1_4 l1_4.length c1_4]] w fun e w' => ∃ v0_ v2_ v3_ v4_ : Value, e = .returned (.agg #[v0_, .int .i64 r2, v2_, v3_, v4_]) ∧ Kd.R (Kd.int .i64) 3 w' w.heap.size (fun k_ => some k_ ≠ (v2_ : Value).ownBlock ∧ some k_ ≠ (v3_ : Value).ownBlock ∧ some k_ ≠ (v4_ : Value).ownBlock) v0_ r1 ∧ Kd.R (Kd.int .i64) 3 w' w.heap.size (fun k_ => some k_ ≠ (v0_ : Value).ownBlock ∧ some k_ ≠ (v3_ : Value).ownBlock ∧ some k_ ≠ (v4_ : Value).ownBlock) v2_ r3 ∧ Kd.R (Kd.int .i64) 3 w' w.heap.size (fun k_ => some k_ ≠ (v0_ : Value).ownBlock ∧ some k_ ≠ (v2_ : Value).ownBlock ∧ some k_ ≠ (v4_ : Value).ownBlock) v3_ r4 ∧ Kd.R (Kd.int .i64) 3 w' w.heap.size (fun k_ => some k_ ≠ (v0_ : Value).ownBlock ∧ some k_ ≠ (v2_ : Value).ownBlock ∧ some k_ ≠ (v3_ : Value).ownBlock) v4_ r5 ∧ Below w.heap.size w w' := by
 have hu30 := Try.underlying30
 have HR0_0 := am hr0_0
 have HC0_0 := am hc0_0
 clear hr0_0 hc0_0
 have HR0_2 := am hr0_2
 have HC0_2 := am hc0_2
 clear hr0_2 hc0_2
 have HR0_3 := am hr0_3
 have HC0_3 := am hc0_3
 clear hr0_3 hc0_3
 have HR0_4 := am hr0_4
 have HC0_4 := am hc0_4
 clear hr0_4 hc0_4
 have HR1_0 := am hr1_0
 have HC1_0 := am hc1_0
 clear hr1_0 hc1_0
 have HR1_2 := am hr1_2
 have HC1_2 := am hc1_2
 clear hr1_2 hc1_2
 have HR1_3 := am hr1_3
 have HC1_3 := am hc1_3
 clear hr1_3 hc1_3
 have HR1_4 := am hr1_4
 have HC1_4 := am hc1_4
 clear hr1_4 hc1_4
 have HB := am (Below.refl w.heap.size w)
 have H : ((some (([] : List Int) : List Int)).bind fun y607 => (if y607.length + l0_0.length < 17592186044416 then (hypercuberef2_Join.l0 k 0 l0_0 a0_1 l0_2 l0_3 l0_4 l1_0 a1_1 l1_2 l1_3 l1_4 (y607 ++ l0_0) (wrap64 (a0_1 + a1_1)) ([] : List Int) ([] : List Int) ([] : List Int)) else (none))) = some (r1, r2, r3, r4, r5) := h
 clear h
 obtain ⟨y607, hy607⟩ : ∃ y_ : List Int, y_ = (([] : List Int)) := ⟨_, rfl⟩
 replace H : (if y607.length + l0_0.length < 17592186044416 then (hypercuberef2_Join.l0 k 0 l0_0 a0_1 l0_2 l0_3 l0_4 l1_0 a1_1 l1_2 l1_3 l1_4 (y607 ++ l0_0) (wrap64 (a0_1 + a1_1)) ([] : List Int) ([] : List Int) ([] : List Int)) else (none)) = some (r1, r2, r3, r4, r5) := by first | (rw [hy607]; with_reducible exact H) | (have H2_ := (Option.bind_some _ _).symm.trans H; rw [hy607]; with_reducible exact H2_) | (have H2_ := (Option.bind_some _ _).symm.trans H; with_reducible exact H2_) | with_reducible exact H | (rw [hy607]; exact H) | exact H
 have Ny607 := am hy607
 clear hy607
 by_cases c3 : y607.length + l0_0.length < 17592186044416
 ·rw [if_pos c3] at H
  have LMc3 := am c3
  clear c3
  obtain ⟨y610, hy610⟩ : ∃ y_ : List Int, y_ = (y607 ++ l0_0) := ⟨_, rfl⟩
  replace H : (hypercuberef2_Join.l0 k 0 l0_0 a0_1 l0_2 l0_3 l0_4 l1_0 a1_1 l1_2 l1_3 l1_4 y610 (wrap64 (a0_1 + a1_1)) ([] : List Int) ([] : List Int) ([] : List Int)) = some (r1, r2, r3, r4, r5) := by rw [hy610]; with_reducible exact H
  have Ny610 := am hy610
  clear hy610
  have H' := am H
  clear H
  go_enter Try.func33, Try.ntmps33
  try go_wp2_with (first | ((with_reducible refine gate_dst (N := 2) rfl ?_); refine box_event ?hg (N := 2) ?hd (cs := #[.slice A0_0 l0_0.length c0_0, .int .i64 a0_1, .slice A0_2 l0_2.length c0_2, .slice A0_3 l0_3.length c0_3, .slice A0_4 l0_4.length c0_4]) (t := 30) ?hr ?_; (case hd => rfl); (case hg => rfl); (case hr => first | (go_simp; done) | (go_simp; rfl)); intro gb604 hg w4 hbox hb; have n0_ := am (below_step (wmv HB.out) hb); have n1_ := am (hbox); have n2_ := am ((by rw [hg]; exact (below_size (wmv HB.out)) : w.heap.size ≤ gb604)); have n3_ := am ((by rw [hg]; exact (below_size (wmv HB.out)) : w.heap.size ≤ gb604)); clear HB; revert n0_ n1_ n2_ n3_; intro HB BK604 GW604 GE604; clear hb hbox hg) | ((with_reducible refine gate_dst (N := 3) rfl ?_); refine box_event ?hg (N := 3) ?hd (cs := #[.slice A1_0 l1_0.length c1_0, .int .i64 a1_1, .slice A1_2 l1_2.length c1_2, .slice A1_3 l1_3.length c1_3, .slice A1_4 l1_4.length c1_4]) (t := 30) ?hr ?_; (case hd => rfl); (case hg => rfl); (case hr => first | (go_simp; done) | (go_simp; rfl)); intro gb605 hg w5 hbox hb; have n0_ := am (blk_below (bmv BK604.out) hb); have n1_ := am (below_step (wmv HB.out) hb); have n2_ := am (hbox); have n3_ := am ((by rw [hg]; exact (below_size (wmv HB.out)) : w.heap.size ≤ gb605)); have n4_ := am ((by rw [hg]; exact (below_size (wmv HB.out)) : w.heap.size ≤ gb605)); have n5_ := am ((by rw [hg]; exact Nat.ne_of_lt (blk_lt (bmv BK604.out)) : gb604 ≠ gb605)); have n6_ := am ((by rw [hg]; exact Nat.ne_of_gt (blk_lt (bmv BK604.out)) : gb605 ≠ gb604)); clear BK604 HB; revert n0_ n1_ n2_ n3_ n4_ n5_ n6_; intro BK604 HB BK605 GW605 GE605 NB604_605 NB605_604; clear hb hbox hg) | ((with_reducible refine gate_dst (N := 4) rfl ?_); refine box_event ?hg (N := 4) ?hd (cs := #[.slice none 0 0, .int .i64 0, .slice none 0 0, .slice none 0 0, .slice none 0 0]) (t := 30) ?hr ?_; (case hd => rfl); (case hg => rfl); (case hr => first | (go_simp; done) | (go_simp; rfl)); intro gb606 hg w6 hbox hb; have n0_ := am (blk_below (bmv BK604.out) hb); have n1_ := am (blk_below (bmv BK605.out) hb); have n2_ := am (below_step (wmv HB.out) hb); have n3_ := am (hbox); have n4_ := am ((by rw [hg]; exact (below_size (wmv HB.out)) : w.heap.size ≤ gb606)); have n5_ := am ((by rw [hg]; exact (below_size (wmv HB.out)) : w.heap.size ≤ gb606)); have n6_ := am ((by rw [hg]; exact Nat.ne_of_lt (blk_lt (bmv BK604.out)) : gb604 ≠ gb606)); have n7_ := am ((by rw [hg]; exact Nat.ne_of_gt (blk_lt (bmv BK604.out)) : gb606 ≠ gb604)); have n8_ := am ((by rw [hg]; exact Nat.ne_of_lt (blk_lt (bmv BK605.out)) : gb605 ≠ gb606)); have n9_ := am ((by rw [hg]; exact Nat.ne_of_gt (blk_lt (bmv BK605.out)) : gb606 ≠ gb605)); clear BK604 BK605 HB; revert n0_ n1_ n2_ n3_ n4_ n5_ n6_ n7_ n8_ n9_; intro BK604 BK605 HB BK606 GW606 GE606 NB604_606 NB606_604 NB605_606 NB606_605; clear hb hbox hg))
  have n0_ := am (blk_drew BK604.out)
  have n1_ := am (blk_drew BK605.out)
  have n2_ := am (blk_drew BK606.out)
  have n3_ := am (below_drew1 HB.out)
  clear BK604 BK605 BK606 HB
  revert n0_ n1_ n2_ n3_
  intro BK604 BK605 BK606 HB
  refine start_ (n := 12) (S := fun w' => w'.cell? ⟨gb604, 0, none⟩ = some (.slice A0_0 l0_0.length c0_0) ∧ w'.cell? ⟨gb604, 1, none⟩ = some (.int .i64 a0_1) ∧ w'.cell? ⟨gb604, 2, none⟩ = some (.slice A0_2 l0_2.length c0_2) ∧ w'.cell? ⟨gb604, 3, none⟩ = some (.slice A0_3 l0_3.length c0_3) ∧ w'.cell? ⟨gb604, 4, none⟩ = some (.slice A0_4 l0_4.length c0_4) ∧ w'.cell? ⟨gb605, 0, none⟩ = some (.slice A1_0 l1_0.length c1_0) ∧ w'.cell? ⟨gb605, 1, none⟩ = some (.int .i64 a1_1) ∧ w'.cell? ⟨gb605, 2, none⟩ = some (.slice A1_2 l1_2.length c1_2) ∧ w'.cell? ⟨gb605, 3, none⟩ = some (.slice A1_3 l1_3.length c1_3) ∧ w'.cell? ⟨gb605, 4, none⟩ = some (.slice A1_4 l1_4.length c1_4)) (ds := []) (bb 12 0) (by kernel_rfl) rfl rfl ⟨bc BK604 0, bc BK604 1, bc BK604 2, bc BK604 3, bc BK604 4, bc BK605 0, bc BK605 1, bc BK605 2, bc BK605 3, bc BK605 4⟩ (fun hHeld => ?_); refine with_tabW hypercuberef2_Join.tab1 hypercuberef2_Join.bits1 (fun HT_ HW_ => ?_)
  generalize w6.drew = w7 at BK604 BK605 BK606 HB hHeld ⊢
  refine pu (i := 1) (N := some 8) (bb 12 2) HT_ ?_
  refine pu (i := 4) (N := some 11) (bb 12 18) HT_ ?_
  refine pu (i := 6) (N := some 13) (bb 12 82) HT_ ?_
  refine tk (i := 2) (N := some 9) (bb 12 86) HT_ HW_ hHeld ?_
  refine tk (i := 5) (N := some 12) (bb 12 118) HT_ HW_ hHeld ?_
  refine tk (i := 7) (N := some 14) (bb 12 246) HT_ HW_ hHeld ?_
  refine pu (i := 8) (N := some 15) (bb 12 502) HT_ ?_
  refine join_ (σ := Value × Value × Nat) 1 (bb 12 2047) (fun s_ => [(7, s_.1), (10, s_.2.1), (5, .pointer (some ⟨s_.2.2, 0, none⟩)), (16, .agg #[s_.2.1, .int .i64 (wrap64 (a0_1 + a1_1)), .slice none 0 0, .slice none 0 0, .slice none 0 0])]) (fun s_ w' => (w'.cell? ⟨gb604, 0, none⟩ = some (.slice A0_0 l0_0.length c0_0) ∧ w'.cell? ⟨gb604, 1, none⟩ = some (.int .i64 a0_1) ∧ w'.cell? ⟨gb604, 2, none⟩ = some (.slice A0_2 l0_2.length c0_2) ∧ w'.cell? ⟨gb604, 3, none⟩ = some (.slice A0_3 l0_3.length c0_3) ∧ w'.cell? ⟨gb604, 4, none⟩ = some (.slice A0_4 l0_4.length c0_4) ∧ w'.cell? ⟨gb605, 0, none⟩ = some (.slice A1_0 l1_0.length c1_0) ∧ w'.cell? ⟨gb605, 1, none⟩ = some (.int .i64 a1_1) ∧ w'.cell? ⟨gb605, 2, none⟩ = some (.slice A1_2 l1_2.length c1_2) ∧ w'.cell? ⟨gb605, 3, none⟩ = some (.slice A1_3 l1_3.length c1_3) ∧ w'.cell? ⟨gb605, 4, none⟩ = some (.slice A1_4 l1_4.length c1_4)) ∧ (Kd.R (Kd.int .i64) 3 w' w.heap.size (fun _ => True) s_.2.1 y610) ∧ (w'.heap[gb604]? = some (.cells #[.slice A0_0 l0_0.length c0_0, .int .i64 a0_1, .slice A0_2 l0_2.length c0_2, .slice A0_3 l0_3.length c0_3, .slice A0_4 l0_4.length c0_4] 30 (0, 0))) ∧ (w'.heap[gb605]? = some (.cells #[.slice A1_0 l1_0.length c1_0, .int .i64 a1_1, .slice A1_2 l1_2.length c1_2, .slice A1_3 l1_3.length c1_3, .slice A1_4 l1_4.length c1_4] 30 (0, 0))) ∧ (w'.heap[gb606]? = some (.cells #[.slice none 0 0, .int .i64 0, .slice none 0 0, .slice none 0 0, .slice none 0 0] 30 (0, 0))) ∧ (w'.heap[s_.2.2]? = some (.cells #[.slice none 0 0, .int .i64 0, .slice none 0 0, .slice none 0 0, .slice none 0 0] 30 (0, 0))) ∧ (w.heap.size ≤ s_.2.2) ∧ (w.heap.size ≤ s_.2.2) ∧ (gb604 ≠ s_.2.2) ∧ (s_.2.2 ≠ gb604) ∧ (gb605 ≠ s_.2.2) ∧ (s_.2.2 ≠ gb605) ∧ (gb606 ≠ s_.2.2) ∧ (s_.2.2 ≠ gb606) ∧ (Below w.heap.size w w')) ?_ ?_
  rotate_left
  ·intro hCont
   refine two_ (i := 0) (j := 10) (Ni := some 7) (Nj := some 5) (bb 12 503) (bb 12 1526) rfl rfl rfl rfl (two_of HT_.out (by kernel_rfl)) (by decide) (by decide) (fun K hK => ?_) (fun K hK => ?_)
   ·skip
    refine Kd.R_lit_step (Kd.int .i64) _ 3 ?hg (N := 7) ?hd (xs := ([] : List Int)) (inner := []) (ok := fun _ => True) (okp := fun _ => True) ?hr ?hp (fun _ hk => hk) trivial (Below.refl _ _) (Nat.le_refl _) (by simp) ?_; (case hd => rfl); (case hg => rfl); (case hr => first | (go_simp; done) | (go_simp; rfl)); (case hp => exact (Reps.none _ _))
    intro v608 w8 ho9 hb hg_ hnew_
    clear hg_ hnew_
    (first | rw [← Ny607.out] at ho9 | (simp only [Int.reduceToNat] at ho9; rw [← Ny607.out] at ho9))
    have n0_ := am (Kd.R_lower ho9 (below_size (wmv HB.out)))
    have n1_ := am (blk_below (bmv BK604.out) hb)
    have n2_ := am (blk_below (bmv BK605.out) hb)
    have n3_ := am (blk_below (bmv BK606.out) hb)
    have n4_ := am (below_step (wmv HB.out) hb)
    clear BK604 BK605 BK606 HB
    revert n0_ n1_ n2_ n3_ n4_
    intro HO609 BK604 BK605 BK606 HB
    clear hb ho9
    refine hK.out _ _ ⟨bc BK604 0, bc BK604 1, bc BK604 2, bc BK604 3, bc BK604 4, bc BK605 0, bc BK605 1, bc BK605 2, bc BK605 3, bc BK605 4⟩ (fun hHeld => ?_)
    clear hK K
    refine nm ?_
    refine two_ (i := 3) (j := 10) (Ni := some 10) (Nj := some 5) (bb 12 511) (bb 12 1527) rfl rfl rfl rfl (two_of HT_.out (by kernel_rfl)) (by decide) (by decide) (fun K hK => ?_) (fun K hK => ?_)
    ·skip
     refine Kd.R_append_rows_step (Kd.int .i64) (w0 := w) w.heap.size (by rfl) (.tmp 7) (.tmp 9) 22 3 (.int .i64 0) 8 rfl Try.underlying22 info3 rfl (by decide) (by omega) v608 y607 l0_0 _ _ _ (fun _ => True) (fun _ => False) rfl rfl ?aO ?aR (fun _ _ h => h) (fun _ h => h.elim) ?aF ?aB ?aS ?aL ?_
     (case aR => exact Kd.Cw HR0_0.out HB.out)
     (case aB => exact (wmv HB.out))
     (case aF => exact (fun _ _ => trivial))
     (case aO => exact (Kd.R_mv HO609.out))
     (case aS => exact (below_size (wmv HB.out)))
     (case aL => have := LMc3.out; omega)
     intro v611 w10 ho hb hg hat
     rw [← Ny610.out] at ho
     have n0_ := am (blk_grown (bmv BK604.out) hg (Kd.R_ne HO609.out BK604.out (by decide)))
     have n1_ := am (blk_grown (bmv BK605.out) hg (Kd.R_ne HO609.out BK605.out (by decide)))
     have n2_ := am (blk_grown (bmv BK606.out) hg (Kd.R_ne HO609.out BK606.out (by decide)))
     have n3_ := am (hb)
     have n4_ := am (ho)
     clear BK604 BK605 BK606 HB HO609
     revert n0_ n1_ n2_ n3_ n4_
     intro BK604 BK605 BK606 HB HO612
     clear ho hb hg hat
     obtain ⟨Ao11, co11, eo11⟩ := Kd.R_slice HO612.out
     (first | subst eo11 | (injection eo11 with f1_ f2_ f3_; have f4_ := f1_.symm; have f5_ := f3_.symm; clear f1_ f2_ f3_; subst f4_; subst f5_))
     refine hK.out _ _ ⟨bc BK604 0, bc BK604 1, bc BK604 2, bc BK604 3, bc BK604 4, bc BK605 0, bc BK605 1, bc BK605 2, bc BK605 3, bc BK605 4⟩ (fun hHeld => ?_)
     clear hK K
     refine nm ?_
     refine pu (i := 9) (N := some 16) (bb 12 1023) HT_ ?_
     refine one_ (i := 10) (N := some 5) (bb 12 2047) rfl rfl (one_of HT_.out (by kernel_rfl)) (by decide) (fun K hK => ?_)
     refine box_step ?hg (N := 5) ?hd (cs := #[.slice none 0 0, .int .i64 0, .slice none 0 0, .slice none 0 0, .slice none 0 0]) (t := 30) ?hr ?_; (case hd => rfl); (case hg => rfl); (case hr => first | (go_simp; done) | (go_simp; rfl))
     intro gb613 hg w12 hbox hb
     have n0_ := am (Kd.R_below (Kd.R_mv HO612.out) hb)
     have n1_ := am (blk_below (bmv BK604.out) hb)
     have n2_ := am (blk_below (bmv BK605.out) hb)
     have n3_ := am (blk_below (bmv BK606.out) hb)
     have n4_ := am (below_step (wmv HB.out) hb)
     have n5_ := am (hbox)
     have n6_ := am ((by rw [hg]; exact (below_size (wmv HB.out)) : w.heap.size ≤ gb613))
     have n7_ := am ((by rw [hg]; exact (below_size (wmv HB.out)) : w.heap.size ≤ gb613))
     have n8_ := am ((by rw [hg]; exact Nat.ne_of_lt (blk_lt (bmv BK604.out)) : gb604 ≠ gb613))
     have n9_ := am ((by rw [hg]; exact Nat.ne_of_gt (blk_lt (bmv BK604.out)) : gb613 ≠ gb604))
     have n10_ := am ((by rw [hg]; exact Nat.ne_of_lt (blk_lt (bmv BK605.out)) : gb605 ≠ gb613))
     have n11_ := am ((by rw [hg]; exact Nat.ne_of_gt (blk_lt (bmv BK605.out)) : gb613 ≠ gb605))
     have n12_ := am ((by rw [hg]; exact Nat.ne_of_lt (blk_lt (bmv BK606.out)) : gb606 ≠ gb613))
     have n13_ := am ((by rw [hg]; exact Nat.ne_of_gt (blk_lt (bmv BK606.out)) : gb613 ≠ gb606))
     clear HO612 BK604 BK605 BK606 HB
     revert n0_ n1_ n2_ n3_ n4_ n5_ n6_ n7_ n8_ n9_ n10_ n11_ n12_ n13_
     intro HO612 BK604 BK605 BK606 HB BK613 GW613 GE613 NB604_613 NB613_604 NB605_613 NB613_605 NB606_613 NB613_606
     clear hb hbox hg
     refine hK.out _ _ ⟨bc BK604 0, bc BK604 1, bc BK604 2, bc BK604 3, bc BK604 4, bc BK605 0, bc BK605 1, bc BK605 2, bc BK605 3, bc BK605 4⟩ (fun hHeld => ?_)
     clear hK K
     refine nm ?_
     exact norm_ (by simp only [putAll, Act.put, List.setIfInBounds_toArray, List.set_cons_zero, List.set_cons_succ]) (hCont (v608, .slice Ao11 y610.length co11, gb613) _ ⟨hHeld, (Kd.R_mv HO612.out), (bmv BK604.out), (bmv BK605.out), (bmv BK606.out), (bmv BK613.out), GW613.out, GE613.out, NB604_613.out, NB613_604.out, NB605_613.out, NB613_605.out, NB606_613.out, NB613_606.out, (wmv HB.out)⟩)
    ·skip
     refine box_step ?hg (N := 5) ?hd (cs := #[.slice none 0 0, .int .i64 0, .slice none 0 0, .slice none 0 0, .slice none 0 0]) (t := 30) ?hr ?_; (case hd => rfl); (case hg => rfl); (case hr => first | (go_simp; done) | (go_simp; rfl))
     intro gb613 hg w10 hbox hb
     have n0_ := am (Kd.R_below (Kd.R_mv HO609.out) hb)
     have n1_ := am (blk_below (bmv BK604.out) hb)
     have n2_ := am (blk_below (bmv BK605.out) hb)
     have n3_ := am (blk_below (bmv BK606.out) hb)
     have n4_ := am (below_step (wmv HB.out) hb)
     have n5_ := am (hbox)
     have n6_ := am ((by rw [hg]; exact (below_size (wmv HB.out)) : w.heap.size ≤ gb613))
     have n7_ := am ((by rw [hg]; exact (below_size (wmv HB.out)) : w.heap.size ≤ gb613))
     have n8_ := am ((by rw [hg]; exact Nat.ne_of_lt (blk_lt (bmv BK604.out)) : gb604 ≠ gb613))
     have n9_ := am ((by rw [hg]; exact Nat.ne_of_gt (blk_lt (bmv BK604.out)) : gb613 ≠ gb604))
     have n10_ := am ((by rw [hg]; exact Nat.ne_of_lt (blk_lt (bmv BK605.out)) : gb605 ≠ gb613))
     have n11_ := am ((by rw [hg]; exact Nat.ne_of_gt (blk_lt (bmv BK605.out)) : gb613 ≠ gb605))
     have n12_ := am ((by rw [hg]; exact Nat.ne_of_lt (blk_lt (bmv BK606.out)) : gb606 ≠ gb613))
     have n13_ := am ((by rw [hg]; exact Nat.ne_of_gt (blk_lt (bmv BK606.out)) : gb613 ≠ gb606))
     clear HO609 BK604 BK605 BK606 HB
     revert n0_ n1_ n2_ n3_ n4_ n5_ n6_ n7_ n8_ n9_ n10_ n11_ n12_ n13_
     intro HO609 BK604 BK605 BK606 HB BK613 GW613 GE613 NB604_613 NB613_604 NB605_613 NB613_605 NB606_613 NB613_606
     clear hb hbox hg
     refine hK.out _ _ ⟨bc BK604 0, bc BK604 1, bc BK604 2, bc BK604 3, bc BK604 4, bc BK605 0, bc BK605 1, bc BK605 2, bc BK605 3, bc BK605 4⟩ (fun hHeld => ?_)
     clear hK K
     refine nm ?_
     refine one_ (i := 3) (N := some 10) (bb 12 1535) rfl rfl (one_of HT_.out (by kernel_rfl)) (by decide) (fun K hK => ?_)
     refine Kd.R_append_rows_step (Kd.int .i64) (w0 := w) w.heap.size (by rfl) (.tmp 7) (.tmp 9) 22 3 (.int .i64 0) 8 rfl Try.underlying22 info3 rfl (by decide) (by omega) v608 y607 l0_0 _ _ _ (fun _ => True) (fun _ => False) rfl rfl ?aO ?aR (fun _ _ h => h) (fun _ h => h.elim) ?aF ?aB ?aS ?aL ?_
     (case aR => exact Kd.Cw HR0_0.out HB.out)
     (case aB => exact (wmv HB.out))
     (case aF => exact (fun _ _ => trivial))
     (case aO => exact (Kd.R_mv HO609.out))
     (case aS => exact (below_size (wmv HB.out)))
     (case aL => have := LMc3.out; omega)
     intro v611 w11 ho hb hg hat
     rw [← Ny610.out] at ho
     have n0_ := am (blk_grown (bmv BK604.out) hg (Kd.R_ne HO609.out BK604.out (by decide)))
     have n1_ := am (blk_grown (bmv BK605.out) hg (Kd.R_ne HO609.out BK605.out (by decide)))
     have n2_ := am (blk_grown (bmv BK606.out) hg (Kd.R_ne HO609.out BK606.out (by decide)))
     have n3_ := am (blk_grown (bmv BK613.out) hg (Kd.R_ne HO609.out BK613.out (by decide)))
     have n4_ := am (hb)
     have n5_ := am (ho)
     clear BK604 BK605 BK606 BK613 HB HO609
     revert n0_ n1_ n2_ n3_ n4_ n5_
     intro BK604 BK605 BK606 BK613 HB HO612
     clear ho hb hg hat
     obtain ⟨Ao12, co12, eo12⟩ := Kd.R_slice HO612.out
     (first | subst eo12 | (injection eo12 with f1_ f2_ f3_; have f4_ := f1_.symm; have f5_ := f3_.symm; clear f1_ f2_ f3_; subst f4_; subst f5_))
     refine hK.out _ _ ⟨bc BK604 0, bc BK604 1, bc BK604 2, bc BK604 3, bc BK604 4, bc BK605 0, bc BK605 1, bc BK605 2, bc BK605 3, bc BK605 4⟩ (fun hHeld => ?_)
     clear hK K
     refine nm ?_
     refine pu (i := 9) (N := some 16) (bb 12 2047) HT_ ?_
     exact norm_ (by simp only [putAll, Act.put, List.setIfInBounds_toArray, List.set_cons_zero, List.set_cons_succ]) (hCont (v608, .slice Ao12 y610.length co12, gb613) _ ⟨hHeld, (Kd.R_mv HO612.out), (bmv BK604.out), (bmv BK605.out), (bmv BK606.out), (bmv BK613.out), GW613.out, GE613.out, NB604_613.out, NB613_604.out, NB605_613.out, NB613_605.out, NB606_613.out, NB613_606.out, (wmv HB.out)⟩)
   ·skip
    refine box_step ?hg (N := 5) ?hd (cs := #[.slice none 0 0, .int .i64 0, .slice none 0 0, .slice none 0 0, .slice none 0 0]) (t := 30) ?hr ?_; (case hd => rfl); (case hg => rfl); (case hr => first | (go_simp; done) | (go_simp; rfl))
    intro gb613 hg w8 hbox hb
    have n0_ := am (blk_below (bmv BK604.out) hb)
    have n1_ := am (blk_below (bmv BK605.out) hb)
    have n2_ := am (blk_below (bmv BK606.out) hb)
    have n3_ := am (below_step (wmv HB.out) hb)
    have n4_ := am (hbox)
    have n5_ := am ((by rw [hg]; exact (below_size (wmv HB.out)) : w.heap.size ≤ gb613))
    have n6_ := am ((by rw [hg]; exact (below_size (wmv HB.out)) : w.heap.size ≤ gb613))
    have n7_ := am ((by rw [hg]; exact Nat.ne_of_lt (blk_lt (bmv BK604.out)) : gb604 ≠ gb613))
    have n8_ := am ((by rw [hg]; exact Nat.ne_of_gt (blk_lt (bmv BK604.out)) : gb613 ≠ gb604))
    have n9_ := am ((by rw [hg]; exact Nat.ne_of_lt (blk_lt (bmv BK605.out)) : gb605 ≠ gb613))
    have n10_ := am ((by rw [hg]; exact Nat.ne_of_gt (blk_lt (bmv BK605.out)) : gb613 ≠ gb605))
    have n11_ := am ((by rw [hg]; exact Nat.ne_of_lt (blk_lt (bmv BK606.out)) : gb606 ≠ gb613))
    have n12_ := am ((by rw [hg]; exact Nat.ne_of_gt (blk_lt (bmv BK606.out)) : gb613 ≠ gb606))
    clear BK604 BK605 BK606 HB
    revert n0_ n1_ n2_ n3_ n4_ n5_ n6_ n7_ n8_ n9_ n10_ n11_ n12_
    intro BK604 BK605 BK606 HB BK613 GW613 GE613 NB604_613 NB613_604 NB605_613 NB613_605 NB606_613 NB613_606
    clear hb hbox hg
    refine hK.out _ _ ⟨bc BK604 0, bc BK604 1, bc BK604 2, bc BK604 3, bc BK604 4, bc BK605 0, bc BK605 1, bc BK605 2, bc BK605 3, bc BK605 4⟩ (fun hHeld => ?_)
    clear hK K
    refine nm ?_
    refine one_ (i := 0) (N := some 7) (bb 12 1527) rfl rfl (one_of HT_.out (by kernel_rfl)) (by decide) (fun K hK => ?_)
    refine Kd.R_lit_step (Kd.int .i64) _ 3 ?hg (N := 7) ?hd (xs := ([] : List Int)) (inner := []) (ok := fun _ => True) (okp := fun _ => True) ?hr ?hp (fun _ hk => hk) trivial (Below.refl _ _) (Nat.le_refl _) (by simp) ?_; (case hd => rfl); (case hg => rfl); (case hr => first | (go_simp; done) | (go_simp; rfl)); (case hp => exact (Reps.none _ _))
    intro v608 w9 ho10 hb hg_ hnew_
    clear hg_ hnew_
    (first | rw [← Ny607.out] at ho10 | (simp only [Int.reduceToNat] at ho10; rw [← Ny607.out] at ho10))
    have n0_ := am (Kd.R_lower ho10 (below_size (wmv HB.out)))
    have n1_ := am (blk_below (bmv BK604.out) hb)
    have n2_ := am (blk_below (bmv BK605.out) hb)
    have n3_ := am (blk_below (bmv BK606.out) hb)
    have n4_ := am (blk_below (bmv BK613.out) hb)
    have n5_ := am (below_step (wmv HB.out) hb)
    clear BK604 BK605 BK606 BK613 HB
    revert n0_ n1_ n2_ n3_ n4_ n5_
    intro HO609 BK604 BK605 BK606 BK613 HB
    clear hb ho10
    refine hK.out _ _ ⟨bc BK604 0, bc BK604 1, bc BK604 2, bc BK604 3, bc BK604 4, bc BK605 0, bc BK605 1, bc BK605 2, bc BK605 3, bc BK605 4⟩ (fun hHeld => ?_)
    clear hK K
    refine nm ?_
    refine one_ (i := 3) (N := some 10) (bb 12 1535) rfl rfl (one_of HT_.out (by kernel_rfl)) (by decide) (fun K hK => ?_)
    refine Kd.R_append_rows_step (Kd.int .i64) (w0 := w) w.heap.size (by rfl) (.tmp 7) (.tmp 9) 22 3 (.int .i64 0) 8 rfl Try.underlying22 info3 rfl (by decide) (by omega) v608 y607 l0_0 _ _ _ (fun _ => True) (fun _ => False) rfl rfl ?aO ?aR (fun _ _ h => h) (fun _ h => h.elim) ?aF ?aB ?aS ?aL ?_
    (case aR => exact Kd.Cw HR0_0.out HB.out)
    (case aB => exact (wmv HB.out))
    (case aF => exact (fun _ _ => trivial))
    (case aO => exact (Kd.R_mv HO609.out))
    (case aS => exact (below_size (wmv HB.out)))
    (case aL => have := LMc3.out; omega)
    intro v611 w11 ho hb hg hat
    rw [← Ny610.out] at ho
    have n0_ := am (blk_grown (bmv BK604.out) hg (Kd.R_ne HO609.out BK604.out (by decide)))
    have n1_ := am (blk_grown (bmv BK605.out) hg (Kd.R_ne HO609.out BK605.out (by decide)))
    have n2_ := am (blk_grown (bmv BK606.out) hg (Kd.R_ne HO609.out BK606.out (by decide)))
    have n3_ := am (blk_grown (bmv BK613.out) hg (Kd.R_ne HO609.out BK613.out (by decide)))
    have n4_ := am (hb)
    have n5_ := am (ho)
    clear BK604 BK605 BK606 BK613 HB HO609
    revert n0_ n1_ n2_ n3_ n4_ n5_
    intro BK604 BK605 BK606 BK613 HB HO612
    clear ho hb hg hat
    obtain ⟨Ao12, co12, eo12⟩ := Kd.R_slice HO612.out
    (first | subst eo12 | (injection eo12 with f1_ f2_ f3_; have f4_ := f1_.symm; have f5_ := f3_.symm; clear f1_ f2_ f3_; subst f4_; subst f5_))
    refine hK.out _ _ ⟨bc BK604 0, bc BK604 1, bc BK604 2, bc BK604 3, bc BK604 4, bc BK605 0, bc BK605 1, bc BK605 2, bc BK605 3, bc BK605 4⟩ (fun hHeld => ?_)
    clear hK K
    refine nm ?_
    refine pu (i := 9) (N := some 16) (bb 12 2047) HT_ ?_
    exact norm_ (by simp only [putAll, Act.put, List.setIfInBounds_toArray, List.set_cons_zero, List.set_cons_succ]) (hCont (v608, .slice Ao12 y610.length co12, gb613) _ ⟨hHeld, (Kd.R_mv HO612.out), (bmv BK604.out), (bmv BK605.out), (bmv BK606.out), (bmv BK613.out), GW613.out, GE613.out, NB604_613.out, NB613_604.out, NB605_613.out, NB613_605.out, NB606_613.out, NB613_606.out, (wmv HB.out)⟩)
  rintro ⟨v608, v611, gb613⟩ w13 ⟨hS_, h0_, h1_, h2_, h3_, h4_, h5_, h6_, h7_, h8_, h9_, h10_, h11_, h12_, h13_⟩
  have n0_ : Aside0 (Kd.R (Kd.int .i64) 3 w13 w.heap.size (fun _ => True) v611 y610) := ⟨h0_⟩
  have n1_ : Aside0 (w13.heap[gb604]? = some (.cells #[.slice A0_0 l0_0.length c0_0, .int .i64 a0_1, .slice A0_2 l0_2.length c0_2, .slice A0_3 l0_3.length c0_3, .slice A0_4 l0_4.length c0_4] 30 (0, 0))) := ⟨h1_⟩
  have n2_ : Aside0 (w13.heap[gb605]? = some (.cells #[.slice A1_0 l1_0.length c1_0, .int .i64 a1_1, .slice A1_2 l1_2.length c1_2, .slice A1_3 l1_3.length c1_3, .slice A1_4 l1_4.length c1_4] 30 (0, 0))) := ⟨h2_⟩
  have n3_ : Aside0 (w13.heap[gb606]? = some (.cells #[.slice none 0 0, .int .i64 0, .slice none 0 0, .slice none 0 0, .slice none 0 0] 30 (0, 0))) := ⟨h3_⟩
  have n4_ : Aside0 (w13.heap[gb613]? = some (.cells #[.slice none 0 0, .int .i64 0, .slice none 0 0, .slice none 0 0, .slice none 0 0] 30 (0, 0))) := ⟨h4_⟩
  have n5_ : Aside0 (w.heap.size ≤ gb613) := ⟨h5_⟩
  have n6_ : Aside0 (w.heap.size ≤ gb613) := ⟨h6_⟩
  have n7_ : Aside0 (gb604 ≠ gb613) := ⟨h7_⟩
  have n8_ : Aside0 (gb613 ≠ gb604) := ⟨h8_⟩
  have n9_ : Aside0 (gb605 ≠ gb613) := ⟨h9_⟩
  have n10_ : Aside0 (gb613 ≠ gb605) := ⟨h10_⟩
  have n11_ : Aside0 (gb606 ≠ gb613) := ⟨h11_⟩
  have n12_ : Aside0 (gb613 ≠ gb606) := ⟨h12_⟩
  have n13_ : Aside0 (Below w.heap.size w w13) := ⟨h13_⟩
  clear BK604
  clear BK605
  clear BK606
  clear HB
  clear h0_ h1_ h2_ h3_ h4_ h5_ h6_ h7_ h8_ h9_ h10_ h11_ h12_ h13_
  revert n0_ n1_ n2_ n3_ n4_ n5_ n6_ n7_ n8_ n9_ n10_ n11_ n12_ n13_
  intro HO612 BK604 BK605 BK606 BK613 GW613 GE613 NB604_613 NB613_604 NB605_613 NB613_605 NB606_613 NB613_606 HB
  have hHeld : w13.cell? ⟨gb604, 0, none⟩ = some (.slice A0_0 l0_0.length c0_0) ∧ w13.cell? ⟨gb604, 1, none⟩ = some (.int .i64 a0_1) ∧ w13.cell? ⟨gb604, 2, none⟩ = some (.slice A0_2 l0_2.length c0_2) ∧ w13.cell? ⟨gb604, 3, none⟩ = some (.slice A0_3 l0_3.length c0_3) ∧ w13.cell? ⟨gb604, 4, none⟩ = some (.slice A0_4 l0_4.length c0_4) ∧ w13.cell? ⟨gb605, 0, none⟩ = some (.slice A1_0 l1_0.length c1_0) ∧ w13.cell? ⟨gb605, 1, none⟩ = some (.int .i64 a1_1) ∧ w13.cell? ⟨gb605, 2, none⟩ = some (.slice A1_2 l1_2.length c1_2) ∧ w13.cell? ⟨gb605, 3, none⟩ = some (.slice A1_3 l1_3.length c1_3) ∧ w13.cell? ⟨gb605, 4, none⟩ = some (.slice A1_4 l1_4.length c1_4) := hS_
  obtain ⟨Ao14, co14, eo14⟩ := Kd.R_slice HO612.out
  (first | subst eo14 | (injection eo14 with f1_ f2_ f3_; have f4_ := f1_.symm; have f5_ := f3_.symm; clear f1_ f2_ f3_; subst f4_; subst f5_))
  refine norm_ (a' := ?_) ?_ ?_
  rotate_left
  ·simp only [putAll, Act.put, List.setIfInBounds_toArray, List.set_cons_zero, List.set_cons_succ]
   rfl
  refine one_ (i := 11) (N := none) (bb 12 4095) rfl rfl (one_of HT_.out (by kernel_rfl)) (by decide) (fun K hK => ?_)
  have hs15 : w13.cell? ⟨gb613, 0, none⟩ = some (.slice none 0 0) := (blk_cell BK613.out 0).trans rfl
  have hfs15 := blk_frozen BK613.out 0
  have hns15_0 := NB604_613.out
  have hns15_1 := NB605_613.out
  have hns15_2 := NB606_613.out
  have hms15_0 := NB613_604.out
  have hms15_1 := NB613_605.out
  have hms15_2 := NB613_606.out
  have hs16 : w13.cell? ⟨gb613, 1, none⟩ = some (.int .i64 0) := (blk_cell BK613.out 1).trans rfl
  have hfs16 := blk_frozen BK613.out 1
  have hns16_0 := NB604_613.out
  have hns16_1 := NB605_613.out
  have hns16_2 := NB606_613.out
  have hms16_0 := NB613_604.out
  have hms16_1 := NB613_605.out
  have hms16_2 := NB613_606.out
  have hs17 : w13.cell? ⟨gb613, 2, none⟩ = some (.slice none 0 0) := (blk_cell BK613.out 2).trans rfl
  have hfs17 := blk_frozen BK613.out 2
  have hns17_0 := NB604_613.out
  have hns17_1 := NB605_613.out
  have hns17_2 := NB606_613.out
  have hms17_0 := NB613_604.out
  have hms17_1 := NB613_605.out
  have hms17_2 := NB613_606.out
  have hs18 : w13.cell? ⟨gb613, 3, none⟩ = some (.slice none 0 0) := (blk_cell BK613.out 3).trans rfl
  have hfs18 := blk_frozen BK613.out 3
  have hns18_0 := NB604_613.out
  have hns18_1 := NB605_613.out
  have hns18_2 := NB606_613.out
  have hms18_0 := NB613_604.out
  have hms18_1 := NB613_605.out
  have hms18_2 := NB613_606.out
  have hs19 : w13.cell? ⟨gb613, 4, none⟩ = some (.slice none 0 0) := (blk_cell BK613.out 4).trans rfl
  have hfs19 := blk_frozen BK613.out 4
  have hns19_0 := NB604_613.out
  have hns19_1 := NB605_613.out
  have hns19_2 := NB606_613.out
  have hms19_0 := NB613_604.out
  have hms19_1 := NB613_605.out
  have hms19_2 := NB613_606.out
  refine skip_ (w1 := ?_) (by rfl) rfl ?_ ?_
  rotate_left
  ·go_simp
   rfl
  refine hK.out _ _ ⟨((cell_far (p := ⟨gb613, _, none⟩) NB604_613.out _).trans (((cell_far (p := ⟨gb613, _, none⟩) NB604_613.out _).trans (((cell_far (p := ⟨gb613, _, none⟩) NB604_613.out _).trans (((cell_far (p := ⟨gb613, _, none⟩) NB604_613.out _).trans (((cell_far (p := ⟨gb613, _, none⟩) NB604_613.out _).trans (hHeld.1)))))))))), ((cell_far (p := ⟨gb613, _, none⟩) NB604_613.out _).trans (((cell_far (p := ⟨gb613, _, none⟩) NB604_613.out _).trans (((cell_far (p := ⟨gb613, _, none⟩) NB604_613.out _).trans (((cell_far (p := ⟨gb613, _, none⟩) NB604_613.out _).trans (((cell_far (p := ⟨gb613, _, none⟩) NB604_613.out _).trans (hHeld.2.1)))))))))), ((cell_far (p := ⟨gb613, _, none⟩) NB604_613.out _).trans (((cell_far (p := ⟨gb613, _, none⟩) NB604_613.out _).trans (((cell_far (p := ⟨gb613, _, none⟩) NB604_613.out _).trans (((cell_far (p := ⟨gb613, _, none⟩) NB604_613.out _).trans (((cell_far (p := ⟨gb613, _, none⟩) NB604_613.out _).trans (hHeld.2.2.1)))))))))), ((cell_far (p := ⟨gb613, _, none⟩) NB604_613.out _).trans (((cell_far (p := ⟨gb613, _, none⟩) NB604_613.out _).trans (((cell_far (p := ⟨gb613, _, none⟩) NB604_613.out _).trans (((cell_far (p := ⟨gb613, _, none⟩) NB604_613.out _).trans (((cell_far (p := ⟨gb613, _, none⟩) NB604_613.out _).trans (hHeld.2.2.2.1)))))))))), ((cell_far (p := ⟨gb613, _, none⟩) NB604_613.out _).trans (((cell_far (p := ⟨gb613, _, none⟩) NB604_613.out _).trans (((cell_far (p := ⟨gb613, _, none⟩) NB604_613.out _).trans (((cell_far (p := ⟨gb613, _, none⟩) NB604_613.out _).trans (((cell_far (p := ⟨gb613, _, none⟩) NB604_613.out _).trans (hHeld.2.2.2.2.1)))))))))), ((cell_far (p := ⟨gb613, _, none⟩) NB605_613.out _).trans (((cell_far (p := ⟨gb613, _, none⟩) NB605_613.out _).trans (((cell_far (p := ⟨gb613, _, none⟩) NB605_613.out _).trans (((cell_far (p := ⟨gb613, _, none⟩) NB605_613.out _).trans (((cell_far (p := ⟨gb613, _, none⟩) NB605_613.out _).trans (hHeld.2.2.2.2.2.1)))))))))), ((cell_far (p := ⟨gb613, _, none⟩) NB605_613.out _).trans (((cell_far (p := ⟨gb613, _, none⟩) NB605_613.out _).trans (((cell_far (p := ⟨gb613, _, none⟩) NB605_613.out _).trans (((cell_far (p := ⟨gb613, _, none⟩) NB605_613.out _).trans (((cell_far (p := ⟨gb613, _, none⟩) NB605_613.out _).trans (hHeld.2.2.2.2.2.2.1)))))))))), ((cell_far (p := ⟨gb613, _, none⟩) NB605_613.out _).trans (((cell_far (p := ⟨gb613, _, none⟩) NB605_613.out _).trans (((cell_far (p := ⟨gb613, _, none⟩) NB605_613.out _).trans (((cell_far (p := ⟨gb613, _, none⟩) NB605_613.out _).trans (((cell_far (p := ⟨gb613, _, none⟩) NB605_613.out _).trans (hHeld.2.2.2.2.2.2.2.1)))))))))), ((cell_far (p := ⟨gb613, _, none⟩) NB605_613.out _).trans (((cell_far (p := ⟨gb613, _, none⟩) NB605_613.out _).trans (((cell_far (p := ⟨gb613, _, none⟩) NB605_613.out _).trans (((cell_far (p := ⟨gb613, _, none⟩) NB605_613.out _).trans (((cell_far (p := ⟨gb613, _, none⟩) NB605_613.out _).trans (hHeld.2.2.2.2.2.2.2.2.1)))))))))), ((cell_far (p := ⟨gb613, _, none⟩) NB605_613.out _).trans (((cell_far (p := ⟨gb613, _, none⟩) NB605_613.out _).trans (((cell_far (p := ⟨gb613, _, none⟩) NB605_613.out _).trans (((cell_far (p := ⟨gb613, _, none⟩) NB605_613.out _).trans (((cell_far (p := ⟨gb613, _, none⟩) NB605_613.out _).trans (hHeld.2.2.2.2.2.2.2.2.2))))))))))⟩ (fun hHeld => ?_)
  clear hK K
  refine done_ (done_of HT_.out (by kernel_rfl)) ?_
  try go_wp2
  go_loopg [6] k (fun kq v6 w' => ∃ (x6_1 : Int) (x614002_1 : List Int) (x614003_1 : List Int) (x614004_1 : List Int) (u614002 : Value) (u614003 : Value) (u614004 : Value), v6 = .int .i64 x6_1 ∧ Aside0 (hypercuberef2_Join.l0 kq x6_1 l0_0 a0_1 l0_2 l0_3 l0_4 l1_0 a1_1 l1_2 l1_3 l1_4 y610 (wrap64 (a0_1 + a1_1)) x614002_1 x614003_1 x614004_1 = some (r1, r2, r3, r4, r5)) ∧ Aside0 (kq ≤ k) ∧ Aside0 (Kd.R (Kd.int .i64) 3 w' w.heap.size (fun k_ => some k_ ≠ (u614002 : Value).ownBlock ∧ some k_ ≠ (u614003 : Value).ownBlock ∧ some k_ ≠ (u614004 : Value).ownBlock) (.slice Ao14 y610.length co14) y610) ∧ Aside0 (Kd.R (Kd.int .i64) 3 w' w.heap.size (fun k_ => some k_ ≠ ((.slice Ao14 y610.length co14) : Value).ownBlock ∧ some k_ ≠ (u614003 : Value).ownBlock ∧ some k_ ≠ (u614004 : Value).ownBlock) u614002 x614002_1) ∧ Aside0 (Kd.R (Kd.int .i64) 3 w' w.heap.size (fun k_ => some k_ ≠ ((.slice Ao14 y610.length co14) : Value).ownBlock ∧ some k_ ≠ (u614002 : Value).ownBlock ∧ some k_ ≠ (u614004 : Value).ownBlock) u614003 x614003_1) ∧ Aside0 (Kd.R (Kd.int .i64) 3 w' w.heap.size (fun k_ => some k_ ≠ ((.slice Ao14 y610.length co14) : Value).ownBlock ∧ some k_ ≠ (u614002 : Value).ownBlock ∧ some k_ ≠ (u614003 : Value).ownBlock) u614004 x614004_1) ∧ Aside0 (w'.heap[gb604]? = some (.cells #[(.slice A0_0 l0_0.length c0_0), .int .i64 a0_1, (.slice A0_2 l0_2.length c0_2), (.slice A0_3 l0_3.length c0_3), (.slice A0_4 l0_4.length c0_4)] 30 (0, 0))) ∧ Aside0 (w'.heap[gb605]? = some (.cells #[(.slice A1_0 l1_0.length c1_0), .int .i64 a1_1, (.slice A1_2 l1_2.length c1_2), (.slice A1_3 l1_3.length c1_3), (.slice A1_4 l1_4.length c1_4)] 30 (0, 0))) ∧ Aside0 (w'.heap[gb606]? = some (.cells #[(.slice none 0 0), .int .i64 0, (.slice none 0 0), (.slice none 0 0), (.slice none 0 0)] 30 (0, 0))) ∧ Aside0 (w'.heap[gb613]? = some (.cells #[(.slice Ao14 y610.length co14), .int .i64 (wrap64 (a0_1 + a1_1)), u614002, u614003, u614004] 30 (0, 0))) ∧ Aside0 (Below w.heap.size w w'))
  case atStart => exact ⟨(0), (([] : List Int)), (([] : List Int)), (([] : List Int)), (.slice none 0 0), (.slice none 0 0), (.slice none 0 0), (by first | rfl | (simp; done) | (simp [*]; done)), H', ⟨Nat.le_refl _⟩, ⟨by (with_reducible repeat (first | apply Kd.R_alloc | apply Kd.R_drewN | apply Kd.R_drew)); exact Kd.R_mono (Kd.R_far (p := ⟨gb613, 4, none⟩) (Kd.R_far (p := ⟨gb613, 3, none⟩) (Kd.R_far (p := ⟨gb613, 2, none⟩) (Kd.R_far (p := ⟨gb613, 1, none⟩) (Kd.R_far (p := ⟨gb613, 0, none⟩) (Kd.R_types HO612.out BK613.out (by decide)) (fun _ hk => hk.2) (.slice Ao14 y610.length co14)) (fun _ hk => hk.2) (.int .i64 (wrap64 (a0_1 + a1_1)))) (fun _ hk => hk.2) (.slice none 0 0)) (fun _ hk => hk.2) (.slice none 0 0)) (fun _ hk => hk.2) (.slice none 0 0)) (fun _ hk => ⟨(by simp [Value.ownBlock]), ⟨(by simp [Value.ownBlock]), (by simp [Value.ownBlock])⟩⟩)⟩, ⟨by first | exact Kd.R_nil _ _ _ _ _ | exact Kd.N_nil _ _ _ _ _ | exact Kd.V_nil _ _ _ _ _ | exact Kd.Q_nil _ _ _ _ _ | exact Kd.S_nil _ _ _ _ _⟩, ⟨by first | exact Kd.R_nil _ _ _ _ _ | exact Kd.N_nil _ _ _ _ _ | exact Kd.V_nil _ _ _ _ _ | exact Kd.Q_nil _ _ _ _ _ | exact Kd.S_nil _ _ _ _ _⟩, ⟨by first | exact Kd.R_nil _ _ _ _ _ | exact Kd.N_nil _ _ _ _ _ | exact Kd.V_nil _ _ _ _ _ | exact Kd.Q_nil _ _ _ _ _ | exact Kd.S_nil _ _ _ _ _⟩, ⟨by (with_reducible repeat (first | refine blk_drewN ?_ _ | refine blk_drew ?_ | refine blk_alloc ?_ _)); refine blk_far ?_ NB604_613.out _; (with_reducible repeat (first | refine blk_drewN ?_ _ | refine blk_drew ?_ | refine blk_alloc ?_ _)); refine blk_far ?_ NB604_613.out _; (with_reducible repeat (first | refine blk_drewN ?_ _ | refine blk_drew ?_ | refine blk_alloc ?_ _)); refine blk_far ?_ NB604_613.out _; (with_reducible repeat (first | refine blk_drewN ?_ _ | refine blk_drew ?_ | refine blk_alloc ?_ _)); refine blk_far ?_ NB604_613.out _; (with_reducible repeat (first | refine blk_drewN ?_ _ | refine blk_drew ?_ | refine blk_alloc ?_ _)); refine blk_far ?_ NB604_613.out _; (with_reducible repeat (first | refine blk_drewN ?_ _ | refine blk_drew ?_ | refine blk_alloc ?_ _)); exact BK604.out⟩, ⟨by (with_reducible repeat (first | refine blk_drewN ?_ _ | refine blk_drew ?_ | refine blk_alloc ?_ _)); refine blk_far ?_ NB605_613.out _; (with_reducible repeat (first | refine blk_drewN ?_ _ | refine blk_drew ?_ | refine blk_alloc ?_ _)); refine blk_far ?_ NB605_613.out _; (with_reducible repeat (first | refine blk_drewN ?_ _ | refine blk_drew ?_ | refine blk_alloc ?_ _)); refine blk_far ?_ NB605_613.out _; (with_reducible repeat (first | refine blk_drewN ?_ _ | refine blk_drew ?_ | refine blk_alloc ?_ _)); refine blk_far ?_ NB605_613.out _; (with_reducible repeat (first | refine blk_drewN ?_ _ | refine blk_drew ?_ | refine blk_alloc ?_ _)); refine blk_far ?_ NB605_613.out _; (with_reducible repeat (first | refine blk_drewN ?_ _ | refine blk_drew ?_ | refine blk_alloc ?_ _)); exact BK605.out⟩, ⟨by (with_reducible repeat (first | refine blk_drewN ?_ _ | refine blk_drew ?_ | refine blk_alloc ?_ _)); refine blk_far ?_ NB606_613.out _; (with_reducible repeat (first | refine blk_drewN ?_ _ | refine blk_drew ?_ | refine blk_alloc ?_ _)); refine blk_far ?_ NB606_613.out _; (with_reducible repeat (first | refine blk_drewN ?_ _ | refine blk_drew ?_ | refine blk_alloc ?_ _)); refine blk_far ?_ NB606_613.out _; (with_reducible repeat (first | refine blk_drewN ?_ _ | refine blk_drew ?_ | refine blk_alloc ?_ _)); refine blk_far ?_ NB606_613.out _; (with_reducible repeat (first | refine blk_drewN ?_ _ | refine blk_drew ?_ | refine blk_alloc ?_ _)); refine blk_far ?_ NB606_613.out _; (with_reducible repeat (first | refine blk_drewN ?_ _ | refine blk_drew ?_ | refine blk_alloc ?_ _)); exact BK606.out⟩, ⟨by (with_reducible repeat (first | refine blk_drewN ?_ _ | refine blk_drew ?_ | refine blk_alloc ?_ _)); refine blk_put (cs := #[.slice Ao14 y610.length co14, .int .i64 (wrap64 (a0_1 + a1_1)), .slice none 0 0, .slice none 0 0, .slice none 0 0]) ?_ 4 _ rfl; (with_reducible repeat (first | refine blk_drewN ?_ _ | refine blk_drew ?_ | refine blk_alloc ?_ _)); refine blk_put (cs := #[.slice Ao14 y610.length co14, .int .i64 (wrap64 (a0_1 + a1_1)), .slice none 0 0, .slice none 0 0, .slice none 0 0]) ?_ 3 _ rfl; (with_reducible repeat (first | refine blk_drewN ?_ _ | refine blk_drew ?_ | refine blk_alloc ?_ _)); refine blk_put (cs := #[.slice Ao14 y610.length co14, .int .i64 (wrap64 (a0_1 + a1_1)), .slice none 0 0, .slice none 0 0, .slice none 0 0]) ?_ 2 _ rfl; (with_reducible repeat (first | refine blk_drewN ?_ _ | refine blk_drew ?_ | refine blk_alloc ?_ _)); refine blk_put (cs := #[.slice Ao14 y610.length co14, .int .i64 0, .slice none 0 0, .slice none 0 0, .slice none 0 0]) ?_ 1 _ rfl; (with_reducible repeat (first | refine blk_drewN ?_ _ | refine blk_drew ?_ | refine blk_alloc ?_ _)); refine blk_put (cs := #[.slice none 0 0, .int .i64 0, .slice none 0 0, .slice none 0 0, .slice none 0 0]) ?_ 0 _ rfl; (with_reducible repeat (first | refine blk_drewN ?_ _ | refine blk_drew ?_ | refine blk_alloc ?_ _)); exact BK613.out⟩, ⟨by repeat (first | (with_reducible first | exact HB.out | apply below_alloc | apply pw_below_drewN | apply below_drew1 | refine below_set ?_ GE604.out | refine below_set ?_ GE605.out | refine below_set ?_ GE606.out | refine below_set ?_ GE613.out) | exact HB.out)⟩⟩
  case round =>
   clear H'
   try clear c1
   try clear p2
   try clear c3
   try clear p6
   obtain ⟨x6_1, x614002_1, x614003_1, x614004_1, u614002, u614003, u614004, rfl, HA, HK1, HO_614000, HO_614002, HO_614003, HO_614004, BK604, BK605, BK606, BK613, HB⟩ := hrel
   cases gk with
   | zero => exact absurd HA.out (by simp [hypercuberef2_Join.l0])
   | succ k1 =>
    have H := HA.out
    clear HA
    simp only [hypercuberef2_Join.l0] at H
    by_cases c20 : x6_1 < (l0_2.length : Int)
    ·rw [if_pos c20] at H
     have c20b0 : decide (x6_1 < (l0_2.length : Int)) = true := decide_eq_true c20
     clear c20
     by_cases c21 : 0 ≤ x6_1
     ·rw [if_pos c21] at H
      have c21b0 : decide (0 ≤ x6_1) = true := decide_eq_true c21
      clear c21
      by_cases c22 : x6_1 < (l1_2.length : Int)
      ·rw [if_pos c22] at H
       have c22b0 : decide (x6_1 < (l1_2.length : Int)) = true := decide_eq_true c22
       clear c22
       by_cases c23 : x614002_1.length < 17592186044416
       ·rw [if_pos c23] at H
        have LMc23 := am c23
        clear c23
        obtain ⟨y616, hy616⟩ : ∃ y_ : List Int, y_ = (x614002_1 ++ [wrap64 ((rd l0_2 x6_1) + (rd l1_2 x6_1))]) := ⟨_, rfl⟩
        replace H : (if x6_1 < (l0_3.length : Int) then (if x6_1 < (l1_3.length : Int) then (if x614003_1.length < 17592186044416 then (if x6_1 < (l0_4.length : Int) then (if x6_1 < (l1_4.length : Int) then (if x614004_1.length < 17592186044416 then (hypercuberef2_Join.l0 k1 (wrap64 (x6_1 + 1)) l0_0 a0_1 l0_2 l0_3 l0_4 l1_0 a1_1 l1_2 l1_3 l1_4 y610 (wrap64 (a0_1 + a1_1)) y616 (x614003_1 ++ [mn (rd l0_3 x6_1) (rd l1_3 x6_1)]) (x614004_1 ++ [mx (rd l0_4 x6_1) (rd l1_4 x6_1)])) else (none)) else (none)) else (none)) else (none)) else (none)) else (none)) = some (r1, r2, r3, r4, r5) := by rw [hy616]; with_reducible exact H
        have Ny616 := am hy616
        clear hy616
        by_cases c24 : x6_1 < (l0_3.length : Int)
        ·rw [if_pos c24] at H
         have c24b0 : decide (x6_1 < (l0_3.length : Int)) = true := decide_eq_true c24
         clear c24
         by_cases c25 : x6_1 < (l1_3.length : Int)
         ·rw [if_pos c25] at H
          have c25b0 : decide (x6_1 < (l1_3.length : Int)) = true := decide_eq_true c25
          clear c25
          obtain ⟨ji26, hji26⟩ : ∃ j_ : Int, (mn (rd l0_3 x6_1) (rd l1_3 x6_1)) = j_ := ⟨_, rfl⟩
          replace H : (if x614003_1.length < 17592186044416 then (if x6_1 < (l0_4.length : Int) then (if x6_1 < (l1_4.length : Int) then (if x614004_1.length < 17592186044416 then (hypercuberef2_Join.l0 k1 (wrap64 (x6_1 + 1)) l0_0 a0_1 l0_2 l0_3 l0_4 l1_0 a1_1 l1_2 l1_3 l1_4 y610 (wrap64 (a0_1 + a1_1)) y616 (x614003_1 ++ [ji26]) (x614004_1 ++ [mx (rd l0_4 x6_1) (rd l1_4 x6_1)])) else (none)) else (none)) else (none)) else (none)) = some (r1, r2, r3, r4, r5) := by first | (rw [hji26] at H; exact H) | (simp only [hji26] at H ⊢; exact H)
          have hji26_ : (if (rd l1_3 x6_1) < (rd l0_3 x6_1) then (rd l1_3 x6_1) else (rd l0_3 x6_1)) = ji26 := hji26
          by_cases c27 : x614003_1.length < 17592186044416
          ·rw [if_pos c27] at H
           have LMc27 := am c27
           clear c27
           obtain ⟨y621, hy621⟩ : ∃ y_ : List Int, y_ = (x614003_1 ++ [ji26]) := ⟨_, rfl⟩
           replace H : (if x6_1 < (l0_4.length : Int) then (if x6_1 < (l1_4.length : Int) then (if x614004_1.length < 17592186044416 then (hypercuberef2_Join.l0 k1 (wrap64 (x6_1 + 1)) l0_0 a0_1 l0_2 l0_3 l0_4 l1_0 a1_1 l1_2 l1_3 l1_4 y610 (wrap64 (a0_1 + a1_1)) y616 y621 (x614004_1 ++ [mx (rd l0_4 x6_1) (rd l1_4 x6_1)])) else (none)) else (none)) else (none)) = some (r1, r2, r3, r4, r5) := by rw [hy621]; with_reducible exact H
           have Ny621 := am hy621
           clear hy621
           by_cases c28 : x6_1 < (l0_4.length : Int)
           ·rw [if_pos c28] at H
            have c28b0 : decide (x6_1 < (l0_4.length : Int)) = true := decide_eq_true c28
            clear c28
            by_cases c29 : x6_1 < (l1_4.length : Int)
            ·rw [if_pos c29] at H
             have c29b0 : decide (x6_1 < (l1_4.length : Int)) = true := decide_eq_true c29
             clear c29
             obtain ⟨ji30, hji30⟩ : ∃ j_ : Int, (mx (rd l0_4 x6_1) (rd l1_4 x6_1)) = j_ := ⟨_, rfl⟩
             replace H : (if x614004_1.length < 17592186044416 then (hypercuberef2_Join.l0 k1 (wrap64 (x6_1 + 1)) l0_0 a0_1 l0_2 l0_3 l0_4 l1_0 a1_1 l1_2 l1_3 l1_4 y610 (wrap64 (a0_1 + a1_1)) y616 y621 (x614004_1 ++ [ji30])) else (none)) = some (r1, r2, r3, r4, r5) := by first | (rw [hji30] at H; exact H) | (simp only [hji30] at H ⊢; exact H)
             have hji30_ : (if (rd l0_4 x6_1) < (rd l1_4 x6_1) then (rd l1_4 x6_1) else (rd l0_4 x6_1)) = ji30 := hji30
             by_cases c31 : x614004_1.length < 17592186044416
             ·rw [if_pos c31] at H
              have LMc31 := am c31
              clear c31
              obtain ⟨y626, hy626⟩ : ∃ y_ : List Int, y_ = (x614004_1 ++ [ji30]) := ⟨_, rfl⟩
              replace H : (hypercuberef2_Join.l0 k1 (wrap64 (x6_1 + 1)) l0_0 a0_1 l0_2 l0_3 l0_4 l1_0 a1_1 l1_2 l1_3 l1_4 y610 (wrap64 (a0_1 + a1_1)) y616 y621 y626) = some (r1, r2, r3, r4, r5) := by rw [hy626]; with_reducible exact H
              have Ny626 := am hy626
              clear hy626
              have H' := am H
              clear H
              have hnb32 := NB604_605.out
              have hnc32 := NB605_604.out
              have hnb33 := NB604_606.out
              have hnc33 := NB606_604.out
              have hnb34 := NB604_613.out
              have hnc34 := NB613_604.out
              have hcz35_0 : wr.cell? ⟨gb604, 0, none⟩ = some (.slice A0_0 l0_0.length c0_0) := (blk_cell BK604.out 0).trans rfl
              have hcz35_1 : wr.cell? ⟨gb604, 1, none⟩ = some (.int .i64 a0_1) := (blk_cell BK604.out 1).trans rfl
              have hcz35_2 : wr.cell? ⟨gb604, 2, none⟩ = some (.slice A0_2 l0_2.length c0_2) := (blk_cell BK604.out 2).trans rfl
              have hcz35_3 : wr.cell? ⟨gb604, 3, none⟩ = some (.slice A0_3 l0_3.length c0_3) := (blk_cell BK604.out 3).trans rfl
              have hcz35_4 : wr.cell? ⟨gb604, 4, none⟩ = some (.slice A0_4 l0_4.length c0_4) := (blk_cell BK604.out 4).trans rfl
              have hfz35_0 := blk_frozen BK604.out 0
              have hfz35_1 := blk_frozen BK604.out 1
              have hfz35_2 := blk_frozen BK604.out 2
              have hfz35_3 := blk_frozen BK604.out 3
              have hfz35_4 := blk_frozen BK604.out 4
              try go_wp2
              have n0_ := am (Kd.R_drew HO_614000.out)
              have n1_ := am (Kd.R_drew HO_614002.out)
              have n2_ := am (Kd.R_drew HO_614003.out)
              have n3_ := am (Kd.R_drew HO_614004.out)
              have n4_ := am (blk_drew BK604.out)
              have n5_ := am (blk_drew BK605.out)
              have n6_ := am (blk_drew BK606.out)
              have n7_ := am (blk_drew BK613.out)
              have n8_ := am (below_drew1 HB.out)
              clear HO_614000 HO_614002 HO_614003 HO_614004 BK604 BK605 BK606 BK613 HB
              revert n0_ n1_ n2_ n3_ n4_ n5_ n6_ n7_ n8_
              intro HO_614000 HO_614002 HO_614003 HO_614004 BK604 BK605 BK606 BK613 HB
              have p614 : 0 ≤ (x6_1 : Int) := of_decide_eq_true (by first | (with_reducible assumption) | assumption)
              have q614 : x6_1 < (l0_2.length : Int) := of_decide_eq_true (by first | (with_reducible assumption) | assumption)
              obtain ⟨ad614, e614, hx614_0⟩ := Kd.at_int HR0_2.out x6_1 p614 q614
              have hw614_0 := hx614_0
              cases e614
              replace hx614_0 := (HB.out.cell (World.block_lt_of_cell? w _ hx614_0)).trans hx614_0
              replace p614 := eq_true p614
              replace q614 := eq_true q614
              have p615 : 0 ≤ (x6_1 : Int) := of_decide_eq_true (by first | (with_reducible assumption) | assumption)
              have q615 : x6_1 < (l1_2.length : Int) := of_decide_eq_true (by first | (with_reducible assumption) | assumption)
              obtain ⟨ad615, e615, hx615_0⟩ := Kd.at_int HR1_2.out x6_1 p615 q615
              have hw615_0 := hx615_0
              cases e615
              replace hx615_0 := (HB.out.cell (World.block_lt_of_cell? w _ hx615_0)).trans hx615_0
              replace p615 := eq_true p615
              replace q615 := eq_true q615
              refine start_ (n := 17) (S := fun w' => w'.cell? ⟨gb613, 0, none⟩ = some (.slice Ao14 y610.length co14) ∧ w'.cell? ⟨gb613, 1, none⟩ = some (.int .i64 (wrap64 (a0_1 + a1_1))) ∧ w'.cell? ⟨gb613, 2, none⟩ = some (u614002) ∧ w'.cell? ⟨gb613, 3, none⟩ = some (u614003) ∧ w'.cell? ⟨gb613, 4, none⟩ = some (u614004) ∧ w'.cell? ⟨gb604, 0, none⟩ = some (.slice A0_0 l0_0.length c0_0) ∧ w'.cell? ⟨gb604, 1, none⟩ = some (.int .i64 a0_1) ∧ w'.cell? ⟨gb604, 2, none⟩ = some (.slice (some ad614) l0_2.length c0_2) ∧ w'.cell? ⟨gb604, 3, none⟩ = some (.slice A0_3 l0_3.length c0_3) ∧ w'.cell? ⟨gb604, 4, none⟩ = some (.slice A0_4 l0_4.length c0_4) ∧ w'.cell? ⟨gb605, 0, none⟩ = some (.slice A1_0 l1_0.length c1_0) ∧ w'.cell? ⟨gb605, 1, none⟩ = some (.int .i64 a1_1) ∧ w'.cell? ⟨gb605, 2, none⟩ = some (.slice (some ad615) l1_2.length c1_2) ∧ w'.cell? ⟨gb605, 3, none⟩ = some (.slice A1_3 l1_3.length c1_3) ∧ w'.cell? ⟨gb605, 4, none⟩ = some (.slice A1_4 l1_4.length c1_4) ∧ w'.cell? (ad614.add (x6_1).toNat) = some (.int .i64 (rd l0_2 x6_1)) ∧ w'.cell? (ad615.add (x6_1).toNat) = some (.int .i64 (rd l1_2 x6_1))) (ds := [16]) (bb 17 0) (by kernel_rfl) rfl rfl ⟨bc BK613 0, bc BK613 1, bc BK613 2, bc BK613 3, bc BK613 4, bc BK604 0, bc BK604 1, bc BK604 2, bc BK604 3, bc BK604 4, bc BK605 0, bc BK605 1, bc BK605 2, bc BK605 3, bc BK605 4, ((HB.out.cell (World.block_lt_of_cell? w _ hw614_0)).trans hw614_0), ((HB.out.cell (World.block_lt_of_cell? w _ hw615_0)).trans hw615_0)⟩ (fun hHeld => ?_); refine with_tabW hypercuberef2_Join.tab5 hypercuberef2_Join.bits5 (fun HT_ HW_ => ?_)
              generalize wr.drew = w36 at HO_614000 HO_614002 HO_614003 HO_614004 BK604 BK605 BK606 BK613 HB hx614_0 hx615_0 hHeld ⊢
              refine pu (i := 0) (N := some 24) (bb 17 1) HT_ ?_
              refine pu (i := 2) (N := some 26) (bb 17 5) HT_ ?_
              refine pu (i := 4) (N := some 28) (bb 17 21) HT_ ?_
              refine pu (i := 7) (N := some 31) (bb 17 149) HT_ ?_
              refine pu (i := 9) (N := some 33) (bb 17 661) HT_ ?_
              refine tk (i := 1) (N := some 25) (bb 17 663) HT_ HW_ hHeld ?_
              refine tk (i := 3) (N := some 27) (bb 17 671) HT_ HW_ hHeld ?_
              refine pu (i := 5) (N := some 29) (bb 17 703) HT_ ?_
              refine tk (i := 6) (N := some 30) (bb 17 767) HT_ HW_ hHeld ?_
              refine tk (i := 8) (N := some 32) (bb 17 1023) HT_ HW_ hHeld ?_
              refine pu (i := 10) (N := some 34) (bb 17 2047) HT_ ?_
              refine tk (i := 11) (N := some 35) (bb 17 4095) HT_ HW_ hHeld ?_
              refine pu (i := 12) (N := some 36) (bb 17 8191) HT_ ?_
              refine one_ (i := 13) (N := some 37) (bb 17 16383) rfl rfl (one_of HT_.out (by kernel_rfl)) (by decide) (fun K hK => ?_)
              refine value_ (w1 := ?_) (v := ?_) (by rfl) rfl ?_ ?_
              rotate_left 2
              ·go_simp
               constructor
               ·rfl
               ·rfl
              refine hK.out _ _ ⟨(blk_cell (blk_alloc BK613.out _) 0).trans rfl, (blk_cell (blk_alloc BK613.out _) 1).trans rfl, (blk_cell (blk_alloc BK613.out _) 2).trans rfl, (blk_cell (blk_alloc BK613.out _) 3).trans rfl, (blk_cell (blk_alloc BK613.out _) 4).trans rfl, (blk_cell (blk_alloc BK604.out _) 0).trans rfl, (blk_cell (blk_alloc BK604.out _) 1).trans rfl, (blk_cell (blk_alloc BK604.out _) 2).trans rfl, (blk_cell (blk_alloc BK604.out _) 3).trans rfl, (blk_cell (blk_alloc BK604.out _) 4).trans rfl, (blk_cell (blk_alloc BK605.out _) 0).trans rfl, (blk_cell (blk_alloc BK605.out _) 1).trans rfl, (blk_cell (blk_alloc BK605.out _) 2).trans rfl, (blk_cell (blk_alloc BK605.out _) 3).trans rfl, (blk_cell (blk_alloc BK605.out _) 4).trans rfl, (World.cell?_alloc_lt _ _ _ (World.block_lt_of_cell? _ _ (((HB.out.cell (World.block_lt_of_cell? w _ hw614_0)).trans hw614_0)))).trans (((HB.out.cell (World.block_lt_of_cell? w _ hw614_0)).trans hw614_0)), (World.cell?_alloc_lt _ _ _ (World.block_lt_of_cell? _ _ (((HB.out.cell (World.block_lt_of_cell? w _ hw615_0)).trans hw615_0)))).trans (((HB.out.cell (World.block_lt_of_cell? w _ hw615_0)).trans hw615_0))⟩ (fun hHeld => ?_)
              clear hK K
              refine nm ?_
              refine one_ (i := 14) (N := some 38) (bb 17 32767) rfl rfl (one_of HT_.out (by kernel_rfl)) (by decide) (fun K hK => ?_)
              refine Kd.R_append_step (Kd.int .i64) (w0 := w) w.heap.size (by rfl) (.tmp 25) (.tmp 37) 22 3 (.int .i64 0) 8 rfl Try.underlying22 info3 rfl (by decide) (by omega) u614002 x614002_1 (wrap64 ((rd l0_2 x6_1) + (rd l1_2 x6_1))) [.int .i64 (wrap64 ((rd l0_2 x6_1) + (rd l1_2 x6_1)))] (fun k_ => some k_ ≠ (.slice Ao14 y610.length co14 : Value).ownBlock ∧ some k_ ≠ (u614003 : Value).ownBlock ∧ some k_ ≠ (u614004 : Value).ownBlock) (fun _ => False) rfl rfl ?aP (fun _ hk => hk.elim) ?aF ?aO ?aB ?aS ?aL ?_
              (case aP => exact rfl)
              (case aB => exact (wmv HB.out))
              (case aF => exact (fun k_ hk => ⟨Kd.fresh' (Kd.R_lt (Kd.R_mv HO_614000.out)) k_ hk, Kd.fresh' (Kd.R_lt (Kd.R_mv HO_614003.out)) k_ hk, Kd.fresh' (Kd.R_lt (Kd.R_mv HO_614004.out)) k_ hk⟩))
              (case aO => exact (Kd.R_mv HO_614002.out))
              (case aS => exact (below_size (wmv HB.out)))
              (case aL => have := LMc23.out; omega)
              intro v617 w37 ho hb hg hat
              rw [← Ny616.out] at ho
              have n0_ := am (Kd.R_after (ok := (fun k_ => some k_ ≠ (u614003 : Value).ownBlock ∧ some k_ ≠ (u614004 : Value).ownBlock)) (Kd.R_mv (Kd.R_mono HO_614000.out (fun _ hk => ⟨⟨hk.2.1, hk.2.2⟩, hk.1⟩))) hg hat)
              have n1_ := am (Kd.R_after (ok := (fun k_ => some k_ ≠ (.slice Ao14 y610.length co14 : Value).ownBlock ∧ some k_ ≠ (u614004 : Value).ownBlock)) (Kd.R_mv (Kd.R_mono HO_614003.out (fun _ hk => ⟨⟨hk.1, hk.2.2⟩, hk.2.1⟩))) hg hat)
              have n2_ := am (Kd.R_after (ok := (fun k_ => some k_ ≠ (.slice Ao14 y610.length co14 : Value).ownBlock ∧ some k_ ≠ (u614003 : Value).ownBlock)) (Kd.R_mv (Kd.R_mono HO_614004.out (fun _ hk => ⟨⟨hk.1, hk.2.2⟩, hk.2.1⟩))) hg hat)
              have n3_ := am (blk_grown (bmv BK604.out) hg (Kd.R_ne HO_614002.out BK604.out (by decide)))
              have n4_ := am (blk_grown (bmv BK605.out) hg (Kd.R_ne HO_614002.out BK605.out (by decide)))
              have n5_ := am (blk_grown (bmv BK606.out) hg (Kd.R_ne HO_614002.out BK606.out (by decide)))
              have n6_ := am (blk_grown (bmv BK613.out) hg (Kd.R_ne HO_614002.out BK613.out (by decide)))
              have n7_ := am (hb)
              have n8_ := am (ho)
              clear HO_614000 HO_614003 HO_614004 BK604 BK605 BK606 BK613 HB HO_614002
              revert n0_ n1_ n2_ n3_ n4_ n5_ n6_ n7_ n8_
              intro HO_614000 HO_614003 HO_614004 BK604 BK605 BK606 BK613 HB HO618
              clear ho hb hg hat
              obtain ⟨Ao38, co38, eo38⟩ := Kd.R_slice HO618.out
              (first | subst eo38 | (injection eo38 with f1_ f2_ f3_; have f4_ := f1_.symm; have f5_ := f3_.symm; clear f1_ f2_ f3_; subst f4_; subst f5_))
              refine hK.out _ _ ⟨bc BK613 0, bc BK613 1, bc BK613 2, bc BK613 3, bc BK613 4, bc BK604 0, bc BK604 1, bc BK604 2, bc BK604 3, bc BK604 4, bc BK605 0, bc BK605 1, bc BK605 2, bc BK605 3, bc BK605 4, ((HB.out.cell (World.block_lt_of_cell? w _ hw614_0)).trans hw614_0), ((HB.out.cell (World.block_lt_of_cell? w _ hw615_0)).trans hw615_0)⟩ (fun hHeld => ?_)
              clear hK K
              refine nm ?_
              refine pu (i := 15) (N := some 39) (bb 17 65535) HT_ ?_
              refine last_ (i := 16) (N := none) (bb 17 131071) rfl rfl (one_of HT_.out (by kernel_rfl)) (by decide) (fun K hK => ?_)
              have hs39 : w37.cell? ⟨gb613, 2, none⟩ = some (u614002) := (blk_cell BK613.out 2).trans rfl
              have hfs39 := blk_frozen BK613.out 2
              have hns39_0 := NB604_613.out
              have hns39_1 := NB605_613.out
              have hns39_2 := NB606_613.out
              have hms39_0 := NB613_604.out
              have hms39_1 := NB613_605.out
              have hms39_2 := NB613_606.out
              refine skip_ (w1 := ?_) (by rfl) rfl ?_ ?_
              rotate_left
              ·go_simp
               rfl
              refine hK.out _ _ ?_
              clear hK K
              refine done_ (done_of HT_.out (by kernel_rfl)) ?_
              try go_wp2
              have n0_ : Aside0 (Kd.R (Kd.int .i64) 3 (w37.setCell ⟨gb613, 2, none⟩ (.slice Ao38 y616.length co38)) w.heap.size (fun k_ => some k_ ≠ (u614003 : Value).ownBlock ∧ some k_ ≠ (u614004 : Value).ownBlock ∧ some k_ ≠ (.slice Ao38 y616.length co38 : Value).ownBlock) (.slice Ao14 y610.length co14) y610) := ⟨by (with_reducible repeat (first | apply Kd.R_alloc | apply Kd.R_drewN | apply Kd.R_drew)); exact Kd.R_mono (Kd.R_far (p := ⟨gb613, 2, none⟩) (Kd.R_types HO_614000.out BK613.out (by decide)) (fun _ hk => hk.2) (.slice Ao38 y616.length co38)) (fun _ hk => ⟨hk.1.1.1, ⟨hk.1.1.2, hk.1.2⟩⟩)⟩
              have n1_ : Aside0 (Kd.R (Kd.int .i64) 3 (w37.setCell ⟨gb613, 2, none⟩ (.slice Ao38 y616.length co38)) w.heap.size (fun k_ => some k_ ≠ (.slice Ao14 y610.length co14 : Value).ownBlock ∧ some k_ ≠ (u614004 : Value).ownBlock ∧ some k_ ≠ (.slice Ao38 y616.length co38 : Value).ownBlock) u614003 x614003_1) := ⟨by (with_reducible repeat (first | apply Kd.R_alloc | apply Kd.R_drewN | apply Kd.R_drew)); exact Kd.R_mono (Kd.R_far (p := ⟨gb613, 2, none⟩) (Kd.R_types HO_614003.out BK613.out (by decide)) (fun _ hk => hk.2) (.slice Ao38 y616.length co38)) (fun _ hk => ⟨hk.1.1.1, ⟨hk.1.1.2, hk.1.2⟩⟩)⟩
              have n2_ : Aside0 (Kd.R (Kd.int .i64) 3 (w37.setCell ⟨gb613, 2, none⟩ (.slice Ao38 y616.length co38)) w.heap.size (fun k_ => some k_ ≠ (.slice Ao14 y610.length co14 : Value).ownBlock ∧ some k_ ≠ (u614003 : Value).ownBlock ∧ some k_ ≠ (.slice Ao38 y616.length co38 : Value).ownBlock) u614004 x614004_1) := ⟨by (with_reducible repeat (first | apply Kd.R_alloc | apply Kd.R_drewN | apply Kd.R_drew)); exact Kd.R_mono (Kd.R_far (p := ⟨gb613, 2, none⟩) (Kd.R_types HO_614004.out BK613.out (by decide)) (fun _ hk => hk.2) (.slice Ao38 y616.length co38)) (fun _ hk => ⟨hk.1.1.1, ⟨hk.1.1.2, hk.1.2⟩⟩)⟩
              have n3_ : Aside0 (Kd.R (Kd.int .i64) 3 (w37.setCell ⟨gb613, 2, none⟩ (.slice Ao38 y616.length co38)) w.heap.size (fun k_ => some k_ ≠ (.slice Ao14 y610.length co14 : Value).ownBlock ∧ some k_ ≠ (u614003 : Value).ownBlock ∧ some k_ ≠ (u614004 : Value).ownBlock) (.slice Ao38 y616.length co38) y616) := ⟨by (with_reducible repeat (first | apply Kd.R_alloc | apply Kd.R_drewN | apply Kd.R_drew)); exact Kd.R_mono (Kd.R_far (p := ⟨gb613, 2, none⟩) (Kd.R_types HO618.out BK613.out (by decide)) (fun _ hk => hk.2) (.slice Ao38 y616.length co38)) (fun _ hk => ⟨hk.1.1, ⟨hk.1.2.1, hk.1.2.2⟩⟩)⟩
              have n4_ : Aside0 ((w37.setCell ⟨gb613, 2, none⟩ (.slice Ao38 y616.length co38)).heap[gb604]? = some (.cells #[.slice A0_0 l0_0.length c0_0, .int .i64 a0_1, .slice (some ad614) l0_2.length c0_2, .slice A0_3 l0_3.length c0_3, .slice A0_4 l0_4.length c0_4] 30 (0, 0))) := ⟨by (with_reducible repeat (first | refine blk_drewN ?_ _ | refine blk_drew ?_ | refine blk_alloc ?_ _)); refine blk_far ?_ NB604_613.out _; (with_reducible repeat (first | refine blk_drewN ?_ _ | refine blk_drew ?_ | refine blk_alloc ?_ _)); exact BK604.out⟩
              have n5_ : Aside0 ((w37.setCell ⟨gb613, 2, none⟩ (.slice Ao38 y616.length co38)).heap[gb605]? = some (.cells #[.slice A1_0 l1_0.length c1_0, .int .i64 a1_1, .slice (some ad615) l1_2.length c1_2, .slice A1_3 l1_3.length c1_3, .slice A1_4 l1_4.length c1_4] 30 (0, 0))) := ⟨by (with_reducible repeat (first | refine blk_drewN ?_ _ | refine blk_drew ?_ | refine blk_alloc ?_ _)); refine blk_far ?_ NB605_613.out _; (with_reducible repeat (first | refine blk_drewN ?_ _ | refine blk_drew ?_ | refine blk_alloc ?_ _)); exact BK605.out⟩
              have n6_ : Aside0 ((w37.setCell ⟨gb613, 2, none⟩ (.slice Ao38 y616.length co38)).heap[gb606]? = some (.cells #[.slice none 0 0, .int .i64 0, .slice none 0 0, .slice none 0 0, .slice none 0 0] 30 (0, 0))) := ⟨by (with_reducible repeat (first | refine blk_drewN ?_ _ | refine blk_drew ?_ | refine blk_alloc ?_ _)); refine blk_far ?_ NB606_613.out _; (with_reducible repeat (first | refine blk_drewN ?_ _ | refine blk_drew ?_ | refine blk_alloc ?_ _)); exact BK606.out⟩
              have n7_ : Aside0 ((w37.setCell ⟨gb613, 2, none⟩ (.slice Ao38 y616.length co38)).heap[gb613]? = some (.cells #[.slice Ao14 y610.length co14, .int .i64 (wrap64 (a0_1 + a1_1)), .slice Ao38 y616.length co38, u614003, u614004] 30 (0, 0))) := ⟨by (with_reducible repeat (first | refine blk_drewN ?_ _ | refine blk_drew ?_ | refine blk_alloc ?_ _)); refine blk_put (cs := #[.slice Ao14 y610.length co14, .int .i64 (wrap64 (a0_1 + a1_1)), u614002, u614003, u614004]) ?_ 2 _ rfl; (with_reducible repeat (first | refine blk_drewN ?_ _ | refine blk_drew ?_ | refine blk_alloc ?_ _)); exact BK613.out⟩
              have n8_ : Aside0 (Below w.heap.size w (w37.setCell ⟨gb613, 2, none⟩ (.slice Ao38 y616.length co38))) := ⟨by repeat (first | (with_reducible first | exact HB.out | apply below_alloc | apply pw_below_drewN | apply below_drew1 | refine below_set ?_ GE604.out | refine below_set ?_ GE605.out | refine below_set ?_ GE606.out | refine below_set ?_ GE613.out) | exact HB.out)⟩
              (try clear HO_614000)
              (try clear HO_614003)
              (try clear HO_614004)
              (try clear HO618)
              (try clear BK604)
              (try clear BK605)
              (try clear BK606)
              (try clear BK613)
              (try clear HB)
              generalize (w37.setCell ⟨gb613, 2, none⟩ (.slice Ao38 y616.length co38)) = w40 at n0_ n1_ n2_ n3_ n4_ n5_ n6_ n7_ n8_ ⊢
              revert n0_ n1_ n2_ n3_ n4_ n5_ n6_ n7_ n8_
              intro HO_614000 HO_614003 HO_614004 HO618 BK604 BK605 BK606 BK613 HB
              have n0_ := am (Kd.R_drew HO_614000.out)
              have n1_ := am (Kd.R_drew HO_614003.out)
              have n2_ := am (Kd.R_drew HO_614004.out)
              have n3_ := am (Kd.R_drew HO618.out)
              have n4_ := am (blk_drew BK604.out)
              have n5_ := am (blk_drew BK605.out)
              have n6_ := am (blk_drew BK606.out)
              have n7_ := am (blk_drew BK613.out)
              have n8_ := am (below_drew1 HB.out)
              clear HO_614000 HO_614003 HO_614004 HO618 BK604 BK605 BK606 BK613 HB
              revert n0_ n1_ n2_ n3_ n4_ n5_ n6_ n7_ n8_
              intro HO_614000 HO_614003 HO_614004 HO618 BK604 BK605 BK606 BK613 HB
              have p619 : 0 ≤ (x6_1 : Int) := of_decide_eq_true (by first | (with_reducible assumption) | assumption)
              have q619 : x6_1 < (l0_3.length : Int) := of_decide_eq_true (by first | (with_reducible assumption) | assumption)
              obtain ⟨ad619, e619, hx619_0⟩ := Kd.at_int HR0_3.out x6_1 p619 q619
              have hw619_0 := hx619_0
              cases e619
              replace hx619_0 := (HB.out.cell (World.block_lt_of_cell? w _ hx619_0)).trans hx619_0
              replace p619 := eq_true p619
              replace q619 := eq_true q619
              have p620 : 0 ≤ (x6_1 : Int) := of_decide_eq_true (by first | (with_reducible assumption) | assumption)
              have q620 : x6_1 < (l1_3.length : Int) := of_decide_eq_true (by first | (with_reducible assumption) | assumption)
              obtain ⟨ad620, e620, hx620_0⟩ := Kd.at_int HR1_3.out x6_1 p620 q620
              have hw620_0 := hx620_0
              cases e620
              replace hx620_0 := (HB.out.cell (World.block_lt_of_cell? w _ hx620_0)).trans hx620_0
              replace p620 := eq_true p620
              replace q620 := eq_true q620
              refine start_ (n := 17) (S := fun w' => w'.cell? ⟨gb613, 0, none⟩ = some (.slice Ao14 y610.length co14) ∧ w'.cell? ⟨gb613, 1, none⟩ = some (.int .i64 (wrap64 (a0_1 + a1_1))) ∧ w'.cell? ⟨gb613, 2, none⟩ = some (.slice Ao38 y616.length co38) ∧ w'.cell? ⟨gb613, 3, none⟩ = some (u614003) ∧ w'.cell? ⟨gb613, 4, none⟩ = some (u614004) ∧ w'.cell? ⟨gb604, 0, none⟩ = some (.slice A0_0 l0_0.length c0_0) ∧ w'.cell? ⟨gb604, 1, none⟩ = some (.int .i64 a0_1) ∧ w'.cell? ⟨gb604, 2, none⟩ = some (.slice (some ad614) l0_2.length c0_2) ∧ w'.cell? ⟨gb604, 3, none⟩ = some (.slice (some ad619) l0_3.length c0_3) ∧ w'.cell? ⟨gb604, 4, none⟩ = some (.slice A0_4 l0_4.length c0_4) ∧ w'.cell? ⟨gb605, 0, none⟩ = some (.slice A1_0 l1_0.length c1_0) ∧ w'.cell? ⟨gb605, 1, none⟩ = some (.int .i64 a1_1) ∧ w'.cell? ⟨gb605, 2, none⟩ = some (.slice (some ad615) l1_2.length c1_2) ∧ w'.cell? ⟨gb605, 3, none⟩ = some (.slice (some ad620) l1_3.length c1_3) ∧ w'.cell? ⟨gb605, 4, none⟩ = some (.slice A1_4 l1_4.length c1_4) ∧ w'.cell? (ad619.add (x6_1).toNat) = some (.int .i64 (rd l0_3 x6_1)) ∧ w'.cell? (ad620.add (x6_1).toNat) = some (.int .i64 (rd l1_3 x6_1))) (ds := [16]) (bb 17 0) (by kernel_rfl) rfl rfl ⟨bc BK613 0, bc BK613 1, bc BK613 2, bc BK613 3, bc BK613 4, bc BK604 0, bc BK604 1, bc BK604 2, bc BK604 3, bc BK604 4, bc BK605 0, bc BK605 1, bc BK605 2, bc BK605 3, bc BK605 4, ((HB.out.cell (World.block_lt_of_cell? w _ hw619_0)).trans hw619_0), ((HB.out.cell (World.block_lt_of_cell? w _ hw620_0)).trans hw620_0)⟩ (fun hHeld => ?_); refine with_tabW hypercuberef2_Join.tab6 hypercuberef2_Join.bits6 (fun HT_ HW_ => ?_)
              generalize w40.drew = w41 at HO_614000 HO_614003 HO_614004 HO618 BK604 BK605 BK606 BK613 HB hx619_0 hx620_0 hHeld ⊢
              refine pu (i := 0) (N := some 40) (bb 17 1) HT_ ?_
              refine pu (i := 2) (N := some 42) (bb 17 5) HT_ ?_
              refine pu (i := 4) (N := some 44) (bb 17 21) HT_ ?_
              refine pu (i := 7) (N := some 47) (bb 17 149) HT_ ?_
              refine pu (i := 9) (N := some 49) (bb 17 661) HT_ ?_
              refine tk (i := 1) (N := some 41) (bb 17 663) HT_ HW_ hHeld ?_
              refine tk (i := 3) (N := some 43) (bb 17 671) HT_ HW_ hHeld ?_
              refine pu (i := 5) (N := some 45) (bb 17 703) HT_ ?_
              refine tk (i := 6) (N := some 46) (bb 17 767) HT_ HW_ hHeld ?_
              refine tk (i := 8) (N := some 48) (bb 17 1023) HT_ HW_ hHeld ?_
              refine pu (i := 10) (N := some 50) (bb 17 2047) HT_ ?_
              refine tk (i := 11) (N := some 51) (bb 17 4095) HT_ HW_ hHeld ?_
              refine pu (i := 12) (N := some 52) (bb 17 8191) HT_ ?_
              refine one_ (i := 13) (N := some 53) (bb 17 16383) rfl rfl (one_of HT_.out (by kernel_rfl)) (by decide) (fun K hK => ?_)
              refine value_ (w1 := ?_) (v := ?_) (by rfl) rfl ?_ ?_
              rotate_left 2
              ·go_simp
               constructor
               ·rfl
               ·rfl
              refine hK.out _ _ ⟨(blk_cell (blk_alloc BK613.out _) 0).trans rfl, (blk_cell (blk_alloc BK613.out _) 1).trans rfl, (blk_cell (blk_alloc BK613.out _) 2).trans rfl, (blk_cell (blk_alloc BK613.out _) 3).trans rfl, (blk_cell (blk_alloc BK613.out _) 4).trans rfl, (blk_cell (blk_alloc BK604.out _) 0).trans rfl, (blk_cell (blk_alloc BK604.out _) 1).trans rfl, (blk_cell (blk_alloc BK604.out _) 2).trans rfl, (blk_cell (blk_alloc BK604.out _) 3).trans rfl, (blk_cell (blk_alloc BK604.out _) 4).trans rfl, (blk_cell (blk_alloc BK605.out _) 0).trans rfl, (blk_cell (blk_alloc BK605.out _) 1).trans rfl, (blk_cell (blk_alloc BK605.out _) 2).trans rfl, (blk_cell (blk_alloc BK605.out _) 3).trans rfl, (blk_cell (blk_alloc BK605.out _) 4).trans rfl, (World.cell?_alloc_lt _ _ _ (World.block_lt_of_cell? _ _ (((HB.out.cell (World.block_lt_of_cell? w _ hw619_0)).trans hw619_0)))).trans (((HB.out.cell (World.block_lt_of_cell? w _ hw619_0)).trans hw619_0)), (World.cell?_alloc_lt _ _ _ (World.block_lt_of_cell? _ _ (((HB.out.cell (World.block_lt_of_cell? w _ hw620_0)).trans hw620_0)))).trans (((HB.out.cell (World.block_lt_of_cell? w _ hw620_0)).trans hw620_0))⟩ (fun hHeld => ?_)
              clear hK K
              refine nm ?_
              refine one_ (i := 14) (N := some 54) (bb 17 32767) rfl rfl (one_of HT_.out (by kernel_rfl)) (by decide) (fun K hK => ?_)
              refine Kd.R_append_step (Kd.int .i64) (w0 := w) w.heap.size (by rfl) (.tmp 41) (.tmp 53) 22 3 (.int .i64 0) 8 rfl Try.underlying22 info3 rfl (by decide) (by omega) u614003 x614003_1 ji26 [.int .i64 ji26] (fun k_ => some k_ ≠ (.slice Ao14 y610.length co14 : Value).ownBlock ∧ some k_ ≠ (u614004 : Value).ownBlock ∧ some k_ ≠ (.slice Ao38 y616.length co38 : Value).ownBlock) (fun _ => False) rfl rfl ?aP (fun _ hk => hk.elim) ?aF ?aO ?aB ?aS ?aL ?_
              (case aP => exact rfl)
              (case aB => exact (wmv HB.out))
              (case aF => exact (fun k_ hk => ⟨Kd.fresh' (Kd.R_lt (Kd.R_mv HO_614000.out)) k_ hk, Kd.fresh' (Kd.R_lt (Kd.R_mv HO_614004.out)) k_ hk, Kd.fresh' (Kd.R_lt (Kd.R_mv HO618.out)) k_ hk⟩))
              (case aO => exact (Kd.R_mv HO_614003.out))
              (case aS => exact (below_size (wmv HB.out)))
              (case aL => have := LMc27.out; omega)
              intro v622 w42 ho hb hg hat
              rw [← Ny621.out] at ho
              have n0_ := am (Kd.R_after (ok := (fun k_ => some k_ ≠ (u614004 : Value).ownBlock ∧ some k_ ≠ (.slice Ao38 y616.length co38 : Value).ownBlock)) (Kd.R_mv (Kd.R_mono HO_614000.out (fun _ hk => ⟨⟨hk.2.1, hk.2.2⟩, hk.1⟩))) hg hat)
              have n1_ := am (Kd.R_after (ok := (fun k_ => some k_ ≠ (.slice Ao14 y610.length co14 : Value).ownBlock ∧ some k_ ≠ (.slice Ao38 y616.length co38 : Value).ownBlock)) (Kd.R_mv (Kd.R_mono HO_614004.out (fun _ hk => ⟨⟨hk.1, hk.2.2⟩, hk.2.1⟩))) hg hat)
              have n2_ := am (blk_grown (bmv BK604.out) hg (Kd.R_ne HO_614003.out BK604.out (by decide)))
              have n3_ := am (blk_grown (bmv BK605.out) hg (Kd.R_ne HO_614003.out BK605.out (by decide)))
              have n4_ := am (blk_grown (bmv BK606.out) hg (Kd.R_ne HO_614003.out BK606.out (by decide)))
              have n5_ := am (blk_grown (bmv BK613.out) hg (Kd.R_ne HO_614003.out BK613.out (by decide)))
              have n6_ := am (Kd.R_after (ok := (fun k_ => some k_ ≠ (.slice Ao14 y610.length co14 : Value).ownBlock ∧ some k_ ≠ (u614004 : Value).ownBlock)) (Kd.R_mv (Kd.R_mono HO618.out (fun _ hk => ⟨⟨hk.1, hk.2.2⟩, hk.2.1⟩))) hg hat)
              have n7_ := am (hb)
              have n8_ := am (ho)
              clear HO_614000 HO_614004 BK604 BK605 BK606 BK613 HO618 HB HO_614003
              revert n0_ n1_ n2_ n3_ n4_ n5_ n6_ n7_ n8_
              intro HO_614000 HO_614004 BK604 BK605 BK606 BK613 HO618 HB HO623
              clear ho hb hg hat
              obtain ⟨Ao43, co43, eo43⟩ := Kd.R_slice HO623.out
              (first | subst eo43 | (injection eo43 with f1_ f2_ f3_; have f4_ := f1_.symm; have f5_ := f3_.symm; clear f1_ f2_ f3_; subst f4_; subst f5_))
              refine hK.out _ _ ⟨bc BK613 0, bc BK613 1, bc BK613 2, bc BK613 3, bc BK613 4, bc BK604 0, bc BK604 1, bc BK604 2, bc BK604 3, bc BK604 4, bc BK605 0, bc BK605 1, bc BK605 2, bc BK605 3, bc BK605 4, ((HB.out.cell (World.block_lt_of_cell? w _ hw619_0)).trans hw619_0), ((HB.out.cell (World.block_lt_of_cell? w _ hw620_0)).trans hw620_0)⟩ (fun hHeld => ?_)
              clear hK K
              refine nm ?_
              refine pu (i := 15) (N := some 55) (bb 17 65535) HT_ ?_
              refine last_ (i := 16) (N := none) (bb 17 131071) rfl rfl (one_of HT_.out (by kernel_rfl)) (by decide) (fun K hK => ?_)
              have hs44 : w42.cell? ⟨gb613, 3, none⟩ = some (u614003) := (blk_cell BK613.out 3).trans rfl
              have hfs44 := blk_frozen BK613.out 3
              have hns44_0 := NB604_613.out
              have hns44_1 := NB605_613.out
              have hns44_2 := NB606_613.out
              have hms44_0 := NB613_604.out
              have hms44_1 := NB613_605.out
              have hms44_2 := NB613_606.out
              refine skip_ (w1 := ?_) (by rfl) rfl ?_ ?_
              rotate_left
              ·go_simp
               rfl
              refine hK.out _ _ ?_
              clear hK K
              refine done_ (done_of HT_.out (by kernel_rfl)) ?_
              try go_wp2
              have n0_ : Aside0 (Kd.R (Kd.int .i64) 3 (w42.setCell ⟨gb613, 3, none⟩ (.slice Ao43 y621.length co43)) w.heap.size (fun k_ => some k_ ≠ (u614004 : Value).ownBlock ∧ some k_ ≠ (.slice Ao38 y616.length co38 : Value).ownBlock ∧ some k_ ≠ (.slice Ao43 y621.length co43 : Value).ownBlock) (.slice Ao14 y610.length co14) y610) := ⟨by (with_reducible repeat (first | apply Kd.R_alloc | apply Kd.R_drewN | apply Kd.R_drew)); exact Kd.R_mono (Kd.R_far (p := ⟨gb613, 3, none⟩) (Kd.R_types HO_614000.out BK613.out (by decide)) (fun _ hk => hk.2) (.slice Ao43 y621.length co43)) (fun _ hk => ⟨hk.1.1.1, ⟨hk.1.1.2, hk.1.2⟩⟩)⟩
              have n1_ : Aside0 (Kd.R (Kd.int .i64) 3 (w42.setCell ⟨gb613, 3, none⟩ (.slice Ao43 y621.length co43)) w.heap.size (fun k_ => some k_ ≠ (.slice Ao14 y610.length co14 : Value).ownBlock ∧ some k_ ≠ (.slice Ao38 y616.length co38 : Value).ownBlock ∧ some k_ ≠ (.slice Ao43 y621.length co43 : Value).ownBlock) u614004 x614004_1) := ⟨by (with_reducible repeat (first | apply Kd.R_alloc | apply Kd.R_drewN | apply Kd.R_drew)); exact Kd.R_mono (Kd.R_far (p := ⟨gb613, 3, none⟩) (Kd.R_types HO_614004.out BK613.out (by decide)) (fun _ hk => hk.2) (.slice Ao43 y621.length co43)) (fun _ hk => ⟨hk.1.1.1, ⟨hk.1.1.2, hk.1.2⟩⟩)⟩
              have n2_ : Aside0 (Kd.R (Kd.int .i64) 3 (w42.setCell ⟨gb613, 3, none⟩ (.slice Ao43 y621.length co43)) w.heap.size (fun k_ => some k_ ≠ (.slice Ao14 y610.length co14 : Value).ownBlock ∧ some k_ ≠ (u614004 : Value).ownBlock ∧ some k_ ≠ (.slice Ao43 y621.length co43 : Value).ownBlock) (.slice Ao38 y616.length co38) y616) := ⟨by (with_reducible repeat (first | apply Kd.R_alloc | apply Kd.R_drewN | apply Kd.R_drew)); exact Kd.R_mono (Kd.R_far (p := ⟨gb613, 3, none⟩) (Kd.R_types HO618.out BK613.out (by decide)) (fun _ hk => hk.2) (.slice Ao43 y621.length co43)) (fun _ hk => ⟨hk.1.1.1, ⟨hk.1.1.2, hk.1.2⟩⟩)⟩
              have n3_ : Aside0 (Kd.R (Kd.int .i64) 3 (w42.setCell ⟨gb613, 3, none⟩ (.slice Ao43 y621.length co43)) w.heap.size (fun k_ => some k_ ≠ (.slice Ao14 y610.length co14 : Value).ownBlock ∧ some k_ ≠ (u614004 : Value).ownBlock ∧ some k_ ≠ (.slice Ao38 y616.length co38 : Value).ownBlock) (.slice Ao43 y621.length co43) y621) := ⟨by (with_reducible repeat (first | apply Kd.R_alloc | apply Kd.R_drewN | apply Kd.R_drew)); exact Kd.R_mono (Kd.R_far (p := ⟨gb613, 3, none⟩) (Kd.R_types HO623.out BK613.out (by decide)) (fun _ hk => hk.2) (.slice Ao43 y621.length co43)) (fun _ hk => ⟨hk.1.1, ⟨hk.1.2.1, hk.1.2.2⟩⟩)⟩
              have n4_ : Aside0 ((w42.setCell ⟨gb613, 3, none⟩ (.slice Ao43 y621.length co43)).heap[gb604]? = some (.cells #[.slice A0_0 l0_0.length c0_0, .int .i64 a0_1, .slice (some ad614) l0_2.length c0_2, .slice (some ad619) l0_3.length c0_3, .slice A0_4 l0_4.length c0_4] 30 (0, 0))) := ⟨by (with_reducible repeat (first | refine blk_drewN ?_ _ | refine blk_drew ?_ | refine blk_alloc ?_ _)); refine blk_far ?_ NB604_613.out _; (with_reducible repeat (first | refine blk_drewN ?_ _ | refine blk_drew ?_ | refine blk_alloc ?_ _)); exact BK604.out⟩
              have n5_ : Aside0 ((w42.setCell ⟨gb613, 3, none⟩ (.slice Ao43 y621.length co43)).heap[gb605]? = some (.cells #[.slice A1_0 l1_0.length c1_0, .int .i64 a1_1, .slice (some ad615) l1_2.length c1_2, .slice (some ad620) l1_3.length c1_3, .slice A1_4 l1_4.length c1_4] 30 (0, 0))) := ⟨by (with_reducible repeat (first | refine blk_drewN ?_ _ | refine blk_drew ?_ | refine blk_alloc ?_ _)); refine blk_far ?_ NB605_613.out _; (with_reducible repeat (first | refine blk_drewN ?_ _ | refine blk_drew ?_ | refine blk_alloc ?_ _)); exact BK605.out⟩
              have n6_ : Aside0 ((w42.setCell ⟨gb613, 3, none⟩ (.slice Ao43 y621.length co43)).heap[gb606]? = some (.cells #[.slice none 0 0, .int .i64 0, .slice none 0 0, .slice none 0 0, .slice none 0 0] 30 (0, 0))) := ⟨by (with_reducible repeat (first | refine blk_drewN ?_ _ | refine blk_drew ?_ | refine blk_alloc ?_ _)); refine blk_far ?_ NB606_613.out _; (with_reducible repeat (first | refine blk_drewN ?_ _ | refine blk_drew ?_ | refine blk_alloc ?_ _)); exact BK606.out⟩
              have n7_ : Aside0 ((w42.setCell ⟨gb613, 3, none⟩ (.slice Ao43 y621.length co43)).heap[gb613]? = some (.cells #[.slice Ao14 y610.length co14, .int .i64 (wrap64 (a0_1 + a1_1)), .slice Ao38 y616.length co38, .slice Ao43 y621.length co43, u614004] 30 (0, 0))) := ⟨by (with_reducible repeat (first | refine blk_drewN ?_ _ | refine blk_drew ?_ | refine blk_alloc ?_ _)); refine blk_put (cs := #[.slice Ao14 y610.length co14, .int .i64 (wrap64 (a0_1 + a1_1)), .slice Ao38 y616.length co38, u614003, u614004]) ?_ 3 _ rfl; (with_reducible repeat (first | refine blk_drewN ?_ _ | refine blk_drew ?_ | refine blk_alloc ?_ _)); exact BK613.out⟩
              have n8_ : Aside0 (Below w.heap.size w (w42.setCell ⟨gb613, 3, none⟩ (.slice Ao43 y621.length co43))) := ⟨by repeat (first | (with_reducible first | exact HB.out | apply below_alloc | apply pw_below_drewN | apply below_drew1 | refine below_set ?_ GE604.out | refine below_set ?_ GE605.out | refine below_set ?_ GE606.out | refine below_set ?_ GE613.out) | exact HB.out)⟩
              (try clear HO_614000)
              (try clear HO_614004)
              (try clear HO618)
              (try clear HO623)
              (try clear BK604)
              (try clear BK605)
              (try clear BK606)
              (try clear BK613)
              (try clear HB)
              generalize (w42.setCell ⟨gb613, 3, none⟩ (.slice Ao43 y621.length co43)) = w45 at n0_ n1_ n2_ n3_ n4_ n5_ n6_ n7_ n8_ ⊢
              revert n0_ n1_ n2_ n3_ n4_ n5_ n6_ n7_ n8_
              intro HO_614000 HO_614004 HO618 HO623 BK604 BK605 BK606 BK613 HB
              have n0_ := am (Kd.R_drew HO_614000.out)
              have n1_ := am (Kd.R_drew HO_614004.out)
              have n2_ := am (Kd.R_drew HO618.out)
              have n3_ := am (Kd.R_drew HO623.out)
              have n4_ := am (blk_drew BK604.out)
              have n5_ := am (blk_drew BK605.out)
              have n6_ := am (blk_drew BK606.out)
              have n7_ := am (blk_drew BK613.out)
              have n8_ := am (below_drew1 HB.out)
              clear HO_614000 HO_614004 HO618 HO623 BK604 BK605 BK606 BK613 HB
              revert n0_ n1_ n2_ n3_ n4_ n5_ n6_ n7_ n8_
              intro HO_614000 HO_614004 HO618 HO623 BK604 BK605 BK606 BK613 HB
              have p624 : 0 ≤ (x6_1 : Int) := of_decide_eq_true (by first | (with_reducible assumption) | assumption)
              have q624 : x6_1 < (l0_4.length : Int) := of_decide_eq_true (by first | (with_reducible assumption) | assumption)
              obtain ⟨ad624, e624, hx624_0⟩ := Kd.at_int HR0_4.out x6_1 p624 q624
              have hw624_0 := hx624_0
              cases e624
              replace hx624_0 := (HB.out.cell (World.block_lt_of_cell? w _ hx624_0)).trans hx624_0
              replace p624 := eq_true p624
              replace q624 := eq_true q624
              have p625 : 0 ≤ (x6_1 : Int) := of_decide_eq_true (by first | (with_reducible assumption) | assumption)
              have q625 : x6_1 < (l1_4.length : Int) := of_decide_eq_true (by first | (with_reducible assumption) | assumption)
              obtain ⟨ad625, e625, hx625_0⟩ := Kd.at_int HR1_4.out x6_1 p625 q625
              have hw625_0 := hx625_0
              cases e625
              replace hx625_0 := (HB.out.cell (World.block_lt_of_cell? w _ hx625_0)).trans hx625_0
              replace p625 := eq_true p625
              replace q625 := eq_true q625
              refine start_ (n := 17) (S := fun w' => w'.cell? ⟨gb613, 0, none⟩ = some (.slice Ao14 y610.length co14) ∧ w'.cell? ⟨gb613, 1, none⟩ = some (.int .i64 (wrap64 (a0_1 + a1_1))) ∧ w'.cell? ⟨gb613, 2, none⟩ = some (.slice Ao38 y616.length co38) ∧ w'.cell? ⟨gb613, 3, none⟩ = some (.slice Ao43 y621.length co43) ∧ w'.cell? ⟨gb613, 4, none⟩ = some (u614004) ∧ w'.cell? ⟨gb604, 0, none⟩ = some (.slice A0_0 l0_0.length c0_0) ∧ w'.cell? ⟨gb604, 1, none⟩ = some (.int .i64 a0_1) ∧ w'.cell? ⟨gb604, 2, none⟩ = some (.slice (some ad614) l0_2.length c0_2) ∧ w'.cell? ⟨gb604, 3, none⟩ = some (.slice (some ad619) l0_3.length c0_3) ∧ w'.cell? ⟨gb604, 4, none⟩ = some (.slice (some ad624) l0_4.length c0_4) ∧ w'.cell? ⟨gb605, 0, none⟩ = some (.slice A1_0 l1_0.length c1_0) ∧ w'.cell? ⟨gb605, 1, none⟩ = some (.int .i64 a1_1) ∧ w'.cell? ⟨gb605, 2, none⟩ = some (.slice (some ad615) l1_2.length c1_2) ∧ w'.cell? ⟨gb605, 3, none⟩ = some (.slice (some ad620) l1_3.length c1_3) ∧ w'.cell? ⟨gb605, 4, none⟩ = some (.slice (some ad625) l1_4.length c1_4) ∧ w'.cell? (ad624.add (x6_1).toNat) = some (.int .i64 (rd l0_4 x6_1)) ∧ w'.cell? (ad625.add (x6_1).toNat) = some (.int .i64 (rd l1_4 x6_1))) (ds := [16]) (bb 17 0) (by kernel_rfl) rfl rfl ⟨bc BK613 0, bc BK613 1, bc BK613 2, bc BK613 3, bc BK613 4, bc BK604 0, bc BK604 1, bc BK604 2, bc BK604 3, bc BK604 4, bc BK605 0, bc BK605 1, bc BK605 2, bc BK605 3, bc BK605 4, ((HB.out.cell (World.block_lt_of_cell? w _ hw624_0)).trans hw624_0), ((HB.out.cell (World.block_lt_of_cell? w _ hw625_0)).trans hw625_0)⟩ (fun hHeld => ?_); refine with_tabW hypercuberef2_Join.tab7 hypercuberef2_Join.bits7 (fun HT_ HW_ => ?_)
              generalize w45.drew = w46 at HO_614000 HO_614004 HO618 HO623 BK604 BK605 BK606 BK613 HB hx624_0 hx625_0 hHeld ⊢
              refine pu (i := 0) (N := some 56) (bb 17 1) HT_ ?_
              refine pu (i := 2) (N := some 58) (bb 17 5) HT_ ?_
              refine pu (i := 4) (N := some 60) (bb 17 21) HT_ ?_
              refine pu (i := 7) (N := some 63) (bb 17 149) HT_ ?_
              refine pu (i := 9) (N := some 65) (bb 17 661) HT_ ?_
              refine tk (i := 1) (N := some 57) (bb 17 663) HT_ HW_ hHeld ?_
              refine tk (i := 3) (N := some 59) (bb 17 671) HT_ HW_ hHeld ?_
              refine pu (i := 5) (N := some 61) (bb 17 703) HT_ ?_
              refine tk (i := 6) (N := some 62) (bb 17 767) HT_ HW_ hHeld ?_
              refine tk (i := 8) (N := some 64) (bb 17 1023) HT_ HW_ hHeld ?_
              refine pu (i := 10) (N := some 66) (bb 17 2047) HT_ ?_
              refine tk (i := 11) (N := some 67) (bb 17 4095) HT_ HW_ hHeld ?_
              refine pu (i := 12) (N := some 68) (bb 17 8191) HT_ ?_
              refine one_ (i := 13) (N := some 69) (bb 17 16383) rfl rfl (one_of HT_.out (by kernel_rfl)) (by decide) (fun K hK => ?_)
              refine value_ (w1 := ?_) (v := ?_) (by rfl) rfl ?_ ?_
              rotate_left 2
              ·go_simp
               constructor
               ·rfl
               ·rfl
              refine hK.out _ _ ⟨(blk_cell (blk_alloc BK613.out _) 0).trans rfl, (blk_cell (blk_alloc BK613.out _) 1).trans rfl, (blk_cell (blk_alloc BK613.out _) 2).trans rfl, (blk_cell (blk_alloc BK613.out _) 3).trans rfl, (blk_cell (blk_alloc BK613.out _) 4).trans rfl, (blk_cell (blk_alloc BK604.out _) 0).trans rfl, (blk_cell (blk_alloc BK604.out _) 1).trans rfl, (blk_cell (blk_alloc BK604.out _) 2).trans rfl, (blk_cell (blk_alloc BK604.out _) 3).trans rfl, (blk_cell (blk_alloc BK604.out _) 4).trans rfl, (blk_cell (blk_alloc BK605.out _) 0).trans rfl, (blk_cell (blk_alloc BK605.out _) 1).trans rfl, (blk_cell (blk_alloc BK605.out _) 2).trans rfl, (blk_cell (blk_alloc BK605.out _) 3).trans rfl, (blk_cell (blk_alloc BK605.out _) 4).trans rfl, (World.cell?_alloc_lt _ _ _ (World.block_lt_of_cell? _ _ (((HB.out.cell (World.block_lt_of_cell? w _ hw624_0)).trans hw624_0)))).trans (((HB.out.cell (World.block_lt_of_cell? w _ hw624_0)).trans hw624_0)), (World.cell?_alloc_lt _ _ _ (World.block_lt_of_cell? _ _ (((HB.out.cell (World.block_lt_of_cell? w _ hw625_0)).trans hw625_0)))).trans (((HB.out.cell (World.block_lt_of_cell? w _ hw625_0)).trans hw625_0))⟩ (fun hHeld => ?_)
              clear hK K
              refine nm ?_
              refine one_ (i := 14) (N := some 70) (bb 17 32767) rfl rfl (one_of HT_.out (by kernel_rfl)) (by decide) (fun K hK => ?_)
              refine Kd.R_append_step (Kd.int .i64) (w0 := w) w.heap.size (by rfl) (.tmp 57) (.tmp 69) 22 3 (.int .i64 0) 8 rfl Try.underlying22 info3 rfl (by decide) (by omega) u614004 x614004_1 ji30 [.int .i64 ji30] (fun k_ => some k_ ≠ (.slice Ao14 y610.length co14 : Value).ownBlock ∧ some k_ ≠ (.slice Ao38 y616.length co38 : Value).ownBlock ∧ some k_ ≠ (.slice Ao43 y621.length co43 : Value).ownBlock) (fun _ => False) rfl rfl ?aP (fun _ hk => hk.elim) ?aF ?aO ?aB ?aS ?aL ?_
              (case aP => exact rfl)
              (case aB => exact (wmv HB.out))
              (case aF => exact (fun k_ hk => ⟨Kd.fresh' (Kd.R_lt (Kd.R_mv HO_614000.out)) k_ hk, Kd.fresh' (Kd.R_lt (Kd.R_mv HO618.out)) k_ hk, Kd.fresh' (Kd.R_lt (Kd.R_mv HO623.out)) k_ hk⟩))
              (case aO => exact (Kd.R_mv HO_614004.out))
              (case aS => exact (below_size (wmv HB.out)))
              (case aL => have := LMc31.out; omega)
              intro v627 w47 ho hb hg hat
              rw [← Ny626.out] at ho
              have n0_ := am (Kd.R_after (ok := (fun k_ => some k_ ≠ (.slice Ao38 y616.length co38 : Value).ownBlock ∧ some k_ ≠ (.slice Ao43 y621.length co43 : Value).ownBlock)) (Kd.R_mv (Kd.R_mono HO_614000.out (fun _ hk => ⟨⟨hk.2.1, hk.2.2⟩, hk.1⟩))) hg hat)
              have n1_ := am (blk_grown (bmv BK604.out) hg (Kd.R_ne HO_614004.out BK604.out (by decide)))
              have n2_ := am (blk_grown (bmv BK605.out) hg (Kd.R_ne HO_614004.out BK605.out (by decide)))
              have n3_ := am (blk_grown (bmv BK606.out) hg (Kd.R_ne HO_614004.out BK606.out (by decide)))
              have n4_ := am (blk_grown (bmv BK613.out) hg (Kd.R_ne HO_614004.out BK613.out (by decide)))
              have n5_ := am (Kd.R_after (ok := (fun k_ => some k_ ≠ (.slice Ao14 y610.length co14 : Value).ownBlock ∧ some k_ ≠ (.slice Ao43 y621.length co43 : Value).ownBlock)) (Kd.R_mv (Kd.R_mono HO618.out (fun _ hk => ⟨⟨hk.1, hk.2.2⟩, hk.2.1⟩))) hg hat)
              have n6_ := am (Kd.R_after (ok := (fun k_ => some k_ ≠ (.slice Ao14 y610.length co14 : Value).ownBlock ∧ some k_ ≠ (.slice Ao38 y616.length co38 : Value).ownBlock)) (Kd.R_mv (Kd.R_mono HO623.out (fun _ hk => ⟨⟨hk.1, hk.2.2⟩, hk.2.1⟩))) hg hat)
              have n7_ := am (hb)
              have n8_ := am (ho)
              clear HO_614000 BK604 BK605 BK606 BK613 HO618 HO623 HB HO_614004
              revert n0_ n1_ n2_ n3_ n4_ n5_ n6_ n7_ n8_
              intro HO_614000 BK604 BK605 BK606 BK613 HO618 HO623 HB HO628
              clear ho hb hg hat
              obtain ⟨Ao48, co48, eo48⟩ := Kd.R_slice HO628.out
              (first | subst eo48 | (injection eo48 with f1_ f2_ f3_; have f4_ := f1_.symm; have f5_ := f3_.symm; clear f1_ f2_ f3_; subst f4_; subst f5_))
              refine hK.out _ _ ⟨bc BK613 0, bc BK613 1, bc BK613 2, bc BK613 3, bc BK613 4, bc BK604 0, bc BK604 1, bc BK604 2, bc BK604 3, bc BK604 4, bc BK605 0, bc BK605 1, bc BK605 2, bc BK605 3, bc BK605 4, ((HB.out.cell (World.block_lt_of_cell? w _ hw624_0)).trans hw624_0), ((HB.out.cell (World.block_lt_of_cell? w _ hw625_0)).trans hw625_0)⟩ (fun hHeld => ?_)
              clear hK K
              refine nm ?_
              refine pu (i := 15) (N := some 71) (bb 17 65535) HT_ ?_
              refine last_ (i := 16) (N := none) (bb 17 131071) rfl rfl (one_of HT_.out (by kernel_rfl)) (by decide) (fun K hK => ?_)
              have hs49 : w47.cell? ⟨gb613, 4, none⟩ = some (u614004) := (blk_cell BK613.out 4).trans rfl
              have hfs49 := blk_frozen BK613.out 4
              have hns49_0 := NB604_613.out
              have hns49_1 := NB605_613.out
              have hns49_2 := NB606_613.out
              have hms49_0 := NB613_604.out
              have hms49_1 := NB613_605.out
              have hms49_2 := NB613_606.out
              refine skip_ (w1 := ?_) (by rfl) rfl ?_ ?_
              rotate_left
              ·go_simp
               rfl
              refine hK.out _ _ ?_
              clear hK K
              refine done_ (done_of HT_.out (by kernel_rfl)) ?_
              try go_wp2
              go_roundg k1
              case measure => have := HK1.out; omega
              case rel => exact ⟨(wrap64 (x6_1 + 1)), (y616), (y621), (y626), (.slice Ao38 y616.length co38), (.slice Ao43 y621.length co43), (.slice Ao48 y626.length co48), (by first | rfl | (simp; done) | (simp [*]; done)), H', ⟨by have := HK1.out; omega⟩, ⟨by (with_reducible repeat (first | apply Kd.R_alloc | apply Kd.R_drewN | apply Kd.R_drew)); exact Kd.R_mono (Kd.R_far (p := ⟨gb613, 4, none⟩) (Kd.R_types HO_614000.out BK613.out (by decide)) (fun _ hk => hk.2) (.slice Ao48 y626.length co48)) (fun _ hk => ⟨hk.1.1.1, ⟨hk.1.1.2, hk.1.2⟩⟩)⟩, ⟨by (with_reducible repeat (first | apply Kd.R_alloc | apply Kd.R_drewN | apply Kd.R_drew)); exact Kd.R_mono (Kd.R_far (p := ⟨gb613, 4, none⟩) (Kd.R_types HO618.out BK613.out (by decide)) (fun _ hk => hk.2) (.slice Ao48 y626.length co48)) (fun _ hk => ⟨hk.1.1.1, ⟨hk.1.1.2, hk.1.2⟩⟩)⟩, ⟨by (with_reducible repeat (first | apply Kd.R_alloc | apply Kd.R_drewN | apply Kd.R_drew)); exact Kd.R_mono (Kd.R_far (p := ⟨gb613, 4, none⟩) (Kd.R_types HO623.out BK613.out (by decide)) (fun _ hk => hk.2) (.slice Ao48 y626.length co48)) (fun _ hk => ⟨hk.1.1.1, ⟨hk.1.1.2, hk.1.2⟩⟩)⟩, ⟨by (with_reducible repeat (first | apply Kd.R_alloc | apply Kd.R_drewN | apply Kd.R_drew)); exact Kd.R_mono (Kd.R_far (p := ⟨gb613, 4, none⟩) (Kd.R_types HO628.out BK613.out (by decide)) (fun _ hk => hk.2) (.slice Ao48 y626.length co48)) (fun _ hk => ⟨hk.1.1, ⟨hk.1.2.1, hk.1.2.2⟩⟩)⟩, ⟨by (with_reducible repeat (first | refine blk_drewN ?_ _ | refine blk_drew ?_ | refine blk_alloc ?_ _)); refine blk_far ?_ NB604_613.out _; (with_reducible repeat (first | refine blk_drewN ?_ _ | refine blk_drew ?_ | refine blk_alloc ?_ _)); exact BK604.out⟩, ⟨by (with_reducible repeat (first | refine blk_drewN ?_ _ | refine blk_drew ?_ | refine blk_alloc ?_ _)); refine blk_far ?_ NB605_613.out _; (with_reducible repeat (first | refine blk_drewN ?_ _ | refine blk_drew ?_ | refine blk_alloc ?_ _)); exact BK605.out⟩, ⟨by (with_reducible repeat (first | refine blk_drewN ?_ _ | refine blk_drew ?_ | refine blk_alloc ?_ _)); refine blk_far ?_ NB606_613.out _; (with_reducible repeat (first | refine blk_drewN ?_ _ | refine blk_drew ?_ | refine blk_alloc ?_ _)); exact BK606.out⟩, ⟨by (with_reducible repeat (first | refine blk_drewN ?_ _ | refine blk_drew ?_ | refine blk_alloc ?_ _)); refine blk_put (cs := #[.slice Ao14 y610.length co14, .int .i64 (wrap64 (a0_1 + a1_1)), .slice Ao38 y616.length co38, .slice Ao43 y621.length co43, u614004]) ?_ 4 _ rfl; (with_reducible repeat (first | refine blk_drewN ?_ _ | refine blk_drew ?_ | refine blk_alloc ?_ _)); exact BK613.out⟩, ⟨by repeat (first | (with_reducible first | exact HB.out | apply below_alloc | apply pw_below_drewN | apply below_drew1 | refine below_set ?_ GE604.out | refine below_set ?_ GE605.out | refine below_set ?_ GE606.out | refine below_set ?_ GE613.out) | exact HB.out)⟩⟩
             ·rw [if_neg c31] at H
              exact absurd H (by simp)
            ·rw [if_neg c29] at H
             exact absurd H (by simp)
           ·rw [if_neg c28] at H
            exact absurd H (by simp)
          ·rw [if_neg c27] at H
           exact absurd H (by simp)
         ·rw [if_neg c25] at H
          exact absurd H (by simp)
        ·rw [if_neg c24] at H
         exact absurd H (by simp)
       ·rw [if_neg c23] at H
        exact absurd H (by simp)
      ·rw [if_neg c22] at H
       exact absurd H (by simp)
     ·rw [if_neg c21] at H
      exact absurd H (by simp)
    ·rw [if_neg c20] at H
     have c20b0 : decide (x6_1 < (l0_2.length : Int)) = false := decide_eq_false c20
     clear c20
     simp only [Option.some.injEq, Prod.mk.injEq] at H
     obtain ⟨rfl, rfl, rfl, rfl, rfl⟩ := H
     have hnb50 := NB604_605.out
     have hnc50 := NB605_604.out
     have hnb51 := NB604_606.out
     have hnc51 := NB606_604.out
     have hnb52 := NB604_613.out
     have hnc52 := NB613_604.out
     have hcz53_0 : wr.cell? ⟨gb604, 0, none⟩ = some (.slice A0_0 l0_0.length c0_0) := (blk_cell BK604.out 0).trans rfl
     have hcz53_1 : wr.cell? ⟨gb604, 1, none⟩ = some (.int .i64 a0_1) := (blk_cell BK604.out 1).trans rfl
     have hcz53_2 : wr.cell? ⟨gb604, 2, none⟩ = some (.slice A0_2 l0_2.length c0_2) := (blk_cell BK604.out 2).trans rfl
     have hcz53_3 : wr.cell? ⟨gb604, 3, none⟩ = some (.slice A0_3 l0_3.length c0_3) := (blk_cell BK604.out 3).trans rfl
     have hcz53_4 : wr.cell? ⟨gb604, 4, none⟩ = some (.slice A0_4 l0_4.length c0_4) := (blk_cell BK604.out 4).trans rfl
     have hfz53_0 := blk_frozen BK604.out 0
     have hfz53_1 := blk_frozen BK604.out 1
     have hfz53_2 := blk_frozen BK604.out 2
     have hfz53_3 := blk_frozen BK604.out 3
     have hfz53_4 := blk_frozen BK604.out 4
     have hnb54 := NB613_605.out
     have hnc54 := NB605_613.out
     have hnb55 := NB613_606.out
     have hnc55 := NB606_613.out
     have hcz56_0 : wr.cell? ⟨gb613, 0, none⟩ = some (.slice Ao14 y610.length co14) := (blk_cell BK613.out 0).trans rfl
     have hcz56_1 : wr.cell? ⟨gb613, 1, none⟩ = some (.int .i64 (wrap64 (a0_1 + a1_1))) := (blk_cell BK613.out 1).trans rfl
     have hcz56_2 : wr.cell? ⟨gb613, 2, none⟩ = some (u614002) := (blk_cell BK613.out 2).trans rfl
     have hcz56_3 : wr.cell? ⟨gb613, 3, none⟩ = some (u614003) := (blk_cell BK613.out 3).trans rfl
     have hcz56_4 : wr.cell? ⟨gb613, 4, none⟩ = some (u614004) := (blk_cell BK613.out 4).trans rfl
     have hfz56_0 := blk_frozen BK613.out 0
     have hfz56_1 := blk_frozen BK613.out 1
     have hfz56_2 := blk_frozen BK613.out 2
     have hfz56_3 := blk_frozen BK613.out 3
     have hfz56_4 := blk_frozen BK613.out 4
     have hnb57 := NB606_605.out
     have hnc57 := NB605_606.out
     have hcz58_0 : wr.cell? ⟨gb606, 0, none⟩ = some (.slice none 0 0) := (blk_cell BK606.out 0).trans rfl
     have hcz58_1 : wr.cell? ⟨gb606, 1, none⟩ = some (.int .i64 0) := (blk_cell BK606.out 1).trans rfl
     have hcz58_2 : wr.cell? ⟨gb606, 2, none⟩ = some (.slice none 0 0) := (blk_cell BK606.out 2).trans rfl
     have hcz58_3 : wr.cell? ⟨gb606, 3, none⟩ = some (.slice none 0 0) := (blk_cell BK606.out 3).trans rfl
     have hcz58_4 : wr.cell? ⟨gb606, 4, none⟩ = some (.slice none 0 0) := (blk_cell BK606.out 4).trans rfl
     have hfz58_0 := blk_frozen BK606.out 0
     have hfz58_1 := blk_frozen BK606.out 1
     have hfz58_2 := blk_frozen BK606.out 2
     have hfz58_3 := blk_frozen BK606.out 3
     have hfz58_4 := blk_frozen BK606.out 4
     obtain ⟨Ao59, co59, eo59⟩ := Kd.R_slice HO_614002.out
     subst eo59
     obtain ⟨Ao60, co60, eo60⟩ := Kd.R_slice HO_614003.out
     subst eo60
     obtain ⟨Ao61, co61, eo61⟩ := Kd.R_slice HO_614004.out
     subst eo61
     go_wp2
     refine bodyPost_ret (results_cell_row rfl _ _ gb606 30 #[.slice Ao14 y610.length co14, .int .i64 (wrap64 (a0_1 + a1_1)), .slice Ao59 x614002_1.length co59, .slice Ao60 x614003_1.length co60, .slice Ao61 x614004_1.length co61] (0, 0) _ rfl (by (with_reducible repeat (first | refine blk_drewN ?_ _ | refine blk_drew ?_ | refine blk_alloc ?_ _)); refine blk_put (cs := #[.slice Ao14 y610.length co14, .int .i64 (wrap64 (a0_1 + a1_1)), .slice Ao59 x614002_1.length co59, .slice Ao60 x614003_1.length co60, .slice none 0 0]) ?_ 4 _ rfl; (with_reducible repeat (first | refine blk_drewN ?_ _ | refine blk_drew ?_ | refine blk_alloc ?_ _)); refine blk_put (cs := #[.slice Ao14 y610.length co14, .int .i64 (wrap64 (a0_1 + a1_1)), .slice Ao59 x614002_1.length co59, .slice none 0 0, .slice none 0 0]) ?_ 3 _ rfl; (with_reducible repeat (first | refine blk_drewN ?_ _ | refine blk_drew ?_ | refine blk_alloc ?_ _)); refine blk_put (cs := #[.slice Ao14 y610.length co14, .int .i64 (wrap64 (a0_1 + a1_1)), .slice none 0 0, .slice none 0 0, .slice none 0 0]) ?_ 2 _ rfl; (with_reducible repeat (first | refine blk_drewN ?_ _ | refine blk_drew ?_ | refine blk_alloc ?_ _)); refine blk_put (cs := #[.slice Ao14 y610.length co14, .int .i64 0, .slice none 0 0, .slice none 0 0, .slice none 0 0]) ?_ 1 _ rfl; (with_reducible repeat (first | refine blk_drewN ?_ _ | refine blk_drew ?_ | refine blk_alloc ?_ _)); refine blk_put (cs := #[.slice none 0 0, .int .i64 0, .slice none 0 0, .slice none 0 0, .slice none 0 0]) ?_ 0 _ rfl; (with_reducible repeat (first | refine blk_drewN ?_ _ | refine blk_drew ?_ | refine blk_alloc ?_ _)); exact BK606.out) Try.underlying30 rfl (by kernel_rfl)) rfl ?_
     exact ⟨_, _, _, _, by first | rfl | (simp [errW_none, errW_some] <;> rfl) | (simp [*, errW_none, errW_some] <;> rfl), by (with_reducible repeat (first | apply Kd.R_alloc | apply Kd.R_drewN | apply Kd.R_drew)); exact Kd.R_mono (Kd.R_far (p := ⟨gb606, 4, none⟩) (Kd.R_far (p := ⟨gb606, 3, none⟩) (Kd.R_far (p := ⟨gb606, 2, none⟩) (Kd.R_far (p := ⟨gb606, 1, none⟩) (Kd.R_far (p := ⟨gb606, 0, none⟩) (Kd.R_types HO_614000.out BK606.out (by decide)) (fun _ hk => hk.2) (.slice Ao14 y610.length co14)) (fun _ hk => hk.2) (.int .i64 (wrap64 (a0_1 + a1_1)))) (fun _ hk => hk.2) (.slice Ao59 x614002_1.length co59)) (fun _ hk => hk.2) (.slice Ao60 x614003_1.length co60)) (fun _ hk => hk.2) (.slice Ao61 x614004_1.length co61)) (fun _ hk => ⟨hk.1.1, ⟨hk.1.2.1, hk.1.2.2⟩⟩), by (with_reducible repeat (first | apply Kd.R_alloc | apply Kd.R_drewN | apply Kd.R_drew)); exact Kd.R_mono (Kd.R_far (p := ⟨gb606, 4, none⟩) (Kd.R_far (p := ⟨gb606, 3, none⟩) (Kd.R_far (p := ⟨gb606, 2, none⟩) (Kd.R_far (p := ⟨gb606, 1, none⟩) (Kd.R_far (p := ⟨gb606, 0, none⟩) (Kd.R_types HO_614002.out BK606.out (by decide)) (fun _ hk => hk.2) (.slice Ao14 y610.length co14)) (fun _ hk => hk.2) (.int .i64 (wrap64 (a0_1 + a1_1)))) (fun _ hk => hk.2) (.slice Ao59 x614002_1.length co59)) (fun _ hk => hk.2) (.slice Ao60 x614003_1.length co60)) (fun _ hk => hk.2) (.slice Ao61 x614004_1.length co61)) (fun _ hk => ⟨hk.1.1, ⟨hk.1.2.1, hk.1.2.2⟩⟩), by (with_reducible repeat (first | apply Kd.R_alloc | apply Kd.R_drewN | apply Kd.R_drew)); exact Kd.R_mono (Kd.R_far (p := ⟨gb606, 4, none⟩) (Kd.R_far (p := ⟨gb606, 3, none⟩) (Kd.R_far (p := ⟨gb606, 2, none⟩) (Kd.R_far (p := ⟨gb606, 1, none⟩) (Kd.R_far (p := ⟨gb606, 0, none⟩) (Kd.R_types HO_614003.out BK606.out (by decide)) (fun _ hk => hk.2) (.slice Ao14 y610.length co14)) (fun _ hk => hk.2) (.int .i64 (wrap64 (a0_1 + a1_1)))) (fun _ hk => hk.2) (.slice Ao59 x614002_1.length co59)) (fun _ hk => hk.2) (.slice Ao60 x614003_1.length co60)) (fun _ hk => hk.2) (.slice Ao61 x614004_1.length co61)) (fun _ hk => ⟨hk.1.1, ⟨hk.1.2.1, hk.1.2.2⟩⟩), by (with_reducible repeat (first | apply Kd.R_alloc | apply Kd.R_drewN | apply Kd.R_drew)); exact Kd.R_mono (Kd.R_far (p := ⟨gb606, 4, none⟩) (Kd.R_far (p := ⟨gb606, 3, none⟩) (Kd.R_far (p := ⟨gb606, 2, none⟩) (Kd.R_far (p := ⟨gb606, 1, none⟩) (Kd.R_far (p := ⟨gb606, 0, none⟩) (Kd.R_types HO_614004.out BK606.out (by decide)) (fun _ hk => hk.2) (.slice Ao14 y610.length co14)) (fun _ hk => hk.2) (.int .i64 (wrap64 (a0_1 + a1_1)))) (fun _ hk => hk.2) (.slice Ao59 x614002_1.length co59)) (fun _ hk => hk.2) (.slice Ao60 x614003_1.length co60)) (fun _ hk => hk.2) (.slice Ao61 x614004_1.length co61)) (fun _ hk => ⟨hk.1.1, ⟨hk.1.2.1, hk.1.2.2⟩⟩), by repeat (first | (with_reducible first | exact HB.out | apply below_alloc | apply pw_below_drewN | apply below_drew1 | refine below_set ?_ GE604.out | refine below_set ?_ GE605.out | refine below_set ?_ GE606.out | refine below_set ?_ GE613.out) | exact HB.out)⟩
 ·rw [if_neg c3] at H
  exact absurd H (by simp)
end Go.Proofs.Ytmkjkkmilopcpaa.Q
namespace Go.Proofs.Ytmkjkkmilopcpaa.Q
open Go.RowKit Go.Proofs.YtmkjkkmilopcpaaW.PrintWords Go.Proofs.YtmkjkkmilopcpaaW.PrintLast Go.Proofs.YtmkjkkmilopcpaaW.PrintMore
set_option linter.unusedVariables false
set_option linter.unusedSimpArgs false
theorem box_put {W w0 : World} {g base : Nat} {e : TypeId} {cur : Array Value} (seg : List Value) (hh : W.heap[g]? = some (.cells cur e (0, 0))) (hs : cur.size = seg.length) :
  (W.setCells g 0 seg).heap[g]? = some (.cells seg.toArray e (0, 0)) := by
 obtain ⟨cur', h1, _, h3⟩ := setCells_row seg 0 W cur hh (by omega)
 rw [h1]
 have h4 : cur'.toList = seg := by rw [h3, List.take_zero, List.nil_append, List.drop_of_length_le (by rw [Array.length_toList]; omega), List.append_nil]
 rw [← h4, Array.toArray_toList]
theorem box_far {W w0 : World} {g base : Nat} (seg : List Value) (hg : base ≤ g) (hB : Below base w0 W) : Below base w0 (W.setCells g 0 seg) := by
 obtain ⟨h1, h2, h3, h4⟩ := setCells_same g seg 0 W
 exact ⟨h1.trans hB.os, h2.trans hB.tape, h3.trans hB.output, by rw [h4]; exact hB.size, fun k hk => (setCells_far seg 0 k (by omega)).trans (hB.block k hk)⟩
theorem box_other {W : World} {g k : Nat} {o : Obj} (seg : List Value) (hk : k ≠ g) (h : W.heap[k]? = some o) : (W.setCells g 0 seg).heap[k]? = some o := (setCells_far seg 0 k hk).trans h
theorem box_run {P : Program} {oi : Oper} {a : Act} {t e : TypeId} {p x : Operand} {W : World} {g : Nat} {cur : Array Value} (ho : oi.op = .store t p x) {u : Value} {seg : List Value} (hh : W.heap[g]? = some (.cells cur e (0, 0))) (hs : cur.size = seg.length)
  (haddr : a.eval p = .pointer (some ⟨g, 0, none⟩)) (hx : a.eval x = u) (hu : u.cells.toList = seg) (ht : (P.info? t).map (·.size) = some seg.length) (h1 : ∀ q ∈ seg, q.oneCell' = true) :
  (execOp a.eval oi).run P W = .ok .skip (W.setCells g 0 seg) := by
 have hrun : (Instr.storeAt t (.pointer (some ⟨g, 0, none⟩)) u).run P W = .ok () (W.setCells g 0 seg) := run_store_run t u seg hh hu ht (by omega) h1
 unfold execOp
 simp only [ho, haddr, hx, Sem.run_bind, Sem.run_pure, Result.andThen_ok, hrun]
structure CV where
 A0 : Option Addr
 c0 : Nat
 A2 : Option Addr
 c2 : Nat
 A3 : Option Addr
 c3 : Nat
 A4 : Option Addr
 c4 : Nat
abbrev CV.seg (v : CV) (x : S30) : List Value := [.slice v.A0 x.f0.length v.c0, .int .i64 x.f1, .slice v.A2 x.f2.length v.c2, .slice v.A3 x.f3.length v.c3, .slice v.A4 x.f4.length v.c4]
abbrev CV.val (v : CV) (x : S30) : Value := .agg #[.slice v.A0 x.f0.length v.c0, .int .i64 x.f1, .slice v.A2 x.f2.length v.c2, .slice v.A3 x.f3.length v.c3, .slice v.A4 x.f4.length v.c4]
structure CV.rd (v : CV) (x : S30) (w : World) : Prop where
 l0 : x.f0.length ≤ v.c0
 r0 : (Kd.int .i64).C w v.A0 x.f0.length x.f0
 l2 : x.f2.length ≤ v.c2
 r2 : (Kd.int .i64).C w v.A2 x.f2.length x.f2
 l3 : x.f3.length ≤ v.c3
 r3 : (Kd.int .i64).C w v.A3 x.f3.length x.f3
 l4 : x.f4.length ≤ v.c4
 r4 : (Kd.int .i64).C w v.A4 x.f4.length x.f4
structure CV.ok (v : CV) (x : S30) (w : World) (q : Nat → Prop) : Prop where
 l0 : x.f0.length ≤ v.c0
 r0 : Kd.F (Kd.int .i64) w q v.A0 x.f0.length x.f0
 l2 : x.f2.length ≤ v.c2
 r2 : Kd.F (Kd.int .i64) w q v.A2 x.f2.length x.f2
 l3 : x.f3.length ≤ v.c3
 r3 : Kd.F (Kd.int .i64) w q v.A3 x.f3.length x.f3
 l4 : x.f4.length ≤ v.c4
 r4 : Kd.F (Kd.int .i64) w q v.A4 x.f4.length x.f4
section
variable {v : CV} {x r : S30} {w w1 : World} {ok ok' : Nat → Prop}
theorem CV.rd.below (h : v.rd x w) (hb : Below w.heap.size w w1) : v.rd x w1 := ⟨h.l0, Kd.C_below h.r0 hb, h.l2, Kd.C_below h.r2 hb, h.l3, Kd.C_below h.r3 hb, h.l4, Kd.C_below h.r4 hb⟩
theorem CV.ok.rd (h : v.ok x w ok) : v.rd x w := ⟨h.l0, Kd.F_now h.r0, h.l2, Kd.F_now h.r2, h.l3, Kd.F_now h.r3, h.l4, Kd.F_now h.r4⟩
theorem CV.ok.wide (h : v.ok x w ok) (hk : ∀ k, ok k → ok' k) : v.ok x w ok' := ⟨h.l0, Kd.F_mono h.r0 hk, h.l2, Kd.F_mono h.r2 hk, h.l3, Kd.F_mono h.r3 hk, h.l4, Kd.F_mono h.r4 hk⟩
theorem CV.ok.bound (h : v.ok x w ok) : v.ok x w (fun k => ok k ∧ k < w.heap.size) := ⟨h.l0, Kd.F_bound h.r0, h.l2, Kd.F_bound h.r2, h.l3, Kd.F_bound h.r3, h.l4, Kd.F_bound h.r4⟩
theorem CV.ok.step (h : v.ok x w ok) (hm : ∀ k, ok k → k < w.heap.size → w1.heap[k]? = w.heap[k]?) : v.ok x w1 ok := ⟨h.l0, Kd.F_step h.r0 hm, h.l2, Kd.F_step h.r2 hm, h.l3, Kd.F_step h.r3 hm, h.l4, Kd.F_step h.r4 hm⟩
theorem CV.ok.below (h : v.ok x w ok) (hb : Below w.heap.size w w1) : v.ok x w1 ok := h.step (fun k _ hlt => hb.block k hlt)
theorem CV.ok.box (h : v.ok x w ok) {g : Nat} {seg : List Value} (hk : ∀ k, ok k → k ≠ g) : v.ok x (w.setCells g 0 seg) ok := h.step (fun k ho _ => setCells_far seg 0 k (hk k ho))
theorem CV.ok.FK (h : v.ok x w ok) : Kd.FK k30 w ok x (v.seg x) := k30_mkF w ok x h.l0 h.r0 h.l2 h.r2 h.l3 h.r3 h.l4 h.r4
theorem CV.one (v : CV) (x : S30) : ∀ q ∈ v.seg x, q.oneCell' = true := by
 intro q hq
 simp only [CV.seg, List.mem_cons, List.not_mem_nil, or_false] at hq
 rcases hq with rfl | rfl | rfl | rfl | rfl <;> rfl
theorem at_CV {A : Option Addr} {n : Nat} {xs : List S30} (h : Kd.C k30 w A n xs) (i : Int) (h0 : 0 ≤ i) (h1 : i < n) : ∃ (ad : Addr) (v : CV), A = some ad ∧ w.cell? (ad.add (i.toNat * 5)) = some (.slice v.A0 (rd_T30 xs i).f0.length v.c0) ∧ w.cell? ⟨(ad.add (i.toNat * 5)).block, (ad.add (i.toNat * 5)).off + 1, none⟩ = some (.int .i64 (rd_T30 xs i).f1) ∧ w.cell? ⟨(ad.add (i.toNat * 5)).block, (ad.add (i.toNat * 5)).off + 2, none⟩ = some (.slice v.A2 (rd_T30 xs i).f2.length v.c2) ∧ w.cell? ⟨(ad.add (i.toNat * 5)).block, (ad.add (i.toNat * 5)).off + 3, none⟩ = some (.slice v.A3 (rd_T30 xs i).f3.length v.c3) ∧ w.cell? ⟨(ad.add (i.toNat * 5)).block, (ad.add (i.toNat * 5)).off + 4, none⟩ = some (.slice v.A4 (rd_T30 xs i).f4.length v.c4) ∧ v.rd (rd_T30 xs i) w := by
 obtain ⟨ad, A0, c0, A2, c2, A3, c3, A4, c4, eA, x0, x1, x2, x3, x4, m0, r0, m2, r2, m3, r3, m4, r4⟩ := at_T30 h i h0 h1
 exact ⟨ad, ⟨A0, c0, A2, c2, A3, c3, A4, c4⟩, eA, x0, x1, x2, x3, x4, m0, r0, m2, r2, m3, r3, m4, r4⟩
theorem CV.told {v0 v2 v3 v4 : Value} {b : Nat} {o0 o2 o3 o4 : Nat → Prop} (g0 : Kd.R (Kd.int .i64) 3 w b o0 v0 r.f0) (g2 : Kd.R (Kd.int .i64) 3 w b o2 v2 r.f2) (g3 : Kd.R (Kd.int .i64) 3 w b o3 v3 r.f3) (g4 : Kd.R (Kd.int .i64) 3 w b o4 v4 r.f4) :
  ∃ u : CV, (Value.agg #[v0, .int .i64 r.f1, v2, v3, v4]) = u.val r ∧ u.ok r w (fun k => b ≤ k) := by
 obtain ⟨A0, c0, rfl⟩ := Kd.R_slice g0
 obtain ⟨A2, c2, rfl⟩ := Kd.R_slice g2
 obtain ⟨A3, c3, rfl⟩ := Kd.R_slice g3
 obtain ⟨A4, c4, rfl⟩ := Kd.R_slice g4
 exact ⟨⟨A0, c0, A2, c2, A3, c3, A4, c4⟩, rfl, (Kd.R_reads' g0).2.1, Kd.F_mono (Kd.R_F (Kd.R_bound g0)) (fun _ hk => hk.2.1), (Kd.R_reads' g2).2.1, Kd.F_mono (Kd.R_F (Kd.R_bound g2)) (fun _ hk => hk.2.1), (Kd.R_reads' g3).2.1, Kd.F_mono (Kd.R_F (Kd.R_bound g3)) (fun _ hk => hk.2.1), (Kd.R_reads' g4).2.1, Kd.F_mono (Kd.R_F (Kd.R_bound g4)) (fun _ hk => hk.2.1)⟩
end
section
variable {P : Program} {ops : Array Oper} {Q : Exit → Act → World → Prop}
theorem gate_callee_v {rest : List Oper} {o : Oper} {a : Act} {W : World} {x : Operand} {as_ : Array Operand} {ts : Array TypeId} (_ho : o.op = .call { callee := .value x, args := as_, argTypes := ts }) (h : wpList P ops Q (o :: rest) a W) : wpList P ops Q (o :: rest) a W := h
theorem goesv_ {oi : Oper} {N : Option Tmp} {a : Act} {w : World} {K : Act → World → Prop} {f : FuncId} {fn : Func} {x : Operand} {as_ : Array Operand} {ts : Array TypeId} (hf : P.funcs[f]? = some fn) (hname : (fn.name == "runtime.NumGoroutine") = false) (hb : fn.body.isSome = true) (args : Array Value)
  (hw : Region.wanted oi (yielded ops a.tmps) = true) (hN : oi.dst = N) (hop : oi.op = .call { callee := .value x, args := as_, argTypes := ts }) (hargs : as_.map a.eval = args)
  (h : Calls P f args w fun e w' => ∃ v, e = .returned v ∧ K (a.put N v) w') (hx : a.eval x = .func (.func f) #[] #[] := by rfl) : if Region.wanted oi (yielded ops a.tmps) = true then Oper.wp P oi a w K Q else K (a.put N undef) w := by
 refine call_ f args hw hN ?_ h
 have he := enters_ hf hname hb args w
 unfold execOp
 simp [hop, resolve, Deferred.ofValue, invoke, hx, hargs, he]
theorem goesLv_ {rest : List Oper} {oi : Oper} {a : Act} {w : World} (N : Option Tmp) (hd : oi.dst = N) (hg : oi.guard = none) {f : FuncId} {fn : Func} {x : Operand} {as_ : Array Operand} {ts : Array TypeId} (hf : P.funcs[f]? = some fn) (hname : (fn.name == "runtime.NumGoroutine") = false) (hb : fn.body.isSome = true) (args : Array Value)
  (hop : oi.op = .call { callee := .value x, args := as_, argTypes := ts }) (hargs : as_.map a.eval = args)
  (h : Calls P f args w fun e w' => ∃ v, e = .returned v ∧ wpList P ops Q rest (a.put N v) w') (hx : a.eval x = .func (.func f) #[] #[] := by rfl) : wpList P ops Q (oi :: rest) a w := by
 refine wpList_plain hg fun K hK => ?_
 have he := enters_ hf hname hb args w
 have hrun : (execOp a.eval oi).run P w = .ok (.enter f args) w := by
  unfold execOp
  simp [hop, resolve, Deferred.ofValue, invoke, hx, hargs, he]
 unfold Oper.wp
 rw [hrun, Oper.upon_enter]
 refine h.mono fun e w'' hh => ?_
 obtain ⟨v, rfl, hk⟩ := hh
 subst hd
 exact hK _ _ hk
end
theorem getD_ft {l : Array Bool} {j : Nat} (h : l.getD j false = true) : l.getD j true = true := by
 simp only [Array.getD_eq_getD_getElem?] at h ⊢
 cases e : l[j]? with
 | none => rw [e] at h; cases h
 | some b => rw [e] at h; exact h
theorem ready_at {md : Region.Mode} {ops : Array Oper} {l : Array Bool} {i : Nat} (h : i ∈ Region.ready md ops l) :
  i < ops.size ∧ l.getD i true = false ∧ ∀ o, ops[i]? = some o → ∀ e ∈ o.after, Region.binds md e = true → l.getD e.on true = true := by
 unfold Region.ready at h
 rw [List.mem_filter, List.mem_range] at h
 obtain ⟨h1, h2⟩ := h
 rw [Bool.and_eq_true] at h2
 refine ⟨h1, by simpa using h2.1, fun o ho e he hb => ?_⟩
 have h3 := h2.2
 rw [ho] at h3
 simp only [Option.map_some, Option.getD_some] at h3
 obtain ⟨j, hj, rfl⟩ := Array.mem_iff_getElem.1 he
 have := (Array.all_eq_true.1 h3) j hj
 rw [Bool.or_eq_true] at this
 rcases this with h | h
 ·rw [hb] at h; cases h
 ·exact getD_ft h
theorem getD_set {l : Array Bool} {i j : Nat} {d : Bool} (hi : i < l.size) : (l.setIfInBounds i true).getD j d = if i = j then true else l.getD j d := by
 simp only [Array.getD_eq_getD_getElem?, Array.getElem?_setIfInBounds]
 by_cases h : i = j
 ·subst h; simp [hi]
 ·simp [h]
theorem count_set_lt {l : Array Bool} {i : Nat} (h : l.getD i true = false) : ((l.setIfInBounds i true).toList.count false) + 1 = l.toList.count false := by
 have hi : i < l.size := by
  rcases Nat.lt_or_ge i l.size with h1 | h1
  ·exact h1
  ·simp [Array.getD_eq_getD_getElem?, Array.getElem?_eq_none h1] at h
 have hl : l.toList[i]'(by simpa using hi) = false := by
  simp [Array.getD_eq_getD_getElem?, hi] at h
  simpa using h
 have hpos : 0 < l.toList.count false := List.count_pos_iff.2 (hl ▸ List.getElem_mem _)
 have e := List.count_set (a := true) (b := false) (l := l.toList) (i := i) (by simpa using hi)
 rw [hl] at e
 have e1 : ((false == false) = true) := rfl
 have e2 : ¬ ((true == false) = true) := by decide
 rw [if_pos e1, if_neg e2] at e
 rw [Array.toList_setIfInBounds, e]
 omega
section
variable {P : Program} {md : Region.Mode} {ops : Array Oper} {Q : Exit → Act → World → Prop} {S : World → Prop} {ds : List Nat}
theorem anyLast_inv (Inv : Array Bool → Act → World → Prop)
  (hstep : ∀ l a w i, Inv l a w → i ∈ Region.ready md ops l → wpOp P ops Q i (fun a' w' => (i ∉ ds → S w → S w') ∧ Inv (l.setIfInBounds i true) a' w') a w)
  (hend : ∀ l a w, Inv l a w → Region.ready md ops l = [] → Q .normal a w) :
  ∀ (fuel : Nat) (l : Array Bool) (a : Act) (w : World), l.toList.count false ≤ fuel → Inv l a w → wpAnyLast P md ops Q S ds fuel l a w
 | 0, l, a, w, hc, h => by
  have hr : Region.ready md ops l = [] := by
   cases hr : Region.ready md ops l with
   | nil => rfl
   | cons i rs =>
    have hi := (ready_at (md := md) (ops := ops) (l := l) (i := i) (by rw [hr]; simp)).2.1
    have := count_set_lt hi
    omega
  exact ⟨hr, hend l a w h hr⟩
 | n + 1, l, a, w, hc, h => ⟨hend l a w h, fun i hi => wpOp_mono (fun a' w' hh => ⟨hh.1, anyLast_inv Inv hstep hend n _ a' w' (by have := count_set_lt (ready_at hi).2.1; omega) hh.2⟩) (hstep l a w i h hi)⟩
theorem none_left {l : Array Bool} (hsz : l.size = ops.size) (hlow : ∀ (i : Nat) (o : Oper), ops[i]? = some o → ∀ e ∈ o.after, e.on < i) (hr : Region.ready md ops l = []) : ∀ i, i < ops.size → l.getD i true = true := by
 intro i
 induction i using Nat.strongRecOn with
 | ind i ih =>
  intro hi
  by_cases hl : l.getD i true = true
  ·exact hl
  ·exfalso
   have hm : i ∈ Region.ready md ops l := by
    unfold Region.ready
    rw [List.mem_filter, List.mem_range]
    refine ⟨hi, ?_⟩
    rw [Bool.and_eq_true]
    refine ⟨by simpa using hl, ?_⟩
    rw [Array.getElem?_eq_getElem hi]
    simp only [Option.map_some, Option.getD_some]
    rw [Array.all_eq_true]
    intro j hj
    have hlt := hlow i _ (Array.getElem?_eq_getElem hi) _ (Array.getElem_mem hj)
    have := ih _ hlt (by omega)
    rw [Bool.or_eq_true]
    right
    simp only [Array.getD_eq_getD_getElem?] at this ⊢
    rw [Array.getElem?_eq_getElem (by omega)] at this ⊢
    simpa using this
   rw [hr] at hm
   cases hm
def lowB (ops : Array Oper) : Bool := ops.toList.zipIdx.all fun p => p.1.after.toList.all fun e => decide (e.on < p.2)
theorem low_of {ops : Array Oper} (h : lowB ops = true) : ∀ (i : Nat) (o : Oper), ops[i]? = some o → ∀ e ∈ o.after, e.on < i := by
 intro i o ho e he
 have hm : (o, i) ∈ ops.toList.zipIdx := by
  rw [List.mem_zipIdx_iff_getElem?]
  simpa using ho
 have h1 := List.all_eq_true.1 h _ hm
 have h2 := List.all_eq_true.1 h1 e (by simpa using he)
 simpa using h2
theorem op_now {i : Nat} {o : Oper} {a : Act} {w : World} {K : Act → World → Prop} (ho : ops[i]? = some o) (h : if Region.wanted o (yielded ops a.tmps) = true then Oper.wp P o a w K Q else K (a.put o.dst undef) w) : wpOp P ops Q i K a w := by
 unfold wpOp
 simp only [ho]
 split
 ·rename_i hw; rw [if_pos hw] at h; exact .inl h
 ·rename_i hw; rw [if_neg hw] at h; exact h
end
theorem eval_put_ne {a : Act} {d d' : Nat} {v : Value} (h : d ≠ d') : (a.put (some d) v).eval (.tmp d') = a.eval (.tmp d') := by
 simp [Act.put, Act.eval, Array.getD_eq_getD_getElem?, Array.getElem?_setIfInBounds_ne h]
theorem eval_put_same {a : Act} {d : Nat} {v : Value} (h : d < a.tmps.size) : (a.put (some d) v).eval (.tmp d) = v := by
 simp [Act.put, Act.eval, Array.getD_eq_getD_getElem?, h]
theorem put_size (a : Act) (d : Nat) (v : Value) : (a.put (some d) v).tmps.size = a.tmps.size := by simp [Act.put]
def hypercuberef2_Copy.f (l0_0 : List Int) (a0_1 : Int) (l0_2 : List Int) (l0_3 : List Int) (l0_4 : List Int) : Option (List Int × Int × List Int × List Int × List Int) :=
 if l0_0.length * 8 ≤ 140737488355328 ∧ l0_2.length * 8 ≤ 140737488355328 ∧ l0_3.length * 8 ≤ 140737488355328 ∧ l0_4.length * 8 ≤ 140737488355328 then some (l0_0, a0_1, l0_2, l0_3, l0_4) else none
def ref_Copy.T1 : Bool × List (List Nat × List Nat) := (true, [([], []), ([], []), ([1], [1]), ([0, 2], [0, 2]), ([], []), ([4], [4]), ([], []), ([], []), ([7], [7]), ([6, 8, 3], [6, 8]), ([], []), ([], []), ([11], [11]), ([10, 12, 9], [10, 12]), ([], []), ([], []), ([15], [15]), ([14, 16, 13], [14, 16]), ([3, 5, 9, 13, 17], [3, 5, 9, 13, 17]), ([18, 17, 0, 1, 2, 3, 4, 5, 6, 7, 8, 9, 10, 11, 12, 13, 14, 15, 16, 17, 18], [18])])
def ref_Copy.B1 : List Nat := [0, 0, 2, 7, 0, 16, 0, 0, 128, 463, 0, 0, 2048, 8143, 0, 0, 32768, 131023, 262143, 524287]
theorem ref_Copy.tab1 : rtab .any (opsOf Try.f52 1) = ref_Copy.T1 := by kernel_rfl
theorem ref_Copy.bits1 : waitsOk ref_Copy.T1.2 ref_Copy.B1 = true := by kernel_rfl
def RowSt (w0 : World) (l : Array Bool) (w : World) (f : Nat → Nat) (q B A : Nat) (vb va : Value) (y : List Int) : Prop :=
 (l.getD B true = true → l.getD A true = false → Kd.R (Kd.int .i64) 3 w w0.heap.size (fun k => f k = q) vb []) ∧ (l.getD A true = true → Kd.R (Kd.int .i64) 3 w w0.heap.size (fun k => f k = q) va y)
theorem R_refun {e base q : Nat} {f f' : Nat → Nat} {w w1 : World} {v : Value} {y : List Int} (h : Kd.R (Kd.int .i64) e w base (fun k => f k = q) v y) (hh : ∀ k, f k = q → k < w.heap.size → w1.heap[k]? = w.heap[k]?) (hf : ∀ k, k < w.heap.size → f' k = f k) : Kd.R (Kd.int .i64) e w1 base (fun k => f' k = q) v y :=
 Kd.R_mono (Kd.R_step (Kd.R_bound h) (fun k hk hlt => hh k hk.1 hlt)) (fun k hk => (hf k hk.2.2.1).trans hk.1)
theorem RowSt.keep {w0 w w1 : World} {l : Array Bool} {f f' : Nat → Nat} {q B A i : Nat} {vb va : Value} {y : List Int} (h : RowSt w0 l w f q B A vb va y) (hi : i < l.size) (hB : i ≠ B) (hA : i ≠ A) (hh : ∀ k, f k = q → k < w.heap.size → w1.heap[k]? = w.heap[k]?) (hf : ∀ k, k < w.heap.size → f' k = f k) : RowSt w0 (l.setIfInBounds i true) w1 f' q B A vb va y := by
 unfold RowSt at h ⊢
 rw [getD_set hi, getD_set hi, if_neg hB, if_neg hA]
 exact ⟨fun h1 h2 => R_refun (h.1 h1 h2) hh hf, fun h1 => R_refun (h.2 h1) hh hf⟩
theorem RowSt.made {w0 w w1 : World} {l : Array Bool} {f' : Nat → Nat} {q B A : Nat} {vb va : Value} {y : List Int} (hi : B < l.size) (hBA : B ≠ A) (hA : l.getD A true = false) (h : Kd.R (Kd.int .i64) 3 w1 w0.heap.size (fun k => f' k = q) vb []) : RowSt w0 (l.setIfInBounds B true) w1 f' q B A vb va y := by
 unfold RowSt
 rw [getD_set hi, getD_set hi, if_neg hBA, if_pos rfl]
 exact ⟨fun _ _ => h, fun h1 => (by rw [hA] at h1; cases h1)⟩
theorem RowSt.full {w0 w w1 : World} {l : Array Bool} {f' : Nat → Nat} {q B A : Nat} {vb va : Value} {y : List Int} (hi : A < l.size) (h : Kd.R (Kd.int .i64) 3 w1 w0.heap.size (fun k => f' k = q) va y) : RowSt w0 (l.setIfInBounds A true) w1 f' q B A vb va y := by
 unfold RowSt
 rw [getD_set hi, getD_set hi, if_pos rfl]
 exact ⟨fun _ h1 => (by cases h1), fun _ => h⟩
def OrdC (l : Array Bool) : Prop := ∀ A B, (A = 3 ∧ B = 0) ∨ (A = 9 ∧ B = 6) ∨ (A = 13 ∧ B = 10) ∨ (A = 17 ∧ B = 14) ∨ (A = 19 ∧ B = 18) → l.getD A true = true → l.getD B true = true
theorem ordC_set {l : Array Bool} {i : Nat} (hi : i < l.size) (h : OrdC l) (hn : ∀ B, (i = 3 ∧ B = 0) ∨ (i = 9 ∧ B = 6) ∨ (i = 13 ∧ B = 10) ∨ (i = 17 ∧ B = 14) ∨ (i = 19 ∧ B = 18) → l.getD B true = true) : OrdC (l.setIfInBounds i true) := by
 intro A B hAB h1
 rw [getD_set hi] at h1 ⊢
 split
 ·rfl
 ·by_cases c : i = A
  ·subst c
   exact hn B hAB
  ·rw [if_neg c] at h1
   exact h A B hAB h1
structure CInv (w0 : World) (xb rb : Nat) (XC : Array Value) (y0 y1 y2 y3 : List Int) (n : Int) (l : Array Bool) (a : Act) (w : World) : Prop where
 sz : l.size = 20
 old : ∀ j, j = 1 ∨ j = 2 ∨ j = 4 ∨ j = 5 ∨ j = 7 ∨ j = 8 ∨ j = 11 ∨ j = 12 ∨ j = 15 ∨ j = 16 → l.getD j true = true
 ord : OrdC l
 tsz : a.tmps.size = 22
 dfr : a.defers = []
 bel : Below w0.heap.size w0 w
 bx : w.heap[xb]? = some (.cells XC 30 (0, 0))
 e2 : a.eval (.tmp 2) = .pointer (some ⟨rb, 0, none⟩)
 e8 : a.eval (.tmp 8) = .int .i64 n
 rows : ∃ A0 c0 A1 c1 A2 c2 A3 c3, a.eval (.tmp 5) = .slice A0 y0.length c0 ∧ a.eval (.tmp 11) = .slice A1 y1.length c1 ∧ a.eval (.tmp 15) = .slice A2 y2.length c2 ∧ a.eval (.tmp 19) = .slice A3 y3.length c3 ∧
  (Kd.int .i64).C w0 A0 y0.length y0 ∧ (Kd.int .i64).C w0 A1 y1.length y1 ∧ (Kd.int .i64).C w0 A2 y2.length y2 ∧ (Kd.int .i64).C w0 A3 y3.length y3
 made : l.getD 19 true = false → w.heap[rb]? = some (.cells #[.slice none 0 0, .int .i64 0, .slice none 0 0, .slice none 0 0, .slice none 0 0] 30 (0, 0)) ∧ w0.heap.size ≤ rb ∧ ∃ f : Nat → Nat,
  RowSt w0 l w f 0 0 3 (a.eval (.tmp 3)) (a.eval (.tmp 6)) y0 ∧ RowSt w0 l w f 1 6 9 (a.eval (.tmp 9)) (a.eval (.tmp 12)) y1 ∧ RowSt w0 l w f 2 10 13 (a.eval (.tmp 13)) (a.eval (.tmp 16)) y2 ∧ RowSt w0 l w f 3 14 17 (a.eval (.tmp 17)) (a.eval (.tmp 20)) y3
 told : l.getD 18 true = true → l.getD 3 true = true ∧ l.getD 9 true = true ∧ l.getD 13 true = true ∧ l.getD 17 true = true ∧ a.eval (.tmp 21) = .agg #[a.eval (.tmp 6), .int .i64 n, a.eval (.tmp 12), a.eval (.tmp 16), a.eval (.tmp 20)]
 fin : l.getD 19 true = true → ∃ v0 v1 v2 v3 : Value, ∃ f : Nat → Nat, w.heap[rb]? = some (.cells #[v0, .int .i64 n, v1, v2, v3] 30 (0, 0)) ∧ Kd.R (Kd.int .i64) 3 w w0.heap.size (fun k => f k = 0) v0 y0 ∧ Kd.R (Kd.int .i64) 3 w w0.heap.size (fun k => f k = 1) v1 y1 ∧ Kd.R (Kd.int .i64) 3 w w0.heap.size (fun k => f k = 2) v2 y2 ∧ Kd.R (Kd.int .i64) 3 w w0.heap.size (fun k => f k = 3) v3 y3
theorem old_set {l : Array Bool} {i j : Nat} (hi : i < l.size) (h : l.getD j true = true) : (l.setIfInBounds i true).getD j true = true := by
 rw [getD_set hi]
 split
 ·rfl
 ·exact h
theorem bfalse {b : Bool} (h : b = true → False) : b = false := by
 cases b
 ·rfl
 ·exact (h rfl).elim
theorem blk_other {w w1 : World} {g : Nat} {o : Obj} (h : w.heap[g]? = some o) (hh : ∀ k, k < w.heap.size → w1.heap[k]? = w.heap[k]?) : w1.heap[g]? = some o := (hh g (blk_lt h)).trans h
theorem R_fresh (w0 w : World) (q : Nat) (hb : w0.heap.size ≤ w.heap.size) (f : Nat → Nat) : Kd.R (Kd.int .i64) 3 (w.alloc (.cells #[] 3)) w0.heap.size (fun k => (if k = w.heap.size then q else f k) = q) (.slice (some ⟨w.heap.size, 0, none⟩) 0 0) [] :=
 ⟨fun k hk => by simp only [Value.ownBlock, Option.some.injEq] at hk; subst hk; simp, [], ⟨rfl, .inr ⟨w.heap.size, 0, #[], rfl, hb, blk_new w _, Nat.le_refl _, Nat.zero_le _, rfl, rfl⟩⟩, Reps.none _ _⟩
section
variable {w0 : World} {xb rb : Nat} {XC : Array Value} {y0 y1 y2 y3 : List Int} {n : Int} {l : Array Bool} {a : Act} {w : World} {K : Act → World → Prop} {Q : Exit → Act → World → Prop}
theorem CInv.build (h : CInv w0 xb rb XC y0 y1 y2 y3 n l a w) (i d : Nat) (hid : (i = 0 ∧ d = 3) ∨ (i = 6 ∧ d = 9) ∨ (i = 10 ∧ d = 13) ∨ (i = 14 ∧ d = 17)) (hl : l.getD i true = false) :
  CInv w0 xb rb XC y0 y1 y2 y3 n (l.setIfInBounds i true) (a.put (some d) (.slice (some ⟨w.heap.size, 0, none⟩) 0 0)) (w.alloc (.cells #[] 3)) := by
 have hi : i < l.size := by rw [h.sz]; omega
 have h18 : l.getD 18 true = false := bfalse fun e => by
  obtain ⟨a3, a9, a13, a17, _⟩ := h.told e
  rcases hid with ⟨rfl, _⟩ | ⟨rfl, _⟩ | ⟨rfl, _⟩ | ⟨rfl, _⟩
  ·rw [h.ord 3 0 (by omega) a3] at hl; cases hl
  ·rw [h.ord 9 6 (by omega) a9] at hl; cases hl
  ·rw [h.ord 13 10 (by omega) a13] at hl; cases hl
  ·rw [h.ord 17 14 (by omega) a17] at hl; cases hl
 have h19 : l.getD 19 true = false := bfalse fun e => by rw [h.ord 19 18 (by omega) e] at h18; cases h18
 have hd : d < a.tmps.size := by rw [h.tsz]; omega
 have hw : ∀ k, k < w.heap.size → (w.alloc (.cells #[] 3)).heap[k]? = w.heap[k]? := fun k hk => Below.heap_alloc w _ k hk
 have ev : ∀ d', d ≠ d' → (a.put (some d) (.slice (some ⟨w.heap.size, 0, none⟩) 0 0)).eval (.tmp d') = a.eval (.tmp d') := fun d' hne => eval_put_ne hne
 have es : (a.put (some d) (.slice (some ⟨w.heap.size, 0, none⟩) 0 0)).eval (.tmp d) = .slice (some ⟨w.heap.size, 0, none⟩) 0 0 := eval_put_same hd
 obtain ⟨hr, hrb, f, r0, r1, r2, r3⟩ := h.made h19
 have hsz : w0.heap.size ≤ w.heap.size := h.bel.size
 refine ⟨by rw [Array.size_setIfInBounds]; exact h.sz, fun j hj => old_set hi (h.old j hj), ordC_set hi h.ord (fun B hB => by omega), by rw [put_size]; exact h.tsz, h.dfr, below_alloc h.bel _, blk_other h.bx hw, (ev 2 (by omega)).trans h.e2, (ev 8 (by omega)).trans h.e8, ?_, fun _ => ⟨blk_other hr hw, hrb, fun k => if k = w.heap.size then (if i = 0 then 0 else if i = 6 then 1 else if i = 10 then 2 else 3) else f k, ?_⟩, fun h2 => ?_, fun h2 => ?_⟩
 ·obtain ⟨A0, c0, A1, c1, A2, c2, A3, c3, x0, x1, x2, x3, z⟩ := h.rows
  exact ⟨A0, c0, A1, c1, A2, c2, A3, c3, (ev 5 (by omega)).trans x0, (ev 11 (by omega)).trans x1, (ev 15 (by omega)).trans x2, (ev 19 (by omega)).trans x3, z⟩
 ·have hf : ∀ k, k < w.heap.size → (if k = w.heap.size then (if i = 0 then 0 else if i = 6 then 1 else if i = 10 then 2 else 3) else f k) = f k := fun k hk => if_neg (by omega)
  rcases hid with ⟨rfl, rfl⟩ | ⟨rfl, rfl⟩ | ⟨rfl, rfl⟩ | ⟨rfl, rfl⟩
  ·rw [es, ev 6 (by omega), ev 9 (by omega), ev 12 (by omega), ev 13 (by omega), ev 16 (by omega), ev 17 (by omega), ev 20 (by omega)]
   exact ⟨RowSt.made (w := w) hi (by omega) (bfalse fun e => by rw [h.ord 3 0 (by omega) e] at hl; cases hl) (R_fresh w0 w 0 hsz f), r1.keep hi (by omega) (by omega) (fun k _ hk => hw k hk) hf, r2.keep hi (by omega) (by omega) (fun k _ hk => hw k hk) hf, r3.keep hi (by omega) (by omega) (fun k _ hk => hw k hk) hf⟩
  ·rw [es, ev 3 (by omega), ev 6 (by omega), ev 12 (by omega), ev 13 (by omega), ev 16 (by omega), ev 17 (by omega), ev 20 (by omega)]
   exact ⟨r0.keep hi (by omega) (by omega) (fun k _ hk => hw k hk) hf, RowSt.made (w := w) hi (by omega) (bfalse fun e => by rw [h.ord 9 6 (by omega) e] at hl; cases hl) (R_fresh w0 w 1 hsz f), r2.keep hi (by omega) (by omega) (fun k _ hk => hw k hk) hf, r3.keep hi (by omega) (by omega) (fun k _ hk => hw k hk) hf⟩
  ·rw [es, ev 3 (by omega), ev 6 (by omega), ev 9 (by omega), ev 12 (by omega), ev 16 (by omega), ev 17 (by omega), ev 20 (by omega)]
   exact ⟨r0.keep hi (by omega) (by omega) (fun k _ hk => hw k hk) hf, r1.keep hi (by omega) (by omega) (fun k _ hk => hw k hk) hf, RowSt.made (w := w) hi (by omega) (bfalse fun e => by rw [h.ord 13 10 (by omega) e] at hl; cases hl) (R_fresh w0 w 2 hsz f), r3.keep hi (by omega) (by omega) (fun k _ hk => hw k hk) hf⟩
  ·rw [es, ev 3 (by omega), ev 6 (by omega), ev 9 (by omega), ev 12 (by omega), ev 13 (by omega), ev 16 (by omega), ev 20 (by omega)]
   exact ⟨r0.keep hi (by omega) (by omega) (fun k _ hk => hw k hk) hf, r1.keep hi (by omega) (by omega) (fun k _ hk => hw k hk) hf, r2.keep hi (by omega) (by omega) (fun k _ hk => hw k hk) hf, RowSt.made (w := w) hi (by omega) (bfalse fun e => by rw [h.ord 17 14 (by omega) e] at hl; cases hl) (R_fresh w0 w 3 hsz f)⟩
 ·rw [getD_set hi, if_neg (by omega), h18] at h2; cases h2
 ·rw [getD_set hi, if_neg (by omega), h19] at h2; cases h2
theorem CInv.app (h : CInv w0 xb rb XC y0 y1 y2 y3 n l a w) (i d q : Nat) (hid : (i = 3 ∧ d = 6 ∧ q = 0) ∨ (i = 9 ∧ d = 12 ∧ q = 1) ∨ (i = 13 ∧ d = 16 ∧ q = 2) ∨ (i = 17 ∧ d = 20 ∧ q = 3)) (hl : l.getD i true = false) (hB : ∀ B, (i = 3 ∧ B = 0) ∨ (i = 9 ∧ B = 6) ∨ (i = 13 ∧ B = 10) ∨ (i = 17 ∧ B = 14) ∨ (i = 19 ∧ B = 18) → l.getD B true = true) (h18 : l.getD 18 true = false) (h19 : l.getD 19 true = false)
  {f f' : Nat → Nat} {v v1 : Value} {w1 : World} (hr : w.heap[rb]? = some (.cells #[.slice none 0 0, .int .i64 0, .slice none 0 0, .slice none 0 0, .slice none 0 0] 30 (0, 0))) (hrb : w0.heap.size ≤ rb) (hf : ∀ k, k < w.heap.size → f' k = f k)
  (r0 : RowSt w0 l w f 0 0 3 (a.eval (.tmp 3)) (a.eval (.tmp 6)) y0) (r1 : RowSt w0 l w f 1 6 9 (a.eval (.tmp 9)) (a.eval (.tmp 12)) y1) (r2 : RowSt w0 l w f 2 10 13 (a.eval (.tmp 13)) (a.eval (.tmp 16)) y2) (r3 : RowSt w0 l w f 3 14 17 (a.eval (.tmp 17)) (a.eval (.tmp 20)) y3)
  (hv : ∀ k, v.ownBlock = some k → f k = q ∧ ∃ cells, w.heap[k]? = some (.cells cells 3 (0, 0))) (hb : Below w0.heap.size w0 w1) (hg : w.grownBy w1 v.ownBlock)
  (ho : Kd.R (Kd.int .i64) 3 w1 w0.heap.size (fun k => f' k = q) v1 (if i = 3 then y0 else if i = 9 then y1 else if i = 13 then y2 else y3)) :
  CInv w0 xb rb XC y0 y1 y2 y3 n (l.setIfInBounds i true) (a.put (some d) v1) w1 := by
 have hi : i < l.size := by rw [h.sz]; omega
 have hd : d < a.tmps.size := by rw [h.tsz]; omega
 have ev : ∀ d', d ≠ d' → (a.put (some d) v1).eval (.tmp d') = a.eval (.tmp d') := fun d' hne => eval_put_ne hne
 have es : (a.put (some d) v1).eval (.tmp d) = v1 := eval_put_same hd
 have hfar : ∀ (g t : Nat) (cs : Array Value), w.heap[g]? = some (.cells cs t (0, 0)) → t ≠ 3 → w1.heap[g]? = some (.cells cs t (0, 0)) := fun g t cs hgc hne =>
  blk_grown hgc hg (fun e => by obtain ⟨_, cells, hc⟩ := hv g e.symm; rw [hgc] at hc; injection hc with hc; injection hc with _ hc; exact hne hc)
 have hw : ∀ q', q' ≠ q → ∀ k, f k = q' → k < w.heap.size → w1.heap[k]? = w.heap[k]? := fun q' hne k hk hlt => hg.block k hlt (fun e => by have := (hv k e.symm).1; omega)
 refine ⟨by rw [Array.size_setIfInBounds]; exact h.sz, fun j hj => old_set hi (h.old j hj), ordC_set hi h.ord hB, by rw [put_size]; exact h.tsz, h.dfr, hb, hfar _ _ _ h.bx (by decide), (ev 2 (by omega)).trans h.e2, (ev 8 (by omega)).trans h.e8, ?_, fun _ => ⟨hfar _ _ _ hr (by decide), hrb, f', ?_⟩, fun h2 => ?_, fun h2 => ?_⟩
 ·obtain ⟨A0, c0, A1, c1, A2, c2, A3, c3, x0, x1, x2, x3, z⟩ := h.rows
  exact ⟨A0, c0, A1, c1, A2, c2, A3, c3, (ev 5 (by omega)).trans x0, (ev 11 (by omega)).trans x1, (ev 15 (by omega)).trans x2, (ev 19 (by omega)).trans x3, z⟩
 ·rcases hid with ⟨rfl, rfl, rfl⟩ | ⟨rfl, rfl, rfl⟩ | ⟨rfl, rfl, rfl⟩ | ⟨rfl, rfl, rfl⟩
  ·rw [es, ev 3 (by omega), ev 9 (by omega), ev 12 (by omega), ev 13 (by omega), ev 16 (by omega), ev 17 (by omega), ev 20 (by omega)]
   exact ⟨RowSt.full (w := w) hi ho, r1.keep hi (by omega) (by omega) (hw 1 (by omega)) hf, r2.keep hi (by omega) (by omega) (hw 2 (by omega)) hf, r3.keep hi (by omega) (by omega) (hw 3 (by omega)) hf⟩
  ·rw [es, ev 3 (by omega), ev 6 (by omega), ev 9 (by omega), ev 13 (by omega), ev 16 (by omega), ev 17 (by omega), ev 20 (by omega)]
   exact ⟨r0.keep hi (by omega) (by omega) (hw 0 (by omega)) hf, RowSt.full (w := w) hi ho, r2.keep hi (by omega) (by omega) (hw 2 (by omega)) hf, r3.keep hi (by omega) (by omega) (hw 3 (by omega)) hf⟩
  ·rw [es, ev 3 (by omega), ev 6 (by omega), ev 9 (by omega), ev 12 (by omega), ev 13 (by omega), ev 17 (by omega), ev 20 (by omega)]
   exact ⟨r0.keep hi (by omega) (by omega) (hw 0 (by omega)) hf, r1.keep hi (by omega) (by omega) (hw 1 (by omega)) hf, RowSt.full (w := w) hi ho, r3.keep hi (by omega) (by omega) (hw 3 (by omega)) hf⟩
  ·rw [es, ev 3 (by omega), ev 6 (by omega), ev 9 (by omega), ev 12 (by omega), ev 13 (by omega), ev 16 (by omega), ev 17 (by omega)]
   exact ⟨r0.keep hi (by omega) (by omega) (hw 0 (by omega)) hf, r1.keep hi (by omega) (by omega) (hw 1 (by omega)) hf, r2.keep hi (by omega) (by omega) (hw 2 (by omega)) hf, RowSt.full (w := w) hi ho⟩
 ·rw [getD_set hi, if_neg (by omega), h18] at h2; cases h2
 ·rw [getD_set hi, if_neg (by omega), h19] at h2; cases h2
theorem CInv.tell (h : CInv w0 xb rb XC y0 y1 y2 y3 n l a w) (hl : l.getD 18 true = false) (h19 : l.getD 19 true = false) (a3 : l.getD 3 true = true) (a9 : l.getD 9 true = true) (a13 : l.getD 13 true = true) (a17 : l.getD 17 true = true) :
  CInv w0 xb rb XC y0 y1 y2 y3 n (l.setIfInBounds 18 true) (a.put (some 21) (.agg #[a.eval (.tmp 6), .int .i64 n, a.eval (.tmp 12), a.eval (.tmp 16), a.eval (.tmp 20)])) w := by
 have hi : 18 < l.size := by rw [h.sz]; omega
 have hd : 21 < a.tmps.size := by rw [h.tsz]; omega
 have ev : ∀ d' : Nat, (21 : Nat) ≠ d' → (a.put (some 21) (.agg #[a.eval (.tmp 6), .int .i64 n, a.eval (.tmp 12), a.eval (.tmp 16), a.eval (.tmp 20)])).eval (.tmp d') = a.eval (.tmp d') := fun d' hne => eval_put_ne hne
 have hg : ∀ j : Nat, (18 : Nat) ≠ j → (l.setIfInBounds 18 true).getD j true = l.getD j true := fun j hj => by rw [getD_set hi, if_neg hj]
 refine ⟨by rw [Array.size_setIfInBounds]; exact h.sz, fun j hj => old_set hi (h.old j hj), ordC_set hi h.ord (fun B hB => by omega), by rw [put_size]; exact h.tsz, h.dfr, h.bel, h.bx, (ev 2 (by omega)).trans h.e2, (ev 8 (by omega)).trans h.e8, ?_, fun _ => ?_, fun _ => ?_, fun h2 => ?_⟩
 ·obtain ⟨A0, c0, A1, c1, A2, c2, A3, c3, x0, x1, x2, x3, z⟩ := h.rows
  exact ⟨A0, c0, A1, c1, A2, c2, A3, c3, (ev 5 (by omega)).trans x0, (ev 11 (by omega)).trans x1, (ev 15 (by omega)).trans x2, (ev 19 (by omega)).trans x3, z⟩
 ·obtain ⟨hr, hrb, f, r0, r1, r2, r3⟩ := h.made h19
  refine ⟨hr, hrb, f, ?_⟩
  rw [ev 3 (by omega), ev 6 (by omega), ev 9 (by omega), ev 12 (by omega), ev 13 (by omega), ev 16 (by omega), ev 17 (by omega), ev 20 (by omega)]
  exact ⟨r0.keep hi (by omega) (by omega) (fun _ _ _ => rfl) (fun _ _ => rfl), r1.keep hi (by omega) (by omega) (fun _ _ _ => rfl) (fun _ _ => rfl), r2.keep hi (by omega) (by omega) (fun _ _ _ => rfl) (fun _ _ => rfl), r3.keep hi (by omega) (by omega) (fun _ _ _ => rfl) (fun _ _ => rfl)⟩
 ·rw [hg 3 (by omega), hg 9 (by omega), hg 13 (by omega), hg 17 (by omega), ev 6 (by omega), ev 12 (by omega), ev 16 (by omega), ev 20 (by omega)]
  exact ⟨a3, a9, a13, a17, eval_put_same hd⟩
 ·rw [hg 19 (by omega), h19] at h2; cases h2
theorem CInv.store (h : CInv w0 xb rb XC y0 y1 y2 y3 n l a w) (hl : l.getD 19 true = false) (hr : w.heap[rb]? = some (.cells #[.slice none 0 0, .int .i64 0, .slice none 0 0, .slice none 0 0, .slice none 0 0] 30 (0, 0))) (hrb : w0.heap.size ≤ rb) (h18 : l.getD 18 true = true) {f : Nat → Nat} {v0 v1 v2 v3 : Value}
  (r0 : Kd.R (Kd.int .i64) 3 w w0.heap.size (fun k => f k = 0) v0 y0) (r1 : Kd.R (Kd.int .i64) 3 w w0.heap.size (fun k => f k = 1) v1 y1) (r2 : Kd.R (Kd.int .i64) 3 w w0.heap.size (fun k => f k = 2) v2 y2) (r3 : Kd.R (Kd.int .i64) 3 w w0.heap.size (fun k => f k = 3) v3 y3) (hne : xb ≠ rb) :
  CInv w0 xb rb XC y0 y1 y2 y3 n (l.setIfInBounds 19 true) (a.put none undef) (w.setCells rb 0 [v0, .int .i64 n, v1, v2, v3]) := by
 have hi : 19 < l.size := by rw [h.sz]; omega
 have hg : ∀ j : Nat, (19 : Nat) ≠ j → (l.setIfInBounds 19 true).getD j true = l.getD j true := fun j hj => by rw [getD_set hi, if_neg hj]
 have hs : (l.setIfInBounds 19 true).getD 19 true = true := by rw [getD_set hi, if_pos rfl]
 obtain ⟨cur, c1, c2, c3⟩ := setCells_row [v0, .int .i64 n, v1, v2, v3] 0 w _ hr (by simp)
 obtain ⟨s1, s2, s3, s4⟩ := setCells_same rb [v0, .int .i64 n, v1, v2, v3] 0 w
 have hfar : ∀ k, k ≠ rb → (w.setCells rb 0 [v0, .int .i64 n, v1, v2, v3]).heap[k]? = w.heap[k]? := fun k hk => setCells_far _ _ k hk
 have hcur : cur = #[v0, .int .i64 n, v1, v2, v3] := by
  apply Array.toList_inj.mp
  rw [c3]
  simp
 have hR : ∀ {q : Nat} {v : Value} {y : List Int}, Kd.R (Kd.int .i64) 3 w w0.heap.size (fun k => f k = q) v y → Kd.R (Kd.int .i64) 3 (w.setCells rb 0 [v0, .int .i64 n, v1, v2, v3]) w0.heap.size (fun k => f k = q) v y := fun hv =>
  Kd.R_mono (Kd.R_step (Kd.R_types hv hr (by decide)) (fun k hk _ => hfar k hk.2)) (fun k hk => hk.1)
 refine ⟨by rw [Array.size_setIfInBounds]; exact h.sz, fun j hj => old_set hi (h.old j hj), ordC_set hi h.ord (fun B hB => by rw [show B = 18 by omega]; exact h18), h.tsz, h.dfr, h.bel.trans ⟨s1, s2, s3, by rw [s4]; exact Nat.le_refl _, fun k hk => hfar k (by omega)⟩, (hfar xb hne).trans h.bx, h.e2, h.e8, h.rows, fun h2 => (by rw [hs] at h2; cases h2), fun _ => ?_, fun _ => ?_⟩
 ·obtain ⟨a3, a9, a13, a17, e⟩ := h.told h18
  exact ⟨(hg 3 (by omega)).trans a3, (hg 9 (by omega)).trans a9, (hg 13 (by omega)).trans a13, (hg 17 (by omega)).trans a17, e⟩
 ·exact ⟨v0, v1, v2, v3, f, by rw [c1, hcur], hR r0, hR r1, hR r2, hR r3⟩
end
set_option maxHeartbeats 8000000 in
set_option maxRecDepth 100000 in
theorem hypercuberef2_Copy.calls (A0_0 : Option Addr) (c0_0 : Nat) (l0_0 : List Int) (a0_1 : Int) (A0_2 : Option Addr) (c0_2 : Nat) (l0_2 : List Int) (A0_3 : Option Addr) (c0_3 : Nat) (l0_3 : List Int) (A0_4 : Option Addr) (c0_4 : Nat) (l0_4 : List Int) (r1 : List Int) (r2 : Int) (r3 : List Int) (r4 : List Int) (r5 : List Int) (w : World) (hr0_0 : Kd.C (Kd.int .i64) w A0_0 l0_0.length l0_0) (hc0_0 : l0_0.length ≤ c0_0) (hr0_2 : Kd.C (Kd.int .i64) w A0_2 l0_2.length l0_2) (hc0_2 : l0_2.length ≤ c0_2) (hr0_3 : Kd.C (Kd.int .i64) w A0_3 l0_3.length l0_3) (hc0_3 : l0_3.length ≤ c0_3) (hr0_4 : Kd.C (Kd.int .i64) w A0_4 l0_4.length l0_4) (hc0_4 : l0_4.length ≤ c0_4) (h : hypercuberef2_Copy.f l0_0 a0_1 l0_2 l0_3 l0_4 = some (r1, r2, r3, r4, r5)) :
  Calls Try.prog 52 #[.agg #[.slice A0_0 l0_0.length c0_0, .int .i64 a0_1, .slice A0_2 l0_2.length c0_2, .slice A0_3 l0_3.length c0_3, .slice A0_4 l0_4.length c0_4]] w fun e w' => ∃ v0_ v2_ v3_ v4_ : Value, e = .returned (.agg #[v0_, .int .i64 r2, v2_, v3_, v4_]) ∧ Kd.R (Kd.int .i64) 3 w' w.heap.size (fun k_ => some k_ ≠ (v2_ : Value).ownBlock ∧ some k_ ≠ (v3_ : Value).ownBlock ∧ some k_ ≠ (v4_ : Value).ownBlock) v0_ r1 ∧ Kd.R (Kd.int .i64) 3 w' w.heap.size (fun k_ => some k_ ≠ (v0_ : Value).ownBlock ∧ some k_ ≠ (v3_ : Value).ownBlock ∧ some k_ ≠ (v4_ : Value).ownBlock) v2_ r3 ∧ Kd.R (Kd.int .i64) 3 w' w.heap.size (fun k_ => some k_ ≠ (v0_ : Value).ownBlock ∧ some k_ ≠ (v2_ : Value).ownBlock ∧ some k_ ≠ (v4_ : Value).ownBlock) v3_ r4 ∧ Kd.R (Kd.int .i64) 3 w' w.heap.size (fun k_ => some k_ ≠ (v0_ : Value).ownBlock ∧ some k_ ≠ (v2_ : Value).ownBlock ∧ some k_ ≠ (v3_ : Value).ownBlock) v4_ r5 ∧ Below w.heap.size w w' := by
 have hu30 := Try.underlying30
 unfold hypercuberef2_Copy.f at h
 have hlim : (l0_0.length * 8 ≤ 140737488355328 ∧ l0_2.length * 8 ≤ 140737488355328 ∧ l0_3.length * 8 ≤ 140737488355328 ∧ l0_4.length * 8 ≤ 140737488355328) ∧ (l0_0, a0_1, l0_2, l0_3, l0_4) = (r1, r2, r3, r4, r5) := by
  split at h
  · exact ⟨by assumption, Option.some.inj h⟩
  · cases h
 obtain ⟨hlim, he⟩ := hlim
 simp only [Prod.mk.injEq] at he
 obtain ⟨rfl, rfl, rfl, rfl, rfl⟩ := he
 have HL := am hlim
 have G0 := am hr0_0
 have G2 := am hr0_2
 have G3 := am hr0_3
 have G4 := am hr0_4
 clear h hlim hr0_0 hr0_2 hr0_3 hr0_4 hc0_0 hc0_2 hc0_3 hc0_4
 have HB := am (Below.refl w.heap.size w)
 go_enter Try.func52, Try.ntmps52
 go_wp2_with (first
  | ((with_reducible refine gate_dst (N := 1) rfl ?_); refine box_event ?hg (N := 1) ?hd (cs := #[.slice A0_0 l0_0.length c0_0, .int .i64 a0_1, .slice A0_2 l0_2.length c0_2, .slice A0_3 l0_3.length c0_3, .slice A0_4 l0_4.length c0_4]) (t := 30) ?hr ?_; (case hd => rfl); (case hg => rfl); (case hr => first | (go_simp; done) | (go_simp; rfl)); intro gx hg w3 hbox hb; have n0_ := am (below_step HB.out hb); have n1_ := am hbox; clear HB; have HB := n0_; have BKx := n1_; clear n0_ n1_; clear hb hbox hg)
  | ((with_reducible refine gate_dst (N := 2) rfl ?_); refine box_event ?hg (N := 2) ?hd (cs := #[.slice none 0 0, .int .i64 0, .slice none 0 0, .slice none 0 0, .slice none 0 0]) (t := 30) ?hr ?_; (case hd => rfl); (case hg => rfl); (case hr => first | (go_simp; done) | (go_simp; rfl)); intro gr hg w4 hbox hb; have n0_ := am (below_step HB.out hb); have n1_ := am hbox; have n2_ := am (blk_below BKx.out hb); have n3_ := am (show w.heap.size ≤ gr by rw [hg]; exact HB.out.size); have NExr := am (show gx ≠ gr by rw [hg]; exact Nat.ne_of_lt (blk_lt BKx.out)); clear HB BKx; have HB := n0_; have BKr := n1_; have BKx := n2_; have GEr := n3_; clear n0_ n1_ n2_ n3_; clear hb hbox hg))

 refine start_ (n := 20) (S := fun w' => w'.heap[gx]? = some (.cells #[.slice A0_0 l0_0.length c0_0, .int .i64 a0_1, .slice A0_2 l0_2.length c0_2, .slice A0_3 l0_3.length c0_3, .slice A0_4 l0_4.length c0_4] 30 (0, 0))) (ds := [19]) (bb 20 0) (by kernel_rfl) rfl rfl BKx.out (fun hHeld => ?_); refine with_tabW ref_Copy.tab1 ref_Copy.bits1 (fun HT_ HW_ => ?_)
 have n0_ := am (below_drew1 HB.out)
 have n1_ := am (blk_drew BKx.out)
 have n2_ := am (blk_drew BKr.out)
 clear HB BKx BKr
 have HB := n0_
 have BKx := n1_
 have BKr := n2_
 clear n0_ n1_ n2_
 generalize w4.drew = w5 at HB BKx BKr hHeld ⊢
 refine pure_ (i := 1) (N := some 4) (v := ?_) (a' := ?_) (bb 20 2) rfl rfl (any_of HT_.out (by kernel_rfl)) (fun _ _ _ h => h) (Or.inl ⟨by rfl, ?_⟩) ?_ ?_
 rotate_left
 ·intro w'
  go_simp
  with_reducible rfl
 rotate_left
 ·simp only [Act.put, List.setIfInBounds_toArray, List.set_cons_zero, List.set_cons_succ, i64_w, i32_w]
  rfl
 refine pure_ (i := 4) (N := some 7) (v := ?_) (a' := ?_) (bb 20 18) rfl rfl (any_of HT_.out (by kernel_rfl)) (fun _ _ _ h => h) (Or.inl ⟨by rfl, ?_⟩) ?_ ?_
 rotate_left
 ·intro w'
  go_simp
  with_reducible rfl
 rotate_left
 ·simp only [Act.put, List.setIfInBounds_toArray, List.set_cons_zero, List.set_cons_succ, i64_w, i32_w]
  rfl
 refine pure_ (i := 7) (N := some 10) (v := ?_) (a' := ?_) (bb 20 146) rfl rfl (any_of HT_.out (by kernel_rfl)) (fun _ _ _ h => h) (Or.inl ⟨by rfl, ?_⟩) ?_ ?_
 rotate_left
 ·intro w'
  go_simp
  with_reducible rfl
 rotate_left
 ·simp only [Act.put, List.setIfInBounds_toArray, List.set_cons_zero, List.set_cons_succ, i64_w, i32_w]
  rfl
 refine pure_ (i := 11) (N := some 14) (v := ?_) (a' := ?_) (bb 20 2194) rfl rfl (any_of HT_.out (by kernel_rfl)) (fun _ _ _ h => h) (Or.inl ⟨by rfl, ?_⟩) ?_ ?_
 rotate_left
 ·intro w'
  go_simp
  with_reducible rfl
 rotate_left
 ·simp only [Act.put, List.setIfInBounds_toArray, List.set_cons_zero, List.set_cons_succ, i64_w, i32_w]
  rfl
 refine pure_ (i := 15) (N := some 18) (v := ?_) (a' := ?_) (bb 20 34962) rfl rfl (any_of HT_.out (by kernel_rfl)) (fun _ _ _ h => h) (Or.inl ⟨by rfl, ?_⟩) ?_ ?_
 rotate_left
 ·intro w'
  go_simp
  with_reducible rfl
 rotate_left
 ·simp only [Act.put, List.setIfInBounds_toArray, List.set_cons_zero, List.set_cons_succ, i64_w, i32_w]
  rfl
 refine take_ (i := 2) (N := some 5) (v := ?_) (a' := ?_) (bb 20 34966) rfl rfl (take_ofW HT_.out HW_.out (by kernel_rfl)) (fun _ _ _ h => h) (Or.inl ⟨by rfl, ?_⟩) hHeld ?_ ?_
 rotate_left
 ·intro w' hs
  have s0 := (blk_cell hs 0).trans rfl
  have s1 := (blk_cell hs 1).trans rfl
  have s2 := (blk_cell hs 2).trans rfl
  have s3 := (blk_cell hs 3).trans rfl
  have s4 := (blk_cell hs 4).trans rfl
  clear hs
  go_simp
  with_reducible rfl
 rotate_left
 ·simp only [Act.put, List.setIfInBounds_toArray, List.set_cons_zero, List.set_cons_succ, i64_w, i32_w]
  rfl
 refine take_ (i := 5) (N := some 8) (v := ?_) (a' := ?_) (bb 20 34998) rfl rfl (take_ofW HT_.out HW_.out (by kernel_rfl)) (fun _ _ _ h => h) (Or.inl ⟨by rfl, ?_⟩) hHeld ?_ ?_
 rotate_left
 ·intro w' hs
  have s0 := (blk_cell hs 0).trans rfl
  have s1 := (blk_cell hs 1).trans rfl
  have s2 := (blk_cell hs 2).trans rfl
  have s3 := (blk_cell hs 3).trans rfl
  have s4 := (blk_cell hs 4).trans rfl
  clear hs
  go_simp
  with_reducible rfl
 rotate_left
 ·simp only [Act.put, List.setIfInBounds_toArray, List.set_cons_zero, List.set_cons_succ, i64_w, i32_w]
  rfl
 refine take_ (i := 8) (N := some 11) (v := ?_) (a' := ?_) (bb 20 35254) rfl rfl (take_ofW HT_.out HW_.out (by kernel_rfl)) (fun _ _ _ h => h) (Or.inl ⟨by rfl, ?_⟩) hHeld ?_ ?_
 rotate_left
 ·intro w' hs
  have s0 := (blk_cell hs 0).trans rfl
  have s1 := (blk_cell hs 1).trans rfl
  have s2 := (blk_cell hs 2).trans rfl
  have s3 := (blk_cell hs 3).trans rfl
  have s4 := (blk_cell hs 4).trans rfl
  clear hs
  go_simp
  with_reducible rfl
 rotate_left
 ·simp only [Act.put, List.setIfInBounds_toArray, List.set_cons_zero, List.set_cons_succ, i64_w, i32_w]
  rfl
 refine take_ (i := 12) (N := some 15) (v := ?_) (a' := ?_) (bb 20 39350) rfl rfl (take_ofW HT_.out HW_.out (by kernel_rfl)) (fun _ _ _ h => h) (Or.inl ⟨by rfl, ?_⟩) hHeld ?_ ?_
 rotate_left
 ·intro w' hs
  have s0 := (blk_cell hs 0).trans rfl
  have s1 := (blk_cell hs 1).trans rfl
  have s2 := (blk_cell hs 2).trans rfl
  have s3 := (blk_cell hs 3).trans rfl
  have s4 := (blk_cell hs 4).trans rfl
  clear hs
  go_simp
  with_reducible rfl
 rotate_left
 ·simp only [Act.put, List.setIfInBounds_toArray, List.set_cons_zero, List.set_cons_succ, i64_w, i32_w]
  rfl
 refine take_ (i := 16) (N := some 19) (v := ?_) (a' := ?_) (bb 20 104886) rfl rfl (take_ofW HT_.out HW_.out (by kernel_rfl)) (fun _ _ _ h => h) (Or.inl ⟨by rfl, ?_⟩) hHeld ?_ ?_
 rotate_left
 ·intro w' hs
  have s0 := (blk_cell hs 0).trans rfl
  have s1 := (blk_cell hs 1).trans rfl
  have s2 := (blk_cell hs 2).trans rfl
  have s3 := (blk_cell hs 3).trans rfl
  have s4 := (blk_cell hs 4).trans rfl
  clear hs
  go_simp
  with_reducible rfl
 rotate_left
 ·simp only [Act.put, List.setIfInBounds_toArray, List.set_cons_zero, List.set_cons_succ, i64_w, i32_w]
  rfl
 refine anyLast_inv (CInv w gx gr #[.slice A0_0 l0_0.length c0_0, .int .i64 a0_1, .slice A0_2 l0_2.length c0_2, .slice A0_3 l0_3.length c0_3, .slice A0_4 l0_4.length c0_4] l0_0 l0_2 l0_3 l0_4 a0_1) ?step ?last _ _ _ _ (by decide) ?init
 case init =>
  refine ⟨rfl, ?_, ?_, rfl, rfl, HB.out, BKx.out, rfl, rfl, ⟨_, _, _, _, _, _, _, _, rfl, rfl, rfl, rfl, G0.out, G2.out, G3.out, G4.out⟩, fun _ => ⟨BKr.out, GEr.out, fun _ => 0, ?_, ?_, ?_, ?_⟩, fun h => absurd h (by decide), fun h => absurd h (by decide)⟩
  · rintro j (rfl | rfl | rfl | rfl | rfl | rfl | rfl | rfl | rfl | rfl) <;> rfl
  · intro A B hAB h1
    rcases hAB with ⟨rfl, rfl⟩ | ⟨rfl, rfl⟩ | ⟨rfl, rfl⟩ | ⟨rfl, rfl⟩ | ⟨rfl, rfl⟩ <;> exact absurd h1 (by decide)
  all_goals exact ⟨fun h => absurd h (by decide), fun h => absurd h (by decide)⟩
 case step =>
  intro l a w' i hI hr
  clear HB BKx BKr hHeld HT_ HW_
  obtain ⟨hi, hl, hn⟩ := ready_at hr
  have hcase : i = 0 ∨ i = 3 ∨ i = 6 ∨ i = 9 ∨ i = 10 ∨ i = 13 ∨ i = 14 ∨ i = 17 ∨ i = 18 ∨ i = 19 := by
   have h20 : i < 20 := hi
   have hno : ¬ (i = 1 ∨ i = 2 ∨ i = 4 ∨ i = 5 ∨ i = 7 ∨ i = 8 ∨ i = 11 ∨ i = 12 ∨ i = 15 ∨ i = 16) := fun h => by rw [hI.old i h] at hl; cases hl
   omega
  clear hi hr
  rcases hcase with rfl | rfl | rfl | rfl | rfl | rfl | rfl | rfl | rfl | rfl
  · refine op_now rfl (value_ (w1 := w'.alloc (.cells #[] 3)) (v := .slice (some ⟨w'.heap.size, 0, none⟩) 0 0) (by rfl) rfl (by go_simp; first | done | rfl | (constructor <;> rfl)) ⟨fun _ hS => blk_alloc hS _, ?_⟩)
    exact hI.build 0 3 (by omega) hl
  · have hB0 := hn _ rfl ⟨0, .data⟩ (by simp) rfl
    have h18 : l.getD 18 true = false := bfalse fun e => by
      obtain ⟨a3, a9, a13, a17, _⟩ := hI.told e
      first | (rw [a3] at hl; cases hl) | (rw [a9] at hl; cases hl) | (rw [a13] at hl; cases hl) | (rw [a17] at hl; cases hl)
    have h19 : l.getD 19 true = false := bfalse fun e => by rw [hI.ord 19 18 (by omega) e] at h18; cases h18
    obtain ⟨hr, hrb, f, r0, r1, r2, r3⟩ := hI.made h19
    obtain ⟨X0, z0, X1, z1, X2, z2, X3, z3, x0, x1, x2, x3, k0, k1, k2, k3⟩ := hI.rows
    have hHO := r0.1 hB0 hl
    have hHO2 := R_refun (f' := fun k => if w'.heap.size ≤ k then 0 else f k) hHO (fun _ _ _ => rfl) (fun k hk => if_neg (by omega))
    refine op_now rfl (Kd.R_append_rows_step (Kd.int .i64) (Rr := (Kd.int .i64).K w) (w0 := w) w.heap.size (by rfl) (.tmp 3) (.tmp 5) 22 3 (.int .i64 0) 8 rfl Try.underlying22 info3 rfl (by decide) (by decide) (a.eval (.tmp 3)) [] l0_0 X0 l0_0.length z0 (fun k => (if w'.heap.size ≤ k then 0 else f k) = 0) (fun _ => False) rfl x0 hHO2 (Kd.C_below k0 hI.bel) (fun _ _ h => h) (fun _ h => h.elim) (fun k hk => if_pos hk) hI.bel hI.bel.size (by have := HL.out.1; simp only [List.length_nil]; omega) ?_)
    intro v1 w1 ho hb hg hat
    have hv : ∀ k, (a.eval (.tmp 3)).ownBlock = some k → f k = 0 ∧ ∃ cells, w'.heap[k]? = some (.cells cells 3 (0, 0)) := fun k hk => ⟨hHO.1 k hk, Kd.R_typed hHO k hk⟩
    refine ⟨fun _ hS => blk_grown hS hg (fun e => by obtain ⟨_, cells, hc⟩ := hv gx e.symm; rw [hS] at hc; injection hc with hc; injection hc with _ hc; exact absurd hc (by decide)), ?_⟩
    exact hI.app 3 6 0 (by omega) hl (fun B hB => (show 0 = B by omega) ▸ hB0) h18 h19 hr hrb (f' := fun k => if w'.heap.size ≤ k then 0 else f k) (fun k hk => if_neg (by omega)) r0 r1 r2 r3 hv hb hg ho
  · refine op_now rfl (value_ (w1 := w'.alloc (.cells #[] 3)) (v := .slice (some ⟨w'.heap.size, 0, none⟩) 0 0) (by rfl) rfl (by go_simp; first | done | rfl | (constructor <;> rfl)) ⟨fun _ hS => blk_alloc hS _, ?_⟩)
    exact hI.build 6 9 (by omega) hl
  · have hB0 := hn _ rfl ⟨6, .data⟩ (by simp) rfl
    have h18 : l.getD 18 true = false := bfalse fun e => by
      obtain ⟨a3, a9, a13, a17, _⟩ := hI.told e
      first | (rw [a3] at hl; cases hl) | (rw [a9] at hl; cases hl) | (rw [a13] at hl; cases hl) | (rw [a17] at hl; cases hl)
    have h19 : l.getD 19 true = false := bfalse fun e => by rw [hI.ord 19 18 (by omega) e] at h18; cases h18
    obtain ⟨hr, hrb, f, r0, r1, r2, r3⟩ := hI.made h19
    obtain ⟨X0, z0, X1, z1, X2, z2, X3, z3, x0, x1, x2, x3, k0, k1, k2, k3⟩ := hI.rows
    have hHO := r1.1 hB0 hl
    have hHO2 := R_refun (f' := fun k => if w'.heap.size ≤ k then 1 else f k) hHO (fun _ _ _ => rfl) (fun k hk => if_neg (by omega))
    refine op_now rfl (Kd.R_append_rows_step (Kd.int .i64) (Rr := (Kd.int .i64).K w) (w0 := w) w.heap.size (by rfl) (.tmp 9) (.tmp 11) 22 3 (.int .i64 0) 8 rfl Try.underlying22 info3 rfl (by decide) (by decide) (a.eval (.tmp 9)) [] l0_2 X1 l0_2.length z1 (fun k => (if w'.heap.size ≤ k then 1 else f k) = 1) (fun _ => False) rfl x1 hHO2 (Kd.C_below k1 hI.bel) (fun _ _ h => h) (fun _ h => h.elim) (fun k hk => if_pos hk) hI.bel hI.bel.size (by have := HL.out.2.1; simp only [List.length_nil]; omega) ?_)
    intro v1 w1 ho hb hg hat
    have hv : ∀ k, (a.eval (.tmp 9)).ownBlock = some k → f k = 1 ∧ ∃ cells, w'.heap[k]? = some (.cells cells 3 (0, 0)) := fun k hk => ⟨hHO.1 k hk, Kd.R_typed hHO k hk⟩
    refine ⟨fun _ hS => blk_grown hS hg (fun e => by obtain ⟨_, cells, hc⟩ := hv gx e.symm; rw [hS] at hc; injection hc with hc; injection hc with _ hc; exact absurd hc (by decide)), ?_⟩
    exact hI.app 9 12 1 (by omega) hl (fun B hB => (show 6 = B by omega) ▸ hB0) h18 h19 hr hrb (f' := fun k => if w'.heap.size ≤ k then 1 else f k) (fun k hk => if_neg (by omega)) r0 r1 r2 r3 hv hb hg ho
  · refine op_now rfl (value_ (w1 := w'.alloc (.cells #[] 3)) (v := .slice (some ⟨w'.heap.size, 0, none⟩) 0 0) (by rfl) rfl (by go_simp; first | done | rfl | (constructor <;> rfl)) ⟨fun _ hS => blk_alloc hS _, ?_⟩)
    exact hI.build 10 13 (by omega) hl
  · have hB0 := hn _ rfl ⟨10, .data⟩ (by simp) rfl
    have h18 : l.getD 18 true = false := bfalse fun e => by
      obtain ⟨a3, a9, a13, a17, _⟩ := hI.told e
      first | (rw [a3] at hl; cases hl) | (rw [a9] at hl; cases hl) | (rw [a13] at hl; cases hl) | (rw [a17] at hl; cases hl)
    have h19 : l.getD 19 true = false := bfalse fun e => by rw [hI.ord 19 18 (by omega) e] at h18; cases h18
    obtain ⟨hr, hrb, f, r0, r1, r2, r3⟩ := hI.made h19
    obtain ⟨X0, z0, X1, z1, X2, z2, X3, z3, x0, x1, x2, x3, k0, k1, k2, k3⟩ := hI.rows
    have hHO := r2.1 hB0 hl
    have hHO2 := R_refun (f' := fun k => if w'.heap.size ≤ k then 2 else f k) hHO (fun _ _ _ => rfl) (fun k hk => if_neg (by omega))
    refine op_now rfl (Kd.R_append_rows_step (Kd.int .i64) (Rr := (Kd.int .i64).K w) (w0 := w) w.heap.size (by rfl) (.tmp 13) (.tmp 15) 22 3 (.int .i64 0) 8 rfl Try.underlying22 info3 rfl (by decide) (by decide) (a.eval (.tmp 13)) [] l0_3 X2 l0_3.length z2 (fun k => (if w'.heap.size ≤ k then 2 else f k) = 2) (fun _ => False) rfl x2 hHO2 (Kd.C_below k2 hI.bel) (fun _ _ h => h) (fun _ h => h.elim) (fun k hk => if_pos hk) hI.bel hI.bel.size (by have := HL.out.2.2.1; simp only [List.length_nil]; omega) ?_)
    intro v1 w1 ho hb hg hat
    have hv : ∀ k, (a.eval (.tmp 13)).ownBlock = some k → f k = 2 ∧ ∃ cells, w'.heap[k]? = some (.cells cells 3 (0, 0)) := fun k hk => ⟨hHO.1 k hk, Kd.R_typed hHO k hk⟩
    refine ⟨fun _ hS => blk_grown hS hg (fun e => by obtain ⟨_, cells, hc⟩ := hv gx e.symm; rw [hS] at hc; injection hc with hc; injection hc with _ hc; exact absurd hc (by decide)), ?_⟩
    exact hI.app 13 16 2 (by omega) hl (fun B hB => (show 10 = B by omega) ▸ hB0) h18 h19 hr hrb (f' := fun k => if w'.heap.size ≤ k then 2 else f k) (fun k hk => if_neg (by omega)) r0 r1 r2 r3 hv hb hg ho
  · refine op_now rfl (value_ (w1 := w'.alloc (.cells #[] 3)) (v := .slice (some ⟨w'.heap.size, 0, none⟩) 0 0) (by rfl) rfl (by go_simp; first | done | rfl | (constructor <;> rfl)) ⟨fun _ hS => blk_alloc hS _, ?_⟩)
    exact hI.build 14 17 (by omega) hl
  · have hB0 := hn _ rfl ⟨14, .data⟩ (by simp) rfl
    have h18 : l.getD 18 true = false := bfalse fun e => by
      obtain ⟨a3, a9, a13, a17, _⟩ := hI.told e
      first | (rw [a3] at hl; cases hl) | (rw [a9] at hl; cases hl) | (rw [a13] at hl; cases hl) | (rw [a17] at hl; cases hl)
    have h19 : l.getD 19 true = false := bfalse fun e => by rw [hI.ord 19 18 (by omega) e] at h18; cases h18
    obtain ⟨hr, hrb, f, r0, r1, r2, r3⟩ := hI.made h19
    obtain ⟨X0, z0, X1, z1, X2, z2, X3, z3, x0, x1, x2, x3, k0, k1, k2, k3⟩ := hI.rows
    have hHO := r3.1 hB0 hl
    have hHO2 := R_refun (f' := fun k => if w'.heap.size ≤ k then 3 else f k) hHO (fun _ _ _ => rfl) (fun k hk => if_neg (by omega))
    refine op_now rfl (Kd.R_append_rows_step (Kd.int .i64) (Rr := (Kd.int .i64).K w) (w0 := w) w.heap.size (by rfl) (.tmp 17) (.tmp 19) 22 3 (.int .i64 0) 8 rfl Try.underlying22 info3 rfl (by decide) (by decide) (a.eval (.tmp 17)) [] l0_4 X3 l0_4.length z3 (fun k => (if w'.heap.size ≤ k then 3 else f k) = 3) (fun _ => False) rfl x3 hHO2 (Kd.C_below k3 hI.bel) (fun _ _ h => h) (fun _ h => h.elim) (fun k hk => if_pos hk) hI.bel hI.bel.size (by have := HL.out.2.2.2; simp only [List.length_nil]; omega) ?_)
    intro v1 w1 ho hb hg hat
    have hv : ∀ k, (a.eval (.tmp 17)).ownBlock = some k → f k = 3 ∧ ∃ cells, w'.heap[k]? = some (.cells cells 3 (0, 0)) := fun k hk => ⟨hHO.1 k hk, Kd.R_typed hHO k hk⟩
    refine ⟨fun _ hS => blk_grown hS hg (fun e => by obtain ⟨_, cells, hc⟩ := hv gx e.symm; rw [hS] at hc; injection hc with hc; injection hc with _ hc; exact absurd hc (by decide)), ?_⟩
    exact hI.app 17 20 3 (by omega) hl (fun B hB => (show 14 = B by omega) ▸ hB0) h18 h19 hr hrb (f' := fun k => if w'.heap.size ≤ k then 3 else f k) (fun k hk => if_neg (by omega)) r0 r1 r2 r3 hv hb hg ho
  · have a3 := hn _ rfl ⟨3, .data⟩ (by simp) rfl
    have a9 := hn _ rfl ⟨9, .data⟩ (by simp) rfl
    have a13 := hn _ rfl ⟨13, .data⟩ (by simp) rfl
    have a17 := hn _ rfl ⟨17, .data⟩ (by simp) rfl
    have h19 : l.getD 19 true = false := bfalse fun e => by rw [hI.ord 19 18 (by omega) e] at hl; cases hl
    obtain ⟨hr, hrb, f, r0, r1, r2, r3⟩ := hI.made h19
    obtain ⟨B0, b0, e0⟩ := Kd.R_slice (r0.2 a3)
    obtain ⟨B2, b2, e2⟩ := Kd.R_slice (r1.2 a9)
    obtain ⟨B3, b3, e3⟩ := Kd.R_slice (r2.2 a13)
    obtain ⟨B4, b4, e4⟩ := Kd.R_slice (r3.2 a17)
    have t8 : a.tmps[8]?.getD undef = .int .i64 a0_1 := by simpa [Act.eval] using hI.e8
    have t6 : a.tmps[6]?.getD undef = .slice B0 l0_0.length b0 := by simpa [Act.eval] using e0
    have t12 : a.tmps[12]?.getD undef = .slice B2 l0_2.length b2 := by simpa [Act.eval] using e2
    have t16 : a.tmps[16]?.getD undef = .slice B3 l0_3.length b3 := by simpa [Act.eval] using e3
    have t20 : a.tmps[20]?.getD undef = .slice B4 l0_4.length b4 := by simpa [Act.eval] using e4
    refine op_now rfl (value_ (w1 := w') (v := .agg #[a.eval (.tmp 6), .int .i64 a0_1, a.eval (.tmp 12), a.eval (.tmp 16), a.eval (.tmp 20)]) (by rfl) rfl (by go_simp; first | done | rfl | trace_state) ⟨fun _ hS => hS, ?_⟩)
    exact hI.tell hl h19 a3 a9 a13 a17
  · have a18 := hn _ rfl ⟨18, .data⟩ (by simp) rfl
    obtain ⟨hr, hrb, f, r0, r1, r2, r3⟩ := hI.made hl
    obtain ⟨a3, a9, a13, a17, e21⟩ := hI.told a18
    obtain ⟨B0, b0, e0⟩ := Kd.R_slice (r0.2 a3)
    obtain ⟨B2, b2, e2⟩ := Kd.R_slice (r1.2 a9)
    obtain ⟨B3, b3, e3⟩ := Kd.R_slice (r2.2 a13)
    obtain ⟨B4, b4, e4⟩ := Kd.R_slice (r3.2 a17)
    rw [e0, e2, e3, e4] at e21
    have t2 : a.tmps[2]?.getD undef = .pointer (some ⟨gr, 0, none⟩) := by simpa [Act.eval] using hI.e2
    have t21 : a.tmps[21]?.getD undef = .agg #[.slice B0 l0_0.length b0, .int .i64 a0_1, .slice B2 l0_2.length b2, .slice B3 l0_3.length b3, .slice B4 l0_4.length b4] := by simpa [Act.eval] using e21
    have z0 := (blk_cell hr 0).trans rfl
    have z1 := (blk_cell hr 1).trans rfl
    have z2 := (blk_cell hr 2).trans rfl
    have z3 := (blk_cell hr 3).trans rfl
    have z4 := (blk_cell hr 4).trans rfl
    have f0 := blk_frozen hr 0
    have f1 := blk_frozen hr 1
    have f2 := blk_frozen hr 2
    have f3 := blk_frozen hr 3
    have f4 := blk_frozen hr 4
    refine op_now rfl (skip_ (w1 := w'.setCells gr 0 [.slice B0 l0_0.length b0, .int .i64 a0_1, .slice B2 l0_2.length b2, .slice B3 l0_3.length b3, .slice B4 l0_4.length b4]) (by rfl) rfl (by go_simp; rfl) ⟨fun hd => absurd (by simp) hd, ?_⟩)
    rw [e0] at r0
    rw [e2] at r1
    rw [e3] at r2
    rw [e4] at r3
    exact hI.store hl hr hrb a18 (r0.2 a3) (r1.2 a9) (r2.2 a13) (r3.2 a17) NExr.out
 case last =>
  intro l a w' hI hr
  clear HB BKx BKr hHeld HT_ HW_
  have hall := none_left (by exact hI.sz) (low_of (by kernel_rfl)) hr
  obtain ⟨v0, v1, v2, v3, f, hb, x0, x1, x2, x3⟩ := hI.fin (hall 19 (by decide))
  have he2 := hI.e2
  have hdf := hI.dfr
  go_wp2
  refine bodyPost_ret (results_cell_row rfl _ _ gr 30 #[v0, .int .i64 a0_1, v1, v2, v3] (0, 0) _ he2 hb Try.underlying30 rfl (by kernel_rfl)) hdf ?_
  exact ⟨v0, v1, v2, v3, rfl, Kd.R_mono x0 (fun k hk => ⟨fun e => by have := x1.1 k e.symm; omega, fun e => by have := x2.1 k e.symm; omega, fun e => by have := x3.1 k e.symm; omega⟩),
    Kd.R_mono x1 (fun k hk => ⟨fun e => by have := x0.1 k e.symm; omega, fun e => by have := x2.1 k e.symm; omega, fun e => by have := x3.1 k e.symm; omega⟩),
    Kd.R_mono x2 (fun k hk => ⟨fun e => by have := x0.1 k e.symm; omega, fun e => by have := x1.1 k e.symm; omega, fun e => by have := x3.1 k e.symm; omega⟩),
    Kd.R_mono x3 (fun k hk => ⟨fun e => by have := x0.1 k e.symm; omega, fun e => by have := x1.1 k e.symm; omega, fun e => by have := x2.1 k e.symm; omega⟩), hI.bel⟩
def ow (f : Nat → Nat) (n q : Nat) : Nat → Nat := fun k => if k < n then f k else q
theorem ow_old {f : Nat → Nat} {n q k : Nat} (h : k < n) : ow f n q k = f k := if_pos h
theorem ow_new {f : Nat → Nat} {n q k : Nat} (h : n ≤ k) : ow f n q k = q := if_neg (by omega)
section
variable {f f' : Nat → Nat} {q q0 q' b g : Nat} {w w1 w0 : World} {v v0 : Value} {xs xs0 : List Int} {o : Obj}
theorem r_re (h : Kd.R (Kd.int .i64) 3 w b (fun k => f k = q) v xs) (hh : ∀ k, f k = q → k < w.heap.size → w1.heap[k]? = w.heap[k]?) (hf : ∀ k, k < w.heap.size → f' k = f k) : Kd.R (Kd.int .i64) 3 w1 b (fun k => f' k = q) v xs :=
 Kd.R_mono (Kd.R_step (Kd.R_bound h) (fun k hk hlt => hh k hk.1 hlt)) (fun k hk => (hf k hk.2.2.1).trans hk.1)
theorem r_fresh (h : Kd.R (Kd.int .i64) 3 w b (fun k => f k = q) v xs) (hb : Below w.heap.size w w1) (q' : Nat) : Kd.R (Kd.int .i64) 3 w1 b (fun k => ow f w.heap.size q' k = q) v xs := r_re h (fun k _ hlt => hb.block k hlt) (fun k hk => ow_old hk)
theorem r_lit (f : Nat → Nat) (hr : Kd.R (Kd.int .i64) 3 w1 w.heap.size (fun _ => True) v xs) (hle : b ≤ w.heap.size) (q : Nat) : Kd.R (Kd.int .i64) 3 w1 b (fun k => ow f w.heap.size q k = q) v xs := Kd.R_mono (Kd.R_lower (Kd.R_bound hr) hle) (fun k hk => ow_new hk.2.1)
theorem r_same (h : Kd.R (Kd.int .i64) 3 w b (fun k => f k = q) v xs) (q' : Nat) : Kd.R (Kd.int .i64) 3 w b (fun k => ow f w.heap.size q' k = q) v xs := r_re h (fun _ _ _ => rfl) (fun k hk => ow_old hk)
theorem r_app (h : Kd.R (Kd.int .i64) 3 w b (fun k => f k = q) v xs) (h0 : Kd.R (Kd.int .i64) 3 w b (fun k => f k = q0) v0 xs0) (hne : q ≠ q0) (hg : w.grownBy w1 v0.ownBlock) (q' : Nat) : Kd.R (Kd.int .i64) 3 w1 b (fun k => ow f w.heap.size q' k = q) v xs :=
 r_re h (fun k hk hlt => hg.block k hlt (fun e => hne (hk.symm.trans (h0.1 k e.symm)))) (fun k hk => ow_old hk)
theorem r_box (h : Kd.R (Kd.int .i64) 3 w b (fun k => f k = q) v xs) (hg : f g = 9) (hq : q ≠ 9) (seg : List Value) (o : Nat) : Kd.R (Kd.int .i64) 3 (w.setCells g o seg) b (fun k => f k = q) v xs :=
 r_re h (fun k hk _ => setCells_far seg o k (fun e => hq (by rw [← hk, e, hg]))) (fun _ _ => rfl)
theorem b_fresh (h : w.heap[g]? = some o ∧ f g = 9) (hb : Below w.heap.size w w1) (q' : Nat) : w1.heap[g]? = some o ∧ ow f w.heap.size q' g = 9 := ⟨blk_below h.1 hb, (ow_old (blk_lt h.1)).trans h.2⟩
theorem b_app (h : w.heap[g]? = some o ∧ f g = 9) (h0 : Kd.R (Kd.int .i64) 3 w b (fun k => f k = q0) v0 xs0) (hne : q0 ≠ 9) (hg : w.grownBy w1 v0.ownBlock) (q' : Nat) : w1.heap[g]? = some o ∧ ow f w.heap.size q' g = 9 :=
 ⟨blk_grown h.1 hg (fun e => hne ((h0.1 g e.symm).symm.trans h.2)), (ow_old (blk_lt h.1)).trans h.2⟩
end
theorem box_runO {P : Program} {oi : Oper} {a : Act} {t e : TypeId} {p x : Operand} {W : World} {g : Nat} {cur : Array Value} (ho : oi.op = .store t p x) {u : Value} {seg : List Value} (o : Nat) (hh : W.heap[g]? = some (.cells cur e (0, 0))) (hs : o + seg.length ≤ cur.size)
  (haddr : a.eval p = .pointer (some ⟨g, o, none⟩)) (hx : a.eval x = u) (hu : u.cells.toList = seg) (ht : (P.info? t).map (·.size) = some seg.length) (h1 : ∀ q ∈ seg, q.oneCell' = true) :
  (execOp a.eval oi).run P W = .ok .skip (W.setCells g o seg) := by
 have hrun : (Instr.storeAt t (.pointer (some ⟨g, o, none⟩)) u).run P W = .ok () (W.setCells g o seg) := run_store_run t u seg hh hu ht hs h1
 unfold execOp
 simp only [ho, haddr, hx, Sem.run_bind, Sem.run_pure, Result.andThen_ok, hrun]
theorem box_farO {W w0 : World} {g base : Nat} (seg : List Value) (o : Nat) (hg : base ≤ g) (hB : Below base w0 W) : Below base w0 (W.setCells g o seg) := by
 obtain ⟨h1, h2, h3, h4⟩ := setCells_same g seg o W
 exact ⟨h1.trans hB.os, h2.trans hB.tape, h3.trans hB.output, by rw [h4]; exact hB.size, fun k hk => (setCells_far seg o k (by omega)).trans (hB.block k hk)⟩
structure Inn (wo : World) (f : Nat → Nat) (gb : Nat) (n : Int) (kv v2 v3 v4 : Value) (xk xs : List Int) (w : World) : Prop where
 bel : Below wo.heap.size wo w
 box : w.heap[gb]? = some (.cells #[kv, .int .i64 n, v2, v3, v4] 30 (0, 0)) ∧ f gb = 9
 gbb : wo.heap.size ≤ gb
 key : Kd.R (Kd.int .i64) 3 w wo.heap.size (fun k => f k = 0) kv xk
 r2 : Kd.R (Kd.int .i64) 3 w wo.heap.size (fun k => f k = 2) v2 xs
 r3 : Kd.R (Kd.int .i64) 3 w wo.heap.size (fun k => f k = 3) v3 xs
 r4 : Kd.R (Kd.int .i64) 3 w wo.heap.size (fun k => f k = 4) v4 xs
theorem Inn.drew {wo : World} {f : Nat → Nat} {gb : Nat} {n : Int} {kv v2 v3 v4 : Value} {xk xs : List Int} {w : World} (h : Inn wo f gb n kv v2 v3 v4 xk xs w) : Inn wo f gb n kv v2 v3 v4 xk xs w.drew :=
 ⟨below_drew h.bel, ⟨h.box.1, h.box.2⟩, h.gbb, Kd.R_drew h.key, Kd.R_drew h.r2, Kd.R_drew h.r3, Kd.R_drew h.r4⟩
theorem Inn.start {wo w3 w4 : World} {gb : Nat} {n : Int} {kv : Value} {xk : List Int} (hkey : Kd.R (Kd.int .i64) 3 w3 wo.heap.size (fun _ => True) kv xk) (hle : Below wo.heap.size wo w3) (hb : Below w3.heap.size w3 w4) (hg : gb = w3.heap.size) (hbox : w4.heap[gb]? = some (.cells #[.slice none 0 0, .int .i64 0, .slice none 0 0, .slice none 0 0, .slice none 0 0] 30 (0, 0))) :
  Inn wo (fun k => if k = gb then 9 else 0) gb n kv (.slice none 0 0) (.slice none 0 0) (.slice none 0 0) xk [] (((((w4.setCell ⟨gb, 0, none⟩ kv).setCell ⟨gb, 1, none⟩ (.int .i64 n)).setCell ⟨gb, 2, none⟩ (.slice none 0 0)).setCell ⟨gb, 3, none⟩ (.slice none 0 0)).setCell ⟨gb, 4, none⟩ (.slice none 0 0)) := by
 have hgb : wo.heap.size ≤ gb := by rw [hg]; exact hle.size
 refine ⟨below_set (below_set (below_set (below_set (below_set (below_step hle hb) hgb) hgb) hgb) hgb) hgb, ⟨blk_put (blk_put (blk_put (blk_put (blk_put hbox 0 _ rfl) 1 _ rfl) 2 _ rfl) 3 _ rfl) 4 _ rfl, if_pos rfl⟩, hgb, ?_, Kd.R_nil _ _ _ _ _, Kd.R_nil _ _ _ _ _, Kd.R_nil _ _ _ _ _⟩
 refine Kd.R_mono (Kd.R_step (Kd.R_bound hkey) (fun k hk hlt => ?_)) (fun k hk => if_neg (by have := hk.2.2.1; omega))
 have hne : k ≠ gb := by omega
 rw [Below.heap_setCell _ _ _ _ hne, Below.heap_setCell _ _ _ _ hne, Below.heap_setCell _ _ _ _ hne, Below.heap_setCell _ _ _ _ hne, Below.heap_setCell _ _ _ _ hne]
 exact hb.block k hlt
theorem Inn.okv {wo : World} {f : Nat → Nat} {gb : Nat} {n : Int} {A0 A2 A3 A4 : Option Addr} {m0 c0 m2 c2 m3 c3 m4 c4 : Nat} {xk xs : List Int} {w : World} (h : Inn wo f gb n (.slice A0 m0 c0) (.slice A2 m2 c2) (.slice A3 m3 c3) (.slice A4 m4 c4) xk xs w) :
  CV.ok ⟨A0, c0, A2, c2, A3, c3, A4, c4⟩ ⟨xk, n, xs, xs, xs⟩ w (fun k => wo.heap.size ≤ k) := by
 obtain ⟨_, _, _, g0, g2, g3, g4⟩ := h
 obtain ⟨e0, l0, _⟩ := Kd.R_reads' g0
 obtain ⟨e2, l2, _⟩ := Kd.R_reads' g2
 obtain ⟨e3, l3, _⟩ := Kd.R_reads' g3
 obtain ⟨e4, l4, _⟩ := Kd.R_reads' g4
 subst e0 e2 e3 e4
 exact ⟨l0, Kd.F_mono (Kd.R_F (Kd.R_bound g0)) (fun _ hk => hk.2.1), l2, Kd.F_mono (Kd.R_F (Kd.R_bound g2)) (fun _ hk => hk.2.1), l3, Kd.F_mono (Kd.R_F (Kd.R_bound g3)) (fun _ hk => hk.2.1), l4, Kd.F_mono (Kd.R_F (Kd.R_bound g4)) (fun _ hk => hk.2.1)⟩
end Go.Proofs.Ytmkjkkmilopcpaa.Q
