-- packed by wip/tools/pack.py (a program of this session) out of its own texts
import Derived.Test.YtndkimjmbpbcmaaPMergePasses0
import Derived.ArgAppend
import Derived.Below
import Derived.BigQuiet
import Derived.Deep.AppendLies
import Derived.Deep.CutBlock
import Derived.Deep.DeepCutAuto
import Derived.Deep.Draws
import Derived.Deep.LoopGhost
import Derived.Deep.OwnRows
import Derived.Deep.QuietTactic
import Derived.Deep.RegionHeld3
import Derived.KernelRfl
import Derived.Laws.BitsLemmas
import Derived.Laws.BytesArg
import Derived.Laws.IdiomCopy
import Derived.Laws.MakeOwn
import Derived.Laws.OwnMore
import Derived.Laws.Rows
import Derived.Laws.Slices
import Derived.Lib.AppendStr
import Derived.Lib.ConvBytes
import Derived.Maps.AppendAt
import Derived.OrdersHeld
import Derived.OwnWalk
import Derived.RowKit
import Derived.RowKit3
import Derived.Tactics
import Derived.Test.YtndkimjmbpbcmaaProg
import Derived.WalkKit
import Derived.WideLaws
import Derived.Test.YtndkimjmbpbcmaaPMergePasses1
import Derived.Test.YtndkimjmbpbcmaaPMergePasses2
import Derived.Test.YtndkimjmbpbcmaaPMergePasses3
namespace Go.Proofs.Ytndkimjmbpbcmaa.Q
open Go.RowKit Go.Proofs.YtndkimjmbpbcmaaW.PrintWords Go.Proofs.YtndkimjmbpbcmaaW.PrintLast Go.Proofs.YtndkimjmbpbcmaaW.PrintMore
attribute [local go_sem] max2_int min2_int max_two min_two max_three min_three max_four min_four
set_option linter.unusedVariables false
set_option linter.unusedSimpArgs false
def errW : Option Int → Value
  | none => .nilIface
  | some c => .iface 0 (.int .i64 c)
theorem errW_none : errW none = .nilIface := rfl
theorem errW_some (c : Int) : errW (some c) = .iface 0 (.int .i64 c) := rfl
theorem info3 : (Try.prog.info? 3).map (fun i => (i.zero, i.size, i.bytes)) = some (some (.int .i64 0), 1, 8) := by kernel_rfl
theorem info31 : (Try.prog.info? 31).map (fun i => (i.zero, i.size, i.bytes)) = some (some (.slice none 0 0), 1, 24) := by kernel_rfl
theorem info44 : (Try.prog.info? 44).map (fun i => (i.zero, i.size, i.bytes)) = some (some (.agg #[(.slice none 0 0), (.int .i64 0), (.slice none 0 0), (.slice none 0 0), (.slice none 0 0)]), 5, 104) := by kernel_rfl
structure S44 where
  f0 : (List Int)
  f1 : Int
  f2 : (List Int)
  f3 : (List Int)
  f4 : (List Int)
def z44 : S44 := ⟨([] : List Int), (0 : Int), ([] : List Int), ([] : List Int), ([] : List Int)⟩
def k44 : Kd S44 := Kd.iso (Kd.pair (Kd.slice 3 (Kd.int .i64)) (Kd.pair (Kd.int .i64) (Kd.pair (Kd.slice 3 (Kd.int .i64)) (Kd.pair (Kd.slice 3 (Kd.int .i64)) (Kd.slice 3 (Kd.int .i64)))))) (fun x : S44 => (x.f0, x.f1, x.f2, x.f3, x.f4))
theorem k44_open {w : World} {x : S44} {cs : List Value} (h : k44.K w x cs) : ∃ A0 c0 A2 c2 A3 c3 A4 c4, cs = [.slice A0 x.f0.length c0, .int .i64 x.f1, .slice A2 x.f2.length c2, .slice A3 x.f3.length c3, .slice A4 x.f4.length c4] ∧ x.f0.length ≤ c0 ∧ (Kd.int .i64).C w A0 x.f0.length x.f0 ∧ x.f2.length ≤ c2 ∧ (Kd.int .i64).C w A2 x.f2.length x.f2 ∧ x.f3.length ≤ c3 ∧ (Kd.int .i64).C w A3 x.f3.length x.f3 ∧ x.f4.length ≤ c4 ∧ (Kd.int .i64).C w A4 x.f4.length x.f4 := by
  obtain ⟨_, _, rfl, ⟨A0, c0, rfl, l0, g0⟩, ⟨_, _, rfl, rfl, ⟨_, _, rfl, ⟨A2, c2, rfl, l2, g2⟩, ⟨_, _, rfl, ⟨A3, c3, rfl, l3, g3⟩, ⟨A4, c4, rfl, l4, g4⟩⟩⟩⟩⟩ := h
  exact ⟨A0, c0, A2, c2, A3, c3, A4, c4, rfl, l0, g0, l2, g2, l3, g3, l4, g4⟩
theorem k44_openM {w : World} {base : Nat} {ok : Nat → Prop} {x : S44} {cs : List Value} (h : k44.M w base ok x cs) : ∃ v0 v2 v3 v4, cs = [v0, .int .i64 x.f1, v2, v3, v4] ∧ (Kd.int .i64).R 3 w base ok v0 x.f0 ∧ (Kd.int .i64).R 3 w base ok v2 x.f2 ∧ (Kd.int .i64).R 3 w base ok v3 x.f3 ∧ (Kd.int .i64).R 3 w base ok v4 x.f4 := by
  obtain ⟨_, _, rfl, ⟨v0, rfl, g0⟩, ⟨_, _, rfl, rfl, ⟨_, _, rfl, ⟨v2, rfl, g2⟩, ⟨_, _, rfl, ⟨v3, rfl, g3⟩, ⟨v4, rfl, g4⟩⟩⟩⟩⟩ := h
  exact ⟨v0, v2, v3, v4, rfl, g0, g2, g3, g4⟩
theorem k44_mk (w : World) (x : S44) {A0 : Option Addr} {c0 : Nat} (l0 : x.f0.length ≤ c0) (g0 : (Kd.int .i64).C w A0 x.f0.length x.f0) {A2 : Option Addr} {c2 : Nat} (l2 : x.f2.length ≤ c2) (g2 : (Kd.int .i64).C w A2 x.f2.length x.f2) {A3 : Option Addr} {c3 : Nat} (l3 : x.f3.length ≤ c3) (g3 : (Kd.int .i64).C w A3 x.f3.length x.f3) {A4 : Option Addr} {c4 : Nat} (l4 : x.f4.length ≤ c4) (g4 : (Kd.int .i64).C w A4 x.f4.length x.f4) : k44.K w x [.slice A0 x.f0.length c0, .int .i64 x.f1, .slice A2 x.f2.length c2, .slice A3 x.f3.length c3, .slice A4 x.f4.length c4] := ⟨[.slice A0 x.f0.length c0], [.int .i64 x.f1, .slice A2 x.f2.length c2, .slice A3 x.f3.length c3, .slice A4 x.f4.length c4], rfl, ⟨A0, c0, rfl, l0, g0⟩, ⟨[.int .i64 x.f1], [.slice A2 x.f2.length c2, .slice A3 x.f3.length c3, .slice A4 x.f4.length c4], rfl, rfl, ⟨[.slice A2 x.f2.length c2], [.slice A3 x.f3.length c3, .slice A4 x.f4.length c4], rfl, ⟨A2, c2, rfl, l2, g2⟩, ⟨[.slice A3 x.f3.length c3], [.slice A4 x.f4.length c4], rfl, ⟨A3, c3, rfl, l3, g3⟩, ⟨A4, c4, rfl, l4, g4⟩⟩⟩⟩⟩
theorem k44_mkM (w : World) (base : Nat) (ok : Nat → Prop) (x : S44) {v0 : Value} (g0 : (Kd.int .i64).R 3 w base ok v0 x.f0) {v2 : Value} (g2 : (Kd.int .i64).R 3 w base ok v2 x.f2) {v3 : Value} (g3 : (Kd.int .i64).R 3 w base ok v3 x.f3) {v4 : Value} (g4 : (Kd.int .i64).R 3 w base ok v4 x.f4) : k44.M w base ok x [v0, .int .i64 x.f1, v2, v3, v4] := ⟨[v0], [.int .i64 x.f1, v2, v3, v4], rfl, ⟨v0, rfl, g0⟩, ⟨[.int .i64 x.f1], [v2, v3, v4], rfl, rfl, ⟨[v2], [v3, v4], rfl, ⟨v2, rfl, g2⟩, ⟨[v3], [v4], rfl, ⟨v3, rfl, g3⟩, ⟨v4, rfl, g4⟩⟩⟩⟩⟩
theorem k44_mkF (W : World) (ok : Nat → Prop) (x : S44) {A0 : Option Addr} {c0 : Nat} (l0 : x.f0.length ≤ c0) (g0 : Kd.F (Kd.int .i64) W ok A0 x.f0.length x.f0) {A2 : Option Addr} {c2 : Nat} (l2 : x.f2.length ≤ c2) (g2 : Kd.F (Kd.int .i64) W ok A2 x.f2.length x.f2) {A3 : Option Addr} {c3 : Nat} (l3 : x.f3.length ≤ c3) (g3 : Kd.F (Kd.int .i64) W ok A3 x.f3.length x.f3) {A4 : Option Addr} {c4 : Nat} (l4 : x.f4.length ≤ c4) (g4 : Kd.F (Kd.int .i64) W ok A4 x.f4.length x.f4) : Kd.FK k44 W ok x [.slice A0 x.f0.length c0, .int .i64 x.f1, .slice A2 x.f2.length c2, .slice A3 x.f3.length c3, .slice A4 x.f4.length c4] := fun W2 hW => k44_mk W2 x l0 (g0 W2 hW) l2 (g2 W2 hW) l3 (g3 W2 hW) l4 (g4 W2 hW)
def rd_T44 (xs : List S44) (i : Int) : S44 := xs.getD i.toNat z44
theorem at_T44 {w : World} {A : Option Addr} {n : Nat} {xs : List S44} (h : Kd.C k44 w A n xs) (i : Int) (h0 : 0 ≤ i) (h1 : i < n) : ∃ ad A0 c0 A2 c2 A3 c3 A4 c4, A = some ad ∧ w.cell? (ad.add (i.toNat * 5)) = some (.slice A0 (rd_T44 xs i).f0.length c0) ∧ w.cell? ⟨(ad.add (i.toNat * 5)).block, (ad.add (i.toNat * 5)).off + 1, none⟩ = some (.int .i64 (rd_T44 xs i).f1) ∧ w.cell? ⟨(ad.add (i.toNat * 5)).block, (ad.add (i.toNat * 5)).off + 2, none⟩ = some (.slice A2 (rd_T44 xs i).f2.length c2) ∧ w.cell? ⟨(ad.add (i.toNat * 5)).block, (ad.add (i.toNat * 5)).off + 3, none⟩ = some (.slice A3 (rd_T44 xs i).f3.length c3) ∧ w.cell? ⟨(ad.add (i.toNat * 5)).block, (ad.add (i.toNat * 5)).off + 4, none⟩ = some (.slice A4 (rd_T44 xs i).f4.length c4) ∧ (rd_T44 xs i).f0.length ≤ c0 ∧ (Kd.int .i64).C w A0 (rd_T44 xs i).f0.length (rd_T44 xs i).f0 ∧ (rd_T44 xs i).f2.length ≤ c2 ∧ (Kd.int .i64).C w A2 (rd_T44 xs i).f2.length (rd_T44 xs i).f2 ∧ (rd_T44 xs i).f3.length ≤ c3 ∧ (Kd.int .i64).C w A3 (rd_T44 xs i).f3.length (rd_T44 xs i).f3 ∧ (rd_T44 xs i).f4.length ≤ c4 ∧ (Kd.int .i64).C w A4 (rd_T44 xs i).f4.length (rd_T44 xs i).f4 := by
  obtain ⟨ad, c, e, _, hK, hc0⟩ := Kd.C_get h z44 i h0 h1
  have hc : ∀ j u, c[j]? = some u → w.cell? (ad.add (i.toNat * 5 + j)) = some u := hc0
  obtain ⟨A0, c0, A2, c2, A3, c3, A4, c4, rfl, l0, g0, l2, g2, l3, g3, l4, g4⟩ := k44_open hK
  exact ⟨ad, A0, c0, A2, c2, A3, c3, A4, c4, e, hc 0 _ rfl, by rw [← add_field _ _ 1 (by omega)]; exact hc 1 _ rfl, by rw [← add_field _ _ 2 (by omega)]; exact hc 2 _ rfl, by rw [← add_field _ _ 3 (by omega)]; exact hc 3 _ rfl, by rw [← add_field _ _ 4 (by omega)]; exact hc 4 _ rfl, l0, g0, l2, g2, l3, g3, l4, g4⟩
end Go.Proofs.Ytndkimjmbpbcmaa.Q
namespace Go.Proofs.Ytndkimjmbpbcmaa.Q
open Go.RowKit Go.Proofs.YtndkimjmbpbcmaaW.PrintWords Go.Proofs.YtndkimjmbpbcmaaW.PrintLast Go.Proofs.YtndkimjmbpbcmaaW.PrintMore
attribute [local go_sem] max2_int min2_int max_two min_two max_three min_three max_four min_four
set_option linter.unusedVariables false
set_option linter.unusedSimpArgs false
def cmp_isNaN_int.f (a0 : Int) : Option (Bool) := some (a0 != a0)
set_option maxHeartbeats 8000000 in
set_option maxRecDepth 100000 in
theorem cmp_isNaN_int.calls (a0 : Int) (r : Bool) (w : World) (h : cmp_isNaN_int.f a0 = some r) :
  Calls Try.prog 60 #[.int .i64 a0] w fun e w' => e = .returned (.bool r) ∧ Drawn0 w w' := by
 have H : (some (a0 != a0)) = some r := h
 clear h
 obtain rfl := Option.some.inj H
 go_enter Try.func60, Try.ntmps60
 go_wp2
 go_ret
 exact ⟨by first | rfl | (simp; done) | (simp [*]; done), by repeat (first | exact Drawn0.refl _ | apply Drawn0.step)⟩
def cmp_Compare_int.f (a0 : Int) (a1 : Int) : Option (Int) := (cmp_isNaN_int.f a0).bind fun t101 => ((cmp_isNaN_int.f a1).bind fun t102 => (if t101 = true then (if t102 = true then (some 0) else (some (-1))) else (if t102 = true then (some 1) else (if a0 < a1 then (some (-1)) else (if a0 > a1 then (some 1) else (some 0))))))
set_option maxHeartbeats 8000000 in
set_option maxRecDepth 100000 in
theorem cmp_Compare_int.calls (a0 : Int) (a1 : Int) (r : Int) (w : World) (h : cmp_Compare_int.f a0 a1 = some r) :
  Calls Try.prog 56 #[.int .i64 a0, .int .i64 a1] w fun e w' => e = .returned (.int .i64 r) ∧ Drawn0 w w' := by
 have H : ((cmp_isNaN_int.f a0).bind fun t101 => ((cmp_isNaN_int.f a1).bind fun t102 => (if t101 = true then (if t102 = true then (some 0) else (some (-1))) else (if t102 = true then (some 1) else (if a0 < a1 then (some (-1)) else (if a0 > a1 then (some 1) else (some 0))))))) = some r := h
 clear h
 replace H := Option.bind_eq_some_iff.mp H
 obtain ⟨t101, A30, H⟩ := H
 replace H : ((cmp_isNaN_int.f a1).bind fun t102 => (if t101 = true then (if t102 = true then (some 0) else (some (-1))) else (if t102 = true then (some 1) else (if a0 < a1 then (some (-1)) else (if a0 > a1 then (some 1) else (some 0)))))) = some r := H
 have A3 := am A30
 clear A30
 replace H := Option.bind_eq_some_iff.mp H
 obtain ⟨t102, A40, H⟩ := H
 replace H : (if t101 = true then (if t102 = true then (some 0) else (some (-1))) else (if t102 = true then (some 1) else (if a0 < a1 then (some (-1)) else (if a0 > a1 then (some 1) else (some 0))))) = some r := H
 have A4 := am A40
 clear A40
 by_cases c5 : t101 = true
 ·subst c5
  have H1 : (if t102 = true then (some 0) else (some (-1))) = some r := by rw [if_pos rfl] at H; exact H
  clear H
  have H := H1
  clear H1
  by_cases c6 : t102 = true
  ·subst c6
   have H1 : (some 0) = some r := by rw [if_pos rfl] at H; exact H
   clear H
   have H := H1
   clear H1
   obtain rfl := Option.some.inj H
   go_enter Try.func56, Try.ntmps56
   go_wp2_with (first | ((with_reducible refine gate_callee (f := 60) rfl ?_); refine goesL_ (some 8) rfl rfl Try.func60 (by kernel_rfl) rfl #[.int .i64 a0] rfl (by (try simp only [List.map_toArray, List.map_cons, List.map_nil]); first | done | rfl | (simp only [List.length_drop, List.length_take]; rfl)) ?_; (with_reducible refine (cmp_isNaN_int.calls a0 true _ A3.out).mono ?_); rintro e w' ⟨rfl, ⟨nd, rfl⟩⟩; refine ⟨_, rfl, ?_⟩) | ((with_reducible refine gate_callee (f := 60) rfl ?_); refine goesL_ (some 10) rfl rfl Try.func60 (by kernel_rfl) rfl #[.int .i64 a1] rfl (by (try simp only [List.map_toArray, List.map_cons, List.map_nil]); first | done | rfl | (simp only [List.length_drop, List.length_take]; rfl)) ?_; (with_reducible refine (cmp_isNaN_int.calls a1 true _ A4.out).mono ?_); rintro e w' ⟨rfl, ⟨nd, rfl⟩⟩; refine ⟨_, rfl, ?_⟩))
   go_ret
   exact ⟨by first | rfl | (simp; done) | (simp [*]; done), by repeat (first | exact Drawn0.refl _ | apply Drawn0.step)⟩
  ·replace c6 := Bool.eq_false_iff.mpr c6
   subst c6
   have H1 : (some (-1)) = some r := by rw [if_neg (show ¬ (false = true) by decide)] at H; exact H
   clear H
   have H := H1
   clear H1
   obtain rfl := Option.some.inj H
   go_enter Try.func56, Try.ntmps56
   go_wp2_with (first | ((with_reducible refine gate_callee (f := 60) rfl ?_); refine goesL_ (some 8) rfl rfl Try.func60 (by kernel_rfl) rfl #[.int .i64 a0] rfl (by (try simp only [List.map_toArray, List.map_cons, List.map_nil]); first | done | rfl | (simp only [List.length_drop, List.length_take]; rfl)) ?_; (with_reducible refine (cmp_isNaN_int.calls a0 true _ A3.out).mono ?_); rintro e w' ⟨rfl, ⟨nd, rfl⟩⟩; refine ⟨_, rfl, ?_⟩) | ((with_reducible refine gate_callee (f := 60) rfl ?_); refine goesL_ (some 10) rfl rfl Try.func60 (by kernel_rfl) rfl #[.int .i64 a1] rfl (by (try simp only [List.map_toArray, List.map_cons, List.map_nil]); first | done | rfl | (simp only [List.length_drop, List.length_take]; rfl)) ?_; (with_reducible refine (cmp_isNaN_int.calls a1 false _ A4.out).mono ?_); rintro e w' ⟨rfl, ⟨nd, rfl⟩⟩; refine ⟨_, rfl, ?_⟩))
   go_ret
   exact ⟨by first | rfl | (simp; done) | (simp [*]; done), by repeat (first | exact Drawn0.refl _ | apply Drawn0.step)⟩
 ·replace c5 := Bool.eq_false_iff.mpr c5
  subst c5
  have H1 : (if t102 = true then (some 1) else (if a0 < a1 then (some (-1)) else (if a0 > a1 then (some 1) else (some 0)))) = some r := by rw [if_neg (show ¬ (false = true) by decide)] at H; exact H
  clear H
  have H := H1
  clear H1
  by_cases c7 : t102 = true
  ·subst c7
   have H1 : (some 1) = some r := by rw [if_pos rfl] at H; exact H
   clear H
   have H := H1
   clear H1
   obtain rfl := Option.some.inj H
   go_enter Try.func56, Try.ntmps56
   go_wp2_with (first | ((with_reducible refine gate_callee (f := 60) rfl ?_); refine goesL_ (some 8) rfl rfl Try.func60 (by kernel_rfl) rfl #[.int .i64 a0] rfl (by (try simp only [List.map_toArray, List.map_cons, List.map_nil]); first | done | rfl | (simp only [List.length_drop, List.length_take]; rfl)) ?_; (with_reducible refine (cmp_isNaN_int.calls a0 false _ A3.out).mono ?_); rintro e w' ⟨rfl, ⟨nd, rfl⟩⟩; refine ⟨_, rfl, ?_⟩) | ((with_reducible refine gate_callee (f := 60) rfl ?_); refine goesL_ (some 10) rfl rfl Try.func60 (by kernel_rfl) rfl #[.int .i64 a1] rfl (by (try simp only [List.map_toArray, List.map_cons, List.map_nil]); first | done | rfl | (simp only [List.length_drop, List.length_take]; rfl)) ?_; (with_reducible refine (cmp_isNaN_int.calls a1 true _ A4.out).mono ?_); rintro e w' ⟨rfl, ⟨nd, rfl⟩⟩; refine ⟨_, rfl, ?_⟩))
   go_ret
   exact ⟨by first | rfl | (simp; done) | (simp [*]; done), by repeat (first | exact Drawn0.refl _ | apply Drawn0.step)⟩
  ·replace c7 := Bool.eq_false_iff.mpr c7
   subst c7
   have H1 : (if a0 < a1 then (some (-1)) else (if a0 > a1 then (some 1) else (some 0))) = some r := by rw [if_neg (show ¬ (false = true) by decide)] at H; exact H
   clear H
   have H := H1
   clear H1
   by_cases c8 : a0 < a1
   ·rw [if_pos c8] at H
    have c8b0 : decide (a0 < a1) = true := decide_eq_true c8
    clear c8
    obtain rfl := Option.some.inj H
    go_enter Try.func56, Try.ntmps56
    go_wp2_with (first | ((with_reducible refine gate_callee (f := 60) rfl ?_); refine goesL_ (some 8) rfl rfl Try.func60 (by kernel_rfl) rfl #[.int .i64 a0] rfl (by (try simp only [List.map_toArray, List.map_cons, List.map_nil]); first | done | rfl | (simp only [List.length_drop, List.length_take]; rfl)) ?_; (with_reducible refine (cmp_isNaN_int.calls a0 false _ A3.out).mono ?_); rintro e w' ⟨rfl, ⟨nd, rfl⟩⟩; refine ⟨_, rfl, ?_⟩) | ((with_reducible refine gate_callee (f := 60) rfl ?_); refine goesL_ (some 10) rfl rfl Try.func60 (by kernel_rfl) rfl #[.int .i64 a1] rfl (by (try simp only [List.map_toArray, List.map_cons, List.map_nil]); first | done | rfl | (simp only [List.length_drop, List.length_take]; rfl)) ?_; (with_reducible refine (cmp_isNaN_int.calls a1 false _ A4.out).mono ?_); rintro e w' ⟨rfl, ⟨nd, rfl⟩⟩; refine ⟨_, rfl, ?_⟩))
    go_ret
    exact ⟨by first | rfl | (simp; done) | (simp [*]; done), by repeat (first | exact Drawn0.refl _ | apply Drawn0.step)⟩
   ·rw [if_neg c8] at H
    have c8b0 : decide (a0 < a1) = false := decide_eq_false c8
    clear c8
    by_cases c9 : a0 > a1
    ·rw [if_pos c9] at H
     have c9b0 : decide (a1 < a0) = true := decide_eq_true c9
     clear c9
     obtain rfl := Option.some.inj H
     go_enter Try.func56, Try.ntmps56
     go_wp2_with (first | ((with_reducible refine gate_callee (f := 60) rfl ?_); refine goesL_ (some 8) rfl rfl Try.func60 (by kernel_rfl) rfl #[.int .i64 a0] rfl (by (try simp only [List.map_toArray, List.map_cons, List.map_nil]); first | done | rfl | (simp only [List.length_drop, List.length_take]; rfl)) ?_; (with_reducible refine (cmp_isNaN_int.calls a0 false _ A3.out).mono ?_); rintro e w' ⟨rfl, ⟨nd, rfl⟩⟩; refine ⟨_, rfl, ?_⟩) | ((with_reducible refine gate_callee (f := 60) rfl ?_); refine goesL_ (some 10) rfl rfl Try.func60 (by kernel_rfl) rfl #[.int .i64 a1] rfl (by (try simp only [List.map_toArray, List.map_cons, List.map_nil]); first | done | rfl | (simp only [List.length_drop, List.length_take]; rfl)) ?_; (with_reducible refine (cmp_isNaN_int.calls a1 false _ A4.out).mono ?_); rintro e w' ⟨rfl, ⟨nd, rfl⟩⟩; refine ⟨_, rfl, ?_⟩))
     go_ret
     exact ⟨by first | rfl | (simp; done) | (simp [*]; done), by repeat (first | exact Drawn0.refl _ | apply Drawn0.step)⟩
    ·rw [if_neg c9] at H
     have c9b0 : decide (a1 < a0) = false := decide_eq_false c9
     clear c9
     obtain rfl := Option.some.inj H
     go_enter Try.func56, Try.ntmps56
     go_wp2_with (first | ((with_reducible refine gate_callee (f := 60) rfl ?_); refine goesL_ (some 8) rfl rfl Try.func60 (by kernel_rfl) rfl #[.int .i64 a0] rfl (by (try simp only [List.map_toArray, List.map_cons, List.map_nil]); first | done | rfl | (simp only [List.length_drop, List.length_take]; rfl)) ?_; (with_reducible refine (cmp_isNaN_int.calls a0 false _ A3.out).mono ?_); rintro e w' ⟨rfl, ⟨nd, rfl⟩⟩; refine ⟨_, rfl, ?_⟩) | ((with_reducible refine gate_callee (f := 60) rfl ?_); refine goesL_ (some 10) rfl rfl Try.func60 (by kernel_rfl) rfl #[.int .i64 a1] rfl (by (try simp only [List.map_toArray, List.map_cons, List.map_nil]); first | done | rfl | (simp only [List.length_drop, List.length_take]; rfl)) ?_; (with_reducible refine (cmp_isNaN_int.calls a1 false _ A4.out).mono ?_); rintro e w' ⟨rfl, ⟨nd, rfl⟩⟩; refine ⟨_, rfl, ?_⟩))
     go_ret
     exact ⟨by first | rfl | (simp; done) | (simp [*]; done), by repeat (first | exact Drawn0.refl _ | apply Drawn0.step)⟩
def slices_Compare_int_int.l0 : Nat → List Int → List Int → List Int → Int → Int → Option (Int)
 | 0, _, _, _, _, _ => none
 | k + 1, x0, x1, x9, x10, x11 => if x11 < x10 then (if 0 ≤ x11 then (if x11 < (x9.length : Int) then (if x11 ≥ (x1.length : Int) then (some 1) else (if x11 < (x1.length : Int) then ((cmp_Compare_int.f (rd x9 x11) (rd x1 x11)).bind fun t105 => (if t105 = 0 then (slices_Compare_int_int.l0 k x0 x1 x9 x10 (wrap64 (x11 + 1))) else (some t105))) else (none))) else (none)) else (none)) else (if (x0.length : Int) < (x1.length : Int) then (some (-1)) else (some 0))
def slices_Compare_int_int.f (k : Nat) (l0 : List Int) (l1 : List Int) : Option (Int) := slices_Compare_int_int.l0 k l0 l1 l0 (l0.length : Int) 0
set_option maxHeartbeats 8000000 in
set_option maxRecDepth 100000 in
theorem slices_Compare_int_int.calls (k : Nat) (A0 : Option Addr) (c0 : Nat) (l0 : List Int) (A1 : Option Addr) (c1 : Nat) (l1 : List Int) (r : Int) (w : World) (hr0 : Kd.C (Kd.int .i64) w A0 l0.length l0) (hc0 : l0.length ≤ c0) (hr1 : Kd.C (Kd.int .i64) w A1 l1.length l1) (hc1 : l1.length ≤ c1) (h : slices_Compare_int_int.f k l0 l1 = some r) :
  Calls Try.prog 48 #[.slice A0 l0.length c0, .slice A1 l1.length c1] w fun e w' => e = .returned (.int .i64 r) ∧ Drawn0 w w' := by
 have HR0 := am hr0
 have HC0 := am hc0
 clear hr0 hc0
 have HR1 := am hr1
 have HC1 := am hc1
 clear hr1 hc1
 have H : (slices_Compare_int_int.l0 k l0 l1 l0 (l0.length : Int) 0) = some r := h
 clear h
 have H' := am H
 clear H
 go_enter Try.func48, Try.ntmps48
 go_wp2
 go_loopg [11] k (fun kq v11 w' => ∃ (x11_1 : Int), v11 = .int .i64 x11_1 ∧ Aside0 (slices_Compare_int_int.l0 kq l0 l1 l0 (l0.length : Int) x11_1 = some r) ∧ Aside0 (kq ≤ k) ∧ Drawn0 w w')
 case atStart => exact ⟨(0), (by first | rfl | (simp; done) | (simp [*]; done)), H', ⟨Nat.le_refl _⟩, by repeat (first | exact Drawn0.refl _ | apply Drawn0.step)⟩
 case round =>
  clear H'
  try clear c1
  try clear p2
  obtain ⟨x11_1, rfl, HA, HK1, ⟨m1, rfl⟩⟩ := hrel
  cases gk with
  | zero => exact absurd HA.out (by simp [slices_Compare_int_int.l0])
  | succ k1 =>
   have H := HA.out
   clear HA
   simp only [slices_Compare_int_int.l0] at H
   by_cases c3 : x11_1 < (l0.length : Int)
   ·rw [if_pos c3] at H
    have c3b0 : decide (x11_1 < (l0.length : Int)) = true := decide_eq_true c3
    clear c3
    by_cases c4 : 0 ≤ x11_1
    ·rw [if_pos c4] at H
     have c4b0 : decide (0 ≤ x11_1) = true := decide_eq_true c4
     clear c4
     by_cases c5 : x11_1 < (l0.length : Int)
     ·rw [if_pos c5] at H
      have c5b0 : decide (x11_1 < (l0.length : Int)) = true := decide_eq_true c5
      clear c5
      by_cases c6 : x11_1 ≥ (l1.length : Int)
      ·rw [if_pos c6] at H
       have c6b0 : decide ((l1.length : Int) ≤ x11_1) = true := decide_eq_true c6
       clear c6
       obtain rfl := Option.some.inj H
       have p103 : 0 ≤ (x11_1 : Int) := of_decide_eq_true (by first | (with_reducible assumption) | assumption)
       have q103 : x11_1 < (l0.length : Int) := of_decide_eq_true (by first | (with_reducible assumption) | assumption)
       obtain ⟨ad103, e103, hx103_0⟩ := Kd.at_int HR0.out x11_1 p103 q103
       cases e103
       replace p103 := eq_true p103
       replace q103 := eq_true q103
       go_wp2
       go_ret
       exact ⟨by first | rfl | (simp; done) | (simp [*]; done), by repeat (first | exact Drawn0.refl _ | apply Drawn0.step)⟩
      ·rw [if_neg c6] at H
       have c6b0 : decide ((l1.length : Int) ≤ x11_1) = false := decide_eq_false c6
       clear c6
       by_cases c7 : x11_1 < (l1.length : Int)
       ·rw [if_pos c7] at H
        have c7b0 : decide (x11_1 < (l1.length : Int)) = true := decide_eq_true c7
        clear c7
        replace H := Option.bind_eq_some_iff.mp H
        obtain ⟨t105, A80, H⟩ := H
        replace H : (if t105 = 0 then (slices_Compare_int_int.l0 k1 l0 l1 l0 (l0.length : Int) (wrap64 (x11_1 + 1))) else (some t105)) = some r := H
        have A8 := am A80
        clear A80
        by_cases c9 : t105 = 0
        ·rw [if_pos c9] at H
         have c9b0 : (t105 == 0) = true := beq_iff_eq.mpr c9
         have c9b1 : (t105 != 0) = false := bne_eq_false_iff_eq.mpr c9
         clear c9
         have H' := am H
         clear H
         have p103 : 0 ≤ (x11_1 : Int) := of_decide_eq_true (by first | (with_reducible assumption) | assumption)
         have q103 : x11_1 < (l0.length : Int) := of_decide_eq_true (by first | (with_reducible assumption) | assumption)
         obtain ⟨ad103, e103, hx103_0⟩ := Kd.at_int HR0.out x11_1 p103 q103
         cases e103
         replace p103 := eq_true p103
         replace q103 := eq_true q103
         have p104 : 0 ≤ (x11_1 : Int) := of_decide_eq_true (by first | (with_reducible assumption) | assumption)
         have q104 : x11_1 < (l1.length : Int) := of_decide_eq_true (by first | (with_reducible assumption) | assumption)
         obtain ⟨ad104, e104, hx104_0⟩ := Kd.at_int HR1.out x11_1 p104 q104
         cases e104
         replace p104 := eq_true p104
         replace q104 := eq_true q104
         go_wp2_with (first | ((with_reducible refine gate_callee (f := 56) rfl ?_); refine goesL_ (some 26) rfl rfl Try.func56 (by kernel_rfl) rfl #[.int .i64 (rd l0 x11_1), .int .i64 (rd l1 x11_1)] rfl (by (try simp only [List.map_toArray, List.map_cons, List.map_nil]); first | done | rfl | (simp only [List.length_drop, List.length_take]; rfl)) ?_; (with_reducible refine (cmp_Compare_int.calls (rd l0 x11_1) (rd l1 x11_1) t105 _ A8.out).mono ?_); rintro e w' ⟨rfl, ⟨nd, rfl⟩⟩; refine ⟨_, rfl, ?_⟩))
         go_roundg k1
         case measure => have := HK1.out; omega
         case rel => exact ⟨(wrap64 (x11_1 + 1)), (by first | rfl | (simp; done) | (simp [*]; done)), H', ⟨by have := HK1.out; omega⟩, by repeat (first | exact Drawn0.refl _ | apply Drawn0.step)⟩
        ·rw [if_neg c9] at H
         have c9b0 : (t105 == 0) = false := beq_eq_false_iff_ne.mpr c9
         have c9b1 : (t105 != 0) = true := bne_iff_ne.mpr c9
         obtain rfl := Option.some.inj H
         have p103 : 0 ≤ (x11_1 : Int) := of_decide_eq_true (by first | (with_reducible assumption) | assumption)
         have q103 : x11_1 < (l0.length : Int) := of_decide_eq_true (by first | (with_reducible assumption) | assumption)
         obtain ⟨ad103, e103, hx103_0⟩ := Kd.at_int HR0.out x11_1 p103 q103
         cases e103
         replace p103 := eq_true p103
         replace q103 := eq_true q103
         have p104 : 0 ≤ (x11_1 : Int) := of_decide_eq_true (by first | (with_reducible assumption) | assumption)
         have q104 : x11_1 < (l1.length : Int) := of_decide_eq_true (by first | (with_reducible assumption) | assumption)
         obtain ⟨ad104, e104, hx104_0⟩ := Kd.at_int HR1.out x11_1 p104 q104
         cases e104
         replace p104 := eq_true p104
         replace q104 := eq_true q104
         go_wp2_with (first | ((with_reducible refine gate_callee (f := 56) rfl ?_); refine goesL_ (some 26) rfl rfl Try.func56 (by kernel_rfl) rfl #[.int .i64 (rd l0 x11_1), .int .i64 (rd l1 x11_1)] rfl (by (try simp only [List.map_toArray, List.map_cons, List.map_nil]); first | done | rfl | (simp only [List.length_drop, List.length_take]; rfl)) ?_; (with_reducible refine (cmp_Compare_int.calls (rd l0 x11_1) (rd l1 x11_1) t105 _ A8.out).mono ?_); rintro e w' ⟨rfl, ⟨nd, rfl⟩⟩; refine ⟨_, rfl, ?_⟩))
         go_ret
         exact ⟨by first | rfl | (simp; done) | (simp [*]; done), by repeat (first | exact Drawn0.refl _ | apply Drawn0.step)⟩
       ·rw [if_neg c7] at H
        exact absurd H (by simp)
     ·rw [if_neg c5] at H
      exact absurd H (by simp)
    ·rw [if_neg c4] at H
     exact absurd H (by simp)
   ·rw [if_neg c3] at H
    have c3b0 : decide (x11_1 < (l0.length : Int)) = false := decide_eq_false c3
    clear c3
    by_cases c10 : (l0.length : Int) < (l1.length : Int)
    ·rw [if_pos c10] at H
     have c10b0 : decide ((l0.length : Int) < (l1.length : Int)) = true := decide_eq_true c10
     have c10b1 : decide (l0.length < l1.length) = true := decide_eq_true (Int.ofNat_lt.mp c10)
     clear c10
     obtain rfl := Option.some.inj H
     go_wp2
     go_ret
     exact ⟨by first | rfl | (simp; done) | (simp [*]; done), by repeat (first | exact Drawn0.refl _ | apply Drawn0.step)⟩
    ·rw [if_neg c10] at H
     have c10b0 : decide ((l0.length : Int) < (l1.length : Int)) = false := decide_eq_false c10
     have c10b1 : decide (l0.length < l1.length) = false := decide_eq_false (fun h => c10 (Int.ofNat_lt.mpr h))
     clear c10
     obtain rfl := Option.some.inj H
     go_wp2
     go_ret
     exact ⟨by first | rfl | (simp; done) | (simp [*]; done), by repeat (first | exact Drawn0.refl _ | apply Drawn0.step)⟩
def cell_Less.f (k : Nat) (l0 : List Int) (l1 : List Int) : Option (Int) := (slices_Compare_int_int.f k l0 l1).bind fun t106 => (some t106)
set_option maxHeartbeats 8000000 in
set_option maxRecDepth 100000 in
theorem cell_Less.calls (k : Nat) (A0 : Option Addr) (c0 : Nat) (l0 : List Int) (A1 : Option Addr) (c1 : Nat) (l1 : List Int) (r : Int) (w : World) (hr0 : Kd.C (Kd.int .i64) w A0 l0.length l0) (hc0 : l0.length ≤ c0) (hr1 : Kd.C (Kd.int .i64) w A1 l1.length l1) (hc1 : l1.length ≤ c1) (h : cell_Less.f k l0 l1 = some r) :
  Calls Try.prog 37 #[.slice A0 l0.length c0, .slice A1 l1.length c1] w fun e w' => e = .returned (.int .i64 r) ∧ Drawn0 w w' := by
 have HR0 := am hr0
 have HC0 := am hc0
 clear hr0 hc0
 have HR1 := am hr1
 have HC1 := am hc1
 clear hr1 hc1
 have H : ((slices_Compare_int_int.f k l0 l1).bind fun t106 => (some t106)) = some r := h
 clear h
 replace H := Option.bind_eq_some_iff.mp H
 obtain ⟨t106, A30, H⟩ := H
 replace H : (some t106) = some r := H
 have A3 := am A30
 clear A30
 obtain rfl := Option.some.inj H
 go_enter Try.func37, Try.ntmps37
 go_wp2_with (first | ((with_reducible refine gate_callee (f := 48) rfl ?_); refine goesL_ (some 7) rfl rfl Try.func48 (by kernel_rfl) rfl #[.slice A0 l0.length c0, .slice A1 l1.length c1] rfl (by (try simp only [List.map_toArray, List.map_cons, List.map_nil]); first | done | rfl | (simp only [List.length_drop, List.length_take]; rfl)) ?_; (with_reducible refine (slices_Compare_int_int.calls k _ _ l0 _ _ l1 t106 _ ?side1 ?side2 ?side3 ?side4 A3.out).mono ?_); (case side1 => repeat (first | exact HR0.out | (with_reducible refine Kd.C_alloc ?_ _) | (with_reducible refine Kd.C_drewN ?_ _) | (with_reducible refine Kd.C_drew ?_))); (case side2 => exact HC0.out); (case side3 => repeat (first | exact HR1.out | (with_reducible refine Kd.C_alloc ?_ _) | (with_reducible refine Kd.C_drewN ?_ _) | (with_reducible refine Kd.C_drew ?_))); (case side4 => exact HC1.out); rintro e w' ⟨rfl, ⟨nd, rfl⟩⟩; refine ⟨_, rfl, ?_⟩))
 go_ret
 exact ⟨by first | rfl | (simp; done) | (simp [*]; done), by repeat (first | exact Drawn0.refl _ | apply Drawn0.step)⟩
end Go.Proofs.Ytndkimjmbpbcmaa.Q
namespace Go.Proofs.Ytndkimjmbpbcmaa.Q
open Go.RowKit Go.Proofs.YtndkimjmbpbcmaaW.PrintWords Go.Proofs.YtndkimjmbpbcmaaW.PrintLast Go.Proofs.YtndkimjmbpbcmaaW.PrintMore
attribute [local go_sem] max2_int min2_int max_two min_two max_three min_three max_four min_four
set_option linter.unusedVariables false
set_option linter.unusedSimpArgs false
def hypercubelaw2_within.f (a0 : Int) (a1 : Int) : Option (Int) := if a1 = 0 then (none) else (if (Int.tmod a0 a1) < 0 then (some (wrap64 ((Int.tmod a0 a1) + a1))) else (some (Int.tmod a0 a1)))
def hypercubelaw6_within.f (a0 : Int) (a1 : Int) : Option (Int) := if a1 = 0 then (none) else (if (Int.tmod a0 a1) < 0 then (some (wrap64 ((Int.tmod a0 a1) + a1))) else (some (Int.tmod a0 a1)))
set_option maxHeartbeats 8000000 in
set_option maxRecDepth 100000 in
theorem hypercubelaw6_within.calls (a0 : Int) (a1 : Int) (r : Int) (w : World) (h : hypercubelaw6_within.f a0 a1 = some r) :
  Calls Try.prog 18 #[.int .i64 a0, .int .i64 a1] w fun e w' => e = .returned (.int .i64 r) ∧ Drawn0 w w' := by
 have H : (if a1 = 0 then (none) else (if (Int.tmod a0 a1) < 0 then (some (wrap64 ((Int.tmod a0 a1) + a1))) else (some (Int.tmod a0 a1)))) = some r := h
 clear h
 by_cases c3 : a1 = 0
 ·rw [if_pos c3] at H
  exact absurd H (by simp)
 ·rw [if_neg c3] at H
  have c3b0 : (a1 == 0) = false := beq_eq_false_iff_ne.mpr c3
  have c3b1 : (a1 != 0) = true := bne_iff_ne.mpr c3
  by_cases c4 : (Int.tmod a0 a1) < 0
  ·rw [if_pos c4] at H
   have c4b0 : decide ((Int.tmod a0 a1) < 0) = true := decide_eq_true c4
   clear c4
   obtain rfl := Option.some.inj H
   go_enter Try.func18, Try.ntmps18
   go_wp2
   go_ret
   exact ⟨by first | rfl | (simp; done) | (simp [*]; done), by repeat (first | exact Drawn0.refl _ | apply Drawn0.step)⟩
  ·rw [if_neg c4] at H
   have c4b0 : decide ((Int.tmod a0 a1) < 0) = false := decide_eq_false c4
   clear c4
   obtain rfl := Option.some.inj H
   go_enter Try.func18, Try.ntmps18
   go_wp2
   go_ret
   exact ⟨by first | rfl | (simp; done) | (simp [*]; done), by repeat (first | exact Drawn0.refl _ | apply Drawn0.step)⟩
end Go.Proofs.Ytndkimjmbpbcmaa.Q
namespace Go.Proofs.Ytndkimjmbpbcmaa.Q
open Go.RowKit Go.Proofs.YtndkimjmbpbcmaaW.PrintWords Go.Proofs.YtndkimjmbpbcmaaW.PrintLast Go.Proofs.YtndkimjmbpbcmaaW.PrintMore
attribute [local go_sem] max2_int min2_int max_two min_two max_three min_three max_four min_four
set_option linter.unusedVariables false
set_option linter.unusedSimpArgs false
mutual
def hypercuberef2_Less.l0 : Nat → List Int → List Int → Int → Option (Int)
 | 0, _, _, _ => none
 | k + 1, x0, x1, x5 => if x5 < (x0.length : Int) then (hypercuberef2_Less.j1 k x0 x1 x5 (decide (x5 < (x1.length : Int)))) else (hypercuberef2_Less.j1 k x0 x1 x5 false)
def hypercuberef2_Less.j1 : Nat → List Int → List Int → Int → Bool → Option (Int)
 | 0, _, _, _, _ => none
 | k + 1, x0, x1, x5, x15 => if x15 = true then (if 0 ≤ x5 then (if x5 < (x0.length : Int) then (if x5 < (x1.length : Int) then (if (rd x0 x5) < (rd x1 x5) then (some (-1)) else (if (rd x0 x5) > (rd x1 x5) then (some 1) else (hypercuberef2_Less.l0 k x0 x1 (wrap64 (x5 + 1))))) else (none)) else (none)) else (none)) else (if (x0.length : Int) < (x1.length : Int) then (some (-1)) else (if (x0.length : Int) > (x1.length : Int) then (some 1) else (some 0)))
end
def hypercuberef2_Less.f (k : Nat) (l0 : List Int) (l1 : List Int) : Option (Int) := hypercuberef2_Less.l0 k l0 l1 0
set_option maxHeartbeats 8000000 in
set_option maxRecDepth 100000 in
theorem hypercuberef2_Less.calls (k : Nat) (A0 : Option Addr) (c0 : Nat) (l0 : List Int) (A1 : Option Addr) (c1 : Nat) (l1 : List Int) (r : Int) (w : World) (hr0 : Kd.C (Kd.int .i64) w A0 l0.length l0) (hc0 : l0.length ≤ c0) (hr1 : Kd.C (Kd.int .i64) w A1 l1.length l1) (hc1 : l1.length ≤ c1) (h : hypercuberef2_Less.f k l0 l1 = some r) :
  Calls Try.prog 41 #[.slice A0 l0.length c0, .slice A1 l1.length c1] w fun e w' => e = .returned (.int .i64 r) ∧ Drawn0 w w' := by
 have HR0 := am hr0
 have HC0 := am hc0
 clear hr0 hc0
 have HR1 := am hr1
 have HC1 := am hc1
 clear hr1 hc1
 have H : (hypercuberef2_Less.l0 k l0 l1 0) = some r := h
 clear h
 have H' := am H
 clear H
 go_enter Try.func41, Try.ntmps41
 go_wp2
 repeat (go_quiet (fail); try go_wp2)
 go_loopg [5] k (fun kq v5 w' => ∃ (x5_1 : Int), v5 = .int .i64 x5_1 ∧ Aside0 (hypercuberef2_Less.l0 kq l0 l1 x5_1 = some r) ∧ Aside0 (kq ≤ k) ∧ Drawn0 w w')
 case atStart => exact ⟨(0), (by first | rfl | (simp; done) | (simp [*]; done)), H', ⟨Nat.le_refl _⟩, by repeat (first | exact Drawn0.refl _ | apply Drawn0.step)⟩
 case round =>
  clear H'
  try clear c1
  try clear p2
  obtain ⟨x5_1, rfl, HA, HK1, ⟨m1, rfl⟩⟩ := hrel
  cases gk with
  | zero => exact absurd HA.out (by simp [hypercuberef2_Less.l0])
  | succ k1 =>
   have H := HA.out
   clear HA
   simp only [hypercuberef2_Less.l0] at H
   have HC3 := am H
   clear H
   go_upto_region 2 with (fail)
   repeat (go_quiet (fail); go_upto_region 2 with (fail))
   go_cut [15] (fun v15 wc => ∃ (kq : Nat) (x15_2 : Bool), v15 = .bool x15_2 ∧ Aside0 (hypercuberef2_Less.j1 kq l0 l1 x5_1 x15_2 = some r) ∧ Aside0 (kq ≤ k1) ∧ Drawn0 w wc)
   case first =>
    have H := HC3.out
    clear HC3
    by_cases c4 : x5_1 < (l0.length : Int)
    ·rw [if_pos c4] at H
     have c4b0 : decide (x5_1 < (l0.length : Int)) = true := decide_eq_true c4
     clear c4
     (first | rw [c4b0] | (simp only [i64_w, i32_w]; rw [c4b0]) | skip)
     have H' := am H
     clear H
     go_wp2
     repeat (go_quiet (fail); try go_wp2)
     go_meet
     case rel => exact ⟨_, (decide (x5_1 < (l1.length : Int))), (by first | rfl | (simp; done) | (simp [*]; done)), H', ⟨by have := HK1.out; first | omega | exact Nat.le_refl _⟩, by repeat (first | exact Drawn0.refl _ | apply Drawn0.step)⟩
    ·rw [if_neg c4] at H
     have c4b0 : decide (x5_1 < (l0.length : Int)) = false := decide_eq_false c4
     clear c4
     (first | rw [c4b0] | (simp only [i64_w, i32_w]; rw [c4b0]) | skip)
     have H' := am H
     clear H
     go_wp2
     repeat (go_quiet (fail); try go_wp2)
     go_meet
     case rel => exact ⟨_, (false), (by first | rfl | (simp; done) | (simp [*]; done)), H', ⟨by have := HK1.out; first | omega | exact Nat.le_refl _⟩, by repeat (first | exact Drawn0.refl _ | apply Drawn0.step)⟩
   case rest =>
    clear HC3
    try clear c1
    try clear p2
    try clear c4
    try clear c4b0
    try clear p2
    obtain ⟨kq, x15_2, rfl, HA, HJ2, ⟨mc2, rfl⟩⟩ := hcut
    cases kq with
    | zero => exact absurd HA.out (by simp [hypercuberef2_Less.j1])
    | succ kj2 =>
     have H := HA.out
     clear HA
     simp only [hypercuberef2_Less.j1] at H
     by_cases c5 : x15_2 = true
     ·subst c5
      have H1 : (if 0 ≤ x5_1 then (if x5_1 < (l0.length : Int) then (if x5_1 < (l1.length : Int) then (if (rd l0 x5_1) < (rd l1 x5_1) then (some (-1)) else (if (rd l0 x5_1) > (rd l1 x5_1) then (some 1) else (hypercuberef2_Less.l0 kj2 l0 l1 (wrap64 (x5_1 + 1))))) else (none)) else (none)) else (none)) = some r := by rw [if_pos rfl] at H; exact H
      clear H
      have H := H1
      clear H1
      by_cases c6 : 0 ≤ x5_1
      ·rw [if_pos c6] at H
       have c6b0 : decide (0 ≤ x5_1) = true := decide_eq_true c6
       clear c6
       by_cases c7 : x5_1 < (l0.length : Int)
       ·rw [if_pos c7] at H
        have c7b0 : decide (x5_1 < (l0.length : Int)) = true := decide_eq_true c7
        clear c7
        by_cases c8 : x5_1 < (l1.length : Int)
        ·rw [if_pos c8] at H
         have c8b0 : decide (x5_1 < (l1.length : Int)) = true := decide_eq_true c8
         clear c8
         by_cases c9 : (rd l0 x5_1) < (rd l1 x5_1)
         ·rw [if_pos c9] at H
          have c9b0 : decide ((rd l0 x5_1) < (rd l1 x5_1)) = true := decide_eq_true c9
          clear c9
          obtain rfl := Option.some.inj H
          have p223 : 0 ≤ (x5_1 : Int) := of_decide_eq_true (by first | (with_reducible assumption) | assumption)
          have q223 : x5_1 < (l0.length : Int) := of_decide_eq_true (by first | (with_reducible assumption) | assumption)
          obtain ⟨ad223, e223, hx223_0⟩ := Kd.at_int HR0.out x5_1 p223 q223
          cases e223
          replace p223 := eq_true p223
          replace q223 := eq_true q223
          have p224 : 0 ≤ (x5_1 : Int) := of_decide_eq_true (by first | (with_reducible assumption) | assumption)
          have q224 : x5_1 < (l1.length : Int) := of_decide_eq_true (by first | (with_reducible assumption) | assumption)
          obtain ⟨ad224, e224, hx224_0⟩ := Kd.at_int HR1.out x5_1 p224 q224
          cases e224
          replace p224 := eq_true p224
          replace q224 := eq_true q224
          go_wp2
          repeat (go_quiet (fail); try go_wp2)
          go_ret
          exact ⟨by first | rfl | (simp; done) | (simp [*]; done), by repeat (first | exact Drawn0.refl _ | apply Drawn0.step)⟩
         ·rw [if_neg c9] at H
          have c9b0 : decide ((rd l0 x5_1) < (rd l1 x5_1)) = false := decide_eq_false c9
          clear c9
          by_cases c10 : (rd l0 x5_1) > (rd l1 x5_1)
          ·rw [if_pos c10] at H
           have c10b0 : decide ((rd l1 x5_1) < (rd l0 x5_1)) = true := decide_eq_true c10
           clear c10
           obtain rfl := Option.some.inj H
           have p223 : 0 ≤ (x5_1 : Int) := of_decide_eq_true (by first | (with_reducible assumption) | assumption)
           have q223 : x5_1 < (l0.length : Int) := of_decide_eq_true (by first | (with_reducible assumption) | assumption)
           obtain ⟨ad223, e223, hx223_0⟩ := Kd.at_int HR0.out x5_1 p223 q223
           cases e223
           replace p223 := eq_true p223
           replace q223 := eq_true q223
           have p224 : 0 ≤ (x5_1 : Int) := of_decide_eq_true (by first | (with_reducible assumption) | assumption)
           have q224 : x5_1 < (l1.length : Int) := of_decide_eq_true (by first | (with_reducible assumption) | assumption)
           obtain ⟨ad224, e224, hx224_0⟩ := Kd.at_int HR1.out x5_1 p224 q224
           cases e224
           replace p224 := eq_true p224
           replace q224 := eq_true q224
           have p225 : 0 ≤ (x5_1 : Int) := of_decide_eq_true (by first | (with_reducible assumption) | assumption)
           have q225 : x5_1 < (l0.length : Int) := of_decide_eq_true (by first | (with_reducible assumption) | assumption)
           obtain ⟨ad225, e225, hx225_0⟩ := Kd.at_int HR0.out x5_1 p225 q225
           obtain rfl : ad223 = ad225 := (by injection e225)
           replace p225 := eq_true p225
           replace q225 := eq_true q225
           have p226 : 0 ≤ (x5_1 : Int) := of_decide_eq_true (by first | (with_reducible assumption) | assumption)
           have q226 : x5_1 < (l1.length : Int) := of_decide_eq_true (by first | (with_reducible assumption) | assumption)
           obtain ⟨ad226, e226, hx226_0⟩ := Kd.at_int HR1.out x5_1 p226 q226
           obtain rfl : ad224 = ad226 := (by injection e226)
           replace p226 := eq_true p226
           replace q226 := eq_true q226
           go_wp2
           repeat (go_quiet (fail); try go_wp2)
           go_ret
           exact ⟨by first | rfl | (simp; done) | (simp [*]; done), by repeat (first | exact Drawn0.refl _ | apply Drawn0.step)⟩
          ·rw [if_neg c10] at H
           have c10b0 : decide ((rd l1 x5_1) < (rd l0 x5_1)) = false := decide_eq_false c10
           clear c10
           have H' := am H
           clear H
           have p223 : 0 ≤ (x5_1 : Int) := of_decide_eq_true (by first | (with_reducible assumption) | assumption)
           have q223 : x5_1 < (l0.length : Int) := of_decide_eq_true (by first | (with_reducible assumption) | assumption)
           obtain ⟨ad223, e223, hx223_0⟩ := Kd.at_int HR0.out x5_1 p223 q223
           cases e223
           replace p223 := eq_true p223
           replace q223 := eq_true q223
           have p224 : 0 ≤ (x5_1 : Int) := of_decide_eq_true (by first | (with_reducible assumption) | assumption)
           have q224 : x5_1 < (l1.length : Int) := of_decide_eq_true (by first | (with_reducible assumption) | assumption)
           obtain ⟨ad224, e224, hx224_0⟩ := Kd.at_int HR1.out x5_1 p224 q224
           cases e224
           replace p224 := eq_true p224
           replace q224 := eq_true q224
           have p225 : 0 ≤ (x5_1 : Int) := of_decide_eq_true (by first | (with_reducible assumption) | assumption)
           have q225 : x5_1 < (l0.length : Int) := of_decide_eq_true (by first | (with_reducible assumption) | assumption)
           obtain ⟨ad225, e225, hx225_0⟩ := Kd.at_int HR0.out x5_1 p225 q225
           obtain rfl : ad223 = ad225 := (by injection e225)
           replace p225 := eq_true p225
           replace q225 := eq_true q225
           have p226 : 0 ≤ (x5_1 : Int) := of_decide_eq_true (by first | (with_reducible assumption) | assumption)
           have q226 : x5_1 < (l1.length : Int) := of_decide_eq_true (by first | (with_reducible assumption) | assumption)
           obtain ⟨ad226, e226, hx226_0⟩ := Kd.at_int HR1.out x5_1 p226 q226
           obtain rfl : ad224 = ad226 := (by injection e226)
           replace p226 := eq_true p226
           replace q226 := eq_true q226
           go_wp2
           repeat (go_quiet (fail); try go_wp2)
           go_roundg kj2
           case measure => have := HK1.out; have := HJ2.out; omega
           case rel => exact ⟨(wrap64 (x5_1 + 1)), (by first | rfl | (simp; done) | (simp [*]; done)), H', ⟨by have := HK1.out; have := HJ2.out; omega⟩, by repeat (first | exact Drawn0.refl _ | apply Drawn0.step)⟩
        ·rw [if_neg c8] at H
         exact absurd H (by simp)
       ·rw [if_neg c7] at H
        exact absurd H (by simp)
      ·rw [if_neg c6] at H
       exact absurd H (by simp)
     ·replace c5 := Bool.eq_false_iff.mpr c5
      subst c5
      have H1 : (if (l0.length : Int) < (l1.length : Int) then (some (-1)) else (if (l0.length : Int) > (l1.length : Int) then (some 1) else (some 0))) = some r := by rw [if_neg (show ¬ (false = true) by decide)] at H; exact H
      clear H
      have H := H1
      clear H1
      by_cases c11 : (l0.length : Int) < (l1.length : Int)
      ·rw [if_pos c11] at H
       have c11b0 : decide ((l0.length : Int) < (l1.length : Int)) = true := decide_eq_true c11
       have c11b1 : decide (l0.length < l1.length) = true := decide_eq_true (Int.ofNat_lt.mp c11)
       clear c11
       obtain rfl := Option.some.inj H
       go_wp2
       repeat (go_quiet (fail); try go_wp2)
       go_ret
       exact ⟨by first | rfl | (simp; done) | (simp [*]; done), by repeat (first | exact Drawn0.refl _ | apply Drawn0.step)⟩
      ·rw [if_neg c11] at H
       have c11b0 : decide ((l0.length : Int) < (l1.length : Int)) = false := decide_eq_false c11
       have c11b1 : decide (l0.length < l1.length) = false := decide_eq_false (fun h => c11 (Int.ofNat_lt.mpr h))
       clear c11
       by_cases c12 : (l0.length : Int) > (l1.length : Int)
       ·rw [if_pos c12] at H
        have c12b0 : decide ((l1.length : Int) < (l0.length : Int)) = true := decide_eq_true c12
        have c12b1 : decide (l1.length < l0.length) = true := decide_eq_true (Int.ofNat_lt.mp c12)
        clear c12
        obtain rfl := Option.some.inj H
        go_wp2
        repeat (go_quiet (fail); try go_wp2)
        go_ret
        exact ⟨by first | rfl | (simp; done) | (simp [*]; done), by repeat (first | exact Drawn0.refl _ | apply Drawn0.step)⟩
       ·rw [if_neg c12] at H
        have c12b0 : decide ((l1.length : Int) < (l0.length : Int)) = false := decide_eq_false c12
        have c12b1 : decide (l1.length < l0.length) = false := decide_eq_false (fun h => c12 (Int.ofNat_lt.mpr h))
        clear c12
        obtain rfl := Option.some.inj H
        go_wp2
        repeat (go_quiet (fail); try go_wp2)
        go_ret
        exact ⟨by first | rfl | (simp; done) | (simp [*]; done), by repeat (first | exact Drawn0.refl _ | apply Drawn0.step)⟩
end Go.Proofs.Ytndkimjmbpbcmaa.Q
namespace Go.Proofs.Ytndkimjmbpbcmaa.Q
open Go.RowKit Go.Proofs.YtndkimjmbpbcmaaW.PrintWords Go.Proofs.YtndkimjmbpbcmaaW.PrintLast Go.Proofs.YtndkimjmbpbcmaaW.PrintMore
set_option linter.unusedVariables false
set_option linter.unusedSimpArgs false
section
variable {P : Program} {ops : Array Oper} {Q : Exit → Act → World → Prop}
theorem gate_callee_v {rest : List Oper} {o : Oper} {a : Act} {W : World} {x : Operand} {as_ : Array Operand} {ts : Array TypeId} (_ho : o.op = .call { callee := .value x, args := as_, argTypes := ts }) (h : wpList P ops Q (o :: rest) a W) : wpList P ops Q (o :: rest) a W := h
theorem goesv_ {oi : Oper} {N : Option Tmp} {a : Act} {w : World} {K : Act → World → Prop} {f : FuncId} {fn : Func} {x : Operand} {as_ : Array Operand} {ts : Array TypeId} (hf : P.funcs[f]? = some fn) (hname : (fn.name == "runtime.NumGoroutine") = false) (hb : fn.body.isSome = true) (args : Array Value)
  (hw : Region.wanted oi (yielded ops a.tmps) = true) (hN : oi.dst = N) (hop : oi.op = .call { callee := .value x, args := as_, argTypes := ts }) (hargs : as_.map a.eval = args)
  (h : Calls P f args w fun e w' => ∃ v, e = .returned v ∧ K (a.put N v) w') (hx : a.eval x = .func (.func f) #[] #[] := by rfl) : if Region.wanted oi (yielded ops a.tmps) = true then Oper.wp P oi a w K Q else K (a.put N undef) w := by
 refine call_ f args hw hN ?_ h
 have he := enters_ hf hname hb args w
 unfold execOp
 simp [hop, resolve, Deferred.ofValue, invoke, hx, hargs, he]
theorem goesLv_ {rest : List Oper} {oi : Oper} {a : Act} {w : World} (N : Option Tmp) (hd : oi.dst = N) (hg : oi.guard = none) {f : FuncId} {fn : Func} {x : Operand} {as_ : Array Operand} {ts : Array TypeId} (hf : P.funcs[f]? = some fn) (hname : (fn.name == "runtime.NumGoroutine") = false) (hb : fn.body.isSome = true) (args : Array Value)
  (hop : oi.op = .call { callee := .value x, args := as_, argTypes := ts }) (hargs : as_.map a.eval = args)
  (h : Calls P f args w fun e w' => ∃ v, e = .returned v ∧ wpList P ops Q rest (a.put N v) w') (hx : a.eval x = .func (.func f) #[] #[] := by rfl) : wpList P ops Q (oi :: rest) a w := by
 refine wpList_plain hg fun K hK => ?_
 have he := enters_ hf hname hb args w
 have hrun : (execOp a.eval oi).run P w = .ok (.enter f args) w := by
  unfold execOp
  simp [hop, resolve, Deferred.ofValue, invoke, hx, hargs, he]
 unfold Oper.wp
 rw [hrun, Oper.upon_enter]
 refine h.mono fun e w'' hh => ?_
 obtain ⟨v, rfl, hk⟩ := hh
 subst hd
 exact hK _ _ hk
end
end Go.Proofs.Ytndkimjmbpbcmaa.Q
namespace Go.Proofs.Ytndkimjmbpbcmaa.Q
open Go.RowKit Go.Proofs.YtndkimjmbpbcmaaW.PrintWords Go.Proofs.YtndkimjmbpbcmaaW.PrintLast Go.Proofs.YtndkimjmbpbcmaaW.PrintMore
set_option linter.unusedVariables false
set_option linter.unusedSimpArgs false
theorem getD_set {l : Array Bool} {i j : Nat} {d : Bool} (hi : i < l.size) : (l.setIfInBounds i true).getD j d = if i = j then true else l.getD j d := by
 simp only [Array.getD_eq_getD_getElem?, Array.getElem?_setIfInBounds]
 by_cases h : i = j
 ·subst h; simp [hi]
 ·simp [h]
section
variable {P : Program} {md : Region.Mode} {ops : Array Oper} {Q : Exit → Act → World → Prop} {S : World → Prop} {ds : List Nat}
end
end Go.Proofs.Ytndkimjmbpbcmaa.Q
namespace Go.Proofs.Ytndkimjmbpbcmaa.Q
open Go.RowKit Go.Proofs.YtndkimjmbpbcmaaW.PrintWords Go.Proofs.YtndkimjmbpbcmaaW.PrintLast Go.Proofs.YtndkimjmbpbcmaaW.PrintMore
set_option linter.unusedVariables false
set_option linter.unusedSimpArgs false
def RowSt (w0 : World) (l : Array Bool) (w : World) (f : Nat → Nat) (q B A : Nat) (vb va : Value) (y : List Int) : Prop :=
 (l.getD B true = true → l.getD A true = false → Kd.R (Kd.int .i64) 3 w w0.heap.size (fun k => f k = q) vb []) ∧ (l.getD A true = true → Kd.R (Kd.int .i64) 3 w w0.heap.size (fun k => f k = q) va y)
theorem R_refun {e base q : Nat} {f f' : Nat → Nat} {w w1 : World} {v : Value} {y : List Int} (h : Kd.R (Kd.int .i64) e w base (fun k => f k = q) v y) (hh : ∀ k, f k = q → k < w.heap.size → w1.heap[k]? = w.heap[k]?) (hf : ∀ k, k < w.heap.size → f' k = f k) : Kd.R (Kd.int .i64) e w1 base (fun k => f' k = q) v y :=
 Kd.R_mono (Kd.R_step (Kd.R_bound h) (fun k hk hlt => hh k hk.1 hlt)) (fun k hk => (hf k hk.2.2.1).trans hk.1)
theorem RowSt.keep {w0 w w1 : World} {l : Array Bool} {f f' : Nat → Nat} {q B A i : Nat} {vb va : Value} {y : List Int} (h : RowSt w0 l w f q B A vb va y) (hi : i < l.size) (hB : i ≠ B) (hA : i ≠ A) (hh : ∀ k, f k = q → k < w.heap.size → w1.heap[k]? = w.heap[k]?) (hf : ∀ k, k < w.heap.size → f' k = f k) : RowSt w0 (l.setIfInBounds i true) w1 f' q B A vb va y := by
 unfold RowSt at h ⊢
 rw [getD_set hi, getD_set hi, if_neg hB, if_neg hA]
 exact ⟨fun h1 h2 => R_refun (h.1 h1 h2) hh hf, fun h1 => R_refun (h.2 h1) hh hf⟩
theorem RowSt.made {w0 w w1 : World} {l : Array Bool} {f' : Nat → Nat} {q B A : Nat} {vb va : Value} {y : List Int} (hi : B < l.size) (hBA : B ≠ A) (hA : l.getD A true = false) (h : Kd.R (Kd.int .i64) 3 w1 w0.heap.size (fun k => f' k = q) vb []) : RowSt w0 (l.setIfInBounds B true) w1 f' q B A vb va y := by
 unfold RowSt
 rw [getD_set hi, getD_set hi, if_neg hBA, if_pos rfl]
 exact ⟨fun _ _ => h, fun h1 => (by rw [hA] at h1; cases h1)⟩
def OrdC (l : Array Bool) : Prop := ∀ A B, (A = 3 ∧ B = 0) ∨ (A = 9 ∧ B = 6) ∨ (A = 13 ∧ B = 10) ∨ (A = 17 ∧ B = 14) ∨ (A = 19 ∧ B = 18) → l.getD A true = true → l.getD B true = true
theorem ordC_set {l : Array Bool} {i : Nat} (hi : i < l.size) (h : OrdC l) (hn : ∀ B, (i = 3 ∧ B = 0) ∨ (i = 9 ∧ B = 6) ∨ (i = 13 ∧ B = 10) ∨ (i = 17 ∧ B = 14) ∨ (i = 19 ∧ B = 18) → l.getD B true = true) : OrdC (l.setIfInBounds i true) := by
 intro A B hAB h1
 rw [getD_set hi] at h1 ⊢
 split
 ·rfl
 ·by_cases c : i = A
  ·subst c
   exact hn B hAB
  ·rw [if_neg c] at h1
   exact h A B hAB h1
structure CInv (w0 : World) (xb rb : Nat) (XC : Array Value) (y0 y1 y2 y3 : List Int) (n : Int) (l : Array Bool) (a : Act) (w : World) : Prop where
 sz : l.size = 20
 old : ∀ j, j = 1 ∨ j = 2 ∨ j = 4 ∨ j = 5 ∨ j = 7 ∨ j = 8 ∨ j = 11 ∨ j = 12 ∨ j = 15 ∨ j = 16 → l.getD j true = true
 ord : OrdC l
 tsz : a.tmps.size = 22
 dfr : a.defers = []
 bel : Below w0.heap.size w0 w
 bx : w.heap[xb]? = some (.cells XC 44 (0, 0))
 e2 : a.eval (.tmp 2) = .pointer (some ⟨rb, 0, none⟩)
 e8 : a.eval (.tmp 8) = .int .i64 n
 rows : ∃ A0 c0 A1 c1 A2 c2 A3 c3, a.eval (.tmp 5) = .slice A0 y0.length c0 ∧ a.eval (.tmp 11) = .slice A1 y1.length c1 ∧ a.eval (.tmp 15) = .slice A2 y2.length c2 ∧ a.eval (.tmp 19) = .slice A3 y3.length c3 ∧
  (Kd.int .i64).C w0 A0 y0.length y0 ∧ (Kd.int .i64).C w0 A1 y1.length y1 ∧ (Kd.int .i64).C w0 A2 y2.length y2 ∧ (Kd.int .i64).C w0 A3 y3.length y3
 made : l.getD 19 true = false → w.heap[rb]? = some (.cells #[.slice none 0 0, .int .i64 0, .slice none 0 0, .slice none 0 0, .slice none 0 0] 44 (0, 0)) ∧ w0.heap.size ≤ rb ∧ ∃ f : Nat → Nat,
  RowSt w0 l w f 0 0 3 (a.eval (.tmp 3)) (a.eval (.tmp 6)) y0 ∧ RowSt w0 l w f 1 6 9 (a.eval (.tmp 9)) (a.eval (.tmp 12)) y1 ∧ RowSt w0 l w f 2 10 13 (a.eval (.tmp 13)) (a.eval (.tmp 16)) y2 ∧ RowSt w0 l w f 3 14 17 (a.eval (.tmp 17)) (a.eval (.tmp 20)) y3
 told : l.getD 18 true = true → l.getD 3 true = true ∧ l.getD 9 true = true ∧ l.getD 13 true = true ∧ l.getD 17 true = true ∧ a.eval (.tmp 21) = .agg #[a.eval (.tmp 6), .int .i64 n, a.eval (.tmp 12), a.eval (.tmp 16), a.eval (.tmp 20)]
 fin : l.getD 19 true = true → ∃ v0 v1 v2 v3 : Value, ∃ f : Nat → Nat, w.heap[rb]? = some (.cells #[v0, .int .i64 n, v1, v2, v3] 44 (0, 0)) ∧ Kd.R (Kd.int .i64) 3 w w0.heap.size (fun k => f k = 0) v0 y0 ∧ Kd.R (Kd.int .i64) 3 w w0.heap.size (fun k => f k = 1) v1 y1 ∧ Kd.R (Kd.int .i64) 3 w w0.heap.size (fun k => f k = 2) v2 y2 ∧ Kd.R (Kd.int .i64) 3 w w0.heap.size (fun k => f k = 3) v3 y3
theorem old_set {l : Array Bool} {i j : Nat} (hi : i < l.size) (h : l.getD j true = true) : (l.setIfInBounds i true).getD j true = true := by
 rw [getD_set hi]
 split
 ·rfl
 ·exact h
section
variable {w0 : World} {xb rb : Nat} {XC : Array Value} {y0 y1 y2 y3 : List Int} {n : Int} {l : Array Bool} {a : Act} {w : World} {K : Act → World → Prop} {Q : Exit → Act → World → Prop}
theorem CInv.store (h : CInv w0 xb rb XC y0 y1 y2 y3 n l a w) (hl : l.getD 19 true = false) (hr : w.heap[rb]? = some (.cells #[.slice none 0 0, .int .i64 0, .slice none 0 0, .slice none 0 0, .slice none 0 0] 44 (0, 0))) (hrb : w0.heap.size ≤ rb) (h18 : l.getD 18 true = true) {f : Nat → Nat} {v0 v1 v2 v3 : Value}
  (r0 : Kd.R (Kd.int .i64) 3 w w0.heap.size (fun k => f k = 0) v0 y0) (r1 : Kd.R (Kd.int .i64) 3 w w0.heap.size (fun k => f k = 1) v1 y1) (r2 : Kd.R (Kd.int .i64) 3 w w0.heap.size (fun k => f k = 2) v2 y2) (r3 : Kd.R (Kd.int .i64) 3 w w0.heap.size (fun k => f k = 3) v3 y3) (hne : xb ≠ rb) :
  CInv w0 xb rb XC y0 y1 y2 y3 n (l.setIfInBounds 19 true) (a.put none undef) (w.setCells rb 0 [v0, .int .i64 n, v1, v2, v3]) := by
 have hi : 19 < l.size := by rw [h.sz]; omega
 have hg : ∀ j : Nat, (19 : Nat) ≠ j → (l.setIfInBounds 19 true).getD j true = l.getD j true := fun j hj => by rw [getD_set hi, if_neg hj]
 have hs : (l.setIfInBounds 19 true).getD 19 true = true := by rw [getD_set hi, if_pos rfl]
 obtain ⟨cur, c1, c2, c3⟩ := setCells_row [v0, .int .i64 n, v1, v2, v3] 0 w _ hr (by simp)
 obtain ⟨s1, s2, s3, s4⟩ := setCells_same rb [v0, .int .i64 n, v1, v2, v3] 0 w
 have hfar : ∀ k, k ≠ rb → (w.setCells rb 0 [v0, .int .i64 n, v1, v2, v3]).heap[k]? = w.heap[k]? := fun k hk => setCells_far _ _ k hk
 have hcur : cur = #[v0, .int .i64 n, v1, v2, v3] := by
  apply Array.toList_inj.mp
  rw [c3]
  simp
 have hR : ∀ {q : Nat} {v : Value} {y : List Int}, Kd.R (Kd.int .i64) 3 w w0.heap.size (fun k => f k = q) v y → Kd.R (Kd.int .i64) 3 (w.setCells rb 0 [v0, .int .i64 n, v1, v2, v3]) w0.heap.size (fun k => f k = q) v y := fun hv =>
  Kd.R_mono (Kd.R_step (Kd.R_types hv hr (by decide)) (fun k hk _ => hfar k hk.2)) (fun k hk => hk.1)
 refine ⟨by rw [Array.size_setIfInBounds]; exact h.sz, fun j hj => old_set hi (h.old j hj), ordC_set hi h.ord (fun B hB => by rw [show B = 18 by omega]; exact h18), h.tsz, h.dfr, h.bel.trans ⟨s1, s2, s3, by rw [s4]; exact Nat.le_refl _, fun k hk => hfar k (by omega)⟩, (hfar xb hne).trans h.bx, h.e2, h.e8, h.rows, fun h2 => (by rw [hs] at h2; cases h2), fun _ => ?_, fun _ => ?_⟩
 ·obtain ⟨a3, a9, a13, a17, e⟩ := h.told h18
  exact ⟨(hg 3 (by omega)).trans a3, (hg 9 (by omega)).trans a9, (hg 13 (by omega)).trans a13, (hg 17 (by omega)).trans a17, e⟩
 ·exact ⟨v0, v1, v2, v3, f, by rw [c1, hcur], hR r0, hR r1, hR r2, hR r3⟩
end
end Go.Proofs.Ytndkimjmbpbcmaa.Q
namespace Go.Proofs.Ytndkimjmbpbcmaa.Q
open Go.RowKit Go.Proofs.YtndkimjmbpbcmaaW.PrintWords Go.Proofs.YtndkimjmbpbcmaaW.PrintLast Go.Proofs.YtndkimjmbpbcmaaW.PrintMore
attribute [local go_sem] max2_int min2_int max_two min_two max_three min_three max_four min_four
set_option linter.unusedVariables false
set_option linter.unusedSimpArgs false
def hypercuberef5_Sorted.l0 : Nat → List (S44) → Int → Option (Bool)
 | 0, _, _ => none
 | k + 1, x0, x3 => if x3 < (x0.length : Int) then (if 0 ≤ (wrap64 (x3 - 1)) then (if (wrap64 (x3 - 1)) < (x0.length : Int) then (if 0 ≤ x3 then ((hypercuberef2_Less.f k ((rd_T44 x0 (wrap64 (x3 - 1))).f0) ((rd_T44 x0 x3).f0)).bind fun t506 => (if t506 ≥ 0 then (some false) else (hypercuberef5_Sorted.l0 k x0 (wrap64 (x3 + 1))))) else (none)) else (none)) else (none)) else (some true)
def hypercuberef5_Sorted.f (k : Nat) (l0 : List (S44)) : Option (Bool) := hypercuberef5_Sorted.l0 k l0 1
set_option maxHeartbeats 8000000 in
set_option maxRecDepth 100000 in
theorem hypercuberef5_Sorted.calls (k : Nat) (A0 : Option Addr) (c0 : Nat) (l0 : List (S44)) (r : Bool) (w : World) (hr0 : Kd.C k44 w A0 l0.length l0) (hc0 : l0.length ≤ c0) (h : hypercuberef5_Sorted.f k l0 = some r) :
  Calls Try.prog 25 #[.slice A0 l0.length c0] w fun e w' => e = .returned (.bool r) ∧ Drawn0 w w' := by
 have HR0 := am hr0
 have HC0 := am hc0
 clear hr0 hc0
 have H : (hypercuberef5_Sorted.l0 k l0 1) = some r := h
 clear h
 have H' := am H
 clear H
 go_enter Try.func25, Try.ntmps25
 go_wp2
 repeat (go_quiet (fail); try go_wp2)
 go_loopg [3] k (fun kq v3 w' => ∃ (x3_1 : Int), v3 = .int .i64 x3_1 ∧ Aside0 (hypercuberef5_Sorted.l0 kq l0 x3_1 = some r) ∧ Aside0 (kq ≤ k) ∧ Drawn0 w w')
 case atStart => exact ⟨(1), (by first | rfl | (simp; done) | (simp [*]; done)), H', ⟨Nat.le_refl _⟩, by repeat (first | exact Drawn0.refl _ | apply Drawn0.step)⟩
 case round =>
  clear H'
  obtain ⟨x3_1, rfl, HA, HK1, ⟨m1, rfl⟩⟩ := hrel
  cases gk with
  | zero => exact absurd HA.out (by simp [hypercuberef5_Sorted.l0])
  | succ k1 =>
   have H := HA.out
   clear HA
   simp only [hypercuberef5_Sorted.l0] at H
   by_cases c2 : x3_1 < (l0.length : Int)
   ·rw [if_pos c2] at H
    have c2b0 : decide (x3_1 < (l0.length : Int)) = true := decide_eq_true c2
    clear c2
    obtain ⟨ji3, hji3⟩ : ∃ j_ : Int, (wrap64 (x3_1 - 1)) = j_ := ⟨_, rfl⟩
    replace H : (if 0 ≤ (ji3) then (if (ji3) < (l0.length : Int) then (if 0 ≤ x3_1 then ((hypercuberef2_Less.f k1 ((rd_T44 l0 (ji3)).f0) ((rd_T44 l0 x3_1).f0)).bind fun t506 => (if t506 ≥ 0 then (some false) else (hypercuberef5_Sorted.l0 k1 l0 (wrap64 (x3_1 + 1))))) else (none)) else (none)) else (none)) = some r := by first | (rw [hji3] at H; exact H) | (simp only [hji3] at H ⊢; exact H)
    have hji3w : (IntKind.i64.wrap (x3_1 - 1)) = ji3 := (i64_w _).trans hji3
    by_cases c4 : 0 ≤ (ji3)
    ·rw [if_pos c4] at H
     have c4b0 : decide (0 ≤ (ji3)) = true := decide_eq_true c4
     clear c4
     by_cases c5 : (ji3) < (l0.length : Int)
     ·rw [if_pos c5] at H
      have c5b0 : decide ((ji3) < (l0.length : Int)) = true := decide_eq_true c5
      clear c5
      by_cases c6 : 0 ≤ x3_1
      ·rw [if_pos c6] at H
       have c6b0 : decide (0 ≤ x3_1) = true := decide_eq_true c6
       clear c6
       replace H := Option.bind_eq_some_iff.mp H
       obtain ⟨t506, A70, H⟩ := H
       replace H : (if t506 ≥ 0 then (some false) else (hypercuberef5_Sorted.l0 k1 l0 (wrap64 (x3_1 + 1)))) = some r := H
       have A7 := am A70
       clear A70
       by_cases c8 : t506 ≥ 0
       ·rw [if_pos c8] at H
        have c8b0 : decide (0 ≤ t506) = true := decide_eq_true c8
        clear c8
        obtain rfl := Option.some.inj H
        have p504 : 0 ≤ ((ji3) : Int) := of_decide_eq_true (by first | (with_reducible assumption) | assumption)
        have q504 : (ji3) < (l0.length : Int) := of_decide_eq_true (by first | (with_reducible assumption) | assumption)
        obtain ⟨ad504, A504_0, c504_0, A504_2, c504_2, A504_3, c504_3, A504_4, c504_4, e504, hx504_0, hx504_1, hx504_2, hx504_3, hx504_4, hl504_0, hi504_0, hl504_2, hi504_2, hl504_3, hi504_3, hl504_4, hi504_4⟩ := at_T44 HR0.out (ji3) p504 q504
        cases e504
        have HR504_0 := am hi504_0
        have HC504_0 := am hl504_0
        clear hi504_0 hl504_0
        have HR504_2 := am hi504_2
        have HC504_2 := am hl504_2
        clear hi504_2 hl504_2
        have HR504_3 := am hi504_3
        have HC504_3 := am hl504_3
        clear hi504_3 hl504_3
        have HR504_4 := am hi504_4
        have HC504_4 := am hl504_4
        clear hi504_4 hl504_4
        replace p504 := eq_true p504
        replace q504 := eq_true q504
        have p505 : 0 ≤ (x3_1 : Int) := of_decide_eq_true (by first | (with_reducible assumption) | assumption)
        have q505 : x3_1 < (l0.length : Int) := of_decide_eq_true (by first | (with_reducible assumption) | assumption)
        obtain ⟨ad505, A505_0, c505_0, A505_2, c505_2, A505_3, c505_3, A505_4, c505_4, e505, hx505_0, hx505_1, hx505_2, hx505_3, hx505_4, hl505_0, hi505_0, hl505_2, hi505_2, hl505_3, hi505_3, hl505_4, hi505_4⟩ := at_T44 HR0.out x3_1 p505 q505
        obtain rfl : ad504 = ad505 := (by injection e505)
        have HR505_0 := am hi505_0
        have HC505_0 := am hl505_0
        clear hi505_0 hl505_0
        have HR505_2 := am hi505_2
        have HC505_2 := am hl505_2
        clear hi505_2 hl505_2
        have HR505_3 := am hi505_3
        have HC505_3 := am hl505_3
        clear hi505_3 hl505_3
        have HR505_4 := am hi505_4
        have HC505_4 := am hl505_4
        clear hi505_4 hl505_4
        replace p505 := eq_true p505
        replace q505 := eq_true q505
        go_wp2_with (first | (go_at_call 41; (with_reducible refine (hypercuberef2_Less.calls k1 _ _ ((rd_T44 l0 (ji3)).f0) _ _ ((rd_T44 l0 x3_1).f0) t506 _ ?side1 ?side2 ?side3 ?side4 A7.out).mono ?_); (case side1 => exact Kd.C_mv HR504_0.out); (case side2 => exact HC504_0.out); (case side3 => exact Kd.C_mv HR505_0.out); (case side4 => exact HC505_0.out); rintro e w' ⟨rfl, ⟨nd, rfl⟩⟩; (try first | exact ⟨rfl, _, World.drewN_drewN _ _ _⟩ | exact ⟨rfl, _, Eq.trans (World.drewN_drewN _ _ _) (congrArg (World.drewN _) (Nat.add_assoc _ _ _))⟩)))
        repeat (go_quiet (first | (go_at_call 41; (with_reducible refine (hypercuberef2_Less.calls k1 _ _ ((rd_T44 l0 (ji3)).f0) _ _ ((rd_T44 l0 x3_1).f0) t506 _ ?side1 ?side2 ?side3 ?side4 A7.out).mono ?_); (case side1 => exact Kd.C_mv HR504_0.out); (case side2 => exact HC504_0.out); (case side3 => exact Kd.C_mv HR505_0.out); (case side4 => exact HC505_0.out); rintro e w' ⟨rfl, ⟨nd, rfl⟩⟩; (try first | exact ⟨rfl, _, World.drewN_drewN _ _ _⟩ | exact ⟨rfl, _, Eq.trans (World.drewN_drewN _ _ _) (congrArg (World.drewN _) (Nat.add_assoc _ _ _))⟩))); try go_wp2_with (first | (go_at_call 41; (with_reducible refine (hypercuberef2_Less.calls k1 _ _ ((rd_T44 l0 (ji3)).f0) _ _ ((rd_T44 l0 x3_1).f0) t506 _ ?side1 ?side2 ?side3 ?side4 A7.out).mono ?_); (case side1 => exact Kd.C_mv HR504_0.out); (case side2 => exact HC504_0.out); (case side3 => exact Kd.C_mv HR505_0.out); (case side4 => exact HC505_0.out); rintro e w' ⟨rfl, ⟨nd, rfl⟩⟩; (try first | exact ⟨rfl, _, World.drewN_drewN _ _ _⟩ | exact ⟨rfl, _, Eq.trans (World.drewN_drewN _ _ _) (congrArg (World.drewN _) (Nat.add_assoc _ _ _))⟩))))
        go_ret
        exact ⟨by first | rfl | (simp; done) | (simp only [← hji3] <;> (first | rfl | simp)) | (simp [*]; done), by repeat (first | exact Drawn0.refl _ | apply Drawn0.step)⟩
       ·rw [if_neg c8] at H
        have c8b0 : decide (0 ≤ t506) = false := decide_eq_false c8
        clear c8
        have H' := am H
        clear H
        have p504 : 0 ≤ ((ji3) : Int) := of_decide_eq_true (by first | (with_reducible assumption) | assumption)
        have q504 : (ji3) < (l0.length : Int) := of_decide_eq_true (by first | (with_reducible assumption) | assumption)
        obtain ⟨ad504, A504_0, c504_0, A504_2, c504_2, A504_3, c504_3, A504_4, c504_4, e504, hx504_0, hx504_1, hx504_2, hx504_3, hx504_4, hl504_0, hi504_0, hl504_2, hi504_2, hl504_3, hi504_3, hl504_4, hi504_4⟩ := at_T44 HR0.out (ji3) p504 q504
        cases e504
        have HR504_0 := am hi504_0
        have HC504_0 := am hl504_0
        clear hi504_0 hl504_0
        have HR504_2 := am hi504_2
        have HC504_2 := am hl504_2
        clear hi504_2 hl504_2
        have HR504_3 := am hi504_3
        have HC504_3 := am hl504_3
        clear hi504_3 hl504_3
        have HR504_4 := am hi504_4
        have HC504_4 := am hl504_4
        clear hi504_4 hl504_4
        replace p504 := eq_true p504
        replace q504 := eq_true q504
        have p505 : 0 ≤ (x3_1 : Int) := of_decide_eq_true (by first | (with_reducible assumption) | assumption)
        have q505 : x3_1 < (l0.length : Int) := of_decide_eq_true (by first | (with_reducible assumption) | assumption)
        obtain ⟨ad505, A505_0, c505_0, A505_2, c505_2, A505_3, c505_3, A505_4, c505_4, e505, hx505_0, hx505_1, hx505_2, hx505_3, hx505_4, hl505_0, hi505_0, hl505_2, hi505_2, hl505_3, hi505_3, hl505_4, hi505_4⟩ := at_T44 HR0.out x3_1 p505 q505
        obtain rfl : ad504 = ad505 := (by injection e505)
        have HR505_0 := am hi505_0
        have HC505_0 := am hl505_0
        clear hi505_0 hl505_0
        have HR505_2 := am hi505_2
        have HC505_2 := am hl505_2
        clear hi505_2 hl505_2
        have HR505_3 := am hi505_3
        have HC505_3 := am hl505_3
        clear hi505_3 hl505_3
        have HR505_4 := am hi505_4
        have HC505_4 := am hl505_4
        clear hi505_4 hl505_4
        replace p505 := eq_true p505
        replace q505 := eq_true q505
        go_wp2_with (first | (go_at_call 41; (with_reducible refine (hypercuberef2_Less.calls k1 _ _ ((rd_T44 l0 (ji3)).f0) _ _ ((rd_T44 l0 x3_1).f0) t506 _ ?side1 ?side2 ?side3 ?side4 A7.out).mono ?_); (case side1 => exact Kd.C_mv HR504_0.out); (case side2 => exact HC504_0.out); (case side3 => exact Kd.C_mv HR505_0.out); (case side4 => exact HC505_0.out); rintro e w' ⟨rfl, ⟨nd, rfl⟩⟩; (try first | exact ⟨rfl, _, World.drewN_drewN _ _ _⟩ | exact ⟨rfl, _, Eq.trans (World.drewN_drewN _ _ _) (congrArg (World.drewN _) (Nat.add_assoc _ _ _))⟩)))
        repeat (go_quiet (first | (go_at_call 41; (with_reducible refine (hypercuberef2_Less.calls k1 _ _ ((rd_T44 l0 (ji3)).f0) _ _ ((rd_T44 l0 x3_1).f0) t506 _ ?side1 ?side2 ?side3 ?side4 A7.out).mono ?_); (case side1 => exact Kd.C_mv HR504_0.out); (case side2 => exact HC504_0.out); (case side3 => exact Kd.C_mv HR505_0.out); (case side4 => exact HC505_0.out); rintro e w' ⟨rfl, ⟨nd, rfl⟩⟩; (try first | exact ⟨rfl, _, World.drewN_drewN _ _ _⟩ | exact ⟨rfl, _, Eq.trans (World.drewN_drewN _ _ _) (congrArg (World.drewN _) (Nat.add_assoc _ _ _))⟩))); try go_wp2_with (first | (go_at_call 41; (with_reducible refine (hypercuberef2_Less.calls k1 _ _ ((rd_T44 l0 (ji3)).f0) _ _ ((rd_T44 l0 x3_1).f0) t506 _ ?side1 ?side2 ?side3 ?side4 A7.out).mono ?_); (case side1 => exact Kd.C_mv HR504_0.out); (case side2 => exact HC504_0.out); (case side3 => exact Kd.C_mv HR505_0.out); (case side4 => exact HC505_0.out); rintro e w' ⟨rfl, ⟨nd, rfl⟩⟩; (try first | exact ⟨rfl, _, World.drewN_drewN _ _ _⟩ | exact ⟨rfl, _, Eq.trans (World.drewN_drewN _ _ _) (congrArg (World.drewN _) (Nat.add_assoc _ _ _))⟩))))
        go_roundg k1
        case measure => have := HK1.out; omega
        case rel => exact ⟨(wrap64 (x3_1 + 1)), (by first | rfl | (simp; done) | (simp [*]; done)), H', ⟨by have := HK1.out; omega⟩, by repeat (first | exact Drawn0.refl _ | apply Drawn0.step)⟩
      ·rw [if_neg c6] at H
       exact absurd H (by simp)
     ·rw [if_neg c5] at H
      exact absurd H (by simp)
    ·rw [if_neg c4] at H
     exact absurd H (by simp)
   ·rw [if_neg c2] at H
    have c2b0 : decide (x3_1 < (l0.length : Int)) = false := decide_eq_false c2
    clear c2
    obtain rfl := Option.some.inj H
    go_wp2
    repeat (go_quiet (fail); try go_wp2)
    go_ret
    exact ⟨by first | rfl | (simp; done) | (simp [*]; done), by repeat (first | exact Drawn0.refl _ | apply Drawn0.step)⟩
end Go.Proofs.Ytndkimjmbpbcmaa.Q
namespace Go.Proofs.Ytndkimjmbpbcmaa.Q
open Go.RowKit Go.Proofs.YtndkimjmbpbcmaaW.PrintWords Go.Proofs.YtndkimjmbpbcmaaW.PrintLast Go.Proofs.YtndkimjmbpbcmaaW.PrintMore
set_option linter.unusedVariables false
set_option linter.unusedSimpArgs false
theorem w64 {x : Int} (h0 : -9223372036854775808 ≤ x) (h1 : x ≤ 9223372036854775807) : wrap64 x = x := by unfold wrap64; omega
theorem w64s {i n : Nat} (h : i < n) (hn : n ≤ 4611686018427387904) : wrap64 ((i : Int) + 1) = ((i + 1 : Nat) : Int) := by unfold wrap64; omega
theorem within2_eq (a n : Int) (h0 : 0 < n) (h1 : n ≤ 4611686018427387904) : hypercubelaw2_within.f a n = some (a % n) := by
 unfold hypercubelaw2_within.f
 rw [if_neg (by omega)]
 have hb := Int.emod_nonneg a (show n ≠ 0 by omega)
 have hl := Int.emod_lt_of_pos a h0
 by_cases ha : 0 ≤ a
 ·rw [Int.tmod_eq_emod_of_nonneg ha, if_neg (by omega)]
 ·have ht : Int.tmod a n = if a % n = 0 then 0 else a % n - n := by
   rw [Int.tmod_eq_emod]
   split
   ·rename_i h
    rcases h with h | h
    ·omega
    ·rw [Int.emod_eq_zero_of_dvd h]; simp
   ·rename_i h
    have : a % n ≠ 0 := fun e => h (.inr (Int.dvd_of_emod_eq_zero e))
    rw [if_neg this, Int.natAbs_of_nonneg (by omega)]
  by_cases hz : a % n = 0
  ·rw [ht, if_pos hz, if_neg (by omega), hz]
  ·rw [ht, if_neg hz, if_pos (by omega)]
   congr 1
   rw [w64 (by omega) (by omega)]
   omega
theorem rd_get {l : List Int} {i : Nat} (h : i < l.length) : rd l (i : Int) = l[i] := by simp [rd, List.getD_eq_getElem?_getD, h]
theorem drop_cons {α : Type} {l : List α} {i : Nat} (h : i < l.length) : l.drop i = l[i] :: l.drop (i + 1) := List.drop_eq_getElem_cons h
def lexC : List Int → List Int → Int
 | [], [] => 0
 | [], _ :: _ => -1
 | _ :: _, [] => 1
 | x :: xs, y :: ys => if x < y then -1 else if x > y then 1 else lexC xs ys
theorem lexC_nil_right (a : List Int) (h : a ≠ []) : lexC a [] = 1 := by cases a with
 | nil => exact absurd rfl h
 | cons => rfl
theorem lexC_nil_left (a : List Int) (h : a ≠ []) : lexC [] a = -1 := by cases a with
 | nil => exact absurd rfl h
 | cons => rfl
theorem lexC_swap : ∀ a b : List Int, lexC b a = 0 - lexC a b
 | [], [] => rfl
 | [], _ :: _ => rfl
 | _ :: _, [] => rfl
 | x :: xs, y :: ys => by
  have ih := lexC_swap xs ys
  unfold lexC
  repeat' split
  all_goals omega
theorem lexC_zero : ∀ a b : List Int, lexC a b = 0 ↔ a = b
 | [], [] => by simp [lexC]
 | [], _ :: _ => by simp [lexC]
 | _ :: _, [] => by simp [lexC]
 | x :: xs, y :: ys => by
  unfold lexC
  by_cases h1 : x < y
  ·rw [if_pos h1]; simp; omega
  ·by_cases h2 : x > y
   ·rw [if_neg h1, if_pos h2]; simp; omega
   ·rw [if_neg h1, if_neg h2]
    have : x = y := by omega
    subst this
    simp [lexC_zero xs ys]
theorem lexC_self (a : List Int) : lexC a a = 0 := (lexC_zero a a).2 rfl
theorem lexC_trans : ∀ a b c : List Int, lexC a b ≤ 0 → lexC b c ≤ 0 → lexC a c ≤ 0
 | [], _, [] => by simp [lexC]
 | [], _, _ :: _ => by simp [lexC]
 | _ :: _, [], _ => by simp [lexC]
 | _ :: _, _ :: _, [] => by simp [lexC]
 | x :: xs, y :: ys, z :: zs => by
  intro h1 h2
  unfold lexC at h1 h2 ⊢
  have ih := lexC_trans xs ys zs
  by_cases a1 : x < y
  ·by_cases a2 : y < z
   ·rw [if_pos (by omega)]; omega
   ·rw [if_neg a2] at h2
    by_cases a3 : y > z
    ·rw [if_pos a3] at h2; omega
    ·rw [if_pos (by omega)]; omega
  ·rw [if_neg a1] at h1
   by_cases a3 : x > y
   ·rw [if_pos a3] at h1; omega
   ·rw [if_neg a3] at h1
    by_cases a2 : y < z
    ·rw [if_pos (by omega)]; omega
    ·rw [if_neg a2] at h2
     by_cases a4 : y > z
     ·rw [if_pos a4] at h2; omega
     ·rw [if_neg a4] at h2
      rw [if_neg (by omega), if_neg (by omega)]
      exact ih h1 h2
theorem compare_eq (x y : Int) : cmp_Compare_int.f x y = some (if x < y then -1 else if x > y then 1 else 0) := by
 unfold cmp_Compare_int.f cmp_isNaN_int.f
 simp
 by_cases h1 : x < y
 ·simp [h1]
 ·by_cases h2 : y < x
  ·simp [h1, h2]
  ·simp [h1, h2]
theorem less_l0 (a b : List Int) (hn : a.length ≤ 4611686018427387904) (d : Nat) : ∀ i : Nat, a.length - i = d → i ≤ a.length → (i ≤ b.length) →
  Ev (fun k => slices_Compare_int_int.l0 k a b a (a.length : Int) (i : Int)) (lexC (a.drop i) (b.drop i)) := by
 induction d with
 | zero =>
  intro i hd hi hib
  have e1 : a.drop i = [] := List.drop_eq_nil_of_le (by omega)
  rw [e1]
  by_cases hb : i < b.length
  ·rw [lexC_nil_left _ (by rw [drop_cons hb]; exact List.cons_ne_nil _ _)]
   exact Ev.step (fun k => by simp only [slices_Compare_int_int.l0]; rw [if_neg (by omega), if_pos (by omega)]) (Ev.now _)
  ·have e2 : b.drop i = [] := List.drop_eq_nil_of_le (by omega)
   rw [e2]
   exact Ev.step (fun k => by simp only [slices_Compare_int_int.l0]; rw [if_neg (by omega), if_neg (by omega)]; rfl) (Ev.now _)
 | succ d ih =>
  intro i hd hi hib
  have ha : i < a.length := by omega
  by_cases hb : i < b.length
  ·rw [drop_cons ha, drop_cons hb]
   have h1 : ∀ k, slices_Compare_int_int.l0 (k + 1) a b a (a.length : Int) (i : Int) = (if (if a[i] < b[i] then (-1 : Int) else if a[i] > b[i] then 1 else 0) = 0 then slices_Compare_int_int.l0 k a b a (a.length : Int) ((i + 1 : Nat) : Int) else some (if a[i] < b[i] then (-1 : Int) else if a[i] > b[i] then 1 else 0)) := fun k => by
    simp only [slices_Compare_int_int.l0]
    rw [if_pos (by omega), if_pos (by omega), if_pos (by omega), if_neg (by omega), if_pos (by omega), rd_get ha, rd_get hb, compare_eq, Option.bind_some, w64s ha hn]
   unfold lexC
   by_cases c1 : a[i] < b[i]
   ·rw [if_pos c1]
    exact Ev.step (fun k => by rw [h1, if_pos c1, if_neg (by omega)]) (Ev.now _)
   ·by_cases c2 : a[i] > b[i]
    ·rw [if_neg c1, if_pos c2]
     exact Ev.step (fun k => by rw [h1, if_neg c1, if_pos c2, if_neg (by omega)]) (Ev.now _)
    ·rw [if_neg c1, if_neg c2]
     exact Ev.step (fun k => by rw [h1, if_neg c1, if_neg c2, if_pos rfl]) (ih (i + 1) (by omega) (by omega) (by omega))
  ·have e2 : b.drop i = [] := List.drop_eq_nil_of_le (by omega)
   rw [e2, lexC_nil_right _ (by rw [drop_cons ha]; exact List.cons_ne_nil _ _)]
   exact Ev.step (fun k => by simp only [slices_Compare_int_int.l0]; rw [if_pos (by omega), if_pos (by omega), if_pos (by omega), if_pos (by omega)]) (Ev.now _)
theorem cell_less_ev (a b : List Int) (hn : a.length ≤ 4611686018427387904) : Ev (fun k => cell_Less.f k a b) (lexC a b) := by
 have h := less_l0 a b hn a.length 0 (by omega) (by omega) (by omega)
 simp only [List.drop_zero] at h
 have h2 : Ev (fun k => slices_Compare_int_int.f k a b) (lexC a b) := Ev.congr (fun k => by unfold slices_Compare_int_int.f; rfl) h
 exact Ev.congr (fun k => by unfold cell_Less.f; rfl) (Ev.bind h2 (Ev.now _))
theorem ref_less_l0 (a b : List Int) (hn : a.length ≤ 4611686018427387904) (d : Nat) : ∀ i : Nat, a.length - i = d → i ≤ a.length → i ≤ b.length →
  Ev (fun k => hypercuberef2_Less.l0 k a b (i : Int)) (lexC (a.drop i) (b.drop i)) := by
 have hend : ∀ i : Nat, i ≤ a.length → i ≤ b.length → ¬ (i < a.length ∧ i < b.length) → Ev (fun k => hypercuberef2_Less.j1 k a b (i : Int) false) (lexC (a.drop i) (b.drop i)) := by
  intro i hi hib hno
  by_cases ha : i < a.length
  ·have hb : b.drop i = [] := List.drop_eq_nil_of_le (by omega)
   rw [hb, lexC_nil_right _ (by rw [drop_cons ha]; exact List.cons_ne_nil _ _)]
   exact Ev.step (fun k => by simp only [hypercuberef2_Less.j1]; rw [if_neg (by simp), if_neg (by omega), if_pos (by omega)]) (Ev.now _)
  ·have ha' : a.drop i = [] := List.drop_eq_nil_of_le (by omega)
   rw [ha']
   by_cases hb : i < b.length
   ·rw [lexC_nil_left _ (by rw [drop_cons hb]; exact List.cons_ne_nil _ _)]
    exact Ev.step (fun k => by simp only [hypercuberef2_Less.j1]; rw [if_neg (by simp), if_pos (by omega)]) (Ev.now _)
   ·have hb' : b.drop i = [] := List.drop_eq_nil_of_le (by omega)
    rw [hb']
    exact Ev.step (fun k => by simp only [hypercuberef2_Less.j1]; rw [if_neg (by simp), if_neg (by omega), if_neg (by omega)]; rfl) (Ev.now _)
 induction d with
 | zero =>
  intro i hd hi hib
  exact Ev.step (fun k => by simp only [hypercuberef2_Less.l0]; rw [if_neg (by omega)]) (hend i hi hib (by omega))
 | succ d ih =>
  intro i hd hi hib
  have ha : i < a.length := by omega
  by_cases hb : i < b.length
  ·rw [drop_cons ha, drop_cons hb]
   refine Ev.step (f := fun k => hypercuberef2_Less.j1 k a b (i : Int) true) (fun k => by simp only [hypercuberef2_Less.l0]; rw [if_pos (by omega), show decide ((i : Int) < (b.length : Int)) = true from decide_eq_true (by omega)]) ?_
   have h1 : ∀ k, hypercuberef2_Less.j1 (k + 1) a b (i : Int) true = (if a[i] < b[i] then some (-1) else if a[i] > b[i] then some 1 else hypercuberef2_Less.l0 k a b ((i + 1 : Nat) : Int)) := fun k => by
    simp only [hypercuberef2_Less.j1]
    rw [if_pos trivial, if_pos (by omega), if_pos (by omega), if_pos (by omega), rd_get ha, rd_get hb, w64s ha hn]
   unfold lexC
   by_cases c1 : a[i] < b[i]
   ·rw [if_pos c1]
    exact Ev.step (fun k => by rw [h1, if_pos c1]) (Ev.now _)
   ·by_cases c2 : a[i] > b[i]
    ·rw [if_neg c1, if_pos c2]
     exact Ev.step (fun k => by rw [h1, if_neg c1, if_pos c2]) (Ev.now _)
    ·rw [if_neg c1, if_neg c2]
     exact Ev.step (fun k => by rw [h1, if_neg c1, if_neg c2]) (ih (i + 1) (by omega) (by omega) (by omega))
  ·exact Ev.step (fun k => by simp only [hypercuberef2_Less.l0]; rw [if_pos (by omega), show decide ((i : Int) < (b.length : Int)) = false from decide_eq_false (by omega)]) (hend i hi hib (by omega))
theorem ref_less_ev (a b : List Int) (hn : a.length ≤ 4611686018427387904) : Ev (fun k => hypercuberef2_Less.f k a b) (lexC a b) := by
 have h := ref_less_l0 a b hn a.length 0 (by omega) (by omega) (by omega)
 simp only [List.drop_zero] at h
 exact Ev.congr (fun k => by unfold hypercuberef2_Less.f; rfl) h
end Go.Proofs.Ytndkimjmbpbcmaa.Q
