-- packed by wip/tools/pack.py (a program of this session) out of its own texts
import Derived.Test.YtmkjkkmilopcpaaPCellBack0
import Derived.ArgAppend
import Derived.Below
import Derived.BigQuiet
import Derived.Deep.AppendLies
import Derived.Deep.CutBlock
import Derived.Deep.DeepCutAuto
import Derived.Deep.Draws
import Derived.Deep.LoopGhost
import Derived.Deep.OwnRows
import Derived.Deep.QuietTactic
import Derived.Deep.RegionHeld3
import Derived.KernelRfl
import Derived.Laws.BitsLemmas
import Derived.Laws.BytesArg
import Derived.Laws.IdiomCopy
import Derived.Laws.MakeOwn
import Derived.Laws.OwnMore
import Derived.Laws.Rows
import Derived.Laws.Slices
import Derived.Lib.AppendStr
import Derived.Lib.ConvBytes
import Derived.Maps.AppendAt
import Derived.OrdersHeld
import Derived.OwnWalk
import Derived.RowKit
import Derived.RowKit3
import Derived.Tactics
import Derived.Test.YtmkjkkmilopcpaaProg
import Derived.WalkKit
import Derived.WideLaws
import Derived.Test.YtmkjkkmilopcpaaPCellBack1
import Derived.Test.YtmkjkkmilopcpaaPCellBack3
import Derived.Test.YtmkjkkmilopcpaaPCellBack4
namespace Go.Proofs.Ytmkjkkmilopcpaa.Q
open Go.RowKit Go.Proofs.YtmkjkkmilopcpaaW.PrintWords Go.Proofs.YtmkjkkmilopcpaaW.PrintLast Go.Proofs.YtmkjkkmilopcpaaW.PrintMore
attribute [local go_sem] max2_int min2_int max_two min_two max_three min_three max_four min_four
set_option linter.unusedVariables false
set_option linter.unusedSimpArgs false
def errW : Option Int → Value
  | none => .nilIface
  | some c => .iface 0 (.int .i64 c)
theorem errW_none : errW none = .nilIface := rfl
theorem errW_some (c : Int) : errW (some c) = .iface 0 (.int .i64 c) := rfl
theorem info3 : (Try.prog.info? 3).map (fun i => (i.zero, i.size, i.bytes)) = some (some (.int .i64 0), 1, 8) := by kernel_rfl
theorem info5 : (Try.prog.info? 5).map (fun i => (i.zero, i.size, i.bytes)) = some (some (.int .u8 0), 1, 1) := by kernel_rfl
theorem info30 : (Try.prog.info? 30).map (fun i => (i.zero, i.size, i.bytes)) = some (some (.agg #[(.slice none 0 0), (.int .i64 0), (.slice none 0 0), (.slice none 0 0), (.slice none 0 0)]), 5, 104) := by kernel_rfl
theorem info45 : (Try.prog.info? 45).map (fun i => (i.zero, i.size, i.bytes)) = some (some (.agg #[(.slice none 0 0), (.slice none 0 0)]), 2, 48) := by kernel_rfl
structure S30 where
  f0 : (List Int)
  f1 : Int
  f2 : (List Int)
  f3 : (List Int)
  f4 : (List Int)
def z30 : S30 := ⟨([] : List Int), (0 : Int), ([] : List Int), ([] : List Int), ([] : List Int)⟩
def k30 : Kd S30 := Kd.iso (Kd.pair (Kd.slice 3 (Kd.int .i64)) (Kd.pair (Kd.int .i64) (Kd.pair (Kd.slice 3 (Kd.int .i64)) (Kd.pair (Kd.slice 3 (Kd.int .i64)) (Kd.slice 3 (Kd.int .i64)))))) (fun x : S30 => (x.f0, x.f1, x.f2, x.f3, x.f4))
theorem k30_open {w : World} {x : S30} {cs : List Value} (h : k30.K w x cs) : ∃ A0 c0 A2 c2 A3 c3 A4 c4, cs = [.slice A0 x.f0.length c0, .int .i64 x.f1, .slice A2 x.f2.length c2, .slice A3 x.f3.length c3, .slice A4 x.f4.length c4] ∧ x.f0.length ≤ c0 ∧ (Kd.int .i64).C w A0 x.f0.length x.f0 ∧ x.f2.length ≤ c2 ∧ (Kd.int .i64).C w A2 x.f2.length x.f2 ∧ x.f3.length ≤ c3 ∧ (Kd.int .i64).C w A3 x.f3.length x.f3 ∧ x.f4.length ≤ c4 ∧ (Kd.int .i64).C w A4 x.f4.length x.f4 := by
  obtain ⟨_, _, rfl, ⟨A0, c0, rfl, l0, g0⟩, ⟨_, _, rfl, rfl, ⟨_, _, rfl, ⟨A2, c2, rfl, l2, g2⟩, ⟨_, _, rfl, ⟨A3, c3, rfl, l3, g3⟩, ⟨A4, c4, rfl, l4, g4⟩⟩⟩⟩⟩ := h
  exact ⟨A0, c0, A2, c2, A3, c3, A4, c4, rfl, l0, g0, l2, g2, l3, g3, l4, g4⟩
theorem k30_openM {w : World} {base : Nat} {ok : Nat → Prop} {x : S30} {cs : List Value} (h : k30.M w base ok x cs) : ∃ v0 v2 v3 v4, cs = [v0, .int .i64 x.f1, v2, v3, v4] ∧ (Kd.int .i64).R 3 w base ok v0 x.f0 ∧ (Kd.int .i64).R 3 w base ok v2 x.f2 ∧ (Kd.int .i64).R 3 w base ok v3 x.f3 ∧ (Kd.int .i64).R 3 w base ok v4 x.f4 := by
  obtain ⟨_, _, rfl, ⟨v0, rfl, g0⟩, ⟨_, _, rfl, rfl, ⟨_, _, rfl, ⟨v2, rfl, g2⟩, ⟨_, _, rfl, ⟨v3, rfl, g3⟩, ⟨v4, rfl, g4⟩⟩⟩⟩⟩ := h
  exact ⟨v0, v2, v3, v4, rfl, g0, g2, g3, g4⟩
theorem k30_mk (w : World) (x : S30) {A0 : Option Addr} {c0 : Nat} (l0 : x.f0.length ≤ c0) (g0 : (Kd.int .i64).C w A0 x.f0.length x.f0) {A2 : Option Addr} {c2 : Nat} (l2 : x.f2.length ≤ c2) (g2 : (Kd.int .i64).C w A2 x.f2.length x.f2) {A3 : Option Addr} {c3 : Nat} (l3 : x.f3.length ≤ c3) (g3 : (Kd.int .i64).C w A3 x.f3.length x.f3) {A4 : Option Addr} {c4 : Nat} (l4 : x.f4.length ≤ c4) (g4 : (Kd.int .i64).C w A4 x.f4.length x.f4) : k30.K w x [.slice A0 x.f0.length c0, .int .i64 x.f1, .slice A2 x.f2.length c2, .slice A3 x.f3.length c3, .slice A4 x.f4.length c4] := ⟨[.slice A0 x.f0.length c0], [.int .i64 x.f1, .slice A2 x.f2.length c2, .slice A3 x.f3.length c3, .slice A4 x.f4.length c4], rfl, ⟨A0, c0, rfl, l0, g0⟩, ⟨[.int .i64 x.f1], [.slice A2 x.f2.length c2, .slice A3 x.f3.length c3, .slice A4 x.f4.length c4], rfl, rfl, ⟨[.slice A2 x.f2.length c2], [.slice A3 x.f3.length c3, .slice A4 x.f4.length c4], rfl, ⟨A2, c2, rfl, l2, g2⟩, ⟨[.slice A3 x.f3.length c3], [.slice A4 x.f4.length c4], rfl, ⟨A3, c3, rfl, l3, g3⟩, ⟨A4, c4, rfl, l4, g4⟩⟩⟩⟩⟩
theorem k30_mkM (w : World) (base : Nat) (ok : Nat → Prop) (x : S30) {v0 : Value} (g0 : (Kd.int .i64).R 3 w base ok v0 x.f0) {v2 : Value} (g2 : (Kd.int .i64).R 3 w base ok v2 x.f2) {v3 : Value} (g3 : (Kd.int .i64).R 3 w base ok v3 x.f3) {v4 : Value} (g4 : (Kd.int .i64).R 3 w base ok v4 x.f4) : k30.M w base ok x [v0, .int .i64 x.f1, v2, v3, v4] := ⟨[v0], [.int .i64 x.f1, v2, v3, v4], rfl, ⟨v0, rfl, g0⟩, ⟨[.int .i64 x.f1], [v2, v3, v4], rfl, rfl, ⟨[v2], [v3, v4], rfl, ⟨v2, rfl, g2⟩, ⟨[v3], [v4], rfl, ⟨v3, rfl, g3⟩, ⟨v4, rfl, g4⟩⟩⟩⟩⟩
theorem k30_openF {W : World} {ok : Nat → Prop} {x : S30} {cs : List Value} (h : Kd.FK k30 W ok x cs) : ∃ A0 c0 A2 c2 A3 c3 A4 c4, cs = [.slice A0 x.f0.length c0, .int .i64 x.f1, .slice A2 x.f2.length c2, .slice A3 x.f3.length c3, .slice A4 x.f4.length c4] ∧ x.f0.length ≤ c0 ∧ Kd.F (Kd.int .i64) W ok A0 x.f0.length x.f0 ∧ x.f2.length ≤ c2 ∧ Kd.F (Kd.int .i64) W ok A2 x.f2.length x.f2 ∧ x.f3.length ≤ c3 ∧ Kd.F (Kd.int .i64) W ok A3 x.f3.length x.f3 ∧ x.f4.length ≤ c4 ∧ Kd.F (Kd.int .i64) W ok A4 x.f4.length x.f4 := by
  obtain ⟨A0, c0, A2, c2, A3, c3, A4, c4, rfl, l0, _, l2, _, l3, _, l4, _⟩ := k30_open (Kd.FK_now h)
  exact ⟨A0, c0, A2, c2, A3, c3, A4, c4, rfl, l0, (fun W' hW => by obtain ⟨A0_, c0_, A2_, c2_, A3_, c3_, A4_, c4_, he, l0_, g0_, l2_, g2_, l3_, g3_, l4_, g4_⟩ := k30_open (h W' hW); injection (Option.some.inj (show some (Value.slice A0 x.f0.length c0) = some (Value.slice A0_ x.f0.length c0_) from congrArg (fun l => l[0]?) he)) with ha_ _ _; rw [ha_]; exact g0_), l2, (fun W' hW => by obtain ⟨A0_, c0_, A2_, c2_, A3_, c3_, A4_, c4_, he, l0_, g0_, l2_, g2_, l3_, g3_, l4_, g4_⟩ := k30_open (h W' hW); injection (Option.some.inj (show some (Value.slice A2 x.f2.length c2) = some (Value.slice A2_ x.f2.length c2_) from congrArg (fun l => l[2]?) he)) with ha_ _ _; rw [ha_]; exact g2_), l3, (fun W' hW => by obtain ⟨A0_, c0_, A2_, c2_, A3_, c3_, A4_, c4_, he, l0_, g0_, l2_, g2_, l3_, g3_, l4_, g4_⟩ := k30_open (h W' hW); injection (Option.some.inj (show some (Value.slice A3 x.f3.length c3) = some (Value.slice A3_ x.f3.length c3_) from congrArg (fun l => l[3]?) he)) with ha_ _ _; rw [ha_]; exact g3_), l4, (fun W' hW => by obtain ⟨A0_, c0_, A2_, c2_, A3_, c3_, A4_, c4_, he, l0_, g0_, l2_, g2_, l3_, g3_, l4_, g4_⟩ := k30_open (h W' hW); injection (Option.some.inj (show some (Value.slice A4 x.f4.length c4) = some (Value.slice A4_ x.f4.length c4_) from congrArg (fun l => l[4]?) he)) with ha_ _ _; rw [ha_]; exact g4_)⟩
theorem k30_mkF (W : World) (ok : Nat → Prop) (x : S30) {A0 : Option Addr} {c0 : Nat} (l0 : x.f0.length ≤ c0) (g0 : Kd.F (Kd.int .i64) W ok A0 x.f0.length x.f0) {A2 : Option Addr} {c2 : Nat} (l2 : x.f2.length ≤ c2) (g2 : Kd.F (Kd.int .i64) W ok A2 x.f2.length x.f2) {A3 : Option Addr} {c3 : Nat} (l3 : x.f3.length ≤ c3) (g3 : Kd.F (Kd.int .i64) W ok A3 x.f3.length x.f3) {A4 : Option Addr} {c4 : Nat} (l4 : x.f4.length ≤ c4) (g4 : Kd.F (Kd.int .i64) W ok A4 x.f4.length x.f4) : Kd.FK k30 W ok x [.slice A0 x.f0.length c0, .int .i64 x.f1, .slice A2 x.f2.length c2, .slice A3 x.f3.length c3, .slice A4 x.f4.length c4] := fun W2 hW => k30_mk W2 x l0 (g0 W2 hW) l2 (g2 W2 hW) l3 (g3 W2 hW) l4 (g4 W2 hW)
def rd_T30 (xs : List S30) (i : Int) : S30 := xs.getD i.toNat z30
theorem at_T30 {w : World} {A : Option Addr} {n : Nat} {xs : List S30} (h : Kd.C k30 w A n xs) (i : Int) (h0 : 0 ≤ i) (h1 : i < n) : ∃ ad A0 c0 A2 c2 A3 c3 A4 c4, A = some ad ∧ w.cell? (ad.add (i.toNat * 5)) = some (.slice A0 (rd_T30 xs i).f0.length c0) ∧ w.cell? ⟨(ad.add (i.toNat * 5)).block, (ad.add (i.toNat * 5)).off + 1, none⟩ = some (.int .i64 (rd_T30 xs i).f1) ∧ w.cell? ⟨(ad.add (i.toNat * 5)).block, (ad.add (i.toNat * 5)).off + 2, none⟩ = some (.slice A2 (rd_T30 xs i).f2.length c2) ∧ w.cell? ⟨(ad.add (i.toNat * 5)).block, (ad.add (i.toNat * 5)).off + 3, none⟩ = some (.slice A3 (rd_T30 xs i).f3.length c3) ∧ w.cell? ⟨(ad.add (i.toNat * 5)).block, (ad.add (i.toNat * 5)).off + 4, none⟩ = some (.slice A4 (rd_T30 xs i).f4.length c4) ∧ (rd_T30 xs i).f0.length ≤ c0 ∧ (Kd.int .i64).C w A0 (rd_T30 xs i).f0.length (rd_T30 xs i).f0 ∧ (rd_T30 xs i).f2.length ≤ c2 ∧ (Kd.int .i64).C w A2 (rd_T30 xs i).f2.length (rd_T30 xs i).f2 ∧ (rd_T30 xs i).f3.length ≤ c3 ∧ (Kd.int .i64).C w A3 (rd_T30 xs i).f3.length (rd_T30 xs i).f3 ∧ (rd_T30 xs i).f4.length ≤ c4 ∧ (Kd.int .i64).C w A4 (rd_T30 xs i).f4.length (rd_T30 xs i).f4 := by
  obtain ⟨ad, c, e, _, hK, hc0⟩ := Kd.C_get h z30 i h0 h1
  have hc : ∀ j u, c[j]? = some u → w.cell? (ad.add (i.toNat * 5 + j)) = some u := hc0
  obtain ⟨A0, c0, A2, c2, A3, c3, A4, c4, rfl, l0, g0, l2, g2, l3, g3, l4, g4⟩ := k30_open hK
  exact ⟨ad, A0, c0, A2, c2, A3, c3, A4, c4, e, hc 0 _ rfl, by rw [← add_field _ _ 1 (by omega)]; exact hc 1 _ rfl, by rw [← add_field _ _ 2 (by omega)]; exact hc 2 _ rfl, by rw [← add_field _ _ 3 (by omega)]; exact hc 3 _ rfl, by rw [← add_field _ _ 4 (by omega)]; exact hc 4 _ rfl, l0, g0, l2, g2, l3, g3, l4, g4⟩
structure S45 where
  f0 : (List Int)
  f1 : (List Int)
def z45 : S45 := ⟨([] : List Int), ([] : List Int)⟩
def k45 : Kd S45 := Kd.iso (Kd.pair (Kd.slice 3 (Kd.int .i64)) (Kd.slice 3 (Kd.int .i64))) (fun x : S45 => (x.f0, x.f1))
theorem k45_open {w : World} {x : S45} {cs : List Value} (h : k45.K w x cs) : ∃ A0 c0 A1 c1, cs = [.slice A0 x.f0.length c0, .slice A1 x.f1.length c1] ∧ x.f0.length ≤ c0 ∧ (Kd.int .i64).C w A0 x.f0.length x.f0 ∧ x.f1.length ≤ c1 ∧ (Kd.int .i64).C w A1 x.f1.length x.f1 := by
  obtain ⟨_, _, rfl, ⟨A0, c0, rfl, l0, g0⟩, ⟨A1, c1, rfl, l1, g1⟩⟩ := h
  exact ⟨A0, c0, A1, c1, rfl, l0, g0, l1, g1⟩
theorem k45_mkM (w : World) (base : Nat) (ok : Nat → Prop) (x : S45) {v0 : Value} (g0 : (Kd.int .i64).R 3 w base ok v0 x.f0) {v1 : Value} (g1 : (Kd.int .i64).R 3 w base ok v1 x.f1) : k45.M w base ok x [v0, v1] := ⟨[v0], [v1], rfl, ⟨v0, rfl, g0⟩, ⟨v1, rfl, g1⟩⟩
def rd_T45 (xs : List S45) (i : Int) : S45 := xs.getD i.toNat z45
theorem at_T45 {w : World} {A : Option Addr} {n : Nat} {xs : List S45} (h : Kd.C k45 w A n xs) (i : Int) (h0 : 0 ≤ i) (h1 : i < n) : ∃ ad A0 c0 A1 c1, A = some ad ∧ w.cell? (ad.add (i.toNat * 2)) = some (.slice A0 (rd_T45 xs i).f0.length c0) ∧ w.cell? ⟨(ad.add (i.toNat * 2)).block, (ad.add (i.toNat * 2)).off + 1, none⟩ = some (.slice A1 (rd_T45 xs i).f1.length c1) ∧ (rd_T45 xs i).f0.length ≤ c0 ∧ (Kd.int .i64).C w A0 (rd_T45 xs i).f0.length (rd_T45 xs i).f0 ∧ (rd_T45 xs i).f1.length ≤ c1 ∧ (Kd.int .i64).C w A1 (rd_T45 xs i).f1.length (rd_T45 xs i).f1 := by
  obtain ⟨ad, c, e, _, hK, hc0⟩ := Kd.C_get h z45 i h0 h1
  have hc : ∀ j u, c[j]? = some u → w.cell? (ad.add (i.toNat * 2 + j)) = some u := hc0
  obtain ⟨A0, c0, A1, c1, rfl, l0, g0, l1, g1⟩ := k45_open hK
  exact ⟨ad, A0, c0, A1, c1, e, hc 0 _ rfl, by rw [← add_field _ _ 1 (by omega)]; exact hc 1 _ rfl, l0, g0, l1, g1⟩
def cmp_isNaN_int.f (a0 : Int) : Option (Bool) := some (a0 != a0)
set_option maxHeartbeats 8000000 in
set_option maxRecDepth 100000 in
theorem cmp_isNaN_int.calls (a0 : Int) (r : Bool) (w : World) (h : cmp_isNaN_int.f a0 = some r) :
  Calls Try.prog 71 #[.int .i64 a0] w fun e w' => e = .returned (.bool r) ∧ Drawn0 w w' := by
 have H : (some (a0 != a0)) = some r := h
 clear h
 obtain rfl := Option.some.inj H
 go_enter Try.func71, Try.ntmps71
 go_wp2
 go_ret
 exact ⟨by first | rfl | (simp; done) | (simp [*]; done), by repeat (first | exact Drawn0.refl _ | apply Drawn0.step)⟩
def cmp_Compare_int.f (a0 : Int) (a1 : Int) : Option (Int) := (cmp_isNaN_int.f a0).bind fun t101 => ((cmp_isNaN_int.f a1).bind fun t102 => (if t101 = true then (if t102 = true then (some 0) else (some (-1))) else (if t102 = true then (some 1) else (if a0 < a1 then (some (-1)) else (if a0 > a1 then (some 1) else (some 0))))))
set_option maxHeartbeats 8000000 in
set_option maxRecDepth 100000 in
theorem cmp_Compare_int.calls (a0 : Int) (a1 : Int) (r : Int) (w : World) (h : cmp_Compare_int.f a0 a1 = some r) :
  Calls Try.prog 63 #[.int .i64 a0, .int .i64 a1] w fun e w' => e = .returned (.int .i64 r) ∧ Drawn0 w w' := by
 have H : ((cmp_isNaN_int.f a0).bind fun t101 => ((cmp_isNaN_int.f a1).bind fun t102 => (if t101 = true then (if t102 = true then (some 0) else (some (-1))) else (if t102 = true then (some 1) else (if a0 < a1 then (some (-1)) else (if a0 > a1 then (some 1) else (some 0))))))) = some r := h
 clear h
 replace H := Option.bind_eq_some_iff.mp H
 obtain ⟨t101, A30, H⟩ := H
 replace H : ((cmp_isNaN_int.f a1).bind fun t102 => (if t101 = true then (if t102 = true then (some 0) else (some (-1))) else (if t102 = true then (some 1) else (if a0 < a1 then (some (-1)) else (if a0 > a1 then (some 1) else (some 0)))))) = some r := H
 have A3 := am A30
 clear A30
 replace H := Option.bind_eq_some_iff.mp H
 obtain ⟨t102, A40, H⟩ := H
 replace H : (if t101 = true then (if t102 = true then (some 0) else (some (-1))) else (if t102 = true then (some 1) else (if a0 < a1 then (some (-1)) else (if a0 > a1 then (some 1) else (some 0))))) = some r := H
 have A4 := am A40
 clear A40
 by_cases c5 : t101 = true
 ·subst c5
  have H1 : (if t102 = true then (some 0) else (some (-1))) = some r := by rw [if_pos rfl] at H; exact H
  clear H
  have H := H1
  clear H1
  by_cases c6 : t102 = true
  ·subst c6
   have H1 : (some 0) = some r := by rw [if_pos rfl] at H; exact H
   clear H
   have H := H1
   clear H1
   obtain rfl := Option.some.inj H
   go_enter Try.func63, Try.ntmps63
   go_wp2_with (first | ((with_reducible refine gate_callee (f := 71) rfl ?_); refine goesL_ (some 8) rfl rfl Try.func71 (by kernel_rfl) rfl #[.int .i64 a0] rfl zm ?_; (with_reducible refine (cmp_isNaN_int.calls a0 true _ A3.out).mono ?_); rintro e w' ⟨rfl, ⟨nd, rfl⟩⟩; refine ⟨_, rfl, ?_⟩) | ((with_reducible refine gate_callee (f := 71) rfl ?_); refine goesL_ (some 10) rfl rfl Try.func71 (by kernel_rfl) rfl #[.int .i64 a1] rfl zm ?_; (with_reducible refine (cmp_isNaN_int.calls a1 true _ A4.out).mono ?_); rintro e w' ⟨rfl, ⟨nd, rfl⟩⟩; refine ⟨_, rfl, ?_⟩))
   go_ret
   exact ⟨by first | rfl | (simp; done) | (simp [*]; done), by repeat (first | exact Drawn0.refl _ | apply Drawn0.step)⟩
  ·replace c6 := Bool.eq_false_iff.mpr c6
   subst c6
   have H1 : (some (-1)) = some r := by rw [if_neg (show ¬ (false = true) by decide)] at H; exact H
   clear H
   have H := H1
   clear H1
   obtain rfl := Option.some.inj H
   go_enter Try.func63, Try.ntmps63
   go_wp2_with (first | ((with_reducible refine gate_callee (f := 71) rfl ?_); refine goesL_ (some 8) rfl rfl Try.func71 (by kernel_rfl) rfl #[.int .i64 a0] rfl zm ?_; (with_reducible refine (cmp_isNaN_int.calls a0 true _ A3.out).mono ?_); rintro e w' ⟨rfl, ⟨nd, rfl⟩⟩; refine ⟨_, rfl, ?_⟩) | ((with_reducible refine gate_callee (f := 71) rfl ?_); refine goesL_ (some 10) rfl rfl Try.func71 (by kernel_rfl) rfl #[.int .i64 a1] rfl zm ?_; (with_reducible refine (cmp_isNaN_int.calls a1 false _ A4.out).mono ?_); rintro e w' ⟨rfl, ⟨nd, rfl⟩⟩; refine ⟨_, rfl, ?_⟩))
   go_ret
   exact ⟨by first | rfl | (simp; done) | (simp [*]; done), by repeat (first | exact Drawn0.refl _ | apply Drawn0.step)⟩
 ·replace c5 := Bool.eq_false_iff.mpr c5
  subst c5
  have H1 : (if t102 = true then (some 1) else (if a0 < a1 then (some (-1)) else (if a0 > a1 then (some 1) else (some 0)))) = some r := by rw [if_neg (show ¬ (false = true) by decide)] at H; exact H
  clear H
  have H := H1
  clear H1
  by_cases c7 : t102 = true
  ·subst c7
   have H1 : (some 1) = some r := by rw [if_pos rfl] at H; exact H
   clear H
   have H := H1
   clear H1
   obtain rfl := Option.some.inj H
   go_enter Try.func63, Try.ntmps63
   go_wp2_with (first | ((with_reducible refine gate_callee (f := 71) rfl ?_); refine goesL_ (some 8) rfl rfl Try.func71 (by kernel_rfl) rfl #[.int .i64 a0] rfl zm ?_; (with_reducible refine (cmp_isNaN_int.calls a0 false _ A3.out).mono ?_); rintro e w' ⟨rfl, ⟨nd, rfl⟩⟩; refine ⟨_, rfl, ?_⟩) | ((with_reducible refine gate_callee (f := 71) rfl ?_); refine goesL_ (some 10) rfl rfl Try.func71 (by kernel_rfl) rfl #[.int .i64 a1] rfl zm ?_; (with_reducible refine (cmp_isNaN_int.calls a1 true _ A4.out).mono ?_); rintro e w' ⟨rfl, ⟨nd, rfl⟩⟩; refine ⟨_, rfl, ?_⟩))
   go_ret
   exact ⟨by first | rfl | (simp; done) | (simp [*]; done), by repeat (first | exact Drawn0.refl _ | apply Drawn0.step)⟩
  ·replace c7 := Bool.eq_false_iff.mpr c7
   subst c7
   have H1 : (if a0 < a1 then (some (-1)) else (if a0 > a1 then (some 1) else (some 0))) = some r := by rw [if_neg (show ¬ (false = true) by decide)] at H; exact H
   clear H
   have H := H1
   clear H1
   by_cases c8 : a0 < a1
   ·rw [if_pos c8] at H
    have c8b0 : decide (a0 < a1) = true := decide_eq_true c8
    clear c8
    obtain rfl := Option.some.inj H
    go_enter Try.func63, Try.ntmps63
    go_wp2_with (first | ((with_reducible refine gate_callee (f := 71) rfl ?_); refine goesL_ (some 8) rfl rfl Try.func71 (by kernel_rfl) rfl #[.int .i64 a0] rfl zm ?_; (with_reducible refine (cmp_isNaN_int.calls a0 false _ A3.out).mono ?_); rintro e w' ⟨rfl, ⟨nd, rfl⟩⟩; refine ⟨_, rfl, ?_⟩) | ((with_reducible refine gate_callee (f := 71) rfl ?_); refine goesL_ (some 10) rfl rfl Try.func71 (by kernel_rfl) rfl #[.int .i64 a1] rfl zm ?_; (with_reducible refine (cmp_isNaN_int.calls a1 false _ A4.out).mono ?_); rintro e w' ⟨rfl, ⟨nd, rfl⟩⟩; refine ⟨_, rfl, ?_⟩))
    go_ret
    exact ⟨by first | rfl | (simp; done) | (simp [*]; done), by repeat (first | exact Drawn0.refl _ | apply Drawn0.step)⟩
   ·rw [if_neg c8] at H
    have c8b0 : decide (a0 < a1) = false := decide_eq_false c8
    clear c8
    by_cases c9 : a0 > a1
    ·rw [if_pos c9] at H
     have c9b0 : decide (a1 < a0) = true := decide_eq_true c9
     clear c9
     obtain rfl := Option.some.inj H
     go_enter Try.func63, Try.ntmps63
     go_wp2_with (first | ((with_reducible refine gate_callee (f := 71) rfl ?_); refine goesL_ (some 8) rfl rfl Try.func71 (by kernel_rfl) rfl #[.int .i64 a0] rfl zm ?_; (with_reducible refine (cmp_isNaN_int.calls a0 false _ A3.out).mono ?_); rintro e w' ⟨rfl, ⟨nd, rfl⟩⟩; refine ⟨_, rfl, ?_⟩) | ((with_reducible refine gate_callee (f := 71) rfl ?_); refine goesL_ (some 10) rfl rfl Try.func71 (by kernel_rfl) rfl #[.int .i64 a1] rfl zm ?_; (with_reducible refine (cmp_isNaN_int.calls a1 false _ A4.out).mono ?_); rintro e w' ⟨rfl, ⟨nd, rfl⟩⟩; refine ⟨_, rfl, ?_⟩))
     go_ret
     exact ⟨by first | rfl | (simp; done) | (simp [*]; done), by repeat (first | exact Drawn0.refl _ | apply Drawn0.step)⟩
    ·rw [if_neg c9] at H
     have c9b0 : decide (a1 < a0) = false := decide_eq_false c9
     clear c9
     obtain rfl := Option.some.inj H
     go_enter Try.func63, Try.ntmps63
     go_wp2_with (first | ((with_reducible refine gate_callee (f := 71) rfl ?_); refine goesL_ (some 8) rfl rfl Try.func71 (by kernel_rfl) rfl #[.int .i64 a0] rfl zm ?_; (with_reducible refine (cmp_isNaN_int.calls a0 false _ A3.out).mono ?_); rintro e w' ⟨rfl, ⟨nd, rfl⟩⟩; refine ⟨_, rfl, ?_⟩) | ((with_reducible refine gate_callee (f := 71) rfl ?_); refine goesL_ (some 10) rfl rfl Try.func71 (by kernel_rfl) rfl #[.int .i64 a1] rfl zm ?_; (with_reducible refine (cmp_isNaN_int.calls a1 false _ A4.out).mono ?_); rintro e w' ⟨rfl, ⟨nd, rfl⟩⟩; refine ⟨_, rfl, ?_⟩))
     go_ret
     exact ⟨by first | rfl | (simp; done) | (simp [*]; done), by repeat (first | exact Drawn0.refl _ | apply Drawn0.step)⟩
def slices_Compare_int_int.l0 : Nat → List Int → List Int → List Int → Int → Int → Option (Int)
 | 0, _, _, _, _, _ => none
 | k + 1, x0, x1, x9, x10, x11 => if x11 < x10 then (if 0 ≤ x11 then (if x11 < (x9.length : Int) then (if x11 ≥ (x1.length : Int) then (some 1) else (if x11 < (x1.length : Int) then ((cmp_Compare_int.f (rd x9 x11) (rd x1 x11)).bind fun t105 => (if t105 = 0 then (slices_Compare_int_int.l0 k x0 x1 x9 x10 (wrap64 (x11 + 1))) else (some t105))) else (none))) else (none)) else (none)) else (if (x0.length : Int) < (x1.length : Int) then (some (-1)) else (some 0))
def slices_Compare_int_int.f (k : Nat) (l0 : List Int) (l1 : List Int) : Option (Int) := slices_Compare_int_int.l0 k l0 l1 l0 (l0.length : Int) 0
set_option maxHeartbeats 8000000 in
set_option maxRecDepth 100000 in
theorem slices_Compare_int_int.calls (k : Nat) (A0 : Option Addr) (c0 : Nat) (l0 : List Int) (A1 : Option Addr) (c1 : Nat) (l1 : List Int) (r : Int) (w : World) (hr0 : Kd.C (Kd.int .i64) w A0 l0.length l0) (hc0 : l0.length ≤ c0) (hr1 : Kd.C (Kd.int .i64) w A1 l1.length l1) (hc1 : l1.length ≤ c1) (h : slices_Compare_int_int.f k l0 l1 = some r) :
  Calls Try.prog 39 #[.slice A0 l0.length c0, .slice A1 l1.length c1] w fun e w' => e = .returned (.int .i64 r) ∧ Drawn0 w w' := by
 have HR0 := am hr0
 have HC0 := am hc0
 clear hr0 hc0
 have HR1 := am hr1
 have HC1 := am hc1
 clear hr1 hc1
 have H : (slices_Compare_int_int.l0 k l0 l1 l0 (l0.length : Int) 0) = some r := h
 clear h
 have H' := am H
 clear H
 go_enter Try.func39, Try.ntmps39
 go_wp2
 go_loopg [11] k (fun kq v11 w' => ∃ (x11_1 : Int), v11 = .int .i64 x11_1 ∧ Aside0 (slices_Compare_int_int.l0 kq l0 l1 l0 (l0.length : Int) x11_1 = some r) ∧ Aside0 (kq ≤ k) ∧ Drawn0 w w')
 case atStart => exact ⟨(0), zz, H', ⟨Nat.le_refl _⟩, by repeat (first | exact Drawn0.refl _ | apply Drawn0.step)⟩
 case round =>
  clear H'
  try clear c1
  try clear p2
  obtain ⟨x11_1, rfl, HA, HK1, ⟨m1, rfl⟩⟩ := hrel
  cases gk with
  | zero => exact absurd HA.out (by simp [slices_Compare_int_int.l0])
  | succ k1 =>
   have H := HA.out
   clear HA
   simp only [slices_Compare_int_int.l0] at H
   by_cases c3 : x11_1 < (l0.length : Int)
   ·rw [if_pos c3] at H
    have c3b0 : decide (x11_1 < (l0.length : Int)) = true := decide_eq_true c3
    clear c3
    by_cases c4 : 0 ≤ x11_1
    ·rw [if_pos c4] at H
     have c4b0 : decide (0 ≤ x11_1) = true := decide_eq_true c4
     clear c4
     by_cases c5 : x11_1 < (l0.length : Int)
     ·rw [if_pos c5] at H
      have c5b0 : decide (x11_1 < (l0.length : Int)) = true := decide_eq_true c5
      clear c5
      by_cases c6 : x11_1 ≥ (l1.length : Int)
      ·rw [if_pos c6] at H
       have c6b0 : decide ((l1.length : Int) ≤ x11_1) = true := decide_eq_true c6
       clear c6
       obtain rfl := Option.some.inj H
       have p103 : 0 ≤ (x11_1 : Int) := zd
       have q103 : x11_1 < (l0.length : Int) := zd
       obtain ⟨ad103, e103, hx103_0⟩ := Kd.at_int HR0.out x11_1 p103 q103
       cases e103
       replace p103 := eq_true p103
       replace q103 := eq_true q103
       go_wp2
       go_ret
       exact ⟨by first | rfl | (simp; done) | (simp [*]; done), by repeat (first | exact Drawn0.refl _ | apply Drawn0.step)⟩
      ·rw [if_neg c6] at H
       have c6b0 : decide ((l1.length : Int) ≤ x11_1) = false := decide_eq_false c6
       clear c6
       by_cases c7 : x11_1 < (l1.length : Int)
       ·rw [if_pos c7] at H
        have c7b0 : decide (x11_1 < (l1.length : Int)) = true := decide_eq_true c7
        clear c7
        replace H := Option.bind_eq_some_iff.mp H
        obtain ⟨t105, A80, H⟩ := H
        replace H : (if t105 = 0 then (slices_Compare_int_int.l0 k1 l0 l1 l0 (l0.length : Int) (wrap64 (x11_1 + 1))) else (some t105)) = some r := H
        have A8 := am A80
        clear A80
        by_cases c9 : t105 = 0
        ·rw [if_pos c9] at H
         have c9b0 : (t105 == 0) = true := beq_iff_eq.mpr c9
         have c9b1 : (t105 != 0) = false := bne_eq_false_iff_eq.mpr c9
         clear c9
         have H' := am H
         clear H
         have p103 : 0 ≤ (x11_1 : Int) := zd
         have q103 : x11_1 < (l0.length : Int) := zd
         obtain ⟨ad103, e103, hx103_0⟩ := Kd.at_int HR0.out x11_1 p103 q103
         cases e103
         replace p103 := eq_true p103
         replace q103 := eq_true q103
         have p104 : 0 ≤ (x11_1 : Int) := zd
         have q104 : x11_1 < (l1.length : Int) := zd
         obtain ⟨ad104, e104, hx104_0⟩ := Kd.at_int HR1.out x11_1 p104 q104
         cases e104
         replace p104 := eq_true p104
         replace q104 := eq_true q104
         go_wp2_with (first | ((with_reducible refine gate_callee (f := 63) rfl ?_); refine goesL_ (some 26) rfl rfl Try.func63 (by kernel_rfl) rfl #[.int .i64 (rd l0 x11_1), .int .i64 (rd l1 x11_1)] rfl zm ?_; (with_reducible refine (cmp_Compare_int.calls (rd l0 x11_1) (rd l1 x11_1) t105 _ A8.out).mono ?_); rintro e w' ⟨rfl, ⟨nd, rfl⟩⟩; refine ⟨_, rfl, ?_⟩))
         go_roundg k1
         case measure => have := HK1.out; omega
         case rel => exact ⟨(wrap64 (x11_1 + 1)), zz, H', ⟨by have := HK1.out; omega⟩, by repeat (first | exact Drawn0.refl _ | apply Drawn0.step)⟩
        ·rw [if_neg c9] at H
         have c9b0 : (t105 == 0) = false := beq_eq_false_iff_ne.mpr c9
         have c9b1 : (t105 != 0) = true := bne_iff_ne.mpr c9
         obtain rfl := Option.some.inj H
         have p103 : 0 ≤ (x11_1 : Int) := zd
         have q103 : x11_1 < (l0.length : Int) := zd
         obtain ⟨ad103, e103, hx103_0⟩ := Kd.at_int HR0.out x11_1 p103 q103
         cases e103
         replace p103 := eq_true p103
         replace q103 := eq_true q103
         have p104 : 0 ≤ (x11_1 : Int) := zd
         have q104 : x11_1 < (l1.length : Int) := zd
         obtain ⟨ad104, e104, hx104_0⟩ := Kd.at_int HR1.out x11_1 p104 q104
         cases e104
         replace p104 := eq_true p104
         replace q104 := eq_true q104
         go_wp2_with (first | ((with_reducible refine gate_callee (f := 63) rfl ?_); refine goesL_ (some 26) rfl rfl Try.func63 (by kernel_rfl) rfl #[.int .i64 (rd l0 x11_1), .int .i64 (rd l1 x11_1)] rfl zm ?_; (with_reducible refine (cmp_Compare_int.calls (rd l0 x11_1) (rd l1 x11_1) t105 _ A8.out).mono ?_); rintro e w' ⟨rfl, ⟨nd, rfl⟩⟩; refine ⟨_, rfl, ?_⟩))
         go_ret
         exact ⟨by first | rfl | (simp; done) | (simp [*]; done), by repeat (first | exact Drawn0.refl _ | apply Drawn0.step)⟩
       ·rw [if_neg c7] at H
        exact absurd H (by simp)
     ·rw [if_neg c5] at H
      exact absurd H (by simp)
    ·rw [if_neg c4] at H
     exact absurd H (by simp)
   ·rw [if_neg c3] at H
    have c3b0 : decide (x11_1 < (l0.length : Int)) = false := decide_eq_false c3
    clear c3
    by_cases c10 : (l0.length : Int) < (l1.length : Int)
    ·rw [if_pos c10] at H
     have c10b0 : decide ((l0.length : Int) < (l1.length : Int)) = true := decide_eq_true c10
     have c10b1 : decide (l0.length < l1.length) = true := decide_eq_true (Int.ofNat_lt.mp c10)
     clear c10
     obtain rfl := Option.some.inj H
     go_wp2
     go_ret
     exact ⟨by first | rfl | (simp; done) | (simp [*]; done), by repeat (first | exact Drawn0.refl _ | apply Drawn0.step)⟩
    ·rw [if_neg c10] at H
     have c10b0 : decide ((l0.length : Int) < (l1.length : Int)) = false := decide_eq_false c10
     have c10b1 : decide (l0.length < l1.length) = false := decide_eq_false (fun h => c10 (Int.ofNat_lt.mpr h))
     clear c10
     obtain rfl := Option.some.inj H
     go_wp2
     go_ret
     exact ⟨by first | rfl | (simp; done) | (simp [*]; done), by repeat (first | exact Drawn0.refl _ | apply Drawn0.step)⟩
def cell_Less.f (k : Nat) (l0 : List Int) (l1 : List Int) : Option (Int) := (slices_Compare_int_int.f k l0 l1).bind fun t106 => (some t106)
set_option maxHeartbeats 8000000 in
set_option maxRecDepth 100000 in
theorem cell_Less.calls (k : Nat) (A0 : Option Addr) (c0 : Nat) (l0 : List Int) (A1 : Option Addr) (c1 : Nat) (l1 : List Int) (r : Int) (w : World) (hr0 : Kd.C (Kd.int .i64) w A0 l0.length l0) (hc0 : l0.length ≤ c0) (hr1 : Kd.C (Kd.int .i64) w A1 l1.length l1) (hc1 : l1.length ≤ c1) (h : cell_Less.f k l0 l1 = some r) :
  Calls Try.prog 17 #[.slice A0 l0.length c0, .slice A1 l1.length c1] w fun e w' => e = .returned (.int .i64 r) ∧ Drawn0 w w' := by
 have HR0 := am hr0
 have HC0 := am hc0
 clear hr0 hc0
 have HR1 := am hr1
 have HC1 := am hc1
 clear hr1 hc1
 have H : ((slices_Compare_int_int.f k l0 l1).bind fun t106 => (some t106)) = some r := h
 clear h
 replace H := Option.bind_eq_some_iff.mp H
 obtain ⟨t106, A30, H⟩ := H
 replace H : (some t106) = some r := H
 have A3 := am A30
 clear A30
 obtain rfl := Option.some.inj H
 go_enter Try.func17, Try.ntmps17
 go_wp2_with (first | ((with_reducible refine gate_callee (f := 39) rfl ?_); refine goesL_ (some 7) rfl rfl Try.func39 (by kernel_rfl) rfl #[.slice A0 l0.length c0, .slice A1 l1.length c1] rfl zm ?_; (with_reducible refine (slices_Compare_int_int.calls k _ _ l0 _ _ l1 t106 _ ?side1 ?side2 ?side3 ?side4 A3.out).mono ?_); (case side1 => repeat (first | exact HR0.out | (with_reducible refine Kd.C_alloc ?_ _) | (with_reducible refine Kd.C_drewN ?_ _) | (with_reducible refine Kd.C_drew ?_))); (case side2 => exact HC0.out); (case side3 => repeat (first | exact HR1.out | (with_reducible refine Kd.C_alloc ?_ _) | (with_reducible refine Kd.C_drewN ?_ _) | (with_reducible refine Kd.C_drew ?_))); (case side4 => exact HC1.out); rintro e w' ⟨rfl, ⟨nd, rfl⟩⟩; refine ⟨_, rfl, ?_⟩))
 go_ret
 exact ⟨by first | rfl | (simp; done) | (simp [*]; done), by repeat (first | exact Drawn0.refl _ | apply Drawn0.step)⟩
def hypercuberef2_Join.l0 : Nat → Int → List Int → Int → List Int → List Int → List Int → List Int → Int → List Int → List Int → List Int → List Int → Int → List Int → List Int → List Int → Option (List Int × Int × List Int × List Int × List Int)
 | 0, _, _, _, _, _, _, _, _, _, _, _, _, _, _, _, _ => none
 | k + 1, x6, x439000, x439001, x439002, x439003, x439004, x440000, x440001, x440002, x440003, x440004, x448000, x448001, x448002, x448003, x448004 => if x6 < (x439002.length : Int) then (if 0 ≤ x6 then (if x6 < (x440002.length : Int) then (if x448002.length < 17592186044416 then (if x6 < (x439003.length : Int) then (if x6 < (x440003.length : Int) then (if x448003.length < 17592186044416 then (if x6 < (x439004.length : Int) then (if x6 < (x440004.length : Int) then (if x448004.length < 17592186044416 then (hypercuberef2_Join.l0 k (wrap64 (x6 + 1)) x439000 x439001 x439002 x439003 x439004 x440000 x440001 x440002 x440003 x440004 x448000 x448001 (x448002 ++ [wrap64 ((rd x439002 x6) + (rd x440002 x6))]) (x448003 ++ [mn (rd x439003 x6) (rd x440003 x6)]) (x448004 ++ [mx (rd x439004 x6) (rd x440004 x6)])) else (none)) else (none)) else (none)) else (none)) else (none)) else (none)) else (none)) else (none)) else (none)) else (some (x448000, x448001, x448002, x448003, x448004))
def hypercuberef2_Join.f (k : Nat) (l0_0 : List Int) (a0_1 : Int) (l0_2 : List Int) (l0_3 : List Int) (l0_4 : List Int) (l1_0 : List Int) (a1_1 : Int) (l1_2 : List Int) (l1_3 : List Int) (l1_4 : List Int) : Option (List Int × Int × List Int × List Int × List Int) := (some (([] : List Int) : List Int)).bind fun y441 => (if y441.length + l0_0.length < 17592186044416 then (hypercuberef2_Join.l0 k 0 l0_0 a0_1 l0_2 l0_3 l0_4 l1_0 a1_1 l1_2 l1_3 l1_4 (y441 ++ l0_0) (wrap64 (a0_1 + a1_1)) ([] : List Int) ([] : List Int) ([] : List Int)) else (none))
def hypercuberef2_Join.T1 : Bool × List (List Nat × List Nat) := (true, [([], []), ([], []), ([1], [1]), ([0, 2], [0, 2]), ([], []), ([4], [4]), ([], []), ([6], [6]), ([5, 7], [5, 7]), ([3, 8], [3, 8]), ([], []), ([10, 9, 3, 0, 1, 2, 3, 4, 5, 6, 7, 8, 9, 10], [9, 10])])
def hypercuberef2_Join.B1 : List Nat := [0, 0, 2, 7, 0, 16, 0, 64, 240, 511, 0, 2047]
theorem hypercuberef2_Join.tab1 : rtab .any (opsOf Try.f33 1) = hypercuberef2_Join.T1 := by kernel_rfl
theorem hypercuberef2_Join.bits1 : waitsOk hypercuberef2_Join.T1.2 hypercuberef2_Join.B1 = true := by kernel_rfl
def hypercuberef2_Join.T5 : Bool × List (List Nat × List Nat) := (true, [([], []), ([0], [0]), ([], []), ([2], [2]), ([], []), ([3, 4], [3, 4]), ([5], [5]), ([], []), ([7], [7]), ([], []), ([8, 9], [8, 9]), ([10], [10]), ([6, 11], [6, 11]), ([12], [12]), ([1, 13], [1, 13]), ([0, 1, 2, 3, 4, 5, 6, 7, 8, 9, 10, 11, 12, 13, 14], []), ([15, 14, 14, 0, 1, 2, 3, 4, 5, 6, 7, 8, 9, 10, 11, 12, 13, 14], [14, 15])])
def hypercuberef2_Join.B5 : List Nat := [0, 1, 0, 4, 0, 28, 60, 0, 128, 0, 896, 1920, 4092, 8188, 16383, 32767, 65535]
theorem hypercuberef2_Join.tab5 : rtab .any (opsOf Try.f33 5) = hypercuberef2_Join.T5 := by kernel_rfl
theorem hypercuberef2_Join.bits5 : waitsOk hypercuberef2_Join.T5.2 hypercuberef2_Join.B5 = true := by kernel_rfl
def hypercuberef2_Join.T6 : Bool × List (List Nat × List Nat) := (true, [([], []), ([0], [0]), ([], []), ([2], [2]), ([], []), ([3, 4], [3, 4]), ([5], [5]), ([], []), ([7], [7]), ([], []), ([8, 9], [8, 9]), ([10], [10]), ([6, 11], [6, 11]), ([12], [12]), ([1, 13], [1, 13]), ([0, 1, 2, 3, 4, 5, 6, 7, 8, 9, 10, 11, 12, 13, 14], []), ([15, 14, 14, 0, 1, 2, 3, 4, 5, 6, 7, 8, 9, 10, 11, 12, 13, 14], [14, 15])])
def hypercuberef2_Join.B6 : List Nat := [0, 1, 0, 4, 0, 28, 60, 0, 128, 0, 896, 1920, 4092, 8188, 16383, 32767, 65535]
theorem hypercuberef2_Join.tab6 : rtab .any (opsOf Try.f33 6) = hypercuberef2_Join.T6 := by kernel_rfl
theorem hypercuberef2_Join.bits6 : waitsOk hypercuberef2_Join.T6.2 hypercuberef2_Join.B6 = true := by kernel_rfl
def hypercuberef2_Join.T7 : Bool × List (List Nat × List Nat) := (true, [([], []), ([0], [0]), ([], []), ([2], [2]), ([], []), ([3, 4], [3, 4]), ([5], [5]), ([], []), ([7], [7]), ([], []), ([8, 9], [8, 9]), ([10], [10]), ([6, 11], [6, 11]), ([12], [12]), ([1, 13], [1, 13]), ([0, 1, 2, 3, 4, 5, 6, 7, 8, 9, 10, 11, 12, 13, 14], []), ([15, 14, 14, 0, 1, 2, 3, 4, 5, 6, 7, 8, 9, 10, 11, 12, 13, 14], [14, 15])])
def hypercuberef2_Join.B7 : List Nat := [0, 1, 0, 4, 0, 28, 60, 0, 128, 0, 896, 1920, 4092, 8188, 16383, 32767, 65535]
theorem hypercuberef2_Join.tab7 : rtab .any (opsOf Try.f33 7) = hypercuberef2_Join.T7 := by kernel_rfl
theorem hypercuberef2_Join.bits7 : waitsOk hypercuberef2_Join.T7.2 hypercuberef2_Join.B7 = true := by kernel_rfl
set_option maxHeartbeats 8000000 in
set_option maxRecDepth 100000 in
theorem hypercuberef2_Join.calls (k : Nat) (A0_0 : Option Addr) (c0_0 : Nat) (l0_0 : List Int) (a0_1 : Int) (A0_2 : Option Addr) (c0_2 : Nat) (l0_2 : List Int) (A0_3 : Option Addr) (c0_3 : Nat) (l0_3 : List Int) (A0_4 : Option Addr) (c0_4 : Nat) (l0_4 : List Int) (A1_0 : Option Addr) (c1_0 : Nat) (l1_0 : List Int) (a1_1 : Int) (A1_2 : Option Addr) (c1_2 : Nat) (l1_2 : List Int) (A1_3 : Option Addr) (c1_3 : Nat) (l1_3 : List Int) (A1_4 : Option Addr) (c1_4 : Nat) (l1_4 : List Int) (r1 : List Int) (r2 : Int) (r3 : List Int) (r4 : List Int) (r5 : List Int) (w : World) (hr0_0 : Kd.C (Kd.int .i64) w A0_0 l0_0.length l0_0) (hc0_0 : l0_0.length ≤ c0_0) (hr0_2 : Kd.C (Kd.int .i64) w A0_2 l0_2.length l0_2) (hc0_2 : l0_2.length ≤ c0_2) (hr0_3 : Kd.C (Kd.int .i64) w A0_3 l0_3.length l0_3) (hc0_3 : l0_3.length ≤ c0_3) (hr0_4 : Kd.C (Kd.int .i64) w A0_4 l0_4.length l0_4) (hc0_4 : l0_4.length ≤ c0_4) (hr1_0 : Kd.C (Kd.int .i64) w A1_0 l1_0.length l1_0) (hc1_0 : l1_0.length ≤ c1_0) (hr1_2 : Kd.C (Kd.int .i64) w A1_2 l1_2.length l1_2) (hc1_2 : l1_2.length ≤ c1_2) (hr1_3 : Kd.C (Kd.int .i64) w A1_3 l1_3.length l1_3) (hc1_3 : l1_3.length ≤ c1_3) (hr1_4 : Kd.C (Kd.int .i64) w A1_4 l1_4.length l1_4) (hc1_4 : l1_4.length ≤ c1_4) (h : hypercuberef2_Join.f k l0_0 a0_1 l0_2 l0_3 l0_4 l1_0 a1_1 l1_2 l1_3 l1_4 = some (r1, r2, r3, r4, r5)) :
  Calls Try.prog 33 #[.agg #[.slice A0_0 l0_0.length c0_0, .int .i64 a0_1, .slice A0_2 l0_2.length c0_2, .slice A0_3 l0_3.length c0_3, .slice A0_4 l0_4.length c0_4], .agg #[.slice A1_0 l1_0.length c1_0, .int .i64 a1_1, .slice A1_2 l1_2.length c1_2, .slice A1_3 l1_3.length c1_3, .slice A1_4 l1_4.length c1_4]] w fun e w' => ∃ v0_ v2_ v3_ v4_ : Value, e = .returned (.agg #[v0_, .int .i64 r2, v2_, v3_, v4_]) ∧ Kd.R (Kd.int .i64) 3 w' w.heap.size (fun k_ => some k_ ≠ (v2_ : Value).ownBlock ∧ some k_ ≠ (v3_ : Value).ownBlock ∧ some k_ ≠ (v4_ : Value).ownBlock) v0_ r1 ∧ Kd.R (Kd.int .i64) 3 w' w.heap.size (fun k_ => some k_ ≠ (v0_ : Value).ownBlock ∧ some k_ ≠ (v3_ : Value).ownBlock ∧ some k_ ≠ (v4_ : Value).ownBlock) v2_ r3 ∧ Kd.R (Kd.int .i64) 3 w' w.heap.size (fun k_ => some k_ ≠ (v0_ : Value).ownBlock ∧ some k_ ≠ (v2_ : Value).ownBlock ∧ some k_ ≠ (v4_ : Value).ownBlock) v3_ r4 ∧ Kd.R (Kd.int .i64) 3 w' w.heap.size (fun k_ => some k_ ≠ (v0_ : Value).ownBlock ∧ some k_ ≠ (v2_ : Value).ownBlock ∧ some k_ ≠ (v3_ : Value).ownBlock) v4_ r5 ∧ Below w.heap.size w w' := by
 have hu30 := Try.underlying30
 have HR0_0 := am hr0_0
 have HC0_0 := am hc0_0
 clear hr0_0 hc0_0
 have HR0_2 := am hr0_2
 have HC0_2 := am hc0_2
 clear hr0_2 hc0_2
 have HR0_3 := am hr0_3
 have HC0_3 := am hc0_3
 clear hr0_3 hc0_3
 have HR0_4 := am hr0_4
 have HC0_4 := am hc0_4
 clear hr0_4 hc0_4
 have HR1_0 := am hr1_0
 have HC1_0 := am hc1_0
 clear hr1_0 hc1_0
 have HR1_2 := am hr1_2
 have HC1_2 := am hc1_2
 clear hr1_2 hc1_2
 have HR1_3 := am hr1_3
 have HC1_3 := am hc1_3
 clear hr1_3 hc1_3
 have HR1_4 := am hr1_4
 have HC1_4 := am hc1_4
 clear hr1_4 hc1_4
 have HB := am (Below.refl w.heap.size w)
 have H : ((some (([] : List Int) : List Int)).bind fun y441 => (if y441.length + l0_0.length < 17592186044416 then (hypercuberef2_Join.l0 k 0 l0_0 a0_1 l0_2 l0_3 l0_4 l1_0 a1_1 l1_2 l1_3 l1_4 (y441 ++ l0_0) (wrap64 (a0_1 + a1_1)) ([] : List Int) ([] : List Int) ([] : List Int)) else (none))) = some (r1, r2, r3, r4, r5) := h
 clear h
 obtain ⟨y441, hy441⟩ : ∃ y_ : List Int, y_ = (([] : List Int)) := ⟨_, rfl⟩
 replace H : (if y441.length + l0_0.length < 17592186044416 then (hypercuberef2_Join.l0 k 0 l0_0 a0_1 l0_2 l0_3 l0_4 l1_0 a1_1 l1_2 l1_3 l1_4 (y441 ++ l0_0) (wrap64 (a0_1 + a1_1)) ([] : List Int) ([] : List Int) ([] : List Int)) else (none)) = some (r1, r2, r3, r4, r5) := by first | (rw [hy441]; with_reducible exact H) | (have H2_ := (Option.bind_some _ _).symm.trans H; rw [hy441]; with_reducible exact H2_) | (have H2_ := (Option.bind_some _ _).symm.trans H; with_reducible exact H2_) | with_reducible exact H | (rw [hy441]; exact H) | exact H
 have Ny441 := am hy441
 clear hy441
 by_cases c3 : y441.length + l0_0.length < 17592186044416
 ·rw [if_pos c3] at H
  have LMc3 := am c3
  clear c3
  obtain ⟨y444, hy444⟩ : ∃ y_ : List Int, y_ = (y441 ++ l0_0) := ⟨_, rfl⟩
  replace H : (hypercuberef2_Join.l0 k 0 l0_0 a0_1 l0_2 l0_3 l0_4 l1_0 a1_1 l1_2 l1_3 l1_4 y444 (wrap64 (a0_1 + a1_1)) ([] : List Int) ([] : List Int) ([] : List Int)) = some (r1, r2, r3, r4, r5) := by rw [hy444]; with_reducible exact H
  have Ny444 := am hy444
  clear hy444
  have H' := am H
  clear H
  go_enter Try.func33, Try.ntmps33
  try go_wp2_with (first | ((with_reducible refine gate_dst (N := 2) rfl ?_); refine zX #[.slice A0_0 l0_0.length c0_0, .int .i64 a0_1, .slice A0_2 l0_2.length c0_2, .slice A0_3 l0_3.length c0_3, .slice A0_4 l0_4.length c0_4] 30 ?_; intro gb438 hg w4 hbox hb; have n0_ := am (below_step (wmv HB.out) hb); have n1_ := am (hbox); have n2_ := am ((by rw [hg]; exact (below_size (wmv HB.out)) : w.heap.size ≤ gb438)); have n3_ := am ((by rw [hg]; exact (below_size (wmv HB.out)) : w.heap.size ≤ gb438)); clear HB; revert n0_ n1_ n2_ n3_; intro HB BK438 GW438 GE438; clear hb hbox hg) | ((with_reducible refine gate_dst (N := 3) rfl ?_); refine zX #[.slice A1_0 l1_0.length c1_0, .int .i64 a1_1, .slice A1_2 l1_2.length c1_2, .slice A1_3 l1_3.length c1_3, .slice A1_4 l1_4.length c1_4] 30 ?_; intro gb439 hg w5 hbox hb; have n0_ := am (blk_below (bmv BK438.out) hb); have n1_ := am (below_step (wmv HB.out) hb); have n2_ := am (hbox); have n3_ := am ((by rw [hg]; exact (below_size (wmv HB.out)) : w.heap.size ≤ gb439)); have n4_ := am ((by rw [hg]; exact (below_size (wmv HB.out)) : w.heap.size ≤ gb439)); have n5_ := am ((by rw [hg]; exact Nat.ne_of_lt (blk_lt (bmv BK438.out)) : gb438 ≠ gb439)); have n6_ := am ((by rw [hg]; exact Nat.ne_of_gt (blk_lt (bmv BK438.out)) : gb439 ≠ gb438)); clear BK438 HB; revert n0_ n1_ n2_ n3_ n4_ n5_ n6_; intro BK438 HB BK439 GW439 GE439 NB438_439 NB439_438; clear hb hbox hg) | ((with_reducible refine gate_dst (N := 4) rfl ?_); refine zX #[.slice none 0 0, .int .i64 0, .slice none 0 0, .slice none 0 0, .slice none 0 0] 30 ?_; intro gb440 hg w6 hbox hb; have n0_ := am (blk_below (bmv BK438.out) hb); have n1_ := am (blk_below (bmv BK439.out) hb); have n2_ := am (below_step (wmv HB.out) hb); have n3_ := am (hbox); have n4_ := am ((by rw [hg]; exact (below_size (wmv HB.out)) : w.heap.size ≤ gb440)); have n5_ := am ((by rw [hg]; exact (below_size (wmv HB.out)) : w.heap.size ≤ gb440)); have n6_ := am ((by rw [hg]; exact Nat.ne_of_lt (blk_lt (bmv BK438.out)) : gb438 ≠ gb440)); have n7_ := am ((by rw [hg]; exact Nat.ne_of_gt (blk_lt (bmv BK438.out)) : gb440 ≠ gb438)); have n8_ := am ((by rw [hg]; exact Nat.ne_of_lt (blk_lt (bmv BK439.out)) : gb439 ≠ gb440)); have n9_ := am ((by rw [hg]; exact Nat.ne_of_gt (blk_lt (bmv BK439.out)) : gb440 ≠ gb439)); clear BK438 BK439 HB; revert n0_ n1_ n2_ n3_ n4_ n5_ n6_ n7_ n8_ n9_; intro BK438 BK439 HB BK440 GW440 GE440 NB438_440 NB440_438 NB439_440 NB440_439; clear hb hbox hg))
  have n0_ := am (blk_drew BK438.out)
  have n1_ := am (blk_drew BK439.out)
  have n2_ := am (blk_drew BK440.out)
  have n3_ := am (below_drew1 HB.out)
  clear BK438 BK439 BK440 HB
  revert n0_ n1_ n2_ n3_
  intro BK438 BK439 BK440 HB
  refine start_ (n := 12) (S := fun w' => w'.cell? ⟨gb438, 0, none⟩ = some (.slice A0_0 l0_0.length c0_0) ∧ w'.cell? ⟨gb438, 1, none⟩ = some (.int .i64 a0_1) ∧ w'.cell? ⟨gb438, 2, none⟩ = some (.slice A0_2 l0_2.length c0_2) ∧ w'.cell? ⟨gb438, 3, none⟩ = some (.slice A0_3 l0_3.length c0_3) ∧ w'.cell? ⟨gb438, 4, none⟩ = some (.slice A0_4 l0_4.length c0_4) ∧ w'.cell? ⟨gb439, 0, none⟩ = some (.slice A1_0 l1_0.length c1_0) ∧ w'.cell? ⟨gb439, 1, none⟩ = some (.int .i64 a1_1) ∧ w'.cell? ⟨gb439, 2, none⟩ = some (.slice A1_2 l1_2.length c1_2) ∧ w'.cell? ⟨gb439, 3, none⟩ = some (.slice A1_3 l1_3.length c1_3) ∧ w'.cell? ⟨gb439, 4, none⟩ = some (.slice A1_4 l1_4.length c1_4)) (ds := []) (bb 12 0) (by kernel_rfl) rfl rfl ⟨bc BK438 0, bc BK438 1, bc BK438 2, bc BK438 3, bc BK438 4, bc BK439 0, bc BK439 1, bc BK439 2, bc BK439 3, bc BK439 4⟩ (fun hHeld => ?_); refine with_tabW hypercuberef2_Join.tab1 hypercuberef2_Join.bits1 (fun HT_ HW_ => ?_)
  generalize w6.drew = w7 at BK438 BK439 BK440 HB hHeld ⊢
  refine zu 1 (some 8) (bb 12 2) HT_ ?_
  refine zu 4 (some 11) (bb 12 18) HT_ ?_
  refine zu 6 (some 13) (bb 12 82) HT_ ?_
  refine zk 2 (some 9) (bb 12 86) HT_ HW_ hHeld ?_
  refine zk 5 (some 12) (bb 12 118) HT_ HW_ hHeld ?_
  refine zk 7 (some 14) (bb 12 246) HT_ HW_ hHeld ?_
  refine zu 8 (some 15) (bb 12 502) HT_ ?_
  refine join_ (σ := Value × Value × Nat) 1 (bb 12 2047) (fun s_ => [(7, s_.1), (10, s_.2.1), (5, .pointer (some ⟨s_.2.2, 0, none⟩)), (16, .agg #[s_.2.1, .int .i64 (wrap64 (a0_1 + a1_1)), .slice none 0 0, .slice none 0 0, .slice none 0 0])]) (fun s_ w' => (w'.cell? ⟨gb438, 0, none⟩ = some (.slice A0_0 l0_0.length c0_0) ∧ w'.cell? ⟨gb438, 1, none⟩ = some (.int .i64 a0_1) ∧ w'.cell? ⟨gb438, 2, none⟩ = some (.slice A0_2 l0_2.length c0_2) ∧ w'.cell? ⟨gb438, 3, none⟩ = some (.slice A0_3 l0_3.length c0_3) ∧ w'.cell? ⟨gb438, 4, none⟩ = some (.slice A0_4 l0_4.length c0_4) ∧ w'.cell? ⟨gb439, 0, none⟩ = some (.slice A1_0 l1_0.length c1_0) ∧ w'.cell? ⟨gb439, 1, none⟩ = some (.int .i64 a1_1) ∧ w'.cell? ⟨gb439, 2, none⟩ = some (.slice A1_2 l1_2.length c1_2) ∧ w'.cell? ⟨gb439, 3, none⟩ = some (.slice A1_3 l1_3.length c1_3) ∧ w'.cell? ⟨gb439, 4, none⟩ = some (.slice A1_4 l1_4.length c1_4)) ∧ (Kd.R (Kd.int .i64) 3 w' w.heap.size (fun _ => True) s_.2.1 y444) ∧ (w'.heap[gb438]? = some (.cells #[.slice A0_0 l0_0.length c0_0, .int .i64 a0_1, .slice A0_2 l0_2.length c0_2, .slice A0_3 l0_3.length c0_3, .slice A0_4 l0_4.length c0_4] 30 (0, 0))) ∧ (w'.heap[gb439]? = some (.cells #[.slice A1_0 l1_0.length c1_0, .int .i64 a1_1, .slice A1_2 l1_2.length c1_2, .slice A1_3 l1_3.length c1_3, .slice A1_4 l1_4.length c1_4] 30 (0, 0))) ∧ (w'.heap[gb440]? = some (.cells #[.slice none 0 0, .int .i64 0, .slice none 0 0, .slice none 0 0, .slice none 0 0] 30 (0, 0))) ∧ (w'.heap[s_.2.2]? = some (.cells #[.slice none 0 0, .int .i64 0, .slice none 0 0, .slice none 0 0, .slice none 0 0] 30 (0, 0))) ∧ (w.heap.size ≤ s_.2.2) ∧ (w.heap.size ≤ s_.2.2) ∧ (gb438 ≠ s_.2.2) ∧ (s_.2.2 ≠ gb438) ∧ (gb439 ≠ s_.2.2) ∧ (s_.2.2 ≠ gb439) ∧ (gb440 ≠ s_.2.2) ∧ (s_.2.2 ≠ gb440) ∧ (Below w.heap.size w w')) ?_ ?_
  rotate_left
  ·intro hCont
   refine two_ (i := 0) (j := 10) (Ni := some 7) (Nj := some 5) (bb 12 503) (bb 12 1526) rfl rfl rfl rfl (two_of HT_.out (by kernel_rfl)) (by decide) (by decide) (fun K hK => ?_) (fun K hK => ?_)
   ·skip
    refine Kd.R_lit_step (Kd.int .i64) _ 3 ?hg (N := 7) ?hd (xs := ([] : List Int)) (inner := []) (ok := fun _ => True) (okp := fun _ => True) ?hr ?hp (fun _ hk => hk) trivial (Below.refl _ _) (Nat.le_refl _) (by simp) ?_; (case hd => rfl); (case hg => rfl); (case hr => first | (go_simp; done) | (go_simp; rfl)); (case hp => exact (Reps.none _ _))
    intro v442 w8 ho9 hb hg_ hnew_
    clear hg_ hnew_
    (first | rw [← Ny441.out] at ho9 | (simp only [Int.reduceToNat] at ho9; rw [← Ny441.out] at ho9))
    have n0_ := am (Kd.R_lower ho9 (below_size (wmv HB.out)))
    have n1_ := am (blk_below (bmv BK438.out) hb)
    have n2_ := am (blk_below (bmv BK439.out) hb)
    have n3_ := am (blk_below (bmv BK440.out) hb)
    have n4_ := am (below_step (wmv HB.out) hb)
    clear BK438 BK439 BK440 HB
    revert n0_ n1_ n2_ n3_ n4_
    intro HO443 BK438 BK439 BK440 HB
    clear hb ho9
    refine hK.out _ _ ⟨bc BK438 0, bc BK438 1, bc BK438 2, bc BK438 3, bc BK438 4, bc BK439 0, bc BK439 1, bc BK439 2, bc BK439 3, bc BK439 4⟩ (fun hHeld => ?_)
    clear hK K
    refine nm ?_
    refine two_ (i := 3) (j := 10) (Ni := some 10) (Nj := some 5) (bb 12 511) (bb 12 1527) rfl rfl rfl rfl (two_of HT_.out (by kernel_rfl)) (by decide) (by decide) (fun K hK => ?_) (fun K hK => ?_)
    ·skip
     refine Kd.R_append_rows_step (Kd.int .i64) (w0 := w) w.heap.size (by rfl) (.tmp 7) (.tmp 9) 22 3 (.int .i64 0) 8 rfl Try.underlying22 info3 rfl (by decide) (by omega) v442 y441 l0_0 _ _ _ (fun _ => True) (fun _ => False) rfl rfl ?aO ?aR (fun _ _ h => h) (fun _ h => h.elim) ?aF ?aB ?aS ?aL ?_
     (case aR => exact Kd.Cw HR0_0.out HB.out)
     (case aB => exact (wmv HB.out))
     (case aF => exact (fun _ _ => trivial))
     (case aO => exact (Kd.R_mv HO443.out))
     (case aS => exact (below_size (wmv HB.out)))
     (case aL => have := LMc3.out; omega)
     intro v445 w10 ho hb hg hat
     rw [← Ny444.out] at ho
     have n0_ := am (blk_grown (bmv BK438.out) hg (Kd.R_ne HO443.out BK438.out (by decide)))
     have n1_ := am (blk_grown (bmv BK439.out) hg (Kd.R_ne HO443.out BK439.out (by decide)))
     have n2_ := am (blk_grown (bmv BK440.out) hg (Kd.R_ne HO443.out BK440.out (by decide)))
     have n3_ := am (hb)
     have n4_ := am (ho)
     clear BK438 BK439 BK440 HB HO443
     revert n0_ n1_ n2_ n3_ n4_
     intro BK438 BK439 BK440 HB HO446
     clear ho hb hg hat
     obtain ⟨Ao11, co11, eo11⟩ := Kd.R_slice HO446.out
     (first | subst eo11 | (injection eo11 with f1_ f2_ f3_; have f4_ := f1_.symm; have f5_ := f3_.symm; clear f1_ f2_ f3_; subst f4_; subst f5_))
     refine hK.out _ _ ⟨bc BK438 0, bc BK438 1, bc BK438 2, bc BK438 3, bc BK438 4, bc BK439 0, bc BK439 1, bc BK439 2, bc BK439 3, bc BK439 4⟩ (fun hHeld => ?_)
     clear hK K
     refine nm ?_
     refine zu 9 (some 16) (bb 12 1023) HT_ ?_
     refine zo 10 (some 5) (bb 12 2047) HT_ (fun K hK => ?_)
     refine box_step ?hg (N := 5) ?hd (cs := #[.slice none 0 0, .int .i64 0, .slice none 0 0, .slice none 0 0, .slice none 0 0]) (t := 30) ?hr ?_; (case hd => rfl); (case hg => rfl); (case hr => first | (go_simp; done) | (go_simp; rfl))
     intro gb447 hg w12 hbox hb
     have n0_ := am (Kd.R_below (Kd.R_mv HO446.out) hb)
     have n1_ := am (blk_below (bmv BK438.out) hb)
     have n2_ := am (blk_below (bmv BK439.out) hb)
     have n3_ := am (blk_below (bmv BK440.out) hb)
     have n4_ := am (below_step (wmv HB.out) hb)
     have n5_ := am (hbox)
     have n6_ := am ((by rw [hg]; exact (below_size (wmv HB.out)) : w.heap.size ≤ gb447))
     have n7_ := am ((by rw [hg]; exact (below_size (wmv HB.out)) : w.heap.size ≤ gb447))
     have n8_ := am ((by rw [hg]; exact Nat.ne_of_lt (blk_lt (bmv BK438.out)) : gb438 ≠ gb447))
     have n9_ := am ((by rw [hg]; exact Nat.ne_of_gt (blk_lt (bmv BK438.out)) : gb447 ≠ gb438))
     have n10_ := am ((by rw [hg]; exact Nat.ne_of_lt (blk_lt (bmv BK439.out)) : gb439 ≠ gb447))
     have n11_ := am ((by rw [hg]; exact Nat.ne_of_gt (blk_lt (bmv BK439.out)) : gb447 ≠ gb439))
     have n12_ := am ((by rw [hg]; exact Nat.ne_of_lt (blk_lt (bmv BK440.out)) : gb440 ≠ gb447))
     have n13_ := am ((by rw [hg]; exact Nat.ne_of_gt (blk_lt (bmv BK440.out)) : gb447 ≠ gb440))
     clear HO446 BK438 BK439 BK440 HB
     revert n0_ n1_ n2_ n3_ n4_ n5_ n6_ n7_ n8_ n9_ n10_ n11_ n12_ n13_
     intro HO446 BK438 BK439 BK440 HB BK447 GW447 GE447 NB438_447 NB447_438 NB439_447 NB447_439 NB440_447 NB447_440
     clear hb hbox hg
     refine hK.out _ _ ⟨bc BK438 0, bc BK438 1, bc BK438 2, bc BK438 3, bc BK438 4, bc BK439 0, bc BK439 1, bc BK439 2, bc BK439 3, bc BK439 4⟩ (fun hHeld => ?_)
     clear hK K
     refine nm ?_
     exact norm_ (by simp only [putAll, Act.put, List.setIfInBounds_toArray, List.set_cons_zero, List.set_cons_succ]) (hCont (v442, .slice Ao11 y444.length co11, gb447) _ ⟨hHeld, (Kd.R_mv HO446.out), (bmv BK438.out), (bmv BK439.out), (bmv BK440.out), (bmv BK447.out), GW447.out, GE447.out, NB438_447.out, NB447_438.out, NB439_447.out, NB447_439.out, NB440_447.out, NB447_440.out, (wmv HB.out)⟩)
    ·skip
     refine box_step ?hg (N := 5) ?hd (cs := #[.slice none 0 0, .int .i64 0, .slice none 0 0, .slice none 0 0, .slice none 0 0]) (t := 30) ?hr ?_; (case hd => rfl); (case hg => rfl); (case hr => first | (go_simp; done) | (go_simp; rfl))
     intro gb447 hg w10 hbox hb
     have n0_ := am (Kd.R_below (Kd.R_mv HO443.out) hb)
     have n1_ := am (blk_below (bmv BK438.out) hb)
     have n2_ := am (blk_below (bmv BK439.out) hb)
     have n3_ := am (blk_below (bmv BK440.out) hb)
     have n4_ := am (below_step (wmv HB.out) hb)
     have n5_ := am (hbox)
     have n6_ := am ((by rw [hg]; exact (below_size (wmv HB.out)) : w.heap.size ≤ gb447))
     have n7_ := am ((by rw [hg]; exact (below_size (wmv HB.out)) : w.heap.size ≤ gb447))
     have n8_ := am ((by rw [hg]; exact Nat.ne_of_lt (blk_lt (bmv BK438.out)) : gb438 ≠ gb447))
     have n9_ := am ((by rw [hg]; exact Nat.ne_of_gt (blk_lt (bmv BK438.out)) : gb447 ≠ gb438))
     have n10_ := am ((by rw [hg]; exact Nat.ne_of_lt (blk_lt (bmv BK439.out)) : gb439 ≠ gb447))
     have n11_ := am ((by rw [hg]; exact Nat.ne_of_gt (blk_lt (bmv BK439.out)) : gb447 ≠ gb439))
     have n12_ := am ((by rw [hg]; exact Nat.ne_of_lt (blk_lt (bmv BK440.out)) : gb440 ≠ gb447))
     have n13_ := am ((by rw [hg]; exact Nat.ne_of_gt (blk_lt (bmv BK440.out)) : gb447 ≠ gb440))
     clear HO443 BK438 BK439 BK440 HB
     revert n0_ n1_ n2_ n3_ n4_ n5_ n6_ n7_ n8_ n9_ n10_ n11_ n12_ n13_
     intro HO443 BK438 BK439 BK440 HB BK447 GW447 GE447 NB438_447 NB447_438 NB439_447 NB447_439 NB440_447 NB447_440
     clear hb hbox hg
     refine hK.out _ _ ⟨bc BK438 0, bc BK438 1, bc BK438 2, bc BK438 3, bc BK438 4, bc BK439 0, bc BK439 1, bc BK439 2, bc BK439 3, bc BK439 4⟩ (fun hHeld => ?_)
     clear hK K
     refine nm ?_
     refine zo 3 (some 10) (bb 12 1535) HT_ (fun K hK => ?_)
     refine Kd.R_append_rows_step (Kd.int .i64) (w0 := w) w.heap.size (by rfl) (.tmp 7) (.tmp 9) 22 3 (.int .i64 0) 8 rfl Try.underlying22 info3 rfl (by decide) (by omega) v442 y441 l0_0 _ _ _ (fun _ => True) (fun _ => False) rfl rfl ?aO ?aR (fun _ _ h => h) (fun _ h => h.elim) ?aF ?aB ?aS ?aL ?_
     (case aR => exact Kd.Cw HR0_0.out HB.out)
     (case aB => exact (wmv HB.out))
     (case aF => exact (fun _ _ => trivial))
     (case aO => exact (Kd.R_mv HO443.out))
     (case aS => exact (below_size (wmv HB.out)))
     (case aL => have := LMc3.out; omega)
     intro v445 w11 ho hb hg hat
     rw [← Ny444.out] at ho
     have n0_ := am (blk_grown (bmv BK438.out) hg (Kd.R_ne HO443.out BK438.out (by decide)))
     have n1_ := am (blk_grown (bmv BK439.out) hg (Kd.R_ne HO443.out BK439.out (by decide)))
     have n2_ := am (blk_grown (bmv BK440.out) hg (Kd.R_ne HO443.out BK440.out (by decide)))
     have n3_ := am (blk_grown (bmv BK447.out) hg (Kd.R_ne HO443.out BK447.out (by decide)))
     have n4_ := am (hb)
     have n5_ := am (ho)
     clear BK438 BK439 BK440 BK447 HB HO443
     revert n0_ n1_ n2_ n3_ n4_ n5_
     intro BK438 BK439 BK440 BK447 HB HO446
     clear ho hb hg hat
     obtain ⟨Ao12, co12, eo12⟩ := Kd.R_slice HO446.out
     (first | subst eo12 | (injection eo12 with f1_ f2_ f3_; have f4_ := f1_.symm; have f5_ := f3_.symm; clear f1_ f2_ f3_; subst f4_; subst f5_))
     refine hK.out _ _ ⟨bc BK438 0, bc BK438 1, bc BK438 2, bc BK438 3, bc BK438 4, bc BK439 0, bc BK439 1, bc BK439 2, bc BK439 3, bc BK439 4⟩ (fun hHeld => ?_)
     clear hK K
     refine nm ?_
     refine zu 9 (some 16) (bb 12 2047) HT_ ?_
     exact norm_ (by simp only [putAll, Act.put, List.setIfInBounds_toArray, List.set_cons_zero, List.set_cons_succ]) (hCont (v442, .slice Ao12 y444.length co12, gb447) _ ⟨hHeld, (Kd.R_mv HO446.out), (bmv BK438.out), (bmv BK439.out), (bmv BK440.out), (bmv BK447.out), GW447.out, GE447.out, NB438_447.out, NB447_438.out, NB439_447.out, NB447_439.out, NB440_447.out, NB447_440.out, (wmv HB.out)⟩)
   ·skip
    refine box_step ?hg (N := 5) ?hd (cs := #[.slice none 0 0, .int .i64 0, .slice none 0 0, .slice none 0 0, .slice none 0 0]) (t := 30) ?hr ?_; (case hd => rfl); (case hg => rfl); (case hr => first | (go_simp; done) | (go_simp; rfl))
    intro gb447 hg w8 hbox hb
    have n0_ := am (blk_below (bmv BK438.out) hb)
    have n1_ := am (blk_below (bmv BK439.out) hb)
    have n2_ := am (blk_below (bmv BK440.out) hb)
    have n3_ := am (below_step (wmv HB.out) hb)
    have n4_ := am (hbox)
    have n5_ := am ((by rw [hg]; exact (below_size (wmv HB.out)) : w.heap.size ≤ gb447))
    have n6_ := am ((by rw [hg]; exact (below_size (wmv HB.out)) : w.heap.size ≤ gb447))
    have n7_ := am ((by rw [hg]; exact Nat.ne_of_lt (blk_lt (bmv BK438.out)) : gb438 ≠ gb447))
    have n8_ := am ((by rw [hg]; exact Nat.ne_of_gt (blk_lt (bmv BK438.out)) : gb447 ≠ gb438))
    have n9_ := am ((by rw [hg]; exact Nat.ne_of_lt (blk_lt (bmv BK439.out)) : gb439 ≠ gb447))
    have n10_ := am ((by rw [hg]; exact Nat.ne_of_gt (blk_lt (bmv BK439.out)) : gb447 ≠ gb439))
    have n11_ := am ((by rw [hg]; exact Nat.ne_of_lt (blk_lt (bmv BK440.out)) : gb440 ≠ gb447))
    have n12_ := am ((by rw [hg]; exact Nat.ne_of_gt (blk_lt (bmv BK440.out)) : gb447 ≠ gb440))
    clear BK438 BK439 BK440 HB
    revert n0_ n1_ n2_ n3_ n4_ n5_ n6_ n7_ n8_ n9_ n10_ n11_ n12_
    intro BK438 BK439 BK440 HB BK447 GW447 GE447 NB438_447 NB447_438 NB439_447 NB447_439 NB440_447 NB447_440
    clear hb hbox hg
    refine hK.out _ _ ⟨bc BK438 0, bc BK438 1, bc BK438 2, bc BK438 3, bc BK438 4, bc BK439 0, bc BK439 1, bc BK439 2, bc BK439 3, bc BK439 4⟩ (fun hHeld => ?_)
    clear hK K
    refine nm ?_
    refine zo 0 (some 7) (bb 12 1527) HT_ (fun K hK => ?_)
    refine Kd.R_lit_step (Kd.int .i64) _ 3 ?hg (N := 7) ?hd (xs := ([] : List Int)) (inner := []) (ok := fun _ => True) (okp := fun _ => True) ?hr ?hp (fun _ hk => hk) trivial (Below.refl _ _) (Nat.le_refl _) (by simp) ?_; (case hd => rfl); (case hg => rfl); (case hr => first | (go_simp; done) | (go_simp; rfl)); (case hp => exact (Reps.none _ _))
    intro v442 w9 ho10 hb hg_ hnew_
    clear hg_ hnew_
    (first | rw [← Ny441.out] at ho10 | (simp only [Int.reduceToNat] at ho10; rw [← Ny441.out] at ho10))
    have n0_ := am (Kd.R_lower ho10 (below_size (wmv HB.out)))
    have n1_ := am (blk_below (bmv BK438.out) hb)
    have n2_ := am (blk_below (bmv BK439.out) hb)
    have n3_ := am (blk_below (bmv BK440.out) hb)
    have n4_ := am (blk_below (bmv BK447.out) hb)
    have n5_ := am (below_step (wmv HB.out) hb)
    clear BK438 BK439 BK440 BK447 HB
    revert n0_ n1_ n2_ n3_ n4_ n5_
    intro HO443 BK438 BK439 BK440 BK447 HB
    clear hb ho10
    refine hK.out _ _ ⟨bc BK438 0, bc BK438 1, bc BK438 2, bc BK438 3, bc BK438 4, bc BK439 0, bc BK439 1, bc BK439 2, bc BK439 3, bc BK439 4⟩ (fun hHeld => ?_)
    clear hK K
    refine nm ?_
    refine zo 3 (some 10) (bb 12 1535) HT_ (fun K hK => ?_)
    refine Kd.R_append_rows_step (Kd.int .i64) (w0 := w) w.heap.size (by rfl) (.tmp 7) (.tmp 9) 22 3 (.int .i64 0) 8 rfl Try.underlying22 info3 rfl (by decide) (by omega) v442 y441 l0_0 _ _ _ (fun _ => True) (fun _ => False) rfl rfl ?aO ?aR (fun _ _ h => h) (fun _ h => h.elim) ?aF ?aB ?aS ?aL ?_
    (case aR => exact Kd.Cw HR0_0.out HB.out)
    (case aB => exact (wmv HB.out))
    (case aF => exact (fun _ _ => trivial))
    (case aO => exact (Kd.R_mv HO443.out))
    (case aS => exact (below_size (wmv HB.out)))
    (case aL => have := LMc3.out; omega)
    intro v445 w11 ho hb hg hat
    rw [← Ny444.out] at ho
    have n0_ := am (blk_grown (bmv BK438.out) hg (Kd.R_ne HO443.out BK438.out (by decide)))
    have n1_ := am (blk_grown (bmv BK439.out) hg (Kd.R_ne HO443.out BK439.out (by decide)))
    have n2_ := am (blk_grown (bmv BK440.out) hg (Kd.R_ne HO443.out BK440.out (by decide)))
    have n3_ := am (blk_grown (bmv BK447.out) hg (Kd.R_ne HO443.out BK447.out (by decide)))
    have n4_ := am (hb)
    have n5_ := am (ho)
    clear BK438 BK439 BK440 BK447 HB HO443
    revert n0_ n1_ n2_ n3_ n4_ n5_
    intro BK438 BK439 BK440 BK447 HB HO446
    clear ho hb hg hat
    obtain ⟨Ao12, co12, eo12⟩ := Kd.R_slice HO446.out
    (first | subst eo12 | (injection eo12 with f1_ f2_ f3_; have f4_ := f1_.symm; have f5_ := f3_.symm; clear f1_ f2_ f3_; subst f4_; subst f5_))
    refine hK.out _ _ ⟨bc BK438 0, bc BK438 1, bc BK438 2, bc BK438 3, bc BK438 4, bc BK439 0, bc BK439 1, bc BK439 2, bc BK439 3, bc BK439 4⟩ (fun hHeld => ?_)
    clear hK K
    refine nm ?_
    refine zu 9 (some 16) (bb 12 2047) HT_ ?_
    exact norm_ (by simp only [putAll, Act.put, List.setIfInBounds_toArray, List.set_cons_zero, List.set_cons_succ]) (hCont (v442, .slice Ao12 y444.length co12, gb447) _ ⟨hHeld, (Kd.R_mv HO446.out), (bmv BK438.out), (bmv BK439.out), (bmv BK440.out), (bmv BK447.out), GW447.out, GE447.out, NB438_447.out, NB447_438.out, NB439_447.out, NB447_439.out, NB440_447.out, NB447_440.out, (wmv HB.out)⟩)
  rintro ⟨v442, v445, gb447⟩ w13 ⟨hS_, h0_, h1_, h2_, h3_, h4_, h5_, h6_, h7_, h8_, h9_, h10_, h11_, h12_, h13_⟩
  have n0_ : Aside0 (Kd.R (Kd.int .i64) 3 w13 w.heap.size (fun _ => True) v445 y444) := ⟨h0_⟩
  have n1_ : Aside0 (w13.heap[gb438]? = some (.cells #[.slice A0_0 l0_0.length c0_0, .int .i64 a0_1, .slice A0_2 l0_2.length c0_2, .slice A0_3 l0_3.length c0_3, .slice A0_4 l0_4.length c0_4] 30 (0, 0))) := ⟨h1_⟩
  have n2_ : Aside0 (w13.heap[gb439]? = some (.cells #[.slice A1_0 l1_0.length c1_0, .int .i64 a1_1, .slice A1_2 l1_2.length c1_2, .slice A1_3 l1_3.length c1_3, .slice A1_4 l1_4.length c1_4] 30 (0, 0))) := ⟨h2_⟩
  have n3_ : Aside0 (w13.heap[gb440]? = some (.cells #[.slice none 0 0, .int .i64 0, .slice none 0 0, .slice none 0 0, .slice none 0 0] 30 (0, 0))) := ⟨h3_⟩
  have n4_ : Aside0 (w13.heap[gb447]? = some (.cells #[.slice none 0 0, .int .i64 0, .slice none 0 0, .slice none 0 0, .slice none 0 0] 30 (0, 0))) := ⟨h4_⟩
  have n5_ : Aside0 (w.heap.size ≤ gb447) := ⟨h5_⟩
  have n6_ : Aside0 (w.heap.size ≤ gb447) := ⟨h6_⟩
  have n7_ : Aside0 (gb438 ≠ gb447) := ⟨h7_⟩
  have n8_ : Aside0 (gb447 ≠ gb438) := ⟨h8_⟩
  have n9_ : Aside0 (gb439 ≠ gb447) := ⟨h9_⟩
  have n10_ : Aside0 (gb447 ≠ gb439) := ⟨h10_⟩
  have n11_ : Aside0 (gb440 ≠ gb447) := ⟨h11_⟩
  have n12_ : Aside0 (gb447 ≠ gb440) := ⟨h12_⟩
  have n13_ : Aside0 (Below w.heap.size w w13) := ⟨h13_⟩
  clear BK438
  clear BK439
  clear BK440
  clear HB
  clear h0_ h1_ h2_ h3_ h4_ h5_ h6_ h7_ h8_ h9_ h10_ h11_ h12_ h13_
  revert n0_ n1_ n2_ n3_ n4_ n5_ n6_ n7_ n8_ n9_ n10_ n11_ n12_ n13_
  intro HO446 BK438 BK439 BK440 BK447 GW447 GE447 NB438_447 NB447_438 NB439_447 NB447_439 NB440_447 NB447_440 HB
  have hHeld : w13.cell? ⟨gb438, 0, none⟩ = some (.slice A0_0 l0_0.length c0_0) ∧ w13.cell? ⟨gb438, 1, none⟩ = some (.int .i64 a0_1) ∧ w13.cell? ⟨gb438, 2, none⟩ = some (.slice A0_2 l0_2.length c0_2) ∧ w13.cell? ⟨gb438, 3, none⟩ = some (.slice A0_3 l0_3.length c0_3) ∧ w13.cell? ⟨gb438, 4, none⟩ = some (.slice A0_4 l0_4.length c0_4) ∧ w13.cell? ⟨gb439, 0, none⟩ = some (.slice A1_0 l1_0.length c1_0) ∧ w13.cell? ⟨gb439, 1, none⟩ = some (.int .i64 a1_1) ∧ w13.cell? ⟨gb439, 2, none⟩ = some (.slice A1_2 l1_2.length c1_2) ∧ w13.cell? ⟨gb439, 3, none⟩ = some (.slice A1_3 l1_3.length c1_3) ∧ w13.cell? ⟨gb439, 4, none⟩ = some (.slice A1_4 l1_4.length c1_4) := hS_
  obtain ⟨Ao14, co14, eo14⟩ := Kd.R_slice HO446.out
  (first | subst eo14 | (injection eo14 with f1_ f2_ f3_; have f4_ := f1_.symm; have f5_ := f3_.symm; clear f1_ f2_ f3_; subst f4_; subst f5_))
  refine norm_ (a' := ?_) ?_ ?_
  rotate_left
  ·simp only [putAll, Act.put, List.setIfInBounds_toArray, List.set_cons_zero, List.set_cons_succ]
   rfl
  refine zo 11 none (bb 12 4095) HT_ (fun K hK => ?_)
  have hs15 : w13.cell? ⟨gb447, 0, none⟩ = some (.slice none 0 0) := (blk_cell BK447.out 0).trans rfl
  have hfs15 := blk_frozen BK447.out 0
  have hns15_0 := NB438_447.out
  have hns15_1 := NB439_447.out
  have hns15_2 := NB440_447.out
  have hms15_0 := NB447_438.out
  have hms15_1 := NB447_439.out
  have hms15_2 := NB447_440.out
  have hs16 : w13.cell? ⟨gb447, 1, none⟩ = some (.int .i64 0) := (blk_cell BK447.out 1).trans rfl
  have hfs16 := blk_frozen BK447.out 1
  have hns16_0 := NB438_447.out
  have hns16_1 := NB439_447.out
  have hns16_2 := NB440_447.out
  have hms16_0 := NB447_438.out
  have hms16_1 := NB447_439.out
  have hms16_2 := NB447_440.out
  have hs17 : w13.cell? ⟨gb447, 2, none⟩ = some (.slice none 0 0) := (blk_cell BK447.out 2).trans rfl
  have hfs17 := blk_frozen BK447.out 2
  have hns17_0 := NB438_447.out
  have hns17_1 := NB439_447.out
  have hns17_2 := NB440_447.out
  have hms17_0 := NB447_438.out
  have hms17_1 := NB447_439.out
  have hms17_2 := NB447_440.out
  have hs18 : w13.cell? ⟨gb447, 3, none⟩ = some (.slice none 0 0) := (blk_cell BK447.out 3).trans rfl
  have hfs18 := blk_frozen BK447.out 3
  have hns18_0 := NB438_447.out
  have hns18_1 := NB439_447.out
  have hns18_2 := NB440_447.out
  have hms18_0 := NB447_438.out
  have hms18_1 := NB447_439.out
  have hms18_2 := NB447_440.out
  have hs19 : w13.cell? ⟨gb447, 4, none⟩ = some (.slice none 0 0) := (blk_cell BK447.out 4).trans rfl
  have hfs19 := blk_frozen BK447.out 4
  have hns19_0 := NB438_447.out
  have hns19_1 := NB439_447.out
  have hns19_2 := NB440_447.out
  have hms19_0 := NB447_438.out
  have hms19_1 := NB447_439.out
  have hms19_2 := NB447_440.out
  refine skip_ (w1 := ?_) (by rfl) rfl ?_ ?_
  rotate_left
  ·go_simp
   rfl
  refine hK.out _ _ ⟨((cell_far (p := ⟨gb447, _, none⟩) NB438_447.out _).trans (((cell_far (p := ⟨gb447, _, none⟩) NB438_447.out _).trans (((cell_far (p := ⟨gb447, _, none⟩) NB438_447.out _).trans (((cell_far (p := ⟨gb447, _, none⟩) NB438_447.out _).trans (((cell_far (p := ⟨gb447, _, none⟩) NB438_447.out _).trans (hHeld.1)))))))))), ((cell_far (p := ⟨gb447, _, none⟩) NB438_447.out _).trans (((cell_far (p := ⟨gb447, _, none⟩) NB438_447.out _).trans (((cell_far (p := ⟨gb447, _, none⟩) NB438_447.out _).trans (((cell_far (p := ⟨gb447, _, none⟩) NB438_447.out _).trans (((cell_far (p := ⟨gb447, _, none⟩) NB438_447.out _).trans (hHeld.2.1)))))))))), ((cell_far (p := ⟨gb447, _, none⟩) NB438_447.out _).trans (((cell_far (p := ⟨gb447, _, none⟩) NB438_447.out _).trans (((cell_far (p := ⟨gb447, _, none⟩) NB438_447.out _).trans (((cell_far (p := ⟨gb447, _, none⟩) NB438_447.out _).trans (((cell_far (p := ⟨gb447, _, none⟩) NB438_447.out _).trans (hHeld.2.2.1)))))))))), ((cell_far (p := ⟨gb447, _, none⟩) NB438_447.out _).trans (((cell_far (p := ⟨gb447, _, none⟩) NB438_447.out _).trans (((cell_far (p := ⟨gb447, _, none⟩) NB438_447.out _).trans (((cell_far (p := ⟨gb447, _, none⟩) NB438_447.out _).trans (((cell_far (p := ⟨gb447, _, none⟩) NB438_447.out _).trans (hHeld.2.2.2.1)))))))))), ((cell_far (p := ⟨gb447, _, none⟩) NB438_447.out _).trans (((cell_far (p := ⟨gb447, _, none⟩) NB438_447.out _).trans (((cell_far (p := ⟨gb447, _, none⟩) NB438_447.out _).trans (((cell_far (p := ⟨gb447, _, none⟩) NB438_447.out _).trans (((cell_far (p := ⟨gb447, _, none⟩) NB438_447.out _).trans (hHeld.2.2.2.2.1)))))))))), ((cell_far (p := ⟨gb447, _, none⟩) NB439_447.out _).trans (((cell_far (p := ⟨gb447, _, none⟩) NB439_447.out _).trans (((cell_far (p := ⟨gb447, _, none⟩) NB439_447.out _).trans (((cell_far (p := ⟨gb447, _, none⟩) NB439_447.out _).trans (((cell_far (p := ⟨gb447, _, none⟩) NB439_447.out _).trans (hHeld.2.2.2.2.2.1)))))))))), ((cell_far (p := ⟨gb447, _, none⟩) NB439_447.out _).trans (((cell_far (p := ⟨gb447, _, none⟩) NB439_447.out _).trans (((cell_far (p := ⟨gb447, _, none⟩) NB439_447.out _).trans (((cell_far (p := ⟨gb447, _, none⟩) NB439_447.out _).trans (((cell_far (p := ⟨gb447, _, none⟩) NB439_447.out _).trans (hHeld.2.2.2.2.2.2.1)))))))))), ((cell_far (p := ⟨gb447, _, none⟩) NB439_447.out _).trans (((cell_far (p := ⟨gb447, _, none⟩) NB439_447.out _).trans (((cell_far (p := ⟨gb447, _, none⟩) NB439_447.out _).trans (((cell_far (p := ⟨gb447, _, none⟩) NB439_447.out _).trans (((cell_far (p := ⟨gb447, _, none⟩) NB439_447.out _).trans (hHeld.2.2.2.2.2.2.2.1)))))))))), ((cell_far (p := ⟨gb447, _, none⟩) NB439_447.out _).trans (((cell_far (p := ⟨gb447, _, none⟩) NB439_447.out _).trans (((cell_far (p := ⟨gb447, _, none⟩) NB439_447.out _).trans (((cell_far (p := ⟨gb447, _, none⟩) NB439_447.out _).trans (((cell_far (p := ⟨gb447, _, none⟩) NB439_447.out _).trans (hHeld.2.2.2.2.2.2.2.2.1)))))))))), ((cell_far (p := ⟨gb447, _, none⟩) NB439_447.out _).trans (((cell_far (p := ⟨gb447, _, none⟩) NB439_447.out _).trans (((cell_far (p := ⟨gb447, _, none⟩) NB439_447.out _).trans (((cell_far (p := ⟨gb447, _, none⟩) NB439_447.out _).trans (((cell_far (p := ⟨gb447, _, none⟩) NB439_447.out _).trans (hHeld.2.2.2.2.2.2.2.2.2))))))))))⟩ (fun hHeld => ?_)
  clear hK K
  refine done_ (done_of HT_.out (by kernel_rfl)) ?_
  try go_wp2
  go_loopg [6] k (fun kq v6 w' => ∃ (x6_1 : Int) (x448002_1 : List Int) (x448003_1 : List Int) (x448004_1 : List Int) (u448002 : Value) (u448003 : Value) (u448004 : Value), v6 = .int .i64 x6_1 ∧ Aside0 (hypercuberef2_Join.l0 kq x6_1 l0_0 a0_1 l0_2 l0_3 l0_4 l1_0 a1_1 l1_2 l1_3 l1_4 y444 (wrap64 (a0_1 + a1_1)) x448002_1 x448003_1 x448004_1 = some (r1, r2, r3, r4, r5)) ∧ Aside0 (kq ≤ k) ∧ Aside0 (Kd.R (Kd.int .i64) 3 w' w.heap.size (fun k_ => some k_ ≠ (u448002 : Value).ownBlock ∧ some k_ ≠ (u448003 : Value).ownBlock ∧ some k_ ≠ (u448004 : Value).ownBlock) (.slice Ao14 y444.length co14) y444) ∧ Aside0 (Kd.R (Kd.int .i64) 3 w' w.heap.size (fun k_ => some k_ ≠ ((.slice Ao14 y444.length co14) : Value).ownBlock ∧ some k_ ≠ (u448003 : Value).ownBlock ∧ some k_ ≠ (u448004 : Value).ownBlock) u448002 x448002_1) ∧ Aside0 (Kd.R (Kd.int .i64) 3 w' w.heap.size (fun k_ => some k_ ≠ ((.slice Ao14 y444.length co14) : Value).ownBlock ∧ some k_ ≠ (u448002 : Value).ownBlock ∧ some k_ ≠ (u448004 : Value).ownBlock) u448003 x448003_1) ∧ Aside0 (Kd.R (Kd.int .i64) 3 w' w.heap.size (fun k_ => some k_ ≠ ((.slice Ao14 y444.length co14) : Value).ownBlock ∧ some k_ ≠ (u448002 : Value).ownBlock ∧ some k_ ≠ (u448003 : Value).ownBlock) u448004 x448004_1) ∧ Aside0 (w'.heap[gb438]? = some (.cells #[(.slice A0_0 l0_0.length c0_0), .int .i64 a0_1, (.slice A0_2 l0_2.length c0_2), (.slice A0_3 l0_3.length c0_3), (.slice A0_4 l0_4.length c0_4)] 30 (0, 0))) ∧ Aside0 (w'.heap[gb439]? = some (.cells #[(.slice A1_0 l1_0.length c1_0), .int .i64 a1_1, (.slice A1_2 l1_2.length c1_2), (.slice A1_3 l1_3.length c1_3), (.slice A1_4 l1_4.length c1_4)] 30 (0, 0))) ∧ Aside0 (w'.heap[gb440]? = some (.cells #[(.slice none 0 0), .int .i64 0, (.slice none 0 0), (.slice none 0 0), (.slice none 0 0)] 30 (0, 0))) ∧ Aside0 (w'.heap[gb447]? = some (.cells #[(.slice Ao14 y444.length co14), .int .i64 (wrap64 (a0_1 + a1_1)), u448002, u448003, u448004] 30 (0, 0))) ∧ Aside0 (Below w.heap.size w w'))
  case atStart => exact ⟨(0), (([] : List Int)), (([] : List Int)), (([] : List Int)), (.slice none 0 0), (.slice none 0 0), (.slice none 0 0), zz, H', ⟨Nat.le_refl _⟩, ⟨by refine zr ?_; exact Kd.R_mono (Kd.R_far (p := ⟨gb447, 4, none⟩) (Kd.R_far (p := ⟨gb447, 3, none⟩) (Kd.R_far (p := ⟨gb447, 2, none⟩) (Kd.R_far (p := ⟨gb447, 1, none⟩) (Kd.R_far (p := ⟨gb447, 0, none⟩) (Kd.R_types HO446.out BK447.out (by decide)) (fun _ hk => hk.2) (.slice Ao14 y444.length co14)) (fun _ hk => hk.2) (.int .i64 (wrap64 (a0_1 + a1_1)))) (fun _ hk => hk.2) (.slice none 0 0)) (fun _ hk => hk.2) (.slice none 0 0)) (fun _ hk => hk.2) (.slice none 0 0)) (fun _ hk => ⟨(by simp [Value.ownBlock]), ⟨(by simp [Value.ownBlock]), (by simp [Value.ownBlock])⟩⟩)⟩, ⟨by first | exact Kd.R_nil _ _ _ _ _ | exact Kd.N_nil _ _ _ _ _ | exact Kd.V_nil _ _ _ _ _ | exact Kd.Q_nil _ _ _ _ _ | exact Kd.S_nil _ _ _ _ _⟩, ⟨by first | exact Kd.R_nil _ _ _ _ _ | exact Kd.N_nil _ _ _ _ _ | exact Kd.V_nil _ _ _ _ _ | exact Kd.Q_nil _ _ _ _ _ | exact Kd.S_nil _ _ _ _ _⟩, ⟨by first | exact Kd.R_nil _ _ _ _ _ | exact Kd.N_nil _ _ _ _ _ | exact Kd.V_nil _ _ _ _ _ | exact Kd.Q_nil _ _ _ _ _ | exact Kd.S_nil _ _ _ _ _⟩, ⟨by refine zq ?_; refine blk_far ?_ NB438_447.out _; refine zq ?_; refine blk_far ?_ NB438_447.out _; refine zq ?_; refine blk_far ?_ NB438_447.out _; refine zq ?_; refine blk_far ?_ NB438_447.out _; refine zq ?_; refine blk_far ?_ NB438_447.out _; refine zq ?_; exact BK438.out⟩, ⟨by refine zq ?_; refine blk_far ?_ NB439_447.out _; refine zq ?_; refine blk_far ?_ NB439_447.out _; refine zq ?_; refine blk_far ?_ NB439_447.out _; refine zq ?_; refine blk_far ?_ NB439_447.out _; refine zq ?_; refine blk_far ?_ NB439_447.out _; refine zq ?_; exact BK439.out⟩, ⟨by refine zq ?_; refine blk_far ?_ NB440_447.out _; refine zq ?_; refine blk_far ?_ NB440_447.out _; refine zq ?_; refine blk_far ?_ NB440_447.out _; refine zq ?_; refine blk_far ?_ NB440_447.out _; refine zq ?_; refine blk_far ?_ NB440_447.out _; refine zq ?_; exact BK440.out⟩, ⟨by refine zq ?_; refine blk_put (cs := #[.slice Ao14 y444.length co14, .int .i64 (wrap64 (a0_1 + a1_1)), .slice none 0 0, .slice none 0 0, .slice none 0 0]) ?_ 4 _ rfl; refine zq ?_; refine blk_put (cs := #[.slice Ao14 y444.length co14, .int .i64 (wrap64 (a0_1 + a1_1)), .slice none 0 0, .slice none 0 0, .slice none 0 0]) ?_ 3 _ rfl; refine zq ?_; refine blk_put (cs := #[.slice Ao14 y444.length co14, .int .i64 (wrap64 (a0_1 + a1_1)), .slice none 0 0, .slice none 0 0, .slice none 0 0]) ?_ 2 _ rfl; refine zq ?_; refine blk_put (cs := #[.slice Ao14 y444.length co14, .int .i64 0, .slice none 0 0, .slice none 0 0, .slice none 0 0]) ?_ 1 _ rfl; refine zq ?_; refine blk_put (cs := #[.slice none 0 0, .int .i64 0, .slice none 0 0, .slice none 0 0, .slice none 0 0]) ?_ 0 _ rfl; refine zq ?_; exact BK447.out⟩, ⟨zw HB⟩⟩
  case round =>
   clear H'
   try clear c1
   try clear p2
   try clear c3
   try clear p6
   obtain ⟨x6_1, x448002_1, x448003_1, x448004_1, u448002, u448003, u448004, rfl, HA, HK1, HO_448000, HO_448002, HO_448003, HO_448004, BK438, BK439, BK440, BK447, HB⟩ := hrel
   cases gk with
   | zero => exact absurd HA.out (by simp [hypercuberef2_Join.l0])
   | succ k1 =>
    have H := HA.out
    clear HA
    simp only [hypercuberef2_Join.l0] at H
    by_cases c20 : x6_1 < (l0_2.length : Int)
    ·rw [if_pos c20] at H
     have c20b0 : decide (x6_1 < (l0_2.length : Int)) = true := decide_eq_true c20
     clear c20
     by_cases c21 : 0 ≤ x6_1
     ·rw [if_pos c21] at H
      have c21b0 : decide (0 ≤ x6_1) = true := decide_eq_true c21
      clear c21
      by_cases c22 : x6_1 < (l1_2.length : Int)
      ·rw [if_pos c22] at H
       have c22b0 : decide (x6_1 < (l1_2.length : Int)) = true := decide_eq_true c22
       clear c22
       by_cases c23 : x448002_1.length < 17592186044416
       ·rw [if_pos c23] at H
        have LMc23 := am c23
        clear c23
        obtain ⟨y450, hy450⟩ : ∃ y_ : List Int, y_ = (x448002_1 ++ [wrap64 ((rd l0_2 x6_1) + (rd l1_2 x6_1))]) := ⟨_, rfl⟩
        replace H : (if x6_1 < (l0_3.length : Int) then (if x6_1 < (l1_3.length : Int) then (if x448003_1.length < 17592186044416 then (if x6_1 < (l0_4.length : Int) then (if x6_1 < (l1_4.length : Int) then (if x448004_1.length < 17592186044416 then (hypercuberef2_Join.l0 k1 (wrap64 (x6_1 + 1)) l0_0 a0_1 l0_2 l0_3 l0_4 l1_0 a1_1 l1_2 l1_3 l1_4 y444 (wrap64 (a0_1 + a1_1)) y450 (x448003_1 ++ [mn (rd l0_3 x6_1) (rd l1_3 x6_1)]) (x448004_1 ++ [mx (rd l0_4 x6_1) (rd l1_4 x6_1)])) else (none)) else (none)) else (none)) else (none)) else (none)) else (none)) = some (r1, r2, r3, r4, r5) := by rw [hy450]; with_reducible exact H
        have Ny450 := am hy450
        clear hy450
        by_cases c24 : x6_1 < (l0_3.length : Int)
        ·rw [if_pos c24] at H
         have c24b0 : decide (x6_1 < (l0_3.length : Int)) = true := decide_eq_true c24
         clear c24
         by_cases c25 : x6_1 < (l1_3.length : Int)
         ·rw [if_pos c25] at H
          have c25b0 : decide (x6_1 < (l1_3.length : Int)) = true := decide_eq_true c25
          clear c25
          obtain ⟨ji26, hji26⟩ : ∃ j_ : Int, (mn (rd l0_3 x6_1) (rd l1_3 x6_1)) = j_ := ⟨_, rfl⟩
          replace H : (if x448003_1.length < 17592186044416 then (if x6_1 < (l0_4.length : Int) then (if x6_1 < (l1_4.length : Int) then (if x448004_1.length < 17592186044416 then (hypercuberef2_Join.l0 k1 (wrap64 (x6_1 + 1)) l0_0 a0_1 l0_2 l0_3 l0_4 l1_0 a1_1 l1_2 l1_3 l1_4 y444 (wrap64 (a0_1 + a1_1)) y450 (x448003_1 ++ [ji26]) (x448004_1 ++ [mx (rd l0_4 x6_1) (rd l1_4 x6_1)])) else (none)) else (none)) else (none)) else (none)) = some (r1, r2, r3, r4, r5) := by first | (rw [hji26] at H; exact H) | (simp only [hji26] at H ⊢; exact H)
          have hji26_ : (if (rd l1_3 x6_1) < (rd l0_3 x6_1) then (rd l1_3 x6_1) else (rd l0_3 x6_1)) = ji26 := hji26
          by_cases c27 : x448003_1.length < 17592186044416
          ·rw [if_pos c27] at H
           have LMc27 := am c27
           clear c27
           obtain ⟨y455, hy455⟩ : ∃ y_ : List Int, y_ = (x448003_1 ++ [ji26]) := ⟨_, rfl⟩
           replace H : (if x6_1 < (l0_4.length : Int) then (if x6_1 < (l1_4.length : Int) then (if x448004_1.length < 17592186044416 then (hypercuberef2_Join.l0 k1 (wrap64 (x6_1 + 1)) l0_0 a0_1 l0_2 l0_3 l0_4 l1_0 a1_1 l1_2 l1_3 l1_4 y444 (wrap64 (a0_1 + a1_1)) y450 y455 (x448004_1 ++ [mx (rd l0_4 x6_1) (rd l1_4 x6_1)])) else (none)) else (none)) else (none)) = some (r1, r2, r3, r4, r5) := by rw [hy455]; with_reducible exact H
           have Ny455 := am hy455
           clear hy455
           by_cases c28 : x6_1 < (l0_4.length : Int)
           ·rw [if_pos c28] at H
            have c28b0 : decide (x6_1 < (l0_4.length : Int)) = true := decide_eq_true c28
            clear c28
            by_cases c29 : x6_1 < (l1_4.length : Int)
            ·rw [if_pos c29] at H
             have c29b0 : decide (x6_1 < (l1_4.length : Int)) = true := decide_eq_true c29
             clear c29
             obtain ⟨ji30, hji30⟩ : ∃ j_ : Int, (mx (rd l0_4 x6_1) (rd l1_4 x6_1)) = j_ := ⟨_, rfl⟩
             replace H : (if x448004_1.length < 17592186044416 then (hypercuberef2_Join.l0 k1 (wrap64 (x6_1 + 1)) l0_0 a0_1 l0_2 l0_3 l0_4 l1_0 a1_1 l1_2 l1_3 l1_4 y444 (wrap64 (a0_1 + a1_1)) y450 y455 (x448004_1 ++ [ji30])) else (none)) = some (r1, r2, r3, r4, r5) := by first | (rw [hji30] at H; exact H) | (simp only [hji30] at H ⊢; exact H)
             have hji30_ : (if (rd l0_4 x6_1) < (rd l1_4 x6_1) then (rd l1_4 x6_1) else (rd l0_4 x6_1)) = ji30 := hji30
             by_cases c31 : x448004_1.length < 17592186044416
             ·rw [if_pos c31] at H
              have LMc31 := am c31
              clear c31
              obtain ⟨y460, hy460⟩ : ∃ y_ : List Int, y_ = (x448004_1 ++ [ji30]) := ⟨_, rfl⟩
              replace H : (hypercuberef2_Join.l0 k1 (wrap64 (x6_1 + 1)) l0_0 a0_1 l0_2 l0_3 l0_4 l1_0 a1_1 l1_2 l1_3 l1_4 y444 (wrap64 (a0_1 + a1_1)) y450 y455 y460) = some (r1, r2, r3, r4, r5) := by rw [hy460]; with_reducible exact H
              have Ny460 := am hy460
              clear hy460
              have H' := am H
              clear H
              have hnb32 := NB438_439.out
              have hnc32 := NB439_438.out
              have hnb33 := NB438_440.out
              have hnc33 := NB440_438.out
              have hnb34 := NB438_447.out
              have hnc34 := NB447_438.out
              have hcz35_0 : wr.cell? ⟨gb438, 0, none⟩ = some (.slice A0_0 l0_0.length c0_0) := (blk_cell BK438.out 0).trans rfl
              have hcz35_1 : wr.cell? ⟨gb438, 1, none⟩ = some (.int .i64 a0_1) := (blk_cell BK438.out 1).trans rfl
              have hcz35_2 : wr.cell? ⟨gb438, 2, none⟩ = some (.slice A0_2 l0_2.length c0_2) := (blk_cell BK438.out 2).trans rfl
              have hcz35_3 : wr.cell? ⟨gb438, 3, none⟩ = some (.slice A0_3 l0_3.length c0_3) := (blk_cell BK438.out 3).trans rfl
              have hcz35_4 : wr.cell? ⟨gb438, 4, none⟩ = some (.slice A0_4 l0_4.length c0_4) := (blk_cell BK438.out 4).trans rfl
              have hfz35_0 := blk_frozen BK438.out 0
              have hfz35_1 := blk_frozen BK438.out 1
              have hfz35_2 := blk_frozen BK438.out 2
              have hfz35_3 := blk_frozen BK438.out 3
              have hfz35_4 := blk_frozen BK438.out 4
              try go_wp2
              have n0_ := am (Kd.R_drew HO_448000.out)
              have n1_ := am (Kd.R_drew HO_448002.out)
              have n2_ := am (Kd.R_drew HO_448003.out)
              have n3_ := am (Kd.R_drew HO_448004.out)
              have n4_ := am (blk_drew BK438.out)
              have n5_ := am (blk_drew BK439.out)
              have n6_ := am (blk_drew BK440.out)
              have n7_ := am (blk_drew BK447.out)
              have n8_ := am (below_drew1 HB.out)
              clear HO_448000 HO_448002 HO_448003 HO_448004 BK438 BK439 BK440 BK447 HB
              revert n0_ n1_ n2_ n3_ n4_ n5_ n6_ n7_ n8_
              intro HO_448000 HO_448002 HO_448003 HO_448004 BK438 BK439 BK440 BK447 HB
              have p448 : 0 ≤ (x6_1 : Int) := zd
              have q448 : x6_1 < (l0_2.length : Int) := zd
              obtain ⟨ad448, e448, hx448_0⟩ := Kd.at_int HR0_2.out x6_1 p448 q448
              have hw448_0 := hx448_0
              cases e448
              replace hx448_0 := zc HB hx448_0
              replace p448 := eq_true p448
              replace q448 := eq_true q448
              have p449 : 0 ≤ (x6_1 : Int) := zd
              have q449 : x6_1 < (l1_2.length : Int) := zd
              obtain ⟨ad449, e449, hx449_0⟩ := Kd.at_int HR1_2.out x6_1 p449 q449
              have hw449_0 := hx449_0
              cases e449
              replace hx449_0 := zc HB hx449_0
              replace p449 := eq_true p449
              replace q449 := eq_true q449
              refine start_ (n := 17) (S := fun w' => w'.cell? ⟨gb447, 0, none⟩ = some (.slice Ao14 y444.length co14) ∧ w'.cell? ⟨gb447, 1, none⟩ = some (.int .i64 (wrap64 (a0_1 + a1_1))) ∧ w'.cell? ⟨gb447, 2, none⟩ = some (u448002) ∧ w'.cell? ⟨gb447, 3, none⟩ = some (u448003) ∧ w'.cell? ⟨gb447, 4, none⟩ = some (u448004) ∧ w'.cell? ⟨gb438, 0, none⟩ = some (.slice A0_0 l0_0.length c0_0) ∧ w'.cell? ⟨gb438, 1, none⟩ = some (.int .i64 a0_1) ∧ w'.cell? ⟨gb438, 2, none⟩ = some (.slice (some ad448) l0_2.length c0_2) ∧ w'.cell? ⟨gb438, 3, none⟩ = some (.slice A0_3 l0_3.length c0_3) ∧ w'.cell? ⟨gb438, 4, none⟩ = some (.slice A0_4 l0_4.length c0_4) ∧ w'.cell? ⟨gb439, 0, none⟩ = some (.slice A1_0 l1_0.length c1_0) ∧ w'.cell? ⟨gb439, 1, none⟩ = some (.int .i64 a1_1) ∧ w'.cell? ⟨gb439, 2, none⟩ = some (.slice (some ad449) l1_2.length c1_2) ∧ w'.cell? ⟨gb439, 3, none⟩ = some (.slice A1_3 l1_3.length c1_3) ∧ w'.cell? ⟨gb439, 4, none⟩ = some (.slice A1_4 l1_4.length c1_4) ∧ w'.cell? (ad448.add (x6_1).toNat) = some (.int .i64 (rd l0_2 x6_1)) ∧ w'.cell? (ad449.add (x6_1).toNat) = some (.int .i64 (rd l1_2 x6_1))) (ds := [16]) (bb 17 0) (by kernel_rfl) rfl rfl ⟨bc BK447 0, bc BK447 1, bc BK447 2, bc BK447 3, bc BK447 4, bc BK438 0, bc BK438 1, bc BK438 2, bc BK438 3, bc BK438 4, bc BK439 0, bc BK439 1, bc BK439 2, bc BK439 3, bc BK439 4, (zc HB hw448_0), (zc HB hw449_0)⟩ (fun hHeld => ?_); refine with_tabW hypercuberef2_Join.tab5 hypercuberef2_Join.bits5 (fun HT_ HW_ => ?_)
              generalize wr.drew = w36 at HO_448000 HO_448002 HO_448003 HO_448004 BK438 BK439 BK440 BK447 HB hx448_0 hx449_0 hHeld ⊢
              refine zu 0 (some 24) (bb 17 1) HT_ ?_
              refine zu 2 (some 26) (bb 17 5) HT_ ?_
              refine zu 4 (some 28) (bb 17 21) HT_ ?_
              refine zu 7 (some 31) (bb 17 149) HT_ ?_
              refine zu 9 (some 33) (bb 17 661) HT_ ?_
              refine zk 1 (some 25) (bb 17 663) HT_ HW_ hHeld ?_
              refine zk 3 (some 27) (bb 17 671) HT_ HW_ hHeld ?_
              refine zu 5 (some 29) (bb 17 703) HT_ ?_
              refine zk 6 (some 30) (bb 17 767) HT_ HW_ hHeld ?_
              refine zk 8 (some 32) (bb 17 1023) HT_ HW_ hHeld ?_
              refine zu 10 (some 34) (bb 17 2047) HT_ ?_
              refine zk 11 (some 35) (bb 17 4095) HT_ HW_ hHeld ?_
              refine zu 12 (some 36) (bb 17 8191) HT_ ?_
              refine zo 13 (some 37) (bb 17 16383) HT_ (fun K hK => ?_)
              refine value_ (w1 := ?_) (v := ?_) (by rfl) rfl ?_ ?_
              rotate_left 2
              ·go_simp
               constructor
               ·rfl
               ·rfl
              refine hK.out _ _ ⟨(blk_cell (blk_alloc BK447.out _) 0).trans rfl, (blk_cell (blk_alloc BK447.out _) 1).trans rfl, (blk_cell (blk_alloc BK447.out _) 2).trans rfl, (blk_cell (blk_alloc BK447.out _) 3).trans rfl, (blk_cell (blk_alloc BK447.out _) 4).trans rfl, (blk_cell (blk_alloc BK438.out _) 0).trans rfl, (blk_cell (blk_alloc BK438.out _) 1).trans rfl, (blk_cell (blk_alloc BK438.out _) 2).trans rfl, (blk_cell (blk_alloc BK438.out _) 3).trans rfl, (blk_cell (blk_alloc BK438.out _) 4).trans rfl, (blk_cell (blk_alloc BK439.out _) 0).trans rfl, (blk_cell (blk_alloc BK439.out _) 1).trans rfl, (blk_cell (blk_alloc BK439.out _) 2).trans rfl, (blk_cell (blk_alloc BK439.out _) 3).trans rfl, (blk_cell (blk_alloc BK439.out _) 4).trans rfl, (World.cell?_alloc_lt _ _ _ (World.block_lt_of_cell? _ _ ((zc HB hw448_0)))).trans ((zc HB hw448_0)), (World.cell?_alloc_lt _ _ _ (World.block_lt_of_cell? _ _ ((zc HB hw449_0)))).trans ((zc HB hw449_0))⟩ (fun hHeld => ?_)
              clear hK K
              refine nm ?_
              refine zo 14 (some 38) (bb 17 32767) HT_ (fun K hK => ?_)
              refine Kd.R_append_step (Kd.int .i64) (w0 := w) w.heap.size (by rfl) (.tmp 25) (.tmp 37) 22 3 (.int .i64 0) 8 rfl Try.underlying22 info3 rfl (by decide) (by omega) u448002 x448002_1 (wrap64 ((rd l0_2 x6_1) + (rd l1_2 x6_1))) [.int .i64 (wrap64 ((rd l0_2 x6_1) + (rd l1_2 x6_1)))] (fun k_ => some k_ ≠ (.slice Ao14 y444.length co14 : Value).ownBlock ∧ some k_ ≠ (u448003 : Value).ownBlock ∧ some k_ ≠ (u448004 : Value).ownBlock) (fun _ => False) rfl rfl ?aP (fun _ hk => hk.elim) ?aF ?aO ?aB ?aS ?aL ?_
              (case aP => exact rfl)
              (case aB => exact (wmv HB.out))
              (case aF => exact (fun k_ hk => ⟨Kd.fresh' (Kd.R_lt (Kd.R_mv HO_448000.out)) k_ hk, Kd.fresh' (Kd.R_lt (Kd.R_mv HO_448003.out)) k_ hk, Kd.fresh' (Kd.R_lt (Kd.R_mv HO_448004.out)) k_ hk⟩))
              (case aO => exact (Kd.R_mv HO_448002.out))
              (case aS => exact (below_size (wmv HB.out)))
              (case aL => have := LMc23.out; omega)
              intro v451 w37 ho hb hg hat
              rw [← Ny450.out] at ho
              have n0_ := am (Kd.R_after (ok := (fun k_ => some k_ ≠ (u448003 : Value).ownBlock ∧ some k_ ≠ (u448004 : Value).ownBlock)) (Kd.R_mv (Kd.R_mono HO_448000.out (fun _ hk => ⟨⟨hk.2.1, hk.2.2⟩, hk.1⟩))) hg hat)
              have n1_ := am (Kd.R_after (ok := (fun k_ => some k_ ≠ (.slice Ao14 y444.length co14 : Value).ownBlock ∧ some k_ ≠ (u448004 : Value).ownBlock)) (Kd.R_mv (Kd.R_mono HO_448003.out (fun _ hk => ⟨⟨hk.1, hk.2.2⟩, hk.2.1⟩))) hg hat)
              have n2_ := am (Kd.R_after (ok := (fun k_ => some k_ ≠ (.slice Ao14 y444.length co14 : Value).ownBlock ∧ some k_ ≠ (u448003 : Value).ownBlock)) (Kd.R_mv (Kd.R_mono HO_448004.out (fun _ hk => ⟨⟨hk.1, hk.2.2⟩, hk.2.1⟩))) hg hat)
              have n3_ := am (blk_grown (bmv BK438.out) hg (Kd.R_ne HO_448002.out BK438.out (by decide)))
              have n4_ := am (blk_grown (bmv BK439.out) hg (Kd.R_ne HO_448002.out BK439.out (by decide)))
              have n5_ := am (blk_grown (bmv BK440.out) hg (Kd.R_ne HO_448002.out BK440.out (by decide)))
              have n6_ := am (blk_grown (bmv BK447.out) hg (Kd.R_ne HO_448002.out BK447.out (by decide)))
              have n7_ := am (hb)
              have n8_ := am (ho)
              clear HO_448000 HO_448003 HO_448004 BK438 BK439 BK440 BK447 HB HO_448002
              revert n0_ n1_ n2_ n3_ n4_ n5_ n6_ n7_ n8_
              intro HO_448000 HO_448003 HO_448004 BK438 BK439 BK440 BK447 HB HO452
              clear ho hb hg hat
              obtain ⟨Ao38, co38, eo38⟩ := Kd.R_slice HO452.out
              (first | subst eo38 | (injection eo38 with f1_ f2_ f3_; have f4_ := f1_.symm; have f5_ := f3_.symm; clear f1_ f2_ f3_; subst f4_; subst f5_))
              refine hK.out _ _ ⟨bc BK447 0, bc BK447 1, bc BK447 2, bc BK447 3, bc BK447 4, bc BK438 0, bc BK438 1, bc BK438 2, bc BK438 3, bc BK438 4, bc BK439 0, bc BK439 1, bc BK439 2, bc BK439 3, bc BK439 4, (zc HB hw448_0), (zc HB hw449_0)⟩ (fun hHeld => ?_)
              clear hK K
              refine nm ?_
              refine zu 15 (some 39) (bb 17 65535) HT_ ?_
              refine last_ (i := 16) (N := none) (bb 17 131071) rfl rfl (one_of HT_.out (by kernel_rfl)) (by decide) (fun K hK => ?_)
              have hs39 : w37.cell? ⟨gb447, 2, none⟩ = some (u448002) := (blk_cell BK447.out 2).trans rfl
              have hfs39 := blk_frozen BK447.out 2
              have hns39_0 := NB438_447.out
              have hns39_1 := NB439_447.out
              have hns39_2 := NB440_447.out
              have hms39_0 := NB447_438.out
              have hms39_1 := NB447_439.out
              have hms39_2 := NB447_440.out
              refine skip_ (w1 := ?_) (by rfl) rfl ?_ ?_
              rotate_left
              ·go_simp
               rfl
              refine hK.out _ _ ?_
              clear hK K
              refine done_ (done_of HT_.out (by kernel_rfl)) ?_
              try go_wp2
              have n0_ : Aside0 (Kd.R (Kd.int .i64) 3 (w37.setCell ⟨gb447, 2, none⟩ (.slice Ao38 y450.length co38)) w.heap.size (fun k_ => some k_ ≠ (u448003 : Value).ownBlock ∧ some k_ ≠ (u448004 : Value).ownBlock ∧ some k_ ≠ (.slice Ao38 y450.length co38 : Value).ownBlock) (.slice Ao14 y444.length co14) y444) := ⟨by refine zr ?_; exact Kd.R_mono (Kd.R_far (p := ⟨gb447, 2, none⟩) (Kd.R_types HO_448000.out BK447.out (by decide)) (fun _ hk => hk.2) (.slice Ao38 y450.length co38)) (fun _ hk => ⟨hk.1.1.1, ⟨hk.1.1.2, hk.1.2⟩⟩)⟩
              have n1_ : Aside0 (Kd.R (Kd.int .i64) 3 (w37.setCell ⟨gb447, 2, none⟩ (.slice Ao38 y450.length co38)) w.heap.size (fun k_ => some k_ ≠ (.slice Ao14 y444.length co14 : Value).ownBlock ∧ some k_ ≠ (u448004 : Value).ownBlock ∧ some k_ ≠ (.slice Ao38 y450.length co38 : Value).ownBlock) u448003 x448003_1) := ⟨by refine zr ?_; exact Kd.R_mono (Kd.R_far (p := ⟨gb447, 2, none⟩) (Kd.R_types HO_448003.out BK447.out (by decide)) (fun _ hk => hk.2) (.slice Ao38 y450.length co38)) (fun _ hk => ⟨hk.1.1.1, ⟨hk.1.1.2, hk.1.2⟩⟩)⟩
              have n2_ : Aside0 (Kd.R (Kd.int .i64) 3 (w37.setCell ⟨gb447, 2, none⟩ (.slice Ao38 y450.length co38)) w.heap.size (fun k_ => some k_ ≠ (.slice Ao14 y444.length co14 : Value).ownBlock ∧ some k_ ≠ (u448003 : Value).ownBlock ∧ some k_ ≠ (.slice Ao38 y450.length co38 : Value).ownBlock) u448004 x448004_1) := ⟨by refine zr ?_; exact Kd.R_mono (Kd.R_far (p := ⟨gb447, 2, none⟩) (Kd.R_types HO_448004.out BK447.out (by decide)) (fun _ hk => hk.2) (.slice Ao38 y450.length co38)) (fun _ hk => ⟨hk.1.1.1, ⟨hk.1.1.2, hk.1.2⟩⟩)⟩
              have n3_ : Aside0 (Kd.R (Kd.int .i64) 3 (w37.setCell ⟨gb447, 2, none⟩ (.slice Ao38 y450.length co38)) w.heap.size (fun k_ => some k_ ≠ (.slice Ao14 y444.length co14 : Value).ownBlock ∧ some k_ ≠ (u448003 : Value).ownBlock ∧ some k_ ≠ (u448004 : Value).ownBlock) (.slice Ao38 y450.length co38) y450) := ⟨by refine zr ?_; exact Kd.R_mono (Kd.R_far (p := ⟨gb447, 2, none⟩) (Kd.R_types HO452.out BK447.out (by decide)) (fun _ hk => hk.2) (.slice Ao38 y450.length co38)) (fun _ hk => ⟨hk.1.1, ⟨hk.1.2.1, hk.1.2.2⟩⟩)⟩
              have n4_ : Aside0 ((w37.setCell ⟨gb447, 2, none⟩ (.slice Ao38 y450.length co38)).heap[gb438]? = some (.cells #[.slice A0_0 l0_0.length c0_0, .int .i64 a0_1, .slice (some ad448) l0_2.length c0_2, .slice A0_3 l0_3.length c0_3, .slice A0_4 l0_4.length c0_4] 30 (0, 0))) := ⟨by refine zq ?_; refine blk_far ?_ NB438_447.out _; refine zq ?_; exact BK438.out⟩
              have n5_ : Aside0 ((w37.setCell ⟨gb447, 2, none⟩ (.slice Ao38 y450.length co38)).heap[gb439]? = some (.cells #[.slice A1_0 l1_0.length c1_0, .int .i64 a1_1, .slice (some ad449) l1_2.length c1_2, .slice A1_3 l1_3.length c1_3, .slice A1_4 l1_4.length c1_4] 30 (0, 0))) := ⟨by refine zq ?_; refine blk_far ?_ NB439_447.out _; refine zq ?_; exact BK439.out⟩
              have n6_ : Aside0 ((w37.setCell ⟨gb447, 2, none⟩ (.slice Ao38 y450.length co38)).heap[gb440]? = some (.cells #[.slice none 0 0, .int .i64 0, .slice none 0 0, .slice none 0 0, .slice none 0 0] 30 (0, 0))) := ⟨by refine zq ?_; refine blk_far ?_ NB440_447.out _; refine zq ?_; exact BK440.out⟩
              have n7_ : Aside0 ((w37.setCell ⟨gb447, 2, none⟩ (.slice Ao38 y450.length co38)).heap[gb447]? = some (.cells #[.slice Ao14 y444.length co14, .int .i64 (wrap64 (a0_1 + a1_1)), .slice Ao38 y450.length co38, u448003, u448004] 30 (0, 0))) := ⟨by refine zq ?_; refine blk_put (cs := #[.slice Ao14 y444.length co14, .int .i64 (wrap64 (a0_1 + a1_1)), u448002, u448003, u448004]) ?_ 2 _ rfl; refine zq ?_; exact BK447.out⟩
              have n8_ : Aside0 (Below w.heap.size w (w37.setCell ⟨gb447, 2, none⟩ (.slice Ao38 y450.length co38))) := ⟨zw HB⟩
              (try clear HO_448000)
              (try clear HO_448003)
              (try clear HO_448004)
              (try clear HO452)
              (try clear BK438)
              (try clear BK439)
              (try clear BK440)
              (try clear BK447)
              (try clear HB)
              generalize (w37.setCell ⟨gb447, 2, none⟩ (.slice Ao38 y450.length co38)) = w40 at n0_ n1_ n2_ n3_ n4_ n5_ n6_ n7_ n8_ ⊢
              revert n0_ n1_ n2_ n3_ n4_ n5_ n6_ n7_ n8_
              intro HO_448000 HO_448003 HO_448004 HO452 BK438 BK439 BK440 BK447 HB
              have n0_ := am (Kd.R_drew HO_448000.out)
              have n1_ := am (Kd.R_drew HO_448003.out)
              have n2_ := am (Kd.R_drew HO_448004.out)
              have n3_ := am (Kd.R_drew HO452.out)
              have n4_ := am (blk_drew BK438.out)
              have n5_ := am (blk_drew BK439.out)
              have n6_ := am (blk_drew BK440.out)
              have n7_ := am (blk_drew BK447.out)
              have n8_ := am (below_drew1 HB.out)
              clear HO_448000 HO_448003 HO_448004 HO452 BK438 BK439 BK440 BK447 HB
              revert n0_ n1_ n2_ n3_ n4_ n5_ n6_ n7_ n8_
              intro HO_448000 HO_448003 HO_448004 HO452 BK438 BK439 BK440 BK447 HB
              have p453 : 0 ≤ (x6_1 : Int) := zd
              have q453 : x6_1 < (l0_3.length : Int) := zd
              obtain ⟨ad453, e453, hx453_0⟩ := Kd.at_int HR0_3.out x6_1 p453 q453
              have hw453_0 := hx453_0
              cases e453
              replace hx453_0 := zc HB hx453_0
              replace p453 := eq_true p453
              replace q453 := eq_true q453
              have p454 : 0 ≤ (x6_1 : Int) := zd
              have q454 : x6_1 < (l1_3.length : Int) := zd
              obtain ⟨ad454, e454, hx454_0⟩ := Kd.at_int HR1_3.out x6_1 p454 q454
              have hw454_0 := hx454_0
              cases e454
              replace hx454_0 := zc HB hx454_0
              replace p454 := eq_true p454
              replace q454 := eq_true q454
              refine start_ (n := 17) (S := fun w' => w'.cell? ⟨gb447, 0, none⟩ = some (.slice Ao14 y444.length co14) ∧ w'.cell? ⟨gb447, 1, none⟩ = some (.int .i64 (wrap64 (a0_1 + a1_1))) ∧ w'.cell? ⟨gb447, 2, none⟩ = some (.slice Ao38 y450.length co38) ∧ w'.cell? ⟨gb447, 3, none⟩ = some (u448003) ∧ w'.cell? ⟨gb447, 4, none⟩ = some (u448004) ∧ w'.cell? ⟨gb438, 0, none⟩ = some (.slice A0_0 l0_0.length c0_0) ∧ w'.cell? ⟨gb438, 1, none⟩ = some (.int .i64 a0_1) ∧ w'.cell? ⟨gb438, 2, none⟩ = some (.slice (some ad448) l0_2.length c0_2) ∧ w'.cell? ⟨gb438, 3, none⟩ = some (.slice (some ad453) l0_3.length c0_3) ∧ w'.cell? ⟨gb438, 4, none⟩ = some (.slice A0_4 l0_4.length c0_4) ∧ w'.cell? ⟨gb439, 0, none⟩ = some (.slice A1_0 l1_0.length c1_0) ∧ w'.cell? ⟨gb439, 1, none⟩ = some (.int .i64 a1_1) ∧ w'.cell? ⟨gb439, 2, none⟩ = some (.slice (some ad449) l1_2.length c1_2) ∧ w'.cell? ⟨gb439, 3, none⟩ = some (.slice (some ad454) l1_3.length c1_3) ∧ w'.cell? ⟨gb439, 4, none⟩ = some (.slice A1_4 l1_4.length c1_4) ∧ w'.cell? (ad453.add (x6_1).toNat) = some (.int .i64 (rd l0_3 x6_1)) ∧ w'.cell? (ad454.add (x6_1).toNat) = some (.int .i64 (rd l1_3 x6_1))) (ds := [16]) (bb 17 0) (by kernel_rfl) rfl rfl ⟨bc BK447 0, bc BK447 1, bc BK447 2, bc BK447 3, bc BK447 4, bc BK438 0, bc BK438 1, bc BK438 2, bc BK438 3, bc BK438 4, bc BK439 0, bc BK439 1, bc BK439 2, bc BK439 3, bc BK439 4, (zc HB hw453_0), (zc HB hw454_0)⟩ (fun hHeld => ?_); refine with_tabW hypercuberef2_Join.tab6 hypercuberef2_Join.bits6 (fun HT_ HW_ => ?_)
              generalize w40.drew = w41 at HO_448000 HO_448003 HO_448004 HO452 BK438 BK439 BK440 BK447 HB hx453_0 hx454_0 hHeld ⊢
              refine zu 0 (some 40) (bb 17 1) HT_ ?_
              refine zu 2 (some 42) (bb 17 5) HT_ ?_
              refine zu 4 (some 44) (bb 17 21) HT_ ?_
              refine zu 7 (some 47) (bb 17 149) HT_ ?_
              refine zu 9 (some 49) (bb 17 661) HT_ ?_
              refine zk 1 (some 41) (bb 17 663) HT_ HW_ hHeld ?_
              refine zk 3 (some 43) (bb 17 671) HT_ HW_ hHeld ?_
              refine zu 5 (some 45) (bb 17 703) HT_ ?_
              refine zk 6 (some 46) (bb 17 767) HT_ HW_ hHeld ?_
              refine zk 8 (some 48) (bb 17 1023) HT_ HW_ hHeld ?_
              refine zu 10 (some 50) (bb 17 2047) HT_ ?_
              refine zk 11 (some 51) (bb 17 4095) HT_ HW_ hHeld ?_
              refine zu 12 (some 52) (bb 17 8191) HT_ ?_
              refine zo 13 (some 53) (bb 17 16383) HT_ (fun K hK => ?_)
              refine value_ (w1 := ?_) (v := ?_) (by rfl) rfl ?_ ?_
              rotate_left 2
              ·go_simp
               constructor
               ·rfl
               ·rfl
              refine hK.out _ _ ⟨(blk_cell (blk_alloc BK447.out _) 0).trans rfl, (blk_cell (blk_alloc BK447.out _) 1).trans rfl, (blk_cell (blk_alloc BK447.out _) 2).trans rfl, (blk_cell (blk_alloc BK447.out _) 3).trans rfl, (blk_cell (blk_alloc BK447.out _) 4).trans rfl, (blk_cell (blk_alloc BK438.out _) 0).trans rfl, (blk_cell (blk_alloc BK438.out _) 1).trans rfl, (blk_cell (blk_alloc BK438.out _) 2).trans rfl, (blk_cell (blk_alloc BK438.out _) 3).trans rfl, (blk_cell (blk_alloc BK438.out _) 4).trans rfl, (blk_cell (blk_alloc BK439.out _) 0).trans rfl, (blk_cell (blk_alloc BK439.out _) 1).trans rfl, (blk_cell (blk_alloc BK439.out _) 2).trans rfl, (blk_cell (blk_alloc BK439.out _) 3).trans rfl, (blk_cell (blk_alloc BK439.out _) 4).trans rfl, (World.cell?_alloc_lt _ _ _ (World.block_lt_of_cell? _ _ ((zc HB hw453_0)))).trans ((zc HB hw453_0)), (World.cell?_alloc_lt _ _ _ (World.block_lt_of_cell? _ _ ((zc HB hw454_0)))).trans ((zc HB hw454_0))⟩ (fun hHeld => ?_)
              clear hK K
              refine nm ?_
              refine zo 14 (some 54) (bb 17 32767) HT_ (fun K hK => ?_)
              refine Kd.R_append_step (Kd.int .i64) (w0 := w) w.heap.size (by rfl) (.tmp 41) (.tmp 53) 22 3 (.int .i64 0) 8 rfl Try.underlying22 info3 rfl (by decide) (by omega) u448003 x448003_1 ji26 [.int .i64 ji26] (fun k_ => some k_ ≠ (.slice Ao14 y444.length co14 : Value).ownBlock ∧ some k_ ≠ (u448004 : Value).ownBlock ∧ some k_ ≠ (.slice Ao38 y450.length co38 : Value).ownBlock) (fun _ => False) rfl rfl ?aP (fun _ hk => hk.elim) ?aF ?aO ?aB ?aS ?aL ?_
              (case aP => exact rfl)
              (case aB => exact (wmv HB.out))
              (case aF => exact (fun k_ hk => ⟨Kd.fresh' (Kd.R_lt (Kd.R_mv HO_448000.out)) k_ hk, Kd.fresh' (Kd.R_lt (Kd.R_mv HO_448004.out)) k_ hk, Kd.fresh' (Kd.R_lt (Kd.R_mv HO452.out)) k_ hk⟩))
              (case aO => exact (Kd.R_mv HO_448003.out))
              (case aS => exact (below_size (wmv HB.out)))
              (case aL => have := LMc27.out; omega)
              intro v456 w42 ho hb hg hat
              rw [← Ny455.out] at ho
              have n0_ := am (Kd.R_after (ok := (fun k_ => some k_ ≠ (u448004 : Value).ownBlock ∧ some k_ ≠ (.slice Ao38 y450.length co38 : Value).ownBlock)) (Kd.R_mv (Kd.R_mono HO_448000.out (fun _ hk => ⟨⟨hk.2.1, hk.2.2⟩, hk.1⟩))) hg hat)
              have n1_ := am (Kd.R_after (ok := (fun k_ => some k_ ≠ (.slice Ao14 y444.length co14 : Value).ownBlock ∧ some k_ ≠ (.slice Ao38 y450.length co38 : Value).ownBlock)) (Kd.R_mv (Kd.R_mono HO_448004.out (fun _ hk => ⟨⟨hk.1, hk.2.2⟩, hk.2.1⟩))) hg hat)
              have n2_ := am (blk_grown (bmv BK438.out) hg (Kd.R_ne HO_448003.out BK438.out (by decide)))
              have n3_ := am (blk_grown (bmv BK439.out) hg (Kd.R_ne HO_448003.out BK439.out (by decide)))
              have n4_ := am (blk_grown (bmv BK440.out) hg (Kd.R_ne HO_448003.out BK440.out (by decide)))
              have n5_ := am (blk_grown (bmv BK447.out) hg (Kd.R_ne HO_448003.out BK447.out (by decide)))
              have n6_ := am (Kd.R_after (ok := (fun k_ => some k_ ≠ (.slice Ao14 y444.length co14 : Value).ownBlock ∧ some k_ ≠ (u448004 : Value).ownBlock)) (Kd.R_mv (Kd.R_mono HO452.out (fun _ hk => ⟨⟨hk.1, hk.2.2⟩, hk.2.1⟩))) hg hat)
              have n7_ := am (hb)
              have n8_ := am (ho)
              clear HO_448000 HO_448004 BK438 BK439 BK440 BK447 HO452 HB HO_448003
              revert n0_ n1_ n2_ n3_ n4_ n5_ n6_ n7_ n8_
              intro HO_448000 HO_448004 BK438 BK439 BK440 BK447 HO452 HB HO457
              clear ho hb hg hat
              obtain ⟨Ao43, co43, eo43⟩ := Kd.R_slice HO457.out
              (first | subst eo43 | (injection eo43 with f1_ f2_ f3_; have f4_ := f1_.symm; have f5_ := f3_.symm; clear f1_ f2_ f3_; subst f4_; subst f5_))
              refine hK.out _ _ ⟨bc BK447 0, bc BK447 1, bc BK447 2, bc BK447 3, bc BK447 4, bc BK438 0, bc BK438 1, bc BK438 2, bc BK438 3, bc BK438 4, bc BK439 0, bc BK439 1, bc BK439 2, bc BK439 3, bc BK439 4, (zc HB hw453_0), (zc HB hw454_0)⟩ (fun hHeld => ?_)
              clear hK K
              refine nm ?_
              refine zu 15 (some 55) (bb 17 65535) HT_ ?_
              refine last_ (i := 16) (N := none) (bb 17 131071) rfl rfl (one_of HT_.out (by kernel_rfl)) (by decide) (fun K hK => ?_)
              have hs44 : w42.cell? ⟨gb447, 3, none⟩ = some (u448003) := (blk_cell BK447.out 3).trans rfl
              have hfs44 := blk_frozen BK447.out 3
              have hns44_0 := NB438_447.out
              have hns44_1 := NB439_447.out
              have hns44_2 := NB440_447.out
              have hms44_0 := NB447_438.out
              have hms44_1 := NB447_439.out
              have hms44_2 := NB447_440.out
              refine skip_ (w1 := ?_) (by rfl) rfl ?_ ?_
              rotate_left
              ·go_simp
               rfl
              refine hK.out _ _ ?_
              clear hK K
              refine done_ (done_of HT_.out (by kernel_rfl)) ?_
              try go_wp2
              have n0_ : Aside0 (Kd.R (Kd.int .i64) 3 (w42.setCell ⟨gb447, 3, none⟩ (.slice Ao43 y455.length co43)) w.heap.size (fun k_ => some k_ ≠ (u448004 : Value).ownBlock ∧ some k_ ≠ (.slice Ao38 y450.length co38 : Value).ownBlock ∧ some k_ ≠ (.slice Ao43 y455.length co43 : Value).ownBlock) (.slice Ao14 y444.length co14) y444) := ⟨by refine zr ?_; exact Kd.R_mono (Kd.R_far (p := ⟨gb447, 3, none⟩) (Kd.R_types HO_448000.out BK447.out (by decide)) (fun _ hk => hk.2) (.slice Ao43 y455.length co43)) (fun _ hk => ⟨hk.1.1.1, ⟨hk.1.1.2, hk.1.2⟩⟩)⟩
              have n1_ : Aside0 (Kd.R (Kd.int .i64) 3 (w42.setCell ⟨gb447, 3, none⟩ (.slice Ao43 y455.length co43)) w.heap.size (fun k_ => some k_ ≠ (.slice Ao14 y444.length co14 : Value).ownBlock ∧ some k_ ≠ (.slice Ao38 y450.length co38 : Value).ownBlock ∧ some k_ ≠ (.slice Ao43 y455.length co43 : Value).ownBlock) u448004 x448004_1) := ⟨by refine zr ?_; exact Kd.R_mono (Kd.R_far (p := ⟨gb447, 3, none⟩) (Kd.R_types HO_448004.out BK447.out (by decide)) (fun _ hk => hk.2) (.slice Ao43 y455.length co43)) (fun _ hk => ⟨hk.1.1.1, ⟨hk.1.1.2, hk.1.2⟩⟩)⟩
              have n2_ : Aside0 (Kd.R (Kd.int .i64) 3 (w42.setCell ⟨gb447, 3, none⟩ (.slice Ao43 y455.length co43)) w.heap.size (fun k_ => some k_ ≠ (.slice Ao14 y444.length co14 : Value).ownBlock ∧ some k_ ≠ (u448004 : Value).ownBlock ∧ some k_ ≠ (.slice Ao43 y455.length co43 : Value).ownBlock) (.slice Ao38 y450.length co38) y450) := ⟨by refine zr ?_; exact Kd.R_mono (Kd.R_far (p := ⟨gb447, 3, none⟩) (Kd.R_types HO452.out BK447.out (by decide)) (fun _ hk => hk.2) (.slice Ao43 y455.length co43)) (fun _ hk => ⟨hk.1.1.1, ⟨hk.1.1.2, hk.1.2⟩⟩)⟩
              have n3_ : Aside0 (Kd.R (Kd.int .i64) 3 (w42.setCell ⟨gb447, 3, none⟩ (.slice Ao43 y455.length co43)) w.heap.size (fun k_ => some k_ ≠ (.slice Ao14 y444.length co14 : Value).ownBlock ∧ some k_ ≠ (u448004 : Value).ownBlock ∧ some k_ ≠ (.slice Ao38 y450.length co38 : Value).ownBlock) (.slice Ao43 y455.length co43) y455) := ⟨by refine zr ?_; exact Kd.R_mono (Kd.R_far (p := ⟨gb447, 3, none⟩) (Kd.R_types HO457.out BK447.out (by decide)) (fun _ hk => hk.2) (.slice Ao43 y455.length co43)) (fun _ hk => ⟨hk.1.1, ⟨hk.1.2.1, hk.1.2.2⟩⟩)⟩
              have n4_ : Aside0 ((w42.setCell ⟨gb447, 3, none⟩ (.slice Ao43 y455.length co43)).heap[gb438]? = some (.cells #[.slice A0_0 l0_0.length c0_0, .int .i64 a0_1, .slice (some ad448) l0_2.length c0_2, .slice (some ad453) l0_3.length c0_3, .slice A0_4 l0_4.length c0_4] 30 (0, 0))) := ⟨by refine zq ?_; refine blk_far ?_ NB438_447.out _; refine zq ?_; exact BK438.out⟩
              have n5_ : Aside0 ((w42.setCell ⟨gb447, 3, none⟩ (.slice Ao43 y455.length co43)).heap[gb439]? = some (.cells #[.slice A1_0 l1_0.length c1_0, .int .i64 a1_1, .slice (some ad449) l1_2.length c1_2, .slice (some ad454) l1_3.length c1_3, .slice A1_4 l1_4.length c1_4] 30 (0, 0))) := ⟨by refine zq ?_; refine blk_far ?_ NB439_447.out _; refine zq ?_; exact BK439.out⟩
              have n6_ : Aside0 ((w42.setCell ⟨gb447, 3, none⟩ (.slice Ao43 y455.length co43)).heap[gb440]? = some (.cells #[.slice none 0 0, .int .i64 0, .slice none 0 0, .slice none 0 0, .slice none 0 0] 30 (0, 0))) := ⟨by refine zq ?_; refine blk_far ?_ NB440_447.out _; refine zq ?_; exact BK440.out⟩
              have n7_ : Aside0 ((w42.setCell ⟨gb447, 3, none⟩ (.slice Ao43 y455.length co43)).heap[gb447]? = some (.cells #[.slice Ao14 y444.length co14, .int .i64 (wrap64 (a0_1 + a1_1)), .slice Ao38 y450.length co38, .slice Ao43 y455.length co43, u448004] 30 (0, 0))) := ⟨by refine zq ?_; refine blk_put (cs := #[.slice Ao14 y444.length co14, .int .i64 (wrap64 (a0_1 + a1_1)), .slice Ao38 y450.length co38, u448003, u448004]) ?_ 3 _ rfl; refine zq ?_; exact BK447.out⟩
              have n8_ : Aside0 (Below w.heap.size w (w42.setCell ⟨gb447, 3, none⟩ (.slice Ao43 y455.length co43))) := ⟨zw HB⟩
              (try clear HO_448000)
              (try clear HO_448004)
              (try clear HO452)
              (try clear HO457)
              (try clear BK438)
              (try clear BK439)
              (try clear BK440)
              (try clear BK447)
              (try clear HB)
              generalize (w42.setCell ⟨gb447, 3, none⟩ (.slice Ao43 y455.length co43)) = w45 at n0_ n1_ n2_ n3_ n4_ n5_ n6_ n7_ n8_ ⊢
              revert n0_ n1_ n2_ n3_ n4_ n5_ n6_ n7_ n8_
              intro HO_448000 HO_448004 HO452 HO457 BK438 BK439 BK440 BK447 HB
              have n0_ := am (Kd.R_drew HO_448000.out)
              have n1_ := am (Kd.R_drew HO_448004.out)
              have n2_ := am (Kd.R_drew HO452.out)
              have n3_ := am (Kd.R_drew HO457.out)
              have n4_ := am (blk_drew BK438.out)
              have n5_ := am (blk_drew BK439.out)
              have n6_ := am (blk_drew BK440.out)
              have n7_ := am (blk_drew BK447.out)
              have n8_ := am (below_drew1 HB.out)
              clear HO_448000 HO_448004 HO452 HO457 BK438 BK439 BK440 BK447 HB
              revert n0_ n1_ n2_ n3_ n4_ n5_ n6_ n7_ n8_
              intro HO_448000 HO_448004 HO452 HO457 BK438 BK439 BK440 BK447 HB
              have p458 : 0 ≤ (x6_1 : Int) := zd
              have q458 : x6_1 < (l0_4.length : Int) := zd
              obtain ⟨ad458, e458, hx458_0⟩ := Kd.at_int HR0_4.out x6_1 p458 q458
              have hw458_0 := hx458_0
              cases e458
              replace hx458_0 := zc HB hx458_0
              replace p458 := eq_true p458
              replace q458 := eq_true q458
              have p459 : 0 ≤ (x6_1 : Int) := zd
              have q459 : x6_1 < (l1_4.length : Int) := zd
              obtain ⟨ad459, e459, hx459_0⟩ := Kd.at_int HR1_4.out x6_1 p459 q459
              have hw459_0 := hx459_0
              cases e459
              replace hx459_0 := zc HB hx459_0
              replace p459 := eq_true p459
              replace q459 := eq_true q459
              refine start_ (n := 17) (S := fun w' => w'.cell? ⟨gb447, 0, none⟩ = some (.slice Ao14 y444.length co14) ∧ w'.cell? ⟨gb447, 1, none⟩ = some (.int .i64 (wrap64 (a0_1 + a1_1))) ∧ w'.cell? ⟨gb447, 2, none⟩ = some (.slice Ao38 y450.length co38) ∧ w'.cell? ⟨gb447, 3, none⟩ = some (.slice Ao43 y455.length co43) ∧ w'.cell? ⟨gb447, 4, none⟩ = some (u448004) ∧ w'.cell? ⟨gb438, 0, none⟩ = some (.slice A0_0 l0_0.length c0_0) ∧ w'.cell? ⟨gb438, 1, none⟩ = some (.int .i64 a0_1) ∧ w'.cell? ⟨gb438, 2, none⟩ = some (.slice (some ad448) l0_2.length c0_2) ∧ w'.cell? ⟨gb438, 3, none⟩ = some (.slice (some ad453) l0_3.length c0_3) ∧ w'.cell? ⟨gb438, 4, none⟩ = some (.slice (some ad458) l0_4.length c0_4) ∧ w'.cell? ⟨gb439, 0, none⟩ = some (.slice A1_0 l1_0.length c1_0) ∧ w'.cell? ⟨gb439, 1, none⟩ = some (.int .i64 a1_1) ∧ w'.cell? ⟨gb439, 2, none⟩ = some (.slice (some ad449) l1_2.length c1_2) ∧ w'.cell? ⟨gb439, 3, none⟩ = some (.slice (some ad454) l1_3.length c1_3) ∧ w'.cell? ⟨gb439, 4, none⟩ = some (.slice (some ad459) l1_4.length c1_4) ∧ w'.cell? (ad458.add (x6_1).toNat) = some (.int .i64 (rd l0_4 x6_1)) ∧ w'.cell? (ad459.add (x6_1).toNat) = some (.int .i64 (rd l1_4 x6_1))) (ds := [16]) (bb 17 0) (by kernel_rfl) rfl rfl ⟨bc BK447 0, bc BK447 1, bc BK447 2, bc BK447 3, bc BK447 4, bc BK438 0, bc BK438 1, bc BK438 2, bc BK438 3, bc BK438 4, bc BK439 0, bc BK439 1, bc BK439 2, bc BK439 3, bc BK439 4, (zc HB hw458_0), (zc HB hw459_0)⟩ (fun hHeld => ?_); refine with_tabW hypercuberef2_Join.tab7 hypercuberef2_Join.bits7 (fun HT_ HW_ => ?_)
              generalize w45.drew = w46 at HO_448000 HO_448004 HO452 HO457 BK438 BK439 BK440 BK447 HB hx458_0 hx459_0 hHeld ⊢
              refine zu 0 (some 56) (bb 17 1) HT_ ?_
              refine zu 2 (some 58) (bb 17 5) HT_ ?_
              refine zu 4 (some 60) (bb 17 21) HT_ ?_
              refine zu 7 (some 63) (bb 17 149) HT_ ?_
              refine zu 9 (some 65) (bb 17 661) HT_ ?_
              refine zk 1 (some 57) (bb 17 663) HT_ HW_ hHeld ?_
              refine zk 3 (some 59) (bb 17 671) HT_ HW_ hHeld ?_
              refine zu 5 (some 61) (bb 17 703) HT_ ?_
              refine zk 6 (some 62) (bb 17 767) HT_ HW_ hHeld ?_
              refine zk 8 (some 64) (bb 17 1023) HT_ HW_ hHeld ?_
              refine zu 10 (some 66) (bb 17 2047) HT_ ?_
              refine zk 11 (some 67) (bb 17 4095) HT_ HW_ hHeld ?_
              refine zu 12 (some 68) (bb 17 8191) HT_ ?_
              refine zo 13 (some 69) (bb 17 16383) HT_ (fun K hK => ?_)
              refine value_ (w1 := ?_) (v := ?_) (by rfl) rfl ?_ ?_
              rotate_left 2
              ·go_simp
               constructor
               ·rfl
               ·rfl
              refine hK.out _ _ ⟨(blk_cell (blk_alloc BK447.out _) 0).trans rfl, (blk_cell (blk_alloc BK447.out _) 1).trans rfl, (blk_cell (blk_alloc BK447.out _) 2).trans rfl, (blk_cell (blk_alloc BK447.out _) 3).trans rfl, (blk_cell (blk_alloc BK447.out _) 4).trans rfl, (blk_cell (blk_alloc BK438.out _) 0).trans rfl, (blk_cell (blk_alloc BK438.out _) 1).trans rfl, (blk_cell (blk_alloc BK438.out _) 2).trans rfl, (blk_cell (blk_alloc BK438.out _) 3).trans rfl, (blk_cell (blk_alloc BK438.out _) 4).trans rfl, (blk_cell (blk_alloc BK439.out _) 0).trans rfl, (blk_cell (blk_alloc BK439.out _) 1).trans rfl, (blk_cell (blk_alloc BK439.out _) 2).trans rfl, (blk_cell (blk_alloc BK439.out _) 3).trans rfl, (blk_cell (blk_alloc BK439.out _) 4).trans rfl, (World.cell?_alloc_lt _ _ _ (World.block_lt_of_cell? _ _ ((zc HB hw458_0)))).trans ((zc HB hw458_0)), (World.cell?_alloc_lt _ _ _ (World.block_lt_of_cell? _ _ ((zc HB hw459_0)))).trans ((zc HB hw459_0))⟩ (fun hHeld => ?_)
              clear hK K
              refine nm ?_
              refine zo 14 (some 70) (bb 17 32767) HT_ (fun K hK => ?_)
              refine Kd.R_append_step (Kd.int .i64) (w0 := w) w.heap.size (by rfl) (.tmp 57) (.tmp 69) 22 3 (.int .i64 0) 8 rfl Try.underlying22 info3 rfl (by decide) (by omega) u448004 x448004_1 ji30 [.int .i64 ji30] (fun k_ => some k_ ≠ (.slice Ao14 y444.length co14 : Value).ownBlock ∧ some k_ ≠ (.slice Ao38 y450.length co38 : Value).ownBlock ∧ some k_ ≠ (.slice Ao43 y455.length co43 : Value).ownBlock) (fun _ => False) rfl rfl ?aP (fun _ hk => hk.elim) ?aF ?aO ?aB ?aS ?aL ?_
              (case aP => exact rfl)
              (case aB => exact (wmv HB.out))
              (case aF => exact (fun k_ hk => ⟨Kd.fresh' (Kd.R_lt (Kd.R_mv HO_448000.out)) k_ hk, Kd.fresh' (Kd.R_lt (Kd.R_mv HO452.out)) k_ hk, Kd.fresh' (Kd.R_lt (Kd.R_mv HO457.out)) k_ hk⟩))
              (case aO => exact (Kd.R_mv HO_448004.out))
              (case aS => exact (below_size (wmv HB.out)))
              (case aL => have := LMc31.out; omega)
              intro v461 w47 ho hb hg hat
              rw [← Ny460.out] at ho
              have n0_ := am (Kd.R_after (ok := (fun k_ => some k_ ≠ (.slice Ao38 y450.length co38 : Value).ownBlock ∧ some k_ ≠ (.slice Ao43 y455.length co43 : Value).ownBlock)) (Kd.R_mv (Kd.R_mono HO_448000.out (fun _ hk => ⟨⟨hk.2.1, hk.2.2⟩, hk.1⟩))) hg hat)
              have n1_ := am (blk_grown (bmv BK438.out) hg (Kd.R_ne HO_448004.out BK438.out (by decide)))
              have n2_ := am (blk_grown (bmv BK439.out) hg (Kd.R_ne HO_448004.out BK439.out (by decide)))
              have n3_ := am (blk_grown (bmv BK440.out) hg (Kd.R_ne HO_448004.out BK440.out (by decide)))
              have n4_ := am (blk_grown (bmv BK447.out) hg (Kd.R_ne HO_448004.out BK447.out (by decide)))
              have n5_ := am (Kd.R_after (ok := (fun k_ => some k_ ≠ (.slice Ao14 y444.length co14 : Value).ownBlock ∧ some k_ ≠ (.slice Ao43 y455.length co43 : Value).ownBlock)) (Kd.R_mv (Kd.R_mono HO452.out (fun _ hk => ⟨⟨hk.1, hk.2.2⟩, hk.2.1⟩))) hg hat)
              have n6_ := am (Kd.R_after (ok := (fun k_ => some k_ ≠ (.slice Ao14 y444.length co14 : Value).ownBlock ∧ some k_ ≠ (.slice Ao38 y450.length co38 : Value).ownBlock)) (Kd.R_mv (Kd.R_mono HO457.out (fun _ hk => ⟨⟨hk.1, hk.2.2⟩, hk.2.1⟩))) hg hat)
              have n7_ := am (hb)
              have n8_ := am (ho)
              clear HO_448000 BK438 BK439 BK440 BK447 HO452 HO457 HB HO_448004
              revert n0_ n1_ n2_ n3_ n4_ n5_ n6_ n7_ n8_
              intro HO_448000 BK438 BK439 BK440 BK447 HO452 HO457 HB HO462
              clear ho hb hg hat
              obtain ⟨Ao48, co48, eo48⟩ := Kd.R_slice HO462.out
              (first | subst eo48 | (injection eo48 with f1_ f2_ f3_; have f4_ := f1_.symm; have f5_ := f3_.symm; clear f1_ f2_ f3_; subst f4_; subst f5_))
              refine hK.out _ _ ⟨bc BK447 0, bc BK447 1, bc BK447 2, bc BK447 3, bc BK447 4, bc BK438 0, bc BK438 1, bc BK438 2, bc BK438 3, bc BK438 4, bc BK439 0, bc BK439 1, bc BK439 2, bc BK439 3, bc BK439 4, (zc HB hw458_0), (zc HB hw459_0)⟩ (fun hHeld => ?_)
              clear hK K
              refine nm ?_
              refine zu 15 (some 71) (bb 17 65535) HT_ ?_
              refine last_ (i := 16) (N := none) (bb 17 131071) rfl rfl (one_of HT_.out (by kernel_rfl)) (by decide) (fun K hK => ?_)
              have hs49 : w47.cell? ⟨gb447, 4, none⟩ = some (u448004) := (blk_cell BK447.out 4).trans rfl
              have hfs49 := blk_frozen BK447.out 4
              have hns49_0 := NB438_447.out
              have hns49_1 := NB439_447.out
              have hns49_2 := NB440_447.out
              have hms49_0 := NB447_438.out
              have hms49_1 := NB447_439.out
              have hms49_2 := NB447_440.out
              refine skip_ (w1 := ?_) (by rfl) rfl ?_ ?_
              rotate_left
              ·go_simp
               rfl
              refine hK.out _ _ ?_
              clear hK K
              refine done_ (done_of HT_.out (by kernel_rfl)) ?_
              try go_wp2
              go_roundg k1
              case measure => have := HK1.out; omega
              case rel => exact ⟨(wrap64 (x6_1 + 1)), (y450), (y455), (y460), (.slice Ao38 y450.length co38), (.slice Ao43 y455.length co43), (.slice Ao48 y460.length co48), zz, H', ⟨by have := HK1.out; omega⟩, ⟨by refine zr ?_; exact Kd.R_mono (Kd.R_far (p := ⟨gb447, 4, none⟩) (Kd.R_types HO_448000.out BK447.out (by decide)) (fun _ hk => hk.2) (.slice Ao48 y460.length co48)) (fun _ hk => ⟨hk.1.1.1, ⟨hk.1.1.2, hk.1.2⟩⟩)⟩, ⟨by refine zr ?_; exact Kd.R_mono (Kd.R_far (p := ⟨gb447, 4, none⟩) (Kd.R_types HO452.out BK447.out (by decide)) (fun _ hk => hk.2) (.slice Ao48 y460.length co48)) (fun _ hk => ⟨hk.1.1.1, ⟨hk.1.1.2, hk.1.2⟩⟩)⟩, ⟨by refine zr ?_; exact Kd.R_mono (Kd.R_far (p := ⟨gb447, 4, none⟩) (Kd.R_types HO457.out BK447.out (by decide)) (fun _ hk => hk.2) (.slice Ao48 y460.length co48)) (fun _ hk => ⟨hk.1.1.1, ⟨hk.1.1.2, hk.1.2⟩⟩)⟩, ⟨by refine zr ?_; exact Kd.R_mono (Kd.R_far (p := ⟨gb447, 4, none⟩) (Kd.R_types HO462.out BK447.out (by decide)) (fun _ hk => hk.2) (.slice Ao48 y460.length co48)) (fun _ hk => ⟨hk.1.1, ⟨hk.1.2.1, hk.1.2.2⟩⟩)⟩, ⟨by refine zq ?_; refine blk_far ?_ NB438_447.out _; refine zq ?_; exact BK438.out⟩, ⟨by refine zq ?_; refine blk_far ?_ NB439_447.out _; refine zq ?_; exact BK439.out⟩, ⟨by refine zq ?_; refine blk_far ?_ NB440_447.out _; refine zq ?_; exact BK440.out⟩, ⟨by refine zq ?_; refine blk_put (cs := #[.slice Ao14 y444.length co14, .int .i64 (wrap64 (a0_1 + a1_1)), .slice Ao38 y450.length co38, .slice Ao43 y455.length co43, u448004]) ?_ 4 _ rfl; refine zq ?_; exact BK447.out⟩, ⟨zw HB⟩⟩
             ·rw [if_neg c31] at H
              exact absurd H (by simp)
            ·rw [if_neg c29] at H
             exact absurd H (by simp)
           ·rw [if_neg c28] at H
            exact absurd H (by simp)
          ·rw [if_neg c27] at H
           exact absurd H (by simp)
         ·rw [if_neg c25] at H
          exact absurd H (by simp)
        ·rw [if_neg c24] at H
         exact absurd H (by simp)
       ·rw [if_neg c23] at H
        exact absurd H (by simp)
      ·rw [if_neg c22] at H
       exact absurd H (by simp)
     ·rw [if_neg c21] at H
      exact absurd H (by simp)
    ·rw [if_neg c20] at H
     have c20b0 : decide (x6_1 < (l0_2.length : Int)) = false := decide_eq_false c20
     clear c20
     simp only [Option.some.injEq, Prod.mk.injEq] at H
     obtain ⟨rfl, rfl, rfl, rfl, rfl⟩ := H
     have hnb50 := NB438_439.out
     have hnc50 := NB439_438.out
     have hnb51 := NB438_440.out
     have hnc51 := NB440_438.out
     have hnb52 := NB438_447.out
     have hnc52 := NB447_438.out
     have hcz53_0 : wr.cell? ⟨gb438, 0, none⟩ = some (.slice A0_0 l0_0.length c0_0) := (blk_cell BK438.out 0).trans rfl
     have hcz53_1 : wr.cell? ⟨gb438, 1, none⟩ = some (.int .i64 a0_1) := (blk_cell BK438.out 1).trans rfl
     have hcz53_2 : wr.cell? ⟨gb438, 2, none⟩ = some (.slice A0_2 l0_2.length c0_2) := (blk_cell BK438.out 2).trans rfl
     have hcz53_3 : wr.cell? ⟨gb438, 3, none⟩ = some (.slice A0_3 l0_3.length c0_3) := (blk_cell BK438.out 3).trans rfl
     have hcz53_4 : wr.cell? ⟨gb438, 4, none⟩ = some (.slice A0_4 l0_4.length c0_4) := (blk_cell BK438.out 4).trans rfl
     have hfz53_0 := blk_frozen BK438.out 0
     have hfz53_1 := blk_frozen BK438.out 1
     have hfz53_2 := blk_frozen BK438.out 2
     have hfz53_3 := blk_frozen BK438.out 3
     have hfz53_4 := blk_frozen BK438.out 4
     have hnb54 := NB447_439.out
     have hnc54 := NB439_447.out
     have hnb55 := NB447_440.out
     have hnc55 := NB440_447.out
     have hcz56_0 : wr.cell? ⟨gb447, 0, none⟩ = some (.slice Ao14 y444.length co14) := (blk_cell BK447.out 0).trans rfl
     have hcz56_1 : wr.cell? ⟨gb447, 1, none⟩ = some (.int .i64 (wrap64 (a0_1 + a1_1))) := (blk_cell BK447.out 1).trans rfl
     have hcz56_2 : wr.cell? ⟨gb447, 2, none⟩ = some (u448002) := (blk_cell BK447.out 2).trans rfl
     have hcz56_3 : wr.cell? ⟨gb447, 3, none⟩ = some (u448003) := (blk_cell BK447.out 3).trans rfl
     have hcz56_4 : wr.cell? ⟨gb447, 4, none⟩ = some (u448004) := (blk_cell BK447.out 4).trans rfl
     have hfz56_0 := blk_frozen BK447.out 0
     have hfz56_1 := blk_frozen BK447.out 1
     have hfz56_2 := blk_frozen BK447.out 2
     have hfz56_3 := blk_frozen BK447.out 3
     have hfz56_4 := blk_frozen BK447.out 4
     have hnb57 := NB440_439.out
     have hnc57 := NB439_440.out
     have hcz58_0 : wr.cell? ⟨gb440, 0, none⟩ = some (.slice none 0 0) := (blk_cell BK440.out 0).trans rfl
     have hcz58_1 : wr.cell? ⟨gb440, 1, none⟩ = some (.int .i64 0) := (blk_cell BK440.out 1).trans rfl
     have hcz58_2 : wr.cell? ⟨gb440, 2, none⟩ = some (.slice none 0 0) := (blk_cell BK440.out 2).trans rfl
     have hcz58_3 : wr.cell? ⟨gb440, 3, none⟩ = some (.slice none 0 0) := (blk_cell BK440.out 3).trans rfl
     have hcz58_4 : wr.cell? ⟨gb440, 4, none⟩ = some (.slice none 0 0) := (blk_cell BK440.out 4).trans rfl
     have hfz58_0 := blk_frozen BK440.out 0
     have hfz58_1 := blk_frozen BK440.out 1
     have hfz58_2 := blk_frozen BK440.out 2
     have hfz58_3 := blk_frozen BK440.out 3
     have hfz58_4 := blk_frozen BK440.out 4
     obtain ⟨Ao59, co59, eo59⟩ := Kd.R_slice HO_448002.out
     subst eo59
     obtain ⟨Ao60, co60, eo60⟩ := Kd.R_slice HO_448003.out
     subst eo60
     obtain ⟨Ao61, co61, eo61⟩ := Kd.R_slice HO_448004.out
     subst eo61
     go_wp2
     refine bodyPost_ret (results_cell_row rfl _ _ gb440 30 #[.slice Ao14 y444.length co14, .int .i64 (wrap64 (a0_1 + a1_1)), .slice Ao59 x448002_1.length co59, .slice Ao60 x448003_1.length co60, .slice Ao61 x448004_1.length co61] (0, 0) _ rfl (by refine zq ?_; refine blk_put (cs := #[.slice Ao14 y444.length co14, .int .i64 (wrap64 (a0_1 + a1_1)), .slice Ao59 x448002_1.length co59, .slice Ao60 x448003_1.length co60, .slice none 0 0]) ?_ 4 _ rfl; refine zq ?_; refine blk_put (cs := #[.slice Ao14 y444.length co14, .int .i64 (wrap64 (a0_1 + a1_1)), .slice Ao59 x448002_1.length co59, .slice none 0 0, .slice none 0 0]) ?_ 3 _ rfl; refine zq ?_; refine blk_put (cs := #[.slice Ao14 y444.length co14, .int .i64 (wrap64 (a0_1 + a1_1)), .slice none 0 0, .slice none 0 0, .slice none 0 0]) ?_ 2 _ rfl; refine zq ?_; refine blk_put (cs := #[.slice Ao14 y444.length co14, .int .i64 0, .slice none 0 0, .slice none 0 0, .slice none 0 0]) ?_ 1 _ rfl; refine zq ?_; refine blk_put (cs := #[.slice none 0 0, .int .i64 0, .slice none 0 0, .slice none 0 0, .slice none 0 0]) ?_ 0 _ rfl; refine zq ?_; exact BK440.out) Try.underlying30 rfl (by kernel_rfl)) rfl ?_
     exact ⟨_, _, _, _, by first | rfl | (simp [errW_none, errW_some] <;> rfl) | (simp [*, errW_none, errW_some] <;> rfl), by refine zr ?_; exact Kd.R_mono (Kd.R_far (p := ⟨gb440, 4, none⟩) (Kd.R_far (p := ⟨gb440, 3, none⟩) (Kd.R_far (p := ⟨gb440, 2, none⟩) (Kd.R_far (p := ⟨gb440, 1, none⟩) (Kd.R_far (p := ⟨gb440, 0, none⟩) (Kd.R_types HO_448000.out BK440.out (by decide)) (fun _ hk => hk.2) (.slice Ao14 y444.length co14)) (fun _ hk => hk.2) (.int .i64 (wrap64 (a0_1 + a1_1)))) (fun _ hk => hk.2) (.slice Ao59 x448002_1.length co59)) (fun _ hk => hk.2) (.slice Ao60 x448003_1.length co60)) (fun _ hk => hk.2) (.slice Ao61 x448004_1.length co61)) (fun _ hk => ⟨hk.1.1, ⟨hk.1.2.1, hk.1.2.2⟩⟩), by refine zr ?_; exact Kd.R_mono (Kd.R_far (p := ⟨gb440, 4, none⟩) (Kd.R_far (p := ⟨gb440, 3, none⟩) (Kd.R_far (p := ⟨gb440, 2, none⟩) (Kd.R_far (p := ⟨gb440, 1, none⟩) (Kd.R_far (p := ⟨gb440, 0, none⟩) (Kd.R_types HO_448002.out BK440.out (by decide)) (fun _ hk => hk.2) (.slice Ao14 y444.length co14)) (fun _ hk => hk.2) (.int .i64 (wrap64 (a0_1 + a1_1)))) (fun _ hk => hk.2) (.slice Ao59 x448002_1.length co59)) (fun _ hk => hk.2) (.slice Ao60 x448003_1.length co60)) (fun _ hk => hk.2) (.slice Ao61 x448004_1.length co61)) (fun _ hk => ⟨hk.1.1, ⟨hk.1.2.1, hk.1.2.2⟩⟩), by refine zr ?_; exact Kd.R_mono (Kd.R_far (p := ⟨gb440, 4, none⟩) (Kd.R_far (p := ⟨gb440, 3, none⟩) (Kd.R_far (p := ⟨gb440, 2, none⟩) (Kd.R_far (p := ⟨gb440, 1, none⟩) (Kd.R_far (p := ⟨gb440, 0, none⟩) (Kd.R_types HO_448003.out BK440.out (by decide)) (fun _ hk => hk.2) (.slice Ao14 y444.length co14)) (fun _ hk => hk.2) (.int .i64 (wrap64 (a0_1 + a1_1)))) (fun _ hk => hk.2) (.slice Ao59 x448002_1.length co59)) (fun _ hk => hk.2) (.slice Ao60 x448003_1.length co60)) (fun _ hk => hk.2) (.slice Ao61 x448004_1.length co61)) (fun _ hk => ⟨hk.1.1, ⟨hk.1.2.1, hk.1.2.2⟩⟩), by refine zr ?_; exact Kd.R_mono (Kd.R_far (p := ⟨gb440, 4, none⟩) (Kd.R_far (p := ⟨gb440, 3, none⟩) (Kd.R_far (p := ⟨gb440, 2, none⟩) (Kd.R_far (p := ⟨gb440, 1, none⟩) (Kd.R_far (p := ⟨gb440, 0, none⟩) (Kd.R_types HO_448004.out BK440.out (by decide)) (fun _ hk => hk.2) (.slice Ao14 y444.length co14)) (fun _ hk => hk.2) (.int .i64 (wrap64 (a0_1 + a1_1)))) (fun _ hk => hk.2) (.slice Ao59 x448002_1.length co59)) (fun _ hk => hk.2) (.slice Ao60 x448003_1.length co60)) (fun _ hk => hk.2) (.slice Ao61 x448004_1.length co61)) (fun _ hk => ⟨hk.1.1, ⟨hk.1.2.1, hk.1.2.2⟩⟩), zw HB⟩
 ·rw [if_neg c3] at H
  exact absurd H (by simp)
def hypercuberef1_Two.f (a0 : Int) : Option (List Int) := some (([(a0 / 256) % 256, (a0) % 256] : List Int))
set_option maxHeartbeats 8000000 in
set_option maxRecDepth 100000 in
theorem hypercuberef1_Two.calls (a0 : Int) (r : List Int) (w : World) (h : hypercuberef1_Two.f a0 = some r) :
  Calls Try.prog 53 #[.int .i64 a0] w fun e w' => ∃ v0_ : Value, e = .returned (v0_) ∧ Kd.R (Kd.int .u8) 5 w' w.heap.size (fun _ => True) v0_ r ∧ Below w.heap.size w w' := by
 have HB := am (Below.refl w.heap.size w)
 have H : (some (([(a0 / 256) % 256, (a0) % 256] : List Int))) = some r := h
 clear h
 obtain ⟨y664, hy664⟩ : ∃ y_ : List Int, y_ = (([(a0 / 256) % 256, (a0) % 256] : List Int)) := ⟨_, rfl⟩
 replace H : (some y664) = some r := by first | (rw [hy664]; with_reducible exact H) | (have H2_ := (Option.bind_some _ _).symm.trans H; rw [hy664]; with_reducible exact H2_) | (have H2_ := (Option.bind_some _ _).symm.trans H; with_reducible exact H2_) | with_reducible exact H | (rw [hy664]; exact H) | exact H
 have Ny664 := am hy664
 clear hy664
 obtain rfl := Option.some.inj H
 go_enter Try.func53, Try.ntmps53
 go_wp2_with (first | ((with_reducible refine gate_dst (N := 8) rfl ?_); refine Kd.R_lit (Kd.int .u8) _ 5 ?hg (N := 8) ?hd (xs := ([(a0 / 256) % 256, (a0) % 256] : List Int)) (inner := [.int .u8 ((a0 / 256) % 256), .int .u8 ((a0) % 256)]) (ok := fun _ => True) (okp := fun _ => True) ?hr ?hp (fun _ hk => hk) trivial (Below.refl _ _) (Nat.le_refl _) (by simp) ?_; (case hd => rfl); (case hg => rfl); (case hr => first | (go_simp; done) | (go_simp; rfl)); (case hp => exact (Reps.one (show Kd.M (Kd.int .u8) _ _ _ ((a0 / 256) % 256) [.int .u8 ((a0 / 256) % 256)] from rfl) (Reps.one (show Kd.M (Kd.int .u8) _ _ _ ((a0) % 256) [.int .u8 ((a0) % 256)] from rfl) (Reps.none _ _)))); intro v665 w2 ho3 hb hg_ hnew_; clear hg_ hnew_; (first | rw [← Ny664.out] at ho3 | (simp only [Int.reduceToNat] at ho3; rw [← Ny664.out] at ho3)); have n0_ := am (Kd.R_lower ho3 (below_size (zw HB))); have n1_ := am (below_step (zw HB) hb); clear HB; have HO666 := n0_; have HB := n1_; clear n0_ n1_; clear hb ho3))
 go_ret
 exact ⟨_, by first | rfl | (simp [errW_none, errW_some] <;> rfl) | (simp [*, errW_none, errW_some] <;> rfl), by refine zr ?_; exact HO666.out, zw HB⟩
def hypercuberef1_Eight.l0 : Nat → Int → List Int → Int → Option (List Int)
 | 0, _, _, _ => none
 | k + 1, x0, x3, x4 => if x4 < 8 then (if 0 ≤ (IntKind.u64.wrap (wrap64 (56 - (wrap64 (8 * x4))))) then (if x3.length < 140737488355328 then (hypercuberef1_Eight.l0 k x0 (x3 ++ [(shr .i64 x0 (IntKind.u64.wrap (wrap64 (56 - (wrap64 (8 * x4)))))) % 256]) (wrap64 (x4 + 1))) else (none)) else (none)) else (some x3)
def hypercuberef1_Eight.f (k : Nat) (a0 : Int) : Option (List Int) := hypercuberef1_Eight.l0 k a0 ([] : List Int) 0
set_option maxHeartbeats 8000000 in
set_option maxRecDepth 100000 in
theorem hypercuberef1_Eight.calls (k : Nat) (a0 : Int) (r : List Int) (w : World) (h : hypercuberef1_Eight.f k a0 = some r) :
  Calls Try.prog 54 #[.int .i64 a0] w fun e w' => ∃ v0_ : Value, e = .returned (v0_) ∧ Kd.R (Kd.int .u8) 5 w' w.heap.size (fun _ => True) v0_ r ∧ Below w.heap.size w w' := by
 have HB := am (Below.refl w.heap.size w)
 have H : (hypercuberef1_Eight.l0 k a0 ([] : List Int) 0) = some r := h
 clear h
 have H' := am H
 clear H
 go_enter Try.func54, Try.ntmps54
 go_wp2
 go_loopg [3, 4] k (fun kq v3 v4 w' => ∃ (x3_1 : List Int) (x4_1 : Int), v4 = .int .i64 x4_1 ∧ Aside0 (hypercuberef1_Eight.l0 kq a0 x3_1 x4_1 = some r) ∧ Aside0 (kq ≤ k) ∧ Aside0 (Kd.R (Kd.int .u8) 5 w' w.heap.size (fun _ => True) v3 x3_1) ∧ Aside0 (Below w.heap.size w w'))
 case atStart => exact ⟨(([] : List Int)), (0), zz, H', ⟨Nat.le_refl _⟩, ⟨by first | exact Kd.R_nil _ _ _ _ _ | exact Kd.N_nil _ _ _ _ _ | exact Kd.V_nil _ _ _ _ _ | exact Kd.Q_nil _ _ _ _ _ | exact Kd.S_nil _ _ _ _ _⟩, ⟨zw HB⟩⟩
 case round =>
  clear H'
  obtain ⟨x3_1, x4_1, rfl, HA, HK1, HO_3, HB⟩ := hrel
  cases gk with
  | zero => exact absurd HA.out (by simp [hypercuberef1_Eight.l0])
  | succ k1 =>
   have H := HA.out
   clear HA
   simp only [hypercuberef1_Eight.l0] at H
   by_cases c2 : x4_1 < 8
   ·rw [if_pos c2] at H
    have c2b0 : decide (x4_1 < 8) = true := decide_eq_true c2
    clear c2
    obtain ⟨ji3, hji3⟩ : ∃ j_ : Int, (IntKind.u64.wrap (wrap64 (56 - (wrap64 (8 * x4_1))))) = j_ := ⟨_, rfl⟩
    replace H : (if 0 ≤ (ji3) then (if x3_1.length < 140737488355328 then (hypercuberef1_Eight.l0 k1 a0 (x3_1 ++ [(shr .i64 a0 (ji3)) % 256]) (wrap64 (x4_1 + 1))) else (none)) else (none)) = some r := by first | (rw [hji3] at H; exact H) | (simp only [hji3] at H ⊢; exact H)
    by_cases c4 : 0 ≤ (ji3)
    ·rw [if_pos c4] at H
     have c4b0 := eq_true c4
     have c4b1 : decide (0 ≤ (ji3)) = true := decide_eq_true c4
     clear c4
     obtain ⟨ji5, hji5⟩ : ∃ j_ : Int, (shr .i64 a0 (ji3)) = j_ := ⟨_, rfl⟩
     replace H : (if x3_1.length < 140737488355328 then (hypercuberef1_Eight.l0 k1 a0 (x3_1 ++ [(ji5) % 256]) (wrap64 (x4_1 + 1))) else (none)) = some r := by first | (rw [hji5] at H; exact H) | (simp only [hji5] at H ⊢; exact H)
     have hji5_ : (a0 / 2 ^ min (ji3).toNat 64) = ji5 := hji5
     have hji5z : (ji3) ≤ 64 → (a0 / 2 ^ (ji3).toNat) = ji5 := shr_small hji5
     by_cases c6 : x3_1.length < 140737488355328
     ·rw [if_pos c6] at H
      have LMc6 := am c6
      clear c6
      obtain ⟨y667, hy667⟩ : ∃ y_ : List Int, y_ = (x3_1 ++ [(ji5) % 256]) := ⟨_, rfl⟩
      replace H : (hypercuberef1_Eight.l0 k1 a0 y667 (wrap64 (x4_1 + 1))) = some r := by first | (rw [hy667]; with_reducible exact H) | (have H2_ := (Option.bind_some _ _).symm.trans H; rw [hy667]; with_reducible exact H2_) | (have H2_ := (Option.bind_some _ _).symm.trans H; with_reducible exact H2_) | with_reducible exact H | (rw [hy667]; exact H) | exact H
      have Ny667 := am hy667
      clear hy667
      have H' := am H
      clear H
      go_wp2_with (first | ((with_reducible refine gate_builtin (b := .append) (xs := #[.tmp 9, .tmp 17]) rfl ?_); at_builtin; refine Kd.R_append (Kd.int .u8) (w0 := w) w.heap.size rfl (.tmp 9) (.tmp 17) 51 5 (.int .u8 0) 1 rfl Try.underlying51 info5 rfl (by decide) (by omega) u3 x3_1 ((ji5) % 256) [.int .u8 ((ji5) % 256)] (fun _ => True) (fun _ => False) rfl rfl ?aP (fun _ hk => hk.elim) ?aF ?aO ?aB ?aS ?aL ?_; (case aP => exact rfl); (case aB => exact (zw HB)); (case aF => exact (fun _ _ => trivial)); (case aO => exact (ze HO_3)); (case aS => exact (below_size (zw HB))); (case aL => have := LMc6.out; omega); intro v668 w7 ho hb hg hat; rw [← Ny667.out] at ho; have n0_ := am (hb); have n1_ := am (ho); clear HB; clear HO_3; have HB := n0_; have HO669 := n1_; clear n0_ n1_; clear ho hb hg hat))
      go_roundg k1
      case measure => have := HK1.out; omega
      case rel => exact ⟨(y667), (wrap64 (x4_1 + 1)), zz, H', ⟨by have := HK1.out; omega⟩, ⟨by refine zr ?_; exact HO669.out⟩, ⟨zw HB⟩⟩
     ·rw [if_neg c6] at H
      exact absurd H (by simp)
    ·rw [if_neg c4] at H
     exact absurd H (by simp)
   ·rw [if_neg c2] at H
    have c2b0 : decide (x4_1 < 8) = false := decide_eq_false c2
    clear c2
    obtain rfl := Option.some.inj H
    go_wp2
    go_ret
    exact ⟨_, by first | rfl | (simp [errW_none, errW_some] <;> rfl) | (simp [*, errW_none, errW_some] <;> rfl), by refine zr ?_; exact HO_3.out, zw HB⟩
mutual
def hypercuberef2_Encode.l0 : Nat → List (S30) → List Int → Int → Option (List Int)
 | 0, _, _, _ => none
 | k + 1, x1, x5, x6 => if x6 < (x1.length : Int) then (if 0 ≤ x6 then (hypercuberef2_Encode.l1 k x1 x5 x6 0 ((rd_T30 x1 x6).f0) ((rd_T30 x1 x6).f1) ((rd_T30 x1 x6).f2) ((rd_T30 x1 x6).f3) ((rd_T30 x1 x6).f4)) else (none)) else (some x5)
def hypercuberef2_Encode.l1 : Nat → List (S30) → List Int → Int → Int → List Int → Int → List Int → List Int → List Int → Option (List Int)
 | 0, _, _, _, _, _, _, _, _, _ => none
 | k + 1, x1, x5, x6, x8, x681000, x681001, x681002, x681003, x681004 => if x8 < (x681000.length : Int) then (if 0 ≤ x8 then (if x5.length < 140737488355328 then (hypercuberef2_Encode.l1 k x1 (x5 ++ [(rd x681000 x8) % 256]) x6 (wrap64 (x8 + 1)) x681000 x681001 x681002 x681003 x681004) else (none)) else (none)) else ((hypercuberef1_Two.f x681001).bind fun t685 => (if x5.length + t685.length < 140737488355328 then (hypercuberef2_Encode.l2 k x1 (x5 ++ t685) x6 0 x681000 x681001 x681002 x681003 x681004) else (none)))
def hypercuberef2_Encode.l2 : Nat → List (S30) → List Int → Int → Int → List Int → Int → List Int → List Int → List Int → Option (List Int)
 | 0, _, _, _, _, _, _, _, _, _ => none
 | k + 1, x1, x5, x6, x9, x681000, x681001, x681002, x681003, x681004 => if x9 < (x681002.length : Int) then (if 0 ≤ x9 then ((hypercuberef1_Eight.f k (rd x681002 x9)).bind fun t692 => (if x5.length + t692.length < 140737488355328 then ((some (x5 ++ t692 : List Int)).bind fun y695 => (if x9 < (x681003.length : Int) then ((hypercuberef1_Eight.f k (rd x681003 x9)).bind fun t699 => (if y695.length + t699.length < 140737488355328 then ((some (y695 ++ t699 : List Int)).bind fun y702 => (if x9 < (x681004.length : Int) then ((hypercuberef1_Eight.f k (rd x681004 x9)).bind fun t706 => (if y702.length + t706.length < 140737488355328 then (hypercuberef2_Encode.l2 k x1 (y702 ++ t706) x6 (wrap64 (x9 + 1)) x681000 x681001 x681002 x681003 x681004) else (none))) else (none))) else (none))) else (none))) else (none))) else (none)) else (hypercuberef2_Encode.l0 k x1 x5 (wrap64 (x6 + 1)))
end
def hypercuberef2_Encode.f (k : Nat) (a0 : Int) (l1 : List (S30)) : Option (List Int) := (some (([(a0) % 256] : List Int) : List Int)).bind fun y670 => ((hypercuberef1_Two.f (l1.length : Int)).bind fun t673 => (if y670.length + t673.length < 140737488355328 then (hypercuberef2_Encode.l0 k l1 (y670 ++ t673) 0) else (none)))
def hypercuberef2_Encode.T14 : Bool × List (List Nat × List Nat) := (true, [([], []), ([], []), ([1], [1]), ([], []), ([2, 3], [2, 3]), ([4], [4]), ([5], [5]), ([0, 6, 6], [0, 6]), ([], []), ([8], [8]), ([], []), ([9, 10], [9, 10]), ([11], [11]), ([12, 7], [12]), ([7, 13, 13], [7, 13]), ([], []), ([15], [15]), ([], []), ([16, 17], [16, 17]), ([18], [18]), ([19, 14], [19]), ([14, 20, 20], [14, 20]), ([21, 21, 0, 1, 2, 3, 4, 5, 6, 7, 8, 9, 10, 11, 12, 13, 14, 15, 16, 17, 18, 19, 20, 21], [0, 21])])
def hypercuberef2_Encode.B14 : List Nat := [0, 0, 2, 0, 14, 30, 62, 127, 0, 256, 0, 1792, 3840, 8191, 16383, 0, 32768, 0, 229376, 491520, 1048575, 2097151, 4194303]
theorem hypercuberef2_Encode.tab14 : rtab .any (opsOf Try.f35 14) = hypercuberef2_Encode.T14 := by kernel_rfl
theorem hypercuberef2_Encode.bits14 : waitsOk hypercuberef2_Encode.T14.2 hypercuberef2_Encode.B14 = true := by kernel_rfl
set_option maxHeartbeats 8000000 in
set_option maxRecDepth 100000 in
theorem hypercuberef2_Encode.calls (k : Nat) (a0 : Int) (A1 : Option Addr) (c1 : Nat) (l1 : List (S30)) (r : List Int) (w : World) (hr1 : Kd.C k30 w A1 l1.length l1) (hc1 : l1.length ≤ c1) (h : hypercuberef2_Encode.f k a0 l1 = some r) :
  Calls Try.prog 35 #[.int .i64 a0, .slice A1 l1.length c1] w fun e w' => ∃ v0_ : Value, e = .returned (v0_) ∧ Kd.R (Kd.int .u8) 5 w' w.heap.size (fun _ => True) v0_ r ∧ Below w.heap.size w w' := by
 have hu30 := Try.underlying30
 have HR1 := am hr1
 have HC1 := am hc1
 clear hr1 hc1
 have HB := am (Below.refl w.heap.size w)
 have H : ((some (([(a0) % 256] : List Int) : List Int)).bind fun y670 => ((hypercuberef1_Two.f (l1.length : Int)).bind fun t673 => (if y670.length + t673.length < 140737488355328 then (hypercuberef2_Encode.l0 k l1 (y670 ++ t673) 0) else (none)))) = some r := h
 clear h
 obtain ⟨y670, hy670⟩ : ∃ y_ : List Int, y_ = (([(a0) % 256] : List Int)) := ⟨_, rfl⟩
 replace H : ((hypercuberef1_Two.f (l1.length : Int)).bind fun t673 => (if y670.length + t673.length < 140737488355328 then (hypercuberef2_Encode.l0 k l1 (y670 ++ t673) 0) else (none))) = some r := by first | (rw [hy670]; with_reducible exact H) | (have H2_ := (Option.bind_some _ _).symm.trans H; rw [hy670]; with_reducible exact H2_) | (have H2_ := (Option.bind_some _ _).symm.trans H; with_reducible exact H2_) | with_reducible exact H | (rw [hy670]; exact H) | exact H
 have Ny670 := am hy670
 clear hy670
 replace H := Option.bind_eq_some_iff.mp H
 obtain ⟨t673, A30, H⟩ := H
 replace H : (if y670.length + t673.length < 140737488355328 then (hypercuberef2_Encode.l0 k l1 (y670 ++ t673) 0) else (none)) = some r := H
 have A3 := am A30
 clear A30
 by_cases c4 : y670.length + t673.length < 140737488355328
 ·rw [if_pos c4] at H
  have LMc4 := am c4
  clear c4
  obtain ⟨y676, hy676⟩ : ∃ y_ : List Int, y_ = (y670 ++ t673) := ⟨_, rfl⟩
  replace H : (hypercuberef2_Encode.l0 k l1 y676 0) = some r := by rw [hy676]; with_reducible exact H
  have Ny676 := am hy676
  clear hy676
  have H' := am H
  clear H
  go_enter Try.func35, Try.ntmps35
  go_wp2_with (first | ((with_reducible refine gate_dst (N := 12) rfl ?_); refine Kd.R_lit (Kd.int .u8) _ 5 ?hg (N := 12) ?hd (xs := ([(a0) % 256] : List Int)) (inner := [.int .u8 ((a0) % 256)]) (ok := fun _ => True) (okp := fun _ => True) ?hr ?hp (fun _ hk => hk) trivial (Below.refl _ _) (Nat.le_refl _) (by simp) ?_; (case hd => rfl); (case hg => rfl); (case hr => first | (go_simp; done) | (go_simp; rfl)); (case hp => exact (Reps.one (show Kd.M (Kd.int .u8) _ _ _ ((a0) % 256) [.int .u8 ((a0) % 256)] from rfl) (Reps.none _ _))); intro v671 w5 ho6 hb hg_ hnew_; clear hg_ hnew_; (first | rw [← Ny670.out] at ho6 | (simp only [Int.reduceToNat] at ho6; rw [← Ny670.out] at ho6)); have n0_ := am (Kd.R_lower ho6 (below_size (zw HB))); have n1_ := am (below_step (zw HB) hb); clear HB; revert n0_ n1_; intro HO672 HB; clear hb ho6) | (go_at_call 53; (with_reducible refine (hypercuberef1_Two.calls (l1.length : Int) t673 _ A3.out).mono ?_); rintro e w7 ⟨v674, rfl, ho0, hb⟩; have n0_ := am (Kd.R_elder' (ze HO672) (Kd.R_base ho0) hb); have n1_ := am (Kd.R_lower (Kd.R_new' ho0 (Kd.R_lt (ze HO672))) (below_size (zw HB))); have n2_ := am (below_step (zw HB) hb); clear HO672 HB; revert n0_ n1_ n2_; intro HO672 HO675 HB; (try clear hb); (try clear hb2); (try clear hk); (try clear hi); (try clear ho0); obtain ⟨Ao9, co9, eo9⟩ := Kd.R_slice HO675.out; subst eo9) | ((with_reducible refine gate_builtin (b := .append) (xs := #[.tmp 12, .tmp 15]) rfl ?_); at_builtin; refine Kd.R_append_rows (Kd.int .u8) (w0 := w) w.heap.size rfl (.tmp 12) (.tmp 15) 51 5 (.int .u8 0) 1 rfl Try.underlying51 info5 rfl (by decide) (by omega) v671 y670 t673 _ _ _ (fun k_ => some k_ ≠ (.slice Ao9 t673.length co9 : Value).ownBlock) (fun _ => False) rfl rfl ?aO ?aR (fun _ _ h => h) (fun _ h => h.elim) ?aF ?aB ?aS ?aL ?_; (case aR => repeat (first | exact (Kd.R_reads' HO675.out).2.2 | (with_reducible refine Kd.C_alloc ?_ _) | (with_reducible refine Kd.C_drewN ?_ _) | (with_reducible refine Kd.C_drew ?_))); (case aB => exact (zw HB)); (case aF => exact (fun k_ hk => Kd.fresh' (Kd.R_lt (ze HO675)) k_ hk)); (case aO => exact (by refine zr ?_; exact Kd.R_mono HO672.out (fun _ hk => hk.2))); (case aS => exact (below_size (zw HB))); (case aL => have := LMc4.out; omega); intro v677 w8 ho hb hg hat; rw [← Ny676.out] at ho; have n0_ := am (Kd.R_after (ok := (fun _ => True)) (ze HO675) hg hat); have n1_ := am (hb); have n2_ := am (ho); clear HO675 HB HO672; revert n0_ n1_ n2_; intro HO675 HB HO678; clear ho hb hg hat))
  go_loopg [5, 6] k (fun kq v5 v6 w' => ∃ (x5_1 : List Int) (x6_1 : Int), v6 = .int .i64 x6_1 ∧ Aside0 (hypercuberef2_Encode.l0 kq l1 x5_1 x6_1 = some r) ∧ Aside0 (kq ≤ k) ∧ Aside0 (Kd.R (Kd.int .u8) 5 w' w.heap.size (fun _ => True) v5 x5_1) ∧ Aside0 (Below w.heap.size w w'))
  case atStart => exact ⟨(y676), (0), zz, H', ⟨Nat.le_refl _⟩, ⟨by refine zr ?_; exact Kd.R_mono HO678.out (fun _ hk => trivial)⟩, ⟨zw HB⟩⟩
  case round =>
   clear H'
   try clear c1
   try clear p2
   try clear c3
   try clear c4
   try clear c5
   obtain ⟨x5_1, x6_1, rfl, HA, HK1, HO_5, HB⟩ := hrel
   cases gk with
   | zero => exact absurd HA.out (by simp [hypercuberef2_Encode.l0])
   | succ k1 =>
    have H := HA.out
    clear HA
    simp only [hypercuberef2_Encode.l0] at H
    by_cases c10 : x6_1 < (l1.length : Int)
    ·rw [if_pos c10] at H
     have c10b0 : decide (x6_1 < (l1.length : Int)) = true := decide_eq_true c10
     clear c10
     by_cases c11 : 0 ≤ x6_1
     ·rw [if_pos c11] at H
      have c11b0 : decide (0 ≤ x6_1) = true := decide_eq_true c11
      clear c11
      have H' := am H
      clear H
      have p679 : 0 ≤ (x6_1 : Int) := zd
      have q679 : x6_1 < (l1.length : Int) := zd
      obtain ⟨ad679, A679_0, c679_0, A679_2, c679_2, A679_3, c679_3, A679_4, c679_4, e679, hx679_0, hx679_1, hx679_2, hx679_3, hx679_4, hl679_0, hi679_0, hl679_2, hi679_2, hl679_3, hi679_3, hl679_4, hi679_4⟩ := at_T30 HR1.out x6_1 p679 q679
      cases e679
      replace hx679_0 := zc HB hx679_0
      replace hx679_1 := zc HB hx679_1
      replace hx679_2 := zc HB hx679_2
      replace hx679_3 := zc HB hx679_3
      replace hx679_4 := zc HB hx679_4
      have HR679_0 := am hi679_0
      have HC679_0 := am hl679_0
      clear hi679_0 hl679_0
      have HR679_2 := am hi679_2
      have HC679_2 := am hl679_2
      clear hi679_2 hl679_2
      have HR679_3 := am hi679_3
      have HC679_3 := am hl679_3
      clear hi679_3 hl679_3
      have HR679_4 := am hi679_4
      have HC679_4 := am hl679_4
      clear hi679_4 hl679_4
      replace p679 := eq_true p679
      replace q679 := eq_true q679
      go_wp2_with (first | ((with_reducible refine gate_dst (N := 7) rfl ?_); refine zX #[.slice none 0 0, .int .i64 0, .slice none 0 0, .slice none 0 0, .slice none 0 0] 30 ?_; intro gb680 hg w12 hbox hb; have n0_ := am (Kd.R_below (Kd.R_mv HO_5.out) hb); have n1_ := am (below_step (wmv HB.out) hb); have n2_ := am (hbox); have n3_ := am ((by rw [hg]; exact (below_size (wmv HB.out)) : w.heap.size ≤ gb680)); have n4_ := am ((by rw [hg]; exact (below_size (wmv HB.out)) : w.heap.size ≤ gb680)); clear HO_5 HB; revert n0_ n1_ n2_ n3_ n4_; intro HO_5 HB BK680 GW680 GE680; clear hb hbox hg; have hcz13_0 : w12.cell? ⟨gb680, 0, none⟩ = some (.slice none 0 0) := (blk_cell BK680.out 0).trans rfl; have hcz13_1 : w12.cell? ⟨gb680, 1, none⟩ = some (.int .i64 0) := (blk_cell BK680.out 1).trans rfl; have hcz13_2 : w12.cell? ⟨gb680, 2, none⟩ = some (.slice none 0 0) := (blk_cell BK680.out 2).trans rfl; have hcz13_3 : w12.cell? ⟨gb680, 3, none⟩ = some (.slice none 0 0) := (blk_cell BK680.out 3).trans rfl; have hcz13_4 : w12.cell? ⟨gb680, 4, none⟩ = some (.slice none 0 0) := (blk_cell BK680.out 4).trans rfl; have hfz13_0 := blk_frozen BK680.out 0; have hfz13_1 := blk_frozen BK680.out 1; have hfz13_2 := blk_frozen BK680.out 2; have hfz13_3 := blk_frozen BK680.out 3; have hfz13_4 := blk_frozen BK680.out 4))
      go_loopg [5, 8] k1 (fun kq v5 v8 w' => ∃ (x5_2 : List Int) (x8_2 : Int), v8 = .int .i64 x8_2 ∧ Aside0 (hypercuberef2_Encode.l1 kq l1 x5_2 x6_1 x8_2 ((rd_T30 l1 x6_1).f0) ((rd_T30 l1 x6_1).f1) ((rd_T30 l1 x6_1).f2) ((rd_T30 l1 x6_1).f3) ((rd_T30 l1 x6_1).f4) = some r) ∧ Aside0 (kq ≤ k1) ∧ Aside0 (Kd.R (Kd.int .u8) 5 w' w.heap.size (fun _ => True) v5 x5_2) ∧ Aside0 (w'.heap[gb680]? = some (.cells #[(.slice A679_0 ((rd_T30 l1 x6_1).f0).length c679_0), .int .i64 ((rd_T30 l1 x6_1).f1), (.slice A679_2 ((rd_T30 l1 x6_1).f2).length c679_2), (.slice A679_3 ((rd_T30 l1 x6_1).f3).length c679_3), (.slice A679_4 ((rd_T30 l1 x6_1).f4).length c679_4)] 30 (0, 0))) ∧ Aside0 (Below w.heap.size w w'))
      case atStart => exact ⟨(x5_1), (0), zz, H', ⟨Nat.le_refl _⟩, ⟨by refine zr ?_; exact Kd.R_mono (Kd.R_far (p := ⟨gb680, 4, none⟩) (Kd.R_far (p := ⟨gb680, 3, none⟩) (Kd.R_far (p := ⟨gb680, 2, none⟩) (Kd.R_far (p := ⟨gb680, 1, none⟩) (Kd.R_far (p := ⟨gb680, 0, none⟩) (Kd.R_types HO_5.out BK680.out (by decide)) (fun _ hk => hk.2) (.slice A679_0 ((rd_T30 l1 x6_1).f0).length c679_0)) (fun _ hk => hk.2) (.int .i64 ((rd_T30 l1 x6_1).f1))) (fun _ hk => hk.2) (.slice A679_2 ((rd_T30 l1 x6_1).f2).length c679_2)) (fun _ hk => hk.2) (.slice A679_3 ((rd_T30 l1 x6_1).f3).length c679_3)) (fun _ hk => hk.2) (.slice A679_4 ((rd_T30 l1 x6_1).f4).length c679_4)) (fun _ hk => trivial)⟩, ⟨by refine zq ?_; refine blk_put (cs := #[.slice A679_0 ((rd_T30 l1 x6_1).f0).length c679_0, .int .i64 ((rd_T30 l1 x6_1).f1), .slice A679_2 ((rd_T30 l1 x6_1).f2).length c679_2, .slice A679_3 ((rd_T30 l1 x6_1).f3).length c679_3, .slice none 0 0]) ?_ 4 _ rfl; refine zq ?_; refine blk_put (cs := #[.slice A679_0 ((rd_T30 l1 x6_1).f0).length c679_0, .int .i64 ((rd_T30 l1 x6_1).f1), .slice A679_2 ((rd_T30 l1 x6_1).f2).length c679_2, .slice none 0 0, .slice none 0 0]) ?_ 3 _ rfl; refine zq ?_; refine blk_put (cs := #[.slice A679_0 ((rd_T30 l1 x6_1).f0).length c679_0, .int .i64 ((rd_T30 l1 x6_1).f1), .slice none 0 0, .slice none 0 0, .slice none 0 0]) ?_ 2 _ rfl; refine zq ?_; refine blk_put (cs := #[.slice A679_0 ((rd_T30 l1 x6_1).f0).length c679_0, .int .i64 0, .slice none 0 0, .slice none 0 0, .slice none 0 0]) ?_ 1 _ rfl; refine zq ?_; refine blk_put (cs := #[.slice none 0 0, .int .i64 0, .slice none 0 0, .slice none 0 0, .slice none 0 0]) ?_ 0 _ rfl; refine zq ?_; exact BK680.out⟩, ⟨zw HB⟩⟩
      case round =>
       clear H'
       try clear c1
       try clear p2
       try clear c3
       try clear c4
       try clear c5
       try clear c6
       try clear p6
       try clear q6
       try clear hx6
       try clear c10
       try clear c10b0
       try clear c11
       try clear c11b0
       try clear hcz13_0
       try clear hcz13_1
       try clear hcz13_2
       try clear hcz13_3
       try clear hcz13_4
       try clear hfz13_0
       try clear hfz13_1
       try clear hfz13_2
       try clear hfz13_3
       try clear hfz13_4
       try clear hx679_0
       try clear hx679_1
       try clear hx679_2
       try clear hx679_3
       try clear hx679_4
       try clear p2
       try clear p679
       try clear q679
       obtain ⟨x5_2, x8_2, rfl, HA, HK2, HO_5, BK680, HB⟩ := hrel
       cases gk with
       | zero => exact absurd HA.out (by simp [hypercuberef2_Encode.l1])
       | succ k2 =>
        have H := HA.out
        clear HA
        simp only [hypercuberef2_Encode.l1] at H
        by_cases c14 : x8_2 < (((rd_T30 l1 x6_1).f0).length : Int)
        ·rw [if_pos c14] at H
         have c14b0 : decide (x8_2 < (((rd_T30 l1 x6_1).f0).length : Int)) = true := decide_eq_true c14
         clear c14
         by_cases c15 : 0 ≤ x8_2
         ·rw [if_pos c15] at H
          have c15b0 : decide (0 ≤ x8_2) = true := decide_eq_true c15
          clear c15
          by_cases c16 : x5_2.length < 140737488355328
          ·rw [if_pos c16] at H
           have LMc16 := am c16
           clear c16
           obtain ⟨y682, hy682⟩ : ∃ y_ : List Int, y_ = (x5_2 ++ [(rd ((rd_T30 l1 x6_1).f0) x8_2) % 256]) := ⟨_, rfl⟩
           replace H : (hypercuberef2_Encode.l1 k2 l1 y682 x6_1 (wrap64 (x8_2 + 1)) ((rd_T30 l1 x6_1).f0) ((rd_T30 l1 x6_1).f1) ((rd_T30 l1 x6_1).f2) ((rd_T30 l1 x6_1).f3) ((rd_T30 l1 x6_1).f4)) = some r := by rw [hy682]; with_reducible exact H
           have Ny682 := am hy682
           clear hy682
           have H' := am H
           clear H
           have hcz17_0 : wr.cell? ⟨gb680, 0, none⟩ = some (.slice A679_0 ((rd_T30 l1 x6_1).f0).length c679_0) := (blk_cell BK680.out 0).trans rfl
           have hcz17_1 : wr.cell? ⟨gb680, 1, none⟩ = some (.int .i64 ((rd_T30 l1 x6_1).f1)) := (blk_cell BK680.out 1).trans rfl
           have hcz17_2 : wr.cell? ⟨gb680, 2, none⟩ = some (.slice A679_2 ((rd_T30 l1 x6_1).f2).length c679_2) := (blk_cell BK680.out 2).trans rfl
           have hcz17_3 : wr.cell? ⟨gb680, 3, none⟩ = some (.slice A679_3 ((rd_T30 l1 x6_1).f3).length c679_3) := (blk_cell BK680.out 3).trans rfl
           have hcz17_4 : wr.cell? ⟨gb680, 4, none⟩ = some (.slice A679_4 ((rd_T30 l1 x6_1).f4).length c679_4) := (blk_cell BK680.out 4).trans rfl
           have hfz17_0 := blk_frozen BK680.out 0
           have hfz17_1 := blk_frozen BK680.out 1
           have hfz17_2 := blk_frozen BK680.out 2
           have hfz17_3 := blk_frozen BK680.out 3
           have hfz17_4 := blk_frozen BK680.out 4
           have p681 : 0 ≤ (x8_2 : Int) := zd
           have q681 : x8_2 < (((rd_T30 l1 x6_1).f0).length : Int) := zd
           obtain ⟨ad681, e681, hx681_0⟩ := Kd.at_int HR679_0.out x8_2 p681 q681
           cases e681
           replace hx681_0 := zc HB hx681_0
           replace p681 := eq_true p681
           replace q681 := eq_true q681
           go_wp2_with (first | ((with_reducible refine gate_builtin (b := .append) (xs := #[.tmp 34, .tmp 41]) rfl ?_); at_builtin; refine Kd.R_append (Kd.int .u8) (w0 := w) w.heap.size rfl (.tmp 34) (.tmp 41) 51 5 (.int .u8 0) 1 rfl Try.underlying51 info5 rfl (by decide) (by omega) u5 x5_2 ((rd ((rd_T30 l1 x6_1).f0) x8_2) % 256) [.int .u8 ((rd ((rd_T30 l1 x6_1).f0) x8_2) % 256)] (fun _ => True) (fun _ => False) rfl rfl ?aP (fun _ hk => hk.elim) ?aF ?aO ?aB ?aS ?aL ?_; (case aP => exact rfl); (case aB => exact (wmv HB.out)); (case aF => exact (fun _ _ => trivial)); (case aO => exact (Kd.R_mv HO_5.out)); (case aS => exact (below_size (wmv HB.out))); (case aL => have := LMc16.out; omega); intro v683 w18 ho hb hg hat; rw [← Ny682.out] at ho; have n0_ := am (blk_grown (bmv BK680.out) hg (Kd.R_ne HO_5.out BK680.out (by decide))); have n1_ := am (hb); have n2_ := am (ho); clear BK680 HB HO_5; revert n0_ n1_ n2_; intro BK680 HB HO684; clear ho hb hg hat))
           go_roundg k2
           case measure => have := HK1.out; have := HK2.out; omega
           case rel => exact ⟨(y682), (wrap64 (x8_2 + 1)), zz, H', ⟨by have := HK1.out; have := HK2.out; omega⟩, ⟨by refine zr ?_; exact HO684.out⟩, ⟨by refine zq ?_; exact BK680.out⟩, ⟨zw HB⟩⟩
          ·rw [if_neg c16] at H
           exact absurd H (by simp)
         ·rw [if_neg c15] at H
          exact absurd H (by simp)
        ·rw [if_neg c14] at H
         have c14b0 : decide (x8_2 < (((rd_T30 l1 x6_1).f0).length : Int)) = false := decide_eq_false c14
         clear c14
         replace H := Option.bind_eq_some_iff.mp H
         obtain ⟨t685, A190, H⟩ := H
         replace H : (if x5_2.length + t685.length < 140737488355328 then (hypercuberef2_Encode.l2 k2 l1 (x5_2 ++ t685) x6_1 0 ((rd_T30 l1 x6_1).f0) ((rd_T30 l1 x6_1).f1) ((rd_T30 l1 x6_1).f2) ((rd_T30 l1 x6_1).f3) ((rd_T30 l1 x6_1).f4)) else (none)) = some r := H
         have A19 := am A190
         clear A190
         by_cases c20 : x5_2.length + t685.length < 140737488355328
         ·rw [if_pos c20] at H
          have LMc20 := am c20
          clear c20
          obtain ⟨y688, hy688⟩ : ∃ y_ : List Int, y_ = (x5_2 ++ t685) := ⟨_, rfl⟩
          replace H : (hypercuberef2_Encode.l2 k2 l1 y688 x6_1 0 ((rd_T30 l1 x6_1).f0) ((rd_T30 l1 x6_1).f1) ((rd_T30 l1 x6_1).f2) ((rd_T30 l1 x6_1).f3) ((rd_T30 l1 x6_1).f4)) = some r := by rw [hy688]; with_reducible exact H
          have Ny688 := am hy688
          clear hy688
          have H' := am H
          clear H
          have hcz21_0 : wr.cell? ⟨gb680, 0, none⟩ = some (.slice A679_0 ((rd_T30 l1 x6_1).f0).length c679_0) := (blk_cell BK680.out 0).trans rfl
          have hcz21_1 : wr.cell? ⟨gb680, 1, none⟩ = some (.int .i64 ((rd_T30 l1 x6_1).f1)) := (blk_cell BK680.out 1).trans rfl
          have hcz21_2 : wr.cell? ⟨gb680, 2, none⟩ = some (.slice A679_2 ((rd_T30 l1 x6_1).f2).length c679_2) := (blk_cell BK680.out 2).trans rfl
          have hcz21_3 : wr.cell? ⟨gb680, 3, none⟩ = some (.slice A679_3 ((rd_T30 l1 x6_1).f3).length c679_3) := (blk_cell BK680.out 3).trans rfl
          have hcz21_4 : wr.cell? ⟨gb680, 4, none⟩ = some (.slice A679_4 ((rd_T30 l1 x6_1).f4).length c679_4) := (blk_cell BK680.out 4).trans rfl
          have hfz21_0 := blk_frozen BK680.out 0
          have hfz21_1 := blk_frozen BK680.out 1
          have hfz21_2 := blk_frozen BK680.out 2
          have hfz21_3 := blk_frozen BK680.out 3
          have hfz21_4 := blk_frozen BK680.out 4
          go_wp2_with (first | (go_at_call 53; (with_reducible refine (hypercuberef1_Two.calls ((rd_T30 l1 x6_1).f1) t685 _ A19.out).mono ?_); rintro e w22 ⟨v686, rfl, ho0, hb⟩; have n0_ := am (Kd.R_elder' (ze HO_5) (Kd.R_base ho0) hb); have n1_ := am (Kd.R_lower (Kd.R_new' ho0 (Kd.R_lt (ze HO_5))) (below_size (zw HB))); have n2_ := am (blk_below (g := gb680) (o := .cells #[.slice A679_0 ((rd_T30 l1 x6_1).f0).length c679_0, .int .i64 ((rd_T30 l1 x6_1).f1), .slice A679_2 ((rd_T30 l1 x6_1).f2).length c679_2, .slice A679_3 ((rd_T30 l1 x6_1).f3).length c679_3, .slice A679_4 ((rd_T30 l1 x6_1).f4).length c679_4] 30 (0, 0)) (zb BK680) hb); have n3_ := am (below_step (zw HB) hb); clear HO_5 BK680 HB; revert n0_ n1_ n2_ n3_; intro HO_5 HO687 BK680 HB; (try clear hb); (try clear hb2); (try clear hk); (try clear hi); (try clear ho0); obtain ⟨Ao24, co24, eo24⟩ := Kd.R_slice HO687.out; subst eo24) | ((with_reducible refine gate_builtin (b := .append) (xs := #[.tmp 43, .tmp 46]) rfl ?_); at_builtin; refine Kd.R_append_rows (Kd.int .u8) (w0 := w) w.heap.size rfl (.tmp 43) (.tmp 46) 51 5 (.int .u8 0) 1 rfl Try.underlying51 info5 rfl (by decide) (by omega) u5 x5_2 t685 _ _ _ (fun k_ => some k_ ≠ (.slice Ao24 t685.length co24 : Value).ownBlock) (fun _ => False) rfl rfl ?aO ?aR (fun _ _ h => h) (fun _ h => h.elim) ?aF ?aB ?aS ?aL ?_; (case aR => repeat (first | exact (Kd.R_reads' HO687.out).2.2 | (with_reducible refine Kd.C_alloc ?_ _) | (with_reducible refine Kd.C_drewN ?_ _) | (with_reducible refine Kd.C_drew ?_))); (case aB => exact (zw HB)); (case aF => exact (fun k_ hk => Kd.fresh' (Kd.R_lt (ze HO687)) k_ hk)); (case aO => exact (by refine zr ?_; exact Kd.R_mono HO_5.out (fun _ hk => hk.2))); (case aS => exact (below_size (zw HB))); (case aL => have := LMc20.out; omega); intro v689 w23 ho hb hg hat; rw [← Ny688.out] at ho; have n0_ := am (blk_grown (g := gb680) (o := .cells #[.slice A679_0 ((rd_T30 l1 x6_1).f0).length c679_0, .int .i64 ((rd_T30 l1 x6_1).f1), .slice A679_2 ((rd_T30 l1 x6_1).f2).length c679_2, .slice A679_3 ((rd_T30 l1 x6_1).f3).length c679_3, .slice A679_4 ((rd_T30 l1 x6_1).f4).length c679_4] 30 (0, 0)) (zb BK680) hg (Kd.R_ne HO_5.out BK680.out (by decide))); have n1_ := am (Kd.R_after (ok := (fun _ => True)) (ze HO687) hg hat); have n2_ := am (hb); have n3_ := am (ho); clear BK680 HO687 HB HO_5; revert n0_ n1_ n2_ n3_; intro BK680 HO687 HB HO690; clear ho hb hg hat))
          go_loopg [5, 9] k2 (fun kq v5 v9 w' => ∃ (x5_3 : List Int) (x9_3 : Int), v9 = .int .i64 x9_3 ∧ Aside0 (hypercuberef2_Encode.l2 kq l1 x5_3 x6_1 x9_3 ((rd_T30 l1 x6_1).f0) ((rd_T30 l1 x6_1).f1) ((rd_T30 l1 x6_1).f2) ((rd_T30 l1 x6_1).f3) ((rd_T30 l1 x6_1).f4) = some r) ∧ Aside0 (kq ≤ k2) ∧ Aside0 (Kd.R (Kd.int .u8) 5 w' w.heap.size (fun _ => True) v5 x5_3) ∧ Aside0 (w'.heap[gb680]? = some (.cells #[(.slice A679_0 ((rd_T30 l1 x6_1).f0).length c679_0), .int .i64 ((rd_T30 l1 x6_1).f1), (.slice A679_2 ((rd_T30 l1 x6_1).f2).length c679_2), (.slice A679_3 ((rd_T30 l1 x6_1).f3).length c679_3), (.slice A679_4 ((rd_T30 l1 x6_1).f4).length c679_4)] 30 (0, 0))) ∧ Aside0 (Below w.heap.size w w'))
          case atStart => exact ⟨(y688), (0), zz, H', ⟨Nat.le_refl _⟩, ⟨by refine zr ?_; exact Kd.R_mono HO690.out (fun _ hk => trivial)⟩, ⟨by refine zq ?_; exact BK680.out⟩, ⟨zw HB⟩⟩
          case round =>
           clear H'
           try clear c1
           try clear c2
           try clear p2
           try clear c3
           try clear c4
           try clear c5
           try clear c6
           try clear p6
           try clear q6
           try clear hx6
           try clear c10
           try clear c10b0
           try clear c11
           try clear c11b0
           try clear c14
           try clear c14b0
           try clear c15
           try clear c15b0
           try clear c16
           try clear c20
           try clear hcz13_0
           try clear hcz13_1
           try clear hcz13_2
           try clear hcz13_3
           try clear hcz13_4
           try clear hcz17_0
           try clear hcz17_1
           try clear hcz17_2
           try clear hcz17_3
           try clear hcz17_4
           try clear hcz21_0
           try clear hcz21_1
           try clear hcz21_2
           try clear hcz21_3
           try clear hcz21_4
           try clear hfz13_0
           try clear hfz13_1
           try clear hfz13_2
           try clear hfz13_3
           try clear hfz13_4
           try clear hfz17_0
           try clear hfz17_1
           try clear hfz17_2
           try clear hfz17_3
           try clear hfz17_4
           try clear hfz21_0
           try clear hfz21_1
           try clear hfz21_2
           try clear hfz21_3
           try clear hfz21_4
           try clear hx679_0
           try clear hx679_1
           try clear hx679_2
           try clear hx679_3
           try clear hx679_4
           try clear hx681_0
           try clear p2
           try clear p6
           try clear p679
           try clear p681
           try clear q6
           try clear q679
           try clear q681
           obtain ⟨x5_3, x9_3, rfl, HA, HK3, HO_5, BK680, HB⟩ := hrel
           cases gk with
           | zero => exact absurd HA.out (by simp [hypercuberef2_Encode.l2])
           | succ k3 =>
            have H := HA.out
            clear HA
            simp only [hypercuberef2_Encode.l2] at H
            by_cases c25 : x9_3 < (((rd_T30 l1 x6_1).f2).length : Int)
            ·rw [if_pos c25] at H
             have c25b0 : decide (x9_3 < (((rd_T30 l1 x6_1).f2).length : Int)) = true := decide_eq_true c25
             clear c25
             by_cases c26 : 0 ≤ x9_3
             ·rw [if_pos c26] at H
              have c26b0 : decide (0 ≤ x9_3) = true := decide_eq_true c26
              clear c26
              replace H := Option.bind_eq_some_iff.mp H
              obtain ⟨t692, A270, H⟩ := H
              replace H : (if x5_3.length + t692.length < 140737488355328 then ((some (x5_3 ++ t692 : List Int)).bind fun y695 => (if x9_3 < (((rd_T30 l1 x6_1).f3).length : Int) then ((hypercuberef1_Eight.f k3 (rd ((rd_T30 l1 x6_1).f3) x9_3)).bind fun t699 => (if y695.length + t699.length < 140737488355328 then ((some (y695 ++ t699 : List Int)).bind fun y702 => (if x9_3 < (((rd_T30 l1 x6_1).f4).length : Int) then ((hypercuberef1_Eight.f k3 (rd ((rd_T30 l1 x6_1).f4) x9_3)).bind fun t706 => (if y702.length + t706.length < 140737488355328 then (hypercuberef2_Encode.l2 k3 l1 (y702 ++ t706) x6_1 (wrap64 (x9_3 + 1)) ((rd_T30 l1 x6_1).f0) ((rd_T30 l1 x6_1).f1) ((rd_T30 l1 x6_1).f2) ((rd_T30 l1 x6_1).f3) ((rd_T30 l1 x6_1).f4)) else (none))) else (none))) else (none))) else (none))) else (none)) = some r := H
              have A27 := am A270
              clear A270
              by_cases c28 : x5_3.length + t692.length < 140737488355328
              ·rw [if_pos c28] at H
               have LMc28 := am c28
               clear c28
               obtain ⟨y695, hy695⟩ : ∃ y_ : List Int, y_ = (x5_3 ++ t692) := ⟨_, rfl⟩
               replace H : (if x9_3 < (((rd_T30 l1 x6_1).f3).length : Int) then ((hypercuberef1_Eight.f k3 (rd ((rd_T30 l1 x6_1).f3) x9_3)).bind fun t699 => (if y695.length + t699.length < 140737488355328 then ((some (y695 ++ t699 : List Int)).bind fun y702 => (if x9_3 < (((rd_T30 l1 x6_1).f4).length : Int) then ((hypercuberef1_Eight.f k3 (rd ((rd_T30 l1 x6_1).f4) x9_3)).bind fun t706 => (if y702.length + t706.length < 140737488355328 then (hypercuberef2_Encode.l2 k3 l1 (y702 ++ t706) x6_1 (wrap64 (x9_3 + 1)) ((rd_T30 l1 x6_1).f0) ((rd_T30 l1 x6_1).f1) ((rd_T30 l1 x6_1).f2) ((rd_T30 l1 x6_1).f3) ((rd_T30 l1 x6_1).f4)) else (none))) else (none))) else (none))) else (none)) = some r := by first | (rw [hy695]; with_reducible exact H) | (have H2_ := (Option.bind_some _ _).symm.trans H; rw [hy695]; with_reducible exact H2_) | (have H2_ := (Option.bind_some _ _).symm.trans H; with_reducible exact H2_) | with_reducible exact H | (rw [hy695]; exact H) | exact H
               have Ny695 := am hy695
               clear hy695
               by_cases c29 : x9_3 < (((rd_T30 l1 x6_1).f3).length : Int)
               ·rw [if_pos c29] at H
                have c29b0 : decide (x9_3 < (((rd_T30 l1 x6_1).f3).length : Int)) = true := decide_eq_true c29
                clear c29
                replace H := Option.bind_eq_some_iff.mp H
                obtain ⟨t699, A300, H⟩ := H
                replace H : (if y695.length + t699.length < 140737488355328 then ((some (y695 ++ t699 : List Int)).bind fun y702 => (if x9_3 < (((rd_T30 l1 x6_1).f4).length : Int) then ((hypercuberef1_Eight.f k3 (rd ((rd_T30 l1 x6_1).f4) x9_3)).bind fun t706 => (if y702.length + t706.length < 140737488355328 then (hypercuberef2_Encode.l2 k3 l1 (y702 ++ t706) x6_1 (wrap64 (x9_3 + 1)) ((rd_T30 l1 x6_1).f0) ((rd_T30 l1 x6_1).f1) ((rd_T30 l1 x6_1).f2) ((rd_T30 l1 x6_1).f3) ((rd_T30 l1 x6_1).f4)) else (none))) else (none))) else (none)) = some r := H
                have A30 := am A300
                clear A300
                by_cases c31 : y695.length + t699.length < 140737488355328
                ·rw [if_pos c31] at H
                 have LMc31 := am c31
                 clear c31
                 obtain ⟨y702, hy702⟩ : ∃ y_ : List Int, y_ = (y695 ++ t699) := ⟨_, rfl⟩
                 replace H : (if x9_3 < (((rd_T30 l1 x6_1).f4).length : Int) then ((hypercuberef1_Eight.f k3 (rd ((rd_T30 l1 x6_1).f4) x9_3)).bind fun t706 => (if y702.length + t706.length < 140737488355328 then (hypercuberef2_Encode.l2 k3 l1 (y702 ++ t706) x6_1 (wrap64 (x9_3 + 1)) ((rd_T30 l1 x6_1).f0) ((rd_T30 l1 x6_1).f1) ((rd_T30 l1 x6_1).f2) ((rd_T30 l1 x6_1).f3) ((rd_T30 l1 x6_1).f4)) else (none))) else (none)) = some r := by first | (rw [hy702]; with_reducible exact H) | (have H2_ := (Option.bind_some _ _).symm.trans H; rw [hy702]; with_reducible exact H2_) | (have H2_ := (Option.bind_some _ _).symm.trans H; with_reducible exact H2_) | with_reducible exact H | (rw [hy702]; exact H) | exact H
                 have Ny702 := am hy702
                 clear hy702
                 by_cases c32 : x9_3 < (((rd_T30 l1 x6_1).f4).length : Int)
                 ·rw [if_pos c32] at H
                  have c32b0 : decide (x9_3 < (((rd_T30 l1 x6_1).f4).length : Int)) = true := decide_eq_true c32
                  clear c32
                  replace H := Option.bind_eq_some_iff.mp H
                  obtain ⟨t706, A330, H⟩ := H
                  replace H : (if y702.length + t706.length < 140737488355328 then (hypercuberef2_Encode.l2 k3 l1 (y702 ++ t706) x6_1 (wrap64 (x9_3 + 1)) ((rd_T30 l1 x6_1).f0) ((rd_T30 l1 x6_1).f1) ((rd_T30 l1 x6_1).f2) ((rd_T30 l1 x6_1).f3) ((rd_T30 l1 x6_1).f4)) else (none)) = some r := H
                  have A33 := am A330
                  clear A330
                  by_cases c34 : y702.length + t706.length < 140737488355328
                  ·rw [if_pos c34] at H
                   have LMc34 := am c34
                   clear c34
                   obtain ⟨y709, hy709⟩ : ∃ y_ : List Int, y_ = (y702 ++ t706) := ⟨_, rfl⟩
                   replace H : (hypercuberef2_Encode.l2 k3 l1 y709 x6_1 (wrap64 (x9_3 + 1)) ((rd_T30 l1 x6_1).f0) ((rd_T30 l1 x6_1).f1) ((rd_T30 l1 x6_1).f2) ((rd_T30 l1 x6_1).f3) ((rd_T30 l1 x6_1).f4)) = some r := by rw [hy709]; with_reducible exact H
                   have Ny709 := am hy709
                   clear hy709
                   have H' := am H
                   clear H
                   have hcz35_0 : wr.cell? ⟨gb680, 0, none⟩ = some (.slice A679_0 ((rd_T30 l1 x6_1).f0).length c679_0) := (blk_cell BK680.out 0).trans rfl
                   have hcz35_1 : wr.cell? ⟨gb680, 1, none⟩ = some (.int .i64 ((rd_T30 l1 x6_1).f1)) := (blk_cell BK680.out 1).trans rfl
                   have hcz35_2 : wr.cell? ⟨gb680, 2, none⟩ = some (.slice A679_2 ((rd_T30 l1 x6_1).f2).length c679_2) := (blk_cell BK680.out 2).trans rfl
                   have hcz35_3 : wr.cell? ⟨gb680, 3, none⟩ = some (.slice A679_3 ((rd_T30 l1 x6_1).f3).length c679_3) := (blk_cell BK680.out 3).trans rfl
                   have hcz35_4 : wr.cell? ⟨gb680, 4, none⟩ = some (.slice A679_4 ((rd_T30 l1 x6_1).f4).length c679_4) := (blk_cell BK680.out 4).trans rfl
                   have hfz35_0 := blk_frozen BK680.out 0
                   have hfz35_1 := blk_frozen BK680.out 1
                   have hfz35_2 := blk_frozen BK680.out 2
                   have hfz35_3 := blk_frozen BK680.out 3
                   have hfz35_4 := blk_frozen BK680.out 4
                   try go_wp2
                   have n0_ := am (Kd.R_drew HO_5.out)
                   have n1_ := am (blk_drew BK680.out)
                   have n2_ := am (below_drew1 HB.out)
                   clear HO_5 BK680 HB
                   revert n0_ n1_ n2_
                   intro HO_5 BK680 HB
                   have p691 : 0 ≤ (x9_3 : Int) := zd
                   have q691 : x9_3 < (((rd_T30 l1 x6_1).f2).length : Int) := zd
                   obtain ⟨ad691, e691, hx691_0⟩ := Kd.at_int HR679_2.out x9_3 p691 q691
                   have hw691_0 := hx691_0
                   cases e691
                   replace hx691_0 := zc HB hx691_0
                   replace p691 := eq_true p691
                   replace q691 := eq_true q691
                   have p698 : 0 ≤ (x9_3 : Int) := zd
                   have q698 : x9_3 < (((rd_T30 l1 x6_1).f3).length : Int) := zd
                   obtain ⟨ad698, e698, hx698_0⟩ := Kd.at_int HR679_3.out x9_3 p698 q698
                   have hw698_0 := hx698_0
                   cases e698
                   replace hx698_0 := zc HB hx698_0
                   replace p698 := eq_true p698
                   replace q698 := eq_true q698
                   have p705 : 0 ≤ (x9_3 : Int) := zd
                   have q705 : x9_3 < (((rd_T30 l1 x6_1).f4).length : Int) := zd
                   obtain ⟨ad705, e705, hx705_0⟩ := Kd.at_int HR679_4.out x9_3 p705 q705
                   have hw705_0 := hx705_0
                   cases e705
                   replace hx705_0 := zc HB hx705_0
                   replace p705 := eq_true p705
                   replace q705 := eq_true q705
                   refine start_ (n := 23) (S := fun w' => w'.cell? ⟨gb680, 0, none⟩ = some (.slice A679_0 ((rd_T30 l1 x6_1).f0).length c679_0) ∧ w'.cell? ⟨gb680, 1, none⟩ = some (.int .i64 ((rd_T30 l1 x6_1).f1)) ∧ w'.cell? ⟨gb680, 2, none⟩ = some (.slice (some ad691) ((rd_T30 l1 x6_1).f2).length c679_2) ∧ w'.cell? ⟨gb680, 3, none⟩ = some (.slice (some ad698) ((rd_T30 l1 x6_1).f3).length c679_3) ∧ w'.cell? ⟨gb680, 4, none⟩ = some (.slice (some ad705) ((rd_T30 l1 x6_1).f4).length c679_4) ∧ w'.cell? (ad691.add (x9_3).toNat) = some (.int .i64 (rd ((rd_T30 l1 x6_1).f2) x9_3)) ∧ w'.cell? (ad698.add (x9_3).toNat) = some (.int .i64 (rd ((rd_T30 l1 x6_1).f3) x9_3)) ∧ w'.cell? (ad705.add (x9_3).toNat) = some (.int .i64 (rd ((rd_T30 l1 x6_1).f4) x9_3))) (ds := []) (bb 23 0) (by kernel_rfl) rfl rfl ⟨bc BK680 0, bc BK680 1, bc BK680 2, bc BK680 3, bc BK680 4, (zc HB hw691_0), (zc HB hw698_0), (zc HB hw705_0)⟩ (fun hHeld => ?_); refine with_tabW hypercuberef2_Encode.tab14 hypercuberef2_Encode.bits14 (fun HT_ HW_ => ?_)
                   generalize wr.drew = w36 at HO_5 BK680 HB hx691_0 hx698_0 hx705_0 hHeld ⊢
                   refine zu 0 (some 55) (bb 23 1) HT_ ?_
                   refine zu 1 (some 56) (bb 23 3) HT_ ?_
                   refine zu 3 (some 58) (bb 23 11) HT_ ?_
                   refine zu 8 (some 63) (bb 23 267) HT_ ?_
                   refine zu 10 (some 65) (bb 23 1291) HT_ ?_
                   refine zu 15 (some 70) (bb 23 34059) HT_ ?_
                   refine zu 17 (some 72) (bb 23 165131) HT_ ?_
                   refine zk 2 (some 57) (bb 23 165135) HT_ HW_ hHeld ?_
                   refine zu 4 (some 59) (bb 23 165151) HT_ ?_
                   refine zk 5 (some 60) (bb 23 165183) HT_ HW_ hHeld ?_
                   refine zk 9 (some 64) (bb 23 165695) HT_ HW_ hHeld ?_
                   refine zu 11 (some 66) (bb 23 167743) HT_ ?_
                   refine zk 12 (some 67) (bb 23 171839) HT_ HW_ hHeld ?_
                   refine zk 16 (some 71) (bb 23 237375) HT_ HW_ hHeld ?_
                   refine zu 18 (some 73) (bb 23 499519) HT_ ?_
                   refine zk 19 (some 74) (bb 23 1023807) HT_ HW_ hHeld ?_
                   refine zo 6 (some 61) (bb 23 1023871) HT_ (fun K hK => ?_)
                   refine goes_ Try.func54 (by kernel_rfl) rfl #[.int .i64 (rd ((rd_T30 l1 x6_1).f2) x9_3)] (by rfl) rfl rfl zm ?_
                   with_reducible refine (hypercuberef1_Eight.calls k3 (rd ((rd_T30 l1 x6_1).f2) x9_3) t692 _ A27.out).mono ?_
                   rintro e w37 ⟨v693, rfl, ho0, hb⟩
                   refine ⟨_, rfl, ?_⟩
                   have n0_ := am (Kd.R_elder' (Kd.R_mv HO_5.out) (Kd.R_base ho0) hb)
                   have n1_ := am (Kd.R_lower (Kd.R_new' ho0 (Kd.R_lt (Kd.R_mv HO_5.out))) (below_size (wmv HB.out)))
                   have n2_ := am (blk_below (bmv BK680.out) hb)
                   have n3_ := am (below_step (wmv HB.out) hb)
                   clear HO_5 BK680 HB
                   revert n0_ n1_ n2_ n3_
                   intro HO_5 HO694 BK680 HB
                   (try clear hb)
                   (try clear hb2)
                   (try clear hk)
                   (try clear hi)
                   (try clear ho0)
                   obtain ⟨Ao39, co39, eo39⟩ := Kd.R_slice HO694.out
                   (first | subst eo39 | (injection eo39 with f1_ f2_ f3_; have f4_ := f1_.symm; have f5_ := f3_.symm; clear f1_ f2_ f3_; subst f4_; subst f5_))
                   refine hK.out _ _ ⟨bc BK680 0, bc BK680 1, bc BK680 2, bc BK680 3, bc BK680 4, (zc HB hw691_0), (zc HB hw698_0), (zc HB hw705_0)⟩ (fun hHeld => ?_)
                   clear hK K
                   refine nm ?_
                   refine zo 7 (some 62) (bb 23 1023999) HT_ (fun K hK => ?_)
                   refine Kd.R_append_rows_step (Kd.int .u8) (w0 := w) w.heap.size (by rfl) (.tmp 55) (.tmp 61) 51 5 (.int .u8 0) 1 rfl Try.underlying51 info5 rfl (by decide) (by omega) u5 x5_3 t692 _ _ _ (fun k_ => some k_ ≠ (.slice Ao39 t692.length co39 : Value).ownBlock) (fun _ => False) rfl rfl ?aO ?aR (fun _ _ h => h) (fun _ h => h.elim) ?aF ?aB ?aS ?aL ?_
                   (case aR => exact Kd.C_mv ((Kd.R_reads' HO694.out).2.2))
                   (case aB => exact (wmv HB.out))
                   (case aF => exact (fun k_ hk => Kd.fresh' (Kd.R_lt (Kd.R_mv HO694.out)) k_ hk))
                   (case aO => exact (Kd.R_mv (Kd.R_mono HO_5.out (fun _ hk => hk.2))))
                   (case aS => exact (below_size (wmv HB.out)))
                   (case aL => have := LMc28.out; omega)
                   intro v696 w38 ho hb hg hat
                   rw [← Ny695.out] at ho
                   have n0_ := am (blk_grown (bmv BK680.out) hg (Kd.R_ne HO_5.out BK680.out (by decide)))
                   have n1_ := am (Kd.R_after (ok := (fun _ => True)) (Kd.R_mv HO694.out) hg hat)
                   have n2_ := am (hb)
                   have n3_ := am (ho)
                   clear BK680 HO694 HB HO_5
                   revert n0_ n1_ n2_ n3_
                   intro BK680 HO694 HB HO697
                   clear ho hb hg hat
                   refine hK.out _ _ ⟨bc BK680 0, bc BK680 1, bc BK680 2, bc BK680 3, bc BK680 4, (zc HB hw691_0), (zc HB hw698_0), (zc HB hw705_0)⟩ (fun hHeld => ?_)
                   clear hK K
                   refine nm ?_
                   refine zo 13 (some 68) (bb 23 1032191) HT_ (fun K hK => ?_)
                   refine goes_ Try.func54 (by kernel_rfl) rfl #[.int .i64 (rd ((rd_T30 l1 x6_1).f3) x9_3)] (by rfl) rfl rfl zm ?_
                   with_reducible refine (hypercuberef1_Eight.calls k3 (rd ((rd_T30 l1 x6_1).f3) x9_3) t699 _ A30.out).mono ?_
                   rintro e w40 ⟨v700, rfl, ho0, hb⟩
                   refine ⟨_, rfl, ?_⟩
                   have n0_ := am (Kd.R_elder' (Kd.R_mv HO694.out) (Kd.R_base ho0) hb)
                   have n1_ := am (Kd.R_elder' (Kd.R_mv HO697.out) (Kd.R_base ho0) hb)
                   have n2_ := am (Kd.R_lower (Kd.R_new' (Kd.R_new' ho0 (Kd.R_lt (Kd.R_mv HO694.out))) (Kd.R_lt (Kd.R_mv HO697.out))) (below_size (wmv HB.out)))
                   have n3_ := am (blk_below (bmv BK680.out) hb)
                   have n4_ := am (below_step (wmv HB.out) hb)
                   clear HO694 HO697 BK680 HB
                   revert n0_ n1_ n2_ n3_ n4_
                   intro HO694 HO697 HO701 BK680 HB
                   (try clear hb)
                   (try clear hb2)
                   (try clear hk)
                   (try clear hi)
                   (try clear ho0)
                   obtain ⟨Ao42, co42, eo42⟩ := Kd.R_slice HO701.out
                   (first | subst eo42 | (injection eo42 with f1_ f2_ f3_; have f4_ := f1_.symm; have f5_ := f3_.symm; clear f1_ f2_ f3_; subst f4_; subst f5_))
                   refine hK.out _ _ ⟨bc BK680 0, bc BK680 1, bc BK680 2, bc BK680 3, bc BK680 4, (zc HB hw691_0), (zc HB hw698_0), (zc HB hw705_0)⟩ (fun hHeld => ?_)
                   clear hK K
                   refine nm ?_
                   refine zo 14 (some 69) (bb 23 1048575) HT_ (fun K hK => ?_)
                   refine Kd.R_append_rows_step (Kd.int .u8) (w0 := w) w.heap.size (by rfl) (.tmp 62) (.tmp 68) 51 5 (.int .u8 0) 1 rfl Try.underlying51 info5 rfl (by decide) (by omega) v696 y695 t699 _ _ _ (fun k_ => some k_ ≠ (.slice Ao39 t692.length co39 : Value).ownBlock ∧ some k_ ≠ (.slice Ao42 t699.length co42 : Value).ownBlock) (fun _ => False) rfl rfl ?aO ?aR (fun _ _ h => h) (fun _ h => h.elim) ?aF ?aB ?aS ?aL ?_
                   (case aR => exact Kd.C_mv ((Kd.R_reads' HO701.out).2.2))
                   (case aB => exact (wmv HB.out))
                   (case aF => exact (fun k_ hk => ⟨Kd.fresh' (Kd.R_lt (Kd.R_mv HO694.out)) k_ hk, Kd.fresh' (Kd.R_lt (Kd.R_mv HO701.out)) k_ hk⟩))
                   (case aO => exact (Kd.R_mv HO697.out))
                   (case aS => exact (below_size (wmv HB.out)))
                   (case aL => have := LMc31.out; omega)
                   intro v703 w41 ho hb hg hat
                   rw [← Ny702.out] at ho
                   have n0_ := am (blk_grown (bmv BK680.out) hg (Kd.R_ne HO697.out BK680.out (by decide)))
                   have n1_ := am (Kd.R_after (ok := (fun k_ => some k_ ≠ (.slice Ao42 t699.length co42 : Value).ownBlock)) (Kd.R_mv (Kd.R_mono HO694.out (fun _ hk => ⟨hk.2, hk.1.2⟩))) hg hat)
                   have n2_ := am (Kd.R_after (ok := (fun k_ => some k_ ≠ (.slice Ao39 t692.length co39 : Value).ownBlock)) (Kd.R_mv (Kd.R_mono HO701.out (fun _ hk => ⟨hk.1.2, hk.2⟩))) hg hat)
                   have n3_ := am (hb)
                   have n4_ := am (ho)
                   clear BK680 HO694 HO701 HB HO697
                   revert n0_ n1_ n2_ n3_ n4_
                   intro BK680 HO694 HO701 HB HO704
                   clear ho hb hg hat
                   refine hK.out _ _ ⟨bc BK680 0, bc BK680 1, bc BK680 2, bc BK680 3, bc BK680 4, (zc HB hw691_0), (zc HB hw698_0), (zc HB hw705_0)⟩ (fun hHeld => ?_)
                   clear hK K
                   refine nm ?_
                   refine zo 20 (some 75) (bb 23 2097151) HT_ (fun K hK => ?_)
                   refine goes_ Try.func54 (by kernel_rfl) rfl #[.int .i64 (rd ((rd_T30 l1 x6_1).f4) x9_3)] (by rfl) rfl rfl zm ?_
                   with_reducible refine (hypercuberef1_Eight.calls k3 (rd ((rd_T30 l1 x6_1).f4) x9_3) t706 _ A33.out).mono ?_
                   rintro e w43 ⟨v707, rfl, ho0, hb⟩
                   refine ⟨_, rfl, ?_⟩
                   have n0_ := am (Kd.R_elder' (Kd.R_mv HO694.out) (Kd.R_base ho0) hb)
                   have n1_ := am (Kd.R_elder' (Kd.R_mv HO701.out) (Kd.R_base ho0) hb)
                   have n2_ := am (Kd.R_elder' (Kd.R_mv HO704.out) (Kd.R_base ho0) hb)
                   have n3_ := am (Kd.R_lower (Kd.R_new' (Kd.R_new' (Kd.R_new' ho0 (Kd.R_lt (Kd.R_mv HO694.out))) (Kd.R_lt (Kd.R_mv HO701.out))) (Kd.R_lt (Kd.R_mv HO704.out))) (below_size (wmv HB.out)))
                   have n4_ := am (blk_below (bmv BK680.out) hb)
                   have n5_ := am (below_step (wmv HB.out) hb)
                   clear HO694 HO701 HO704 BK680 HB
                   revert n0_ n1_ n2_ n3_ n4_ n5_
                   intro HO694 HO701 HO704 HO708 BK680 HB
                   (try clear hb)
                   (try clear hb2)
                   (try clear hk)
                   (try clear hi)
                   (try clear ho0)
                   obtain ⟨Ao45, co45, eo45⟩ := Kd.R_slice HO708.out
                   (first | subst eo45 | (injection eo45 with f1_ f2_ f3_; have f4_ := f1_.symm; have f5_ := f3_.symm; clear f1_ f2_ f3_; subst f4_; subst f5_))
                   refine hK.out _ _ ⟨bc BK680 0, bc BK680 1, bc BK680 2, bc BK680 3, bc BK680 4, (zc HB hw691_0), (zc HB hw698_0), (zc HB hw705_0)⟩ (fun hHeld => ?_)
                   clear hK K
                   refine nm ?_
                   refine zo 21 (some 76) (bb 23 4194303) HT_ (fun K hK => ?_)
                   refine Kd.R_append_rows_step (Kd.int .u8) (w0 := w) w.heap.size (by rfl) (.tmp 69) (.tmp 75) 51 5 (.int .u8 0) 1 rfl Try.underlying51 info5 rfl (by decide) (by omega) v703 y702 t706 _ _ _ (fun k_ => some k_ ≠ (.slice Ao39 t692.length co39 : Value).ownBlock ∧ some k_ ≠ (.slice Ao42 t699.length co42 : Value).ownBlock ∧ some k_ ≠ (.slice Ao45 t706.length co45 : Value).ownBlock) (fun _ => False) rfl rfl ?aO ?aR (fun _ _ h => h) (fun _ h => h.elim) ?aF ?aB ?aS ?aL ?_
                   (case aR => exact Kd.C_mv ((Kd.R_reads' HO708.out).2.2))
                   (case aB => exact (wmv HB.out))
                   (case aF => exact (fun k_ hk => ⟨Kd.fresh' (Kd.R_lt (Kd.R_mv HO694.out)) k_ hk, Kd.fresh' (Kd.R_lt (Kd.R_mv HO701.out)) k_ hk, Kd.fresh' (Kd.R_lt (Kd.R_mv HO708.out)) k_ hk⟩))
                   (case aO => exact (Kd.R_mv (Kd.R_mono HO704.out (fun _ hk => ⟨hk.1.1, ⟨hk.1.2, hk.2⟩⟩))))
                   (case aS => exact (below_size (wmv HB.out)))
                   (case aL => have := LMc34.out; omega)
                   intro v710 w44 ho hb hg hat
                   rw [← Ny709.out] at ho
                   have n0_ := am (blk_grown (bmv BK680.out) hg (Kd.R_ne HO704.out BK680.out (by decide)))
                   have n1_ := am (Kd.R_after (ok := (fun k_ => some k_ ≠ (.slice Ao42 t699.length co42 : Value).ownBlock ∧ some k_ ≠ (.slice Ao45 t706.length co45 : Value).ownBlock)) (Kd.R_mv (Kd.R_mono HO694.out (fun _ hk => ⟨⟨hk.1.1, hk.2⟩, hk.1.2⟩))) hg hat)
                   have n2_ := am (Kd.R_after (ok := (fun k_ => some k_ ≠ (.slice Ao39 t692.length co39 : Value).ownBlock ∧ some k_ ≠ (.slice Ao45 t706.length co45 : Value).ownBlock)) (Kd.R_mv (Kd.R_mono HO701.out (fun _ hk => ⟨⟨hk.1.1, hk.2⟩, hk.1.2⟩))) hg hat)
                   have n3_ := am (Kd.R_after (ok := (fun k_ => some k_ ≠ (.slice Ao39 t692.length co39 : Value).ownBlock ∧ some k_ ≠ (.slice Ao42 t699.length co42 : Value).ownBlock)) (Kd.R_mv (Kd.R_mono HO708.out (fun _ hk => ⟨⟨hk.1.1.2, hk.1.2⟩, hk.2⟩))) hg hat)
                   have n4_ := am (hb)
                   have n5_ := am (ho)
                   clear BK680 HO694 HO701 HO708 HB HO704
                   revert n0_ n1_ n2_ n3_ n4_ n5_
                   intro BK680 HO694 HO701 HO708 HB HO711
                   clear ho hb hg hat
                   refine hK.out _ _ ⟨bc BK680 0, bc BK680 1, bc BK680 2, bc BK680 3, bc BK680 4, (zc HB hw691_0), (zc HB hw698_0), (zc HB hw705_0)⟩ (fun hHeld => ?_)
                   clear hK K
                   refine nm ?_
                   refine zu 22 (some 5) (bb 23 8388607) HT_ ?_
                   refine done_ (done_of HT_.out (by kernel_rfl)) ?_
                   try go_wp2
                   go_roundg k3
                   case measure => have := HK1.out; have := HK2.out; have := HK3.out; omega
                   case rel => exact ⟨(y709), (wrap64 (x9_3 + 1)), zz, H', ⟨by have := HK1.out; have := HK2.out; have := HK3.out; omega⟩, ⟨by refine zr ?_; exact Kd.R_mono HO711.out (fun _ hk => trivial)⟩, ⟨by refine zq ?_; exact BK680.out⟩, ⟨zw HB⟩⟩
                  ·rw [if_neg c34] at H
                   exact absurd H (by simp)
                 ·rw [if_neg c32] at H
                  exact absurd H (by simp)
                ·rw [if_neg c31] at H
                 exact absurd H (by simp)
               ·rw [if_neg c29] at H
                exact absurd H (by simp)
              ·rw [if_neg c28] at H
               exact absurd H (by simp)
             ·rw [if_neg c26] at H
              exact absurd H (by simp)
            ·rw [if_neg c25] at H
             have c25b0 : decide (x9_3 < (((rd_T30 l1 x6_1).f2).length : Int)) = false := decide_eq_false c25
             clear c25
             have H' := am H
             clear H
             have hcz46_0 : wr.cell? ⟨gb680, 0, none⟩ = some (.slice A679_0 ((rd_T30 l1 x6_1).f0).length c679_0) := (blk_cell BK680.out 0).trans rfl
             have hcz46_1 : wr.cell? ⟨gb680, 1, none⟩ = some (.int .i64 ((rd_T30 l1 x6_1).f1)) := (blk_cell BK680.out 1).trans rfl
             have hcz46_2 : wr.cell? ⟨gb680, 2, none⟩ = some (.slice A679_2 ((rd_T30 l1 x6_1).f2).length c679_2) := (blk_cell BK680.out 2).trans rfl
             have hcz46_3 : wr.cell? ⟨gb680, 3, none⟩ = some (.slice A679_3 ((rd_T30 l1 x6_1).f3).length c679_3) := (blk_cell BK680.out 3).trans rfl
             have hcz46_4 : wr.cell? ⟨gb680, 4, none⟩ = some (.slice A679_4 ((rd_T30 l1 x6_1).f4).length c679_4) := (blk_cell BK680.out 4).trans rfl
             have hfz46_0 := blk_frozen BK680.out 0
             have hfz46_1 := blk_frozen BK680.out 1
             have hfz46_2 := blk_frozen BK680.out 2
             have hfz46_3 := blk_frozen BK680.out 3
             have hfz46_4 := blk_frozen BK680.out 4
             go_wp2
             go_roundg k3
             case measure => have := HK1.out; have := HK2.out; have := HK3.out; omega
             case rel => exact ⟨(x5_3), (wrap64 (x6_1 + 1)), zz, H', ⟨by have := HK1.out; have := HK2.out; have := HK3.out; omega⟩, ⟨by refine zr ?_; exact HO_5.out⟩, ⟨zw HB⟩⟩
         ·rw [if_neg c20] at H
          exact absurd H (by simp)
     ·rw [if_neg c11] at H
      exact absurd H (by simp)
    ·rw [if_neg c10] at H
     have c10b0 : decide (x6_1 < (l1.length : Int)) = false := decide_eq_false c10
     clear c10
     obtain rfl := Option.some.inj H
     go_wp2
     go_ret
     exact ⟨_, by first | rfl | (simp [errW_none, errW_some] <;> rfl) | (simp [*, errW_none, errW_some] <;> rfl), by refine zr ?_; exact HO_5.out, zw HB⟩
 ·rw [if_neg c4] at H
  exact absurd H (by simp)
def bits_OnesCount64.f (a0 : Int) : Option (Int) := some (Go.bits .and .i64 (wrap64 (IntKind.u64.wrap ((IntKind.u64.wrap ((IntKind.u64.wrap ((Go.bits .and .u64 (IntKind.u64.wrap (((IntKind.u64.wrap ((Go.bits .and .u64 ((IntKind.u64.wrap ((Go.bits .and .u64 (a0 / 2) 6148914691236517205) + (Go.bits .and .u64 a0 6148914691236517205))) / 4) 3689348814741910323) + (Go.bits .and .u64 (IntKind.u64.wrap ((Go.bits .and .u64 (a0 / 2) 6148914691236517205) + (Go.bits .and .u64 a0 6148914691236517205))) 3689348814741910323))) / 16) + (IntKind.u64.wrap ((Go.bits .and .u64 ((IntKind.u64.wrap ((Go.bits .and .u64 (a0 / 2) 6148914691236517205) + (Go.bits .and .u64 a0 6148914691236517205))) / 4) 3689348814741910323) + (Go.bits .and .u64 (IntKind.u64.wrap ((Go.bits .and .u64 (a0 / 2) 6148914691236517205) + (Go.bits .and .u64 a0 6148914691236517205))) 3689348814741910323))))) 1085102592571150095) + ((Go.bits .and .u64 (IntKind.u64.wrap (((IntKind.u64.wrap ((Go.bits .and .u64 ((IntKind.u64.wrap ((Go.bits .and .u64 (a0 / 2) 6148914691236517205) + (Go.bits .and .u64 a0 6148914691236517205))) / 4) 3689348814741910323) + (Go.bits .and .u64 (IntKind.u64.wrap ((Go.bits .and .u64 (a0 / 2) 6148914691236517205) + (Go.bits .and .u64 a0 6148914691236517205))) 3689348814741910323))) / 16) + (IntKind.u64.wrap ((Go.bits .and .u64 ((IntKind.u64.wrap ((Go.bits .and .u64 (a0 / 2) 6148914691236517205) + (Go.bits .and .u64 a0 6148914691236517205))) / 4) 3689348814741910323) + (Go.bits .and .u64 (IntKind.u64.wrap ((Go.bits .and .u64 (a0 / 2) 6148914691236517205) + (Go.bits .and .u64 a0 6148914691236517205))) 3689348814741910323))))) 1085102592571150095) / 256))) + ((IntKind.u64.wrap ((Go.bits .and .u64 (IntKind.u64.wrap (((IntKind.u64.wrap ((Go.bits .and .u64 ((IntKind.u64.wrap ((Go.bits .and .u64 (a0 / 2) 6148914691236517205) + (Go.bits .and .u64 a0 6148914691236517205))) / 4) 3689348814741910323) + (Go.bits .and .u64 (IntKind.u64.wrap ((Go.bits .and .u64 (a0 / 2) 6148914691236517205) + (Go.bits .and .u64 a0 6148914691236517205))) 3689348814741910323))) / 16) + (IntKind.u64.wrap ((Go.bits .and .u64 ((IntKind.u64.wrap ((Go.bits .and .u64 (a0 / 2) 6148914691236517205) + (Go.bits .and .u64 a0 6148914691236517205))) / 4) 3689348814741910323) + (Go.bits .and .u64 (IntKind.u64.wrap ((Go.bits .and .u64 (a0 / 2) 6148914691236517205) + (Go.bits .and .u64 a0 6148914691236517205))) 3689348814741910323))))) 1085102592571150095) + ((Go.bits .and .u64 (IntKind.u64.wrap (((IntKind.u64.wrap ((Go.bits .and .u64 ((IntKind.u64.wrap ((Go.bits .and .u64 (a0 / 2) 6148914691236517205) + (Go.bits .and .u64 a0 6148914691236517205))) / 4) 3689348814741910323) + (Go.bits .and .u64 (IntKind.u64.wrap ((Go.bits .and .u64 (a0 / 2) 6148914691236517205) + (Go.bits .and .u64 a0 6148914691236517205))) 3689348814741910323))) / 16) + (IntKind.u64.wrap ((Go.bits .and .u64 ((IntKind.u64.wrap ((Go.bits .and .u64 (a0 / 2) 6148914691236517205) + (Go.bits .and .u64 a0 6148914691236517205))) / 4) 3689348814741910323) + (Go.bits .and .u64 (IntKind.u64.wrap ((Go.bits .and .u64 (a0 / 2) 6148914691236517205) + (Go.bits .and .u64 a0 6148914691236517205))) 3689348814741910323))))) 1085102592571150095) / 256))) / 65536))) + ((IntKind.u64.wrap ((IntKind.u64.wrap ((Go.bits .and .u64 (IntKind.u64.wrap (((IntKind.u64.wrap ((Go.bits .and .u64 ((IntKind.u64.wrap ((Go.bits .and .u64 (a0 / 2) 6148914691236517205) + (Go.bits .and .u64 a0 6148914691236517205))) / 4) 3689348814741910323) + (Go.bits .and .u64 (IntKind.u64.wrap ((Go.bits .and .u64 (a0 / 2) 6148914691236517205) + (Go.bits .and .u64 a0 6148914691236517205))) 3689348814741910323))) / 16) + (IntKind.u64.wrap ((Go.bits .and .u64 ((IntKind.u64.wrap ((Go.bits .and .u64 (a0 / 2) 6148914691236517205) + (Go.bits .and .u64 a0 6148914691236517205))) / 4) 3689348814741910323) + (Go.bits .and .u64 (IntKind.u64.wrap ((Go.bits .and .u64 (a0 / 2) 6148914691236517205) + (Go.bits .and .u64 a0 6148914691236517205))) 3689348814741910323))))) 1085102592571150095) + ((Go.bits .and .u64 (IntKind.u64.wrap (((IntKind.u64.wrap ((Go.bits .and .u64 ((IntKind.u64.wrap ((Go.bits .and .u64 (a0 / 2) 6148914691236517205) + (Go.bits .and .u64 a0 6148914691236517205))) / 4) 3689348814741910323) + (Go.bits .and .u64 (IntKind.u64.wrap ((Go.bits .and .u64 (a0 / 2) 6148914691236517205) + (Go.bits .and .u64 a0 6148914691236517205))) 3689348814741910323))) / 16) + (IntKind.u64.wrap ((Go.bits .and .u64 ((IntKind.u64.wrap ((Go.bits .and .u64 (a0 / 2) 6148914691236517205) + (Go.bits .and .u64 a0 6148914691236517205))) / 4) 3689348814741910323) + (Go.bits .and .u64 (IntKind.u64.wrap ((Go.bits .and .u64 (a0 / 2) 6148914691236517205) + (Go.bits .and .u64 a0 6148914691236517205))) 3689348814741910323))))) 1085102592571150095) / 256))) + ((IntKind.u64.wrap ((Go.bits .and .u64 (IntKind.u64.wrap (((IntKind.u64.wrap ((Go.bits .and .u64 ((IntKind.u64.wrap ((Go.bits .and .u64 (a0 / 2) 6148914691236517205) + (Go.bits .and .u64 a0 6148914691236517205))) / 4) 3689348814741910323) + (Go.bits .and .u64 (IntKind.u64.wrap ((Go.bits .and .u64 (a0 / 2) 6148914691236517205) + (Go.bits .and .u64 a0 6148914691236517205))) 3689348814741910323))) / 16) + (IntKind.u64.wrap ((Go.bits .and .u64 ((IntKind.u64.wrap ((Go.bits .and .u64 (a0 / 2) 6148914691236517205) + (Go.bits .and .u64 a0 6148914691236517205))) / 4) 3689348814741910323) + (Go.bits .and .u64 (IntKind.u64.wrap ((Go.bits .and .u64 (a0 / 2) 6148914691236517205) + (Go.bits .and .u64 a0 6148914691236517205))) 3689348814741910323))))) 1085102592571150095) + ((Go.bits .and .u64 (IntKind.u64.wrap (((IntKind.u64.wrap ((Go.bits .and .u64 ((IntKind.u64.wrap ((Go.bits .and .u64 (a0 / 2) 6148914691236517205) + (Go.bits .and .u64 a0 6148914691236517205))) / 4) 3689348814741910323) + (Go.bits .and .u64 (IntKind.u64.wrap ((Go.bits .and .u64 (a0 / 2) 6148914691236517205) + (Go.bits .and .u64 a0 6148914691236517205))) 3689348814741910323))) / 16) + (IntKind.u64.wrap ((Go.bits .and .u64 ((IntKind.u64.wrap ((Go.bits .and .u64 (a0 / 2) 6148914691236517205) + (Go.bits .and .u64 a0 6148914691236517205))) / 4) 3689348814741910323) + (Go.bits .and .u64 (IntKind.u64.wrap ((Go.bits .and .u64 (a0 / 2) 6148914691236517205) + (Go.bits .and .u64 a0 6148914691236517205))) 3689348814741910323))))) 1085102592571150095) / 256))) / 65536))) / 4294967296)))) 127)
set_option maxHeartbeats 8000000 in
set_option maxRecDepth 100000 in
theorem bits_OnesCount64.calls (a0 : Int) (r : Int) (w : World) (h : bits_OnesCount64.f a0 = some r) :
  Calls Try.prog 69 #[.int .u64 a0] w fun e w' => e = .returned (.int .i64 r) ∧ Drawn0 w w' := by
 have H : (some (Go.bits .and .i64 (wrap64 (IntKind.u64.wrap ((IntKind.u64.wrap ((IntKind.u64.wrap ((Go.bits .and .u64 (IntKind.u64.wrap (((IntKind.u64.wrap ((Go.bits .and .u64 ((IntKind.u64.wrap ((Go.bits .and .u64 (a0 / 2) 6148914691236517205) + (Go.bits .and .u64 a0 6148914691236517205))) / 4) 3689348814741910323) + (Go.bits .and .u64 (IntKind.u64.wrap ((Go.bits .and .u64 (a0 / 2) 6148914691236517205) + (Go.bits .and .u64 a0 6148914691236517205))) 3689348814741910323))) / 16) + (IntKind.u64.wrap ((Go.bits .and .u64 ((IntKind.u64.wrap ((Go.bits .and .u64 (a0 / 2) 6148914691236517205) + (Go.bits .and .u64 a0 6148914691236517205))) / 4) 3689348814741910323) + (Go.bits .and .u64 (IntKind.u64.wrap ((Go.bits .and .u64 (a0 / 2) 6148914691236517205) + (Go.bits .and .u64 a0 6148914691236517205))) 3689348814741910323))))) 1085102592571150095) + ((Go.bits .and .u64 (IntKind.u64.wrap (((IntKind.u64.wrap ((Go.bits .and .u64 ((IntKind.u64.wrap ((Go.bits .and .u64 (a0 / 2) 6148914691236517205) + (Go.bits .and .u64 a0 6148914691236517205))) / 4) 3689348814741910323) + (Go.bits .and .u64 (IntKind.u64.wrap ((Go.bits .and .u64 (a0 / 2) 6148914691236517205) + (Go.bits .and .u64 a0 6148914691236517205))) 3689348814741910323))) / 16) + (IntKind.u64.wrap ((Go.bits .and .u64 ((IntKind.u64.wrap ((Go.bits .and .u64 (a0 / 2) 6148914691236517205) + (Go.bits .and .u64 a0 6148914691236517205))) / 4) 3689348814741910323) + (Go.bits .and .u64 (IntKind.u64.wrap ((Go.bits .and .u64 (a0 / 2) 6148914691236517205) + (Go.bits .and .u64 a0 6148914691236517205))) 3689348814741910323))))) 1085102592571150095) / 256))) + ((IntKind.u64.wrap ((Go.bits .and .u64 (IntKind.u64.wrap (((IntKind.u64.wrap ((Go.bits .and .u64 ((IntKind.u64.wrap ((Go.bits .and .u64 (a0 / 2) 6148914691236517205) + (Go.bits .and .u64 a0 6148914691236517205))) / 4) 3689348814741910323) + (Go.bits .and .u64 (IntKind.u64.wrap ((Go.bits .and .u64 (a0 / 2) 6148914691236517205) + (Go.bits .and .u64 a0 6148914691236517205))) 3689348814741910323))) / 16) + (IntKind.u64.wrap ((Go.bits .and .u64 ((IntKind.u64.wrap ((Go.bits .and .u64 (a0 / 2) 6148914691236517205) + (Go.bits .and .u64 a0 6148914691236517205))) / 4) 3689348814741910323) + (Go.bits .and .u64 (IntKind.u64.wrap ((Go.bits .and .u64 (a0 / 2) 6148914691236517205) + (Go.bits .and .u64 a0 6148914691236517205))) 3689348814741910323))))) 1085102592571150095) + ((Go.bits .and .u64 (IntKind.u64.wrap (((IntKind.u64.wrap ((Go.bits .and .u64 ((IntKind.u64.wrap ((Go.bits .and .u64 (a0 / 2) 6148914691236517205) + (Go.bits .and .u64 a0 6148914691236517205))) / 4) 3689348814741910323) + (Go.bits .and .u64 (IntKind.u64.wrap ((Go.bits .and .u64 (a0 / 2) 6148914691236517205) + (Go.bits .and .u64 a0 6148914691236517205))) 3689348814741910323))) / 16) + (IntKind.u64.wrap ((Go.bits .and .u64 ((IntKind.u64.wrap ((Go.bits .and .u64 (a0 / 2) 6148914691236517205) + (Go.bits .and .u64 a0 6148914691236517205))) / 4) 3689348814741910323) + (Go.bits .and .u64 (IntKind.u64.wrap ((Go.bits .and .u64 (a0 / 2) 6148914691236517205) + (Go.bits .and .u64 a0 6148914691236517205))) 3689348814741910323))))) 1085102592571150095) / 256))) / 65536))) + ((IntKind.u64.wrap ((IntKind.u64.wrap ((Go.bits .and .u64 (IntKind.u64.wrap (((IntKind.u64.wrap ((Go.bits .and .u64 ((IntKind.u64.wrap ((Go.bits .and .u64 (a0 / 2) 6148914691236517205) + (Go.bits .and .u64 a0 6148914691236517205))) / 4) 3689348814741910323) + (Go.bits .and .u64 (IntKind.u64.wrap ((Go.bits .and .u64 (a0 / 2) 6148914691236517205) + (Go.bits .and .u64 a0 6148914691236517205))) 3689348814741910323))) / 16) + (IntKind.u64.wrap ((Go.bits .and .u64 ((IntKind.u64.wrap ((Go.bits .and .u64 (a0 / 2) 6148914691236517205) + (Go.bits .and .u64 a0 6148914691236517205))) / 4) 3689348814741910323) + (Go.bits .and .u64 (IntKind.u64.wrap ((Go.bits .and .u64 (a0 / 2) 6148914691236517205) + (Go.bits .and .u64 a0 6148914691236517205))) 3689348814741910323))))) 1085102592571150095) + ((Go.bits .and .u64 (IntKind.u64.wrap (((IntKind.u64.wrap ((Go.bits .and .u64 ((IntKind.u64.wrap ((Go.bits .and .u64 (a0 / 2) 6148914691236517205) + (Go.bits .and .u64 a0 6148914691236517205))) / 4) 3689348814741910323) + (Go.bits .and .u64 (IntKind.u64.wrap ((Go.bits .and .u64 (a0 / 2) 6148914691236517205) + (Go.bits .and .u64 a0 6148914691236517205))) 3689348814741910323))) / 16) + (IntKind.u64.wrap ((Go.bits .and .u64 ((IntKind.u64.wrap ((Go.bits .and .u64 (a0 / 2) 6148914691236517205) + (Go.bits .and .u64 a0 6148914691236517205))) / 4) 3689348814741910323) + (Go.bits .and .u64 (IntKind.u64.wrap ((Go.bits .and .u64 (a0 / 2) 6148914691236517205) + (Go.bits .and .u64 a0 6148914691236517205))) 3689348814741910323))))) 1085102592571150095) / 256))) + ((IntKind.u64.wrap ((Go.bits .and .u64 (IntKind.u64.wrap (((IntKind.u64.wrap ((Go.bits .and .u64 ((IntKind.u64.wrap ((Go.bits .and .u64 (a0 / 2) 6148914691236517205) + (Go.bits .and .u64 a0 6148914691236517205))) / 4) 3689348814741910323) + (Go.bits .and .u64 (IntKind.u64.wrap ((Go.bits .and .u64 (a0 / 2) 6148914691236517205) + (Go.bits .and .u64 a0 6148914691236517205))) 3689348814741910323))) / 16) + (IntKind.u64.wrap ((Go.bits .and .u64 ((IntKind.u64.wrap ((Go.bits .and .u64 (a0 / 2) 6148914691236517205) + (Go.bits .and .u64 a0 6148914691236517205))) / 4) 3689348814741910323) + (Go.bits .and .u64 (IntKind.u64.wrap ((Go.bits .and .u64 (a0 / 2) 6148914691236517205) + (Go.bits .and .u64 a0 6148914691236517205))) 3689348814741910323))))) 1085102592571150095) + ((Go.bits .and .u64 (IntKind.u64.wrap (((IntKind.u64.wrap ((Go.bits .and .u64 ((IntKind.u64.wrap ((Go.bits .and .u64 (a0 / 2) 6148914691236517205) + (Go.bits .and .u64 a0 6148914691236517205))) / 4) 3689348814741910323) + (Go.bits .and .u64 (IntKind.u64.wrap ((Go.bits .and .u64 (a0 / 2) 6148914691236517205) + (Go.bits .and .u64 a0 6148914691236517205))) 3689348814741910323))) / 16) + (IntKind.u64.wrap ((Go.bits .and .u64 ((IntKind.u64.wrap ((Go.bits .and .u64 (a0 / 2) 6148914691236517205) + (Go.bits .and .u64 a0 6148914691236517205))) / 4) 3689348814741910323) + (Go.bits .and .u64 (IntKind.u64.wrap ((Go.bits .and .u64 (a0 / 2) 6148914691236517205) + (Go.bits .and .u64 a0 6148914691236517205))) 3689348814741910323))))) 1085102592571150095) / 256))) / 65536))) / 4294967296)))) 127)) = some r := h
 clear h
 obtain rfl := Option.some.inj H
 go_enter Try.func69, Try.ntmps69
 go_wp2
 go_ret
 exact ⟨by first | rfl | (simp; done) | (simp [*]; done), by repeat (first | exact Drawn0.refl _ | apply Drawn0.step)⟩
def bits_OnesCount.f (a0 : Int) : Option (Int) := (bits_OnesCount64.f a0).bind fun t714 => (some t714)
set_option maxHeartbeats 8000000 in
set_option maxRecDepth 100000 in
theorem bits_OnesCount.calls (a0 : Int) (r : Int) (w : World) (h : bits_OnesCount.f a0 = some r) :
  Calls Try.prog 57 #[.int .u64 a0] w fun e w' => e = .returned (.int .i64 r) ∧ Drawn0 w w' := by
 have H : ((bits_OnesCount64.f a0).bind fun t714 => (some t714)) = some r := h
 clear h
 replace H := Option.bind_eq_some_iff.mp H
 obtain ⟨t714, A20, H⟩ := H
 replace H : (some t714) = some r := H
 have A2 := am A20
 clear A20
 obtain rfl := Option.some.inj H
 go_enter Try.func57, Try.ntmps57
 go_wp2_with (first | ((with_reducible refine gate_callee (f := 69) rfl ?_); refine goesL_ (some 7) rfl rfl Try.func69 (by kernel_rfl) rfl #[.int .u64 a0] rfl (by (try simp only [List.map_toArray, List.map_cons, List.map_nil]); first | done | rfl | (simp only [List.length_drop, List.length_take]; rfl)) ?_; (with_reducible refine (bits_OnesCount64.calls a0 t714 _ A2.out).mono ?_); rintro e w' ⟨rfl, ⟨nd, rfl⟩⟩; refine ⟨_, rfl, ?_⟩))
 go_ret
 exact ⟨by first | rfl | (simp; done) | (simp [*]; done), by repeat (first | exact Drawn0.refl _ | apply Drawn0.step)⟩
mutual
def cell_put.l0 : Nat → List Int → Int → List Int → Int → Int → Option (List Int)
 | 0, _, _, _, _, _ => none
 | k + 1, x0, x1, x10, x11, x12 => if x12 < x11 then (if 0 ≤ x12 then (if x12 < (x10.length : Int) then (cell_put.l1 k x0 x1 (rd x10 x12) (wrap64 (8 * (wrap64 (x1 - 1)))) x10 x11 x12) else (none)) else (none)) else (some x0)
def cell_put.l1 : Nat → List Int → Int → Int → Int → List Int → Int → Int → Option (List Int)
 | 0, _, _, _, _, _, _, _ => none
 | k + 1, x0, x1, x8, x9, x10, x11, x12 => if x9 ≥ 0 then (if 0 ≤ x9 then (if x0.length < 140737488355328 then (cell_put.l1 k (x0 ++ [(shr .i64 x8 x9) % 256]) x1 x8 (wrap64 (x9 - 8)) x10 x11 x12) else (none)) else (none)) else (cell_put.l0 k x0 x1 x10 x11 (wrap64 (x12 + 1)))
end
def cell_put.f (k : Nat) (l0 : List Int) (a1 : Int) (l2 : List Int) : Option (List Int) := cell_put.l0 k l0 a1 l2 (l2.length : Int) 0
set_option maxHeartbeats 8000000 in
set_option maxRecDepth 100000 in
theorem cell_put.calls (k : Nat) (P0_ : Nat → Prop) (u9000_ : Value) (l0 : List Int) (a1 : Int) (A2 : Option Addr) (c2 : Nat) (l2 : List Int) (r : List Int) (w0 w : World) (hB : Below w0.heap.size w0 w) (ho0 : Kd.R (Kd.int .u8) 5 w w0.heap.size P0_ u9000_ l0) (hr2 : ∀ W_, Kept w W_ (fun k_ => P0_ k_) → Kd.C (Kd.int .i64) W_ A2 l2.length l2) (hc2 : l2.length ≤ c2) (h : cell_put.f k l0 a1 l2 = some r) :
  Calls Try.prog 61 #[u9000_, .int .i64 a1, .slice A2 l2.length c2] w fun e w' => ∃ v0_ : Value, e = .returned (v0_) ∧ Kd.R (Kd.int .u8) 5 w' w0.heap.size (fun k_ => (P0_ k_ ∨ w.heap.size ≤ k_)) v0_ r ∧ Below w0.heap.size w0 w' ∧ Kept w w' (fun k_ => P0_ k_) := by
 have HO0 := am (show Kd.R (Kd.int .u8) 5 w w0.heap.size (fun k_ => (P0_ k_ ∨ w.heap.size ≤ k_)) u9000_ l0 from Kd.R_mono ho0 (fun k_ hk => (.inl hk)))
 have HR2 := am hr2
 have HC2 := am hc2
 clear hr2 hc2
 have HK := am (Kept.refl w (fun k_ => P0_ k_))
 have HW0 := am hB.size
 have HB := am hB
 clear hB
 have H : (cell_put.l0 k l0 a1 l2 (l2.length : Int) 0) = some r := h
 clear h
 have H' := am H
 clear H
 go_enter Try.func61, Try.ntmps61
 go_wp2
 go_loopg [0, 12] k (fun kq v0 v12 w' => ∃ (x0_1 : List Int) (x12_1 : Int), v12 = .int .i64 x12_1 ∧ Aside0 (cell_put.l0 kq x0_1 a1 l2 (l2.length : Int) x12_1 = some r) ∧ Aside0 (kq ≤ k) ∧ Aside0 (Kd.R (Kd.int .u8) 5 w' w0.heap.size (fun k_ => (P0_ k_ ∨ w.heap.size ≤ k_)) v0 x0_1) ∧ Aside0 (Kept w w' (fun k_ => P0_ k_)) ∧ Aside0 (Below w0.heap.size w0 w'))
 case atStart => exact ⟨(l0), (0), zz, H', ⟨Nat.le_refl _⟩, ⟨by refine zr ?_; exact HO0.out⟩, ⟨by repeat (first | (with_reducible first | exact HK.out | apply Kept.alloc | apply Kept.drewN | apply Kept.drew) | exact HK.out)⟩, ⟨zw HB⟩⟩
 case round =>
  clear H'
  try clear c2
  try clear p2
  obtain ⟨x0_1, x12_1, rfl, HA, HK1, HO_0, HK, HB⟩ := hrel
  cases gk with
  | zero => exact absurd HA.out (by simp [cell_put.l0])
  | succ k1 =>
   have H := HA.out
   clear HA
   simp only [cell_put.l0] at H
   by_cases c4 : x12_1 < (l2.length : Int)
   ·rw [if_pos c4] at H
    have c4b0 : decide (x12_1 < (l2.length : Int)) = true := decide_eq_true c4
    clear c4
    by_cases c5 : 0 ≤ x12_1
    ·rw [if_pos c5] at H
     have c5b0 : decide (0 ≤ x12_1) = true := decide_eq_true c5
     clear c5
     by_cases c6 : x12_1 < (l2.length : Int)
     ·rw [if_pos c6] at H
      have c6b0 : decide (x12_1 < (l2.length : Int)) = true := decide_eq_true c6
      clear c6
      have H' := am H
      clear H
      have p788 : 0 ≤ (x12_1 : Int) := zd
      have q788 : x12_1 < (l2.length : Int) := zd
      obtain ⟨ad788, e788, hx788_0⟩ := Kd.at_int (Kd.C_kept_now HR2.out HK.out) x12_1 p788 q788
      cases e788
      replace p788 := eq_true p788
      replace q788 := eq_true q788
      go_wp2
      go_loopg [0, 9] k1 (fun kq v0 v9 w' => ∃ (x0_2 : List Int) (x9_2 : Int), v9 = .int .i64 x9_2 ∧ Aside0 (cell_put.l1 kq x0_2 a1 (rd l2 x12_1) x9_2 l2 (l2.length : Int) x12_1 = some r) ∧ Aside0 (kq ≤ k1) ∧ Aside0 (Kd.R (Kd.int .u8) 5 w' w0.heap.size (fun k_ => (P0_ k_ ∨ w.heap.size ≤ k_)) v0 x0_2) ∧ Aside0 (Kept w w' (fun k_ => P0_ k_)) ∧ Aside0 (Below w0.heap.size w0 w'))
      case atStart => exact ⟨(x0_1), (wrap64 (8 * (wrap64 (a1 - 1)))), zz, H', ⟨Nat.le_refl _⟩, ⟨by refine zr ?_; exact HO_0.out⟩, ⟨by repeat (first | (with_reducible first | exact HK.out | apply Kept.alloc | apply Kept.drewN | apply Kept.drew) | exact HK.out)⟩, ⟨zw HB⟩⟩
      case round =>
       clear H'
       try clear c2
       try clear p2
       try clear c4
       try clear c4b0
       try clear c5
       try clear c5b0
       try clear c6
       try clear c6b0
       try clear p6
       try clear hx788_0
       try clear p2
       try clear p788
       try clear q788
       obtain ⟨x0_2, x9_2, rfl, HA, HK2, HO_0, HK, HB⟩ := hrel
       cases gk with
       | zero => exact absurd HA.out (by simp [cell_put.l1])
       | succ k2 =>
        have H := HA.out
        clear HA
        simp only [cell_put.l1] at H
        by_cases c7 : x9_2 ≥ 0
        ·rw [if_pos c7] at H
         have c7b0 : decide (0 ≤ x9_2) = true := decide_eq_true c7
         clear c7
         by_cases c8 : 0 ≤ x9_2
         ·rw [if_pos c8] at H
          have c8b0 := eq_true c8
          have c8b1 : decide (0 ≤ x9_2) = true := decide_eq_true c8
          clear c8
          obtain ⟨ji9, hji9⟩ : ∃ j_ : Int, (shr .i64 (rd l2 x12_1) x9_2) = j_ := ⟨_, rfl⟩
          replace H : (if x0_2.length < 140737488355328 then (cell_put.l1 k2 (x0_2 ++ [(ji9) % 256]) a1 (rd l2 x12_1) (wrap64 (x9_2 - 8)) l2 (l2.length : Int) x12_1) else (none)) = some r := by first | (rw [hji9] at H; exact H) | (simp only [hji9] at H ⊢; exact H)
          have hji9_ : ((rd l2 x12_1) / 2 ^ min x9_2.toNat 64) = ji9 := hji9
          have hji9z : x9_2 ≤ 64 → ((rd l2 x12_1) / 2 ^ x9_2.toNat) = ji9 := shr_small hji9
          by_cases c10 : x0_2.length < 140737488355328
          ·rw [if_pos c10] at H
           have LMc10 := am c10
           clear c10
           obtain ⟨y789, hy789⟩ : ∃ y_ : List Int, y_ = (x0_2 ++ [(ji9) % 256]) := ⟨_, rfl⟩
           replace H : (cell_put.l1 k2 y789 a1 (rd l2 x12_1) (wrap64 (x9_2 - 8)) l2 (l2.length : Int) x12_1) = some r := by first | (rw [hy789]; with_reducible exact H) | (have H2_ := (Option.bind_some _ _).symm.trans H; rw [hy789]; with_reducible exact H2_) | (have H2_ := (Option.bind_some _ _).symm.trans H; with_reducible exact H2_) | with_reducible exact H | (rw [hy789]; exact H) | exact H
           have Ny789 := am hy789
           clear hy789
           have H' := am H
           clear H
           go_wp2_with (first | ((with_reducible refine gate_builtin (b := .append) (xs := #[.tmp 23, .tmp 28]) rfl ?_); at_builtin; refine Kd.R_append (Kd.int .u8) (w0 := w0) w0.heap.size rfl (.tmp 23) (.tmp 28) 51 5 (.int .u8 0) 1 rfl Try.underlying51 info5 rfl (by decide) (by omega) u0 x0_2 ((ji9) % 256) [.int .u8 ((ji9) % 256)] (fun k_ => (P0_ k_ ∨ w.heap.size ≤ k_)) (fun _ => False) rfl rfl ?aP (fun _ hk => hk.elim) ?aF ?aO ?aB ?aS ?aL ?_; (case aP => exact rfl); (case aB => exact (zw HB)); (case aF => exact (fun k_ hk => (.inr (Nat.le_trans (by first | exact HK.out.1 | exact (show Kept w _ (fun k_ => P0_ k_) from by repeat (first | (with_reducible first | exact HK.out | apply Kept.alloc | apply Kept.drewN | apply Kept.drew) | exact HK.out)).1) hk)))); (case aO => exact (ze HO_0)); (case aS => exact (below_size (zw HB))); (case aL => have := LMc10.out; omega); intro v790 w11 ho hb hg hat; rw [← Ny789.out] at ho; have n0_ := am (hb); have n1_ := am (Kept.of_grown (S := (fun k_ => P0_ k_)) hg (by repeat (first | (with_reducible first | exact HK.out | apply Kept.alloc | apply Kept.drewN | apply Kept.drew) | exact HK.out)) (fun k_ e_ => (HO_0.out.1 k_ e_))); have n2_ := am (ho); clear HB; clear HK; clear HO_0; have HB := n0_; have HK := n1_; have HO791 := n2_; clear n0_ n1_ n2_; clear ho hb hg hat))
           go_roundg k2
           case measure => have := HK1.out; have := HK2.out; omega
           case rel => exact ⟨(y789), (wrap64 (x9_2 - 8)), zz, H', ⟨by have := HK1.out; have := HK2.out; omega⟩, ⟨by refine zr ?_; exact HO791.out⟩, ⟨by repeat (first | (with_reducible first | exact HK.out | apply Kept.alloc | apply Kept.drewN | apply Kept.drew) | exact HK.out)⟩, ⟨zw HB⟩⟩
          ·rw [if_neg c10] at H
           exact absurd H (by simp)
         ·rw [if_neg c8] at H
          exact absurd H (by simp)
        ·rw [if_neg c7] at H
         have c7b0 : decide (0 ≤ x9_2) = false := decide_eq_false c7
         clear c7
         have H' := am H
         clear H
         go_wp2
         go_roundg k2
         case measure => have := HK1.out; have := HK2.out; omega
         case rel => exact ⟨(x0_2), (wrap64 (x12_1 + 1)), zz, H', ⟨by have := HK1.out; have := HK2.out; omega⟩, ⟨by refine zr ?_; exact HO_0.out⟩, ⟨by repeat (first | (with_reducible first | exact HK.out | apply Kept.alloc | apply Kept.drewN | apply Kept.drew) | exact HK.out)⟩, ⟨zw HB⟩⟩
     ·rw [if_neg c6] at H
      exact absurd H (by simp)
    ·rw [if_neg c5] at H
     exact absurd H (by simp)
   ·rw [if_neg c4] at H
    have c4b0 : decide (x12_1 < (l2.length : Int)) = false := decide_eq_false c4
    clear c4
    obtain rfl := Option.some.inj H
    go_wp2
    go_ret
    exact ⟨_, by first | rfl | (simp [errW_none, errW_some] <;> rfl) | (simp [*, errW_none, errW_some] <;> rfl), by refine zr ?_; exact HO_0.out, zw HB, by repeat (first | (with_reducible first | exact HK.out | apply Kept.alloc | apply Kept.drewN | apply Kept.drew) | exact HK.out)⟩
def hypercubelaw1_within.f (a0 : Int) (a1 : Int) : Option (Int) := if a1 = 0 then (none) else (if (Int.tmod a0 a1) < 0 then (some (wrap64 ((Int.tmod a0 a1) + a1))) else (some (Int.tmod a0 a1)))
set_option maxHeartbeats 8000000 in
set_option maxRecDepth 100000 in
theorem hypercubelaw1_within.calls (a0 : Int) (a1 : Int) (r : Int) (w : World) (h : hypercubelaw1_within.f a0 a1 = some r) :
  Calls Try.prog 45 #[.int .i64 a0, .int .i64 a1] w fun e w' => e = .returned (.int .i64 r) ∧ Drawn0 w w' := by
 have H : (if a1 = 0 then (none) else (if (Int.tmod a0 a1) < 0 then (some (wrap64 ((Int.tmod a0 a1) + a1))) else (some (Int.tmod a0 a1)))) = some r := h
 clear h
 by_cases c3 : a1 = 0
 ·rw [if_pos c3] at H
  exact absurd H (by simp)
 ·rw [if_neg c3] at H
  have c3b0 : (a1 == 0) = false := beq_eq_false_iff_ne.mpr c3
  have c3b1 : (a1 != 0) = true := bne_iff_ne.mpr c3
  by_cases c4 : (Int.tmod a0 a1) < 0
  ·rw [if_pos c4] at H
   have c4b0 : decide ((Int.tmod a0 a1) < 0) = true := decide_eq_true c4
   clear c4
   obtain rfl := Option.some.inj H
   go_enter Try.func45, Try.ntmps45
   go_wp2
   go_ret
   exact ⟨by first | rfl | (simp; done) | (simp [*]; done), by repeat (first | exact Drawn0.refl _ | apply Drawn0.step)⟩
  ·rw [if_neg c4] at H
   have c4b0 : decide ((Int.tmod a0 a1) < 0) = false := decide_eq_false c4
   clear c4
   obtain rfl := Option.some.inj H
   go_enter Try.func45, Try.ntmps45
   go_wp2
   go_ret
   exact ⟨by first | rfl | (simp; done) | (simp [*]; done), by repeat (first | exact Drawn0.refl _ | apply Drawn0.step)⟩
end Go.Proofs.Ytmkjkkmilopcpaa.Q
