-- packed by wip/tools/pack.py (a program of this session) out of its own texts
import Derived.Test.YtmnepkbmcnpjlaaPRunsOwn0
import Derived.ArgAppend
import Derived.Below
import Derived.BigQuiet
import Derived.Deep.AppendLies
import Derived.Deep.CutBlock
import Derived.Deep.DeepCutAuto
import Derived.Deep.Draws
import Derived.Deep.LoopGhost
import Derived.Deep.OwnRows
import Derived.Deep.QuietTactic
import Derived.Deep.RegionHeld3
import Derived.KernelRfl
import Derived.Laws.BitsLemmas
import Derived.Laws.BytesArg
import Derived.Laws.IdiomCopy
import Derived.Laws.MakeOwn
import Derived.Laws.OwnMore
import Derived.Laws.Rows
import Derived.Laws.Slices
import Derived.Lib.AppendStr
import Derived.Lib.ConvBytes
import Derived.Maps.AppendAt
import Derived.OrdersHeld
import Derived.OwnWalk
import Derived.RowKit
import Derived.RowKit3
import Derived.Tactics
import Derived.Test.YtmnepkbmcnpjlaaProg
import Derived.WalkKit
import Derived.WideLaws
import Derived.Test.YtmnepkbmcnpjlaaPRunsOwn1
import Derived.Test.YtmnepkbmcnpjlaaPRunsOwn3
import Derived.Test.YtmnepkbmcnpjlaaPRunsOwn4
namespace Go.Proofs.Ytmnepkbmcnpjlaa.Q
open Go.RowKit Go.Proofs.YtmnepkbmcnpjlaaW.PrintWords Go.Proofs.YtmnepkbmcnpjlaaW.PrintLast Go.Proofs.YtmnepkbmcnpjlaaW.PrintMore
attribute [local go_sem] max2_int min2_int max_two min_two max_three min_three max_four min_four
set_option linter.unusedVariables false
set_option linter.unusedSimpArgs false
def errW : Option Int → Value
  | none => .nilIface
  | some c => .iface 0 (.int .i64 c)
theorem errW_none : errW none = .nilIface := rfl
theorem errW_some (c : Int) : errW (some c) = .iface 0 (.int .i64 c) := rfl
theorem info3 : (Try.prog.info? 3).map (fun i => (i.zero, i.size, i.bytes)) = some (some (.int .i64 0), 1, 8) := by kernel_rfl
theorem info29 : (Try.prog.info? 29).map (fun i => (i.zero, i.size, i.bytes)) = some (some (.slice none 0 0), 1, 24) := by kernel_rfl
theorem info41 : (Try.prog.info? 41).map (fun i => (i.zero, i.size, i.bytes)) = some (some (.agg #[(.slice none 0 0), (.int .i64 0), (.slice none 0 0), (.slice none 0 0), (.slice none 0 0)]), 5, 104) := by kernel_rfl
theorem info45 : (Try.prog.info? 45).map (fun i => (i.zero, i.size, i.bytes)) = some (some (.agg #[(.slice none 0 0), (.slice none 0 0)]), 2, 48) := by kernel_rfl
structure S41 where
  f0 : (List Int)
  f1 : Int
  f2 : (List Int)
  f3 : (List Int)
  f4 : (List Int)
def z41 : S41 := ⟨([] : List Int), (0 : Int), ([] : List Int), ([] : List Int), ([] : List Int)⟩
def k41 : Kd S41 := Kd.iso (Kd.pair (Kd.slice 3 (Kd.int .i64)) (Kd.pair (Kd.int .i64) (Kd.pair (Kd.slice 3 (Kd.int .i64)) (Kd.pair (Kd.slice 3 (Kd.int .i64)) (Kd.slice 3 (Kd.int .i64)))))) (fun x : S41 => (x.f0, x.f1, x.f2, x.f3, x.f4))
theorem k41_open {w : World} {x : S41} {cs : List Value} (h : k41.K w x cs) : ∃ A0 c0 A2 c2 A3 c3 A4 c4, cs = [.slice A0 x.f0.length c0, .int .i64 x.f1, .slice A2 x.f2.length c2, .slice A3 x.f3.length c3, .slice A4 x.f4.length c4] ∧ x.f0.length ≤ c0 ∧ (Kd.int .i64).C w A0 x.f0.length x.f0 ∧ x.f2.length ≤ c2 ∧ (Kd.int .i64).C w A2 x.f2.length x.f2 ∧ x.f3.length ≤ c3 ∧ (Kd.int .i64).C w A3 x.f3.length x.f3 ∧ x.f4.length ≤ c4 ∧ (Kd.int .i64).C w A4 x.f4.length x.f4 := by
  obtain ⟨_, _, rfl, ⟨A0, c0, rfl, l0, g0⟩, ⟨_, _, rfl, rfl, ⟨_, _, rfl, ⟨A2, c2, rfl, l2, g2⟩, ⟨_, _, rfl, ⟨A3, c3, rfl, l3, g3⟩, ⟨A4, c4, rfl, l4, g4⟩⟩⟩⟩⟩ := h
  exact ⟨A0, c0, A2, c2, A3, c3, A4, c4, rfl, l0, g0, l2, g2, l3, g3, l4, g4⟩
theorem k41_openM {w : World} {base : Nat} {ok : Nat → Prop} {x : S41} {cs : List Value} (h : k41.M w base ok x cs) : ∃ v0 v2 v3 v4, cs = [v0, .int .i64 x.f1, v2, v3, v4] ∧ (Kd.int .i64).R 3 w base ok v0 x.f0 ∧ (Kd.int .i64).R 3 w base ok v2 x.f2 ∧ (Kd.int .i64).R 3 w base ok v3 x.f3 ∧ (Kd.int .i64).R 3 w base ok v4 x.f4 := by
  obtain ⟨_, _, rfl, ⟨v0, rfl, g0⟩, ⟨_, _, rfl, rfl, ⟨_, _, rfl, ⟨v2, rfl, g2⟩, ⟨_, _, rfl, ⟨v3, rfl, g3⟩, ⟨v4, rfl, g4⟩⟩⟩⟩⟩ := h
  exact ⟨v0, v2, v3, v4, rfl, g0, g2, g3, g4⟩
theorem k41_mk (w : World) (x : S41) {A0 : Option Addr} {c0 : Nat} (l0 : x.f0.length ≤ c0) (g0 : (Kd.int .i64).C w A0 x.f0.length x.f0) {A2 : Option Addr} {c2 : Nat} (l2 : x.f2.length ≤ c2) (g2 : (Kd.int .i64).C w A2 x.f2.length x.f2) {A3 : Option Addr} {c3 : Nat} (l3 : x.f3.length ≤ c3) (g3 : (Kd.int .i64).C w A3 x.f3.length x.f3) {A4 : Option Addr} {c4 : Nat} (l4 : x.f4.length ≤ c4) (g4 : (Kd.int .i64).C w A4 x.f4.length x.f4) : k41.K w x [.slice A0 x.f0.length c0, .int .i64 x.f1, .slice A2 x.f2.length c2, .slice A3 x.f3.length c3, .slice A4 x.f4.length c4] := ⟨[.slice A0 x.f0.length c0], [.int .i64 x.f1, .slice A2 x.f2.length c2, .slice A3 x.f3.length c3, .slice A4 x.f4.length c4], rfl, ⟨A0, c0, rfl, l0, g0⟩, ⟨[.int .i64 x.f1], [.slice A2 x.f2.length c2, .slice A3 x.f3.length c3, .slice A4 x.f4.length c4], rfl, rfl, ⟨[.slice A2 x.f2.length c2], [.slice A3 x.f3.length c3, .slice A4 x.f4.length c4], rfl, ⟨A2, c2, rfl, l2, g2⟩, ⟨[.slice A3 x.f3.length c3], [.slice A4 x.f4.length c4], rfl, ⟨A3, c3, rfl, l3, g3⟩, ⟨A4, c4, rfl, l4, g4⟩⟩⟩⟩⟩
theorem k41_mkM (w : World) (base : Nat) (ok : Nat → Prop) (x : S41) {v0 : Value} (g0 : (Kd.int .i64).R 3 w base ok v0 x.f0) {v2 : Value} (g2 : (Kd.int .i64).R 3 w base ok v2 x.f2) {v3 : Value} (g3 : (Kd.int .i64).R 3 w base ok v3 x.f3) {v4 : Value} (g4 : (Kd.int .i64).R 3 w base ok v4 x.f4) : k41.M w base ok x [v0, .int .i64 x.f1, v2, v3, v4] := ⟨[v0], [.int .i64 x.f1, v2, v3, v4], rfl, ⟨v0, rfl, g0⟩, ⟨[.int .i64 x.f1], [v2, v3, v4], rfl, rfl, ⟨[v2], [v3, v4], rfl, ⟨v2, rfl, g2⟩, ⟨[v3], [v4], rfl, ⟨v3, rfl, g3⟩, ⟨v4, rfl, g4⟩⟩⟩⟩⟩
theorem k41_openF {W : World} {ok : Nat → Prop} {x : S41} {cs : List Value} (h : Kd.FK k41 W ok x cs) : ∃ A0 c0 A2 c2 A3 c3 A4 c4, cs = [.slice A0 x.f0.length c0, .int .i64 x.f1, .slice A2 x.f2.length c2, .slice A3 x.f3.length c3, .slice A4 x.f4.length c4] ∧ x.f0.length ≤ c0 ∧ Kd.F (Kd.int .i64) W ok A0 x.f0.length x.f0 ∧ x.f2.length ≤ c2 ∧ Kd.F (Kd.int .i64) W ok A2 x.f2.length x.f2 ∧ x.f3.length ≤ c3 ∧ Kd.F (Kd.int .i64) W ok A3 x.f3.length x.f3 ∧ x.f4.length ≤ c4 ∧ Kd.F (Kd.int .i64) W ok A4 x.f4.length x.f4 := by
  obtain ⟨A0, c0, A2, c2, A3, c3, A4, c4, rfl, l0, _, l2, _, l3, _, l4, _⟩ := k41_open (Kd.FK_now h)
  exact ⟨A0, c0, A2, c2, A3, c3, A4, c4, rfl, l0, (fun W' hW => by obtain ⟨A0_, c0_, A2_, c2_, A3_, c3_, A4_, c4_, he, l0_, g0_, l2_, g2_, l3_, g3_, l4_, g4_⟩ := k41_open (h W' hW); injection (Option.some.inj (show some (Value.slice A0 x.f0.length c0) = some (Value.slice A0_ x.f0.length c0_) from congrArg (fun l => l[0]?) he)) with ha_ _ _; rw [ha_]; exact g0_), l2, (fun W' hW => by obtain ⟨A0_, c0_, A2_, c2_, A3_, c3_, A4_, c4_, he, l0_, g0_, l2_, g2_, l3_, g3_, l4_, g4_⟩ := k41_open (h W' hW); injection (Option.some.inj (show some (Value.slice A2 x.f2.length c2) = some (Value.slice A2_ x.f2.length c2_) from congrArg (fun l => l[2]?) he)) with ha_ _ _; rw [ha_]; exact g2_), l3, (fun W' hW => by obtain ⟨A0_, c0_, A2_, c2_, A3_, c3_, A4_, c4_, he, l0_, g0_, l2_, g2_, l3_, g3_, l4_, g4_⟩ := k41_open (h W' hW); injection (Option.some.inj (show some (Value.slice A3 x.f3.length c3) = some (Value.slice A3_ x.f3.length c3_) from congrArg (fun l => l[3]?) he)) with ha_ _ _; rw [ha_]; exact g3_), l4, (fun W' hW => by obtain ⟨A0_, c0_, A2_, c2_, A3_, c3_, A4_, c4_, he, l0_, g0_, l2_, g2_, l3_, g3_, l4_, g4_⟩ := k41_open (h W' hW); injection (Option.some.inj (show some (Value.slice A4 x.f4.length c4) = some (Value.slice A4_ x.f4.length c4_) from congrArg (fun l => l[4]?) he)) with ha_ _ _; rw [ha_]; exact g4_)⟩
theorem k41_mkF (W : World) (ok : Nat → Prop) (x : S41) {A0 : Option Addr} {c0 : Nat} (l0 : x.f0.length ≤ c0) (g0 : Kd.F (Kd.int .i64) W ok A0 x.f0.length x.f0) {A2 : Option Addr} {c2 : Nat} (l2 : x.f2.length ≤ c2) (g2 : Kd.F (Kd.int .i64) W ok A2 x.f2.length x.f2) {A3 : Option Addr} {c3 : Nat} (l3 : x.f3.length ≤ c3) (g3 : Kd.F (Kd.int .i64) W ok A3 x.f3.length x.f3) {A4 : Option Addr} {c4 : Nat} (l4 : x.f4.length ≤ c4) (g4 : Kd.F (Kd.int .i64) W ok A4 x.f4.length x.f4) : Kd.FK k41 W ok x [.slice A0 x.f0.length c0, .int .i64 x.f1, .slice A2 x.f2.length c2, .slice A3 x.f3.length c3, .slice A4 x.f4.length c4] := fun W2 hW => k41_mk W2 x l0 (g0 W2 hW) l2 (g2 W2 hW) l3 (g3 W2 hW) l4 (g4 W2 hW)
def rd_T41 (xs : List S41) (i : Int) : S41 := xs.getD i.toNat z41
theorem at_T41 {w : World} {A : Option Addr} {n : Nat} {xs : List S41} (h : Kd.C k41 w A n xs) (i : Int) (h0 : 0 ≤ i) (h1 : i < n) : ∃ ad A0 c0 A2 c2 A3 c3 A4 c4, A = some ad ∧ w.cell? (ad.add (i.toNat * 5)) = some (.slice A0 (rd_T41 xs i).f0.length c0) ∧ w.cell? ⟨(ad.add (i.toNat * 5)).block, (ad.add (i.toNat * 5)).off + 1, none⟩ = some (.int .i64 (rd_T41 xs i).f1) ∧ w.cell? ⟨(ad.add (i.toNat * 5)).block, (ad.add (i.toNat * 5)).off + 2, none⟩ = some (.slice A2 (rd_T41 xs i).f2.length c2) ∧ w.cell? ⟨(ad.add (i.toNat * 5)).block, (ad.add (i.toNat * 5)).off + 3, none⟩ = some (.slice A3 (rd_T41 xs i).f3.length c3) ∧ w.cell? ⟨(ad.add (i.toNat * 5)).block, (ad.add (i.toNat * 5)).off + 4, none⟩ = some (.slice A4 (rd_T41 xs i).f4.length c4) ∧ (rd_T41 xs i).f0.length ≤ c0 ∧ (Kd.int .i64).C w A0 (rd_T41 xs i).f0.length (rd_T41 xs i).f0 ∧ (rd_T41 xs i).f2.length ≤ c2 ∧ (Kd.int .i64).C w A2 (rd_T41 xs i).f2.length (rd_T41 xs i).f2 ∧ (rd_T41 xs i).f3.length ≤ c3 ∧ (Kd.int .i64).C w A3 (rd_T41 xs i).f3.length (rd_T41 xs i).f3 ∧ (rd_T41 xs i).f4.length ≤ c4 ∧ (Kd.int .i64).C w A4 (rd_T41 xs i).f4.length (rd_T41 xs i).f4 := by
  obtain ⟨ad, c, e, _, hK, hc0⟩ := Kd.C_get h z41 i h0 h1
  have hc : ∀ j u, c[j]? = some u → w.cell? (ad.add (i.toNat * 5 + j)) = some u := hc0
  obtain ⟨A0, c0, A2, c2, A3, c3, A4, c4, rfl, l0, g0, l2, g2, l3, g3, l4, g4⟩ := k41_open hK
  exact ⟨ad, A0, c0, A2, c2, A3, c3, A4, c4, e, hc 0 _ rfl, by rw [← add_field _ _ 1 (by omega)]; exact hc 1 _ rfl, by rw [← add_field _ _ 2 (by omega)]; exact hc 2 _ rfl, by rw [← add_field _ _ 3 (by omega)]; exact hc 3 _ rfl, by rw [← add_field _ _ 4 (by omega)]; exact hc 4 _ rfl, l0, g0, l2, g2, l3, g3, l4, g4⟩
def rd_L3 (xs : List (List S41)) (i : Int) : (List S41) := xs.getD i.toNat ([] : List S41)
theorem at_L3 {w : World} {A : Option Addr} {n : Nat} {xs : List (List S41)} (h : Kd.C (Kd.slice 41 k41) w A n xs) (i : Int) (h0 : 0 ≤ i) (h1 : i < n) : ∃ ad A0 c0, A = some ad ∧ w.cell? (ad.add i.toNat) = some (.slice A0 (rd_L3 xs i).length c0) ∧ (rd_L3 xs i).length ≤ c0 ∧ k41.C w A0 (rd_L3 xs i).length (rd_L3 xs i) := by
  obtain ⟨ad, c, e, _, hK, hc0⟩ := Kd.C_get h ([] : List S41) i h0 h1
  have hc : ∀ j u, c[j]? = some u → w.cell? (ad.add (i.toNat * 1 + j)) = some u := hc0
  obtain ⟨A0, c0, rfl, l0, g0⟩ := hK
  exact ⟨ad, A0, c0, e, by have hq := hc 0 _ rfl; rwa [Nat.mul_one, Nat.add_zero] at hq, l0, g0⟩
structure S45 where
  f0 : (List Int)
  f1 : (List Int)
def z45 : S45 := ⟨([] : List Int), ([] : List Int)⟩
def k45 : Kd S45 := Kd.iso (Kd.pair (Kd.slice 3 (Kd.int .i64)) (Kd.slice 3 (Kd.int .i64))) (fun x : S45 => (x.f0, x.f1))
theorem k45_open {w : World} {x : S45} {cs : List Value} (h : k45.K w x cs) : ∃ A0 c0 A1 c1, cs = [.slice A0 x.f0.length c0, .slice A1 x.f1.length c1] ∧ x.f0.length ≤ c0 ∧ (Kd.int .i64).C w A0 x.f0.length x.f0 ∧ x.f1.length ≤ c1 ∧ (Kd.int .i64).C w A1 x.f1.length x.f1 := by
  obtain ⟨_, _, rfl, ⟨A0, c0, rfl, l0, g0⟩, ⟨A1, c1, rfl, l1, g1⟩⟩ := h
  exact ⟨A0, c0, A1, c1, rfl, l0, g0, l1, g1⟩
theorem k45_mkM (w : World) (base : Nat) (ok : Nat → Prop) (x : S45) {v0 : Value} (g0 : (Kd.int .i64).R 3 w base ok v0 x.f0) {v1 : Value} (g1 : (Kd.int .i64).R 3 w base ok v1 x.f1) : k45.M w base ok x [v0, v1] := ⟨[v0], [v1], rfl, ⟨v0, rfl, g0⟩, ⟨v1, rfl, g1⟩⟩
def rd_T45 (xs : List S45) (i : Int) : S45 := xs.getD i.toNat z45
theorem at_T45 {w : World} {A : Option Addr} {n : Nat} {xs : List S45} (h : Kd.C k45 w A n xs) (i : Int) (h0 : 0 ≤ i) (h1 : i < n) : ∃ ad A0 c0 A1 c1, A = some ad ∧ w.cell? (ad.add (i.toNat * 2)) = some (.slice A0 (rd_T45 xs i).f0.length c0) ∧ w.cell? ⟨(ad.add (i.toNat * 2)).block, (ad.add (i.toNat * 2)).off + 1, none⟩ = some (.slice A1 (rd_T45 xs i).f1.length c1) ∧ (rd_T45 xs i).f0.length ≤ c0 ∧ (Kd.int .i64).C w A0 (rd_T45 xs i).f0.length (rd_T45 xs i).f0 ∧ (rd_T45 xs i).f1.length ≤ c1 ∧ (Kd.int .i64).C w A1 (rd_T45 xs i).f1.length (rd_T45 xs i).f1 := by
  obtain ⟨ad, c, e, _, hK, hc0⟩ := Kd.C_get h z45 i h0 h1
  have hc : ∀ j u, c[j]? = some u → w.cell? (ad.add (i.toNat * 2 + j)) = some u := hc0
  obtain ⟨A0, c0, A1, c1, rfl, l0, g0, l1, g1⟩ := k45_open hK
  exact ⟨ad, A0, c0, A1, c1, e, hc 0 _ rfl, by rw [← add_field _ _ 1 (by omega)]; exact hc 1 _ rfl, l0, g0, l1, g1⟩
def cmp_isNaN_int.f (a0 : Int) : Option (Bool) := some (a0 != a0)
set_option maxHeartbeats 8000000 in
set_option maxRecDepth 100000 in
theorem cmp_isNaN_int.calls (a0 : Int) (r : Bool) (w : World) (h : cmp_isNaN_int.f a0 = some r) :
  Calls Try.prog 60 #[.int .i64 a0] w fun e w' => e = .returned (.bool r) ∧ Drawn0 w w' := by
 have H : (some (a0 != a0)) = some r := h
 clear h
 obtain rfl := Option.some.inj H
 go_enter Try.func60, Try.ntmps60
 go_wp2
 go_ret
 exact ⟨by first | rfl | (simp; done) | (simp [*]; done), by repeat (first | exact Drawn0.refl _ | apply Drawn0.step)⟩
def cmp_Compare_int.f (a0 : Int) (a1 : Int) : Option (Int) := (cmp_isNaN_int.f a0).bind fun t101 => ((cmp_isNaN_int.f a1).bind fun t102 => (if t101 = true then (if t102 = true then (some 0) else (some (-1))) else (if t102 = true then (some 1) else (if a0 < a1 then (some (-1)) else (if a0 > a1 then (some 1) else (some 0))))))
set_option maxHeartbeats 8000000 in
set_option maxRecDepth 100000 in
theorem cmp_Compare_int.calls (a0 : Int) (a1 : Int) (r : Int) (w : World) (h : cmp_Compare_int.f a0 a1 = some r) :
  Calls Try.prog 58 #[.int .i64 a0, .int .i64 a1] w fun e w' => e = .returned (.int .i64 r) ∧ Drawn0 w w' := by
 have H : ((cmp_isNaN_int.f a0).bind fun t101 => ((cmp_isNaN_int.f a1).bind fun t102 => (if t101 = true then (if t102 = true then (some 0) else (some (-1))) else (if t102 = true then (some 1) else (if a0 < a1 then (some (-1)) else (if a0 > a1 then (some 1) else (some 0))))))) = some r := h
 clear h
 replace H := Option.bind_eq_some_iff.mp H
 obtain ⟨t101, A30, H⟩ := H
 replace H : ((cmp_isNaN_int.f a1).bind fun t102 => (if t101 = true then (if t102 = true then (some 0) else (some (-1))) else (if t102 = true then (some 1) else (if a0 < a1 then (some (-1)) else (if a0 > a1 then (some 1) else (some 0)))))) = some r := H
 have A3 := am A30
 clear A30
 replace H := Option.bind_eq_some_iff.mp H
 obtain ⟨t102, A40, H⟩ := H
 replace H : (if t101 = true then (if t102 = true then (some 0) else (some (-1))) else (if t102 = true then (some 1) else (if a0 < a1 then (some (-1)) else (if a0 > a1 then (some 1) else (some 0))))) = some r := H
 have A4 := am A40
 clear A40
 by_cases c5 : t101 = true
 ·subst c5
  have H1 : (if t102 = true then (some 0) else (some (-1))) = some r := by rw [if_pos rfl] at H; exact H
  clear H
  have H := H1
  clear H1
  by_cases c6 : t102 = true
  ·subst c6
   have H1 : (some 0) = some r := by rw [if_pos rfl] at H; exact H
   clear H
   have H := H1
   clear H1
   obtain rfl := Option.some.inj H
   go_enter Try.func58, Try.ntmps58
   go_wp2_with (first | ((with_reducible refine gate_callee (f := 60) rfl ?_); refine goesL_ (some 8) rfl rfl Try.func60 (by kernel_rfl) rfl #[.int .i64 a0] rfl (by (try simp only [List.map_toArray, List.map_cons, List.map_nil]); first | done | rfl | (simp only [List.length_drop, List.length_take]; rfl)) ?_; (with_reducible refine (cmp_isNaN_int.calls a0 true _ A3.out).mono ?_); rintro e w' ⟨rfl, ⟨nd, rfl⟩⟩; refine ⟨_, rfl, ?_⟩) | ((with_reducible refine gate_callee (f := 60) rfl ?_); refine goesL_ (some 10) rfl rfl Try.func60 (by kernel_rfl) rfl #[.int .i64 a1] rfl (by (try simp only [List.map_toArray, List.map_cons, List.map_nil]); first | done | rfl | (simp only [List.length_drop, List.length_take]; rfl)) ?_; (with_reducible refine (cmp_isNaN_int.calls a1 true _ A4.out).mono ?_); rintro e w' ⟨rfl, ⟨nd, rfl⟩⟩; refine ⟨_, rfl, ?_⟩))
   go_ret
   exact ⟨by first | rfl | (simp; done) | (simp [*]; done), by repeat (first | exact Drawn0.refl _ | apply Drawn0.step)⟩
  ·replace c6 := Bool.eq_false_iff.mpr c6
   subst c6
   have H1 : (some (-1)) = some r := by rw [if_neg (show ¬ (false = true) by decide)] at H; exact H
   clear H
   have H := H1
   clear H1
   obtain rfl := Option.some.inj H
   go_enter Try.func58, Try.ntmps58
   go_wp2_with (first | ((with_reducible refine gate_callee (f := 60) rfl ?_); refine goesL_ (some 8) rfl rfl Try.func60 (by kernel_rfl) rfl #[.int .i64 a0] rfl (by (try simp only [List.map_toArray, List.map_cons, List.map_nil]); first | done | rfl | (simp only [List.length_drop, List.length_take]; rfl)) ?_; (with_reducible refine (cmp_isNaN_int.calls a0 true _ A3.out).mono ?_); rintro e w' ⟨rfl, ⟨nd, rfl⟩⟩; refine ⟨_, rfl, ?_⟩) | ((with_reducible refine gate_callee (f := 60) rfl ?_); refine goesL_ (some 10) rfl rfl Try.func60 (by kernel_rfl) rfl #[.int .i64 a1] rfl (by (try simp only [List.map_toArray, List.map_cons, List.map_nil]); first | done | rfl | (simp only [List.length_drop, List.length_take]; rfl)) ?_; (with_reducible refine (cmp_isNaN_int.calls a1 false _ A4.out).mono ?_); rintro e w' ⟨rfl, ⟨nd, rfl⟩⟩; refine ⟨_, rfl, ?_⟩))
   go_ret
   exact ⟨by first | rfl | (simp; done) | (simp [*]; done), by repeat (first | exact Drawn0.refl _ | apply Drawn0.step)⟩
 ·replace c5 := Bool.eq_false_iff.mpr c5
  subst c5
  have H1 : (if t102 = true then (some 1) else (if a0 < a1 then (some (-1)) else (if a0 > a1 then (some 1) else (some 0)))) = some r := by rw [if_neg (show ¬ (false = true) by decide)] at H; exact H
  clear H
  have H := H1
  clear H1
  by_cases c7 : t102 = true
  ·subst c7
   have H1 : (some 1) = some r := by rw [if_pos rfl] at H; exact H
   clear H
   have H := H1
   clear H1
   obtain rfl := Option.some.inj H
   go_enter Try.func58, Try.ntmps58
   go_wp2_with (first | ((with_reducible refine gate_callee (f := 60) rfl ?_); refine goesL_ (some 8) rfl rfl Try.func60 (by kernel_rfl) rfl #[.int .i64 a0] rfl (by (try simp only [List.map_toArray, List.map_cons, List.map_nil]); first | done | rfl | (simp only [List.length_drop, List.length_take]; rfl)) ?_; (with_reducible refine (cmp_isNaN_int.calls a0 false _ A3.out).mono ?_); rintro e w' ⟨rfl, ⟨nd, rfl⟩⟩; refine ⟨_, rfl, ?_⟩) | ((with_reducible refine gate_callee (f := 60) rfl ?_); refine goesL_ (some 10) rfl rfl Try.func60 (by kernel_rfl) rfl #[.int .i64 a1] rfl (by (try simp only [List.map_toArray, List.map_cons, List.map_nil]); first | done | rfl | (simp only [List.length_drop, List.length_take]; rfl)) ?_; (with_reducible refine (cmp_isNaN_int.calls a1 true _ A4.out).mono ?_); rintro e w' ⟨rfl, ⟨nd, rfl⟩⟩; refine ⟨_, rfl, ?_⟩))
   go_ret
   exact ⟨by first | rfl | (simp; done) | (simp [*]; done), by repeat (first | exact Drawn0.refl _ | apply Drawn0.step)⟩
  ·replace c7 := Bool.eq_false_iff.mpr c7
   subst c7
   have H1 : (if a0 < a1 then (some (-1)) else (if a0 > a1 then (some 1) else (some 0))) = some r := by rw [if_neg (show ¬ (false = true) by decide)] at H; exact H
   clear H
   have H := H1
   clear H1
   by_cases c8 : a0 < a1
   ·rw [if_pos c8] at H
    have c8b0 : decide (a0 < a1) = true := decide_eq_true c8
    clear c8
    obtain rfl := Option.some.inj H
    go_enter Try.func58, Try.ntmps58
    go_wp2_with (first | ((with_reducible refine gate_callee (f := 60) rfl ?_); refine goesL_ (some 8) rfl rfl Try.func60 (by kernel_rfl) rfl #[.int .i64 a0] rfl (by (try simp only [List.map_toArray, List.map_cons, List.map_nil]); first | done | rfl | (simp only [List.length_drop, List.length_take]; rfl)) ?_; (with_reducible refine (cmp_isNaN_int.calls a0 false _ A3.out).mono ?_); rintro e w' ⟨rfl, ⟨nd, rfl⟩⟩; refine ⟨_, rfl, ?_⟩) | ((with_reducible refine gate_callee (f := 60) rfl ?_); refine goesL_ (some 10) rfl rfl Try.func60 (by kernel_rfl) rfl #[.int .i64 a1] rfl (by (try simp only [List.map_toArray, List.map_cons, List.map_nil]); first | done | rfl | (simp only [List.length_drop, List.length_take]; rfl)) ?_; (with_reducible refine (cmp_isNaN_int.calls a1 false _ A4.out).mono ?_); rintro e w' ⟨rfl, ⟨nd, rfl⟩⟩; refine ⟨_, rfl, ?_⟩))
    go_ret
    exact ⟨by first | rfl | (simp; done) | (simp [*]; done), by repeat (first | exact Drawn0.refl _ | apply Drawn0.step)⟩
   ·rw [if_neg c8] at H
    have c8b0 : decide (a0 < a1) = false := decide_eq_false c8
    clear c8
    by_cases c9 : a0 > a1
    ·rw [if_pos c9] at H
     have c9b0 : decide (a1 < a0) = true := decide_eq_true c9
     clear c9
     obtain rfl := Option.some.inj H
     go_enter Try.func58, Try.ntmps58
     go_wp2_with (first | ((with_reducible refine gate_callee (f := 60) rfl ?_); refine goesL_ (some 8) rfl rfl Try.func60 (by kernel_rfl) rfl #[.int .i64 a0] rfl (by (try simp only [List.map_toArray, List.map_cons, List.map_nil]); first | done | rfl | (simp only [List.length_drop, List.length_take]; rfl)) ?_; (with_reducible refine (cmp_isNaN_int.calls a0 false _ A3.out).mono ?_); rintro e w' ⟨rfl, ⟨nd, rfl⟩⟩; refine ⟨_, rfl, ?_⟩) | ((with_reducible refine gate_callee (f := 60) rfl ?_); refine goesL_ (some 10) rfl rfl Try.func60 (by kernel_rfl) rfl #[.int .i64 a1] rfl (by (try simp only [List.map_toArray, List.map_cons, List.map_nil]); first | done | rfl | (simp only [List.length_drop, List.length_take]; rfl)) ?_; (with_reducible refine (cmp_isNaN_int.calls a1 false _ A4.out).mono ?_); rintro e w' ⟨rfl, ⟨nd, rfl⟩⟩; refine ⟨_, rfl, ?_⟩))
     go_ret
     exact ⟨by first | rfl | (simp; done) | (simp [*]; done), by repeat (first | exact Drawn0.refl _ | apply Drawn0.step)⟩
    ·rw [if_neg c9] at H
     have c9b0 : decide (a1 < a0) = false := decide_eq_false c9
     clear c9
     obtain rfl := Option.some.inj H
     go_enter Try.func58, Try.ntmps58
     go_wp2_with (first | ((with_reducible refine gate_callee (f := 60) rfl ?_); refine goesL_ (some 8) rfl rfl Try.func60 (by kernel_rfl) rfl #[.int .i64 a0] rfl (by (try simp only [List.map_toArray, List.map_cons, List.map_nil]); first | done | rfl | (simp only [List.length_drop, List.length_take]; rfl)) ?_; (with_reducible refine (cmp_isNaN_int.calls a0 false _ A3.out).mono ?_); rintro e w' ⟨rfl, ⟨nd, rfl⟩⟩; refine ⟨_, rfl, ?_⟩) | ((with_reducible refine gate_callee (f := 60) rfl ?_); refine goesL_ (some 10) rfl rfl Try.func60 (by kernel_rfl) rfl #[.int .i64 a1] rfl (by (try simp only [List.map_toArray, List.map_cons, List.map_nil]); first | done | rfl | (simp only [List.length_drop, List.length_take]; rfl)) ?_; (with_reducible refine (cmp_isNaN_int.calls a1 false _ A4.out).mono ?_); rintro e w' ⟨rfl, ⟨nd, rfl⟩⟩; refine ⟨_, rfl, ?_⟩))
     go_ret
     exact ⟨by first | rfl | (simp; done) | (simp [*]; done), by repeat (first | exact Drawn0.refl _ | apply Drawn0.step)⟩
def slices_Compare_int_int.l0 : Nat → List Int → List Int → List Int → Int → Int → Option (Int)
 | 0, _, _, _, _, _ => none
 | k + 1, x0, x1, x9, x10, x11 => if x11 < x10 then (if 0 ≤ x11 then (if x11 < (x9.length : Int) then (if x11 ≥ (x1.length : Int) then (some 1) else (if x11 < (x1.length : Int) then ((cmp_Compare_int.f (rd x9 x11) (rd x1 x11)).bind fun t105 => (if t105 = 0 then (slices_Compare_int_int.l0 k x0 x1 x9 x10 (wrap64 (x11 + 1))) else (some t105))) else (none))) else (none)) else (none)) else (if (x0.length : Int) < (x1.length : Int) then (some (-1)) else (some 0))
def slices_Compare_int_int.f (k : Nat) (l0 : List Int) (l1 : List Int) : Option (Int) := slices_Compare_int_int.l0 k l0 l1 l0 (l0.length : Int) 0
set_option maxHeartbeats 8000000 in
set_option maxRecDepth 100000 in
theorem slices_Compare_int_int.calls (k : Nat) (A0 : Option Addr) (c0 : Nat) (l0 : List Int) (A1 : Option Addr) (c1 : Nat) (l1 : List Int) (r : Int) (w : World) (hr0 : Kd.C (Kd.int .i64) w A0 l0.length l0) (hc0 : l0.length ≤ c0) (hr1 : Kd.C (Kd.int .i64) w A1 l1.length l1) (hc1 : l1.length ≤ c1) (h : slices_Compare_int_int.f k l0 l1 = some r) :
  Calls Try.prog 56 #[.slice A0 l0.length c0, .slice A1 l1.length c1] w fun e w' => e = .returned (.int .i64 r) ∧ Drawn0 w w' := by
 have HR0 := am hr0
 have HC0 := am hc0
 clear hr0 hc0
 have HR1 := am hr1
 have HC1 := am hc1
 clear hr1 hc1
 have H : (slices_Compare_int_int.l0 k l0 l1 l0 (l0.length : Int) 0) = some r := h
 clear h
 have H' := am H
 clear H
 go_enter Try.func56, Try.ntmps56
 go_wp2
 go_loopg [11] k (fun kq v11 w' => ∃ (x11_1 : Int), v11 = .int .i64 x11_1 ∧ Aside0 (slices_Compare_int_int.l0 kq l0 l1 l0 (l0.length : Int) x11_1 = some r) ∧ Aside0 (kq ≤ k) ∧ Drawn0 w w')
 case atStart => exact ⟨(0), (by first | rfl | (simp; done) | (simp [*]; done)), H', ⟨Nat.le_refl _⟩, by repeat (first | exact Drawn0.refl _ | apply Drawn0.step)⟩
 case round =>
  clear H'
  try clear c1
  try clear p2
  obtain ⟨x11_1, rfl, HA, HK1, ⟨m1, rfl⟩⟩ := hrel
  cases gk with
  | zero => exact absurd HA.out (by simp [slices_Compare_int_int.l0])
  | succ k1 =>
   have H := HA.out
   clear HA
   simp only [slices_Compare_int_int.l0] at H
   by_cases c3 : x11_1 < (l0.length : Int)
   ·rw [if_pos c3] at H
    have c3b0 : decide (x11_1 < (l0.length : Int)) = true := decide_eq_true c3
    clear c3
    by_cases c4 : 0 ≤ x11_1
    ·rw [if_pos c4] at H
     have c4b0 : decide (0 ≤ x11_1) = true := decide_eq_true c4
     clear c4
     by_cases c5 : x11_1 < (l0.length : Int)
     ·rw [if_pos c5] at H
      have c5b0 : decide (x11_1 < (l0.length : Int)) = true := decide_eq_true c5
      clear c5
      by_cases c6 : x11_1 ≥ (l1.length : Int)
      ·rw [if_pos c6] at H
       have c6b0 : decide ((l1.length : Int) ≤ x11_1) = true := decide_eq_true c6
       clear c6
       obtain rfl := Option.some.inj H
       have p103 : 0 ≤ (x11_1 : Int) := of_decide_eq_true (by first | (with_reducible assumption) | assumption)
       have q103 : x11_1 < (l0.length : Int) := of_decide_eq_true (by first | (with_reducible assumption) | assumption)
       obtain ⟨ad103, e103, hx103_0⟩ := Kd.at_int HR0.out x11_1 p103 q103
       cases e103
       replace p103 := eq_true p103
       replace q103 := eq_true q103
       go_wp2
       go_ret
       exact ⟨by first | rfl | (simp; done) | (simp [*]; done), by repeat (first | exact Drawn0.refl _ | apply Drawn0.step)⟩
      ·rw [if_neg c6] at H
       have c6b0 : decide ((l1.length : Int) ≤ x11_1) = false := decide_eq_false c6
       clear c6
       by_cases c7 : x11_1 < (l1.length : Int)
       ·rw [if_pos c7] at H
        have c7b0 : decide (x11_1 < (l1.length : Int)) = true := decide_eq_true c7
        clear c7
        replace H := Option.bind_eq_some_iff.mp H
        obtain ⟨t105, A80, H⟩ := H
        replace H : (if t105 = 0 then (slices_Compare_int_int.l0 k1 l0 l1 l0 (l0.length : Int) (wrap64 (x11_1 + 1))) else (some t105)) = some r := H
        have A8 := am A80
        clear A80
        by_cases c9 : t105 = 0
        ·rw [if_pos c9] at H
         have c9b0 : (t105 == 0) = true := beq_iff_eq.mpr c9
         have c9b1 : (t105 != 0) = false := bne_eq_false_iff_eq.mpr c9
         clear c9
         have H' := am H
         clear H
         have p103 : 0 ≤ (x11_1 : Int) := of_decide_eq_true (by first | (with_reducible assumption) | assumption)
         have q103 : x11_1 < (l0.length : Int) := of_decide_eq_true (by first | (with_reducible assumption) | assumption)
         obtain ⟨ad103, e103, hx103_0⟩ := Kd.at_int HR0.out x11_1 p103 q103
         cases e103
         replace p103 := eq_true p103
         replace q103 := eq_true q103
         have p104 : 0 ≤ (x11_1 : Int) := of_decide_eq_true (by first | (with_reducible assumption) | assumption)
         have q104 : x11_1 < (l1.length : Int) := of_decide_eq_true (by first | (with_reducible assumption) | assumption)
         obtain ⟨ad104, e104, hx104_0⟩ := Kd.at_int HR1.out x11_1 p104 q104
         cases e104
         replace p104 := eq_true p104
         replace q104 := eq_true q104
         go_wp2_with (first | ((with_reducible refine gate_callee (f := 58) rfl ?_); refine goesL_ (some 26) rfl rfl Try.func58 (by kernel_rfl) rfl #[.int .i64 (rd l0 x11_1), .int .i64 (rd l1 x11_1)] rfl (by (try simp only [List.map_toArray, List.map_cons, List.map_nil]); first | done | rfl | (simp only [List.length_drop, List.length_take]; rfl)) ?_; (with_reducible refine (cmp_Compare_int.calls (rd l0 x11_1) (rd l1 x11_1) t105 _ A8.out).mono ?_); rintro e w' ⟨rfl, ⟨nd, rfl⟩⟩; refine ⟨_, rfl, ?_⟩))
         go_roundg k1
         case measure => have := HK1.out; omega
         case rel => exact ⟨(wrap64 (x11_1 + 1)), (by first | rfl | (simp; done) | (simp [*]; done)), H', ⟨by have := HK1.out; omega⟩, by repeat (first | exact Drawn0.refl _ | apply Drawn0.step)⟩
        ·rw [if_neg c9] at H
         have c9b0 : (t105 == 0) = false := beq_eq_false_iff_ne.mpr c9
         have c9b1 : (t105 != 0) = true := bne_iff_ne.mpr c9
         obtain rfl := Option.some.inj H
         have p103 : 0 ≤ (x11_1 : Int) := of_decide_eq_true (by first | (with_reducible assumption) | assumption)
         have q103 : x11_1 < (l0.length : Int) := of_decide_eq_true (by first | (with_reducible assumption) | assumption)
         obtain ⟨ad103, e103, hx103_0⟩ := Kd.at_int HR0.out x11_1 p103 q103
         cases e103
         replace p103 := eq_true p103
         replace q103 := eq_true q103
         have p104 : 0 ≤ (x11_1 : Int) := of_decide_eq_true (by first | (with_reducible assumption) | assumption)
         have q104 : x11_1 < (l1.length : Int) := of_decide_eq_true (by first | (with_reducible assumption) | assumption)
         obtain ⟨ad104, e104, hx104_0⟩ := Kd.at_int HR1.out x11_1 p104 q104
         cases e104
         replace p104 := eq_true p104
         replace q104 := eq_true q104
         go_wp2_with (first | ((with_reducible refine gate_callee (f := 58) rfl ?_); refine goesL_ (some 26) rfl rfl Try.func58 (by kernel_rfl) rfl #[.int .i64 (rd l0 x11_1), .int .i64 (rd l1 x11_1)] rfl (by (try simp only [List.map_toArray, List.map_cons, List.map_nil]); first | done | rfl | (simp only [List.length_drop, List.length_take]; rfl)) ?_; (with_reducible refine (cmp_Compare_int.calls (rd l0 x11_1) (rd l1 x11_1) t105 _ A8.out).mono ?_); rintro e w' ⟨rfl, ⟨nd, rfl⟩⟩; refine ⟨_, rfl, ?_⟩))
         go_ret
         exact ⟨by first | rfl | (simp; done) | (simp [*]; done), by repeat (first | exact Drawn0.refl _ | apply Drawn0.step)⟩
       ·rw [if_neg c7] at H
        exact absurd H (by simp)
     ·rw [if_neg c5] at H
      exact absurd H (by simp)
    ·rw [if_neg c4] at H
     exact absurd H (by simp)
   ·rw [if_neg c3] at H
    have c3b0 : decide (x11_1 < (l0.length : Int)) = false := decide_eq_false c3
    clear c3
    by_cases c10 : (l0.length : Int) < (l1.length : Int)
    ·rw [if_pos c10] at H
     have c10b0 : decide ((l0.length : Int) < (l1.length : Int)) = true := decide_eq_true c10
     have c10b1 : decide (l0.length < l1.length) = true := decide_eq_true (Int.ofNat_lt.mp c10)
     clear c10
     obtain rfl := Option.some.inj H
     go_wp2
     go_ret
     exact ⟨by first | rfl | (simp; done) | (simp [*]; done), by repeat (first | exact Drawn0.refl _ | apply Drawn0.step)⟩
    ·rw [if_neg c10] at H
     have c10b0 : decide ((l0.length : Int) < (l1.length : Int)) = false := decide_eq_false c10
     have c10b1 : decide (l0.length < l1.length) = false := decide_eq_false (fun h => c10 (Int.ofNat_lt.mpr h))
     clear c10
     obtain rfl := Option.some.inj H
     go_wp2
     go_ret
     exact ⟨by first | rfl | (simp; done) | (simp [*]; done), by repeat (first | exact Drawn0.refl _ | apply Drawn0.step)⟩
def cell_Less.f (k : Nat) (l0 : List Int) (l1 : List Int) : Option (Int) := (slices_Compare_int_int.f k l0 l1).bind fun t106 => (some t106)
set_option maxHeartbeats 8000000 in
set_option maxRecDepth 100000 in
theorem cell_Less.calls (k : Nat) (A0 : Option Addr) (c0 : Nat) (l0 : List Int) (A1 : Option Addr) (c1 : Nat) (l1 : List Int) (r : Int) (w : World) (hr0 : Kd.C (Kd.int .i64) w A0 l0.length l0) (hc0 : l0.length ≤ c0) (hr1 : Kd.C (Kd.int .i64) w A1 l1.length l1) (hc1 : l1.length ≤ c1) (h : cell_Less.f k l0 l1 = some r) :
  Calls Try.prog 44 #[.slice A0 l0.length c0, .slice A1 l1.length c1] w fun e w' => e = .returned (.int .i64 r) ∧ Drawn0 w w' := by
 have HR0 := am hr0
 have HC0 := am hc0
 clear hr0 hc0
 have HR1 := am hr1
 have HC1 := am hc1
 clear hr1 hc1
 have H : ((slices_Compare_int_int.f k l0 l1).bind fun t106 => (some t106)) = some r := h
 clear h
 replace H := Option.bind_eq_some_iff.mp H
 obtain ⟨t106, A30, H⟩ := H
 replace H : (some t106) = some r := H
 have A3 := am A30
 clear A30
 obtain rfl := Option.some.inj H
 go_enter Try.func44, Try.ntmps44
 go_wp2_with (first | ((with_reducible refine gate_callee (f := 56) rfl ?_); refine goesL_ (some 7) rfl rfl Try.func56 (by kernel_rfl) rfl #[.slice A0 l0.length c0, .slice A1 l1.length c1] rfl (by (try simp only [List.map_toArray, List.map_cons, List.map_nil]); first | done | rfl | (simp only [List.length_drop, List.length_take]; rfl)) ?_; (with_reducible refine (slices_Compare_int_int.calls k _ _ l0 _ _ l1 t106 _ ?side1 ?side2 ?side3 ?side4 A3.out).mono ?_); (case side1 => repeat (first | exact HR0.out | (with_reducible refine Kd.C_alloc ?_ _) | (with_reducible refine Kd.C_drewN ?_ _) | (with_reducible refine Kd.C_drew ?_))); (case side2 => exact HC0.out); (case side3 => repeat (first | exact HR1.out | (with_reducible refine Kd.C_alloc ?_ _) | (with_reducible refine Kd.C_drewN ?_ _) | (with_reducible refine Kd.C_drew ?_))); (case side4 => exact HC1.out); rintro e w' ⟨rfl, ⟨nd, rfl⟩⟩; refine ⟨_, rfl, ?_⟩))
 go_ret
 exact ⟨by first | rfl | (simp; done) | (simp [*]; done), by repeat (first | exact Drawn0.refl _ | apply Drawn0.step)⟩
def runs_by.f (k : Nat) (l0_0 : List Int) (a0_1 : Int) (l0_2 : List Int) (l0_3 : List Int) (l0_4 : List Int) (l1_0 : List Int) (a1_1 : Int) (l1_2 : List Int) (l1_3 : List Int) (l1_4 : List Int) : Option (Int) := (cell_Less.f k l0_0 l1_0).bind fun t109 => (some t109)
set_option maxHeartbeats 8000000 in
set_option maxRecDepth 100000 in
theorem runs_by.calls (k : Nat) (A0_0 : Option Addr) (c0_0 : Nat) (l0_0 : List Int) (a0_1 : Int) (A0_2 : Option Addr) (c0_2 : Nat) (l0_2 : List Int) (A0_3 : Option Addr) (c0_3 : Nat) (l0_3 : List Int) (A0_4 : Option Addr) (c0_4 : Nat) (l0_4 : List Int) (A1_0 : Option Addr) (c1_0 : Nat) (l1_0 : List Int) (a1_1 : Int) (A1_2 : Option Addr) (c1_2 : Nat) (l1_2 : List Int) (A1_3 : Option Addr) (c1_3 : Nat) (l1_3 : List Int) (A1_4 : Option Addr) (c1_4 : Nat) (l1_4 : List Int) (r : Int) (w : World) (hr0_0 : Kd.C (Kd.int .i64) w A0_0 l0_0.length l0_0) (hc0_0 : l0_0.length ≤ c0_0) (hr0_2 : Kd.C (Kd.int .i64) w A0_2 l0_2.length l0_2) (hc0_2 : l0_2.length ≤ c0_2) (hr0_3 : Kd.C (Kd.int .i64) w A0_3 l0_3.length l0_3) (hc0_3 : l0_3.length ≤ c0_3) (hr0_4 : Kd.C (Kd.int .i64) w A0_4 l0_4.length l0_4) (hc0_4 : l0_4.length ≤ c0_4) (hr1_0 : Kd.C (Kd.int .i64) w A1_0 l1_0.length l1_0) (hc1_0 : l1_0.length ≤ c1_0) (hr1_2 : Kd.C (Kd.int .i64) w A1_2 l1_2.length l1_2) (hc1_2 : l1_2.length ≤ c1_2) (hr1_3 : Kd.C (Kd.int .i64) w A1_3 l1_3.length l1_3) (hc1_3 : l1_3.length ≤ c1_3) (hr1_4 : Kd.C (Kd.int .i64) w A1_4 l1_4.length l1_4) (hc1_4 : l1_4.length ≤ c1_4) (h : runs_by.f k l0_0 a0_1 l0_2 l0_3 l0_4 l1_0 a1_1 l1_2 l1_3 l1_4 = some r) :
  Calls Try.prog 34 #[.agg #[.slice A0_0 l0_0.length c0_0, .int .i64 a0_1, .slice A0_2 l0_2.length c0_2, .slice A0_3 l0_3.length c0_3, .slice A0_4 l0_4.length c0_4], .agg #[.slice A1_0 l1_0.length c1_0, .int .i64 a1_1, .slice A1_2 l1_2.length c1_2, .slice A1_3 l1_3.length c1_3, .slice A1_4 l1_4.length c1_4]] w fun e w' => e = .returned (.int .i64 r) ∧ Below w.heap.size w w' := by
 have hu41 := Try.underlying41
 have HR0_0 := am hr0_0
 have HC0_0 := am hc0_0
 clear hr0_0 hc0_0
 have HR0_2 := am hr0_2
 have HC0_2 := am hc0_2
 clear hr0_2 hc0_2
 have HR0_3 := am hr0_3
 have HC0_3 := am hc0_3
 clear hr0_3 hc0_3
 have HR0_4 := am hr0_4
 have HC0_4 := am hc0_4
 clear hr0_4 hc0_4
 have HR1_0 := am hr1_0
 have HC1_0 := am hc1_0
 clear hr1_0 hc1_0
 have HR1_2 := am hr1_2
 have HC1_2 := am hc1_2
 clear hr1_2 hc1_2
 have HR1_3 := am hr1_3
 have HC1_3 := am hc1_3
 clear hr1_3 hc1_3
 have HR1_4 := am hr1_4
 have HC1_4 := am hc1_4
 clear hr1_4 hc1_4
 have HB := am (Below.refl w.heap.size w)
 have H : ((cell_Less.f k l0_0 l1_0).bind fun t109 => (some t109)) = some r := h
 clear h
 replace H := Option.bind_eq_some_iff.mp H
 obtain ⟨t109, A30, H⟩ := H
 replace H : (some t109) = some r := H
 have A3 := am A30
 clear A30
 obtain rfl := Option.some.inj H
 go_enter Try.func34, Try.ntmps34
 go_wp2_with (first | ((with_reducible refine gate_dst (N := 2) rfl ?_); refine box_event ?hg (N := 2) ?hd (cs := #[.slice A0_0 l0_0.length c0_0, .int .i64 a0_1, .slice A0_2 l0_2.length c0_2, .slice A0_3 l0_3.length c0_3, .slice A0_4 l0_4.length c0_4]) (t := 41) ?hr ?_; (case hd => rfl); (case hg => rfl); (case hr => first | (go_simp; done) | (go_simp; rfl)); intro gb107 hg w4 hbox hb; have n0_ := am (below_step (by repeat (first | (with_reducible first | exact HB.out | apply below_alloc | apply pw_below_drewN | apply below_drew1) | exact HB.out)) hb); have n1_ := am (hbox); have n2_ := am ((by rw [hg]; exact (below_size (by repeat (first | (with_reducible first | exact HB.out | apply below_alloc | apply pw_below_drewN | apply below_drew1) | exact HB.out))) : w.heap.size ≤ gb107)); have n3_ := am ((by rw [hg]; exact (below_size (by repeat (first | (with_reducible first | exact HB.out | apply below_alloc | apply pw_below_drewN | apply below_drew1) | exact HB.out))) : w.heap.size ≤ gb107)); clear HB; have HB := n0_; have BK107 := n1_; have GW107 := n2_; have GE107 := n3_; clear n0_ n1_ n2_ n3_; clear hb hbox hg) | ((with_reducible refine gate_dst (N := 3) rfl ?_); refine box_event ?hg (N := 3) ?hd (cs := #[.slice A1_0 l1_0.length c1_0, .int .i64 a1_1, .slice A1_2 l1_2.length c1_2, .slice A1_3 l1_3.length c1_3, .slice A1_4 l1_4.length c1_4]) (t := 41) ?hr ?_; (case hd => rfl); (case hg => rfl); (case hr => first | (go_simp; done) | (go_simp; rfl)); intro gb108 hg w5 hbox hb; have n0_ := am (blk_below (g := gb107) (o := .cells #[.slice A0_0 l0_0.length c0_0, .int .i64 a0_1, .slice A0_2 l0_2.length c0_2, .slice A0_3 l0_3.length c0_3, .slice A0_4 l0_4.length c0_4] 41 (0, 0)) (by (with_reducible repeat (first | refine blk_drewN ?_ _ | refine blk_drew ?_ | refine blk_alloc ?_ _)); exact BK107.out) hb); have n1_ := am (below_step (by repeat (first | (with_reducible first | exact HB.out | apply below_alloc | apply pw_below_drewN | apply below_drew1 | refine below_set ?_ GE107.out) | exact HB.out)) hb); have n2_ := am (hbox); have n3_ := am ((by rw [hg]; exact (below_size (by repeat (first | (with_reducible first | exact HB.out | apply below_alloc | apply pw_below_drewN | apply below_drew1 | refine below_set ?_ GE107.out) | exact HB.out))) : w.heap.size ≤ gb108)); have n4_ := am ((by rw [hg]; exact (below_size (by repeat (first | (with_reducible first | exact HB.out | apply below_alloc | apply pw_below_drewN | apply below_drew1 | refine below_set ?_ GE107.out) | exact HB.out))) : w.heap.size ≤ gb108)); have n5_ := am ((by rw [hg]; exact Nat.ne_of_lt (blk_lt (g := gb107) (o := .cells #[.slice A0_0 l0_0.length c0_0, .int .i64 a0_1, .slice A0_2 l0_2.length c0_2, .slice A0_3 l0_3.length c0_3, .slice A0_4 l0_4.length c0_4] 41 (0, 0)) (by (with_reducible repeat (first | refine blk_drewN ?_ _ | refine blk_drew ?_ | refine blk_alloc ?_ _)); exact BK107.out)) : gb107 ≠ gb108)); have n6_ := am ((by rw [hg]; exact Nat.ne_of_gt (blk_lt (g := gb107) (o := .cells #[.slice A0_0 l0_0.length c0_0, .int .i64 a0_1, .slice A0_2 l0_2.length c0_2, .slice A0_3 l0_3.length c0_3, .slice A0_4 l0_4.length c0_4] 41 (0, 0)) (by (with_reducible repeat (first | refine blk_drewN ?_ _ | refine blk_drew ?_ | refine blk_alloc ?_ _)); exact BK107.out)) : gb108 ≠ gb107)); clear BK107; clear HB; have BK107 := n0_; have HB := n1_; have BK108 := n2_; have GW108 := n3_; have GE108 := n4_; have NB107_108 := n5_; have NB108_107 := n6_; clear n0_ n1_ n2_ n3_ n4_ n5_ n6_; clear hb hbox hg; have hnb6 := NB107_108.out; have hnc6 := NB108_107.out; have hcz7_0 : w5.cell? ⟨gb107, 0, none⟩ = some (.slice A0_0 l0_0.length c0_0) := (blk_cell BK107.out 0).trans rfl; have hcz7_1 : w5.cell? ⟨gb107, 1, none⟩ = some (.int .i64 a0_1) := (blk_cell BK107.out 1).trans rfl; have hcz7_2 : w5.cell? ⟨gb107, 2, none⟩ = some (.slice A0_2 l0_2.length c0_2) := (blk_cell BK107.out 2).trans rfl; have hcz7_3 : w5.cell? ⟨gb107, 3, none⟩ = some (.slice A0_3 l0_3.length c0_3) := (blk_cell BK107.out 3).trans rfl; have hcz7_4 : w5.cell? ⟨gb107, 4, none⟩ = some (.slice A0_4 l0_4.length c0_4) := (blk_cell BK107.out 4).trans rfl; have hfz7_0 := blk_frozen BK107.out 0; have hfz7_1 := blk_frozen BK107.out 1; have hfz7_2 := blk_frozen BK107.out 2; have hfz7_3 := blk_frozen BK107.out 3; have hfz7_4 := blk_frozen BK107.out 4; have hcz8_0 : w5.cell? ⟨gb108, 0, none⟩ = some (.slice A1_0 l1_0.length c1_0) := (blk_cell BK108.out 0).trans rfl; have hcz8_1 : w5.cell? ⟨gb108, 1, none⟩ = some (.int .i64 a1_1) := (blk_cell BK108.out 1).trans rfl; have hcz8_2 : w5.cell? ⟨gb108, 2, none⟩ = some (.slice A1_2 l1_2.length c1_2) := (blk_cell BK108.out 2).trans rfl; have hcz8_3 : w5.cell? ⟨gb108, 3, none⟩ = some (.slice A1_3 l1_3.length c1_3) := (blk_cell BK108.out 3).trans rfl; have hcz8_4 : w5.cell? ⟨gb108, 4, none⟩ = some (.slice A1_4 l1_4.length c1_4) := (blk_cell BK108.out 4).trans rfl; have hfz8_0 := blk_frozen BK108.out 0; have hfz8_1 := blk_frozen BK108.out 1; have hfz8_2 := blk_frozen BK108.out 2; have hfz8_3 := blk_frozen BK108.out 3; have hfz8_4 := blk_frozen BK108.out 4) | ((with_reducible refine gate_callee (f := 44) rfl ?_); refine goesL_ (some 9) rfl rfl Try.func44 (by kernel_rfl) rfl #[.slice A0_0 l0_0.length c0_0, .slice A1_0 l1_0.length c1_0] rfl (by (try simp only [List.map_toArray, List.map_cons, List.map_nil]); first | done | rfl | (simp only [List.length_drop, List.length_take]; rfl)) ?_; (with_reducible refine (cell_Less.calls k _ _ l0_0 _ _ l1_0 t109 _ ?side1 ?side2 ?side3 ?side4 A3.out).mono ?_); (case side1 => repeat (first | exact (Kd.C_below HR0_0.out HB.out) | (with_reducible refine Kd.C_alloc ?_ _) | (with_reducible refine Kd.C_drewN ?_ _) | (with_reducible refine Kd.C_drew ?_))); (case side2 => exact HC0_0.out); (case side3 => repeat (first | exact (Kd.C_below HR1_0.out HB.out) | (with_reducible refine Kd.C_alloc ?_ _) | (with_reducible refine Kd.C_drewN ?_ _) | (with_reducible refine Kd.C_drew ?_))); (case side4 => exact HC1_0.out); rintro e w' ⟨rfl, ⟨nd, rfl⟩⟩; refine ⟨_, rfl, ?_⟩))
 go_ret
 exact ⟨by first | rfl | (simp [errW_none, errW_some] <;> rfl) | (simp [*, errW_none, errW_some] <;> rfl), by repeat (first | (with_reducible first | exact HB.out | apply below_alloc | apply pw_below_drewN | apply below_drew1 | refine below_set ?_ GE107.out | refine below_set ?_ GE108.out) | exact HB.out)⟩
def hypercuberef2_Join.l0 : Nat → Int → List Int → Int → List Int → List Int → List Int → List Int → Int → List Int → List Int → List Int → List Int → Int → List Int → List Int → List Int → Option (List Int × Int × List Int × List Int × List Int)
 | 0, _, _, _, _, _, _, _, _, _, _, _, _, _, _, _, _ => none
 | k + 1, x6, x300000, x300001, x300002, x300003, x300004, x301000, x301001, x301002, x301003, x301004, x309000, x309001, x309002, x309003, x309004 => if x6 < (x300002.length : Int) then (if 0 ≤ x6 then (if x6 < (x301002.length : Int) then (if x309002.length < 17592186044416 then (if x6 < (x300003.length : Int) then (if x6 < (x301003.length : Int) then (if x309003.length < 17592186044416 then (if x6 < (x300004.length : Int) then (if x6 < (x301004.length : Int) then (if x309004.length < 17592186044416 then (hypercuberef2_Join.l0 k (wrap64 (x6 + 1)) x300000 x300001 x300002 x300003 x300004 x301000 x301001 x301002 x301003 x301004 x309000 x309001 (x309002 ++ [wrap64 ((rd x300002 x6) + (rd x301002 x6))]) (x309003 ++ [mn (rd x300003 x6) (rd x301003 x6)]) (x309004 ++ [mx (rd x300004 x6) (rd x301004 x6)])) else (none)) else (none)) else (none)) else (none)) else (none)) else (none)) else (none)) else (none)) else (none)) else (some (x309000, x309001, x309002, x309003, x309004))
def hypercuberef2_Join.f (k : Nat) (l0_0 : List Int) (a0_1 : Int) (l0_2 : List Int) (l0_3 : List Int) (l0_4 : List Int) (l1_0 : List Int) (a1_1 : Int) (l1_2 : List Int) (l1_3 : List Int) (l1_4 : List Int) : Option (List Int × Int × List Int × List Int × List Int) := (some (([] : List Int) : List Int)).bind fun y302 => (if y302.length + l0_0.length < 17592186044416 then (hypercuberef2_Join.l0 k 0 l0_0 a0_1 l0_2 l0_3 l0_4 l1_0 a1_1 l1_2 l1_3 l1_4 (y302 ++ l0_0) (wrap64 (a0_1 + a1_1)) ([] : List Int) ([] : List Int) ([] : List Int)) else (none))
def hypercuberef2_Join.T1 : Bool × List (List Nat × List Nat) := (true, [([], []), ([], []), ([1], [1]), ([0, 2], [0, 2]), ([], []), ([4], [4]), ([], []), ([6], [6]), ([5, 7], [5, 7]), ([3, 8], [3, 8]), ([], []), ([10, 9, 3, 0, 1, 2, 3, 4, 5, 6, 7, 8, 9, 10], [9, 10])])
def hypercuberef2_Join.B1 : List Nat := [0, 0, 2, 7, 0, 16, 0, 64, 240, 511, 0, 2047]
theorem hypercuberef2_Join.tab1 : rtab .any (opsOf Try.f41 1) = hypercuberef2_Join.T1 := by kernel_rfl
theorem hypercuberef2_Join.bits1 : waitsOk hypercuberef2_Join.T1.2 hypercuberef2_Join.B1 = true := by kernel_rfl
def hypercuberef2_Join.T5 : Bool × List (List Nat × List Nat) := (true, [([], []), ([0], [0]), ([], []), ([2], [2]), ([], []), ([3, 4], [3, 4]), ([5], [5]), ([], []), ([7], [7]), ([], []), ([8, 9], [8, 9]), ([10], [10]), ([6, 11], [6, 11]), ([12], [12]), ([1, 13], [1, 13]), ([0, 1, 2, 3, 4, 5, 6, 7, 8, 9, 10, 11, 12, 13, 14], []), ([15, 14, 14, 0, 1, 2, 3, 4, 5, 6, 7, 8, 9, 10, 11, 12, 13, 14], [14, 15])])
def hypercuberef2_Join.B5 : List Nat := [0, 1, 0, 4, 0, 28, 60, 0, 128, 0, 896, 1920, 4092, 8188, 16383, 32767, 65535]
theorem hypercuberef2_Join.tab5 : rtab .any (opsOf Try.f41 5) = hypercuberef2_Join.T5 := by kernel_rfl
theorem hypercuberef2_Join.bits5 : waitsOk hypercuberef2_Join.T5.2 hypercuberef2_Join.B5 = true := by kernel_rfl
def hypercuberef2_Join.T6 : Bool × List (List Nat × List Nat) := (true, [([], []), ([0], [0]), ([], []), ([2], [2]), ([], []), ([3, 4], [3, 4]), ([5], [5]), ([], []), ([7], [7]), ([], []), ([8, 9], [8, 9]), ([10], [10]), ([6, 11], [6, 11]), ([12], [12]), ([1, 13], [1, 13]), ([0, 1, 2, 3, 4, 5, 6, 7, 8, 9, 10, 11, 12, 13, 14], []), ([15, 14, 14, 0, 1, 2, 3, 4, 5, 6, 7, 8, 9, 10, 11, 12, 13, 14], [14, 15])])
def hypercuberef2_Join.B6 : List Nat := [0, 1, 0, 4, 0, 28, 60, 0, 128, 0, 896, 1920, 4092, 8188, 16383, 32767, 65535]
theorem hypercuberef2_Join.tab6 : rtab .any (opsOf Try.f41 6) = hypercuberef2_Join.T6 := by kernel_rfl
theorem hypercuberef2_Join.bits6 : waitsOk hypercuberef2_Join.T6.2 hypercuberef2_Join.B6 = true := by kernel_rfl
def hypercuberef2_Join.T7 : Bool × List (List Nat × List Nat) := (true, [([], []), ([0], [0]), ([], []), ([2], [2]), ([], []), ([3, 4], [3, 4]), ([5], [5]), ([], []), ([7], [7]), ([], []), ([8, 9], [8, 9]), ([10], [10]), ([6, 11], [6, 11]), ([12], [12]), ([1, 13], [1, 13]), ([0, 1, 2, 3, 4, 5, 6, 7, 8, 9, 10, 11, 12, 13, 14], []), ([15, 14, 14, 0, 1, 2, 3, 4, 5, 6, 7, 8, 9, 10, 11, 12, 13, 14], [14, 15])])
def hypercuberef2_Join.B7 : List Nat := [0, 1, 0, 4, 0, 28, 60, 0, 128, 0, 896, 1920, 4092, 8188, 16383, 32767, 65535]
theorem hypercuberef2_Join.tab7 : rtab .any (opsOf Try.f41 7) = hypercuberef2_Join.T7 := by kernel_rfl
theorem hypercuberef2_Join.bits7 : waitsOk hypercuberef2_Join.T7.2 hypercuberef2_Join.B7 = true := by kernel_rfl
set_option maxHeartbeats 8000000 in
set_option maxRecDepth 100000 in
theorem hypercuberef2_Join.calls (k : Nat) (A0_0 : Option Addr) (c0_0 : Nat) (l0_0 : List Int) (a0_1 : Int) (A0_2 : Option Addr) (c0_2 : Nat) (l0_2 : List Int) (A0_3 : Option Addr) (c0_3 : Nat) (l0_3 : List Int) (A0_4 : Option Addr) (c0_4 : Nat) (l0_4 : List Int) (A1_0 : Option Addr) (c1_0 : Nat) (l1_0 : List Int) (a1_1 : Int) (A1_2 : Option Addr) (c1_2 : Nat) (l1_2 : List Int) (A1_3 : Option Addr) (c1_3 : Nat) (l1_3 : List Int) (A1_4 : Option Addr) (c1_4 : Nat) (l1_4 : List Int) (r1 : List Int) (r2 : Int) (r3 : List Int) (r4 : List Int) (r5 : List Int) (w : World) (hr0_0 : Kd.C (Kd.int .i64) w A0_0 l0_0.length l0_0) (hc0_0 : l0_0.length ≤ c0_0) (hr0_2 : Kd.C (Kd.int .i64) w A0_2 l0_2.length l0_2) (hc0_2 : l0_2.length ≤ c0_2) (hr0_3 : Kd.C (Kd.int .i64) w A0_3 l0_3.length l0_3) (hc0_3 : l0_3.length ≤ c0_3) (hr0_4 : Kd.C (Kd.int .i64) w A0_4 l0_4.length l0_4) (hc0_4 : l0_4.length ≤ c0_4) (hr1_0 : Kd.C (Kd.int .i64) w A1_0 l1_0.length l1_0) (hc1_0 : l1_0.length ≤ c1_0) (hr1_2 : Kd.C (Kd.int .i64) w A1_2 l1_2.length l1_2) (hc1_2 : l1_2.length ≤ c1_2) (hr1_3 : Kd.C (Kd.int .i64) w A1_3 l1_3.length l1_3) (hc1_3 : l1_3.length ≤ c1_3) (hr1_4 : Kd.C (Kd.int .i64) w A1_4 l1_4.length l1_4) (hc1_4 : l1_4.length ≤ c1_4) (h : hypercuberef2_Join.f k l0_0 a0_1 l0_2 l0_3 l0_4 l1_0 a1_1 l1_2 l1_3 l1_4 = some (r1, r2, r3, r4, r5)) :
  Calls Try.prog 41 #[.agg #[.slice A0_0 l0_0.length c0_0, .int .i64 a0_1, .slice A0_2 l0_2.length c0_2, .slice A0_3 l0_3.length c0_3, .slice A0_4 l0_4.length c0_4], .agg #[.slice A1_0 l1_0.length c1_0, .int .i64 a1_1, .slice A1_2 l1_2.length c1_2, .slice A1_3 l1_3.length c1_3, .slice A1_4 l1_4.length c1_4]] w fun e w' => ∃ v0_ v2_ v3_ v4_ : Value, e = .returned (.agg #[v0_, .int .i64 r2, v2_, v3_, v4_]) ∧ Kd.R (Kd.int .i64) 3 w' w.heap.size (fun k_ => some k_ ≠ (v2_ : Value).ownBlock ∧ some k_ ≠ (v3_ : Value).ownBlock ∧ some k_ ≠ (v4_ : Value).ownBlock) v0_ r1 ∧ Kd.R (Kd.int .i64) 3 w' w.heap.size (fun k_ => some k_ ≠ (v0_ : Value).ownBlock ∧ some k_ ≠ (v3_ : Value).ownBlock ∧ some k_ ≠ (v4_ : Value).ownBlock) v2_ r3 ∧ Kd.R (Kd.int .i64) 3 w' w.heap.size (fun k_ => some k_ ≠ (v0_ : Value).ownBlock ∧ some k_ ≠ (v2_ : Value).ownBlock ∧ some k_ ≠ (v4_ : Value).ownBlock) v3_ r4 ∧ Kd.R (Kd.int .i64) 3 w' w.heap.size (fun k_ => some k_ ≠ (v0_ : Value).ownBlock ∧ some k_ ≠ (v2_ : Value).ownBlock ∧ some k_ ≠ (v3_ : Value).ownBlock) v4_ r5 ∧ Below w.heap.size w w' := by
 have hu41 := Try.underlying41
 have HR0_0 := am hr0_0
 have HC0_0 := am hc0_0
 clear hr0_0 hc0_0
 have HR0_2 := am hr0_2
 have HC0_2 := am hc0_2
 clear hr0_2 hc0_2
 have HR0_3 := am hr0_3
 have HC0_3 := am hc0_3
 clear hr0_3 hc0_3
 have HR0_4 := am hr0_4
 have HC0_4 := am hc0_4
 clear hr0_4 hc0_4
 have HR1_0 := am hr1_0
 have HC1_0 := am hc1_0
 clear hr1_0 hc1_0
 have HR1_2 := am hr1_2
 have HC1_2 := am hc1_2
 clear hr1_2 hc1_2
 have HR1_3 := am hr1_3
 have HC1_3 := am hc1_3
 clear hr1_3 hc1_3
 have HR1_4 := am hr1_4
 have HC1_4 := am hc1_4
 clear hr1_4 hc1_4
 have HB := am (Below.refl w.heap.size w)
 have H : ((some (([] : List Int) : List Int)).bind fun y302 => (if y302.length + l0_0.length < 17592186044416 then (hypercuberef2_Join.l0 k 0 l0_0 a0_1 l0_2 l0_3 l0_4 l1_0 a1_1 l1_2 l1_3 l1_4 (y302 ++ l0_0) (wrap64 (a0_1 + a1_1)) ([] : List Int) ([] : List Int) ([] : List Int)) else (none))) = some (r1, r2, r3, r4, r5) := h
 clear h
 obtain ⟨y302, hy302⟩ : ∃ y_ : List Int, y_ = (([] : List Int)) := ⟨_, rfl⟩
 replace H : (if y302.length + l0_0.length < 17592186044416 then (hypercuberef2_Join.l0 k 0 l0_0 a0_1 l0_2 l0_3 l0_4 l1_0 a1_1 l1_2 l1_3 l1_4 (y302 ++ l0_0) (wrap64 (a0_1 + a1_1)) ([] : List Int) ([] : List Int) ([] : List Int)) else (none)) = some (r1, r2, r3, r4, r5) := by first | (rw [hy302]; with_reducible exact H) | (have H2_ := (Option.bind_some _ _).symm.trans H; rw [hy302]; with_reducible exact H2_) | (have H2_ := (Option.bind_some _ _).symm.trans H; with_reducible exact H2_) | with_reducible exact H | (rw [hy302]; exact H) | exact H
 have Ny302 := am hy302
 clear hy302
 by_cases c3 : y302.length + l0_0.length < 17592186044416
 ·rw [if_pos c3] at H
  have LMc3 := am c3
  clear c3
  obtain ⟨y305, hy305⟩ : ∃ y_ : List Int, y_ = (y302 ++ l0_0) := ⟨_, rfl⟩
  replace H : (hypercuberef2_Join.l0 k 0 l0_0 a0_1 l0_2 l0_3 l0_4 l1_0 a1_1 l1_2 l1_3 l1_4 y305 (wrap64 (a0_1 + a1_1)) ([] : List Int) ([] : List Int) ([] : List Int)) = some (r1, r2, r3, r4, r5) := by rw [hy305]; with_reducible exact H
  have Ny305 := am hy305
  clear hy305
  have H' := am H
  clear H
  go_enter Try.func41, Try.ntmps41
  try go_wp2_with (first | ((with_reducible refine gate_dst (N := 2) rfl ?_); refine box_event ?hg (N := 2) ?hd (cs := #[.slice A0_0 l0_0.length c0_0, .int .i64 a0_1, .slice A0_2 l0_2.length c0_2, .slice A0_3 l0_3.length c0_3, .slice A0_4 l0_4.length c0_4]) (t := 41) ?hr ?_; (case hd => rfl); (case hg => rfl); (case hr => first | (go_simp; done) | (go_simp; rfl)); intro gb299 hg w4 hbox hb; have n0_ := am (below_step (wmv HB.out) hb); have n1_ := am (hbox); have n2_ := am ((by rw [hg]; exact (below_size (wmv HB.out)) : w.heap.size ≤ gb299)); have n3_ := am ((by rw [hg]; exact (below_size (wmv HB.out)) : w.heap.size ≤ gb299)); clear HB; revert n0_ n1_ n2_ n3_; intro HB BK299 GW299 GE299; clear hb hbox hg) | ((with_reducible refine gate_dst (N := 3) rfl ?_); refine box_event ?hg (N := 3) ?hd (cs := #[.slice A1_0 l1_0.length c1_0, .int .i64 a1_1, .slice A1_2 l1_2.length c1_2, .slice A1_3 l1_3.length c1_3, .slice A1_4 l1_4.length c1_4]) (t := 41) ?hr ?_; (case hd => rfl); (case hg => rfl); (case hr => first | (go_simp; done) | (go_simp; rfl)); intro gb300 hg w5 hbox hb; have n0_ := am (blk_below (bmv BK299.out) hb); have n1_ := am (below_step (wmv HB.out) hb); have n2_ := am (hbox); have n3_ := am ((by rw [hg]; exact (below_size (wmv HB.out)) : w.heap.size ≤ gb300)); have n4_ := am ((by rw [hg]; exact (below_size (wmv HB.out)) : w.heap.size ≤ gb300)); have n5_ := am ((by rw [hg]; exact Nat.ne_of_lt (blk_lt (bmv BK299.out)) : gb299 ≠ gb300)); have n6_ := am ((by rw [hg]; exact Nat.ne_of_gt (blk_lt (bmv BK299.out)) : gb300 ≠ gb299)); clear BK299 HB; revert n0_ n1_ n2_ n3_ n4_ n5_ n6_; intro BK299 HB BK300 GW300 GE300 NB299_300 NB300_299; clear hb hbox hg) | ((with_reducible refine gate_dst (N := 4) rfl ?_); refine box_event ?hg (N := 4) ?hd (cs := #[.slice none 0 0, .int .i64 0, .slice none 0 0, .slice none 0 0, .slice none 0 0]) (t := 41) ?hr ?_; (case hd => rfl); (case hg => rfl); (case hr => first | (go_simp; done) | (go_simp; rfl)); intro gb301 hg w6 hbox hb; have n0_ := am (blk_below (bmv BK299.out) hb); have n1_ := am (blk_below (bmv BK300.out) hb); have n2_ := am (below_step (wmv HB.out) hb); have n3_ := am (hbox); have n4_ := am ((by rw [hg]; exact (below_size (wmv HB.out)) : w.heap.size ≤ gb301)); have n5_ := am ((by rw [hg]; exact (below_size (wmv HB.out)) : w.heap.size ≤ gb301)); have n6_ := am ((by rw [hg]; exact Nat.ne_of_lt (blk_lt (bmv BK299.out)) : gb299 ≠ gb301)); have n7_ := am ((by rw [hg]; exact Nat.ne_of_gt (blk_lt (bmv BK299.out)) : gb301 ≠ gb299)); have n8_ := am ((by rw [hg]; exact Nat.ne_of_lt (blk_lt (bmv BK300.out)) : gb300 ≠ gb301)); have n9_ := am ((by rw [hg]; exact Nat.ne_of_gt (blk_lt (bmv BK300.out)) : gb301 ≠ gb300)); clear BK299 BK300 HB; revert n0_ n1_ n2_ n3_ n4_ n5_ n6_ n7_ n8_ n9_; intro BK299 BK300 HB BK301 GW301 GE301 NB299_301 NB301_299 NB300_301 NB301_300; clear hb hbox hg))
  have n0_ := am (blk_drew BK299.out)
  have n1_ := am (blk_drew BK300.out)
  have n2_ := am (blk_drew BK301.out)
  have n3_ := am (below_drew1 HB.out)
  clear BK299 BK300 BK301 HB
  revert n0_ n1_ n2_ n3_
  intro BK299 BK300 BK301 HB
  refine start_ (n := 12) (S := fun w' => w'.cell? ⟨gb299, 0, none⟩ = some (.slice A0_0 l0_0.length c0_0) ∧ w'.cell? ⟨gb299, 1, none⟩ = some (.int .i64 a0_1) ∧ w'.cell? ⟨gb299, 2, none⟩ = some (.slice A0_2 l0_2.length c0_2) ∧ w'.cell? ⟨gb299, 3, none⟩ = some (.slice A0_3 l0_3.length c0_3) ∧ w'.cell? ⟨gb299, 4, none⟩ = some (.slice A0_4 l0_4.length c0_4) ∧ w'.cell? ⟨gb300, 0, none⟩ = some (.slice A1_0 l1_0.length c1_0) ∧ w'.cell? ⟨gb300, 1, none⟩ = some (.int .i64 a1_1) ∧ w'.cell? ⟨gb300, 2, none⟩ = some (.slice A1_2 l1_2.length c1_2) ∧ w'.cell? ⟨gb300, 3, none⟩ = some (.slice A1_3 l1_3.length c1_3) ∧ w'.cell? ⟨gb300, 4, none⟩ = some (.slice A1_4 l1_4.length c1_4)) (ds := []) (bb 12 0) (by kernel_rfl) rfl rfl ⟨bc BK299 0, bc BK299 1, bc BK299 2, bc BK299 3, bc BK299 4, bc BK300 0, bc BK300 1, bc BK300 2, bc BK300 3, bc BK300 4⟩ (fun hHeld => ?_); refine with_tabW hypercuberef2_Join.tab1 hypercuberef2_Join.bits1 (fun HT_ HW_ => ?_)
  generalize w6.drew = w7 at BK299 BK300 BK301 HB hHeld ⊢
  refine pu (i := 1) (N := some 8) (bb 12 2) HT_ ?_
  refine pu (i := 4) (N := some 11) (bb 12 18) HT_ ?_
  refine pu (i := 6) (N := some 13) (bb 12 82) HT_ ?_
  refine tk (i := 2) (N := some 9) (bb 12 86) HT_ HW_ hHeld ?_
  refine tk (i := 5) (N := some 12) (bb 12 118) HT_ HW_ hHeld ?_
  refine tk (i := 7) (N := some 14) (bb 12 246) HT_ HW_ hHeld ?_
  refine pu (i := 8) (N := some 15) (bb 12 502) HT_ ?_
  refine join_ (σ := Value × Value × Nat) 1 (bb 12 2047) (fun s_ => [(7, s_.1), (10, s_.2.1), (5, .pointer (some ⟨s_.2.2, 0, none⟩)), (16, .agg #[s_.2.1, .int .i64 (wrap64 (a0_1 + a1_1)), .slice none 0 0, .slice none 0 0, .slice none 0 0])]) (fun s_ w' => (w'.cell? ⟨gb299, 0, none⟩ = some (.slice A0_0 l0_0.length c0_0) ∧ w'.cell? ⟨gb299, 1, none⟩ = some (.int .i64 a0_1) ∧ w'.cell? ⟨gb299, 2, none⟩ = some (.slice A0_2 l0_2.length c0_2) ∧ w'.cell? ⟨gb299, 3, none⟩ = some (.slice A0_3 l0_3.length c0_3) ∧ w'.cell? ⟨gb299, 4, none⟩ = some (.slice A0_4 l0_4.length c0_4) ∧ w'.cell? ⟨gb300, 0, none⟩ = some (.slice A1_0 l1_0.length c1_0) ∧ w'.cell? ⟨gb300, 1, none⟩ = some (.int .i64 a1_1) ∧ w'.cell? ⟨gb300, 2, none⟩ = some (.slice A1_2 l1_2.length c1_2) ∧ w'.cell? ⟨gb300, 3, none⟩ = some (.slice A1_3 l1_3.length c1_3) ∧ w'.cell? ⟨gb300, 4, none⟩ = some (.slice A1_4 l1_4.length c1_4)) ∧ (Kd.R (Kd.int .i64) 3 w' w.heap.size (fun _ => True) s_.2.1 y305) ∧ (w'.heap[gb299]? = some (.cells #[.slice A0_0 l0_0.length c0_0, .int .i64 a0_1, .slice A0_2 l0_2.length c0_2, .slice A0_3 l0_3.length c0_3, .slice A0_4 l0_4.length c0_4] 41 (0, 0))) ∧ (w'.heap[gb300]? = some (.cells #[.slice A1_0 l1_0.length c1_0, .int .i64 a1_1, .slice A1_2 l1_2.length c1_2, .slice A1_3 l1_3.length c1_3, .slice A1_4 l1_4.length c1_4] 41 (0, 0))) ∧ (w'.heap[gb301]? = some (.cells #[.slice none 0 0, .int .i64 0, .slice none 0 0, .slice none 0 0, .slice none 0 0] 41 (0, 0))) ∧ (w'.heap[s_.2.2]? = some (.cells #[.slice none 0 0, .int .i64 0, .slice none 0 0, .slice none 0 0, .slice none 0 0] 41 (0, 0))) ∧ (w.heap.size ≤ s_.2.2) ∧ (w.heap.size ≤ s_.2.2) ∧ (gb299 ≠ s_.2.2) ∧ (s_.2.2 ≠ gb299) ∧ (gb300 ≠ s_.2.2) ∧ (s_.2.2 ≠ gb300) ∧ (gb301 ≠ s_.2.2) ∧ (s_.2.2 ≠ gb301) ∧ (Below w.heap.size w w')) ?_ ?_
  rotate_left
  ·intro hCont
   refine two_ (i := 0) (j := 10) (Ni := some 7) (Nj := some 5) (bb 12 503) (bb 12 1526) rfl rfl rfl rfl (two_of HT_.out (by kernel_rfl)) (by decide) (by decide) (fun K hK => ?_) (fun K hK => ?_)
   ·skip
    refine Kd.R_lit_step (Kd.int .i64) _ 3 ?hg (N := 7) ?hd (xs := ([] : List Int)) (inner := []) (ok := fun _ => True) (okp := fun _ => True) ?hr ?hp (fun _ hk => hk) trivial (Below.refl _ _) (Nat.le_refl _) (by simp) ?_; (case hd => rfl); (case hg => rfl); (case hr => first | (go_simp; done) | (go_simp; rfl)); (case hp => exact (Reps.none _ _))
    intro v303 w8 ho9 hb hg_ hnew_
    clear hg_ hnew_
    (first | rw [← Ny302.out] at ho9 | (simp only [Int.reduceToNat] at ho9; rw [← Ny302.out] at ho9))
    have n0_ := am (Kd.R_lower ho9 (below_size (wmv HB.out)))
    have n1_ := am (blk_below (bmv BK299.out) hb)
    have n2_ := am (blk_below (bmv BK300.out) hb)
    have n3_ := am (blk_below (bmv BK301.out) hb)
    have n4_ := am (below_step (wmv HB.out) hb)
    clear BK299 BK300 BK301 HB
    revert n0_ n1_ n2_ n3_ n4_
    intro HO304 BK299 BK300 BK301 HB
    clear hb ho9
    refine hK.out _ _ ⟨bc BK299 0, bc BK299 1, bc BK299 2, bc BK299 3, bc BK299 4, bc BK300 0, bc BK300 1, bc BK300 2, bc BK300 3, bc BK300 4⟩ (fun hHeld => ?_)
    clear hK K
    refine nm ?_
    refine two_ (i := 3) (j := 10) (Ni := some 10) (Nj := some 5) (bb 12 511) (bb 12 1527) rfl rfl rfl rfl (two_of HT_.out (by kernel_rfl)) (by decide) (by decide) (fun K hK => ?_) (fun K hK => ?_)
    ·skip
     refine Kd.R_append_rows_step (Kd.int .i64) (w0 := w) w.heap.size (by rfl) (.tmp 7) (.tmp 9) 22 3 (.int .i64 0) 8 rfl Try.underlying22 info3 rfl (by decide) (by omega) v303 y302 l0_0 _ _ _ (fun _ => True) (fun _ => False) rfl rfl ?aO ?aR (fun _ _ h => h) (fun _ h => h.elim) ?aF ?aB ?aS ?aL ?_
     (case aR => exact Kd.Cw HR0_0.out HB.out)
     (case aB => exact (wmv HB.out))
     (case aF => exact (fun _ _ => trivial))
     (case aO => exact (Kd.R_mv HO304.out))
     (case aS => exact (below_size (wmv HB.out)))
     (case aL => have := LMc3.out; omega)
     intro v306 w10 ho hb hg hat
     rw [← Ny305.out] at ho
     have n0_ := am (blk_grown (bmv BK299.out) hg (Kd.R_ne HO304.out BK299.out (by decide)))
     have n1_ := am (blk_grown (bmv BK300.out) hg (Kd.R_ne HO304.out BK300.out (by decide)))
     have n2_ := am (blk_grown (bmv BK301.out) hg (Kd.R_ne HO304.out BK301.out (by decide)))
     have n3_ := am (hb)
     have n4_ := am (ho)
     clear BK299 BK300 BK301 HB HO304
     revert n0_ n1_ n2_ n3_ n4_
     intro BK299 BK300 BK301 HB HO307
     clear ho hb hg hat
     obtain ⟨Ao11, co11, eo11⟩ := Kd.R_slice HO307.out
     (first | subst eo11 | (injection eo11 with f1_ f2_ f3_; have f4_ := f1_.symm; have f5_ := f3_.symm; clear f1_ f2_ f3_; subst f4_; subst f5_))
     refine hK.out _ _ ⟨bc BK299 0, bc BK299 1, bc BK299 2, bc BK299 3, bc BK299 4, bc BK300 0, bc BK300 1, bc BK300 2, bc BK300 3, bc BK300 4⟩ (fun hHeld => ?_)
     clear hK K
     refine nm ?_
     refine pu (i := 9) (N := some 16) (bb 12 1023) HT_ ?_
     refine one_ (i := 10) (N := some 5) (bb 12 2047) rfl rfl (one_of HT_.out (by kernel_rfl)) (by decide) (fun K hK => ?_)
     refine box_step ?hg (N := 5) ?hd (cs := #[.slice none 0 0, .int .i64 0, .slice none 0 0, .slice none 0 0, .slice none 0 0]) (t := 41) ?hr ?_; (case hd => rfl); (case hg => rfl); (case hr => first | (go_simp; done) | (go_simp; rfl))
     intro gb308 hg w12 hbox hb
     have n0_ := am (Kd.R_below (Kd.R_mv HO307.out) hb)
     have n1_ := am (blk_below (bmv BK299.out) hb)
     have n2_ := am (blk_below (bmv BK300.out) hb)
     have n3_ := am (blk_below (bmv BK301.out) hb)
     have n4_ := am (below_step (wmv HB.out) hb)
     have n5_ := am (hbox)
     have n6_ := am ((by rw [hg]; exact (below_size (wmv HB.out)) : w.heap.size ≤ gb308))
     have n7_ := am ((by rw [hg]; exact (below_size (wmv HB.out)) : w.heap.size ≤ gb308))
     have n8_ := am ((by rw [hg]; exact Nat.ne_of_lt (blk_lt (bmv BK299.out)) : gb299 ≠ gb308))
     have n9_ := am ((by rw [hg]; exact Nat.ne_of_gt (blk_lt (bmv BK299.out)) : gb308 ≠ gb299))
     have n10_ := am ((by rw [hg]; exact Nat.ne_of_lt (blk_lt (bmv BK300.out)) : gb300 ≠ gb308))
     have n11_ := am ((by rw [hg]; exact Nat.ne_of_gt (blk_lt (bmv BK300.out)) : gb308 ≠ gb300))
     have n12_ := am ((by rw [hg]; exact Nat.ne_of_lt (blk_lt (bmv BK301.out)) : gb301 ≠ gb308))
     have n13_ := am ((by rw [hg]; exact Nat.ne_of_gt (blk_lt (bmv BK301.out)) : gb308 ≠ gb301))
     clear HO307 BK299 BK300 BK301 HB
     revert n0_ n1_ n2_ n3_ n4_ n5_ n6_ n7_ n8_ n9_ n10_ n11_ n12_ n13_
     intro HO307 BK299 BK300 BK301 HB BK308 GW308 GE308 NB299_308 NB308_299 NB300_308 NB308_300 NB301_308 NB308_301
     clear hb hbox hg
     refine hK.out _ _ ⟨bc BK299 0, bc BK299 1, bc BK299 2, bc BK299 3, bc BK299 4, bc BK300 0, bc BK300 1, bc BK300 2, bc BK300 3, bc BK300 4⟩ (fun hHeld => ?_)
     clear hK K
     refine nm ?_
     exact norm_ (by simp only [putAll, Act.put, List.setIfInBounds_toArray, List.set_cons_zero, List.set_cons_succ]) (hCont (v303, .slice Ao11 y305.length co11, gb308) _ ⟨hHeld, (Kd.R_mv HO307.out), (bmv BK299.out), (bmv BK300.out), (bmv BK301.out), (bmv BK308.out), GW308.out, GE308.out, NB299_308.out, NB308_299.out, NB300_308.out, NB308_300.out, NB301_308.out, NB308_301.out, (wmv HB.out)⟩)
    ·skip
     refine box_step ?hg (N := 5) ?hd (cs := #[.slice none 0 0, .int .i64 0, .slice none 0 0, .slice none 0 0, .slice none 0 0]) (t := 41) ?hr ?_; (case hd => rfl); (case hg => rfl); (case hr => first | (go_simp; done) | (go_simp; rfl))
     intro gb308 hg w10 hbox hb
     have n0_ := am (Kd.R_below (Kd.R_mv HO304.out) hb)
     have n1_ := am (blk_below (bmv BK299.out) hb)
     have n2_ := am (blk_below (bmv BK300.out) hb)
     have n3_ := am (blk_below (bmv BK301.out) hb)
     have n4_ := am (below_step (wmv HB.out) hb)
     have n5_ := am (hbox)
     have n6_ := am ((by rw [hg]; exact (below_size (wmv HB.out)) : w.heap.size ≤ gb308))
     have n7_ := am ((by rw [hg]; exact (below_size (wmv HB.out)) : w.heap.size ≤ gb308))
     have n8_ := am ((by rw [hg]; exact Nat.ne_of_lt (blk_lt (bmv BK299.out)) : gb299 ≠ gb308))
     have n9_ := am ((by rw [hg]; exact Nat.ne_of_gt (blk_lt (bmv BK299.out)) : gb308 ≠ gb299))
     have n10_ := am ((by rw [hg]; exact Nat.ne_of_lt (blk_lt (bmv BK300.out)) : gb300 ≠ gb308))
     have n11_ := am ((by rw [hg]; exact Nat.ne_of_gt (blk_lt (bmv BK300.out)) : gb308 ≠ gb300))
     have n12_ := am ((by rw [hg]; exact Nat.ne_of_lt (blk_lt (bmv BK301.out)) : gb301 ≠ gb308))
     have n13_ := am ((by rw [hg]; exact Nat.ne_of_gt (blk_lt (bmv BK301.out)) : gb308 ≠ gb301))
     clear HO304 BK299 BK300 BK301 HB
     revert n0_ n1_ n2_ n3_ n4_ n5_ n6_ n7_ n8_ n9_ n10_ n11_ n12_ n13_
     intro HO304 BK299 BK300 BK301 HB BK308 GW308 GE308 NB299_308 NB308_299 NB300_308 NB308_300 NB301_308 NB308_301
     clear hb hbox hg
     refine hK.out _ _ ⟨bc BK299 0, bc BK299 1, bc BK299 2, bc BK299 3, bc BK299 4, bc BK300 0, bc BK300 1, bc BK300 2, bc BK300 3, bc BK300 4⟩ (fun hHeld => ?_)
     clear hK K
     refine nm ?_
     refine one_ (i := 3) (N := some 10) (bb 12 1535) rfl rfl (one_of HT_.out (by kernel_rfl)) (by decide) (fun K hK => ?_)
     refine Kd.R_append_rows_step (Kd.int .i64) (w0 := w) w.heap.size (by rfl) (.tmp 7) (.tmp 9) 22 3 (.int .i64 0) 8 rfl Try.underlying22 info3 rfl (by decide) (by omega) v303 y302 l0_0 _ _ _ (fun _ => True) (fun _ => False) rfl rfl ?aO ?aR (fun _ _ h => h) (fun _ h => h.elim) ?aF ?aB ?aS ?aL ?_
     (case aR => exact Kd.Cw HR0_0.out HB.out)
     (case aB => exact (wmv HB.out))
     (case aF => exact (fun _ _ => trivial))
     (case aO => exact (Kd.R_mv HO304.out))
     (case aS => exact (below_size (wmv HB.out)))
     (case aL => have := LMc3.out; omega)
     intro v306 w11 ho hb hg hat
     rw [← Ny305.out] at ho
     have n0_ := am (blk_grown (bmv BK299.out) hg (Kd.R_ne HO304.out BK299.out (by decide)))
     have n1_ := am (blk_grown (bmv BK300.out) hg (Kd.R_ne HO304.out BK300.out (by decide)))
     have n2_ := am (blk_grown (bmv BK301.out) hg (Kd.R_ne HO304.out BK301.out (by decide)))
     have n3_ := am (blk_grown (bmv BK308.out) hg (Kd.R_ne HO304.out BK308.out (by decide)))
     have n4_ := am (hb)
     have n5_ := am (ho)
     clear BK299 BK300 BK301 BK308 HB HO304
     revert n0_ n1_ n2_ n3_ n4_ n5_
     intro BK299 BK300 BK301 BK308 HB HO307
     clear ho hb hg hat
     obtain ⟨Ao12, co12, eo12⟩ := Kd.R_slice HO307.out
     (first | subst eo12 | (injection eo12 with f1_ f2_ f3_; have f4_ := f1_.symm; have f5_ := f3_.symm; clear f1_ f2_ f3_; subst f4_; subst f5_))
     refine hK.out _ _ ⟨bc BK299 0, bc BK299 1, bc BK299 2, bc BK299 3, bc BK299 4, bc BK300 0, bc BK300 1, bc BK300 2, bc BK300 3, bc BK300 4⟩ (fun hHeld => ?_)
     clear hK K
     refine nm ?_
     refine pu (i := 9) (N := some 16) (bb 12 2047) HT_ ?_
     exact norm_ (by simp only [putAll, Act.put, List.setIfInBounds_toArray, List.set_cons_zero, List.set_cons_succ]) (hCont (v303, .slice Ao12 y305.length co12, gb308) _ ⟨hHeld, (Kd.R_mv HO307.out), (bmv BK299.out), (bmv BK300.out), (bmv BK301.out), (bmv BK308.out), GW308.out, GE308.out, NB299_308.out, NB308_299.out, NB300_308.out, NB308_300.out, NB301_308.out, NB308_301.out, (wmv HB.out)⟩)
   ·skip
    refine box_step ?hg (N := 5) ?hd (cs := #[.slice none 0 0, .int .i64 0, .slice none 0 0, .slice none 0 0, .slice none 0 0]) (t := 41) ?hr ?_; (case hd => rfl); (case hg => rfl); (case hr => first | (go_simp; done) | (go_simp; rfl))
    intro gb308 hg w8 hbox hb
    have n0_ := am (blk_below (bmv BK299.out) hb)
    have n1_ := am (blk_below (bmv BK300.out) hb)
    have n2_ := am (blk_below (bmv BK301.out) hb)
    have n3_ := am (below_step (wmv HB.out) hb)
    have n4_ := am (hbox)
    have n5_ := am ((by rw [hg]; exact (below_size (wmv HB.out)) : w.heap.size ≤ gb308))
    have n6_ := am ((by rw [hg]; exact (below_size (wmv HB.out)) : w.heap.size ≤ gb308))
    have n7_ := am ((by rw [hg]; exact Nat.ne_of_lt (blk_lt (bmv BK299.out)) : gb299 ≠ gb308))
    have n8_ := am ((by rw [hg]; exact Nat.ne_of_gt (blk_lt (bmv BK299.out)) : gb308 ≠ gb299))
    have n9_ := am ((by rw [hg]; exact Nat.ne_of_lt (blk_lt (bmv BK300.out)) : gb300 ≠ gb308))
    have n10_ := am ((by rw [hg]; exact Nat.ne_of_gt (blk_lt (bmv BK300.out)) : gb308 ≠ gb300))
    have n11_ := am ((by rw [hg]; exact Nat.ne_of_lt (blk_lt (bmv BK301.out)) : gb301 ≠ gb308))
    have n12_ := am ((by rw [hg]; exact Nat.ne_of_gt (blk_lt (bmv BK301.out)) : gb308 ≠ gb301))
    clear BK299 BK300 BK301 HB
    revert n0_ n1_ n2_ n3_ n4_ n5_ n6_ n7_ n8_ n9_ n10_ n11_ n12_
    intro BK299 BK300 BK301 HB BK308 GW308 GE308 NB299_308 NB308_299 NB300_308 NB308_300 NB301_308 NB308_301
    clear hb hbox hg
    refine hK.out _ _ ⟨bc BK299 0, bc BK299 1, bc BK299 2, bc BK299 3, bc BK299 4, bc BK300 0, bc BK300 1, bc BK300 2, bc BK300 3, bc BK300 4⟩ (fun hHeld => ?_)
    clear hK K
    refine nm ?_
    refine one_ (i := 0) (N := some 7) (bb 12 1527) rfl rfl (one_of HT_.out (by kernel_rfl)) (by decide) (fun K hK => ?_)
    refine Kd.R_lit_step (Kd.int .i64) _ 3 ?hg (N := 7) ?hd (xs := ([] : List Int)) (inner := []) (ok := fun _ => True) (okp := fun _ => True) ?hr ?hp (fun _ hk => hk) trivial (Below.refl _ _) (Nat.le_refl _) (by simp) ?_; (case hd => rfl); (case hg => rfl); (case hr => first | (go_simp; done) | (go_simp; rfl)); (case hp => exact (Reps.none _ _))
    intro v303 w9 ho10 hb hg_ hnew_
    clear hg_ hnew_
    (first | rw [← Ny302.out] at ho10 | (simp only [Int.reduceToNat] at ho10; rw [← Ny302.out] at ho10))
    have n0_ := am (Kd.R_lower ho10 (below_size (wmv HB.out)))
    have n1_ := am (blk_below (bmv BK299.out) hb)
    have n2_ := am (blk_below (bmv BK300.out) hb)
    have n3_ := am (blk_below (bmv BK301.out) hb)
    have n4_ := am (blk_below (bmv BK308.out) hb)
    have n5_ := am (below_step (wmv HB.out) hb)
    clear BK299 BK300 BK301 BK308 HB
    revert n0_ n1_ n2_ n3_ n4_ n5_
    intro HO304 BK299 BK300 BK301 BK308 HB
    clear hb ho10
    refine hK.out _ _ ⟨bc BK299 0, bc BK299 1, bc BK299 2, bc BK299 3, bc BK299 4, bc BK300 0, bc BK300 1, bc BK300 2, bc BK300 3, bc BK300 4⟩ (fun hHeld => ?_)
    clear hK K
    refine nm ?_
    refine one_ (i := 3) (N := some 10) (bb 12 1535) rfl rfl (one_of HT_.out (by kernel_rfl)) (by decide) (fun K hK => ?_)
    refine Kd.R_append_rows_step (Kd.int .i64) (w0 := w) w.heap.size (by rfl) (.tmp 7) (.tmp 9) 22 3 (.int .i64 0) 8 rfl Try.underlying22 info3 rfl (by decide) (by omega) v303 y302 l0_0 _ _ _ (fun _ => True) (fun _ => False) rfl rfl ?aO ?aR (fun _ _ h => h) (fun _ h => h.elim) ?aF ?aB ?aS ?aL ?_
    (case aR => exact Kd.Cw HR0_0.out HB.out)
    (case aB => exact (wmv HB.out))
    (case aF => exact (fun _ _ => trivial))
    (case aO => exact (Kd.R_mv HO304.out))
    (case aS => exact (below_size (wmv HB.out)))
    (case aL => have := LMc3.out; omega)
    intro v306 w11 ho hb hg hat
    rw [← Ny305.out] at ho
    have n0_ := am (blk_grown (bmv BK299.out) hg (Kd.R_ne HO304.out BK299.out (by decide)))
    have n1_ := am (blk_grown (bmv BK300.out) hg (Kd.R_ne HO304.out BK300.out (by decide)))
    have n2_ := am (blk_grown (bmv BK301.out) hg (Kd.R_ne HO304.out BK301.out (by decide)))
    have n3_ := am (blk_grown (bmv BK308.out) hg (Kd.R_ne HO304.out BK308.out (by decide)))
    have n4_ := am (hb)
    have n5_ := am (ho)
    clear BK299 BK300 BK301 BK308 HB HO304
    revert n0_ n1_ n2_ n3_ n4_ n5_
    intro BK299 BK300 BK301 BK308 HB HO307
    clear ho hb hg hat
    obtain ⟨Ao12, co12, eo12⟩ := Kd.R_slice HO307.out
    (first | subst eo12 | (injection eo12 with f1_ f2_ f3_; have f4_ := f1_.symm; have f5_ := f3_.symm; clear f1_ f2_ f3_; subst f4_; subst f5_))
    refine hK.out _ _ ⟨bc BK299 0, bc BK299 1, bc BK299 2, bc BK299 3, bc BK299 4, bc BK300 0, bc BK300 1, bc BK300 2, bc BK300 3, bc BK300 4⟩ (fun hHeld => ?_)
    clear hK K
    refine nm ?_
    refine pu (i := 9) (N := some 16) (bb 12 2047) HT_ ?_
    exact norm_ (by simp only [putAll, Act.put, List.setIfInBounds_toArray, List.set_cons_zero, List.set_cons_succ]) (hCont (v303, .slice Ao12 y305.length co12, gb308) _ ⟨hHeld, (Kd.R_mv HO307.out), (bmv BK299.out), (bmv BK300.out), (bmv BK301.out), (bmv BK308.out), GW308.out, GE308.out, NB299_308.out, NB308_299.out, NB300_308.out, NB308_300.out, NB301_308.out, NB308_301.out, (wmv HB.out)⟩)
  rintro ⟨v303, v306, gb308⟩ w13 ⟨hS_, h0_, h1_, h2_, h3_, h4_, h5_, h6_, h7_, h8_, h9_, h10_, h11_, h12_, h13_⟩
  have n0_ : Aside0 (Kd.R (Kd.int .i64) 3 w13 w.heap.size (fun _ => True) v306 y305) := ⟨h0_⟩
  have n1_ : Aside0 (w13.heap[gb299]? = some (.cells #[.slice A0_0 l0_0.length c0_0, .int .i64 a0_1, .slice A0_2 l0_2.length c0_2, .slice A0_3 l0_3.length c0_3, .slice A0_4 l0_4.length c0_4] 41 (0, 0))) := ⟨h1_⟩
  have n2_ : Aside0 (w13.heap[gb300]? = some (.cells #[.slice A1_0 l1_0.length c1_0, .int .i64 a1_1, .slice A1_2 l1_2.length c1_2, .slice A1_3 l1_3.length c1_3, .slice A1_4 l1_4.length c1_4] 41 (0, 0))) := ⟨h2_⟩
  have n3_ : Aside0 (w13.heap[gb301]? = some (.cells #[.slice none 0 0, .int .i64 0, .slice none 0 0, .slice none 0 0, .slice none 0 0] 41 (0, 0))) := ⟨h3_⟩
  have n4_ : Aside0 (w13.heap[gb308]? = some (.cells #[.slice none 0 0, .int .i64 0, .slice none 0 0, .slice none 0 0, .slice none 0 0] 41 (0, 0))) := ⟨h4_⟩
  have n5_ : Aside0 (w.heap.size ≤ gb308) := ⟨h5_⟩
  have n6_ : Aside0 (w.heap.size ≤ gb308) := ⟨h6_⟩
  have n7_ : Aside0 (gb299 ≠ gb308) := ⟨h7_⟩
  have n8_ : Aside0 (gb308 ≠ gb299) := ⟨h8_⟩
  have n9_ : Aside0 (gb300 ≠ gb308) := ⟨h9_⟩
  have n10_ : Aside0 (gb308 ≠ gb300) := ⟨h10_⟩
  have n11_ : Aside0 (gb301 ≠ gb308) := ⟨h11_⟩
  have n12_ : Aside0 (gb308 ≠ gb301) := ⟨h12_⟩
  have n13_ : Aside0 (Below w.heap.size w w13) := ⟨h13_⟩
  clear BK299
  clear BK300
  clear BK301
  clear HB
  clear h0_ h1_ h2_ h3_ h4_ h5_ h6_ h7_ h8_ h9_ h10_ h11_ h12_ h13_
  revert n0_ n1_ n2_ n3_ n4_ n5_ n6_ n7_ n8_ n9_ n10_ n11_ n12_ n13_
  intro HO307 BK299 BK300 BK301 BK308 GW308 GE308 NB299_308 NB308_299 NB300_308 NB308_300 NB301_308 NB308_301 HB
  have hHeld : w13.cell? ⟨gb299, 0, none⟩ = some (.slice A0_0 l0_0.length c0_0) ∧ w13.cell? ⟨gb299, 1, none⟩ = some (.int .i64 a0_1) ∧ w13.cell? ⟨gb299, 2, none⟩ = some (.slice A0_2 l0_2.length c0_2) ∧ w13.cell? ⟨gb299, 3, none⟩ = some (.slice A0_3 l0_3.length c0_3) ∧ w13.cell? ⟨gb299, 4, none⟩ = some (.slice A0_4 l0_4.length c0_4) ∧ w13.cell? ⟨gb300, 0, none⟩ = some (.slice A1_0 l1_0.length c1_0) ∧ w13.cell? ⟨gb300, 1, none⟩ = some (.int .i64 a1_1) ∧ w13.cell? ⟨gb300, 2, none⟩ = some (.slice A1_2 l1_2.length c1_2) ∧ w13.cell? ⟨gb300, 3, none⟩ = some (.slice A1_3 l1_3.length c1_3) ∧ w13.cell? ⟨gb300, 4, none⟩ = some (.slice A1_4 l1_4.length c1_4) := hS_
  obtain ⟨Ao14, co14, eo14⟩ := Kd.R_slice HO307.out
  (first | subst eo14 | (injection eo14 with f1_ f2_ f3_; have f4_ := f1_.symm; have f5_ := f3_.symm; clear f1_ f2_ f3_; subst f4_; subst f5_))
  refine norm_ (a' := ?_) ?_ ?_
  rotate_left
  ·simp only [putAll, Act.put, List.setIfInBounds_toArray, List.set_cons_zero, List.set_cons_succ]
   rfl
  refine one_ (i := 11) (N := none) (bb 12 4095) rfl rfl (one_of HT_.out (by kernel_rfl)) (by decide) (fun K hK => ?_)
  have hs15 : w13.cell? ⟨gb308, 0, none⟩ = some (.slice none 0 0) := (blk_cell BK308.out 0).trans rfl
  have hfs15 := blk_frozen BK308.out 0
  have hns15_0 := NB299_308.out
  have hns15_1 := NB300_308.out
  have hns15_2 := NB301_308.out
  have hms15_0 := NB308_299.out
  have hms15_1 := NB308_300.out
  have hms15_2 := NB308_301.out
  have hs16 : w13.cell? ⟨gb308, 1, none⟩ = some (.int .i64 0) := (blk_cell BK308.out 1).trans rfl
  have hfs16 := blk_frozen BK308.out 1
  have hns16_0 := NB299_308.out
  have hns16_1 := NB300_308.out
  have hns16_2 := NB301_308.out
  have hms16_0 := NB308_299.out
  have hms16_1 := NB308_300.out
  have hms16_2 := NB308_301.out
  have hs17 : w13.cell? ⟨gb308, 2, none⟩ = some (.slice none 0 0) := (blk_cell BK308.out 2).trans rfl
  have hfs17 := blk_frozen BK308.out 2
  have hns17_0 := NB299_308.out
  have hns17_1 := NB300_308.out
  have hns17_2 := NB301_308.out
  have hms17_0 := NB308_299.out
  have hms17_1 := NB308_300.out
  have hms17_2 := NB308_301.out
  have hs18 : w13.cell? ⟨gb308, 3, none⟩ = some (.slice none 0 0) := (blk_cell BK308.out 3).trans rfl
  have hfs18 := blk_frozen BK308.out 3
  have hns18_0 := NB299_308.out
  have hns18_1 := NB300_308.out
  have hns18_2 := NB301_308.out
  have hms18_0 := NB308_299.out
  have hms18_1 := NB308_300.out
  have hms18_2 := NB308_301.out
  have hs19 : w13.cell? ⟨gb308, 4, none⟩ = some (.slice none 0 0) := (blk_cell BK308.out 4).trans rfl
  have hfs19 := blk_frozen BK308.out 4
  have hns19_0 := NB299_308.out
  have hns19_1 := NB300_308.out
  have hns19_2 := NB301_308.out
  have hms19_0 := NB308_299.out
  have hms19_1 := NB308_300.out
  have hms19_2 := NB308_301.out
  refine skip_ (w1 := ?_) (by rfl) rfl ?_ ?_
  rotate_left
  ·go_simp
   rfl
  refine hK.out _ _ ⟨((cell_far (p := ⟨gb308, _, none⟩) NB299_308.out _).trans (((cell_far (p := ⟨gb308, _, none⟩) NB299_308.out _).trans (((cell_far (p := ⟨gb308, _, none⟩) NB299_308.out _).trans (((cell_far (p := ⟨gb308, _, none⟩) NB299_308.out _).trans (((cell_far (p := ⟨gb308, _, none⟩) NB299_308.out _).trans (hHeld.1)))))))))), ((cell_far (p := ⟨gb308, _, none⟩) NB299_308.out _).trans (((cell_far (p := ⟨gb308, _, none⟩) NB299_308.out _).trans (((cell_far (p := ⟨gb308, _, none⟩) NB299_308.out _).trans (((cell_far (p := ⟨gb308, _, none⟩) NB299_308.out _).trans (((cell_far (p := ⟨gb308, _, none⟩) NB299_308.out _).trans (hHeld.2.1)))))))))), ((cell_far (p := ⟨gb308, _, none⟩) NB299_308.out _).trans (((cell_far (p := ⟨gb308, _, none⟩) NB299_308.out _).trans (((cell_far (p := ⟨gb308, _, none⟩) NB299_308.out _).trans (((cell_far (p := ⟨gb308, _, none⟩) NB299_308.out _).trans (((cell_far (p := ⟨gb308, _, none⟩) NB299_308.out _).trans (hHeld.2.2.1)))))))))), ((cell_far (p := ⟨gb308, _, none⟩) NB299_308.out _).trans (((cell_far (p := ⟨gb308, _, none⟩) NB299_308.out _).trans (((cell_far (p := ⟨gb308, _, none⟩) NB299_308.out _).trans (((cell_far (p := ⟨gb308, _, none⟩) NB299_308.out _).trans (((cell_far (p := ⟨gb308, _, none⟩) NB299_308.out _).trans (hHeld.2.2.2.1)))))))))), ((cell_far (p := ⟨gb308, _, none⟩) NB299_308.out _).trans (((cell_far (p := ⟨gb308, _, none⟩) NB299_308.out _).trans (((cell_far (p := ⟨gb308, _, none⟩) NB299_308.out _).trans (((cell_far (p := ⟨gb308, _, none⟩) NB299_308.out _).trans (((cell_far (p := ⟨gb308, _, none⟩) NB299_308.out _).trans (hHeld.2.2.2.2.1)))))))))), ((cell_far (p := ⟨gb308, _, none⟩) NB300_308.out _).trans (((cell_far (p := ⟨gb308, _, none⟩) NB300_308.out _).trans (((cell_far (p := ⟨gb308, _, none⟩) NB300_308.out _).trans (((cell_far (p := ⟨gb308, _, none⟩) NB300_308.out _).trans (((cell_far (p := ⟨gb308, _, none⟩) NB300_308.out _).trans (hHeld.2.2.2.2.2.1)))))))))), ((cell_far (p := ⟨gb308, _, none⟩) NB300_308.out _).trans (((cell_far (p := ⟨gb308, _, none⟩) NB300_308.out _).trans (((cell_far (p := ⟨gb308, _, none⟩) NB300_308.out _).trans (((cell_far (p := ⟨gb308, _, none⟩) NB300_308.out _).trans (((cell_far (p := ⟨gb308, _, none⟩) NB300_308.out _).trans (hHeld.2.2.2.2.2.2.1)))))))))), ((cell_far (p := ⟨gb308, _, none⟩) NB300_308.out _).trans (((cell_far (p := ⟨gb308, _, none⟩) NB300_308.out _).trans (((cell_far (p := ⟨gb308, _, none⟩) NB300_308.out _).trans (((cell_far (p := ⟨gb308, _, none⟩) NB300_308.out _).trans (((cell_far (p := ⟨gb308, _, none⟩) NB300_308.out _).trans (hHeld.2.2.2.2.2.2.2.1)))))))))), ((cell_far (p := ⟨gb308, _, none⟩) NB300_308.out _).trans (((cell_far (p := ⟨gb308, _, none⟩) NB300_308.out _).trans (((cell_far (p := ⟨gb308, _, none⟩) NB300_308.out _).trans (((cell_far (p := ⟨gb308, _, none⟩) NB300_308.out _).trans (((cell_far (p := ⟨gb308, _, none⟩) NB300_308.out _).trans (hHeld.2.2.2.2.2.2.2.2.1)))))))))), ((cell_far (p := ⟨gb308, _, none⟩) NB300_308.out _).trans (((cell_far (p := ⟨gb308, _, none⟩) NB300_308.out _).trans (((cell_far (p := ⟨gb308, _, none⟩) NB300_308.out _).trans (((cell_far (p := ⟨gb308, _, none⟩) NB300_308.out _).trans (((cell_far (p := ⟨gb308, _, none⟩) NB300_308.out _).trans (hHeld.2.2.2.2.2.2.2.2.2))))))))))⟩ (fun hHeld => ?_)
  clear hK K
  refine done_ (done_of HT_.out (by kernel_rfl)) ?_
  try go_wp2
  go_loopg [6] k (fun kq v6 w' => ∃ (x6_1 : Int) (x309002_1 : List Int) (x309003_1 : List Int) (x309004_1 : List Int) (u309002 : Value) (u309003 : Value) (u309004 : Value), v6 = .int .i64 x6_1 ∧ Aside0 (hypercuberef2_Join.l0 kq x6_1 l0_0 a0_1 l0_2 l0_3 l0_4 l1_0 a1_1 l1_2 l1_3 l1_4 y305 (wrap64 (a0_1 + a1_1)) x309002_1 x309003_1 x309004_1 = some (r1, r2, r3, r4, r5)) ∧ Aside0 (kq ≤ k) ∧ Aside0 (Kd.R (Kd.int .i64) 3 w' w.heap.size (fun k_ => some k_ ≠ (u309002 : Value).ownBlock ∧ some k_ ≠ (u309003 : Value).ownBlock ∧ some k_ ≠ (u309004 : Value).ownBlock) (.slice Ao14 y305.length co14) y305) ∧ Aside0 (Kd.R (Kd.int .i64) 3 w' w.heap.size (fun k_ => some k_ ≠ ((.slice Ao14 y305.length co14) : Value).ownBlock ∧ some k_ ≠ (u309003 : Value).ownBlock ∧ some k_ ≠ (u309004 : Value).ownBlock) u309002 x309002_1) ∧ Aside0 (Kd.R (Kd.int .i64) 3 w' w.heap.size (fun k_ => some k_ ≠ ((.slice Ao14 y305.length co14) : Value).ownBlock ∧ some k_ ≠ (u309002 : Value).ownBlock ∧ some k_ ≠ (u309004 : Value).ownBlock) u309003 x309003_1) ∧ Aside0 (Kd.R (Kd.int .i64) 3 w' w.heap.size (fun k_ => some k_ ≠ ((.slice Ao14 y305.length co14) : Value).ownBlock ∧ some k_ ≠ (u309002 : Value).ownBlock ∧ some k_ ≠ (u309003 : Value).ownBlock) u309004 x309004_1) ∧ Aside0 (w'.heap[gb299]? = some (.cells #[(.slice A0_0 l0_0.length c0_0), .int .i64 a0_1, (.slice A0_2 l0_2.length c0_2), (.slice A0_3 l0_3.length c0_3), (.slice A0_4 l0_4.length c0_4)] 41 (0, 0))) ∧ Aside0 (w'.heap[gb300]? = some (.cells #[(.slice A1_0 l1_0.length c1_0), .int .i64 a1_1, (.slice A1_2 l1_2.length c1_2), (.slice A1_3 l1_3.length c1_3), (.slice A1_4 l1_4.length c1_4)] 41 (0, 0))) ∧ Aside0 (w'.heap[gb301]? = some (.cells #[(.slice none 0 0), .int .i64 0, (.slice none 0 0), (.slice none 0 0), (.slice none 0 0)] 41 (0, 0))) ∧ Aside0 (w'.heap[gb308]? = some (.cells #[(.slice Ao14 y305.length co14), .int .i64 (wrap64 (a0_1 + a1_1)), u309002, u309003, u309004] 41 (0, 0))) ∧ Aside0 (Below w.heap.size w w'))
  case atStart => exact ⟨(0), (([] : List Int)), (([] : List Int)), (([] : List Int)), (.slice none 0 0), (.slice none 0 0), (.slice none 0 0), (by first | rfl | (simp; done) | (simp [*]; done)), H', ⟨Nat.le_refl _⟩, ⟨by (with_reducible repeat (first | apply Kd.R_alloc | apply Kd.R_drewN | apply Kd.R_drew)); exact Kd.R_mono (Kd.R_far (p := ⟨gb308, 4, none⟩) (Kd.R_far (p := ⟨gb308, 3, none⟩) (Kd.R_far (p := ⟨gb308, 2, none⟩) (Kd.R_far (p := ⟨gb308, 1, none⟩) (Kd.R_far (p := ⟨gb308, 0, none⟩) (Kd.R_types HO307.out BK308.out (by decide)) (fun _ hk => hk.2) (.slice Ao14 y305.length co14)) (fun _ hk => hk.2) (.int .i64 (wrap64 (a0_1 + a1_1)))) (fun _ hk => hk.2) (.slice none 0 0)) (fun _ hk => hk.2) (.slice none 0 0)) (fun _ hk => hk.2) (.slice none 0 0)) (fun _ hk => ⟨(by simp [Value.ownBlock]), ⟨(by simp [Value.ownBlock]), (by simp [Value.ownBlock])⟩⟩)⟩, ⟨by first | exact Kd.R_nil _ _ _ _ _ | exact Kd.N_nil _ _ _ _ _ | exact Kd.V_nil _ _ _ _ _ | exact Kd.Q_nil _ _ _ _ _ | exact Kd.S_nil _ _ _ _ _⟩, ⟨by first | exact Kd.R_nil _ _ _ _ _ | exact Kd.N_nil _ _ _ _ _ | exact Kd.V_nil _ _ _ _ _ | exact Kd.Q_nil _ _ _ _ _ | exact Kd.S_nil _ _ _ _ _⟩, ⟨by first | exact Kd.R_nil _ _ _ _ _ | exact Kd.N_nil _ _ _ _ _ | exact Kd.V_nil _ _ _ _ _ | exact Kd.Q_nil _ _ _ _ _ | exact Kd.S_nil _ _ _ _ _⟩, ⟨by (with_reducible repeat (first | refine blk_drewN ?_ _ | refine blk_drew ?_ | refine blk_alloc ?_ _)); refine blk_far ?_ NB299_308.out _; (with_reducible repeat (first | refine blk_drewN ?_ _ | refine blk_drew ?_ | refine blk_alloc ?_ _)); refine blk_far ?_ NB299_308.out _; (with_reducible repeat (first | refine blk_drewN ?_ _ | refine blk_drew ?_ | refine blk_alloc ?_ _)); refine blk_far ?_ NB299_308.out _; (with_reducible repeat (first | refine blk_drewN ?_ _ | refine blk_drew ?_ | refine blk_alloc ?_ _)); refine blk_far ?_ NB299_308.out _; (with_reducible repeat (first | refine blk_drewN ?_ _ | refine blk_drew ?_ | refine blk_alloc ?_ _)); refine blk_far ?_ NB299_308.out _; (with_reducible repeat (first | refine blk_drewN ?_ _ | refine blk_drew ?_ | refine blk_alloc ?_ _)); exact BK299.out⟩, ⟨by (with_reducible repeat (first | refine blk_drewN ?_ _ | refine blk_drew ?_ | refine blk_alloc ?_ _)); refine blk_far ?_ NB300_308.out _; (with_reducible repeat (first | refine blk_drewN ?_ _ | refine blk_drew ?_ | refine blk_alloc ?_ _)); refine blk_far ?_ NB300_308.out _; (with_reducible repeat (first | refine blk_drewN ?_ _ | refine blk_drew ?_ | refine blk_alloc ?_ _)); refine blk_far ?_ NB300_308.out _; (with_reducible repeat (first | refine blk_drewN ?_ _ | refine blk_drew ?_ | refine blk_alloc ?_ _)); refine blk_far ?_ NB300_308.out _; (with_reducible repeat (first | refine blk_drewN ?_ _ | refine blk_drew ?_ | refine blk_alloc ?_ _)); refine blk_far ?_ NB300_308.out _; (with_reducible repeat (first | refine blk_drewN ?_ _ | refine blk_drew ?_ | refine blk_alloc ?_ _)); exact BK300.out⟩, ⟨by (with_reducible repeat (first | refine blk_drewN ?_ _ | refine blk_drew ?_ | refine blk_alloc ?_ _)); refine blk_far ?_ NB301_308.out _; (with_reducible repeat (first | refine blk_drewN ?_ _ | refine blk_drew ?_ | refine blk_alloc ?_ _)); refine blk_far ?_ NB301_308.out _; (with_reducible repeat (first | refine blk_drewN ?_ _ | refine blk_drew ?_ | refine blk_alloc ?_ _)); refine blk_far ?_ NB301_308.out _; (with_reducible repeat (first | refine blk_drewN ?_ _ | refine blk_drew ?_ | refine blk_alloc ?_ _)); refine blk_far ?_ NB301_308.out _; (with_reducible repeat (first | refine blk_drewN ?_ _ | refine blk_drew ?_ | refine blk_alloc ?_ _)); refine blk_far ?_ NB301_308.out _; (with_reducible repeat (first | refine blk_drewN ?_ _ | refine blk_drew ?_ | refine blk_alloc ?_ _)); exact BK301.out⟩, ⟨by (with_reducible repeat (first | refine blk_drewN ?_ _ | refine blk_drew ?_ | refine blk_alloc ?_ _)); refine blk_put (cs := #[.slice Ao14 y305.length co14, .int .i64 (wrap64 (a0_1 + a1_1)), .slice none 0 0, .slice none 0 0, .slice none 0 0]) ?_ 4 _ rfl; (with_reducible repeat (first | refine blk_drewN ?_ _ | refine blk_drew ?_ | refine blk_alloc ?_ _)); refine blk_put (cs := #[.slice Ao14 y305.length co14, .int .i64 (wrap64 (a0_1 + a1_1)), .slice none 0 0, .slice none 0 0, .slice none 0 0]) ?_ 3 _ rfl; (with_reducible repeat (first | refine blk_drewN ?_ _ | refine blk_drew ?_ | refine blk_alloc ?_ _)); refine blk_put (cs := #[.slice Ao14 y305.length co14, .int .i64 (wrap64 (a0_1 + a1_1)), .slice none 0 0, .slice none 0 0, .slice none 0 0]) ?_ 2 _ rfl; (with_reducible repeat (first | refine blk_drewN ?_ _ | refine blk_drew ?_ | refine blk_alloc ?_ _)); refine blk_put (cs := #[.slice Ao14 y305.length co14, .int .i64 0, .slice none 0 0, .slice none 0 0, .slice none 0 0]) ?_ 1 _ rfl; (with_reducible repeat (first | refine blk_drewN ?_ _ | refine blk_drew ?_ | refine blk_alloc ?_ _)); refine blk_put (cs := #[.slice none 0 0, .int .i64 0, .slice none 0 0, .slice none 0 0, .slice none 0 0]) ?_ 0 _ rfl; (with_reducible repeat (first | refine blk_drewN ?_ _ | refine blk_drew ?_ | refine blk_alloc ?_ _)); exact BK308.out⟩, ⟨by repeat (first | (with_reducible first | exact HB.out | apply below_alloc | apply pw_below_drewN | apply below_drew1 | refine below_set ?_ GE299.out | refine below_set ?_ GE300.out | refine below_set ?_ GE301.out | refine below_set ?_ GE308.out) | exact HB.out)⟩⟩
  case round =>
   clear H'
   try clear c1
   try clear p2
   try clear c3
   try clear c4
   try clear p6
   obtain ⟨x6_1, x309002_1, x309003_1, x309004_1, u309002, u309003, u309004, rfl, HA, HK1, HO_309000, HO_309002, HO_309003, HO_309004, BK299, BK300, BK301, BK308, HB⟩ := hrel
   cases gk with
   | zero => exact absurd HA.out (by simp [hypercuberef2_Join.l0])
   | succ k1 =>
    have H := HA.out
    clear HA
    simp only [hypercuberef2_Join.l0] at H
    by_cases c20 : x6_1 < (l0_2.length : Int)
    ·rw [if_pos c20] at H
     have c20b0 : decide (x6_1 < (l0_2.length : Int)) = true := decide_eq_true c20
     clear c20
     by_cases c21 : 0 ≤ x6_1
     ·rw [if_pos c21] at H
      have c21b0 : decide (0 ≤ x6_1) = true := decide_eq_true c21
      clear c21
      by_cases c22 : x6_1 < (l1_2.length : Int)
      ·rw [if_pos c22] at H
       have c22b0 : decide (x6_1 < (l1_2.length : Int)) = true := decide_eq_true c22
       clear c22
       by_cases c23 : x309002_1.length < 17592186044416
       ·rw [if_pos c23] at H
        have LMc23 := am c23
        clear c23
        obtain ⟨y311, hy311⟩ : ∃ y_ : List Int, y_ = (x309002_1 ++ [wrap64 ((rd l0_2 x6_1) + (rd l1_2 x6_1))]) := ⟨_, rfl⟩
        replace H : (if x6_1 < (l0_3.length : Int) then (if x6_1 < (l1_3.length : Int) then (if x309003_1.length < 17592186044416 then (if x6_1 < (l0_4.length : Int) then (if x6_1 < (l1_4.length : Int) then (if x309004_1.length < 17592186044416 then (hypercuberef2_Join.l0 k1 (wrap64 (x6_1 + 1)) l0_0 a0_1 l0_2 l0_3 l0_4 l1_0 a1_1 l1_2 l1_3 l1_4 y305 (wrap64 (a0_1 + a1_1)) y311 (x309003_1 ++ [mn (rd l0_3 x6_1) (rd l1_3 x6_1)]) (x309004_1 ++ [mx (rd l0_4 x6_1) (rd l1_4 x6_1)])) else (none)) else (none)) else (none)) else (none)) else (none)) else (none)) = some (r1, r2, r3, r4, r5) := by rw [hy311]; with_reducible exact H
        have Ny311 := am hy311
        clear hy311
        by_cases c24 : x6_1 < (l0_3.length : Int)
        ·rw [if_pos c24] at H
         have c24b0 : decide (x6_1 < (l0_3.length : Int)) = true := decide_eq_true c24
         clear c24
         by_cases c25 : x6_1 < (l1_3.length : Int)
         ·rw [if_pos c25] at H
          have c25b0 : decide (x6_1 < (l1_3.length : Int)) = true := decide_eq_true c25
          clear c25
          obtain ⟨ji26, hji26⟩ : ∃ j_ : Int, (mn (rd l0_3 x6_1) (rd l1_3 x6_1)) = j_ := ⟨_, rfl⟩
          replace H : (if x309003_1.length < 17592186044416 then (if x6_1 < (l0_4.length : Int) then (if x6_1 < (l1_4.length : Int) then (if x309004_1.length < 17592186044416 then (hypercuberef2_Join.l0 k1 (wrap64 (x6_1 + 1)) l0_0 a0_1 l0_2 l0_3 l0_4 l1_0 a1_1 l1_2 l1_3 l1_4 y305 (wrap64 (a0_1 + a1_1)) y311 (x309003_1 ++ [ji26]) (x309004_1 ++ [mx (rd l0_4 x6_1) (rd l1_4 x6_1)])) else (none)) else (none)) else (none)) else (none)) = some (r1, r2, r3, r4, r5) := by first | (rw [hji26] at H; exact H) | (simp only [hji26] at H ⊢; exact H)
          have hji26_ : (if (rd l1_3 x6_1) < (rd l0_3 x6_1) then (rd l1_3 x6_1) else (rd l0_3 x6_1)) = ji26 := hji26
          by_cases c27 : x309003_1.length < 17592186044416
          ·rw [if_pos c27] at H
           have LMc27 := am c27
           clear c27
           obtain ⟨y316, hy316⟩ : ∃ y_ : List Int, y_ = (x309003_1 ++ [ji26]) := ⟨_, rfl⟩
           replace H : (if x6_1 < (l0_4.length : Int) then (if x6_1 < (l1_4.length : Int) then (if x309004_1.length < 17592186044416 then (hypercuberef2_Join.l0 k1 (wrap64 (x6_1 + 1)) l0_0 a0_1 l0_2 l0_3 l0_4 l1_0 a1_1 l1_2 l1_3 l1_4 y305 (wrap64 (a0_1 + a1_1)) y311 y316 (x309004_1 ++ [mx (rd l0_4 x6_1) (rd l1_4 x6_1)])) else (none)) else (none)) else (none)) = some (r1, r2, r3, r4, r5) := by rw [hy316]; with_reducible exact H
           have Ny316 := am hy316
           clear hy316
           by_cases c28 : x6_1 < (l0_4.length : Int)
           ·rw [if_pos c28] at H
            have c28b0 : decide (x6_1 < (l0_4.length : Int)) = true := decide_eq_true c28
            clear c28
            by_cases c29 : x6_1 < (l1_4.length : Int)
            ·rw [if_pos c29] at H
             have c29b0 : decide (x6_1 < (l1_4.length : Int)) = true := decide_eq_true c29
             clear c29
             obtain ⟨ji30, hji30⟩ : ∃ j_ : Int, (mx (rd l0_4 x6_1) (rd l1_4 x6_1)) = j_ := ⟨_, rfl⟩
             replace H : (if x309004_1.length < 17592186044416 then (hypercuberef2_Join.l0 k1 (wrap64 (x6_1 + 1)) l0_0 a0_1 l0_2 l0_3 l0_4 l1_0 a1_1 l1_2 l1_3 l1_4 y305 (wrap64 (a0_1 + a1_1)) y311 y316 (x309004_1 ++ [ji30])) else (none)) = some (r1, r2, r3, r4, r5) := by first | (rw [hji30] at H; exact H) | (simp only [hji30] at H ⊢; exact H)
             have hji30_ : (if (rd l0_4 x6_1) < (rd l1_4 x6_1) then (rd l1_4 x6_1) else (rd l0_4 x6_1)) = ji30 := hji30
             by_cases c31 : x309004_1.length < 17592186044416
             ·rw [if_pos c31] at H
              have LMc31 := am c31
              clear c31
              obtain ⟨y321, hy321⟩ : ∃ y_ : List Int, y_ = (x309004_1 ++ [ji30]) := ⟨_, rfl⟩
              replace H : (hypercuberef2_Join.l0 k1 (wrap64 (x6_1 + 1)) l0_0 a0_1 l0_2 l0_3 l0_4 l1_0 a1_1 l1_2 l1_3 l1_4 y305 (wrap64 (a0_1 + a1_1)) y311 y316 y321) = some (r1, r2, r3, r4, r5) := by rw [hy321]; with_reducible exact H
              have Ny321 := am hy321
              clear hy321
              have H' := am H
              clear H
              have hnb32 := NB299_300.out
              have hnc32 := NB300_299.out
              have hnb33 := NB299_301.out
              have hnc33 := NB301_299.out
              have hnb34 := NB299_308.out
              have hnc34 := NB308_299.out
              have hcz35_0 : wr.cell? ⟨gb299, 0, none⟩ = some (.slice A0_0 l0_0.length c0_0) := (blk_cell BK299.out 0).trans rfl
              have hcz35_1 : wr.cell? ⟨gb299, 1, none⟩ = some (.int .i64 a0_1) := (blk_cell BK299.out 1).trans rfl
              have hcz35_2 : wr.cell? ⟨gb299, 2, none⟩ = some (.slice A0_2 l0_2.length c0_2) := (blk_cell BK299.out 2).trans rfl
              have hcz35_3 : wr.cell? ⟨gb299, 3, none⟩ = some (.slice A0_3 l0_3.length c0_3) := (blk_cell BK299.out 3).trans rfl
              have hcz35_4 : wr.cell? ⟨gb299, 4, none⟩ = some (.slice A0_4 l0_4.length c0_4) := (blk_cell BK299.out 4).trans rfl
              have hfz35_0 := blk_frozen BK299.out 0
              have hfz35_1 := blk_frozen BK299.out 1
              have hfz35_2 := blk_frozen BK299.out 2
              have hfz35_3 := blk_frozen BK299.out 3
              have hfz35_4 := blk_frozen BK299.out 4
              try go_wp2
              have n0_ := am (Kd.R_drew HO_309000.out)
              have n1_ := am (Kd.R_drew HO_309002.out)
              have n2_ := am (Kd.R_drew HO_309003.out)
              have n3_ := am (Kd.R_drew HO_309004.out)
              have n4_ := am (blk_drew BK299.out)
              have n5_ := am (blk_drew BK300.out)
              have n6_ := am (blk_drew BK301.out)
              have n7_ := am (blk_drew BK308.out)
              have n8_ := am (below_drew1 HB.out)
              clear HO_309000 HO_309002 HO_309003 HO_309004 BK299 BK300 BK301 BK308 HB
              revert n0_ n1_ n2_ n3_ n4_ n5_ n6_ n7_ n8_
              intro HO_309000 HO_309002 HO_309003 HO_309004 BK299 BK300 BK301 BK308 HB
              have p309 : 0 ≤ (x6_1 : Int) := of_decide_eq_true (by first | (with_reducible assumption) | assumption)
              have q309 : x6_1 < (l0_2.length : Int) := of_decide_eq_true (by first | (with_reducible assumption) | assumption)
              obtain ⟨ad309, e309, hx309_0⟩ := Kd.at_int HR0_2.out x6_1 p309 q309
              have hw309_0 := hx309_0
              cases e309
              replace hx309_0 := (HB.out.cell (World.block_lt_of_cell? w _ hx309_0)).trans hx309_0
              replace p309 := eq_true p309
              replace q309 := eq_true q309
              have p310 : 0 ≤ (x6_1 : Int) := of_decide_eq_true (by first | (with_reducible assumption) | assumption)
              have q310 : x6_1 < (l1_2.length : Int) := of_decide_eq_true (by first | (with_reducible assumption) | assumption)
              obtain ⟨ad310, e310, hx310_0⟩ := Kd.at_int HR1_2.out x6_1 p310 q310
              have hw310_0 := hx310_0
              cases e310
              replace hx310_0 := (HB.out.cell (World.block_lt_of_cell? w _ hx310_0)).trans hx310_0
              replace p310 := eq_true p310
              replace q310 := eq_true q310
              refine start_ (n := 17) (S := fun w' => w'.cell? ⟨gb308, 0, none⟩ = some (.slice Ao14 y305.length co14) ∧ w'.cell? ⟨gb308, 1, none⟩ = some (.int .i64 (wrap64 (a0_1 + a1_1))) ∧ w'.cell? ⟨gb308, 2, none⟩ = some (u309002) ∧ w'.cell? ⟨gb308, 3, none⟩ = some (u309003) ∧ w'.cell? ⟨gb308, 4, none⟩ = some (u309004) ∧ w'.cell? ⟨gb299, 0, none⟩ = some (.slice A0_0 l0_0.length c0_0) ∧ w'.cell? ⟨gb299, 1, none⟩ = some (.int .i64 a0_1) ∧ w'.cell? ⟨gb299, 2, none⟩ = some (.slice (some ad309) l0_2.length c0_2) ∧ w'.cell? ⟨gb299, 3, none⟩ = some (.slice A0_3 l0_3.length c0_3) ∧ w'.cell? ⟨gb299, 4, none⟩ = some (.slice A0_4 l0_4.length c0_4) ∧ w'.cell? ⟨gb300, 0, none⟩ = some (.slice A1_0 l1_0.length c1_0) ∧ w'.cell? ⟨gb300, 1, none⟩ = some (.int .i64 a1_1) ∧ w'.cell? ⟨gb300, 2, none⟩ = some (.slice (some ad310) l1_2.length c1_2) ∧ w'.cell? ⟨gb300, 3, none⟩ = some (.slice A1_3 l1_3.length c1_3) ∧ w'.cell? ⟨gb300, 4, none⟩ = some (.slice A1_4 l1_4.length c1_4) ∧ w'.cell? (ad309.add (x6_1).toNat) = some (.int .i64 (rd l0_2 x6_1)) ∧ w'.cell? (ad310.add (x6_1).toNat) = some (.int .i64 (rd l1_2 x6_1))) (ds := [16]) (bb 17 0) (by kernel_rfl) rfl rfl ⟨bc BK308 0, bc BK308 1, bc BK308 2, bc BK308 3, bc BK308 4, bc BK299 0, bc BK299 1, bc BK299 2, bc BK299 3, bc BK299 4, bc BK300 0, bc BK300 1, bc BK300 2, bc BK300 3, bc BK300 4, ((HB.out.cell (World.block_lt_of_cell? w _ hw309_0)).trans hw309_0), ((HB.out.cell (World.block_lt_of_cell? w _ hw310_0)).trans hw310_0)⟩ (fun hHeld => ?_); refine with_tabW hypercuberef2_Join.tab5 hypercuberef2_Join.bits5 (fun HT_ HW_ => ?_)
              generalize wr.drew = w36 at HO_309000 HO_309002 HO_309003 HO_309004 BK299 BK300 BK301 BK308 HB hx309_0 hx310_0 hHeld ⊢
              refine pu (i := 0) (N := some 24) (bb 17 1) HT_ ?_
              refine pu (i := 2) (N := some 26) (bb 17 5) HT_ ?_
              refine pu (i := 4) (N := some 28) (bb 17 21) HT_ ?_
              refine pu (i := 7) (N := some 31) (bb 17 149) HT_ ?_
              refine pu (i := 9) (N := some 33) (bb 17 661) HT_ ?_
              refine tk (i := 1) (N := some 25) (bb 17 663) HT_ HW_ hHeld ?_
              refine tk (i := 3) (N := some 27) (bb 17 671) HT_ HW_ hHeld ?_
              refine pu (i := 5) (N := some 29) (bb 17 703) HT_ ?_
              refine tk (i := 6) (N := some 30) (bb 17 767) HT_ HW_ hHeld ?_
              refine tk (i := 8) (N := some 32) (bb 17 1023) HT_ HW_ hHeld ?_
              refine pu (i := 10) (N := some 34) (bb 17 2047) HT_ ?_
              refine tk (i := 11) (N := some 35) (bb 17 4095) HT_ HW_ hHeld ?_
              refine pu (i := 12) (N := some 36) (bb 17 8191) HT_ ?_
              refine one_ (i := 13) (N := some 37) (bb 17 16383) rfl rfl (one_of HT_.out (by kernel_rfl)) (by decide) (fun K hK => ?_)
              refine value_ (w1 := ?_) (v := ?_) (by rfl) rfl ?_ ?_
              rotate_left 2
              ·go_simp
               constructor
               ·rfl
               ·rfl
              refine hK.out _ _ ⟨(blk_cell (blk_alloc BK308.out _) 0).trans rfl, (blk_cell (blk_alloc BK308.out _) 1).trans rfl, (blk_cell (blk_alloc BK308.out _) 2).trans rfl, (blk_cell (blk_alloc BK308.out _) 3).trans rfl, (blk_cell (blk_alloc BK308.out _) 4).trans rfl, (blk_cell (blk_alloc BK299.out _) 0).trans rfl, (blk_cell (blk_alloc BK299.out _) 1).trans rfl, (blk_cell (blk_alloc BK299.out _) 2).trans rfl, (blk_cell (blk_alloc BK299.out _) 3).trans rfl, (blk_cell (blk_alloc BK299.out _) 4).trans rfl, (blk_cell (blk_alloc BK300.out _) 0).trans rfl, (blk_cell (blk_alloc BK300.out _) 1).trans rfl, (blk_cell (blk_alloc BK300.out _) 2).trans rfl, (blk_cell (blk_alloc BK300.out _) 3).trans rfl, (blk_cell (blk_alloc BK300.out _) 4).trans rfl, (World.cell?_alloc_lt _ _ _ (World.block_lt_of_cell? _ _ (((HB.out.cell (World.block_lt_of_cell? w _ hw309_0)).trans hw309_0)))).trans (((HB.out.cell (World.block_lt_of_cell? w _ hw309_0)).trans hw309_0)), (World.cell?_alloc_lt _ _ _ (World.block_lt_of_cell? _ _ (((HB.out.cell (World.block_lt_of_cell? w _ hw310_0)).trans hw310_0)))).trans (((HB.out.cell (World.block_lt_of_cell? w _ hw310_0)).trans hw310_0))⟩ (fun hHeld => ?_)
              clear hK K
              refine nm ?_
              refine one_ (i := 14) (N := some 38) (bb 17 32767) rfl rfl (one_of HT_.out (by kernel_rfl)) (by decide) (fun K hK => ?_)
              refine Kd.R_append_step (Kd.int .i64) (w0 := w) w.heap.size (by rfl) (.tmp 25) (.tmp 37) 22 3 (.int .i64 0) 8 rfl Try.underlying22 info3 rfl (by decide) (by omega) u309002 x309002_1 (wrap64 ((rd l0_2 x6_1) + (rd l1_2 x6_1))) [.int .i64 (wrap64 ((rd l0_2 x6_1) + (rd l1_2 x6_1)))] (fun k_ => some k_ ≠ (.slice Ao14 y305.length co14 : Value).ownBlock ∧ some k_ ≠ (u309003 : Value).ownBlock ∧ some k_ ≠ (u309004 : Value).ownBlock) (fun _ => False) rfl rfl ?aP (fun _ hk => hk.elim) ?aF ?aO ?aB ?aS ?aL ?_
              (case aP => exact rfl)
              (case aB => exact (wmv HB.out))
              (case aF => exact (fun k_ hk => ⟨Kd.fresh' (Kd.R_lt (Kd.R_mv HO_309000.out)) k_ hk, Kd.fresh' (Kd.R_lt (Kd.R_mv HO_309003.out)) k_ hk, Kd.fresh' (Kd.R_lt (Kd.R_mv HO_309004.out)) k_ hk⟩))
              (case aO => exact (Kd.R_mv HO_309002.out))
              (case aS => exact (below_size (wmv HB.out)))
              (case aL => have := LMc23.out; omega)
              intro v312 w37 ho hb hg hat
              rw [← Ny311.out] at ho
              have n0_ := am (Kd.R_after (ok := (fun k_ => some k_ ≠ (u309003 : Value).ownBlock ∧ some k_ ≠ (u309004 : Value).ownBlock)) (Kd.R_mv (Kd.R_mono HO_309000.out (fun _ hk => ⟨⟨hk.2.1, hk.2.2⟩, hk.1⟩))) hg hat)
              have n1_ := am (Kd.R_after (ok := (fun k_ => some k_ ≠ (.slice Ao14 y305.length co14 : Value).ownBlock ∧ some k_ ≠ (u309004 : Value).ownBlock)) (Kd.R_mv (Kd.R_mono HO_309003.out (fun _ hk => ⟨⟨hk.1, hk.2.2⟩, hk.2.1⟩))) hg hat)
              have n2_ := am (Kd.R_after (ok := (fun k_ => some k_ ≠ (.slice Ao14 y305.length co14 : Value).ownBlock ∧ some k_ ≠ (u309003 : Value).ownBlock)) (Kd.R_mv (Kd.R_mono HO_309004.out (fun _ hk => ⟨⟨hk.1, hk.2.2⟩, hk.2.1⟩))) hg hat)
              have n3_ := am (blk_grown (bmv BK299.out) hg (Kd.R_ne HO_309002.out BK299.out (by decide)))
              have n4_ := am (blk_grown (bmv BK300.out) hg (Kd.R_ne HO_309002.out BK300.out (by decide)))
              have n5_ := am (blk_grown (bmv BK301.out) hg (Kd.R_ne HO_309002.out BK301.out (by decide)))
              have n6_ := am (blk_grown (bmv BK308.out) hg (Kd.R_ne HO_309002.out BK308.out (by decide)))
              have n7_ := am (hb)
              have n8_ := am (ho)
              clear HO_309000 HO_309003 HO_309004 BK299 BK300 BK301 BK308 HB HO_309002
              revert n0_ n1_ n2_ n3_ n4_ n5_ n6_ n7_ n8_
              intro HO_309000 HO_309003 HO_309004 BK299 BK300 BK301 BK308 HB HO313
              clear ho hb hg hat
              obtain ⟨Ao38, co38, eo38⟩ := Kd.R_slice HO313.out
              (first | subst eo38 | (injection eo38 with f1_ f2_ f3_; have f4_ := f1_.symm; have f5_ := f3_.symm; clear f1_ f2_ f3_; subst f4_; subst f5_))
              refine hK.out _ _ ⟨bc BK308 0, bc BK308 1, bc BK308 2, bc BK308 3, bc BK308 4, bc BK299 0, bc BK299 1, bc BK299 2, bc BK299 3, bc BK299 4, bc BK300 0, bc BK300 1, bc BK300 2, bc BK300 3, bc BK300 4, ((HB.out.cell (World.block_lt_of_cell? w _ hw309_0)).trans hw309_0), ((HB.out.cell (World.block_lt_of_cell? w _ hw310_0)).trans hw310_0)⟩ (fun hHeld => ?_)
              clear hK K
              refine nm ?_
              refine pu (i := 15) (N := some 39) (bb 17 65535) HT_ ?_
              refine last_ (i := 16) (N := none) (bb 17 131071) rfl rfl (one_of HT_.out (by kernel_rfl)) (by decide) (fun K hK => ?_)
              have hs39 : w37.cell? ⟨gb308, 2, none⟩ = some (u309002) := (blk_cell BK308.out 2).trans rfl
              have hfs39 := blk_frozen BK308.out 2
              have hns39_0 := NB299_308.out
              have hns39_1 := NB300_308.out
              have hns39_2 := NB301_308.out
              have hms39_0 := NB308_299.out
              have hms39_1 := NB308_300.out
              have hms39_2 := NB308_301.out
              refine skip_ (w1 := ?_) (by rfl) rfl ?_ ?_
              rotate_left
              ·go_simp
               rfl
              refine hK.out _ _ ?_
              clear hK K
              refine done_ (done_of HT_.out (by kernel_rfl)) ?_
              try go_wp2
              have n0_ : Aside0 (Kd.R (Kd.int .i64) 3 (w37.setCell ⟨gb308, 2, none⟩ (.slice Ao38 y311.length co38)) w.heap.size (fun k_ => some k_ ≠ (u309003 : Value).ownBlock ∧ some k_ ≠ (u309004 : Value).ownBlock ∧ some k_ ≠ (.slice Ao38 y311.length co38 : Value).ownBlock) (.slice Ao14 y305.length co14) y305) := ⟨by (with_reducible repeat (first | apply Kd.R_alloc | apply Kd.R_drewN | apply Kd.R_drew)); exact Kd.R_mono (Kd.R_far (p := ⟨gb308, 2, none⟩) (Kd.R_types HO_309000.out BK308.out (by decide)) (fun _ hk => hk.2) (.slice Ao38 y311.length co38)) (fun _ hk => ⟨hk.1.1.1, ⟨hk.1.1.2, hk.1.2⟩⟩)⟩
              have n1_ : Aside0 (Kd.R (Kd.int .i64) 3 (w37.setCell ⟨gb308, 2, none⟩ (.slice Ao38 y311.length co38)) w.heap.size (fun k_ => some k_ ≠ (.slice Ao14 y305.length co14 : Value).ownBlock ∧ some k_ ≠ (u309004 : Value).ownBlock ∧ some k_ ≠ (.slice Ao38 y311.length co38 : Value).ownBlock) u309003 x309003_1) := ⟨by (with_reducible repeat (first | apply Kd.R_alloc | apply Kd.R_drewN | apply Kd.R_drew)); exact Kd.R_mono (Kd.R_far (p := ⟨gb308, 2, none⟩) (Kd.R_types HO_309003.out BK308.out (by decide)) (fun _ hk => hk.2) (.slice Ao38 y311.length co38)) (fun _ hk => ⟨hk.1.1.1, ⟨hk.1.1.2, hk.1.2⟩⟩)⟩
              have n2_ : Aside0 (Kd.R (Kd.int .i64) 3 (w37.setCell ⟨gb308, 2, none⟩ (.slice Ao38 y311.length co38)) w.heap.size (fun k_ => some k_ ≠ (.slice Ao14 y305.length co14 : Value).ownBlock ∧ some k_ ≠ (u309003 : Value).ownBlock ∧ some k_ ≠ (.slice Ao38 y311.length co38 : Value).ownBlock) u309004 x309004_1) := ⟨by (with_reducible repeat (first | apply Kd.R_alloc | apply Kd.R_drewN | apply Kd.R_drew)); exact Kd.R_mono (Kd.R_far (p := ⟨gb308, 2, none⟩) (Kd.R_types HO_309004.out BK308.out (by decide)) (fun _ hk => hk.2) (.slice Ao38 y311.length co38)) (fun _ hk => ⟨hk.1.1.1, ⟨hk.1.1.2, hk.1.2⟩⟩)⟩
              have n3_ : Aside0 (Kd.R (Kd.int .i64) 3 (w37.setCell ⟨gb308, 2, none⟩ (.slice Ao38 y311.length co38)) w.heap.size (fun k_ => some k_ ≠ (.slice Ao14 y305.length co14 : Value).ownBlock ∧ some k_ ≠ (u309003 : Value).ownBlock ∧ some k_ ≠ (u309004 : Value).ownBlock) (.slice Ao38 y311.length co38) y311) := ⟨by (with_reducible repeat (first | apply Kd.R_alloc | apply Kd.R_drewN | apply Kd.R_drew)); exact Kd.R_mono (Kd.R_far (p := ⟨gb308, 2, none⟩) (Kd.R_types HO313.out BK308.out (by decide)) (fun _ hk => hk.2) (.slice Ao38 y311.length co38)) (fun _ hk => ⟨hk.1.1, ⟨hk.1.2.1, hk.1.2.2⟩⟩)⟩
              have n4_ : Aside0 ((w37.setCell ⟨gb308, 2, none⟩ (.slice Ao38 y311.length co38)).heap[gb299]? = some (.cells #[.slice A0_0 l0_0.length c0_0, .int .i64 a0_1, .slice (some ad309) l0_2.length c0_2, .slice A0_3 l0_3.length c0_3, .slice A0_4 l0_4.length c0_4] 41 (0, 0))) := ⟨by (with_reducible repeat (first | refine blk_drewN ?_ _ | refine blk_drew ?_ | refine blk_alloc ?_ _)); refine blk_far ?_ NB299_308.out _; (with_reducible repeat (first | refine blk_drewN ?_ _ | refine blk_drew ?_ | refine blk_alloc ?_ _)); exact BK299.out⟩
              have n5_ : Aside0 ((w37.setCell ⟨gb308, 2, none⟩ (.slice Ao38 y311.length co38)).heap[gb300]? = some (.cells #[.slice A1_0 l1_0.length c1_0, .int .i64 a1_1, .slice (some ad310) l1_2.length c1_2, .slice A1_3 l1_3.length c1_3, .slice A1_4 l1_4.length c1_4] 41 (0, 0))) := ⟨by (with_reducible repeat (first | refine blk_drewN ?_ _ | refine blk_drew ?_ | refine blk_alloc ?_ _)); refine blk_far ?_ NB300_308.out _; (with_reducible repeat (first | refine blk_drewN ?_ _ | refine blk_drew ?_ | refine blk_alloc ?_ _)); exact BK300.out⟩
              have n6_ : Aside0 ((w37.setCell ⟨gb308, 2, none⟩ (.slice Ao38 y311.length co38)).heap[gb301]? = some (.cells #[.slice none 0 0, .int .i64 0, .slice none 0 0, .slice none 0 0, .slice none 0 0] 41 (0, 0))) := ⟨by (with_reducible repeat (first | refine blk_drewN ?_ _ | refine blk_drew ?_ | refine blk_alloc ?_ _)); refine blk_far ?_ NB301_308.out _; (with_reducible repeat (first | refine blk_drewN ?_ _ | refine blk_drew ?_ | refine blk_alloc ?_ _)); exact BK301.out⟩
              have n7_ : Aside0 ((w37.setCell ⟨gb308, 2, none⟩ (.slice Ao38 y311.length co38)).heap[gb308]? = some (.cells #[.slice Ao14 y305.length co14, .int .i64 (wrap64 (a0_1 + a1_1)), .slice Ao38 y311.length co38, u309003, u309004] 41 (0, 0))) := ⟨by (with_reducible repeat (first | refine blk_drewN ?_ _ | refine blk_drew ?_ | refine blk_alloc ?_ _)); refine blk_put (cs := #[.slice Ao14 y305.length co14, .int .i64 (wrap64 (a0_1 + a1_1)), u309002, u309003, u309004]) ?_ 2 _ rfl; (with_reducible repeat (first | refine blk_drewN ?_ _ | refine blk_drew ?_ | refine blk_alloc ?_ _)); exact BK308.out⟩
              have n8_ : Aside0 (Below w.heap.size w (w37.setCell ⟨gb308, 2, none⟩ (.slice Ao38 y311.length co38))) := ⟨by repeat (first | (with_reducible first | exact HB.out | apply below_alloc | apply pw_below_drewN | apply below_drew1 | refine below_set ?_ GE299.out | refine below_set ?_ GE300.out | refine below_set ?_ GE301.out | refine below_set ?_ GE308.out) | exact HB.out)⟩
              (try clear HO_309000)
              (try clear HO_309003)
              (try clear HO_309004)
              (try clear HO313)
              (try clear BK299)
              (try clear BK300)
              (try clear BK301)
              (try clear BK308)
              (try clear HB)
              generalize (w37.setCell ⟨gb308, 2, none⟩ (.slice Ao38 y311.length co38)) = w40 at n0_ n1_ n2_ n3_ n4_ n5_ n6_ n7_ n8_ ⊢
              revert n0_ n1_ n2_ n3_ n4_ n5_ n6_ n7_ n8_
              intro HO_309000 HO_309003 HO_309004 HO313 BK299 BK300 BK301 BK308 HB
              have n0_ := am (Kd.R_drew HO_309000.out)
              have n1_ := am (Kd.R_drew HO_309003.out)
              have n2_ := am (Kd.R_drew HO_309004.out)
              have n3_ := am (Kd.R_drew HO313.out)
              have n4_ := am (blk_drew BK299.out)
              have n5_ := am (blk_drew BK300.out)
              have n6_ := am (blk_drew BK301.out)
              have n7_ := am (blk_drew BK308.out)
              have n8_ := am (below_drew1 HB.out)
              clear HO_309000 HO_309003 HO_309004 HO313 BK299 BK300 BK301 BK308 HB
              revert n0_ n1_ n2_ n3_ n4_ n5_ n6_ n7_ n8_
              intro HO_309000 HO_309003 HO_309004 HO313 BK299 BK300 BK301 BK308 HB
              have p314 : 0 ≤ (x6_1 : Int) := of_decide_eq_true (by first | (with_reducible assumption) | assumption)
              have q314 : x6_1 < (l0_3.length : Int) := of_decide_eq_true (by first | (with_reducible assumption) | assumption)
              obtain ⟨ad314, e314, hx314_0⟩ := Kd.at_int HR0_3.out x6_1 p314 q314
              have hw314_0 := hx314_0
              cases e314
              replace hx314_0 := (HB.out.cell (World.block_lt_of_cell? w _ hx314_0)).trans hx314_0
              replace p314 := eq_true p314
              replace q314 := eq_true q314
              have p315 : 0 ≤ (x6_1 : Int) := of_decide_eq_true (by first | (with_reducible assumption) | assumption)
              have q315 : x6_1 < (l1_3.length : Int) := of_decide_eq_true (by first | (with_reducible assumption) | assumption)
              obtain ⟨ad315, e315, hx315_0⟩ := Kd.at_int HR1_3.out x6_1 p315 q315
              have hw315_0 := hx315_0
              cases e315
              replace hx315_0 := (HB.out.cell (World.block_lt_of_cell? w _ hx315_0)).trans hx315_0
              replace p315 := eq_true p315
              replace q315 := eq_true q315
              refine start_ (n := 17) (S := fun w' => w'.cell? ⟨gb308, 0, none⟩ = some (.slice Ao14 y305.length co14) ∧ w'.cell? ⟨gb308, 1, none⟩ = some (.int .i64 (wrap64 (a0_1 + a1_1))) ∧ w'.cell? ⟨gb308, 2, none⟩ = some (.slice Ao38 y311.length co38) ∧ w'.cell? ⟨gb308, 3, none⟩ = some (u309003) ∧ w'.cell? ⟨gb308, 4, none⟩ = some (u309004) ∧ w'.cell? ⟨gb299, 0, none⟩ = some (.slice A0_0 l0_0.length c0_0) ∧ w'.cell? ⟨gb299, 1, none⟩ = some (.int .i64 a0_1) ∧ w'.cell? ⟨gb299, 2, none⟩ = some (.slice (some ad309) l0_2.length c0_2) ∧ w'.cell? ⟨gb299, 3, none⟩ = some (.slice (some ad314) l0_3.length c0_3) ∧ w'.cell? ⟨gb299, 4, none⟩ = some (.slice A0_4 l0_4.length c0_4) ∧ w'.cell? ⟨gb300, 0, none⟩ = some (.slice A1_0 l1_0.length c1_0) ∧ w'.cell? ⟨gb300, 1, none⟩ = some (.int .i64 a1_1) ∧ w'.cell? ⟨gb300, 2, none⟩ = some (.slice (some ad310) l1_2.length c1_2) ∧ w'.cell? ⟨gb300, 3, none⟩ = some (.slice (some ad315) l1_3.length c1_3) ∧ w'.cell? ⟨gb300, 4, none⟩ = some (.slice A1_4 l1_4.length c1_4) ∧ w'.cell? (ad314.add (x6_1).toNat) = some (.int .i64 (rd l0_3 x6_1)) ∧ w'.cell? (ad315.add (x6_1).toNat) = some (.int .i64 (rd l1_3 x6_1))) (ds := [16]) (bb 17 0) (by kernel_rfl) rfl rfl ⟨bc BK308 0, bc BK308 1, bc BK308 2, bc BK308 3, bc BK308 4, bc BK299 0, bc BK299 1, bc BK299 2, bc BK299 3, bc BK299 4, bc BK300 0, bc BK300 1, bc BK300 2, bc BK300 3, bc BK300 4, ((HB.out.cell (World.block_lt_of_cell? w _ hw314_0)).trans hw314_0), ((HB.out.cell (World.block_lt_of_cell? w _ hw315_0)).trans hw315_0)⟩ (fun hHeld => ?_); refine with_tabW hypercuberef2_Join.tab6 hypercuberef2_Join.bits6 (fun HT_ HW_ => ?_)
              generalize w40.drew = w41 at HO_309000 HO_309003 HO_309004 HO313 BK299 BK300 BK301 BK308 HB hx314_0 hx315_0 hHeld ⊢
              refine pu (i := 0) (N := some 40) (bb 17 1) HT_ ?_
              refine pu (i := 2) (N := some 42) (bb 17 5) HT_ ?_
              refine pu (i := 4) (N := some 44) (bb 17 21) HT_ ?_
              refine pu (i := 7) (N := some 47) (bb 17 149) HT_ ?_
              refine pu (i := 9) (N := some 49) (bb 17 661) HT_ ?_
              refine tk (i := 1) (N := some 41) (bb 17 663) HT_ HW_ hHeld ?_
              refine tk (i := 3) (N := some 43) (bb 17 671) HT_ HW_ hHeld ?_
              refine pu (i := 5) (N := some 45) (bb 17 703) HT_ ?_
              refine tk (i := 6) (N := some 46) (bb 17 767) HT_ HW_ hHeld ?_
              refine tk (i := 8) (N := some 48) (bb 17 1023) HT_ HW_ hHeld ?_
              refine pu (i := 10) (N := some 50) (bb 17 2047) HT_ ?_
              refine tk (i := 11) (N := some 51) (bb 17 4095) HT_ HW_ hHeld ?_
              refine pu (i := 12) (N := some 52) (bb 17 8191) HT_ ?_
              refine one_ (i := 13) (N := some 53) (bb 17 16383) rfl rfl (one_of HT_.out (by kernel_rfl)) (by decide) (fun K hK => ?_)
              refine value_ (w1 := ?_) (v := ?_) (by rfl) rfl ?_ ?_
              rotate_left 2
              ·go_simp
               constructor
               ·rfl
               ·rfl
              refine hK.out _ _ ⟨(blk_cell (blk_alloc BK308.out _) 0).trans rfl, (blk_cell (blk_alloc BK308.out _) 1).trans rfl, (blk_cell (blk_alloc BK308.out _) 2).trans rfl, (blk_cell (blk_alloc BK308.out _) 3).trans rfl, (blk_cell (blk_alloc BK308.out _) 4).trans rfl, (blk_cell (blk_alloc BK299.out _) 0).trans rfl, (blk_cell (blk_alloc BK299.out _) 1).trans rfl, (blk_cell (blk_alloc BK299.out _) 2).trans rfl, (blk_cell (blk_alloc BK299.out _) 3).trans rfl, (blk_cell (blk_alloc BK299.out _) 4).trans rfl, (blk_cell (blk_alloc BK300.out _) 0).trans rfl, (blk_cell (blk_alloc BK300.out _) 1).trans rfl, (blk_cell (blk_alloc BK300.out _) 2).trans rfl, (blk_cell (blk_alloc BK300.out _) 3).trans rfl, (blk_cell (blk_alloc BK300.out _) 4).trans rfl, (World.cell?_alloc_lt _ _ _ (World.block_lt_of_cell? _ _ (((HB.out.cell (World.block_lt_of_cell? w _ hw314_0)).trans hw314_0)))).trans (((HB.out.cell (World.block_lt_of_cell? w _ hw314_0)).trans hw314_0)), (World.cell?_alloc_lt _ _ _ (World.block_lt_of_cell? _ _ (((HB.out.cell (World.block_lt_of_cell? w _ hw315_0)).trans hw315_0)))).trans (((HB.out.cell (World.block_lt_of_cell? w _ hw315_0)).trans hw315_0))⟩ (fun hHeld => ?_)
              clear hK K
              refine nm ?_
              refine one_ (i := 14) (N := some 54) (bb 17 32767) rfl rfl (one_of HT_.out (by kernel_rfl)) (by decide) (fun K hK => ?_)
              refine Kd.R_append_step (Kd.int .i64) (w0 := w) w.heap.size (by rfl) (.tmp 41) (.tmp 53) 22 3 (.int .i64 0) 8 rfl Try.underlying22 info3 rfl (by decide) (by omega) u309003 x309003_1 ji26 [.int .i64 ji26] (fun k_ => some k_ ≠ (.slice Ao14 y305.length co14 : Value).ownBlock ∧ some k_ ≠ (u309004 : Value).ownBlock ∧ some k_ ≠ (.slice Ao38 y311.length co38 : Value).ownBlock) (fun _ => False) rfl rfl ?aP (fun _ hk => hk.elim) ?aF ?aO ?aB ?aS ?aL ?_
              (case aP => exact rfl)
              (case aB => exact (wmv HB.out))
              (case aF => exact (fun k_ hk => ⟨Kd.fresh' (Kd.R_lt (Kd.R_mv HO_309000.out)) k_ hk, Kd.fresh' (Kd.R_lt (Kd.R_mv HO_309004.out)) k_ hk, Kd.fresh' (Kd.R_lt (Kd.R_mv HO313.out)) k_ hk⟩))
              (case aO => exact (Kd.R_mv HO_309003.out))
              (case aS => exact (below_size (wmv HB.out)))
              (case aL => have := LMc27.out; omega)
              intro v317 w42 ho hb hg hat
              rw [← Ny316.out] at ho
              have n0_ := am (Kd.R_after (ok := (fun k_ => some k_ ≠ (u309004 : Value).ownBlock ∧ some k_ ≠ (.slice Ao38 y311.length co38 : Value).ownBlock)) (Kd.R_mv (Kd.R_mono HO_309000.out (fun _ hk => ⟨⟨hk.2.1, hk.2.2⟩, hk.1⟩))) hg hat)
              have n1_ := am (Kd.R_after (ok := (fun k_ => some k_ ≠ (.slice Ao14 y305.length co14 : Value).ownBlock ∧ some k_ ≠ (.slice Ao38 y311.length co38 : Value).ownBlock)) (Kd.R_mv (Kd.R_mono HO_309004.out (fun _ hk => ⟨⟨hk.1, hk.2.2⟩, hk.2.1⟩))) hg hat)
              have n2_ := am (blk_grown (bmv BK299.out) hg (Kd.R_ne HO_309003.out BK299.out (by decide)))
              have n3_ := am (blk_grown (bmv BK300.out) hg (Kd.R_ne HO_309003.out BK300.out (by decide)))
              have n4_ := am (blk_grown (bmv BK301.out) hg (Kd.R_ne HO_309003.out BK301.out (by decide)))
              have n5_ := am (blk_grown (bmv BK308.out) hg (Kd.R_ne HO_309003.out BK308.out (by decide)))
              have n6_ := am (Kd.R_after (ok := (fun k_ => some k_ ≠ (.slice Ao14 y305.length co14 : Value).ownBlock ∧ some k_ ≠ (u309004 : Value).ownBlock)) (Kd.R_mv (Kd.R_mono HO313.out (fun _ hk => ⟨⟨hk.1, hk.2.2⟩, hk.2.1⟩))) hg hat)
              have n7_ := am (hb)
              have n8_ := am (ho)
              clear HO_309000 HO_309004 BK299 BK300 BK301 BK308 HO313 HB HO_309003
              revert n0_ n1_ n2_ n3_ n4_ n5_ n6_ n7_ n8_
              intro HO_309000 HO_309004 BK299 BK300 BK301 BK308 HO313 HB HO318
              clear ho hb hg hat
              obtain ⟨Ao43, co43, eo43⟩ := Kd.R_slice HO318.out
              (first | subst eo43 | (injection eo43 with f1_ f2_ f3_; have f4_ := f1_.symm; have f5_ := f3_.symm; clear f1_ f2_ f3_; subst f4_; subst f5_))
              refine hK.out _ _ ⟨bc BK308 0, bc BK308 1, bc BK308 2, bc BK308 3, bc BK308 4, bc BK299 0, bc BK299 1, bc BK299 2, bc BK299 3, bc BK299 4, bc BK300 0, bc BK300 1, bc BK300 2, bc BK300 3, bc BK300 4, ((HB.out.cell (World.block_lt_of_cell? w _ hw314_0)).trans hw314_0), ((HB.out.cell (World.block_lt_of_cell? w _ hw315_0)).trans hw315_0)⟩ (fun hHeld => ?_)
              clear hK K
              refine nm ?_
              refine pu (i := 15) (N := some 55) (bb 17 65535) HT_ ?_
              refine last_ (i := 16) (N := none) (bb 17 131071) rfl rfl (one_of HT_.out (by kernel_rfl)) (by decide) (fun K hK => ?_)
              have hs44 : w42.cell? ⟨gb308, 3, none⟩ = some (u309003) := (blk_cell BK308.out 3).trans rfl
              have hfs44 := blk_frozen BK308.out 3
              have hns44_0 := NB299_308.out
              have hns44_1 := NB300_308.out
              have hns44_2 := NB301_308.out
              have hms44_0 := NB308_299.out
              have hms44_1 := NB308_300.out
              have hms44_2 := NB308_301.out
              refine skip_ (w1 := ?_) (by rfl) rfl ?_ ?_
              rotate_left
              ·go_simp
               rfl
              refine hK.out _ _ ?_
              clear hK K
              refine done_ (done_of HT_.out (by kernel_rfl)) ?_
              try go_wp2
              have n0_ : Aside0 (Kd.R (Kd.int .i64) 3 (w42.setCell ⟨gb308, 3, none⟩ (.slice Ao43 y316.length co43)) w.heap.size (fun k_ => some k_ ≠ (u309004 : Value).ownBlock ∧ some k_ ≠ (.slice Ao38 y311.length co38 : Value).ownBlock ∧ some k_ ≠ (.slice Ao43 y316.length co43 : Value).ownBlock) (.slice Ao14 y305.length co14) y305) := ⟨by (with_reducible repeat (first | apply Kd.R_alloc | apply Kd.R_drewN | apply Kd.R_drew)); exact Kd.R_mono (Kd.R_far (p := ⟨gb308, 3, none⟩) (Kd.R_types HO_309000.out BK308.out (by decide)) (fun _ hk => hk.2) (.slice Ao43 y316.length co43)) (fun _ hk => ⟨hk.1.1.1, ⟨hk.1.1.2, hk.1.2⟩⟩)⟩
              have n1_ : Aside0 (Kd.R (Kd.int .i64) 3 (w42.setCell ⟨gb308, 3, none⟩ (.slice Ao43 y316.length co43)) w.heap.size (fun k_ => some k_ ≠ (.slice Ao14 y305.length co14 : Value).ownBlock ∧ some k_ ≠ (.slice Ao38 y311.length co38 : Value).ownBlock ∧ some k_ ≠ (.slice Ao43 y316.length co43 : Value).ownBlock) u309004 x309004_1) := ⟨by (with_reducible repeat (first | apply Kd.R_alloc | apply Kd.R_drewN | apply Kd.R_drew)); exact Kd.R_mono (Kd.R_far (p := ⟨gb308, 3, none⟩) (Kd.R_types HO_309004.out BK308.out (by decide)) (fun _ hk => hk.2) (.slice Ao43 y316.length co43)) (fun _ hk => ⟨hk.1.1.1, ⟨hk.1.1.2, hk.1.2⟩⟩)⟩
              have n2_ : Aside0 (Kd.R (Kd.int .i64) 3 (w42.setCell ⟨gb308, 3, none⟩ (.slice Ao43 y316.length co43)) w.heap.size (fun k_ => some k_ ≠ (.slice Ao14 y305.length co14 : Value).ownBlock ∧ some k_ ≠ (u309004 : Value).ownBlock ∧ some k_ ≠ (.slice Ao43 y316.length co43 : Value).ownBlock) (.slice Ao38 y311.length co38) y311) := ⟨by (with_reducible repeat (first | apply Kd.R_alloc | apply Kd.R_drewN | apply Kd.R_drew)); exact Kd.R_mono (Kd.R_far (p := ⟨gb308, 3, none⟩) (Kd.R_types HO313.out BK308.out (by decide)) (fun _ hk => hk.2) (.slice Ao43 y316.length co43)) (fun _ hk => ⟨hk.1.1.1, ⟨hk.1.1.2, hk.1.2⟩⟩)⟩
              have n3_ : Aside0 (Kd.R (Kd.int .i64) 3 (w42.setCell ⟨gb308, 3, none⟩ (.slice Ao43 y316.length co43)) w.heap.size (fun k_ => some k_ ≠ (.slice Ao14 y305.length co14 : Value).ownBlock ∧ some k_ ≠ (u309004 : Value).ownBlock ∧ some k_ ≠ (.slice Ao38 y311.length co38 : Value).ownBlock) (.slice Ao43 y316.length co43) y316) := ⟨by (with_reducible repeat (first | apply Kd.R_alloc | apply Kd.R_drewN | apply Kd.R_drew)); exact Kd.R_mono (Kd.R_far (p := ⟨gb308, 3, none⟩) (Kd.R_types HO318.out BK308.out (by decide)) (fun _ hk => hk.2) (.slice Ao43 y316.length co43)) (fun _ hk => ⟨hk.1.1, ⟨hk.1.2.1, hk.1.2.2⟩⟩)⟩
              have n4_ : Aside0 ((w42.setCell ⟨gb308, 3, none⟩ (.slice Ao43 y316.length co43)).heap[gb299]? = some (.cells #[.slice A0_0 l0_0.length c0_0, .int .i64 a0_1, .slice (some ad309) l0_2.length c0_2, .slice (some ad314) l0_3.length c0_3, .slice A0_4 l0_4.length c0_4] 41 (0, 0))) := ⟨by (with_reducible repeat (first | refine blk_drewN ?_ _ | refine blk_drew ?_ | refine blk_alloc ?_ _)); refine blk_far ?_ NB299_308.out _; (with_reducible repeat (first | refine blk_drewN ?_ _ | refine blk_drew ?_ | refine blk_alloc ?_ _)); exact BK299.out⟩
              have n5_ : Aside0 ((w42.setCell ⟨gb308, 3, none⟩ (.slice Ao43 y316.length co43)).heap[gb300]? = some (.cells #[.slice A1_0 l1_0.length c1_0, .int .i64 a1_1, .slice (some ad310) l1_2.length c1_2, .slice (some ad315) l1_3.length c1_3, .slice A1_4 l1_4.length c1_4] 41 (0, 0))) := ⟨by (with_reducible repeat (first | refine blk_drewN ?_ _ | refine blk_drew ?_ | refine blk_alloc ?_ _)); refine blk_far ?_ NB300_308.out _; (with_reducible repeat (first | refine blk_drewN ?_ _ | refine blk_drew ?_ | refine blk_alloc ?_ _)); exact BK300.out⟩
              have n6_ : Aside0 ((w42.setCell ⟨gb308, 3, none⟩ (.slice Ao43 y316.length co43)).heap[gb301]? = some (.cells #[.slice none 0 0, .int .i64 0, .slice none 0 0, .slice none 0 0, .slice none 0 0] 41 (0, 0))) := ⟨by (with_reducible repeat (first | refine blk_drewN ?_ _ | refine blk_drew ?_ | refine blk_alloc ?_ _)); refine blk_far ?_ NB301_308.out _; (with_reducible repeat (first | refine blk_drewN ?_ _ | refine blk_drew ?_ | refine blk_alloc ?_ _)); exact BK301.out⟩
              have n7_ : Aside0 ((w42.setCell ⟨gb308, 3, none⟩ (.slice Ao43 y316.length co43)).heap[gb308]? = some (.cells #[.slice Ao14 y305.length co14, .int .i64 (wrap64 (a0_1 + a1_1)), .slice Ao38 y311.length co38, .slice Ao43 y316.length co43, u309004] 41 (0, 0))) := ⟨by (with_reducible repeat (first | refine blk_drewN ?_ _ | refine blk_drew ?_ | refine blk_alloc ?_ _)); refine blk_put (cs := #[.slice Ao14 y305.length co14, .int .i64 (wrap64 (a0_1 + a1_1)), .slice Ao38 y311.length co38, u309003, u309004]) ?_ 3 _ rfl; (with_reducible repeat (first | refine blk_drewN ?_ _ | refine blk_drew ?_ | refine blk_alloc ?_ _)); exact BK308.out⟩
              have n8_ : Aside0 (Below w.heap.size w (w42.setCell ⟨gb308, 3, none⟩ (.slice Ao43 y316.length co43))) := ⟨by repeat (first | (with_reducible first | exact HB.out | apply below_alloc | apply pw_below_drewN | apply below_drew1 | refine below_set ?_ GE299.out | refine below_set ?_ GE300.out | refine below_set ?_ GE301.out | refine below_set ?_ GE308.out) | exact HB.out)⟩
              (try clear HO_309000)
              (try clear HO_309004)
              (try clear HO313)
              (try clear HO318)
              (try clear BK299)
              (try clear BK300)
              (try clear BK301)
              (try clear BK308)
              (try clear HB)
              generalize (w42.setCell ⟨gb308, 3, none⟩ (.slice Ao43 y316.length co43)) = w45 at n0_ n1_ n2_ n3_ n4_ n5_ n6_ n7_ n8_ ⊢
              revert n0_ n1_ n2_ n3_ n4_ n5_ n6_ n7_ n8_
              intro HO_309000 HO_309004 HO313 HO318 BK299 BK300 BK301 BK308 HB
              have n0_ := am (Kd.R_drew HO_309000.out)
              have n1_ := am (Kd.R_drew HO_309004.out)
              have n2_ := am (Kd.R_drew HO313.out)
              have n3_ := am (Kd.R_drew HO318.out)
              have n4_ := am (blk_drew BK299.out)
              have n5_ := am (blk_drew BK300.out)
              have n6_ := am (blk_drew BK301.out)
              have n7_ := am (blk_drew BK308.out)
              have n8_ := am (below_drew1 HB.out)
              clear HO_309000 HO_309004 HO313 HO318 BK299 BK300 BK301 BK308 HB
              revert n0_ n1_ n2_ n3_ n4_ n5_ n6_ n7_ n8_
              intro HO_309000 HO_309004 HO313 HO318 BK299 BK300 BK301 BK308 HB
              have p319 : 0 ≤ (x6_1 : Int) := of_decide_eq_true (by first | (with_reducible assumption) | assumption)
              have q319 : x6_1 < (l0_4.length : Int) := of_decide_eq_true (by first | (with_reducible assumption) | assumption)
              obtain ⟨ad319, e319, hx319_0⟩ := Kd.at_int HR0_4.out x6_1 p319 q319
              have hw319_0 := hx319_0
              cases e319
              replace hx319_0 := (HB.out.cell (World.block_lt_of_cell? w _ hx319_0)).trans hx319_0
              replace p319 := eq_true p319
              replace q319 := eq_true q319
              have p320 : 0 ≤ (x6_1 : Int) := of_decide_eq_true (by first | (with_reducible assumption) | assumption)
              have q320 : x6_1 < (l1_4.length : Int) := of_decide_eq_true (by first | (with_reducible assumption) | assumption)
              obtain ⟨ad320, e320, hx320_0⟩ := Kd.at_int HR1_4.out x6_1 p320 q320
              have hw320_0 := hx320_0
              cases e320
              replace hx320_0 := (HB.out.cell (World.block_lt_of_cell? w _ hx320_0)).trans hx320_0
              replace p320 := eq_true p320
              replace q320 := eq_true q320
              refine start_ (n := 17) (S := fun w' => w'.cell? ⟨gb308, 0, none⟩ = some (.slice Ao14 y305.length co14) ∧ w'.cell? ⟨gb308, 1, none⟩ = some (.int .i64 (wrap64 (a0_1 + a1_1))) ∧ w'.cell? ⟨gb308, 2, none⟩ = some (.slice Ao38 y311.length co38) ∧ w'.cell? ⟨gb308, 3, none⟩ = some (.slice Ao43 y316.length co43) ∧ w'.cell? ⟨gb308, 4, none⟩ = some (u309004) ∧ w'.cell? ⟨gb299, 0, none⟩ = some (.slice A0_0 l0_0.length c0_0) ∧ w'.cell? ⟨gb299, 1, none⟩ = some (.int .i64 a0_1) ∧ w'.cell? ⟨gb299, 2, none⟩ = some (.slice (some ad309) l0_2.length c0_2) ∧ w'.cell? ⟨gb299, 3, none⟩ = some (.slice (some ad314) l0_3.length c0_3) ∧ w'.cell? ⟨gb299, 4, none⟩ = some (.slice (some ad319) l0_4.length c0_4) ∧ w'.cell? ⟨gb300, 0, none⟩ = some (.slice A1_0 l1_0.length c1_0) ∧ w'.cell? ⟨gb300, 1, none⟩ = some (.int .i64 a1_1) ∧ w'.cell? ⟨gb300, 2, none⟩ = some (.slice (some ad310) l1_2.length c1_2) ∧ w'.cell? ⟨gb300, 3, none⟩ = some (.slice (some ad315) l1_3.length c1_3) ∧ w'.cell? ⟨gb300, 4, none⟩ = some (.slice (some ad320) l1_4.length c1_4) ∧ w'.cell? (ad319.add (x6_1).toNat) = some (.int .i64 (rd l0_4 x6_1)) ∧ w'.cell? (ad320.add (x6_1).toNat) = some (.int .i64 (rd l1_4 x6_1))) (ds := [16]) (bb 17 0) (by kernel_rfl) rfl rfl ⟨bc BK308 0, bc BK308 1, bc BK308 2, bc BK308 3, bc BK308 4, bc BK299 0, bc BK299 1, bc BK299 2, bc BK299 3, bc BK299 4, bc BK300 0, bc BK300 1, bc BK300 2, bc BK300 3, bc BK300 4, ((HB.out.cell (World.block_lt_of_cell? w _ hw319_0)).trans hw319_0), ((HB.out.cell (World.block_lt_of_cell? w _ hw320_0)).trans hw320_0)⟩ (fun hHeld => ?_); refine with_tabW hypercuberef2_Join.tab7 hypercuberef2_Join.bits7 (fun HT_ HW_ => ?_)
              generalize w45.drew = w46 at HO_309000 HO_309004 HO313 HO318 BK299 BK300 BK301 BK308 HB hx319_0 hx320_0 hHeld ⊢
              refine pu (i := 0) (N := some 56) (bb 17 1) HT_ ?_
              refine pu (i := 2) (N := some 58) (bb 17 5) HT_ ?_
              refine pu (i := 4) (N := some 60) (bb 17 21) HT_ ?_
              refine pu (i := 7) (N := some 63) (bb 17 149) HT_ ?_
              refine pu (i := 9) (N := some 65) (bb 17 661) HT_ ?_
              refine tk (i := 1) (N := some 57) (bb 17 663) HT_ HW_ hHeld ?_
              refine tk (i := 3) (N := some 59) (bb 17 671) HT_ HW_ hHeld ?_
              refine pu (i := 5) (N := some 61) (bb 17 703) HT_ ?_
              refine tk (i := 6) (N := some 62) (bb 17 767) HT_ HW_ hHeld ?_
              refine tk (i := 8) (N := some 64) (bb 17 1023) HT_ HW_ hHeld ?_
              refine pu (i := 10) (N := some 66) (bb 17 2047) HT_ ?_
              refine tk (i := 11) (N := some 67) (bb 17 4095) HT_ HW_ hHeld ?_
              refine pu (i := 12) (N := some 68) (bb 17 8191) HT_ ?_
              refine one_ (i := 13) (N := some 69) (bb 17 16383) rfl rfl (one_of HT_.out (by kernel_rfl)) (by decide) (fun K hK => ?_)
              refine value_ (w1 := ?_) (v := ?_) (by rfl) rfl ?_ ?_
              rotate_left 2
              ·go_simp
               constructor
               ·rfl
               ·rfl
              refine hK.out _ _ ⟨(blk_cell (blk_alloc BK308.out _) 0).trans rfl, (blk_cell (blk_alloc BK308.out _) 1).trans rfl, (blk_cell (blk_alloc BK308.out _) 2).trans rfl, (blk_cell (blk_alloc BK308.out _) 3).trans rfl, (blk_cell (blk_alloc BK308.out _) 4).trans rfl, (blk_cell (blk_alloc BK299.out _) 0).trans rfl, (blk_cell (blk_alloc BK299.out _) 1).trans rfl, (blk_cell (blk_alloc BK299.out _) 2).trans rfl, (blk_cell (blk_alloc BK299.out _) 3).trans rfl, (blk_cell (blk_alloc BK299.out _) 4).trans rfl, (blk_cell (blk_alloc BK300.out _) 0).trans rfl, (blk_cell (blk_alloc BK300.out _) 1).trans rfl, (blk_cell (blk_alloc BK300.out _) 2).trans rfl, (blk_cell (blk_alloc BK300.out _) 3).trans rfl, (blk_cell (blk_alloc BK300.out _) 4).trans rfl, (World.cell?_alloc_lt _ _ _ (World.block_lt_of_cell? _ _ (((HB.out.cell (World.block_lt_of_cell? w _ hw319_0)).trans hw319_0)))).trans (((HB.out.cell (World.block_lt_of_cell? w _ hw319_0)).trans hw319_0)), (World.cell?_alloc_lt _ _ _ (World.block_lt_of_cell? _ _ (((HB.out.cell (World.block_lt_of_cell? w _ hw320_0)).trans hw320_0)))).trans (((HB.out.cell (World.block_lt_of_cell? w _ hw320_0)).trans hw320_0))⟩ (fun hHeld => ?_)
              clear hK K
              refine nm ?_
              refine one_ (i := 14) (N := some 70) (bb 17 32767) rfl rfl (one_of HT_.out (by kernel_rfl)) (by decide) (fun K hK => ?_)
              refine Kd.R_append_step (Kd.int .i64) (w0 := w) w.heap.size (by rfl) (.tmp 57) (.tmp 69) 22 3 (.int .i64 0) 8 rfl Try.underlying22 info3 rfl (by decide) (by omega) u309004 x309004_1 ji30 [.int .i64 ji30] (fun k_ => some k_ ≠ (.slice Ao14 y305.length co14 : Value).ownBlock ∧ some k_ ≠ (.slice Ao38 y311.length co38 : Value).ownBlock ∧ some k_ ≠ (.slice Ao43 y316.length co43 : Value).ownBlock) (fun _ => False) rfl rfl ?aP (fun _ hk => hk.elim) ?aF ?aO ?aB ?aS ?aL ?_
              (case aP => exact rfl)
              (case aB => exact (wmv HB.out))
              (case aF => exact (fun k_ hk => ⟨Kd.fresh' (Kd.R_lt (Kd.R_mv HO_309000.out)) k_ hk, Kd.fresh' (Kd.R_lt (Kd.R_mv HO313.out)) k_ hk, Kd.fresh' (Kd.R_lt (Kd.R_mv HO318.out)) k_ hk⟩))
              (case aO => exact (Kd.R_mv HO_309004.out))
              (case aS => exact (below_size (wmv HB.out)))
              (case aL => have := LMc31.out; omega)
              intro v322 w47 ho hb hg hat
              rw [← Ny321.out] at ho
              have n0_ := am (Kd.R_after (ok := (fun k_ => some k_ ≠ (.slice Ao38 y311.length co38 : Value).ownBlock ∧ some k_ ≠ (.slice Ao43 y316.length co43 : Value).ownBlock)) (Kd.R_mv (Kd.R_mono HO_309000.out (fun _ hk => ⟨⟨hk.2.1, hk.2.2⟩, hk.1⟩))) hg hat)
              have n1_ := am (blk_grown (bmv BK299.out) hg (Kd.R_ne HO_309004.out BK299.out (by decide)))
              have n2_ := am (blk_grown (bmv BK300.out) hg (Kd.R_ne HO_309004.out BK300.out (by decide)))
              have n3_ := am (blk_grown (bmv BK301.out) hg (Kd.R_ne HO_309004.out BK301.out (by decide)))
              have n4_ := am (blk_grown (bmv BK308.out) hg (Kd.R_ne HO_309004.out BK308.out (by decide)))
              have n5_ := am (Kd.R_after (ok := (fun k_ => some k_ ≠ (.slice Ao14 y305.length co14 : Value).ownBlock ∧ some k_ ≠ (.slice Ao43 y316.length co43 : Value).ownBlock)) (Kd.R_mv (Kd.R_mono HO313.out (fun _ hk => ⟨⟨hk.1, hk.2.2⟩, hk.2.1⟩))) hg hat)
              have n6_ := am (Kd.R_after (ok := (fun k_ => some k_ ≠ (.slice Ao14 y305.length co14 : Value).ownBlock ∧ some k_ ≠ (.slice Ao38 y311.length co38 : Value).ownBlock)) (Kd.R_mv (Kd.R_mono HO318.out (fun _ hk => ⟨⟨hk.1, hk.2.2⟩, hk.2.1⟩))) hg hat)
              have n7_ := am (hb)
              have n8_ := am (ho)
              clear HO_309000 BK299 BK300 BK301 BK308 HO313 HO318 HB HO_309004
              revert n0_ n1_ n2_ n3_ n4_ n5_ n6_ n7_ n8_
              intro HO_309000 BK299 BK300 BK301 BK308 HO313 HO318 HB HO323
              clear ho hb hg hat
              obtain ⟨Ao48, co48, eo48⟩ := Kd.R_slice HO323.out
              (first | subst eo48 | (injection eo48 with f1_ f2_ f3_; have f4_ := f1_.symm; have f5_ := f3_.symm; clear f1_ f2_ f3_; subst f4_; subst f5_))
              refine hK.out _ _ ⟨bc BK308 0, bc BK308 1, bc BK308 2, bc BK308 3, bc BK308 4, bc BK299 0, bc BK299 1, bc BK299 2, bc BK299 3, bc BK299 4, bc BK300 0, bc BK300 1, bc BK300 2, bc BK300 3, bc BK300 4, ((HB.out.cell (World.block_lt_of_cell? w _ hw319_0)).trans hw319_0), ((HB.out.cell (World.block_lt_of_cell? w _ hw320_0)).trans hw320_0)⟩ (fun hHeld => ?_)
              clear hK K
              refine nm ?_
              refine pu (i := 15) (N := some 71) (bb 17 65535) HT_ ?_
              refine last_ (i := 16) (N := none) (bb 17 131071) rfl rfl (one_of HT_.out (by kernel_rfl)) (by decide) (fun K hK => ?_)
              have hs49 : w47.cell? ⟨gb308, 4, none⟩ = some (u309004) := (blk_cell BK308.out 4).trans rfl
              have hfs49 := blk_frozen BK308.out 4
              have hns49_0 := NB299_308.out
              have hns49_1 := NB300_308.out
              have hns49_2 := NB301_308.out
              have hms49_0 := NB308_299.out
              have hms49_1 := NB308_300.out
              have hms49_2 := NB308_301.out
              refine skip_ (w1 := ?_) (by rfl) rfl ?_ ?_
              rotate_left
              ·go_simp
               rfl
              refine hK.out _ _ ?_
              clear hK K
              refine done_ (done_of HT_.out (by kernel_rfl)) ?_
              try go_wp2
              go_roundg k1
              case measure => have := HK1.out; omega
              case rel => exact ⟨(wrap64 (x6_1 + 1)), (y311), (y316), (y321), (.slice Ao38 y311.length co38), (.slice Ao43 y316.length co43), (.slice Ao48 y321.length co48), (by first | rfl | (simp; done) | (simp [*]; done)), H', ⟨by have := HK1.out; omega⟩, ⟨by (with_reducible repeat (first | apply Kd.R_alloc | apply Kd.R_drewN | apply Kd.R_drew)); exact Kd.R_mono (Kd.R_far (p := ⟨gb308, 4, none⟩) (Kd.R_types HO_309000.out BK308.out (by decide)) (fun _ hk => hk.2) (.slice Ao48 y321.length co48)) (fun _ hk => ⟨hk.1.1.1, ⟨hk.1.1.2, hk.1.2⟩⟩)⟩, ⟨by (with_reducible repeat (first | apply Kd.R_alloc | apply Kd.R_drewN | apply Kd.R_drew)); exact Kd.R_mono (Kd.R_far (p := ⟨gb308, 4, none⟩) (Kd.R_types HO313.out BK308.out (by decide)) (fun _ hk => hk.2) (.slice Ao48 y321.length co48)) (fun _ hk => ⟨hk.1.1.1, ⟨hk.1.1.2, hk.1.2⟩⟩)⟩, ⟨by (with_reducible repeat (first | apply Kd.R_alloc | apply Kd.R_drewN | apply Kd.R_drew)); exact Kd.R_mono (Kd.R_far (p := ⟨gb308, 4, none⟩) (Kd.R_types HO318.out BK308.out (by decide)) (fun _ hk => hk.2) (.slice Ao48 y321.length co48)) (fun _ hk => ⟨hk.1.1.1, ⟨hk.1.1.2, hk.1.2⟩⟩)⟩, ⟨by (with_reducible repeat (first | apply Kd.R_alloc | apply Kd.R_drewN | apply Kd.R_drew)); exact Kd.R_mono (Kd.R_far (p := ⟨gb308, 4, none⟩) (Kd.R_types HO323.out BK308.out (by decide)) (fun _ hk => hk.2) (.slice Ao48 y321.length co48)) (fun _ hk => ⟨hk.1.1, ⟨hk.1.2.1, hk.1.2.2⟩⟩)⟩, ⟨by (with_reducible repeat (first | refine blk_drewN ?_ _ | refine blk_drew ?_ | refine blk_alloc ?_ _)); refine blk_far ?_ NB299_308.out _; (with_reducible repeat (first | refine blk_drewN ?_ _ | refine blk_drew ?_ | refine blk_alloc ?_ _)); exact BK299.out⟩, ⟨by (with_reducible repeat (first | refine blk_drewN ?_ _ | refine blk_drew ?_ | refine blk_alloc ?_ _)); refine blk_far ?_ NB300_308.out _; (with_reducible repeat (first | refine blk_drewN ?_ _ | refine blk_drew ?_ | refine blk_alloc ?_ _)); exact BK300.out⟩, ⟨by (with_reducible repeat (first | refine blk_drewN ?_ _ | refine blk_drew ?_ | refine blk_alloc ?_ _)); refine blk_far ?_ NB301_308.out _; (with_reducible repeat (first | refine blk_drewN ?_ _ | refine blk_drew ?_ | refine blk_alloc ?_ _)); exact BK301.out⟩, ⟨by (with_reducible repeat (first | refine blk_drewN ?_ _ | refine blk_drew ?_ | refine blk_alloc ?_ _)); refine blk_put (cs := #[.slice Ao14 y305.length co14, .int .i64 (wrap64 (a0_1 + a1_1)), .slice Ao38 y311.length co38, .slice Ao43 y316.length co43, u309004]) ?_ 4 _ rfl; (with_reducible repeat (first | refine blk_drewN ?_ _ | refine blk_drew ?_ | refine blk_alloc ?_ _)); exact BK308.out⟩, ⟨by repeat (first | (with_reducible first | exact HB.out | apply below_alloc | apply pw_below_drewN | apply below_drew1 | refine below_set ?_ GE299.out | refine below_set ?_ GE300.out | refine below_set ?_ GE301.out | refine below_set ?_ GE308.out) | exact HB.out)⟩⟩
             ·rw [if_neg c31] at H
              exact absurd H (by simp)
            ·rw [if_neg c29] at H
             exact absurd H (by simp)
           ·rw [if_neg c28] at H
            exact absurd H (by simp)
          ·rw [if_neg c27] at H
           exact absurd H (by simp)
         ·rw [if_neg c25] at H
          exact absurd H (by simp)
        ·rw [if_neg c24] at H
         exact absurd H (by simp)
       ·rw [if_neg c23] at H
        exact absurd H (by simp)
      ·rw [if_neg c22] at H
       exact absurd H (by simp)
     ·rw [if_neg c21] at H
      exact absurd H (by simp)
    ·rw [if_neg c20] at H
     have c20b0 : decide (x6_1 < (l0_2.length : Int)) = false := decide_eq_false c20
     clear c20
     simp only [Option.some.injEq, Prod.mk.injEq] at H
     obtain ⟨rfl, rfl, rfl, rfl, rfl⟩ := H
     have hnb50 := NB299_300.out
     have hnc50 := NB300_299.out
     have hnb51 := NB299_301.out
     have hnc51 := NB301_299.out
     have hnb52 := NB299_308.out
     have hnc52 := NB308_299.out
     have hcz53_0 : wr.cell? ⟨gb299, 0, none⟩ = some (.slice A0_0 l0_0.length c0_0) := (blk_cell BK299.out 0).trans rfl
     have hcz53_1 : wr.cell? ⟨gb299, 1, none⟩ = some (.int .i64 a0_1) := (blk_cell BK299.out 1).trans rfl
     have hcz53_2 : wr.cell? ⟨gb299, 2, none⟩ = some (.slice A0_2 l0_2.length c0_2) := (blk_cell BK299.out 2).trans rfl
     have hcz53_3 : wr.cell? ⟨gb299, 3, none⟩ = some (.slice A0_3 l0_3.length c0_3) := (blk_cell BK299.out 3).trans rfl
     have hcz53_4 : wr.cell? ⟨gb299, 4, none⟩ = some (.slice A0_4 l0_4.length c0_4) := (blk_cell BK299.out 4).trans rfl
     have hfz53_0 := blk_frozen BK299.out 0
     have hfz53_1 := blk_frozen BK299.out 1
     have hfz53_2 := blk_frozen BK299.out 2
     have hfz53_3 := blk_frozen BK299.out 3
     have hfz53_4 := blk_frozen BK299.out 4
     have hnb54 := NB308_300.out
     have hnc54 := NB300_308.out
     have hnb55 := NB308_301.out
     have hnc55 := NB301_308.out
     have hcz56_0 : wr.cell? ⟨gb308, 0, none⟩ = some (.slice Ao14 y305.length co14) := (blk_cell BK308.out 0).trans rfl
     have hcz56_1 : wr.cell? ⟨gb308, 1, none⟩ = some (.int .i64 (wrap64 (a0_1 + a1_1))) := (blk_cell BK308.out 1).trans rfl
     have hcz56_2 : wr.cell? ⟨gb308, 2, none⟩ = some (u309002) := (blk_cell BK308.out 2).trans rfl
     have hcz56_3 : wr.cell? ⟨gb308, 3, none⟩ = some (u309003) := (blk_cell BK308.out 3).trans rfl
     have hcz56_4 : wr.cell? ⟨gb308, 4, none⟩ = some (u309004) := (blk_cell BK308.out 4).trans rfl
     have hfz56_0 := blk_frozen BK308.out 0
     have hfz56_1 := blk_frozen BK308.out 1
     have hfz56_2 := blk_frozen BK308.out 2
     have hfz56_3 := blk_frozen BK308.out 3
     have hfz56_4 := blk_frozen BK308.out 4
     have hnb57 := NB301_300.out
     have hnc57 := NB300_301.out
     have hcz58_0 : wr.cell? ⟨gb301, 0, none⟩ = some (.slice none 0 0) := (blk_cell BK301.out 0).trans rfl
     have hcz58_1 : wr.cell? ⟨gb301, 1, none⟩ = some (.int .i64 0) := (blk_cell BK301.out 1).trans rfl
     have hcz58_2 : wr.cell? ⟨gb301, 2, none⟩ = some (.slice none 0 0) := (blk_cell BK301.out 2).trans rfl
     have hcz58_3 : wr.cell? ⟨gb301, 3, none⟩ = some (.slice none 0 0) := (blk_cell BK301.out 3).trans rfl
     have hcz58_4 : wr.cell? ⟨gb301, 4, none⟩ = some (.slice none 0 0) := (blk_cell BK301.out 4).trans rfl
     have hfz58_0 := blk_frozen BK301.out 0
     have hfz58_1 := blk_frozen BK301.out 1
     have hfz58_2 := blk_frozen BK301.out 2
     have hfz58_3 := blk_frozen BK301.out 3
     have hfz58_4 := blk_frozen BK301.out 4
     obtain ⟨Ao59, co59, eo59⟩ := Kd.R_slice HO_309002.out
     subst eo59
     obtain ⟨Ao60, co60, eo60⟩ := Kd.R_slice HO_309003.out
     subst eo60
     obtain ⟨Ao61, co61, eo61⟩ := Kd.R_slice HO_309004.out
     subst eo61
     go_wp2
     refine bodyPost_ret (results_cell_row rfl _ _ gb301 41 #[.slice Ao14 y305.length co14, .int .i64 (wrap64 (a0_1 + a1_1)), .slice Ao59 x309002_1.length co59, .slice Ao60 x309003_1.length co60, .slice Ao61 x309004_1.length co61] (0, 0) _ rfl (by (with_reducible repeat (first | refine blk_drewN ?_ _ | refine blk_drew ?_ | refine blk_alloc ?_ _)); refine blk_put (cs := #[.slice Ao14 y305.length co14, .int .i64 (wrap64 (a0_1 + a1_1)), .slice Ao59 x309002_1.length co59, .slice Ao60 x309003_1.length co60, .slice none 0 0]) ?_ 4 _ rfl; (with_reducible repeat (first | refine blk_drewN ?_ _ | refine blk_drew ?_ | refine blk_alloc ?_ _)); refine blk_put (cs := #[.slice Ao14 y305.length co14, .int .i64 (wrap64 (a0_1 + a1_1)), .slice Ao59 x309002_1.length co59, .slice none 0 0, .slice none 0 0]) ?_ 3 _ rfl; (with_reducible repeat (first | refine blk_drewN ?_ _ | refine blk_drew ?_ | refine blk_alloc ?_ _)); refine blk_put (cs := #[.slice Ao14 y305.length co14, .int .i64 (wrap64 (a0_1 + a1_1)), .slice none 0 0, .slice none 0 0, .slice none 0 0]) ?_ 2 _ rfl; (with_reducible repeat (first | refine blk_drewN ?_ _ | refine blk_drew ?_ | refine blk_alloc ?_ _)); refine blk_put (cs := #[.slice Ao14 y305.length co14, .int .i64 0, .slice none 0 0, .slice none 0 0, .slice none 0 0]) ?_ 1 _ rfl; (with_reducible repeat (first | refine blk_drewN ?_ _ | refine blk_drew ?_ | refine blk_alloc ?_ _)); refine blk_put (cs := #[.slice none 0 0, .int .i64 0, .slice none 0 0, .slice none 0 0, .slice none 0 0]) ?_ 0 _ rfl; (with_reducible repeat (first | refine blk_drewN ?_ _ | refine blk_drew ?_ | refine blk_alloc ?_ _)); exact BK301.out) Try.underlying41 rfl (by kernel_rfl)) rfl ?_
     exact ⟨_, _, _, _, by first | rfl | (simp [errW_none, errW_some] <;> rfl) | (simp [*, errW_none, errW_some] <;> rfl), by (with_reducible repeat (first | apply Kd.R_alloc | apply Kd.R_drewN | apply Kd.R_drew)); exact Kd.R_mono (Kd.R_far (p := ⟨gb301, 4, none⟩) (Kd.R_far (p := ⟨gb301, 3, none⟩) (Kd.R_far (p := ⟨gb301, 2, none⟩) (Kd.R_far (p := ⟨gb301, 1, none⟩) (Kd.R_far (p := ⟨gb301, 0, none⟩) (Kd.R_types HO_309000.out BK301.out (by decide)) (fun _ hk => hk.2) (.slice Ao14 y305.length co14)) (fun _ hk => hk.2) (.int .i64 (wrap64 (a0_1 + a1_1)))) (fun _ hk => hk.2) (.slice Ao59 x309002_1.length co59)) (fun _ hk => hk.2) (.slice Ao60 x309003_1.length co60)) (fun _ hk => hk.2) (.slice Ao61 x309004_1.length co61)) (fun _ hk => ⟨hk.1.1, ⟨hk.1.2.1, hk.1.2.2⟩⟩), by (with_reducible repeat (first | apply Kd.R_alloc | apply Kd.R_drewN | apply Kd.R_drew)); exact Kd.R_mono (Kd.R_far (p := ⟨gb301, 4, none⟩) (Kd.R_far (p := ⟨gb301, 3, none⟩) (Kd.R_far (p := ⟨gb301, 2, none⟩) (Kd.R_far (p := ⟨gb301, 1, none⟩) (Kd.R_far (p := ⟨gb301, 0, none⟩) (Kd.R_types HO_309002.out BK301.out (by decide)) (fun _ hk => hk.2) (.slice Ao14 y305.length co14)) (fun _ hk => hk.2) (.int .i64 (wrap64 (a0_1 + a1_1)))) (fun _ hk => hk.2) (.slice Ao59 x309002_1.length co59)) (fun _ hk => hk.2) (.slice Ao60 x309003_1.length co60)) (fun _ hk => hk.2) (.slice Ao61 x309004_1.length co61)) (fun _ hk => ⟨hk.1.1, ⟨hk.1.2.1, hk.1.2.2⟩⟩), by (with_reducible repeat (first | apply Kd.R_alloc | apply Kd.R_drewN | apply Kd.R_drew)); exact Kd.R_mono (Kd.R_far (p := ⟨gb301, 4, none⟩) (Kd.R_far (p := ⟨gb301, 3, none⟩) (Kd.R_far (p := ⟨gb301, 2, none⟩) (Kd.R_far (p := ⟨gb301, 1, none⟩) (Kd.R_far (p := ⟨gb301, 0, none⟩) (Kd.R_types HO_309003.out BK301.out (by decide)) (fun _ hk => hk.2) (.slice Ao14 y305.length co14)) (fun _ hk => hk.2) (.int .i64 (wrap64 (a0_1 + a1_1)))) (fun _ hk => hk.2) (.slice Ao59 x309002_1.length co59)) (fun _ hk => hk.2) (.slice Ao60 x309003_1.length co60)) (fun _ hk => hk.2) (.slice Ao61 x309004_1.length co61)) (fun _ hk => ⟨hk.1.1, ⟨hk.1.2.1, hk.1.2.2⟩⟩), by (with_reducible repeat (first | apply Kd.R_alloc | apply Kd.R_drewN | apply Kd.R_drew)); exact Kd.R_mono (Kd.R_far (p := ⟨gb301, 4, none⟩) (Kd.R_far (p := ⟨gb301, 3, none⟩) (Kd.R_far (p := ⟨gb301, 2, none⟩) (Kd.R_far (p := ⟨gb301, 1, none⟩) (Kd.R_far (p := ⟨gb301, 0, none⟩) (Kd.R_types HO_309004.out BK301.out (by decide)) (fun _ hk => hk.2) (.slice Ao14 y305.length co14)) (fun _ hk => hk.2) (.int .i64 (wrap64 (a0_1 + a1_1)))) (fun _ hk => hk.2) (.slice Ao59 x309002_1.length co59)) (fun _ hk => hk.2) (.slice Ao60 x309003_1.length co60)) (fun _ hk => hk.2) (.slice Ao61 x309004_1.length co61)) (fun _ hk => ⟨hk.1.1, ⟨hk.1.2.1, hk.1.2.2⟩⟩), by repeat (first | (with_reducible first | exact HB.out | apply below_alloc | apply pw_below_drewN | apply below_drew1 | refine below_set ?_ GE299.out | refine below_set ?_ GE300.out | refine below_set ?_ GE301.out | refine below_set ?_ GE308.out) | exact HB.out)⟩
 ·rw [if_neg c3] at H
  exact absurd H (by simp)
def hypercubelaw1_within.f (a0 : Int) (a1 : Int) : Option (Int) := if a1 = 0 then (none) else (if (Int.tmod a0 a1) < 0 then (some (wrap64 ((Int.tmod a0 a1) + a1))) else (some (Int.tmod a0 a1)))
set_option maxHeartbeats 8000000 in
set_option maxRecDepth 100000 in
theorem hypercubelaw1_within.calls (a0 : Int) (a1 : Int) (r : Int) (w : World) (h : hypercubelaw1_within.f a0 a1 = some r) :
  Calls Try.prog 25 #[.int .i64 a0, .int .i64 a1] w fun e w' => e = .returned (.int .i64 r) ∧ Drawn0 w w' := by
 have H : (if a1 = 0 then (none) else (if (Int.tmod a0 a1) < 0 then (some (wrap64 ((Int.tmod a0 a1) + a1))) else (some (Int.tmod a0 a1)))) = some r := h
 clear h
 by_cases c3 : a1 = 0
 ·rw [if_pos c3] at H
  exact absurd H (by simp)
 ·rw [if_neg c3] at H
  have c3b0 : (a1 == 0) = false := beq_eq_false_iff_ne.mpr c3
  have c3b1 : (a1 != 0) = true := bne_iff_ne.mpr c3
  by_cases c4 : (Int.tmod a0 a1) < 0
  ·rw [if_pos c4] at H
   have c4b0 : decide ((Int.tmod a0 a1) < 0) = true := decide_eq_true c4
   clear c4
   obtain rfl := Option.some.inj H
   go_enter Try.func25, Try.ntmps25
   go_wp2
   go_ret
   exact ⟨by first | rfl | (simp; done) | (simp [*]; done), by repeat (first | exact Drawn0.refl _ | apply Drawn0.step)⟩
  ·rw [if_neg c4] at H
   have c4b0 : decide ((Int.tmod a0 a1) < 0) = false := decide_eq_false c4
   clear c4
   obtain rfl := Option.some.inj H
   go_enter Try.func25, Try.ntmps25
   go_wp2
   go_ret
   exact ⟨by first | rfl | (simp; done) | (simp [*]; done), by repeat (first | exact Drawn0.refl _ | apply Drawn0.step)⟩
mutual
def hypercubelaw1_Facts.l0 : Nat → Int → List Int → List Int → Int → List Int → Int → Option (List Int × Int × (List (S45)))
 | 0, _, _, _, _, _, _ => none
 | k + 1, x0, x1, x3, x11, x209000, x209001 => (hypercubelaw1_within.f x0 4).bind fun t209 => (if x11 ≤ t209 then (if x11 < (x1.length : Int) then (if 0 ≤ x11 then ((hypercubelaw1_within.f (rd x1 x11) 5).bind fun t211 => (if x209000.length < 17592186044416 then (hypercubelaw1_Facts.l0 k x0 x1 x3 (wrap64 (x11 + 1)) (x209000 ++ [wrap64 (1 + t211)]) x209001) else (none))) else (none)) else ((hypercubelaw1_within.f (wrap64 (x11 + 2)) 5).bind fun t215 => (if x209000.length < 17592186044416 then (hypercubelaw1_Facts.l0 k x0 x1 x3 (wrap64 (x11 + 1)) (x209000 ++ [wrap64 (1 + t215)]) x209001) else (none)))) else ((hypercubelaw1_within.f x0 7).bind fun t219 => (if t219 = 0 then (if 0 < (x209000.length : Int) then (hypercubelaw1_Facts.j1 k x3 (x209000.set (0 : Int).toNat 16) x209001) else (none)) else (hypercubelaw1_Facts.j1 k x3 x209000 x209001))))
def hypercubelaw1_Facts.j1 : Nat → List Int → List Int → Int → Option (List Int × Int × (List (S45)))
 | 0, _, _, _ => none
 | k + 1, x3, x209000, x209001 => hypercubelaw1_Facts.l1 k x3 ([] : List (S45)) 0 x209000 x209001
def hypercubelaw1_Facts.l1 : Nat → List Int → List (S45) → Int → List Int → Int → Option (List Int × Int × (List (S45)))
 | 0, _, _, _, _, _ => none
 | k + 1, x3, x13, x14, x209000, x209001 => if x14 < (x3.length : Int) then (hypercubelaw1_Facts.j3 k x3 x13 x14 (decide (x14 < 40)) x209000 x209001) else (hypercubelaw1_Facts.j3 k x3 x13 x14 false x209000 x209001)
def hypercubelaw1_Facts.j3 : Nat → List Int → List (S45) → Int → Bool → List Int → Int → Option (List Int × Int × (List (S45)))
 | 0, _, _, _, _, _, _ => none
 | k + 1, x3, x13, x14, x59, x209000, x209001 => if x59 = true then (if 0 ≤ x14 then (if x14 < (x3.length : Int) then (hypercubelaw1_Facts.l2 k x3 x13 x14 (rd x3 x14) 0 x209000 x209001 ([] : List Int)) else (none)) else (none)) else (some (x209000, x209001, x13))
def hypercubelaw1_Facts.l2 : Nat → List Int → List (S45) → Int → Int → Int → List Int → Int → List Int → Option (List Int × Int × (List (S45)))
 | 0, _, _, _, _, _, _, _, _ => none
 | k + 1, x3, x13, x14, x15, x17, x209000, x209001, x223000 => if x17 < (x209000.length : Int) then (if 0 ≤ x17 then ((hypercubelaw1_within.f x15 (rd x209000 x17)).bind fun t224 => (if x223000.length < 17592186044416 then (hypercubelaw1_Facts.l2 k x3 x13 x14 (wrap64 (Int.tdiv x15 5)) (wrap64 (x17 + 1)) x209000 x209001 (x223000 ++ [t224])) else (none))) else (none)) else (hypercubelaw1_Facts.l3 k x3 x13 x14 x15 0 x209000 x209001 x223000 ([] : List Int))
def hypercubelaw1_Facts.l3 : Nat → List Int → List (S45) → Int → Int → Int → List Int → Int → List Int → List Int → Option (List Int × Int × (List (S45)))
 | 0, _, _, _, _, _, _, _, _, _ => none
 | k + 1, x3, x13, x14, x15, x18, x209000, x209001, x223000, x223001 => if x18 < x209001 then ((hypercubelaw1_within.f (wrap64 (x15 + (wrap64 (7 * x18)))) 201).bind fun t228 => (if x223001.length < 17592186044416 then (hypercubelaw1_Facts.l3 k x3 x13 x14 x15 (wrap64 (x18 + 1)) x209000 x209001 x223000 (x223001 ++ [wrap64 (t228 - 100)])) else (none))) else (if x13.length < 2932031007402 then (hypercubelaw1_Facts.l1 k x3 (x13 ++ [(⟨x223000, x223001⟩ : S45)]) (wrap64 (x14 + 1)) x209000 x209001) else (none))
end
def hypercubelaw1_Facts.f (k : Nat) (a0 : Int) (l1 : List Int) (a2 : Int) (l3 : List Int) : Option (List Int × Int × (List (S45))) := (hypercubelaw1_within.f a2 3).bind fun t207 => (hypercubelaw1_Facts.l0 k a0 l1 l3 0 ([] : List Int) t207)
def hypercubelaw1_Facts.T8 : Bool × List (List Nat × List Nat) := (true, [([], []), ([0], [0]), ([], []), ([2], [2]), ([3], [3]), ([4], [4]), ([1, 5, 3], [1, 5]), ([0, 1, 2, 3, 4, 5, 6], []), ([7, 6, 6, 0, 1, 2, 3, 4, 5, 6], [6, 7])])
def hypercubelaw1_Facts.B8 : List Nat := [0, 1, 0, 4, 12, 28, 63, 127, 255]
theorem hypercubelaw1_Facts.tab8 : rtab .any (opsOf Try.f13 8) = hypercubelaw1_Facts.T8 := by kernel_rfl
theorem hypercubelaw1_Facts.bits8 : waitsOk hypercubelaw1_Facts.T8.2 hypercubelaw1_Facts.B8 = true := by kernel_rfl
def hypercubelaw1_Facts.T20 : Bool × List (List Nat × List Nat) := (true, [([], []), ([0], [0]), ([], []), ([], []), ([3], [3]), ([], []), ([4, 5], [4, 5]), ([6], [6]), ([2, 7], [2, 7]), ([8], [8]), ([1, 9, 8], [1, 9]), ([0, 1, 2, 3, 4, 5, 6, 7, 8, 9, 10], []), ([11, 10, 10, 0, 1, 2, 3, 4, 5, 6, 7, 8, 9, 10], [10, 11])])
def hypercubelaw1_Facts.B20 : List Nat := [0, 1, 0, 0, 8, 0, 56, 120, 252, 508, 1023, 2047, 4095]
theorem hypercubelaw1_Facts.tab20 : rtab .any (opsOf Try.f13 20) = hypercubelaw1_Facts.T20 := by kernel_rfl
theorem hypercubelaw1_Facts.bits20 : waitsOk hypercubelaw1_Facts.T20.2 hypercubelaw1_Facts.B20 = true := by kernel_rfl
def hypercubelaw1_Facts.T25 : Bool × List (List Nat × List Nat) := (true, [([], []), ([0], [0]), ([], []), ([], []), ([3], [3]), ([2, 4], [2, 4]), ([5], [5]), ([6], [6]), ([7], [7]), ([1, 8, 6], [1, 8]), ([0, 1, 2, 3, 4, 5, 6, 7, 8, 9], []), ([10, 9, 9, 0, 1, 2, 3, 4, 5, 6, 7, 8, 9], [9, 10])])
def hypercubelaw1_Facts.B25 : List Nat := [0, 1, 0, 0, 8, 28, 60, 124, 252, 511, 1023, 2047]
theorem hypercubelaw1_Facts.tab25 : rtab .any (opsOf Try.f13 25) = hypercubelaw1_Facts.T25 := by kernel_rfl
theorem hypercubelaw1_Facts.bits25 : waitsOk hypercubelaw1_Facts.T25.2 hypercubelaw1_Facts.B25 = true := by kernel_rfl
set_option maxHeartbeats 8000000 in
set_option maxRecDepth 100000 in
theorem hypercubelaw1_Facts.calls (k : Nat) (a0 : Int) (A1 : Option Addr) (c1 : Nat) (l1 : List Int) (a2 : Int) (A3 : Option Addr) (c3 : Nat) (l3 : List Int) (r1 : List Int) (r2 : Int) (r3 : List (S45)) (w : World) (hr1 : Kd.C (Kd.int .i64) w A1 l1.length l1) (hc1 : l1.length ≤ c1) (hr3 : Kd.C (Kd.int .i64) w A3 l3.length l3) (hc3 : l3.length ≤ c3) (h : hypercubelaw1_Facts.f k a0 l1 a2 l3 = some (r1, r2, r3)) :
  Calls Try.prog 13 #[.int .i64 a0, .slice A1 l1.length c1, .int .i64 a2, .slice A3 l3.length c3] w fun e w' => ∃ v0_ v2_ : Value, e = .returned (.tuple #[.agg #[v0_, .int .i64 r2], v2_]) ∧ Kd.R (Kd.int .i64) 3 w' w.heap.size (fun _ => True) v0_ r1 ∧ Kd.S k45 45 w' w.heap.size (fun k_ => some k_ ≠ (v0_ : Value).ownBlock) v2_ r3 ∧ Below w.heap.size w w' := by
 have hu25 := Try.underlying25
 have hu45 := Try.underlying45
 have HR1 := am hr1
 have HC1 := am hc1
 clear hr1 hc1
 have HR3 := am hr3
 have HC3 := am hc3
 clear hr3 hc3
 have HB := am (Below.refl w.heap.size w)
 have H : ((hypercubelaw1_within.f a2 3).bind fun t207 => (hypercubelaw1_Facts.l0 k a0 l1 l3 0 ([] : List Int) t207)) = some (r1, r2, r3) := h
 clear h
 replace H := Option.bind_eq_some_iff.mp H
 obtain ⟨t207, A50, H⟩ := H
 replace H : (hypercubelaw1_Facts.l0 k a0 l1 l3 0 ([] : List Int) t207) = some (r1, r2, r3) := H
 have A5 := am A50
 clear A50
 have H' := am H
 clear H
 go_enter Try.func13, Try.ntmps13
 go_wp2_with (first | ((with_reducible refine gate_dst (N := 8) rfl ?_); refine box_event ?hg (N := 8) ?hd (cs := #[.slice none 0 0, .int .i64 0]) (t := 25) ?hr ?_; (case hd => rfl); (case hg => rfl); (case hr => first | (go_simp; done) | (go_simp; rfl)); intro gb206 hg w6 hbox hb; have n0_ := am (below_step (by repeat (first | (with_reducible first | exact HB.out | apply below_alloc | apply pw_below_drewN | apply below_drew1) | exact HB.out)) hb); have n1_ := am (hbox); have n2_ := am ((by rw [hg]; exact (below_size (by repeat (first | (with_reducible first | exact HB.out | apply below_alloc | apply pw_below_drewN | apply below_drew1) | exact HB.out))) : w.heap.size ≤ gb206)); have n3_ := am ((by rw [hg]; exact (below_size (by repeat (first | (with_reducible first | exact HB.out | apply below_alloc | apply pw_below_drewN | apply below_drew1) | exact HB.out))) : w.heap.size ≤ gb206)); clear HB; revert n0_ n1_ n2_ n3_; intro HB BK206 GW206 GE206; clear hb hbox hg) | (go_at_call 25; (with_reducible refine (hypercubelaw1_within.calls a2 3 t207 _ A5.out).mono ?_); rintro e w' ⟨rfl, ⟨nd, rfl⟩⟩; (try (rw [drewN_self w6]; generalize hq_ : World.drewN w6 _ = w6; have n0_ : Aside0 (w6.heap[gb206]? = some (.cells #[.slice none 0 0, .int .i64 0] 25 (0, 0))) := ⟨by rw [← hq_]; exact (by (with_reducible repeat (first | refine blk_drewN ?_ _ | refine blk_drew ?_ | refine blk_alloc ?_ _)); exact BK206.out)⟩; have n1_ : Aside0 (Below w.heap.size w w6) := ⟨by rw [← hq_]; exact (by repeat (first | (with_reducible first | exact HB.out | apply below_alloc | apply pw_below_drewN | apply below_drew1 | refine below_set ?_ GE206.out) | exact HB.out))⟩; clear BK206 HB hq_; revert n0_ n1_; intro BK206 HB))) | ((with_reducible refine gate_dst (N := 10) rfl ?_); refine box_event ?hg (N := 10) ?hd (cs := #[.slice none 0 0, .int .i64 0]) (t := 25) ?hr ?_; (case hd => rfl); (case hg => rfl); (case hr => first | (go_simp; done) | (go_simp; rfl)); intro gb208 hg w7 hbox hb; have n0_ := am (blk_below (g := gb206) (o := .cells #[.slice none 0 0, .int .i64 0] 25 (0, 0)) (by (with_reducible repeat (first | refine blk_drewN ?_ _ | refine blk_drew ?_ | refine blk_alloc ?_ _)); exact BK206.out) hb); have n1_ := am (below_step (by repeat (first | (with_reducible first | exact HB.out | apply below_alloc | apply pw_below_drewN | apply below_drew1 | refine below_set ?_ GE206.out) | exact HB.out)) hb); have n2_ := am (hbox); have n3_ := am ((by rw [hg]; exact (below_size (by repeat (first | (with_reducible first | exact HB.out | apply below_alloc | apply pw_below_drewN | apply below_drew1 | refine below_set ?_ GE206.out) | exact HB.out))) : w.heap.size ≤ gb208)); have n4_ := am ((by rw [hg]; exact (below_size (by repeat (first | (with_reducible first | exact HB.out | apply below_alloc | apply pw_below_drewN | apply below_drew1 | refine below_set ?_ GE206.out) | exact HB.out))) : w.heap.size ≤ gb208)); have n5_ := am ((by rw [hg]; exact Nat.ne_of_lt (blk_lt (g := gb206) (o := .cells #[.slice none 0 0, .int .i64 0] 25 (0, 0)) (by (with_reducible repeat (first | refine blk_drewN ?_ _ | refine blk_drew ?_ | refine blk_alloc ?_ _)); exact BK206.out)) : gb206 ≠ gb208)); have n6_ := am ((by rw [hg]; exact Nat.ne_of_gt (blk_lt (g := gb206) (o := .cells #[.slice none 0 0, .int .i64 0] 25 (0, 0)) (by (with_reducible repeat (first | refine blk_drewN ?_ _ | refine blk_drew ?_ | refine blk_alloc ?_ _)); exact BK206.out)) : gb208 ≠ gb206)); clear BK206 HB; revert n0_ n1_ n2_ n3_ n4_ n5_ n6_; intro BK206 HB BK208 GW208 GE208 NB206_208 NB208_206; clear hb hbox hg; have hnb8 := NB208_206.out; have hnc8 := NB206_208.out; have hcz9_0 : w7.cell? ⟨gb208, 0, none⟩ = some (.slice none 0 0) := (blk_cell BK208.out 0).trans rfl; have hcz9_1 : w7.cell? ⟨gb208, 1, none⟩ = some (.int .i64 0) := (blk_cell BK208.out 1).trans rfl; have hfz9_0 := blk_frozen BK208.out 0; have hfz9_1 := blk_frozen BK208.out 1))
 go_loopg [11] k (fun kq v11 w' => ∃ (x11_1 : Int) (x209000_1 : List Int) (u209000 : Value), v11 = .int .i64 x11_1 ∧ Aside0 (hypercubelaw1_Facts.l0 kq a0 l1 l3 x11_1 x209000_1 t207 = some (r1, r2, r3)) ∧ Aside0 (kq ≤ k) ∧ Aside0 (Kd.R (Kd.int .i64) 3 w' w.heap.size (fun _ => True) u209000 x209000_1) ∧ Aside0 (w'.heap[gb206]? = some (.cells #[(.slice none 0 0), .int .i64 0] 25 (0, 0))) ∧ Aside0 (w'.heap[gb208]? = some (.cells #[u209000, .int .i64 t207] 25 (0, 0))) ∧ Aside0 (Below w.heap.size w w'))
 case atStart => exact ⟨(0), (([] : List Int)), (.slice none 0 0), (by first | rfl | (simp; done) | (simp [*]; done)), H', ⟨Nat.le_refl _⟩, ⟨by first | exact Kd.R_nil _ _ _ _ _ | exact Kd.N_nil _ _ _ _ _ | exact Kd.V_nil _ _ _ _ _ | exact Kd.Q_nil _ _ _ _ _ | exact Kd.S_nil _ _ _ _ _⟩, ⟨by (with_reducible repeat (first | refine blk_drewN ?_ _ | refine blk_drew ?_ | refine blk_alloc ?_ _)); refine blk_far ?_ NB206_208.out _; (with_reducible repeat (first | refine blk_drewN ?_ _ | refine blk_drew ?_ | refine blk_alloc ?_ _)); refine blk_far ?_ NB206_208.out _; (with_reducible repeat (first | refine blk_drewN ?_ _ | refine blk_drew ?_ | refine blk_alloc ?_ _)); exact BK206.out⟩, ⟨by (with_reducible repeat (first | refine blk_drewN ?_ _ | refine blk_drew ?_ | refine blk_alloc ?_ _)); refine blk_put (cs := #[.slice none 0 0, .int .i64 0]) ?_ 1 _ rfl; (with_reducible repeat (first | refine blk_drewN ?_ _ | refine blk_drew ?_ | refine blk_alloc ?_ _)); refine blk_put (cs := #[.slice none 0 0, .int .i64 0]) ?_ 0 _ rfl; (with_reducible repeat (first | refine blk_drewN ?_ _ | refine blk_drew ?_ | refine blk_alloc ?_ _)); exact BK208.out⟩, ⟨by repeat (first | (with_reducible first | exact HB.out | apply below_alloc | apply pw_below_drewN | apply below_drew1 | refine below_set ?_ GE206.out | refine below_set ?_ GE208.out) | exact HB.out)⟩⟩
 case round =>
  clear H'
  try clear c1
  try clear c2
  try clear p2
  try clear c3
  try clear c8
  try clear hcz9_0
  try clear hcz9_1
  try clear hfz9_0
  try clear hfz9_1
  obtain ⟨x11_1, x209000_1, u209000, rfl, HA, HK1, HO_209000, BK206, BK208, HB⟩ := hrel
  cases gk with
  | zero => exact absurd HA.out (by simp [hypercubelaw1_Facts.l0])
  | succ k1 =>
   have H := HA.out
   clear HA
   simp only [hypercubelaw1_Facts.l0] at H
   replace H := Option.bind_eq_some_iff.mp H
   obtain ⟨t209, A100, H⟩ := H
   replace H : (if x11_1 ≤ t209 then (if x11_1 < (l1.length : Int) then (if 0 ≤ x11_1 then ((hypercubelaw1_within.f (rd l1 x11_1) 5).bind fun t211 => (if x209000_1.length < 17592186044416 then (hypercubelaw1_Facts.l0 k1 a0 l1 l3 (wrap64 (x11_1 + 1)) (x209000_1 ++ [wrap64 (1 + t211)]) t207) else (none))) else (none)) else ((hypercubelaw1_within.f (wrap64 (x11_1 + 2)) 5).bind fun t215 => (if x209000_1.length < 17592186044416 then (hypercubelaw1_Facts.l0 k1 a0 l1 l3 (wrap64 (x11_1 + 1)) (x209000_1 ++ [wrap64 (1 + t215)]) t207) else (none)))) else ((hypercubelaw1_within.f a0 7).bind fun t219 => (if t219 = 0 then (if 0 < (x209000_1.length : Int) then (hypercubelaw1_Facts.j1 k1 l3 (x209000_1.set (0 : Int).toNat 16) t207) else (none)) else (hypercubelaw1_Facts.j1 k1 l3 x209000_1 t207)))) = some (r1, r2, r3) := H
   have A10 := am A100
   clear A100
   by_cases c11 : x11_1 ≤ t209
   ·rw [if_pos c11] at H
    have c11b0 : decide (x11_1 ≤ t209) = true := decide_eq_true c11
    clear c11
    by_cases c12 : x11_1 < (l1.length : Int)
    ·rw [if_pos c12] at H
     have c12b0 : decide (x11_1 < (l1.length : Int)) = true := decide_eq_true c12
     clear c12
     by_cases c13 : 0 ≤ x11_1
     ·rw [if_pos c13] at H
      have c13b0 : decide (0 ≤ x11_1) = true := decide_eq_true c13
      clear c13
      replace H := Option.bind_eq_some_iff.mp H
      obtain ⟨t211, A140, H⟩ := H
      replace H : (if x209000_1.length < 17592186044416 then (hypercubelaw1_Facts.l0 k1 a0 l1 l3 (wrap64 (x11_1 + 1)) (x209000_1 ++ [wrap64 (1 + t211)]) t207) else (none)) = some (r1, r2, r3) := H
      have A14 := am A140
      clear A140
      by_cases c15 : x209000_1.length < 17592186044416
      ·rw [if_pos c15] at H
       have LMc15 := am c15
       clear c15
       obtain ⟨y212, hy212⟩ : ∃ y_ : List Int, y_ = (x209000_1 ++ [wrap64 (1 + t211)]) := ⟨_, rfl⟩
       replace H : (hypercubelaw1_Facts.l0 k1 a0 l1 l3 (wrap64 (x11_1 + 1)) y212 t207) = some (r1, r2, r3) := by rw [hy212]; with_reducible exact H
       have Ny212 := am hy212
       clear hy212
       have H' := am H
       clear H
       try go_wp2_with (first | (go_at_call 25; (with_reducible refine (hypercubelaw1_within.calls a0 4 t209 _ A10.out).mono ?_); rintro e w' ⟨rfl, ⟨nd, rfl⟩⟩; (try (rw [drewN_self wr]; generalize hq_ : World.drewN wr _ = wr; have n0_ : Aside0 (Kd.R (Kd.int .i64) 3 wr w.heap.size (fun _ => True) u209000 x209000_1) := ⟨by rw [← hq_]; exact (by (with_reducible repeat (first | apply Kd.R_alloc | apply Kd.R_drewN | apply Kd.R_drew)); exact HO_209000.out)⟩; have n1_ : Aside0 (wr.heap[gb206]? = some (.cells #[.slice none 0 0, .int .i64 0] 25 (0, 0))) := ⟨by rw [← hq_]; exact (by (with_reducible repeat (first | refine blk_drewN ?_ _ | refine blk_drew ?_ | refine blk_alloc ?_ _)); exact BK206.out)⟩; have n2_ : Aside0 (wr.heap[gb208]? = some (.cells #[u209000, .int .i64 t207] 25 (0, 0))) := ⟨by rw [← hq_]; exact (by (with_reducible repeat (first | refine blk_drewN ?_ _ | refine blk_drew ?_ | refine blk_alloc ?_ _)); exact BK208.out)⟩; have n3_ : Aside0 (Below w.heap.size w wr) := ⟨by rw [← hq_]; exact (by repeat (first | (with_reducible first | exact HB.out | apply below_alloc | apply pw_below_drewN | apply below_drew1 | refine below_set ?_ GE206.out | refine below_set ?_ GE208.out) | exact HB.out))⟩; clear HO_209000 BK206 BK208 HB hq_; revert n0_ n1_ n2_ n3_; intro HO_209000 BK206 BK208 HB)); have p210 : 0 ≤ (x11_1 : Int) := of_decide_eq_true (by first | (with_reducible assumption) | assumption); have q210 : x11_1 < (l1.length : Int) := of_decide_eq_true (by first | (with_reducible assumption) | assumption); obtain ⟨ad210, e210, hx210_0⟩ := Kd.at_int HR1.out x11_1 p210 q210; cases e210; replace hx210_0 := (HB.out.cell (World.block_lt_of_cell? w _ hx210_0)).trans hx210_0; replace p210 := eq_true p210; replace q210 := eq_true q210))
       have n0_ := am (Kd.R_drew HO_209000.out)
       have n1_ := am (blk_drew BK206.out)
       have n2_ := am (blk_drew BK208.out)
       have n3_ := am (below_drew1 HB.out)
       clear HO_209000 BK206 BK208 HB
       revert n0_ n1_ n2_ n3_
       intro HO_209000 BK206 BK208 HB
       refine start_ (n := 9) (S := fun w' => w'.cell? ⟨gb208, 0, none⟩ = some (u209000) ∧ w'.cell? ⟨gb208, 1, none⟩ = some (.int .i64 t207)) (ds := [8]) (bb 9 0) (by kernel_rfl) rfl rfl ⟨bc BK208 0, bc BK208 1⟩ (fun hHeld => ?_); refine with_tabW hypercubelaw1_Facts.tab8 hypercubelaw1_Facts.bits8 (fun HT_ HW_ => ?_)
       generalize wr.drew = w16 at HO_209000 BK206 BK208 HB hHeld ⊢
       refine pu (i := 0) (N := some 38) (bb 9 1) HT_ ?_
       refine pu (i := 2) (N := some 40) (bb 9 5) HT_ ?_
       refine tk (i := 1) (N := some 39) (bb 9 7) HT_ HW_ hHeld ?_
       refine one_ (i := 3) (N := some 41) (bb 9 15) rfl rfl (one_of HT_.out (by kernel_rfl)) (by decide) (fun K hK => ?_)
       refine goes_ Try.func25 (by kernel_rfl) rfl #[.int .i64 (rd l1 x11_1), .int .i64 5] (by rfl) rfl rfl (by (try simp only [List.map_toArray, List.map_cons, List.map_nil]); first | done | rfl | (simp only [List.length_drop, List.length_take]; rfl)) ?_
       with_reducible refine (hypercubelaw1_within.calls (rd l1 x11_1) 5 t211 _ A14.out).mono ?_
       rintro e w' ⟨rfl, ⟨nd, rfl⟩⟩
       refine ⟨_, rfl, ?_⟩
       refine hK.out _ _ ⟨bc BK208 0, bc BK208 1⟩ (fun hHeld => ?_)
       clear hK K
       refine nm ?_
       refine pu (i := 4) (N := some 42) (bb 9 31) HT_ ?_
       refine one_ (i := 5) (N := some 43) (bb 9 63) rfl rfl (one_of HT_.out (by kernel_rfl)) (by decide) (fun K hK => ?_)
       refine value_ (w1 := ?_) (v := ?_) (by rfl) rfl ?_ ?_
       rotate_left 2
       ·go_simp
        constructor
        ·rfl
        ·rfl
       refine hK.out _ _ ⟨(blk_cell (blk_alloc BK208.out _) 0).trans rfl, (blk_cell (blk_alloc BK208.out _) 1).trans rfl⟩ (fun hHeld => ?_)
       clear hK K
       refine nm ?_
       refine one_ (i := 6) (N := some 44) (bb 9 127) rfl rfl (one_of HT_.out (by kernel_rfl)) (by decide) (fun K hK => ?_)
       refine Kd.R_append_step (Kd.int .i64) (w0 := w) w.heap.size (by rfl) (.tmp 39) (.tmp 43) 22 3 (.int .i64 0) 8 rfl Try.underlying22 info3 rfl (by decide) (by omega) u209000 x209000_1 (wrap64 (1 + t211)) [.int .i64 (wrap64 (1 + t211))] (fun _ => True) (fun _ => False) rfl rfl ?aP (fun _ hk => hk.elim) ?aF ?aO ?aB ?aS ?aL ?_
       (case aP => exact rfl)
       (case aB => exact (wmv HB.out))
       (case aF => exact (fun _ _ => trivial))
       (case aO => exact (Kd.R_mv HO_209000.out))
       (case aS => exact (below_size (wmv HB.out)))
       (case aL => have := LMc15.out; omega)
       intro v213 w17 ho hb hg hat
       rw [← Ny212.out] at ho
       have n0_ := am (blk_grown (bmv BK206.out) hg (Kd.R_ne HO_209000.out BK206.out (by decide)))
       have n1_ := am (blk_grown (bmv BK208.out) hg (Kd.R_ne HO_209000.out BK208.out (by decide)))
       have n2_ := am (hb)
       have n3_ := am (ho)
       clear BK206 BK208 HB HO_209000
       revert n0_ n1_ n2_ n3_
       intro BK206 BK208 HB HO214
       clear ho hb hg hat
       obtain ⟨Ao18, co18, eo18⟩ := Kd.R_slice HO214.out
       (first | subst eo18 | (injection eo18 with f1_ f2_ f3_; have f4_ := f1_.symm; have f5_ := f3_.symm; clear f1_ f2_ f3_; subst f4_; subst f5_))
       refine hK.out _ _ ⟨bc BK208 0, bc BK208 1⟩ (fun hHeld => ?_)
       clear hK K
       refine nm ?_
       refine pu (i := 7) (N := some 45) (bb 9 255) HT_ ?_
       refine last_ (i := 8) (N := none) (bb 9 511) rfl rfl (one_of HT_.out (by kernel_rfl)) (by decide) (fun K hK => ?_)
       have hs19 : w17.cell? ⟨gb208, 0, none⟩ = some (u209000) := (blk_cell BK208.out 0).trans rfl
       have hfs19 := blk_frozen BK208.out 0
       have hns19_0 := NB206_208.out
       have hms19_0 := NB208_206.out
       refine skip_ (w1 := ?_) (by rfl) rfl ?_ ?_
       rotate_left
       ·go_simp
        rfl
       refine hK.out _ _ ?_
       clear hK K
       refine done_ (done_of HT_.out (by kernel_rfl)) ?_
       try go_wp2
       go_roundg k1
       case measure => have := HK1.out; omega
       case rel => exact ⟨(wrap64 (x11_1 + 1)), (y212), (.slice Ao18 y212.length co18), (by first | rfl | (simp; done) | (simp [*]; done)), H', ⟨by have := HK1.out; omega⟩, ⟨by (with_reducible repeat (first | apply Kd.R_alloc | apply Kd.R_drewN | apply Kd.R_drew)); exact Kd.R_mono (Kd.R_far (p := ⟨gb208, 0, none⟩) (Kd.R_types HO214.out BK208.out (by decide)) (fun _ hk => hk.2) (.slice Ao18 y212.length co18)) (fun _ hk => trivial)⟩, ⟨by (with_reducible repeat (first | refine blk_drewN ?_ _ | refine blk_drew ?_ | refine blk_alloc ?_ _)); refine blk_far ?_ NB206_208.out _; (with_reducible repeat (first | refine blk_drewN ?_ _ | refine blk_drew ?_ | refine blk_alloc ?_ _)); exact BK206.out⟩, ⟨by (with_reducible repeat (first | refine blk_drewN ?_ _ | refine blk_drew ?_ | refine blk_alloc ?_ _)); refine blk_put (cs := #[u209000, .int .i64 t207]) ?_ 0 _ rfl; (with_reducible repeat (first | refine blk_drewN ?_ _ | refine blk_drew ?_ | refine blk_alloc ?_ _)); exact BK208.out⟩, ⟨by repeat (first | (with_reducible first | exact HB.out | apply below_alloc | apply pw_below_drewN | apply below_drew1 | refine below_set ?_ GE206.out | refine below_set ?_ GE208.out) | exact HB.out)⟩⟩
      ·rw [if_neg c15] at H
       exact absurd H (by simp)
     ·rw [if_neg c13] at H
      exact absurd H (by simp)
    ·rw [if_neg c12] at H
     have c12b0 : decide (x11_1 < (l1.length : Int)) = false := decide_eq_false c12
     clear c12
     replace H := Option.bind_eq_some_iff.mp H
     obtain ⟨t215, A200, H⟩ := H
     replace H : (if x209000_1.length < 17592186044416 then (hypercubelaw1_Facts.l0 k1 a0 l1 l3 (wrap64 (x11_1 + 1)) (x209000_1 ++ [wrap64 (1 + t215)]) t207) else (none)) = some (r1, r2, r3) := H
     have A20 := am A200
     clear A200
     by_cases c21 : x209000_1.length < 17592186044416
     ·rw [if_pos c21] at H
      have LMc21 := am c21
      clear c21
      obtain ⟨y216, hy216⟩ : ∃ y_ : List Int, y_ = (x209000_1 ++ [wrap64 (1 + t215)]) := ⟨_, rfl⟩
      replace H : (hypercubelaw1_Facts.l0 k1 a0 l1 l3 (wrap64 (x11_1 + 1)) y216 t207) = some (r1, r2, r3) := by rw [hy216]; with_reducible exact H
      have Ny216 := am hy216
      clear hy216
      have H' := am H
      clear H
      try go_wp2_with (first | (go_at_call 25; (with_reducible refine (hypercubelaw1_within.calls a0 4 t209 _ A10.out).mono ?_); rintro e w' ⟨rfl, ⟨nd, rfl⟩⟩; (try (rw [drewN_self wr]; generalize hq_ : World.drewN wr _ = wr; have n0_ : Aside0 (Kd.R (Kd.int .i64) 3 wr w.heap.size (fun _ => True) u209000 x209000_1) := ⟨by rw [← hq_]; exact (by (with_reducible repeat (first | apply Kd.R_alloc | apply Kd.R_drewN | apply Kd.R_drew)); exact HO_209000.out)⟩; have n1_ : Aside0 (wr.heap[gb206]? = some (.cells #[.slice none 0 0, .int .i64 0] 25 (0, 0))) := ⟨by rw [← hq_]; exact (by (with_reducible repeat (first | refine blk_drewN ?_ _ | refine blk_drew ?_ | refine blk_alloc ?_ _)); exact BK206.out)⟩; have n2_ : Aside0 (wr.heap[gb208]? = some (.cells #[u209000, .int .i64 t207] 25 (0, 0))) := ⟨by rw [← hq_]; exact (by (with_reducible repeat (first | refine blk_drewN ?_ _ | refine blk_drew ?_ | refine blk_alloc ?_ _)); exact BK208.out)⟩; have n3_ : Aside0 (Below w.heap.size w wr) := ⟨by rw [← hq_]; exact (by repeat (first | (with_reducible first | exact HB.out | apply below_alloc | apply pw_below_drewN | apply below_drew1 | refine below_set ?_ GE206.out | refine below_set ?_ GE208.out) | exact HB.out))⟩; clear HO_209000 BK206 BK208 HB hq_; revert n0_ n1_ n2_ n3_; intro HO_209000 BK206 BK208 HB))))
      have n0_ := am (Kd.R_drew HO_209000.out)
      have n1_ := am (blk_drew BK206.out)
      have n2_ := am (blk_drew BK208.out)
      have n3_ := am (below_drew1 HB.out)
      clear HO_209000 BK206 BK208 HB
      revert n0_ n1_ n2_ n3_
      intro HO_209000 BK206 BK208 HB
      refine start_ (n := 9) (S := fun w' => w'.cell? ⟨gb208, 0, none⟩ = some (u209000) ∧ w'.cell? ⟨gb208, 1, none⟩ = some (.int .i64 t207)) (ds := [8]) (bb 9 0) (by kernel_rfl) rfl rfl ⟨bc BK208 0, bc BK208 1⟩ (fun hHeld => ?_); refine with_tabW hypercubelaw1_Facts.tab8 hypercubelaw1_Facts.bits8 (fun HT_ HW_ => ?_)
      generalize wr.drew = w22 at HO_209000 BK206 BK208 HB hHeld ⊢
      refine pu (i := 0) (N := some 38) (bb 9 1) HT_ ?_
      refine pu (i := 2) (N := some 40) (bb 9 5) HT_ ?_
      refine tk (i := 1) (N := some 39) (bb 9 7) HT_ HW_ hHeld ?_
      refine one_ (i := 3) (N := some 41) (bb 9 15) rfl rfl (one_of HT_.out (by kernel_rfl)) (by decide) (fun K hK => ?_)
      refine goes_ Try.func25 (by kernel_rfl) rfl #[.int .i64 (wrap64 (x11_1 + 2)), .int .i64 5] (by rfl) rfl rfl (by (try simp only [List.map_toArray, List.map_cons, List.map_nil]); first | done | rfl | (simp only [List.length_drop, List.length_take]; rfl)) ?_
      with_reducible refine (hypercubelaw1_within.calls (wrap64 (x11_1 + 2)) 5 t215 _ A20.out).mono ?_
      rintro e w' ⟨rfl, ⟨nd, rfl⟩⟩
      refine ⟨_, rfl, ?_⟩
      refine hK.out _ _ ⟨bc BK208 0, bc BK208 1⟩ (fun hHeld => ?_)
      clear hK K
      refine nm ?_
      refine pu (i := 4) (N := some 42) (bb 9 31) HT_ ?_
      refine one_ (i := 5) (N := some 43) (bb 9 63) rfl rfl (one_of HT_.out (by kernel_rfl)) (by decide) (fun K hK => ?_)
      refine value_ (w1 := ?_) (v := ?_) (by rfl) rfl ?_ ?_
      rotate_left 2
      ·go_simp
       constructor
       ·rfl
       ·rfl
      refine hK.out _ _ ⟨(blk_cell (blk_alloc BK208.out _) 0).trans rfl, (blk_cell (blk_alloc BK208.out _) 1).trans rfl⟩ (fun hHeld => ?_)
      clear hK K
      refine nm ?_
      refine one_ (i := 6) (N := some 44) (bb 9 127) rfl rfl (one_of HT_.out (by kernel_rfl)) (by decide) (fun K hK => ?_)
      refine Kd.R_append_step (Kd.int .i64) (w0 := w) w.heap.size (by rfl) (.tmp 39) (.tmp 43) 22 3 (.int .i64 0) 8 rfl Try.underlying22 info3 rfl (by decide) (by omega) u209000 x209000_1 (wrap64 (1 + t215)) [.int .i64 (wrap64 (1 + t215))] (fun _ => True) (fun _ => False) rfl rfl ?aP (fun _ hk => hk.elim) ?aF ?aO ?aB ?aS ?aL ?_
      (case aP => exact rfl)
      (case aB => exact (wmv HB.out))
      (case aF => exact (fun _ _ => trivial))
      (case aO => exact (Kd.R_mv HO_209000.out))
      (case aS => exact (below_size (wmv HB.out)))
      (case aL => have := LMc21.out; omega)
      intro v217 w23 ho hb hg hat
      rw [← Ny216.out] at ho
      have n0_ := am (blk_grown (bmv BK206.out) hg (Kd.R_ne HO_209000.out BK206.out (by decide)))
      have n1_ := am (blk_grown (bmv BK208.out) hg (Kd.R_ne HO_209000.out BK208.out (by decide)))
      have n2_ := am (hb)
      have n3_ := am (ho)
      clear BK206 BK208 HB HO_209000
      revert n0_ n1_ n2_ n3_
      intro BK206 BK208 HB HO218
      clear ho hb hg hat
      obtain ⟨Ao24, co24, eo24⟩ := Kd.R_slice HO218.out
      (first | subst eo24 | (injection eo24 with f1_ f2_ f3_; have f4_ := f1_.symm; have f5_ := f3_.symm; clear f1_ f2_ f3_; subst f4_; subst f5_))
      refine hK.out _ _ ⟨bc BK208 0, bc BK208 1⟩ (fun hHeld => ?_)
      clear hK K
      refine nm ?_
      refine pu (i := 7) (N := some 45) (bb 9 255) HT_ ?_
      refine last_ (i := 8) (N := none) (bb 9 511) rfl rfl (one_of HT_.out (by kernel_rfl)) (by decide) (fun K hK => ?_)
      have hs25 : w23.cell? ⟨gb208, 0, none⟩ = some (u209000) := (blk_cell BK208.out 0).trans rfl
      have hfs25 := blk_frozen BK208.out 0
      have hns25_0 := NB206_208.out
      have hms25_0 := NB208_206.out
      refine skip_ (w1 := ?_) (by rfl) rfl ?_ ?_
      rotate_left
      ·go_simp
       rfl
      refine hK.out _ _ ?_
      clear hK K
      refine done_ (done_of HT_.out (by kernel_rfl)) ?_
      try go_wp2
      go_roundg k1
      case measure => have := HK1.out; omega
      case rel => exact ⟨(wrap64 (x11_1 + 1)), (y216), (.slice Ao24 y216.length co24), (by first | rfl | (simp; done) | (simp [*]; done)), H', ⟨by have := HK1.out; omega⟩, ⟨by (with_reducible repeat (first | apply Kd.R_alloc | apply Kd.R_drewN | apply Kd.R_drew)); exact Kd.R_mono (Kd.R_far (p := ⟨gb208, 0, none⟩) (Kd.R_types HO218.out BK208.out (by decide)) (fun _ hk => hk.2) (.slice Ao24 y216.length co24)) (fun _ hk => trivial)⟩, ⟨by (with_reducible repeat (first | refine blk_drewN ?_ _ | refine blk_drew ?_ | refine blk_alloc ?_ _)); refine blk_far ?_ NB206_208.out _; (with_reducible repeat (first | refine blk_drewN ?_ _ | refine blk_drew ?_ | refine blk_alloc ?_ _)); exact BK206.out⟩, ⟨by (with_reducible repeat (first | refine blk_drewN ?_ _ | refine blk_drew ?_ | refine blk_alloc ?_ _)); refine blk_put (cs := #[u209000, .int .i64 t207]) ?_ 0 _ rfl; (with_reducible repeat (first | refine blk_drewN ?_ _ | refine blk_drew ?_ | refine blk_alloc ?_ _)); exact BK208.out⟩, ⟨by repeat (first | (with_reducible first | exact HB.out | apply below_alloc | apply pw_below_drewN | apply below_drew1 | refine below_set ?_ GE206.out | refine below_set ?_ GE208.out) | exact HB.out)⟩⟩
     ·rw [if_neg c21] at H
      exact absurd H (by simp)
   ·rw [if_neg c11] at H
    have c11b0 : decide (x11_1 ≤ t209) = false := decide_eq_false c11
    clear c11
    replace H := Option.bind_eq_some_iff.mp H
    obtain ⟨t219, A260, H⟩ := H
    replace H : (if t219 = 0 then (if 0 < (x209000_1.length : Int) then (hypercubelaw1_Facts.j1 k1 l3 (x209000_1.set (0 : Int).toNat 16) t207) else (none)) else (hypercubelaw1_Facts.j1 k1 l3 x209000_1 t207)) = some (r1, r2, r3) := H
    have A26 := am A260
    clear A260
    have HC27 := am H
    clear H
    go_upto_if 48 with (first | (go_at_call 25; (with_reducible refine (hypercubelaw1_within.calls a0 4 t209 _ A10.out).mono ?_); rintro e w' ⟨rfl, ⟨nd, rfl⟩⟩) | (go_at_call 25; (with_reducible refine (hypercubelaw1_within.calls a0 7 t219 _ A26.out).mono ?_); rintro e w' ⟨rfl, ⟨nd, rfl⟩⟩))
    (try simp only [Act.put, List.setIfInBounds_toArray, List.set_cons_zero, List.set_cons_succ])
    go_cut [] (fun wc => ∃ (kq : Nat) (x209000_26 : List Int) (u209000 : Value), Aside0 (hypercubelaw1_Facts.j1 kq l3 x209000_26 t207 = some (r1, r2, r3)) ∧ Aside0 (kq ≤ k1) ∧ Aside0 (Kd.R (Kd.int .i64) 3 wc w.heap.size (fun _ => True) u209000 x209000_26) ∧ Aside0 (wc.heap[gb206]? = some (.cells #[(.slice none 0 0), .int .i64 0] 25 (0, 0))) ∧ Aside0 (wc.heap[gb208]? = some (.cells #[u209000, .int .i64 t207] 25 (0, 0))) ∧ Aside0 (Below w.heap.size w wc))
    case first =>
     have H := HC27.out
     clear HC27
     by_cases c28 : t219 = 0
     ·rw [if_pos c28] at H
      have c28b0 : (t219 == 0) = true := beq_iff_eq.mpr c28
      have c28b1 : (t219 != 0) = false := bne_eq_false_iff_eq.mpr c28
      clear c28
      (first | rw [c28b0] | (simp only [i64_w, i32_w]; rw [c28b0]) | skip)
      by_cases c29 : 0 < (x209000_1.length : Int)
      ·rw [if_pos c29] at H
       have c29b0 : decide (0 < (x209000_1.length : Int)) = true := decide_eq_true c29
       have c29b1 : decide (0 < x209000_1.length) = true := decide_eq_true (by omega)
       clear c29
       obtain ⟨y220, hy220⟩ : ∃ y_ : List Int, y_ = (x209000_1.set (0 : Int).toNat 16) := ⟨_, rfl⟩
       replace H : (hypercubelaw1_Facts.j1 k1 l3 y220 t207) = some (r1, r2, r3) := by rw [hy220]; with_reducible exact H
       have Ny220 := am hy220
       clear hy220
       have H' := am H
       clear H
       have hnb31 := NB208_206.out
       have hnc31 := NB206_208.out
       have hcz32_0 : wr.cell? ⟨gb208, 0, none⟩ = some (u209000) := (blk_cell BK208.out 0).trans rfl
       have hcz32_1 : wr.cell? ⟨gb208, 1, none⟩ = some (.int .i64 t207) := (blk_cell BK208.out 1).trans rfl
       have hfz32_0 := blk_frozen BK208.out 0
       have hfz32_1 := blk_frozen BK208.out 1
       have p30 : 0 ≤ (0 : Int) := (by omega)
       have q30 : (0 : Int) < ((x209000_1.length : Int) : Int) := of_decide_eq_true (by first | (with_reducible assumption) | assumption)
       have qi30 : (0 < x209000_1.length) = True := eq_true (by omega)
       obtain ⟨go30, co30, eo30, gb30, gl30, cl30, HG30⟩ := Kd.R_form HO_209000.out (by omega)
       (first | cases eo30 | (injection eo30 with ea_ en_ ec_; (first | subst ea_ | (injection ea_ with ea_; subst ea_)); subst ec_; clear en_))
       have GB30 := am gb30
       have GG30 := am HG30
       clear gb30 gl30 HG30
       obtain ⟨hx30_0, hf30_0⟩ := Kd.R_celln 0 HO_209000.out (0 : Int) p30 q30
       (try rw [show ((0 : Int)).toNat = 0 from rfl] at hx30_0)
       (try simp only [Nat.reduceMul, Nat.zero_mul, Nat.zero_add, Nat.reduceAdd] at hx30_0)
       (try rw [show ((0 : Int)).toNat = 0 from rfl] at hf30_0)
       (try simp only [Nat.reduceMul, Nat.zero_mul, Nat.zero_add, Nat.reduceAdd] at hf30_0)
       replace p30 := eq_true p30
       replace q30 := eq_true q30
       have HP33 := Kd.R_putg HO_209000.out (0 : Int) 16
       go_wp2_with (first | ((with_reducible refine gate_store (t := 3) (p := 51) rfl ?_); refine store_event (t := 3) (p := 51) (v := ?vo_w34) (w1 := (wr.setCell ⟨go30, (0 : Int).toNat, none⟩ (.int .i64 16))) ?hg ?ho ?hn ?hr ?_; (case ho => rfl); (case hg => rfl); (case hn => rfl); (case hr => first | (go_simp; done) | (go_simp; rfl)); intro w34 hw; have hg : wr.grownBy w34 (some go30) := (by rw [hw]; exact HP33.2); have hp_ : Kd.R (Kd.int .i64) 3 w34 w.heap.size (fun _ => True) (.slice (some ⟨go30, 0, none⟩) x209000_1.length co30) y220 := (by rw [hw, Ny220.out]; exact HP33.1); clear HP33; have n0_ := am (hp_); have n1_ := am (blk_grown (bmv BK206.out) hg (Kd.R_ne HO_209000.out BK206.out (by decide))); have n2_ := am (blk_grown (bmv BK208.out) hg (Kd.R_ne HO_209000.out BK208.out (by decide))); have n3_ := am ((by rw [hw]; exact below_set (HB.out) GB30.out : Below w.heap.size w w34)); clear HO_209000 BK206 BK208 HB; revert n0_ n1_ n2_ n3_; intro HO_209000 BK206 BK208 HB; clear hg hw hp_))
       go_meet
       case rel => exact ⟨_, (y220), (.slice (some ⟨go30, 0, none⟩) x209000_1.length co30), H', ⟨by have := HK1.out; first | omega | exact Nat.le_refl _⟩, ⟨by rw [Ny220.out]; exact (Kd.R_putg (Kd.R_drewN HO_209000.out _) (0 : Int) 16).1⟩, ⟨blk_grown (blk_drewN BK206.out _) (Kd.R_putg (Kd.R_drewN HO_209000.out _) (0 : Int) 16).2 (Kd.R_ne HO_209000.out BK206.out (by decide))⟩, ⟨blk_grown (blk_drewN BK208.out _) (Kd.R_putg (Kd.R_drewN HO_209000.out _) (0 : Int) 16).2 (Kd.R_ne HO_209000.out BK208.out (by decide))⟩, ⟨below_set (pw_below_drewN HB.out _) GB30.out⟩⟩
      ·rw [if_neg c29] at H
       exact absurd H (by simp)
     ·rw [if_neg c28] at H
      have c28b0 : (t219 == 0) = false := beq_eq_false_iff_ne.mpr c28
      have c28b1 : (t219 != 0) = true := bne_iff_ne.mpr c28
      (first | rw [c28b0] | (simp only [i64_w, i32_w]; rw [c28b0]) | skip)
      have H' := am H
      clear H
      go_wp2
      go_meet
      case rel => exact ⟨_, (x209000_1), (u209000), H', ⟨by have := HK1.out; first | omega | exact Nat.le_refl _⟩, ⟨by (with_reducible repeat (first | apply Kd.R_alloc | apply Kd.R_drewN | apply Kd.R_drew)); exact HO_209000.out⟩, ⟨by (with_reducible repeat (first | refine blk_drewN ?_ _ | refine blk_drew ?_ | refine blk_alloc ?_ _)); exact BK206.out⟩, ⟨by (with_reducible repeat (first | refine blk_drewN ?_ _ | refine blk_drew ?_ | refine blk_alloc ?_ _)); exact BK208.out⟩, ⟨by repeat (first | (with_reducible first | exact HB.out | apply below_alloc | apply pw_below_drewN | apply below_drew1 | refine below_set ?_ GE206.out | refine below_set ?_ GE208.out) | exact HB.out)⟩⟩
    case rest =>
     clear HC27
     try clear c1
     try clear c2
     try clear p2
     try clear q2
     try clear hx2
     try clear c3
     try clear p3
     try clear q3
     try clear hx3
     try clear qi3
     try clear p6
     try clear c8
     try clear c11
     try clear c11b0
     try clear c12
     try clear c12b0
     try clear c13
     try clear c13b0
     try clear c15
     try clear c21
     try clear p21
     try clear q21
     try clear hx21
     try clear c25
     try clear c28
     try clear c28b0
     try clear c28b1
     try clear c29
     try clear c29b0
     try clear c29b1
     try clear p30
     try clear q30
     try clear hx30
     try clear qi30
     try clear hf30
     try clear c31
     try clear hcz32_0
     try clear hcz32_1
     try clear hcz9_0
     try clear hcz9_1
     try clear hfz32_0
     try clear hfz32_1
     try clear hfz9_0
     try clear hfz9_1
     try clear hx210_0
     try clear hx30_0
     try clear p2
     try clear p210
     try clear p30
     try clear q210
     try clear q30
     obtain ⟨kq, x209000_26, u209000, HA, HJ26, HO_209000, BK206, BK208, HB⟩ := hcut
     cases kq with
     | zero => exact absurd HA.out (by simp [hypercubelaw1_Facts.j1])
     | succ kj26 =>
      have H := HA.out
      clear HA
      simp only [hypercubelaw1_Facts.j1] at H
      have H' := am H
      clear H
      go_wp2
      go_loopg [13, 14] kj26 (fun kq v13 v14 w' => ∃ (x13_3 : List (S45)) (x14_3 : Int), v14 = .int .i64 x14_3 ∧ Aside0 (hypercubelaw1_Facts.l1 kq l3 x13_3 x14_3 x209000_26 t207 = some (r1, r2, r3)) ∧ Aside0 (kq ≤ kj26) ∧ Aside0 (Kd.S k45 45 w' w.heap.size (fun k_ => some k_ ≠ (u209000 : Value).ownBlock) v13 x13_3) ∧ Aside0 (Kd.R (Kd.int .i64) 3 w' w.heap.size (fun _ => True) u209000 x209000_26) ∧ Aside0 (w'.heap[gb206]? = some (.cells #[(.slice none 0 0), .int .i64 0] 25 (0, 0))) ∧ Aside0 (w'.heap[gb208]? = some (.cells #[u209000, .int .i64 t207] 25 (0, 0))) ∧ Aside0 (Below w.heap.size w w'))
      case atStart => exact ⟨(([] : List (S45))), (0), (by first | rfl | (simp; done) | (simp [*]; done)), H', ⟨Nat.le_refl _⟩, ⟨by first | exact Kd.S_nil _ _ _ _ _ | exact Kd.N_nil _ _ _ _ _ | exact Kd.V_nil _ _ _ _ _ | exact Kd.Q_nil _ _ _ _ _ | exact Kd.R_nil _ _ _ _ _⟩, ⟨by (with_reducible repeat (first | apply Kd.R_alloc | apply Kd.R_drewN | apply Kd.R_drew)); exact HO_209000.out⟩, ⟨by (with_reducible repeat (first | refine blk_drewN ?_ _ | refine blk_drew ?_ | refine blk_alloc ?_ _)); exact BK206.out⟩, ⟨by (with_reducible repeat (first | refine blk_drewN ?_ _ | refine blk_drew ?_ | refine blk_alloc ?_ _)); exact BK208.out⟩, ⟨by repeat (first | (with_reducible first | exact HB.out | apply below_alloc | apply pw_below_drewN | apply below_drew1 | refine below_set ?_ GE206.out | refine below_set ?_ GE208.out) | exact HB.out)⟩⟩
      case round =>
       clear H'
       try clear c1
       try clear c2
       try clear p2
       try clear q2
       try clear hx2
       try clear c3
       try clear p3
       try clear q3
       try clear hx3
       try clear qi3
       try clear p6
       try clear c8
       try clear c11
       try clear c11b0
       try clear c12
       try clear c12b0
       try clear c13
       try clear c13b0
       try clear c15
       try clear c21
       try clear p21
       try clear q21
       try clear hx21
       try clear c25
       try clear c28
       try clear c28b0
       try clear c28b1
       try clear c29
       try clear c29b0
       try clear c29b1
       try clear p30
       try clear q30
       try clear hx30
       try clear qi30
       try clear hf30
       try clear c31
       try clear hcz32_0
       try clear hcz32_1
       try clear hcz9_0
       try clear hcz9_1
       try clear hfz32_0
       try clear hfz32_1
       try clear hfz9_0
       try clear hfz9_1
       try clear hx210_0
       try clear hx30_0
       try clear p2
       try clear p21
       try clear p210
       try clear p3
       try clear p30
       try clear p6
       try clear q2
       try clear q21
       try clear q210
       try clear q3
       try clear q30
       obtain ⟨x13_3, x14_3, rfl, HA, HK3, HO_13, HO_209000, BK206, BK208, HB⟩ := hrel
       cases gk with
       | zero => exact absurd HA.out (by simp [hypercubelaw1_Facts.l1])
       | succ k3 =>
        have H := HA.out
        clear HA
        simp only [hypercubelaw1_Facts.l1] at H
        have HC35 := am H
        clear H
        go_upto_region 13 with (fail)
        go_cut [59] (fun v59 wc => ∃ (kq : Nat) (x59_34 : Bool), v59 = .bool x59_34 ∧ Aside0 (hypercubelaw1_Facts.j3 kq l3 x13_3 x14_3 x59_34 x209000_26 t207 = some (r1, r2, r3)) ∧ Aside0 (kq ≤ k3) ∧ Aside0 (Kd.S k45 45 wc w.heap.size (fun k_ => some k_ ≠ (u209000 : Value).ownBlock) u13 x13_3) ∧ Aside0 (Kd.R (Kd.int .i64) 3 wc w.heap.size (fun _ => True) u209000 x209000_26) ∧ Aside0 (wc.heap[gb206]? = some (.cells #[(.slice none 0 0), .int .i64 0] 25 (0, 0))) ∧ Aside0 (wc.heap[gb208]? = some (.cells #[u209000, .int .i64 t207] 25 (0, 0))) ∧ Aside0 (Below w.heap.size w wc))
        case first =>
         have H := HC35.out
         clear HC35
         by_cases c36 : x14_3 < (l3.length : Int)
         ·rw [if_pos c36] at H
          have c36b0 : decide (x14_3 < (l3.length : Int)) = true := decide_eq_true c36
          clear c36
          (first | rw [c36b0] | (simp only [i64_w, i32_w]; rw [c36b0]) | skip)
          have H' := am H
          clear H
          go_wp2
          go_meet
          case rel => exact ⟨_, (decide (x14_3 < 40)), (by first | rfl | (simp; done) | (simp [*]; done)), H', ⟨by have := HK1.out; have := HJ26.out; have := HK3.out; first | omega | exact Nat.le_refl _⟩, ⟨by (with_reducible repeat (first | apply Kd.S_alloc | apply Kd.S_drewN | apply Kd.S_drew)); exact HO_13.out⟩, ⟨by (with_reducible repeat (first | apply Kd.R_alloc | apply Kd.R_drewN | apply Kd.R_drew)); exact HO_209000.out⟩, ⟨by (with_reducible repeat (first | refine blk_drewN ?_ _ | refine blk_drew ?_ | refine blk_alloc ?_ _)); exact BK206.out⟩, ⟨by (with_reducible repeat (first | refine blk_drewN ?_ _ | refine blk_drew ?_ | refine blk_alloc ?_ _)); exact BK208.out⟩, ⟨by repeat (first | (with_reducible first | exact HB.out | apply below_alloc | apply pw_below_drewN | apply below_drew1 | refine below_set ?_ GE206.out | refine below_set ?_ GE208.out) | exact HB.out)⟩⟩
         ·rw [if_neg c36] at H
          have c36b0 : decide (x14_3 < (l3.length : Int)) = false := decide_eq_false c36
          clear c36
          (first | rw [c36b0] | (simp only [i64_w, i32_w]; rw [c36b0]) | skip)
          have H' := am H
          clear H
          go_wp2
          go_meet
          case rel => exact ⟨_, (false), (by first | rfl | (simp; done) | (simp [*]; done)), H', ⟨by have := HK1.out; have := HJ26.out; have := HK3.out; first | omega | exact Nat.le_refl _⟩, ⟨by (with_reducible repeat (first | apply Kd.S_alloc | apply Kd.S_drewN | apply Kd.S_drew)); exact HO_13.out⟩, ⟨by (with_reducible repeat (first | apply Kd.R_alloc | apply Kd.R_drewN | apply Kd.R_drew)); exact HO_209000.out⟩, ⟨by (with_reducible repeat (first | refine blk_drewN ?_ _ | refine blk_drew ?_ | refine blk_alloc ?_ _)); exact BK206.out⟩, ⟨by (with_reducible repeat (first | refine blk_drewN ?_ _ | refine blk_drew ?_ | refine blk_alloc ?_ _)); exact BK208.out⟩, ⟨by repeat (first | (with_reducible first | exact HB.out | apply below_alloc | apply pw_below_drewN | apply below_drew1 | refine below_set ?_ GE206.out | refine below_set ?_ GE208.out) | exact HB.out)⟩⟩
        case rest =>
         clear HC35
         try clear c1
         try clear c2
         try clear p2
         try clear q2
         try clear hx2
         try clear c3
         try clear p3
         try clear q3
         try clear hx3
         try clear qi3
         try clear p6
         try clear c8
         try clear c11
         try clear c11b0
         try clear c12
         try clear c12b0
         try clear c13
         try clear c13b0
         try clear c15
         try clear c21
         try clear p21
         try clear q21
         try clear hx21
         try clear c25
         try clear c28
         try clear c28b0
         try clear c28b1
         try clear c29
         try clear c29b0
         try clear c29b1
         try clear p30
         try clear q30
         try clear hx30
         try clear qi30
         try clear hf30
         try clear c31
         try clear c36
         try clear c36b0
         try clear hcz32_0
         try clear hcz32_1
         try clear hcz9_0
         try clear hcz9_1
         try clear hfz32_0
         try clear hfz32_1
         try clear hfz9_0
         try clear hfz9_1
         try clear hx210_0
         try clear hx30_0
         try clear p2
         try clear p21
         try clear p210
         try clear p3
         try clear p30
         try clear p6
         try clear q2
         try clear q21
         try clear q210
         try clear q3
         try clear q30
         obtain ⟨kq, x59_34, rfl, HA, HJ34, HO_13, HO_209000, BK206, BK208, HB⟩ := hcut
         cases kq with
         | zero => exact absurd HA.out (by simp [hypercubelaw1_Facts.j3])
         | succ kj34 =>
          have H := HA.out
          clear HA
          simp only [hypercubelaw1_Facts.j3] at H
          by_cases c37 : x59_34 = true
          ·subst c37
           have H1 : (if 0 ≤ x14_3 then (if x14_3 < (l3.length : Int) then (hypercubelaw1_Facts.l2 kj34 l3 x13_3 x14_3 (rd l3 x14_3) 0 x209000_26 t207 ([] : List Int)) else (none)) else (none)) = some (r1, r2, r3) := by rw [if_pos rfl] at H; exact H
           clear H
           have H := H1
           clear H1
           by_cases c38 : 0 ≤ x14_3
           ·rw [if_pos c38] at H
            have c38b0 : decide (0 ≤ x14_3) = true := decide_eq_true c38
            clear c38
            by_cases c39 : x14_3 < (l3.length : Int)
            ·rw [if_pos c39] at H
             have c39b0 : decide (x14_3 < (l3.length : Int)) = true := decide_eq_true c39
             clear c39
             have H' := am H
             clear H
             have p221 : 0 ≤ (x14_3 : Int) := of_decide_eq_true (by first | (with_reducible assumption) | assumption)
             have q221 : x14_3 < (l3.length : Int) := of_decide_eq_true (by first | (with_reducible assumption) | assumption)
             obtain ⟨ad221, e221, hx221_0⟩ := Kd.at_int HR3.out x14_3 p221 q221
             cases e221
             replace hx221_0 := (HB.out.cell (World.block_lt_of_cell? w _ hx221_0)).trans hx221_0
             replace p221 := eq_true p221
             replace q221 := eq_true q221
             go_wp2_with (first | ((with_reducible refine gate_dst (N := 16) rfl ?_); refine box_event ?hg (N := 16) ?hd (cs := #[.slice none 0 0, .slice none 0 0]) (t := 45) ?hr ?_; (case hd => rfl); (case hg => rfl); (case hr => first | (go_simp; done) | (go_simp; rfl)); intro gb222 hg w40 hbox hb; have n0_ := am (Kd.S_below (Kd.S_elderB (Kd.S_mv HO_13.out) gb222 (Nat.le_of_eq hg.symm)) hb); have n1_ := am (Kd.R_below (Kd.R_mv HO_209000.out) hb); have n2_ := am (blk_below (bmv BK206.out) hb); have n3_ := am (blk_below (bmv BK208.out) hb); have n4_ := am (below_step (wmv HB.out) hb); have n5_ := am (hbox); have n6_ := am ((by rw [hg]; exact (below_size (wmv HB.out)) : w.heap.size ≤ gb222)); have n7_ := am ((by rw [hg]; exact (below_size (wmv HB.out)) : w.heap.size ≤ gb222)); have n8_ := am ((by rw [hg]; exact Nat.ne_of_lt (blk_lt (bmv BK206.out)) : gb206 ≠ gb222)); have n9_ := am ((by rw [hg]; exact Nat.ne_of_gt (blk_lt (bmv BK206.out)) : gb222 ≠ gb206)); have n10_ := am ((by rw [hg]; exact Nat.ne_of_lt (blk_lt (bmv BK208.out)) : gb208 ≠ gb222)); have n11_ := am ((by rw [hg]; exact Nat.ne_of_gt (blk_lt (bmv BK208.out)) : gb222 ≠ gb208)); clear HO_13 HO_209000 BK206 BK208 HB; revert n0_ n1_ n2_ n3_ n4_ n5_ n6_ n7_ n8_ n9_ n10_ n11_; intro HO_13 HO_209000 BK206 BK208 HB BK222 GW222 GE222 NB206_222 NB222_206 NB208_222 NB222_208; clear hb hbox hg))
             go_loopg [15, 17] kj34 (fun kq v15 v17 w' => ∃ (x15_5 : Int) (x17_5 : Int) (x223000_5 : List Int) (u223000 : Value), v15 = .int .i64 x15_5 ∧ v17 = .int .i64 x17_5 ∧ Aside0 (hypercubelaw1_Facts.l2 kq l3 x13_3 x14_3 x15_5 x17_5 x209000_26 t207 x223000_5 = some (r1, r2, r3)) ∧ Aside0 (kq ≤ kj34) ∧ Aside0 (Kd.S k45 45 w' w.heap.size (fun k_ => some k_ ≠ (u209000 : Value).ownBlock ∧ some k_ ≠ (u223000 : Value).ownBlock ∧ k_ ≠ gb222) u13 x13_3) ∧ Aside0 (Kd.R (Kd.int .i64) 3 w' w.heap.size (fun k_ => some k_ ≠ (u223000 : Value).ownBlock) u209000 x209000_26) ∧ Aside0 (Kd.R (Kd.int .i64) 3 w' w.heap.size (fun k_ => some k_ ≠ (u209000 : Value).ownBlock) u223000 x223000_5) ∧ Aside0 (w'.heap[gb206]? = some (.cells #[(.slice none 0 0), .int .i64 0] 25 (0, 0))) ∧ Aside0 (w'.heap[gb208]? = some (.cells #[u209000, .int .i64 t207] 25 (0, 0))) ∧ Aside0 (w'.heap[gb222]? = some (.cells #[u223000, (.slice none 0 0)] 45 (0, 0))) ∧ Aside0 (Below w.heap.size w w'))
             case atStart => exact ⟨(rd l3 x14_3), (0), (([] : List Int)), (.slice none 0 0), (by first | rfl | (simp; done) | (simp [*]; done)), (by first | rfl | (simp; done) | (simp [*]; done)), H', ⟨Nat.le_refl _⟩, ⟨by (with_reducible repeat (first | apply Kd.S_alloc | apply Kd.S_drewN | apply Kd.S_drew)); exact Kd.S_mono HO_13.out (fun _ hk => ⟨hk.1, ⟨(by simp [Value.ownBlock]), hk.2⟩⟩)⟩, ⟨by (with_reducible repeat (first | apply Kd.R_alloc | apply Kd.R_drewN | apply Kd.R_drew)); exact Kd.R_mono HO_209000.out (fun _ hk => (by simp [Value.ownBlock]))⟩, ⟨by first | exact Kd.R_nil _ _ _ _ _ | exact Kd.N_nil _ _ _ _ _ | exact Kd.V_nil _ _ _ _ _ | exact Kd.Q_nil _ _ _ _ _ | exact Kd.S_nil _ _ _ _ _⟩, ⟨by (with_reducible repeat (first | refine blk_drewN ?_ _ | refine blk_drew ?_ | refine blk_alloc ?_ _)); exact BK206.out⟩, ⟨by (with_reducible repeat (first | refine blk_drewN ?_ _ | refine blk_drew ?_ | refine blk_alloc ?_ _)); exact BK208.out⟩, ⟨by (with_reducible repeat (first | refine blk_drewN ?_ _ | refine blk_drew ?_ | refine blk_alloc ?_ _)); exact BK222.out⟩, ⟨by repeat (first | (with_reducible first | exact HB.out | apply below_alloc | apply pw_below_drewN | apply below_drew1 | refine below_set ?_ GE206.out | refine below_set ?_ GE208.out | refine below_set ?_ GE222.out) | exact HB.out)⟩⟩
             case round =>
              clear H'
              try clear c1
              try clear c2
              try clear p2
              try clear q2
              try clear hx2
              try clear c3
              try clear p3
              try clear q3
              try clear hx3
              try clear qi3
              try clear p6
              try clear c8
              try clear c11
              try clear c11b0
              try clear c12
              try clear c12b0
              try clear c13
              try clear c13b0
              try clear c15
              try clear c21
              try clear p21
              try clear q21
              try clear hx21
              try clear p22
              try clear q22
              try clear hx22
              try clear c25
              try clear c28
              try clear c28b0
              try clear c28b1
              try clear c29
              try clear c29b0
              try clear c29b1
              try clear p30
              try clear q30
              try clear hx30
              try clear qi30
              try clear hf30
              try clear c31
              try clear c36
              try clear c36b0
              try clear c37
              try clear c38
              try clear c38b0
              try clear c39
              try clear c39b0
              try clear hcz32_0
              try clear hcz32_1
              try clear hcz9_0
              try clear hcz9_1
              try clear hfz32_0
              try clear hfz32_1
              try clear hfz9_0
              try clear hfz9_1
              try clear hx210_0
              try clear hx221_0
              try clear hx30_0
              try clear p2
              try clear p21
              try clear p210
              try clear p221
              try clear p3
              try clear p30
              try clear p6
              try clear q2
              try clear q21
              try clear q210
              try clear q221
              try clear q3
              try clear q30
              obtain ⟨x15_5, x17_5, x223000_5, u223000, rfl, rfl, HA, HK5, HO_13, HO_209000, HO_223000, BK206, BK208, BK222, HB⟩ := hrel
              cases gk with
              | zero => exact absurd HA.out (by simp [hypercubelaw1_Facts.l2])
              | succ k5 =>
               have H := HA.out
               clear HA
               simp only [hypercubelaw1_Facts.l2] at H
               by_cases c41 : x17_5 < (x209000_26.length : Int)
               ·rw [if_pos c41] at H
                have c41b0 : decide (x17_5 < (x209000_26.length : Int)) = true := decide_eq_true c41
                clear c41
                by_cases c42 : 0 ≤ x17_5
                ·rw [if_pos c42] at H
                 have c42b0 : decide (0 ≤ x17_5) = true := decide_eq_true c42
                 clear c42
                 replace H := Option.bind_eq_some_iff.mp H
                 obtain ⟨t224, A430, H⟩ := H
                 replace H : (if x223000_5.length < 17592186044416 then (hypercubelaw1_Facts.l2 k5 l3 x13_3 x14_3 (wrap64 (Int.tdiv x15_5 5)) (wrap64 (x17_5 + 1)) x209000_26 t207 (x223000_5 ++ [t224])) else (none)) = some (r1, r2, r3) := H
                 have A43 := am A430
                 clear A430
                 by_cases c44 : x223000_5.length < 17592186044416
                 ·rw [if_pos c44] at H
                  have LMc44 := am c44
                  clear c44
                  obtain ⟨y225, hy225⟩ : ∃ y_ : List Int, y_ = (x223000_5 ++ [t224]) := ⟨_, rfl⟩
                  replace H : (hypercubelaw1_Facts.l2 k5 l3 x13_3 x14_3 (wrap64 (Int.tdiv x15_5 5)) (wrap64 (x17_5 + 1)) x209000_26 t207 y225) = some (r1, r2, r3) := by rw [hy225]; with_reducible exact H
                  have Ny225 := am hy225
                  clear hy225
                  have H' := am H
                  clear H
                  have hnb45 := NB208_206.out
                  have hnc45 := NB206_208.out
                  have hnb46 := NB208_222.out
                  have hnc46 := NB222_208.out
                  have hcz47_0 : wr.cell? ⟨gb208, 0, none⟩ = some (u209000) := (blk_cell BK208.out 0).trans rfl
                  have hcz47_1 : wr.cell? ⟨gb208, 1, none⟩ = some (.int .i64 t207) := (blk_cell BK208.out 1).trans rfl
                  have hfz47_0 := blk_frozen BK208.out 0
                  have hfz47_1 := blk_frozen BK208.out 1
                  obtain ⟨Ao48, co48, eo48⟩ := Kd.R_slice HO_209000.out
                  subst eo48
                  try go_wp2
                  have n0_ := am (Kd.S_drew HO_13.out)
                  have n1_ := am (Kd.R_drew HO_209000.out)
                  have n2_ := am (Kd.R_drew HO_223000.out)
                  have n3_ := am (blk_drew BK206.out)
                  have n4_ := am (blk_drew BK208.out)
                  have n5_ := am (blk_drew BK222.out)
                  have n6_ := am (below_drew1 HB.out)
                  clear HO_13 HO_209000 HO_223000 BK206 BK208 BK222 HB
                  revert n0_ n1_ n2_ n3_ n4_ n5_ n6_
                  intro HO_13 HO_209000 HO_223000 BK206 BK208 BK222 HB
                  have p223 : 0 ≤ (x17_5 : Int) := of_decide_eq_true (by first | (with_reducible assumption) | assumption)
                  have q223 : x17_5 < (x209000_26.length : Int) := of_decide_eq_true (by first | (with_reducible assumption) | assumption)
                  obtain ⟨ad223, e223, hx223_0⟩ := Kd.at_int (Kd.R_reads' HO_209000.out).2.2 x17_5 p223 q223
                  cases e223
                  replace p223 := eq_true p223
                  replace q223 := eq_true q223
                  refine start_ (n := 13) (S := fun w' => w'.cell? ⟨gb222, 0, none⟩ = some (u223000) ∧ w'.cell? ⟨gb222, 1, none⟩ = some (.slice none 0 0) ∧ w'.cell? ⟨gb208, 0, none⟩ = some (.slice (some ad223) x209000_26.length co48) ∧ w'.cell? ⟨gb208, 1, none⟩ = some (.int .i64 t207) ∧ w'.cell? (ad223.add (x17_5).toNat) = some (.int .i64 (rd x209000_26 x17_5))) (ds := [10, 12]) (bb 13 0) (by kernel_rfl) rfl rfl ⟨bc BK222 0, bc BK222 1, bc BK208 0, bc BK208 1, hx223_0⟩ (fun hHeld => ?_); refine with_tabW hypercubelaw1_Facts.tab20 hypercubelaw1_Facts.bits20 (fun HT_ HW_ => ?_)
                  generalize wr.drew = w49 at HO_13 HO_209000 HO_223000 BK206 BK208 BK222 HB hx223_0 hHeld ⊢
                  refine pu (i := 0) (N := some 73) (bb 13 1) HT_ ?_
                  refine pu (i := 2) (N := some 75) (bb 13 5) HT_ ?_
                  refine pu (i := 3) (N := some 76) (bb 13 13) HT_ ?_
                  refine pu (i := 5) (N := some 78) (bb 13 45) HT_ ?_
                  refine tk (i := 1) (N := some 74) (bb 13 47) HT_ HW_ hHeld ?_
                  refine tk (i := 4) (N := some 77) (bb 13 63) HT_ HW_ hHeld ?_
                  refine pu (i := 6) (N := some 79) (bb 13 127) HT_ ?_
                  refine tk (i := 7) (N := some 80) (bb 13 255) HT_ HW_ hHeld ?_
                  refine one_ (i := 8) (N := some 81) (bb 13 511) rfl rfl (one_of HT_.out (by kernel_rfl)) (by decide) (fun K hK => ?_)
                  refine goes_ Try.func25 (by kernel_rfl) rfl #[.int .i64 x15_5, .int .i64 (rd x209000_26 x17_5)] (by rfl) rfl rfl (by (try simp only [List.map_toArray, List.map_cons, List.map_nil]); first | done | rfl | (simp only [List.length_drop, List.length_take]; rfl)) ?_
                  with_reducible refine (hypercubelaw1_within.calls x15_5 (rd x209000_26 x17_5) t224 _ A43.out).mono ?_
                  rintro e w' ⟨rfl, ⟨nd, rfl⟩⟩
                  refine ⟨_, rfl, ?_⟩
                  refine hK.out _ _ ⟨bc BK222 0, bc BK222 1, bc BK208 0, bc BK208 1, hHeld.2.2.2.2⟩ (fun hHeld => ?_)
                  clear hK K
                  refine nm ?_
                  refine one_ (i := 9) (N := some 82) (bb 13 1023) rfl rfl (one_of HT_.out (by kernel_rfl)) (by decide) (fun K hK => ?_)
                  refine value_ (w1 := ?_) (v := ?_) (by rfl) rfl ?_ ?_
                  rotate_left 2
                  ·go_simp
                   constructor
                   ·rfl
                   ·rfl
                  refine hK.out _ _ ⟨(blk_cell (blk_alloc BK222.out _) 0).trans rfl, (blk_cell (blk_alloc BK222.out _) 1).trans rfl, (blk_cell (blk_alloc BK208.out _) 0).trans rfl, (blk_cell (blk_alloc BK208.out _) 1).trans rfl, (World.cell?_alloc_lt _ _ _ (World.block_lt_of_cell? _ _ (hHeld.2.2.2.2))).trans (hHeld.2.2.2.2)⟩ (fun hHeld => ?_)
                  clear hK K
                  refine nm ?_
                  refine last_ (i := 10) (N := some 83) (bb 13 2047) rfl rfl (one_of HT_.out (by kernel_rfl)) (by decide) (fun K hK => ?_)
                  refine Kd.R_append_step (Kd.int .i64) (w0 := w) w.heap.size (by rfl) (.tmp 74) (.tmp 82) 22 3 (.int .i64 0) 8 rfl Try.underlying22 info3 rfl (by decide) (by omega) u223000 x223000_5 t224 [.int .i64 t224] (fun k_ => some k_ ≠ (.slice (some ad223) x209000_26.length co48 : Value).ownBlock) (fun _ => False) rfl rfl ?aP (fun _ hk => hk.elim) ?aF ?aO ?aB ?aS ?aL ?_
                  (case aP => exact rfl)
                  (case aB => exact (wmv HB.out))
                  (case aF => exact (fun k_ hk => Kd.fresh' (Kd.R_lt (Kd.R_mv HO_209000.out)) k_ hk))
                  (case aO => exact (Kd.R_mv HO_223000.out))
                  (case aS => exact (below_size (wmv HB.out)))
                  (case aL => have := LMc44.out; omega)
                  intro v226 w50 ho hb hg hat
                  rw [← Ny225.out] at ho
                  have n0_ := am (Kd.S_after (ok := (fun k_ => some k_ ≠ (.slice (some ad223) x209000_26.length co48 : Value).ownBlock ∧ k_ ≠ gb222)) (Kd.S_mv (Kd.S_mono HO_13.out (fun _ hk => ⟨⟨hk.1, hk.2.2⟩, hk.2.1⟩))) hg hat)
                  have n1_ := am (Kd.R_after (ok := (fun _ => True)) (Kd.R_mv (Kd.R_mono HO_209000.out (fun _ hk => ⟨trivial, hk⟩))) hg hat)
                  have n2_ := am (blk_grown (bmv BK206.out) hg (Kd.R_ne HO_223000.out BK206.out (by decide)))
                  have n3_ := am (blk_grown (bmv BK208.out) hg (Kd.R_ne HO_223000.out BK208.out (by decide)))
                  have n4_ := am (blk_grown (bmv BK222.out) hg (Kd.R_ne HO_223000.out BK222.out (by decide)))
                  have n5_ := am (hb)
                  have n6_ := am (ho)
                  clear HO_13 HO_209000 BK206 BK208 BK222 HB HO_223000
                  revert n0_ n1_ n2_ n3_ n4_ n5_ n6_
                  intro HO_13 HO_209000 BK206 BK208 BK222 HB HO227
                  clear ho hb hg hat
                  obtain ⟨Ao51, co51, eo51⟩ := Kd.R_slice HO227.out
                  (first | subst eo51 | (injection eo51 with f1_ f2_ f3_; have f4_ := f1_.symm; have f5_ := f3_.symm; clear f1_ f2_ f3_; subst f4_; subst f5_))
                  refine hK.out _ _ ?_
                  clear hK K
                  refine nm ?_
                  refine pu (i := 11) (N := some 84) (bb 13 4095) HT_ ?_
                  refine last_ (i := 12) (N := none) (bb 13 8191) rfl rfl (one_of HT_.out (by kernel_rfl)) (by decide) (fun K hK => ?_)
                  have hs52 : w50.cell? ⟨gb222, 0, none⟩ = some (u223000) := (blk_cell BK222.out 0).trans rfl
                  have hfs52 := blk_frozen BK222.out 0
                  have hns52_0 := NB206_222.out
                  have hns52_1 := NB208_222.out
                  have hms52_0 := NB222_206.out
                  have hms52_1 := NB222_208.out
                  refine skip_ (w1 := ?_) (by rfl) rfl ?_ ?_
                  rotate_left
                  ·go_simp
                   rfl
                  refine hK.out _ _ ?_
                  clear hK K
                  refine done_ (done_of HT_.out (by kernel_rfl)) ?_
                  try go_wp2
                  go_roundg k5
                  case measure => have := HK1.out; have := HJ26.out; have := HK3.out; have := HJ34.out; have := HK5.out; omega
                  case rel => exact ⟨(wrap64 (Int.tdiv x15_5 5)), (wrap64 (x17_5 + 1)), (y225), (.slice Ao51 y225.length co51), (by first | rfl | (simp; done) | (simp [*]; done)), (by first | rfl | (simp; done) | (simp [*]; done)), H', ⟨by have := HK1.out; have := HJ26.out; have := HK3.out; have := HJ34.out; have := HK5.out; omega⟩, ⟨by (with_reducible repeat (first | apply Kd.S_alloc | apply Kd.S_drewN | apply Kd.S_drew)); exact Kd.S_mono (Kd.S_far (p := ⟨gb222, 0, none⟩) (Kd.S_mono HO_13.out (fun k_ hk => (⟨hk, hk.1.2⟩ : _ ∧ k_ ≠ gb222))) (fun _ hk => hk.2) (.slice Ao51 y225.length co51)) (fun _ hk => ⟨hk.1.1.1, ⟨hk.1.2, hk.1.1.2⟩⟩)⟩, ⟨by (with_reducible repeat (first | apply Kd.R_alloc | apply Kd.R_drewN | apply Kd.R_drew)); exact Kd.R_mono (Kd.R_far (p := ⟨gb222, 0, none⟩) (Kd.R_types HO_209000.out BK222.out (by decide)) (fun _ hk => hk.2) (.slice Ao51 y225.length co51)) (fun _ hk => hk.1.2)⟩, ⟨by (with_reducible repeat (first | apply Kd.R_alloc | apply Kd.R_drewN | apply Kd.R_drew)); exact Kd.R_mono (Kd.R_far (p := ⟨gb222, 0, none⟩) (Kd.R_types HO227.out BK222.out (by decide)) (fun _ hk => hk.2) (.slice Ao51 y225.length co51)) (fun _ hk => hk.1)⟩, ⟨by (with_reducible repeat (first | refine blk_drewN ?_ _ | refine blk_drew ?_ | refine blk_alloc ?_ _)); refine blk_far ?_ NB206_222.out _; (with_reducible repeat (first | refine blk_drewN ?_ _ | refine blk_drew ?_ | refine blk_alloc ?_ _)); exact BK206.out⟩, ⟨by (with_reducible repeat (first | refine blk_drewN ?_ _ | refine blk_drew ?_ | refine blk_alloc ?_ _)); refine blk_far ?_ NB208_222.out _; (with_reducible repeat (first | refine blk_drewN ?_ _ | refine blk_drew ?_ | refine blk_alloc ?_ _)); exact BK208.out⟩, ⟨by (with_reducible repeat (first | refine blk_drewN ?_ _ | refine blk_drew ?_ | refine blk_alloc ?_ _)); refine blk_put (cs := #[u223000, .slice none 0 0]) ?_ 0 _ rfl; (with_reducible repeat (first | refine blk_drewN ?_ _ | refine blk_drew ?_ | refine blk_alloc ?_ _)); exact BK222.out⟩, ⟨by repeat (first | (with_reducible first | exact HB.out | apply below_alloc | apply pw_below_drewN | apply below_drew1 | refine below_set ?_ GE206.out | refine below_set ?_ GE208.out | refine below_set ?_ GE222.out) | exact HB.out)⟩⟩
                 ·rw [if_neg c44] at H
                  exact absurd H (by simp)
                ·rw [if_neg c42] at H
                 exact absurd H (by simp)
               ·rw [if_neg c41] at H
                have c41b0 : decide (x17_5 < (x209000_26.length : Int)) = false := decide_eq_false c41
                clear c41
                have H' := am H
                clear H
                have hnb53 := NB208_206.out
                have hnc53 := NB206_208.out
                have hnb54 := NB208_222.out
                have hnc54 := NB222_208.out
                have hcz55_0 : wr.cell? ⟨gb208, 0, none⟩ = some (u209000) := (blk_cell BK208.out 0).trans rfl
                have hcz55_1 : wr.cell? ⟨gb208, 1, none⟩ = some (.int .i64 t207) := (blk_cell BK208.out 1).trans rfl
                have hfz55_0 := blk_frozen BK208.out 0
                have hfz55_1 := blk_frozen BK208.out 1
                obtain ⟨Ao56, co56, eo56⟩ := Kd.R_slice HO_209000.out
                subst eo56
                go_wp2
                go_loopg [18] k5 (fun kq v18 w' => ∃ (x18_6 : Int) (x223001_6 : List Int) (u223001 : Value), v18 = .int .i64 x18_6 ∧ Aside0 (hypercubelaw1_Facts.l3 kq l3 x13_3 x14_3 x15_5 x18_6 x209000_26 t207 x223000_5 x223001_6 = some (r1, r2, r3)) ∧ Aside0 (kq ≤ k5) ∧ Aside0 (Kd.S k45 45 w' w.heap.size (fun k_ => some k_ ≠ ((.slice Ao56 x209000_26.length co56) : Value).ownBlock ∧ some k_ ≠ (u223000 : Value).ownBlock ∧ some k_ ≠ (u223001 : Value).ownBlock ∧ k_ ≠ gb222) u13 x13_3) ∧ Aside0 (Kd.R (Kd.int .i64) 3 w' w.heap.size (fun k_ => some k_ ≠ (u223000 : Value).ownBlock ∧ some k_ ≠ (u223001 : Value).ownBlock) (.slice Ao56 x209000_26.length co56) x209000_26) ∧ Aside0 (Kd.R (Kd.int .i64) 3 w' w.heap.size (fun k_ => some k_ ≠ ((.slice Ao56 x209000_26.length co56) : Value).ownBlock ∧ some k_ ≠ (u223001 : Value).ownBlock) u223000 x223000_5) ∧ Aside0 (Kd.R (Kd.int .i64) 3 w' w.heap.size (fun k_ => some k_ ≠ ((.slice Ao56 x209000_26.length co56) : Value).ownBlock ∧ some k_ ≠ (u223000 : Value).ownBlock) u223001 x223001_6) ∧ Aside0 (w'.heap[gb206]? = some (.cells #[(.slice none 0 0), .int .i64 0] 25 (0, 0))) ∧ Aside0 (w'.heap[gb208]? = some (.cells #[(.slice Ao56 x209000_26.length co56), .int .i64 t207] 25 (0, 0))) ∧ Aside0 (w'.heap[gb222]? = some (.cells #[u223000, u223001] 45 (0, 0))) ∧ Aside0 (Below w.heap.size w w'))
                case atStart => exact ⟨(0), (([] : List Int)), (.slice none 0 0), (by first | rfl | (simp; done) | (simp [*]; done)), H', ⟨Nat.le_refl _⟩, ⟨by (with_reducible repeat (first | apply Kd.S_alloc | apply Kd.S_drewN | apply Kd.S_drew)); exact Kd.S_mono HO_13.out (fun _ hk => ⟨hk.1, ⟨hk.2.1, ⟨(by simp [Value.ownBlock]), hk.2.2⟩⟩⟩)⟩, ⟨by (with_reducible repeat (first | apply Kd.R_alloc | apply Kd.R_drewN | apply Kd.R_drew)); exact Kd.R_mono HO_209000.out (fun _ hk => ⟨hk, (by simp [Value.ownBlock])⟩)⟩, ⟨by (with_reducible repeat (first | apply Kd.R_alloc | apply Kd.R_drewN | apply Kd.R_drew)); exact Kd.R_mono HO_223000.out (fun _ hk => ⟨hk, (by simp [Value.ownBlock])⟩)⟩, ⟨by first | exact Kd.R_nil _ _ _ _ _ | exact Kd.N_nil _ _ _ _ _ | exact Kd.V_nil _ _ _ _ _ | exact Kd.Q_nil _ _ _ _ _ | exact Kd.S_nil _ _ _ _ _⟩, ⟨by (with_reducible repeat (first | refine blk_drewN ?_ _ | refine blk_drew ?_ | refine blk_alloc ?_ _)); exact BK206.out⟩, ⟨by (with_reducible repeat (first | refine blk_drewN ?_ _ | refine blk_drew ?_ | refine blk_alloc ?_ _)); exact BK208.out⟩, ⟨by (with_reducible repeat (first | refine blk_drewN ?_ _ | refine blk_drew ?_ | refine blk_alloc ?_ _)); exact BK222.out⟩, ⟨by repeat (first | (with_reducible first | exact HB.out | apply below_alloc | apply pw_below_drewN | apply below_drew1 | refine below_set ?_ GE206.out | refine below_set ?_ GE208.out | refine below_set ?_ GE222.out) | exact HB.out)⟩⟩
                case round =>
                 clear H'
                 try clear c1
                 try clear c2
                 try clear p2
                 try clear q2
                 try clear hx2
                 try clear c3
                 try clear p3
                 try clear q3
                 try clear hx3
                 try clear qi3
                 try clear c4
                 try clear c5
                 try clear p6
                 try clear c8
                 try clear c11
                 try clear c11b0
                 try clear c12
                 try clear c12b0
                 try clear c13
                 try clear c13b0
                 try clear c15
                 try clear c21
                 try clear p21
                 try clear q21
                 try clear hx21
                 try clear p22
                 try clear q22
                 try clear hx22
                 try clear c25
                 try clear c28
                 try clear c28b0
                 try clear c28b1
                 try clear c29
                 try clear c29b0
                 try clear c29b1
                 try clear p30
                 try clear q30
                 try clear hx30
                 try clear qi30
                 try clear hf30
                 try clear c31
                 try clear c36
                 try clear c36b0
                 try clear c37
                 try clear c38
                 try clear c38b0
                 try clear c39
                 try clear c39b0
                 try clear c41
                 try clear c41b0
                 try clear c42
                 try clear c42b0
                 try clear c44
                 try clear c45
                 try clear c46
                 try clear c53
                 try clear c54
                 try clear hcz32_0
                 try clear hcz32_1
                 try clear hcz47_0
                 try clear hcz47_1
                 try clear hcz55_0
                 try clear hcz55_1
                 try clear hcz9_0
                 try clear hcz9_1
                 try clear hfz32_0
                 try clear hfz32_1
                 try clear hfz47_0
                 try clear hfz47_1
                 try clear hfz55_0
                 try clear hfz55_1
                 try clear hfz9_0
                 try clear hfz9_1
                 try clear hx210_0
                 try clear hx221_0
                 try clear hx223_0
                 try clear hx30_0
                 try clear p2
                 try clear p21
                 try clear p210
                 try clear p22
                 try clear p221
                 try clear p223
                 try clear p3
                 try clear p30
                 try clear p6
                 try clear q2
                 try clear q21
                 try clear q210
                 try clear q22
                 try clear q221
                 try clear q223
                 try clear q3
                 try clear q30
                 obtain ⟨x18_6, x223001_6, u223001, rfl, HA, HK6, HO_13, HO_209000, HO_223000, HO_223001, BK206, BK208, BK222, HB⟩ := hrel
                 cases gk with
                 | zero => exact absurd HA.out (by simp [hypercubelaw1_Facts.l3])
                 | succ k6 =>
                  have H := HA.out
                  clear HA
                  simp only [hypercubelaw1_Facts.l3] at H
                  by_cases c57 : x18_6 < t207
                  ·rw [if_pos c57] at H
                   have c57b0 : decide (x18_6 < t207) = true := decide_eq_true c57
                   clear c57
                   replace H := Option.bind_eq_some_iff.mp H
                   obtain ⟨t228, A580, H⟩ := H
                   replace H : (if x223001_6.length < 17592186044416 then (hypercubelaw1_Facts.l3 k6 l3 x13_3 x14_3 x15_5 (wrap64 (x18_6 + 1)) x209000_26 t207 x223000_5 (x223001_6 ++ [wrap64 (t228 - 100)])) else (none)) = some (r1, r2, r3) := H
                   have A58 := am A580
                   clear A580
                   by_cases c59 : x223001_6.length < 17592186044416
                   ·rw [if_pos c59] at H
                    have LMc59 := am c59
                    clear c59
                    obtain ⟨y229, hy229⟩ : ∃ y_ : List Int, y_ = (x223001_6 ++ [wrap64 (t228 - 100)]) := ⟨_, rfl⟩
                    replace H : (hypercubelaw1_Facts.l3 k6 l3 x13_3 x14_3 x15_5 (wrap64 (x18_6 + 1)) x209000_26 t207 x223000_5 y229) = some (r1, r2, r3) := by rw [hy229]; with_reducible exact H
                    have Ny229 := am hy229
                    clear hy229
                    have H' := am H
                    clear H
                    have hnb60 := NB208_206.out
                    have hnc60 := NB206_208.out
                    have hnb61 := NB208_222.out
                    have hnc61 := NB222_208.out
                    have hcz62_0 : wr.cell? ⟨gb208, 0, none⟩ = some (.slice Ao56 x209000_26.length co56) := (blk_cell BK208.out 0).trans rfl
                    have hcz62_1 : wr.cell? ⟨gb208, 1, none⟩ = some (.int .i64 t207) := (blk_cell BK208.out 1).trans rfl
                    have hfz62_0 := blk_frozen BK208.out 0
                    have hfz62_1 := blk_frozen BK208.out 1
                    try go_wp2
                    have n0_ := am (Kd.S_drew HO_13.out)
                    have n1_ := am (Kd.R_drew HO_209000.out)
                    have n2_ := am (Kd.R_drew HO_223000.out)
                    have n3_ := am (Kd.R_drew HO_223001.out)
                    have n4_ := am (blk_drew BK206.out)
                    have n5_ := am (blk_drew BK208.out)
                    have n6_ := am (blk_drew BK222.out)
                    have n7_ := am (below_drew1 HB.out)
                    clear HO_13 HO_209000 HO_223000 HO_223001 BK206 BK208 BK222 HB
                    revert n0_ n1_ n2_ n3_ n4_ n5_ n6_ n7_
                    intro HO_13 HO_209000 HO_223000 HO_223001 BK206 BK208 BK222 HB
                    refine start_ (n := 12) (S := fun w' => w'.cell? ⟨gb222, 0, none⟩ = some (u223000) ∧ w'.cell? ⟨gb222, 1, none⟩ = some (u223001)) (ds := [11]) (bb 12 0) (by kernel_rfl) rfl rfl ⟨bc BK222 0, bc BK222 1⟩ (fun hHeld => ?_); refine with_tabW hypercubelaw1_Facts.tab25 hypercubelaw1_Facts.bits25 (fun HT_ HW_ => ?_)
                    generalize wr.drew = w63 at HO_13 HO_209000 HO_223000 HO_223001 BK206 BK208 BK222 HB hHeld ⊢
                    refine pu (i := 0) (N := some 93) (bb 12 1) HT_ ?_
                    refine pu (i := 2) (N := some 95) (bb 12 5) HT_ ?_
                    refine pu (i := 3) (N := some 96) (bb 12 13) HT_ ?_
                    refine pu (i := 4) (N := some 97) (bb 12 29) HT_ ?_
                    refine pu (i := 5) (N := some 98) (bb 12 61) HT_ ?_
                    refine tk (i := 1) (N := some 94) (bb 12 63) HT_ HW_ hHeld ?_
                    refine one_ (i := 6) (N := some 99) (bb 12 127) rfl rfl (one_of HT_.out (by kernel_rfl)) (by decide) (fun K hK => ?_)
                    refine goes_ Try.func25 (by kernel_rfl) rfl #[.int .i64 (wrap64 (x15_5 + (wrap64 (7 * x18_6)))), .int .i64 201] (by rfl) rfl rfl (by (try simp only [List.map_toArray, List.map_cons, List.map_nil]); first | done | rfl | (simp only [List.length_drop, List.length_take]; rfl)) ?_
                    with_reducible refine (hypercubelaw1_within.calls (wrap64 (x15_5 + (wrap64 (7 * x18_6)))) 201 t228 _ A58.out).mono ?_
                    rintro e w' ⟨rfl, ⟨nd, rfl⟩⟩
                    refine ⟨_, rfl, ?_⟩
                    refine hK.out _ _ ⟨bc BK222 0, bc BK222 1⟩ (fun hHeld => ?_)
                    clear hK K
                    refine nm ?_
                    refine pu (i := 7) (N := some 100) (bb 12 255) HT_ ?_
                    refine one_ (i := 8) (N := some 101) (bb 12 511) rfl rfl (one_of HT_.out (by kernel_rfl)) (by decide) (fun K hK => ?_)
                    refine value_ (w1 := ?_) (v := ?_) (by rfl) rfl ?_ ?_
                    rotate_left 2
                    ·go_simp
                     constructor
                     ·rfl
                     ·rfl
                    refine hK.out _ _ ⟨(blk_cell (blk_alloc BK222.out _) 0).trans rfl, (blk_cell (blk_alloc BK222.out _) 1).trans rfl⟩ (fun hHeld => ?_)
                    clear hK K
                    refine nm ?_
                    refine one_ (i := 9) (N := some 102) (bb 12 1023) rfl rfl (one_of HT_.out (by kernel_rfl)) (by decide) (fun K hK => ?_)
                    refine Kd.R_append_step (Kd.int .i64) (w0 := w) w.heap.size (by rfl) (.tmp 94) (.tmp 101) 22 3 (.int .i64 0) 8 rfl Try.underlying22 info3 rfl (by decide) (by omega) u223001 x223001_6 (wrap64 (t228 - 100)) [.int .i64 (wrap64 (t228 - 100))] (fun k_ => some k_ ≠ (.slice Ao56 x209000_26.length co56 : Value).ownBlock ∧ some k_ ≠ (u223000 : Value).ownBlock) (fun _ => False) rfl rfl ?aP (fun _ hk => hk.elim) ?aF ?aO ?aB ?aS ?aL ?_
                    (case aP => exact rfl)
                    (case aB => exact (wmv HB.out))
                    (case aF => exact (fun k_ hk => ⟨Kd.fresh' (Kd.R_lt (Kd.R_mv HO_209000.out)) k_ hk, Kd.fresh' (Kd.R_lt (Kd.R_mv HO_223000.out)) k_ hk⟩))
                    (case aO => exact (Kd.R_mv HO_223001.out))
                    (case aS => exact (below_size (wmv HB.out)))
                    (case aL => have := LMc59.out; omega)
                    intro v230 w64 ho hb hg hat
                    rw [← Ny229.out] at ho
                    have n0_ := am (Kd.S_after (ok := (fun k_ => some k_ ≠ (.slice Ao56 x209000_26.length co56 : Value).ownBlock ∧ some k_ ≠ (u223000 : Value).ownBlock ∧ k_ ≠ gb222)) (Kd.S_mv (Kd.S_mono HO_13.out (fun _ hk => ⟨⟨hk.1, ⟨hk.2.1, hk.2.2.2⟩⟩, hk.2.2.1⟩))) hg hat)
                    have n1_ := am (Kd.R_after (ok := (fun k_ => some k_ ≠ (u223000 : Value).ownBlock)) (Kd.R_mv HO_209000.out) hg hat)
                    have n2_ := am (Kd.R_after (ok := (fun k_ => some k_ ≠ (.slice Ao56 x209000_26.length co56 : Value).ownBlock)) (Kd.R_mv HO_223000.out) hg hat)
                    have n3_ := am (blk_grown (bmv BK206.out) hg (Kd.R_ne HO_223001.out BK206.out (by decide)))
                    have n4_ := am (blk_grown (bmv BK208.out) hg (Kd.R_ne HO_223001.out BK208.out (by decide)))
                    have n5_ := am (blk_grown (bmv BK222.out) hg (Kd.R_ne HO_223001.out BK222.out (by decide)))
                    have n6_ := am (hb)
                    have n7_ := am (ho)
                    clear HO_13 HO_209000 HO_223000 BK206 BK208 BK222 HB HO_223001
                    revert n0_ n1_ n2_ n3_ n4_ n5_ n6_ n7_
                    intro HO_13 HO_209000 HO_223000 BK206 BK208 BK222 HB HO231
                    clear ho hb hg hat
                    obtain ⟨Ao65, co65, eo65⟩ := Kd.R_slice HO231.out
                    (first | subst eo65 | (injection eo65 with f1_ f2_ f3_; have f4_ := f1_.symm; have f5_ := f3_.symm; clear f1_ f2_ f3_; subst f4_; subst f5_))
                    refine hK.out _ _ ⟨bc BK222 0, bc BK222 1⟩ (fun hHeld => ?_)
                    clear hK K
                    refine nm ?_
                    refine pu (i := 10) (N := some 103) (bb 12 2047) HT_ ?_
                    refine last_ (i := 11) (N := none) (bb 12 4095) rfl rfl (one_of HT_.out (by kernel_rfl)) (by decide) (fun K hK => ?_)
                    have hs66 : w64.cell? ⟨gb222, 1, none⟩ = some (u223001) := (blk_cell BK222.out 1).trans rfl
                    have hfs66 := blk_frozen BK222.out 1
                    have hns66_0 := NB206_222.out
                    have hns66_1 := NB208_222.out
                    have hms66_0 := NB222_206.out
                    have hms66_1 := NB222_208.out
                    refine skip_ (w1 := ?_) (by rfl) rfl ?_ ?_
                    rotate_left
                    ·go_simp
                     rfl
                    refine hK.out _ _ ?_
                    clear hK K
                    refine done_ (done_of HT_.out (by kernel_rfl)) ?_
                    try go_wp2
                    go_roundg k6
                    case measure => have := HK1.out; have := HJ26.out; have := HK3.out; have := HJ34.out; have := HK5.out; have := HK6.out; omega
                    case rel => exact ⟨(wrap64 (x18_6 + 1)), (y229), (.slice Ao65 y229.length co65), (by first | rfl | (simp; done) | (simp [*]; done)), H', ⟨by have := HK1.out; have := HJ26.out; have := HK3.out; have := HJ34.out; have := HK5.out; have := HK6.out; omega⟩, ⟨by (with_reducible repeat (first | apply Kd.S_alloc | apply Kd.S_drewN | apply Kd.S_drew)); exact Kd.S_mono (Kd.S_far (p := ⟨gb222, 1, none⟩) (Kd.S_mono HO_13.out (fun k_ hk => (⟨hk, hk.1.2.2⟩ : _ ∧ k_ ≠ gb222))) (fun _ hk => hk.2) (.slice Ao65 y229.length co65)) (fun _ hk => ⟨hk.1.1.1, ⟨hk.1.1.2.1, ⟨hk.1.2, hk.1.1.2.2⟩⟩⟩)⟩, ⟨by (with_reducible repeat (first | apply Kd.R_alloc | apply Kd.R_drewN | apply Kd.R_drew)); exact Kd.R_mono (Kd.R_far (p := ⟨gb222, 1, none⟩) (Kd.R_types HO_209000.out BK222.out (by decide)) (fun _ hk => hk.2) (.slice Ao65 y229.length co65)) (fun _ hk => ⟨hk.1.1, hk.1.2⟩)⟩, ⟨by (with_reducible repeat (first | apply Kd.R_alloc | apply Kd.R_drewN | apply Kd.R_drew)); exact Kd.R_mono (Kd.R_far (p := ⟨gb222, 1, none⟩) (Kd.R_types HO_223000.out BK222.out (by decide)) (fun _ hk => hk.2) (.slice Ao65 y229.length co65)) (fun _ hk => ⟨hk.1.1, hk.1.2⟩)⟩, ⟨by (with_reducible repeat (first | apply Kd.R_alloc | apply Kd.R_drewN | apply Kd.R_drew)); exact Kd.R_mono (Kd.R_far (p := ⟨gb222, 1, none⟩) (Kd.R_types HO231.out BK222.out (by decide)) (fun _ hk => hk.2) (.slice Ao65 y229.length co65)) (fun _ hk => ⟨hk.1.1, hk.1.2⟩)⟩, ⟨by (with_reducible repeat (first | refine blk_drewN ?_ _ | refine blk_drew ?_ | refine blk_alloc ?_ _)); refine blk_far ?_ NB206_222.out _; (with_reducible repeat (first | refine blk_drewN ?_ _ | refine blk_drew ?_ | refine blk_alloc ?_ _)); exact BK206.out⟩, ⟨by (with_reducible repeat (first | refine blk_drewN ?_ _ | refine blk_drew ?_ | refine blk_alloc ?_ _)); refine blk_far ?_ NB208_222.out _; (with_reducible repeat (first | refine blk_drewN ?_ _ | refine blk_drew ?_ | refine blk_alloc ?_ _)); exact BK208.out⟩, ⟨by (with_reducible repeat (first | refine blk_drewN ?_ _ | refine blk_drew ?_ | refine blk_alloc ?_ _)); refine blk_put (cs := #[u223000, u223001]) ?_ 1 _ rfl; (with_reducible repeat (first | refine blk_drewN ?_ _ | refine blk_drew ?_ | refine blk_alloc ?_ _)); exact BK222.out⟩, ⟨by repeat (first | (with_reducible first | exact HB.out | apply below_alloc | apply pw_below_drewN | apply below_drew1 | refine below_set ?_ GE206.out | refine below_set ?_ GE208.out | refine below_set ?_ GE222.out) | exact HB.out)⟩⟩
                   ·rw [if_neg c59] at H
                    exact absurd H (by simp)
                  ·rw [if_neg c57] at H
                   have c57b0 : decide (x18_6 < t207) = false := decide_eq_false c57
                   clear c57
                   by_cases c67 : x13_3.length < 2932031007402
                   ·rw [if_pos c67] at H
                    have LMc67 := am c67
                    clear c67
                    obtain ⟨y232, hy232⟩ : ∃ y_ : List (S45), y_ = (x13_3 ++ [(⟨x223000_5, x223001_6⟩ : S45)]) := ⟨_, rfl⟩
                    replace H : (hypercubelaw1_Facts.l1 k6 l3 y232 (wrap64 (x14_3 + 1)) x209000_26 t207) = some (r1, r2, r3) := by rw [hy232]; with_reducible exact H
                    have Ny232 := am hy232
                    clear hy232
                    have H' := am H
                    clear H
                    have hnb68 := NB208_206.out
                    have hnc68 := NB206_208.out
                    have hnb69 := NB208_222.out
                    have hnc69 := NB222_208.out
                    have hcz70_0 : wr.cell? ⟨gb208, 0, none⟩ = some (.slice Ao56 x209000_26.length co56) := (blk_cell BK208.out 0).trans rfl
                    have hcz70_1 : wr.cell? ⟨gb208, 1, none⟩ = some (.int .i64 t207) := (blk_cell BK208.out 1).trans rfl
                    have hfz70_0 := blk_frozen BK208.out 0
                    have hfz70_1 := blk_frozen BK208.out 1
                    have hnb71 := NB222_206.out
                    have hnc71 := NB206_222.out
                    have hcz72_0 : wr.cell? ⟨gb222, 0, none⟩ = some (u223000) := (blk_cell BK222.out 0).trans rfl
                    have hcz72_1 : wr.cell? ⟨gb222, 1, none⟩ = some (u223001) := (blk_cell BK222.out 1).trans rfl
                    have hfz72_0 := blk_frozen BK222.out 0
                    have hfz72_1 := blk_frozen BK222.out 1
                    obtain ⟨Ao74, co74, eo74⟩ := Kd.R_slice HO_223000.out
                    subst eo74
                    obtain ⟨Ao75, co75, eo75⟩ := Kd.R_slice HO_223001.out
                    subst eo75
                    go_wp2_with (first | ((with_reducible refine gate_builtin (b := .append) (xs := #[.tmp 104, .tmp 106]) rfl ?_); at_builtin; refine Kd.S_append k45 (w0 := w) w.heap.size rfl (.tmp 104) (.tmp 106) 26 45 (.agg #[(.slice none 0 0), (.slice none 0 0)]) 48 rfl Try.underlying26 info45 rfl (by decide) (by omega) u13 x13_3 (⟨x223000_5, x223001_6⟩ : S45) [.slice Ao74 x223000_5.length co74, .slice Ao75 x223001_6.length co75] (fun k_ => some k_ ≠ (.slice Ao56 x209000_26.length co56 : Value).ownBlock ∧ k_ ≠ gb222) (fun k_ => some k_ = (.slice Ao74 x223000_5.length co74 : Value).ownBlock ∨ some k_ = (.slice Ao75 x223001_6.length co75 : Value).ownBlock) rfl rfl ?aP (fun k_ hk_ => hk_.elim (fun h_ => ((Kd.R_mono (ok' := fun k_ => ((fun k_ => some k_ ≠ (.slice Ao56 x209000_26.length co56 : Value).ownBlock ∧ k_ ≠ gb222)) k_ ∧ some k_ ≠ (u13 : Value).ownBlock) (Kd.R_types (Kd.R_apart' (HO_223000.out) (Kd.S_typed HO_13.out) (by decide)) BK222.out (by decide)) (fun k_ hk => ⟨⟨hk.1.1.1, hk.2⟩, hk.1.2⟩))).1 k_ h_.symm) (fun h_ => ((Kd.R_mono (ok' := fun k_ => ((fun k_ => some k_ ≠ (.slice Ao56 x209000_26.length co56 : Value).ownBlock ∧ k_ ≠ gb222)) k_ ∧ some k_ ≠ (u13 : Value).ownBlock) (Kd.R_types (Kd.R_apart' (HO_223001.out) (Kd.S_typed HO_13.out) (by decide)) BK222.out (by decide)) (fun k_ hk => ⟨⟨hk.1.1.1, hk.2⟩, hk.1.2⟩))).1 k_ h_.symm)) ?aF ?aO ?aB ?aS ?aL ?_; (case aP => exact k45_mkM _ _ _ (⟨x223000_5, x223001_6⟩ : S45) (Kd.R_mono (Kd.R_tight rfl (Kd.R_mono (ok' := fun k_ => ((fun k_ => some k_ ≠ (.slice Ao56 x209000_26.length co56 : Value).ownBlock ∧ k_ ≠ gb222)) k_ ∧ some k_ ≠ (u13 : Value).ownBlock) (Kd.R_types (Kd.R_apart' (HO_223000.out) (Kd.S_typed HO_13.out) (by decide)) BK222.out (by decide)) (fun k_ hk => ⟨⟨hk.1.1.1, hk.2⟩, hk.1.2⟩))) (fun _ h_ => Or.inl h_)) (Kd.R_mono (Kd.R_tight rfl (Kd.R_mono (ok' := fun k_ => ((fun k_ => some k_ ≠ (.slice Ao56 x209000_26.length co56 : Value).ownBlock ∧ k_ ≠ gb222)) k_ ∧ some k_ ≠ (u13 : Value).ownBlock) (Kd.R_types (Kd.R_apart' (HO_223001.out) (Kd.S_typed HO_13.out) (by decide)) BK222.out (by decide)) (fun k_ hk => ⟨⟨hk.1.1.1, hk.2⟩, hk.1.2⟩))) (fun _ h_ => Or.inr (h_)))); (case aB => exact (wmv HB.out)); (case aF => exact (fun k_ hk => ⟨Kd.fresh' (Kd.R_lt (Kd.R_mv HO_209000.out)) k_ hk, Kd.freshB (bmv BK222.out) k_ hk⟩)); (case aO => exact (Kd.S_mv (Kd.S_mono HO_13.out (fun k_ hk => ⟨⟨hk.1, hk.2.2.2⟩, fun e_ => e_.elim (fun h_ => hk.2.1 h_) (fun h_ => hk.2.2.1 h_)⟩)))); (case aS => exact (below_size (wmv HB.out))); (case aL => have := LMc67.out; omega); intro v233 w73 ho hb hg hat; rw [← Ny232.out] at ho; have n0_ := am (Kd.R_over' (Kd.R_mv HO_209000.out) (Kd.S_typed (Kd.S_mv HO_13.out)) (by decide) hg); have n1_ := am (blk_grown (bmv BK206.out) hg (Kd.S_ne HO_13.out BK206.out (by decide))); have n2_ := am (blk_grown (bmv BK208.out) hg (Kd.S_ne HO_13.out BK208.out (by decide))); have n3_ := am (blk_grown (bmv BK222.out) hg (Kd.S_away HO_13.out (fun _ hk => hk.2.2.2))); have n4_ := am (hb); have n5_ := am (ho); clear HO_209000 BK206 BK208 BK222 HB HO_13 HO_223000 HO_223001; revert n0_ n1_ n2_ n3_ n4_ n5_; intro HO_209000 BK206 BK208 BK222 HB HO234; clear ho hb hg hat))
                    go_roundg k6
                    case measure => have := HK1.out; have := HJ26.out; have := HK3.out; have := HJ34.out; have := HK5.out; have := HK6.out; omega
                    case rel => exact ⟨(y232), (wrap64 (x14_3 + 1)), (by first | rfl | (simp; done) | (simp [*]; done)), H', ⟨by have := HK1.out; have := HJ26.out; have := HK3.out; have := HJ34.out; have := HK5.out; have := HK6.out; omega⟩, ⟨by (with_reducible repeat (first | apply Kd.S_alloc | apply Kd.S_drewN | apply Kd.S_drew)); exact Kd.S_mono HO234.out (fun _ hk => hk.1)⟩, ⟨by (with_reducible repeat (first | apply Kd.R_alloc | apply Kd.R_drewN | apply Kd.R_drew)); exact Kd.R_mono HO_209000.out (fun _ hk => trivial)⟩, ⟨by (with_reducible repeat (first | refine blk_drewN ?_ _ | refine blk_drew ?_ | refine blk_alloc ?_ _)); exact BK206.out⟩, ⟨by (with_reducible repeat (first | refine blk_drewN ?_ _ | refine blk_drew ?_ | refine blk_alloc ?_ _)); exact BK208.out⟩, ⟨by repeat (first | (with_reducible first | exact HB.out | apply below_alloc | apply pw_below_drewN | apply below_drew1 | refine below_set ?_ GE206.out | refine below_set ?_ GE208.out | refine below_set ?_ GE222.out) | exact HB.out)⟩⟩
                   ·rw [if_neg c67] at H
                    exact absurd H (by simp)
            ·rw [if_neg c39] at H
             exact absurd H (by simp)
           ·rw [if_neg c38] at H
            exact absurd H (by simp)
          ·replace c37 := Bool.eq_false_iff.mpr c37
           subst c37
           have H1 : (some (x209000_26, t207, x13_3)) = some (r1, r2, r3) := by rw [if_neg (show ¬ (false = true) by decide)] at H; exact H
           clear H
           have H := H1
           clear H1
           simp only [Option.some.injEq, Prod.mk.injEq] at H
           obtain ⟨rfl, rfl, rfl⟩ := H
           have hnb76 := NB208_206.out
           have hnc76 := NB206_208.out
           have hcz77_0 : wc.cell? ⟨gb208, 0, none⟩ = some (u209000) := (blk_cell BK208.out 0).trans rfl
           have hcz77_1 : wc.cell? ⟨gb208, 1, none⟩ = some (.int .i64 t207) := (blk_cell BK208.out 1).trans rfl
           have hfz77_0 := blk_frozen BK208.out 0
           have hfz77_1 := blk_frozen BK208.out 1
           obtain ⟨Ao78, co78, eo78⟩ := Kd.R_slice HO_209000.out
           subst eo78
           have hcz79_0 : wc.cell? ⟨gb206, 0, none⟩ = some (.slice none 0 0) := (blk_cell BK206.out 0).trans rfl
           have hcz79_1 : wc.cell? ⟨gb206, 1, none⟩ = some (.int .i64 0) := (blk_cell BK206.out 1).trans rfl
           have hfz79_0 := blk_frozen BK206.out 0
           have hfz79_1 := blk_frozen BK206.out 1
           go_wp2
           refine bodyPost_ret (results_ct rfl _ _ gb206 25 #[.slice Ao78 x209000_26.length co78, .int .i64 t207] (0, 0) _ rfl (by (with_reducible repeat (first | refine blk_drewN ?_ _ | refine blk_drew ?_ | refine blk_alloc ?_ _)); refine blk_put (cs := #[.slice Ao78 x209000_26.length co78, .int .i64 0]) ?_ 1 _ rfl; (with_reducible repeat (first | refine blk_drewN ?_ _ | refine blk_drew ?_ | refine blk_alloc ?_ _)); refine blk_put (cs := #[.slice none 0 0, .int .i64 0]) ?_ 0 _ rfl; (with_reducible repeat (first | refine blk_drewN ?_ _ | refine blk_drew ?_ | refine blk_alloc ?_ _)); exact BK206.out) Try.underlying25 rfl (by kernel_rfl)) rfl ?_
           exact ⟨_, _, by first | rfl | (simp [errW_none, errW_some] <;> rfl) | (simp [*, errW_none, errW_some] <;> rfl), by (with_reducible repeat (first | apply Kd.R_alloc | apply Kd.R_drewN | apply Kd.R_drew)); exact Kd.R_mono (Kd.R_far (p := ⟨gb206, 1, none⟩) (Kd.R_far (p := ⟨gb206, 0, none⟩) (Kd.R_types HO_209000.out BK206.out (by decide)) (fun _ hk => hk.2) (.slice Ao78 x209000_26.length co78)) (fun _ hk => hk.2) (.int .i64 t207)) (fun _ hk => trivial), by (with_reducible repeat (first | apply Kd.S_alloc | apply Kd.S_drewN | apply Kd.S_drew)); exact Kd.S_mono (Kd.S_far (p := ⟨gb206, 1, none⟩) (Kd.S_far (p := ⟨gb206, 0, none⟩) (Kd.S_types HO_13.out BK206.out (by decide)) (fun _ hk => hk.2) (.slice Ao78 x209000_26.length co78)) (fun _ hk => hk.2) (.int .i64 t207)) (fun _ hk => hk.1), by repeat (first | (with_reducible first | exact HB.out | apply below_alloc | apply pw_below_drewN | apply below_drew1 | refine below_set ?_ GE206.out | refine below_set ?_ GE208.out) | exact HB.out)⟩
end Go.Proofs.Ytmnepkbmcnpjlaa.Q
