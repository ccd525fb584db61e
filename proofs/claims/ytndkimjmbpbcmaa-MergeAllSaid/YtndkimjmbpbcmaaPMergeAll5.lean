-- packed by wip/tools/pack.py (a program of this session) out of its own texts
import Derived.Test.YtndkimjmbpbcmaaPMergeAll0
import Derived.ArgAppend
import Derived.Below
import Derived.BigQuiet
import Derived.Deep.AppendLies
import Derived.Deep.CutBlock
import Derived.Deep.DeepCutAuto
import Derived.Deep.Draws
import Derived.Deep.LoopGhost
import Derived.Deep.OwnRows
import Derived.Deep.QuietTactic
import Derived.Deep.RegionHeld3
import Derived.KernelRfl
import Derived.Laws.BitsLemmas
import Derived.Laws.BytesArg
import Derived.Laws.IdiomCopy
import Derived.Laws.MakeOwn
import Derived.Laws.OwnMore
import Derived.Laws.Rows
import Derived.Laws.Slices
import Derived.Lib.AppendStr
import Derived.Lib.ConvBytes
import Derived.Maps.AppendAt
import Derived.OrdersHeld
import Derived.OwnWalk
import Derived.RowKit
import Derived.RowKit3
import Derived.Tactics
import Derived.Test.YtndkimjmbpbcmaaProg
import Derived.WalkKit
import Derived.WideLaws
import Derived.Test.YtndkimjmbpbcmaaPMergeAll1
import Derived.Test.YtndkimjmbpbcmaaPMergeAll3
import Derived.Test.YtndkimjmbpbcmaaPMergeAll4
namespace Go.Proofs.Ytndkimjmbpbcmaa.Q
open Go.RowKit Go.Proofs.YtndkimjmbpbcmaaW.PrintWords Go.Proofs.YtndkimjmbpbcmaaW.PrintLast Go.Proofs.YtndkimjmbpbcmaaW.PrintMore
attribute [local go_sem] max2_int min2_int max_two min_two max_three min_three max_four min_four
set_option linter.unusedVariables false
set_option linter.unusedSimpArgs false
def errW : Option Int → Value
  | none => .nilIface
  | some c => .iface 0 (.int .i64 c)
theorem errW_none : errW none = .nilIface := rfl
theorem errW_some (c : Int) : errW (some c) = .iface 0 (.int .i64 c) := rfl
theorem info3 : (Try.prog.info? 3).map (fun i => (i.zero, i.size, i.bytes)) = some (some (.int .i64 0), 1, 8) := by kernel_rfl
theorem info31 : (Try.prog.info? 31).map (fun i => (i.zero, i.size, i.bytes)) = some (some (.slice none 0 0), 1, 24) := by kernel_rfl
theorem info44 : (Try.prog.info? 44).map (fun i => (i.zero, i.size, i.bytes)) = some (some (.agg #[(.slice none 0 0), (.int .i64 0), (.slice none 0 0), (.slice none 0 0), (.slice none 0 0)]), 5, 104) := by kernel_rfl
theorem info51 : (Try.prog.info? 51).map (fun i => (i.zero, i.size, i.bytes)) = some (some (.agg #[(.slice none 0 0), (.slice none 0 0)]), 2, 48) := by kernel_rfl
structure S44 where
  f0 : (List Int)
  f1 : Int
  f2 : (List Int)
  f3 : (List Int)
  f4 : (List Int)
def z44 : S44 := ⟨([] : List Int), (0 : Int), ([] : List Int), ([] : List Int), ([] : List Int)⟩
def k44 : Kd S44 := Kd.iso (Kd.pair (Kd.slice 3 (Kd.int .i64)) (Kd.pair (Kd.int .i64) (Kd.pair (Kd.slice 3 (Kd.int .i64)) (Kd.pair (Kd.slice 3 (Kd.int .i64)) (Kd.slice 3 (Kd.int .i64)))))) (fun x : S44 => (x.f0, x.f1, x.f2, x.f3, x.f4))
theorem k44_open {w : World} {x : S44} {cs : List Value} (h : k44.K w x cs) : ∃ A0 c0 A2 c2 A3 c3 A4 c4, cs = [.slice A0 x.f0.length c0, .int .i64 x.f1, .slice A2 x.f2.length c2, .slice A3 x.f3.length c3, .slice A4 x.f4.length c4] ∧ x.f0.length ≤ c0 ∧ (Kd.int .i64).C w A0 x.f0.length x.f0 ∧ x.f2.length ≤ c2 ∧ (Kd.int .i64).C w A2 x.f2.length x.f2 ∧ x.f3.length ≤ c3 ∧ (Kd.int .i64).C w A3 x.f3.length x.f3 ∧ x.f4.length ≤ c4 ∧ (Kd.int .i64).C w A4 x.f4.length x.f4 := by
  obtain ⟨_, _, rfl, ⟨A0, c0, rfl, l0, g0⟩, ⟨_, _, rfl, rfl, ⟨_, _, rfl, ⟨A2, c2, rfl, l2, g2⟩, ⟨_, _, rfl, ⟨A3, c3, rfl, l3, g3⟩, ⟨A4, c4, rfl, l4, g4⟩⟩⟩⟩⟩ := h
  exact ⟨A0, c0, A2, c2, A3, c3, A4, c4, rfl, l0, g0, l2, g2, l3, g3, l4, g4⟩
theorem k44_openM {w : World} {base : Nat} {ok : Nat → Prop} {x : S44} {cs : List Value} (h : k44.M w base ok x cs) : ∃ v0 v2 v3 v4, cs = [v0, .int .i64 x.f1, v2, v3, v4] ∧ (Kd.int .i64).R 3 w base ok v0 x.f0 ∧ (Kd.int .i64).R 3 w base ok v2 x.f2 ∧ (Kd.int .i64).R 3 w base ok v3 x.f3 ∧ (Kd.int .i64).R 3 w base ok v4 x.f4 := by
  obtain ⟨_, _, rfl, ⟨v0, rfl, g0⟩, ⟨_, _, rfl, rfl, ⟨_, _, rfl, ⟨v2, rfl, g2⟩, ⟨_, _, rfl, ⟨v3, rfl, g3⟩, ⟨v4, rfl, g4⟩⟩⟩⟩⟩ := h
  exact ⟨v0, v2, v3, v4, rfl, g0, g2, g3, g4⟩
theorem k44_mk (w : World) (x : S44) {A0 : Option Addr} {c0 : Nat} (l0 : x.f0.length ≤ c0) (g0 : (Kd.int .i64).C w A0 x.f0.length x.f0) {A2 : Option Addr} {c2 : Nat} (l2 : x.f2.length ≤ c2) (g2 : (Kd.int .i64).C w A2 x.f2.length x.f2) {A3 : Option Addr} {c3 : Nat} (l3 : x.f3.length ≤ c3) (g3 : (Kd.int .i64).C w A3 x.f3.length x.f3) {A4 : Option Addr} {c4 : Nat} (l4 : x.f4.length ≤ c4) (g4 : (Kd.int .i64).C w A4 x.f4.length x.f4) : k44.K w x [.slice A0 x.f0.length c0, .int .i64 x.f1, .slice A2 x.f2.length c2, .slice A3 x.f3.length c3, .slice A4 x.f4.length c4] := ⟨[.slice A0 x.f0.length c0], [.int .i64 x.f1, .slice A2 x.f2.length c2, .slice A3 x.f3.length c3, .slice A4 x.f4.length c4], rfl, ⟨A0, c0, rfl, l0, g0⟩, ⟨[.int .i64 x.f1], [.slice A2 x.f2.length c2, .slice A3 x.f3.length c3, .slice A4 x.f4.length c4], rfl, rfl, ⟨[.slice A2 x.f2.length c2], [.slice A3 x.f3.length c3, .slice A4 x.f4.length c4], rfl, ⟨A2, c2, rfl, l2, g2⟩, ⟨[.slice A3 x.f3.length c3], [.slice A4 x.f4.length c4], rfl, ⟨A3, c3, rfl, l3, g3⟩, ⟨A4, c4, rfl, l4, g4⟩⟩⟩⟩⟩
theorem k44_mkM (w : World) (base : Nat) (ok : Nat → Prop) (x : S44) {v0 : Value} (g0 : (Kd.int .i64).R 3 w base ok v0 x.f0) {v2 : Value} (g2 : (Kd.int .i64).R 3 w base ok v2 x.f2) {v3 : Value} (g3 : (Kd.int .i64).R 3 w base ok v3 x.f3) {v4 : Value} (g4 : (Kd.int .i64).R 3 w base ok v4 x.f4) : k44.M w base ok x [v0, .int .i64 x.f1, v2, v3, v4] := ⟨[v0], [.int .i64 x.f1, v2, v3, v4], rfl, ⟨v0, rfl, g0⟩, ⟨[.int .i64 x.f1], [v2, v3, v4], rfl, rfl, ⟨[v2], [v3, v4], rfl, ⟨v2, rfl, g2⟩, ⟨[v3], [v4], rfl, ⟨v3, rfl, g3⟩, ⟨v4, rfl, g4⟩⟩⟩⟩⟩
theorem k44_openF {W : World} {ok : Nat → Prop} {x : S44} {cs : List Value} (h : Kd.FK k44 W ok x cs) : ∃ A0 c0 A2 c2 A3 c3 A4 c4, cs = [.slice A0 x.f0.length c0, .int .i64 x.f1, .slice A2 x.f2.length c2, .slice A3 x.f3.length c3, .slice A4 x.f4.length c4] ∧ x.f0.length ≤ c0 ∧ Kd.F (Kd.int .i64) W ok A0 x.f0.length x.f0 ∧ x.f2.length ≤ c2 ∧ Kd.F (Kd.int .i64) W ok A2 x.f2.length x.f2 ∧ x.f3.length ≤ c3 ∧ Kd.F (Kd.int .i64) W ok A3 x.f3.length x.f3 ∧ x.f4.length ≤ c4 ∧ Kd.F (Kd.int .i64) W ok A4 x.f4.length x.f4 := by
  obtain ⟨A0, c0, A2, c2, A3, c3, A4, c4, rfl, l0, _, l2, _, l3, _, l4, _⟩ := k44_open (Kd.FK_now h)
  exact ⟨A0, c0, A2, c2, A3, c3, A4, c4, rfl, l0, (fun W' hW => by obtain ⟨A0_, c0_, A2_, c2_, A3_, c3_, A4_, c4_, he, l0_, g0_, l2_, g2_, l3_, g3_, l4_, g4_⟩ := k44_open (h W' hW); injection (Option.some.inj (show some (Value.slice A0 x.f0.length c0) = some (Value.slice A0_ x.f0.length c0_) from congrArg (fun l => l[0]?) he)) with ha_ _ _; rw [ha_]; exact g0_), l2, (fun W' hW => by obtain ⟨A0_, c0_, A2_, c2_, A3_, c3_, A4_, c4_, he, l0_, g0_, l2_, g2_, l3_, g3_, l4_, g4_⟩ := k44_open (h W' hW); injection (Option.some.inj (show some (Value.slice A2 x.f2.length c2) = some (Value.slice A2_ x.f2.length c2_) from congrArg (fun l => l[2]?) he)) with ha_ _ _; rw [ha_]; exact g2_), l3, (fun W' hW => by obtain ⟨A0_, c0_, A2_, c2_, A3_, c3_, A4_, c4_, he, l0_, g0_, l2_, g2_, l3_, g3_, l4_, g4_⟩ := k44_open (h W' hW); injection (Option.some.inj (show some (Value.slice A3 x.f3.length c3) = some (Value.slice A3_ x.f3.length c3_) from congrArg (fun l => l[3]?) he)) with ha_ _ _; rw [ha_]; exact g3_), l4, (fun W' hW => by obtain ⟨A0_, c0_, A2_, c2_, A3_, c3_, A4_, c4_, he, l0_, g0_, l2_, g2_, l3_, g3_, l4_, g4_⟩ := k44_open (h W' hW); injection (Option.some.inj (show some (Value.slice A4 x.f4.length c4) = some (Value.slice A4_ x.f4.length c4_) from congrArg (fun l => l[4]?) he)) with ha_ _ _; rw [ha_]; exact g4_)⟩
theorem k44_mkF (W : World) (ok : Nat → Prop) (x : S44) {A0 : Option Addr} {c0 : Nat} (l0 : x.f0.length ≤ c0) (g0 : Kd.F (Kd.int .i64) W ok A0 x.f0.length x.f0) {A2 : Option Addr} {c2 : Nat} (l2 : x.f2.length ≤ c2) (g2 : Kd.F (Kd.int .i64) W ok A2 x.f2.length x.f2) {A3 : Option Addr} {c3 : Nat} (l3 : x.f3.length ≤ c3) (g3 : Kd.F (Kd.int .i64) W ok A3 x.f3.length x.f3) {A4 : Option Addr} {c4 : Nat} (l4 : x.f4.length ≤ c4) (g4 : Kd.F (Kd.int .i64) W ok A4 x.f4.length x.f4) : Kd.FK k44 W ok x [.slice A0 x.f0.length c0, .int .i64 x.f1, .slice A2 x.f2.length c2, .slice A3 x.f3.length c3, .slice A4 x.f4.length c4] := fun W2 hW => k44_mk W2 x l0 (g0 W2 hW) l2 (g2 W2 hW) l3 (g3 W2 hW) l4 (g4 W2 hW)
def rd_T44 (xs : List S44) (i : Int) : S44 := xs.getD i.toNat z44
theorem at_T44 {w : World} {A : Option Addr} {n : Nat} {xs : List S44} (h : Kd.C k44 w A n xs) (i : Int) (h0 : 0 ≤ i) (h1 : i < n) : ∃ ad A0 c0 A2 c2 A3 c3 A4 c4, A = some ad ∧ w.cell? (ad.add (i.toNat * 5)) = some (.slice A0 (rd_T44 xs i).f0.length c0) ∧ w.cell? ⟨(ad.add (i.toNat * 5)).block, (ad.add (i.toNat * 5)).off + 1, none⟩ = some (.int .i64 (rd_T44 xs i).f1) ∧ w.cell? ⟨(ad.add (i.toNat * 5)).block, (ad.add (i.toNat * 5)).off + 2, none⟩ = some (.slice A2 (rd_T44 xs i).f2.length c2) ∧ w.cell? ⟨(ad.add (i.toNat * 5)).block, (ad.add (i.toNat * 5)).off + 3, none⟩ = some (.slice A3 (rd_T44 xs i).f3.length c3) ∧ w.cell? ⟨(ad.add (i.toNat * 5)).block, (ad.add (i.toNat * 5)).off + 4, none⟩ = some (.slice A4 (rd_T44 xs i).f4.length c4) ∧ (rd_T44 xs i).f0.length ≤ c0 ∧ (Kd.int .i64).C w A0 (rd_T44 xs i).f0.length (rd_T44 xs i).f0 ∧ (rd_T44 xs i).f2.length ≤ c2 ∧ (Kd.int .i64).C w A2 (rd_T44 xs i).f2.length (rd_T44 xs i).f2 ∧ (rd_T44 xs i).f3.length ≤ c3 ∧ (Kd.int .i64).C w A3 (rd_T44 xs i).f3.length (rd_T44 xs i).f3 ∧ (rd_T44 xs i).f4.length ≤ c4 ∧ (Kd.int .i64).C w A4 (rd_T44 xs i).f4.length (rd_T44 xs i).f4 := by
  obtain ⟨ad, c, e, _, hK, hc0⟩ := Kd.C_get h z44 i h0 h1
  have hc : ∀ j u, c[j]? = some u → w.cell? (ad.add (i.toNat * 5 + j)) = some u := hc0
  obtain ⟨A0, c0, A2, c2, A3, c3, A4, c4, rfl, l0, g0, l2, g2, l3, g3, l4, g4⟩ := k44_open hK
  exact ⟨ad, A0, c0, A2, c2, A3, c3, A4, c4, e, hc 0 _ rfl, by rw [← add_field _ _ 1 (by omega)]; exact hc 1 _ rfl, by rw [← add_field _ _ 2 (by omega)]; exact hc 2 _ rfl, by rw [← add_field _ _ 3 (by omega)]; exact hc 3 _ rfl, by rw [← add_field _ _ 4 (by omega)]; exact hc 4 _ rfl, l0, g0, l2, g2, l3, g3, l4, g4⟩
def rd_L3 (xs : List (List S44)) (i : Int) : (List S44) := xs.getD i.toNat ([] : List S44)
theorem at_L3 {w : World} {A : Option Addr} {n : Nat} {xs : List (List S44)} (h : Kd.C (Kd.slice 44 k44) w A n xs) (i : Int) (h0 : 0 ≤ i) (h1 : i < n) : ∃ ad A0 c0, A = some ad ∧ w.cell? (ad.add i.toNat) = some (.slice A0 (rd_L3 xs i).length c0) ∧ (rd_L3 xs i).length ≤ c0 ∧ k44.C w A0 (rd_L3 xs i).length (rd_L3 xs i) := by
  obtain ⟨ad, c, e, _, hK, hc0⟩ := Kd.C_get h ([] : List S44) i h0 h1
  have hc : ∀ j u, c[j]? = some u → w.cell? (ad.add (i.toNat * 1 + j)) = some u := hc0
  obtain ⟨A0, c0, rfl, l0, g0⟩ := hK
  exact ⟨ad, A0, c0, e, by have hq := hc 0 _ rfl; rwa [Nat.mul_one, Nat.add_zero] at hq, l0, g0⟩
structure S51 where
  f0 : (List Int)
  f1 : (List Int)
def z51 : S51 := ⟨([] : List Int), ([] : List Int)⟩
def k51 : Kd S51 := Kd.iso (Kd.pair (Kd.slice 3 (Kd.int .i64)) (Kd.slice 3 (Kd.int .i64))) (fun x : S51 => (x.f0, x.f1))
theorem k51_open {w : World} {x : S51} {cs : List Value} (h : k51.K w x cs) : ∃ A0 c0 A1 c1, cs = [.slice A0 x.f0.length c0, .slice A1 x.f1.length c1] ∧ x.f0.length ≤ c0 ∧ (Kd.int .i64).C w A0 x.f0.length x.f0 ∧ x.f1.length ≤ c1 ∧ (Kd.int .i64).C w A1 x.f1.length x.f1 := by
  obtain ⟨_, _, rfl, ⟨A0, c0, rfl, l0, g0⟩, ⟨A1, c1, rfl, l1, g1⟩⟩ := h
  exact ⟨A0, c0, A1, c1, rfl, l0, g0, l1, g1⟩
theorem k51_mkM (w : World) (base : Nat) (ok : Nat → Prop) (x : S51) {v0 : Value} (g0 : (Kd.int .i64).R 3 w base ok v0 x.f0) {v1 : Value} (g1 : (Kd.int .i64).R 3 w base ok v1 x.f1) : k51.M w base ok x [v0, v1] := ⟨[v0], [v1], rfl, ⟨v0, rfl, g0⟩, ⟨v1, rfl, g1⟩⟩
def rd_T51 (xs : List S51) (i : Int) : S51 := xs.getD i.toNat z51
theorem at_T51 {w : World} {A : Option Addr} {n : Nat} {xs : List S51} (h : Kd.C k51 w A n xs) (i : Int) (h0 : 0 ≤ i) (h1 : i < n) : ∃ ad A0 c0 A1 c1, A = some ad ∧ w.cell? (ad.add (i.toNat * 2)) = some (.slice A0 (rd_T51 xs i).f0.length c0) ∧ w.cell? ⟨(ad.add (i.toNat * 2)).block, (ad.add (i.toNat * 2)).off + 1, none⟩ = some (.slice A1 (rd_T51 xs i).f1.length c1) ∧ (rd_T51 xs i).f0.length ≤ c0 ∧ (Kd.int .i64).C w A0 (rd_T51 xs i).f0.length (rd_T51 xs i).f0 ∧ (rd_T51 xs i).f1.length ≤ c1 ∧ (Kd.int .i64).C w A1 (rd_T51 xs i).f1.length (rd_T51 xs i).f1 := by
  obtain ⟨ad, c, e, _, hK, hc0⟩ := Kd.C_get h z51 i h0 h1
  have hc : ∀ j u, c[j]? = some u → w.cell? (ad.add (i.toNat * 2 + j)) = some u := hc0
  obtain ⟨A0, c0, A1, c1, rfl, l0, g0, l1, g1⟩ := k51_open hK
  exact ⟨ad, A0, c0, A1, c1, e, hc 0 _ rfl, by rw [← add_field _ _ 1 (by omega)]; exact hc 1 _ rfl, l0, g0, l1, g1⟩
def cmp_isNaN_int.f (a0 : Int) : Option (Bool) := some (a0 != a0)
set_option maxHeartbeats 8000000 in
set_option maxRecDepth 100000 in
theorem cmp_isNaN_int.calls (a0 : Int) (r : Bool) (w : World) (h : cmp_isNaN_int.f a0 = some r) :
  Calls Try.prog 60 #[.int .i64 a0] w fun e w' => e = .returned (.bool r) ∧ Drawn0 w w' := by
 have H : (some (a0 != a0)) = some r := h
 clear h
 obtain rfl := Option.some.inj H
 go_enter Try.func60, Try.ntmps60
 go_wp2
 go_ret
 exact ⟨by first | rfl | (simp; done) | (simp [*]; done), by repeat (first | exact Drawn0.refl _ | apply Drawn0.step)⟩
def cmp_Compare_int.f (a0 : Int) (a1 : Int) : Option (Int) := (cmp_isNaN_int.f a0).bind fun t101 => ((cmp_isNaN_int.f a1).bind fun t102 => (if t101 = true then (if t102 = true then (some 0) else (some (-1))) else (if t102 = true then (some 1) else (if a0 < a1 then (some (-1)) else (if a0 > a1 then (some 1) else (some 0))))))
set_option maxHeartbeats 8000000 in
set_option maxRecDepth 100000 in
theorem cmp_Compare_int.calls (a0 : Int) (a1 : Int) (r : Int) (w : World) (h : cmp_Compare_int.f a0 a1 = some r) :
  Calls Try.prog 56 #[.int .i64 a0, .int .i64 a1] w fun e w' => e = .returned (.int .i64 r) ∧ Drawn0 w w' := by
 have H : ((cmp_isNaN_int.f a0).bind fun t101 => ((cmp_isNaN_int.f a1).bind fun t102 => (if t101 = true then (if t102 = true then (some 0) else (some (-1))) else (if t102 = true then (some 1) else (if a0 < a1 then (some (-1)) else (if a0 > a1 then (some 1) else (some 0))))))) = some r := h
 clear h
 replace H := Option.bind_eq_some_iff.mp H
 obtain ⟨t101, A30, H⟩ := H
 replace H : ((cmp_isNaN_int.f a1).bind fun t102 => (if t101 = true then (if t102 = true then (some 0) else (some (-1))) else (if t102 = true then (some 1) else (if a0 < a1 then (some (-1)) else (if a0 > a1 then (some 1) else (some 0)))))) = some r := H
 have A3 := am A30
 clear A30
 replace H := Option.bind_eq_some_iff.mp H
 obtain ⟨t102, A40, H⟩ := H
 replace H : (if t101 = true then (if t102 = true then (some 0) else (some (-1))) else (if t102 = true then (some 1) else (if a0 < a1 then (some (-1)) else (if a0 > a1 then (some 1) else (some 0))))) = some r := H
 have A4 := am A40
 clear A40
 by_cases c5 : t101 = true
 ·subst c5
  have H1 : (if t102 = true then (some 0) else (some (-1))) = some r := by rw [if_pos rfl] at H; exact H
  clear H
  have H := H1
  clear H1
  by_cases c6 : t102 = true
  ·subst c6
   have H1 : (some 0) = some r := by rw [if_pos rfl] at H; exact H
   clear H
   have H := H1
   clear H1
   obtain rfl := Option.some.inj H
   go_enter Try.func56, Try.ntmps56
   go_wp2_with (first | (go_at_call 60; (with_reducible refine (cmp_isNaN_int.calls a0 true _ A3.out).mono ?_); rintro e w' ⟨rfl, ⟨nd, rfl⟩⟩) | (go_at_call 60; (with_reducible refine (cmp_isNaN_int.calls a1 true _ A4.out).mono ?_); rintro e w' ⟨rfl, ⟨nd, rfl⟩⟩))
   go_ret
   exact ⟨by first | rfl | (simp; done) | (simp [*]; done), by repeat (first | exact Drawn0.refl _ | apply Drawn0.step)⟩
  ·replace c6 := Bool.eq_false_iff.mpr c6
   subst c6
   have H1 : (some (-1)) = some r := by rw [if_neg (show ¬ (false = true) by decide)] at H; exact H
   clear H
   have H := H1
   clear H1
   obtain rfl := Option.some.inj H
   go_enter Try.func56, Try.ntmps56
   go_wp2_with (first | (go_at_call 60; (with_reducible refine (cmp_isNaN_int.calls a0 true _ A3.out).mono ?_); rintro e w' ⟨rfl, ⟨nd, rfl⟩⟩) | (go_at_call 60; (with_reducible refine (cmp_isNaN_int.calls a1 false _ A4.out).mono ?_); rintro e w' ⟨rfl, ⟨nd, rfl⟩⟩))
   go_ret
   exact ⟨by first | rfl | (simp; done) | (simp [*]; done), by repeat (first | exact Drawn0.refl _ | apply Drawn0.step)⟩
 ·replace c5 := Bool.eq_false_iff.mpr c5
  subst c5
  have H1 : (if t102 = true then (some 1) else (if a0 < a1 then (some (-1)) else (if a0 > a1 then (some 1) else (some 0)))) = some r := by rw [if_neg (show ¬ (false = true) by decide)] at H; exact H
  clear H
  have H := H1
  clear H1
  by_cases c7 : t102 = true
  ·subst c7
   have H1 : (some 1) = some r := by rw [if_pos rfl] at H; exact H
   clear H
   have H := H1
   clear H1
   obtain rfl := Option.some.inj H
   go_enter Try.func56, Try.ntmps56
   go_wp2_with (first | (go_at_call 60; (with_reducible refine (cmp_isNaN_int.calls a0 false _ A3.out).mono ?_); rintro e w' ⟨rfl, ⟨nd, rfl⟩⟩) | (go_at_call 60; (with_reducible refine (cmp_isNaN_int.calls a1 true _ A4.out).mono ?_); rintro e w' ⟨rfl, ⟨nd, rfl⟩⟩))
   go_ret
   exact ⟨by first | rfl | (simp; done) | (simp [*]; done), by repeat (first | exact Drawn0.refl _ | apply Drawn0.step)⟩
  ·replace c7 := Bool.eq_false_iff.mpr c7
   subst c7
   have H1 : (if a0 < a1 then (some (-1)) else (if a0 > a1 then (some 1) else (some 0))) = some r := by rw [if_neg (show ¬ (false = true) by decide)] at H; exact H
   clear H
   have H := H1
   clear H1
   by_cases c8 : a0 < a1
   ·rw [if_pos c8] at H
    have c8b0 : decide (a0 < a1) = true := decide_eq_true c8
    clear c8
    obtain rfl := Option.some.inj H
    go_enter Try.func56, Try.ntmps56
    go_wp2_with (first | (go_at_call 60; (with_reducible refine (cmp_isNaN_int.calls a0 false _ A3.out).mono ?_); rintro e w' ⟨rfl, ⟨nd, rfl⟩⟩) | (go_at_call 60; (with_reducible refine (cmp_isNaN_int.calls a1 false _ A4.out).mono ?_); rintro e w' ⟨rfl, ⟨nd, rfl⟩⟩))
    go_ret
    exact ⟨by first | rfl | (simp; done) | (simp [*]; done), by repeat (first | exact Drawn0.refl _ | apply Drawn0.step)⟩
   ·rw [if_neg c8] at H
    have c8b0 : decide (a0 < a1) = false := decide_eq_false c8
    clear c8
    by_cases c9 : a0 > a1
    ·rw [if_pos c9] at H
     have c9b0 : decide (a1 < a0) = true := decide_eq_true c9
     clear c9
     obtain rfl := Option.some.inj H
     go_enter Try.func56, Try.ntmps56
     go_wp2_with (first | (go_at_call 60; (with_reducible refine (cmp_isNaN_int.calls a0 false _ A3.out).mono ?_); rintro e w' ⟨rfl, ⟨nd, rfl⟩⟩) | (go_at_call 60; (with_reducible refine (cmp_isNaN_int.calls a1 false _ A4.out).mono ?_); rintro e w' ⟨rfl, ⟨nd, rfl⟩⟩))
     go_ret
     exact ⟨by first | rfl | (simp; done) | (simp [*]; done), by repeat (first | exact Drawn0.refl _ | apply Drawn0.step)⟩
    ·rw [if_neg c9] at H
     have c9b0 : decide (a1 < a0) = false := decide_eq_false c9
     clear c9
     obtain rfl := Option.some.inj H
     go_enter Try.func56, Try.ntmps56
     go_wp2_with (first | (go_at_call 60; (with_reducible refine (cmp_isNaN_int.calls a0 false _ A3.out).mono ?_); rintro e w' ⟨rfl, ⟨nd, rfl⟩⟩) | (go_at_call 60; (with_reducible refine (cmp_isNaN_int.calls a1 false _ A4.out).mono ?_); rintro e w' ⟨rfl, ⟨nd, rfl⟩⟩))
     go_ret
     exact ⟨by first | rfl | (simp; done) | (simp [*]; done), by repeat (first | exact Drawn0.refl _ | apply Drawn0.step)⟩
def slices_Compare_int_int.l0 : Nat → List Int → List Int → List Int → Int → Int → Option (Int)
 | 0, _, _, _, _, _ => none
 | k + 1, x0, x1, x9, x10, x11 => if x11 < x10 then (if 0 ≤ x11 then (if x11 < (x9.length : Int) then (if x11 ≥ (x1.length : Int) then (some 1) else (if x11 < (x1.length : Int) then ((cmp_Compare_int.f (rd x9 x11) (rd x1 x11)).bind fun t105 => (if t105 = 0 then (slices_Compare_int_int.l0 k x0 x1 x9 x10 (wrap64 (x11 + 1))) else (some t105))) else (none))) else (none)) else (none)) else (if (x0.length : Int) < (x1.length : Int) then (some (-1)) else (some 0))
def slices_Compare_int_int.f (k : Nat) (l0 : List Int) (l1 : List Int) : Option (Int) := slices_Compare_int_int.l0 k l0 l1 l0 (l0.length : Int) 0
set_option maxHeartbeats 8000000 in
set_option maxRecDepth 100000 in
theorem slices_Compare_int_int.calls (k : Nat) (A0 : Option Addr) (c0 : Nat) (l0 : List Int) (A1 : Option Addr) (c1 : Nat) (l1 : List Int) (r : Int) (w : World) (hr0 : Kd.C (Kd.int .i64) w A0 l0.length l0) (hc0 : l0.length ≤ c0) (hr1 : Kd.C (Kd.int .i64) w A1 l1.length l1) (hc1 : l1.length ≤ c1) (h : slices_Compare_int_int.f k l0 l1 = some r) :
  Calls Try.prog 48 #[.slice A0 l0.length c0, .slice A1 l1.length c1] w fun e w' => e = .returned (.int .i64 r) ∧ Drawn0 w w' := by
 have HR0 := am hr0
 have HC0 := am hc0
 clear hr0 hc0
 have HR1 := am hr1
 have HC1 := am hc1
 clear hr1 hc1
 have H : (slices_Compare_int_int.l0 k l0 l1 l0 (l0.length : Int) 0) = some r := h
 clear h
 have H' := am H
 clear H
 go_enter Try.func48, Try.ntmps48
 go_wp2
 go_loopg [11] k (fun kq v11 w' => ∃ (x11_1 : Int), v11 = .int .i64 x11_1 ∧ Aside0 (slices_Compare_int_int.l0 kq l0 l1 l0 (l0.length : Int) x11_1 = some r) ∧ Aside0 (kq ≤ k) ∧ Drawn0 w w')
 case atStart => exact ⟨(0), (by first | rfl | (simp; done) | (simp [*]; done)), H', ⟨Nat.le_refl _⟩, by repeat (first | exact Drawn0.refl _ | apply Drawn0.step)⟩
 case round =>
  clear H'
  try clear c1
  try clear p2
  obtain ⟨x11_1, rfl, HA, HK1, ⟨m1, rfl⟩⟩ := hrel
  cases gk with
  | zero => exact absurd HA.out (by simp [slices_Compare_int_int.l0])
  | succ k1 =>
   have H := HA.out
   clear HA
   simp only [slices_Compare_int_int.l0] at H
   by_cases c3 : x11_1 < (l0.length : Int)
   ·rw [if_pos c3] at H
    have c3b0 : decide (x11_1 < (l0.length : Int)) = true := decide_eq_true c3
    clear c3
    by_cases c4 : 0 ≤ x11_1
    ·rw [if_pos c4] at H
     have c4b0 : decide (0 ≤ x11_1) = true := decide_eq_true c4
     clear c4
     by_cases c5 : x11_1 < (l0.length : Int)
     ·rw [if_pos c5] at H
      have c5b0 : decide (x11_1 < (l0.length : Int)) = true := decide_eq_true c5
      clear c5
      by_cases c6 : x11_1 ≥ (l1.length : Int)
      ·rw [if_pos c6] at H
       have c6b0 : decide ((l1.length : Int) ≤ x11_1) = true := decide_eq_true c6
       clear c6
       obtain rfl := Option.some.inj H
       have p103 : 0 ≤ (x11_1 : Int) := of_decide_eq_true (by first | (with_reducible assumption) | assumption)
       have q103 : x11_1 < (l0.length : Int) := of_decide_eq_true (by first | (with_reducible assumption) | assumption)
       obtain ⟨ad103, e103, hx103_0⟩ := Kd.at_int HR0.out x11_1 p103 q103
       cases e103
       replace p103 := eq_true p103
       replace q103 := eq_true q103
       go_wp2
       go_ret
       exact ⟨by first | rfl | (simp; done) | (simp [*]; done), by repeat (first | exact Drawn0.refl _ | apply Drawn0.step)⟩
      ·rw [if_neg c6] at H
       have c6b0 : decide ((l1.length : Int) ≤ x11_1) = false := decide_eq_false c6
       clear c6
       by_cases c7 : x11_1 < (l1.length : Int)
       ·rw [if_pos c7] at H
        have c7b0 : decide (x11_1 < (l1.length : Int)) = true := decide_eq_true c7
        clear c7
        replace H := Option.bind_eq_some_iff.mp H
        obtain ⟨t105, A80, H⟩ := H
        replace H : (if t105 = 0 then (slices_Compare_int_int.l0 k1 l0 l1 l0 (l0.length : Int) (wrap64 (x11_1 + 1))) else (some t105)) = some r := H
        have A8 := am A80
        clear A80
        by_cases c9 : t105 = 0
        ·rw [if_pos c9] at H
         have c9b0 : (t105 == 0) = true := beq_iff_eq.mpr c9
         have c9b1 : (t105 != 0) = false := bne_eq_false_iff_eq.mpr c9
         clear c9
         have H' := am H
         clear H
         have p103 : 0 ≤ (x11_1 : Int) := of_decide_eq_true (by first | (with_reducible assumption) | assumption)
         have q103 : x11_1 < (l0.length : Int) := of_decide_eq_true (by first | (with_reducible assumption) | assumption)
         obtain ⟨ad103, e103, hx103_0⟩ := Kd.at_int HR0.out x11_1 p103 q103
         cases e103
         replace p103 := eq_true p103
         replace q103 := eq_true q103
         have p104 : 0 ≤ (x11_1 : Int) := of_decide_eq_true (by first | (with_reducible assumption) | assumption)
         have q104 : x11_1 < (l1.length : Int) := of_decide_eq_true (by first | (with_reducible assumption) | assumption)
         obtain ⟨ad104, e104, hx104_0⟩ := Kd.at_int HR1.out x11_1 p104 q104
         cases e104
         replace p104 := eq_true p104
         replace q104 := eq_true q104
         go_wp2_with (first | (go_at_call 56; (with_reducible refine (cmp_Compare_int.calls (rd l0 x11_1) (rd l1 x11_1) t105 _ A8.out).mono ?_); rintro e w' ⟨rfl, ⟨nd, rfl⟩⟩))
         go_roundg k1
         case measure => have := HK1.out; omega
         case rel => exact ⟨(wrap64 (x11_1 + 1)), (by first | rfl | (simp; done) | (simp [*]; done)), H', ⟨by have := HK1.out; omega⟩, by repeat (first | exact Drawn0.refl _ | apply Drawn0.step)⟩
        ·rw [if_neg c9] at H
         have c9b0 : (t105 == 0) = false := beq_eq_false_iff_ne.mpr c9
         have c9b1 : (t105 != 0) = true := bne_iff_ne.mpr c9
         obtain rfl := Option.some.inj H
         have p103 : 0 ≤ (x11_1 : Int) := of_decide_eq_true (by first | (with_reducible assumption) | assumption)
         have q103 : x11_1 < (l0.length : Int) := of_decide_eq_true (by first | (with_reducible assumption) | assumption)
         obtain ⟨ad103, e103, hx103_0⟩ := Kd.at_int HR0.out x11_1 p103 q103
         cases e103
         replace p103 := eq_true p103
         replace q103 := eq_true q103
         have p104 : 0 ≤ (x11_1 : Int) := of_decide_eq_true (by first | (with_reducible assumption) | assumption)
         have q104 : x11_1 < (l1.length : Int) := of_decide_eq_true (by first | (with_reducible assumption) | assumption)
         obtain ⟨ad104, e104, hx104_0⟩ := Kd.at_int HR1.out x11_1 p104 q104
         cases e104
         replace p104 := eq_true p104
         replace q104 := eq_true q104
         go_wp2_with (first | (go_at_call 56; (with_reducible refine (cmp_Compare_int.calls (rd l0 x11_1) (rd l1 x11_1) t105 _ A8.out).mono ?_); rintro e w' ⟨rfl, ⟨nd, rfl⟩⟩))
         go_ret
         exact ⟨by first | rfl | (simp; done) | (simp [*]; done), by repeat (first | exact Drawn0.refl _ | apply Drawn0.step)⟩
       ·rw [if_neg c7] at H
        exact absurd H (by simp)
     ·rw [if_neg c5] at H
      exact absurd H (by simp)
    ·rw [if_neg c4] at H
     exact absurd H (by simp)
   ·rw [if_neg c3] at H
    have c3b0 : decide (x11_1 < (l0.length : Int)) = false := decide_eq_false c3
    clear c3
    by_cases c10 : (l0.length : Int) < (l1.length : Int)
    ·rw [if_pos c10] at H
     have c10b0 : decide ((l0.length : Int) < (l1.length : Int)) = true := decide_eq_true c10
     have c10b1 : decide (l0.length < l1.length) = true := decide_eq_true (Int.ofNat_lt.mp c10)
     clear c10
     obtain rfl := Option.some.inj H
     go_wp2
     go_ret
     exact ⟨by first | rfl | (simp; done) | (simp [*]; done), by repeat (first | exact Drawn0.refl _ | apply Drawn0.step)⟩
    ·rw [if_neg c10] at H
     have c10b0 : decide ((l0.length : Int) < (l1.length : Int)) = false := decide_eq_false c10
     have c10b1 : decide (l0.length < l1.length) = false := decide_eq_false (fun h => c10 (Int.ofNat_lt.mpr h))
     clear c10
     obtain rfl := Option.some.inj H
     go_wp2
     go_ret
     exact ⟨by first | rfl | (simp; done) | (simp [*]; done), by repeat (first | exact Drawn0.refl _ | apply Drawn0.step)⟩
def cell_Less.f (k : Nat) (l0 : List Int) (l1 : List Int) : Option (Int) := (slices_Compare_int_int.f k l0 l1).bind fun t106 => (some t106)
set_option maxHeartbeats 8000000 in
set_option maxRecDepth 100000 in
theorem cell_Less.calls (k : Nat) (A0 : Option Addr) (c0 : Nat) (l0 : List Int) (A1 : Option Addr) (c1 : Nat) (l1 : List Int) (r : Int) (w : World) (hr0 : Kd.C (Kd.int .i64) w A0 l0.length l0) (hc0 : l0.length ≤ c0) (hr1 : Kd.C (Kd.int .i64) w A1 l1.length l1) (hc1 : l1.length ≤ c1) (h : cell_Less.f k l0 l1 = some r) :
  Calls Try.prog 37 #[.slice A0 l0.length c0, .slice A1 l1.length c1] w fun e w' => e = .returned (.int .i64 r) ∧ Drawn0 w w' := by
 have HR0 := am hr0
 have HC0 := am hc0
 clear hr0 hc0
 have HR1 := am hr1
 have HC1 := am hc1
 clear hr1 hc1
 have H : ((slices_Compare_int_int.f k l0 l1).bind fun t106 => (some t106)) = some r := h
 clear h
 replace H := Option.bind_eq_some_iff.mp H
 obtain ⟨t106, A30, H⟩ := H
 replace H : (some t106) = some r := H
 have A3 := am A30
 clear A30
 obtain rfl := Option.some.inj H
 go_enter Try.func37, Try.ntmps37
 go_wp2_with (first | (go_at_call 48; (with_reducible refine (slices_Compare_int_int.calls k _ _ l0 _ _ l1 t106 _ ?side1 ?side2 ?side3 ?side4 A3.out).mono ?_); (case side1 => repeat (first | exact HR0.out | (with_reducible refine Kd.C_alloc ?_ _) | (with_reducible refine Kd.C_drewN ?_ _) | (with_reducible refine Kd.C_drew ?_))); (case side2 => exact HC0.out); (case side3 => repeat (first | exact HR1.out | (with_reducible refine Kd.C_alloc ?_ _) | (with_reducible refine Kd.C_drewN ?_ _) | (with_reducible refine Kd.C_drew ?_))); (case side4 => exact HC1.out); rintro e w' ⟨rfl, ⟨nd, rfl⟩⟩))
 go_ret
 exact ⟨by first | rfl | (simp; done) | (simp [*]; done), by repeat (first | exact Drawn0.refl _ | apply Drawn0.step)⟩
def hypercuberef2_Join.l0 : Nat → Int → List Int → Int → List Int → List Int → List Int → List Int → Int → List Int → List Int → List Int → List Int → Int → List Int → List Int → List Int → Option (List Int × Int × List Int × List Int × List Int)
 | 0, _, _, _, _, _, _, _, _, _, _, _, _, _, _, _, _ => none
 | k + 1, x6, x230000, x230001, x230002, x230003, x230004, x231000, x231001, x231002, x231003, x231004, x239000, x239001, x239002, x239003, x239004 => if x6 < (x230002.length : Int) then (if 0 ≤ x6 then (if x6 < (x231002.length : Int) then (if x239002.length < 17592186044416 then (if x6 < (x230003.length : Int) then (if x6 < (x231003.length : Int) then (if x239003.length < 17592186044416 then (if x6 < (x230004.length : Int) then (if x6 < (x231004.length : Int) then (if x239004.length < 17592186044416 then (hypercuberef2_Join.l0 k (wrap64 (x6 + 1)) x230000 x230001 x230002 x230003 x230004 x231000 x231001 x231002 x231003 x231004 x239000 x239001 (x239002 ++ [wrap64 ((rd x230002 x6) + (rd x231002 x6))]) (x239003 ++ [mn (rd x230003 x6) (rd x231003 x6)]) (x239004 ++ [mx (rd x230004 x6) (rd x231004 x6)])) else (none)) else (none)) else (none)) else (none)) else (none)) else (none)) else (none)) else (none)) else (none)) else (some (x239000, x239001, x239002, x239003, x239004))
def hypercuberef2_Join.f (k : Nat) (l0_0 : List Int) (a0_1 : Int) (l0_2 : List Int) (l0_3 : List Int) (l0_4 : List Int) (l1_0 : List Int) (a1_1 : Int) (l1_2 : List Int) (l1_3 : List Int) (l1_4 : List Int) : Option (List Int × Int × List Int × List Int × List Int) := (some (([] : List Int) : List Int)).bind fun y232 => (if y232.length + l0_0.length < 17592186044416 then (hypercuberef2_Join.l0 k 0 l0_0 a0_1 l0_2 l0_3 l0_4 l1_0 a1_1 l1_2 l1_3 l1_4 (y232 ++ l0_0) (wrap64 (a0_1 + a1_1)) ([] : List Int) ([] : List Int) ([] : List Int)) else (none))
def hypercuberef2_Join.T1 : Bool × List (List Nat × List Nat) := (true, [([], []), ([], []), ([1], [1]), ([0, 2], [0, 2]), ([], []), ([4], [4]), ([], []), ([6], [6]), ([5, 7], [5, 7]), ([3, 8], [3, 8]), ([], []), ([10, 9, 3, 0, 1, 2, 3, 4, 5, 6, 7, 8, 9, 10], [9, 10])])
def hypercuberef2_Join.B1 : List Nat := [0, 0, 2, 7, 0, 16, 0, 64, 240, 511, 0, 2047]
theorem hypercuberef2_Join.tab1 : rtab .any (opsOf Try.f43 1) = hypercuberef2_Join.T1 := by kernel_rfl
theorem hypercuberef2_Join.bits1 : waitsOk hypercuberef2_Join.T1.2 hypercuberef2_Join.B1 = true := by kernel_rfl
def hypercuberef2_Join.T5 : Bool × List (List Nat × List Nat) := (true, [([], []), ([0], [0]), ([], []), ([2], [2]), ([], []), ([3, 4], [3, 4]), ([5], [5]), ([], []), ([7], [7]), ([], []), ([8, 9], [8, 9]), ([10], [10]), ([6, 11], [6, 11]), ([12], [12]), ([1, 13], [1, 13]), ([0, 1, 2, 3, 4, 5, 6, 7, 8, 9, 10, 11, 12, 13, 14], []), ([15, 14, 14, 0, 1, 2, 3, 4, 5, 6, 7, 8, 9, 10, 11, 12, 13, 14], [14, 15])])
def hypercuberef2_Join.B5 : List Nat := [0, 1, 0, 4, 0, 28, 60, 0, 128, 0, 896, 1920, 4092, 8188, 16383, 32767, 65535]
theorem hypercuberef2_Join.tab5 : rtab .any (opsOf Try.f43 5) = hypercuberef2_Join.T5 := by kernel_rfl
theorem hypercuberef2_Join.bits5 : waitsOk hypercuberef2_Join.T5.2 hypercuberef2_Join.B5 = true := by kernel_rfl
def hypercuberef2_Join.T6 : Bool × List (List Nat × List Nat) := (true, [([], []), ([0], [0]), ([], []), ([2], [2]), ([], []), ([3, 4], [3, 4]), ([5], [5]), ([], []), ([7], [7]), ([], []), ([8, 9], [8, 9]), ([10], [10]), ([6, 11], [6, 11]), ([12], [12]), ([1, 13], [1, 13]), ([0, 1, 2, 3, 4, 5, 6, 7, 8, 9, 10, 11, 12, 13, 14], []), ([15, 14, 14, 0, 1, 2, 3, 4, 5, 6, 7, 8, 9, 10, 11, 12, 13, 14], [14, 15])])
def hypercuberef2_Join.B6 : List Nat := [0, 1, 0, 4, 0, 28, 60, 0, 128, 0, 896, 1920, 4092, 8188, 16383, 32767, 65535]
theorem hypercuberef2_Join.tab6 : rtab .any (opsOf Try.f43 6) = hypercuberef2_Join.T6 := by kernel_rfl
theorem hypercuberef2_Join.bits6 : waitsOk hypercuberef2_Join.T6.2 hypercuberef2_Join.B6 = true := by kernel_rfl
def hypercuberef2_Join.T7 : Bool × List (List Nat × List Nat) := (true, [([], []), ([0], [0]), ([], []), ([2], [2]), ([], []), ([3, 4], [3, 4]), ([5], [5]), ([], []), ([7], [7]), ([], []), ([8, 9], [8, 9]), ([10], [10]), ([6, 11], [6, 11]), ([12], [12]), ([1, 13], [1, 13]), ([0, 1, 2, 3, 4, 5, 6, 7, 8, 9, 10, 11, 12, 13, 14], []), ([15, 14, 14, 0, 1, 2, 3, 4, 5, 6, 7, 8, 9, 10, 11, 12, 13, 14], [14, 15])])
def hypercuberef2_Join.B7 : List Nat := [0, 1, 0, 4, 0, 28, 60, 0, 128, 0, 896, 1920, 4092, 8188, 16383, 32767, 65535]
theorem hypercuberef2_Join.tab7 : rtab .any (opsOf Try.f43 7) = hypercuberef2_Join.T7 := by kernel_rfl
theorem hypercuberef2_Join.bits7 : waitsOk hypercuberef2_Join.T7.2 hypercuberef2_Join.B7 = true := by kernel_rfl
set_option maxHeartbeats 8000000 in
set_option maxRecDepth 100000 in
theorem hypercuberef2_Join.calls (k : Nat) (A0_0 : Option Addr) (c0_0 : Nat) (l0_0 : List Int) (a0_1 : Int) (A0_2 : Option Addr) (c0_2 : Nat) (l0_2 : List Int) (A0_3 : Option Addr) (c0_3 : Nat) (l0_3 : List Int) (A0_4 : Option Addr) (c0_4 : Nat) (l0_4 : List Int) (A1_0 : Option Addr) (c1_0 : Nat) (l1_0 : List Int) (a1_1 : Int) (A1_2 : Option Addr) (c1_2 : Nat) (l1_2 : List Int) (A1_3 : Option Addr) (c1_3 : Nat) (l1_3 : List Int) (A1_4 : Option Addr) (c1_4 : Nat) (l1_4 : List Int) (r1 : List Int) (r2 : Int) (r3 : List Int) (r4 : List Int) (r5 : List Int) (w : World) (hr0_0 : Kd.C (Kd.int .i64) w A0_0 l0_0.length l0_0) (hc0_0 : l0_0.length ≤ c0_0) (hr0_2 : Kd.C (Kd.int .i64) w A0_2 l0_2.length l0_2) (hc0_2 : l0_2.length ≤ c0_2) (hr0_3 : Kd.C (Kd.int .i64) w A0_3 l0_3.length l0_3) (hc0_3 : l0_3.length ≤ c0_3) (hr0_4 : Kd.C (Kd.int .i64) w A0_4 l0_4.length l0_4) (hc0_4 : l0_4.length ≤ c0_4) (hr1_0 : Kd.C (Kd.int .i64) w A1_0 l1_0.length l1_0) (hc1_0 : l1_0.length ≤ c1_0) (hr1_2 : Kd.C (Kd.int .i64) w A1_2 l1_2.length l1_2) (hc1_2 : l1_2.length ≤ c1_2) (hr1_3 : Kd.C (Kd.int .i64) w A1_3 l1_3.length l1_3) (hc1_3 : l1_3.length ≤ c1_3) (hr1_4 : Kd.C (Kd.int .i64) w A1_4 l1_4.length l1_4) (hc1_4 : l1_4.length ≤ c1_4) (h : hypercuberef2_Join.f k l0_0 a0_1 l0_2 l0_3 l0_4 l1_0 a1_1 l1_2 l1_3 l1_4 = some (r1, r2, r3, r4, r5)) :
  Calls Try.prog 43 #[.agg #[.slice A0_0 l0_0.length c0_0, .int .i64 a0_1, .slice A0_2 l0_2.length c0_2, .slice A0_3 l0_3.length c0_3, .slice A0_4 l0_4.length c0_4], .agg #[.slice A1_0 l1_0.length c1_0, .int .i64 a1_1, .slice A1_2 l1_2.length c1_2, .slice A1_3 l1_3.length c1_3, .slice A1_4 l1_4.length c1_4]] w fun e w' => ∃ v0_ v2_ v3_ v4_ : Value, e = .returned (.agg #[v0_, .int .i64 r2, v2_, v3_, v4_]) ∧ Kd.R (Kd.int .i64) 3 w' w.heap.size (fun k_ => some k_ ≠ (v2_ : Value).ownBlock ∧ some k_ ≠ (v3_ : Value).ownBlock ∧ some k_ ≠ (v4_ : Value).ownBlock) v0_ r1 ∧ Kd.R (Kd.int .i64) 3 w' w.heap.size (fun k_ => some k_ ≠ (v0_ : Value).ownBlock ∧ some k_ ≠ (v3_ : Value).ownBlock ∧ some k_ ≠ (v4_ : Value).ownBlock) v2_ r3 ∧ Kd.R (Kd.int .i64) 3 w' w.heap.size (fun k_ => some k_ ≠ (v0_ : Value).ownBlock ∧ some k_ ≠ (v2_ : Value).ownBlock ∧ some k_ ≠ (v4_ : Value).ownBlock) v3_ r4 ∧ Kd.R (Kd.int .i64) 3 w' w.heap.size (fun k_ => some k_ ≠ (v0_ : Value).ownBlock ∧ some k_ ≠ (v2_ : Value).ownBlock ∧ some k_ ≠ (v3_ : Value).ownBlock) v4_ r5 ∧ Below w.heap.size w w' := by
 have hu44 := Try.underlying44
 have HR0_0 := am hr0_0
 have HC0_0 := am hc0_0
 clear hr0_0 hc0_0
 have HR0_2 := am hr0_2
 have HC0_2 := am hc0_2
 clear hr0_2 hc0_2
 have HR0_3 := am hr0_3
 have HC0_3 := am hc0_3
 clear hr0_3 hc0_3
 have HR0_4 := am hr0_4
 have HC0_4 := am hc0_4
 clear hr0_4 hc0_4
 have HR1_0 := am hr1_0
 have HC1_0 := am hc1_0
 clear hr1_0 hc1_0
 have HR1_2 := am hr1_2
 have HC1_2 := am hc1_2
 clear hr1_2 hc1_2
 have HR1_3 := am hr1_3
 have HC1_3 := am hc1_3
 clear hr1_3 hc1_3
 have HR1_4 := am hr1_4
 have HC1_4 := am hc1_4
 clear hr1_4 hc1_4
 have HB := am (Below.refl w.heap.size w)
 have H : ((some (([] : List Int) : List Int)).bind fun y232 => (if y232.length + l0_0.length < 17592186044416 then (hypercuberef2_Join.l0 k 0 l0_0 a0_1 l0_2 l0_3 l0_4 l1_0 a1_1 l1_2 l1_3 l1_4 (y232 ++ l0_0) (wrap64 (a0_1 + a1_1)) ([] : List Int) ([] : List Int) ([] : List Int)) else (none))) = some (r1, r2, r3, r4, r5) := h
 clear h
 obtain ⟨y232, hy232⟩ : ∃ y_ : List Int, y_ = (([] : List Int)) := ⟨_, rfl⟩
 replace H : (if y232.length + l0_0.length < 17592186044416 then (hypercuberef2_Join.l0 k 0 l0_0 a0_1 l0_2 l0_3 l0_4 l1_0 a1_1 l1_2 l1_3 l1_4 (y232 ++ l0_0) (wrap64 (a0_1 + a1_1)) ([] : List Int) ([] : List Int) ([] : List Int)) else (none)) = some (r1, r2, r3, r4, r5) := by first | (rw [hy232]; with_reducible exact H) | (have H2_ := (Option.bind_some _ _).symm.trans H; rw [hy232]; with_reducible exact H2_) | (have H2_ := (Option.bind_some _ _).symm.trans H; with_reducible exact H2_) | with_reducible exact H | (rw [hy232]; exact H) | exact H
 have Ny232 := am hy232
 clear hy232
 by_cases c3 : y232.length + l0_0.length < 17592186044416
 ·rw [if_pos c3] at H
  have LMc3 := am c3
  clear c3
  obtain ⟨y235, hy235⟩ : ∃ y_ : List Int, y_ = (y232 ++ l0_0) := ⟨_, rfl⟩
  replace H : (hypercuberef2_Join.l0 k 0 l0_0 a0_1 l0_2 l0_3 l0_4 l1_0 a1_1 l1_2 l1_3 l1_4 y235 (wrap64 (a0_1 + a1_1)) ([] : List Int) ([] : List Int) ([] : List Int)) = some (r1, r2, r3, r4, r5) := by rw [hy235]; with_reducible exact H
  have Ny235 := am hy235
  clear hy235
  have H' := am H
  clear H
  go_enter Try.func43, Try.ntmps43
  try go_wp2_with (first | ((with_reducible refine gate_dst (N := 2) rfl ?_); refine box_event ?hg (N := 2) ?hd (cs := #[.slice A0_0 l0_0.length c0_0, .int .i64 a0_1, .slice A0_2 l0_2.length c0_2, .slice A0_3 l0_3.length c0_3, .slice A0_4 l0_4.length c0_4]) (t := 44) ?hr ?_; (case hd => rfl); (case hg => rfl); (case hr => first | (go_simp; done) | (go_simp; rfl)); intro gb229 hg w4 hbox hb; have n0_ := am (below_step (wmv HB.out) hb); have n1_ := am (hbox); have n2_ := am ((by rw [hg]; exact (below_size (wmv HB.out)) : w.heap.size ≤ gb229)); have n3_ := am ((by rw [hg]; exact (below_size (wmv HB.out)) : w.heap.size ≤ gb229)); clear HB; revert n0_ n1_ n2_ n3_; intro HB BK229 GW229 GE229; clear hb hbox hg) | ((with_reducible refine gate_dst (N := 3) rfl ?_); refine box_event ?hg (N := 3) ?hd (cs := #[.slice A1_0 l1_0.length c1_0, .int .i64 a1_1, .slice A1_2 l1_2.length c1_2, .slice A1_3 l1_3.length c1_3, .slice A1_4 l1_4.length c1_4]) (t := 44) ?hr ?_; (case hd => rfl); (case hg => rfl); (case hr => first | (go_simp; done) | (go_simp; rfl)); intro gb230 hg w5 hbox hb; have n0_ := am (blk_below (bmv BK229.out) hb); have n1_ := am (below_step (wmv HB.out) hb); have n2_ := am (hbox); have n3_ := am ((by rw [hg]; exact (below_size (wmv HB.out)) : w.heap.size ≤ gb230)); have n4_ := am ((by rw [hg]; exact (below_size (wmv HB.out)) : w.heap.size ≤ gb230)); have n5_ := am ((by rw [hg]; exact Nat.ne_of_lt (blk_lt (bmv BK229.out)) : gb229 ≠ gb230)); have n6_ := am ((by rw [hg]; exact Nat.ne_of_gt (blk_lt (bmv BK229.out)) : gb230 ≠ gb229)); clear BK229 HB; revert n0_ n1_ n2_ n3_ n4_ n5_ n6_; intro BK229 HB BK230 GW230 GE230 NB229_230 NB230_229; clear hb hbox hg) | ((with_reducible refine gate_dst (N := 4) rfl ?_); refine box_event ?hg (N := 4) ?hd (cs := #[.slice none 0 0, .int .i64 0, .slice none 0 0, .slice none 0 0, .slice none 0 0]) (t := 44) ?hr ?_; (case hd => rfl); (case hg => rfl); (case hr => first | (go_simp; done) | (go_simp; rfl)); intro gb231 hg w6 hbox hb; have n0_ := am (blk_below (bmv BK229.out) hb); have n1_ := am (blk_below (bmv BK230.out) hb); have n2_ := am (below_step (wmv HB.out) hb); have n3_ := am (hbox); have n4_ := am ((by rw [hg]; exact (below_size (wmv HB.out)) : w.heap.size ≤ gb231)); have n5_ := am ((by rw [hg]; exact (below_size (wmv HB.out)) : w.heap.size ≤ gb231)); have n6_ := am ((by rw [hg]; exact Nat.ne_of_lt (blk_lt (bmv BK229.out)) : gb229 ≠ gb231)); have n7_ := am ((by rw [hg]; exact Nat.ne_of_gt (blk_lt (bmv BK229.out)) : gb231 ≠ gb229)); have n8_ := am ((by rw [hg]; exact Nat.ne_of_lt (blk_lt (bmv BK230.out)) : gb230 ≠ gb231)); have n9_ := am ((by rw [hg]; exact Nat.ne_of_gt (blk_lt (bmv BK230.out)) : gb231 ≠ gb230)); clear BK229 BK230 HB; revert n0_ n1_ n2_ n3_ n4_ n5_ n6_ n7_ n8_ n9_; intro BK229 BK230 HB BK231 GW231 GE231 NB229_231 NB231_229 NB230_231 NB231_230; clear hb hbox hg))
  have n0_ := am (blk_drew BK229.out)
  have n1_ := am (blk_drew BK230.out)
  have n2_ := am (blk_drew BK231.out)
  have n3_ := am (below_drew1 HB.out)
  clear BK229 BK230 BK231 HB
  revert n0_ n1_ n2_ n3_
  intro BK229 BK230 BK231 HB
  refine start_ (n := 12) (S := fun w' => w'.cell? ⟨gb229, 0, none⟩ = some (.slice A0_0 l0_0.length c0_0) ∧ w'.cell? ⟨gb229, 1, none⟩ = some (.int .i64 a0_1) ∧ w'.cell? ⟨gb229, 2, none⟩ = some (.slice A0_2 l0_2.length c0_2) ∧ w'.cell? ⟨gb229, 3, none⟩ = some (.slice A0_3 l0_3.length c0_3) ∧ w'.cell? ⟨gb229, 4, none⟩ = some (.slice A0_4 l0_4.length c0_4) ∧ w'.cell? ⟨gb230, 0, none⟩ = some (.slice A1_0 l1_0.length c1_0) ∧ w'.cell? ⟨gb230, 1, none⟩ = some (.int .i64 a1_1) ∧ w'.cell? ⟨gb230, 2, none⟩ = some (.slice A1_2 l1_2.length c1_2) ∧ w'.cell? ⟨gb230, 3, none⟩ = some (.slice A1_3 l1_3.length c1_3) ∧ w'.cell? ⟨gb230, 4, none⟩ = some (.slice A1_4 l1_4.length c1_4)) (ds := []) (bb 12 0) (by kernel_rfl) rfl rfl ⟨bc BK229 0, bc BK229 1, bc BK229 2, bc BK229 3, bc BK229 4, bc BK230 0, bc BK230 1, bc BK230 2, bc BK230 3, bc BK230 4⟩ (fun hHeld => ?_); refine with_tabW hypercuberef2_Join.tab1 hypercuberef2_Join.bits1 (fun HT_ HW_ => ?_)
  generalize w6.drew = w7 at BK229 BK230 BK231 HB hHeld ⊢
  refine pu (i := 1) (N := some 8) (bb 12 2) HT_ ?_
  refine pu (i := 4) (N := some 11) (bb 12 18) HT_ ?_
  refine pu (i := 6) (N := some 13) (bb 12 82) HT_ ?_
  refine tk (i := 2) (N := some 9) (bb 12 86) HT_ HW_ hHeld ?_
  refine tk (i := 5) (N := some 12) (bb 12 118) HT_ HW_ hHeld ?_
  refine tk (i := 7) (N := some 14) (bb 12 246) HT_ HW_ hHeld ?_
  refine pu (i := 8) (N := some 15) (bb 12 502) HT_ ?_
  refine join_ (σ := Value × Value × Nat) 1 (bb 12 2047) (fun s_ => [(7, s_.1), (10, s_.2.1), (5, .pointer (some ⟨s_.2.2, 0, none⟩)), (16, .agg #[s_.2.1, .int .i64 (wrap64 (a0_1 + a1_1)), .slice none 0 0, .slice none 0 0, .slice none 0 0])]) (fun s_ w' => (w'.cell? ⟨gb229, 0, none⟩ = some (.slice A0_0 l0_0.length c0_0) ∧ w'.cell? ⟨gb229, 1, none⟩ = some (.int .i64 a0_1) ∧ w'.cell? ⟨gb229, 2, none⟩ = some (.slice A0_2 l0_2.length c0_2) ∧ w'.cell? ⟨gb229, 3, none⟩ = some (.slice A0_3 l0_3.length c0_3) ∧ w'.cell? ⟨gb229, 4, none⟩ = some (.slice A0_4 l0_4.length c0_4) ∧ w'.cell? ⟨gb230, 0, none⟩ = some (.slice A1_0 l1_0.length c1_0) ∧ w'.cell? ⟨gb230, 1, none⟩ = some (.int .i64 a1_1) ∧ w'.cell? ⟨gb230, 2, none⟩ = some (.slice A1_2 l1_2.length c1_2) ∧ w'.cell? ⟨gb230, 3, none⟩ = some (.slice A1_3 l1_3.length c1_3) ∧ w'.cell? ⟨gb230, 4, none⟩ = some (.slice A1_4 l1_4.length c1_4)) ∧ (Kd.R (Kd.int .i64) 3 w' w.heap.size (fun _ => True) s_.2.1 y235) ∧ (w'.heap[gb229]? = some (.cells #[.slice A0_0 l0_0.length c0_0, .int .i64 a0_1, .slice A0_2 l0_2.length c0_2, .slice A0_3 l0_3.length c0_3, .slice A0_4 l0_4.length c0_4] 44 (0, 0))) ∧ (w'.heap[gb230]? = some (.cells #[.slice A1_0 l1_0.length c1_0, .int .i64 a1_1, .slice A1_2 l1_2.length c1_2, .slice A1_3 l1_3.length c1_3, .slice A1_4 l1_4.length c1_4] 44 (0, 0))) ∧ (w'.heap[gb231]? = some (.cells #[.slice none 0 0, .int .i64 0, .slice none 0 0, .slice none 0 0, .slice none 0 0] 44 (0, 0))) ∧ (w'.heap[s_.2.2]? = some (.cells #[.slice none 0 0, .int .i64 0, .slice none 0 0, .slice none 0 0, .slice none 0 0] 44 (0, 0))) ∧ (w.heap.size ≤ s_.2.2) ∧ (w.heap.size ≤ s_.2.2) ∧ (gb229 ≠ s_.2.2) ∧ (s_.2.2 ≠ gb229) ∧ (gb230 ≠ s_.2.2) ∧ (s_.2.2 ≠ gb230) ∧ (gb231 ≠ s_.2.2) ∧ (s_.2.2 ≠ gb231) ∧ (Below w.heap.size w w')) ?_ ?_
  rotate_left
  ·intro hCont
   refine two_ (i := 0) (j := 10) (Ni := some 7) (Nj := some 5) (bb 12 503) (bb 12 1526) rfl rfl rfl rfl (two_of HT_.out (by kernel_rfl)) (by decide) (by decide) (fun K hK => ?_) (fun K hK => ?_)
   ·skip
    refine Kd.R_lit_step (Kd.int .i64) _ 3 ?hg (N := 7) ?hd (xs := ([] : List Int)) (inner := []) (ok := fun _ => True) (okp := fun _ => True) ?hr ?hp (fun _ hk => hk) trivial (Below.refl _ _) (Nat.le_refl _) (by simp) ?_; (case hd => rfl); (case hg => rfl); (case hr => first | (go_simp; done) | (go_simp; rfl)); (case hp => exact (Reps.none _ _))
    intro v233 w8 ho9 hb hg_ hnew_
    clear hg_ hnew_
    (first | rw [← Ny232.out] at ho9 | (simp only [Int.reduceToNat] at ho9; rw [← Ny232.out] at ho9))
    have n0_ := am (Kd.R_lower ho9 (below_size (wmv HB.out)))
    have n1_ := am (blk_below (bmv BK229.out) hb)
    have n2_ := am (blk_below (bmv BK230.out) hb)
    have n3_ := am (blk_below (bmv BK231.out) hb)
    have n4_ := am (below_step (wmv HB.out) hb)
    clear BK229 BK230 BK231 HB
    revert n0_ n1_ n2_ n3_ n4_
    intro HO234 BK229 BK230 BK231 HB
    clear hb ho9
    refine hK.out _ _ ⟨bc BK229 0, bc BK229 1, bc BK229 2, bc BK229 3, bc BK229 4, bc BK230 0, bc BK230 1, bc BK230 2, bc BK230 3, bc BK230 4⟩ (fun hHeld => ?_)
    clear hK K
    refine nm ?_
    refine two_ (i := 3) (j := 10) (Ni := some 10) (Nj := some 5) (bb 12 511) (bb 12 1527) rfl rfl rfl rfl (two_of HT_.out (by kernel_rfl)) (by decide) (by decide) (fun K hK => ?_) (fun K hK => ?_)
    ·skip
     refine Kd.R_append_rows_step (Kd.int .i64) (w0 := w) w.heap.size (by rfl) (.tmp 7) (.tmp 9) 22 3 (.int .i64 0) 8 rfl Try.underlying22 info3 rfl (by decide) (by omega) v233 y232 l0_0 _ _ _ (fun _ => True) (fun _ => False) rfl rfl ?aO ?aR (fun _ _ h => h) (fun _ h => h.elim) ?aF ?aB ?aS ?aL ?_
     (case aR => exact Kd.Cw HR0_0.out HB.out)
     (case aB => exact (wmv HB.out))
     (case aF => exact (fun _ _ => trivial))
     (case aO => exact (Kd.R_mv HO234.out))
     (case aS => exact (below_size (wmv HB.out)))
     (case aL => have := LMc3.out; omega)
     intro v236 w10 ho hb hg hat
     rw [← Ny235.out] at ho
     have n0_ := am (blk_grown (bmv BK229.out) hg (Kd.R_ne HO234.out BK229.out (by decide)))
     have n1_ := am (blk_grown (bmv BK230.out) hg (Kd.R_ne HO234.out BK230.out (by decide)))
     have n2_ := am (blk_grown (bmv BK231.out) hg (Kd.R_ne HO234.out BK231.out (by decide)))
     have n3_ := am (hb)
     have n4_ := am (ho)
     clear BK229 BK230 BK231 HB HO234
     revert n0_ n1_ n2_ n3_ n4_
     intro BK229 BK230 BK231 HB HO237
     clear ho hb hg hat
     obtain ⟨Ao11, co11, eo11⟩ := Kd.R_slice HO237.out
     (first | subst eo11 | (injection eo11 with f1_ f2_ f3_; have f4_ := f1_.symm; have f5_ := f3_.symm; clear f1_ f2_ f3_; subst f4_; subst f5_))
     refine hK.out _ _ ⟨bc BK229 0, bc BK229 1, bc BK229 2, bc BK229 3, bc BK229 4, bc BK230 0, bc BK230 1, bc BK230 2, bc BK230 3, bc BK230 4⟩ (fun hHeld => ?_)
     clear hK K
     refine nm ?_
     refine pu (i := 9) (N := some 16) (bb 12 1023) HT_ ?_
     refine one_ (i := 10) (N := some 5) (bb 12 2047) rfl rfl (one_of HT_.out (by kernel_rfl)) (by decide) (fun K hK => ?_)
     refine box_step ?hg (N := 5) ?hd (cs := #[.slice none 0 0, .int .i64 0, .slice none 0 0, .slice none 0 0, .slice none 0 0]) (t := 44) ?hr ?_; (case hd => rfl); (case hg => rfl); (case hr => first | (go_simp; done) | (go_simp; rfl))
     intro gb238 hg w12 hbox hb
     have n0_ := am (Kd.R_below (Kd.R_mv HO237.out) hb)
     have n1_ := am (blk_below (bmv BK229.out) hb)
     have n2_ := am (blk_below (bmv BK230.out) hb)
     have n3_ := am (blk_below (bmv BK231.out) hb)
     have n4_ := am (below_step (wmv HB.out) hb)
     have n5_ := am (hbox)
     have n6_ := am ((by rw [hg]; exact (below_size (wmv HB.out)) : w.heap.size ≤ gb238))
     have n7_ := am ((by rw [hg]; exact (below_size (wmv HB.out)) : w.heap.size ≤ gb238))
     have n8_ := am ((by rw [hg]; exact Nat.ne_of_lt (blk_lt (bmv BK229.out)) : gb229 ≠ gb238))
     have n9_ := am ((by rw [hg]; exact Nat.ne_of_gt (blk_lt (bmv BK229.out)) : gb238 ≠ gb229))
     have n10_ := am ((by rw [hg]; exact Nat.ne_of_lt (blk_lt (bmv BK230.out)) : gb230 ≠ gb238))
     have n11_ := am ((by rw [hg]; exact Nat.ne_of_gt (blk_lt (bmv BK230.out)) : gb238 ≠ gb230))
     have n12_ := am ((by rw [hg]; exact Nat.ne_of_lt (blk_lt (bmv BK231.out)) : gb231 ≠ gb238))
     have n13_ := am ((by rw [hg]; exact Nat.ne_of_gt (blk_lt (bmv BK231.out)) : gb238 ≠ gb231))
     clear HO237 BK229 BK230 BK231 HB
     revert n0_ n1_ n2_ n3_ n4_ n5_ n6_ n7_ n8_ n9_ n10_ n11_ n12_ n13_
     intro HO237 BK229 BK230 BK231 HB BK238 GW238 GE238 NB229_238 NB238_229 NB230_238 NB238_230 NB231_238 NB238_231
     clear hb hbox hg
     refine hK.out _ _ ⟨bc BK229 0, bc BK229 1, bc BK229 2, bc BK229 3, bc BK229 4, bc BK230 0, bc BK230 1, bc BK230 2, bc BK230 3, bc BK230 4⟩ (fun hHeld => ?_)
     clear hK K
     refine nm ?_
     exact norm_ (by simp only [putAll, Act.put, List.setIfInBounds_toArray, List.set_cons_zero, List.set_cons_succ]) (hCont (v233, .slice Ao11 y235.length co11, gb238) _ ⟨hHeld, (Kd.R_mv HO237.out), (bmv BK229.out), (bmv BK230.out), (bmv BK231.out), (bmv BK238.out), GW238.out, GE238.out, NB229_238.out, NB238_229.out, NB230_238.out, NB238_230.out, NB231_238.out, NB238_231.out, (wmv HB.out)⟩)
    ·skip
     refine box_step ?hg (N := 5) ?hd (cs := #[.slice none 0 0, .int .i64 0, .slice none 0 0, .slice none 0 0, .slice none 0 0]) (t := 44) ?hr ?_; (case hd => rfl); (case hg => rfl); (case hr => first | (go_simp; done) | (go_simp; rfl))
     intro gb238 hg w10 hbox hb
     have n0_ := am (Kd.R_below (Kd.R_mv HO234.out) hb)
     have n1_ := am (blk_below (bmv BK229.out) hb)
     have n2_ := am (blk_below (bmv BK230.out) hb)
     have n3_ := am (blk_below (bmv BK231.out) hb)
     have n4_ := am (below_step (wmv HB.out) hb)
     have n5_ := am (hbox)
     have n6_ := am ((by rw [hg]; exact (below_size (wmv HB.out)) : w.heap.size ≤ gb238))
     have n7_ := am ((by rw [hg]; exact (below_size (wmv HB.out)) : w.heap.size ≤ gb238))
     have n8_ := am ((by rw [hg]; exact Nat.ne_of_lt (blk_lt (bmv BK229.out)) : gb229 ≠ gb238))
     have n9_ := am ((by rw [hg]; exact Nat.ne_of_gt (blk_lt (bmv BK229.out)) : gb238 ≠ gb229))
     have n10_ := am ((by rw [hg]; exact Nat.ne_of_lt (blk_lt (bmv BK230.out)) : gb230 ≠ gb238))
     have n11_ := am ((by rw [hg]; exact Nat.ne_of_gt (blk_lt (bmv BK230.out)) : gb238 ≠ gb230))
     have n12_ := am ((by rw [hg]; exact Nat.ne_of_lt (blk_lt (bmv BK231.out)) : gb231 ≠ gb238))
     have n13_ := am ((by rw [hg]; exact Nat.ne_of_gt (blk_lt (bmv BK231.out)) : gb238 ≠ gb231))
     clear HO234 BK229 BK230 BK231 HB
     revert n0_ n1_ n2_ n3_ n4_ n5_ n6_ n7_ n8_ n9_ n10_ n11_ n12_ n13_
     intro HO234 BK229 BK230 BK231 HB BK238 GW238 GE238 NB229_238 NB238_229 NB230_238 NB238_230 NB231_238 NB238_231
     clear hb hbox hg
     refine hK.out _ _ ⟨bc BK229 0, bc BK229 1, bc BK229 2, bc BK229 3, bc BK229 4, bc BK230 0, bc BK230 1, bc BK230 2, bc BK230 3, bc BK230 4⟩ (fun hHeld => ?_)
     clear hK K
     refine nm ?_
     refine one_ (i := 3) (N := some 10) (bb 12 1535) rfl rfl (one_of HT_.out (by kernel_rfl)) (by decide) (fun K hK => ?_)
     refine Kd.R_append_rows_step (Kd.int .i64) (w0 := w) w.heap.size (by rfl) (.tmp 7) (.tmp 9) 22 3 (.int .i64 0) 8 rfl Try.underlying22 info3 rfl (by decide) (by omega) v233 y232 l0_0 _ _ _ (fun _ => True) (fun _ => False) rfl rfl ?aO ?aR (fun _ _ h => h) (fun _ h => h.elim) ?aF ?aB ?aS ?aL ?_
     (case aR => exact Kd.Cw HR0_0.out HB.out)
     (case aB => exact (wmv HB.out))
     (case aF => exact (fun _ _ => trivial))
     (case aO => exact (Kd.R_mv HO234.out))
     (case aS => exact (below_size (wmv HB.out)))
     (case aL => have := LMc3.out; omega)
     intro v236 w11 ho hb hg hat
     rw [← Ny235.out] at ho
     have n0_ := am (blk_grown (bmv BK229.out) hg (Kd.R_ne HO234.out BK229.out (by decide)))
     have n1_ := am (blk_grown (bmv BK230.out) hg (Kd.R_ne HO234.out BK230.out (by decide)))
     have n2_ := am (blk_grown (bmv BK231.out) hg (Kd.R_ne HO234.out BK231.out (by decide)))
     have n3_ := am (blk_grown (bmv BK238.out) hg (Kd.R_ne HO234.out BK238.out (by decide)))
     have n4_ := am (hb)
     have n5_ := am (ho)
     clear BK229 BK230 BK231 BK238 HB HO234
     revert n0_ n1_ n2_ n3_ n4_ n5_
     intro BK229 BK230 BK231 BK238 HB HO237
     clear ho hb hg hat
     obtain ⟨Ao12, co12, eo12⟩ := Kd.R_slice HO237.out
     (first | subst eo12 | (injection eo12 with f1_ f2_ f3_; have f4_ := f1_.symm; have f5_ := f3_.symm; clear f1_ f2_ f3_; subst f4_; subst f5_))
     refine hK.out _ _ ⟨bc BK229 0, bc BK229 1, bc BK229 2, bc BK229 3, bc BK229 4, bc BK230 0, bc BK230 1, bc BK230 2, bc BK230 3, bc BK230 4⟩ (fun hHeld => ?_)
     clear hK K
     refine nm ?_
     refine pu (i := 9) (N := some 16) (bb 12 2047) HT_ ?_
     exact norm_ (by simp only [putAll, Act.put, List.setIfInBounds_toArray, List.set_cons_zero, List.set_cons_succ]) (hCont (v233, .slice Ao12 y235.length co12, gb238) _ ⟨hHeld, (Kd.R_mv HO237.out), (bmv BK229.out), (bmv BK230.out), (bmv BK231.out), (bmv BK238.out), GW238.out, GE238.out, NB229_238.out, NB238_229.out, NB230_238.out, NB238_230.out, NB231_238.out, NB238_231.out, (wmv HB.out)⟩)
   ·skip
    refine box_step ?hg (N := 5) ?hd (cs := #[.slice none 0 0, .int .i64 0, .slice none 0 0, .slice none 0 0, .slice none 0 0]) (t := 44) ?hr ?_; (case hd => rfl); (case hg => rfl); (case hr => first | (go_simp; done) | (go_simp; rfl))
    intro gb238 hg w8 hbox hb
    have n0_ := am (blk_below (bmv BK229.out) hb)
    have n1_ := am (blk_below (bmv BK230.out) hb)
    have n2_ := am (blk_below (bmv BK231.out) hb)
    have n3_ := am (below_step (wmv HB.out) hb)
    have n4_ := am (hbox)
    have n5_ := am ((by rw [hg]; exact (below_size (wmv HB.out)) : w.heap.size ≤ gb238))
    have n6_ := am ((by rw [hg]; exact (below_size (wmv HB.out)) : w.heap.size ≤ gb238))
    have n7_ := am ((by rw [hg]; exact Nat.ne_of_lt (blk_lt (bmv BK229.out)) : gb229 ≠ gb238))
    have n8_ := am ((by rw [hg]; exact Nat.ne_of_gt (blk_lt (bmv BK229.out)) : gb238 ≠ gb229))
    have n9_ := am ((by rw [hg]; exact Nat.ne_of_lt (blk_lt (bmv BK230.out)) : gb230 ≠ gb238))
    have n10_ := am ((by rw [hg]; exact Nat.ne_of_gt (blk_lt (bmv BK230.out)) : gb238 ≠ gb230))
    have n11_ := am ((by rw [hg]; exact Nat.ne_of_lt (blk_lt (bmv BK231.out)) : gb231 ≠ gb238))
    have n12_ := am ((by rw [hg]; exact Nat.ne_of_gt (blk_lt (bmv BK231.out)) : gb238 ≠ gb231))
    clear BK229 BK230 BK231 HB
    revert n0_ n1_ n2_ n3_ n4_ n5_ n6_ n7_ n8_ n9_ n10_ n11_ n12_
    intro BK229 BK230 BK231 HB BK238 GW238 GE238 NB229_238 NB238_229 NB230_238 NB238_230 NB231_238 NB238_231
    clear hb hbox hg
    refine hK.out _ _ ⟨bc BK229 0, bc BK229 1, bc BK229 2, bc BK229 3, bc BK229 4, bc BK230 0, bc BK230 1, bc BK230 2, bc BK230 3, bc BK230 4⟩ (fun hHeld => ?_)
    clear hK K
    refine nm ?_
    refine one_ (i := 0) (N := some 7) (bb 12 1527) rfl rfl (one_of HT_.out (by kernel_rfl)) (by decide) (fun K hK => ?_)
    refine Kd.R_lit_step (Kd.int .i64) _ 3 ?hg (N := 7) ?hd (xs := ([] : List Int)) (inner := []) (ok := fun _ => True) (okp := fun _ => True) ?hr ?hp (fun _ hk => hk) trivial (Below.refl _ _) (Nat.le_refl _) (by simp) ?_; (case hd => rfl); (case hg => rfl); (case hr => first | (go_simp; done) | (go_simp; rfl)); (case hp => exact (Reps.none _ _))
    intro v233 w9 ho10 hb hg_ hnew_
    clear hg_ hnew_
    (first | rw [← Ny232.out] at ho10 | (simp only [Int.reduceToNat] at ho10; rw [← Ny232.out] at ho10))
    have n0_ := am (Kd.R_lower ho10 (below_size (wmv HB.out)))
    have n1_ := am (blk_below (bmv BK229.out) hb)
    have n2_ := am (blk_below (bmv BK230.out) hb)
    have n3_ := am (blk_below (bmv BK231.out) hb)
    have n4_ := am (blk_below (bmv BK238.out) hb)
    have n5_ := am (below_step (wmv HB.out) hb)
    clear BK229 BK230 BK231 BK238 HB
    revert n0_ n1_ n2_ n3_ n4_ n5_
    intro HO234 BK229 BK230 BK231 BK238 HB
    clear hb ho10
    refine hK.out _ _ ⟨bc BK229 0, bc BK229 1, bc BK229 2, bc BK229 3, bc BK229 4, bc BK230 0, bc BK230 1, bc BK230 2, bc BK230 3, bc BK230 4⟩ (fun hHeld => ?_)
    clear hK K
    refine nm ?_
    refine one_ (i := 3) (N := some 10) (bb 12 1535) rfl rfl (one_of HT_.out (by kernel_rfl)) (by decide) (fun K hK => ?_)
    refine Kd.R_append_rows_step (Kd.int .i64) (w0 := w) w.heap.size (by rfl) (.tmp 7) (.tmp 9) 22 3 (.int .i64 0) 8 rfl Try.underlying22 info3 rfl (by decide) (by omega) v233 y232 l0_0 _ _ _ (fun _ => True) (fun _ => False) rfl rfl ?aO ?aR (fun _ _ h => h) (fun _ h => h.elim) ?aF ?aB ?aS ?aL ?_
    (case aR => exact Kd.Cw HR0_0.out HB.out)
    (case aB => exact (wmv HB.out))
    (case aF => exact (fun _ _ => trivial))
    (case aO => exact (Kd.R_mv HO234.out))
    (case aS => exact (below_size (wmv HB.out)))
    (case aL => have := LMc3.out; omega)
    intro v236 w11 ho hb hg hat
    rw [← Ny235.out] at ho
    have n0_ := am (blk_grown (bmv BK229.out) hg (Kd.R_ne HO234.out BK229.out (by decide)))
    have n1_ := am (blk_grown (bmv BK230.out) hg (Kd.R_ne HO234.out BK230.out (by decide)))
    have n2_ := am (blk_grown (bmv BK231.out) hg (Kd.R_ne HO234.out BK231.out (by decide)))
    have n3_ := am (blk_grown (bmv BK238.out) hg (Kd.R_ne HO234.out BK238.out (by decide)))
    have n4_ := am (hb)
    have n5_ := am (ho)
    clear BK229 BK230 BK231 BK238 HB HO234
    revert n0_ n1_ n2_ n3_ n4_ n5_
    intro BK229 BK230 BK231 BK238 HB HO237
    clear ho hb hg hat
    obtain ⟨Ao12, co12, eo12⟩ := Kd.R_slice HO237.out
    (first | subst eo12 | (injection eo12 with f1_ f2_ f3_; have f4_ := f1_.symm; have f5_ := f3_.symm; clear f1_ f2_ f3_; subst f4_; subst f5_))
    refine hK.out _ _ ⟨bc BK229 0, bc BK229 1, bc BK229 2, bc BK229 3, bc BK229 4, bc BK230 0, bc BK230 1, bc BK230 2, bc BK230 3, bc BK230 4⟩ (fun hHeld => ?_)
    clear hK K
    refine nm ?_
    refine pu (i := 9) (N := some 16) (bb 12 2047) HT_ ?_
    exact norm_ (by simp only [putAll, Act.put, List.setIfInBounds_toArray, List.set_cons_zero, List.set_cons_succ]) (hCont (v233, .slice Ao12 y235.length co12, gb238) _ ⟨hHeld, (Kd.R_mv HO237.out), (bmv BK229.out), (bmv BK230.out), (bmv BK231.out), (bmv BK238.out), GW238.out, GE238.out, NB229_238.out, NB238_229.out, NB230_238.out, NB238_230.out, NB231_238.out, NB238_231.out, (wmv HB.out)⟩)
  rintro ⟨v233, v236, gb238⟩ w13 ⟨hS_, h0_, h1_, h2_, h3_, h4_, h5_, h6_, h7_, h8_, h9_, h10_, h11_, h12_, h13_⟩
  have n0_ : Aside0 (Kd.R (Kd.int .i64) 3 w13 w.heap.size (fun _ => True) v236 y235) := ⟨h0_⟩
  have n1_ : Aside0 (w13.heap[gb229]? = some (.cells #[.slice A0_0 l0_0.length c0_0, .int .i64 a0_1, .slice A0_2 l0_2.length c0_2, .slice A0_3 l0_3.length c0_3, .slice A0_4 l0_4.length c0_4] 44 (0, 0))) := ⟨h1_⟩
  have n2_ : Aside0 (w13.heap[gb230]? = some (.cells #[.slice A1_0 l1_0.length c1_0, .int .i64 a1_1, .slice A1_2 l1_2.length c1_2, .slice A1_3 l1_3.length c1_3, .slice A1_4 l1_4.length c1_4] 44 (0, 0))) := ⟨h2_⟩
  have n3_ : Aside0 (w13.heap[gb231]? = some (.cells #[.slice none 0 0, .int .i64 0, .slice none 0 0, .slice none 0 0, .slice none 0 0] 44 (0, 0))) := ⟨h3_⟩
  have n4_ : Aside0 (w13.heap[gb238]? = some (.cells #[.slice none 0 0, .int .i64 0, .slice none 0 0, .slice none 0 0, .slice none 0 0] 44 (0, 0))) := ⟨h4_⟩
  have n5_ : Aside0 (w.heap.size ≤ gb238) := ⟨h5_⟩
  have n6_ : Aside0 (w.heap.size ≤ gb238) := ⟨h6_⟩
  have n7_ : Aside0 (gb229 ≠ gb238) := ⟨h7_⟩
  have n8_ : Aside0 (gb238 ≠ gb229) := ⟨h8_⟩
  have n9_ : Aside0 (gb230 ≠ gb238) := ⟨h9_⟩
  have n10_ : Aside0 (gb238 ≠ gb230) := ⟨h10_⟩
  have n11_ : Aside0 (gb231 ≠ gb238) := ⟨h11_⟩
  have n12_ : Aside0 (gb238 ≠ gb231) := ⟨h12_⟩
  have n13_ : Aside0 (Below w.heap.size w w13) := ⟨h13_⟩
  clear BK229
  clear BK230
  clear BK231
  clear HB
  clear h0_ h1_ h2_ h3_ h4_ h5_ h6_ h7_ h8_ h9_ h10_ h11_ h12_ h13_
  revert n0_ n1_ n2_ n3_ n4_ n5_ n6_ n7_ n8_ n9_ n10_ n11_ n12_ n13_
  intro HO237 BK229 BK230 BK231 BK238 GW238 GE238 NB229_238 NB238_229 NB230_238 NB238_230 NB231_238 NB238_231 HB
  have hHeld : w13.cell? ⟨gb229, 0, none⟩ = some (.slice A0_0 l0_0.length c0_0) ∧ w13.cell? ⟨gb229, 1, none⟩ = some (.int .i64 a0_1) ∧ w13.cell? ⟨gb229, 2, none⟩ = some (.slice A0_2 l0_2.length c0_2) ∧ w13.cell? ⟨gb229, 3, none⟩ = some (.slice A0_3 l0_3.length c0_3) ∧ w13.cell? ⟨gb229, 4, none⟩ = some (.slice A0_4 l0_4.length c0_4) ∧ w13.cell? ⟨gb230, 0, none⟩ = some (.slice A1_0 l1_0.length c1_0) ∧ w13.cell? ⟨gb230, 1, none⟩ = some (.int .i64 a1_1) ∧ w13.cell? ⟨gb230, 2, none⟩ = some (.slice A1_2 l1_2.length c1_2) ∧ w13.cell? ⟨gb230, 3, none⟩ = some (.slice A1_3 l1_3.length c1_3) ∧ w13.cell? ⟨gb230, 4, none⟩ = some (.slice A1_4 l1_4.length c1_4) := hS_
  obtain ⟨Ao14, co14, eo14⟩ := Kd.R_slice HO237.out
  (first | subst eo14 | (injection eo14 with f1_ f2_ f3_; have f4_ := f1_.symm; have f5_ := f3_.symm; clear f1_ f2_ f3_; subst f4_; subst f5_))
  refine norm_ (a' := ?_) ?_ ?_
  rotate_left
  ·simp only [putAll, Act.put, List.setIfInBounds_toArray, List.set_cons_zero, List.set_cons_succ]
   rfl
  refine one_ (i := 11) (N := none) (bb 12 4095) rfl rfl (one_of HT_.out (by kernel_rfl)) (by decide) (fun K hK => ?_)
  have hs15 : w13.cell? ⟨gb238, 0, none⟩ = some (.slice none 0 0) := (blk_cell BK238.out 0).trans rfl
  have hfs15 := blk_frozen BK238.out 0
  have hns15_0 := NB229_238.out
  have hns15_1 := NB230_238.out
  have hns15_2 := NB231_238.out
  have hms15_0 := NB238_229.out
  have hms15_1 := NB238_230.out
  have hms15_2 := NB238_231.out
  have hs16 : w13.cell? ⟨gb238, 1, none⟩ = some (.int .i64 0) := (blk_cell BK238.out 1).trans rfl
  have hfs16 := blk_frozen BK238.out 1
  have hns16_0 := NB229_238.out
  have hns16_1 := NB230_238.out
  have hns16_2 := NB231_238.out
  have hms16_0 := NB238_229.out
  have hms16_1 := NB238_230.out
  have hms16_2 := NB238_231.out
  have hs17 : w13.cell? ⟨gb238, 2, none⟩ = some (.slice none 0 0) := (blk_cell BK238.out 2).trans rfl
  have hfs17 := blk_frozen BK238.out 2
  have hns17_0 := NB229_238.out
  have hns17_1 := NB230_238.out
  have hns17_2 := NB231_238.out
  have hms17_0 := NB238_229.out
  have hms17_1 := NB238_230.out
  have hms17_2 := NB238_231.out
  have hs18 : w13.cell? ⟨gb238, 3, none⟩ = some (.slice none 0 0) := (blk_cell BK238.out 3).trans rfl
  have hfs18 := blk_frozen BK238.out 3
  have hns18_0 := NB229_238.out
  have hns18_1 := NB230_238.out
  have hns18_2 := NB231_238.out
  have hms18_0 := NB238_229.out
  have hms18_1 := NB238_230.out
  have hms18_2 := NB238_231.out
  have hs19 : w13.cell? ⟨gb238, 4, none⟩ = some (.slice none 0 0) := (blk_cell BK238.out 4).trans rfl
  have hfs19 := blk_frozen BK238.out 4
  have hns19_0 := NB229_238.out
  have hns19_1 := NB230_238.out
  have hns19_2 := NB231_238.out
  have hms19_0 := NB238_229.out
  have hms19_1 := NB238_230.out
  have hms19_2 := NB238_231.out
  refine skip_ (w1 := ?_) (by rfl) rfl ?_ ?_
  rotate_left
  ·go_simp
   rfl
  refine hK.out _ _ ⟨((cell_far (p := ⟨gb238, _, none⟩) NB229_238.out _).trans (((cell_far (p := ⟨gb238, _, none⟩) NB229_238.out _).trans (((cell_far (p := ⟨gb238, _, none⟩) NB229_238.out _).trans (((cell_far (p := ⟨gb238, _, none⟩) NB229_238.out _).trans (((cell_far (p := ⟨gb238, _, none⟩) NB229_238.out _).trans (hHeld.1)))))))))), ((cell_far (p := ⟨gb238, _, none⟩) NB229_238.out _).trans (((cell_far (p := ⟨gb238, _, none⟩) NB229_238.out _).trans (((cell_far (p := ⟨gb238, _, none⟩) NB229_238.out _).trans (((cell_far (p := ⟨gb238, _, none⟩) NB229_238.out _).trans (((cell_far (p := ⟨gb238, _, none⟩) NB229_238.out _).trans (hHeld.2.1)))))))))), ((cell_far (p := ⟨gb238, _, none⟩) NB229_238.out _).trans (((cell_far (p := ⟨gb238, _, none⟩) NB229_238.out _).trans (((cell_far (p := ⟨gb238, _, none⟩) NB229_238.out _).trans (((cell_far (p := ⟨gb238, _, none⟩) NB229_238.out _).trans (((cell_far (p := ⟨gb238, _, none⟩) NB229_238.out _).trans (hHeld.2.2.1)))))))))), ((cell_far (p := ⟨gb238, _, none⟩) NB229_238.out _).trans (((cell_far (p := ⟨gb238, _, none⟩) NB229_238.out _).trans (((cell_far (p := ⟨gb238, _, none⟩) NB229_238.out _).trans (((cell_far (p := ⟨gb238, _, none⟩) NB229_238.out _).trans (((cell_far (p := ⟨gb238, _, none⟩) NB229_238.out _).trans (hHeld.2.2.2.1)))))))))), ((cell_far (p := ⟨gb238, _, none⟩) NB229_238.out _).trans (((cell_far (p := ⟨gb238, _, none⟩) NB229_238.out _).trans (((cell_far (p := ⟨gb238, _, none⟩) NB229_238.out _).trans (((cell_far (p := ⟨gb238, _, none⟩) NB229_238.out _).trans (((cell_far (p := ⟨gb238, _, none⟩) NB229_238.out _).trans (hHeld.2.2.2.2.1)))))))))), ((cell_far (p := ⟨gb238, _, none⟩) NB230_238.out _).trans (((cell_far (p := ⟨gb238, _, none⟩) NB230_238.out _).trans (((cell_far (p := ⟨gb238, _, none⟩) NB230_238.out _).trans (((cell_far (p := ⟨gb238, _, none⟩) NB230_238.out _).trans (((cell_far (p := ⟨gb238, _, none⟩) NB230_238.out _).trans (hHeld.2.2.2.2.2.1)))))))))), ((cell_far (p := ⟨gb238, _, none⟩) NB230_238.out _).trans (((cell_far (p := ⟨gb238, _, none⟩) NB230_238.out _).trans (((cell_far (p := ⟨gb238, _, none⟩) NB230_238.out _).trans (((cell_far (p := ⟨gb238, _, none⟩) NB230_238.out _).trans (((cell_far (p := ⟨gb238, _, none⟩) NB230_238.out _).trans (hHeld.2.2.2.2.2.2.1)))))))))), ((cell_far (p := ⟨gb238, _, none⟩) NB230_238.out _).trans (((cell_far (p := ⟨gb238, _, none⟩) NB230_238.out _).trans (((cell_far (p := ⟨gb238, _, none⟩) NB230_238.out _).trans (((cell_far (p := ⟨gb238, _, none⟩) NB230_238.out _).trans (((cell_far (p := ⟨gb238, _, none⟩) NB230_238.out _).trans (hHeld.2.2.2.2.2.2.2.1)))))))))), ((cell_far (p := ⟨gb238, _, none⟩) NB230_238.out _).trans (((cell_far (p := ⟨gb238, _, none⟩) NB230_238.out _).trans (((cell_far (p := ⟨gb238, _, none⟩) NB230_238.out _).trans (((cell_far (p := ⟨gb238, _, none⟩) NB230_238.out _).trans (((cell_far (p := ⟨gb238, _, none⟩) NB230_238.out _).trans (hHeld.2.2.2.2.2.2.2.2.1)))))))))), ((cell_far (p := ⟨gb238, _, none⟩) NB230_238.out _).trans (((cell_far (p := ⟨gb238, _, none⟩) NB230_238.out _).trans (((cell_far (p := ⟨gb238, _, none⟩) NB230_238.out _).trans (((cell_far (p := ⟨gb238, _, none⟩) NB230_238.out _).trans (((cell_far (p := ⟨gb238, _, none⟩) NB230_238.out _).trans (hHeld.2.2.2.2.2.2.2.2.2))))))))))⟩ (fun hHeld => ?_)
  clear hK K
  refine done_ (done_of HT_.out (by kernel_rfl)) ?_
  try go_wp2
  go_loopg [6] k (fun kq v6 w' => ∃ (x6_1 : Int) (x239002_1 : List Int) (x239003_1 : List Int) (x239004_1 : List Int) (u239002 : Value) (u239003 : Value) (u239004 : Value), v6 = .int .i64 x6_1 ∧ Aside0 (hypercuberef2_Join.l0 kq x6_1 l0_0 a0_1 l0_2 l0_3 l0_4 l1_0 a1_1 l1_2 l1_3 l1_4 y235 (wrap64 (a0_1 + a1_1)) x239002_1 x239003_1 x239004_1 = some (r1, r2, r3, r4, r5)) ∧ Aside0 (kq ≤ k) ∧ Aside0 (Kd.R (Kd.int .i64) 3 w' w.heap.size (fun k_ => some k_ ≠ (u239002 : Value).ownBlock ∧ some k_ ≠ (u239003 : Value).ownBlock ∧ some k_ ≠ (u239004 : Value).ownBlock) (.slice Ao14 y235.length co14) y235) ∧ Aside0 (Kd.R (Kd.int .i64) 3 w' w.heap.size (fun k_ => some k_ ≠ ((.slice Ao14 y235.length co14) : Value).ownBlock ∧ some k_ ≠ (u239003 : Value).ownBlock ∧ some k_ ≠ (u239004 : Value).ownBlock) u239002 x239002_1) ∧ Aside0 (Kd.R (Kd.int .i64) 3 w' w.heap.size (fun k_ => some k_ ≠ ((.slice Ao14 y235.length co14) : Value).ownBlock ∧ some k_ ≠ (u239002 : Value).ownBlock ∧ some k_ ≠ (u239004 : Value).ownBlock) u239003 x239003_1) ∧ Aside0 (Kd.R (Kd.int .i64) 3 w' w.heap.size (fun k_ => some k_ ≠ ((.slice Ao14 y235.length co14) : Value).ownBlock ∧ some k_ ≠ (u239002 : Value).ownBlock ∧ some k_ ≠ (u239003 : Value).ownBlock) u239004 x239004_1) ∧ Aside0 (w'.heap[gb229]? = some (.cells #[(.slice A0_0 l0_0.length c0_0), .int .i64 a0_1, (.slice A0_2 l0_2.length c0_2), (.slice A0_3 l0_3.length c0_3), (.slice A0_4 l0_4.length c0_4)] 44 (0, 0))) ∧ Aside0 (w'.heap[gb230]? = some (.cells #[(.slice A1_0 l1_0.length c1_0), .int .i64 a1_1, (.slice A1_2 l1_2.length c1_2), (.slice A1_3 l1_3.length c1_3), (.slice A1_4 l1_4.length c1_4)] 44 (0, 0))) ∧ Aside0 (w'.heap[gb231]? = some (.cells #[(.slice none 0 0), .int .i64 0, (.slice none 0 0), (.slice none 0 0), (.slice none 0 0)] 44 (0, 0))) ∧ Aside0 (w'.heap[gb238]? = some (.cells #[(.slice Ao14 y235.length co14), .int .i64 (wrap64 (a0_1 + a1_1)), u239002, u239003, u239004] 44 (0, 0))) ∧ Aside0 (Below w.heap.size w w'))
  case atStart => exact ⟨(0), (([] : List Int)), (([] : List Int)), (([] : List Int)), (.slice none 0 0), (.slice none 0 0), (.slice none 0 0), (by first | rfl | (simp; done) | (simp [*]; done)), H', ⟨Nat.le_refl _⟩, ⟨by (with_reducible repeat (first | apply Kd.R_alloc | apply Kd.R_drewN | apply Kd.R_drew)); exact Kd.R_mono (Kd.R_far (p := ⟨gb238, 4, none⟩) (Kd.R_far (p := ⟨gb238, 3, none⟩) (Kd.R_far (p := ⟨gb238, 2, none⟩) (Kd.R_far (p := ⟨gb238, 1, none⟩) (Kd.R_far (p := ⟨gb238, 0, none⟩) (Kd.R_types HO237.out BK238.out (by decide)) (fun _ hk => hk.2) (.slice Ao14 y235.length co14)) (fun _ hk => hk.2) (.int .i64 (wrap64 (a0_1 + a1_1)))) (fun _ hk => hk.2) (.slice none 0 0)) (fun _ hk => hk.2) (.slice none 0 0)) (fun _ hk => hk.2) (.slice none 0 0)) (fun _ hk => ⟨(by simp [Value.ownBlock]), ⟨(by simp [Value.ownBlock]), (by simp [Value.ownBlock])⟩⟩)⟩, ⟨by first | exact Kd.R_nil _ _ _ _ _ | exact Kd.N_nil _ _ _ _ _ | exact Kd.V_nil _ _ _ _ _ | exact Kd.Q_nil _ _ _ _ _ | exact Kd.S_nil _ _ _ _ _⟩, ⟨by first | exact Kd.R_nil _ _ _ _ _ | exact Kd.N_nil _ _ _ _ _ | exact Kd.V_nil _ _ _ _ _ | exact Kd.Q_nil _ _ _ _ _ | exact Kd.S_nil _ _ _ _ _⟩, ⟨by first | exact Kd.R_nil _ _ _ _ _ | exact Kd.N_nil _ _ _ _ _ | exact Kd.V_nil _ _ _ _ _ | exact Kd.Q_nil _ _ _ _ _ | exact Kd.S_nil _ _ _ _ _⟩, ⟨by (with_reducible repeat (first | refine blk_drewN ?_ _ | refine blk_drew ?_ | refine blk_alloc ?_ _)); refine blk_far ?_ NB229_238.out _; (with_reducible repeat (first | refine blk_drewN ?_ _ | refine blk_drew ?_ | refine blk_alloc ?_ _)); refine blk_far ?_ NB229_238.out _; (with_reducible repeat (first | refine blk_drewN ?_ _ | refine blk_drew ?_ | refine blk_alloc ?_ _)); refine blk_far ?_ NB229_238.out _; (with_reducible repeat (first | refine blk_drewN ?_ _ | refine blk_drew ?_ | refine blk_alloc ?_ _)); refine blk_far ?_ NB229_238.out _; (with_reducible repeat (first | refine blk_drewN ?_ _ | refine blk_drew ?_ | refine blk_alloc ?_ _)); refine blk_far ?_ NB229_238.out _; (with_reducible repeat (first | refine blk_drewN ?_ _ | refine blk_drew ?_ | refine blk_alloc ?_ _)); exact BK229.out⟩, ⟨by (with_reducible repeat (first | refine blk_drewN ?_ _ | refine blk_drew ?_ | refine blk_alloc ?_ _)); refine blk_far ?_ NB230_238.out _; (with_reducible repeat (first | refine blk_drewN ?_ _ | refine blk_drew ?_ | refine blk_alloc ?_ _)); refine blk_far ?_ NB230_238.out _; (with_reducible repeat (first | refine blk_drewN ?_ _ | refine blk_drew ?_ | refine blk_alloc ?_ _)); refine blk_far ?_ NB230_238.out _; (with_reducible repeat (first | refine blk_drewN ?_ _ | refine blk_drew ?_ | refine blk_alloc ?_ _)); refine blk_far ?_ NB230_238.out _; (with_reducible repeat (first | refine blk_drewN ?_ _ | refine blk_drew ?_ | refine blk_alloc ?_ _)); refine blk_far ?_ NB230_238.out _; (with_reducible repeat (first | refine blk_drewN ?_ _ | refine blk_drew ?_ | refine blk_alloc ?_ _)); exact BK230.out⟩, ⟨by (with_reducible repeat (first | refine blk_drewN ?_ _ | refine blk_drew ?_ | refine blk_alloc ?_ _)); refine blk_far ?_ NB231_238.out _; (with_reducible repeat (first | refine blk_drewN ?_ _ | refine blk_drew ?_ | refine blk_alloc ?_ _)); refine blk_far ?_ NB231_238.out _; (with_reducible repeat (first | refine blk_drewN ?_ _ | refine blk_drew ?_ | refine blk_alloc ?_ _)); refine blk_far ?_ NB231_238.out _; (with_reducible repeat (first | refine blk_drewN ?_ _ | refine blk_drew ?_ | refine blk_alloc ?_ _)); refine blk_far ?_ NB231_238.out _; (with_reducible repeat (first | refine blk_drewN ?_ _ | refine blk_drew ?_ | refine blk_alloc ?_ _)); refine blk_far ?_ NB231_238.out _; (with_reducible repeat (first | refine blk_drewN ?_ _ | refine blk_drew ?_ | refine blk_alloc ?_ _)); exact BK231.out⟩, ⟨by (with_reducible repeat (first | refine blk_drewN ?_ _ | refine blk_drew ?_ | refine blk_alloc ?_ _)); refine blk_put (cs := #[.slice Ao14 y235.length co14, .int .i64 (wrap64 (a0_1 + a1_1)), .slice none 0 0, .slice none 0 0, .slice none 0 0]) ?_ 4 _ rfl; (with_reducible repeat (first | refine blk_drewN ?_ _ | refine blk_drew ?_ | refine blk_alloc ?_ _)); refine blk_put (cs := #[.slice Ao14 y235.length co14, .int .i64 (wrap64 (a0_1 + a1_1)), .slice none 0 0, .slice none 0 0, .slice none 0 0]) ?_ 3 _ rfl; (with_reducible repeat (first | refine blk_drewN ?_ _ | refine blk_drew ?_ | refine blk_alloc ?_ _)); refine blk_put (cs := #[.slice Ao14 y235.length co14, .int .i64 (wrap64 (a0_1 + a1_1)), .slice none 0 0, .slice none 0 0, .slice none 0 0]) ?_ 2 _ rfl; (with_reducible repeat (first | refine blk_drewN ?_ _ | refine blk_drew ?_ | refine blk_alloc ?_ _)); refine blk_put (cs := #[.slice Ao14 y235.length co14, .int .i64 0, .slice none 0 0, .slice none 0 0, .slice none 0 0]) ?_ 1 _ rfl; (with_reducible repeat (first | refine blk_drewN ?_ _ | refine blk_drew ?_ | refine blk_alloc ?_ _)); refine blk_put (cs := #[.slice none 0 0, .int .i64 0, .slice none 0 0, .slice none 0 0, .slice none 0 0]) ?_ 0 _ rfl; (with_reducible repeat (first | refine blk_drewN ?_ _ | refine blk_drew ?_ | refine blk_alloc ?_ _)); exact BK238.out⟩, ⟨by repeat (first | (with_reducible first | exact HB.out | apply below_alloc | apply pw_below_drewN | apply below_drew1 | refine below_set ?_ GE229.out | refine below_set ?_ GE230.out | refine below_set ?_ GE231.out | refine below_set ?_ GE238.out) | exact HB.out)⟩⟩
  case round =>
   clear H'
   try clear c1
   try clear p2
   try clear c3
   try clear c4
   try clear p6
   obtain ⟨x6_1, x239002_1, x239003_1, x239004_1, u239002, u239003, u239004, rfl, HA, HK1, HO_239000, HO_239002, HO_239003, HO_239004, BK229, BK230, BK231, BK238, HB⟩ := hrel
   cases gk with
   | zero => exact absurd HA.out (by simp [hypercuberef2_Join.l0])
   | succ k1 =>
    have H := HA.out
    clear HA
    simp only [hypercuberef2_Join.l0] at H
    by_cases c20 : x6_1 < (l0_2.length : Int)
    ·rw [if_pos c20] at H
     have c20b0 : decide (x6_1 < (l0_2.length : Int)) = true := decide_eq_true c20
     clear c20
     by_cases c21 : 0 ≤ x6_1
     ·rw [if_pos c21] at H
      have c21b0 : decide (0 ≤ x6_1) = true := decide_eq_true c21
      clear c21
      by_cases c22 : x6_1 < (l1_2.length : Int)
      ·rw [if_pos c22] at H
       have c22b0 : decide (x6_1 < (l1_2.length : Int)) = true := decide_eq_true c22
       clear c22
       by_cases c23 : x239002_1.length < 17592186044416
       ·rw [if_pos c23] at H
        have LMc23 := am c23
        clear c23
        obtain ⟨y241, hy241⟩ : ∃ y_ : List Int, y_ = (x239002_1 ++ [wrap64 ((rd l0_2 x6_1) + (rd l1_2 x6_1))]) := ⟨_, rfl⟩
        replace H : (if x6_1 < (l0_3.length : Int) then (if x6_1 < (l1_3.length : Int) then (if x239003_1.length < 17592186044416 then (if x6_1 < (l0_4.length : Int) then (if x6_1 < (l1_4.length : Int) then (if x239004_1.length < 17592186044416 then (hypercuberef2_Join.l0 k1 (wrap64 (x6_1 + 1)) l0_0 a0_1 l0_2 l0_3 l0_4 l1_0 a1_1 l1_2 l1_3 l1_4 y235 (wrap64 (a0_1 + a1_1)) y241 (x239003_1 ++ [mn (rd l0_3 x6_1) (rd l1_3 x6_1)]) (x239004_1 ++ [mx (rd l0_4 x6_1) (rd l1_4 x6_1)])) else (none)) else (none)) else (none)) else (none)) else (none)) else (none)) = some (r1, r2, r3, r4, r5) := by rw [hy241]; with_reducible exact H
        have Ny241 := am hy241
        clear hy241
        by_cases c24 : x6_1 < (l0_3.length : Int)
        ·rw [if_pos c24] at H
         have c24b0 : decide (x6_1 < (l0_3.length : Int)) = true := decide_eq_true c24
         clear c24
         by_cases c25 : x6_1 < (l1_3.length : Int)
         ·rw [if_pos c25] at H
          have c25b0 : decide (x6_1 < (l1_3.length : Int)) = true := decide_eq_true c25
          clear c25
          obtain ⟨ji26, hji26⟩ : ∃ j_ : Int, (mn (rd l0_3 x6_1) (rd l1_3 x6_1)) = j_ := ⟨_, rfl⟩
          replace H : (if x239003_1.length < 17592186044416 then (if x6_1 < (l0_4.length : Int) then (if x6_1 < (l1_4.length : Int) then (if x239004_1.length < 17592186044416 then (hypercuberef2_Join.l0 k1 (wrap64 (x6_1 + 1)) l0_0 a0_1 l0_2 l0_3 l0_4 l1_0 a1_1 l1_2 l1_3 l1_4 y235 (wrap64 (a0_1 + a1_1)) y241 (x239003_1 ++ [ji26]) (x239004_1 ++ [mx (rd l0_4 x6_1) (rd l1_4 x6_1)])) else (none)) else (none)) else (none)) else (none)) = some (r1, r2, r3, r4, r5) := by first | (rw [hji26] at H; exact H) | (simp only [hji26] at H ⊢; exact H)
          have hji26_ : (if (rd l1_3 x6_1) < (rd l0_3 x6_1) then (rd l1_3 x6_1) else (rd l0_3 x6_1)) = ji26 := hji26
          by_cases c27 : x239003_1.length < 17592186044416
          ·rw [if_pos c27] at H
           have LMc27 := am c27
           clear c27
           obtain ⟨y246, hy246⟩ : ∃ y_ : List Int, y_ = (x239003_1 ++ [ji26]) := ⟨_, rfl⟩
           replace H : (if x6_1 < (l0_4.length : Int) then (if x6_1 < (l1_4.length : Int) then (if x239004_1.length < 17592186044416 then (hypercuberef2_Join.l0 k1 (wrap64 (x6_1 + 1)) l0_0 a0_1 l0_2 l0_3 l0_4 l1_0 a1_1 l1_2 l1_3 l1_4 y235 (wrap64 (a0_1 + a1_1)) y241 y246 (x239004_1 ++ [mx (rd l0_4 x6_1) (rd l1_4 x6_1)])) else (none)) else (none)) else (none)) = some (r1, r2, r3, r4, r5) := by rw [hy246]; with_reducible exact H
           have Ny246 := am hy246
           clear hy246
           by_cases c28 : x6_1 < (l0_4.length : Int)
           ·rw [if_pos c28] at H
            have c28b0 : decide (x6_1 < (l0_4.length : Int)) = true := decide_eq_true c28
            clear c28
            by_cases c29 : x6_1 < (l1_4.length : Int)
            ·rw [if_pos c29] at H
             have c29b0 : decide (x6_1 < (l1_4.length : Int)) = true := decide_eq_true c29
             clear c29
             obtain ⟨ji30, hji30⟩ : ∃ j_ : Int, (mx (rd l0_4 x6_1) (rd l1_4 x6_1)) = j_ := ⟨_, rfl⟩
             replace H : (if x239004_1.length < 17592186044416 then (hypercuberef2_Join.l0 k1 (wrap64 (x6_1 + 1)) l0_0 a0_1 l0_2 l0_3 l0_4 l1_0 a1_1 l1_2 l1_3 l1_4 y235 (wrap64 (a0_1 + a1_1)) y241 y246 (x239004_1 ++ [ji30])) else (none)) = some (r1, r2, r3, r4, r5) := by first | (rw [hji30] at H; exact H) | (simp only [hji30] at H ⊢; exact H)
             have hji30_ : (if (rd l0_4 x6_1) < (rd l1_4 x6_1) then (rd l1_4 x6_1) else (rd l0_4 x6_1)) = ji30 := hji30
             by_cases c31 : x239004_1.length < 17592186044416
             ·rw [if_pos c31] at H
              have LMc31 := am c31
              clear c31
              obtain ⟨y251, hy251⟩ : ∃ y_ : List Int, y_ = (x239004_1 ++ [ji30]) := ⟨_, rfl⟩
              replace H : (hypercuberef2_Join.l0 k1 (wrap64 (x6_1 + 1)) l0_0 a0_1 l0_2 l0_3 l0_4 l1_0 a1_1 l1_2 l1_3 l1_4 y235 (wrap64 (a0_1 + a1_1)) y241 y246 y251) = some (r1, r2, r3, r4, r5) := by rw [hy251]; with_reducible exact H
              have Ny251 := am hy251
              clear hy251
              have H' := am H
              clear H
              have hnb32 := NB229_230.out
              have hnc32 := NB230_229.out
              have hnb33 := NB229_231.out
              have hnc33 := NB231_229.out
              have hnb34 := NB229_238.out
              have hnc34 := NB238_229.out
              have hcz35_0 : wr.cell? ⟨gb229, 0, none⟩ = some (.slice A0_0 l0_0.length c0_0) := (blk_cell BK229.out 0).trans rfl
              have hcz35_1 : wr.cell? ⟨gb229, 1, none⟩ = some (.int .i64 a0_1) := (blk_cell BK229.out 1).trans rfl
              have hcz35_2 : wr.cell? ⟨gb229, 2, none⟩ = some (.slice A0_2 l0_2.length c0_2) := (blk_cell BK229.out 2).trans rfl
              have hcz35_3 : wr.cell? ⟨gb229, 3, none⟩ = some (.slice A0_3 l0_3.length c0_3) := (blk_cell BK229.out 3).trans rfl
              have hcz35_4 : wr.cell? ⟨gb229, 4, none⟩ = some (.slice A0_4 l0_4.length c0_4) := (blk_cell BK229.out 4).trans rfl
              have hfz35_0 := blk_frozen BK229.out 0
              have hfz35_1 := blk_frozen BK229.out 1
              have hfz35_2 := blk_frozen BK229.out 2
              have hfz35_3 := blk_frozen BK229.out 3
              have hfz35_4 := blk_frozen BK229.out 4
              try go_wp2
              have n0_ := am (Kd.R_drew HO_239000.out)
              have n1_ := am (Kd.R_drew HO_239002.out)
              have n2_ := am (Kd.R_drew HO_239003.out)
              have n3_ := am (Kd.R_drew HO_239004.out)
              have n4_ := am (blk_drew BK229.out)
              have n5_ := am (blk_drew BK230.out)
              have n6_ := am (blk_drew BK231.out)
              have n7_ := am (blk_drew BK238.out)
              have n8_ := am (below_drew1 HB.out)
              clear HO_239000 HO_239002 HO_239003 HO_239004 BK229 BK230 BK231 BK238 HB
              revert n0_ n1_ n2_ n3_ n4_ n5_ n6_ n7_ n8_
              intro HO_239000 HO_239002 HO_239003 HO_239004 BK229 BK230 BK231 BK238 HB
              have p239 : 0 ≤ (x6_1 : Int) := of_decide_eq_true (by first | (with_reducible assumption) | assumption)
              have q239 : x6_1 < (l0_2.length : Int) := of_decide_eq_true (by first | (with_reducible assumption) | assumption)
              obtain ⟨ad239, e239, hx239_0⟩ := Kd.at_int HR0_2.out x6_1 p239 q239
              have hw239_0 := hx239_0
              cases e239
              replace hx239_0 := (HB.out.cell (World.block_lt_of_cell? w _ hx239_0)).trans hx239_0
              replace p239 := eq_true p239
              replace q239 := eq_true q239
              have p240 : 0 ≤ (x6_1 : Int) := of_decide_eq_true (by first | (with_reducible assumption) | assumption)
              have q240 : x6_1 < (l1_2.length : Int) := of_decide_eq_true (by first | (with_reducible assumption) | assumption)
              obtain ⟨ad240, e240, hx240_0⟩ := Kd.at_int HR1_2.out x6_1 p240 q240
              have hw240_0 := hx240_0
              cases e240
              replace hx240_0 := (HB.out.cell (World.block_lt_of_cell? w _ hx240_0)).trans hx240_0
              replace p240 := eq_true p240
              replace q240 := eq_true q240
              refine start_ (n := 17) (S := fun w' => w'.cell? ⟨gb238, 0, none⟩ = some (.slice Ao14 y235.length co14) ∧ w'.cell? ⟨gb238, 1, none⟩ = some (.int .i64 (wrap64 (a0_1 + a1_1))) ∧ w'.cell? ⟨gb238, 2, none⟩ = some (u239002) ∧ w'.cell? ⟨gb238, 3, none⟩ = some (u239003) ∧ w'.cell? ⟨gb238, 4, none⟩ = some (u239004) ∧ w'.cell? ⟨gb229, 0, none⟩ = some (.slice A0_0 l0_0.length c0_0) ∧ w'.cell? ⟨gb229, 1, none⟩ = some (.int .i64 a0_1) ∧ w'.cell? ⟨gb229, 2, none⟩ = some (.slice (some ad239) l0_2.length c0_2) ∧ w'.cell? ⟨gb229, 3, none⟩ = some (.slice A0_3 l0_3.length c0_3) ∧ w'.cell? ⟨gb229, 4, none⟩ = some (.slice A0_4 l0_4.length c0_4) ∧ w'.cell? ⟨gb230, 0, none⟩ = some (.slice A1_0 l1_0.length c1_0) ∧ w'.cell? ⟨gb230, 1, none⟩ = some (.int .i64 a1_1) ∧ w'.cell? ⟨gb230, 2, none⟩ = some (.slice (some ad240) l1_2.length c1_2) ∧ w'.cell? ⟨gb230, 3, none⟩ = some (.slice A1_3 l1_3.length c1_3) ∧ w'.cell? ⟨gb230, 4, none⟩ = some (.slice A1_4 l1_4.length c1_4) ∧ w'.cell? (ad239.add (x6_1).toNat) = some (.int .i64 (rd l0_2 x6_1)) ∧ w'.cell? (ad240.add (x6_1).toNat) = some (.int .i64 (rd l1_2 x6_1))) (ds := [16]) (bb 17 0) (by kernel_rfl) rfl rfl ⟨bc BK238 0, bc BK238 1, bc BK238 2, bc BK238 3, bc BK238 4, bc BK229 0, bc BK229 1, bc BK229 2, bc BK229 3, bc BK229 4, bc BK230 0, bc BK230 1, bc BK230 2, bc BK230 3, bc BK230 4, ((HB.out.cell (World.block_lt_of_cell? w _ hw239_0)).trans hw239_0), ((HB.out.cell (World.block_lt_of_cell? w _ hw240_0)).trans hw240_0)⟩ (fun hHeld => ?_); refine with_tabW hypercuberef2_Join.tab5 hypercuberef2_Join.bits5 (fun HT_ HW_ => ?_)
              generalize wr.drew = w36 at HO_239000 HO_239002 HO_239003 HO_239004 BK229 BK230 BK231 BK238 HB hx239_0 hx240_0 hHeld ⊢
              refine pu (i := 0) (N := some 24) (bb 17 1) HT_ ?_
              refine pu (i := 2) (N := some 26) (bb 17 5) HT_ ?_
              refine pu (i := 4) (N := some 28) (bb 17 21) HT_ ?_
              refine pu (i := 7) (N := some 31) (bb 17 149) HT_ ?_
              refine pu (i := 9) (N := some 33) (bb 17 661) HT_ ?_
              refine tk (i := 1) (N := some 25) (bb 17 663) HT_ HW_ hHeld ?_
              refine tk (i := 3) (N := some 27) (bb 17 671) HT_ HW_ hHeld ?_
              refine pu (i := 5) (N := some 29) (bb 17 703) HT_ ?_
              refine tk (i := 6) (N := some 30) (bb 17 767) HT_ HW_ hHeld ?_
              refine tk (i := 8) (N := some 32) (bb 17 1023) HT_ HW_ hHeld ?_
              refine pu (i := 10) (N := some 34) (bb 17 2047) HT_ ?_
              refine tk (i := 11) (N := some 35) (bb 17 4095) HT_ HW_ hHeld ?_
              refine pu (i := 12) (N := some 36) (bb 17 8191) HT_ ?_
              refine one_ (i := 13) (N := some 37) (bb 17 16383) rfl rfl (one_of HT_.out (by kernel_rfl)) (by decide) (fun K hK => ?_)
              refine value_ (w1 := ?_) (v := ?_) (by rfl) rfl ?_ ?_
              rotate_left 2
              ·go_simp
               constructor
               ·rfl
               ·rfl
              refine hK.out _ _ ⟨(blk_cell (blk_alloc BK238.out _) 0).trans rfl, (blk_cell (blk_alloc BK238.out _) 1).trans rfl, (blk_cell (blk_alloc BK238.out _) 2).trans rfl, (blk_cell (blk_alloc BK238.out _) 3).trans rfl, (blk_cell (blk_alloc BK238.out _) 4).trans rfl, (blk_cell (blk_alloc BK229.out _) 0).trans rfl, (blk_cell (blk_alloc BK229.out _) 1).trans rfl, (blk_cell (blk_alloc BK229.out _) 2).trans rfl, (blk_cell (blk_alloc BK229.out _) 3).trans rfl, (blk_cell (blk_alloc BK229.out _) 4).trans rfl, (blk_cell (blk_alloc BK230.out _) 0).trans rfl, (blk_cell (blk_alloc BK230.out _) 1).trans rfl, (blk_cell (blk_alloc BK230.out _) 2).trans rfl, (blk_cell (blk_alloc BK230.out _) 3).trans rfl, (blk_cell (blk_alloc BK230.out _) 4).trans rfl, (World.cell?_alloc_lt _ _ _ (World.block_lt_of_cell? _ _ (((HB.out.cell (World.block_lt_of_cell? w _ hw239_0)).trans hw239_0)))).trans (((HB.out.cell (World.block_lt_of_cell? w _ hw239_0)).trans hw239_0)), (World.cell?_alloc_lt _ _ _ (World.block_lt_of_cell? _ _ (((HB.out.cell (World.block_lt_of_cell? w _ hw240_0)).trans hw240_0)))).trans (((HB.out.cell (World.block_lt_of_cell? w _ hw240_0)).trans hw240_0))⟩ (fun hHeld => ?_)
              clear hK K
              refine nm ?_
              refine one_ (i := 14) (N := some 38) (bb 17 32767) rfl rfl (one_of HT_.out (by kernel_rfl)) (by decide) (fun K hK => ?_)
              refine Kd.R_append_step (Kd.int .i64) (w0 := w) w.heap.size (by rfl) (.tmp 25) (.tmp 37) 22 3 (.int .i64 0) 8 rfl Try.underlying22 info3 rfl (by decide) (by omega) u239002 x239002_1 (wrap64 ((rd l0_2 x6_1) + (rd l1_2 x6_1))) [.int .i64 (wrap64 ((rd l0_2 x6_1) + (rd l1_2 x6_1)))] (fun k_ => some k_ ≠ (.slice Ao14 y235.length co14 : Value).ownBlock ∧ some k_ ≠ (u239003 : Value).ownBlock ∧ some k_ ≠ (u239004 : Value).ownBlock) (fun _ => False) rfl rfl ?aP (fun _ hk => hk.elim) ?aF ?aO ?aB ?aS ?aL ?_
              (case aP => exact rfl)
              (case aB => exact (wmv HB.out))
              (case aF => exact (fun k_ hk => ⟨Kd.fresh' (Kd.R_lt (Kd.R_mv HO_239000.out)) k_ hk, Kd.fresh' (Kd.R_lt (Kd.R_mv HO_239003.out)) k_ hk, Kd.fresh' (Kd.R_lt (Kd.R_mv HO_239004.out)) k_ hk⟩))
              (case aO => exact (Kd.R_mv HO_239002.out))
              (case aS => exact (below_size (wmv HB.out)))
              (case aL => have := LMc23.out; omega)
              intro v242 w37 ho hb hg hat
              rw [← Ny241.out] at ho
              have n0_ := am (Kd.R_after (ok := (fun k_ => some k_ ≠ (u239003 : Value).ownBlock ∧ some k_ ≠ (u239004 : Value).ownBlock)) (Kd.R_mv (Kd.R_mono HO_239000.out (fun _ hk => ⟨⟨hk.2.1, hk.2.2⟩, hk.1⟩))) hg hat)
              have n1_ := am (Kd.R_after (ok := (fun k_ => some k_ ≠ (.slice Ao14 y235.length co14 : Value).ownBlock ∧ some k_ ≠ (u239004 : Value).ownBlock)) (Kd.R_mv (Kd.R_mono HO_239003.out (fun _ hk => ⟨⟨hk.1, hk.2.2⟩, hk.2.1⟩))) hg hat)
              have n2_ := am (Kd.R_after (ok := (fun k_ => some k_ ≠ (.slice Ao14 y235.length co14 : Value).ownBlock ∧ some k_ ≠ (u239003 : Value).ownBlock)) (Kd.R_mv (Kd.R_mono HO_239004.out (fun _ hk => ⟨⟨hk.1, hk.2.2⟩, hk.2.1⟩))) hg hat)
              have n3_ := am (blk_grown (bmv BK229.out) hg (Kd.R_ne HO_239002.out BK229.out (by decide)))
              have n4_ := am (blk_grown (bmv BK230.out) hg (Kd.R_ne HO_239002.out BK230.out (by decide)))
              have n5_ := am (blk_grown (bmv BK231.out) hg (Kd.R_ne HO_239002.out BK231.out (by decide)))
              have n6_ := am (blk_grown (bmv BK238.out) hg (Kd.R_ne HO_239002.out BK238.out (by decide)))
              have n7_ := am (hb)
              have n8_ := am (ho)
              clear HO_239000 HO_239003 HO_239004 BK229 BK230 BK231 BK238 HB HO_239002
              revert n0_ n1_ n2_ n3_ n4_ n5_ n6_ n7_ n8_
              intro HO_239000 HO_239003 HO_239004 BK229 BK230 BK231 BK238 HB HO243
              clear ho hb hg hat
              obtain ⟨Ao38, co38, eo38⟩ := Kd.R_slice HO243.out
              (first | subst eo38 | (injection eo38 with f1_ f2_ f3_; have f4_ := f1_.symm; have f5_ := f3_.symm; clear f1_ f2_ f3_; subst f4_; subst f5_))
              refine hK.out _ _ ⟨bc BK238 0, bc BK238 1, bc BK238 2, bc BK238 3, bc BK238 4, bc BK229 0, bc BK229 1, bc BK229 2, bc BK229 3, bc BK229 4, bc BK230 0, bc BK230 1, bc BK230 2, bc BK230 3, bc BK230 4, ((HB.out.cell (World.block_lt_of_cell? w _ hw239_0)).trans hw239_0), ((HB.out.cell (World.block_lt_of_cell? w _ hw240_0)).trans hw240_0)⟩ (fun hHeld => ?_)
              clear hK K
              refine nm ?_
              refine pu (i := 15) (N := some 39) (bb 17 65535) HT_ ?_
              refine last_ (i := 16) (N := none) (bb 17 131071) rfl rfl (one_of HT_.out (by kernel_rfl)) (by decide) (fun K hK => ?_)
              have hs39 : w37.cell? ⟨gb238, 2, none⟩ = some (u239002) := (blk_cell BK238.out 2).trans rfl
              have hfs39 := blk_frozen BK238.out 2
              have hns39_0 := NB229_238.out
              have hns39_1 := NB230_238.out
              have hns39_2 := NB231_238.out
              have hms39_0 := NB238_229.out
              have hms39_1 := NB238_230.out
              have hms39_2 := NB238_231.out
              refine skip_ (w1 := ?_) (by rfl) rfl ?_ ?_
              rotate_left
              ·go_simp
               rfl
              refine hK.out _ _ ?_
              clear hK K
              refine done_ (done_of HT_.out (by kernel_rfl)) ?_
              try go_wp2
              have n0_ : Aside0 (Kd.R (Kd.int .i64) 3 (w37.setCell ⟨gb238, 2, none⟩ (.slice Ao38 y241.length co38)) w.heap.size (fun k_ => some k_ ≠ (u239003 : Value).ownBlock ∧ some k_ ≠ (u239004 : Value).ownBlock ∧ some k_ ≠ (.slice Ao38 y241.length co38 : Value).ownBlock) (.slice Ao14 y235.length co14) y235) := ⟨by (with_reducible repeat (first | apply Kd.R_alloc | apply Kd.R_drewN | apply Kd.R_drew)); exact Kd.R_mono (Kd.R_far (p := ⟨gb238, 2, none⟩) (Kd.R_types HO_239000.out BK238.out (by decide)) (fun _ hk => hk.2) (.slice Ao38 y241.length co38)) (fun _ hk => ⟨hk.1.1.1, ⟨hk.1.1.2, hk.1.2⟩⟩)⟩
              have n1_ : Aside0 (Kd.R (Kd.int .i64) 3 (w37.setCell ⟨gb238, 2, none⟩ (.slice Ao38 y241.length co38)) w.heap.size (fun k_ => some k_ ≠ (.slice Ao14 y235.length co14 : Value).ownBlock ∧ some k_ ≠ (u239004 : Value).ownBlock ∧ some k_ ≠ (.slice Ao38 y241.length co38 : Value).ownBlock) u239003 x239003_1) := ⟨by (with_reducible repeat (first | apply Kd.R_alloc | apply Kd.R_drewN | apply Kd.R_drew)); exact Kd.R_mono (Kd.R_far (p := ⟨gb238, 2, none⟩) (Kd.R_types HO_239003.out BK238.out (by decide)) (fun _ hk => hk.2) (.slice Ao38 y241.length co38)) (fun _ hk => ⟨hk.1.1.1, ⟨hk.1.1.2, hk.1.2⟩⟩)⟩
              have n2_ : Aside0 (Kd.R (Kd.int .i64) 3 (w37.setCell ⟨gb238, 2, none⟩ (.slice Ao38 y241.length co38)) w.heap.size (fun k_ => some k_ ≠ (.slice Ao14 y235.length co14 : Value).ownBlock ∧ some k_ ≠ (u239003 : Value).ownBlock ∧ some k_ ≠ (.slice Ao38 y241.length co38 : Value).ownBlock) u239004 x239004_1) := ⟨by (with_reducible repeat (first | apply Kd.R_alloc | apply Kd.R_drewN | apply Kd.R_drew)); exact Kd.R_mono (Kd.R_far (p := ⟨gb238, 2, none⟩) (Kd.R_types HO_239004.out BK238.out (by decide)) (fun _ hk => hk.2) (.slice Ao38 y241.length co38)) (fun _ hk => ⟨hk.1.1.1, ⟨hk.1.1.2, hk.1.2⟩⟩)⟩
              have n3_ : Aside0 (Kd.R (Kd.int .i64) 3 (w37.setCell ⟨gb238, 2, none⟩ (.slice Ao38 y241.length co38)) w.heap.size (fun k_ => some k_ ≠ (.slice Ao14 y235.length co14 : Value).ownBlock ∧ some k_ ≠ (u239003 : Value).ownBlock ∧ some k_ ≠ (u239004 : Value).ownBlock) (.slice Ao38 y241.length co38) y241) := ⟨by (with_reducible repeat (first | apply Kd.R_alloc | apply Kd.R_drewN | apply Kd.R_drew)); exact Kd.R_mono (Kd.R_far (p := ⟨gb238, 2, none⟩) (Kd.R_types HO243.out BK238.out (by decide)) (fun _ hk => hk.2) (.slice Ao38 y241.length co38)) (fun _ hk => ⟨hk.1.1, ⟨hk.1.2.1, hk.1.2.2⟩⟩)⟩
              have n4_ : Aside0 ((w37.setCell ⟨gb238, 2, none⟩ (.slice Ao38 y241.length co38)).heap[gb229]? = some (.cells #[.slice A0_0 l0_0.length c0_0, .int .i64 a0_1, .slice (some ad239) l0_2.length c0_2, .slice A0_3 l0_3.length c0_3, .slice A0_4 l0_4.length c0_4] 44 (0, 0))) := ⟨by (with_reducible repeat (first | refine blk_drewN ?_ _ | refine blk_drew ?_ | refine blk_alloc ?_ _)); refine blk_far ?_ NB229_238.out _; (with_reducible repeat (first | refine blk_drewN ?_ _ | refine blk_drew ?_ | refine blk_alloc ?_ _)); exact BK229.out⟩
              have n5_ : Aside0 ((w37.setCell ⟨gb238, 2, none⟩ (.slice Ao38 y241.length co38)).heap[gb230]? = some (.cells #[.slice A1_0 l1_0.length c1_0, .int .i64 a1_1, .slice (some ad240) l1_2.length c1_2, .slice A1_3 l1_3.length c1_3, .slice A1_4 l1_4.length c1_4] 44 (0, 0))) := ⟨by (with_reducible repeat (first | refine blk_drewN ?_ _ | refine blk_drew ?_ | refine blk_alloc ?_ _)); refine blk_far ?_ NB230_238.out _; (with_reducible repeat (first | refine blk_drewN ?_ _ | refine blk_drew ?_ | refine blk_alloc ?_ _)); exact BK230.out⟩
              have n6_ : Aside0 ((w37.setCell ⟨gb238, 2, none⟩ (.slice Ao38 y241.length co38)).heap[gb231]? = some (.cells #[.slice none 0 0, .int .i64 0, .slice none 0 0, .slice none 0 0, .slice none 0 0] 44 (0, 0))) := ⟨by (with_reducible repeat (first | refine blk_drewN ?_ _ | refine blk_drew ?_ | refine blk_alloc ?_ _)); refine blk_far ?_ NB231_238.out _; (with_reducible repeat (first | refine blk_drewN ?_ _ | refine blk_drew ?_ | refine blk_alloc ?_ _)); exact BK231.out⟩
              have n7_ : Aside0 ((w37.setCell ⟨gb238, 2, none⟩ (.slice Ao38 y241.length co38)).heap[gb238]? = some (.cells #[.slice Ao14 y235.length co14, .int .i64 (wrap64 (a0_1 + a1_1)), .slice Ao38 y241.length co38, u239003, u239004] 44 (0, 0))) := ⟨by (with_reducible repeat (first | refine blk_drewN ?_ _ | refine blk_drew ?_ | refine blk_alloc ?_ _)); refine blk_put (cs := #[.slice Ao14 y235.length co14, .int .i64 (wrap64 (a0_1 + a1_1)), u239002, u239003, u239004]) ?_ 2 _ rfl; (with_reducible repeat (first | refine blk_drewN ?_ _ | refine blk_drew ?_ | refine blk_alloc ?_ _)); exact BK238.out⟩
              have n8_ : Aside0 (Below w.heap.size w (w37.setCell ⟨gb238, 2, none⟩ (.slice Ao38 y241.length co38))) := ⟨by repeat (first | (with_reducible first | exact HB.out | apply below_alloc | apply pw_below_drewN | apply below_drew1 | refine below_set ?_ GE229.out | refine below_set ?_ GE230.out | refine below_set ?_ GE231.out | refine below_set ?_ GE238.out) | exact HB.out)⟩
              (try clear HO_239000)
              (try clear HO_239003)
              (try clear HO_239004)
              (try clear HO243)
              (try clear BK229)
              (try clear BK230)
              (try clear BK231)
              (try clear BK238)
              (try clear HB)
              generalize (w37.setCell ⟨gb238, 2, none⟩ (.slice Ao38 y241.length co38)) = w40 at n0_ n1_ n2_ n3_ n4_ n5_ n6_ n7_ n8_ ⊢
              revert n0_ n1_ n2_ n3_ n4_ n5_ n6_ n7_ n8_
              intro HO_239000 HO_239003 HO_239004 HO243 BK229 BK230 BK231 BK238 HB
              have n0_ := am (Kd.R_drew HO_239000.out)
              have n1_ := am (Kd.R_drew HO_239003.out)
              have n2_ := am (Kd.R_drew HO_239004.out)
              have n3_ := am (Kd.R_drew HO243.out)
              have n4_ := am (blk_drew BK229.out)
              have n5_ := am (blk_drew BK230.out)
              have n6_ := am (blk_drew BK231.out)
              have n7_ := am (blk_drew BK238.out)
              have n8_ := am (below_drew1 HB.out)
              clear HO_239000 HO_239003 HO_239004 HO243 BK229 BK230 BK231 BK238 HB
              revert n0_ n1_ n2_ n3_ n4_ n5_ n6_ n7_ n8_
              intro HO_239000 HO_239003 HO_239004 HO243 BK229 BK230 BK231 BK238 HB
              have p244 : 0 ≤ (x6_1 : Int) := of_decide_eq_true (by first | (with_reducible assumption) | assumption)
              have q244 : x6_1 < (l0_3.length : Int) := of_decide_eq_true (by first | (with_reducible assumption) | assumption)
              obtain ⟨ad244, e244, hx244_0⟩ := Kd.at_int HR0_3.out x6_1 p244 q244
              have hw244_0 := hx244_0
              cases e244
              replace hx244_0 := (HB.out.cell (World.block_lt_of_cell? w _ hx244_0)).trans hx244_0
              replace p244 := eq_true p244
              replace q244 := eq_true q244
              have p245 : 0 ≤ (x6_1 : Int) := of_decide_eq_true (by first | (with_reducible assumption) | assumption)
              have q245 : x6_1 < (l1_3.length : Int) := of_decide_eq_true (by first | (with_reducible assumption) | assumption)
              obtain ⟨ad245, e245, hx245_0⟩ := Kd.at_int HR1_3.out x6_1 p245 q245
              have hw245_0 := hx245_0
              cases e245
              replace hx245_0 := (HB.out.cell (World.block_lt_of_cell? w _ hx245_0)).trans hx245_0
              replace p245 := eq_true p245
              replace q245 := eq_true q245
              refine start_ (n := 17) (S := fun w' => w'.cell? ⟨gb238, 0, none⟩ = some (.slice Ao14 y235.length co14) ∧ w'.cell? ⟨gb238, 1, none⟩ = some (.int .i64 (wrap64 (a0_1 + a1_1))) ∧ w'.cell? ⟨gb238, 2, none⟩ = some (.slice Ao38 y241.length co38) ∧ w'.cell? ⟨gb238, 3, none⟩ = some (u239003) ∧ w'.cell? ⟨gb238, 4, none⟩ = some (u239004) ∧ w'.cell? ⟨gb229, 0, none⟩ = some (.slice A0_0 l0_0.length c0_0) ∧ w'.cell? ⟨gb229, 1, none⟩ = some (.int .i64 a0_1) ∧ w'.cell? ⟨gb229, 2, none⟩ = some (.slice (some ad239) l0_2.length c0_2) ∧ w'.cell? ⟨gb229, 3, none⟩ = some (.slice (some ad244) l0_3.length c0_3) ∧ w'.cell? ⟨gb229, 4, none⟩ = some (.slice A0_4 l0_4.length c0_4) ∧ w'.cell? ⟨gb230, 0, none⟩ = some (.slice A1_0 l1_0.length c1_0) ∧ w'.cell? ⟨gb230, 1, none⟩ = some (.int .i64 a1_1) ∧ w'.cell? ⟨gb230, 2, none⟩ = some (.slice (some ad240) l1_2.length c1_2) ∧ w'.cell? ⟨gb230, 3, none⟩ = some (.slice (some ad245) l1_3.length c1_3) ∧ w'.cell? ⟨gb230, 4, none⟩ = some (.slice A1_4 l1_4.length c1_4) ∧ w'.cell? (ad244.add (x6_1).toNat) = some (.int .i64 (rd l0_3 x6_1)) ∧ w'.cell? (ad245.add (x6_1).toNat) = some (.int .i64 (rd l1_3 x6_1))) (ds := [16]) (bb 17 0) (by kernel_rfl) rfl rfl ⟨bc BK238 0, bc BK238 1, bc BK238 2, bc BK238 3, bc BK238 4, bc BK229 0, bc BK229 1, bc BK229 2, bc BK229 3, bc BK229 4, bc BK230 0, bc BK230 1, bc BK230 2, bc BK230 3, bc BK230 4, ((HB.out.cell (World.block_lt_of_cell? w _ hw244_0)).trans hw244_0), ((HB.out.cell (World.block_lt_of_cell? w _ hw245_0)).trans hw245_0)⟩ (fun hHeld => ?_); refine with_tabW hypercuberef2_Join.tab6 hypercuberef2_Join.bits6 (fun HT_ HW_ => ?_)
              generalize w40.drew = w41 at HO_239000 HO_239003 HO_239004 HO243 BK229 BK230 BK231 BK238 HB hx244_0 hx245_0 hHeld ⊢
              refine pu (i := 0) (N := some 40) (bb 17 1) HT_ ?_
              refine pu (i := 2) (N := some 42) (bb 17 5) HT_ ?_
              refine pu (i := 4) (N := some 44) (bb 17 21) HT_ ?_
              refine pu (i := 7) (N := some 47) (bb 17 149) HT_ ?_
              refine pu (i := 9) (N := some 49) (bb 17 661) HT_ ?_
              refine tk (i := 1) (N := some 41) (bb 17 663) HT_ HW_ hHeld ?_
              refine tk (i := 3) (N := some 43) (bb 17 671) HT_ HW_ hHeld ?_
              refine pu (i := 5) (N := some 45) (bb 17 703) HT_ ?_
              refine tk (i := 6) (N := some 46) (bb 17 767) HT_ HW_ hHeld ?_
              refine tk (i := 8) (N := some 48) (bb 17 1023) HT_ HW_ hHeld ?_
              refine pu (i := 10) (N := some 50) (bb 17 2047) HT_ ?_
              refine tk (i := 11) (N := some 51) (bb 17 4095) HT_ HW_ hHeld ?_
              refine pu (i := 12) (N := some 52) (bb 17 8191) HT_ ?_
              refine one_ (i := 13) (N := some 53) (bb 17 16383) rfl rfl (one_of HT_.out (by kernel_rfl)) (by decide) (fun K hK => ?_)
              refine value_ (w1 := ?_) (v := ?_) (by rfl) rfl ?_ ?_
              rotate_left 2
              ·go_simp
               constructor
               ·rfl
               ·rfl
              refine hK.out _ _ ⟨(blk_cell (blk_alloc BK238.out _) 0).trans rfl, (blk_cell (blk_alloc BK238.out _) 1).trans rfl, (blk_cell (blk_alloc BK238.out _) 2).trans rfl, (blk_cell (blk_alloc BK238.out _) 3).trans rfl, (blk_cell (blk_alloc BK238.out _) 4).trans rfl, (blk_cell (blk_alloc BK229.out _) 0).trans rfl, (blk_cell (blk_alloc BK229.out _) 1).trans rfl, (blk_cell (blk_alloc BK229.out _) 2).trans rfl, (blk_cell (blk_alloc BK229.out _) 3).trans rfl, (blk_cell (blk_alloc BK229.out _) 4).trans rfl, (blk_cell (blk_alloc BK230.out _) 0).trans rfl, (blk_cell (blk_alloc BK230.out _) 1).trans rfl, (blk_cell (blk_alloc BK230.out _) 2).trans rfl, (blk_cell (blk_alloc BK230.out _) 3).trans rfl, (blk_cell (blk_alloc BK230.out _) 4).trans rfl, (World.cell?_alloc_lt _ _ _ (World.block_lt_of_cell? _ _ (((HB.out.cell (World.block_lt_of_cell? w _ hw244_0)).trans hw244_0)))).trans (((HB.out.cell (World.block_lt_of_cell? w _ hw244_0)).trans hw244_0)), (World.cell?_alloc_lt _ _ _ (World.block_lt_of_cell? _ _ (((HB.out.cell (World.block_lt_of_cell? w _ hw245_0)).trans hw245_0)))).trans (((HB.out.cell (World.block_lt_of_cell? w _ hw245_0)).trans hw245_0))⟩ (fun hHeld => ?_)
              clear hK K
              refine nm ?_
              refine one_ (i := 14) (N := some 54) (bb 17 32767) rfl rfl (one_of HT_.out (by kernel_rfl)) (by decide) (fun K hK => ?_)
              refine Kd.R_append_step (Kd.int .i64) (w0 := w) w.heap.size (by rfl) (.tmp 41) (.tmp 53) 22 3 (.int .i64 0) 8 rfl Try.underlying22 info3 rfl (by decide) (by omega) u239003 x239003_1 ji26 [.int .i64 ji26] (fun k_ => some k_ ≠ (.slice Ao14 y235.length co14 : Value).ownBlock ∧ some k_ ≠ (u239004 : Value).ownBlock ∧ some k_ ≠ (.slice Ao38 y241.length co38 : Value).ownBlock) (fun _ => False) rfl rfl ?aP (fun _ hk => hk.elim) ?aF ?aO ?aB ?aS ?aL ?_
              (case aP => exact rfl)
              (case aB => exact (wmv HB.out))
              (case aF => exact (fun k_ hk => ⟨Kd.fresh' (Kd.R_lt (Kd.R_mv HO_239000.out)) k_ hk, Kd.fresh' (Kd.R_lt (Kd.R_mv HO_239004.out)) k_ hk, Kd.fresh' (Kd.R_lt (Kd.R_mv HO243.out)) k_ hk⟩))
              (case aO => exact (Kd.R_mv HO_239003.out))
              (case aS => exact (below_size (wmv HB.out)))
              (case aL => have := LMc27.out; omega)
              intro v247 w42 ho hb hg hat
              rw [← Ny246.out] at ho
              have n0_ := am (Kd.R_after (ok := (fun k_ => some k_ ≠ (u239004 : Value).ownBlock ∧ some k_ ≠ (.slice Ao38 y241.length co38 : Value).ownBlock)) (Kd.R_mv (Kd.R_mono HO_239000.out (fun _ hk => ⟨⟨hk.2.1, hk.2.2⟩, hk.1⟩))) hg hat)
              have n1_ := am (Kd.R_after (ok := (fun k_ => some k_ ≠ (.slice Ao14 y235.length co14 : Value).ownBlock ∧ some k_ ≠ (.slice Ao38 y241.length co38 : Value).ownBlock)) (Kd.R_mv (Kd.R_mono HO_239004.out (fun _ hk => ⟨⟨hk.1, hk.2.2⟩, hk.2.1⟩))) hg hat)
              have n2_ := am (blk_grown (bmv BK229.out) hg (Kd.R_ne HO_239003.out BK229.out (by decide)))
              have n3_ := am (blk_grown (bmv BK230.out) hg (Kd.R_ne HO_239003.out BK230.out (by decide)))
              have n4_ := am (blk_grown (bmv BK231.out) hg (Kd.R_ne HO_239003.out BK231.out (by decide)))
              have n5_ := am (blk_grown (bmv BK238.out) hg (Kd.R_ne HO_239003.out BK238.out (by decide)))
              have n6_ := am (Kd.R_after (ok := (fun k_ => some k_ ≠ (.slice Ao14 y235.length co14 : Value).ownBlock ∧ some k_ ≠ (u239004 : Value).ownBlock)) (Kd.R_mv (Kd.R_mono HO243.out (fun _ hk => ⟨⟨hk.1, hk.2.2⟩, hk.2.1⟩))) hg hat)
              have n7_ := am (hb)
              have n8_ := am (ho)
              clear HO_239000 HO_239004 BK229 BK230 BK231 BK238 HO243 HB HO_239003
              revert n0_ n1_ n2_ n3_ n4_ n5_ n6_ n7_ n8_
              intro HO_239000 HO_239004 BK229 BK230 BK231 BK238 HO243 HB HO248
              clear ho hb hg hat
              obtain ⟨Ao43, co43, eo43⟩ := Kd.R_slice HO248.out
              (first | subst eo43 | (injection eo43 with f1_ f2_ f3_; have f4_ := f1_.symm; have f5_ := f3_.symm; clear f1_ f2_ f3_; subst f4_; subst f5_))
              refine hK.out _ _ ⟨bc BK238 0, bc BK238 1, bc BK238 2, bc BK238 3, bc BK238 4, bc BK229 0, bc BK229 1, bc BK229 2, bc BK229 3, bc BK229 4, bc BK230 0, bc BK230 1, bc BK230 2, bc BK230 3, bc BK230 4, ((HB.out.cell (World.block_lt_of_cell? w _ hw244_0)).trans hw244_0), ((HB.out.cell (World.block_lt_of_cell? w _ hw245_0)).trans hw245_0)⟩ (fun hHeld => ?_)
              clear hK K
              refine nm ?_
              refine pu (i := 15) (N := some 55) (bb 17 65535) HT_ ?_
              refine last_ (i := 16) (N := none) (bb 17 131071) rfl rfl (one_of HT_.out (by kernel_rfl)) (by decide) (fun K hK => ?_)
              have hs44 : w42.cell? ⟨gb238, 3, none⟩ = some (u239003) := (blk_cell BK238.out 3).trans rfl
              have hfs44 := blk_frozen BK238.out 3
              have hns44_0 := NB229_238.out
              have hns44_1 := NB230_238.out
              have hns44_2 := NB231_238.out
              have hms44_0 := NB238_229.out
              have hms44_1 := NB238_230.out
              have hms44_2 := NB238_231.out
              refine skip_ (w1 := ?_) (by rfl) rfl ?_ ?_
              rotate_left
              ·go_simp
               rfl
              refine hK.out _ _ ?_
              clear hK K
              refine done_ (done_of HT_.out (by kernel_rfl)) ?_
              try go_wp2
              have n0_ : Aside0 (Kd.R (Kd.int .i64) 3 (w42.setCell ⟨gb238, 3, none⟩ (.slice Ao43 y246.length co43)) w.heap.size (fun k_ => some k_ ≠ (u239004 : Value).ownBlock ∧ some k_ ≠ (.slice Ao38 y241.length co38 : Value).ownBlock ∧ some k_ ≠ (.slice Ao43 y246.length co43 : Value).ownBlock) (.slice Ao14 y235.length co14) y235) := ⟨by (with_reducible repeat (first | apply Kd.R_alloc | apply Kd.R_drewN | apply Kd.R_drew)); exact Kd.R_mono (Kd.R_far (p := ⟨gb238, 3, none⟩) (Kd.R_types HO_239000.out BK238.out (by decide)) (fun _ hk => hk.2) (.slice Ao43 y246.length co43)) (fun _ hk => ⟨hk.1.1.1, ⟨hk.1.1.2, hk.1.2⟩⟩)⟩
              have n1_ : Aside0 (Kd.R (Kd.int .i64) 3 (w42.setCell ⟨gb238, 3, none⟩ (.slice Ao43 y246.length co43)) w.heap.size (fun k_ => some k_ ≠ (.slice Ao14 y235.length co14 : Value).ownBlock ∧ some k_ ≠ (.slice Ao38 y241.length co38 : Value).ownBlock ∧ some k_ ≠ (.slice Ao43 y246.length co43 : Value).ownBlock) u239004 x239004_1) := ⟨by (with_reducible repeat (first | apply Kd.R_alloc | apply Kd.R_drewN | apply Kd.R_drew)); exact Kd.R_mono (Kd.R_far (p := ⟨gb238, 3, none⟩) (Kd.R_types HO_239004.out BK238.out (by decide)) (fun _ hk => hk.2) (.slice Ao43 y246.length co43)) (fun _ hk => ⟨hk.1.1.1, ⟨hk.1.1.2, hk.1.2⟩⟩)⟩
              have n2_ : Aside0 (Kd.R (Kd.int .i64) 3 (w42.setCell ⟨gb238, 3, none⟩ (.slice Ao43 y246.length co43)) w.heap.size (fun k_ => some k_ ≠ (.slice Ao14 y235.length co14 : Value).ownBlock ∧ some k_ ≠ (u239004 : Value).ownBlock ∧ some k_ ≠ (.slice Ao43 y246.length co43 : Value).ownBlock) (.slice Ao38 y241.length co38) y241) := ⟨by (with_reducible repeat (first | apply Kd.R_alloc | apply Kd.R_drewN | apply Kd.R_drew)); exact Kd.R_mono (Kd.R_far (p := ⟨gb238, 3, none⟩) (Kd.R_types HO243.out BK238.out (by decide)) (fun _ hk => hk.2) (.slice Ao43 y246.length co43)) (fun _ hk => ⟨hk.1.1.1, ⟨hk.1.1.2, hk.1.2⟩⟩)⟩
              have n3_ : Aside0 (Kd.R (Kd.int .i64) 3 (w42.setCell ⟨gb238, 3, none⟩ (.slice Ao43 y246.length co43)) w.heap.size (fun k_ => some k_ ≠ (.slice Ao14 y235.length co14 : Value).ownBlock ∧ some k_ ≠ (u239004 : Value).ownBlock ∧ some k_ ≠ (.slice Ao38 y241.length co38 : Value).ownBlock) (.slice Ao43 y246.length co43) y246) := ⟨by (with_reducible repeat (first | apply Kd.R_alloc | apply Kd.R_drewN | apply Kd.R_drew)); exact Kd.R_mono (Kd.R_far (p := ⟨gb238, 3, none⟩) (Kd.R_types HO248.out BK238.out (by decide)) (fun _ hk => hk.2) (.slice Ao43 y246.length co43)) (fun _ hk => ⟨hk.1.1, ⟨hk.1.2.1, hk.1.2.2⟩⟩)⟩
              have n4_ : Aside0 ((w42.setCell ⟨gb238, 3, none⟩ (.slice Ao43 y246.length co43)).heap[gb229]? = some (.cells #[.slice A0_0 l0_0.length c0_0, .int .i64 a0_1, .slice (some ad239) l0_2.length c0_2, .slice (some ad244) l0_3.length c0_3, .slice A0_4 l0_4.length c0_4] 44 (0, 0))) := ⟨by (with_reducible repeat (first | refine blk_drewN ?_ _ | refine blk_drew ?_ | refine blk_alloc ?_ _)); refine blk_far ?_ NB229_238.out _; (with_reducible repeat (first | refine blk_drewN ?_ _ | refine blk_drew ?_ | refine blk_alloc ?_ _)); exact BK229.out⟩
              have n5_ : Aside0 ((w42.setCell ⟨gb238, 3, none⟩ (.slice Ao43 y246.length co43)).heap[gb230]? = some (.cells #[.slice A1_0 l1_0.length c1_0, .int .i64 a1_1, .slice (some ad240) l1_2.length c1_2, .slice (some ad245) l1_3.length c1_3, .slice A1_4 l1_4.length c1_4] 44 (0, 0))) := ⟨by (with_reducible repeat (first | refine blk_drewN ?_ _ | refine blk_drew ?_ | refine blk_alloc ?_ _)); refine blk_far ?_ NB230_238.out _; (with_reducible repeat (first | refine blk_drewN ?_ _ | refine blk_drew ?_ | refine blk_alloc ?_ _)); exact BK230.out⟩
              have n6_ : Aside0 ((w42.setCell ⟨gb238, 3, none⟩ (.slice Ao43 y246.length co43)).heap[gb231]? = some (.cells #[.slice none 0 0, .int .i64 0, .slice none 0 0, .slice none 0 0, .slice none 0 0] 44 (0, 0))) := ⟨by (with_reducible repeat (first | refine blk_drewN ?_ _ | refine blk_drew ?_ | refine blk_alloc ?_ _)); refine blk_far ?_ NB231_238.out _; (with_reducible repeat (first | refine blk_drewN ?_ _ | refine blk_drew ?_ | refine blk_alloc ?_ _)); exact BK231.out⟩
              have n7_ : Aside0 ((w42.setCell ⟨gb238, 3, none⟩ (.slice Ao43 y246.length co43)).heap[gb238]? = some (.cells #[.slice Ao14 y235.length co14, .int .i64 (wrap64 (a0_1 + a1_1)), .slice Ao38 y241.length co38, .slice Ao43 y246.length co43, u239004] 44 (0, 0))) := ⟨by (with_reducible repeat (first | refine blk_drewN ?_ _ | refine blk_drew ?_ | refine blk_alloc ?_ _)); refine blk_put (cs := #[.slice Ao14 y235.length co14, .int .i64 (wrap64 (a0_1 + a1_1)), .slice Ao38 y241.length co38, u239003, u239004]) ?_ 3 _ rfl; (with_reducible repeat (first | refine blk_drewN ?_ _ | refine blk_drew ?_ | refine blk_alloc ?_ _)); exact BK238.out⟩
              have n8_ : Aside0 (Below w.heap.size w (w42.setCell ⟨gb238, 3, none⟩ (.slice Ao43 y246.length co43))) := ⟨by repeat (first | (with_reducible first | exact HB.out | apply below_alloc | apply pw_below_drewN | apply below_drew1 | refine below_set ?_ GE229.out | refine below_set ?_ GE230.out | refine below_set ?_ GE231.out | refine below_set ?_ GE238.out) | exact HB.out)⟩
              (try clear HO_239000)
              (try clear HO_239004)
              (try clear HO243)
              (try clear HO248)
              (try clear BK229)
              (try clear BK230)
              (try clear BK231)
              (try clear BK238)
              (try clear HB)
              generalize (w42.setCell ⟨gb238, 3, none⟩ (.slice Ao43 y246.length co43)) = w45 at n0_ n1_ n2_ n3_ n4_ n5_ n6_ n7_ n8_ ⊢
              revert n0_ n1_ n2_ n3_ n4_ n5_ n6_ n7_ n8_
              intro HO_239000 HO_239004 HO243 HO248 BK229 BK230 BK231 BK238 HB
              have n0_ := am (Kd.R_drew HO_239000.out)
              have n1_ := am (Kd.R_drew HO_239004.out)
              have n2_ := am (Kd.R_drew HO243.out)
              have n3_ := am (Kd.R_drew HO248.out)
              have n4_ := am (blk_drew BK229.out)
              have n5_ := am (blk_drew BK230.out)
              have n6_ := am (blk_drew BK231.out)
              have n7_ := am (blk_drew BK238.out)
              have n8_ := am (below_drew1 HB.out)
              clear HO_239000 HO_239004 HO243 HO248 BK229 BK230 BK231 BK238 HB
              revert n0_ n1_ n2_ n3_ n4_ n5_ n6_ n7_ n8_
              intro HO_239000 HO_239004 HO243 HO248 BK229 BK230 BK231 BK238 HB
              have p249 : 0 ≤ (x6_1 : Int) := of_decide_eq_true (by first | (with_reducible assumption) | assumption)
              have q249 : x6_1 < (l0_4.length : Int) := of_decide_eq_true (by first | (with_reducible assumption) | assumption)
              obtain ⟨ad249, e249, hx249_0⟩ := Kd.at_int HR0_4.out x6_1 p249 q249
              have hw249_0 := hx249_0
              cases e249
              replace hx249_0 := (HB.out.cell (World.block_lt_of_cell? w _ hx249_0)).trans hx249_0
              replace p249 := eq_true p249
              replace q249 := eq_true q249
              have p250 : 0 ≤ (x6_1 : Int) := of_decide_eq_true (by first | (with_reducible assumption) | assumption)
              have q250 : x6_1 < (l1_4.length : Int) := of_decide_eq_true (by first | (with_reducible assumption) | assumption)
              obtain ⟨ad250, e250, hx250_0⟩ := Kd.at_int HR1_4.out x6_1 p250 q250
              have hw250_0 := hx250_0
              cases e250
              replace hx250_0 := (HB.out.cell (World.block_lt_of_cell? w _ hx250_0)).trans hx250_0
              replace p250 := eq_true p250
              replace q250 := eq_true q250
              refine start_ (n := 17) (S := fun w' => w'.cell? ⟨gb238, 0, none⟩ = some (.slice Ao14 y235.length co14) ∧ w'.cell? ⟨gb238, 1, none⟩ = some (.int .i64 (wrap64 (a0_1 + a1_1))) ∧ w'.cell? ⟨gb238, 2, none⟩ = some (.slice Ao38 y241.length co38) ∧ w'.cell? ⟨gb238, 3, none⟩ = some (.slice Ao43 y246.length co43) ∧ w'.cell? ⟨gb238, 4, none⟩ = some (u239004) ∧ w'.cell? ⟨gb229, 0, none⟩ = some (.slice A0_0 l0_0.length c0_0) ∧ w'.cell? ⟨gb229, 1, none⟩ = some (.int .i64 a0_1) ∧ w'.cell? ⟨gb229, 2, none⟩ = some (.slice (some ad239) l0_2.length c0_2) ∧ w'.cell? ⟨gb229, 3, none⟩ = some (.slice (some ad244) l0_3.length c0_3) ∧ w'.cell? ⟨gb229, 4, none⟩ = some (.slice (some ad249) l0_4.length c0_4) ∧ w'.cell? ⟨gb230, 0, none⟩ = some (.slice A1_0 l1_0.length c1_0) ∧ w'.cell? ⟨gb230, 1, none⟩ = some (.int .i64 a1_1) ∧ w'.cell? ⟨gb230, 2, none⟩ = some (.slice (some ad240) l1_2.length c1_2) ∧ w'.cell? ⟨gb230, 3, none⟩ = some (.slice (some ad245) l1_3.length c1_3) ∧ w'.cell? ⟨gb230, 4, none⟩ = some (.slice (some ad250) l1_4.length c1_4) ∧ w'.cell? (ad249.add (x6_1).toNat) = some (.int .i64 (rd l0_4 x6_1)) ∧ w'.cell? (ad250.add (x6_1).toNat) = some (.int .i64 (rd l1_4 x6_1))) (ds := [16]) (bb 17 0) (by kernel_rfl) rfl rfl ⟨bc BK238 0, bc BK238 1, bc BK238 2, bc BK238 3, bc BK238 4, bc BK229 0, bc BK229 1, bc BK229 2, bc BK229 3, bc BK229 4, bc BK230 0, bc BK230 1, bc BK230 2, bc BK230 3, bc BK230 4, ((HB.out.cell (World.block_lt_of_cell? w _ hw249_0)).trans hw249_0), ((HB.out.cell (World.block_lt_of_cell? w _ hw250_0)).trans hw250_0)⟩ (fun hHeld => ?_); refine with_tabW hypercuberef2_Join.tab7 hypercuberef2_Join.bits7 (fun HT_ HW_ => ?_)
              generalize w45.drew = w46 at HO_239000 HO_239004 HO243 HO248 BK229 BK230 BK231 BK238 HB hx249_0 hx250_0 hHeld ⊢
              refine pu (i := 0) (N := some 56) (bb 17 1) HT_ ?_
              refine pu (i := 2) (N := some 58) (bb 17 5) HT_ ?_
              refine pu (i := 4) (N := some 60) (bb 17 21) HT_ ?_
              refine pu (i := 7) (N := some 63) (bb 17 149) HT_ ?_
              refine pu (i := 9) (N := some 65) (bb 17 661) HT_ ?_
              refine tk (i := 1) (N := some 57) (bb 17 663) HT_ HW_ hHeld ?_
              refine tk (i := 3) (N := some 59) (bb 17 671) HT_ HW_ hHeld ?_
              refine pu (i := 5) (N := some 61) (bb 17 703) HT_ ?_
              refine tk (i := 6) (N := some 62) (bb 17 767) HT_ HW_ hHeld ?_
              refine tk (i := 8) (N := some 64) (bb 17 1023) HT_ HW_ hHeld ?_
              refine pu (i := 10) (N := some 66) (bb 17 2047) HT_ ?_
              refine tk (i := 11) (N := some 67) (bb 17 4095) HT_ HW_ hHeld ?_
              refine pu (i := 12) (N := some 68) (bb 17 8191) HT_ ?_
              refine one_ (i := 13) (N := some 69) (bb 17 16383) rfl rfl (one_of HT_.out (by kernel_rfl)) (by decide) (fun K hK => ?_)
              refine value_ (w1 := ?_) (v := ?_) (by rfl) rfl ?_ ?_
              rotate_left 2
              ·go_simp
               constructor
               ·rfl
               ·rfl
              refine hK.out _ _ ⟨(blk_cell (blk_alloc BK238.out _) 0).trans rfl, (blk_cell (blk_alloc BK238.out _) 1).trans rfl, (blk_cell (blk_alloc BK238.out _) 2).trans rfl, (blk_cell (blk_alloc BK238.out _) 3).trans rfl, (blk_cell (blk_alloc BK238.out _) 4).trans rfl, (blk_cell (blk_alloc BK229.out _) 0).trans rfl, (blk_cell (blk_alloc BK229.out _) 1).trans rfl, (blk_cell (blk_alloc BK229.out _) 2).trans rfl, (blk_cell (blk_alloc BK229.out _) 3).trans rfl, (blk_cell (blk_alloc BK229.out _) 4).trans rfl, (blk_cell (blk_alloc BK230.out _) 0).trans rfl, (blk_cell (blk_alloc BK230.out _) 1).trans rfl, (blk_cell (blk_alloc BK230.out _) 2).trans rfl, (blk_cell (blk_alloc BK230.out _) 3).trans rfl, (blk_cell (blk_alloc BK230.out _) 4).trans rfl, (World.cell?_alloc_lt _ _ _ (World.block_lt_of_cell? _ _ (((HB.out.cell (World.block_lt_of_cell? w _ hw249_0)).trans hw249_0)))).trans (((HB.out.cell (World.block_lt_of_cell? w _ hw249_0)).trans hw249_0)), (World.cell?_alloc_lt _ _ _ (World.block_lt_of_cell? _ _ (((HB.out.cell (World.block_lt_of_cell? w _ hw250_0)).trans hw250_0)))).trans (((HB.out.cell (World.block_lt_of_cell? w _ hw250_0)).trans hw250_0))⟩ (fun hHeld => ?_)
              clear hK K
              refine nm ?_
              refine one_ (i := 14) (N := some 70) (bb 17 32767) rfl rfl (one_of HT_.out (by kernel_rfl)) (by decide) (fun K hK => ?_)
              refine Kd.R_append_step (Kd.int .i64) (w0 := w) w.heap.size (by rfl) (.tmp 57) (.tmp 69) 22 3 (.int .i64 0) 8 rfl Try.underlying22 info3 rfl (by decide) (by omega) u239004 x239004_1 ji30 [.int .i64 ji30] (fun k_ => some k_ ≠ (.slice Ao14 y235.length co14 : Value).ownBlock ∧ some k_ ≠ (.slice Ao38 y241.length co38 : Value).ownBlock ∧ some k_ ≠ (.slice Ao43 y246.length co43 : Value).ownBlock) (fun _ => False) rfl rfl ?aP (fun _ hk => hk.elim) ?aF ?aO ?aB ?aS ?aL ?_
              (case aP => exact rfl)
              (case aB => exact (wmv HB.out))
              (case aF => exact (fun k_ hk => ⟨Kd.fresh' (Kd.R_lt (Kd.R_mv HO_239000.out)) k_ hk, Kd.fresh' (Kd.R_lt (Kd.R_mv HO243.out)) k_ hk, Kd.fresh' (Kd.R_lt (Kd.R_mv HO248.out)) k_ hk⟩))
              (case aO => exact (Kd.R_mv HO_239004.out))
              (case aS => exact (below_size (wmv HB.out)))
              (case aL => have := LMc31.out; omega)
              intro v252 w47 ho hb hg hat
              rw [← Ny251.out] at ho
              have n0_ := am (Kd.R_after (ok := (fun k_ => some k_ ≠ (.slice Ao38 y241.length co38 : Value).ownBlock ∧ some k_ ≠ (.slice Ao43 y246.length co43 : Value).ownBlock)) (Kd.R_mv (Kd.R_mono HO_239000.out (fun _ hk => ⟨⟨hk.2.1, hk.2.2⟩, hk.1⟩))) hg hat)
              have n1_ := am (blk_grown (bmv BK229.out) hg (Kd.R_ne HO_239004.out BK229.out (by decide)))
              have n2_ := am (blk_grown (bmv BK230.out) hg (Kd.R_ne HO_239004.out BK230.out (by decide)))
              have n3_ := am (blk_grown (bmv BK231.out) hg (Kd.R_ne HO_239004.out BK231.out (by decide)))
              have n4_ := am (blk_grown (bmv BK238.out) hg (Kd.R_ne HO_239004.out BK238.out (by decide)))
              have n5_ := am (Kd.R_after (ok := (fun k_ => some k_ ≠ (.slice Ao14 y235.length co14 : Value).ownBlock ∧ some k_ ≠ (.slice Ao43 y246.length co43 : Value).ownBlock)) (Kd.R_mv (Kd.R_mono HO243.out (fun _ hk => ⟨⟨hk.1, hk.2.2⟩, hk.2.1⟩))) hg hat)
              have n6_ := am (Kd.R_after (ok := (fun k_ => some k_ ≠ (.slice Ao14 y235.length co14 : Value).ownBlock ∧ some k_ ≠ (.slice Ao38 y241.length co38 : Value).ownBlock)) (Kd.R_mv (Kd.R_mono HO248.out (fun _ hk => ⟨⟨hk.1, hk.2.2⟩, hk.2.1⟩))) hg hat)
              have n7_ := am (hb)
              have n8_ := am (ho)
              clear HO_239000 BK229 BK230 BK231 BK238 HO243 HO248 HB HO_239004
              revert n0_ n1_ n2_ n3_ n4_ n5_ n6_ n7_ n8_
              intro HO_239000 BK229 BK230 BK231 BK238 HO243 HO248 HB HO253
              clear ho hb hg hat
              obtain ⟨Ao48, co48, eo48⟩ := Kd.R_slice HO253.out
              (first | subst eo48 | (injection eo48 with f1_ f2_ f3_; have f4_ := f1_.symm; have f5_ := f3_.symm; clear f1_ f2_ f3_; subst f4_; subst f5_))
              refine hK.out _ _ ⟨bc BK238 0, bc BK238 1, bc BK238 2, bc BK238 3, bc BK238 4, bc BK229 0, bc BK229 1, bc BK229 2, bc BK229 3, bc BK229 4, bc BK230 0, bc BK230 1, bc BK230 2, bc BK230 3, bc BK230 4, ((HB.out.cell (World.block_lt_of_cell? w _ hw249_0)).trans hw249_0), ((HB.out.cell (World.block_lt_of_cell? w _ hw250_0)).trans hw250_0)⟩ (fun hHeld => ?_)
              clear hK K
              refine nm ?_
              refine pu (i := 15) (N := some 71) (bb 17 65535) HT_ ?_
              refine last_ (i := 16) (N := none) (bb 17 131071) rfl rfl (one_of HT_.out (by kernel_rfl)) (by decide) (fun K hK => ?_)
              have hs49 : w47.cell? ⟨gb238, 4, none⟩ = some (u239004) := (blk_cell BK238.out 4).trans rfl
              have hfs49 := blk_frozen BK238.out 4
              have hns49_0 := NB229_238.out
              have hns49_1 := NB230_238.out
              have hns49_2 := NB231_238.out
              have hms49_0 := NB238_229.out
              have hms49_1 := NB238_230.out
              have hms49_2 := NB238_231.out
              refine skip_ (w1 := ?_) (by rfl) rfl ?_ ?_
              rotate_left
              ·go_simp
               rfl
              refine hK.out _ _ ?_
              clear hK K
              refine done_ (done_of HT_.out (by kernel_rfl)) ?_
              try go_wp2
              go_roundg k1
              case measure => have := HK1.out; omega
              case rel => exact ⟨(wrap64 (x6_1 + 1)), (y241), (y246), (y251), (.slice Ao38 y241.length co38), (.slice Ao43 y246.length co43), (.slice Ao48 y251.length co48), (by first | rfl | (simp; done) | (simp [*]; done)), H', ⟨by have := HK1.out; omega⟩, ⟨by (with_reducible repeat (first | apply Kd.R_alloc | apply Kd.R_drewN | apply Kd.R_drew)); exact Kd.R_mono (Kd.R_far (p := ⟨gb238, 4, none⟩) (Kd.R_types HO_239000.out BK238.out (by decide)) (fun _ hk => hk.2) (.slice Ao48 y251.length co48)) (fun _ hk => ⟨hk.1.1.1, ⟨hk.1.1.2, hk.1.2⟩⟩)⟩, ⟨by (with_reducible repeat (first | apply Kd.R_alloc | apply Kd.R_drewN | apply Kd.R_drew)); exact Kd.R_mono (Kd.R_far (p := ⟨gb238, 4, none⟩) (Kd.R_types HO243.out BK238.out (by decide)) (fun _ hk => hk.2) (.slice Ao48 y251.length co48)) (fun _ hk => ⟨hk.1.1.1, ⟨hk.1.1.2, hk.1.2⟩⟩)⟩, ⟨by (with_reducible repeat (first | apply Kd.R_alloc | apply Kd.R_drewN | apply Kd.R_drew)); exact Kd.R_mono (Kd.R_far (p := ⟨gb238, 4, none⟩) (Kd.R_types HO248.out BK238.out (by decide)) (fun _ hk => hk.2) (.slice Ao48 y251.length co48)) (fun _ hk => ⟨hk.1.1.1, ⟨hk.1.1.2, hk.1.2⟩⟩)⟩, ⟨by (with_reducible repeat (first | apply Kd.R_alloc | apply Kd.R_drewN | apply Kd.R_drew)); exact Kd.R_mono (Kd.R_far (p := ⟨gb238, 4, none⟩) (Kd.R_types HO253.out BK238.out (by decide)) (fun _ hk => hk.2) (.slice Ao48 y251.length co48)) (fun _ hk => ⟨hk.1.1, ⟨hk.1.2.1, hk.1.2.2⟩⟩)⟩, ⟨by (with_reducible repeat (first | refine blk_drewN ?_ _ | refine blk_drew ?_ | refine blk_alloc ?_ _)); refine blk_far ?_ NB229_238.out _; (with_reducible repeat (first | refine blk_drewN ?_ _ | refine blk_drew ?_ | refine blk_alloc ?_ _)); exact BK229.out⟩, ⟨by (with_reducible repeat (first | refine blk_drewN ?_ _ | refine blk_drew ?_ | refine blk_alloc ?_ _)); refine blk_far ?_ NB230_238.out _; (with_reducible repeat (first | refine blk_drewN ?_ _ | refine blk_drew ?_ | refine blk_alloc ?_ _)); exact BK230.out⟩, ⟨by (with_reducible repeat (first | refine blk_drewN ?_ _ | refine blk_drew ?_ | refine blk_alloc ?_ _)); refine blk_far ?_ NB231_238.out _; (with_reducible repeat (first | refine blk_drewN ?_ _ | refine blk_drew ?_ | refine blk_alloc ?_ _)); exact BK231.out⟩, ⟨by (with_reducible repeat (first | refine blk_drewN ?_ _ | refine blk_drew ?_ | refine blk_alloc ?_ _)); refine blk_put (cs := #[.slice Ao14 y235.length co14, .int .i64 (wrap64 (a0_1 + a1_1)), .slice Ao38 y241.length co38, .slice Ao43 y246.length co43, u239004]) ?_ 4 _ rfl; (with_reducible repeat (first | refine blk_drewN ?_ _ | refine blk_drew ?_ | refine blk_alloc ?_ _)); exact BK238.out⟩, ⟨by repeat (first | (with_reducible first | exact HB.out | apply below_alloc | apply pw_below_drewN | apply below_drew1 | refine below_set ?_ GE229.out | refine below_set ?_ GE230.out | refine below_set ?_ GE231.out | refine below_set ?_ GE238.out) | exact HB.out)⟩⟩
             ·rw [if_neg c31] at H
              exact absurd H (by simp)
            ·rw [if_neg c29] at H
             exact absurd H (by simp)
           ·rw [if_neg c28] at H
            exact absurd H (by simp)
          ·rw [if_neg c27] at H
           exact absurd H (by simp)
         ·rw [if_neg c25] at H
          exact absurd H (by simp)
        ·rw [if_neg c24] at H
         exact absurd H (by simp)
       ·rw [if_neg c23] at H
        exact absurd H (by simp)
      ·rw [if_neg c22] at H
       exact absurd H (by simp)
     ·rw [if_neg c21] at H
      exact absurd H (by simp)
    ·rw [if_neg c20] at H
     have c20b0 : decide (x6_1 < (l0_2.length : Int)) = false := decide_eq_false c20
     clear c20
     simp only [Option.some.injEq, Prod.mk.injEq] at H
     obtain ⟨rfl, rfl, rfl, rfl, rfl⟩ := H
     have hnb50 := NB229_230.out
     have hnc50 := NB230_229.out
     have hnb51 := NB229_231.out
     have hnc51 := NB231_229.out
     have hnb52 := NB229_238.out
     have hnc52 := NB238_229.out
     have hcz53_0 : wr.cell? ⟨gb229, 0, none⟩ = some (.slice A0_0 l0_0.length c0_0) := (blk_cell BK229.out 0).trans rfl
     have hcz53_1 : wr.cell? ⟨gb229, 1, none⟩ = some (.int .i64 a0_1) := (blk_cell BK229.out 1).trans rfl
     have hcz53_2 : wr.cell? ⟨gb229, 2, none⟩ = some (.slice A0_2 l0_2.length c0_2) := (blk_cell BK229.out 2).trans rfl
     have hcz53_3 : wr.cell? ⟨gb229, 3, none⟩ = some (.slice A0_3 l0_3.length c0_3) := (blk_cell BK229.out 3).trans rfl
     have hcz53_4 : wr.cell? ⟨gb229, 4, none⟩ = some (.slice A0_4 l0_4.length c0_4) := (blk_cell BK229.out 4).trans rfl
     have hfz53_0 := blk_frozen BK229.out 0
     have hfz53_1 := blk_frozen BK229.out 1
     have hfz53_2 := blk_frozen BK229.out 2
     have hfz53_3 := blk_frozen BK229.out 3
     have hfz53_4 := blk_frozen BK229.out 4
     have hnb54 := NB238_230.out
     have hnc54 := NB230_238.out
     have hnb55 := NB238_231.out
     have hnc55 := NB231_238.out
     have hcz56_0 : wr.cell? ⟨gb238, 0, none⟩ = some (.slice Ao14 y235.length co14) := (blk_cell BK238.out 0).trans rfl
     have hcz56_1 : wr.cell? ⟨gb238, 1, none⟩ = some (.int .i64 (wrap64 (a0_1 + a1_1))) := (blk_cell BK238.out 1).trans rfl
     have hcz56_2 : wr.cell? ⟨gb238, 2, none⟩ = some (u239002) := (blk_cell BK238.out 2).trans rfl
     have hcz56_3 : wr.cell? ⟨gb238, 3, none⟩ = some (u239003) := (blk_cell BK238.out 3).trans rfl
     have hcz56_4 : wr.cell? ⟨gb238, 4, none⟩ = some (u239004) := (blk_cell BK238.out 4).trans rfl
     have hfz56_0 := blk_frozen BK238.out 0
     have hfz56_1 := blk_frozen BK238.out 1
     have hfz56_2 := blk_frozen BK238.out 2
     have hfz56_3 := blk_frozen BK238.out 3
     have hfz56_4 := blk_frozen BK238.out 4
     have hnb57 := NB231_230.out
     have hnc57 := NB230_231.out
     have hcz58_0 : wr.cell? ⟨gb231, 0, none⟩ = some (.slice none 0 0) := (blk_cell BK231.out 0).trans rfl
     have hcz58_1 : wr.cell? ⟨gb231, 1, none⟩ = some (.int .i64 0) := (blk_cell BK231.out 1).trans rfl
     have hcz58_2 : wr.cell? ⟨gb231, 2, none⟩ = some (.slice none 0 0) := (blk_cell BK231.out 2).trans rfl
     have hcz58_3 : wr.cell? ⟨gb231, 3, none⟩ = some (.slice none 0 0) := (blk_cell BK231.out 3).trans rfl
     have hcz58_4 : wr.cell? ⟨gb231, 4, none⟩ = some (.slice none 0 0) := (blk_cell BK231.out 4).trans rfl
     have hfz58_0 := blk_frozen BK231.out 0
     have hfz58_1 := blk_frozen BK231.out 1
     have hfz58_2 := blk_frozen BK231.out 2
     have hfz58_3 := blk_frozen BK231.out 3
     have hfz58_4 := blk_frozen BK231.out 4
     obtain ⟨Ao59, co59, eo59⟩ := Kd.R_slice HO_239002.out
     subst eo59
     obtain ⟨Ao60, co60, eo60⟩ := Kd.R_slice HO_239003.out
     subst eo60
     obtain ⟨Ao61, co61, eo61⟩ := Kd.R_slice HO_239004.out
     subst eo61
     go_wp2
     refine bodyPost_ret (results_cell_row rfl _ _ gb231 44 #[.slice Ao14 y235.length co14, .int .i64 (wrap64 (a0_1 + a1_1)), .slice Ao59 x239002_1.length co59, .slice Ao60 x239003_1.length co60, .slice Ao61 x239004_1.length co61] (0, 0) _ rfl (by (with_reducible repeat (first | refine blk_drewN ?_ _ | refine blk_drew ?_ | refine blk_alloc ?_ _)); refine blk_put (cs := #[.slice Ao14 y235.length co14, .int .i64 (wrap64 (a0_1 + a1_1)), .slice Ao59 x239002_1.length co59, .slice Ao60 x239003_1.length co60, .slice none 0 0]) ?_ 4 _ rfl; (with_reducible repeat (first | refine blk_drewN ?_ _ | refine blk_drew ?_ | refine blk_alloc ?_ _)); refine blk_put (cs := #[.slice Ao14 y235.length co14, .int .i64 (wrap64 (a0_1 + a1_1)), .slice Ao59 x239002_1.length co59, .slice none 0 0, .slice none 0 0]) ?_ 3 _ rfl; (with_reducible repeat (first | refine blk_drewN ?_ _ | refine blk_drew ?_ | refine blk_alloc ?_ _)); refine blk_put (cs := #[.slice Ao14 y235.length co14, .int .i64 (wrap64 (a0_1 + a1_1)), .slice none 0 0, .slice none 0 0, .slice none 0 0]) ?_ 2 _ rfl; (with_reducible repeat (first | refine blk_drewN ?_ _ | refine blk_drew ?_ | refine blk_alloc ?_ _)); refine blk_put (cs := #[.slice Ao14 y235.length co14, .int .i64 0, .slice none 0 0, .slice none 0 0, .slice none 0 0]) ?_ 1 _ rfl; (with_reducible repeat (first | refine blk_drewN ?_ _ | refine blk_drew ?_ | refine blk_alloc ?_ _)); refine blk_put (cs := #[.slice none 0 0, .int .i64 0, .slice none 0 0, .slice none 0 0, .slice none 0 0]) ?_ 0 _ rfl; (with_reducible repeat (first | refine blk_drewN ?_ _ | refine blk_drew ?_ | refine blk_alloc ?_ _)); exact BK231.out) Try.underlying44 rfl (by kernel_rfl)) rfl ?_
     exact ⟨_, _, _, _, by first | rfl | (simp [errW_none, errW_some] <;> rfl) | (simp [*, errW_none, errW_some] <;> rfl), by (with_reducible repeat (first | apply Kd.R_alloc | apply Kd.R_drewN | apply Kd.R_drew)); exact Kd.R_mono (Kd.R_far (p := ⟨gb231, 4, none⟩) (Kd.R_far (p := ⟨gb231, 3, none⟩) (Kd.R_far (p := ⟨gb231, 2, none⟩) (Kd.R_far (p := ⟨gb231, 1, none⟩) (Kd.R_far (p := ⟨gb231, 0, none⟩) (Kd.R_types HO_239000.out BK231.out (by decide)) (fun _ hk => hk.2) (.slice Ao14 y235.length co14)) (fun _ hk => hk.2) (.int .i64 (wrap64 (a0_1 + a1_1)))) (fun _ hk => hk.2) (.slice Ao59 x239002_1.length co59)) (fun _ hk => hk.2) (.slice Ao60 x239003_1.length co60)) (fun _ hk => hk.2) (.slice Ao61 x239004_1.length co61)) (fun _ hk => ⟨hk.1.1, ⟨hk.1.2.1, hk.1.2.2⟩⟩), by (with_reducible repeat (first | apply Kd.R_alloc | apply Kd.R_drewN | apply Kd.R_drew)); exact Kd.R_mono (Kd.R_far (p := ⟨gb231, 4, none⟩) (Kd.R_far (p := ⟨gb231, 3, none⟩) (Kd.R_far (p := ⟨gb231, 2, none⟩) (Kd.R_far (p := ⟨gb231, 1, none⟩) (Kd.R_far (p := ⟨gb231, 0, none⟩) (Kd.R_types HO_239002.out BK231.out (by decide)) (fun _ hk => hk.2) (.slice Ao14 y235.length co14)) (fun _ hk => hk.2) (.int .i64 (wrap64 (a0_1 + a1_1)))) (fun _ hk => hk.2) (.slice Ao59 x239002_1.length co59)) (fun _ hk => hk.2) (.slice Ao60 x239003_1.length co60)) (fun _ hk => hk.2) (.slice Ao61 x239004_1.length co61)) (fun _ hk => ⟨hk.1.1, ⟨hk.1.2.1, hk.1.2.2⟩⟩), by (with_reducible repeat (first | apply Kd.R_alloc | apply Kd.R_drewN | apply Kd.R_drew)); exact Kd.R_mono (Kd.R_far (p := ⟨gb231, 4, none⟩) (Kd.R_far (p := ⟨gb231, 3, none⟩) (Kd.R_far (p := ⟨gb231, 2, none⟩) (Kd.R_far (p := ⟨gb231, 1, none⟩) (Kd.R_far (p := ⟨gb231, 0, none⟩) (Kd.R_types HO_239003.out BK231.out (by decide)) (fun _ hk => hk.2) (.slice Ao14 y235.length co14)) (fun _ hk => hk.2) (.int .i64 (wrap64 (a0_1 + a1_1)))) (fun _ hk => hk.2) (.slice Ao59 x239002_1.length co59)) (fun _ hk => hk.2) (.slice Ao60 x239003_1.length co60)) (fun _ hk => hk.2) (.slice Ao61 x239004_1.length co61)) (fun _ hk => ⟨hk.1.1, ⟨hk.1.2.1, hk.1.2.2⟩⟩), by (with_reducible repeat (first | apply Kd.R_alloc | apply Kd.R_drewN | apply Kd.R_drew)); exact Kd.R_mono (Kd.R_far (p := ⟨gb231, 4, none⟩) (Kd.R_far (p := ⟨gb231, 3, none⟩) (Kd.R_far (p := ⟨gb231, 2, none⟩) (Kd.R_far (p := ⟨gb231, 1, none⟩) (Kd.R_far (p := ⟨gb231, 0, none⟩) (Kd.R_types HO_239004.out BK231.out (by decide)) (fun _ hk => hk.2) (.slice Ao14 y235.length co14)) (fun _ hk => hk.2) (.int .i64 (wrap64 (a0_1 + a1_1)))) (fun _ hk => hk.2) (.slice Ao59 x239002_1.length co59)) (fun _ hk => hk.2) (.slice Ao60 x239003_1.length co60)) (fun _ hk => hk.2) (.slice Ao61 x239004_1.length co61)) (fun _ hk => ⟨hk.1.1, ⟨hk.1.2.1, hk.1.2.2⟩⟩), by repeat (first | (with_reducible first | exact HB.out | apply below_alloc | apply pw_below_drewN | apply below_drew1 | refine below_set ?_ GE229.out | refine below_set ?_ GE230.out | refine below_set ?_ GE231.out | refine below_set ?_ GE238.out) | exact HB.out)⟩
 ·rw [if_neg c3] at H
  exact absurd H (by simp)
def hypercuberef2_Of.l0 : Nat → Int → Int → List Int → List Int → List Int → Int → Option (List Int × Int × List Int × List Int × List Int)
 | 0, _, _, _, _, _, _ => none
 | k + 1, x1, x6, x336000, x336001, x338000, x338001 => if x6 < (x336000.length : Int) then (if 0 ≤ (IntKind.u64.wrap (x6)) then (if (Go.bits .and .i64 (shr .i64 x1 (IntKind.u64.wrap (x6))) 1) = 1 then (if 0 ≤ x6 then (if x338000.length < 17592186044416 then (hypercuberef2_Of.l0 k x1 (wrap64 (x6 + 1)) x336000 x336001 (x338000 ++ [rd x336000 x6]) x338001) else (none)) else (none)) else (hypercuberef2_Of.l0 k x1 (wrap64 (x6 + 1)) x336000 x336001 x338000 x338001)) else (none)) else ((some (([] : List Int) : List Int)).bind fun y342 => (if y342.length + x336001.length < 17592186044416 then ((some (([] : List Int) : List Int)).bind fun y348 => (if y348.length + x336001.length < 17592186044416 then ((some (([] : List Int) : List Int)).bind fun y354 => (if y354.length + x336001.length < 17592186044416 then (some (x338000, x338001, (y342 ++ x336001), (y348 ++ x336001), (y354 ++ x336001))) else (none))) else (none))) else (none)))
def hypercuberef2_Of.f (k : Nat) (l0_0 : List Int) (l0_1 : List Int) (a1 : Int) : Option (List Int × Int × List Int × List Int × List Int) := hypercuberef2_Of.l0 k a1 0 l0_0 l0_1 ([] : List Int) 1
def hypercuberef2_Of.T6 : Bool × List (List Nat × List Nat) := (true, [([], []), ([0], [0]), ([], []), ([2], [2]), ([], []), ([3, 4], [3, 4]), ([5], [5]), ([6], [6]), ([1, 7], [1, 7]), ([0, 1, 2, 3, 4, 5, 6, 7, 8], []), ([9, 8, 8, 0, 1, 2, 3, 4, 5, 6, 7, 8], [8, 9])])
def hypercuberef2_Of.B6 : List Nat := [0, 1, 0, 4, 0, 28, 60, 124, 255, 511, 1023]
theorem hypercuberef2_Of.tab6 : rtab .any (opsOf Try.f31 6) = hypercuberef2_Of.T6 := by kernel_rfl
theorem hypercuberef2_Of.bits6 : waitsOk hypercuberef2_Of.T6.2 hypercuberef2_Of.B6 = true := by kernel_rfl
set_option maxHeartbeats 8000000 in
set_option maxRecDepth 100000 in
theorem hypercuberef2_Of.calls (k : Nat) (A0_0 : Option Addr) (c0_0 : Nat) (l0_0 : List Int) (A0_1 : Option Addr) (c0_1 : Nat) (l0_1 : List Int) (a1 : Int) (r1 : List Int) (r2 : Int) (r3 : List Int) (r4 : List Int) (r5 : List Int) (w : World) (hr0_0 : Kd.C (Kd.int .i64) w A0_0 l0_0.length l0_0) (hc0_0 : l0_0.length ≤ c0_0) (hr0_1 : Kd.C (Kd.int .i64) w A0_1 l0_1.length l0_1) (hc0_1 : l0_1.length ≤ c0_1) (h : hypercuberef2_Of.f k l0_0 l0_1 a1 = some (r1, r2, r3, r4, r5)) :
  Calls Try.prog 31 #[.agg #[.slice A0_0 l0_0.length c0_0, .slice A0_1 l0_1.length c0_1], .int .i64 a1] w fun e w' => ∃ v0_ v2_ v3_ v4_ : Value, e = .returned (.agg #[v0_, .int .i64 r2, v2_, v3_, v4_]) ∧ Kd.R (Kd.int .i64) 3 w' w.heap.size (fun k_ => some k_ ≠ (v2_ : Value).ownBlock ∧ some k_ ≠ (v3_ : Value).ownBlock ∧ some k_ ≠ (v4_ : Value).ownBlock) v0_ r1 ∧ Kd.R (Kd.int .i64) 3 w' w.heap.size (fun k_ => some k_ ≠ (v0_ : Value).ownBlock ∧ some k_ ≠ (v3_ : Value).ownBlock ∧ some k_ ≠ (v4_ : Value).ownBlock) v2_ r3 ∧ Kd.R (Kd.int .i64) 3 w' w.heap.size (fun k_ => some k_ ≠ (v0_ : Value).ownBlock ∧ some k_ ≠ (v2_ : Value).ownBlock ∧ some k_ ≠ (v4_ : Value).ownBlock) v3_ r4 ∧ Kd.R (Kd.int .i64) 3 w' w.heap.size (fun k_ => some k_ ≠ (v0_ : Value).ownBlock ∧ some k_ ≠ (v2_ : Value).ownBlock ∧ some k_ ≠ (v3_ : Value).ownBlock) v4_ r5 ∧ Below w.heap.size w w' := by
 have hu51 := Try.underlying51
 have hu44 := Try.underlying44
 have HR0_0 := am hr0_0
 have HC0_0 := am hc0_0
 clear hr0_0 hc0_0
 have HR0_1 := am hr0_1
 have HC0_1 := am hc0_1
 clear hr0_1 hc0_1
 have HB := am (Below.refl w.heap.size w)
 have H : (hypercuberef2_Of.l0 k a1 0 l0_0 l0_1 ([] : List Int) 1) = some (r1, r2, r3, r4, r5) := h
 clear h
 have H' := am H
 clear H
 go_enter Try.func31, Try.ntmps31
 go_wp2_with (first | ((with_reducible refine gate_dst (N := 2) rfl ?_); refine box_event ?hg (N := 2) ?hd (cs := #[.slice A0_0 l0_0.length c0_0, .slice A0_1 l0_1.length c0_1]) (t := 51) ?hr ?_; (case hd => rfl); (case hg => rfl); (case hr => first | (go_simp; done) | (go_simp; rfl)); intro gb335 hg w3 hbox hb; have n0_ := am (below_step (wmv HB.out) hb); have n1_ := am (hbox); have n2_ := am ((by rw [hg]; exact (below_size (wmv HB.out)) : w.heap.size ≤ gb335)); have n3_ := am ((by rw [hg]; exact (below_size (wmv HB.out)) : w.heap.size ≤ gb335)); clear HB; revert n0_ n1_ n2_ n3_; intro HB BK335 GW335 GE335; clear hb hbox hg) | ((with_reducible refine gate_dst (N := 4) rfl ?_); refine box_event ?hg (N := 4) ?hd (cs := #[.slice none 0 0, .int .i64 0, .slice none 0 0, .slice none 0 0, .slice none 0 0]) (t := 44) ?hr ?_; (case hd => rfl); (case hg => rfl); (case hr => first | (go_simp; done) | (go_simp; rfl)); intro gb336 hg w4 hbox hb; have n0_ := am (blk_below (bmv BK335.out) hb); have n1_ := am (below_step (wmv HB.out) hb); have n2_ := am (hbox); have n3_ := am ((by rw [hg]; exact (below_size (wmv HB.out)) : w.heap.size ≤ gb336)); have n4_ := am ((by rw [hg]; exact (below_size (wmv HB.out)) : w.heap.size ≤ gb336)); have n5_ := am ((by rw [hg]; exact Nat.ne_of_lt (blk_lt (bmv BK335.out)) : gb335 ≠ gb336)); have n6_ := am ((by rw [hg]; exact Nat.ne_of_gt (blk_lt (bmv BK335.out)) : gb336 ≠ gb335)); clear BK335 HB; revert n0_ n1_ n2_ n3_ n4_ n5_ n6_; intro BK335 HB BK336 GW336 GE336 NB335_336 NB336_335; clear hb hbox hg) | ((with_reducible refine gate_dst (N := 5) rfl ?_); refine box_event ?hg (N := 5) ?hd (cs := #[.slice none 0 0, .int .i64 0, .slice none 0 0, .slice none 0 0, .slice none 0 0]) (t := 44) ?hr ?_; (case hd => rfl); (case hg => rfl); (case hr => first | (go_simp; done) | (go_simp; rfl)); intro gb337 hg w5 hbox hb; have n0_ := am (blk_below (bmv BK335.out) hb); have n1_ := am (blk_below (bmv BK336.out) hb); have n2_ := am (below_step (wmv HB.out) hb); have n3_ := am (hbox); have n4_ := am ((by rw [hg]; exact (below_size (wmv HB.out)) : w.heap.size ≤ gb337)); have n5_ := am ((by rw [hg]; exact (below_size (wmv HB.out)) : w.heap.size ≤ gb337)); have n6_ := am ((by rw [hg]; exact Nat.ne_of_lt (blk_lt (bmv BK335.out)) : gb335 ≠ gb337)); have n7_ := am ((by rw [hg]; exact Nat.ne_of_gt (blk_lt (bmv BK335.out)) : gb337 ≠ gb335)); have n8_ := am ((by rw [hg]; exact Nat.ne_of_lt (blk_lt (bmv BK336.out)) : gb336 ≠ gb337)); have n9_ := am ((by rw [hg]; exact Nat.ne_of_gt (blk_lt (bmv BK336.out)) : gb337 ≠ gb336)); clear BK335 BK336 HB; revert n0_ n1_ n2_ n3_ n4_ n5_ n6_ n7_ n8_ n9_; intro BK335 BK336 HB BK337 GW337 GE337 NB335_337 NB337_335 NB336_337 NB337_336; clear hb hbox hg; have hnb6 := NB337_335.out; have hnc6 := NB335_337.out; have hnb7 := NB337_336.out; have hnc7 := NB336_337.out; have hcz8_0 : w5.cell? ⟨gb337, 0, none⟩ = some (.slice none 0 0) := (blk_cell BK337.out 0).trans rfl; have hcz8_1 : w5.cell? ⟨gb337, 1, none⟩ = some (.int .i64 0) := (blk_cell BK337.out 1).trans rfl; have hcz8_2 : w5.cell? ⟨gb337, 2, none⟩ = some (.slice none 0 0) := (blk_cell BK337.out 2).trans rfl; have hcz8_3 : w5.cell? ⟨gb337, 3, none⟩ = some (.slice none 0 0) := (blk_cell BK337.out 3).trans rfl; have hcz8_4 : w5.cell? ⟨gb337, 4, none⟩ = some (.slice none 0 0) := (blk_cell BK337.out 4).trans rfl; have hfz8_0 := blk_frozen BK337.out 0; have hfz8_1 := blk_frozen BK337.out 1; have hfz8_2 := blk_frozen BK337.out 2; have hfz8_3 := blk_frozen BK337.out 3; have hfz8_4 := blk_frozen BK337.out 4))
 go_loopg [6] k (fun kq v6 w' => ∃ (x6_1 : Int) (x338000_1 : List Int) (u338000 : Value), v6 = .int .i64 x6_1 ∧ Aside0 (hypercuberef2_Of.l0 kq a1 x6_1 l0_0 l0_1 x338000_1 1 = some (r1, r2, r3, r4, r5)) ∧ Aside0 (kq ≤ k) ∧ Aside0 (Kd.R (Kd.int .i64) 3 w' w.heap.size (fun _ => True) u338000 x338000_1) ∧ Aside0 (w'.heap[gb335]? = some (.cells #[(.slice A0_0 l0_0.length c0_0), (.slice A0_1 l0_1.length c0_1)] 51 (0, 0))) ∧ Aside0 (w'.heap[gb336]? = some (.cells #[(.slice none 0 0), .int .i64 0, (.slice none 0 0), (.slice none 0 0), (.slice none 0 0)] 44 (0, 0))) ∧ Aside0 (w'.heap[gb337]? = some (.cells #[u338000, .int .i64 1, (.slice none 0 0), (.slice none 0 0), (.slice none 0 0)] 44 (0, 0))) ∧ Aside0 (Below w.heap.size w w'))
 case atStart => exact ⟨(0), (([] : List Int)), (.slice none 0 0), (by first | rfl | (simp; done) | (simp [*]; done)), H', ⟨Nat.le_refl _⟩, ⟨by first | exact Kd.R_nil _ _ _ _ _ | exact Kd.N_nil _ _ _ _ _ | exact Kd.V_nil _ _ _ _ _ | exact Kd.Q_nil _ _ _ _ _ | exact Kd.S_nil _ _ _ _ _⟩, ⟨by (with_reducible repeat (first | refine blk_drewN ?_ _ | refine blk_drew ?_ | refine blk_alloc ?_ _)); refine blk_far ?_ NB335_337.out _; (with_reducible repeat (first | refine blk_drewN ?_ _ | refine blk_drew ?_ | refine blk_alloc ?_ _)); refine blk_far ?_ NB335_337.out _; (with_reducible repeat (first | refine blk_drewN ?_ _ | refine blk_drew ?_ | refine blk_alloc ?_ _)); refine blk_far ?_ NB335_337.out _; (with_reducible repeat (first | refine blk_drewN ?_ _ | refine blk_drew ?_ | refine blk_alloc ?_ _)); refine blk_far ?_ NB335_337.out _; (with_reducible repeat (first | refine blk_drewN ?_ _ | refine blk_drew ?_ | refine blk_alloc ?_ _)); refine blk_far ?_ NB335_337.out _; (with_reducible repeat (first | refine blk_drewN ?_ _ | refine blk_drew ?_ | refine blk_alloc ?_ _)); exact BK335.out⟩, ⟨by (with_reducible repeat (first | refine blk_drewN ?_ _ | refine blk_drew ?_ | refine blk_alloc ?_ _)); refine blk_far ?_ NB336_337.out _; (with_reducible repeat (first | refine blk_drewN ?_ _ | refine blk_drew ?_ | refine blk_alloc ?_ _)); refine blk_far ?_ NB336_337.out _; (with_reducible repeat (first | refine blk_drewN ?_ _ | refine blk_drew ?_ | refine blk_alloc ?_ _)); refine blk_far ?_ NB336_337.out _; (with_reducible repeat (first | refine blk_drewN ?_ _ | refine blk_drew ?_ | refine blk_alloc ?_ _)); refine blk_far ?_ NB336_337.out _; (with_reducible repeat (first | refine blk_drewN ?_ _ | refine blk_drew ?_ | refine blk_alloc ?_ _)); refine blk_far ?_ NB336_337.out _; (with_reducible repeat (first | refine blk_drewN ?_ _ | refine blk_drew ?_ | refine blk_alloc ?_ _)); exact BK336.out⟩, ⟨by (with_reducible repeat (first | refine blk_drewN ?_ _ | refine blk_drew ?_ | refine blk_alloc ?_ _)); refine blk_put (cs := #[.slice none 0 0, .int .i64 1, .slice none 0 0, .slice none 0 0, .slice none 0 0]) ?_ 4 _ rfl; (with_reducible repeat (first | refine blk_drewN ?_ _ | refine blk_drew ?_ | refine blk_alloc ?_ _)); refine blk_put (cs := #[.slice none 0 0, .int .i64 1, .slice none 0 0, .slice none 0 0, .slice none 0 0]) ?_ 3 _ rfl; (with_reducible repeat (first | refine blk_drewN ?_ _ | refine blk_drew ?_ | refine blk_alloc ?_ _)); refine blk_put (cs := #[.slice none 0 0, .int .i64 1, .slice none 0 0, .slice none 0 0, .slice none 0 0]) ?_ 2 _ rfl; (with_reducible repeat (first | refine blk_drewN ?_ _ | refine blk_drew ?_ | refine blk_alloc ?_ _)); refine blk_put (cs := #[.slice none 0 0, .int .i64 0, .slice none 0 0, .slice none 0 0, .slice none 0 0]) ?_ 1 _ rfl; (with_reducible repeat (first | refine blk_drewN ?_ _ | refine blk_drew ?_ | refine blk_alloc ?_ _)); refine blk_put (cs := #[.slice none 0 0, .int .i64 0, .slice none 0 0, .slice none 0 0, .slice none 0 0]) ?_ 0 _ rfl; (with_reducible repeat (first | refine blk_drewN ?_ _ | refine blk_drew ?_ | refine blk_alloc ?_ _)); exact BK337.out⟩, ⟨by repeat (first | (with_reducible first | exact HB.out | apply below_alloc | apply pw_below_drewN | apply below_drew1 | refine below_set ?_ GE335.out | refine below_set ?_ GE336.out | refine below_set ?_ GE337.out) | exact HB.out)⟩⟩
 case round =>
  clear H'
  try clear p2
  try clear c3
  try clear c6
  try clear c7
  try clear hcz8_0
  try clear hcz8_1
  try clear hcz8_2
  try clear hcz8_3
  try clear hcz8_4
  try clear hfz8_0
  try clear hfz8_1
  try clear hfz8_2
  try clear hfz8_3
  try clear hfz8_4
  obtain ⟨x6_1, x338000_1, u338000, rfl, HA, HK1, HO_338000, BK335, BK336, BK337, HB⟩ := hrel
  cases gk with
  | zero => exact absurd HA.out (by simp [hypercuberef2_Of.l0])
  | succ k1 =>
   have H := HA.out
   clear HA
   simp only [hypercuberef2_Of.l0] at H
   by_cases c9 : x6_1 < (l0_0.length : Int)
   ·rw [if_pos c9] at H
    have c9b0 : decide (x6_1 < (l0_0.length : Int)) = true := decide_eq_true c9
    clear c9
    obtain ⟨ji10, hji10⟩ : ∃ j_ : Int, (IntKind.u64.wrap (x6_1)) = j_ := ⟨_, rfl⟩
    replace H : (if 0 ≤ (ji10) then (if (Go.bits .and .i64 (shr .i64 a1 (ji10)) 1) = 1 then (if 0 ≤ x6_1 then (if x338000_1.length < 17592186044416 then (hypercuberef2_Of.l0 k1 a1 (wrap64 (x6_1 + 1)) l0_0 l0_1 (x338000_1 ++ [rd l0_0 x6_1]) 1) else (none)) else (none)) else (hypercuberef2_Of.l0 k1 a1 (wrap64 (x6_1 + 1)) l0_0 l0_1 x338000_1 1)) else (none)) = some (r1, r2, r3, r4, r5) := by first | (rw [hji10] at H; exact H) | (simp only [hji10] at H ⊢; exact H)
    by_cases c11 : 0 ≤ (ji10)
    ·rw [if_pos c11] at H
     have c11b0 := eq_true c11
     have c11b1 : decide (0 ≤ (ji10)) = true := decide_eq_true c11
     clear c11
     obtain ⟨ji12, hji12⟩ : ∃ j_ : Int, (shr .i64 a1 (ji10)) = j_ := ⟨_, rfl⟩
     replace H : (if (Go.bits .and .i64 (ji12) 1) = 1 then (if 0 ≤ x6_1 then (if x338000_1.length < 17592186044416 then (hypercuberef2_Of.l0 k1 a1 (wrap64 (x6_1 + 1)) l0_0 l0_1 (x338000_1 ++ [rd l0_0 x6_1]) 1) else (none)) else (none)) else (hypercuberef2_Of.l0 k1 a1 (wrap64 (x6_1 + 1)) l0_0 l0_1 x338000_1 1)) = some (r1, r2, r3, r4, r5) := by first | (rw [hji12] at H; exact H) | (simp only [hji12] at H ⊢; exact H)
     have hji12_ : (a1 / 2 ^ min (ji10).toNat 64) = ji12 := hji12
     have hji12z : (ji10) ≤ 64 → (a1 / 2 ^ (ji10).toNat) = ji12 := shr_small hji12
     by_cases c13 : (Go.bits .and .i64 (ji12) 1) = 1
     ·rw [if_pos c13] at H
      have c13b0 : ((Go.bits .and .i64 (ji12) 1) == 1) = true := beq_iff_eq.mpr c13
      have c13b1 : ((Go.bits .and .i64 (ji12) 1) != 1) = false := bne_eq_false_iff_eq.mpr c13
      clear c13
      by_cases c14 : 0 ≤ x6_1
      ·rw [if_pos c14] at H
       have c14b0 : decide (0 ≤ x6_1) = true := decide_eq_true c14
       clear c14
       by_cases c15 : x338000_1.length < 17592186044416
       ·rw [if_pos c15] at H
        have LMc15 := am c15
        clear c15
        obtain ⟨y339, hy339⟩ : ∃ y_ : List Int, y_ = (x338000_1 ++ [rd l0_0 x6_1]) := ⟨_, rfl⟩
        replace H : (hypercuberef2_Of.l0 k1 a1 (wrap64 (x6_1 + 1)) l0_0 l0_1 y339 1) = some (r1, r2, r3, r4, r5) := by rw [hy339]; with_reducible exact H
        have Ny339 := am hy339
        clear hy339
        have H' := am H
        clear H
        have hnb16 := NB335_336.out
        have hnc16 := NB336_335.out
        have hnb17 := NB335_337.out
        have hnc17 := NB337_335.out
        have hcz18_0 : wr.cell? ⟨gb335, 0, none⟩ = some (.slice A0_0 l0_0.length c0_0) := (blk_cell BK335.out 0).trans rfl
        have hcz18_1 : wr.cell? ⟨gb335, 1, none⟩ = some (.slice A0_1 l0_1.length c0_1) := (blk_cell BK335.out 1).trans rfl
        have hfz18_0 := blk_frozen BK335.out 0
        have hfz18_1 := blk_frozen BK335.out 1
        try go_wp2
        have n0_ := am (Kd.R_drew HO_338000.out)
        have n1_ := am (blk_drew BK335.out)
        have n2_ := am (blk_drew BK336.out)
        have n3_ := am (blk_drew BK337.out)
        have n4_ := am (below_drew1 HB.out)
        clear HO_338000 BK335 BK336 BK337 HB
        revert n0_ n1_ n2_ n3_ n4_
        intro HO_338000 BK335 BK336 BK337 HB
        have p338 : 0 ≤ (x6_1 : Int) := of_decide_eq_true (by first | (with_reducible assumption) | assumption)
        have q338 : x6_1 < (l0_0.length : Int) := of_decide_eq_true (by first | (with_reducible assumption) | assumption)
        obtain ⟨ad338, e338, hx338_0⟩ := Kd.at_int HR0_0.out x6_1 p338 q338
        have hw338_0 := hx338_0
        cases e338
        replace hx338_0 := (HB.out.cell (World.block_lt_of_cell? w _ hx338_0)).trans hx338_0
        replace p338 := eq_true p338
        replace q338 := eq_true q338
        refine start_ (n := 11) (S := fun w' => w'.cell? ⟨gb337, 0, none⟩ = some (u338000) ∧ w'.cell? ⟨gb337, 1, none⟩ = some (.int .i64 1) ∧ w'.cell? ⟨gb337, 2, none⟩ = some (.slice none 0 0) ∧ w'.cell? ⟨gb337, 3, none⟩ = some (.slice none 0 0) ∧ w'.cell? ⟨gb337, 4, none⟩ = some (.slice none 0 0) ∧ w'.cell? ⟨gb335, 0, none⟩ = some (.slice (some ad338) l0_0.length c0_0) ∧ w'.cell? ⟨gb335, 1, none⟩ = some (.slice A0_1 l0_1.length c0_1) ∧ w'.cell? (ad338.add (x6_1).toNat) = some (.int .i64 (rd l0_0 x6_1))) (ds := [10]) (bb 11 0) (by kernel_rfl) rfl rfl ⟨bc BK337 0, bc BK337 1, bc BK337 2, bc BK337 3, bc BK337 4, bc BK335 0, bc BK335 1, ((HB.out.cell (World.block_lt_of_cell? w _ hw338_0)).trans hw338_0)⟩ (fun hHeld => ?_); refine with_tabW hypercuberef2_Of.tab6 hypercuberef2_Of.bits6 (fun HT_ HW_ => ?_)
        generalize wr.drew = w19 at HO_338000 BK335 BK336 BK337 HB hx338_0 hHeld ⊢
        refine pu (i := 0) (N := some 21) (bb 11 1) HT_ ?_
        refine pu (i := 2) (N := some 23) (bb 11 5) HT_ ?_
        refine pu (i := 4) (N := some 25) (bb 11 21) HT_ ?_
        refine tk (i := 1) (N := some 22) (bb 11 23) HT_ HW_ hHeld ?_
        refine tk (i := 3) (N := some 24) (bb 11 31) HT_ HW_ hHeld ?_
        refine pu (i := 5) (N := some 26) (bb 11 63) HT_ ?_
        refine tk (i := 6) (N := some 27) (bb 11 127) HT_ HW_ hHeld ?_
        refine one_ (i := 7) (N := some 28) (bb 11 255) rfl rfl (one_of HT_.out (by kernel_rfl)) (by decide) (fun K hK => ?_)
        refine value_ (w1 := ?_) (v := ?_) (by rfl) rfl ?_ ?_
        rotate_left 2
        ·go_simp
         constructor
         ·rfl
         ·rfl
        refine hK.out _ _ ⟨(blk_cell (blk_alloc BK337.out _) 0).trans rfl, (blk_cell (blk_alloc BK337.out _) 1).trans rfl, (blk_cell (blk_alloc BK337.out _) 2).trans rfl, (blk_cell (blk_alloc BK337.out _) 3).trans rfl, (blk_cell (blk_alloc BK337.out _) 4).trans rfl, (blk_cell (blk_alloc BK335.out _) 0).trans rfl, (blk_cell (blk_alloc BK335.out _) 1).trans rfl, (World.cell?_alloc_lt _ _ _ (World.block_lt_of_cell? _ _ (((HB.out.cell (World.block_lt_of_cell? w _ hw338_0)).trans hw338_0)))).trans (((HB.out.cell (World.block_lt_of_cell? w _ hw338_0)).trans hw338_0))⟩ (fun hHeld => ?_)
        clear hK K
        refine nm ?_
        refine one_ (i := 8) (N := some 29) (bb 11 511) rfl rfl (one_of HT_.out (by kernel_rfl)) (by decide) (fun K hK => ?_)
        refine Kd.R_append_step (Kd.int .i64) (w0 := w) w.heap.size (by rfl) (.tmp 22) (.tmp 28) 22 3 (.int .i64 0) 8 rfl Try.underlying22 info3 rfl (by decide) (by omega) u338000 x338000_1 (rd l0_0 x6_1) [.int .i64 (rd l0_0 x6_1)] (fun _ => True) (fun _ => False) rfl rfl ?aP (fun _ hk => hk.elim) ?aF ?aO ?aB ?aS ?aL ?_
        (case aP => exact rfl)
        (case aB => exact (wmv HB.out))
        (case aF => exact (fun _ _ => trivial))
        (case aO => exact (Kd.R_mv HO_338000.out))
        (case aS => exact (below_size (wmv HB.out)))
        (case aL => have := LMc15.out; omega)
        intro v340 w20 ho hb hg hat
        rw [← Ny339.out] at ho
        have n0_ := am (blk_grown (bmv BK335.out) hg (Kd.R_ne HO_338000.out BK335.out (by decide)))
        have n1_ := am (blk_grown (bmv BK336.out) hg (Kd.R_ne HO_338000.out BK336.out (by decide)))
        have n2_ := am (blk_grown (bmv BK337.out) hg (Kd.R_ne HO_338000.out BK337.out (by decide)))
        have n3_ := am (hb)
        have n4_ := am (ho)
        clear BK335 BK336 BK337 HB HO_338000
        revert n0_ n1_ n2_ n3_ n4_
        intro BK335 BK336 BK337 HB HO341
        clear ho hb hg hat
        obtain ⟨Ao21, co21, eo21⟩ := Kd.R_slice HO341.out
        (first | subst eo21 | (injection eo21 with f1_ f2_ f3_; have f4_ := f1_.symm; have f5_ := f3_.symm; clear f1_ f2_ f3_; subst f4_; subst f5_))
        refine hK.out _ _ ⟨bc BK337 0, bc BK337 1, bc BK337 2, bc BK337 3, bc BK337 4, bc BK335 0, bc BK335 1, ((HB.out.cell (World.block_lt_of_cell? w _ hw338_0)).trans hw338_0)⟩ (fun hHeld => ?_)
        clear hK K
        refine nm ?_
        refine pu (i := 9) (N := some 30) (bb 11 1023) HT_ ?_
        refine last_ (i := 10) (N := none) (bb 11 2047) rfl rfl (one_of HT_.out (by kernel_rfl)) (by decide) (fun K hK => ?_)
        have hs22 : w20.cell? ⟨gb337, 0, none⟩ = some (u338000) := (blk_cell BK337.out 0).trans rfl
        have hfs22 := blk_frozen BK337.out 0
        have hns22_0 := NB335_337.out
        have hns22_1 := NB336_337.out
        have hms22_0 := NB337_335.out
        have hms22_1 := NB337_336.out
        refine skip_ (w1 := ?_) (by rfl) rfl ?_ ?_
        rotate_left
        ·go_simp
         rfl
        refine hK.out _ _ ?_
        clear hK K
        refine done_ (done_of HT_.out (by kernel_rfl)) ?_
        try go_wp2
        go_roundg k1
        case measure => have := HK1.out; omega
        case rel => exact ⟨(wrap64 (x6_1 + 1)), (y339), (.slice Ao21 y339.length co21), (by first | rfl | (simp; done) | (simp [*]; done)), H', ⟨by have := HK1.out; omega⟩, ⟨by (with_reducible repeat (first | apply Kd.R_alloc | apply Kd.R_drewN | apply Kd.R_drew)); exact Kd.R_mono (Kd.R_far (p := ⟨gb337, 0, none⟩) (Kd.R_types HO341.out BK337.out (by decide)) (fun _ hk => hk.2) (.slice Ao21 y339.length co21)) (fun _ hk => trivial)⟩, ⟨by (with_reducible repeat (first | refine blk_drewN ?_ _ | refine blk_drew ?_ | refine blk_alloc ?_ _)); refine blk_far ?_ NB335_337.out _; (with_reducible repeat (first | refine blk_drewN ?_ _ | refine blk_drew ?_ | refine blk_alloc ?_ _)); exact BK335.out⟩, ⟨by (with_reducible repeat (first | refine blk_drewN ?_ _ | refine blk_drew ?_ | refine blk_alloc ?_ _)); refine blk_far ?_ NB336_337.out _; (with_reducible repeat (first | refine blk_drewN ?_ _ | refine blk_drew ?_ | refine blk_alloc ?_ _)); exact BK336.out⟩, ⟨by (with_reducible repeat (first | refine blk_drewN ?_ _ | refine blk_drew ?_ | refine blk_alloc ?_ _)); refine blk_put (cs := #[u338000, .int .i64 1, .slice none 0 0, .slice none 0 0, .slice none 0 0]) ?_ 0 _ rfl; (with_reducible repeat (first | refine blk_drewN ?_ _ | refine blk_drew ?_ | refine blk_alloc ?_ _)); exact BK337.out⟩, ⟨by repeat (first | (with_reducible first | exact HB.out | apply below_alloc | apply pw_below_drewN | apply below_drew1 | refine below_set ?_ GE335.out | refine below_set ?_ GE336.out | refine below_set ?_ GE337.out) | exact HB.out)⟩⟩
       ·rw [if_neg c15] at H
        exact absurd H (by simp)
      ·rw [if_neg c14] at H
       exact absurd H (by simp)
     ·rw [if_neg c13] at H
      have c13b0 : ((Go.bits .and .i64 (ji12) 1) == 1) = false := beq_eq_false_iff_ne.mpr c13
      have c13b1 : ((Go.bits .and .i64 (ji12) 1) != 1) = true := bne_iff_ne.mpr c13
      have H' := am H
      clear H
      have hnb23 := NB335_336.out
      have hnc23 := NB336_335.out
      have hnb24 := NB335_337.out
      have hnc24 := NB337_335.out
      have hcz25_0 : wr.cell? ⟨gb335, 0, none⟩ = some (.slice A0_0 l0_0.length c0_0) := (blk_cell BK335.out 0).trans rfl
      have hcz25_1 : wr.cell? ⟨gb335, 1, none⟩ = some (.slice A0_1 l0_1.length c0_1) := (blk_cell BK335.out 1).trans rfl
      have hfz25_0 := blk_frozen BK335.out 0
      have hfz25_1 := blk_frozen BK335.out 1
      go_wp2
      go_roundg k1
      case measure => have := HK1.out; omega
      case rel => exact ⟨(wrap64 (x6_1 + 1)), (x338000_1), (u338000), (by first | rfl | (simp; done) | (simp [*]; done)), H', ⟨by have := HK1.out; omega⟩, ⟨by (with_reducible repeat (first | apply Kd.R_alloc | apply Kd.R_drewN | apply Kd.R_drew)); exact HO_338000.out⟩, ⟨by (with_reducible repeat (first | refine blk_drewN ?_ _ | refine blk_drew ?_ | refine blk_alloc ?_ _)); exact BK335.out⟩, ⟨by (with_reducible repeat (first | refine blk_drewN ?_ _ | refine blk_drew ?_ | refine blk_alloc ?_ _)); exact BK336.out⟩, ⟨by (with_reducible repeat (first | refine blk_drewN ?_ _ | refine blk_drew ?_ | refine blk_alloc ?_ _)); exact BK337.out⟩, ⟨by repeat (first | (with_reducible first | exact HB.out | apply below_alloc | apply pw_below_drewN | apply below_drew1 | refine below_set ?_ GE335.out | refine below_set ?_ GE336.out | refine below_set ?_ GE337.out) | exact HB.out)⟩⟩
    ·rw [if_neg c11] at H
     exact absurd H (by simp)
   ·rw [if_neg c9] at H
    have c9b0 : decide (x6_1 < (l0_0.length : Int)) = false := decide_eq_false c9
    clear c9
    obtain ⟨y342, hy342⟩ : ∃ y_ : List Int, y_ = (([] : List Int)) := ⟨_, rfl⟩
    replace H : (if y342.length + l0_1.length < 17592186044416 then ((some (([] : List Int) : List Int)).bind fun y348 => (if y348.length + l0_1.length < 17592186044416 then ((some (([] : List Int) : List Int)).bind fun y354 => (if y354.length + l0_1.length < 17592186044416 then (some (x338000_1, 1, (y342 ++ l0_1), (y348 ++ l0_1), (y354 ++ l0_1))) else (none))) else (none))) else (none)) = some (r1, r2, r3, r4, r5) := by first | (rw [hy342]; with_reducible exact H) | (have H2_ := (Option.bind_some _ _).symm.trans H; rw [hy342]; with_reducible exact H2_) | (have H2_ := (Option.bind_some _ _).symm.trans H; with_reducible exact H2_) | with_reducible exact H | (rw [hy342]; exact H) | exact H
    have Ny342 := am hy342
    clear hy342
    by_cases c26 : y342.length + l0_1.length < 17592186044416
    ·rw [if_pos c26] at H
     have LMc26 := am c26
     clear c26
     obtain ⟨y345, hy345⟩ : ∃ y_ : List Int, y_ = (y342 ++ l0_1) := ⟨_, rfl⟩
     replace H : ((some (([] : List Int) : List Int)).bind fun y348 => (if y348.length + l0_1.length < 17592186044416 then ((some (([] : List Int) : List Int)).bind fun y354 => (if y354.length + l0_1.length < 17592186044416 then (some (x338000_1, 1, y345, (y348 ++ l0_1), (y354 ++ l0_1))) else (none))) else (none))) = some (r1, r2, r3, r4, r5) := by rw [hy345]; with_reducible exact H
     have Ny345 := am hy345
     clear hy345
     obtain ⟨y348, hy348⟩ : ∃ y_ : List Int, y_ = (([] : List Int)) := ⟨_, rfl⟩
     replace H : (if y348.length + l0_1.length < 17592186044416 then ((some (([] : List Int) : List Int)).bind fun y354 => (if y354.length + l0_1.length < 17592186044416 then (some (x338000_1, 1, y345, (y348 ++ l0_1), (y354 ++ l0_1))) else (none))) else (none)) = some (r1, r2, r3, r4, r5) := by first | (rw [hy348]; with_reducible exact H) | (have H2_ := (Option.bind_some _ _).symm.trans H; rw [hy348]; with_reducible exact H2_) | (have H2_ := (Option.bind_some _ _).symm.trans H; with_reducible exact H2_) | with_reducible exact H | (rw [hy348]; exact H) | exact H
     have Ny348 := am hy348
     clear hy348
     by_cases c27 : y348.length + l0_1.length < 17592186044416
     ·rw [if_pos c27] at H
      have LMc27 := am c27
      clear c27
      obtain ⟨y351, hy351⟩ : ∃ y_ : List Int, y_ = (y348 ++ l0_1) := ⟨_, rfl⟩
      replace H : ((some (([] : List Int) : List Int)).bind fun y354 => (if y354.length + l0_1.length < 17592186044416 then (some (x338000_1, 1, y345, y351, (y354 ++ l0_1))) else (none))) = some (r1, r2, r3, r4, r5) := by rw [hy351]; with_reducible exact H
      have Ny351 := am hy351
      clear hy351
      obtain ⟨y354, hy354⟩ : ∃ y_ : List Int, y_ = (([] : List Int)) := ⟨_, rfl⟩
      replace H : (if y354.length + l0_1.length < 17592186044416 then (some (x338000_1, 1, y345, y351, (y354 ++ l0_1))) else (none)) = some (r1, r2, r3, r4, r5) := by first | (rw [hy354]; with_reducible exact H) | (have H2_ := (Option.bind_some _ _).symm.trans H; rw [hy354]; with_reducible exact H2_) | (have H2_ := (Option.bind_some _ _).symm.trans H; with_reducible exact H2_) | with_reducible exact H | (rw [hy354]; exact H) | exact H
      have Ny354 := am hy354
      clear hy354
      by_cases c28 : y354.length + l0_1.length < 17592186044416
      ·rw [if_pos c28] at H
       have LMc28 := am c28
       clear c28
       obtain ⟨y357, hy357⟩ : ∃ y_ : List Int, y_ = (y354 ++ l0_1) := ⟨_, rfl⟩
       replace H : (some (x338000_1, 1, y345, y351, y357)) = some (r1, r2, r3, r4, r5) := by rw [hy357]; with_reducible exact H
       have Ny357 := am hy357
       clear hy357
       simp only [Option.some.injEq, Prod.mk.injEq] at H
       obtain ⟨rfl, rfl, rfl, rfl, rfl⟩ := H
       have hnb29 := NB335_336.out
       have hnc29 := NB336_335.out
       have hnb30 := NB335_337.out
       have hnc30 := NB337_335.out
       have hcz31_0 : wr.cell? ⟨gb335, 0, none⟩ = some (.slice A0_0 l0_0.length c0_0) := (blk_cell BK335.out 0).trans rfl
       have hcz31_1 : wr.cell? ⟨gb335, 1, none⟩ = some (.slice A0_1 l0_1.length c0_1) := (blk_cell BK335.out 1).trans rfl
       have hfz31_0 := blk_frozen BK335.out 0
       have hfz31_1 := blk_frozen BK335.out 1
       go_wp2_with (first | ((with_reducible refine gate_dst (N := 31) rfl ?_); refine Kd.R_lit (Kd.int .i64) _ 3 ?hg (N := 31) ?hd (xs := ([] : List Int)) (inner := []) (ok := fun _ => True) (okp := fun _ => True) ?hr ?hp (fun _ hk => hk) trivial (Below.refl _ _) (Nat.le_refl _) (by simp) ?_; (case hd => rfl); (case hg => rfl); (case hr => first | (go_simp; done) | (go_simp; rfl)); (case hp => exact (Reps.none _ _)); intro v343 w32 ho33 hb hg_ hnew_; clear hg_ hnew_; (first | rw [← Ny342.out] at ho33 | (simp only [Int.reduceToNat] at ho33; rw [← Ny342.out] at ho33)); have n0_ := am (Kd.R_elder' (Kd.R_mv HO_338000.out) (Kd.R_base ho33) hb); have n1_ := am (Kd.R_lower (Kd.R_new' ho33 (Kd.R_lt (Kd.R_mv HO_338000.out))) (below_size (by repeat (first | (with_reducible first | exact HB.out | apply below_alloc | apply pw_below_drewN | apply below_drew1 | refine below_set ?_ GE335.out | refine below_set ?_ GE336.out | refine below_set ?_ GE337.out) | exact HB.out)))); have n2_ := am (blk_below (bmv BK335.out) hb); have n3_ := am (blk_below (bmv BK336.out) hb); have n4_ := am (blk_below (bmv BK337.out) hb); have n5_ := am (below_step (by repeat (first | (with_reducible first | exact HB.out | apply below_alloc | apply pw_below_drewN | apply below_drew1 | refine below_set ?_ GE335.out | refine below_set ?_ GE336.out | refine below_set ?_ GE337.out) | exact HB.out)) hb); clear HO_338000 BK335 BK336 BK337 HB; revert n0_ n1_ n2_ n3_ n4_ n5_; intro HO_338000 HO344 BK335 BK336 BK337 HB; clear hb ho33; have hcz34_0 : w32.cell? ⟨gb335, 0, none⟩ = some (.slice A0_0 l0_0.length c0_0) := (blk_cell BK335.out 0).trans rfl; have hcz34_1 : w32.cell? ⟨gb335, 1, none⟩ = some (.slice A0_1 l0_1.length c0_1) := (blk_cell BK335.out 1).trans rfl; have hfz34_0 := blk_frozen BK335.out 0; have hfz34_1 := blk_frozen BK335.out 1) | ((with_reducible refine gate_builtin (b := .append) (xs := #[.tmp 31, .tmp 33]) rfl ?_); at_builtin; refine Kd.R_append_rows (Kd.int .i64) (w0 := w) w.heap.size rfl (.tmp 31) (.tmp 33) 22 3 (.int .i64 0) 8 rfl Try.underlying22 info3 rfl (by decide) (by omega) v343 y342 l0_1 _ _ _ (fun k_ => some k_ ≠ (u338000 : Value).ownBlock) (fun _ => False) rfl rfl ?aO ?aR (fun _ _ h => h) (fun _ h => h.elim) ?aF ?aB ?aS ?aL ?_; (case aR => exact Kd.Cw HR0_1.out HB.out); (case aB => exact (by repeat (first | (with_reducible first | exact HB.out | apply below_alloc | apply pw_below_drewN | apply below_drew1 | refine below_set ?_ GE335.out | refine below_set ?_ GE336.out | refine below_set ?_ GE337.out) | exact HB.out))); (case aF => exact (fun k_ hk => Kd.fresh' (Kd.R_lt (Kd.R_mv HO_338000.out)) k_ hk)); (case aO => exact (Kd.R_mv (Kd.R_mono HO344.out (fun _ hk => hk.2)))); (case aS => exact (below_size (by repeat (first | (with_reducible first | exact HB.out | apply below_alloc | apply pw_below_drewN | apply below_drew1 | refine below_set ?_ GE335.out | refine below_set ?_ GE336.out | refine below_set ?_ GE337.out) | exact HB.out)))); (case aL => have := LMc26.out; omega); intro v346 w35 ho hb hg hat; rw [← Ny345.out] at ho; have n0_ := am (Kd.R_after (ok := (fun _ => True)) (Kd.R_mv HO_338000.out) hg hat); have n1_ := am (blk_grown (bmv BK335.out) hg (Kd.R_ne HO344.out BK335.out (by decide))); have n2_ := am (blk_grown (bmv BK336.out) hg (Kd.R_ne HO344.out BK336.out (by decide))); have n3_ := am (blk_grown (bmv BK337.out) hg (Kd.R_ne HO344.out BK337.out (by decide))); have n4_ := am (hb); have n5_ := am (ho); clear HO_338000 BK335 BK336 BK337 HB HO344; revert n0_ n1_ n2_ n3_ n4_ n5_; intro HO_338000 BK335 BK336 BK337 HB HO347; clear ho hb hg hat; obtain ⟨Ao36, co36, eo36⟩ := Kd.R_slice HO347.out; subst eo36; have hnb37 := NB337_336.out; have hnc37 := NB336_337.out; have hcz38_0 : w35.cell? ⟨gb337, 0, none⟩ = some (u338000) := (blk_cell BK337.out 0).trans rfl; have hcz38_1 : w35.cell? ⟨gb337, 1, none⟩ = some (.int .i64 1) := (blk_cell BK337.out 1).trans rfl; have hcz38_2 : w35.cell? ⟨gb337, 2, none⟩ = some (.slice none 0 0) := (blk_cell BK337.out 2).trans rfl; have hcz38_3 : w35.cell? ⟨gb337, 3, none⟩ = some (.slice none 0 0) := (blk_cell BK337.out 3).trans rfl; have hcz38_4 : w35.cell? ⟨gb337, 4, none⟩ = some (.slice none 0 0) := (blk_cell BK337.out 4).trans rfl; have hfz38_0 := blk_frozen BK337.out 0; have hfz38_1 := blk_frozen BK337.out 1; have hfz38_2 := blk_frozen BK337.out 2; have hfz38_3 := blk_frozen BK337.out 3; have hfz38_4 := blk_frozen BK337.out 4) | ((with_reducible refine gate_dst (N := 36) rfl ?_); refine Kd.R_lit (Kd.int .i64) _ 3 ?hg (N := 36) ?hd (xs := ([] : List Int)) (inner := []) (ok := fun _ => True) (okp := fun _ => True) ?hr ?hp (fun _ hk => hk) trivial (Below.refl _ _) (Nat.le_refl _) (by simp) ?_; (case hd => rfl); (case hg => rfl); (case hr => first | (go_simp; done) | (go_simp; rfl)); (case hp => exact (Reps.none _ _)); intro v349 w39 ho40 hb hg_ hnew_; clear hg_ hnew_; (first | rw [← Ny348.out] at ho40 | (simp only [Int.reduceToNat] at ho40; rw [← Ny348.out] at ho40)); have n0_ := am (Kd.R_elder' (Kd.R_mv (Kd.R_mono (Kd.R_far (p := ⟨gb337, 2, none⟩) (Kd.R_types HO_338000.out BK337.out (by decide)) (fun _ hk => hk.2) (.slice Ao36 y345.length co36)) (fun _ h_ => h_.1))) (Kd.R_base ho40) hb); have n1_ := am (Kd.R_elder' (Kd.R_mv (Kd.R_mono (Kd.R_far (p := ⟨gb337, 2, none⟩) (Kd.R_types HO347.out BK337.out (by decide)) (fun _ hk => hk.2) (.slice Ao36 y345.length co36)) (fun _ h_ => h_.1))) (Kd.R_base ho40) hb); have n2_ := am (Kd.R_lower (Kd.R_new' (Kd.R_new' ho40 (Kd.R_lt (Kd.R_mv (Kd.R_mono (Kd.R_far (p := ⟨gb337, 2, none⟩) (Kd.R_types HO_338000.out BK337.out (by decide)) (fun _ hk => hk.2) (.slice Ao36 y345.length co36)) (fun _ h_ => h_.1))))) (Kd.R_lt (Kd.R_mv (Kd.R_mono (Kd.R_far (p := ⟨gb337, 2, none⟩) (Kd.R_types HO347.out BK337.out (by decide)) (fun _ hk => hk.2) (.slice Ao36 y345.length co36)) (fun _ h_ => h_.1))))) (below_size (by repeat (first | (with_reducible first | exact HB.out | apply below_alloc | apply pw_below_drewN | apply below_drew1 | refine below_set ?_ GE335.out | refine below_set ?_ GE336.out | refine below_set ?_ GE337.out) | exact HB.out)))); have n3_ := am (blk_below (g := gb335) (o := .cells #[.slice A0_0 l0_0.length c0_0, .slice A0_1 l0_1.length c0_1] 51 (0, 0)) (by (with_reducible repeat (first | refine blk_drewN ?_ _ | refine blk_drew ?_ | refine blk_alloc ?_ _)); refine blk_far ?_ NB335_337.out _; (with_reducible repeat (first | refine blk_drewN ?_ _ | refine blk_drew ?_ | refine blk_alloc ?_ _)); exact BK335.out) hb); have n4_ := am (blk_below (g := gb336) (o := .cells #[.slice none 0 0, .int .i64 0, .slice none 0 0, .slice none 0 0, .slice none 0 0] 44 (0, 0)) (by (with_reducible repeat (first | refine blk_drewN ?_ _ | refine blk_drew ?_ | refine blk_alloc ?_ _)); refine blk_far ?_ NB336_337.out _; (with_reducible repeat (first | refine blk_drewN ?_ _ | refine blk_drew ?_ | refine blk_alloc ?_ _)); exact BK336.out) hb); have n5_ := am (blk_below (g := gb337) (o := .cells #[u338000, .int .i64 1, .slice Ao36 y345.length co36, .slice none 0 0, .slice none 0 0] 44 (0, 0)) (by (with_reducible repeat (first | refine blk_drewN ?_ _ | refine blk_drew ?_ | refine blk_alloc ?_ _)); refine blk_put (cs := #[u338000, .int .i64 1, .slice none 0 0, .slice none 0 0, .slice none 0 0]) ?_ 2 _ rfl; (with_reducible repeat (first | refine blk_drewN ?_ _ | refine blk_drew ?_ | refine blk_alloc ?_ _)); exact BK337.out) hb); have n6_ := am (below_step (by repeat (first | (with_reducible first | exact HB.out | apply below_alloc | apply pw_below_drewN | apply below_drew1 | refine below_set ?_ GE335.out | refine below_set ?_ GE336.out | refine below_set ?_ GE337.out) | exact HB.out)) hb); clear HO_338000 HO347 BK335 BK336 BK337 HB; revert n0_ n1_ n2_ n3_ n4_ n5_ n6_; intro HO_338000 HO347 HO350 BK335 BK336 BK337 HB; clear hb ho40; have hcz41_0 : w39.cell? ⟨gb335, 0, none⟩ = some (.slice A0_0 l0_0.length c0_0) := (blk_cell BK335.out 0).trans rfl; have hcz41_1 : w39.cell? ⟨gb335, 1, none⟩ = some (.slice A0_1 l0_1.length c0_1) := (blk_cell BK335.out 1).trans rfl; have hfz41_0 := blk_frozen BK335.out 0; have hfz41_1 := blk_frozen BK335.out 1) | ((with_reducible refine gate_builtin (b := .append) (xs := #[.tmp 36, .tmp 38]) rfl ?_); at_builtin; refine Kd.R_append_rows (Kd.int .i64) (w0 := w) w.heap.size rfl (.tmp 36) (.tmp 38) 22 3 (.int .i64 0) 8 rfl Try.underlying22 info3 rfl (by decide) (by omega) v349 y348 l0_1 _ _ _ (fun k_ => some k_ ≠ (u338000 : Value).ownBlock ∧ some k_ ≠ (.slice Ao36 y345.length co36 : Value).ownBlock) (fun _ => False) rfl rfl ?aO ?aR (fun _ _ h => h) (fun _ h => h.elim) ?aF ?aB ?aS ?aL ?_; (case aR => exact Kd.Cw HR0_1.out HB.out); (case aB => exact (by repeat (first | (with_reducible first | exact HB.out | apply below_alloc | apply pw_below_drewN | apply below_drew1 | refine below_set ?_ GE335.out | refine below_set ?_ GE336.out | refine below_set ?_ GE337.out) | exact HB.out))); (case aF => exact (fun k_ hk => ⟨Kd.fresh' (Kd.R_lt (Kd.R_mv HO_338000.out)) k_ hk, Kd.fresh' (Kd.R_lt (Kd.R_mv HO347.out)) k_ hk⟩)); (case aO => exact (Kd.R_mv (Kd.R_mono HO350.out (fun _ hk => ⟨hk.1.2, hk.2⟩)))); (case aS => exact (below_size (by repeat (first | (with_reducible first | exact HB.out | apply below_alloc | apply pw_below_drewN | apply below_drew1 | refine below_set ?_ GE335.out | refine below_set ?_ GE336.out | refine below_set ?_ GE337.out) | exact HB.out)))); (case aL => have := LMc27.out; omega); intro v352 w42 ho hb hg hat; rw [← Ny351.out] at ho; have n0_ := am (Kd.R_after (ok := (fun k_ => some k_ ≠ (.slice Ao36 y345.length co36 : Value).ownBlock)) (Kd.R_mv (Kd.R_mono HO_338000.out (fun _ hk => ⟨hk.1.2, hk.2⟩))) hg hat); have n1_ := am (blk_grown (bmv BK335.out) hg (Kd.R_ne HO350.out BK335.out (by decide))); have n2_ := am (blk_grown (bmv BK336.out) hg (Kd.R_ne HO350.out BK336.out (by decide))); have n3_ := am (blk_grown (bmv BK337.out) hg (Kd.R_ne HO350.out BK337.out (by decide))); have n4_ := am (Kd.R_after (ok := (fun k_ => some k_ ≠ (u338000 : Value).ownBlock)) (Kd.R_mv HO347.out) hg hat); have n5_ := am (hb); have n6_ := am (ho); clear HO_338000 BK335 BK336 BK337 HO347 HB HO350; revert n0_ n1_ n2_ n3_ n4_ n5_ n6_; intro HO_338000 BK335 BK336 BK337 HO347 HB HO353; clear ho hb hg hat; obtain ⟨Ao43, co43, eo43⟩ := Kd.R_slice HO353.out; subst eo43; have hcz44_0 : w42.cell? ⟨gb337, 0, none⟩ = some (u338000) := (blk_cell BK337.out 0).trans rfl; have hcz44_1 : w42.cell? ⟨gb337, 1, none⟩ = some (.int .i64 1) := (blk_cell BK337.out 1).trans rfl; have hcz44_2 : w42.cell? ⟨gb337, 2, none⟩ = some (.slice Ao36 y345.length co36) := (blk_cell BK337.out 2).trans rfl; have hcz44_3 : w42.cell? ⟨gb337, 3, none⟩ = some (.slice none 0 0) := (blk_cell BK337.out 3).trans rfl; have hcz44_4 : w42.cell? ⟨gb337, 4, none⟩ = some (.slice none 0 0) := (blk_cell BK337.out 4).trans rfl; have hfz44_0 := blk_frozen BK337.out 0; have hfz44_1 := blk_frozen BK337.out 1; have hfz44_2 := blk_frozen BK337.out 2; have hfz44_3 := blk_frozen BK337.out 3; have hfz44_4 := blk_frozen BK337.out 4) | ((with_reducible refine gate_dst (N := 41) rfl ?_); refine Kd.R_lit (Kd.int .i64) _ 3 ?hg (N := 41) ?hd (xs := ([] : List Int)) (inner := []) (ok := fun _ => True) (okp := fun _ => True) ?hr ?hp (fun _ hk => hk) trivial (Below.refl _ _) (Nat.le_refl _) (by simp) ?_; (case hd => rfl); (case hg => rfl); (case hr => first | (go_simp; done) | (go_simp; rfl)); (case hp => exact (Reps.none _ _)); intro v355 w45 ho46 hb hg_ hnew_; clear hg_ hnew_; (first | rw [← Ny354.out] at ho46 | (simp only [Int.reduceToNat] at ho46; rw [← Ny354.out] at ho46)); have n0_ := am (Kd.R_elder' (Kd.R_mv (Kd.R_mono (Kd.R_far (p := ⟨gb337, 3, none⟩) (Kd.R_types HO_338000.out BK337.out (by decide)) (fun _ hk => hk.2) (.slice Ao43 y351.length co43)) (fun _ h_ => h_.1))) (Kd.R_base ho46) hb); have n1_ := am (Kd.R_elder' (Kd.R_mv (Kd.R_mono (Kd.R_far (p := ⟨gb337, 3, none⟩) (Kd.R_types HO347.out BK337.out (by decide)) (fun _ hk => hk.2) (.slice Ao43 y351.length co43)) (fun _ h_ => h_.1))) (Kd.R_base ho46) hb); have n2_ := am (Kd.R_elder' (Kd.R_mv (Kd.R_mono (Kd.R_far (p := ⟨gb337, 3, none⟩) (Kd.R_types HO353.out BK337.out (by decide)) (fun _ hk => hk.2) (.slice Ao43 y351.length co43)) (fun _ h_ => h_.1))) (Kd.R_base ho46) hb); have n3_ := am (Kd.R_lower (Kd.R_new' (Kd.R_new' (Kd.R_new' ho46 (Kd.R_lt (Kd.R_mv (Kd.R_mono (Kd.R_far (p := ⟨gb337, 3, none⟩) (Kd.R_types HO_338000.out BK337.out (by decide)) (fun _ hk => hk.2) (.slice Ao43 y351.length co43)) (fun _ h_ => h_.1))))) (Kd.R_lt (Kd.R_mv (Kd.R_mono (Kd.R_far (p := ⟨gb337, 3, none⟩) (Kd.R_types HO347.out BK337.out (by decide)) (fun _ hk => hk.2) (.slice Ao43 y351.length co43)) (fun _ h_ => h_.1))))) (Kd.R_lt (Kd.R_mv (Kd.R_mono (Kd.R_far (p := ⟨gb337, 3, none⟩) (Kd.R_types HO353.out BK337.out (by decide)) (fun _ hk => hk.2) (.slice Ao43 y351.length co43)) (fun _ h_ => h_.1))))) (below_size (by repeat (first | (with_reducible first | exact HB.out | apply below_alloc | apply pw_below_drewN | apply below_drew1 | refine below_set ?_ GE335.out | refine below_set ?_ GE336.out | refine below_set ?_ GE337.out) | exact HB.out)))); have n4_ := am (blk_below (g := gb335) (o := .cells #[.slice A0_0 l0_0.length c0_0, .slice A0_1 l0_1.length c0_1] 51 (0, 0)) (by (with_reducible repeat (first | refine blk_drewN ?_ _ | refine blk_drew ?_ | refine blk_alloc ?_ _)); refine blk_far ?_ NB335_337.out _; (with_reducible repeat (first | refine blk_drewN ?_ _ | refine blk_drew ?_ | refine blk_alloc ?_ _)); exact BK335.out) hb); have n5_ := am (blk_below (g := gb336) (o := .cells #[.slice none 0 0, .int .i64 0, .slice none 0 0, .slice none 0 0, .slice none 0 0] 44 (0, 0)) (by (with_reducible repeat (first | refine blk_drewN ?_ _ | refine blk_drew ?_ | refine blk_alloc ?_ _)); refine blk_far ?_ NB336_337.out _; (with_reducible repeat (first | refine blk_drewN ?_ _ | refine blk_drew ?_ | refine blk_alloc ?_ _)); exact BK336.out) hb); have n6_ := am (blk_below (g := gb337) (o := .cells #[u338000, .int .i64 1, .slice Ao36 y345.length co36, .slice Ao43 y351.length co43, .slice none 0 0] 44 (0, 0)) (by (with_reducible repeat (first | refine blk_drewN ?_ _ | refine blk_drew ?_ | refine blk_alloc ?_ _)); refine blk_put (cs := #[u338000, .int .i64 1, .slice Ao36 y345.length co36, .slice none 0 0, .slice none 0 0]) ?_ 3 _ rfl; (with_reducible repeat (first | refine blk_drewN ?_ _ | refine blk_drew ?_ | refine blk_alloc ?_ _)); exact BK337.out) hb); have n7_ := am (below_step (by repeat (first | (with_reducible first | exact HB.out | apply below_alloc | apply pw_below_drewN | apply below_drew1 | refine below_set ?_ GE335.out | refine below_set ?_ GE336.out | refine below_set ?_ GE337.out) | exact HB.out)) hb); clear HO_338000 HO347 HO353 BK335 BK336 BK337 HB; revert n0_ n1_ n2_ n3_ n4_ n5_ n6_ n7_; intro HO_338000 HO347 HO353 HO356 BK335 BK336 BK337 HB; clear hb ho46; have hcz47_0 : w45.cell? ⟨gb335, 0, none⟩ = some (.slice A0_0 l0_0.length c0_0) := (blk_cell BK335.out 0).trans rfl; have hcz47_1 : w45.cell? ⟨gb335, 1, none⟩ = some (.slice A0_1 l0_1.length c0_1) := (blk_cell BK335.out 1).trans rfl; have hfz47_0 := blk_frozen BK335.out 0; have hfz47_1 := blk_frozen BK335.out 1) | ((with_reducible refine gate_builtin (b := .append) (xs := #[.tmp 41, .tmp 43]) rfl ?_); at_builtin; refine Kd.R_append_rows (Kd.int .i64) (w0 := w) w.heap.size rfl (.tmp 41) (.tmp 43) 22 3 (.int .i64 0) 8 rfl Try.underlying22 info3 rfl (by decide) (by omega) v355 y354 l0_1 _ _ _ (fun k_ => some k_ ≠ (u338000 : Value).ownBlock ∧ some k_ ≠ (.slice Ao36 y345.length co36 : Value).ownBlock ∧ some k_ ≠ (.slice Ao43 y351.length co43 : Value).ownBlock) (fun _ => False) rfl rfl ?aO ?aR (fun _ _ h => h) (fun _ h => h.elim) ?aF ?aB ?aS ?aL ?_; (case aR => exact Kd.Cw HR0_1.out HB.out); (case aB => exact (by repeat (first | (with_reducible first | exact HB.out | apply below_alloc | apply pw_below_drewN | apply below_drew1 | refine below_set ?_ GE335.out | refine below_set ?_ GE336.out | refine below_set ?_ GE337.out) | exact HB.out))); (case aF => exact (fun k_ hk => ⟨Kd.fresh' (Kd.R_lt (Kd.R_mv HO_338000.out)) k_ hk, Kd.fresh' (Kd.R_lt (Kd.R_mv HO347.out)) k_ hk, Kd.fresh' (Kd.R_lt (Kd.R_mv HO353.out)) k_ hk⟩)); (case aO => exact (Kd.R_mv (Kd.R_mono HO356.out (fun _ hk => ⟨hk.1.1.2, ⟨hk.1.2, hk.2⟩⟩)))); (case aS => exact (below_size (by repeat (first | (with_reducible first | exact HB.out | apply below_alloc | apply pw_below_drewN | apply below_drew1 | refine below_set ?_ GE335.out | refine below_set ?_ GE336.out | refine below_set ?_ GE337.out) | exact HB.out)))); (case aL => have := LMc28.out; omega); intro v358 w48 ho hb hg hat; rw [← Ny357.out] at ho; have n0_ := am (Kd.R_after (ok := (fun k_ => some k_ ≠ (.slice Ao36 y345.length co36 : Value).ownBlock ∧ some k_ ≠ (.slice Ao43 y351.length co43 : Value).ownBlock)) (Kd.R_mv HO_338000.out) hg hat); have n1_ := am (blk_grown (bmv BK335.out) hg (Kd.R_ne HO356.out BK335.out (by decide))); have n2_ := am (blk_grown (bmv BK336.out) hg (Kd.R_ne HO356.out BK336.out (by decide))); have n3_ := am (blk_grown (bmv BK337.out) hg (Kd.R_ne HO356.out BK337.out (by decide))); have n4_ := am (Kd.R_after (ok := (fun k_ => some k_ ≠ (u338000 : Value).ownBlock ∧ some k_ ≠ (.slice Ao43 y351.length co43 : Value).ownBlock)) (Kd.R_mv HO347.out) hg hat); have n5_ := am (Kd.R_after (ok := (fun k_ => some k_ ≠ (u338000 : Value).ownBlock ∧ some k_ ≠ (.slice Ao36 y345.length co36 : Value).ownBlock)) (Kd.R_mv HO353.out) hg hat); have n6_ := am (hb); have n7_ := am (ho); clear HO_338000 BK335 BK336 BK337 HO347 HO353 HB HO356; revert n0_ n1_ n2_ n3_ n4_ n5_ n6_ n7_; intro HO_338000 BK335 BK336 BK337 HO347 HO353 HB HO359; clear ho hb hg hat; obtain ⟨Ao49, co49, eo49⟩ := Kd.R_slice HO359.out; subst eo49; have hcz50_0 : w48.cell? ⟨gb337, 0, none⟩ = some (u338000) := (blk_cell BK337.out 0).trans rfl; have hcz50_1 : w48.cell? ⟨gb337, 1, none⟩ = some (.int .i64 1) := (blk_cell BK337.out 1).trans rfl; have hcz50_2 : w48.cell? ⟨gb337, 2, none⟩ = some (.slice Ao36 y345.length co36) := (blk_cell BK337.out 2).trans rfl; have hcz50_3 : w48.cell? ⟨gb337, 3, none⟩ = some (.slice Ao43 y351.length co43) := (blk_cell BK337.out 3).trans rfl; have hcz50_4 : w48.cell? ⟨gb337, 4, none⟩ = some (.slice none 0 0) := (blk_cell BK337.out 4).trans rfl; have hfz50_0 := blk_frozen BK337.out 0; have hfz50_1 := blk_frozen BK337.out 1; have hfz50_2 := blk_frozen BK337.out 2; have hfz50_3 := blk_frozen BK337.out 3; have hfz50_4 := blk_frozen BK337.out 4; obtain ⟨Ao51, co51, eo51⟩ := Kd.R_slice HO_338000.out; subst eo51; have hcz52_0 : w48.cell? ⟨gb336, 0, none⟩ = some (.slice none 0 0) := (blk_cell BK336.out 0).trans rfl; have hcz52_1 : w48.cell? ⟨gb336, 1, none⟩ = some (.int .i64 0) := (blk_cell BK336.out 1).trans rfl; have hcz52_2 : w48.cell? ⟨gb336, 2, none⟩ = some (.slice none 0 0) := (blk_cell BK336.out 2).trans rfl; have hcz52_3 : w48.cell? ⟨gb336, 3, none⟩ = some (.slice none 0 0) := (blk_cell BK336.out 3).trans rfl; have hcz52_4 : w48.cell? ⟨gb336, 4, none⟩ = some (.slice none 0 0) := (blk_cell BK336.out 4).trans rfl; have hfz52_0 := blk_frozen BK336.out 0; have hfz52_1 := blk_frozen BK336.out 1; have hfz52_2 := blk_frozen BK336.out 2; have hfz52_3 := blk_frozen BK336.out 3; have hfz52_4 := blk_frozen BK336.out 4))
       refine bodyPost_ret (results_cell_row rfl _ _ gb336 44 #[.slice Ao51 x338000_1.length co51, .int .i64 1, .slice Ao36 y345.length co36, .slice Ao43 y351.length co43, .slice Ao49 y357.length co49] (0, 0) _ rfl (by (with_reducible repeat (first | refine blk_drewN ?_ _ | refine blk_drew ?_ | refine blk_alloc ?_ _)); refine blk_put (cs := #[.slice Ao51 x338000_1.length co51, .int .i64 1, .slice Ao36 y345.length co36, .slice Ao43 y351.length co43, .slice none 0 0]) ?_ 4 _ rfl; (with_reducible repeat (first | refine blk_drewN ?_ _ | refine blk_drew ?_ | refine blk_alloc ?_ _)); refine blk_put (cs := #[.slice Ao51 x338000_1.length co51, .int .i64 1, .slice Ao36 y345.length co36, .slice none 0 0, .slice none 0 0]) ?_ 3 _ rfl; (with_reducible repeat (first | refine blk_drewN ?_ _ | refine blk_drew ?_ | refine blk_alloc ?_ _)); refine blk_put (cs := #[.slice Ao51 x338000_1.length co51, .int .i64 1, .slice none 0 0, .slice none 0 0, .slice none 0 0]) ?_ 2 _ rfl; (with_reducible repeat (first | refine blk_drewN ?_ _ | refine blk_drew ?_ | refine blk_alloc ?_ _)); refine blk_put (cs := #[.slice Ao51 x338000_1.length co51, .int .i64 0, .slice none 0 0, .slice none 0 0, .slice none 0 0]) ?_ 1 _ rfl; (with_reducible repeat (first | refine blk_drewN ?_ _ | refine blk_drew ?_ | refine blk_alloc ?_ _)); refine blk_put (cs := #[.slice none 0 0, .int .i64 0, .slice none 0 0, .slice none 0 0, .slice none 0 0]) ?_ 0 _ rfl; (with_reducible repeat (first | refine blk_drewN ?_ _ | refine blk_drew ?_ | refine blk_alloc ?_ _)); refine blk_far ?_ NB336_337.out _; (with_reducible repeat (first | refine blk_drewN ?_ _ | refine blk_drew ?_ | refine blk_alloc ?_ _)); exact BK336.out) Try.underlying44 rfl (by kernel_rfl)) rfl ?_
       exact ⟨_, _, _, _, by first | rfl | (simp [errW_none, errW_some] <;> rfl) | (simp [*, errW_none, errW_some] <;> rfl), by (with_reducible repeat (first | apply Kd.R_alloc | apply Kd.R_drewN | apply Kd.R_drew)); exact Kd.R_mono (Kd.R_far (p := ⟨gb336, 4, none⟩) (Kd.R_far (p := ⟨gb336, 3, none⟩) (Kd.R_far (p := ⟨gb336, 2, none⟩) (Kd.R_far (p := ⟨gb336, 1, none⟩) (Kd.R_far (p := ⟨gb336, 0, none⟩) (Kd.R_far (p := ⟨gb337, 4, none⟩) (Kd.R_types (Kd.R_types HO_338000.out BK337.out (by decide)) BK336.out (by decide)) (fun _ hk => hk.1.2) (.slice Ao49 y357.length co49)) (fun _ hk => hk.2) (.slice Ao51 x338000_1.length co51)) (fun _ hk => hk.2) (.int .i64 1)) (fun _ hk => hk.2) (.slice Ao36 y345.length co36)) (fun _ hk => hk.2) (.slice Ao43 y351.length co43)) (fun _ hk => hk.2) (.slice Ao49 y357.length co49)) (fun _ hk => ⟨hk.1.1.1.1, ⟨hk.1.1.1.2, hk.1.1.2⟩⟩), by (with_reducible repeat (first | apply Kd.R_alloc | apply Kd.R_drewN | apply Kd.R_drew)); exact Kd.R_mono (Kd.R_far (p := ⟨gb336, 4, none⟩) (Kd.R_far (p := ⟨gb336, 3, none⟩) (Kd.R_far (p := ⟨gb336, 2, none⟩) (Kd.R_far (p := ⟨gb336, 1, none⟩) (Kd.R_far (p := ⟨gb336, 0, none⟩) (Kd.R_far (p := ⟨gb337, 4, none⟩) (Kd.R_types (Kd.R_types HO347.out BK337.out (by decide)) BK336.out (by decide)) (fun _ hk => hk.1.2) (.slice Ao49 y357.length co49)) (fun _ hk => hk.2) (.slice Ao51 x338000_1.length co51)) (fun _ hk => hk.2) (.int .i64 1)) (fun _ hk => hk.2) (.slice Ao36 y345.length co36)) (fun _ hk => hk.2) (.slice Ao43 y351.length co43)) (fun _ hk => hk.2) (.slice Ao49 y357.length co49)) (fun _ hk => ⟨hk.1.1.1.1, ⟨hk.1.1.1.2, hk.1.1.2⟩⟩), by (with_reducible repeat (first | apply Kd.R_alloc | apply Kd.R_drewN | apply Kd.R_drew)); exact Kd.R_mono (Kd.R_far (p := ⟨gb336, 4, none⟩) (Kd.R_far (p := ⟨gb336, 3, none⟩) (Kd.R_far (p := ⟨gb336, 2, none⟩) (Kd.R_far (p := ⟨gb336, 1, none⟩) (Kd.R_far (p := ⟨gb336, 0, none⟩) (Kd.R_far (p := ⟨gb337, 4, none⟩) (Kd.R_types (Kd.R_types HO353.out BK337.out (by decide)) BK336.out (by decide)) (fun _ hk => hk.1.2) (.slice Ao49 y357.length co49)) (fun _ hk => hk.2) (.slice Ao51 x338000_1.length co51)) (fun _ hk => hk.2) (.int .i64 1)) (fun _ hk => hk.2) (.slice Ao36 y345.length co36)) (fun _ hk => hk.2) (.slice Ao43 y351.length co43)) (fun _ hk => hk.2) (.slice Ao49 y357.length co49)) (fun _ hk => ⟨hk.1.1.1.1, ⟨hk.1.1.1.2, hk.1.1.2⟩⟩), by (with_reducible repeat (first | apply Kd.R_alloc | apply Kd.R_drewN | apply Kd.R_drew)); exact Kd.R_mono (Kd.R_far (p := ⟨gb336, 4, none⟩) (Kd.R_far (p := ⟨gb336, 3, none⟩) (Kd.R_far (p := ⟨gb336, 2, none⟩) (Kd.R_far (p := ⟨gb336, 1, none⟩) (Kd.R_far (p := ⟨gb336, 0, none⟩) (Kd.R_far (p := ⟨gb337, 4, none⟩) (Kd.R_types (Kd.R_types HO359.out BK337.out (by decide)) BK336.out (by decide)) (fun _ hk => hk.1.2) (.slice Ao49 y357.length co49)) (fun _ hk => hk.2) (.slice Ao51 x338000_1.length co51)) (fun _ hk => hk.2) (.int .i64 1)) (fun _ hk => hk.2) (.slice Ao36 y345.length co36)) (fun _ hk => hk.2) (.slice Ao43 y351.length co43)) (fun _ hk => hk.2) (.slice Ao49 y357.length co49)) (fun _ hk => ⟨hk.1.1.1, ⟨hk.1.1.2.1, hk.1.1.2.2⟩⟩), by repeat (first | (with_reducible first | exact HB.out | apply below_alloc | apply pw_below_drewN | apply below_drew1 | refine below_set ?_ GE335.out | refine below_set ?_ GE336.out | refine below_set ?_ GE337.out) | exact HB.out)⟩
      ·rw [if_neg c28] at H
       exact absurd H (by simp)
     ·rw [if_neg c27] at H
      exact absurd H (by simp)
    ·rw [if_neg c26] at H
     exact absurd H (by simp)
def hypercubelaw2_Make.l0 : Nat → List (S51) → Int → List (S44) → Int → Option ((List (S44)))
 | 0, _, _, _, _ => none
 | k + 1, x0, x1, x5, x6 => if x6 < (x0.length : Int) then (if 0 ≤ x6 then ((hypercuberef2_Of.f k ((rd_T51 x0 x6).f0) ((rd_T51 x0 x6).f1) x1).bind fun bt361 => (if x5.length < 1353245080339 then (hypercubelaw2_Make.l0 k x0 x1 (x5 ++ [(⟨bt361.1, bt361.2.1, bt361.2.2.1, bt361.2.2.2.1, bt361.2.2.2.2⟩ : S44)]) (wrap64 (x6 + 1))) else (none))) else (none)) else (some x5)
def hypercubelaw2_Make.f (k : Nat) (l0 : List (S51)) (a1 : Int) : Option ((List (S44))) := hypercubelaw2_Make.l0 k l0 a1 ([] : List (S44)) 0
set_option maxHeartbeats 8000000 in
set_option maxRecDepth 100000 in
theorem hypercubelaw2_Make.calls (k : Nat) (A0 : Option Addr) (c0 : Nat) (l0 : List (S51)) (a1 : Int) (r : List (S44)) (w : World) (hr0 : Kd.C k51 w A0 l0.length l0) (hc0 : l0.length ≤ c0) (h : hypercubelaw2_Make.f k l0 a1 = some r) :
  Calls Try.prog 16 #[.slice A0 l0.length c0, .int .i64 a1] w fun e w' => ∃ v0_ : Value, e = .returned (v0_) ∧ Kd.S k44 44 w' w.heap.size (fun _ => True) v0_ r ∧ Below w.heap.size w w' := by
 have hu51 := Try.underlying51
 have HR0 := am hr0
 have HC0 := am hc0
 clear hr0 hc0
 have HB := am (Below.refl w.heap.size w)
 have H : (hypercubelaw2_Make.l0 k l0 a1 ([] : List (S44)) 0) = some r := h
 clear h
 have H' := am H
 clear H
 go_enter Try.func16, Try.ntmps16
 go_wp2
 go_loopg [5, 6] k (fun kq v5 v6 w' => ∃ (x5_1 : List (S44)) (x6_1 : Int), v6 = .int .i64 x6_1 ∧ Aside0 (hypercubelaw2_Make.l0 kq l0 a1 x5_1 x6_1 = some r) ∧ Aside0 (kq ≤ k) ∧ Aside0 (Kd.S k44 44 w' w.heap.size (fun _ => True) v5 x5_1) ∧ Aside0 (Below w.heap.size w w'))
 case atStart => exact ⟨(([] : List (S44))), (0), (by first | rfl | (simp; done) | (simp [*]; done)), H', ⟨Nat.le_refl _⟩, ⟨by first | exact Kd.S_nil _ _ _ _ _ | exact Kd.N_nil _ _ _ _ _ | exact Kd.V_nil _ _ _ _ _ | exact Kd.Q_nil _ _ _ _ _ | exact Kd.R_nil _ _ _ _ _⟩, ⟨by repeat (first | (with_reducible first | exact HB.out | apply below_alloc | apply pw_below_drewN | apply below_drew1) | exact HB.out)⟩⟩
 case round =>
  clear H'
  try clear c1
  try clear p2
  obtain ⟨x5_1, x6_1, rfl, HA, HK1, HO_5, HB⟩ := hrel
  cases gk with
  | zero => exact absurd HA.out (by simp [hypercubelaw2_Make.l0])
  | succ k1 =>
   have H := HA.out
   clear HA
   simp only [hypercubelaw2_Make.l0] at H
   by_cases c3 : x6_1 < (l0.length : Int)
   ·rw [if_pos c3] at H
    have c3b0 : decide (x6_1 < (l0.length : Int)) = true := decide_eq_true c3
    clear c3
    by_cases c4 : 0 ≤ x6_1
    ·rw [if_pos c4] at H
     have c4b0 : decide (0 ≤ x6_1) = true := decide_eq_true c4
     clear c4
     replace H := Option.bind_eq_some_iff.mp H
     obtain ⟨⟨t361, t364, t365, t368, t371⟩, A50, H⟩ := H
     replace H : (if x5_1.length < 1353245080339 then (hypercubelaw2_Make.l0 k1 l0 a1 (x5_1 ++ [(⟨t361, t364, t365, t368, t371⟩ : S44)]) (wrap64 (x6_1 + 1))) else (none)) = some r := H
     have A5 := am A50
     clear A50
     by_cases c6 : x5_1.length < 1353245080339
     ·rw [if_pos c6] at H
      have LMc6 := am c6
      clear c6
      obtain ⟨y374, hy374⟩ : ∃ y_ : List (S44), y_ = (x5_1 ++ [(⟨t361, t364, t365, t368, t371⟩ : S44)]) := ⟨_, rfl⟩
      replace H : (hypercubelaw2_Make.l0 k1 l0 a1 y374 (wrap64 (x6_1 + 1))) = some r := by rw [hy374]; with_reducible exact H
      have Ny374 := am hy374
      clear hy374
      have H' := am H
      clear H
      have p360 : 0 ≤ (x6_1 : Int) := of_decide_eq_true (by first | (with_reducible assumption) | assumption)
      have q360 : x6_1 < (l0.length : Int) := of_decide_eq_true (by first | (with_reducible assumption) | assumption)
      obtain ⟨ad360, A360_0, c360_0, A360_1, c360_1, e360, hx360_0, hx360_1, hl360_0, hi360_0, hl360_1, hi360_1⟩ := at_T51 HR0.out x6_1 p360 q360
      cases e360
      replace hx360_0 := (HB.out.cell (World.block_lt_of_cell? w _ hx360_0)).trans hx360_0
      replace hx360_1 := (HB.out.cell (World.block_lt_of_cell? w _ hx360_1)).trans hx360_1
      have HR360_0 := am hi360_0
      have HC360_0 := am hl360_0
      clear hi360_0 hl360_0
      have HR360_1 := am hi360_1
      have HC360_1 := am hl360_1
      clear hi360_1 hl360_1
      replace p360 := eq_true p360
      replace q360 := eq_true q360
      go_wp2_with (first | (go_at_call 31; (with_reducible refine (hypercuberef2_Of.calls k1 _ _ ((rd_T51 l0 x6_1).f0) _ _ ((rd_T51 l0 x6_1).f1) a1 t361 t364 t365 t368 t371 _ ?side1 ?side2 ?side3 ?side4 A5.out).mono ?_); (case side1 => repeat (first | exact (Kd.C_below HR360_0.out HB.out) | (with_reducible refine Kd.C_alloc ?_ _) | (with_reducible refine Kd.C_drewN ?_ _) | (with_reducible refine Kd.C_drew ?_))); (case side2 => exact HC360_0.out); (case side3 => repeat (first | exact (Kd.C_below HR360_1.out HB.out) | (with_reducible refine Kd.C_alloc ?_ _) | (with_reducible refine Kd.C_drewN ?_ _) | (with_reducible refine Kd.C_drew ?_))); (case side4 => exact HC360_1.out); rintro e w7 ⟨v362, v366, v369, v372, rfl, ho0, ho1, ho2, ho3, hb⟩; have n0_ := am (Kd.S_mono (Kd.S_told (Kd.S_told (Kd.S_told (Kd.S_told (Kd.S_old (by (with_reducible repeat (first | apply Kd.S_alloc | apply Kd.S_drewN | apply Kd.S_drew)); exact HO_5.out) hb) (Kd.R_base ho0)) (Kd.R_base ho1)) (Kd.R_base ho2)) (Kd.R_base ho3)) (fun _ h_ => h_.1)); have n1_ := am (Kd.R_lower ho0 (below_size (by repeat (first | (with_reducible first | exact HB.out | apply below_alloc | apply pw_below_drewN | apply below_drew1) | exact HB.out)))); have n2_ := am (Kd.R_lower ho1 (below_size (by repeat (first | (with_reducible first | exact HB.out | apply below_alloc | apply pw_below_drewN | apply below_drew1) | exact HB.out)))); have n3_ := am (Kd.R_lower ho2 (below_size (by repeat (first | (with_reducible first | exact HB.out | apply below_alloc | apply pw_below_drewN | apply below_drew1) | exact HB.out)))); have n4_ := am (Kd.R_lower ho3 (below_size (by repeat (first | (with_reducible first | exact HB.out | apply below_alloc | apply pw_below_drewN | apply below_drew1) | exact HB.out)))); have n5_ := am (below_step (by repeat (first | (with_reducible first | exact HB.out | apply below_alloc | apply pw_below_drewN | apply below_drew1) | exact HB.out)) hb); clear HO_5 HB; revert n0_ n1_ n2_ n3_ n4_ n5_; intro HO_5 HO363 HO367 HO370 HO373 HB; (try clear hb); (try clear hb2); (try clear hk); (try clear hi); (try clear ho0); (try clear ho1); (try clear ho2); (try clear ho3); obtain ⟨Ao9, co9, eo9⟩ := Kd.R_slice HO363.out; subst eo9; obtain ⟨Ao10, co10, eo10⟩ := Kd.R_slice HO367.out; subst eo10; obtain ⟨Ao11, co11, eo11⟩ := Kd.R_slice HO370.out; subst eo11; obtain ⟨Ao12, co12, eo12⟩ := Kd.R_slice HO373.out; subst eo12) | ((with_reducible refine gate_builtin (b := .append) (xs := #[.tmp 13, .tmp 20]) rfl ?_); at_builtin; refine Kd.S_append k44 (w0 := w) w.heap.size rfl (.tmp 13) (.tmp 20) 31 44 (.agg #[(.slice none 0 0), (.int .i64 0), (.slice none 0 0), (.slice none 0 0), (.slice none 0 0)]) 104 rfl Try.underlying31 info44 rfl (by decide) (by omega) u5 x5_1 (⟨t361, t364, t365, t368, t371⟩ : S44) [.slice Ao9 t361.length co9, .int .i64 t364, .slice Ao10 t365.length co10, .slice Ao11 t368.length co11, .slice Ao12 t371.length co12] (fun _ => True) (fun k_ => some k_ = (.slice Ao9 t361.length co9 : Value).ownBlock ∨ some k_ = (.slice Ao10 t365.length co10 : Value).ownBlock ∨ some k_ = (.slice Ao11 t368.length co11 : Value).ownBlock ∨ some k_ = (.slice Ao12 t371.length co12 : Value).ownBlock) rfl rfl ?aP (fun k_ hk_ => hk_.elim (fun h_ => ((Kd.R_mono (ok' := fun k_ => ((fun _ => True)) k_ ∧ some k_ ≠ (u5 : Value).ownBlock) (Kd.R_apart' (HO363.out) (Kd.S_typed HO_5.out) (by decide)) (fun k_ hk => ⟨trivial, hk.2⟩))).1 k_ h_.symm) (fun h_ => h_.elim (fun h_ => ((Kd.R_mono (ok' := fun k_ => ((fun _ => True)) k_ ∧ some k_ ≠ (u5 : Value).ownBlock) (Kd.R_apart' (HO367.out) (Kd.S_typed HO_5.out) (by decide)) (fun k_ hk => ⟨trivial, hk.2⟩))).1 k_ h_.symm) (fun h_ => h_.elim (fun h_ => ((Kd.R_mono (ok' := fun k_ => ((fun _ => True)) k_ ∧ some k_ ≠ (u5 : Value).ownBlock) (Kd.R_apart' (HO370.out) (Kd.S_typed HO_5.out) (by decide)) (fun k_ hk => ⟨trivial, hk.2⟩))).1 k_ h_.symm) (fun h_ => ((Kd.R_mono (ok' := fun k_ => ((fun _ => True)) k_ ∧ some k_ ≠ (u5 : Value).ownBlock) (Kd.R_apart' (HO373.out) (Kd.S_typed HO_5.out) (by decide)) (fun k_ hk => ⟨trivial, hk.2⟩))).1 k_ h_.symm)))) ?aF ?aO ?aB ?aS ?aL ?_; (case aP => exact k44_mkM _ _ _ (⟨t361, t364, t365, t368, t371⟩ : S44) (Kd.R_mono (Kd.R_tight rfl (Kd.R_mono (ok' := fun k_ => ((fun _ => True)) k_ ∧ some k_ ≠ (u5 : Value).ownBlock) (Kd.R_apart' (HO363.out) (Kd.S_typed HO_5.out) (by decide)) (fun k_ hk => ⟨trivial, hk.2⟩))) (fun _ h_ => Or.inl h_)) (Kd.R_mono (Kd.R_tight rfl (Kd.R_mono (ok' := fun k_ => ((fun _ => True)) k_ ∧ some k_ ≠ (u5 : Value).ownBlock) (Kd.R_apart' (HO367.out) (Kd.S_typed HO_5.out) (by decide)) (fun k_ hk => ⟨trivial, hk.2⟩))) (fun _ h_ => Or.inr (Or.inl h_))) (Kd.R_mono (Kd.R_tight rfl (Kd.R_mono (ok' := fun k_ => ((fun _ => True)) k_ ∧ some k_ ≠ (u5 : Value).ownBlock) (Kd.R_apart' (HO370.out) (Kd.S_typed HO_5.out) (by decide)) (fun k_ hk => ⟨trivial, hk.2⟩))) (fun _ h_ => Or.inr (Or.inr (Or.inl h_)))) (Kd.R_mono (Kd.R_tight rfl (Kd.R_mono (ok' := fun k_ => ((fun _ => True)) k_ ∧ some k_ ≠ (u5 : Value).ownBlock) (Kd.R_apart' (HO373.out) (Kd.S_typed HO_5.out) (by decide)) (fun k_ hk => ⟨trivial, hk.2⟩))) (fun _ h_ => Or.inr (Or.inr (Or.inr (h_)))))); (case aB => exact (by repeat (first | (with_reducible first | exact HB.out | apply below_alloc | apply pw_below_drewN | apply below_drew1) | exact HB.out))); (case aF => exact (fun _ _ => trivial)); (case aO => exact (by (with_reducible repeat (first | apply Kd.S_alloc | apply Kd.S_drewN | apply Kd.S_drew)); exact Kd.S_mono HO_5.out (fun k_ hk => ⟨trivial, fun e_ => e_.elim (fun h_ => hk.1.1.1.2 h_) (fun h_ => h_.elim (fun h_ => hk.1.1.2 h_) (fun h_ => h_.elim (fun h_ => hk.1.2 h_) (fun h_ => hk.2 h_)))⟩))); (case aS => exact (below_size (by repeat (first | (with_reducible first | exact HB.out | apply below_alloc | apply pw_below_drewN | apply below_drew1) | exact HB.out)))); (case aL => have := LMc6.out; omega); intro v375 w8 ho hb hg hat; rw [← Ny374.out] at ho; have n0_ := am (hb); have n1_ := am (ho); clear HB HO_5 HO363 HO367 HO370 HO373; revert n0_ n1_; intro HB HO376; clear ho hb hg hat))
      go_roundg k1
      case measure => have := HK1.out; omega
      case rel => exact ⟨(y374), (wrap64 (x6_1 + 1)), (by first | rfl | (simp; done) | (simp [*]; done)), H', ⟨by have := HK1.out; omega⟩, ⟨by (with_reducible repeat (first | apply Kd.S_alloc | apply Kd.S_drewN | apply Kd.S_drew)); exact HO376.out⟩, ⟨by repeat (first | (with_reducible first | exact HB.out | apply below_alloc | apply pw_below_drewN | apply below_drew1) | exact HB.out)⟩⟩
     ·rw [if_neg c6] at H
      exact absurd H (by simp)
    ·rw [if_neg c4] at H
     exact absurd H (by simp)
   ·rw [if_neg c3] at H
    have c3b0 : decide (x6_1 < (l0.length : Int)) = false := decide_eq_false c3
    clear c3
    obtain rfl := Option.some.inj H
    go_wp2
    go_ret
    exact ⟨_, by first | rfl | (simp [errW_none, errW_some] <;> rfl) | (simp [*, errW_none, errW_some] <;> rfl), by (with_reducible repeat (first | apply Kd.S_alloc | apply Kd.S_drewN | apply Kd.S_drew)); exact HO_5.out, by repeat (first | (with_reducible first | exact HB.out | apply below_alloc | apply pw_below_drewN | apply below_drew1) | exact HB.out)⟩
def hypercubelaw2_within.f (a0 : Int) (a1 : Int) : Option (Int) := if a1 = 0 then (none) else (if (Int.tmod a0 a1) < 0 then (some (wrap64 ((Int.tmod a0 a1) + a1))) else (some (Int.tmod a0 a1)))
set_option maxHeartbeats 8000000 in
set_option maxRecDepth 100000 in
theorem hypercubelaw2_within.calls (a0 : Int) (a1 : Int) (r : Int) (w : World) (h : hypercubelaw2_within.f a0 a1 = some r) :
  Calls Try.prog 32 #[.int .i64 a0, .int .i64 a1] w fun e w' => e = .returned (.int .i64 r) ∧ Drawn0 w w' := by
 have H : (if a1 = 0 then (none) else (if (Int.tmod a0 a1) < 0 then (some (wrap64 ((Int.tmod a0 a1) + a1))) else (some (Int.tmod a0 a1)))) = some r := h
 clear h
 by_cases c3 : a1 = 0
 ·rw [if_pos c3] at H
  exact absurd H (by simp)
 ·rw [if_neg c3] at H
  have c3b0 : (a1 == 0) = false := beq_eq_false_iff_ne.mpr c3
  have c3b1 : (a1 != 0) = true := bne_iff_ne.mpr c3
  by_cases c4 : (Int.tmod a0 a1) < 0
  ·rw [if_pos c4] at H
   have c4b0 : decide ((Int.tmod a0 a1) < 0) = true := decide_eq_true c4
   clear c4
   obtain rfl := Option.some.inj H
   go_enter Try.func32, Try.ntmps32
   go_wp2
   go_ret
   exact ⟨by first | rfl | (simp; done) | (simp [*]; done), by repeat (first | exact Drawn0.refl _ | apply Drawn0.step)⟩
  ·rw [if_neg c4] at H
   have c4b0 : decide ((Int.tmod a0 a1) < 0) = false := decide_eq_false c4
   clear c4
   obtain rfl := Option.some.inj H
   go_enter Try.func32, Try.ntmps32
   go_wp2
   go_ret
   exact ⟨by first | rfl | (simp; done) | (simp [*]; done), by repeat (first | exact Drawn0.refl _ | apply Drawn0.step)⟩
def hypercubelaw2_Set.f (l0_0 : List Int) (a0_1 : Int) (a1 : Int) : Option (Int) := if 0 ≤ (IntKind.u64.wrap ((l0_0.length : Int))) then ((hypercubelaw2_within.f a1 (shl .i64 1 (IntKind.u64.wrap ((l0_0.length : Int))))).bind fun t378 => (some t378)) else (none)
set_option maxHeartbeats 8000000 in
set_option maxRecDepth 100000 in
theorem hypercubelaw2_Set.calls (A0_0 : Option Addr) (c0_0 : Nat) (l0_0 : List Int) (a0_1 : Int) (a1 : Int) (r : Int) (w : World) (hr0_0 : Kd.C (Kd.int .i64) w A0_0 l0_0.length l0_0) (hc0_0 : l0_0.length ≤ c0_0) (h : hypercubelaw2_Set.f l0_0 a0_1 a1 = some r) :
  Calls Try.prog 17 #[.agg #[.slice A0_0 l0_0.length c0_0, .int .i64 a0_1], .int .i64 a1] w fun e w' => e = .returned (.int .i64 r) ∧ Below w.heap.size w w' := by
 have hu25 := Try.underlying25
 have HR0_0 := am hr0_0
 have HC0_0 := am hc0_0
 clear hr0_0 hc0_0
 have HB := am (Below.refl w.heap.size w)
 have H : (if 0 ≤ (IntKind.u64.wrap ((l0_0.length : Int))) then ((hypercubelaw2_within.f a1 (shl .i64 1 (IntKind.u64.wrap ((l0_0.length : Int))))).bind fun t378 => (some t378)) else (none)) = some r := h
 clear h
 obtain ⟨ji3, hji3⟩ : ∃ j_ : Int, (IntKind.u64.wrap ((l0_0.length : Int))) = j_ := ⟨_, rfl⟩
 replace H : (if 0 ≤ (ji3) then ((hypercubelaw2_within.f a1 (shl .i64 1 (ji3))).bind fun t378 => (some t378)) else (none)) = some r := by first | (rw [hji3] at H; exact H) | (simp only [hji3] at H ⊢; exact H)
 by_cases c4 : 0 ≤ (ji3)
 ·rw [if_pos c4] at H
  have c4b0 := eq_true c4
  have c4b1 : decide (0 ≤ (ji3)) = true := decide_eq_true c4
  clear c4
  obtain ⟨ji5, hji5⟩ : ∃ j_ : Int, (shl .i64 1 (ji3)) = j_ := ⟨_, rfl⟩
  replace H : ((hypercubelaw2_within.f a1 (ji5)).bind fun t378 => (some t378)) = some r := by first | (rw [hji5] at H; exact H) | (simp only [hji5] at H ⊢; exact H)
  have hji5_ : (IntKind.i64.wrap (1 * 2 ^ min (ji3).toNat 64)) = ji5 := hji5
  have hji5z : (ji3) ≤ 64 → (IntKind.i64.wrap (1 * 2 ^ (ji3).toNat)) = ji5 := shl_small hji5
  have hji5u : (IntKind.i64.wrap (2 ^ min (ji3).toNat 64)) = ji5 := by have h_ := hji5_; rw [Int.one_mul] at h_; exact h_
  have hji5v : (ji3) ≤ 64 → (IntKind.i64.wrap (2 ^ (ji3).toNat)) = ji5 := fun hle_ => by have h_ := hji5z hle_; rw [Int.one_mul] at h_; exact h_
  have hji5y : (wrap64 (1 * 2 ^ min (ji3).toNat 64)) = ji5 := (i64_w _).symm.trans hji5_
  have hji5x : (ji3) ≤ 64 → (wrap64 (1 * 2 ^ (ji3).toNat)) = ji5 := fun h_ => (i64_w _).symm.trans (hji5z h_)
  replace H := Option.bind_eq_some_iff.mp H
  obtain ⟨t378, A60, H⟩ := H
  replace H : (some t378) = some r := H
  have A6 := am A60
  clear A60
  obtain rfl := Option.some.inj H
  go_enter Try.func17, Try.ntmps17
  go_wp2_with (first | ((with_reducible refine gate_dst (N := 2) rfl ?_); refine box_event ?hg (N := 2) ?hd (cs := #[.slice A0_0 l0_0.length c0_0, .int .i64 a0_1]) (t := 25) ?hr ?_; (case hd => rfl); (case hg => rfl); (case hr => first | (go_simp; done) | (go_simp; rfl)); intro gb377 hg w7 hbox hb; have n0_ := am (below_step (wmv HB.out) hb); have n1_ := am (hbox); have n2_ := am ((by rw [hg]; exact (below_size (wmv HB.out)) : w.heap.size ≤ gb377)); have n3_ := am ((by rw [hg]; exact (below_size (wmv HB.out)) : w.heap.size ≤ gb377)); clear HB; revert n0_ n1_ n2_ n3_; intro HB BK377 GW377 GE377; clear hb hbox hg; have hcz8_0 : w7.cell? ⟨gb377, 0, none⟩ = some (.slice A0_0 l0_0.length c0_0) := (blk_cell BK377.out 0).trans rfl; have hcz8_1 : w7.cell? ⟨gb377, 1, none⟩ = some (.int .i64 a0_1) := (blk_cell BK377.out 1).trans rfl; have hfz8_0 := blk_frozen BK377.out 0; have hfz8_1 := blk_frozen BK377.out 1) | ((with_reducible refine gate_callee (f := 32) rfl ?_); refine goesL_ (some 11) rfl rfl Try.func32 (by kernel_rfl) rfl #[.int .i64 a1, .int .i64 ji5] rfl (by (try simp only [List.map_toArray, List.map_cons, List.map_nil]); first | done | (simp only [hji5]; rfl) | rfl | (simp only [List.length_drop, List.length_take]; rfl)) ?_; (with_reducible refine (hypercubelaw2_within.calls a1 ji5 t378 _ A6.out).mono ?_); rintro e w' ⟨rfl, ⟨nd, rfl⟩⟩; refine ⟨_, rfl, ?_⟩))
  go_ret
  exact ⟨by first | rfl | (simp [errW_none, errW_some] <;> rfl) | (simp only [← hji3, ← hji5]; first | rfl | (simp [errW_none, errW_some] <;> rfl)) | (simp [*, errW_none, errW_some] <;> rfl), by repeat (first | (with_reducible first | exact HB.out | apply below_alloc | apply pw_below_drewN | apply below_drew1 | refine below_set ?_ GE377.out) | exact HB.out)⟩
 ·rw [if_neg c4] at H
  exact absurd H (by simp)
def hypercubelaw6_within.f (a0 : Int) (a1 : Int) : Option (Int) := if a1 = 0 then (none) else (if (Int.tmod a0 a1) < 0 then (some (wrap64 ((Int.tmod a0 a1) + a1))) else (some (Int.tmod a0 a1)))
set_option maxHeartbeats 8000000 in
set_option maxRecDepth 100000 in
theorem hypercubelaw6_within.calls (a0 : Int) (a1 : Int) (r : Int) (w : World) (h : hypercubelaw6_within.f a0 a1 = some r) :
  Calls Try.prog 18 #[.int .i64 a0, .int .i64 a1] w fun e w' => e = .returned (.int .i64 r) ∧ Drawn0 w w' := by
 have H : (if a1 = 0 then (none) else (if (Int.tmod a0 a1) < 0 then (some (wrap64 ((Int.tmod a0 a1) + a1))) else (some (Int.tmod a0 a1)))) = some r := h
 clear h
 by_cases c3 : a1 = 0
 ·rw [if_pos c3] at H
  exact absurd H (by simp)
 ·rw [if_neg c3] at H
  have c3b0 : (a1 == 0) = false := beq_eq_false_iff_ne.mpr c3
  have c3b1 : (a1 != 0) = true := bne_iff_ne.mpr c3
  by_cases c4 : (Int.tmod a0 a1) < 0
  ·rw [if_pos c4] at H
   have c4b0 : decide ((Int.tmod a0 a1) < 0) = true := decide_eq_true c4
   clear c4
   obtain rfl := Option.some.inj H
   go_enter Try.func18, Try.ntmps18
   go_wp2
   go_ret
   exact ⟨by first | rfl | (simp; done) | (simp [*]; done), by repeat (first | exact Drawn0.refl _ | apply Drawn0.step)⟩
  ·rw [if_neg c4] at H
   have c4b0 : decide ((Int.tmod a0 a1) < 0) = false := decide_eq_false c4
   clear c4
   obtain rfl := Option.some.inj H
   go_enter Try.func18, Try.ntmps18
   go_wp2
   go_ret
   exact ⟨by first | rfl | (simp; done) | (simp [*]; done), by repeat (first | exact Drawn0.refl _ | apply Drawn0.step)⟩
def hypercubelaw1_within.f (a0 : Int) (a1 : Int) : Option (Int) := if a1 = 0 then (none) else (if (Int.tmod a0 a1) < 0 then (some (wrap64 ((Int.tmod a0 a1) + a1))) else (some (Int.tmod a0 a1)))
set_option maxHeartbeats 8000000 in
set_option maxRecDepth 100000 in
theorem hypercubelaw1_within.calls (a0 : Int) (a1 : Int) (r : Int) (w : World) (h : hypercubelaw1_within.f a0 a1 = some r) :
  Calls Try.prog 28 #[.int .i64 a0, .int .i64 a1] w fun e w' => e = .returned (.int .i64 r) ∧ Drawn0 w w' := by
 have H : (if a1 = 0 then (none) else (if (Int.tmod a0 a1) < 0 then (some (wrap64 ((Int.tmod a0 a1) + a1))) else (some (Int.tmod a0 a1)))) = some r := h
 clear h
 by_cases c3 : a1 = 0
 ·rw [if_pos c3] at H
  exact absurd H (by simp)
 ·rw [if_neg c3] at H
  have c3b0 : (a1 == 0) = false := beq_eq_false_iff_ne.mpr c3
  have c3b1 : (a1 != 0) = true := bne_iff_ne.mpr c3
  by_cases c4 : (Int.tmod a0 a1) < 0
  ·rw [if_pos c4] at H
   have c4b0 : decide ((Int.tmod a0 a1) < 0) = true := decide_eq_true c4
   clear c4
   obtain rfl := Option.some.inj H
   go_enter Try.func28, Try.ntmps28
   go_wp2
   go_ret
   exact ⟨by first | rfl | (simp; done) | (simp [*]; done), by repeat (first | exact Drawn0.refl _ | apply Drawn0.step)⟩
  ·rw [if_neg c4] at H
   have c4b0 : decide ((Int.tmod a0 a1) < 0) = false := decide_eq_false c4
   clear c4
   obtain rfl := Option.some.inj H
   go_enter Try.func28, Try.ntmps28
   go_wp2
   go_ret
   exact ⟨by first | rfl | (simp; done) | (simp [*]; done), by repeat (first | exact Drawn0.refl _ | apply Drawn0.step)⟩
end Go.Proofs.Ytndkimjmbpbcmaa.Q
