-- packed by wip/tools/pack.py (a program of this session) out of its own texts
import Derived.Test.YtmkjkkmilopcpaaPCellGroups0
import Derived.ArgAppend
import Derived.Below
import Derived.BigQuiet
import Derived.Deep.AppendLies
import Derived.Deep.CutBlock
import Derived.Deep.DeepCutAuto
import Derived.Deep.Draws
import Derived.Deep.LoopGhost
import Derived.Deep.OwnRows
import Derived.Deep.QuietTactic
import Derived.Deep.RegionHeld3
import Derived.KernelRfl
import Derived.Laws.BitsLemmas
import Derived.Laws.BytesArg
import Derived.Laws.IdiomCopy
import Derived.Laws.MakeOwn
import Derived.Laws.OwnMore
import Derived.Laws.Rows
import Derived.Laws.Slices
import Derived.Lib.AppendStr
import Derived.Lib.ConvBytes
import Derived.Maps.AppendAt
import Derived.OrdersHeld
import Derived.OwnWalk
import Derived.RowKit
import Derived.RowKit3
import Derived.Tactics
import Derived.Test.YtmkjkkmilopcpaaProg
import Derived.WalkKit
import Derived.WideLaws
import Derived.Test.YtmkjkkmilopcpaaPCellGroups1
import Derived.Test.YtmkjkkmilopcpaaPCellGroups3
import Derived.Test.YtmkjkkmilopcpaaPCellGroups4
namespace Go.Proofs.Ytmkjkkmilopcpaa.Q
open Go.RowKit Go.Proofs.YtmkjkkmilopcpaaW.PrintWords Go.Proofs.YtmkjkkmilopcpaaW.PrintLast Go.Proofs.YtmkjkkmilopcpaaW.PrintMore
attribute [local go_sem] max2_int min2_int max_two min_two max_three min_three max_four min_four
set_option linter.unusedVariables false
set_option linter.unusedSimpArgs false
def errW : Option Int → Value
  | none => .nilIface
  | some c => .iface 0 (.int .i64 c)
theorem errW_none : errW none = .nilIface := rfl
theorem errW_some (c : Int) : errW (some c) = .iface 0 (.int .i64 c) := rfl
theorem info3 : (Try.prog.info? 3).map (fun i => (i.zero, i.size, i.bytes)) = some (some (.int .i64 0), 1, 8) := by kernel_rfl
theorem info30 : (Try.prog.info? 30).map (fun i => (i.zero, i.size, i.bytes)) = some (some (.agg #[(.slice none 0 0), (.int .i64 0), (.slice none 0 0), (.slice none 0 0), (.slice none 0 0)]), 5, 104) := by kernel_rfl
theorem info45 : (Try.prog.info? 45).map (fun i => (i.zero, i.size, i.bytes)) = some (some (.agg #[(.slice none 0 0), (.slice none 0 0)]), 2, 48) := by kernel_rfl
structure S30 where
  f0 : (List Int)
  f1 : Int
  f2 : (List Int)
  f3 : (List Int)
  f4 : (List Int)
def z30 : S30 := ⟨([] : List Int), (0 : Int), ([] : List Int), ([] : List Int), ([] : List Int)⟩
def k30 : Kd S30 := Kd.iso (Kd.pair (Kd.slice 3 (Kd.int .i64)) (Kd.pair (Kd.int .i64) (Kd.pair (Kd.slice 3 (Kd.int .i64)) (Kd.pair (Kd.slice 3 (Kd.int .i64)) (Kd.slice 3 (Kd.int .i64)))))) (fun x : S30 => (x.f0, x.f1, x.f2, x.f3, x.f4))
theorem k30_heap : Kd.Heap k30 := Kd.heap_iso _ (Kd.heap_pair (Kd.heap_slice 3 (Kd.heap_int .i64)) (Kd.heap_pair (Kd.heap_int .i64) (Kd.heap_pair (Kd.heap_slice 3 (Kd.heap_int .i64)) (Kd.heap_pair (Kd.heap_slice 3 (Kd.heap_int .i64)) (Kd.heap_slice 3 (Kd.heap_int .i64))))))
theorem k30_open {w : World} {x : S30} {cs : List Value} (h : k30.K w x cs) : ∃ A0 c0 A2 c2 A3 c3 A4 c4, cs = [.slice A0 x.f0.length c0, .int .i64 x.f1, .slice A2 x.f2.length c2, .slice A3 x.f3.length c3, .slice A4 x.f4.length c4] ∧ x.f0.length ≤ c0 ∧ (Kd.int .i64).C w A0 x.f0.length x.f0 ∧ x.f2.length ≤ c2 ∧ (Kd.int .i64).C w A2 x.f2.length x.f2 ∧ x.f3.length ≤ c3 ∧ (Kd.int .i64).C w A3 x.f3.length x.f3 ∧ x.f4.length ≤ c4 ∧ (Kd.int .i64).C w A4 x.f4.length x.f4 := by
  obtain ⟨_, _, rfl, ⟨A0, c0, rfl, l0, g0⟩, ⟨_, _, rfl, rfl, ⟨_, _, rfl, ⟨A2, c2, rfl, l2, g2⟩, ⟨_, _, rfl, ⟨A3, c3, rfl, l3, g3⟩, ⟨A4, c4, rfl, l4, g4⟩⟩⟩⟩⟩ := h
  exact ⟨A0, c0, A2, c2, A3, c3, A4, c4, rfl, l0, g0, l2, g2, l3, g3, l4, g4⟩
theorem k30_openM {w : World} {base : Nat} {ok : Nat → Prop} {x : S30} {cs : List Value} (h : k30.M w base ok x cs) : ∃ v0 v2 v3 v4, cs = [v0, .int .i64 x.f1, v2, v3, v4] ∧ (Kd.int .i64).R 3 w base ok v0 x.f0 ∧ (Kd.int .i64).R 3 w base ok v2 x.f2 ∧ (Kd.int .i64).R 3 w base ok v3 x.f3 ∧ (Kd.int .i64).R 3 w base ok v4 x.f4 := by
  obtain ⟨_, _, rfl, ⟨v0, rfl, g0⟩, ⟨_, _, rfl, rfl, ⟨_, _, rfl, ⟨v2, rfl, g2⟩, ⟨_, _, rfl, ⟨v3, rfl, g3⟩, ⟨v4, rfl, g4⟩⟩⟩⟩⟩ := h
  exact ⟨v0, v2, v3, v4, rfl, g0, g2, g3, g4⟩
theorem k30_mk (w : World) (x : S30) {A0 : Option Addr} {c0 : Nat} (l0 : x.f0.length ≤ c0) (g0 : (Kd.int .i64).C w A0 x.f0.length x.f0) {A2 : Option Addr} {c2 : Nat} (l2 : x.f2.length ≤ c2) (g2 : (Kd.int .i64).C w A2 x.f2.length x.f2) {A3 : Option Addr} {c3 : Nat} (l3 : x.f3.length ≤ c3) (g3 : (Kd.int .i64).C w A3 x.f3.length x.f3) {A4 : Option Addr} {c4 : Nat} (l4 : x.f4.length ≤ c4) (g4 : (Kd.int .i64).C w A4 x.f4.length x.f4) : k30.K w x [.slice A0 x.f0.length c0, .int .i64 x.f1, .slice A2 x.f2.length c2, .slice A3 x.f3.length c3, .slice A4 x.f4.length c4] := ⟨[.slice A0 x.f0.length c0], [.int .i64 x.f1, .slice A2 x.f2.length c2, .slice A3 x.f3.length c3, .slice A4 x.f4.length c4], rfl, ⟨A0, c0, rfl, l0, g0⟩, ⟨[.int .i64 x.f1], [.slice A2 x.f2.length c2, .slice A3 x.f3.length c3, .slice A4 x.f4.length c4], rfl, rfl, ⟨[.slice A2 x.f2.length c2], [.slice A3 x.f3.length c3, .slice A4 x.f4.length c4], rfl, ⟨A2, c2, rfl, l2, g2⟩, ⟨[.slice A3 x.f3.length c3], [.slice A4 x.f4.length c4], rfl, ⟨A3, c3, rfl, l3, g3⟩, ⟨A4, c4, rfl, l4, g4⟩⟩⟩⟩⟩
theorem k30_mkM (w : World) (base : Nat) (ok : Nat → Prop) (x : S30) {v0 : Value} (g0 : (Kd.int .i64).R 3 w base ok v0 x.f0) {v2 : Value} (g2 : (Kd.int .i64).R 3 w base ok v2 x.f2) {v3 : Value} (g3 : (Kd.int .i64).R 3 w base ok v3 x.f3) {v4 : Value} (g4 : (Kd.int .i64).R 3 w base ok v4 x.f4) : k30.M w base ok x [v0, .int .i64 x.f1, v2, v3, v4] := ⟨[v0], [.int .i64 x.f1, v2, v3, v4], rfl, ⟨v0, rfl, g0⟩, ⟨[.int .i64 x.f1], [v2, v3, v4], rfl, rfl, ⟨[v2], [v3, v4], rfl, ⟨v2, rfl, g2⟩, ⟨[v3], [v4], rfl, ⟨v3, rfl, g3⟩, ⟨v4, rfl, g4⟩⟩⟩⟩⟩
theorem k30_openF {W : World} {ok : Nat → Prop} {x : S30} {cs : List Value} (h : Kd.FK k30 W ok x cs) : ∃ A0 c0 A2 c2 A3 c3 A4 c4, cs = [.slice A0 x.f0.length c0, .int .i64 x.f1, .slice A2 x.f2.length c2, .slice A3 x.f3.length c3, .slice A4 x.f4.length c4] ∧ x.f0.length ≤ c0 ∧ Kd.F (Kd.int .i64) W ok A0 x.f0.length x.f0 ∧ x.f2.length ≤ c2 ∧ Kd.F (Kd.int .i64) W ok A2 x.f2.length x.f2 ∧ x.f3.length ≤ c3 ∧ Kd.F (Kd.int .i64) W ok A3 x.f3.length x.f3 ∧ x.f4.length ≤ c4 ∧ Kd.F (Kd.int .i64) W ok A4 x.f4.length x.f4 := by
  obtain ⟨A0, c0, A2, c2, A3, c3, A4, c4, rfl, l0, _, l2, _, l3, _, l4, _⟩ := k30_open (Kd.FK_now h)
  exact ⟨A0, c0, A2, c2, A3, c3, A4, c4, rfl, l0, (fun W' hW => by obtain ⟨A0_, c0_, A2_, c2_, A3_, c3_, A4_, c4_, he, l0_, g0_, l2_, g2_, l3_, g3_, l4_, g4_⟩ := k30_open (h W' hW); injection (Option.some.inj (show some (Value.slice A0 x.f0.length c0) = some (Value.slice A0_ x.f0.length c0_) from congrArg (fun l => l[0]?) he)) with ha_ _ _; rw [ha_]; exact g0_), l2, (fun W' hW => by obtain ⟨A0_, c0_, A2_, c2_, A3_, c3_, A4_, c4_, he, l0_, g0_, l2_, g2_, l3_, g3_, l4_, g4_⟩ := k30_open (h W' hW); injection (Option.some.inj (show some (Value.slice A2 x.f2.length c2) = some (Value.slice A2_ x.f2.length c2_) from congrArg (fun l => l[2]?) he)) with ha_ _ _; rw [ha_]; exact g2_), l3, (fun W' hW => by obtain ⟨A0_, c0_, A2_, c2_, A3_, c3_, A4_, c4_, he, l0_, g0_, l2_, g2_, l3_, g3_, l4_, g4_⟩ := k30_open (h W' hW); injection (Option.some.inj (show some (Value.slice A3 x.f3.length c3) = some (Value.slice A3_ x.f3.length c3_) from congrArg (fun l => l[3]?) he)) with ha_ _ _; rw [ha_]; exact g3_), l4, (fun W' hW => by obtain ⟨A0_, c0_, A2_, c2_, A3_, c3_, A4_, c4_, he, l0_, g0_, l2_, g2_, l3_, g3_, l4_, g4_⟩ := k30_open (h W' hW); injection (Option.some.inj (show some (Value.slice A4 x.f4.length c4) = some (Value.slice A4_ x.f4.length c4_) from congrArg (fun l => l[4]?) he)) with ha_ _ _; rw [ha_]; exact g4_)⟩
def rd_T30 (xs : List S30) (i : Int) : S30 := xs.getD i.toNat z30
theorem at_T30 {w : World} {A : Option Addr} {n : Nat} {xs : List S30} (h : Kd.C k30 w A n xs) (i : Int) (h0 : 0 ≤ i) (h1 : i < n) : ∃ ad A0 c0 A2 c2 A3 c3 A4 c4, A = some ad ∧ w.cell? (ad.add (i.toNat * 5)) = some (.slice A0 (rd_T30 xs i).f0.length c0) ∧ w.cell? ⟨(ad.add (i.toNat * 5)).block, (ad.add (i.toNat * 5)).off + 1, none⟩ = some (.int .i64 (rd_T30 xs i).f1) ∧ w.cell? ⟨(ad.add (i.toNat * 5)).block, (ad.add (i.toNat * 5)).off + 2, none⟩ = some (.slice A2 (rd_T30 xs i).f2.length c2) ∧ w.cell? ⟨(ad.add (i.toNat * 5)).block, (ad.add (i.toNat * 5)).off + 3, none⟩ = some (.slice A3 (rd_T30 xs i).f3.length c3) ∧ w.cell? ⟨(ad.add (i.toNat * 5)).block, (ad.add (i.toNat * 5)).off + 4, none⟩ = some (.slice A4 (rd_T30 xs i).f4.length c4) ∧ (rd_T30 xs i).f0.length ≤ c0 ∧ (Kd.int .i64).C w A0 (rd_T30 xs i).f0.length (rd_T30 xs i).f0 ∧ (rd_T30 xs i).f2.length ≤ c2 ∧ (Kd.int .i64).C w A2 (rd_T30 xs i).f2.length (rd_T30 xs i).f2 ∧ (rd_T30 xs i).f3.length ≤ c3 ∧ (Kd.int .i64).C w A3 (rd_T30 xs i).f3.length (rd_T30 xs i).f3 ∧ (rd_T30 xs i).f4.length ≤ c4 ∧ (Kd.int .i64).C w A4 (rd_T30 xs i).f4.length (rd_T30 xs i).f4 := by
  obtain ⟨ad, c, e, _, hK, hc0⟩ := Kd.C_get h z30 i h0 h1
  have hc : ∀ j u, c[j]? = some u → w.cell? (ad.add (i.toNat * 5 + j)) = some u := hc0
  obtain ⟨A0, c0, A2, c2, A3, c3, A4, c4, rfl, l0, g0, l2, g2, l3, g3, l4, g4⟩ := k30_open hK
  exact ⟨ad, A0, c0, A2, c2, A3, c3, A4, c4, e, hc 0 _ rfl, by rw [← add_field _ _ 1 (by omega)]; exact hc 1 _ rfl, by rw [← add_field _ _ 2 (by omega)]; exact hc 2 _ rfl, by rw [← add_field _ _ 3 (by omega)]; exact hc 3 _ rfl, by rw [← add_field _ _ 4 (by omega)]; exact hc 4 _ rfl, l0, g0, l2, g2, l3, g3, l4, g4⟩
structure S45 where
  f0 : (List Int)
  f1 : (List Int)
def z45 : S45 := ⟨([] : List Int), ([] : List Int)⟩
def k45 : Kd S45 := Kd.iso (Kd.pair (Kd.slice 3 (Kd.int .i64)) (Kd.slice 3 (Kd.int .i64))) (fun x : S45 => (x.f0, x.f1))
theorem k45_open {w : World} {x : S45} {cs : List Value} (h : k45.K w x cs) : ∃ A0 c0 A1 c1, cs = [.slice A0 x.f0.length c0, .slice A1 x.f1.length c1] ∧ x.f0.length ≤ c0 ∧ (Kd.int .i64).C w A0 x.f0.length x.f0 ∧ x.f1.length ≤ c1 ∧ (Kd.int .i64).C w A1 x.f1.length x.f1 := by
  obtain ⟨_, _, rfl, ⟨A0, c0, rfl, l0, g0⟩, ⟨A1, c1, rfl, l1, g1⟩⟩ := h
  exact ⟨A0, c0, A1, c1, rfl, l0, g0, l1, g1⟩
theorem k45_mkM (w : World) (base : Nat) (ok : Nat → Prop) (x : S45) {v0 : Value} (g0 : (Kd.int .i64).R 3 w base ok v0 x.f0) {v1 : Value} (g1 : (Kd.int .i64).R 3 w base ok v1 x.f1) : k45.M w base ok x [v0, v1] := ⟨[v0], [v1], rfl, ⟨v0, rfl, g0⟩, ⟨v1, rfl, g1⟩⟩
def rd_T45 (xs : List S45) (i : Int) : S45 := xs.getD i.toNat z45
theorem at_T45 {w : World} {A : Option Addr} {n : Nat} {xs : List S45} (h : Kd.C k45 w A n xs) (i : Int) (h0 : 0 ≤ i) (h1 : i < n) : ∃ ad A0 c0 A1 c1, A = some ad ∧ w.cell? (ad.add (i.toNat * 2)) = some (.slice A0 (rd_T45 xs i).f0.length c0) ∧ w.cell? ⟨(ad.add (i.toNat * 2)).block, (ad.add (i.toNat * 2)).off + 1, none⟩ = some (.slice A1 (rd_T45 xs i).f1.length c1) ∧ (rd_T45 xs i).f0.length ≤ c0 ∧ (Kd.int .i64).C w A0 (rd_T45 xs i).f0.length (rd_T45 xs i).f0 ∧ (rd_T45 xs i).f1.length ≤ c1 ∧ (Kd.int .i64).C w A1 (rd_T45 xs i).f1.length (rd_T45 xs i).f1 := by
  obtain ⟨ad, c, e, _, hK, hc0⟩ := Kd.C_get h z45 i h0 h1
  have hc : ∀ j u, c[j]? = some u → w.cell? (ad.add (i.toNat * 2 + j)) = some u := hc0
  obtain ⟨A0, c0, A1, c1, rfl, l0, g0, l1, g1⟩ := k45_open hK
  exact ⟨ad, A0, c0, A1, c1, e, hc 0 _ rfl, by rw [← add_field _ _ 1 (by omega)]; exact hc 1 _ rfl, l0, g0, l1, g1⟩
def cmp_isNaN_int.f (a0 : Int) : Option (Bool) := some (a0 != a0)
set_option maxHeartbeats 8000000 in
set_option maxRecDepth 100000 in
theorem cmp_isNaN_int.calls (a0 : Int) (r : Bool) (w : World) (h : cmp_isNaN_int.f a0 = some r) :
  Calls Try.prog 71 #[.int .i64 a0] w fun e w' => e = .returned (.bool r) ∧ Drawn0 w w' := by
 have H : (some (a0 != a0)) = some r := h
 clear h
 obtain rfl := Option.some.inj H
 go_enter Try.func71, Try.ntmps71
 go_wp2
 go_ret
 exact ⟨by first | rfl | (simp; done) | (simp [*]; done), by repeat (first | exact Drawn0.refl _ | apply Drawn0.step)⟩
def cmp_Compare_int.f (a0 : Int) (a1 : Int) : Option (Int) := (cmp_isNaN_int.f a0).bind fun t101 => ((cmp_isNaN_int.f a1).bind fun t102 => (if t101 = true then (if t102 = true then (some 0) else (some (-1))) else (if t102 = true then (some 1) else (if a0 < a1 then (some (-1)) else (if a0 > a1 then (some 1) else (some 0))))))
set_option maxHeartbeats 8000000 in
set_option maxRecDepth 100000 in
theorem cmp_Compare_int.calls (a0 : Int) (a1 : Int) (r : Int) (w : World) (h : cmp_Compare_int.f a0 a1 = some r) :
  Calls Try.prog 63 #[.int .i64 a0, .int .i64 a1] w fun e w' => e = .returned (.int .i64 r) ∧ Drawn0 w w' := by
 have H : ((cmp_isNaN_int.f a0).bind fun t101 => ((cmp_isNaN_int.f a1).bind fun t102 => (if t101 = true then (if t102 = true then (some 0) else (some (-1))) else (if t102 = true then (some 1) else (if a0 < a1 then (some (-1)) else (if a0 > a1 then (some 1) else (some 0))))))) = some r := h
 clear h
 replace H := Option.bind_eq_some_iff.mp H
 obtain ⟨t101, A30, H⟩ := H
 replace H : ((cmp_isNaN_int.f a1).bind fun t102 => (if t101 = true then (if t102 = true then (some 0) else (some (-1))) else (if t102 = true then (some 1) else (if a0 < a1 then (some (-1)) else (if a0 > a1 then (some 1) else (some 0)))))) = some r := H
 have A3 := am A30
 clear A30
 replace H := Option.bind_eq_some_iff.mp H
 obtain ⟨t102, A40, H⟩ := H
 replace H : (if t101 = true then (if t102 = true then (some 0) else (some (-1))) else (if t102 = true then (some 1) else (if a0 < a1 then (some (-1)) else (if a0 > a1 then (some 1) else (some 0))))) = some r := H
 have A4 := am A40
 clear A40
 by_cases c5 : t101 = true
 ·subst c5
  have H1 : (if t102 = true then (some 0) else (some (-1))) = some r := by rw [if_pos rfl] at H; exact H
  clear H
  have H := H1
  clear H1
  by_cases c6 : t102 = true
  ·subst c6
   have H1 : (some 0) = some r := by rw [if_pos rfl] at H; exact H
   clear H
   have H := H1
   clear H1
   obtain rfl := Option.some.inj H
   go_enter Try.func63, Try.ntmps63
   go_wp2_with (first | ((with_reducible refine gate_callee (f := 71) rfl ?_); refine goesL_ (some 8) rfl rfl Try.func71 (by kernel_rfl) rfl #[.int .i64 a0] rfl (by (try simp only [List.map_toArray, List.map_cons, List.map_nil]); first | done | rfl | (simp only [List.length_drop, List.length_take]; rfl)) ?_; (with_reducible refine (cmp_isNaN_int.calls a0 true _ A3.out).mono ?_); rintro e w' ⟨rfl, ⟨nd, rfl⟩⟩; refine ⟨_, rfl, ?_⟩) | ((with_reducible refine gate_callee (f := 71) rfl ?_); refine goesL_ (some 10) rfl rfl Try.func71 (by kernel_rfl) rfl #[.int .i64 a1] rfl (by (try simp only [List.map_toArray, List.map_cons, List.map_nil]); first | done | rfl | (simp only [List.length_drop, List.length_take]; rfl)) ?_; (with_reducible refine (cmp_isNaN_int.calls a1 true _ A4.out).mono ?_); rintro e w' ⟨rfl, ⟨nd, rfl⟩⟩; refine ⟨_, rfl, ?_⟩))
   go_ret
   exact ⟨by first | rfl | (simp; done) | (simp [*]; done), by repeat (first | exact Drawn0.refl _ | apply Drawn0.step)⟩
  ·replace c6 := Bool.eq_false_iff.mpr c6
   subst c6
   have H1 : (some (-1)) = some r := by rw [if_neg (show ¬ (false = true) by decide)] at H; exact H
   clear H
   have H := H1
   clear H1
   obtain rfl := Option.some.inj H
   go_enter Try.func63, Try.ntmps63
   go_wp2_with (first | ((with_reducible refine gate_callee (f := 71) rfl ?_); refine goesL_ (some 8) rfl rfl Try.func71 (by kernel_rfl) rfl #[.int .i64 a0] rfl (by (try simp only [List.map_toArray, List.map_cons, List.map_nil]); first | done | rfl | (simp only [List.length_drop, List.length_take]; rfl)) ?_; (with_reducible refine (cmp_isNaN_int.calls a0 true _ A3.out).mono ?_); rintro e w' ⟨rfl, ⟨nd, rfl⟩⟩; refine ⟨_, rfl, ?_⟩) | ((with_reducible refine gate_callee (f := 71) rfl ?_); refine goesL_ (some 10) rfl rfl Try.func71 (by kernel_rfl) rfl #[.int .i64 a1] rfl (by (try simp only [List.map_toArray, List.map_cons, List.map_nil]); first | done | rfl | (simp only [List.length_drop, List.length_take]; rfl)) ?_; (with_reducible refine (cmp_isNaN_int.calls a1 false _ A4.out).mono ?_); rintro e w' ⟨rfl, ⟨nd, rfl⟩⟩; refine ⟨_, rfl, ?_⟩))
   go_ret
   exact ⟨by first | rfl | (simp; done) | (simp [*]; done), by repeat (first | exact Drawn0.refl _ | apply Drawn0.step)⟩
 ·replace c5 := Bool.eq_false_iff.mpr c5
  subst c5
  have H1 : (if t102 = true then (some 1) else (if a0 < a1 then (some (-1)) else (if a0 > a1 then (some 1) else (some 0)))) = some r := by rw [if_neg (show ¬ (false = true) by decide)] at H; exact H
  clear H
  have H := H1
  clear H1
  by_cases c7 : t102 = true
  ·subst c7
   have H1 : (some 1) = some r := by rw [if_pos rfl] at H; exact H
   clear H
   have H := H1
   clear H1
   obtain rfl := Option.some.inj H
   go_enter Try.func63, Try.ntmps63
   go_wp2_with (first | ((with_reducible refine gate_callee (f := 71) rfl ?_); refine goesL_ (some 8) rfl rfl Try.func71 (by kernel_rfl) rfl #[.int .i64 a0] rfl (by (try simp only [List.map_toArray, List.map_cons, List.map_nil]); first | done | rfl | (simp only [List.length_drop, List.length_take]; rfl)) ?_; (with_reducible refine (cmp_isNaN_int.calls a0 false _ A3.out).mono ?_); rintro e w' ⟨rfl, ⟨nd, rfl⟩⟩; refine ⟨_, rfl, ?_⟩) | ((with_reducible refine gate_callee (f := 71) rfl ?_); refine goesL_ (some 10) rfl rfl Try.func71 (by kernel_rfl) rfl #[.int .i64 a1] rfl (by (try simp only [List.map_toArray, List.map_cons, List.map_nil]); first | done | rfl | (simp only [List.length_drop, List.length_take]; rfl)) ?_; (with_reducible refine (cmp_isNaN_int.calls a1 true _ A4.out).mono ?_); rintro e w' ⟨rfl, ⟨nd, rfl⟩⟩; refine ⟨_, rfl, ?_⟩))
   go_ret
   exact ⟨by first | rfl | (simp; done) | (simp [*]; done), by repeat (first | exact Drawn0.refl _ | apply Drawn0.step)⟩
  ·replace c7 := Bool.eq_false_iff.mpr c7
   subst c7
   have H1 : (if a0 < a1 then (some (-1)) else (if a0 > a1 then (some 1) else (some 0))) = some r := by rw [if_neg (show ¬ (false = true) by decide)] at H; exact H
   clear H
   have H := H1
   clear H1
   by_cases c8 : a0 < a1
   ·rw [if_pos c8] at H
    have c8b0 : decide (a0 < a1) = true := decide_eq_true c8
    clear c8
    obtain rfl := Option.some.inj H
    go_enter Try.func63, Try.ntmps63
    go_wp2_with (first | ((with_reducible refine gate_callee (f := 71) rfl ?_); refine goesL_ (some 8) rfl rfl Try.func71 (by kernel_rfl) rfl #[.int .i64 a0] rfl (by (try simp only [List.map_toArray, List.map_cons, List.map_nil]); first | done | rfl | (simp only [List.length_drop, List.length_take]; rfl)) ?_; (with_reducible refine (cmp_isNaN_int.calls a0 false _ A3.out).mono ?_); rintro e w' ⟨rfl, ⟨nd, rfl⟩⟩; refine ⟨_, rfl, ?_⟩) | ((with_reducible refine gate_callee (f := 71) rfl ?_); refine goesL_ (some 10) rfl rfl Try.func71 (by kernel_rfl) rfl #[.int .i64 a1] rfl (by (try simp only [List.map_toArray, List.map_cons, List.map_nil]); first | done | rfl | (simp only [List.length_drop, List.length_take]; rfl)) ?_; (with_reducible refine (cmp_isNaN_int.calls a1 false _ A4.out).mono ?_); rintro e w' ⟨rfl, ⟨nd, rfl⟩⟩; refine ⟨_, rfl, ?_⟩))
    go_ret
    exact ⟨by first | rfl | (simp; done) | (simp [*]; done), by repeat (first | exact Drawn0.refl _ | apply Drawn0.step)⟩
   ·rw [if_neg c8] at H
    have c8b0 : decide (a0 < a1) = false := decide_eq_false c8
    clear c8
    by_cases c9 : a0 > a1
    ·rw [if_pos c9] at H
     have c9b0 : decide (a1 < a0) = true := decide_eq_true c9
     clear c9
     obtain rfl := Option.some.inj H
     go_enter Try.func63, Try.ntmps63
     go_wp2_with (first | ((with_reducible refine gate_callee (f := 71) rfl ?_); refine goesL_ (some 8) rfl rfl Try.func71 (by kernel_rfl) rfl #[.int .i64 a0] rfl (by (try simp only [List.map_toArray, List.map_cons, List.map_nil]); first | done | rfl | (simp only [List.length_drop, List.length_take]; rfl)) ?_; (with_reducible refine (cmp_isNaN_int.calls a0 false _ A3.out).mono ?_); rintro e w' ⟨rfl, ⟨nd, rfl⟩⟩; refine ⟨_, rfl, ?_⟩) | ((with_reducible refine gate_callee (f := 71) rfl ?_); refine goesL_ (some 10) rfl rfl Try.func71 (by kernel_rfl) rfl #[.int .i64 a1] rfl (by (try simp only [List.map_toArray, List.map_cons, List.map_nil]); first | done | rfl | (simp only [List.length_drop, List.length_take]; rfl)) ?_; (with_reducible refine (cmp_isNaN_int.calls a1 false _ A4.out).mono ?_); rintro e w' ⟨rfl, ⟨nd, rfl⟩⟩; refine ⟨_, rfl, ?_⟩))
     go_ret
     exact ⟨by first | rfl | (simp; done) | (simp [*]; done), by repeat (first | exact Drawn0.refl _ | apply Drawn0.step)⟩
    ·rw [if_neg c9] at H
     have c9b0 : decide (a1 < a0) = false := decide_eq_false c9
     clear c9
     obtain rfl := Option.some.inj H
     go_enter Try.func63, Try.ntmps63
     go_wp2_with (first | ((with_reducible refine gate_callee (f := 71) rfl ?_); refine goesL_ (some 8) rfl rfl Try.func71 (by kernel_rfl) rfl #[.int .i64 a0] rfl (by (try simp only [List.map_toArray, List.map_cons, List.map_nil]); first | done | rfl | (simp only [List.length_drop, List.length_take]; rfl)) ?_; (with_reducible refine (cmp_isNaN_int.calls a0 false _ A3.out).mono ?_); rintro e w' ⟨rfl, ⟨nd, rfl⟩⟩; refine ⟨_, rfl, ?_⟩) | ((with_reducible refine gate_callee (f := 71) rfl ?_); refine goesL_ (some 10) rfl rfl Try.func71 (by kernel_rfl) rfl #[.int .i64 a1] rfl (by (try simp only [List.map_toArray, List.map_cons, List.map_nil]); first | done | rfl | (simp only [List.length_drop, List.length_take]; rfl)) ?_; (with_reducible refine (cmp_isNaN_int.calls a1 false _ A4.out).mono ?_); rintro e w' ⟨rfl, ⟨nd, rfl⟩⟩; refine ⟨_, rfl, ?_⟩))
     go_ret
     exact ⟨by first | rfl | (simp; done) | (simp [*]; done), by repeat (first | exact Drawn0.refl _ | apply Drawn0.step)⟩
def slices_Compare_int_int.l0 : Nat → List Int → List Int → List Int → Int → Int → Option (Int)
 | 0, _, _, _, _, _ => none
 | k + 1, x0, x1, x9, x10, x11 => if x11 < x10 then (if 0 ≤ x11 then (if x11 < (x9.length : Int) then (if x11 ≥ (x1.length : Int) then (some 1) else (if x11 < (x1.length : Int) then ((cmp_Compare_int.f (rd x9 x11) (rd x1 x11)).bind fun t105 => (if t105 = 0 then (slices_Compare_int_int.l0 k x0 x1 x9 x10 (wrap64 (x11 + 1))) else (some t105))) else (none))) else (none)) else (none)) else (if (x0.length : Int) < (x1.length : Int) then (some (-1)) else (some 0))
def slices_Compare_int_int.f (k : Nat) (l0 : List Int) (l1 : List Int) : Option (Int) := slices_Compare_int_int.l0 k l0 l1 l0 (l0.length : Int) 0
set_option maxHeartbeats 8000000 in
set_option maxRecDepth 100000 in
theorem slices_Compare_int_int.calls (k : Nat) (A0 : Option Addr) (c0 : Nat) (l0 : List Int) (A1 : Option Addr) (c1 : Nat) (l1 : List Int) (r : Int) (w : World) (hr0 : Kd.C (Kd.int .i64) w A0 l0.length l0) (hc0 : l0.length ≤ c0) (hr1 : Kd.C (Kd.int .i64) w A1 l1.length l1) (hc1 : l1.length ≤ c1) (h : slices_Compare_int_int.f k l0 l1 = some r) :
  Calls Try.prog 39 #[.slice A0 l0.length c0, .slice A1 l1.length c1] w fun e w' => e = .returned (.int .i64 r) ∧ Drawn0 w w' := by
 have HR0 := am hr0
 have HC0 := am hc0
 clear hr0 hc0
 have HR1 := am hr1
 have HC1 := am hc1
 clear hr1 hc1
 have H : (slices_Compare_int_int.l0 k l0 l1 l0 (l0.length : Int) 0) = some r := h
 clear h
 have H' := am H
 clear H
 go_enter Try.func39, Try.ntmps39
 go_wp2
 go_loopg [11] k (fun kq v11 w' => ∃ (x11_1 : Int), v11 = .int .i64 x11_1 ∧ Aside0 (slices_Compare_int_int.l0 kq l0 l1 l0 (l0.length : Int) x11_1 = some r) ∧ Aside0 (kq ≤ k) ∧ Drawn0 w w')
 case atStart => exact ⟨(0), (by first | rfl | (simp; done) | (simp [*]; done)), H', ⟨Nat.le_refl _⟩, by repeat (first | exact Drawn0.refl _ | apply Drawn0.step)⟩
 case round =>
  clear H'
  try clear c1
  try clear p2
  obtain ⟨x11_1, rfl, HA, HK1, ⟨m1, rfl⟩⟩ := hrel
  cases gk with
  | zero => exact absurd HA.out (by simp [slices_Compare_int_int.l0])
  | succ k1 =>
   have H := HA.out
   clear HA
   simp only [slices_Compare_int_int.l0] at H
   by_cases c3 : x11_1 < (l0.length : Int)
   ·rw [if_pos c3] at H
    have c3b0 : decide (x11_1 < (l0.length : Int)) = true := decide_eq_true c3
    clear c3
    by_cases c4 : 0 ≤ x11_1
    ·rw [if_pos c4] at H
     have c4b0 : decide (0 ≤ x11_1) = true := decide_eq_true c4
     clear c4
     by_cases c5 : x11_1 < (l0.length : Int)
     ·rw [if_pos c5] at H
      have c5b0 : decide (x11_1 < (l0.length : Int)) = true := decide_eq_true c5
      clear c5
      by_cases c6 : x11_1 ≥ (l1.length : Int)
      ·rw [if_pos c6] at H
       have c6b0 : decide ((l1.length : Int) ≤ x11_1) = true := decide_eq_true c6
       clear c6
       obtain rfl := Option.some.inj H
       have p103 : 0 ≤ (x11_1 : Int) := of_decide_eq_true (by first | (with_reducible assumption) | assumption)
       have q103 : x11_1 < (l0.length : Int) := of_decide_eq_true (by first | (with_reducible assumption) | assumption)
       obtain ⟨ad103, e103, hx103_0⟩ := Kd.at_int HR0.out x11_1 p103 q103
       cases e103
       replace p103 := eq_true p103
       replace q103 := eq_true q103
       go_wp2
       go_ret
       exact ⟨by first | rfl | (simp; done) | (simp [*]; done), by repeat (first | exact Drawn0.refl _ | apply Drawn0.step)⟩
      ·rw [if_neg c6] at H
       have c6b0 : decide ((l1.length : Int) ≤ x11_1) = false := decide_eq_false c6
       clear c6
       by_cases c7 : x11_1 < (l1.length : Int)
       ·rw [if_pos c7] at H
        have c7b0 : decide (x11_1 < (l1.length : Int)) = true := decide_eq_true c7
        clear c7
        replace H := Option.bind_eq_some_iff.mp H
        obtain ⟨t105, A80, H⟩ := H
        replace H : (if t105 = 0 then (slices_Compare_int_int.l0 k1 l0 l1 l0 (l0.length : Int) (wrap64 (x11_1 + 1))) else (some t105)) = some r := H
        have A8 := am A80
        clear A80
        by_cases c9 : t105 = 0
        ·rw [if_pos c9] at H
         have c9b0 : (t105 == 0) = true := beq_iff_eq.mpr c9
         have c9b1 : (t105 != 0) = false := bne_eq_false_iff_eq.mpr c9
         clear c9
         have H' := am H
         clear H
         have p103 : 0 ≤ (x11_1 : Int) := of_decide_eq_true (by first | (with_reducible assumption) | assumption)
         have q103 : x11_1 < (l0.length : Int) := of_decide_eq_true (by first | (with_reducible assumption) | assumption)
         obtain ⟨ad103, e103, hx103_0⟩ := Kd.at_int HR0.out x11_1 p103 q103
         cases e103
         replace p103 := eq_true p103
         replace q103 := eq_true q103
         have p104 : 0 ≤ (x11_1 : Int) := of_decide_eq_true (by first | (with_reducible assumption) | assumption)
         have q104 : x11_1 < (l1.length : Int) := of_decide_eq_true (by first | (with_reducible assumption) | assumption)
         obtain ⟨ad104, e104, hx104_0⟩ := Kd.at_int HR1.out x11_1 p104 q104
         cases e104
         replace p104 := eq_true p104
         replace q104 := eq_true q104
         go_wp2_with (first | ((with_reducible refine gate_callee (f := 63) rfl ?_); refine goesL_ (some 26) rfl rfl Try.func63 (by kernel_rfl) rfl #[.int .i64 (rd l0 x11_1), .int .i64 (rd l1 x11_1)] rfl (by (try simp only [List.map_toArray, List.map_cons, List.map_nil]); first | done | rfl | (simp only [List.length_drop, List.length_take]; rfl)) ?_; (with_reducible refine (cmp_Compare_int.calls (rd l0 x11_1) (rd l1 x11_1) t105 _ A8.out).mono ?_); rintro e w' ⟨rfl, ⟨nd, rfl⟩⟩; refine ⟨_, rfl, ?_⟩))
         go_roundg k1
         case measure => have := HK1.out; omega
         case rel => exact ⟨(wrap64 (x11_1 + 1)), (by first | rfl | (simp; done) | (simp [*]; done)), H', ⟨by have := HK1.out; omega⟩, by repeat (first | exact Drawn0.refl _ | apply Drawn0.step)⟩
        ·rw [if_neg c9] at H
         have c9b0 : (t105 == 0) = false := beq_eq_false_iff_ne.mpr c9
         have c9b1 : (t105 != 0) = true := bne_iff_ne.mpr c9
         obtain rfl := Option.some.inj H
         have p103 : 0 ≤ (x11_1 : Int) := of_decide_eq_true (by first | (with_reducible assumption) | assumption)
         have q103 : x11_1 < (l0.length : Int) := of_decide_eq_true (by first | (with_reducible assumption) | assumption)
         obtain ⟨ad103, e103, hx103_0⟩ := Kd.at_int HR0.out x11_1 p103 q103
         cases e103
         replace p103 := eq_true p103
         replace q103 := eq_true q103
         have p104 : 0 ≤ (x11_1 : Int) := of_decide_eq_true (by first | (with_reducible assumption) | assumption)
         have q104 : x11_1 < (l1.length : Int) := of_decide_eq_true (by first | (with_reducible assumption) | assumption)
         obtain ⟨ad104, e104, hx104_0⟩ := Kd.at_int HR1.out x11_1 p104 q104
         cases e104
         replace p104 := eq_true p104
         replace q104 := eq_true q104
         go_wp2_with (first | ((with_reducible refine gate_callee (f := 63) rfl ?_); refine goesL_ (some 26) rfl rfl Try.func63 (by kernel_rfl) rfl #[.int .i64 (rd l0 x11_1), .int .i64 (rd l1 x11_1)] rfl (by (try simp only [List.map_toArray, List.map_cons, List.map_nil]); first | done | rfl | (simp only [List.length_drop, List.length_take]; rfl)) ?_; (with_reducible refine (cmp_Compare_int.calls (rd l0 x11_1) (rd l1 x11_1) t105 _ A8.out).mono ?_); rintro e w' ⟨rfl, ⟨nd, rfl⟩⟩; refine ⟨_, rfl, ?_⟩))
         go_ret
         exact ⟨by first | rfl | (simp; done) | (simp [*]; done), by repeat (first | exact Drawn0.refl _ | apply Drawn0.step)⟩
       ·rw [if_neg c7] at H
        exact absurd H (by simp)
     ·rw [if_neg c5] at H
      exact absurd H (by simp)
    ·rw [if_neg c4] at H
     exact absurd H (by simp)
   ·rw [if_neg c3] at H
    have c3b0 : decide (x11_1 < (l0.length : Int)) = false := decide_eq_false c3
    clear c3
    by_cases c10 : (l0.length : Int) < (l1.length : Int)
    ·rw [if_pos c10] at H
     have c10b0 : decide ((l0.length : Int) < (l1.length : Int)) = true := decide_eq_true c10
     have c10b1 : decide (l0.length < l1.length) = true := decide_eq_true (Int.ofNat_lt.mp c10)
     clear c10
     obtain rfl := Option.some.inj H
     go_wp2
     go_ret
     exact ⟨by first | rfl | (simp; done) | (simp [*]; done), by repeat (first | exact Drawn0.refl _ | apply Drawn0.step)⟩
    ·rw [if_neg c10] at H
     have c10b0 : decide ((l0.length : Int) < (l1.length : Int)) = false := decide_eq_false c10
     have c10b1 : decide (l0.length < l1.length) = false := decide_eq_false (fun h => c10 (Int.ofNat_lt.mpr h))
     clear c10
     obtain rfl := Option.some.inj H
     go_wp2
     go_ret
     exact ⟨by first | rfl | (simp; done) | (simp [*]; done), by repeat (first | exact Drawn0.refl _ | apply Drawn0.step)⟩
def cell_Less.f (k : Nat) (l0 : List Int) (l1 : List Int) : Option (Int) := (slices_Compare_int_int.f k l0 l1).bind fun t106 => (some t106)
set_option maxHeartbeats 8000000 in
set_option maxRecDepth 100000 in
theorem cell_Less.calls (k : Nat) (A0 : Option Addr) (c0 : Nat) (l0 : List Int) (A1 : Option Addr) (c1 : Nat) (l1 : List Int) (r : Int) (w : World) (hr0 : Kd.C (Kd.int .i64) w A0 l0.length l0) (hc0 : l0.length ≤ c0) (hr1 : Kd.C (Kd.int .i64) w A1 l1.length l1) (hc1 : l1.length ≤ c1) (h : cell_Less.f k l0 l1 = some r) :
  Calls Try.prog 17 #[.slice A0 l0.length c0, .slice A1 l1.length c1] w fun e w' => e = .returned (.int .i64 r) ∧ Drawn0 w w' := by
 have HR0 := am hr0
 have HC0 := am hc0
 clear hr0 hc0
 have HR1 := am hr1
 have HC1 := am hc1
 clear hr1 hc1
 have H : ((slices_Compare_int_int.f k l0 l1).bind fun t106 => (some t106)) = some r := h
 clear h
 replace H := Option.bind_eq_some_iff.mp H
 obtain ⟨t106, A30, H⟩ := H
 replace H : (some t106) = some r := H
 have A3 := am A30
 clear A30
 obtain rfl := Option.some.inj H
 go_enter Try.func17, Try.ntmps17
 go_wp2_with (first | ((with_reducible refine gate_callee (f := 39) rfl ?_); refine goesL_ (some 7) rfl rfl Try.func39 (by kernel_rfl) rfl #[.slice A0 l0.length c0, .slice A1 l1.length c1] rfl (by (try simp only [List.map_toArray, List.map_cons, List.map_nil]); first | done | rfl | (simp only [List.length_drop, List.length_take]; rfl)) ?_; (with_reducible refine (slices_Compare_int_int.calls k _ _ l0 _ _ l1 t106 _ ?side1 ?side2 ?side3 ?side4 A3.out).mono ?_); (case side1 => repeat (first | exact HR0.out | (with_reducible refine Kd.C_alloc ?_ _) | (with_reducible refine Kd.C_drewN ?_ _) | (with_reducible refine Kd.C_drew ?_))); (case side2 => exact HC0.out); (case side3 => repeat (first | exact HR1.out | (with_reducible refine Kd.C_alloc ?_ _) | (with_reducible refine Kd.C_drewN ?_ _) | (with_reducible refine Kd.C_drew ?_))); (case side4 => exact HC1.out); rintro e w' ⟨rfl, ⟨nd, rfl⟩⟩; refine ⟨_, rfl, ?_⟩))
 go_ret
 exact ⟨by first | rfl | (simp; done) | (simp [*]; done), by repeat (first | exact Drawn0.refl _ | apply Drawn0.step)⟩
end Go.Proofs.Ytmkjkkmilopcpaa.Q
namespace Go.Proofs.Ytmkjkkmilopcpaa.Q
open Go.RowKit Go.Proofs.YtmkjkkmilopcpaaW.PrintWords Go.Proofs.YtmkjkkmilopcpaaW.PrintLast Go.Proofs.YtmkjkkmilopcpaaW.PrintMore
set_option linter.unusedVariables false
set_option linter.unusedSimpArgs false
section
variable {P : Program} {ops : Array Oper} {Q : Exit → Act → World → Prop}
theorem gate_callee_v {rest : List Oper} {o : Oper} {a : Act} {W : World} {x : Operand} {as_ : Array Operand} {ts : Array TypeId} (_ho : o.op = .call { callee := .value x, args := as_, argTypes := ts }) (h : wpList P ops Q (o :: rest) a W) : wpList P ops Q (o :: rest) a W := h
theorem goesv_ {oi : Oper} {N : Option Tmp} {a : Act} {w : World} {K : Act → World → Prop} {f : FuncId} {fn : Func} {x : Operand} {as_ : Array Operand} {ts : Array TypeId} (hf : P.funcs[f]? = some fn) (hname : (fn.name == "runtime.NumGoroutine") = false) (hb : fn.body.isSome = true) (args : Array Value)
  (hw : Region.wanted oi (yielded ops a.tmps) = true) (hN : oi.dst = N) (hop : oi.op = .call { callee := .value x, args := as_, argTypes := ts }) (hargs : as_.map a.eval = args)
  (h : Calls P f args w fun e w' => ∃ v, e = .returned v ∧ K (a.put N v) w') (hx : a.eval x = .func (.func f) #[] #[] := by rfl) : if Region.wanted oi (yielded ops a.tmps) = true then Oper.wp P oi a w K Q else K (a.put N undef) w := by
 refine call_ f args hw hN ?_ h
 have he := enters_ hf hname hb args w
 unfold execOp
 simp [hop, resolve, Deferred.ofValue, invoke, hx, hargs, he]
theorem goesLv_ {rest : List Oper} {oi : Oper} {a : Act} {w : World} (N : Option Tmp) (hd : oi.dst = N) (hg : oi.guard = none) {f : FuncId} {fn : Func} {x : Operand} {as_ : Array Operand} {ts : Array TypeId} (hf : P.funcs[f]? = some fn) (hname : (fn.name == "runtime.NumGoroutine") = false) (hb : fn.body.isSome = true) (args : Array Value)
  (hop : oi.op = .call { callee := .value x, args := as_, argTypes := ts }) (hargs : as_.map a.eval = args)
  (h : Calls P f args w fun e w' => ∃ v, e = .returned v ∧ wpList P ops Q rest (a.put N v) w') (hx : a.eval x = .func (.func f) #[] #[] := by rfl) : wpList P ops Q (oi :: rest) a w := by
 refine wpList_plain hg fun K hK => ?_
 have he := enters_ hf hname hb args w
 have hrun : (execOp a.eval oi).run P w = .ok (.enter f args) w := by
  unfold execOp
  simp [hop, resolve, Deferred.ofValue, invoke, hx, hargs, he]
 unfold Oper.wp
 rw [hrun, Oper.upon_enter]
 refine h.mono fun e w'' hh => ?_
 obtain ⟨v, rfl, hk⟩ := hh
 subst hd
 exact hK _ _ hk
end
theorem getD_set {l : Array Bool} {i j : Nat} {d : Bool} (hi : i < l.size) : (l.setIfInBounds i true).getD j d = if i = j then true else l.getD j d := by
 simp only [Array.getD_eq_getD_getElem?, Array.getElem?_setIfInBounds]
 by_cases h : i = j
 ·subst h; simp [hi]
 ·simp [h]
section
variable {P : Program} {md : Region.Mode} {ops : Array Oper} {Q : Exit → Act → World → Prop} {S : World → Prop} {ds : List Nat}
end
def RowSt (w0 : World) (l : Array Bool) (w : World) (f : Nat → Nat) (q B A : Nat) (vb va : Value) (y : List Int) : Prop :=
 (l.getD B true = true → l.getD A true = false → Kd.R (Kd.int .i64) 3 w w0.heap.size (fun k => f k = q) vb []) ∧ (l.getD A true = true → Kd.R (Kd.int .i64) 3 w w0.heap.size (fun k => f k = q) va y)
theorem RowSt.made {w0 w w1 : World} {l : Array Bool} {f' : Nat → Nat} {q B A : Nat} {vb va : Value} {y : List Int} (hi : B < l.size) (hBA : B ≠ A) (hA : l.getD A true = false) (h : Kd.R (Kd.int .i64) 3 w1 w0.heap.size (fun k => f' k = q) vb []) : RowSt w0 (l.setIfInBounds B true) w1 f' q B A vb va y := by
 unfold RowSt
 rw [getD_set hi, getD_set hi, if_neg hBA, if_pos rfl]
 exact ⟨fun _ _ => h, fun h1 => (by rw [hA] at h1; cases h1)⟩
def OrdC (l : Array Bool) : Prop := ∀ A B, (A = 3 ∧ B = 0) ∨ (A = 9 ∧ B = 6) ∨ (A = 13 ∧ B = 10) ∨ (A = 17 ∧ B = 14) ∨ (A = 19 ∧ B = 18) → l.getD A true = true → l.getD B true = true
theorem ordC_set {l : Array Bool} {i : Nat} (hi : i < l.size) (h : OrdC l) (hn : ∀ B, (i = 3 ∧ B = 0) ∨ (i = 9 ∧ B = 6) ∨ (i = 13 ∧ B = 10) ∨ (i = 17 ∧ B = 14) ∨ (i = 19 ∧ B = 18) → l.getD B true = true) : OrdC (l.setIfInBounds i true) := by
 intro A B hAB h1
 rw [getD_set hi] at h1 ⊢
 split
 ·rfl
 ·by_cases c : i = A
  ·subst c
   exact hn B hAB
  ·rw [if_neg c] at h1
   exact h A B hAB h1
structure CInv (w0 : World) (xb rb : Nat) (XC : Array Value) (y0 y1 y2 y3 : List Int) (n : Int) (l : Array Bool) (a : Act) (w : World) : Prop where
 sz : l.size = 20
 old : ∀ j, j = 1 ∨ j = 2 ∨ j = 4 ∨ j = 5 ∨ j = 7 ∨ j = 8 ∨ j = 11 ∨ j = 12 ∨ j = 15 ∨ j = 16 → l.getD j true = true
 ord : OrdC l
 tsz : a.tmps.size = 22
 dfr : a.defers = []
 bel : Below w0.heap.size w0 w
 bx : w.heap[xb]? = some (.cells XC 30 (0, 0))
 e2 : a.eval (.tmp 2) = .pointer (some ⟨rb, 0, none⟩)
 e8 : a.eval (.tmp 8) = .int .i64 n
 rows : ∃ A0 c0 A1 c1 A2 c2 A3 c3, a.eval (.tmp 5) = .slice A0 y0.length c0 ∧ a.eval (.tmp 11) = .slice A1 y1.length c1 ∧ a.eval (.tmp 15) = .slice A2 y2.length c2 ∧ a.eval (.tmp 19) = .slice A3 y3.length c3 ∧
  (Kd.int .i64).C w0 A0 y0.length y0 ∧ (Kd.int .i64).C w0 A1 y1.length y1 ∧ (Kd.int .i64).C w0 A2 y2.length y2 ∧ (Kd.int .i64).C w0 A3 y3.length y3
 made : l.getD 19 true = false → w.heap[rb]? = some (.cells #[.slice none 0 0, .int .i64 0, .slice none 0 0, .slice none 0 0, .slice none 0 0] 30 (0, 0)) ∧ w0.heap.size ≤ rb ∧ ∃ f : Nat → Nat,
  RowSt w0 l w f 0 0 3 (a.eval (.tmp 3)) (a.eval (.tmp 6)) y0 ∧ RowSt w0 l w f 1 6 9 (a.eval (.tmp 9)) (a.eval (.tmp 12)) y1 ∧ RowSt w0 l w f 2 10 13 (a.eval (.tmp 13)) (a.eval (.tmp 16)) y2 ∧ RowSt w0 l w f 3 14 17 (a.eval (.tmp 17)) (a.eval (.tmp 20)) y3
 told : l.getD 18 true = true → l.getD 3 true = true ∧ l.getD 9 true = true ∧ l.getD 13 true = true ∧ l.getD 17 true = true ∧ a.eval (.tmp 21) = .agg #[a.eval (.tmp 6), .int .i64 n, a.eval (.tmp 12), a.eval (.tmp 16), a.eval (.tmp 20)]
 fin : l.getD 19 true = true → ∃ v0 v1 v2 v3 : Value, ∃ f : Nat → Nat, w.heap[rb]? = some (.cells #[v0, .int .i64 n, v1, v2, v3] 30 (0, 0)) ∧ Kd.R (Kd.int .i64) 3 w w0.heap.size (fun k => f k = 0) v0 y0 ∧ Kd.R (Kd.int .i64) 3 w w0.heap.size (fun k => f k = 1) v1 y1 ∧ Kd.R (Kd.int .i64) 3 w w0.heap.size (fun k => f k = 2) v2 y2 ∧ Kd.R (Kd.int .i64) 3 w w0.heap.size (fun k => f k = 3) v3 y3
theorem old_set {l : Array Bool} {i j : Nat} (hi : i < l.size) (h : l.getD j true = true) : (l.setIfInBounds i true).getD j true = true := by
 rw [getD_set hi]
 split
 ·rfl
 ·exact h
section
variable {w0 : World} {xb rb : Nat} {XC : Array Value} {y0 y1 y2 y3 : List Int} {n : Int} {l : Array Bool} {a : Act} {w : World} {K : Act → World → Prop} {Q : Exit → Act → World → Prop}
theorem CInv.store (h : CInv w0 xb rb XC y0 y1 y2 y3 n l a w) (hl : l.getD 19 true = false) (hr : w.heap[rb]? = some (.cells #[.slice none 0 0, .int .i64 0, .slice none 0 0, .slice none 0 0, .slice none 0 0] 30 (0, 0))) (hrb : w0.heap.size ≤ rb) (h18 : l.getD 18 true = true) {f : Nat → Nat} {v0 v1 v2 v3 : Value}
  (r0 : Kd.R (Kd.int .i64) 3 w w0.heap.size (fun k => f k = 0) v0 y0) (r1 : Kd.R (Kd.int .i64) 3 w w0.heap.size (fun k => f k = 1) v1 y1) (r2 : Kd.R (Kd.int .i64) 3 w w0.heap.size (fun k => f k = 2) v2 y2) (r3 : Kd.R (Kd.int .i64) 3 w w0.heap.size (fun k => f k = 3) v3 y3) (hne : xb ≠ rb) :
  CInv w0 xb rb XC y0 y1 y2 y3 n (l.setIfInBounds 19 true) (a.put none undef) (w.setCells rb 0 [v0, .int .i64 n, v1, v2, v3]) := by
 have hi : 19 < l.size := by rw [h.sz]; omega
 have hg : ∀ j : Nat, (19 : Nat) ≠ j → (l.setIfInBounds 19 true).getD j true = l.getD j true := fun j hj => by rw [getD_set hi, if_neg hj]
 have hs : (l.setIfInBounds 19 true).getD 19 true = true := by rw [getD_set hi, if_pos rfl]
 obtain ⟨cur, c1, c2, c3⟩ := setCells_row [v0, .int .i64 n, v1, v2, v3] 0 w _ hr (by simp)
 obtain ⟨s1, s2, s3, s4⟩ := setCells_same rb [v0, .int .i64 n, v1, v2, v3] 0 w
 have hfar : ∀ k, k ≠ rb → (w.setCells rb 0 [v0, .int .i64 n, v1, v2, v3]).heap[k]? = w.heap[k]? := fun k hk => setCells_far _ _ k hk
 have hcur : cur = #[v0, .int .i64 n, v1, v2, v3] := by
  apply Array.toList_inj.mp
  rw [c3]
  simp
 have hR : ∀ {q : Nat} {v : Value} {y : List Int}, Kd.R (Kd.int .i64) 3 w w0.heap.size (fun k => f k = q) v y → Kd.R (Kd.int .i64) 3 (w.setCells rb 0 [v0, .int .i64 n, v1, v2, v3]) w0.heap.size (fun k => f k = q) v y := fun hv =>
  Kd.R_mono (Kd.R_step (Kd.R_types hv hr (by decide)) (fun k hk _ => hfar k hk.2)) (fun k hk => hk.1)
 refine ⟨by rw [Array.size_setIfInBounds]; exact h.sz, fun j hj => old_set hi (h.old j hj), ordC_set hi h.ord (fun B hB => by rw [show B = 18 by omega]; exact h18), h.tsz, h.dfr, h.bel.trans ⟨s1, s2, s3, by rw [s4]; exact Nat.le_refl _, fun k hk => hfar k (by omega)⟩, (hfar xb hne).trans h.bx, h.e2, h.e8, h.rows, fun h2 => (by rw [hs] at h2; cases h2), fun _ => ?_, fun _ => ?_⟩
 ·obtain ⟨a3, a9, a13, a17, e⟩ := h.told h18
  exact ⟨(hg 3 (by omega)).trans a3, (hg 9 (by omega)).trans a9, (hg 13 (by omega)).trans a13, (hg 17 (by omega)).trans a17, e⟩
 ·exact ⟨v0, v1, v2, v3, f, by rw [c1, hcur], hR r0, hR r1, hR r2, hR r3⟩
end
section
variable {α : Type} {d : Kd α} {e base g n cap : Nat} {ok okp : Nat → Prop} {w0 W : World} {xs : List α}
theorem N_put (HO : Kd.N d e W base ok (.slice (some ⟨g, 0, none⟩) n cap) xs) (i : Nat) (hi : i < n) {seg : List Value} (hs : seg.length = d.sz) {x : α} (hM : Kd.FK d W okp x seg) (hokp : ∀ k, okp k → ok k ∧ k ≠ g) (HB : Below base w0 W) :
  Kd.N d e (W.setCells g (i * d.sz) seg) base ok (.slice (some ⟨g, 0, none⟩) n cap) (xs.set i x) ∧ Below base w0 (W.setCells g (i * d.sz) seg) ∧ W.grownBy (W.setCells g (i * d.sz) seg) (some g) := by
 have hbg : base ≤ g := by
  obtain ⟨_, _, _, hR, _⟩ := HO
  exact Kd.R_base hR g (by simp [Value.ownBlock])
 obtain ⟨hown, rows, hl, hR, hf⟩ := HO
 have hn : n = rows.length := (Kd.R_reads' hR).1
 obtain ⟨c, hcl, hcM, hcc⟩ := Kd.R_get hR ([] : List Value) (i : Int) (by omega) (by omega)
 have hcc' : ∀ (j : Nat) (u : Value), c[j]? = some u → W.cell? ⟨g, (i : Int).toNat * (Kd.raw d.sz).sz + j, none⟩ = some u := fun j u hu => by
  have := hcc j u hu
  rwa [Addr.add_lit, Nat.zero_add] at this
 have hlc : c.length = d.sz := hcl
 obtain ⟨h1, h2⟩ := Kd.R_seg (d := Kd.raw d.sz) (x' := seg) (okp := fun _ => False) (Kd.raw_any hR) (i : Int) (by omega) (by omega) (j := 0) (seg := seg) hcl hcc' (by show 0 + seg.length ≤ d.sz; omega)
  (by rw [List.take_zero, List.nil_append, Nat.zero_add, List.drop_of_length_le (by omega), List.append_nil]; exact Kd.FK_raw hM) (fun _ hk => hk.elim)
 rw [Int.toNat_natCast, Nat.add_zero] at h1 h2
 have h1' : (Kd.raw d.sz).R e (W.setCells g (i * d.sz) seg) base (fun _ => True) (.slice (some ⟨g, 0, none⟩) n cap) (rows.set i seg) := h1
 have h2' : W.grownBy (W.setCells g (i * d.sz) seg) (some g) := h2
 refine ⟨Kd.N_written (i := (i : Int)) hown hl hf (by rw [Int.toNat_natCast]; exact h1') h2' hM hokp, HB.trans ⟨h2'.os, h2'.tape, h2'.output, h2'.size, fun k hk => ?_⟩, h2'⟩
 rcases Nat.lt_or_ge k W.heap.size with hlt | hge
 ·exact h2'.block k hlt (fun he => by injection he with he; omega)
 ·exact setCells_far seg _ k (by have := Kd.R_lt hR g (by simp [Value.ownBlock]); omega)
theorem N_at (HO : Kd.N d e W base ok (.slice (some ⟨g, 0, none⟩) n cap) xs) (z : α) (i : Nat) (hi : i < n) : ∃ c, c.length = d.sz ∧ (∀ u ∈ c, u.oneCell' = true) ∧ Kd.FK d W (fun k => ok k ∧ k ≠ g) (xs.getD i z) c ∧ ∀ j u, c[j]? = some u → W.cell? ⟨g, i * d.sz + j, none⟩ = some u := by
 obtain ⟨c, h1, h2, h3⟩ := Kd.N_get HO z (i : Int) (by omega) (by omega)
 refine ⟨c, h1, d.K_one (Kd.FK_now h2), Kd.FK_mono h2 (fun k hk => ⟨hk.1, fun e => hk.2 (by rw [e]; simp [Value.ownBlock])⟩), fun j u hu => ?_⟩
 have := h3 j u hu
 rwa [Addr.add_lit, Nat.zero_add, Int.toNat_natCast] at this
theorem put_run {P : Program} {oi : Oper} {a : Act} {t : TypeId} {p x : Operand} (ho : oi.op = .store t p x) {u : Value} {seg : List Value} (HO : Kd.N d e W base ok (.slice (some ⟨g, 0, none⟩) n cap) xs) (i : Nat) (hi : i < n) (hs : seg.length = d.sz)
  (haddr : a.eval p = .pointer (some ⟨g, i * d.sz, none⟩)) (hx : a.eval x = u) (hu : u.cells.toList = seg) (ht : (P.info? t).map (·.size) = some seg.length) (h1 : ∀ q ∈ seg, q.oneCell' = true) :
  (execOp a.eval oi).run P W = .ok .skip (W.setCells g (i * d.sz) seg) := by
 obtain ⟨_, rows, hl, hR, _⟩ := HO
 have hrun : (Instr.storeAt t (.pointer (some ⟨g, i * d.sz, none⟩)) u).run P W = .ok () (W.setCells g (i * d.sz) seg) := by
  obtain ⟨_, inner, hown, hr⟩ := hR
  rcases hown.2 with ⟨hv, _⟩ | ⟨g', cap', cur, hv, hb, hh, hnc, hcm, hcs, _⟩
  ·cases hv
  injection hv with ha _ hc
  injection ha with ha
  injection ha with hg'
  subst hg'; subst hc
  refine run_store_run t u seg hh hu ht ?_ h1
  have hsz : (Kd.raw d.sz).sz = d.sz := rfl
  rw [hsz] at hcs
  have h2 : i * d.sz + d.sz ≤ n * d.sz := by rw [← Nat.succ_mul]; exact Nat.mul_le_mul_right _ hi
  have h3 : n * d.sz ≤ cap * d.sz := Nat.mul_le_mul_right _ (by omega)
  omega
 unfold execOp
 simp only [ho, haddr, hx, Sem.run_bind, Sem.run_pure, Result.andThen_ok, hrun]
end
end Go.Proofs.Ytmkjkkmilopcpaa.Q
