-- packed by wip/tools/pack.py (a program of this session) out of its own texts
import Derived.Test.YtlacfpbfnedgdaaPRecReads0
import Derived.ArgAppend
import Derived.Below
import Derived.BigQuiet
import Derived.Deep.AppendLies
import Derived.Deep.CutBlock
import Derived.Deep.DeepCutAuto
import Derived.Deep.Draws
import Derived.Deep.LoopGhost
import Derived.Deep.OwnRows
import Derived.Deep.QuietTactic
import Derived.Deep.RegionHeld3
import Derived.Deep.RegionWith
import Derived.KernelRfl
import Derived.Laws.BitsLemmas
import Derived.Laws.BytesArg
import Derived.Laws.CopyOwn
import Derived.Laws.IdiomCopy
import Derived.Laws.MakeOwn
import Derived.Laws.OwnMore
import Derived.Laws.Rows
import Derived.Laws.Slices
import Derived.Lib.AppendStr
import Derived.Lib.ConvBytes
import Derived.Lib.SlBytesConst
import Derived.Lib.SliceRun
import Derived.Maps.AppendAt
import Derived.OrdersHeld
import Derived.OwnWalk
import Derived.RegionTactic
import Derived.RowKit
import Derived.RowKit3
import Derived.Shelf.Abstract
import Derived.Tactics
import Derived.Test.YtlacfpbfnedgdaaProg
import Derived.WalkKit
import Derived.WalkSpells
import Derived.WideLaws
import Derived.Test.YtlacfpbfnedgdaaPRecReads1
import Derived.Test.YtlacfpbfnedgdaaPRecReads3
import Derived.Test.YtlacfpbfnedgdaaPRecReads4
import Derived.Test.YtlacfpbfnedgdaaPRecReads5
import Derived.Test.YtlacfpbfnedgdaaPRecReads6
import Derived.Test.YtlacfpbfnedgdaaPRecReads7
import Derived.Test.YtlacfpbfnedgdaaPRecReads8
import Derived.Test.YtlacfpbfnedgdaaPRecReads9
import Derived.Test.YtlacfpbfnedgdaaPRecReads10
import Derived.Test.YtlacfpbfnedgdaaPRecReads11
import Derived.Test.YtlacfpbfnedgdaaPRecReads12
import Derived.Test.YtlacfpbfnedgdaaPRecReads13
namespace Go.Proofs.Ytlacfpbfnedgdaa.Q
open Go.RowKit Go.Proofs.YtlacfpbfnedgdaaW.PrintWords Go.Proofs.YtlacfpbfnedgdaaW.PrintLast Go.Proofs.YtlacfpbfnedgdaaW.PrintMore
set_option linter.unusedVariables false
set_option linter.unusedSimpArgs false
theorem name_calls {P : Program} {f : FuncId} {a : Array Value} {W : World} {R : Ending → World → Prop} (h : ∀ w, w = W → Calls P f a w R) : Calls P f a W R := h W rfl
theorem R_empty8 {w : World} {g base : Nat} (h : w.heap[g]? = some (.cells #[] 5 (0, 0))) (hb : base ≤ g) : Kd.R (Kd.int .u8) 5 w base (fun _ => True) (.slice (some ⟨g, 0, none⟩) 0 0) [] :=
 ⟨fun _ _ => trivial, [], ⟨rfl, .inr ⟨g, 0, #[], rfl, hb, h, Nat.le_refl _, by decide, rfl, rfl⟩⟩, Reps.none _ _⟩
theorem new_at8 {w : World} {n : Nat} (o : Obj) (h : w.heap.size = n) : (w.alloc o).heap[n]? = some o := by rw [← h]; exact heap_alloc_new w o
theorem BytesOk.set {z : List Int} (h : BytesOk z) (j : Nat) (y : Int) : BytesOk (z.set j (y % 256)) := fun x hx => by
 rcases List.mem_or_eq_of_mem_set hx with hx | hx
 ·exact h x hx
 ·rw [hx]; omega
theorem BytesOk.app {x y : List Int} (h : BytesOk x) (h2 : BytesOk y) : BytesOk (x ++ y) := fun a ha => by
 rcases List.mem_append.1 ha with ha | ha
 ·exact h a ha
 ·exact h2 a ha
theorem BytesOk.take {x : List Int} (h : BytesOk x) (n : Nat) : BytesOk (x.take n) := fun a ha => h a (List.mem_of_mem_take ha)
theorem BytesOk.dropB {x : List Int} (h : BytesOk x) (n : Nat) : BytesOk (x.drop n) := fun a ha => h a (List.mem_of_mem_drop ha)
abbrev BRow := Option Addr × Nat × List Int
def BRow.val (p : BRow) : Value := .slice p.1 p.2.2.length p.2.1
def BRow.Ok (W : World) (p : BRow) : Prop := (p.2.2.length ≤ p.2.1 ∧ Kd.C (Kd.int .u8) W p.1 p.2.2.length p.2.2) ∧ BytesOk p.2.2 ∧ p.2.2.length ≤ 2000000
theorem BRow.Ok.below {W W1 : World} {p : BRow} (h : p.Ok W) (hb : Below W.heap.size W W1) : p.Ok W1 := ⟨⟨h.1.1, Kd.C_below h.1.2 hb⟩, h.2⟩
theorem VB_row {W : World} {f : Nat → Nat} {q : Nat} {v : Value} {xs : List Int} (h : VB W f q v xs) (hb : BytesOk xs) (hl : xs.length ≤ 2000000) : ∃ (A : Option Addr) (c : Nat) (l : List Int), v = .slice A l.length c ∧ BRow.Ok W (A, c, l) := by
 obtain ⟨A, c, rfl, h1, h2⟩ := h
 exact ⟨A, c, xs, rfl, ⟨⟨h1, Kd.F_now h2⟩, hb, hl⟩⟩
theorem RB_row {W : World} {b : Nat} {ok : Nat → Prop} {v : Value} {xs : List Int} (h : Kd.R (Kd.int .u8) 5 W b ok v xs) (hb : BytesOk xs) (hl : xs.length ≤ 2000000) : ∃ (A : Option Addr) (c : Nat) (l : List Int), v = .slice A l.length c ∧ BRow.Ok W (A, c, l) := by
 obtain ⟨A, c, rfl⟩ := Kd.R_slice h
 exact ⟨A, c, xs, rfl, ⟨⟨(Kd.R_reads' h).2.1, (Kd.R_reads' h).2.2⟩, hb, hl⟩⟩
theorem cvt_below {w7 W W1 : World} {g : Nat} (HB : Below w7.heap.size w7 W) (hg : w7.heap.size ≤ g) (h1 : ∀ k, k ≠ g → W1.heap[k]? = W.heap[k]?) (h2 : W1.heap.size = W.heap.size) (h3 : W1.os = W.os ∧ W1.tape = W.tape ∧ W1.output = W.output) : Below w7.heap.size w7 W1 :=
 ⟨h3.1.trans HB.os, h3.2.1.trans HB.tape, h3.2.2.trans HB.output, by rw [h2]; exact HB.size, fun k hk => (h1 k (by omega)).trans (HB.block k hk)⟩
theorem cvt_row {W W1 : World} {b g q q0 : Nat} {f : Nat → Nat} {v : Value} {xs : List Int} (h : RB W b f q v xs) (hg : f g = q0) (hne : q ≠ q0) (h1 : ∀ k, k ≠ g → W1.heap[k]? = W.heap[k]?) : RB W1 b f q v xs :=
 rb_re h (fun k hk _ => h1 k (fun e => hne (by rw [← hk, e, hg]))) (fun _ _ => rfl)
def hypercubelaw1_RecReads.T11 : Bool × List (List Nat × List Nat) := (true, [([], []), ([], []), ([], []), ([1, 2], [1, 2]), ([3], [3]), ([], []), ([5], [5]), ([4, 6], [4, 6]), ([0, 7], [0, 7]), ([8], [8]), ([], []), ([], []), ([10, 11], [10, 11]), ([12], [12]), ([9, 13], [9, 13]), ([0, 7, 0, 1, 2, 3, 4, 5, 6, 7, 8, 9, 10, 11, 12, 13, 14], [0, 7]), ([15, 14, 7, 0, 1, 2, 3, 4, 5, 6, 7, 8, 9, 10, 11, 12, 13, 14], [14, 15])])
def hypercubelaw1_RecReads.B11 : List Nat := [0, 0, 0, 6, 14, 0, 32, 126, 255, 511, 0, 0, 3072, 7168, 16383, 32767, 65535]
theorem hypercubelaw1_RecReads.tab11 : rtab .any (opsOf Try.f5 11) = hypercubelaw1_RecReads.T11 := by kernel_rfl
theorem hypercubelaw1_RecReads.bits11 : waitsOk hypercubelaw1_RecReads.T11.2 hypercubelaw1_RecReads.B11 = true := by kernel_rfl
def hypercubelaw1_RecReads.T13 : Bool × List (List Nat × List Nat) := (true, [([], []), ([], []), ([], []), ([1, 2], [1, 2]), ([], []), ([], []), ([], []), ([5, 6], [5, 6]), ([4, 7], [4, 7]), ([], []), ([8, 9, 8], [8, 9]), ([], []), ([], []), ([11, 12], [11, 12]), ([10, 13, 10], [10, 13]), ([], []), ([], []), ([16], [16]), ([], []), ([17, 18, 14], [17, 18]), ([], []), ([], []), ([20, 21, 19], [20, 21]), ([], []), ([22, 23, 22], [22, 23]), ([0, 3, 14, 15, 19, 24], [0, 3, 14, 15, 19, 24]), ([25, 24, 0, 1, 2, 3, 4, 5, 6, 7, 8, 9, 10, 11, 12, 13, 14, 15, 16, 17, 18, 19, 20, 21, 22, 23, 24, 25], [25])])
def hypercubelaw1_RecReads.B13 : List Nat := [0, 0, 0, 6, 0, 0, 0, 96, 240, 0, 1008, 0, 0, 6144, 16368, 0, 0, 65536, 0, 491504, 0, 0, 4161520, 0, 16744432, 33554431, 67108863]
theorem hypercubelaw1_RecReads.tab13 : rtab .any (opsOf Try.f5 13) = hypercubelaw1_RecReads.T13 := by kernel_rfl
theorem hypercubelaw1_RecReads.bits13 : waitsOk hypercubelaw1_RecReads.T13.2 hypercubelaw1_RecReads.B13 = true := by kernel_rfl
def hypercubelaw1_RecReads.Pure : Prop := ∀ (a0 : Int) (l1 : List Int) (a2 : Int) (l3 : List Int) (l4 : List Int) (l5 : List Int) (a6 : Int) (l7 : List Int) (l8 : List Int), (Lit.int .i64 a0).wf = true → l1.length ≤ maxLen → l1.length * 8 ≤ 140737488351232 → (∀ x ∈ l1, (Lit.int .i64 x).wf = true) → (Lit.int .i64 a2).wf = true → l3.length ≤ maxLen → l3.length * 8 ≤ 140737488351232 → (∀ x ∈ l3, (Lit.int .i64 x).wf = true) → l4.length ≤ maxLen → l4.length * 8 ≤ 140737488351232 → (∀ x ∈ l4, (Lit.int .i64 x).wf = true) → l5.length ≤ maxLen → l5.length * 1 ≤ 140737488351232 → (∀ x ∈ l5, (Lit.int .u8 x).wf = true) → (Lit.int .i64 a6).wf = true → l7.length ≤ maxLen → l7.length * 1 ≤ 140737488351232 → (∀ x ∈ l7, (Lit.int .u8 x).wf = true) → l8.length ≤ maxLen → l8.length * 1 ≤ 140737488351232 → (∀ x ∈ l8, (Lit.int .u8 x).wf = true) →
 ∃ (k : Nat) (cards : (List Int)) (meas : Int) (rows : (List S33)) (b : (List Int)), (hypercubelaw1_known.f k = some true) ∧ (hypercubelaw1_Facts.f k a0 l1 a2 l3 = some (cards, meas, rows)) ∧ (hypercuberef1_Encode.f k cards meas rows = some b) ∧ ((1 ≤ b.length ∧ b.length ≤ 1000000) ∧ BytesOk b ∧ BytesOk l5 ∧ BytesOk l7 ∧ BytesOk l8) ∧ (∀ z, BytesOk z → z.length ≤ 2000000 → rec_Decode.f z = some (refDecP z) ∧ ∃ q, hypercuberef1_Same.f q (refDecP z).1 (refDecP z).2.1 (refDecP z).2.2.1 (refDecP z).1 (refDecP z).2.1 (refDecP z).2.2.1 = some true) ∧ (∀ (a : Int) (n : Nat), 0 < n → n ≤ 2000000 → ∃ j : Nat, j < n ∧ hypercubelaw1_within.f a (n : Int) = some (j : Int))
set_option maxHeartbeats 8000000 in
set_option maxRecDepth 100000 in
theorem hypercubelaw1_RecReads.calls (k : Nat) (a0 : Int) (A1 : Option Addr) (c1 : Nat) (l1 : List Int) (a2 : Int) (A3 : Option Addr) (c3 : Nat) (l3 : List Int) (A4 : Option Addr) (c4 : Nat) (l4 : List Int) (A5 : Option Addr) (c5 : Nat) (l5 : List Int) (a6 : Int) (A7 : Option Addr) (c7 : Nat) (l7 : List Int) (A8 : Option Addr) (c8 : Nat) (l8 : List Int) (w : World) (hr1 : Kd.C (Kd.int .i64) w A1 l1.length l1) (hc1 : l1.length ≤ c1) (hr3 : Kd.C (Kd.int .i64) w A3 l3.length l3) (hc3 : l3.length ≤ c3) (hr4 : Kd.C (Kd.int .i64) w A4 l4.length l4) (hc4 : l4.length ≤ c4) (hr5 : Kd.C (Kd.int .u8) w A5 l5.length l5) (hc5 : l5.length ≤ c5) (hr7 : Kd.C (Kd.int .u8) w A7 l7.length l7) (hc7 : l7.length ≤ c7) (hr8 : Kd.C (Kd.int .u8) w A8 l8.length l8) (hc8 : l8.length ≤ c8)
  {cards : (List Int)} {meas : Int} {rows : (List S33)} {b : (List Int)} (h1 : hypercubelaw1_known.f k = some true) (h2 : hypercubelaw1_Facts.f k a0 l1 a2 l3 = some (cards, meas, rows)) (h3 : hypercuberef1_Encode.f k cards meas rows = some b) (h4 : (1 ≤ b.length ∧ b.length ≤ 1000000) ∧ BytesOk b ∧ BytesOk l5 ∧ BytesOk l7 ∧ BytesOk l8) (h5 : ∀ z, BytesOk z → z.length ≤ 2000000 → rec_Decode.f z = some (refDecP z) ∧ ∃ q, hypercuberef1_Same.f q (refDecP z).1 (refDecP z).2.1 (refDecP z).2.2.1 (refDecP z).1 (refDecP z).2.1 (refDecP z).2.2.1 = some true) (h6 : ∀ (a : Int) (n : Nat), 0 < n → n ≤ 2000000 → ∃ j : Nat, j < n ∧ hypercubelaw1_within.f a (n : Int) = some (j : Int)) :
  Calls Try.prog 5 #[.int .i64 a0, .slice A1 l1.length c1, .int .i64 a2, .slice A3 l3.length c3, .slice A4 l4.length c4, .slice A5 l5.length c5, .int .i64 a6, .slice A7 l7.length c7, .slice A8 l8.length c8] w fun e w' => e = .returned (.bool true) ∧ Below w.heap.size w w' := by
 have H1 := am h1
 have H2 := am h2
 have H3 := am h3
 have H4 := am h4
 have H5 := am h5
 have H6 := am h6
 have HR1 := am hr1
 have HC1 := am hc1
 have HR3 := am hr3
 have HC3 := am hc3
 have HR4 := am hr4
 have HC4 := am hc4
 have HR5 := am hr5
 have HC5 := am hc5
 have HR7 := am hr7
 have HC7 := am hc7
 have HR8 := am hr8
 have HC8 := am hc8
 clear h1 h2 h3 h4 h5 h6 hr1 hc1 hr3 hc3 hr4 hc4 hr5 hc5 hr7 hc7 hr8 hc8
 go_enter Try.func5, Try.ntmps5
 go_wp2_with (fail)
 refine (hypercubelaw1_known.calls k true w H1.out).mono ?_
 rintro e w1 ⟨rfl, hb1⟩
 have HB1 := am hb1
 clear hb1
 by_cases hm : l7.length > 100
 ·have e1 : decide (l7.length > 100) = true := decide_eq_true hm
  have e2 : decide (100 < l7.length) = true := decide_eq_true hm
  have e3 : decide (100 < (l7.length : Int)) = true := decide_eq_true (by omega)
  have e4 : decide ((l7.length : Int) > 100) = true := decide_eq_true (by omega)
  clear hm
  go_wp2
  go_ret
  exact ⟨by first | rfl | (simp; done), HB1.out⟩
 by_cases hm2 : l8.length > 300
 ·have e1 : decide (l7.length > 100) = false := decide_eq_false hm
  have e2 : decide (100 < l7.length) = false := decide_eq_false hm
  have e3 : decide (100 < (l7.length : Int)) = false := decide_eq_false (by omega)
  have e4 : decide ((l7.length : Int) > 100) = false := decide_eq_false (by omega)
  have f1 : decide (l8.length > 300) = true := decide_eq_true hm2
  have f2 : decide (300 < l8.length) = true := decide_eq_true hm2
  have f3 : decide (300 < (l8.length : Int)) = true := decide_eq_true (by omega)
  have f4 : decide ((l8.length : Int) > 300) = true := decide_eq_true (by omega)
  clear hm hm2
  go_wp2
  go_ret
  exact ⟨by first | rfl | (simp; done), HB1.out⟩
 have e1 : decide (l7.length > 100) = false := decide_eq_false hm
 have e2 : decide (100 < l7.length) = false := decide_eq_false hm
 have e3 : decide (100 < (l7.length : Int)) = false := decide_eq_false (by omega)
 have e4 : decide ((l7.length : Int) > 100) = false := decide_eq_false (by omega)
 have f1 : decide (l8.length > 300) = false := decide_eq_false hm2
 have f2 : decide (300 < l8.length) = false := decide_eq_false hm2
 have f3 : decide (300 < (l8.length : Int)) = false := decide_eq_false (by omega)
 have f4 : decide ((l8.length : Int) > 300) = false := decide_eq_false (by omega)
 have HFEW : Aside0 (l7.length ≤ 100 ∧ l8.length ≤ 300) := ⟨⟨by omega, by omega⟩⟩
 clear hm hm2
 go_wp2_with (fail)
 clear e1 e2 e3 e4 f1 f2 f3 f4
 refine (hypercubelaw1_Facts.calls k a0 A1 c1 l1 a2 A3 c3 l3 cards meas rows w1 (Kd.C_below HR1.out HB1.out) HC1.out (Kd.C_below HR3.out HB1.out) HC3.out H2.out).mono ?_
 rintro e w2 ⟨v1, v2, rfl, ho0, ho1, hb2⟩
 obtain ⟨A14, c14, rfl⟩ := Kd.R_slice ho0
 obtain ⟨A15, c15, rfl⟩ := Kd.S_slice ho1
 have HX := am (Kd.R_reads' ho0).2
 have HY := am (Kd.S_reads' ho1).2
 have HB2 := am hb2
 clear ho0 ho1 hb2
 go_wp2_with (first | ((with_reducible refine gate_dst (N := 19) rfl ?_); (try (refine gate_guard (by rfl) ?_; dsimp only)); refine box_event ?hg (N := 19) ?hd (cs := #[.slice none 0 0, .int .i64 0]) (t := 24) ?hr ?_; (case hd => rfl); (case hg => rfl); (case hr => first | (go_simp; done) | (go_simp; rfl)); intro gb hg w3 hbox hb; have hcza0 : w3.cell? ⟨gb, 0, none⟩ = some (.slice none 0 0) := (blk_cell hbox 0).trans rfl; have hcza1 : w3.cell? ⟨gb, 1, none⟩ = some (.int .i64 0) := (blk_cell hbox 1).trans rfl; have hfza0 := blk_frozen hbox 0; have hfza1 := blk_frozen hbox 1; have HBXa := am hbox; have HGa := am hg; have HBBa := am hb; skip; clear hbox hg hb))
 refine name_calls ?_
 intro w4 hw4
 have hgb : w2.heap.size ≤ gb := Nat.le_of_eq HGa.out.symm
 have hb4 : Below w2.heap.size w2 w4 := by rw [hw4]; exact below_set (below_set HBBa.out hgb) hgb
 have HB4 := am (below_step HB1.out (below_step HB2.out hb4))
 have HX4 := am (Kd.C_below HX.out.2 hb4)
 have HY4 := am (Kd.C_below HY.out.2 hb4)
 clear hw4 hb4 hgb hcza0 hcza1 hfza0 hfza1 HBXa HGa HBBa
 refine (hypercuberef1_Encode.calls k A14 c14 cards meas A15 c15 rows b w4 HX4.out HX.out.1 HY4.out HY.out.1 H3.out).mono ?_
 rintro e w5 ⟨v5, rfl, ho0, hb⟩
 obtain ⟨Ab, cb, rfl⟩ := Kd.R_slice ho0
 have HBC := am (Kd.R_reads' ho0).2
 have HB5 := am (below_step HB4.out hb)
 clear ho0 hb HX HY HX4 HY4 HB2 HR1 HR3 HC1 HC3 H2 H3 HB4
 go_wp2_with (first | ((with_reducible refine gate_builtin (b := .append) (xs := #[.tmp 54, .tmp 55]) rfl ?_); (try (refine gate_guard (by rfl) ?_; dsimp only)); at_builtin; refine Kd.R_append_rows (Kd.int .u8) (w0 := w5) w5.heap.size rfl (.tmp 54) (.tmp 55) 36 5 (.int .u8 0) 1 rfl Try.underlying36 info5 rfl (by decide) (by omega) (.slice (some ⟨w5.heap.size, 0, none⟩) 0 0) [] b _ _ _ (fun _ => True) (fun _ => False) rfl rfl ?aO ?aR (fun _ _ h => h) (fun _ h => h.elim) (fun _ _ => trivial) ?aB ?aS ?aL ?_; (case aO => exact R_empty8 (new_at8 _ rfl) (Nat.le_refl _)); (case aR => exact Kd.C_alloc HBC.out.2 _); (case aB => exact below_alloc (Below.refl _ _) _); (case aS => rw [World.size_alloc]; omega); (case aL => have := H4.out.1.2; simp only [List.length_nil]; omega); intro vc w6 ho hb hg hat; rw [List.nil_append] at ho; obtain ⟨Ac, cc, rfl⟩ := Kd.R_slice ho; have HC6 := am ho; have HB56 := am hb; clear ho hb hg hat))
 have R4 := am (And.intro HC4.out (Kd.C_below HR4.out HB5.out))
 have R5 := am (And.intro HC5.out (Kd.C_below HR5.out HB5.out))
 have R7 := am (And.intro HC7.out (Kd.C_below HR7.out HB5.out))
 have R8 := am (And.intro HC8.out (Kd.C_below HR8.out HB5.out))
 obtain ⟨gz, capz, ez, hgz1, hgz2, cellsz, hcz⟩ := Kd.R_form HC6.out H4.out.1.1
 injection ez with ez1 ez2 ez3
 obtain ⟨adz, eadz, hadz⟩ : ∃ adz, Ac = some adz ∧ adz = ⟨gz, 0, none⟩ := ⟨_, ez1, rfl⟩
 subst eadz
 have HADZ := am hadz
 have HGZ := am (And.intro hgz1 hgz2)
 clear HR4 HR5 HR7 HR8 HC4 HC5 HC7 HC8 HB1 hadz hgz1 hgz2 hcz ez1 ez2 ez3
 go_loopg [23] 4 (fun kq v23 w' => ∃ (i : Nat) (z : List Int), v23 = .int .i64 (i : Int) ∧ Aside0 (i + kq = 4 ∧ i ≤ 3) ∧ Aside0 (z.length = b.length ∧ BytesOk z) ∧ Aside0 (Kd.R (Kd.int .u8) 5 w' w5.heap.size (fun _ => True) (.slice (some adz) z.length cc) z) ∧ Aside0 (Below w5.heap.size w5 w'))
 case atStart => exact ⟨0, b, rfl, ⟨by omega, by omega⟩, ⟨rfl, H4.out.2.1⟩, HC6, HB56⟩
 case round =>
 obtain ⟨i, z, rfl, HI, HZ, HRZ, HBZ⟩ := hrel
 cases gk with
 | zero => exact absurd HI.out (by omega)
 | succ k1 =>
 go_upto_region 9 with (fail)
 go_cut [70] (fun v70 wc => ∃ ok : Bool, v70 = .bool ok ∧ Aside0 (ok = true → i < l4.length ∧ i < l5.length ∧ i < 3) ∧ Aside0 (Kd.R (Kd.int .u8) 5 wc w5.heap.size (fun _ => True) (.slice (some adz) z.length cc) z) ∧ Aside0 (Below w5.heap.size w5 wc))
 case first =>
  by_cases c1 : i < l4.length
  ·have d1 : decide ((i : Int) < (l4.length : Int)) = true := decide_eq_true (by omega)
   have d1' : decide (i < l4.length) = true := decide_eq_true c1
   by_cases c2 : i < l5.length
   ·have d2 : decide ((i : Int) < (l5.length : Int)) = true := decide_eq_true (by omega)
    have d2' : decide (i < l5.length) = true := decide_eq_true c2
    by_cases c3 : i < 3
    ·have d3 : decide ((i : Int) < 3) = true := decide_eq_true (by omega)
     have d3' : decide (i < 3) = true := decide_eq_true c3
     have HCC := am (And.intro c1 (And.intro c2 c3))
     clear c1 c2 c3
     go_wp2
     go_meet
     case rel => exact ⟨true, by first | rfl | (simp; done) | (simp [*]; done), ⟨fun _ => HCC.out⟩, HRZ, HBZ⟩
    ·have d3 : decide ((i : Int) < 3) = false := decide_eq_false (by omega)
     have d3' : decide (i < 3) = false := decide_eq_false c3
     clear c1 c2 c3
     go_wp2
     go_meet
     case rel => exact ⟨false, by first | rfl | (simp; done) | (simp [*]; done), ⟨fun h => by cases h⟩, HRZ, HBZ⟩
   ·have d2 : decide ((i : Int) < (l5.length : Int)) = false := decide_eq_false (by omega)
    have d2' : decide (i < l5.length) = false := decide_eq_false c2
    clear c1 c2
    go_wp2
    go_meet
    case rel => exact ⟨false, by first | rfl | (simp; done) | (simp [*]; done), ⟨fun h => by cases h⟩, HRZ, HBZ⟩
  ·have d1 : decide ((i : Int) < (l4.length : Int)) = false := decide_eq_false (by omega)
   have d1' : decide (i < l4.length) = false := decide_eq_false c1
   clear c1
   go_wp2
   go_meet
   case rel => exact ⟨false, by first | rfl | (simp; done) | (simp [*]; done), ⟨fun h => by cases h⟩, HRZ, HBZ⟩
 case rest =>
 clear HRZ HBZ
 obtain ⟨ok, rfl, HOK, HRZ, HBZ⟩ := hcut
 cases ok with
 | true =>
  obtain ⟨c1, c2, c3⟩ := HOK.out rfl
  have p0 := eq_true (show (0 : Int) ≤ (i : Int) by omega)
  have p1 := eq_true (show (i : Int) < (l4.length : Int) by omega)
  have p1' := eq_true c1
  have p2 := eq_true (show (i : Int) < (l5.length : Int) by omega)
  have p2' := eq_true c2
  have hwi : wrap64 ((i : Int) + 1) = ((i + 1 : Nat) : Int) := w64c (by omega) (by omega)
  obtain ⟨ad4, rfl, x4⟩ := Kd.at_int (Kd.C_below R4.out.2 HBZ.out) (i : Int) (by omega) (by omega)
  obtain ⟨ad5, rfl, x5⟩ := Kd.at_int (Kd.C_below R5.out.2 HBZ.out) (i : Int) (by omega) (by omega)
  rw [Int.toNat_natCast] at x4 x5
  obtain ⟨j, hj, hwj⟩ := H6.out (rd l4 (i : Int)) b.length (by have := H4.out.1; omega) (by have := H4.out.1; omega)
  generalize rd l4 (i : Int) = x at *
  generalize rd l5 (i : Int) = y at *
  obtain ⟨_, e6, xz⟩ := Kd.at_int (Kd.R_reads' HRZ.out).2.2 (j : Int) (by omega) (by have := HZ.out.1; omega)
  cases e6
  rw [Int.toNat_natCast] at xz
  generalize hzj : rd z (j : Int) = zj at *
  have X4 := am x4
  have X5 := am x5
  have XZ := am xz
  have HWJ := am hwj
  have HJ := am hj
  have HZJ := am hzj
  have q0 := eq_true (show (0 : Int) ≤ (j : Int) by omega)
  have q1 := eq_true (show (j : Int) < (b.length : Int) by omega)
  have q1' := eq_true hj
  have HCI := am c3
  clear c1 c2 c3 x4 x5 xz hj hwj hzj
  generalize wc = wo at *
  go_wp2
  refine start_ (n := 17) (S := fun w' => w'.cell? (ad4.add i) = some (.int .i64 x) ∧ w'.cell? (ad5.add i) = some (.int .u8 y) ∧ w'.cell? (adz.add j) = some (.int .u8 zj)) (ds := [16]) (bb 17 0) (by kernel_rfl) rfl rfl ⟨X4.out, X5.out, XZ.out⟩ (fun hHeld => ?_)
  refine with_tabW hypercubelaw1_RecReads.tab11 hypercubelaw1_RecReads.bits11 (fun HT_ HW_ => ?_)
  generalize hwd : wo.drew = wd at hHeld ⊢
  have HDR : Aside0 (Below wo.heap.size wo wd) := ⟨by rw [← hwd]; exact below_drew (Below.refl _ _)⟩
  clear hwd
  refine pu (i := 0) (N := some 73) (bb 17 1) HT_ ?_
  refine pu (i := 1) (N := some 74) (bb 17 3) HT_ ?_
  refine pu (i := 2) (N := some 75) (bb 17 7) HT_ ?_
  refine pu (i := 3) (N := some 76) (bb 17 15) HT_ ?_
  refine pu (i := 5) (N := some 78) (bb 17 47) HT_ ?_
  refine pu (i := 6) (N := some 79) (bb 17 111) HT_ ?_
  refine pu (i := 10) (N := some 83) (bb 17 1135) HT_ ?_
  refine pu (i := 11) (N := some 84) (bb 17 3183) HT_ ?_
  refine pu (i := 12) (N := some 85) (bb 17 7279) HT_ ?_
  refine tk (i := 4) (N := some 77) (bb 17 7295) HT_ HW_ hHeld ?_
  refine tk (i := 13) (N := some 86) (bb 17 15487) HT_ HW_ hHeld ?_
  refine one_ (i := 7) (N := some 80) (bb 17 15615) rfl rfl (one_of HT_.out (by kernel_rfl)) (by decide) (fun K hK => ?_)
  refine goes_ Try.func21 (by kernel_rfl) rfl #[.int .i64 x, .int .i64 (b.length : Int)] (by rfl) rfl rfl (by (try simp only [List.map_toArray, List.map_cons, List.map_nil]); first | done | rfl) ?_
  with_reducible refine (hypercubelaw1_within.calls x (b.length : Int) (j : Int) _ HWJ.out).mono ?_

  rintro e wd2 ⟨rfl, hd⟩
  replace HDR := am (below_step HDR.out hd.below)
  clear hd
  refine ⟨_, rfl, ?_⟩
  refine hK.out _ _ ⟨(Below.cell HDR.out (World.block_lt_of_cell? wo _ X4.out)).trans X4.out, (Below.cell HDR.out (World.block_lt_of_cell? wo _ X5.out)).trans X5.out, (Below.cell HDR.out (World.block_lt_of_cell? wo _ XZ.out)).trans XZ.out⟩ (fun hHeld => ?_)
  clear hK K
  refine nm ?_
  refine pu (i := 8) (N := some 81) (bb 17 15871) HT_ ?_
  refine tk (i := 9) (N := some 82) (bb 17 16383) HT_ HW_ hHeld ?_
  refine pu (i := 14) (N := some 87) (bb 17 32767) HT_ ?_
  refine pu (i := 15) (N := some 88) (bb 17 65535) HT_ ?_
  refine last_ (i := 16) (N := none) (bb 17 131071) rfl rfl (one_of HT_.out (by kernel_rfl)) (by decide) (fun K hK => ?_)
  have hadd : adz.add j = ⟨gz, j, none⟩ := by rw [HADZ.out, add_plain]
  have hrd := Kd.R_below HRZ.out HDR.out
  have hs : wd2.cell? (adz.add j) = some (.int .u8 zj) := (Below.cell HDR.out (World.block_lt_of_cell? wo _ XZ.out)).trans XZ.out
  rw [HADZ.out] at hrd
  obtain ⟨h1, h2⟩ := Kd.R_cell (0 : Int) hrd (j : Int) (by omega) (by have := HJ.out; have := HZ.out.1; omega)
  rw [Int.toNat_natCast] at h1 h2
  have hfs : wd2.frozen? (adz.add j) = false := by rw [hadd]; exact h2
  refine skip_ (w1 := ?_) (by rfl) rfl ?_ ?_
  rotate_left
  ·go_simp
   rfl
  have hseg := (Kd.R_put hrd (j : Int) ((zj + y) % 256)).1
  rw [Int.toNat_natCast] at hseg
  have HRN : Aside0 (Kd.R (Kd.int .u8) 5 (wd2.setCell ⟨gz, j, none⟩ (.int .u8 ((zj + y) % 256))) w5.heap.size (fun _ => True) (.slice (some adz) (z.set j ((zj + y) % 256)).length cc) (z.set j ((zj + y) % 256))) := ⟨by
   rw [List.length_set, HADZ.out]; exact hseg⟩
  have HBN : Aside0 (Below w5.heap.size w5 (wd2.setCell ⟨gz, j, none⟩ (.int .u8 ((zj + y) % 256)))) := ⟨below_set (below_step HBZ.out HDR.out) HGZ.out.1⟩
  clear hs hfs h1 h2 hrd hseg hadd
  refine hK.out _ _ ?_
  clear hK K
  refine done_ (done_of HT_.out (by kernel_rfl)) ?_
  go_wp2
  go_roundg k1
  case measure => have := HI.out; omega
  case rel => exact ⟨i + 1, z.set j ((zj + y) % 256), by first | rfl | simp [hwi], ⟨by have := HI.out; omega, by have := HCI.out; omega⟩, ⟨by rw [List.length_set]; exact HZ.out.1, HZ.out.2.set j _⟩, HRN, HBN⟩
 | false =>
  obtain ⟨kk, hkk, hwk⟩ := H6.out a6 (b.length + 1) (by omega) (by have := H4.out.1; omega)
  rw [Int.natCast_add, show ((1 : Nat) : Int) = 1 from rfl] at hwk
  have hwb : wrap64 ((b.length : Int) + 1) = (b.length : Int) + 1 := w64c (by omega) (by have := H4.out.1; omega)
  have HWK := am hwk
  have HKK := am (show kk ≤ b.length by omega)
  clear hkk hwk
  go_wp2_with (fail)
  refine (hypercubelaw1_within.calls a6 ((b.length : Int) + 1) (kk : Int) wc HWK.out).mono ?_
  rintro e w7 ⟨rfl, hd⟩
  have HB57 := am (below_step HBZ.out hd.below)
  have SZ := am (Kd.R_reads' (Kd.R_below HRZ.out hd.below)).2
  clear hd hwb HRZ HBZ
  obtain ⟨b1, hb1⟩ : ∃ x, x = b.take kk := ⟨_, rfl⟩
  obtain ⟨b2, hb2⟩ : ∃ x, x = b.drop kk := ⟨_, rfl⟩
  have hl1 : b1.length = kk := by rw [hb1, List.length_take]; have := HKK.out; omega
  have hl2 : b2.length = b.length - kk := by rw [hb2, List.length_drop]
  obtain ⟨i0, hi0, _, hsz, _⟩ := info_parts info5
  have hcut1 : ∀ W : World, (Instr.slice 36 (.slice Ab b.length cb) none (some (.int .i64 (kk : Int))) none).run Try.prog W = .ok (.slice Ab b1.length cb) W := fun W => by
   have := cut_to (P := Try.prog) 36 5 .i64 Try.underlying36 hi0 Ab b.length cb (kk : Int) (by omega) (by have := HKK.out; omega) HBC.out.1 W
   rw [Int.toNat_natCast] at this
   rw [hl1]; exact this
  obtain ⟨A2', hA2'⟩ : ∃ A', A' = (if cb = kk then Ab else Ab.map (·.add (kk * 1))) := ⟨_, rfl⟩
  obtain ⟨c2', hc2'⟩ : ∃ c', c' = cb - kk := ⟨_, rfl⟩
  have hcut2 : ∀ W : World, (Instr.slice 36 (.slice Ab b.length cb) (some (.int .i64 (kk : Int))) none none).run Try.prog W = .ok (.slice A2' b2.length c2') W := fun W => by
   have := cut_from (P := Try.prog) 36 5 .i64 Try.underlying36 hi0 1 hsz Ab b.length cb (kk : Int) (by omega) (by have := HKK.out; omega) W
   rw [Int.toNat_natCast] at this
   rw [hl2, hA2', hc2']; exact this
  have hs1 := Kd.C_take (k := Kd.int .u8) (Kd.C_below HBC.out.2 HB57.out) (m := kk) HKK.out
  have hs2 := Kd.C_drop (k := Kd.int .u8) (Kd.C_below HBC.out.2 HB57.out) HKK.out HBC.out.1
  rw [show (Kd.int .u8).sz = 1 from rfl, ← hA2', ← hb2] at hs2
  rw [← hb1] at hs1
  have S1 := am hs1
  have S2 := am hs2
  have SB := am (Kd.C_below HBC.out.2 HB57.out)
  have S7 := am (Kd.C_below R7.out.2 HB57.out)
  have S8 := am (Kd.C_below R8.out.2 HB57.out)
  have hbl := H4.out.1.2
  have HLB1 := am hl1
  have HLEN := am (show b1.length + b2.length ≤ 1000000 ∧ b2.length ≤ 1000000 ∧ b.length ≤ 1000000 ∧ z.length ≤ 1000000 from ⟨by have := HKK.out; omega, by omega, hbl, by rw [HZ.out.1]; exact hbl⟩)
  have HOB := am (show BytesOk b1 ∧ BytesOk b2 ∧ BytesOk z from ⟨by rw [hb1]; exact H4.out.2.1.take _, by rw [hb2]; exact H4.out.2.1.dropB _, HZ.out.2⟩)
  have HB5' := am (below_step HB5.out HB57.out)
  have H5' := H5
  clear hs1 hs2 hi0 hsz hA2' hc2' hb1 hb2 hl1 hl2 hbl HOK HI
  go_wp2
  refine start_ (n := 27) (S := fun w' => True ∧ True) (ds := []) (bb 27 0) (by kernel_rfl) rfl rfl ⟨trivial, trivial⟩ (fun hHeld => ?_)
  refine with_tabW hypercubelaw1_RecReads.tab13 hypercubelaw1_RecReads.bits13 (fun HT_ HW_ => ?_)
  have HB : Below w7.heap.size w7 w7.drew := below_drew (Below.refl _ _)
  refine pu (i := 0) (N := some 94) (bb 27 1) HT_ ?_
  refine pu (i := 1) (N := some 95) (bb 27 3) HT_ ?_
  refine pu (i := 2) (N := some 96) (bb 27 7) HT_ ?_
  refine pu (i := 5) (N := some 99) (bb 27 39) HT_ ?_
  refine pu (i := 6) (N := some 100) (bb 27 103) HT_ ?_
  refine pu (i := 9) (N := some 103) (bb 27 615) HT_ ?_
  refine pu (i := 11) (N := some 105) (bb 27 2663) HT_ ?_
  refine pu (i := 12) (N := some 106) (bb 27 6759) HT_ ?_
  refine pu (i := 15) (N := some 109) (bb 27 39527) HT_ ?_
  refine pu (i := 18) (N := some 112) (bb 27 301671) HT_ ?_
  refine pu (i := 21) (N := some 115) (bb 27 2398823) HT_ ?_
  refine pu (i := 3) (N := some 97) (bb 27 2398831) HT_ ?_
  refine pu (i := 7) (N := some 101) (bb 27 2398959) HT_ ?_
  refine pu (i := 13) (N := some 107) (bb 27 2407151) HT_ ?_
  refine join_ (σ := (Nat → Nat) × (Value) × (Value) × (Value) × (Value) × (Nat) × (Value) × (Value) × (Value) × (Value) × (Value)) 2 (bb 27 33554431) (fun s_ => [(98, s_.2.1), (102, s_.2.2.1), (104, s_.2.2.2.1), (108, s_.2.2.2.2.1), (110, (.slice (some ⟨s_.2.2.2.2.2.1, 0, none⟩) 4 4)), (111, (.slice (some ⟨s_.2.2.2.2.2.1, 0, none⟩) 4 4)), (113, s_.2.2.2.2.2.2.1), (114, s_.2.2.2.2.2.2.2.1), (116, s_.2.2.2.2.2.2.2.2.1), (117, s_.2.2.2.2.2.2.2.2.2.1), (118, s_.2.2.2.2.2.2.2.2.2.2)]) (fun s_ w' => Below w7.heap.size w7 w' ∧ RB w' w7.heap.size s_.1 0 s_.2.2.2.2.1 (((([] : List Int) ++ b1) ++ l7) ++ b2) ∧ VB w' s_.1 1 s_.2.2.2.2.2.2.1 (([67, 85, 66, 49] : List Int) ++ l8) ∧ RB w' w7.heap.size s_.1 2 s_.2.2.2.2.2.2.2.2.2.2 ((([] : List Int) ++ b) ++ [0])) ?_ ?_
  rotate_left
  ·intro ST11111111111
   refine join_ (σ := (Nat → Nat) × (Value) × (Value) × (Value) × (Value) × (Nat) × (Value) × (Value) × (Value) × (Value) × (Value)) 3 (bb 27 16777215) (fun s_ => [(98, s_.2.1), (102, s_.2.2.1), (104, s_.2.2.2.1), (108, s_.2.2.2.2.1), (110, (.slice (some ⟨s_.2.2.2.2.2.1, 0, none⟩) 4 4)), (111, (.slice (some ⟨s_.2.2.2.2.2.1, 0, none⟩) 4 4)), (113, s_.2.2.2.2.2.2.1), (114, s_.2.2.2.2.2.2.2.1), (116, s_.2.2.2.2.2.2.2.2.1), (117, s_.2.2.2.2.2.2.2.2.2.1)]) (fun s_ w' => Below w7.heap.size w7 w' ∧ RB w' w7.heap.size s_.1 0 s_.2.2.2.2.1 (((([] : List Int) ++ b1) ++ l7) ++ b2) ∧ VB w' s_.1 1 s_.2.2.2.2.2.2.1 (([67, 85, 66, 49] : List Int) ++ l8) ∧ RB w' w7.heap.size s_.1 2 s_.2.2.2.2.2.2.2.2.1 (([] : List Int) ++ b) ∧ RB w' w7.heap.size s_.1 3 s_.2.2.2.2.2.2.2.2.2.1 ([0] : List Int)) ?_ ?_
   ·rintro ⟨f, s4, s8, s10, s14, g, s19, s20, s22, s23, s24⟩ W ⟨HB, H1, H2, H3, H4⟩
    try dsimp only at *
    refine norm_ (a' := ?_) ?_ ?_
    rotate_left
    ·show putAll _ _ = _
     (first | (simp only [putAll, Act.put, List.setIfInBounds_toArray, List.set_cons_zero, List.set_cons_succ, i64_w, i32_w]; done) | (simp only [putAll, Act.put, List.setIfInBounds_toArray, List.set_cons_zero, List.set_cons_succ, i64_w, i32_w]; rfl))
    refine one_ (i := 24) (N := some 118) (bb 27 33554431) rfl rfl (one_of HT_.out (by kernel_rfl)) (by decide) (fun K hK => ?_)
    obtain ⟨Ad, cd, ed⟩ := Kd.R_slice H4
    have h4 := H4
    rw [ed] at h4
    refine appB (w0 := w7) (base := w7.heap.size) (xs := (([] : List Int) ++ b)) (ys := ([0] : List Int)) (A := Ad) (c := cd) (by rfl) (.tmp 116) (.tmp 117) rfl rfl (show s23 = _ from ed) H3 ((Kd.R_reads' h4).2.2) HB HB.size ?aL ?_
    (case aL => have := HLEN.out; have := HFEW.out; simp only [List.length_append, List.length_nil, List.length_cons]; omega)
    intro s W1 ho HB1 hg
    refine hK.out _ _ ⟨trivial, trivial⟩ (fun hHeld => ?_)
    clear hK K
    refine nm ?_
    have hN := ST11111111111 ((ow f W.heap.size 2), s4, s8, s10, s14, g, s19, s20, s22, s23, s) W1 ⟨HB1, (rb_app H1 H3 (by decide) hg 2), (vb_app H2 H3 (by decide) hg 2), ho⟩
    refine norm_ ?_ hN
    show _ = putAll _ _
    (first | (simp only [putAll, Act.put, List.setIfInBounds_toArray, List.set_cons_zero, List.set_cons_succ, i64_w, i32_w]; done) | (simp only [putAll, Act.put, List.setIfInBounds_toArray, List.set_cons_zero, List.set_cons_succ, i64_w, i32_w]; rfl))
   intro ST11111111110
   refine join_ (σ := (Nat → Nat) × (Value) × (Value) × (Value) × (Value) × (Nat) × (Value) × (Value) × (Value) × (Value) × (Value)) 4 (bb 27 12582911) (fun s_ => [(98, s_.2.1), (102, s_.2.2.1), (104, s_.2.2.2.1), (108, s_.2.2.2.2.1), (110, (.slice (some ⟨s_.2.2.2.2.2.1, 0, none⟩) 4 4)), (111, (.slice (some ⟨s_.2.2.2.2.2.1, 0, none⟩) 4 4)), (113, s_.2.2.2.2.2.2.1), (114, s_.2.2.2.2.2.2.2.1), (117, s_.2.2.2.2.2.2.2.2.2.1)]) (fun s_ w' => Below w7.heap.size w7 w' ∧ RB w' w7.heap.size s_.1 0 s_.2.2.2.2.1 (((([] : List Int) ++ b1) ++ l7) ++ b2) ∧ VB w' s_.1 1 s_.2.2.2.2.2.2.1 (([67, 85, 66, 49] : List Int) ++ l8) ∧ RB w' w7.heap.size s_.1 2 s_.2.2.2.2.2.2.2.1 ([] : List Int) ∧ RB w' w7.heap.size s_.1 3 s_.2.2.2.2.2.2.2.2.2.1 ([0] : List Int)) ?_ ?_
   ·rintro ⟨f, s4, s8, s10, s14, g, s19, s20, s22, s23, s24⟩ W ⟨HB, H1, H2, H3, H4⟩
    try dsimp only at *
    refine norm_ (a' := ?_) ?_ ?_
    rotate_left
    ·show putAll _ _ = _
     (first | (simp only [putAll, Act.put, List.setIfInBounds_toArray, List.set_cons_zero, List.set_cons_succ, i64_w, i32_w]; done) | (simp only [putAll, Act.put, List.setIfInBounds_toArray, List.set_cons_zero, List.set_cons_succ, i64_w, i32_w]; rfl))
    refine one_ (i := 22) (N := some 116) (bb 27 16777215) rfl rfl (one_of HT_.out (by kernel_rfl)) (by decide) (fun K hK => ?_)
    refine appB (w0 := w7) (base := w7.heap.size) (xs := ([] : List Int)) (ys := b) (A := Ab) (c := cb) (by rfl) (.tmp 114) (.tmp 115) rfl rfl rfl H3 (Kd.C_below SB.out HB) HB HB.size ?aL ?_
    (case aL => have := HLEN.out; have := HFEW.out; simp only [List.length_append, List.length_nil, List.length_cons]; omega)
    intro s W1 ho HB1 hg
    refine hK.out _ _ ⟨trivial, trivial⟩ (fun hHeld => ?_)
    clear hK K
    refine nm ?_
    have hN := ST11111111110 ((ow f W.heap.size 2), s4, s8, s10, s14, g, s19, s20, s, s23, undef) W1 ⟨HB1, (rb_app H1 H3 (by decide) hg 2), (vb_app H2 H3 (by decide) hg 2), ho, (rb_app H4 H3 (by decide) hg 2)⟩
    refine norm_ ?_ hN
    show _ = putAll _ _
    (first | (simp only [putAll, Act.put, List.setIfInBounds_toArray, List.set_cons_zero, List.set_cons_succ, i64_w, i32_w]; done) | (simp only [putAll, Act.put, List.setIfInBounds_toArray, List.set_cons_zero, List.set_cons_succ, i64_w, i32_w]; rfl))
   intro ST11111111010
   refine join_ (σ := (Nat → Nat) × (Value) × (Value) × (Value) × (Value) × (Nat) × (Value) × (Value) × (Value) × (Value) × (Value)) 4 (bb 27 8388607) (fun s_ => [(98, s_.2.1), (102, s_.2.2.1), (104, s_.2.2.2.1), (108, s_.2.2.2.2.1), (110, (.slice (some ⟨s_.2.2.2.2.2.1, 0, none⟩) 4 4)), (111, (.slice (some ⟨s_.2.2.2.2.2.1, 0, none⟩) 4 4)), (113, s_.2.2.2.2.2.2.1), (114, s_.2.2.2.2.2.2.2.1), (116, s_.2.2.2.2.2.2.2.2.1)]) (fun s_ w' => Below w7.heap.size w7 w' ∧ RB w' w7.heap.size s_.1 0 s_.2.2.2.2.1 (((([] : List Int) ++ b1) ++ l7) ++ b2) ∧ VB w' s_.1 1 s_.2.2.2.2.2.2.1 (([67, 85, 66, 49] : List Int) ++ l8) ∧ RB w' w7.heap.size s_.1 2 s_.2.2.2.2.2.2.2.2.1 (([] : List Int) ++ b)) ?_ ?_
   ·rintro ⟨f, s4, s8, s10, s14, g, s19, s20, s22, s23, s24⟩ W ⟨HB, H1, H2, H3⟩
    try dsimp only at *
    refine norm_ (a' := ?_) ?_ ?_
    rotate_left
    ·show putAll _ _ = _
     (first | (simp only [putAll, Act.put, List.setIfInBounds_toArray, List.set_cons_zero, List.set_cons_succ, i64_w, i32_w]; done) | (simp only [putAll, Act.put, List.setIfInBounds_toArray, List.set_cons_zero, List.set_cons_succ, i64_w, i32_w]; rfl))
    refine one_ (i := 23) (N := some 117) (bb 27 16777215) rfl rfl (one_of HT_.out (by kernel_rfl)) (by decide) (fun K hK => ?_)
    refine litB (by rfl) rfl (xs := ([0] : List Int)) (by first | (go_simp; done) | (go_simp; rfl)) (by simp) ?_
    intro s W1 ho hb
    have HB1 := below_step HB hb
    refine hK.out _ _ ⟨trivial, trivial⟩ (fun hHeld => ?_)
    clear hK K
    refine nm ?_
    have hN := ST11111111110 ((ow f W.heap.size 3), s4, s8, s10, s14, g, s19, s20, s22, s, undef) W1 ⟨HB1, (rb_fresh H1 hb 3), (vb_fresh H2 hb 3), (rb_fresh H3 hb 3), (rb_lit f ho HB.size 3)⟩
    refine norm_ ?_ hN
    show _ = putAll _ _
    (first | (simp only [putAll, Act.put, List.setIfInBounds_toArray, List.set_cons_zero, List.set_cons_succ, i64_w, i32_w]; done) | (simp only [putAll, Act.put, List.setIfInBounds_toArray, List.set_cons_zero, List.set_cons_succ, i64_w, i32_w]; rfl))
   intro ST11111111100
   refine join_ (σ := (Nat → Nat) × (Value) × (Value) × (Value) × (Value) × (Nat) × (Value) × (Value) × (Value) × (Value) × (Value)) 5 (bb 27 12058623) (fun s_ => [(98, s_.2.1), (102, s_.2.2.1), (104, s_.2.2.2.1), (108, s_.2.2.2.2.1), (110, (.slice (some ⟨s_.2.2.2.2.2.1, 0, none⟩) 4 4)), (111, (.slice (some ⟨s_.2.2.2.2.2.1, 0, none⟩) 4 4)), (114, s_.2.2.2.2.2.2.2.1), (117, s_.2.2.2.2.2.2.2.2.2.1)]) (fun s_ w' => Below w7.heap.size w7 w' ∧ RB w' w7.heap.size s_.1 0 s_.2.2.2.2.1 (((([] : List Int) ++ b1) ++ l7) ++ b2) ∧ (CB w' s_.1 1 s_.2.2.2.2.2.1 ([67, 85, 66, 49] : List Int) (4, 5) ∧ w7.heap.size ≤ s_.2.2.2.2.2.1) ∧ RB w' w7.heap.size s_.1 2 s_.2.2.2.2.2.2.2.1 ([] : List Int) ∧ RB w' w7.heap.size s_.1 3 s_.2.2.2.2.2.2.2.2.2.1 ([0] : List Int)) ?_ ?_
   ·rintro ⟨f, s4, s8, s10, s14, g, s19, s20, s22, s23, s24⟩ W ⟨HB, H1, H2, H3, H4⟩
    try dsimp only at *
    refine norm_ (a' := ?_) ?_ ?_
    rotate_left
    ·show putAll _ _ = _
     (first | (simp only [putAll, Act.put, List.setIfInBounds_toArray, List.set_cons_zero, List.set_cons_succ, i64_w, i32_w]; done) | (simp only [putAll, Act.put, List.setIfInBounds_toArray, List.set_cons_zero, List.set_cons_succ, i64_w, i32_w]; rfl))
    refine one_ (i := 19) (N := some 113) (bb 27 12582911) rfl rfl (one_of HT_.out (by kernel_rfl)) (by decide) (fun K hK => ?_)
    refine appF (xs := ([67, 85, 66, 49] : List Int)) (ys := l8) (A := A8) (c := c8) (by rfl) (.tmp 111) (.tmp 112) rfl rfl rfl H2.1 (Kd.C_below S8.out HB) ?aL ?_
    (case aL => have := HFEW.out; simp only [List.length_nil, List.length_cons]; omega)
    intro s W1 ho hb
    have HB1 := below_step HB hb
    refine hK.out _ _ ⟨trivial, trivial⟩ (fun hHeld => ?_)
    clear hK K
    refine nm ?_
    have hN := ST11111111010 ((ow f W.heap.size 1), s4, s8, s10, s14, g, s, s20, undef, s23, undef) W1 ⟨HB1, (rb_fresh H1 hb 1), ho, (rb_fresh H3 hb 1), (rb_fresh H4 hb 1)⟩
    refine norm_ ?_ hN
    show _ = putAll _ _
    (first | (simp only [putAll, Act.put, List.setIfInBounds_toArray, List.set_cons_zero, List.set_cons_succ, i64_w, i32_w]; done) | (simp only [putAll, Act.put, List.setIfInBounds_toArray, List.set_cons_zero, List.set_cons_succ, i64_w, i32_w]; rfl))
   intro ST11111101010
   refine join_ (σ := (Nat → Nat) × (Value) × (Value) × (Value) × (Value) × (Nat) × (Value) × (Value) × (Value) × (Value) × (Value)) 5 (bb 27 11534335) (fun s_ => [(98, s_.2.1), (102, s_.2.2.1), (104, s_.2.2.2.1), (108, s_.2.2.2.2.1), (110, (.slice (some ⟨s_.2.2.2.2.2.1, 0, none⟩) 4 4)), (111, (.slice (some ⟨s_.2.2.2.2.2.1, 0, none⟩) 4 4)), (113, s_.2.2.2.2.2.2.1), (117, s_.2.2.2.2.2.2.2.2.2.1)]) (fun s_ w' => Below w7.heap.size w7 w' ∧ RB w' w7.heap.size s_.1 0 s_.2.2.2.2.1 (((([] : List Int) ++ b1) ++ l7) ++ b2) ∧ VB w' s_.1 1 s_.2.2.2.2.2.2.1 (([67, 85, 66, 49] : List Int) ++ l8) ∧ RB w' w7.heap.size s_.1 3 s_.2.2.2.2.2.2.2.2.2.1 ([0] : List Int)) ?_ ?_
   ·rintro ⟨f, s4, s8, s10, s14, g, s19, s20, s22, s23, s24⟩ W ⟨HB, H1, H2, H4⟩
    try dsimp only at *
    refine norm_ (a' := ?_) ?_ ?_
    rotate_left
    ·show putAll _ _ = _
     (first | (simp only [putAll, Act.put, List.setIfInBounds_toArray, List.set_cons_zero, List.set_cons_succ, i64_w, i32_w]; done) | (simp only [putAll, Act.put, List.setIfInBounds_toArray, List.set_cons_zero, List.set_cons_succ, i64_w, i32_w]; rfl))
    refine one_ (i := 20) (N := some 114) (bb 27 12582911) rfl rfl (one_of HT_.out (by kernel_rfl)) (by decide) (fun K hK => ?_)
    refine litB (by rfl) rfl (xs := ([] : List Int)) (by first | (go_simp; done) | (go_simp; rfl)) (by simp) ?_
    intro s W1 ho hb
    have HB1 := below_step HB hb
    refine hK.out _ _ ⟨trivial, trivial⟩ (fun hHeld => ?_)
    clear hK K
    refine nm ?_
    have hN := ST11111111010 ((ow f W.heap.size 2), s4, s8, s10, s14, g, s19, s, undef, s23, undef) W1 ⟨HB1, (rb_fresh H1 hb 2), (vb_fresh H2 hb 2), (rb_lit f ho HB.size 2), (rb_fresh H4 hb 2)⟩
    refine norm_ ?_ hN
    show _ = putAll _ _
    (first | (simp only [putAll, Act.put, List.setIfInBounds_toArray, List.set_cons_zero, List.set_cons_succ, i64_w, i32_w]; done) | (simp only [putAll, Act.put, List.setIfInBounds_toArray, List.set_cons_zero, List.set_cons_succ, i64_w, i32_w]; rfl))
   intro ST11111110010
   refine join_ (σ := (Nat → Nat) × (Value) × (Value) × (Value) × (Value) × (Nat) × (Value) × (Value) × (Value) × (Value) × (Value)) 5 (bb 27 4194303) (fun s_ => [(98, s_.2.1), (102, s_.2.2.1), (104, s_.2.2.2.1), (108, s_.2.2.2.2.1), (110, (.slice (some ⟨s_.2.2.2.2.2.1, 0, none⟩) 4 4)), (111, (.slice (some ⟨s_.2.2.2.2.2.1, 0, none⟩) 4 4)), (113, s_.2.2.2.2.2.2.1), (114, s_.2.2.2.2.2.2.2.1)]) (fun s_ w' => Below w7.heap.size w7 w' ∧ RB w' w7.heap.size s_.1 0 s_.2.2.2.2.1 (((([] : List Int) ++ b1) ++ l7) ++ b2) ∧ VB w' s_.1 1 s_.2.2.2.2.2.2.1 (([67, 85, 66, 49] : List Int) ++ l8) ∧ RB w' w7.heap.size s_.1 2 s_.2.2.2.2.2.2.2.1 ([] : List Int)) ?_ ?_
   ·rintro ⟨f, s4, s8, s10, s14, g, s19, s20, s22, s23, s24⟩ W ⟨HB, H1, H2, H3⟩
    try dsimp only at *
    refine norm_ (a' := ?_) ?_ ?_
    rotate_left
    ·show putAll _ _ = _
     (first | (simp only [putAll, Act.put, List.setIfInBounds_toArray, List.set_cons_zero, List.set_cons_succ, i64_w, i32_w]; done) | (simp only [putAll, Act.put, List.setIfInBounds_toArray, List.set_cons_zero, List.set_cons_succ, i64_w, i32_w]; rfl))
    refine two_ (i := 22) (j := 23) (Ni := some 116) (Nj := some 117) (bb 27 8388607) (bb 27 12582911) rfl rfl rfl rfl (two_of HT_.out (by kernel_rfl)) (by decide) (by decide) (fun K hK => ?_) (fun K hK => ?_)
    ·refine appB (w0 := w7) (base := w7.heap.size) (xs := ([] : List Int)) (ys := b) (A := Ab) (c := cb) (by rfl) (.tmp 114) (.tmp 115) rfl rfl rfl H3 (Kd.C_below SB.out HB) HB HB.size ?aL ?_
     (case aL => have := HLEN.out; have := HFEW.out; simp only [List.length_append, List.length_nil, List.length_cons]; omega)
     intro s W1 ho HB1 hg
     refine hK.out _ _ ⟨trivial, trivial⟩ (fun hHeld => ?_)
     clear hK K
     refine nm ?_
     have hN := ST11111111100 ((ow f W.heap.size 2), s4, s8, s10, s14, g, s19, s20, s, undef, undef) W1 ⟨HB1, (rb_app H1 H3 (by decide) hg 2), (vb_app H2 H3 (by decide) hg 2), ho⟩
     refine norm_ ?_ hN
     show _ = putAll _ _
     (first | (simp only [putAll, Act.put, List.setIfInBounds_toArray, List.set_cons_zero, List.set_cons_succ, i64_w, i32_w]; done) | (simp only [putAll, Act.put, List.setIfInBounds_toArray, List.set_cons_zero, List.set_cons_succ, i64_w, i32_w]; rfl))
    ·refine litB (by rfl) rfl (xs := ([0] : List Int)) (by first | (go_simp; done) | (go_simp; rfl)) (by simp) ?_
     intro s W1 ho hb
     have HB1 := below_step HB hb
     refine hK.out _ _ ⟨trivial, trivial⟩ (fun hHeld => ?_)
     clear hK K
     refine nm ?_
     have hN := ST11111111010 ((ow f W.heap.size 3), s4, s8, s10, s14, g, s19, s20, undef, s, undef) W1 ⟨HB1, (rb_fresh H1 hb 3), (vb_fresh H2 hb 3), (rb_fresh H3 hb 3), (rb_lit f ho HB.size 3)⟩
     refine norm_ ?_ hN
     show _ = putAll _ _
     (first | (simp only [putAll, Act.put, List.setIfInBounds_toArray, List.set_cons_zero, List.set_cons_succ, i64_w, i32_w]; done) | (simp only [putAll, Act.put, List.setIfInBounds_toArray, List.set_cons_zero, List.set_cons_succ, i64_w, i32_w]; rfl))
   intro ST11111111000
   refine join_ (σ := (Nat → Nat) × (Value) × (Value) × (Value) × (Value) × (Nat) × (Value) × (Value) × (Value) × (Value) × (Value)) 6 (bb 27 12042239) (fun s_ => [(98, s_.2.1), (102, s_.2.2.1), (104, s_.2.2.2.1), (110, (.slice (some ⟨s_.2.2.2.2.2.1, 0, none⟩) 4 4)), (111, (.slice (some ⟨s_.2.2.2.2.2.1, 0, none⟩) 4 4)), (114, s_.2.2.2.2.2.2.2.1), (117, s_.2.2.2.2.2.2.2.2.2.1)]) (fun s_ w' => Below w7.heap.size w7 w' ∧ RB w' w7.heap.size s_.1 0 s_.2.2.2.1 ((([] : List Int) ++ b1) ++ l7) ∧ (CB w' s_.1 1 s_.2.2.2.2.2.1 ([67, 85, 66, 49] : List Int) (4, 5) ∧ w7.heap.size ≤ s_.2.2.2.2.2.1) ∧ RB w' w7.heap.size s_.1 2 s_.2.2.2.2.2.2.2.1 ([] : List Int) ∧ RB w' w7.heap.size s_.1 3 s_.2.2.2.2.2.2.2.2.2.1 ([0] : List Int)) ?_ ?_
   ·rintro ⟨f, s4, s8, s10, s14, g, s19, s20, s22, s23, s24⟩ W ⟨HB, H1, H2, H3, H4⟩
    try dsimp only at *
    refine norm_ (a' := ?_) ?_ ?_
    rotate_left
    ·show putAll _ _ = _
     (first | (simp only [putAll, Act.put, List.setIfInBounds_toArray, List.set_cons_zero, List.set_cons_succ, i64_w, i32_w]; done) | (simp only [putAll, Act.put, List.setIfInBounds_toArray, List.set_cons_zero, List.set_cons_succ, i64_w, i32_w]; rfl))
    refine one_ (i := 14) (N := some 108) (bb 27 12058623) rfl rfl (one_of HT_.out (by kernel_rfl)) (by decide) (fun K hK => ?_)
    refine appB (w0 := w7) (base := w7.heap.size) (xs := ((([] : List Int) ++ b1) ++ l7)) (ys := b2) (A := A2') (c := c2') (by rfl) (.tmp 104) (.tmp 107) rfl rfl rfl H1 (Kd.C_below S2.out HB) HB HB.size ?aL ?_
    (case aL => have := HLEN.out; have := HFEW.out; simp only [List.length_append, List.length_nil, List.length_cons]; omega)
    intro s W1 ho HB1 hg
    refine hK.out _ _ ⟨trivial, trivial⟩ (fun hHeld => ?_)
    clear hK K
    refine nm ?_
    have hN := ST11111101010 ((ow f W.heap.size 0), s4, s8, s10, s, g, undef, s20, undef, s23, undef) W1 ⟨HB1, ho, ⟨cb_app H2.1 H1 (by decide) hg 0, H2.2⟩, (rb_app H3 H1 (by decide) hg 0), (rb_app H4 H1 (by decide) hg 0)⟩
    refine norm_ ?_ hN
    show _ = putAll _ _
    (first | (simp only [putAll, Act.put, List.setIfInBounds_toArray, List.set_cons_zero, List.set_cons_succ, i64_w, i32_w]; done) | (simp only [putAll, Act.put, List.setIfInBounds_toArray, List.set_cons_zero, List.set_cons_succ, i64_w, i32_w]; rfl))
   intro ST11101101010
   refine join_ (σ := (Nat → Nat) × (Value) × (Value) × (Value) × (Value) × (Nat) × (Value) × (Value) × (Value) × (Value) × (Value)) 6 (bb 27 11927551) (fun s_ => [(98, s_.2.1), (102, s_.2.2.1), (104, s_.2.2.2.1), (108, s_.2.2.2.2.1), (110, (.slice (some ⟨s_.2.2.2.2.2.1, 0, none⟩) 4 4)), (114, s_.2.2.2.2.2.2.2.1), (117, s_.2.2.2.2.2.2.2.2.2.1)]) (fun s_ w' => Below w7.heap.size w7 w' ∧ RB w' w7.heap.size s_.1 0 s_.2.2.2.2.1 (((([] : List Int) ++ b1) ++ l7) ++ b2) ∧ (CB w' s_.1 1 s_.2.2.2.2.2.1 ([67, 85, 66, 49] : List Int) (0, 0) ∧ w7.heap.size ≤ s_.2.2.2.2.2.1) ∧ RB w' w7.heap.size s_.1 2 s_.2.2.2.2.2.2.2.1 ([] : List Int) ∧ RB w' w7.heap.size s_.1 3 s_.2.2.2.2.2.2.2.2.2.1 ([0] : List Int)) ?_ ?_
   ·rintro ⟨f, s4, s8, s10, s14, g, s19, s20, s22, s23, s24⟩ W ⟨HB, H1, H2, H3, H4⟩
    try dsimp only at *
    refine norm_ (a' := ?_) ?_ ?_
    rotate_left
    ·show putAll _ _ = _
     (first | (simp only [putAll, Act.put, List.setIfInBounds_toArray, List.set_cons_zero, List.set_cons_succ, i64_w, i32_w]; done) | (simp only [putAll, Act.put, List.setIfInBounds_toArray, List.set_cons_zero, List.set_cons_succ, i64_w, i32_w]; rfl))
    refine one_ (i := 17) (N := some 111) (bb 27 12058623) rfl rfl (one_of HT_.out (by kernel_rfl)) (by decide) (fun K hK => ?_)
    refine cvtB (by rfl) (.tmp 110) 4 rfl rfl H2.1 ?_
    intro W1 hC1 hoth hsz hos
    have HB1 := cvt_below HB H2.2 hoth hsz hos
    refine hK.out _ _ ⟨trivial, trivial⟩ (fun hHeld => ?_)
    clear hK K
    refine nm ?_
    have hN := ST11111101010 (f, s4, s8, s10, s14, g, undef, s20, undef, s23, undef) W1 ⟨HB1, (cvt_row H1 H2.1.2 (by decide) hoth), ⟨hC1, H2.2⟩, (cvt_row H3 H2.1.2 (by decide) hoth), (cvt_row H4 H2.1.2 (by decide) hoth)⟩
    refine norm_ ?_ hN
    show _ = putAll _ _
    (first | (simp only [putAll, Act.put, List.setIfInBounds_toArray, List.set_cons_zero, List.set_cons_succ, i64_w, i32_w]; done) | (simp only [putAll, Act.put, List.setIfInBounds_toArray, List.set_cons_zero, List.set_cons_succ, i64_w, i32_w]; rfl))
   intro ST11111001010
   refine join_ (σ := (Nat → Nat) × (Value) × (Value) × (Value) × (Value) × (Nat) × (Value) × (Value) × (Value) × (Value) × (Value)) 6 (bb 27 11010047) (fun s_ => [(98, s_.2.1), (102, s_.2.2.1), (104, s_.2.2.2.1), (108, s_.2.2.2.2.1), (110, (.slice (some ⟨s_.2.2.2.2.2.1, 0, none⟩) 4 4)), (111, (.slice (some ⟨s_.2.2.2.2.2.1, 0, none⟩) 4 4)), (117, s_.2.2.2.2.2.2.2.2.2.1)]) (fun s_ w' => Below w7.heap.size w7 w' ∧ RB w' w7.heap.size s_.1 0 s_.2.2.2.2.1 (((([] : List Int) ++ b1) ++ l7) ++ b2) ∧ (CB w' s_.1 1 s_.2.2.2.2.2.1 ([67, 85, 66, 49] : List Int) (4, 5) ∧ w7.heap.size ≤ s_.2.2.2.2.2.1) ∧ RB w' w7.heap.size s_.1 3 s_.2.2.2.2.2.2.2.2.2.1 ([0] : List Int)) ?_ ?_
   ·rintro ⟨f, s4, s8, s10, s14, g, s19, s20, s22, s23, s24⟩ W ⟨HB, H1, H2, H4⟩
    try dsimp only at *
    refine norm_ (a' := ?_) ?_ ?_
    rotate_left
    ·show putAll _ _ = _
     (first | (simp only [putAll, Act.put, List.setIfInBounds_toArray, List.set_cons_zero, List.set_cons_succ, i64_w, i32_w]; done) | (simp only [putAll, Act.put, List.setIfInBounds_toArray, List.set_cons_zero, List.set_cons_succ, i64_w, i32_w]; rfl))
    refine two_ (i := 19) (j := 20) (Ni := some 113) (Nj := some 114) (bb 27 11534335) (bb 27 12058623) rfl rfl rfl rfl (two_of HT_.out (by kernel_rfl)) (by decide) (by decide) (fun K hK => ?_) (fun K hK => ?_)
    ·refine appF (xs := ([67, 85, 66, 49] : List Int)) (ys := l8) (A := A8) (c := c8) (by rfl) (.tmp 111) (.tmp 112) rfl rfl rfl H2.1 (Kd.C_below S8.out HB) ?aL ?_
     (case aL => have := HFEW.out; simp only [List.length_nil, List.length_cons]; omega)
     intro s W1 ho hb
     have HB1 := below_step HB hb
     refine hK.out _ _ ⟨trivial, trivial⟩ (fun hHeld => ?_)
     clear hK K
     refine nm ?_
     have hN := ST11111110010 ((ow f W.heap.size 1), s4, s8, s10, s14, g, s, undef, undef, s23, undef) W1 ⟨HB1, (rb_fresh H1 hb 1), ho, (rb_fresh H4 hb 1)⟩
     refine norm_ ?_ hN
     show _ = putAll _ _
     (first | (simp only [putAll, Act.put, List.setIfInBounds_toArray, List.set_cons_zero, List.set_cons_succ, i64_w, i32_w]; done) | (simp only [putAll, Act.put, List.setIfInBounds_toArray, List.set_cons_zero, List.set_cons_succ, i64_w, i32_w]; rfl))
    ·refine litB (by rfl) rfl (xs := ([] : List Int)) (by first | (go_simp; done) | (go_simp; rfl)) (by simp) ?_
     intro s W1 ho hb
     have HB1 := below_step HB hb
     refine hK.out _ _ ⟨trivial, trivial⟩ (fun hHeld => ?_)
     clear hK K
     refine nm ?_
     have hN := ST11111101010 ((ow f W.heap.size 2), s4, s8, s10, s14, g, undef, s, undef, s23, undef) W1 ⟨HB1, (rb_fresh H1 hb 2), ⟨cb_fresh H2.1 hb 2, H2.2⟩, (rb_lit f ho HB.size 2), (rb_fresh H4 hb 2)⟩
     refine norm_ ?_ hN
     show _ = putAll _ _
     (first | (simp only [putAll, Act.put, List.setIfInBounds_toArray, List.set_cons_zero, List.set_cons_succ, i64_w, i32_w]; done) | (simp only [putAll, Act.put, List.setIfInBounds_toArray, List.set_cons_zero, List.set_cons_succ, i64_w, i32_w]; rfl))
   intro ST11111100010
   refine join_ (σ := (Nat → Nat) × (Value) × (Value) × (Value) × (Value) × (Nat) × (Value) × (Value) × (Value) × (Value) × (Value)) 6 (bb 27 3670015) (fun s_ => [(98, s_.2.1), (102, s_.2.2.1), (104, s_.2.2.2.1), (108, s_.2.2.2.2.1), (110, (.slice (some ⟨s_.2.2.2.2.2.1, 0, none⟩) 4 4)), (111, (.slice (some ⟨s_.2.2.2.2.2.1, 0, none⟩) 4 4)), (114, s_.2.2.2.2.2.2.2.1)]) (fun s_ w' => Below w7.heap.size w7 w' ∧ RB w' w7.heap.size s_.1 0 s_.2.2.2.2.1 (((([] : List Int) ++ b1) ++ l7) ++ b2) ∧ (CB w' s_.1 1 s_.2.2.2.2.2.1 ([67, 85, 66, 49] : List Int) (4, 5) ∧ w7.heap.size ≤ s_.2.2.2.2.2.1) ∧ RB w' w7.heap.size s_.1 2 s_.2.2.2.2.2.2.2.1 ([] : List Int)) ?_ ?_
   ·rintro ⟨f, s4, s8, s10, s14, g, s19, s20, s22, s23, s24⟩ W ⟨HB, H1, H2, H3⟩
    try dsimp only at *
    refine norm_ (a' := ?_) ?_ ?_
    rotate_left
    ·show putAll _ _ = _
     (first | (simp only [putAll, Act.put, List.setIfInBounds_toArray, List.set_cons_zero, List.set_cons_succ, i64_w, i32_w]; done) | (simp only [putAll, Act.put, List.setIfInBounds_toArray, List.set_cons_zero, List.set_cons_succ, i64_w, i32_w]; rfl))
    refine two_ (i := 19) (j := 23) (Ni := some 113) (Nj := some 117) (bb 27 4194303) (bb 27 12058623) rfl rfl rfl rfl (two_of HT_.out (by kernel_rfl)) (by decide) (by decide) (fun K hK => ?_) (fun K hK => ?_)
    ·refine appF (xs := ([67, 85, 66, 49] : List Int)) (ys := l8) (A := A8) (c := c8) (by rfl) (.tmp 111) (.tmp 112) rfl rfl rfl H2.1 (Kd.C_below S8.out HB) ?aL ?_
     (case aL => have := HFEW.out; simp only [List.length_nil, List.length_cons]; omega)
     intro s W1 ho hb
     have HB1 := below_step HB hb
     refine hK.out _ _ ⟨trivial, trivial⟩ (fun hHeld => ?_)
     clear hK K
     refine nm ?_
     have hN := ST11111111000 ((ow f W.heap.size 1), s4, s8, s10, s14, g, s, s20, undef, undef, undef) W1 ⟨HB1, (rb_fresh H1 hb 1), ho, (rb_fresh H3 hb 1)⟩
     refine norm_ ?_ hN
     show _ = putAll _ _
     (first | (simp only [putAll, Act.put, List.setIfInBounds_toArray, List.set_cons_zero, List.set_cons_succ, i64_w, i32_w]; done) | (simp only [putAll, Act.put, List.setIfInBounds_toArray, List.set_cons_zero, List.set_cons_succ, i64_w, i32_w]; rfl))
    ·refine litB (by rfl) rfl (xs := ([0] : List Int)) (by first | (go_simp; done) | (go_simp; rfl)) (by simp) ?_
     intro s W1 ho hb
     have HB1 := below_step HB hb
     refine hK.out _ _ ⟨trivial, trivial⟩ (fun hHeld => ?_)
     clear hK K
     refine nm ?_
     have hN := ST11111101010 ((ow f W.heap.size 3), s4, s8, s10, s14, g, undef, s20, undef, s, undef) W1 ⟨HB1, (rb_fresh H1 hb 3), ⟨cb_fresh H2.1 hb 3, H2.2⟩, (rb_fresh H3 hb 3), (rb_lit f ho HB.size 3)⟩
     refine norm_ ?_ hN
     show _ = putAll _ _
     (first | (simp only [putAll, Act.put, List.setIfInBounds_toArray, List.set_cons_zero, List.set_cons_succ, i64_w, i32_w]; done) | (simp only [putAll, Act.put, List.setIfInBounds_toArray, List.set_cons_zero, List.set_cons_succ, i64_w, i32_w]; rfl))
   intro ST11111101000
   refine join_ (σ := (Nat → Nat) × (Value) × (Value) × (Value) × (Value) × (Nat) × (Value) × (Value) × (Value) × (Value) × (Value)) 6 (bb 27 3145727) (fun s_ => [(98, s_.2.1), (102, s_.2.2.1), (104, s_.2.2.2.1), (108, s_.2.2.2.2.1), (110, (.slice (some ⟨s_.2.2.2.2.2.1, 0, none⟩) 4 4)), (111, (.slice (some ⟨s_.2.2.2.2.2.1, 0, none⟩) 4 4)), (113, s_.2.2.2.2.2.2.1)]) (fun s_ w' => Below w7.heap.size w7 w' ∧ RB w' w7.heap.size s_.1 0 s_.2.2.2.2.1 (((([] : List Int) ++ b1) ++ l7) ++ b2) ∧ VB w' s_.1 1 s_.2.2.2.2.2.2.1 (([67, 85, 66, 49] : List Int) ++ l8)) ?_ ?_
   ·rintro ⟨f, s4, s8, s10, s14, g, s19, s20, s22, s23, s24⟩ W ⟨HB, H1, H2⟩
    try dsimp only at *
    refine norm_ (a' := ?_) ?_ ?_
    rotate_left
    ·show putAll _ _ = _
     (first | (simp only [putAll, Act.put, List.setIfInBounds_toArray, List.set_cons_zero, List.set_cons_succ, i64_w, i32_w]; done) | (simp only [putAll, Act.put, List.setIfInBounds_toArray, List.set_cons_zero, List.set_cons_succ, i64_w, i32_w]; rfl))
    refine two_ (i := 20) (j := 23) (Ni := some 114) (Nj := some 117) (bb 27 4194303) (bb 27 11534335) rfl rfl rfl rfl (two_of HT_.out (by kernel_rfl)) (by decide) (by decide) (fun K hK => ?_) (fun K hK => ?_)
    ·refine litB (by rfl) rfl (xs := ([] : List Int)) (by first | (go_simp; done) | (go_simp; rfl)) (by simp) ?_
     intro s W1 ho hb
     have HB1 := below_step HB hb
     refine hK.out _ _ ⟨trivial, trivial⟩ (fun hHeld => ?_)
     clear hK K
     refine nm ?_
     have hN := ST11111111000 ((ow f W.heap.size 2), s4, s8, s10, s14, g, s19, s, undef, undef, undef) W1 ⟨HB1, (rb_fresh H1 hb 2), (vb_fresh H2 hb 2), (rb_lit f ho HB.size 2)⟩
     refine norm_ ?_ hN
     show _ = putAll _ _
     (first | (simp only [putAll, Act.put, List.setIfInBounds_toArray, List.set_cons_zero, List.set_cons_succ, i64_w, i32_w]; done) | (simp only [putAll, Act.put, List.setIfInBounds_toArray, List.set_cons_zero, List.set_cons_succ, i64_w, i32_w]; rfl))
    ·refine litB (by rfl) rfl (xs := ([0] : List Int)) (by first | (go_simp; done) | (go_simp; rfl)) (by simp) ?_
     intro s W1 ho hb
     have HB1 := below_step HB hb
     refine hK.out _ _ ⟨trivial, trivial⟩ (fun hHeld => ?_)
     clear hK K
     refine nm ?_
     have hN := ST11111110010 ((ow f W.heap.size 3), s4, s8, s10, s14, g, s19, undef, undef, s, undef) W1 ⟨HB1, (rb_fresh H1 hb 3), (vb_fresh H2 hb 3), (rb_lit f ho HB.size 3)⟩
     refine norm_ ?_ hN
     show _ = putAll _ _
     (first | (simp only [putAll, Act.put, List.setIfInBounds_toArray, List.set_cons_zero, List.set_cons_succ, i64_w, i32_w]; done) | (simp only [putAll, Act.put, List.setIfInBounds_toArray, List.set_cons_zero, List.set_cons_succ, i64_w, i32_w]; rfl))
   intro ST11111110000
   refine join_ (σ := (Nat → Nat) × (Value) × (Value) × (Value) × (Value) × (Nat) × (Value) × (Value) × (Value) × (Value) × (Value)) 7 (bb 27 12041215) (fun s_ => [(98, s_.2.1), (102, s_.2.2.1), (110, (.slice (some ⟨s_.2.2.2.2.2.1, 0, none⟩) 4 4)), (111, (.slice (some ⟨s_.2.2.2.2.2.1, 0, none⟩) 4 4)), (114, s_.2.2.2.2.2.2.2.1), (117, s_.2.2.2.2.2.2.2.2.2.1)]) (fun s_ w' => Below w7.heap.size w7 w' ∧ RB w' w7.heap.size s_.1 0 s_.2.2.1 (([] : List Int) ++ b1) ∧ (CB w' s_.1 1 s_.2.2.2.2.2.1 ([67, 85, 66, 49] : List Int) (4, 5) ∧ w7.heap.size ≤ s_.2.2.2.2.2.1) ∧ RB w' w7.heap.size s_.1 2 s_.2.2.2.2.2.2.2.1 ([] : List Int) ∧ RB w' w7.heap.size s_.1 3 s_.2.2.2.2.2.2.2.2.2.1 ([0] : List Int)) ?_ ?_
   ·rintro ⟨f, s4, s8, s10, s14, g, s19, s20, s22, s23, s24⟩ W ⟨HB, H1, H2, H3, H4⟩
    try dsimp only at *
    refine norm_ (a' := ?_) ?_ ?_
    rotate_left
    ·show putAll _ _ = _
     (first | (simp only [putAll, Act.put, List.setIfInBounds_toArray, List.set_cons_zero, List.set_cons_succ, i64_w, i32_w]; done) | (simp only [putAll, Act.put, List.setIfInBounds_toArray, List.set_cons_zero, List.set_cons_succ, i64_w, i32_w]; rfl))
    refine one_ (i := 10) (N := some 104) (bb 27 12042239) rfl rfl (one_of HT_.out (by kernel_rfl)) (by decide) (fun K hK => ?_)
    refine appB (w0 := w7) (base := w7.heap.size) (xs := (([] : List Int) ++ b1)) (ys := l7) (A := A7) (c := c7) (by rfl) (.tmp 102) (.tmp 103) rfl rfl rfl H1 (Kd.C_below S7.out HB) HB HB.size ?aL ?_
    (case aL => have := HLEN.out; have := HFEW.out; simp only [List.length_append, List.length_nil, List.length_cons]; omega)
    intro s W1 ho HB1 hg
    refine hK.out _ _ ⟨trivial, trivial⟩ (fun hHeld => ?_)
    clear hK K
    refine nm ?_
    have hN := ST11101101010 ((ow f W.heap.size 0), s4, s8, s, undef, g, undef, s20, undef, s23, undef) W1 ⟨HB1, ho, ⟨cb_app H2.1 H1 (by decide) hg 0, H2.2⟩, (rb_app H3 H1 (by decide) hg 0), (rb_app H4 H1 (by decide) hg 0)⟩
    refine norm_ ?_ hN
    show _ = putAll _ _
    (first | (simp only [putAll, Act.put, List.setIfInBounds_toArray, List.set_cons_zero, List.set_cons_succ, i64_w, i32_w]; done) | (simp only [putAll, Act.put, List.setIfInBounds_toArray, List.set_cons_zero, List.set_cons_succ, i64_w, i32_w]; rfl))
   intro ST11001101010
   refine join_ (σ := (Nat → Nat) × (Value) × (Value) × (Value) × (Value) × (Nat) × (Value) × (Value) × (Value) × (Value) × (Value)) 7 (bb 27 11911167) (fun s_ => [(98, s_.2.1), (102, s_.2.2.1), (104, s_.2.2.2.1), (110, (.slice (some ⟨s_.2.2.2.2.2.1, 0, none⟩) 4 4)), (114, s_.2.2.2.2.2.2.2.1), (117, s_.2.2.2.2.2.2.2.2.2.1)]) (fun s_ w' => Below w7.heap.size w7 w' ∧ RB w' w7.heap.size s_.1 0 s_.2.2.2.1 ((([] : List Int) ++ b1) ++ l7) ∧ (CB w' s_.1 1 s_.2.2.2.2.2.1 ([67, 85, 66, 49] : List Int) (0, 0) ∧ w7.heap.size ≤ s_.2.2.2.2.2.1) ∧ RB w' w7.heap.size s_.1 2 s_.2.2.2.2.2.2.2.1 ([] : List Int) ∧ RB w' w7.heap.size s_.1 3 s_.2.2.2.2.2.2.2.2.2.1 ([0] : List Int)) ?_ ?_
   ·rintro ⟨f, s4, s8, s10, s14, g, s19, s20, s22, s23, s24⟩ W ⟨HB, H1, H2, H3, H4⟩
    try dsimp only at *
    refine norm_ (a' := ?_) ?_ ?_
    rotate_left
    ·show putAll _ _ = _
     (first | (simp only [putAll, Act.put, List.setIfInBounds_toArray, List.set_cons_zero, List.set_cons_succ, i64_w, i32_w]; done) | (simp only [putAll, Act.put, List.setIfInBounds_toArray, List.set_cons_zero, List.set_cons_succ, i64_w, i32_w]; rfl))
    refine two_ (i := 14) (j := 17) (Ni := some 108) (Nj := some 111) (bb 27 11927551) (bb 27 12042239) rfl rfl rfl rfl (two_of HT_.out (by kernel_rfl)) (by decide) (by decide) (fun K hK => ?_) (fun K hK => ?_)
    ·refine appB (w0 := w7) (base := w7.heap.size) (xs := ((([] : List Int) ++ b1) ++ l7)) (ys := b2) (A := A2') (c := c2') (by rfl) (.tmp 104) (.tmp 107) rfl rfl rfl H1 (Kd.C_below S2.out HB) HB HB.size ?aL ?_
     (case aL => have := HLEN.out; have := HFEW.out; simp only [List.length_append, List.length_nil, List.length_cons]; omega)
     intro s W1 ho HB1 hg
     refine hK.out _ _ ⟨trivial, trivial⟩ (fun hHeld => ?_)
     clear hK K
     refine nm ?_
     have hN := ST11111001010 ((ow f W.heap.size 0), s4, s8, s10, s, g, undef, s20, undef, s23, undef) W1 ⟨HB1, ho, ⟨cb_app H2.1 H1 (by decide) hg 0, H2.2⟩, (rb_app H3 H1 (by decide) hg 0), (rb_app H4 H1 (by decide) hg 0)⟩
     refine norm_ ?_ hN
     show _ = putAll _ _
     (first | (simp only [putAll, Act.put, List.setIfInBounds_toArray, List.set_cons_zero, List.set_cons_succ, i64_w, i32_w]; done) | (simp only [putAll, Act.put, List.setIfInBounds_toArray, List.set_cons_zero, List.set_cons_succ, i64_w, i32_w]; rfl))
    ·refine cvtB (by rfl) (.tmp 110) 4 rfl rfl H2.1 ?_
     intro W1 hC1 hoth hsz hos
     have HB1 := cvt_below HB H2.2 hoth hsz hos
     refine hK.out _ _ ⟨trivial, trivial⟩ (fun hHeld => ?_)
     clear hK K
     refine nm ?_
     have hN := ST11101101010 (f, s4, s8, s10, undef, g, undef, s20, undef, s23, undef) W1 ⟨HB1, (cvt_row H1 H2.1.2 (by decide) hoth), ⟨hC1, H2.2⟩, (cvt_row H3 H2.1.2 (by decide) hoth), (cvt_row H4 H2.1.2 (by decide) hoth)⟩
     refine norm_ ?_ hN
     show _ = putAll _ _
     (first | (simp only [putAll, Act.put, List.setIfInBounds_toArray, List.set_cons_zero, List.set_cons_succ, i64_w, i32_w]; done) | (simp only [putAll, Act.put, List.setIfInBounds_toArray, List.set_cons_zero, List.set_cons_succ, i64_w, i32_w]; rfl))
   intro ST11101001010
   refine join_ (σ := (Nat → Nat) × (Value) × (Value) × (Value) × (Value) × (Nat) × (Value) × (Value) × (Value) × (Value) × (Value)) 7 (bb 27 10993663) (fun s_ => [(98, s_.2.1), (102, s_.2.2.1), (104, s_.2.2.2.1), (110, (.slice (some ⟨s_.2.2.2.2.2.1, 0, none⟩) 4 4)), (111, (.slice (some ⟨s_.2.2.2.2.2.1, 0, none⟩) 4 4)), (117, s_.2.2.2.2.2.2.2.2.2.1)]) (fun s_ w' => Below w7.heap.size w7 w' ∧ RB w' w7.heap.size s_.1 0 s_.2.2.2.1 ((([] : List Int) ++ b1) ++ l7) ∧ (CB w' s_.1 1 s_.2.2.2.2.2.1 ([67, 85, 66, 49] : List Int) (4, 5) ∧ w7.heap.size ≤ s_.2.2.2.2.2.1) ∧ RB w' w7.heap.size s_.1 3 s_.2.2.2.2.2.2.2.2.2.1 ([0] : List Int)) ?_ ?_
   ·rintro ⟨f, s4, s8, s10, s14, g, s19, s20, s22, s23, s24⟩ W ⟨HB, H1, H2, H4⟩
    try dsimp only at *
    refine norm_ (a' := ?_) ?_ ?_
    rotate_left
    ·show putAll _ _ = _
     (first | (simp only [putAll, Act.put, List.setIfInBounds_toArray, List.set_cons_zero, List.set_cons_succ, i64_w, i32_w]; done) | (simp only [putAll, Act.put, List.setIfInBounds_toArray, List.set_cons_zero, List.set_cons_succ, i64_w, i32_w]; rfl))
    refine two_ (i := 14) (j := 20) (Ni := some 108) (Nj := some 114) (bb 27 11010047) (bb 27 12042239) rfl rfl rfl rfl (two_of HT_.out (by kernel_rfl)) (by decide) (by decide) (fun K hK => ?_) (fun K hK => ?_)
    ·refine appB (w0 := w7) (base := w7.heap.size) (xs := ((([] : List Int) ++ b1) ++ l7)) (ys := b2) (A := A2') (c := c2') (by rfl) (.tmp 104) (.tmp 107) rfl rfl rfl H1 (Kd.C_below S2.out HB) HB HB.size ?aL ?_
     (case aL => have := HLEN.out; have := HFEW.out; simp only [List.length_append, List.length_nil, List.length_cons]; omega)
     intro s W1 ho HB1 hg
     refine hK.out _ _ ⟨trivial, trivial⟩ (fun hHeld => ?_)
     clear hK K
     refine nm ?_
     have hN := ST11111100010 ((ow f W.heap.size 0), s4, s8, s10, s, g, undef, undef, undef, s23, undef) W1 ⟨HB1, ho, ⟨cb_app H2.1 H1 (by decide) hg 0, H2.2⟩, (rb_app H4 H1 (by decide) hg 0)⟩
     refine norm_ ?_ hN
     show _ = putAll _ _
     (first | (simp only [putAll, Act.put, List.setIfInBounds_toArray, List.set_cons_zero, List.set_cons_succ, i64_w, i32_w]; done) | (simp only [putAll, Act.put, List.setIfInBounds_toArray, List.set_cons_zero, List.set_cons_succ, i64_w, i32_w]; rfl))
    ·refine litB (by rfl) rfl (xs := ([] : List Int)) (by first | (go_simp; done) | (go_simp; rfl)) (by simp) ?_
     intro s W1 ho hb
     have HB1 := below_step HB hb
     refine hK.out _ _ ⟨trivial, trivial⟩ (fun hHeld => ?_)
     clear hK K
     refine nm ?_
     have hN := ST11101101010 ((ow f W.heap.size 2), s4, s8, s10, undef, g, undef, s, undef, s23, undef) W1 ⟨HB1, (rb_fresh H1 hb 2), ⟨cb_fresh H2.1 hb 2, H2.2⟩, (rb_lit f ho HB.size 2), (rb_fresh H4 hb 2)⟩
     refine norm_ ?_ hN
     show _ = putAll _ _
     (first | (simp only [putAll, Act.put, List.setIfInBounds_toArray, List.set_cons_zero, List.set_cons_succ, i64_w, i32_w]; done) | (simp only [putAll, Act.put, List.setIfInBounds_toArray, List.set_cons_zero, List.set_cons_succ, i64_w, i32_w]; rfl))
   intro ST11101100010
   refine join_ (σ := (Nat → Nat) × (Value) × (Value) × (Value) × (Value) × (Nat) × (Value) × (Value) × (Value) × (Value) × (Value)) 7 (bb 27 3653631) (fun s_ => [(98, s_.2.1), (102, s_.2.2.1), (104, s_.2.2.2.1), (110, (.slice (some ⟨s_.2.2.2.2.2.1, 0, none⟩) 4 4)), (111, (.slice (some ⟨s_.2.2.2.2.2.1, 0, none⟩) 4 4)), (114, s_.2.2.2.2.2.2.2.1)]) (fun s_ w' => Below w7.heap.size w7 w' ∧ RB w' w7.heap.size s_.1 0 s_.2.2.2.1 ((([] : List Int) ++ b1) ++ l7) ∧ (CB w' s_.1 1 s_.2.2.2.2.2.1 ([67, 85, 66, 49] : List Int) (4, 5) ∧ w7.heap.size ≤ s_.2.2.2.2.2.1) ∧ RB w' w7.heap.size s_.1 2 s_.2.2.2.2.2.2.2.1 ([] : List Int)) ?_ ?_
   ·rintro ⟨f, s4, s8, s10, s14, g, s19, s20, s22, s23, s24⟩ W ⟨HB, H1, H2, H3⟩
    try dsimp only at *
    refine norm_ (a' := ?_) ?_ ?_
    rotate_left
    ·show putAll _ _ = _
     (first | (simp only [putAll, Act.put, List.setIfInBounds_toArray, List.set_cons_zero, List.set_cons_succ, i64_w, i32_w]; done) | (simp only [putAll, Act.put, List.setIfInBounds_toArray, List.set_cons_zero, List.set_cons_succ, i64_w, i32_w]; rfl))
    refine two_ (i := 14) (j := 23) (Ni := some 108) (Nj := some 117) (bb 27 3670015) (bb 27 12042239) rfl rfl rfl rfl (two_of HT_.out (by kernel_rfl)) (by decide) (by decide) (fun K hK => ?_) (fun K hK => ?_)
    ·refine appB (w0 := w7) (base := w7.heap.size) (xs := ((([] : List Int) ++ b1) ++ l7)) (ys := b2) (A := A2') (c := c2') (by rfl) (.tmp 104) (.tmp 107) rfl rfl rfl H1 (Kd.C_below S2.out HB) HB HB.size ?aL ?_
     (case aL => have := HLEN.out; have := HFEW.out; simp only [List.length_append, List.length_nil, List.length_cons]; omega)
     intro s W1 ho HB1 hg
     refine hK.out _ _ ⟨trivial, trivial⟩ (fun hHeld => ?_)
     clear hK K
     refine nm ?_
     have hN := ST11111101000 ((ow f W.heap.size 0), s4, s8, s10, s, g, undef, s20, undef, undef, undef) W1 ⟨HB1, ho, ⟨cb_app H2.1 H1 (by decide) hg 0, H2.2⟩, (rb_app H3 H1 (by decide) hg 0)⟩
     refine norm_ ?_ hN
     show _ = putAll _ _
     (first | (simp only [putAll, Act.put, List.setIfInBounds_toArray, List.set_cons_zero, List.set_cons_succ, i64_w, i32_w]; done) | (simp only [putAll, Act.put, List.setIfInBounds_toArray, List.set_cons_zero, List.set_cons_succ, i64_w, i32_w]; rfl))
    ·refine litB (by rfl) rfl (xs := ([0] : List Int)) (by first | (go_simp; done) | (go_simp; rfl)) (by simp) ?_
     intro s W1 ho hb
     have HB1 := below_step HB hb
     refine hK.out _ _ ⟨trivial, trivial⟩ (fun hHeld => ?_)
     clear hK K
     refine nm ?_
     have hN := ST11101101010 ((ow f W.heap.size 3), s4, s8, s10, undef, g, undef, s20, undef, s, undef) W1 ⟨HB1, (rb_fresh H1 hb 3), ⟨cb_fresh H2.1 hb 3, H2.2⟩, (rb_fresh H3 hb 3), (rb_lit f ho HB.size 3)⟩
     refine norm_ ?_ hN
     show _ = putAll _ _
     (first | (simp only [putAll, Act.put, List.setIfInBounds_toArray, List.set_cons_zero, List.set_cons_succ, i64_w, i32_w]; done) | (simp only [putAll, Act.put, List.setIfInBounds_toArray, List.set_cons_zero, List.set_cons_succ, i64_w, i32_w]; rfl))
   intro ST11101101000
   refine join_ (σ := (Nat → Nat) × (Value) × (Value) × (Value) × (Value) × (Nat) × (Value) × (Value) × (Value) × (Value) × (Value)) 7 (bb 27 11862015) (fun s_ => [(98, s_.2.1), (102, s_.2.2.1), (104, s_.2.2.2.1), (108, s_.2.2.2.2.1), (114, s_.2.2.2.2.2.2.2.1), (117, s_.2.2.2.2.2.2.2.2.2.1)]) (fun s_ w' => Below w7.heap.size w7 w' ∧ RB w' w7.heap.size s_.1 0 s_.2.2.2.2.1 (((([] : List Int) ++ b1) ++ l7) ++ b2) ∧ RB w' w7.heap.size s_.1 2 s_.2.2.2.2.2.2.2.1 ([] : List Int) ∧ RB w' w7.heap.size s_.1 3 s_.2.2.2.2.2.2.2.2.2.1 ([0] : List Int)) ?_ ?_
   ·rintro ⟨f, s4, s8, s10, s14, g, s19, s20, s22, s23, s24⟩ W ⟨HB, H1, H3, H4⟩
    try dsimp only at *
    refine norm_ (a' := ?_) ?_ ?_
    rotate_left
    ·show putAll _ _ = _
     (first | (simp only [putAll, Act.put, List.setIfInBounds_toArray, List.set_cons_zero, List.set_cons_succ, i64_w, i32_w]; done) | (simp only [putAll, Act.put, List.setIfInBounds_toArray, List.set_cons_zero, List.set_cons_succ, i64_w, i32_w]; rfl))
    refine one_ (i := 16) (N := some 110) (bb 27 11927551) rfl rfl (one_of HT_.out (by kernel_rfl)) (by decide) (fun K hK => ?_)
    refine event_step (by rfl) (v := .slice (some ⟨W.heap.size, 0, none⟩) 4 4) (w1 := W.alloc (.cells (([67, 85, 66, 49] : List Int).map (Value.int .u8)).toArray 5)) (by first | (go_simp; done) | (go_simp; rfl)) ?_
    have hcb := cb_new W f 1 ([67, 85, 66, 49] : List Int)
    have hb : Below W.heap.size W (W.alloc (.cells (([67, 85, 66, 49] : List Int).map (Value.int .u8)).toArray 5)) := below_alloc (Below.refl _ _) _
    generalize W.alloc (.cells (([67, 85, 66, 49] : List Int).map (Value.int .u8)).toArray 5) = W1 at *
    have HB1 := below_step HB hb
    refine hK.out _ _ ⟨trivial, trivial⟩ (fun hHeld => ?_)
    clear hK K
    refine nm ?_
    have hN := ST11111001010 ((ow f W.heap.size 1), s4, s8, s10, s14, W.heap.size, undef, s20, undef, s23, undef) W1 ⟨HB1, (rb_fresh H1 hb 1), ⟨hcb, HB.size⟩, (rb_fresh H3 hb 1), (rb_fresh H4 hb 1)⟩
    refine norm_ ?_ hN
    show _ = putAll _ _
    (first | (simp only [putAll, Act.put, List.setIfInBounds_toArray, List.set_cons_zero, List.set_cons_succ, i64_w, i32_w]; done) | (simp only [putAll, Act.put, List.setIfInBounds_toArray, List.set_cons_zero, List.set_cons_succ, i64_w, i32_w]; rfl))
   intro ST11110001010
   refine join_ (σ := (Nat → Nat) × (Value) × (Value) × (Value) × (Value) × (Nat) × (Value) × (Value) × (Value) × (Value) × (Value)) 7 (bb 27 10878975) (fun s_ => [(98, s_.2.1), (102, s_.2.2.1), (104, s_.2.2.2.1), (108, s_.2.2.2.2.1), (110, (.slice (some ⟨s_.2.2.2.2.2.1, 0, none⟩) 4 4)), (117, s_.2.2.2.2.2.2.2.2.2.1)]) (fun s_ w' => Below w7.heap.size w7 w' ∧ RB w' w7.heap.size s_.1 0 s_.2.2.2.2.1 (((([] : List Int) ++ b1) ++ l7) ++ b2) ∧ (CB w' s_.1 1 s_.2.2.2.2.2.1 ([67, 85, 66, 49] : List Int) (0, 0) ∧ w7.heap.size ≤ s_.2.2.2.2.2.1) ∧ RB w' w7.heap.size s_.1 3 s_.2.2.2.2.2.2.2.2.2.1 ([0] : List Int)) ?_ ?_
   ·rintro ⟨f, s4, s8, s10, s14, g, s19, s20, s22, s23, s24⟩ W ⟨HB, H1, H2, H4⟩
    try dsimp only at *
    refine norm_ (a' := ?_) ?_ ?_
    rotate_left
    ·show putAll _ _ = _
     (first | (simp only [putAll, Act.put, List.setIfInBounds_toArray, List.set_cons_zero, List.set_cons_succ, i64_w, i32_w]; done) | (simp only [putAll, Act.put, List.setIfInBounds_toArray, List.set_cons_zero, List.set_cons_succ, i64_w, i32_w]; rfl))
    refine two_ (i := 17) (j := 20) (Ni := some 111) (Nj := some 114) (bb 27 11010047) (bb 27 11927551) rfl rfl rfl rfl (two_of HT_.out (by kernel_rfl)) (by decide) (by decide) (fun K hK => ?_) (fun K hK => ?_)
    ·refine cvtB (by rfl) (.tmp 110) 4 rfl rfl H2.1 ?_
     intro W1 hC1 hoth hsz hos
     have HB1 := cvt_below HB H2.2 hoth hsz hos
     refine hK.out _ _ ⟨trivial, trivial⟩ (fun hHeld => ?_)
     clear hK K
     refine nm ?_
     have hN := ST11111100010 (f, s4, s8, s10, s14, g, undef, undef, undef, s23, undef) W1 ⟨HB1, (cvt_row H1 H2.1.2 (by decide) hoth), ⟨hC1, H2.2⟩, (cvt_row H4 H2.1.2 (by decide) hoth)⟩
     refine norm_ ?_ hN
     show _ = putAll _ _
     (first | (simp only [putAll, Act.put, List.setIfInBounds_toArray, List.set_cons_zero, List.set_cons_succ, i64_w, i32_w]; done) | (simp only [putAll, Act.put, List.setIfInBounds_toArray, List.set_cons_zero, List.set_cons_succ, i64_w, i32_w]; rfl))
    ·refine litB (by rfl) rfl (xs := ([] : List Int)) (by first | (go_simp; done) | (go_simp; rfl)) (by simp) ?_
     intro s W1 ho hb
     have HB1 := below_step HB hb
     refine hK.out _ _ ⟨trivial, trivial⟩ (fun hHeld => ?_)
     clear hK K
     refine nm ?_
     have hN := ST11111001010 ((ow f W.heap.size 2), s4, s8, s10, s14, g, undef, s, undef, s23, undef) W1 ⟨HB1, (rb_fresh H1 hb 2), ⟨cb_fresh H2.1 hb 2, H2.2⟩, (rb_lit f ho HB.size 2), (rb_fresh H4 hb 2)⟩
     refine norm_ ?_ hN
     show _ = putAll _ _
     (first | (simp only [putAll, Act.put, List.setIfInBounds_toArray, List.set_cons_zero, List.set_cons_succ, i64_w, i32_w]; done) | (simp only [putAll, Act.put, List.setIfInBounds_toArray, List.set_cons_zero, List.set_cons_succ, i64_w, i32_w]; rfl))
   intro ST11111000010
   refine join_ (σ := (Nat → Nat) × (Value) × (Value) × (Value) × (Value) × (Nat) × (Value) × (Value) × (Value) × (Value) × (Value)) 7 (bb 27 3538943) (fun s_ => [(98, s_.2.1), (102, s_.2.2.1), (104, s_.2.2.2.1), (108, s_.2.2.2.2.1), (110, (.slice (some ⟨s_.2.2.2.2.2.1, 0, none⟩) 4 4)), (114, s_.2.2.2.2.2.2.2.1)]) (fun s_ w' => Below w7.heap.size w7 w' ∧ RB w' w7.heap.size s_.1 0 s_.2.2.2.2.1 (((([] : List Int) ++ b1) ++ l7) ++ b2) ∧ (CB w' s_.1 1 s_.2.2.2.2.2.1 ([67, 85, 66, 49] : List Int) (0, 0) ∧ w7.heap.size ≤ s_.2.2.2.2.2.1) ∧ RB w' w7.heap.size s_.1 2 s_.2.2.2.2.2.2.2.1 ([] : List Int)) ?_ ?_
   ·rintro ⟨f, s4, s8, s10, s14, g, s19, s20, s22, s23, s24⟩ W ⟨HB, H1, H2, H3⟩
    try dsimp only at *
    refine norm_ (a' := ?_) ?_ ?_
    rotate_left
    ·show putAll _ _ = _
     (first | (simp only [putAll, Act.put, List.setIfInBounds_toArray, List.set_cons_zero, List.set_cons_succ, i64_w, i32_w]; done) | (simp only [putAll, Act.put, List.setIfInBounds_toArray, List.set_cons_zero, List.set_cons_succ, i64_w, i32_w]; rfl))
    refine two_ (i := 17) (j := 23) (Ni := some 111) (Nj := some 117) (bb 27 3670015) (bb 27 11927551) rfl rfl rfl rfl (two_of HT_.out (by kernel_rfl)) (by decide) (by decide) (fun K hK => ?_) (fun K hK => ?_)
    ·refine cvtB (by rfl) (.tmp 110) 4 rfl rfl H2.1 ?_
     intro W1 hC1 hoth hsz hos
     have HB1 := cvt_below HB H2.2 hoth hsz hos
     refine hK.out _ _ ⟨trivial, trivial⟩ (fun hHeld => ?_)
     clear hK K
     refine nm ?_
     have hN := ST11111101000 (f, s4, s8, s10, s14, g, undef, s20, undef, undef, undef) W1 ⟨HB1, (cvt_row H1 H2.1.2 (by decide) hoth), ⟨hC1, H2.2⟩, (cvt_row H3 H2.1.2 (by decide) hoth)⟩
     refine norm_ ?_ hN
     show _ = putAll _ _
     (first | (simp only [putAll, Act.put, List.setIfInBounds_toArray, List.set_cons_zero, List.set_cons_succ, i64_w, i32_w]; done) | (simp only [putAll, Act.put, List.setIfInBounds_toArray, List.set_cons_zero, List.set_cons_succ, i64_w, i32_w]; rfl))
    ·refine litB (by rfl) rfl (xs := ([0] : List Int)) (by first | (go_simp; done) | (go_simp; rfl)) (by simp) ?_
     intro s W1 ho hb
     have HB1 := below_step HB hb
     refine hK.out _ _ ⟨trivial, trivial⟩ (fun hHeld => ?_)
     clear hK K
     refine nm ?_
     have hN := ST11111001010 ((ow f W.heap.size 3), s4, s8, s10, s14, g, undef, s20, undef, s, undef) W1 ⟨HB1, (rb_fresh H1 hb 3), ⟨cb_fresh H2.1 hb 3, H2.2⟩, (rb_fresh H3 hb 3), (rb_lit f ho HB.size 3)⟩
     refine norm_ ?_ hN
     show _ = putAll _ _
     (first | (simp only [putAll, Act.put, List.setIfInBounds_toArray, List.set_cons_zero, List.set_cons_succ, i64_w, i32_w]; done) | (simp only [putAll, Act.put, List.setIfInBounds_toArray, List.set_cons_zero, List.set_cons_succ, i64_w, i32_w]; rfl))
   intro ST11111001000
   refine join_ (σ := (Nat → Nat) × (Value) × (Value) × (Value) × (Value) × (Nat) × (Value) × (Value) × (Value) × (Value) × (Value)) 7 (bb 27 2621439) (fun s_ => [(98, s_.2.1), (102, s_.2.2.1), (104, s_.2.2.2.1), (108, s_.2.2.2.2.1), (110, (.slice (some ⟨s_.2.2.2.2.2.1, 0, none⟩) 4 4)), (111, (.slice (some ⟨s_.2.2.2.2.2.1, 0, none⟩) 4 4))]) (fun s_ w' => Below w7.heap.size w7 w' ∧ RB w' w7.heap.size s_.1 0 s_.2.2.2.2.1 (((([] : List Int) ++ b1) ++ l7) ++ b2) ∧ (CB w' s_.1 1 s_.2.2.2.2.2.1 ([67, 85, 66, 49] : List Int) (4, 5) ∧ w7.heap.size ≤ s_.2.2.2.2.2.1)) ?_ ?_
   ·rintro ⟨f, s4, s8, s10, s14, g, s19, s20, s22, s23, s24⟩ W ⟨HB, H1, H2⟩
    try dsimp only at *
    refine norm_ (a' := ?_) ?_ ?_
    rotate_left
    ·show putAll _ _ = _
     (first | (simp only [putAll, Act.put, List.setIfInBounds_toArray, List.set_cons_zero, List.set_cons_succ, i64_w, i32_w]; done) | (simp only [putAll, Act.put, List.setIfInBounds_toArray, List.set_cons_zero, List.set_cons_succ, i64_w, i32_w]; rfl))
    refine three_ (i := 19) (j := 20) (k := 23) (Ni := some 113) (Nj := some 114) (Nk := some 117) (bb 27 3145727) (bb 27 3670015) (bb 27 11010047) rfl rfl rfl rfl rfl rfl (three_of HT_.out (by kernel_rfl)) (by decide) (by decide) (by decide) (fun K hK => ?_) (fun K hK => ?_) (fun K hK => ?_)
    ·refine appF (xs := ([67, 85, 66, 49] : List Int)) (ys := l8) (A := A8) (c := c8) (by rfl) (.tmp 111) (.tmp 112) rfl rfl rfl H2.1 (Kd.C_below S8.out HB) ?aL ?_
     (case aL => have := HFEW.out; simp only [List.length_nil, List.length_cons]; omega)
     intro s W1 ho hb
     have HB1 := below_step HB hb
     refine hK.out _ _ ⟨trivial, trivial⟩ (fun hHeld => ?_)
     clear hK K
     refine nm ?_
     have hN := ST11111110000 ((ow f W.heap.size 1), s4, s8, s10, s14, g, s, undef, undef, undef, undef) W1 ⟨HB1, (rb_fresh H1 hb 1), ho⟩
     refine norm_ ?_ hN
     show _ = putAll _ _
     (first | (simp only [putAll, Act.put, List.setIfInBounds_toArray, List.set_cons_zero, List.set_cons_succ, i64_w, i32_w]; done) | (simp only [putAll, Act.put, List.setIfInBounds_toArray, List.set_cons_zero, List.set_cons_succ, i64_w, i32_w]; rfl))
    ·refine litB (by rfl) rfl (xs := ([] : List Int)) (by first | (go_simp; done) | (go_simp; rfl)) (by simp) ?_
     intro s W1 ho hb
     have HB1 := below_step HB hb
     refine hK.out _ _ ⟨trivial, trivial⟩ (fun hHeld => ?_)
     clear hK K
     refine nm ?_
     have hN := ST11111101000 ((ow f W.heap.size 2), s4, s8, s10, s14, g, undef, s, undef, undef, undef) W1 ⟨HB1, (rb_fresh H1 hb 2), ⟨cb_fresh H2.1 hb 2, H2.2⟩, (rb_lit f ho HB.size 2)⟩
     refine norm_ ?_ hN
     show _ = putAll _ _
     (first | (simp only [putAll, Act.put, List.setIfInBounds_toArray, List.set_cons_zero, List.set_cons_succ, i64_w, i32_w]; done) | (simp only [putAll, Act.put, List.setIfInBounds_toArray, List.set_cons_zero, List.set_cons_succ, i64_w, i32_w]; rfl))
    ·refine litB (by rfl) rfl (xs := ([0] : List Int)) (by first | (go_simp; done) | (go_simp; rfl)) (by simp) ?_
     intro s W1 ho hb
     have HB1 := below_step HB hb
     refine hK.out _ _ ⟨trivial, trivial⟩ (fun hHeld => ?_)
     clear hK K
     refine nm ?_
     have hN := ST11111100010 ((ow f W.heap.size 3), s4, s8, s10, s14, g, undef, undef, undef, s, undef) W1 ⟨HB1, (rb_fresh H1 hb 3), ⟨cb_fresh H2.1 hb 3, H2.2⟩, (rb_lit f ho HB.size 3)⟩
     refine norm_ ?_ hN
     show _ = putAll _ _
     (first | (simp only [putAll, Act.put, List.setIfInBounds_toArray, List.set_cons_zero, List.set_cons_succ, i64_w, i32_w]; done) | (simp only [putAll, Act.put, List.setIfInBounds_toArray, List.set_cons_zero, List.set_cons_succ, i64_w, i32_w]; rfl))
   intro ST11111100000
   refine join_ (σ := (Nat → Nat) × (Value) × (Value) × (Value) × (Value) × (Nat) × (Value) × (Value) × (Value) × (Value) × (Value)) 8 (bb 27 12040959) (fun s_ => [(98, s_.2.1), (110, (.slice (some ⟨s_.2.2.2.2.2.1, 0, none⟩) 4 4)), (111, (.slice (some ⟨s_.2.2.2.2.2.1, 0, none⟩) 4 4)), (114, s_.2.2.2.2.2.2.2.1), (117, s_.2.2.2.2.2.2.2.2.2.1)]) (fun s_ w' => Below w7.heap.size w7 w' ∧ RB w' w7.heap.size s_.1 0 s_.2.1 ([] : List Int) ∧ (CB w' s_.1 1 s_.2.2.2.2.2.1 ([67, 85, 66, 49] : List Int) (4, 5) ∧ w7.heap.size ≤ s_.2.2.2.2.2.1) ∧ RB w' w7.heap.size s_.1 2 s_.2.2.2.2.2.2.2.1 ([] : List Int) ∧ RB w' w7.heap.size s_.1 3 s_.2.2.2.2.2.2.2.2.2.1 ([0] : List Int)) ?_ ?_
   ·rintro ⟨f, s4, s8, s10, s14, g, s19, s20, s22, s23, s24⟩ W ⟨HB, H1, H2, H3, H4⟩
    try dsimp only at *
    refine norm_ (a' := ?_) ?_ ?_
    rotate_left
    ·show putAll _ _ = _
     (first | (simp only [putAll, Act.put, List.setIfInBounds_toArray, List.set_cons_zero, List.set_cons_succ, i64_w, i32_w]; done) | (simp only [putAll, Act.put, List.setIfInBounds_toArray, List.set_cons_zero, List.set_cons_succ, i64_w, i32_w]; rfl))
    refine one_ (i := 8) (N := some 102) (bb 27 12041215) rfl rfl (one_of HT_.out (by kernel_rfl)) (by decide) (fun K hK => ?_)
    refine appB (w0 := w7) (base := w7.heap.size) (xs := ([] : List Int)) (ys := b1) (A := Ab) (c := cb) (by rfl) (.tmp 98) (.tmp 101) rfl rfl rfl H1 (Kd.C_below S1.out HB) HB HB.size ?aL ?_
    (case aL => have := HLEN.out; have := HFEW.out; simp only [List.length_append, List.length_nil, List.length_cons]; omega)
    intro s W1 ho HB1 hg
    refine hK.out _ _ ⟨trivial, trivial⟩ (fun hHeld => ?_)
    clear hK K
    refine nm ?_
    have hN := ST11001101010 ((ow f W.heap.size 0), s4, s, undef, undef, g, undef, s20, undef, s23, undef) W1 ⟨HB1, ho, ⟨cb_app H2.1 H1 (by decide) hg 0, H2.2⟩, (rb_app H3 H1 (by decide) hg 0), (rb_app H4 H1 (by decide) hg 0)⟩
    refine norm_ ?_ hN
    show _ = putAll _ _
    (first | (simp only [putAll, Act.put, List.setIfInBounds_toArray, List.set_cons_zero, List.set_cons_succ, i64_w, i32_w]; done) | (simp only [putAll, Act.put, List.setIfInBounds_toArray, List.set_cons_zero, List.set_cons_succ, i64_w, i32_w]; rfl))
   intro ST10001101010
   refine join_ (σ := (Nat → Nat) × (Value) × (Value) × (Value) × (Value) × (Nat) × (Value) × (Value) × (Value) × (Value) × (Value)) 8 (bb 27 11910143) (fun s_ => [(98, s_.2.1), (102, s_.2.2.1), (110, (.slice (some ⟨s_.2.2.2.2.2.1, 0, none⟩) 4 4)), (114, s_.2.2.2.2.2.2.2.1), (117, s_.2.2.2.2.2.2.2.2.2.1)]) (fun s_ w' => Below w7.heap.size w7 w' ∧ RB w' w7.heap.size s_.1 0 s_.2.2.1 (([] : List Int) ++ b1) ∧ (CB w' s_.1 1 s_.2.2.2.2.2.1 ([67, 85, 66, 49] : List Int) (0, 0) ∧ w7.heap.size ≤ s_.2.2.2.2.2.1) ∧ RB w' w7.heap.size s_.1 2 s_.2.2.2.2.2.2.2.1 ([] : List Int) ∧ RB w' w7.heap.size s_.1 3 s_.2.2.2.2.2.2.2.2.2.1 ([0] : List Int)) ?_ ?_
   ·rintro ⟨f, s4, s8, s10, s14, g, s19, s20, s22, s23, s24⟩ W ⟨HB, H1, H2, H3, H4⟩
    try dsimp only at *
    refine norm_ (a' := ?_) ?_ ?_
    rotate_left
    ·show putAll _ _ = _
     (first | (simp only [putAll, Act.put, List.setIfInBounds_toArray, List.set_cons_zero, List.set_cons_succ, i64_w, i32_w]; done) | (simp only [putAll, Act.put, List.setIfInBounds_toArray, List.set_cons_zero, List.set_cons_succ, i64_w, i32_w]; rfl))
    refine two_ (i := 10) (j := 17) (Ni := some 104) (Nj := some 111) (bb 27 11911167) (bb 27 12041215) rfl rfl rfl rfl (two_of HT_.out (by kernel_rfl)) (by decide) (by decide) (fun K hK => ?_) (fun K hK => ?_)
    ·refine appB (w0 := w7) (base := w7.heap.size) (xs := (([] : List Int) ++ b1)) (ys := l7) (A := A7) (c := c7) (by rfl) (.tmp 102) (.tmp 103) rfl rfl rfl H1 (Kd.C_below S7.out HB) HB HB.size ?aL ?_
     (case aL => have := HLEN.out; have := HFEW.out; simp only [List.length_append, List.length_nil, List.length_cons]; omega)
     intro s W1 ho HB1 hg
     refine hK.out _ _ ⟨trivial, trivial⟩ (fun hHeld => ?_)
     clear hK K
     refine nm ?_
     have hN := ST11101001010 ((ow f W.heap.size 0), s4, s8, s, undef, g, undef, s20, undef, s23, undef) W1 ⟨HB1, ho, ⟨cb_app H2.1 H1 (by decide) hg 0, H2.2⟩, (rb_app H3 H1 (by decide) hg 0), (rb_app H4 H1 (by decide) hg 0)⟩
     refine norm_ ?_ hN
     show _ = putAll _ _
     (first | (simp only [putAll, Act.put, List.setIfInBounds_toArray, List.set_cons_zero, List.set_cons_succ, i64_w, i32_w]; done) | (simp only [putAll, Act.put, List.setIfInBounds_toArray, List.set_cons_zero, List.set_cons_succ, i64_w, i32_w]; rfl))
    ·refine cvtB (by rfl) (.tmp 110) 4 rfl rfl H2.1 ?_
     intro W1 hC1 hoth hsz hos
     have HB1 := cvt_below HB H2.2 hoth hsz hos
     refine hK.out _ _ ⟨trivial, trivial⟩ (fun hHeld => ?_)
     clear hK K
     refine nm ?_
     have hN := ST11001101010 (f, s4, s8, undef, undef, g, undef, s20, undef, s23, undef) W1 ⟨HB1, (cvt_row H1 H2.1.2 (by decide) hoth), ⟨hC1, H2.2⟩, (cvt_row H3 H2.1.2 (by decide) hoth), (cvt_row H4 H2.1.2 (by decide) hoth)⟩
     refine norm_ ?_ hN
     show _ = putAll _ _
     (first | (simp only [putAll, Act.put, List.setIfInBounds_toArray, List.set_cons_zero, List.set_cons_succ, i64_w, i32_w]; done) | (simp only [putAll, Act.put, List.setIfInBounds_toArray, List.set_cons_zero, List.set_cons_succ, i64_w, i32_w]; rfl))
   intro ST11001001010
   refine join_ (σ := (Nat → Nat) × (Value) × (Value) × (Value) × (Value) × (Nat) × (Value) × (Value) × (Value) × (Value) × (Value)) 8 (bb 27 10992639) (fun s_ => [(98, s_.2.1), (102, s_.2.2.1), (110, (.slice (some ⟨s_.2.2.2.2.2.1, 0, none⟩) 4 4)), (111, (.slice (some ⟨s_.2.2.2.2.2.1, 0, none⟩) 4 4)), (117, s_.2.2.2.2.2.2.2.2.2.1)]) (fun s_ w' => Below w7.heap.size w7 w' ∧ RB w' w7.heap.size s_.1 0 s_.2.2.1 (([] : List Int) ++ b1) ∧ (CB w' s_.1 1 s_.2.2.2.2.2.1 ([67, 85, 66, 49] : List Int) (4, 5) ∧ w7.heap.size ≤ s_.2.2.2.2.2.1) ∧ RB w' w7.heap.size s_.1 3 s_.2.2.2.2.2.2.2.2.2.1 ([0] : List Int)) ?_ ?_
   ·rintro ⟨f, s4, s8, s10, s14, g, s19, s20, s22, s23, s24⟩ W ⟨HB, H1, H2, H4⟩
    try dsimp only at *
    refine norm_ (a' := ?_) ?_ ?_
    rotate_left
    ·show putAll _ _ = _
     (first | (simp only [putAll, Act.put, List.setIfInBounds_toArray, List.set_cons_zero, List.set_cons_succ, i64_w, i32_w]; done) | (simp only [putAll, Act.put, List.setIfInBounds_toArray, List.set_cons_zero, List.set_cons_succ, i64_w, i32_w]; rfl))
    refine two_ (i := 10) (j := 20) (Ni := some 104) (Nj := some 114) (bb 27 10993663) (bb 27 12041215) rfl rfl rfl rfl (two_of HT_.out (by kernel_rfl)) (by decide) (by decide) (fun K hK => ?_) (fun K hK => ?_)
    ·refine appB (w0 := w7) (base := w7.heap.size) (xs := (([] : List Int) ++ b1)) (ys := l7) (A := A7) (c := c7) (by rfl) (.tmp 102) (.tmp 103) rfl rfl rfl H1 (Kd.C_below S7.out HB) HB HB.size ?aL ?_
     (case aL => have := HLEN.out; have := HFEW.out; simp only [List.length_append, List.length_nil, List.length_cons]; omega)
     intro s W1 ho HB1 hg
     refine hK.out _ _ ⟨trivial, trivial⟩ (fun hHeld => ?_)
     clear hK K
     refine nm ?_
     have hN := ST11101100010 ((ow f W.heap.size 0), s4, s8, s, undef, g, undef, undef, undef, s23, undef) W1 ⟨HB1, ho, ⟨cb_app H2.1 H1 (by decide) hg 0, H2.2⟩, (rb_app H4 H1 (by decide) hg 0)⟩
     refine norm_ ?_ hN
     show _ = putAll _ _
     (first | (simp only [putAll, Act.put, List.setIfInBounds_toArray, List.set_cons_zero, List.set_cons_succ, i64_w, i32_w]; done) | (simp only [putAll, Act.put, List.setIfInBounds_toArray, List.set_cons_zero, List.set_cons_succ, i64_w, i32_w]; rfl))
    ·refine litB (by rfl) rfl (xs := ([] : List Int)) (by first | (go_simp; done) | (go_simp; rfl)) (by simp) ?_
     intro s W1 ho hb
     have HB1 := below_step HB hb
     refine hK.out _ _ ⟨trivial, trivial⟩ (fun hHeld => ?_)
     clear hK K
     refine nm ?_
     have hN := ST11001101010 ((ow f W.heap.size 2), s4, s8, undef, undef, g, undef, s, undef, s23, undef) W1 ⟨HB1, (rb_fresh H1 hb 2), ⟨cb_fresh H2.1 hb 2, H2.2⟩, (rb_lit f ho HB.size 2), (rb_fresh H4 hb 2)⟩
     refine norm_ ?_ hN
     show _ = putAll _ _
     (first | (simp only [putAll, Act.put, List.setIfInBounds_toArray, List.set_cons_zero, List.set_cons_succ, i64_w, i32_w]; done) | (simp only [putAll, Act.put, List.setIfInBounds_toArray, List.set_cons_zero, List.set_cons_succ, i64_w, i32_w]; rfl))
   intro ST11001100010
   refine join_ (σ := (Nat → Nat) × (Value) × (Value) × (Value) × (Value) × (Nat) × (Value) × (Value) × (Value) × (Value) × (Value)) 8 (bb 27 3652607) (fun s_ => [(98, s_.2.1), (102, s_.2.2.1), (110, (.slice (some ⟨s_.2.2.2.2.2.1, 0, none⟩) 4 4)), (111, (.slice (some ⟨s_.2.2.2.2.2.1, 0, none⟩) 4 4)), (114, s_.2.2.2.2.2.2.2.1)]) (fun s_ w' => Below w7.heap.size w7 w' ∧ RB w' w7.heap.size s_.1 0 s_.2.2.1 (([] : List Int) ++ b1) ∧ (CB w' s_.1 1 s_.2.2.2.2.2.1 ([67, 85, 66, 49] : List Int) (4, 5) ∧ w7.heap.size ≤ s_.2.2.2.2.2.1) ∧ RB w' w7.heap.size s_.1 2 s_.2.2.2.2.2.2.2.1 ([] : List Int)) ?_ ?_
   ·rintro ⟨f, s4, s8, s10, s14, g, s19, s20, s22, s23, s24⟩ W ⟨HB, H1, H2, H3⟩
    try dsimp only at *
    refine norm_ (a' := ?_) ?_ ?_
    rotate_left
    ·show putAll _ _ = _
     (first | (simp only [putAll, Act.put, List.setIfInBounds_toArray, List.set_cons_zero, List.set_cons_succ, i64_w, i32_w]; done) | (simp only [putAll, Act.put, List.setIfInBounds_toArray, List.set_cons_zero, List.set_cons_succ, i64_w, i32_w]; rfl))
    refine two_ (i := 10) (j := 23) (Ni := some 104) (Nj := some 117) (bb 27 3653631) (bb 27 12041215) rfl rfl rfl rfl (two_of HT_.out (by kernel_rfl)) (by decide) (by decide) (fun K hK => ?_) (fun K hK => ?_)
    ·refine appB (w0 := w7) (base := w7.heap.size) (xs := (([] : List Int) ++ b1)) (ys := l7) (A := A7) (c := c7) (by rfl) (.tmp 102) (.tmp 103) rfl rfl rfl H1 (Kd.C_below S7.out HB) HB HB.size ?aL ?_
     (case aL => have := HLEN.out; have := HFEW.out; simp only [List.length_append, List.length_nil, List.length_cons]; omega)
     intro s W1 ho HB1 hg
     refine hK.out _ _ ⟨trivial, trivial⟩ (fun hHeld => ?_)
     clear hK K
     refine nm ?_
     have hN := ST11101101000 ((ow f W.heap.size 0), s4, s8, s, undef, g, undef, s20, undef, undef, undef) W1 ⟨HB1, ho, ⟨cb_app H2.1 H1 (by decide) hg 0, H2.2⟩, (rb_app H3 H1 (by decide) hg 0)⟩
     refine norm_ ?_ hN
     show _ = putAll _ _
     (first | (simp only [putAll, Act.put, List.setIfInBounds_toArray, List.set_cons_zero, List.set_cons_succ, i64_w, i32_w]; done) | (simp only [putAll, Act.put, List.setIfInBounds_toArray, List.set_cons_zero, List.set_cons_succ, i64_w, i32_w]; rfl))
    ·refine litB (by rfl) rfl (xs := ([0] : List Int)) (by first | (go_simp; done) | (go_simp; rfl)) (by simp) ?_
     intro s W1 ho hb
     have HB1 := below_step HB hb
     refine hK.out _ _ ⟨trivial, trivial⟩ (fun hHeld => ?_)
     clear hK K
     refine nm ?_
     have hN := ST11001101010 ((ow f W.heap.size 3), s4, s8, undef, undef, g, undef, s20, undef, s, undef) W1 ⟨HB1, (rb_fresh H1 hb 3), ⟨cb_fresh H2.1 hb 3, H2.2⟩, (rb_fresh H3 hb 3), (rb_lit f ho HB.size 3)⟩
     refine norm_ ?_ hN
     show _ = putAll _ _
     (first | (simp only [putAll, Act.put, List.setIfInBounds_toArray, List.set_cons_zero, List.set_cons_succ, i64_w, i32_w]; done) | (simp only [putAll, Act.put, List.setIfInBounds_toArray, List.set_cons_zero, List.set_cons_succ, i64_w, i32_w]; rfl))
   intro ST11001101000
   refine join_ (σ := (Nat → Nat) × (Value) × (Value) × (Value) × (Value) × (Nat) × (Value) × (Value) × (Value) × (Value) × (Value)) 8 (bb 27 11845631) (fun s_ => [(98, s_.2.1), (102, s_.2.2.1), (104, s_.2.2.2.1), (114, s_.2.2.2.2.2.2.2.1), (117, s_.2.2.2.2.2.2.2.2.2.1)]) (fun s_ w' => Below w7.heap.size w7 w' ∧ RB w' w7.heap.size s_.1 0 s_.2.2.2.1 ((([] : List Int) ++ b1) ++ l7) ∧ RB w' w7.heap.size s_.1 2 s_.2.2.2.2.2.2.2.1 ([] : List Int) ∧ RB w' w7.heap.size s_.1 3 s_.2.2.2.2.2.2.2.2.2.1 ([0] : List Int)) ?_ ?_
   ·rintro ⟨f, s4, s8, s10, s14, g, s19, s20, s22, s23, s24⟩ W ⟨HB, H1, H3, H4⟩
    try dsimp only at *
    refine norm_ (a' := ?_) ?_ ?_
    rotate_left
    ·show putAll _ _ = _
     (first | (simp only [putAll, Act.put, List.setIfInBounds_toArray, List.set_cons_zero, List.set_cons_succ, i64_w, i32_w]; done) | (simp only [putAll, Act.put, List.setIfInBounds_toArray, List.set_cons_zero, List.set_cons_succ, i64_w, i32_w]; rfl))
    refine two_ (i := 14) (j := 16) (Ni := some 108) (Nj := some 110) (bb 27 11862015) (bb 27 11911167) rfl rfl rfl rfl (two_of HT_.out (by kernel_rfl)) (by decide) (by decide) (fun K hK => ?_) (fun K hK => ?_)
    ·refine appB (w0 := w7) (base := w7.heap.size) (xs := ((([] : List Int) ++ b1) ++ l7)) (ys := b2) (A := A2') (c := c2') (by rfl) (.tmp 104) (.tmp 107) rfl rfl rfl H1 (Kd.C_below S2.out HB) HB HB.size ?aL ?_
     (case aL => have := HLEN.out; have := HFEW.out; simp only [List.length_append, List.length_nil, List.length_cons]; omega)
     intro s W1 ho HB1 hg
     refine hK.out _ _ ⟨trivial, trivial⟩ (fun hHeld => ?_)
     clear hK K
     refine nm ?_
     have hN := ST11110001010 ((ow f W.heap.size 0), s4, s8, s10, s, 0, undef, s20, undef, s23, undef) W1 ⟨HB1, ho, (rb_app H3 H1 (by decide) hg 0), (rb_app H4 H1 (by decide) hg 0)⟩
     refine norm_ ?_ hN
     show _ = putAll _ _
     (first | (simp only [putAll, Act.put, List.setIfInBounds_toArray, List.set_cons_zero, List.set_cons_succ, i64_w, i32_w]; done) | (simp only [putAll, Act.put, List.setIfInBounds_toArray, List.set_cons_zero, List.set_cons_succ, i64_w, i32_w]; rfl))
    ·refine event_step (by rfl) (v := .slice (some ⟨W.heap.size, 0, none⟩) 4 4) (w1 := W.alloc (.cells (([67, 85, 66, 49] : List Int).map (Value.int .u8)).toArray 5)) (by first | (go_simp; done) | (go_simp; rfl)) ?_
     have hcb := cb_new W f 1 ([67, 85, 66, 49] : List Int)
     have hb : Below W.heap.size W (W.alloc (.cells (([67, 85, 66, 49] : List Int).map (Value.int .u8)).toArray 5)) := below_alloc (Below.refl _ _) _
     generalize W.alloc (.cells (([67, 85, 66, 49] : List Int).map (Value.int .u8)).toArray 5) = W1 at *
     have HB1 := below_step HB hb
     refine hK.out _ _ ⟨trivial, trivial⟩ (fun hHeld => ?_)
     clear hK K
     refine nm ?_
     have hN := ST11101001010 ((ow f W.heap.size 1), s4, s8, s10, undef, W.heap.size, undef, s20, undef, s23, undef) W1 ⟨HB1, (rb_fresh H1 hb 1), ⟨hcb, HB.size⟩, (rb_fresh H3 hb 1), (rb_fresh H4 hb 1)⟩
     refine norm_ ?_ hN
     show _ = putAll _ _
     (first | (simp only [putAll, Act.put, List.setIfInBounds_toArray, List.set_cons_zero, List.set_cons_succ, i64_w, i32_w]; done) | (simp only [putAll, Act.put, List.setIfInBounds_toArray, List.set_cons_zero, List.set_cons_succ, i64_w, i32_w]; rfl))
   intro ST11100001010
   refine join_ (σ := (Nat → Nat) × (Value) × (Value) × (Value) × (Value) × (Nat) × (Value) × (Value) × (Value) × (Value) × (Value)) 8 (bb 27 10862591) (fun s_ => [(98, s_.2.1), (102, s_.2.2.1), (104, s_.2.2.2.1), (110, (.slice (some ⟨s_.2.2.2.2.2.1, 0, none⟩) 4 4)), (117, s_.2.2.2.2.2.2.2.2.2.1)]) (fun s_ w' => Below w7.heap.size w7 w' ∧ RB w' w7.heap.size s_.1 0 s_.2.2.2.1 ((([] : List Int) ++ b1) ++ l7) ∧ (CB w' s_.1 1 s_.2.2.2.2.2.1 ([67, 85, 66, 49] : List Int) (0, 0) ∧ w7.heap.size ≤ s_.2.2.2.2.2.1) ∧ RB w' w7.heap.size s_.1 3 s_.2.2.2.2.2.2.2.2.2.1 ([0] : List Int)) ?_ ?_
   ·rintro ⟨f, s4, s8, s10, s14, g, s19, s20, s22, s23, s24⟩ W ⟨HB, H1, H2, H4⟩
    try dsimp only at *
    refine norm_ (a' := ?_) ?_ ?_
    rotate_left
    ·show putAll _ _ = _
     (first | (simp only [putAll, Act.put, List.setIfInBounds_toArray, List.set_cons_zero, List.set_cons_succ, i64_w, i32_w]; done) | (simp only [putAll, Act.put, List.setIfInBounds_toArray, List.set_cons_zero, List.set_cons_succ, i64_w, i32_w]; rfl))
    refine three_ (i := 14) (j := 17) (k := 20) (Ni := some 108) (Nj := some 111) (Nk := some 114) (bb 27 10878975) (bb 27 10993663) (bb 27 11911167) rfl rfl rfl rfl rfl rfl (three_of HT_.out (by kernel_rfl)) (by decide) (by decide) (by decide) (fun K hK => ?_) (fun K hK => ?_) (fun K hK => ?_)
    ·refine appB (w0 := w7) (base := w7.heap.size) (xs := ((([] : List Int) ++ b1) ++ l7)) (ys := b2) (A := A2') (c := c2') (by rfl) (.tmp 104) (.tmp 107) rfl rfl rfl H1 (Kd.C_below S2.out HB) HB HB.size ?aL ?_
     (case aL => have := HLEN.out; have := HFEW.out; simp only [List.length_append, List.length_nil, List.length_cons]; omega)
     intro s W1 ho HB1 hg
     refine hK.out _ _ ⟨trivial, trivial⟩ (fun hHeld => ?_)
     clear hK K
     refine nm ?_
     have hN := ST11111000010 ((ow f W.heap.size 0), s4, s8, s10, s, g, undef, undef, undef, s23, undef) W1 ⟨HB1, ho, ⟨cb_app H2.1 H1 (by decide) hg 0, H2.2⟩, (rb_app H4 H1 (by decide) hg 0)⟩
     refine norm_ ?_ hN
     show _ = putAll _ _
     (first | (simp only [putAll, Act.put, List.setIfInBounds_toArray, List.set_cons_zero, List.set_cons_succ, i64_w, i32_w]; done) | (simp only [putAll, Act.put, List.setIfInBounds_toArray, List.set_cons_zero, List.set_cons_succ, i64_w, i32_w]; rfl))
    ·refine cvtB (by rfl) (.tmp 110) 4 rfl rfl H2.1 ?_
     intro W1 hC1 hoth hsz hos
     have HB1 := cvt_below HB H2.2 hoth hsz hos
     refine hK.out _ _ ⟨trivial, trivial⟩ (fun hHeld => ?_)
     clear hK K
     refine nm ?_
     have hN := ST11101100010 (f, s4, s8, s10, undef, g, undef, undef, undef, s23, undef) W1 ⟨HB1, (cvt_row H1 H2.1.2 (by decide) hoth), ⟨hC1, H2.2⟩, (cvt_row H4 H2.1.2 (by decide) hoth)⟩
     refine norm_ ?_ hN
     show _ = putAll _ _
     (first | (simp only [putAll, Act.put, List.setIfInBounds_toArray, List.set_cons_zero, List.set_cons_succ, i64_w, i32_w]; done) | (simp only [putAll, Act.put, List.setIfInBounds_toArray, List.set_cons_zero, List.set_cons_succ, i64_w, i32_w]; rfl))
    ·refine litB (by rfl) rfl (xs := ([] : List Int)) (by first | (go_simp; done) | (go_simp; rfl)) (by simp) ?_
     intro s W1 ho hb
     have HB1 := below_step HB hb
     refine hK.out _ _ ⟨trivial, trivial⟩ (fun hHeld => ?_)
     clear hK K
     refine nm ?_
     have hN := ST11101001010 ((ow f W.heap.size 2), s4, s8, s10, undef, g, undef, s, undef, s23, undef) W1 ⟨HB1, (rb_fresh H1 hb 2), ⟨cb_fresh H2.1 hb 2, H2.2⟩, (rb_lit f ho HB.size 2), (rb_fresh H4 hb 2)⟩
     refine norm_ ?_ hN
     show _ = putAll _ _
     (first | (simp only [putAll, Act.put, List.setIfInBounds_toArray, List.set_cons_zero, List.set_cons_succ, i64_w, i32_w]; done) | (simp only [putAll, Act.put, List.setIfInBounds_toArray, List.set_cons_zero, List.set_cons_succ, i64_w, i32_w]; rfl))
   intro ST11101000010
   refine join_ (σ := (Nat → Nat) × (Value) × (Value) × (Value) × (Value) × (Nat) × (Value) × (Value) × (Value) × (Value) × (Value)) 8 (bb 27 3522559) (fun s_ => [(98, s_.2.1), (102, s_.2.2.1), (104, s_.2.2.2.1), (110, (.slice (some ⟨s_.2.2.2.2.2.1, 0, none⟩) 4 4)), (114, s_.2.2.2.2.2.2.2.1)]) (fun s_ w' => Below w7.heap.size w7 w' ∧ RB w' w7.heap.size s_.1 0 s_.2.2.2.1 ((([] : List Int) ++ b1) ++ l7) ∧ (CB w' s_.1 1 s_.2.2.2.2.2.1 ([67, 85, 66, 49] : List Int) (0, 0) ∧ w7.heap.size ≤ s_.2.2.2.2.2.1) ∧ RB w' w7.heap.size s_.1 2 s_.2.2.2.2.2.2.2.1 ([] : List Int)) ?_ ?_
   ·rintro ⟨f, s4, s8, s10, s14, g, s19, s20, s22, s23, s24⟩ W ⟨HB, H1, H2, H3⟩
    try dsimp only at *
    refine norm_ (a' := ?_) ?_ ?_
    rotate_left
    ·show putAll _ _ = _
     (first | (simp only [putAll, Act.put, List.setIfInBounds_toArray, List.set_cons_zero, List.set_cons_succ, i64_w, i32_w]; done) | (simp only [putAll, Act.put, List.setIfInBounds_toArray, List.set_cons_zero, List.set_cons_succ, i64_w, i32_w]; rfl))
    refine three_ (i := 14) (j := 17) (k := 23) (Ni := some 108) (Nj := some 111) (Nk := some 117) (bb 27 3538943) (bb 27 3653631) (bb 27 11911167) rfl rfl rfl rfl rfl rfl (three_of HT_.out (by kernel_rfl)) (by decide) (by decide) (by decide) (fun K hK => ?_) (fun K hK => ?_) (fun K hK => ?_)
    ·refine appB (w0 := w7) (base := w7.heap.size) (xs := ((([] : List Int) ++ b1) ++ l7)) (ys := b2) (A := A2') (c := c2') (by rfl) (.tmp 104) (.tmp 107) rfl rfl rfl H1 (Kd.C_below S2.out HB) HB HB.size ?aL ?_
     (case aL => have := HLEN.out; have := HFEW.out; simp only [List.length_append, List.length_nil, List.length_cons]; omega)
     intro s W1 ho HB1 hg
     refine hK.out _ _ ⟨trivial, trivial⟩ (fun hHeld => ?_)
     clear hK K
     refine nm ?_
     have hN := ST11111001000 ((ow f W.heap.size 0), s4, s8, s10, s, g, undef, s20, undef, undef, undef) W1 ⟨HB1, ho, ⟨cb_app H2.1 H1 (by decide) hg 0, H2.2⟩, (rb_app H3 H1 (by decide) hg 0)⟩
     refine norm_ ?_ hN
     show _ = putAll _ _
     (first | (simp only [putAll, Act.put, List.setIfInBounds_toArray, List.set_cons_zero, List.set_cons_succ, i64_w, i32_w]; done) | (simp only [putAll, Act.put, List.setIfInBounds_toArray, List.set_cons_zero, List.set_cons_succ, i64_w, i32_w]; rfl))
    ·refine cvtB (by rfl) (.tmp 110) 4 rfl rfl H2.1 ?_
     intro W1 hC1 hoth hsz hos
     have HB1 := cvt_below HB H2.2 hoth hsz hos
     refine hK.out _ _ ⟨trivial, trivial⟩ (fun hHeld => ?_)
     clear hK K
     refine nm ?_
     have hN := ST11101101000 (f, s4, s8, s10, undef, g, undef, s20, undef, undef, undef) W1 ⟨HB1, (cvt_row H1 H2.1.2 (by decide) hoth), ⟨hC1, H2.2⟩, (cvt_row H3 H2.1.2 (by decide) hoth)⟩
     refine norm_ ?_ hN
     show _ = putAll _ _
     (first | (simp only [putAll, Act.put, List.setIfInBounds_toArray, List.set_cons_zero, List.set_cons_succ, i64_w, i32_w]; done) | (simp only [putAll, Act.put, List.setIfInBounds_toArray, List.set_cons_zero, List.set_cons_succ, i64_w, i32_w]; rfl))
    ·refine litB (by rfl) rfl (xs := ([0] : List Int)) (by first | (go_simp; done) | (go_simp; rfl)) (by simp) ?_
     intro s W1 ho hb
     have HB1 := below_step HB hb
     refine hK.out _ _ ⟨trivial, trivial⟩ (fun hHeld => ?_)
     clear hK K
     refine nm ?_
     have hN := ST11101001010 ((ow f W.heap.size 3), s4, s8, s10, undef, g, undef, s20, undef, s, undef) W1 ⟨HB1, (rb_fresh H1 hb 3), ⟨cb_fresh H2.1 hb 3, H2.2⟩, (rb_fresh H3 hb 3), (rb_lit f ho HB.size 3)⟩
     refine norm_ ?_ hN
     show _ = putAll _ _
     (first | (simp only [putAll, Act.put, List.setIfInBounds_toArray, List.set_cons_zero, List.set_cons_succ, i64_w, i32_w]; done) | (simp only [putAll, Act.put, List.setIfInBounds_toArray, List.set_cons_zero, List.set_cons_succ, i64_w, i32_w]; rfl))
   intro ST11101001000
   refine join_ (σ := (Nat → Nat) × (Value) × (Value) × (Value) × (Value) × (Nat) × (Value) × (Value) × (Value) × (Value) × (Value)) 8 (bb 27 2605055) (fun s_ => [(98, s_.2.1), (102, s_.2.2.1), (104, s_.2.2.2.1), (110, (.slice (some ⟨s_.2.2.2.2.2.1, 0, none⟩) 4 4)), (111, (.slice (some ⟨s_.2.2.2.2.2.1, 0, none⟩) 4 4))]) (fun s_ w' => Below w7.heap.size w7 w' ∧ RB w' w7.heap.size s_.1 0 s_.2.2.2.1 ((([] : List Int) ++ b1) ++ l7) ∧ (CB w' s_.1 1 s_.2.2.2.2.2.1 ([67, 85, 66, 49] : List Int) (4, 5) ∧ w7.heap.size ≤ s_.2.2.2.2.2.1)) ?_ ?_
   ·rintro ⟨f, s4, s8, s10, s14, g, s19, s20, s22, s23, s24⟩ W ⟨HB, H1, H2⟩
    try dsimp only at *
    refine norm_ (a' := ?_) ?_ ?_
    rotate_left
    ·show putAll _ _ = _
     (first | (simp only [putAll, Act.put, List.setIfInBounds_toArray, List.set_cons_zero, List.set_cons_succ, i64_w, i32_w]; done) | (simp only [putAll, Act.put, List.setIfInBounds_toArray, List.set_cons_zero, List.set_cons_succ, i64_w, i32_w]; rfl))
    refine three_ (i := 14) (j := 20) (k := 23) (Ni := some 108) (Nj := some 114) (Nk := some 117) (bb 27 2621439) (bb 27 3653631) (bb 27 10993663) rfl rfl rfl rfl rfl rfl (three_of HT_.out (by kernel_rfl)) (by decide) (by decide) (by decide) (fun K hK => ?_) (fun K hK => ?_) (fun K hK => ?_)
    ·refine appB (w0 := w7) (base := w7.heap.size) (xs := ((([] : List Int) ++ b1) ++ l7)) (ys := b2) (A := A2') (c := c2') (by rfl) (.tmp 104) (.tmp 107) rfl rfl rfl H1 (Kd.C_below S2.out HB) HB HB.size ?aL ?_
     (case aL => have := HLEN.out; have := HFEW.out; simp only [List.length_append, List.length_nil, List.length_cons]; omega)
     intro s W1 ho HB1 hg
     refine hK.out _ _ ⟨trivial, trivial⟩ (fun hHeld => ?_)
     clear hK K
     refine nm ?_
     have hN := ST11111100000 ((ow f W.heap.size 0), s4, s8, s10, s, g, undef, undef, undef, undef, undef) W1 ⟨HB1, ho, ⟨cb_app H2.1 H1 (by decide) hg 0, H2.2⟩⟩
     refine norm_ ?_ hN
     show _ = putAll _ _
     (first | (simp only [putAll, Act.put, List.setIfInBounds_toArray, List.set_cons_zero, List.set_cons_succ, i64_w, i32_w]; done) | (simp only [putAll, Act.put, List.setIfInBounds_toArray, List.set_cons_zero, List.set_cons_succ, i64_w, i32_w]; rfl))
    ·refine litB (by rfl) rfl (xs := ([] : List Int)) (by first | (go_simp; done) | (go_simp; rfl)) (by simp) ?_
     intro s W1 ho hb
     have HB1 := below_step HB hb
     refine hK.out _ _ ⟨trivial, trivial⟩ (fun hHeld => ?_)
     clear hK K
     refine nm ?_
     have hN := ST11101101000 ((ow f W.heap.size 2), s4, s8, s10, undef, g, undef, s, undef, undef, undef) W1 ⟨HB1, (rb_fresh H1 hb 2), ⟨cb_fresh H2.1 hb 2, H2.2⟩, (rb_lit f ho HB.size 2)⟩
     refine norm_ ?_ hN
     show _ = putAll _ _
     (first | (simp only [putAll, Act.put, List.setIfInBounds_toArray, List.set_cons_zero, List.set_cons_succ, i64_w, i32_w]; done) | (simp only [putAll, Act.put, List.setIfInBounds_toArray, List.set_cons_zero, List.set_cons_succ, i64_w, i32_w]; rfl))
    ·refine litB (by rfl) rfl (xs := ([0] : List Int)) (by first | (go_simp; done) | (go_simp; rfl)) (by simp) ?_
     intro s W1 ho hb
     have HB1 := below_step HB hb
     refine hK.out _ _ ⟨trivial, trivial⟩ (fun hHeld => ?_)
     clear hK K
     refine nm ?_
     have hN := ST11101100010 ((ow f W.heap.size 3), s4, s8, s10, undef, g, undef, undef, undef, s, undef) W1 ⟨HB1, (rb_fresh H1 hb 3), ⟨cb_fresh H2.1 hb 3, H2.2⟩, (rb_lit f ho HB.size 3)⟩
     refine norm_ ?_ hN
     show _ = putAll _ _
     (first | (simp only [putAll, Act.put, List.setIfInBounds_toArray, List.set_cons_zero, List.set_cons_succ, i64_w, i32_w]; done) | (simp only [putAll, Act.put, List.setIfInBounds_toArray, List.set_cons_zero, List.set_cons_succ, i64_w, i32_w]; rfl))
   intro ST11101100000
   refine join_ (σ := (Nat → Nat) × (Value) × (Value) × (Value) × (Value) × (Nat) × (Value) × (Value) × (Value) × (Value) × (Value)) 8 (bb 27 10813439) (fun s_ => [(98, s_.2.1), (102, s_.2.2.1), (104, s_.2.2.2.1), (108, s_.2.2.2.2.1), (117, s_.2.2.2.2.2.2.2.2.2.1)]) (fun s_ w' => Below w7.heap.size w7 w' ∧ RB w' w7.heap.size s_.1 0 s_.2.2.2.2.1 (((([] : List Int) ++ b1) ++ l7) ++ b2) ∧ RB w' w7.heap.size s_.1 3 s_.2.2.2.2.2.2.2.2.2.1 ([0] : List Int)) ?_ ?_
   ·rintro ⟨f, s4, s8, s10, s14, g, s19, s20, s22, s23, s24⟩ W ⟨HB, H1, H4⟩
    try dsimp only at *
    refine norm_ (a' := ?_) ?_ ?_
    rotate_left
    ·show putAll _ _ = _
     (first | (simp only [putAll, Act.put, List.setIfInBounds_toArray, List.set_cons_zero, List.set_cons_succ, i64_w, i32_w]; done) | (simp only [putAll, Act.put, List.setIfInBounds_toArray, List.set_cons_zero, List.set_cons_succ, i64_w, i32_w]; rfl))
    refine two_ (i := 16) (j := 20) (Ni := some 110) (Nj := some 114) (bb 27 10878975) (bb 27 11862015) rfl rfl rfl rfl (two_of HT_.out (by kernel_rfl)) (by decide) (by decide) (fun K hK => ?_) (fun K hK => ?_)
    ·refine event_step (by rfl) (v := .slice (some ⟨W.heap.size, 0, none⟩) 4 4) (w1 := W.alloc (.cells (([67, 85, 66, 49] : List Int).map (Value.int .u8)).toArray 5)) (by first | (go_simp; done) | (go_simp; rfl)) ?_
     have hcb := cb_new W f 1 ([67, 85, 66, 49] : List Int)
     have hb : Below W.heap.size W (W.alloc (.cells (([67, 85, 66, 49] : List Int).map (Value.int .u8)).toArray 5)) := below_alloc (Below.refl _ _) _
     generalize W.alloc (.cells (([67, 85, 66, 49] : List Int).map (Value.int .u8)).toArray 5) = W1 at *
     have HB1 := below_step HB hb
     refine hK.out _ _ ⟨trivial, trivial⟩ (fun hHeld => ?_)
     clear hK K
     refine nm ?_
     have hN := ST11111000010 ((ow f W.heap.size 1), s4, s8, s10, s14, W.heap.size, undef, undef, undef, s23, undef) W1 ⟨HB1, (rb_fresh H1 hb 1), ⟨hcb, HB.size⟩, (rb_fresh H4 hb 1)⟩
     refine norm_ ?_ hN
     show _ = putAll _ _
     (first | (simp only [putAll, Act.put, List.setIfInBounds_toArray, List.set_cons_zero, List.set_cons_succ, i64_w, i32_w]; done) | (simp only [putAll, Act.put, List.setIfInBounds_toArray, List.set_cons_zero, List.set_cons_succ, i64_w, i32_w]; rfl))
    ·refine litB (by rfl) rfl (xs := ([] : List Int)) (by first | (go_simp; done) | (go_simp; rfl)) (by simp) ?_
     intro s W1 ho hb
     have HB1 := below_step HB hb
     refine hK.out _ _ ⟨trivial, trivial⟩ (fun hHeld => ?_)
     clear hK K
     refine nm ?_
     have hN := ST11110001010 ((ow f W.heap.size 2), s4, s8, s10, s14, 0, undef, s, undef, s23, undef) W1 ⟨HB1, (rb_fresh H1 hb 2), (rb_lit f ho HB.size 2), (rb_fresh H4 hb 2)⟩
     refine norm_ ?_ hN
     show _ = putAll _ _
     (first | (simp only [putAll, Act.put, List.setIfInBounds_toArray, List.set_cons_zero, List.set_cons_succ, i64_w, i32_w]; done) | (simp only [putAll, Act.put, List.setIfInBounds_toArray, List.set_cons_zero, List.set_cons_succ, i64_w, i32_w]; rfl))
   intro ST11110000010
   refine join_ (σ := (Nat → Nat) × (Value) × (Value) × (Value) × (Value) × (Nat) × (Value) × (Value) × (Value) × (Value) × (Value)) 8 (bb 27 3473407) (fun s_ => [(98, s_.2.1), (102, s_.2.2.1), (104, s_.2.2.2.1), (108, s_.2.2.2.2.1), (114, s_.2.2.2.2.2.2.2.1)]) (fun s_ w' => Below w7.heap.size w7 w' ∧ RB w' w7.heap.size s_.1 0 s_.2.2.2.2.1 (((([] : List Int) ++ b1) ++ l7) ++ b2) ∧ RB w' w7.heap.size s_.1 2 s_.2.2.2.2.2.2.2.1 ([] : List Int)) ?_ ?_
   ·rintro ⟨f, s4, s8, s10, s14, g, s19, s20, s22, s23, s24⟩ W ⟨HB, H1, H3⟩
    try dsimp only at *
    refine norm_ (a' := ?_) ?_ ?_
    rotate_left
    ·show putAll _ _ = _
     (first | (simp only [putAll, Act.put, List.setIfInBounds_toArray, List.set_cons_zero, List.set_cons_succ, i64_w, i32_w]; done) | (simp only [putAll, Act.put, List.setIfInBounds_toArray, List.set_cons_zero, List.set_cons_succ, i64_w, i32_w]; rfl))
    refine two_ (i := 16) (j := 23) (Ni := some 110) (Nj := some 117) (bb 27 3538943) (bb 27 11862015) rfl rfl rfl rfl (two_of HT_.out (by kernel_rfl)) (by decide) (by decide) (fun K hK => ?_) (fun K hK => ?_)
    ·refine event_step (by rfl) (v := .slice (some ⟨W.heap.size, 0, none⟩) 4 4) (w1 := W.alloc (.cells (([67, 85, 66, 49] : List Int).map (Value.int .u8)).toArray 5)) (by first | (go_simp; done) | (go_simp; rfl)) ?_
     have hcb := cb_new W f 1 ([67, 85, 66, 49] : List Int)
     have hb : Below W.heap.size W (W.alloc (.cells (([67, 85, 66, 49] : List Int).map (Value.int .u8)).toArray 5)) := below_alloc (Below.refl _ _) _
     generalize W.alloc (.cells (([67, 85, 66, 49] : List Int).map (Value.int .u8)).toArray 5) = W1 at *
     have HB1 := below_step HB hb
     refine hK.out _ _ ⟨trivial, trivial⟩ (fun hHeld => ?_)
     clear hK K
     refine nm ?_
     have hN := ST11111001000 ((ow f W.heap.size 1), s4, s8, s10, s14, W.heap.size, undef, s20, undef, undef, undef) W1 ⟨HB1, (rb_fresh H1 hb 1), ⟨hcb, HB.size⟩, (rb_fresh H3 hb 1)⟩
     refine norm_ ?_ hN
     show _ = putAll _ _
     (first | (simp only [putAll, Act.put, List.setIfInBounds_toArray, List.set_cons_zero, List.set_cons_succ, i64_w, i32_w]; done) | (simp only [putAll, Act.put, List.setIfInBounds_toArray, List.set_cons_zero, List.set_cons_succ, i64_w, i32_w]; rfl))
    ·refine litB (by rfl) rfl (xs := ([0] : List Int)) (by first | (go_simp; done) | (go_simp; rfl)) (by simp) ?_
     intro s W1 ho hb
     have HB1 := below_step HB hb
     refine hK.out _ _ ⟨trivial, trivial⟩ (fun hHeld => ?_)
     clear hK K
     refine nm ?_
     have hN := ST11110001010 ((ow f W.heap.size 3), s4, s8, s10, s14, 0, undef, s20, undef, s, undef) W1 ⟨HB1, (rb_fresh H1 hb 3), (rb_fresh H3 hb 3), (rb_lit f ho HB.size 3)⟩
     refine norm_ ?_ hN
     show _ = putAll _ _
     (first | (simp only [putAll, Act.put, List.setIfInBounds_toArray, List.set_cons_zero, List.set_cons_succ, i64_w, i32_w]; done) | (simp only [putAll, Act.put, List.setIfInBounds_toArray, List.set_cons_zero, List.set_cons_succ, i64_w, i32_w]; rfl))
   intro ST11110001000
   refine join_ (σ := (Nat → Nat) × (Value) × (Value) × (Value) × (Value) × (Nat) × (Value) × (Value) × (Value) × (Value) × (Value)) 8 (bb 27 2490367) (fun s_ => [(98, s_.2.1), (102, s_.2.2.1), (104, s_.2.2.2.1), (108, s_.2.2.2.2.1), (110, (.slice (some ⟨s_.2.2.2.2.2.1, 0, none⟩) 4 4))]) (fun s_ w' => Below w7.heap.size w7 w' ∧ RB w' w7.heap.size s_.1 0 s_.2.2.2.2.1 (((([] : List Int) ++ b1) ++ l7) ++ b2) ∧ (CB w' s_.1 1 s_.2.2.2.2.2.1 ([67, 85, 66, 49] : List Int) (0, 0) ∧ w7.heap.size ≤ s_.2.2.2.2.2.1)) ?_ ?_
   ·rintro ⟨f, s4, s8, s10, s14, g, s19, s20, s22, s23, s24⟩ W ⟨HB, H1, H2⟩
    try dsimp only at *
    refine norm_ (a' := ?_) ?_ ?_
    rotate_left
    ·show putAll _ _ = _
     (first | (simp only [putAll, Act.put, List.setIfInBounds_toArray, List.set_cons_zero, List.set_cons_succ, i64_w, i32_w]; done) | (simp only [putAll, Act.put, List.setIfInBounds_toArray, List.set_cons_zero, List.set_cons_succ, i64_w, i32_w]; rfl))
    refine three_ (i := 17) (j := 20) (k := 23) (Ni := some 111) (Nj := some 114) (Nk := some 117) (bb 27 2621439) (bb 27 3538943) (bb 27 10878975) rfl rfl rfl rfl rfl rfl (three_of HT_.out (by kernel_rfl)) (by decide) (by decide) (by decide) (fun K hK => ?_) (fun K hK => ?_) (fun K hK => ?_)
    ·refine cvtB (by rfl) (.tmp 110) 4 rfl rfl H2.1 ?_
     intro W1 hC1 hoth hsz hos
     have HB1 := cvt_below HB H2.2 hoth hsz hos
     refine hK.out _ _ ⟨trivial, trivial⟩ (fun hHeld => ?_)
     clear hK K
     refine nm ?_
     have hN := ST11111100000 (f, s4, s8, s10, s14, g, undef, undef, undef, undef, undef) W1 ⟨HB1, (cvt_row H1 H2.1.2 (by decide) hoth), ⟨hC1, H2.2⟩⟩
     refine norm_ ?_ hN
     show _ = putAll _ _
     (first | (simp only [putAll, Act.put, List.setIfInBounds_toArray, List.set_cons_zero, List.set_cons_succ, i64_w, i32_w]; done) | (simp only [putAll, Act.put, List.setIfInBounds_toArray, List.set_cons_zero, List.set_cons_succ, i64_w, i32_w]; rfl))
    ·refine litB (by rfl) rfl (xs := ([] : List Int)) (by first | (go_simp; done) | (go_simp; rfl)) (by simp) ?_
     intro s W1 ho hb
     have HB1 := below_step HB hb
     refine hK.out _ _ ⟨trivial, trivial⟩ (fun hHeld => ?_)
     clear hK K
     refine nm ?_
     have hN := ST11111001000 ((ow f W.heap.size 2), s4, s8, s10, s14, g, undef, s, undef, undef, undef) W1 ⟨HB1, (rb_fresh H1 hb 2), ⟨cb_fresh H2.1 hb 2, H2.2⟩, (rb_lit f ho HB.size 2)⟩
     refine norm_ ?_ hN
     show _ = putAll _ _
     (first | (simp only [putAll, Act.put, List.setIfInBounds_toArray, List.set_cons_zero, List.set_cons_succ, i64_w, i32_w]; done) | (simp only [putAll, Act.put, List.setIfInBounds_toArray, List.set_cons_zero, List.set_cons_succ, i64_w, i32_w]; rfl))
    ·refine litB (by rfl) rfl (xs := ([0] : List Int)) (by first | (go_simp; done) | (go_simp; rfl)) (by simp) ?_
     intro s W1 ho hb
     have HB1 := below_step HB hb
     refine hK.out _ _ ⟨trivial, trivial⟩ (fun hHeld => ?_)
     clear hK K
     refine nm ?_
     have hN := ST11111000010 ((ow f W.heap.size 3), s4, s8, s10, s14, g, undef, undef, undef, s, undef) W1 ⟨HB1, (rb_fresh H1 hb 3), ⟨cb_fresh H2.1 hb 3, H2.2⟩, (rb_lit f ho HB.size 3)⟩
     refine norm_ ?_ hN
     show _ = putAll _ _
     (first | (simp only [putAll, Act.put, List.setIfInBounds_toArray, List.set_cons_zero, List.set_cons_succ, i64_w, i32_w]; done) | (simp only [putAll, Act.put, List.setIfInBounds_toArray, List.set_cons_zero, List.set_cons_succ, i64_w, i32_w]; rfl))
   intro ST11111000000
   refine join_ (σ := (Nat → Nat) × (Value) × (Value) × (Value) × (Value) × (Nat) × (Value) × (Value) × (Value) × (Value) × (Value)) 9 (bb 27 12040943) (fun s_ => [(110, (.slice (some ⟨s_.2.2.2.2.2.1, 0, none⟩) 4 4)), (111, (.slice (some ⟨s_.2.2.2.2.2.1, 0, none⟩) 4 4)), (114, s_.2.2.2.2.2.2.2.1), (117, s_.2.2.2.2.2.2.2.2.2.1)]) (fun s_ w' => Below w7.heap.size w7 w' ∧ (CB w' s_.1 1 s_.2.2.2.2.2.1 ([67, 85, 66, 49] : List Int) (4, 5) ∧ w7.heap.size ≤ s_.2.2.2.2.2.1) ∧ RB w' w7.heap.size s_.1 2 s_.2.2.2.2.2.2.2.1 ([] : List Int) ∧ RB w' w7.heap.size s_.1 3 s_.2.2.2.2.2.2.2.2.2.1 ([0] : List Int)) ?_ ?_
   ·rintro ⟨f, s4, s8, s10, s14, g, s19, s20, s22, s23, s24⟩ W ⟨HB, H2, H3, H4⟩
    try dsimp only at *
    refine norm_ (a' := ?_) ?_ ?_
    rotate_left
    ·show putAll _ _ = _
     (first | (simp only [putAll, Act.put, List.setIfInBounds_toArray, List.set_cons_zero, List.set_cons_succ, i64_w, i32_w]; done) | (simp only [putAll, Act.put, List.setIfInBounds_toArray, List.set_cons_zero, List.set_cons_succ, i64_w, i32_w]; rfl))
    refine one_ (i := 4) (N := some 98) (bb 27 12040959) rfl rfl (one_of HT_.out (by kernel_rfl)) (by decide) (fun K hK => ?_)
    refine litB (by rfl) rfl (xs := ([] : List Int)) (by first | (go_simp; done) | (go_simp; rfl)) (by simp) ?_
    intro s W1 ho hb
    have HB1 := below_step HB hb
    refine hK.out _ _ ⟨trivial, trivial⟩ (fun hHeld => ?_)
    clear hK K
    refine nm ?_
    have hN := ST10001101010 ((ow f W.heap.size 0), s, undef, undef, undef, g, undef, s20, undef, s23, undef) W1 ⟨HB1, (rb_lit f ho HB.size 0), ⟨cb_fresh H2.1 hb 0, H2.2⟩, (rb_fresh H3 hb 0), (rb_fresh H4 hb 0)⟩
    refine norm_ ?_ hN
    show _ = putAll _ _
    (first | (simp only [putAll, Act.put, List.setIfInBounds_toArray, List.set_cons_zero, List.set_cons_succ, i64_w, i32_w]; done) | (simp only [putAll, Act.put, List.setIfInBounds_toArray, List.set_cons_zero, List.set_cons_succ, i64_w, i32_w]; rfl))
   intro ST00001101010
   refine join_ (σ := (Nat → Nat) × (Value) × (Value) × (Value) × (Value) × (Nat) × (Value) × (Value) × (Value) × (Value) × (Value)) 9 (bb 27 11909887) (fun s_ => [(98, s_.2.1), (110, (.slice (some ⟨s_.2.2.2.2.2.1, 0, none⟩) 4 4)), (114, s_.2.2.2.2.2.2.2.1), (117, s_.2.2.2.2.2.2.2.2.2.1)]) (fun s_ w' => Below w7.heap.size w7 w' ∧ RB w' w7.heap.size s_.1 0 s_.2.1 ([] : List Int) ∧ (CB w' s_.1 1 s_.2.2.2.2.2.1 ([67, 85, 66, 49] : List Int) (0, 0) ∧ w7.heap.size ≤ s_.2.2.2.2.2.1) ∧ RB w' w7.heap.size s_.1 2 s_.2.2.2.2.2.2.2.1 ([] : List Int) ∧ RB w' w7.heap.size s_.1 3 s_.2.2.2.2.2.2.2.2.2.1 ([0] : List Int)) ?_ ?_
   ·rintro ⟨f, s4, s8, s10, s14, g, s19, s20, s22, s23, s24⟩ W ⟨HB, H1, H2, H3, H4⟩
    try dsimp only at *
    refine norm_ (a' := ?_) ?_ ?_
    rotate_left
    ·show putAll _ _ = _
     (first | (simp only [putAll, Act.put, List.setIfInBounds_toArray, List.set_cons_zero, List.set_cons_succ, i64_w, i32_w]; done) | (simp only [putAll, Act.put, List.setIfInBounds_toArray, List.set_cons_zero, List.set_cons_succ, i64_w, i32_w]; rfl))
    refine two_ (i := 8) (j := 17) (Ni := some 102) (Nj := some 111) (bb 27 11910143) (bb 27 12040959) rfl rfl rfl rfl (two_of HT_.out (by kernel_rfl)) (by decide) (by decide) (fun K hK => ?_) (fun K hK => ?_)
    ·refine appB (w0 := w7) (base := w7.heap.size) (xs := ([] : List Int)) (ys := b1) (A := Ab) (c := cb) (by rfl) (.tmp 98) (.tmp 101) rfl rfl rfl H1 (Kd.C_below S1.out HB) HB HB.size ?aL ?_
     (case aL => have := HLEN.out; have := HFEW.out; simp only [List.length_append, List.length_nil, List.length_cons]; omega)
     intro s W1 ho HB1 hg
     refine hK.out _ _ ⟨trivial, trivial⟩ (fun hHeld => ?_)
     clear hK K
     refine nm ?_
     have hN := ST11001001010 ((ow f W.heap.size 0), s4, s, undef, undef, g, undef, s20, undef, s23, undef) W1 ⟨HB1, ho, ⟨cb_app H2.1 H1 (by decide) hg 0, H2.2⟩, (rb_app H3 H1 (by decide) hg 0), (rb_app H4 H1 (by decide) hg 0)⟩
     refine norm_ ?_ hN
     show _ = putAll _ _
     (first | (simp only [putAll, Act.put, List.setIfInBounds_toArray, List.set_cons_zero, List.set_cons_succ, i64_w, i32_w]; done) | (simp only [putAll, Act.put, List.setIfInBounds_toArray, List.set_cons_zero, List.set_cons_succ, i64_w, i32_w]; rfl))
    ·refine cvtB (by rfl) (.tmp 110) 4 rfl rfl H2.1 ?_
     intro W1 hC1 hoth hsz hos
     have HB1 := cvt_below HB H2.2 hoth hsz hos
     refine hK.out _ _ ⟨trivial, trivial⟩ (fun hHeld => ?_)
     clear hK K
     refine nm ?_
     have hN := ST10001101010 (f, s4, undef, undef, undef, g, undef, s20, undef, s23, undef) W1 ⟨HB1, (cvt_row H1 H2.1.2 (by decide) hoth), ⟨hC1, H2.2⟩, (cvt_row H3 H2.1.2 (by decide) hoth), (cvt_row H4 H2.1.2 (by decide) hoth)⟩
     refine norm_ ?_ hN
     show _ = putAll _ _
     (first | (simp only [putAll, Act.put, List.setIfInBounds_toArray, List.set_cons_zero, List.set_cons_succ, i64_w, i32_w]; done) | (simp only [putAll, Act.put, List.setIfInBounds_toArray, List.set_cons_zero, List.set_cons_succ, i64_w, i32_w]; rfl))
   intro ST10001001010
   refine join_ (σ := (Nat → Nat) × (Value) × (Value) × (Value) × (Value) × (Nat) × (Value) × (Value) × (Value) × (Value) × (Value)) 9 (bb 27 10992383) (fun s_ => [(98, s_.2.1), (110, (.slice (some ⟨s_.2.2.2.2.2.1, 0, none⟩) 4 4)), (111, (.slice (some ⟨s_.2.2.2.2.2.1, 0, none⟩) 4 4)), (117, s_.2.2.2.2.2.2.2.2.2.1)]) (fun s_ w' => Below w7.heap.size w7 w' ∧ RB w' w7.heap.size s_.1 0 s_.2.1 ([] : List Int) ∧ (CB w' s_.1 1 s_.2.2.2.2.2.1 ([67, 85, 66, 49] : List Int) (4, 5) ∧ w7.heap.size ≤ s_.2.2.2.2.2.1) ∧ RB w' w7.heap.size s_.1 3 s_.2.2.2.2.2.2.2.2.2.1 ([0] : List Int)) ?_ ?_
   ·rintro ⟨f, s4, s8, s10, s14, g, s19, s20, s22, s23, s24⟩ W ⟨HB, H1, H2, H4⟩
    try dsimp only at *
    refine norm_ (a' := ?_) ?_ ?_
    rotate_left
    ·show putAll _ _ = _
     (first | (simp only [putAll, Act.put, List.setIfInBounds_toArray, List.set_cons_zero, List.set_cons_succ, i64_w, i32_w]; done) | (simp only [putAll, Act.put, List.setIfInBounds_toArray, List.set_cons_zero, List.set_cons_succ, i64_w, i32_w]; rfl))
    refine two_ (i := 8) (j := 20) (Ni := some 102) (Nj := some 114) (bb 27 10992639) (bb 27 12040959) rfl rfl rfl rfl (two_of HT_.out (by kernel_rfl)) (by decide) (by decide) (fun K hK => ?_) (fun K hK => ?_)
    ·refine appB (w0 := w7) (base := w7.heap.size) (xs := ([] : List Int)) (ys := b1) (A := Ab) (c := cb) (by rfl) (.tmp 98) (.tmp 101) rfl rfl rfl H1 (Kd.C_below S1.out HB) HB HB.size ?aL ?_
     (case aL => have := HLEN.out; have := HFEW.out; simp only [List.length_append, List.length_nil, List.length_cons]; omega)
     intro s W1 ho HB1 hg
     refine hK.out _ _ ⟨trivial, trivial⟩ (fun hHeld => ?_)
     clear hK K
     refine nm ?_
     have hN := ST11001100010 ((ow f W.heap.size 0), s4, s, undef, undef, g, undef, undef, undef, s23, undef) W1 ⟨HB1, ho, ⟨cb_app H2.1 H1 (by decide) hg 0, H2.2⟩, (rb_app H4 H1 (by decide) hg 0)⟩
     refine norm_ ?_ hN
     show _ = putAll _ _
     (first | (simp only [putAll, Act.put, List.setIfInBounds_toArray, List.set_cons_zero, List.set_cons_succ, i64_w, i32_w]; done) | (simp only [putAll, Act.put, List.setIfInBounds_toArray, List.set_cons_zero, List.set_cons_succ, i64_w, i32_w]; rfl))
    ·refine litB (by rfl) rfl (xs := ([] : List Int)) (by first | (go_simp; done) | (go_simp; rfl)) (by simp) ?_
     intro s W1 ho hb
     have HB1 := below_step HB hb
     refine hK.out _ _ ⟨trivial, trivial⟩ (fun hHeld => ?_)
     clear hK K
     refine nm ?_
     have hN := ST10001101010 ((ow f W.heap.size 2), s4, undef, undef, undef, g, undef, s, undef, s23, undef) W1 ⟨HB1, (rb_fresh H1 hb 2), ⟨cb_fresh H2.1 hb 2, H2.2⟩, (rb_lit f ho HB.size 2), (rb_fresh H4 hb 2)⟩
     refine norm_ ?_ hN
     show _ = putAll _ _
     (first | (simp only [putAll, Act.put, List.setIfInBounds_toArray, List.set_cons_zero, List.set_cons_succ, i64_w, i32_w]; done) | (simp only [putAll, Act.put, List.setIfInBounds_toArray, List.set_cons_zero, List.set_cons_succ, i64_w, i32_w]; rfl))
   intro ST10001100010
   refine join_ (σ := (Nat → Nat) × (Value) × (Value) × (Value) × (Value) × (Nat) × (Value) × (Value) × (Value) × (Value) × (Value)) 9 (bb 27 3652351) (fun s_ => [(98, s_.2.1), (110, (.slice (some ⟨s_.2.2.2.2.2.1, 0, none⟩) 4 4)), (111, (.slice (some ⟨s_.2.2.2.2.2.1, 0, none⟩) 4 4)), (114, s_.2.2.2.2.2.2.2.1)]) (fun s_ w' => Below w7.heap.size w7 w' ∧ RB w' w7.heap.size s_.1 0 s_.2.1 ([] : List Int) ∧ (CB w' s_.1 1 s_.2.2.2.2.2.1 ([67, 85, 66, 49] : List Int) (4, 5) ∧ w7.heap.size ≤ s_.2.2.2.2.2.1) ∧ RB w' w7.heap.size s_.1 2 s_.2.2.2.2.2.2.2.1 ([] : List Int)) ?_ ?_
   ·rintro ⟨f, s4, s8, s10, s14, g, s19, s20, s22, s23, s24⟩ W ⟨HB, H1, H2, H3⟩
    try dsimp only at *
    refine norm_ (a' := ?_) ?_ ?_
    rotate_left
    ·show putAll _ _ = _
     (first | (simp only [putAll, Act.put, List.setIfInBounds_toArray, List.set_cons_zero, List.set_cons_succ, i64_w, i32_w]; done) | (simp only [putAll, Act.put, List.setIfInBounds_toArray, List.set_cons_zero, List.set_cons_succ, i64_w, i32_w]; rfl))
    refine two_ (i := 8) (j := 23) (Ni := some 102) (Nj := some 117) (bb 27 3652607) (bb 27 12040959) rfl rfl rfl rfl (two_of HT_.out (by kernel_rfl)) (by decide) (by decide) (fun K hK => ?_) (fun K hK => ?_)
    ·refine appB (w0 := w7) (base := w7.heap.size) (xs := ([] : List Int)) (ys := b1) (A := Ab) (c := cb) (by rfl) (.tmp 98) (.tmp 101) rfl rfl rfl H1 (Kd.C_below S1.out HB) HB HB.size ?aL ?_
     (case aL => have := HLEN.out; have := HFEW.out; simp only [List.length_append, List.length_nil, List.length_cons]; omega)
     intro s W1 ho HB1 hg
     refine hK.out _ _ ⟨trivial, trivial⟩ (fun hHeld => ?_)
     clear hK K
     refine nm ?_
     have hN := ST11001101000 ((ow f W.heap.size 0), s4, s, undef, undef, g, undef, s20, undef, undef, undef) W1 ⟨HB1, ho, ⟨cb_app H2.1 H1 (by decide) hg 0, H2.2⟩, (rb_app H3 H1 (by decide) hg 0)⟩
     refine norm_ ?_ hN
     show _ = putAll _ _
     (first | (simp only [putAll, Act.put, List.setIfInBounds_toArray, List.set_cons_zero, List.set_cons_succ, i64_w, i32_w]; done) | (simp only [putAll, Act.put, List.setIfInBounds_toArray, List.set_cons_zero, List.set_cons_succ, i64_w, i32_w]; rfl))
    ·refine litB (by rfl) rfl (xs := ([0] : List Int)) (by first | (go_simp; done) | (go_simp; rfl)) (by simp) ?_
     intro s W1 ho hb
     have HB1 := below_step HB hb
     refine hK.out _ _ ⟨trivial, trivial⟩ (fun hHeld => ?_)
     clear hK K
     refine nm ?_
     have hN := ST10001101010 ((ow f W.heap.size 3), s4, undef, undef, undef, g, undef, s20, undef, s, undef) W1 ⟨HB1, (rb_fresh H1 hb 3), ⟨cb_fresh H2.1 hb 3, H2.2⟩, (rb_fresh H3 hb 3), (rb_lit f ho HB.size 3)⟩
     refine norm_ ?_ hN
     show _ = putAll _ _
     (first | (simp only [putAll, Act.put, List.setIfInBounds_toArray, List.set_cons_zero, List.set_cons_succ, i64_w, i32_w]; done) | (simp only [putAll, Act.put, List.setIfInBounds_toArray, List.set_cons_zero, List.set_cons_succ, i64_w, i32_w]; rfl))
   intro ST10001101000
   refine join_ (σ := (Nat → Nat) × (Value) × (Value) × (Value) × (Value) × (Nat) × (Value) × (Value) × (Value) × (Value) × (Value)) 9 (bb 27 11844607) (fun s_ => [(98, s_.2.1), (102, s_.2.2.1), (114, s_.2.2.2.2.2.2.2.1), (117, s_.2.2.2.2.2.2.2.2.2.1)]) (fun s_ w' => Below w7.heap.size w7 w' ∧ RB w' w7.heap.size s_.1 0 s_.2.2.1 (([] : List Int) ++ b1) ∧ RB w' w7.heap.size s_.1 2 s_.2.2.2.2.2.2.2.1 ([] : List Int) ∧ RB w' w7.heap.size s_.1 3 s_.2.2.2.2.2.2.2.2.2.1 ([0] : List Int)) ?_ ?_
   ·rintro ⟨f, s4, s8, s10, s14, g, s19, s20, s22, s23, s24⟩ W ⟨HB, H1, H3, H4⟩
    try dsimp only at *
    refine norm_ (a' := ?_) ?_ ?_
    rotate_left
    ·show putAll _ _ = _
     (first | (simp only [putAll, Act.put, List.setIfInBounds_toArray, List.set_cons_zero, List.set_cons_succ, i64_w, i32_w]; done) | (simp only [putAll, Act.put, List.setIfInBounds_toArray, List.set_cons_zero, List.set_cons_succ, i64_w, i32_w]; rfl))
    refine two_ (i := 10) (j := 16) (Ni := some 104) (Nj := some 110) (bb 27 11845631) (bb 27 11910143) rfl rfl rfl rfl (two_of HT_.out (by kernel_rfl)) (by decide) (by decide) (fun K hK => ?_) (fun K hK => ?_)
    ·refine appB (w0 := w7) (base := w7.heap.size) (xs := (([] : List Int) ++ b1)) (ys := l7) (A := A7) (c := c7) (by rfl) (.tmp 102) (.tmp 103) rfl rfl rfl H1 (Kd.C_below S7.out HB) HB HB.size ?aL ?_
     (case aL => have := HLEN.out; have := HFEW.out; simp only [List.length_append, List.length_nil, List.length_cons]; omega)
     intro s W1 ho HB1 hg
     refine hK.out _ _ ⟨trivial, trivial⟩ (fun hHeld => ?_)
     clear hK K
     refine nm ?_
     have hN := ST11100001010 ((ow f W.heap.size 0), s4, s8, s, undef, 0, undef, s20, undef, s23, undef) W1 ⟨HB1, ho, (rb_app H3 H1 (by decide) hg 0), (rb_app H4 H1 (by decide) hg 0)⟩
     refine norm_ ?_ hN
     show _ = putAll _ _
     (first | (simp only [putAll, Act.put, List.setIfInBounds_toArray, List.set_cons_zero, List.set_cons_succ, i64_w, i32_w]; done) | (simp only [putAll, Act.put, List.setIfInBounds_toArray, List.set_cons_zero, List.set_cons_succ, i64_w, i32_w]; rfl))
    ·refine event_step (by rfl) (v := .slice (some ⟨W.heap.size, 0, none⟩) 4 4) (w1 := W.alloc (.cells (([67, 85, 66, 49] : List Int).map (Value.int .u8)).toArray 5)) (by first | (go_simp; done) | (go_simp; rfl)) ?_
     have hcb := cb_new W f 1 ([67, 85, 66, 49] : List Int)
     have hb : Below W.heap.size W (W.alloc (.cells (([67, 85, 66, 49] : List Int).map (Value.int .u8)).toArray 5)) := below_alloc (Below.refl _ _) _
     generalize W.alloc (.cells (([67, 85, 66, 49] : List Int).map (Value.int .u8)).toArray 5) = W1 at *
     have HB1 := below_step HB hb
     refine hK.out _ _ ⟨trivial, trivial⟩ (fun hHeld => ?_)
     clear hK K
     refine nm ?_
     have hN := ST11001001010 ((ow f W.heap.size 1), s4, s8, undef, undef, W.heap.size, undef, s20, undef, s23, undef) W1 ⟨HB1, (rb_fresh H1 hb 1), ⟨hcb, HB.size⟩, (rb_fresh H3 hb 1), (rb_fresh H4 hb 1)⟩
     refine norm_ ?_ hN
     show _ = putAll _ _
     (first | (simp only [putAll, Act.put, List.setIfInBounds_toArray, List.set_cons_zero, List.set_cons_succ, i64_w, i32_w]; done) | (simp only [putAll, Act.put, List.setIfInBounds_toArray, List.set_cons_zero, List.set_cons_succ, i64_w, i32_w]; rfl))
   intro ST11000001010
   refine join_ (σ := (Nat → Nat) × (Value) × (Value) × (Value) × (Value) × (Nat) × (Value) × (Value) × (Value) × (Value) × (Value)) 9 (bb 27 10861567) (fun s_ => [(98, s_.2.1), (102, s_.2.2.1), (110, (.slice (some ⟨s_.2.2.2.2.2.1, 0, none⟩) 4 4)), (117, s_.2.2.2.2.2.2.2.2.2.1)]) (fun s_ w' => Below w7.heap.size w7 w' ∧ RB w' w7.heap.size s_.1 0 s_.2.2.1 (([] : List Int) ++ b1) ∧ (CB w' s_.1 1 s_.2.2.2.2.2.1 ([67, 85, 66, 49] : List Int) (0, 0) ∧ w7.heap.size ≤ s_.2.2.2.2.2.1) ∧ RB w' w7.heap.size s_.1 3 s_.2.2.2.2.2.2.2.2.2.1 ([0] : List Int)) ?_ ?_
   ·rintro ⟨f, s4, s8, s10, s14, g, s19, s20, s22, s23, s24⟩ W ⟨HB, H1, H2, H4⟩
    try dsimp only at *
    refine norm_ (a' := ?_) ?_ ?_
    rotate_left
    ·show putAll _ _ = _
     (first | (simp only [putAll, Act.put, List.setIfInBounds_toArray, List.set_cons_zero, List.set_cons_succ, i64_w, i32_w]; done) | (simp only [putAll, Act.put, List.setIfInBounds_toArray, List.set_cons_zero, List.set_cons_succ, i64_w, i32_w]; rfl))
    refine three_ (i := 10) (j := 17) (k := 20) (Ni := some 104) (Nj := some 111) (Nk := some 114) (bb 27 10862591) (bb 27 10992639) (bb 27 11910143) rfl rfl rfl rfl rfl rfl (three_of HT_.out (by kernel_rfl)) (by decide) (by decide) (by decide) (fun K hK => ?_) (fun K hK => ?_) (fun K hK => ?_)
    ·refine appB (w0 := w7) (base := w7.heap.size) (xs := (([] : List Int) ++ b1)) (ys := l7) (A := A7) (c := c7) (by rfl) (.tmp 102) (.tmp 103) rfl rfl rfl H1 (Kd.C_below S7.out HB) HB HB.size ?aL ?_
     (case aL => have := HLEN.out; have := HFEW.out; simp only [List.length_append, List.length_nil, List.length_cons]; omega)
     intro s W1 ho HB1 hg
     refine hK.out _ _ ⟨trivial, trivial⟩ (fun hHeld => ?_)
     clear hK K
     refine nm ?_
     have hN := ST11101000010 ((ow f W.heap.size 0), s4, s8, s, undef, g, undef, undef, undef, s23, undef) W1 ⟨HB1, ho, ⟨cb_app H2.1 H1 (by decide) hg 0, H2.2⟩, (rb_app H4 H1 (by decide) hg 0)⟩
     refine norm_ ?_ hN
     show _ = putAll _ _
     (first | (simp only [putAll, Act.put, List.setIfInBounds_toArray, List.set_cons_zero, List.set_cons_succ, i64_w, i32_w]; done) | (simp only [putAll, Act.put, List.setIfInBounds_toArray, List.set_cons_zero, List.set_cons_succ, i64_w, i32_w]; rfl))
    ·refine cvtB (by rfl) (.tmp 110) 4 rfl rfl H2.1 ?_
     intro W1 hC1 hoth hsz hos
     have HB1 := cvt_below HB H2.2 hoth hsz hos
     refine hK.out _ _ ⟨trivial, trivial⟩ (fun hHeld => ?_)
     clear hK K
     refine nm ?_
     have hN := ST11001100010 (f, s4, s8, undef, undef, g, undef, undef, undef, s23, undef) W1 ⟨HB1, (cvt_row H1 H2.1.2 (by decide) hoth), ⟨hC1, H2.2⟩, (cvt_row H4 H2.1.2 (by decide) hoth)⟩
     refine norm_ ?_ hN
     show _ = putAll _ _
     (first | (simp only [putAll, Act.put, List.setIfInBounds_toArray, List.set_cons_zero, List.set_cons_succ, i64_w, i32_w]; done) | (simp only [putAll, Act.put, List.setIfInBounds_toArray, List.set_cons_zero, List.set_cons_succ, i64_w, i32_w]; rfl))
    ·refine litB (by rfl) rfl (xs := ([] : List Int)) (by first | (go_simp; done) | (go_simp; rfl)) (by simp) ?_
     intro s W1 ho hb
     have HB1 := below_step HB hb
     refine hK.out _ _ ⟨trivial, trivial⟩ (fun hHeld => ?_)
     clear hK K
     refine nm ?_
     have hN := ST11001001010 ((ow f W.heap.size 2), s4, s8, undef, undef, g, undef, s, undef, s23, undef) W1 ⟨HB1, (rb_fresh H1 hb 2), ⟨cb_fresh H2.1 hb 2, H2.2⟩, (rb_lit f ho HB.size 2), (rb_fresh H4 hb 2)⟩
     refine norm_ ?_ hN
     show _ = putAll _ _
     (first | (simp only [putAll, Act.put, List.setIfInBounds_toArray, List.set_cons_zero, List.set_cons_succ, i64_w, i32_w]; done) | (simp only [putAll, Act.put, List.setIfInBounds_toArray, List.set_cons_zero, List.set_cons_succ, i64_w, i32_w]; rfl))
   intro ST11001000010
   refine join_ (σ := (Nat → Nat) × (Value) × (Value) × (Value) × (Value) × (Nat) × (Value) × (Value) × (Value) × (Value) × (Value)) 9 (bb 27 3521535) (fun s_ => [(98, s_.2.1), (102, s_.2.2.1), (110, (.slice (some ⟨s_.2.2.2.2.2.1, 0, none⟩) 4 4)), (114, s_.2.2.2.2.2.2.2.1)]) (fun s_ w' => Below w7.heap.size w7 w' ∧ RB w' w7.heap.size s_.1 0 s_.2.2.1 (([] : List Int) ++ b1) ∧ (CB w' s_.1 1 s_.2.2.2.2.2.1 ([67, 85, 66, 49] : List Int) (0, 0) ∧ w7.heap.size ≤ s_.2.2.2.2.2.1) ∧ RB w' w7.heap.size s_.1 2 s_.2.2.2.2.2.2.2.1 ([] : List Int)) ?_ ?_
   ·rintro ⟨f, s4, s8, s10, s14, g, s19, s20, s22, s23, s24⟩ W ⟨HB, H1, H2, H3⟩
    try dsimp only at *
    refine norm_ (a' := ?_) ?_ ?_
    rotate_left
    ·show putAll _ _ = _
     (first | (simp only [putAll, Act.put, List.setIfInBounds_toArray, List.set_cons_zero, List.set_cons_succ, i64_w, i32_w]; done) | (simp only [putAll, Act.put, List.setIfInBounds_toArray, List.set_cons_zero, List.set_cons_succ, i64_w, i32_w]; rfl))
    refine three_ (i := 10) (j := 17) (k := 23) (Ni := some 104) (Nj := some 111) (Nk := some 117) (bb 27 3522559) (bb 27 3652607) (bb 27 11910143) rfl rfl rfl rfl rfl rfl (three_of HT_.out (by kernel_rfl)) (by decide) (by decide) (by decide) (fun K hK => ?_) (fun K hK => ?_) (fun K hK => ?_)
    ·refine appB (w0 := w7) (base := w7.heap.size) (xs := (([] : List Int) ++ b1)) (ys := l7) (A := A7) (c := c7) (by rfl) (.tmp 102) (.tmp 103) rfl rfl rfl H1 (Kd.C_below S7.out HB) HB HB.size ?aL ?_
     (case aL => have := HLEN.out; have := HFEW.out; simp only [List.length_append, List.length_nil, List.length_cons]; omega)
     intro s W1 ho HB1 hg
     refine hK.out _ _ ⟨trivial, trivial⟩ (fun hHeld => ?_)
     clear hK K
     refine nm ?_
     have hN := ST11101001000 ((ow f W.heap.size 0), s4, s8, s, undef, g, undef, s20, undef, undef, undef) W1 ⟨HB1, ho, ⟨cb_app H2.1 H1 (by decide) hg 0, H2.2⟩, (rb_app H3 H1 (by decide) hg 0)⟩
     refine norm_ ?_ hN
     show _ = putAll _ _
     (first | (simp only [putAll, Act.put, List.setIfInBounds_toArray, List.set_cons_zero, List.set_cons_succ, i64_w, i32_w]; done) | (simp only [putAll, Act.put, List.setIfInBounds_toArray, List.set_cons_zero, List.set_cons_succ, i64_w, i32_w]; rfl))
    ·refine cvtB (by rfl) (.tmp 110) 4 rfl rfl H2.1 ?_
     intro W1 hC1 hoth hsz hos
     have HB1 := cvt_below HB H2.2 hoth hsz hos
     refine hK.out _ _ ⟨trivial, trivial⟩ (fun hHeld => ?_)
     clear hK K
     refine nm ?_
     have hN := ST11001101000 (f, s4, s8, undef, undef, g, undef, s20, undef, undef, undef) W1 ⟨HB1, (cvt_row H1 H2.1.2 (by decide) hoth), ⟨hC1, H2.2⟩, (cvt_row H3 H2.1.2 (by decide) hoth)⟩
     refine norm_ ?_ hN
     show _ = putAll _ _
     (first | (simp only [putAll, Act.put, List.setIfInBounds_toArray, List.set_cons_zero, List.set_cons_succ, i64_w, i32_w]; done) | (simp only [putAll, Act.put, List.setIfInBounds_toArray, List.set_cons_zero, List.set_cons_succ, i64_w, i32_w]; rfl))
    ·refine litB (by rfl) rfl (xs := ([0] : List Int)) (by first | (go_simp; done) | (go_simp; rfl)) (by simp) ?_
     intro s W1 ho hb
     have HB1 := below_step HB hb
     refine hK.out _ _ ⟨trivial, trivial⟩ (fun hHeld => ?_)
     clear hK K
     refine nm ?_
     have hN := ST11001001010 ((ow f W.heap.size 3), s4, s8, undef, undef, g, undef, s20, undef, s, undef) W1 ⟨HB1, (rb_fresh H1 hb 3), ⟨cb_fresh H2.1 hb 3, H2.2⟩, (rb_fresh H3 hb 3), (rb_lit f ho HB.size 3)⟩
     refine norm_ ?_ hN
     show _ = putAll _ _
     (first | (simp only [putAll, Act.put, List.setIfInBounds_toArray, List.set_cons_zero, List.set_cons_succ, i64_w, i32_w]; done) | (simp only [putAll, Act.put, List.setIfInBounds_toArray, List.set_cons_zero, List.set_cons_succ, i64_w, i32_w]; rfl))
   intro ST11001001000
   refine join_ (σ := (Nat → Nat) × (Value) × (Value) × (Value) × (Value) × (Nat) × (Value) × (Value) × (Value) × (Value) × (Value)) 9 (bb 27 2604031) (fun s_ => [(98, s_.2.1), (102, s_.2.2.1), (110, (.slice (some ⟨s_.2.2.2.2.2.1, 0, none⟩) 4 4)), (111, (.slice (some ⟨s_.2.2.2.2.2.1, 0, none⟩) 4 4))]) (fun s_ w' => Below w7.heap.size w7 w' ∧ RB w' w7.heap.size s_.1 0 s_.2.2.1 (([] : List Int) ++ b1) ∧ (CB w' s_.1 1 s_.2.2.2.2.2.1 ([67, 85, 66, 49] : List Int) (4, 5) ∧ w7.heap.size ≤ s_.2.2.2.2.2.1)) ?_ ?_
   ·rintro ⟨f, s4, s8, s10, s14, g, s19, s20, s22, s23, s24⟩ W ⟨HB, H1, H2⟩
    try dsimp only at *
    refine norm_ (a' := ?_) ?_ ?_
    rotate_left
    ·show putAll _ _ = _
     (first | (simp only [putAll, Act.put, List.setIfInBounds_toArray, List.set_cons_zero, List.set_cons_succ, i64_w, i32_w]; done) | (simp only [putAll, Act.put, List.setIfInBounds_toArray, List.set_cons_zero, List.set_cons_succ, i64_w, i32_w]; rfl))
    refine three_ (i := 10) (j := 20) (k := 23) (Ni := some 104) (Nj := some 114) (Nk := some 117) (bb 27 2605055) (bb 27 3652607) (bb 27 10992639) rfl rfl rfl rfl rfl rfl (three_of HT_.out (by kernel_rfl)) (by decide) (by decide) (by decide) (fun K hK => ?_) (fun K hK => ?_) (fun K hK => ?_)
    ·refine appB (w0 := w7) (base := w7.heap.size) (xs := (([] : List Int) ++ b1)) (ys := l7) (A := A7) (c := c7) (by rfl) (.tmp 102) (.tmp 103) rfl rfl rfl H1 (Kd.C_below S7.out HB) HB HB.size ?aL ?_
     (case aL => have := HLEN.out; have := HFEW.out; simp only [List.length_append, List.length_nil, List.length_cons]; omega)
     intro s W1 ho HB1 hg
     refine hK.out _ _ ⟨trivial, trivial⟩ (fun hHeld => ?_)
     clear hK K
     refine nm ?_
     have hN := ST11101100000 ((ow f W.heap.size 0), s4, s8, s, undef, g, undef, undef, undef, undef, undef) W1 ⟨HB1, ho, ⟨cb_app H2.1 H1 (by decide) hg 0, H2.2⟩⟩
     refine norm_ ?_ hN
     show _ = putAll _ _
     (first | (simp only [putAll, Act.put, List.setIfInBounds_toArray, List.set_cons_zero, List.set_cons_succ, i64_w, i32_w]; done) | (simp only [putAll, Act.put, List.setIfInBounds_toArray, List.set_cons_zero, List.set_cons_succ, i64_w, i32_w]; rfl))
    ·refine litB (by rfl) rfl (xs := ([] : List Int)) (by first | (go_simp; done) | (go_simp; rfl)) (by simp) ?_
     intro s W1 ho hb
     have HB1 := below_step HB hb
     refine hK.out _ _ ⟨trivial, trivial⟩ (fun hHeld => ?_)
     clear hK K
     refine nm ?_
     have hN := ST11001101000 ((ow f W.heap.size 2), s4, s8, undef, undef, g, undef, s, undef, undef, undef) W1 ⟨HB1, (rb_fresh H1 hb 2), ⟨cb_fresh H2.1 hb 2, H2.2⟩, (rb_lit f ho HB.size 2)⟩
     refine norm_ ?_ hN
     show _ = putAll _ _
     (first | (simp only [putAll, Act.put, List.setIfInBounds_toArray, List.set_cons_zero, List.set_cons_succ, i64_w, i32_w]; done) | (simp only [putAll, Act.put, List.setIfInBounds_toArray, List.set_cons_zero, List.set_cons_succ, i64_w, i32_w]; rfl))
    ·refine litB (by rfl) rfl (xs := ([0] : List Int)) (by first | (go_simp; done) | (go_simp; rfl)) (by simp) ?_
     intro s W1 ho hb
     have HB1 := below_step HB hb
     refine hK.out _ _ ⟨trivial, trivial⟩ (fun hHeld => ?_)
     clear hK K
     refine nm ?_
     have hN := ST11001100010 ((ow f W.heap.size 3), s4, s8, undef, undef, g, undef, undef, undef, s, undef) W1 ⟨HB1, (rb_fresh H1 hb 3), ⟨cb_fresh H2.1 hb 3, H2.2⟩, (rb_lit f ho HB.size 3)⟩
     refine norm_ ?_ hN
     show _ = putAll _ _
     (first | (simp only [putAll, Act.put, List.setIfInBounds_toArray, List.set_cons_zero, List.set_cons_succ, i64_w, i32_w]; done) | (simp only [putAll, Act.put, List.setIfInBounds_toArray, List.set_cons_zero, List.set_cons_succ, i64_w, i32_w]; rfl))
   intro ST11001100000
   refine join_ (σ := (Nat → Nat) × (Value) × (Value) × (Value) × (Value) × (Nat) × (Value) × (Value) × (Value) × (Value) × (Value)) 9 (bb 27 10797055) (fun s_ => [(98, s_.2.1), (102, s_.2.2.1), (104, s_.2.2.2.1), (117, s_.2.2.2.2.2.2.2.2.2.1)]) (fun s_ w' => Below w7.heap.size w7 w' ∧ RB w' w7.heap.size s_.1 0 s_.2.2.2.1 ((([] : List Int) ++ b1) ++ l7) ∧ RB w' w7.heap.size s_.1 3 s_.2.2.2.2.2.2.2.2.2.1 ([0] : List Int)) ?_ ?_
   ·rintro ⟨f, s4, s8, s10, s14, g, s19, s20, s22, s23, s24⟩ W ⟨HB, H1, H4⟩
    try dsimp only at *
    refine norm_ (a' := ?_) ?_ ?_
    rotate_left
    ·show putAll _ _ = _
     (first | (simp only [putAll, Act.put, List.setIfInBounds_toArray, List.set_cons_zero, List.set_cons_succ, i64_w, i32_w]; done) | (simp only [putAll, Act.put, List.setIfInBounds_toArray, List.set_cons_zero, List.set_cons_succ, i64_w, i32_w]; rfl))
    refine three_ (i := 14) (j := 16) (k := 20) (Ni := some 108) (Nj := some 110) (Nk := some 114) (bb 27 10813439) (bb 27 10862591) (bb 27 11845631) rfl rfl rfl rfl rfl rfl (three_of HT_.out (by kernel_rfl)) (by decide) (by decide) (by decide) (fun K hK => ?_) (fun K hK => ?_) (fun K hK => ?_)
    ·refine appB (w0 := w7) (base := w7.heap.size) (xs := ((([] : List Int) ++ b1) ++ l7)) (ys := b2) (A := A2') (c := c2') (by rfl) (.tmp 104) (.tmp 107) rfl rfl rfl H1 (Kd.C_below S2.out HB) HB HB.size ?aL ?_
     (case aL => have := HLEN.out; have := HFEW.out; simp only [List.length_append, List.length_nil, List.length_cons]; omega)
     intro s W1 ho HB1 hg
     refine hK.out _ _ ⟨trivial, trivial⟩ (fun hHeld => ?_)
     clear hK K
     refine nm ?_
     have hN := ST11110000010 ((ow f W.heap.size 0), s4, s8, s10, s, 0, undef, undef, undef, s23, undef) W1 ⟨HB1, ho, (rb_app H4 H1 (by decide) hg 0)⟩
     refine norm_ ?_ hN
     show _ = putAll _ _
     (first | (simp only [putAll, Act.put, List.setIfInBounds_toArray, List.set_cons_zero, List.set_cons_succ, i64_w, i32_w]; done) | (simp only [putAll, Act.put, List.setIfInBounds_toArray, List.set_cons_zero, List.set_cons_succ, i64_w, i32_w]; rfl))
    ·refine event_step (by rfl) (v := .slice (some ⟨W.heap.size, 0, none⟩) 4 4) (w1 := W.alloc (.cells (([67, 85, 66, 49] : List Int).map (Value.int .u8)).toArray 5)) (by first | (go_simp; done) | (go_simp; rfl)) ?_
     have hcb := cb_new W f 1 ([67, 85, 66, 49] : List Int)
     have hb : Below W.heap.size W (W.alloc (.cells (([67, 85, 66, 49] : List Int).map (Value.int .u8)).toArray 5)) := below_alloc (Below.refl _ _) _
     generalize W.alloc (.cells (([67, 85, 66, 49] : List Int).map (Value.int .u8)).toArray 5) = W1 at *
     have HB1 := below_step HB hb
     refine hK.out _ _ ⟨trivial, trivial⟩ (fun hHeld => ?_)
     clear hK K
     refine nm ?_
     have hN := ST11101000010 ((ow f W.heap.size 1), s4, s8, s10, undef, W.heap.size, undef, undef, undef, s23, undef) W1 ⟨HB1, (rb_fresh H1 hb 1), ⟨hcb, HB.size⟩, (rb_fresh H4 hb 1)⟩
     refine norm_ ?_ hN
     show _ = putAll _ _
     (first | (simp only [putAll, Act.put, List.setIfInBounds_toArray, List.set_cons_zero, List.set_cons_succ, i64_w, i32_w]; done) | (simp only [putAll, Act.put, List.setIfInBounds_toArray, List.set_cons_zero, List.set_cons_succ, i64_w, i32_w]; rfl))
    ·refine litB (by rfl) rfl (xs := ([] : List Int)) (by first | (go_simp; done) | (go_simp; rfl)) (by simp) ?_
     intro s W1 ho hb
     have HB1 := below_step HB hb
     refine hK.out _ _ ⟨trivial, trivial⟩ (fun hHeld => ?_)
     clear hK K
     refine nm ?_
     have hN := ST11100001010 ((ow f W.heap.size 2), s4, s8, s10, undef, 0, undef, s, undef, s23, undef) W1 ⟨HB1, (rb_fresh H1 hb 2), (rb_lit f ho HB.size 2), (rb_fresh H4 hb 2)⟩
     refine norm_ ?_ hN
     show _ = putAll _ _
     (first | (simp only [putAll, Act.put, List.setIfInBounds_toArray, List.set_cons_zero, List.set_cons_succ, i64_w, i32_w]; done) | (simp only [putAll, Act.put, List.setIfInBounds_toArray, List.set_cons_zero, List.set_cons_succ, i64_w, i32_w]; rfl))
   intro ST11100000010
   refine join_ (σ := (Nat → Nat) × (Value) × (Value) × (Value) × (Value) × (Nat) × (Value) × (Value) × (Value) × (Value) × (Value)) 9 (bb 27 3457023) (fun s_ => [(98, s_.2.1), (102, s_.2.2.1), (104, s_.2.2.2.1), (114, s_.2.2.2.2.2.2.2.1)]) (fun s_ w' => Below w7.heap.size w7 w' ∧ RB w' w7.heap.size s_.1 0 s_.2.2.2.1 ((([] : List Int) ++ b1) ++ l7) ∧ RB w' w7.heap.size s_.1 2 s_.2.2.2.2.2.2.2.1 ([] : List Int)) ?_ ?_
   ·rintro ⟨f, s4, s8, s10, s14, g, s19, s20, s22, s23, s24⟩ W ⟨HB, H1, H3⟩
    try dsimp only at *
    refine norm_ (a' := ?_) ?_ ?_
    rotate_left
    ·show putAll _ _ = _
     (first | (simp only [putAll, Act.put, List.setIfInBounds_toArray, List.set_cons_zero, List.set_cons_succ, i64_w, i32_w]; done) | (simp only [putAll, Act.put, List.setIfInBounds_toArray, List.set_cons_zero, List.set_cons_succ, i64_w, i32_w]; rfl))
    refine three_ (i := 14) (j := 16) (k := 23) (Ni := some 108) (Nj := some 110) (Nk := some 117) (bb 27 3473407) (bb 27 3522559) (bb 27 11845631) rfl rfl rfl rfl rfl rfl (three_of HT_.out (by kernel_rfl)) (by decide) (by decide) (by decide) (fun K hK => ?_) (fun K hK => ?_) (fun K hK => ?_)
    ·refine appB (w0 := w7) (base := w7.heap.size) (xs := ((([] : List Int) ++ b1) ++ l7)) (ys := b2) (A := A2') (c := c2') (by rfl) (.tmp 104) (.tmp 107) rfl rfl rfl H1 (Kd.C_below S2.out HB) HB HB.size ?aL ?_
     (case aL => have := HLEN.out; have := HFEW.out; simp only [List.length_append, List.length_nil, List.length_cons]; omega)
     intro s W1 ho HB1 hg
     refine hK.out _ _ ⟨trivial, trivial⟩ (fun hHeld => ?_)
     clear hK K
     refine nm ?_
     have hN := ST11110001000 ((ow f W.heap.size 0), s4, s8, s10, s, 0, undef, s20, undef, undef, undef) W1 ⟨HB1, ho, (rb_app H3 H1 (by decide) hg 0)⟩
     refine norm_ ?_ hN
     show _ = putAll _ _
     (first | (simp only [putAll, Act.put, List.setIfInBounds_toArray, List.set_cons_zero, List.set_cons_succ, i64_w, i32_w]; done) | (simp only [putAll, Act.put, List.setIfInBounds_toArray, List.set_cons_zero, List.set_cons_succ, i64_w, i32_w]; rfl))
    ·refine event_step (by rfl) (v := .slice (some ⟨W.heap.size, 0, none⟩) 4 4) (w1 := W.alloc (.cells (([67, 85, 66, 49] : List Int).map (Value.int .u8)).toArray 5)) (by first | (go_simp; done) | (go_simp; rfl)) ?_
     have hcb := cb_new W f 1 ([67, 85, 66, 49] : List Int)
     have hb : Below W.heap.size W (W.alloc (.cells (([67, 85, 66, 49] : List Int).map (Value.int .u8)).toArray 5)) := below_alloc (Below.refl _ _) _
     generalize W.alloc (.cells (([67, 85, 66, 49] : List Int).map (Value.int .u8)).toArray 5) = W1 at *
     have HB1 := below_step HB hb
     refine hK.out _ _ ⟨trivial, trivial⟩ (fun hHeld => ?_)
     clear hK K
     refine nm ?_
     have hN := ST11101001000 ((ow f W.heap.size 1), s4, s8, s10, undef, W.heap.size, undef, s20, undef, undef, undef) W1 ⟨HB1, (rb_fresh H1 hb 1), ⟨hcb, HB.size⟩, (rb_fresh H3 hb 1)⟩
     refine norm_ ?_ hN
     show _ = putAll _ _
     (first | (simp only [putAll, Act.put, List.setIfInBounds_toArray, List.set_cons_zero, List.set_cons_succ, i64_w, i32_w]; done) | (simp only [putAll, Act.put, List.setIfInBounds_toArray, List.set_cons_zero, List.set_cons_succ, i64_w, i32_w]; rfl))
    ·refine litB (by rfl) rfl (xs := ([0] : List Int)) (by first | (go_simp; done) | (go_simp; rfl)) (by simp) ?_
     intro s W1 ho hb
     have HB1 := below_step HB hb
     refine hK.out _ _ ⟨trivial, trivial⟩ (fun hHeld => ?_)
     clear hK K
     refine nm ?_
     have hN := ST11100001010 ((ow f W.heap.size 3), s4, s8, s10, undef, 0, undef, s20, undef, s, undef) W1 ⟨HB1, (rb_fresh H1 hb 3), (rb_fresh H3 hb 3), (rb_lit f ho HB.size 3)⟩
     refine norm_ ?_ hN
     show _ = putAll _ _
     (first | (simp only [putAll, Act.put, List.setIfInBounds_toArray, List.set_cons_zero, List.set_cons_succ, i64_w, i32_w]; done) | (simp only [putAll, Act.put, List.setIfInBounds_toArray, List.set_cons_zero, List.set_cons_succ, i64_w, i32_w]; rfl))
   intro ST11100001000
   refine join_ (σ := (Nat → Nat) × (Value) × (Value) × (Value) × (Value) × (Nat) × (Value) × (Value) × (Value) × (Value) × (Value)) 9 (bb 27 2473983) (fun s_ => [(98, s_.2.1), (102, s_.2.2.1), (104, s_.2.2.2.1), (110, (.slice (some ⟨s_.2.2.2.2.2.1, 0, none⟩) 4 4))]) (fun s_ w' => Below w7.heap.size w7 w' ∧ RB w' w7.heap.size s_.1 0 s_.2.2.2.1 ((([] : List Int) ++ b1) ++ l7) ∧ (CB w' s_.1 1 s_.2.2.2.2.2.1 ([67, 85, 66, 49] : List Int) (0, 0) ∧ w7.heap.size ≤ s_.2.2.2.2.2.1)) ?_ ?_
   ·rintro ⟨f, s4, s8, s10, s14, g, s19, s20, s22, s23, s24⟩ W ⟨HB, H1, H2⟩
    try dsimp only at *
    refine norm_ (a' := ?_) ?_ ?_
    rotate_left
    ·show putAll _ _ = _
     (first | (simp only [putAll, Act.put, List.setIfInBounds_toArray, List.set_cons_zero, List.set_cons_succ, i64_w, i32_w]; done) | (simp only [putAll, Act.put, List.setIfInBounds_toArray, List.set_cons_zero, List.set_cons_succ, i64_w, i32_w]; rfl))
    refine four_ (i := 14) (j := 17) (k := 20) (m := 23) (Ni := some 108) (Nj := some 111) (Nk := some 114) (Nm := some 117) (bb 27 2490367) (bb 27 2605055) (bb 27 3522559) (bb 27 10862591) rfl rfl rfl rfl rfl rfl rfl rfl (four_of HT_.out (by kernel_rfl)) (by decide) (by decide) (by decide) (by decide) (fun K hK => ?_) (fun K hK => ?_) (fun K hK => ?_) (fun K hK => ?_)
    ·refine appB (w0 := w7) (base := w7.heap.size) (xs := ((([] : List Int) ++ b1) ++ l7)) (ys := b2) (A := A2') (c := c2') (by rfl) (.tmp 104) (.tmp 107) rfl rfl rfl H1 (Kd.C_below S2.out HB) HB HB.size ?aL ?_
     (case aL => have := HLEN.out; have := HFEW.out; simp only [List.length_append, List.length_nil, List.length_cons]; omega)
     intro s W1 ho HB1 hg
     refine hK.out _ _ ⟨trivial, trivial⟩ (fun hHeld => ?_)
     clear hK K
     refine nm ?_
     have hN := ST11111000000 ((ow f W.heap.size 0), s4, s8, s10, s, g, undef, undef, undef, undef, undef) W1 ⟨HB1, ho, ⟨cb_app H2.1 H1 (by decide) hg 0, H2.2⟩⟩
     refine norm_ ?_ hN
     show _ = putAll _ _
     (first | (simp only [putAll, Act.put, List.setIfInBounds_toArray, List.set_cons_zero, List.set_cons_succ, i64_w, i32_w]; done) | (simp only [putAll, Act.put, List.setIfInBounds_toArray, List.set_cons_zero, List.set_cons_succ, i64_w, i32_w]; rfl))
    ·refine cvtB (by rfl) (.tmp 110) 4 rfl rfl H2.1 ?_
     intro W1 hC1 hoth hsz hos
     have HB1 := cvt_below HB H2.2 hoth hsz hos
     refine hK.out _ _ ⟨trivial, trivial⟩ (fun hHeld => ?_)
     clear hK K
     refine nm ?_
     have hN := ST11101100000 (f, s4, s8, s10, undef, g, undef, undef, undef, undef, undef) W1 ⟨HB1, (cvt_row H1 H2.1.2 (by decide) hoth), ⟨hC1, H2.2⟩⟩
     refine norm_ ?_ hN
     show _ = putAll _ _
     (first | (simp only [putAll, Act.put, List.setIfInBounds_toArray, List.set_cons_zero, List.set_cons_succ, i64_w, i32_w]; done) | (simp only [putAll, Act.put, List.setIfInBounds_toArray, List.set_cons_zero, List.set_cons_succ, i64_w, i32_w]; rfl))
    ·refine litB (by rfl) rfl (xs := ([] : List Int)) (by first | (go_simp; done) | (go_simp; rfl)) (by simp) ?_
     intro s W1 ho hb
     have HB1 := below_step HB hb
     refine hK.out _ _ ⟨trivial, trivial⟩ (fun hHeld => ?_)
     clear hK K
     refine nm ?_
     have hN := ST11101001000 ((ow f W.heap.size 2), s4, s8, s10, undef, g, undef, s, undef, undef, undef) W1 ⟨HB1, (rb_fresh H1 hb 2), ⟨cb_fresh H2.1 hb 2, H2.2⟩, (rb_lit f ho HB.size 2)⟩
     refine norm_ ?_ hN
     show _ = putAll _ _
     (first | (simp only [putAll, Act.put, List.setIfInBounds_toArray, List.set_cons_zero, List.set_cons_succ, i64_w, i32_w]; done) | (simp only [putAll, Act.put, List.setIfInBounds_toArray, List.set_cons_zero, List.set_cons_succ, i64_w, i32_w]; rfl))
    ·refine litB (by rfl) rfl (xs := ([0] : List Int)) (by first | (go_simp; done) | (go_simp; rfl)) (by simp) ?_
     intro s W1 ho hb
     have HB1 := below_step HB hb
     refine hK.out _ _ ⟨trivial, trivial⟩ (fun hHeld => ?_)
     clear hK K
     refine nm ?_
     have hN := ST11101000010 ((ow f W.heap.size 3), s4, s8, s10, undef, g, undef, undef, undef, s, undef) W1 ⟨HB1, (rb_fresh H1 hb 3), ⟨cb_fresh H2.1 hb 3, H2.2⟩, (rb_lit f ho HB.size 3)⟩
     refine norm_ ?_ hN
     show _ = putAll _ _
     (first | (simp only [putAll, Act.put, List.setIfInBounds_toArray, List.set_cons_zero, List.set_cons_succ, i64_w, i32_w]; done) | (simp only [putAll, Act.put, List.setIfInBounds_toArray, List.set_cons_zero, List.set_cons_succ, i64_w, i32_w]; rfl))
   intro ST11101000000
   refine join_ (σ := (Nat → Nat) × (Value) × (Value) × (Value) × (Value) × (Nat) × (Value) × (Value) × (Value) × (Value) × (Value)) 9 (bb 27 2424831) (fun s_ => [(98, s_.2.1), (102, s_.2.2.1), (104, s_.2.2.2.1), (108, s_.2.2.2.2.1)]) (fun s_ w' => Below w7.heap.size w7 w' ∧ RB w' w7.heap.size s_.1 0 s_.2.2.2.2.1 (((([] : List Int) ++ b1) ++ l7) ++ b2)) ?_ ?_
   ·rintro ⟨f, s4, s8, s10, s14, g, s19, s20, s22, s23, s24⟩ W ⟨HB, H1⟩
    try dsimp only at *
    refine norm_ (a' := ?_) ?_ ?_
    rotate_left
    ·show putAll _ _ = _
     (first | (simp only [putAll, Act.put, List.setIfInBounds_toArray, List.set_cons_zero, List.set_cons_succ, i64_w, i32_w]; done) | (simp only [putAll, Act.put, List.setIfInBounds_toArray, List.set_cons_zero, List.set_cons_succ, i64_w, i32_w]; rfl))
    refine three_ (i := 16) (j := 20) (k := 23) (Ni := some 110) (Nj := some 114) (Nk := some 117) (bb 27 2490367) (bb 27 3473407) (bb 27 10813439) rfl rfl rfl rfl rfl rfl (three_of HT_.out (by kernel_rfl)) (by decide) (by decide) (by decide) (fun K hK => ?_) (fun K hK => ?_) (fun K hK => ?_)
    ·refine event_step (by rfl) (v := .slice (some ⟨W.heap.size, 0, none⟩) 4 4) (w1 := W.alloc (.cells (([67, 85, 66, 49] : List Int).map (Value.int .u8)).toArray 5)) (by first | (go_simp; done) | (go_simp; rfl)) ?_
     have hcb := cb_new W f 1 ([67, 85, 66, 49] : List Int)
     have hb : Below W.heap.size W (W.alloc (.cells (([67, 85, 66, 49] : List Int).map (Value.int .u8)).toArray 5)) := below_alloc (Below.refl _ _) _
     generalize W.alloc (.cells (([67, 85, 66, 49] : List Int).map (Value.int .u8)).toArray 5) = W1 at *
     have HB1 := below_step HB hb
     refine hK.out _ _ ⟨trivial, trivial⟩ (fun hHeld => ?_)
     clear hK K
     refine nm ?_
     have hN := ST11111000000 ((ow f W.heap.size 1), s4, s8, s10, s14, W.heap.size, undef, undef, undef, undef, undef) W1 ⟨HB1, (rb_fresh H1 hb 1), ⟨hcb, HB.size⟩⟩
     refine norm_ ?_ hN
     show _ = putAll _ _
     (first | (simp only [putAll, Act.put, List.setIfInBounds_toArray, List.set_cons_zero, List.set_cons_succ, i64_w, i32_w]; done) | (simp only [putAll, Act.put, List.setIfInBounds_toArray, List.set_cons_zero, List.set_cons_succ, i64_w, i32_w]; rfl))
    ·refine litB (by rfl) rfl (xs := ([] : List Int)) (by first | (go_simp; done) | (go_simp; rfl)) (by simp) ?_
     intro s W1 ho hb
     have HB1 := below_step HB hb
     refine hK.out _ _ ⟨trivial, trivial⟩ (fun hHeld => ?_)
     clear hK K
     refine nm ?_
     have hN := ST11110001000 ((ow f W.heap.size 2), s4, s8, s10, s14, 0, undef, s, undef, undef, undef) W1 ⟨HB1, (rb_fresh H1 hb 2), (rb_lit f ho HB.size 2)⟩
     refine norm_ ?_ hN
     show _ = putAll _ _
     (first | (simp only [putAll, Act.put, List.setIfInBounds_toArray, List.set_cons_zero, List.set_cons_succ, i64_w, i32_w]; done) | (simp only [putAll, Act.put, List.setIfInBounds_toArray, List.set_cons_zero, List.set_cons_succ, i64_w, i32_w]; rfl))
    ·refine litB (by rfl) rfl (xs := ([0] : List Int)) (by first | (go_simp; done) | (go_simp; rfl)) (by simp) ?_
     intro s W1 ho hb
     have HB1 := below_step HB hb
     refine hK.out _ _ ⟨trivial, trivial⟩ (fun hHeld => ?_)
     clear hK K
     refine nm ?_
     have hN := ST11110000010 ((ow f W.heap.size 3), s4, s8, s10, s14, 0, undef, undef, undef, s, undef) W1 ⟨HB1, (rb_fresh H1 hb 3), (rb_lit f ho HB.size 3)⟩
     refine norm_ ?_ hN
     show _ = putAll _ _
     (first | (simp only [putAll, Act.put, List.setIfInBounds_toArray, List.set_cons_zero, List.set_cons_succ, i64_w, i32_w]; done) | (simp only [putAll, Act.put, List.setIfInBounds_toArray, List.set_cons_zero, List.set_cons_succ, i64_w, i32_w]; rfl))
   intro ST11110000000
   refine join_ (σ := (Nat → Nat) × (Value) × (Value) × (Value) × (Value) × (Nat) × (Value) × (Value) × (Value) × (Value) × (Value)) 10 (bb 27 11909871) (fun s_ => [(110, (.slice (some ⟨s_.2.2.2.2.2.1, 0, none⟩) 4 4)), (114, s_.2.2.2.2.2.2.2.1), (117, s_.2.2.2.2.2.2.2.2.2.1)]) (fun s_ w' => Below w7.heap.size w7 w' ∧ (CB w' s_.1 1 s_.2.2.2.2.2.1 ([67, 85, 66, 49] : List Int) (0, 0) ∧ w7.heap.size ≤ s_.2.2.2.2.2.1) ∧ RB w' w7.heap.size s_.1 2 s_.2.2.2.2.2.2.2.1 ([] : List Int) ∧ RB w' w7.heap.size s_.1 3 s_.2.2.2.2.2.2.2.2.2.1 ([0] : List Int)) ?_ ?_
   ·rintro ⟨f, s4, s8, s10, s14, g, s19, s20, s22, s23, s24⟩ W ⟨HB, H2, H3, H4⟩
    try dsimp only at *
    refine norm_ (a' := ?_) ?_ ?_
    rotate_left
    ·show putAll _ _ = _
     (first | (simp only [putAll, Act.put, List.setIfInBounds_toArray, List.set_cons_zero, List.set_cons_succ, i64_w, i32_w]; done) | (simp only [putAll, Act.put, List.setIfInBounds_toArray, List.set_cons_zero, List.set_cons_succ, i64_w, i32_w]; rfl))
    refine two_ (i := 4) (j := 17) (Ni := some 98) (Nj := some 111) (bb 27 11909887) (bb 27 12040943) rfl rfl rfl rfl (two_of HT_.out (by kernel_rfl)) (by decide) (by decide) (fun K hK => ?_) (fun K hK => ?_)
    ·refine litB (by rfl) rfl (xs := ([] : List Int)) (by first | (go_simp; done) | (go_simp; rfl)) (by simp) ?_
     intro s W1 ho hb
     have HB1 := below_step HB hb
     refine hK.out _ _ ⟨trivial, trivial⟩ (fun hHeld => ?_)
     clear hK K
     refine nm ?_
     have hN := ST10001001010 ((ow f W.heap.size 0), s, undef, undef, undef, g, undef, s20, undef, s23, undef) W1 ⟨HB1, (rb_lit f ho HB.size 0), ⟨cb_fresh H2.1 hb 0, H2.2⟩, (rb_fresh H3 hb 0), (rb_fresh H4 hb 0)⟩
     refine norm_ ?_ hN
     show _ = putAll _ _
     (first | (simp only [putAll, Act.put, List.setIfInBounds_toArray, List.set_cons_zero, List.set_cons_succ, i64_w, i32_w]; done) | (simp only [putAll, Act.put, List.setIfInBounds_toArray, List.set_cons_zero, List.set_cons_succ, i64_w, i32_w]; rfl))
    ·refine cvtB (by rfl) (.tmp 110) 4 rfl rfl H2.1 ?_
     intro W1 hC1 hoth hsz hos
     have HB1 := cvt_below HB H2.2 hoth hsz hos
     refine hK.out _ _ ⟨trivial, trivial⟩ (fun hHeld => ?_)
     clear hK K
     refine nm ?_
     have hN := ST00001101010 (f, undef, undef, undef, undef, g, undef, s20, undef, s23, undef) W1 ⟨HB1, ⟨hC1, H2.2⟩, (cvt_row H3 H2.1.2 (by decide) hoth), (cvt_row H4 H2.1.2 (by decide) hoth)⟩
     refine norm_ ?_ hN
     show _ = putAll _ _
     (first | (simp only [putAll, Act.put, List.setIfInBounds_toArray, List.set_cons_zero, List.set_cons_succ, i64_w, i32_w]; done) | (simp only [putAll, Act.put, List.setIfInBounds_toArray, List.set_cons_zero, List.set_cons_succ, i64_w, i32_w]; rfl))
   intro ST00001001010
   refine join_ (σ := (Nat → Nat) × (Value) × (Value) × (Value) × (Value) × (Nat) × (Value) × (Value) × (Value) × (Value) × (Value)) 10 (bb 27 10992367) (fun s_ => [(110, (.slice (some ⟨s_.2.2.2.2.2.1, 0, none⟩) 4 4)), (111, (.slice (some ⟨s_.2.2.2.2.2.1, 0, none⟩) 4 4)), (117, s_.2.2.2.2.2.2.2.2.2.1)]) (fun s_ w' => Below w7.heap.size w7 w' ∧ (CB w' s_.1 1 s_.2.2.2.2.2.1 ([67, 85, 66, 49] : List Int) (4, 5) ∧ w7.heap.size ≤ s_.2.2.2.2.2.1) ∧ RB w' w7.heap.size s_.1 3 s_.2.2.2.2.2.2.2.2.2.1 ([0] : List Int)) ?_ ?_
   ·rintro ⟨f, s4, s8, s10, s14, g, s19, s20, s22, s23, s24⟩ W ⟨HB, H2, H4⟩
    try dsimp only at *
    refine norm_ (a' := ?_) ?_ ?_
    rotate_left
    ·show putAll _ _ = _
     (first | (simp only [putAll, Act.put, List.setIfInBounds_toArray, List.set_cons_zero, List.set_cons_succ, i64_w, i32_w]; done) | (simp only [putAll, Act.put, List.setIfInBounds_toArray, List.set_cons_zero, List.set_cons_succ, i64_w, i32_w]; rfl))
    refine two_ (i := 4) (j := 20) (Ni := some 98) (Nj := some 114) (bb 27 10992383) (bb 27 12040943) rfl rfl rfl rfl (two_of HT_.out (by kernel_rfl)) (by decide) (by decide) (fun K hK => ?_) (fun K hK => ?_)
    ·refine litB (by rfl) rfl (xs := ([] : List Int)) (by first | (go_simp; done) | (go_simp; rfl)) (by simp) ?_
     intro s W1 ho hb
     have HB1 := below_step HB hb
     refine hK.out _ _ ⟨trivial, trivial⟩ (fun hHeld => ?_)
     clear hK K
     refine nm ?_
     have hN := ST10001100010 ((ow f W.heap.size 0), s, undef, undef, undef, g, undef, undef, undef, s23, undef) W1 ⟨HB1, (rb_lit f ho HB.size 0), ⟨cb_fresh H2.1 hb 0, H2.2⟩, (rb_fresh H4 hb 0)⟩
     refine norm_ ?_ hN
     show _ = putAll _ _
     (first | (simp only [putAll, Act.put, List.setIfInBounds_toArray, List.set_cons_zero, List.set_cons_succ, i64_w, i32_w]; done) | (simp only [putAll, Act.put, List.setIfInBounds_toArray, List.set_cons_zero, List.set_cons_succ, i64_w, i32_w]; rfl))
    ·refine litB (by rfl) rfl (xs := ([] : List Int)) (by first | (go_simp; done) | (go_simp; rfl)) (by simp) ?_
     intro s W1 ho hb
     have HB1 := below_step HB hb
     refine hK.out _ _ ⟨trivial, trivial⟩ (fun hHeld => ?_)
     clear hK K
     refine nm ?_
     have hN := ST00001101010 ((ow f W.heap.size 2), undef, undef, undef, undef, g, undef, s, undef, s23, undef) W1 ⟨HB1, ⟨cb_fresh H2.1 hb 2, H2.2⟩, (rb_lit f ho HB.size 2), (rb_fresh H4 hb 2)⟩
     refine norm_ ?_ hN
     show _ = putAll _ _
     (first | (simp only [putAll, Act.put, List.setIfInBounds_toArray, List.set_cons_zero, List.set_cons_succ, i64_w, i32_w]; done) | (simp only [putAll, Act.put, List.setIfInBounds_toArray, List.set_cons_zero, List.set_cons_succ, i64_w, i32_w]; rfl))
   intro ST00001100010
   refine join_ (σ := (Nat → Nat) × (Value) × (Value) × (Value) × (Value) × (Nat) × (Value) × (Value) × (Value) × (Value) × (Value)) 10 (bb 27 3652335) (fun s_ => [(110, (.slice (some ⟨s_.2.2.2.2.2.1, 0, none⟩) 4 4)), (111, (.slice (some ⟨s_.2.2.2.2.2.1, 0, none⟩) 4 4)), (114, s_.2.2.2.2.2.2.2.1)]) (fun s_ w' => Below w7.heap.size w7 w' ∧ (CB w' s_.1 1 s_.2.2.2.2.2.1 ([67, 85, 66, 49] : List Int) (4, 5) ∧ w7.heap.size ≤ s_.2.2.2.2.2.1) ∧ RB w' w7.heap.size s_.1 2 s_.2.2.2.2.2.2.2.1 ([] : List Int)) ?_ ?_
   ·rintro ⟨f, s4, s8, s10, s14, g, s19, s20, s22, s23, s24⟩ W ⟨HB, H2, H3⟩
    try dsimp only at *
    refine norm_ (a' := ?_) ?_ ?_
    rotate_left
    ·show putAll _ _ = _
     (first | (simp only [putAll, Act.put, List.setIfInBounds_toArray, List.set_cons_zero, List.set_cons_succ, i64_w, i32_w]; done) | (simp only [putAll, Act.put, List.setIfInBounds_toArray, List.set_cons_zero, List.set_cons_succ, i64_w, i32_w]; rfl))
    refine two_ (i := 4) (j := 23) (Ni := some 98) (Nj := some 117) (bb 27 3652351) (bb 27 12040943) rfl rfl rfl rfl (two_of HT_.out (by kernel_rfl)) (by decide) (by decide) (fun K hK => ?_) (fun K hK => ?_)
    ·refine litB (by rfl) rfl (xs := ([] : List Int)) (by first | (go_simp; done) | (go_simp; rfl)) (by simp) ?_
     intro s W1 ho hb
     have HB1 := below_step HB hb
     refine hK.out _ _ ⟨trivial, trivial⟩ (fun hHeld => ?_)
     clear hK K
     refine nm ?_
     have hN := ST10001101000 ((ow f W.heap.size 0), s, undef, undef, undef, g, undef, s20, undef, undef, undef) W1 ⟨HB1, (rb_lit f ho HB.size 0), ⟨cb_fresh H2.1 hb 0, H2.2⟩, (rb_fresh H3 hb 0)⟩
     refine norm_ ?_ hN
     show _ = putAll _ _
     (first | (simp only [putAll, Act.put, List.setIfInBounds_toArray, List.set_cons_zero, List.set_cons_succ, i64_w, i32_w]; done) | (simp only [putAll, Act.put, List.setIfInBounds_toArray, List.set_cons_zero, List.set_cons_succ, i64_w, i32_w]; rfl))
    ·refine litB (by rfl) rfl (xs := ([0] : List Int)) (by first | (go_simp; done) | (go_simp; rfl)) (by simp) ?_
     intro s W1 ho hb
     have HB1 := below_step HB hb
     refine hK.out _ _ ⟨trivial, trivial⟩ (fun hHeld => ?_)
     clear hK K
     refine nm ?_
     have hN := ST00001101010 ((ow f W.heap.size 3), undef, undef, undef, undef, g, undef, s20, undef, s, undef) W1 ⟨HB1, ⟨cb_fresh H2.1 hb 3, H2.2⟩, (rb_fresh H3 hb 3), (rb_lit f ho HB.size 3)⟩
     refine norm_ ?_ hN
     show _ = putAll _ _
     (first | (simp only [putAll, Act.put, List.setIfInBounds_toArray, List.set_cons_zero, List.set_cons_succ, i64_w, i32_w]; done) | (simp only [putAll, Act.put, List.setIfInBounds_toArray, List.set_cons_zero, List.set_cons_succ, i64_w, i32_w]; rfl))
   intro ST00001101000
   refine join_ (σ := (Nat → Nat) × (Value) × (Value) × (Value) × (Value) × (Nat) × (Value) × (Value) × (Value) × (Value) × (Value)) 10 (bb 27 11844351) (fun s_ => [(98, s_.2.1), (114, s_.2.2.2.2.2.2.2.1), (117, s_.2.2.2.2.2.2.2.2.2.1)]) (fun s_ w' => Below w7.heap.size w7 w' ∧ RB w' w7.heap.size s_.1 0 s_.2.1 ([] : List Int) ∧ RB w' w7.heap.size s_.1 2 s_.2.2.2.2.2.2.2.1 ([] : List Int) ∧ RB w' w7.heap.size s_.1 3 s_.2.2.2.2.2.2.2.2.2.1 ([0] : List Int)) ?_ ?_
   ·rintro ⟨f, s4, s8, s10, s14, g, s19, s20, s22, s23, s24⟩ W ⟨HB, H1, H3, H4⟩
    try dsimp only at *
    refine norm_ (a' := ?_) ?_ ?_
    rotate_left
    ·show putAll _ _ = _
     (first | (simp only [putAll, Act.put, List.setIfInBounds_toArray, List.set_cons_zero, List.set_cons_succ, i64_w, i32_w]; done) | (simp only [putAll, Act.put, List.setIfInBounds_toArray, List.set_cons_zero, List.set_cons_succ, i64_w, i32_w]; rfl))
    refine two_ (i := 8) (j := 16) (Ni := some 102) (Nj := some 110) (bb 27 11844607) (bb 27 11909887) rfl rfl rfl rfl (two_of HT_.out (by kernel_rfl)) (by decide) (by decide) (fun K hK => ?_) (fun K hK => ?_)
    ·refine appB (w0 := w7) (base := w7.heap.size) (xs := ([] : List Int)) (ys := b1) (A := Ab) (c := cb) (by rfl) (.tmp 98) (.tmp 101) rfl rfl rfl H1 (Kd.C_below S1.out HB) HB HB.size ?aL ?_
     (case aL => have := HLEN.out; have := HFEW.out; simp only [List.length_append, List.length_nil, List.length_cons]; omega)
     intro s W1 ho HB1 hg
     refine hK.out _ _ ⟨trivial, trivial⟩ (fun hHeld => ?_)
     clear hK K
     refine nm ?_
     have hN := ST11000001010 ((ow f W.heap.size 0), s4, s, undef, undef, 0, undef, s20, undef, s23, undef) W1 ⟨HB1, ho, (rb_app H3 H1 (by decide) hg 0), (rb_app H4 H1 (by decide) hg 0)⟩
     refine norm_ ?_ hN
     show _ = putAll _ _
     (first | (simp only [putAll, Act.put, List.setIfInBounds_toArray, List.set_cons_zero, List.set_cons_succ, i64_w, i32_w]; done) | (simp only [putAll, Act.put, List.setIfInBounds_toArray, List.set_cons_zero, List.set_cons_succ, i64_w, i32_w]; rfl))
    ·refine event_step (by rfl) (v := .slice (some ⟨W.heap.size, 0, none⟩) 4 4) (w1 := W.alloc (.cells (([67, 85, 66, 49] : List Int).map (Value.int .u8)).toArray 5)) (by first | (go_simp; done) | (go_simp; rfl)) ?_
     have hcb := cb_new W f 1 ([67, 85, 66, 49] : List Int)
     have hb : Below W.heap.size W (W.alloc (.cells (([67, 85, 66, 49] : List Int).map (Value.int .u8)).toArray 5)) := below_alloc (Below.refl _ _) _
     generalize W.alloc (.cells (([67, 85, 66, 49] : List Int).map (Value.int .u8)).toArray 5) = W1 at *
     have HB1 := below_step HB hb
     refine hK.out _ _ ⟨trivial, trivial⟩ (fun hHeld => ?_)
     clear hK K
     refine nm ?_
     have hN := ST10001001010 ((ow f W.heap.size 1), s4, undef, undef, undef, W.heap.size, undef, s20, undef, s23, undef) W1 ⟨HB1, (rb_fresh H1 hb 1), ⟨hcb, HB.size⟩, (rb_fresh H3 hb 1), (rb_fresh H4 hb 1)⟩
     refine norm_ ?_ hN
     show _ = putAll _ _
     (first | (simp only [putAll, Act.put, List.setIfInBounds_toArray, List.set_cons_zero, List.set_cons_succ, i64_w, i32_w]; done) | (simp only [putAll, Act.put, List.setIfInBounds_toArray, List.set_cons_zero, List.set_cons_succ, i64_w, i32_w]; rfl))
   intro ST10000001010
   refine join_ (σ := (Nat → Nat) × (Value) × (Value) × (Value) × (Value) × (Nat) × (Value) × (Value) × (Value) × (Value) × (Value)) 10 (bb 27 10861311) (fun s_ => [(98, s_.2.1), (110, (.slice (some ⟨s_.2.2.2.2.2.1, 0, none⟩) 4 4)), (117, s_.2.2.2.2.2.2.2.2.2.1)]) (fun s_ w' => Below w7.heap.size w7 w' ∧ RB w' w7.heap.size s_.1 0 s_.2.1 ([] : List Int) ∧ (CB w' s_.1 1 s_.2.2.2.2.2.1 ([67, 85, 66, 49] : List Int) (0, 0) ∧ w7.heap.size ≤ s_.2.2.2.2.2.1) ∧ RB w' w7.heap.size s_.1 3 s_.2.2.2.2.2.2.2.2.2.1 ([0] : List Int)) ?_ ?_
   ·rintro ⟨f, s4, s8, s10, s14, g, s19, s20, s22, s23, s24⟩ W ⟨HB, H1, H2, H4⟩
    try dsimp only at *
    refine norm_ (a' := ?_) ?_ ?_
    rotate_left
    ·show putAll _ _ = _
     (first | (simp only [putAll, Act.put, List.setIfInBounds_toArray, List.set_cons_zero, List.set_cons_succ, i64_w, i32_w]; done) | (simp only [putAll, Act.put, List.setIfInBounds_toArray, List.set_cons_zero, List.set_cons_succ, i64_w, i32_w]; rfl))
    refine three_ (i := 8) (j := 17) (k := 20) (Ni := some 102) (Nj := some 111) (Nk := some 114) (bb 27 10861567) (bb 27 10992383) (bb 27 11909887) rfl rfl rfl rfl rfl rfl (three_of HT_.out (by kernel_rfl)) (by decide) (by decide) (by decide) (fun K hK => ?_) (fun K hK => ?_) (fun K hK => ?_)
    ·refine appB (w0 := w7) (base := w7.heap.size) (xs := ([] : List Int)) (ys := b1) (A := Ab) (c := cb) (by rfl) (.tmp 98) (.tmp 101) rfl rfl rfl H1 (Kd.C_below S1.out HB) HB HB.size ?aL ?_
     (case aL => have := HLEN.out; have := HFEW.out; simp only [List.length_append, List.length_nil, List.length_cons]; omega)
     intro s W1 ho HB1 hg
     refine hK.out _ _ ⟨trivial, trivial⟩ (fun hHeld => ?_)
     clear hK K
     refine nm ?_
     have hN := ST11001000010 ((ow f W.heap.size 0), s4, s, undef, undef, g, undef, undef, undef, s23, undef) W1 ⟨HB1, ho, ⟨cb_app H2.1 H1 (by decide) hg 0, H2.2⟩, (rb_app H4 H1 (by decide) hg 0)⟩
     refine norm_ ?_ hN
     show _ = putAll _ _
     (first | (simp only [putAll, Act.put, List.setIfInBounds_toArray, List.set_cons_zero, List.set_cons_succ, i64_w, i32_w]; done) | (simp only [putAll, Act.put, List.setIfInBounds_toArray, List.set_cons_zero, List.set_cons_succ, i64_w, i32_w]; rfl))
    ·refine cvtB (by rfl) (.tmp 110) 4 rfl rfl H2.1 ?_
     intro W1 hC1 hoth hsz hos
     have HB1 := cvt_below HB H2.2 hoth hsz hos
     refine hK.out _ _ ⟨trivial, trivial⟩ (fun hHeld => ?_)
     clear hK K
     refine nm ?_
     have hN := ST10001100010 (f, s4, undef, undef, undef, g, undef, undef, undef, s23, undef) W1 ⟨HB1, (cvt_row H1 H2.1.2 (by decide) hoth), ⟨hC1, H2.2⟩, (cvt_row H4 H2.1.2 (by decide) hoth)⟩
     refine norm_ ?_ hN
     show _ = putAll _ _
     (first | (simp only [putAll, Act.put, List.setIfInBounds_toArray, List.set_cons_zero, List.set_cons_succ, i64_w, i32_w]; done) | (simp only [putAll, Act.put, List.setIfInBounds_toArray, List.set_cons_zero, List.set_cons_succ, i64_w, i32_w]; rfl))
    ·refine litB (by rfl) rfl (xs := ([] : List Int)) (by first | (go_simp; done) | (go_simp; rfl)) (by simp) ?_
     intro s W1 ho hb
     have HB1 := below_step HB hb
     refine hK.out _ _ ⟨trivial, trivial⟩ (fun hHeld => ?_)
     clear hK K
     refine nm ?_
     have hN := ST10001001010 ((ow f W.heap.size 2), s4, undef, undef, undef, g, undef, s, undef, s23, undef) W1 ⟨HB1, (rb_fresh H1 hb 2), ⟨cb_fresh H2.1 hb 2, H2.2⟩, (rb_lit f ho HB.size 2), (rb_fresh H4 hb 2)⟩
     refine norm_ ?_ hN
     show _ = putAll _ _
     (first | (simp only [putAll, Act.put, List.setIfInBounds_toArray, List.set_cons_zero, List.set_cons_succ, i64_w, i32_w]; done) | (simp only [putAll, Act.put, List.setIfInBounds_toArray, List.set_cons_zero, List.set_cons_succ, i64_w, i32_w]; rfl))
   intro ST10001000010
   refine join_ (σ := (Nat → Nat) × (Value) × (Value) × (Value) × (Value) × (Nat) × (Value) × (Value) × (Value) × (Value) × (Value)) 10 (bb 27 3521279) (fun s_ => [(98, s_.2.1), (110, (.slice (some ⟨s_.2.2.2.2.2.1, 0, none⟩) 4 4)), (114, s_.2.2.2.2.2.2.2.1)]) (fun s_ w' => Below w7.heap.size w7 w' ∧ RB w' w7.heap.size s_.1 0 s_.2.1 ([] : List Int) ∧ (CB w' s_.1 1 s_.2.2.2.2.2.1 ([67, 85, 66, 49] : List Int) (0, 0) ∧ w7.heap.size ≤ s_.2.2.2.2.2.1) ∧ RB w' w7.heap.size s_.1 2 s_.2.2.2.2.2.2.2.1 ([] : List Int)) ?_ ?_
   ·rintro ⟨f, s4, s8, s10, s14, g, s19, s20, s22, s23, s24⟩ W ⟨HB, H1, H2, H3⟩
    try dsimp only at *
    refine norm_ (a' := ?_) ?_ ?_
    rotate_left
    ·show putAll _ _ = _
     (first | (simp only [putAll, Act.put, List.setIfInBounds_toArray, List.set_cons_zero, List.set_cons_succ, i64_w, i32_w]; done) | (simp only [putAll, Act.put, List.setIfInBounds_toArray, List.set_cons_zero, List.set_cons_succ, i64_w, i32_w]; rfl))
    refine three_ (i := 8) (j := 17) (k := 23) (Ni := some 102) (Nj := some 111) (Nk := some 117) (bb 27 3521535) (bb 27 3652351) (bb 27 11909887) rfl rfl rfl rfl rfl rfl (three_of HT_.out (by kernel_rfl)) (by decide) (by decide) (by decide) (fun K hK => ?_) (fun K hK => ?_) (fun K hK => ?_)
    ·refine appB (w0 := w7) (base := w7.heap.size) (xs := ([] : List Int)) (ys := b1) (A := Ab) (c := cb) (by rfl) (.tmp 98) (.tmp 101) rfl rfl rfl H1 (Kd.C_below S1.out HB) HB HB.size ?aL ?_
     (case aL => have := HLEN.out; have := HFEW.out; simp only [List.length_append, List.length_nil, List.length_cons]; omega)
     intro s W1 ho HB1 hg
     refine hK.out _ _ ⟨trivial, trivial⟩ (fun hHeld => ?_)
     clear hK K
     refine nm ?_
     have hN := ST11001001000 ((ow f W.heap.size 0), s4, s, undef, undef, g, undef, s20, undef, undef, undef) W1 ⟨HB1, ho, ⟨cb_app H2.1 H1 (by decide) hg 0, H2.2⟩, (rb_app H3 H1 (by decide) hg 0)⟩
     refine norm_ ?_ hN
     show _ = putAll _ _
     (first | (simp only [putAll, Act.put, List.setIfInBounds_toArray, List.set_cons_zero, List.set_cons_succ, i64_w, i32_w]; done) | (simp only [putAll, Act.put, List.setIfInBounds_toArray, List.set_cons_zero, List.set_cons_succ, i64_w, i32_w]; rfl))
    ·refine cvtB (by rfl) (.tmp 110) 4 rfl rfl H2.1 ?_
     intro W1 hC1 hoth hsz hos
     have HB1 := cvt_below HB H2.2 hoth hsz hos
     refine hK.out _ _ ⟨trivial, trivial⟩ (fun hHeld => ?_)
     clear hK K
     refine nm ?_
     have hN := ST10001101000 (f, s4, undef, undef, undef, g, undef, s20, undef, undef, undef) W1 ⟨HB1, (cvt_row H1 H2.1.2 (by decide) hoth), ⟨hC1, H2.2⟩, (cvt_row H3 H2.1.2 (by decide) hoth)⟩
     refine norm_ ?_ hN
     show _ = putAll _ _
     (first | (simp only [putAll, Act.put, List.setIfInBounds_toArray, List.set_cons_zero, List.set_cons_succ, i64_w, i32_w]; done) | (simp only [putAll, Act.put, List.setIfInBounds_toArray, List.set_cons_zero, List.set_cons_succ, i64_w, i32_w]; rfl))
    ·refine litB (by rfl) rfl (xs := ([0] : List Int)) (by first | (go_simp; done) | (go_simp; rfl)) (by simp) ?_
     intro s W1 ho hb
     have HB1 := below_step HB hb
     refine hK.out _ _ ⟨trivial, trivial⟩ (fun hHeld => ?_)
     clear hK K
     refine nm ?_
     have hN := ST10001001010 ((ow f W.heap.size 3), s4, undef, undef, undef, g, undef, s20, undef, s, undef) W1 ⟨HB1, (rb_fresh H1 hb 3), ⟨cb_fresh H2.1 hb 3, H2.2⟩, (rb_fresh H3 hb 3), (rb_lit f ho HB.size 3)⟩
     refine norm_ ?_ hN
     show _ = putAll _ _
     (first | (simp only [putAll, Act.put, List.setIfInBounds_toArray, List.set_cons_zero, List.set_cons_succ, i64_w, i32_w]; done) | (simp only [putAll, Act.put, List.setIfInBounds_toArray, List.set_cons_zero, List.set_cons_succ, i64_w, i32_w]; rfl))
   intro ST10001001000
   refine join_ (σ := (Nat → Nat) × (Value) × (Value) × (Value) × (Value) × (Nat) × (Value) × (Value) × (Value) × (Value) × (Value)) 10 (bb 27 2603775) (fun s_ => [(98, s_.2.1), (110, (.slice (some ⟨s_.2.2.2.2.2.1, 0, none⟩) 4 4)), (111, (.slice (some ⟨s_.2.2.2.2.2.1, 0, none⟩) 4 4))]) (fun s_ w' => Below w7.heap.size w7 w' ∧ RB w' w7.heap.size s_.1 0 s_.2.1 ([] : List Int) ∧ (CB w' s_.1 1 s_.2.2.2.2.2.1 ([67, 85, 66, 49] : List Int) (4, 5) ∧ w7.heap.size ≤ s_.2.2.2.2.2.1)) ?_ ?_
   ·rintro ⟨f, s4, s8, s10, s14, g, s19, s20, s22, s23, s24⟩ W ⟨HB, H1, H2⟩
    try dsimp only at *
    refine norm_ (a' := ?_) ?_ ?_
    rotate_left
    ·show putAll _ _ = _
     (first | (simp only [putAll, Act.put, List.setIfInBounds_toArray, List.set_cons_zero, List.set_cons_succ, i64_w, i32_w]; done) | (simp only [putAll, Act.put, List.setIfInBounds_toArray, List.set_cons_zero, List.set_cons_succ, i64_w, i32_w]; rfl))
    refine three_ (i := 8) (j := 20) (k := 23) (Ni := some 102) (Nj := some 114) (Nk := some 117) (bb 27 2604031) (bb 27 3652351) (bb 27 10992383) rfl rfl rfl rfl rfl rfl (three_of HT_.out (by kernel_rfl)) (by decide) (by decide) (by decide) (fun K hK => ?_) (fun K hK => ?_) (fun K hK => ?_)
    ·refine appB (w0 := w7) (base := w7.heap.size) (xs := ([] : List Int)) (ys := b1) (A := Ab) (c := cb) (by rfl) (.tmp 98) (.tmp 101) rfl rfl rfl H1 (Kd.C_below S1.out HB) HB HB.size ?aL ?_
     (case aL => have := HLEN.out; have := HFEW.out; simp only [List.length_append, List.length_nil, List.length_cons]; omega)
     intro s W1 ho HB1 hg
     refine hK.out _ _ ⟨trivial, trivial⟩ (fun hHeld => ?_)
     clear hK K
     refine nm ?_
     have hN := ST11001100000 ((ow f W.heap.size 0), s4, s, undef, undef, g, undef, undef, undef, undef, undef) W1 ⟨HB1, ho, ⟨cb_app H2.1 H1 (by decide) hg 0, H2.2⟩⟩
     refine norm_ ?_ hN
     show _ = putAll _ _
     (first | (simp only [putAll, Act.put, List.setIfInBounds_toArray, List.set_cons_zero, List.set_cons_succ, i64_w, i32_w]; done) | (simp only [putAll, Act.put, List.setIfInBounds_toArray, List.set_cons_zero, List.set_cons_succ, i64_w, i32_w]; rfl))
    ·refine litB (by rfl) rfl (xs := ([] : List Int)) (by first | (go_simp; done) | (go_simp; rfl)) (by simp) ?_
     intro s W1 ho hb
     have HB1 := below_step HB hb
     refine hK.out _ _ ⟨trivial, trivial⟩ (fun hHeld => ?_)
     clear hK K
     refine nm ?_
     have hN := ST10001101000 ((ow f W.heap.size 2), s4, undef, undef, undef, g, undef, s, undef, undef, undef) W1 ⟨HB1, (rb_fresh H1 hb 2), ⟨cb_fresh H2.1 hb 2, H2.2⟩, (rb_lit f ho HB.size 2)⟩
     refine norm_ ?_ hN
     show _ = putAll _ _
     (first | (simp only [putAll, Act.put, List.setIfInBounds_toArray, List.set_cons_zero, List.set_cons_succ, i64_w, i32_w]; done) | (simp only [putAll, Act.put, List.setIfInBounds_toArray, List.set_cons_zero, List.set_cons_succ, i64_w, i32_w]; rfl))
    ·refine litB (by rfl) rfl (xs := ([0] : List Int)) (by first | (go_simp; done) | (go_simp; rfl)) (by simp) ?_
     intro s W1 ho hb
     have HB1 := below_step HB hb
     refine hK.out _ _ ⟨trivial, trivial⟩ (fun hHeld => ?_)
     clear hK K
     refine nm ?_
     have hN := ST10001100010 ((ow f W.heap.size 3), s4, undef, undef, undef, g, undef, undef, undef, s, undef) W1 ⟨HB1, (rb_fresh H1 hb 3), ⟨cb_fresh H2.1 hb 3, H2.2⟩, (rb_lit f ho HB.size 3)⟩
     refine norm_ ?_ hN
     show _ = putAll _ _
     (first | (simp only [putAll, Act.put, List.setIfInBounds_toArray, List.set_cons_zero, List.set_cons_succ, i64_w, i32_w]; done) | (simp only [putAll, Act.put, List.setIfInBounds_toArray, List.set_cons_zero, List.set_cons_succ, i64_w, i32_w]; rfl))
   intro ST10001100000
   refine join_ (σ := (Nat → Nat) × (Value) × (Value) × (Value) × (Value) × (Nat) × (Value) × (Value) × (Value) × (Value) × (Value)) 10 (bb 27 10796031) (fun s_ => [(98, s_.2.1), (102, s_.2.2.1), (117, s_.2.2.2.2.2.2.2.2.2.1)]) (fun s_ w' => Below w7.heap.size w7 w' ∧ RB w' w7.heap.size s_.1 0 s_.2.2.1 (([] : List Int) ++ b1) ∧ RB w' w7.heap.size s_.1 3 s_.2.2.2.2.2.2.2.2.2.1 ([0] : List Int)) ?_ ?_
   ·rintro ⟨f, s4, s8, s10, s14, g, s19, s20, s22, s23, s24⟩ W ⟨HB, H1, H4⟩
    try dsimp only at *
    refine norm_ (a' := ?_) ?_ ?_
    rotate_left
    ·show putAll _ _ = _
     (first | (simp only [putAll, Act.put, List.setIfInBounds_toArray, List.set_cons_zero, List.set_cons_succ, i64_w, i32_w]; done) | (simp only [putAll, Act.put, List.setIfInBounds_toArray, List.set_cons_zero, List.set_cons_succ, i64_w, i32_w]; rfl))
    refine three_ (i := 10) (j := 16) (k := 20) (Ni := some 104) (Nj := some 110) (Nk := some 114) (bb 27 10797055) (bb 27 10861567) (bb 27 11844607) rfl rfl rfl rfl rfl rfl (three_of HT_.out (by kernel_rfl)) (by decide) (by decide) (by decide) (fun K hK => ?_) (fun K hK => ?_) (fun K hK => ?_)
    ·refine appB (w0 := w7) (base := w7.heap.size) (xs := (([] : List Int) ++ b1)) (ys := l7) (A := A7) (c := c7) (by rfl) (.tmp 102) (.tmp 103) rfl rfl rfl H1 (Kd.C_below S7.out HB) HB HB.size ?aL ?_
     (case aL => have := HLEN.out; have := HFEW.out; simp only [List.length_append, List.length_nil, List.length_cons]; omega)
     intro s W1 ho HB1 hg
     refine hK.out _ _ ⟨trivial, trivial⟩ (fun hHeld => ?_)
     clear hK K
     refine nm ?_
     have hN := ST11100000010 ((ow f W.heap.size 0), s4, s8, s, undef, 0, undef, undef, undef, s23, undef) W1 ⟨HB1, ho, (rb_app H4 H1 (by decide) hg 0)⟩
     refine norm_ ?_ hN
     show _ = putAll _ _
     (first | (simp only [putAll, Act.put, List.setIfInBounds_toArray, List.set_cons_zero, List.set_cons_succ, i64_w, i32_w]; done) | (simp only [putAll, Act.put, List.setIfInBounds_toArray, List.set_cons_zero, List.set_cons_succ, i64_w, i32_w]; rfl))
    ·refine event_step (by rfl) (v := .slice (some ⟨W.heap.size, 0, none⟩) 4 4) (w1 := W.alloc (.cells (([67, 85, 66, 49] : List Int).map (Value.int .u8)).toArray 5)) (by first | (go_simp; done) | (go_simp; rfl)) ?_
     have hcb := cb_new W f 1 ([67, 85, 66, 49] : List Int)
     have hb : Below W.heap.size W (W.alloc (.cells (([67, 85, 66, 49] : List Int).map (Value.int .u8)).toArray 5)) := below_alloc (Below.refl _ _) _
     generalize W.alloc (.cells (([67, 85, 66, 49] : List Int).map (Value.int .u8)).toArray 5) = W1 at *
     have HB1 := below_step HB hb
     refine hK.out _ _ ⟨trivial, trivial⟩ (fun hHeld => ?_)
     clear hK K
     refine nm ?_
     have hN := ST11001000010 ((ow f W.heap.size 1), s4, s8, undef, undef, W.heap.size, undef, undef, undef, s23, undef) W1 ⟨HB1, (rb_fresh H1 hb 1), ⟨hcb, HB.size⟩, (rb_fresh H4 hb 1)⟩
     refine norm_ ?_ hN
     show _ = putAll _ _
     (first | (simp only [putAll, Act.put, List.setIfInBounds_toArray, List.set_cons_zero, List.set_cons_succ, i64_w, i32_w]; done) | (simp only [putAll, Act.put, List.setIfInBounds_toArray, List.set_cons_zero, List.set_cons_succ, i64_w, i32_w]; rfl))
    ·refine litB (by rfl) rfl (xs := ([] : List Int)) (by first | (go_simp; done) | (go_simp; rfl)) (by simp) ?_
     intro s W1 ho hb
     have HB1 := below_step HB hb
     refine hK.out _ _ ⟨trivial, trivial⟩ (fun hHeld => ?_)
     clear hK K
     refine nm ?_
     have hN := ST11000001010 ((ow f W.heap.size 2), s4, s8, undef, undef, 0, undef, s, undef, s23, undef) W1 ⟨HB1, (rb_fresh H1 hb 2), (rb_lit f ho HB.size 2), (rb_fresh H4 hb 2)⟩
     refine norm_ ?_ hN
     show _ = putAll _ _
     (first | (simp only [putAll, Act.put, List.setIfInBounds_toArray, List.set_cons_zero, List.set_cons_succ, i64_w, i32_w]; done) | (simp only [putAll, Act.put, List.setIfInBounds_toArray, List.set_cons_zero, List.set_cons_succ, i64_w, i32_w]; rfl))
   intro ST11000000010
   refine join_ (σ := (Nat → Nat) × (Value) × (Value) × (Value) × (Value) × (Nat) × (Value) × (Value) × (Value) × (Value) × (Value)) 10 (bb 27 3455999) (fun s_ => [(98, s_.2.1), (102, s_.2.2.1), (114, s_.2.2.2.2.2.2.2.1)]) (fun s_ w' => Below w7.heap.size w7 w' ∧ RB w' w7.heap.size s_.1 0 s_.2.2.1 (([] : List Int) ++ b1) ∧ RB w' w7.heap.size s_.1 2 s_.2.2.2.2.2.2.2.1 ([] : List Int)) ?_ ?_
   ·rintro ⟨f, s4, s8, s10, s14, g, s19, s20, s22, s23, s24⟩ W ⟨HB, H1, H3⟩
    try dsimp only at *
    refine norm_ (a' := ?_) ?_ ?_
    rotate_left
    ·show putAll _ _ = _
     (first | (simp only [putAll, Act.put, List.setIfInBounds_toArray, List.set_cons_zero, List.set_cons_succ, i64_w, i32_w]; done) | (simp only [putAll, Act.put, List.setIfInBounds_toArray, List.set_cons_zero, List.set_cons_succ, i64_w, i32_w]; rfl))
    refine three_ (i := 10) (j := 16) (k := 23) (Ni := some 104) (Nj := some 110) (Nk := some 117) (bb 27 3457023) (bb 27 3521535) (bb 27 11844607) rfl rfl rfl rfl rfl rfl (three_of HT_.out (by kernel_rfl)) (by decide) (by decide) (by decide) (fun K hK => ?_) (fun K hK => ?_) (fun K hK => ?_)
    ·refine appB (w0 := w7) (base := w7.heap.size) (xs := (([] : List Int) ++ b1)) (ys := l7) (A := A7) (c := c7) (by rfl) (.tmp 102) (.tmp 103) rfl rfl rfl H1 (Kd.C_below S7.out HB) HB HB.size ?aL ?_
     (case aL => have := HLEN.out; have := HFEW.out; simp only [List.length_append, List.length_nil, List.length_cons]; omega)
     intro s W1 ho HB1 hg
     refine hK.out _ _ ⟨trivial, trivial⟩ (fun hHeld => ?_)
     clear hK K
     refine nm ?_
     have hN := ST11100001000 ((ow f W.heap.size 0), s4, s8, s, undef, 0, undef, s20, undef, undef, undef) W1 ⟨HB1, ho, (rb_app H3 H1 (by decide) hg 0)⟩
     refine norm_ ?_ hN
     show _ = putAll _ _
     (first | (simp only [putAll, Act.put, List.setIfInBounds_toArray, List.set_cons_zero, List.set_cons_succ, i64_w, i32_w]; done) | (simp only [putAll, Act.put, List.setIfInBounds_toArray, List.set_cons_zero, List.set_cons_succ, i64_w, i32_w]; rfl))
    ·refine event_step (by rfl) (v := .slice (some ⟨W.heap.size, 0, none⟩) 4 4) (w1 := W.alloc (.cells (([67, 85, 66, 49] : List Int).map (Value.int .u8)).toArray 5)) (by first | (go_simp; done) | (go_simp; rfl)) ?_
     have hcb := cb_new W f 1 ([67, 85, 66, 49] : List Int)
     have hb : Below W.heap.size W (W.alloc (.cells (([67, 85, 66, 49] : List Int).map (Value.int .u8)).toArray 5)) := below_alloc (Below.refl _ _) _
     generalize W.alloc (.cells (([67, 85, 66, 49] : List Int).map (Value.int .u8)).toArray 5) = W1 at *
     have HB1 := below_step HB hb
     refine hK.out _ _ ⟨trivial, trivial⟩ (fun hHeld => ?_)
     clear hK K
     refine nm ?_
     have hN := ST11001001000 ((ow f W.heap.size 1), s4, s8, undef, undef, W.heap.size, undef, s20, undef, undef, undef) W1 ⟨HB1, (rb_fresh H1 hb 1), ⟨hcb, HB.size⟩, (rb_fresh H3 hb 1)⟩
     refine norm_ ?_ hN
     show _ = putAll _ _
     (first | (simp only [putAll, Act.put, List.setIfInBounds_toArray, List.set_cons_zero, List.set_cons_succ, i64_w, i32_w]; done) | (simp only [putAll, Act.put, List.setIfInBounds_toArray, List.set_cons_zero, List.set_cons_succ, i64_w, i32_w]; rfl))
    ·refine litB (by rfl) rfl (xs := ([0] : List Int)) (by first | (go_simp; done) | (go_simp; rfl)) (by simp) ?_
     intro s W1 ho hb
     have HB1 := below_step HB hb
     refine hK.out _ _ ⟨trivial, trivial⟩ (fun hHeld => ?_)
     clear hK K
     refine nm ?_
     have hN := ST11000001010 ((ow f W.heap.size 3), s4, s8, undef, undef, 0, undef, s20, undef, s, undef) W1 ⟨HB1, (rb_fresh H1 hb 3), (rb_fresh H3 hb 3), (rb_lit f ho HB.size 3)⟩
     refine norm_ ?_ hN
     show _ = putAll _ _
     (first | (simp only [putAll, Act.put, List.setIfInBounds_toArray, List.set_cons_zero, List.set_cons_succ, i64_w, i32_w]; done) | (simp only [putAll, Act.put, List.setIfInBounds_toArray, List.set_cons_zero, List.set_cons_succ, i64_w, i32_w]; rfl))
   intro ST11000001000
   refine join_ (σ := (Nat → Nat) × (Value) × (Value) × (Value) × (Value) × (Nat) × (Value) × (Value) × (Value) × (Value) × (Value)) 10 (bb 27 2472959) (fun s_ => [(98, s_.2.1), (102, s_.2.2.1), (110, (.slice (some ⟨s_.2.2.2.2.2.1, 0, none⟩) 4 4))]) (fun s_ w' => Below w7.heap.size w7 w' ∧ RB w' w7.heap.size s_.1 0 s_.2.2.1 (([] : List Int) ++ b1) ∧ (CB w' s_.1 1 s_.2.2.2.2.2.1 ([67, 85, 66, 49] : List Int) (0, 0) ∧ w7.heap.size ≤ s_.2.2.2.2.2.1)) ?_ ?_
   ·rintro ⟨f, s4, s8, s10, s14, g, s19, s20, s22, s23, s24⟩ W ⟨HB, H1, H2⟩
    try dsimp only at *
    refine norm_ (a' := ?_) ?_ ?_
    rotate_left
    ·show putAll _ _ = _
     (first | (simp only [putAll, Act.put, List.setIfInBounds_toArray, List.set_cons_zero, List.set_cons_succ, i64_w, i32_w]; done) | (simp only [putAll, Act.put, List.setIfInBounds_toArray, List.set_cons_zero, List.set_cons_succ, i64_w, i32_w]; rfl))
    refine four_ (i := 10) (j := 17) (k := 20) (m := 23) (Ni := some 104) (Nj := some 111) (Nk := some 114) (Nm := some 117) (bb 27 2473983) (bb 27 2604031) (bb 27 3521535) (bb 27 10861567) rfl rfl rfl rfl rfl rfl rfl rfl (four_of HT_.out (by kernel_rfl)) (by decide) (by decide) (by decide) (by decide) (fun K hK => ?_) (fun K hK => ?_) (fun K hK => ?_) (fun K hK => ?_)
    ·refine appB (w0 := w7) (base := w7.heap.size) (xs := (([] : List Int) ++ b1)) (ys := l7) (A := A7) (c := c7) (by rfl) (.tmp 102) (.tmp 103) rfl rfl rfl H1 (Kd.C_below S7.out HB) HB HB.size ?aL ?_
     (case aL => have := HLEN.out; have := HFEW.out; simp only [List.length_append, List.length_nil, List.length_cons]; omega)
     intro s W1 ho HB1 hg
     refine hK.out _ _ ⟨trivial, trivial⟩ (fun hHeld => ?_)
     clear hK K
     refine nm ?_
     have hN := ST11101000000 ((ow f W.heap.size 0), s4, s8, s, undef, g, undef, undef, undef, undef, undef) W1 ⟨HB1, ho, ⟨cb_app H2.1 H1 (by decide) hg 0, H2.2⟩⟩
     refine norm_ ?_ hN
     show _ = putAll _ _
     (first | (simp only [putAll, Act.put, List.setIfInBounds_toArray, List.set_cons_zero, List.set_cons_succ, i64_w, i32_w]; done) | (simp only [putAll, Act.put, List.setIfInBounds_toArray, List.set_cons_zero, List.set_cons_succ, i64_w, i32_w]; rfl))
    ·refine cvtB (by rfl) (.tmp 110) 4 rfl rfl H2.1 ?_
     intro W1 hC1 hoth hsz hos
     have HB1 := cvt_below HB H2.2 hoth hsz hos
     refine hK.out _ _ ⟨trivial, trivial⟩ (fun hHeld => ?_)
     clear hK K
     refine nm ?_
     have hN := ST11001100000 (f, s4, s8, undef, undef, g, undef, undef, undef, undef, undef) W1 ⟨HB1, (cvt_row H1 H2.1.2 (by decide) hoth), ⟨hC1, H2.2⟩⟩
     refine norm_ ?_ hN
     show _ = putAll _ _
     (first | (simp only [putAll, Act.put, List.setIfInBounds_toArray, List.set_cons_zero, List.set_cons_succ, i64_w, i32_w]; done) | (simp only [putAll, Act.put, List.setIfInBounds_toArray, List.set_cons_zero, List.set_cons_succ, i64_w, i32_w]; rfl))
    ·refine litB (by rfl) rfl (xs := ([] : List Int)) (by first | (go_simp; done) | (go_simp; rfl)) (by simp) ?_
     intro s W1 ho hb
     have HB1 := below_step HB hb
     refine hK.out _ _ ⟨trivial, trivial⟩ (fun hHeld => ?_)
     clear hK K
     refine nm ?_
     have hN := ST11001001000 ((ow f W.heap.size 2), s4, s8, undef, undef, g, undef, s, undef, undef, undef) W1 ⟨HB1, (rb_fresh H1 hb 2), ⟨cb_fresh H2.1 hb 2, H2.2⟩, (rb_lit f ho HB.size 2)⟩
     refine norm_ ?_ hN
     show _ = putAll _ _
     (first | (simp only [putAll, Act.put, List.setIfInBounds_toArray, List.set_cons_zero, List.set_cons_succ, i64_w, i32_w]; done) | (simp only [putAll, Act.put, List.setIfInBounds_toArray, List.set_cons_zero, List.set_cons_succ, i64_w, i32_w]; rfl))
    ·refine litB (by rfl) rfl (xs := ([0] : List Int)) (by first | (go_simp; done) | (go_simp; rfl)) (by simp) ?_
     intro s W1 ho hb
     have HB1 := below_step HB hb
     refine hK.out _ _ ⟨trivial, trivial⟩ (fun hHeld => ?_)
     clear hK K
     refine nm ?_
     have hN := ST11001000010 ((ow f W.heap.size 3), s4, s8, undef, undef, g, undef, undef, undef, s, undef) W1 ⟨HB1, (rb_fresh H1 hb 3), ⟨cb_fresh H2.1 hb 3, H2.2⟩, (rb_lit f ho HB.size 3)⟩
     refine norm_ ?_ hN
     show _ = putAll _ _
     (first | (simp only [putAll, Act.put, List.setIfInBounds_toArray, List.set_cons_zero, List.set_cons_succ, i64_w, i32_w]; done) | (simp only [putAll, Act.put, List.setIfInBounds_toArray, List.set_cons_zero, List.set_cons_succ, i64_w, i32_w]; rfl))
   intro ST11001000000
   refine join_ (σ := (Nat → Nat) × (Value) × (Value) × (Value) × (Value) × (Nat) × (Value) × (Value) × (Value) × (Value) × (Value)) 10 (bb 27 2408447) (fun s_ => [(98, s_.2.1), (102, s_.2.2.1), (104, s_.2.2.2.1)]) (fun s_ w' => Below w7.heap.size w7 w' ∧ RB w' w7.heap.size s_.1 0 s_.2.2.2.1 ((([] : List Int) ++ b1) ++ l7)) ?_ ?_
   ·rintro ⟨f, s4, s8, s10, s14, g, s19, s20, s22, s23, s24⟩ W ⟨HB, H1⟩
    try dsimp only at *
    refine norm_ (a' := ?_) ?_ ?_
    rotate_left
    ·show putAll _ _ = _
     (first | (simp only [putAll, Act.put, List.setIfInBounds_toArray, List.set_cons_zero, List.set_cons_succ, i64_w, i32_w]; done) | (simp only [putAll, Act.put, List.setIfInBounds_toArray, List.set_cons_zero, List.set_cons_succ, i64_w, i32_w]; rfl))
    refine four_ (i := 14) (j := 16) (k := 20) (m := 23) (Ni := some 108) (Nj := some 110) (Nk := some 114) (Nm := some 117) (bb 27 2424831) (bb 27 2473983) (bb 27 3457023) (bb 27 10797055) rfl rfl rfl rfl rfl rfl rfl rfl (four_of HT_.out (by kernel_rfl)) (by decide) (by decide) (by decide) (by decide) (fun K hK => ?_) (fun K hK => ?_) (fun K hK => ?_) (fun K hK => ?_)
    ·refine appB (w0 := w7) (base := w7.heap.size) (xs := ((([] : List Int) ++ b1) ++ l7)) (ys := b2) (A := A2') (c := c2') (by rfl) (.tmp 104) (.tmp 107) rfl rfl rfl H1 (Kd.C_below S2.out HB) HB HB.size ?aL ?_
     (case aL => have := HLEN.out; have := HFEW.out; simp only [List.length_append, List.length_nil, List.length_cons]; omega)
     intro s W1 ho HB1 hg
     refine hK.out _ _ ⟨trivial, trivial⟩ (fun hHeld => ?_)
     clear hK K
     refine nm ?_
     have hN := ST11110000000 ((ow f W.heap.size 0), s4, s8, s10, s, 0, undef, undef, undef, undef, undef) W1 ⟨HB1, ho⟩
     refine norm_ ?_ hN
     show _ = putAll _ _
     (first | (simp only [putAll, Act.put, List.setIfInBounds_toArray, List.set_cons_zero, List.set_cons_succ, i64_w, i32_w]; done) | (simp only [putAll, Act.put, List.setIfInBounds_toArray, List.set_cons_zero, List.set_cons_succ, i64_w, i32_w]; rfl))
    ·refine event_step (by rfl) (v := .slice (some ⟨W.heap.size, 0, none⟩) 4 4) (w1 := W.alloc (.cells (([67, 85, 66, 49] : List Int).map (Value.int .u8)).toArray 5)) (by first | (go_simp; done) | (go_simp; rfl)) ?_
     have hcb := cb_new W f 1 ([67, 85, 66, 49] : List Int)
     have hb : Below W.heap.size W (W.alloc (.cells (([67, 85, 66, 49] : List Int).map (Value.int .u8)).toArray 5)) := below_alloc (Below.refl _ _) _
     generalize W.alloc (.cells (([67, 85, 66, 49] : List Int).map (Value.int .u8)).toArray 5) = W1 at *
     have HB1 := below_step HB hb
     refine hK.out _ _ ⟨trivial, trivial⟩ (fun hHeld => ?_)
     clear hK K
     refine nm ?_
     have hN := ST11101000000 ((ow f W.heap.size 1), s4, s8, s10, undef, W.heap.size, undef, undef, undef, undef, undef) W1 ⟨HB1, (rb_fresh H1 hb 1), ⟨hcb, HB.size⟩⟩
     refine norm_ ?_ hN
     show _ = putAll _ _
     (first | (simp only [putAll, Act.put, List.setIfInBounds_toArray, List.set_cons_zero, List.set_cons_succ, i64_w, i32_w]; done) | (simp only [putAll, Act.put, List.setIfInBounds_toArray, List.set_cons_zero, List.set_cons_succ, i64_w, i32_w]; rfl))
    ·refine litB (by rfl) rfl (xs := ([] : List Int)) (by first | (go_simp; done) | (go_simp; rfl)) (by simp) ?_
     intro s W1 ho hb
     have HB1 := below_step HB hb
     refine hK.out _ _ ⟨trivial, trivial⟩ (fun hHeld => ?_)
     clear hK K
     refine nm ?_
     have hN := ST11100001000 ((ow f W.heap.size 2), s4, s8, s10, undef, 0, undef, s, undef, undef, undef) W1 ⟨HB1, (rb_fresh H1 hb 2), (rb_lit f ho HB.size 2)⟩
     refine norm_ ?_ hN
     show _ = putAll _ _
     (first | (simp only [putAll, Act.put, List.setIfInBounds_toArray, List.set_cons_zero, List.set_cons_succ, i64_w, i32_w]; done) | (simp only [putAll, Act.put, List.setIfInBounds_toArray, List.set_cons_zero, List.set_cons_succ, i64_w, i32_w]; rfl))
    ·refine litB (by rfl) rfl (xs := ([0] : List Int)) (by first | (go_simp; done) | (go_simp; rfl)) (by simp) ?_
     intro s W1 ho hb
     have HB1 := below_step HB hb
     refine hK.out _ _ ⟨trivial, trivial⟩ (fun hHeld => ?_)
     clear hK K
     refine nm ?_
     have hN := ST11100000010 ((ow f W.heap.size 3), s4, s8, s10, undef, 0, undef, undef, undef, s, undef) W1 ⟨HB1, (rb_fresh H1 hb 3), (rb_lit f ho HB.size 3)⟩
     refine norm_ ?_ hN
     show _ = putAll _ _
     (first | (simp only [putAll, Act.put, List.setIfInBounds_toArray, List.set_cons_zero, List.set_cons_succ, i64_w, i32_w]; done) | (simp only [putAll, Act.put, List.setIfInBounds_toArray, List.set_cons_zero, List.set_cons_succ, i64_w, i32_w]; rfl))
   intro ST11100000000
   refine join_ (σ := (Nat → Nat) × (Value) × (Value) × (Value) × (Value) × (Nat) × (Value) × (Value) × (Value) × (Value) × (Value)) 11 (bb 27 11844335) (fun s_ => [(114, s_.2.2.2.2.2.2.2.1), (117, s_.2.2.2.2.2.2.2.2.2.1)]) (fun s_ w' => Below w7.heap.size w7 w' ∧ RB w' w7.heap.size s_.1 2 s_.2.2.2.2.2.2.2.1 ([] : List Int) ∧ RB w' w7.heap.size s_.1 3 s_.2.2.2.2.2.2.2.2.2.1 ([0] : List Int)) ?_ ?_
   ·rintro ⟨f, s4, s8, s10, s14, g, s19, s20, s22, s23, s24⟩ W ⟨HB, H3, H4⟩
    try dsimp only at *
    refine norm_ (a' := ?_) ?_ ?_
    rotate_left
    ·show putAll _ _ = _
     (first | (simp only [putAll, Act.put, List.setIfInBounds_toArray, List.set_cons_zero, List.set_cons_succ, i64_w, i32_w]; done) | (simp only [putAll, Act.put, List.setIfInBounds_toArray, List.set_cons_zero, List.set_cons_succ, i64_w, i32_w]; rfl))
    refine two_ (i := 4) (j := 16) (Ni := some 98) (Nj := some 110) (bb 27 11844351) (bb 27 11909871) rfl rfl rfl rfl (two_of HT_.out (by kernel_rfl)) (by decide) (by decide) (fun K hK => ?_) (fun K hK => ?_)
    ·refine litB (by rfl) rfl (xs := ([] : List Int)) (by first | (go_simp; done) | (go_simp; rfl)) (by simp) ?_
     intro s W1 ho hb
     have HB1 := below_step HB hb
     refine hK.out _ _ ⟨trivial, trivial⟩ (fun hHeld => ?_)
     clear hK K
     refine nm ?_
     have hN := ST10000001010 ((ow f W.heap.size 0), s, undef, undef, undef, 0, undef, s20, undef, s23, undef) W1 ⟨HB1, (rb_lit f ho HB.size 0), (rb_fresh H3 hb 0), (rb_fresh H4 hb 0)⟩
     refine norm_ ?_ hN
     show _ = putAll _ _
     (first | (simp only [putAll, Act.put, List.setIfInBounds_toArray, List.set_cons_zero, List.set_cons_succ, i64_w, i32_w]; done) | (simp only [putAll, Act.put, List.setIfInBounds_toArray, List.set_cons_zero, List.set_cons_succ, i64_w, i32_w]; rfl))
    ·refine event_step (by rfl) (v := .slice (some ⟨W.heap.size, 0, none⟩) 4 4) (w1 := W.alloc (.cells (([67, 85, 66, 49] : List Int).map (Value.int .u8)).toArray 5)) (by first | (go_simp; done) | (go_simp; rfl)) ?_
     have hcb := cb_new W f 1 ([67, 85, 66, 49] : List Int)
     have hb : Below W.heap.size W (W.alloc (.cells (([67, 85, 66, 49] : List Int).map (Value.int .u8)).toArray 5)) := below_alloc (Below.refl _ _) _
     generalize W.alloc (.cells (([67, 85, 66, 49] : List Int).map (Value.int .u8)).toArray 5) = W1 at *
     have HB1 := below_step HB hb
     refine hK.out _ _ ⟨trivial, trivial⟩ (fun hHeld => ?_)
     clear hK K
     refine nm ?_
     have hN := ST00001001010 ((ow f W.heap.size 1), undef, undef, undef, undef, W.heap.size, undef, s20, undef, s23, undef) W1 ⟨HB1, ⟨hcb, HB.size⟩, (rb_fresh H3 hb 1), (rb_fresh H4 hb 1)⟩
     refine norm_ ?_ hN
     show _ = putAll _ _
     (first | (simp only [putAll, Act.put, List.setIfInBounds_toArray, List.set_cons_zero, List.set_cons_succ, i64_w, i32_w]; done) | (simp only [putAll, Act.put, List.setIfInBounds_toArray, List.set_cons_zero, List.set_cons_succ, i64_w, i32_w]; rfl))
   intro ST00000001010
   refine join_ (σ := (Nat → Nat) × (Value) × (Value) × (Value) × (Value) × (Nat) × (Value) × (Value) × (Value) × (Value) × (Value)) 11 (bb 27 10861295) (fun s_ => [(110, (.slice (some ⟨s_.2.2.2.2.2.1, 0, none⟩) 4 4)), (117, s_.2.2.2.2.2.2.2.2.2.1)]) (fun s_ w' => Below w7.heap.size w7 w' ∧ (CB w' s_.1 1 s_.2.2.2.2.2.1 ([67, 85, 66, 49] : List Int) (0, 0) ∧ w7.heap.size ≤ s_.2.2.2.2.2.1) ∧ RB w' w7.heap.size s_.1 3 s_.2.2.2.2.2.2.2.2.2.1 ([0] : List Int)) ?_ ?_
   ·rintro ⟨f, s4, s8, s10, s14, g, s19, s20, s22, s23, s24⟩ W ⟨HB, H2, H4⟩
    try dsimp only at *
    refine norm_ (a' := ?_) ?_ ?_
    rotate_left
    ·show putAll _ _ = _
     (first | (simp only [putAll, Act.put, List.setIfInBounds_toArray, List.set_cons_zero, List.set_cons_succ, i64_w, i32_w]; done) | (simp only [putAll, Act.put, List.setIfInBounds_toArray, List.set_cons_zero, List.set_cons_succ, i64_w, i32_w]; rfl))
    refine three_ (i := 4) (j := 17) (k := 20) (Ni := some 98) (Nj := some 111) (Nk := some 114) (bb 27 10861311) (bb 27 10992367) (bb 27 11909871) rfl rfl rfl rfl rfl rfl (three_of HT_.out (by kernel_rfl)) (by decide) (by decide) (by decide) (fun K hK => ?_) (fun K hK => ?_) (fun K hK => ?_)
    ·refine litB (by rfl) rfl (xs := ([] : List Int)) (by first | (go_simp; done) | (go_simp; rfl)) (by simp) ?_
     intro s W1 ho hb
     have HB1 := below_step HB hb
     refine hK.out _ _ ⟨trivial, trivial⟩ (fun hHeld => ?_)
     clear hK K
     refine nm ?_
     have hN := ST10001000010 ((ow f W.heap.size 0), s, undef, undef, undef, g, undef, undef, undef, s23, undef) W1 ⟨HB1, (rb_lit f ho HB.size 0), ⟨cb_fresh H2.1 hb 0, H2.2⟩, (rb_fresh H4 hb 0)⟩
     refine norm_ ?_ hN
     show _ = putAll _ _
     (first | (simp only [putAll, Act.put, List.setIfInBounds_toArray, List.set_cons_zero, List.set_cons_succ, i64_w, i32_w]; done) | (simp only [putAll, Act.put, List.setIfInBounds_toArray, List.set_cons_zero, List.set_cons_succ, i64_w, i32_w]; rfl))
    ·refine cvtB (by rfl) (.tmp 110) 4 rfl rfl H2.1 ?_
     intro W1 hC1 hoth hsz hos
     have HB1 := cvt_below HB H2.2 hoth hsz hos
     refine hK.out _ _ ⟨trivial, trivial⟩ (fun hHeld => ?_)
     clear hK K
     refine nm ?_
     have hN := ST00001100010 (f, undef, undef, undef, undef, g, undef, undef, undef, s23, undef) W1 ⟨HB1, ⟨hC1, H2.2⟩, (cvt_row H4 H2.1.2 (by decide) hoth)⟩
     refine norm_ ?_ hN
     show _ = putAll _ _
     (first | (simp only [putAll, Act.put, List.setIfInBounds_toArray, List.set_cons_zero, List.set_cons_succ, i64_w, i32_w]; done) | (simp only [putAll, Act.put, List.setIfInBounds_toArray, List.set_cons_zero, List.set_cons_succ, i64_w, i32_w]; rfl))
    ·refine litB (by rfl) rfl (xs := ([] : List Int)) (by first | (go_simp; done) | (go_simp; rfl)) (by simp) ?_
     intro s W1 ho hb
     have HB1 := below_step HB hb
     refine hK.out _ _ ⟨trivial, trivial⟩ (fun hHeld => ?_)
     clear hK K
     refine nm ?_
     have hN := ST00001001010 ((ow f W.heap.size 2), undef, undef, undef, undef, g, undef, s, undef, s23, undef) W1 ⟨HB1, ⟨cb_fresh H2.1 hb 2, H2.2⟩, (rb_lit f ho HB.size 2), (rb_fresh H4 hb 2)⟩
     refine norm_ ?_ hN
     show _ = putAll _ _
     (first | (simp only [putAll, Act.put, List.setIfInBounds_toArray, List.set_cons_zero, List.set_cons_succ, i64_w, i32_w]; done) | (simp only [putAll, Act.put, List.setIfInBounds_toArray, List.set_cons_zero, List.set_cons_succ, i64_w, i32_w]; rfl))
   intro ST00001000010
   refine join_ (σ := (Nat → Nat) × (Value) × (Value) × (Value) × (Value) × (Nat) × (Value) × (Value) × (Value) × (Value) × (Value)) 11 (bb 27 3521263) (fun s_ => [(110, (.slice (some ⟨s_.2.2.2.2.2.1, 0, none⟩) 4 4)), (114, s_.2.2.2.2.2.2.2.1)]) (fun s_ w' => Below w7.heap.size w7 w' ∧ (CB w' s_.1 1 s_.2.2.2.2.2.1 ([67, 85, 66, 49] : List Int) (0, 0) ∧ w7.heap.size ≤ s_.2.2.2.2.2.1) ∧ RB w' w7.heap.size s_.1 2 s_.2.2.2.2.2.2.2.1 ([] : List Int)) ?_ ?_
   ·rintro ⟨f, s4, s8, s10, s14, g, s19, s20, s22, s23, s24⟩ W ⟨HB, H2, H3⟩
    try dsimp only at *
    refine norm_ (a' := ?_) ?_ ?_
    rotate_left
    ·show putAll _ _ = _
     (first | (simp only [putAll, Act.put, List.setIfInBounds_toArray, List.set_cons_zero, List.set_cons_succ, i64_w, i32_w]; done) | (simp only [putAll, Act.put, List.setIfInBounds_toArray, List.set_cons_zero, List.set_cons_succ, i64_w, i32_w]; rfl))
    refine three_ (i := 4) (j := 17) (k := 23) (Ni := some 98) (Nj := some 111) (Nk := some 117) (bb 27 3521279) (bb 27 3652335) (bb 27 11909871) rfl rfl rfl rfl rfl rfl (three_of HT_.out (by kernel_rfl)) (by decide) (by decide) (by decide) (fun K hK => ?_) (fun K hK => ?_) (fun K hK => ?_)
    ·refine litB (by rfl) rfl (xs := ([] : List Int)) (by first | (go_simp; done) | (go_simp; rfl)) (by simp) ?_
     intro s W1 ho hb
     have HB1 := below_step HB hb
     refine hK.out _ _ ⟨trivial, trivial⟩ (fun hHeld => ?_)
     clear hK K
     refine nm ?_
     have hN := ST10001001000 ((ow f W.heap.size 0), s, undef, undef, undef, g, undef, s20, undef, undef, undef) W1 ⟨HB1, (rb_lit f ho HB.size 0), ⟨cb_fresh H2.1 hb 0, H2.2⟩, (rb_fresh H3 hb 0)⟩
     refine norm_ ?_ hN
     show _ = putAll _ _
     (first | (simp only [putAll, Act.put, List.setIfInBounds_toArray, List.set_cons_zero, List.set_cons_succ, i64_w, i32_w]; done) | (simp only [putAll, Act.put, List.setIfInBounds_toArray, List.set_cons_zero, List.set_cons_succ, i64_w, i32_w]; rfl))
    ·refine cvtB (by rfl) (.tmp 110) 4 rfl rfl H2.1 ?_
     intro W1 hC1 hoth hsz hos
     have HB1 := cvt_below HB H2.2 hoth hsz hos
     refine hK.out _ _ ⟨trivial, trivial⟩ (fun hHeld => ?_)
     clear hK K
     refine nm ?_
     have hN := ST00001101000 (f, undef, undef, undef, undef, g, undef, s20, undef, undef, undef) W1 ⟨HB1, ⟨hC1, H2.2⟩, (cvt_row H3 H2.1.2 (by decide) hoth)⟩
     refine norm_ ?_ hN
     show _ = putAll _ _
     (first | (simp only [putAll, Act.put, List.setIfInBounds_toArray, List.set_cons_zero, List.set_cons_succ, i64_w, i32_w]; done) | (simp only [putAll, Act.put, List.setIfInBounds_toArray, List.set_cons_zero, List.set_cons_succ, i64_w, i32_w]; rfl))
    ·refine litB (by rfl) rfl (xs := ([0] : List Int)) (by first | (go_simp; done) | (go_simp; rfl)) (by simp) ?_
     intro s W1 ho hb
     have HB1 := below_step HB hb
     refine hK.out _ _ ⟨trivial, trivial⟩ (fun hHeld => ?_)
     clear hK K
     refine nm ?_
     have hN := ST00001001010 ((ow f W.heap.size 3), undef, undef, undef, undef, g, undef, s20, undef, s, undef) W1 ⟨HB1, ⟨cb_fresh H2.1 hb 3, H2.2⟩, (rb_fresh H3 hb 3), (rb_lit f ho HB.size 3)⟩
     refine norm_ ?_ hN
     show _ = putAll _ _
     (first | (simp only [putAll, Act.put, List.setIfInBounds_toArray, List.set_cons_zero, List.set_cons_succ, i64_w, i32_w]; done) | (simp only [putAll, Act.put, List.setIfInBounds_toArray, List.set_cons_zero, List.set_cons_succ, i64_w, i32_w]; rfl))
   intro ST00001001000
   refine join_ (σ := (Nat → Nat) × (Value) × (Value) × (Value) × (Value) × (Nat) × (Value) × (Value) × (Value) × (Value) × (Value)) 11 (bb 27 2603759) (fun s_ => [(110, (.slice (some ⟨s_.2.2.2.2.2.1, 0, none⟩) 4 4)), (111, (.slice (some ⟨s_.2.2.2.2.2.1, 0, none⟩) 4 4))]) (fun s_ w' => Below w7.heap.size w7 w' ∧ (CB w' s_.1 1 s_.2.2.2.2.2.1 ([67, 85, 66, 49] : List Int) (4, 5) ∧ w7.heap.size ≤ s_.2.2.2.2.2.1)) ?_ ?_
   ·rintro ⟨f, s4, s8, s10, s14, g, s19, s20, s22, s23, s24⟩ W ⟨HB, H2⟩
    try dsimp only at *
    refine norm_ (a' := ?_) ?_ ?_
    rotate_left
    ·show putAll _ _ = _
     (first | (simp only [putAll, Act.put, List.setIfInBounds_toArray, List.set_cons_zero, List.set_cons_succ, i64_w, i32_w]; done) | (simp only [putAll, Act.put, List.setIfInBounds_toArray, List.set_cons_zero, List.set_cons_succ, i64_w, i32_w]; rfl))
    refine three_ (i := 4) (j := 20) (k := 23) (Ni := some 98) (Nj := some 114) (Nk := some 117) (bb 27 2603775) (bb 27 3652335) (bb 27 10992367) rfl rfl rfl rfl rfl rfl (three_of HT_.out (by kernel_rfl)) (by decide) (by decide) (by decide) (fun K hK => ?_) (fun K hK => ?_) (fun K hK => ?_)
    ·refine litB (by rfl) rfl (xs := ([] : List Int)) (by first | (go_simp; done) | (go_simp; rfl)) (by simp) ?_
     intro s W1 ho hb
     have HB1 := below_step HB hb
     refine hK.out _ _ ⟨trivial, trivial⟩ (fun hHeld => ?_)
     clear hK K
     refine nm ?_
     have hN := ST10001100000 ((ow f W.heap.size 0), s, undef, undef, undef, g, undef, undef, undef, undef, undef) W1 ⟨HB1, (rb_lit f ho HB.size 0), ⟨cb_fresh H2.1 hb 0, H2.2⟩⟩
     refine norm_ ?_ hN
     show _ = putAll _ _
     (first | (simp only [putAll, Act.put, List.setIfInBounds_toArray, List.set_cons_zero, List.set_cons_succ, i64_w, i32_w]; done) | (simp only [putAll, Act.put, List.setIfInBounds_toArray, List.set_cons_zero, List.set_cons_succ, i64_w, i32_w]; rfl))
    ·refine litB (by rfl) rfl (xs := ([] : List Int)) (by first | (go_simp; done) | (go_simp; rfl)) (by simp) ?_
     intro s W1 ho hb
     have HB1 := below_step HB hb
     refine hK.out _ _ ⟨trivial, trivial⟩ (fun hHeld => ?_)
     clear hK K
     refine nm ?_
     have hN := ST00001101000 ((ow f W.heap.size 2), undef, undef, undef, undef, g, undef, s, undef, undef, undef) W1 ⟨HB1, ⟨cb_fresh H2.1 hb 2, H2.2⟩, (rb_lit f ho HB.size 2)⟩
     refine norm_ ?_ hN
     show _ = putAll _ _
     (first | (simp only [putAll, Act.put, List.setIfInBounds_toArray, List.set_cons_zero, List.set_cons_succ, i64_w, i32_w]; done) | (simp only [putAll, Act.put, List.setIfInBounds_toArray, List.set_cons_zero, List.set_cons_succ, i64_w, i32_w]; rfl))
    ·refine litB (by rfl) rfl (xs := ([0] : List Int)) (by first | (go_simp; done) | (go_simp; rfl)) (by simp) ?_
     intro s W1 ho hb
     have HB1 := below_step HB hb
     refine hK.out _ _ ⟨trivial, trivial⟩ (fun hHeld => ?_)
     clear hK K
     refine nm ?_
     have hN := ST00001100010 ((ow f W.heap.size 3), undef, undef, undef, undef, g, undef, undef, undef, s, undef) W1 ⟨HB1, ⟨cb_fresh H2.1 hb 3, H2.2⟩, (rb_lit f ho HB.size 3)⟩
     refine norm_ ?_ hN
     show _ = putAll _ _
     (first | (simp only [putAll, Act.put, List.setIfInBounds_toArray, List.set_cons_zero, List.set_cons_succ, i64_w, i32_w]; done) | (simp only [putAll, Act.put, List.setIfInBounds_toArray, List.set_cons_zero, List.set_cons_succ, i64_w, i32_w]; rfl))
   intro ST00001100000
   refine join_ (σ := (Nat → Nat) × (Value) × (Value) × (Value) × (Value) × (Nat) × (Value) × (Value) × (Value) × (Value) × (Value)) 11 (bb 27 10795775) (fun s_ => [(98, s_.2.1), (117, s_.2.2.2.2.2.2.2.2.2.1)]) (fun s_ w' => Below w7.heap.size w7 w' ∧ RB w' w7.heap.size s_.1 0 s_.2.1 ([] : List Int) ∧ RB w' w7.heap.size s_.1 3 s_.2.2.2.2.2.2.2.2.2.1 ([0] : List Int)) ?_ ?_
   ·rintro ⟨f, s4, s8, s10, s14, g, s19, s20, s22, s23, s24⟩ W ⟨HB, H1, H4⟩
    try dsimp only at *
    refine norm_ (a' := ?_) ?_ ?_
    rotate_left
    ·show putAll _ _ = _
     (first | (simp only [putAll, Act.put, List.setIfInBounds_toArray, List.set_cons_zero, List.set_cons_succ, i64_w, i32_w]; done) | (simp only [putAll, Act.put, List.setIfInBounds_toArray, List.set_cons_zero, List.set_cons_succ, i64_w, i32_w]; rfl))
    refine three_ (i := 8) (j := 16) (k := 20) (Ni := some 102) (Nj := some 110) (Nk := some 114) (bb 27 10796031) (bb 27 10861311) (bb 27 11844351) rfl rfl rfl rfl rfl rfl (three_of HT_.out (by kernel_rfl)) (by decide) (by decide) (by decide) (fun K hK => ?_) (fun K hK => ?_) (fun K hK => ?_)
    ·refine appB (w0 := w7) (base := w7.heap.size) (xs := ([] : List Int)) (ys := b1) (A := Ab) (c := cb) (by rfl) (.tmp 98) (.tmp 101) rfl rfl rfl H1 (Kd.C_below S1.out HB) HB HB.size ?aL ?_
     (case aL => have := HLEN.out; have := HFEW.out; simp only [List.length_append, List.length_nil, List.length_cons]; omega)
     intro s W1 ho HB1 hg
     refine hK.out _ _ ⟨trivial, trivial⟩ (fun hHeld => ?_)
     clear hK K
     refine nm ?_
     have hN := ST11000000010 ((ow f W.heap.size 0), s4, s, undef, undef, 0, undef, undef, undef, s23, undef) W1 ⟨HB1, ho, (rb_app H4 H1 (by decide) hg 0)⟩
     refine norm_ ?_ hN
     show _ = putAll _ _
     (first | (simp only [putAll, Act.put, List.setIfInBounds_toArray, List.set_cons_zero, List.set_cons_succ, i64_w, i32_w]; done) | (simp only [putAll, Act.put, List.setIfInBounds_toArray, List.set_cons_zero, List.set_cons_succ, i64_w, i32_w]; rfl))
    ·refine event_step (by rfl) (v := .slice (some ⟨W.heap.size, 0, none⟩) 4 4) (w1 := W.alloc (.cells (([67, 85, 66, 49] : List Int).map (Value.int .u8)).toArray 5)) (by first | (go_simp; done) | (go_simp; rfl)) ?_
     have hcb := cb_new W f 1 ([67, 85, 66, 49] : List Int)
     have hb : Below W.heap.size W (W.alloc (.cells (([67, 85, 66, 49] : List Int).map (Value.int .u8)).toArray 5)) := below_alloc (Below.refl _ _) _
     generalize W.alloc (.cells (([67, 85, 66, 49] : List Int).map (Value.int .u8)).toArray 5) = W1 at *
     have HB1 := below_step HB hb
     refine hK.out _ _ ⟨trivial, trivial⟩ (fun hHeld => ?_)
     clear hK K
     refine nm ?_
     have hN := ST10001000010 ((ow f W.heap.size 1), s4, undef, undef, undef, W.heap.size, undef, undef, undef, s23, undef) W1 ⟨HB1, (rb_fresh H1 hb 1), ⟨hcb, HB.size⟩, (rb_fresh H4 hb 1)⟩
     refine norm_ ?_ hN
     show _ = putAll _ _
     (first | (simp only [putAll, Act.put, List.setIfInBounds_toArray, List.set_cons_zero, List.set_cons_succ, i64_w, i32_w]; done) | (simp only [putAll, Act.put, List.setIfInBounds_toArray, List.set_cons_zero, List.set_cons_succ, i64_w, i32_w]; rfl))
    ·refine litB (by rfl) rfl (xs := ([] : List Int)) (by first | (go_simp; done) | (go_simp; rfl)) (by simp) ?_
     intro s W1 ho hb
     have HB1 := below_step HB hb
     refine hK.out _ _ ⟨trivial, trivial⟩ (fun hHeld => ?_)
     clear hK K
     refine nm ?_
     have hN := ST10000001010 ((ow f W.heap.size 2), s4, undef, undef, undef, 0, undef, s, undef, s23, undef) W1 ⟨HB1, (rb_fresh H1 hb 2), (rb_lit f ho HB.size 2), (rb_fresh H4 hb 2)⟩
     refine norm_ ?_ hN
     show _ = putAll _ _
     (first | (simp only [putAll, Act.put, List.setIfInBounds_toArray, List.set_cons_zero, List.set_cons_succ, i64_w, i32_w]; done) | (simp only [putAll, Act.put, List.setIfInBounds_toArray, List.set_cons_zero, List.set_cons_succ, i64_w, i32_w]; rfl))
   intro ST10000000010
   refine join_ (σ := (Nat → Nat) × (Value) × (Value) × (Value) × (Value) × (Nat) × (Value) × (Value) × (Value) × (Value) × (Value)) 11 (bb 27 3455743) (fun s_ => [(98, s_.2.1), (114, s_.2.2.2.2.2.2.2.1)]) (fun s_ w' => Below w7.heap.size w7 w' ∧ RB w' w7.heap.size s_.1 0 s_.2.1 ([] : List Int) ∧ RB w' w7.heap.size s_.1 2 s_.2.2.2.2.2.2.2.1 ([] : List Int)) ?_ ?_
   ·rintro ⟨f, s4, s8, s10, s14, g, s19, s20, s22, s23, s24⟩ W ⟨HB, H1, H3⟩
    try dsimp only at *
    refine norm_ (a' := ?_) ?_ ?_
    rotate_left
    ·show putAll _ _ = _
     (first | (simp only [putAll, Act.put, List.setIfInBounds_toArray, List.set_cons_zero, List.set_cons_succ, i64_w, i32_w]; done) | (simp only [putAll, Act.put, List.setIfInBounds_toArray, List.set_cons_zero, List.set_cons_succ, i64_w, i32_w]; rfl))
    refine three_ (i := 8) (j := 16) (k := 23) (Ni := some 102) (Nj := some 110) (Nk := some 117) (bb 27 3455999) (bb 27 3521279) (bb 27 11844351) rfl rfl rfl rfl rfl rfl (three_of HT_.out (by kernel_rfl)) (by decide) (by decide) (by decide) (fun K hK => ?_) (fun K hK => ?_) (fun K hK => ?_)
    ·refine appB (w0 := w7) (base := w7.heap.size) (xs := ([] : List Int)) (ys := b1) (A := Ab) (c := cb) (by rfl) (.tmp 98) (.tmp 101) rfl rfl rfl H1 (Kd.C_below S1.out HB) HB HB.size ?aL ?_
     (case aL => have := HLEN.out; have := HFEW.out; simp only [List.length_append, List.length_nil, List.length_cons]; omega)
     intro s W1 ho HB1 hg
     refine hK.out _ _ ⟨trivial, trivial⟩ (fun hHeld => ?_)
     clear hK K
     refine nm ?_
     have hN := ST11000001000 ((ow f W.heap.size 0), s4, s, undef, undef, 0, undef, s20, undef, undef, undef) W1 ⟨HB1, ho, (rb_app H3 H1 (by decide) hg 0)⟩
     refine norm_ ?_ hN
     show _ = putAll _ _
     (first | (simp only [putAll, Act.put, List.setIfInBounds_toArray, List.set_cons_zero, List.set_cons_succ, i64_w, i32_w]; done) | (simp only [putAll, Act.put, List.setIfInBounds_toArray, List.set_cons_zero, List.set_cons_succ, i64_w, i32_w]; rfl))
    ·refine event_step (by rfl) (v := .slice (some ⟨W.heap.size, 0, none⟩) 4 4) (w1 := W.alloc (.cells (([67, 85, 66, 49] : List Int).map (Value.int .u8)).toArray 5)) (by first | (go_simp; done) | (go_simp; rfl)) ?_
     have hcb := cb_new W f 1 ([67, 85, 66, 49] : List Int)
     have hb : Below W.heap.size W (W.alloc (.cells (([67, 85, 66, 49] : List Int).map (Value.int .u8)).toArray 5)) := below_alloc (Below.refl _ _) _
     generalize W.alloc (.cells (([67, 85, 66, 49] : List Int).map (Value.int .u8)).toArray 5) = W1 at *
     have HB1 := below_step HB hb
     refine hK.out _ _ ⟨trivial, trivial⟩ (fun hHeld => ?_)
     clear hK K
     refine nm ?_
     have hN := ST10001001000 ((ow f W.heap.size 1), s4, undef, undef, undef, W.heap.size, undef, s20, undef, undef, undef) W1 ⟨HB1, (rb_fresh H1 hb 1), ⟨hcb, HB.size⟩, (rb_fresh H3 hb 1)⟩
     refine norm_ ?_ hN
     show _ = putAll _ _
     (first | (simp only [putAll, Act.put, List.setIfInBounds_toArray, List.set_cons_zero, List.set_cons_succ, i64_w, i32_w]; done) | (simp only [putAll, Act.put, List.setIfInBounds_toArray, List.set_cons_zero, List.set_cons_succ, i64_w, i32_w]; rfl))
    ·refine litB (by rfl) rfl (xs := ([0] : List Int)) (by first | (go_simp; done) | (go_simp; rfl)) (by simp) ?_
     intro s W1 ho hb
     have HB1 := below_step HB hb
     refine hK.out _ _ ⟨trivial, trivial⟩ (fun hHeld => ?_)
     clear hK K
     refine nm ?_
     have hN := ST10000001010 ((ow f W.heap.size 3), s4, undef, undef, undef, 0, undef, s20, undef, s, undef) W1 ⟨HB1, (rb_fresh H1 hb 3), (rb_fresh H3 hb 3), (rb_lit f ho HB.size 3)⟩
     refine norm_ ?_ hN
     show _ = putAll _ _
     (first | (simp only [putAll, Act.put, List.setIfInBounds_toArray, List.set_cons_zero, List.set_cons_succ, i64_w, i32_w]; done) | (simp only [putAll, Act.put, List.setIfInBounds_toArray, List.set_cons_zero, List.set_cons_succ, i64_w, i32_w]; rfl))
   intro ST10000001000
   refine join_ (σ := (Nat → Nat) × (Value) × (Value) × (Value) × (Value) × (Nat) × (Value) × (Value) × (Value) × (Value) × (Value)) 11 (bb 27 2472703) (fun s_ => [(98, s_.2.1), (110, (.slice (some ⟨s_.2.2.2.2.2.1, 0, none⟩) 4 4))]) (fun s_ w' => Below w7.heap.size w7 w' ∧ RB w' w7.heap.size s_.1 0 s_.2.1 ([] : List Int) ∧ (CB w' s_.1 1 s_.2.2.2.2.2.1 ([67, 85, 66, 49] : List Int) (0, 0) ∧ w7.heap.size ≤ s_.2.2.2.2.2.1)) ?_ ?_
   ·rintro ⟨f, s4, s8, s10, s14, g, s19, s20, s22, s23, s24⟩ W ⟨HB, H1, H2⟩
    try dsimp only at *
    refine norm_ (a' := ?_) ?_ ?_
    rotate_left
    ·show putAll _ _ = _
     (first | (simp only [putAll, Act.put, List.setIfInBounds_toArray, List.set_cons_zero, List.set_cons_succ, i64_w, i32_w]; done) | (simp only [putAll, Act.put, List.setIfInBounds_toArray, List.set_cons_zero, List.set_cons_succ, i64_w, i32_w]; rfl))
    refine four_ (i := 8) (j := 17) (k := 20) (m := 23) (Ni := some 102) (Nj := some 111) (Nk := some 114) (Nm := some 117) (bb 27 2472959) (bb 27 2603775) (bb 27 3521279) (bb 27 10861311) rfl rfl rfl rfl rfl rfl rfl rfl (four_of HT_.out (by kernel_rfl)) (by decide) (by decide) (by decide) (by decide) (fun K hK => ?_) (fun K hK => ?_) (fun K hK => ?_) (fun K hK => ?_)
    ·refine appB (w0 := w7) (base := w7.heap.size) (xs := ([] : List Int)) (ys := b1) (A := Ab) (c := cb) (by rfl) (.tmp 98) (.tmp 101) rfl rfl rfl H1 (Kd.C_below S1.out HB) HB HB.size ?aL ?_
     (case aL => have := HLEN.out; have := HFEW.out; simp only [List.length_append, List.length_nil, List.length_cons]; omega)
     intro s W1 ho HB1 hg
     refine hK.out _ _ ⟨trivial, trivial⟩ (fun hHeld => ?_)
     clear hK K
     refine nm ?_
     have hN := ST11001000000 ((ow f W.heap.size 0), s4, s, undef, undef, g, undef, undef, undef, undef, undef) W1 ⟨HB1, ho, ⟨cb_app H2.1 H1 (by decide) hg 0, H2.2⟩⟩
     refine norm_ ?_ hN
     show _ = putAll _ _
     (first | (simp only [putAll, Act.put, List.setIfInBounds_toArray, List.set_cons_zero, List.set_cons_succ, i64_w, i32_w]; done) | (simp only [putAll, Act.put, List.setIfInBounds_toArray, List.set_cons_zero, List.set_cons_succ, i64_w, i32_w]; rfl))
    ·refine cvtB (by rfl) (.tmp 110) 4 rfl rfl H2.1 ?_
     intro W1 hC1 hoth hsz hos
     have HB1 := cvt_below HB H2.2 hoth hsz hos
     refine hK.out _ _ ⟨trivial, trivial⟩ (fun hHeld => ?_)
     clear hK K
     refine nm ?_
     have hN := ST10001100000 (f, s4, undef, undef, undef, g, undef, undef, undef, undef, undef) W1 ⟨HB1, (cvt_row H1 H2.1.2 (by decide) hoth), ⟨hC1, H2.2⟩⟩
     refine norm_ ?_ hN
     show _ = putAll _ _
     (first | (simp only [putAll, Act.put, List.setIfInBounds_toArray, List.set_cons_zero, List.set_cons_succ, i64_w, i32_w]; done) | (simp only [putAll, Act.put, List.setIfInBounds_toArray, List.set_cons_zero, List.set_cons_succ, i64_w, i32_w]; rfl))
    ·refine litB (by rfl) rfl (xs := ([] : List Int)) (by first | (go_simp; done) | (go_simp; rfl)) (by simp) ?_
     intro s W1 ho hb
     have HB1 := below_step HB hb
     refine hK.out _ _ ⟨trivial, trivial⟩ (fun hHeld => ?_)
     clear hK K
     refine nm ?_
     have hN := ST10001001000 ((ow f W.heap.size 2), s4, undef, undef, undef, g, undef, s, undef, undef, undef) W1 ⟨HB1, (rb_fresh H1 hb 2), ⟨cb_fresh H2.1 hb 2, H2.2⟩, (rb_lit f ho HB.size 2)⟩
     refine norm_ ?_ hN
     show _ = putAll _ _
     (first | (simp only [putAll, Act.put, List.setIfInBounds_toArray, List.set_cons_zero, List.set_cons_succ, i64_w, i32_w]; done) | (simp only [putAll, Act.put, List.setIfInBounds_toArray, List.set_cons_zero, List.set_cons_succ, i64_w, i32_w]; rfl))
    ·refine litB (by rfl) rfl (xs := ([0] : List Int)) (by first | (go_simp; done) | (go_simp; rfl)) (by simp) ?_
     intro s W1 ho hb
     have HB1 := below_step HB hb
     refine hK.out _ _ ⟨trivial, trivial⟩ (fun hHeld => ?_)
     clear hK K
     refine nm ?_
     have hN := ST10001000010 ((ow f W.heap.size 3), s4, undef, undef, undef, g, undef, undef, undef, s, undef) W1 ⟨HB1, (rb_fresh H1 hb 3), ⟨cb_fresh H2.1 hb 3, H2.2⟩, (rb_lit f ho HB.size 3)⟩
     refine norm_ ?_ hN
     show _ = putAll _ _
     (first | (simp only [putAll, Act.put, List.setIfInBounds_toArray, List.set_cons_zero, List.set_cons_succ, i64_w, i32_w]; done) | (simp only [putAll, Act.put, List.setIfInBounds_toArray, List.set_cons_zero, List.set_cons_succ, i64_w, i32_w]; rfl))
   intro ST10001000000
   refine join_ (σ := (Nat → Nat) × (Value) × (Value) × (Value) × (Value) × (Nat) × (Value) × (Value) × (Value) × (Value) × (Value)) 11 (bb 27 2407423) (fun s_ => [(98, s_.2.1), (102, s_.2.2.1)]) (fun s_ w' => Below w7.heap.size w7 w' ∧ RB w' w7.heap.size s_.1 0 s_.2.2.1 (([] : List Int) ++ b1)) ?_ ?_
   ·rintro ⟨f, s4, s8, s10, s14, g, s19, s20, s22, s23, s24⟩ W ⟨HB, H1⟩
    try dsimp only at *
    refine norm_ (a' := ?_) ?_ ?_
    rotate_left
    ·show putAll _ _ = _
     (first | (simp only [putAll, Act.put, List.setIfInBounds_toArray, List.set_cons_zero, List.set_cons_succ, i64_w, i32_w]; done) | (simp only [putAll, Act.put, List.setIfInBounds_toArray, List.set_cons_zero, List.set_cons_succ, i64_w, i32_w]; rfl))
    refine four_ (i := 10) (j := 16) (k := 20) (m := 23) (Ni := some 104) (Nj := some 110) (Nk := some 114) (Nm := some 117) (bb 27 2408447) (bb 27 2472959) (bb 27 3455999) (bb 27 10796031) rfl rfl rfl rfl rfl rfl rfl rfl (four_of HT_.out (by kernel_rfl)) (by decide) (by decide) (by decide) (by decide) (fun K hK => ?_) (fun K hK => ?_) (fun K hK => ?_) (fun K hK => ?_)
    ·refine appB (w0 := w7) (base := w7.heap.size) (xs := (([] : List Int) ++ b1)) (ys := l7) (A := A7) (c := c7) (by rfl) (.tmp 102) (.tmp 103) rfl rfl rfl H1 (Kd.C_below S7.out HB) HB HB.size ?aL ?_
     (case aL => have := HLEN.out; have := HFEW.out; simp only [List.length_append, List.length_nil, List.length_cons]; omega)
     intro s W1 ho HB1 hg
     refine hK.out _ _ ⟨trivial, trivial⟩ (fun hHeld => ?_)
     clear hK K
     refine nm ?_
     have hN := ST11100000000 ((ow f W.heap.size 0), s4, s8, s, undef, 0, undef, undef, undef, undef, undef) W1 ⟨HB1, ho⟩
     refine norm_ ?_ hN
     show _ = putAll _ _
     (first | (simp only [putAll, Act.put, List.setIfInBounds_toArray, List.set_cons_zero, List.set_cons_succ, i64_w, i32_w]; done) | (simp only [putAll, Act.put, List.setIfInBounds_toArray, List.set_cons_zero, List.set_cons_succ, i64_w, i32_w]; rfl))
    ·refine event_step (by rfl) (v := .slice (some ⟨W.heap.size, 0, none⟩) 4 4) (w1 := W.alloc (.cells (([67, 85, 66, 49] : List Int).map (Value.int .u8)).toArray 5)) (by first | (go_simp; done) | (go_simp; rfl)) ?_
     have hcb := cb_new W f 1 ([67, 85, 66, 49] : List Int)
     have hb : Below W.heap.size W (W.alloc (.cells (([67, 85, 66, 49] : List Int).map (Value.int .u8)).toArray 5)) := below_alloc (Below.refl _ _) _
     generalize W.alloc (.cells (([67, 85, 66, 49] : List Int).map (Value.int .u8)).toArray 5) = W1 at *
     have HB1 := below_step HB hb
     refine hK.out _ _ ⟨trivial, trivial⟩ (fun hHeld => ?_)
     clear hK K
     refine nm ?_
     have hN := ST11001000000 ((ow f W.heap.size 1), s4, s8, undef, undef, W.heap.size, undef, undef, undef, undef, undef) W1 ⟨HB1, (rb_fresh H1 hb 1), ⟨hcb, HB.size⟩⟩
     refine norm_ ?_ hN
     show _ = putAll _ _
     (first | (simp only [putAll, Act.put, List.setIfInBounds_toArray, List.set_cons_zero, List.set_cons_succ, i64_w, i32_w]; done) | (simp only [putAll, Act.put, List.setIfInBounds_toArray, List.set_cons_zero, List.set_cons_succ, i64_w, i32_w]; rfl))
    ·refine litB (by rfl) rfl (xs := ([] : List Int)) (by first | (go_simp; done) | (go_simp; rfl)) (by simp) ?_
     intro s W1 ho hb
     have HB1 := below_step HB hb
     refine hK.out _ _ ⟨trivial, trivial⟩ (fun hHeld => ?_)
     clear hK K
     refine nm ?_
     have hN := ST11000001000 ((ow f W.heap.size 2), s4, s8, undef, undef, 0, undef, s, undef, undef, undef) W1 ⟨HB1, (rb_fresh H1 hb 2), (rb_lit f ho HB.size 2)⟩
     refine norm_ ?_ hN
     show _ = putAll _ _
     (first | (simp only [putAll, Act.put, List.setIfInBounds_toArray, List.set_cons_zero, List.set_cons_succ, i64_w, i32_w]; done) | (simp only [putAll, Act.put, List.setIfInBounds_toArray, List.set_cons_zero, List.set_cons_succ, i64_w, i32_w]; rfl))
    ·refine litB (by rfl) rfl (xs := ([0] : List Int)) (by first | (go_simp; done) | (go_simp; rfl)) (by simp) ?_
     intro s W1 ho hb
     have HB1 := below_step HB hb
     refine hK.out _ _ ⟨trivial, trivial⟩ (fun hHeld => ?_)
     clear hK K
     refine nm ?_
     have hN := ST11000000010 ((ow f W.heap.size 3), s4, s8, undef, undef, 0, undef, undef, undef, s, undef) W1 ⟨HB1, (rb_fresh H1 hb 3), (rb_lit f ho HB.size 3)⟩
     refine norm_ ?_ hN
     show _ = putAll _ _
     (first | (simp only [putAll, Act.put, List.setIfInBounds_toArray, List.set_cons_zero, List.set_cons_succ, i64_w, i32_w]; done) | (simp only [putAll, Act.put, List.setIfInBounds_toArray, List.set_cons_zero, List.set_cons_succ, i64_w, i32_w]; rfl))
   intro ST11000000000
   refine join_ (σ := (Nat → Nat) × (Value) × (Value) × (Value) × (Value) × (Nat) × (Value) × (Value) × (Value) × (Value) × (Value)) 12 (bb 27 10795759) (fun s_ => [(117, s_.2.2.2.2.2.2.2.2.2.1)]) (fun s_ w' => Below w7.heap.size w7 w' ∧ RB w' w7.heap.size s_.1 3 s_.2.2.2.2.2.2.2.2.2.1 ([0] : List Int)) ?_ ?_
   ·rintro ⟨f, s4, s8, s10, s14, g, s19, s20, s22, s23, s24⟩ W ⟨HB, H4⟩
    try dsimp only at *
    refine norm_ (a' := ?_) ?_ ?_
    rotate_left
    ·show putAll _ _ = _
     (first | (simp only [putAll, Act.put, List.setIfInBounds_toArray, List.set_cons_zero, List.set_cons_succ, i64_w, i32_w]; done) | (simp only [putAll, Act.put, List.setIfInBounds_toArray, List.set_cons_zero, List.set_cons_succ, i64_w, i32_w]; rfl))
    refine three_ (i := 4) (j := 16) (k := 20) (Ni := some 98) (Nj := some 110) (Nk := some 114) (bb 27 10795775) (bb 27 10861295) (bb 27 11844335) rfl rfl rfl rfl rfl rfl (three_of HT_.out (by kernel_rfl)) (by decide) (by decide) (by decide) (fun K hK => ?_) (fun K hK => ?_) (fun K hK => ?_)
    ·refine litB (by rfl) rfl (xs := ([] : List Int)) (by first | (go_simp; done) | (go_simp; rfl)) (by simp) ?_
     intro s W1 ho hb
     have HB1 := below_step HB hb
     refine hK.out _ _ ⟨trivial, trivial⟩ (fun hHeld => ?_)
     clear hK K
     refine nm ?_
     have hN := ST10000000010 ((ow f W.heap.size 0), s, undef, undef, undef, 0, undef, undef, undef, s23, undef) W1 ⟨HB1, (rb_lit f ho HB.size 0), (rb_fresh H4 hb 0)⟩
     refine norm_ ?_ hN
     show _ = putAll _ _
     (first | (simp only [putAll, Act.put, List.setIfInBounds_toArray, List.set_cons_zero, List.set_cons_succ, i64_w, i32_w]; done) | (simp only [putAll, Act.put, List.setIfInBounds_toArray, List.set_cons_zero, List.set_cons_succ, i64_w, i32_w]; rfl))
    ·refine event_step (by rfl) (v := .slice (some ⟨W.heap.size, 0, none⟩) 4 4) (w1 := W.alloc (.cells (([67, 85, 66, 49] : List Int).map (Value.int .u8)).toArray 5)) (by first | (go_simp; done) | (go_simp; rfl)) ?_
     have hcb := cb_new W f 1 ([67, 85, 66, 49] : List Int)
     have hb : Below W.heap.size W (W.alloc (.cells (([67, 85, 66, 49] : List Int).map (Value.int .u8)).toArray 5)) := below_alloc (Below.refl _ _) _
     generalize W.alloc (.cells (([67, 85, 66, 49] : List Int).map (Value.int .u8)).toArray 5) = W1 at *
     have HB1 := below_step HB hb
     refine hK.out _ _ ⟨trivial, trivial⟩ (fun hHeld => ?_)
     clear hK K
     refine nm ?_
     have hN := ST00001000010 ((ow f W.heap.size 1), undef, undef, undef, undef, W.heap.size, undef, undef, undef, s23, undef) W1 ⟨HB1, ⟨hcb, HB.size⟩, (rb_fresh H4 hb 1)⟩
     refine norm_ ?_ hN
     show _ = putAll _ _
     (first | (simp only [putAll, Act.put, List.setIfInBounds_toArray, List.set_cons_zero, List.set_cons_succ, i64_w, i32_w]; done) | (simp only [putAll, Act.put, List.setIfInBounds_toArray, List.set_cons_zero, List.set_cons_succ, i64_w, i32_w]; rfl))
    ·refine litB (by rfl) rfl (xs := ([] : List Int)) (by first | (go_simp; done) | (go_simp; rfl)) (by simp) ?_
     intro s W1 ho hb
     have HB1 := below_step HB hb
     refine hK.out _ _ ⟨trivial, trivial⟩ (fun hHeld => ?_)
     clear hK K
     refine nm ?_
     have hN := ST00000001010 ((ow f W.heap.size 2), undef, undef, undef, undef, 0, undef, s, undef, s23, undef) W1 ⟨HB1, (rb_lit f ho HB.size 2), (rb_fresh H4 hb 2)⟩
     refine norm_ ?_ hN
     show _ = putAll _ _
     (first | (simp only [putAll, Act.put, List.setIfInBounds_toArray, List.set_cons_zero, List.set_cons_succ, i64_w, i32_w]; done) | (simp only [putAll, Act.put, List.setIfInBounds_toArray, List.set_cons_zero, List.set_cons_succ, i64_w, i32_w]; rfl))
   intro ST00000000010
   refine join_ (σ := (Nat → Nat) × (Value) × (Value) × (Value) × (Value) × (Nat) × (Value) × (Value) × (Value) × (Value) × (Value)) 12 (bb 27 3455727) (fun s_ => [(114, s_.2.2.2.2.2.2.2.1)]) (fun s_ w' => Below w7.heap.size w7 w' ∧ RB w' w7.heap.size s_.1 2 s_.2.2.2.2.2.2.2.1 ([] : List Int)) ?_ ?_
   ·rintro ⟨f, s4, s8, s10, s14, g, s19, s20, s22, s23, s24⟩ W ⟨HB, H3⟩
    try dsimp only at *
    refine norm_ (a' := ?_) ?_ ?_
    rotate_left
    ·show putAll _ _ = _
     (first | (simp only [putAll, Act.put, List.setIfInBounds_toArray, List.set_cons_zero, List.set_cons_succ, i64_w, i32_w]; done) | (simp only [putAll, Act.put, List.setIfInBounds_toArray, List.set_cons_zero, List.set_cons_succ, i64_w, i32_w]; rfl))
    refine three_ (i := 4) (j := 16) (k := 23) (Ni := some 98) (Nj := some 110) (Nk := some 117) (bb 27 3455743) (bb 27 3521263) (bb 27 11844335) rfl rfl rfl rfl rfl rfl (three_of HT_.out (by kernel_rfl)) (by decide) (by decide) (by decide) (fun K hK => ?_) (fun K hK => ?_) (fun K hK => ?_)
    ·refine litB (by rfl) rfl (xs := ([] : List Int)) (by first | (go_simp; done) | (go_simp; rfl)) (by simp) ?_
     intro s W1 ho hb
     have HB1 := below_step HB hb
     refine hK.out _ _ ⟨trivial, trivial⟩ (fun hHeld => ?_)
     clear hK K
     refine nm ?_
     have hN := ST10000001000 ((ow f W.heap.size 0), s, undef, undef, undef, 0, undef, s20, undef, undef, undef) W1 ⟨HB1, (rb_lit f ho HB.size 0), (rb_fresh H3 hb 0)⟩
     refine norm_ ?_ hN
     show _ = putAll _ _
     (first | (simp only [putAll, Act.put, List.setIfInBounds_toArray, List.set_cons_zero, List.set_cons_succ, i64_w, i32_w]; done) | (simp only [putAll, Act.put, List.setIfInBounds_toArray, List.set_cons_zero, List.set_cons_succ, i64_w, i32_w]; rfl))
    ·refine event_step (by rfl) (v := .slice (some ⟨W.heap.size, 0, none⟩) 4 4) (w1 := W.alloc (.cells (([67, 85, 66, 49] : List Int).map (Value.int .u8)).toArray 5)) (by first | (go_simp; done) | (go_simp; rfl)) ?_
     have hcb := cb_new W f 1 ([67, 85, 66, 49] : List Int)
     have hb : Below W.heap.size W (W.alloc (.cells (([67, 85, 66, 49] : List Int).map (Value.int .u8)).toArray 5)) := below_alloc (Below.refl _ _) _
     generalize W.alloc (.cells (([67, 85, 66, 49] : List Int).map (Value.int .u8)).toArray 5) = W1 at *
     have HB1 := below_step HB hb
     refine hK.out _ _ ⟨trivial, trivial⟩ (fun hHeld => ?_)
     clear hK K
     refine nm ?_
     have hN := ST00001001000 ((ow f W.heap.size 1), undef, undef, undef, undef, W.heap.size, undef, s20, undef, undef, undef) W1 ⟨HB1, ⟨hcb, HB.size⟩, (rb_fresh H3 hb 1)⟩
     refine norm_ ?_ hN
     show _ = putAll _ _
     (first | (simp only [putAll, Act.put, List.setIfInBounds_toArray, List.set_cons_zero, List.set_cons_succ, i64_w, i32_w]; done) | (simp only [putAll, Act.put, List.setIfInBounds_toArray, List.set_cons_zero, List.set_cons_succ, i64_w, i32_w]; rfl))
    ·refine litB (by rfl) rfl (xs := ([0] : List Int)) (by first | (go_simp; done) | (go_simp; rfl)) (by simp) ?_
     intro s W1 ho hb
     have HB1 := below_step HB hb
     refine hK.out _ _ ⟨trivial, trivial⟩ (fun hHeld => ?_)
     clear hK K
     refine nm ?_
     have hN := ST00000001010 ((ow f W.heap.size 3), undef, undef, undef, undef, 0, undef, s20, undef, s, undef) W1 ⟨HB1, (rb_fresh H3 hb 3), (rb_lit f ho HB.size 3)⟩
     refine norm_ ?_ hN
     show _ = putAll _ _
     (first | (simp only [putAll, Act.put, List.setIfInBounds_toArray, List.set_cons_zero, List.set_cons_succ, i64_w, i32_w]; done) | (simp only [putAll, Act.put, List.setIfInBounds_toArray, List.set_cons_zero, List.set_cons_succ, i64_w, i32_w]; rfl))
   intro ST00000001000
   refine join_ (σ := (Nat → Nat) × (Value) × (Value) × (Value) × (Value) × (Nat) × (Value) × (Value) × (Value) × (Value) × (Value)) 12 (bb 27 2472687) (fun s_ => [(110, (.slice (some ⟨s_.2.2.2.2.2.1, 0, none⟩) 4 4))]) (fun s_ w' => Below w7.heap.size w7 w' ∧ (CB w' s_.1 1 s_.2.2.2.2.2.1 ([67, 85, 66, 49] : List Int) (0, 0) ∧ w7.heap.size ≤ s_.2.2.2.2.2.1)) ?_ ?_
   ·rintro ⟨f, s4, s8, s10, s14, g, s19, s20, s22, s23, s24⟩ W ⟨HB, H2⟩
    try dsimp only at *
    refine norm_ (a' := ?_) ?_ ?_
    rotate_left
    ·show putAll _ _ = _
     (first | (simp only [putAll, Act.put, List.setIfInBounds_toArray, List.set_cons_zero, List.set_cons_succ, i64_w, i32_w]; done) | (simp only [putAll, Act.put, List.setIfInBounds_toArray, List.set_cons_zero, List.set_cons_succ, i64_w, i32_w]; rfl))
    refine four_ (i := 4) (j := 17) (k := 20) (m := 23) (Ni := some 98) (Nj := some 111) (Nk := some 114) (Nm := some 117) (bb 27 2472703) (bb 27 2603759) (bb 27 3521263) (bb 27 10861295) rfl rfl rfl rfl rfl rfl rfl rfl (four_of HT_.out (by kernel_rfl)) (by decide) (by decide) (by decide) (by decide) (fun K hK => ?_) (fun K hK => ?_) (fun K hK => ?_) (fun K hK => ?_)
    ·refine litB (by rfl) rfl (xs := ([] : List Int)) (by first | (go_simp; done) | (go_simp; rfl)) (by simp) ?_
     intro s W1 ho hb
     have HB1 := below_step HB hb
     refine hK.out _ _ ⟨trivial, trivial⟩ (fun hHeld => ?_)
     clear hK K
     refine nm ?_
     have hN := ST10001000000 ((ow f W.heap.size 0), s, undef, undef, undef, g, undef, undef, undef, undef, undef) W1 ⟨HB1, (rb_lit f ho HB.size 0), ⟨cb_fresh H2.1 hb 0, H2.2⟩⟩
     refine norm_ ?_ hN
     show _ = putAll _ _
     (first | (simp only [putAll, Act.put, List.setIfInBounds_toArray, List.set_cons_zero, List.set_cons_succ, i64_w, i32_w]; done) | (simp only [putAll, Act.put, List.setIfInBounds_toArray, List.set_cons_zero, List.set_cons_succ, i64_w, i32_w]; rfl))
    ·refine cvtB (by rfl) (.tmp 110) 4 rfl rfl H2.1 ?_
     intro W1 hC1 hoth hsz hos
     have HB1 := cvt_below HB H2.2 hoth hsz hos
     refine hK.out _ _ ⟨trivial, trivial⟩ (fun hHeld => ?_)
     clear hK K
     refine nm ?_
     have hN := ST00001100000 (f, undef, undef, undef, undef, g, undef, undef, undef, undef, undef) W1 ⟨HB1, ⟨hC1, H2.2⟩⟩
     refine norm_ ?_ hN
     show _ = putAll _ _
     (first | (simp only [putAll, Act.put, List.setIfInBounds_toArray, List.set_cons_zero, List.set_cons_succ, i64_w, i32_w]; done) | (simp only [putAll, Act.put, List.setIfInBounds_toArray, List.set_cons_zero, List.set_cons_succ, i64_w, i32_w]; rfl))
    ·refine litB (by rfl) rfl (xs := ([] : List Int)) (by first | (go_simp; done) | (go_simp; rfl)) (by simp) ?_
     intro s W1 ho hb
     have HB1 := below_step HB hb
     refine hK.out _ _ ⟨trivial, trivial⟩ (fun hHeld => ?_)
     clear hK K
     refine nm ?_
     have hN := ST00001001000 ((ow f W.heap.size 2), undef, undef, undef, undef, g, undef, s, undef, undef, undef) W1 ⟨HB1, ⟨cb_fresh H2.1 hb 2, H2.2⟩, (rb_lit f ho HB.size 2)⟩
     refine norm_ ?_ hN
     show _ = putAll _ _
     (first | (simp only [putAll, Act.put, List.setIfInBounds_toArray, List.set_cons_zero, List.set_cons_succ, i64_w, i32_w]; done) | (simp only [putAll, Act.put, List.setIfInBounds_toArray, List.set_cons_zero, List.set_cons_succ, i64_w, i32_w]; rfl))
    ·refine litB (by rfl) rfl (xs := ([0] : List Int)) (by first | (go_simp; done) | (go_simp; rfl)) (by simp) ?_
     intro s W1 ho hb
     have HB1 := below_step HB hb
     refine hK.out _ _ ⟨trivial, trivial⟩ (fun hHeld => ?_)
     clear hK K
     refine nm ?_
     have hN := ST00001000010 ((ow f W.heap.size 3), undef, undef, undef, undef, g, undef, undef, undef, s, undef) W1 ⟨HB1, ⟨cb_fresh H2.1 hb 3, H2.2⟩, (rb_lit f ho HB.size 3)⟩
     refine norm_ ?_ hN
     show _ = putAll _ _
     (first | (simp only [putAll, Act.put, List.setIfInBounds_toArray, List.set_cons_zero, List.set_cons_succ, i64_w, i32_w]; done) | (simp only [putAll, Act.put, List.setIfInBounds_toArray, List.set_cons_zero, List.set_cons_succ, i64_w, i32_w]; rfl))
   intro ST00001000000
   refine join_ (σ := (Nat → Nat) × (Value) × (Value) × (Value) × (Value) × (Nat) × (Value) × (Value) × (Value) × (Value) × (Value)) 12 (bb 27 2407167) (fun s_ => [(98, s_.2.1)]) (fun s_ w' => Below w7.heap.size w7 w' ∧ RB w' w7.heap.size s_.1 0 s_.2.1 ([] : List Int)) ?_ ?_
   ·rintro ⟨f, s4, s8, s10, s14, g, s19, s20, s22, s23, s24⟩ W ⟨HB, H1⟩
    try dsimp only at *
    refine norm_ (a' := ?_) ?_ ?_
    rotate_left
    ·show putAll _ _ = _
     (first | (simp only [putAll, Act.put, List.setIfInBounds_toArray, List.set_cons_zero, List.set_cons_succ, i64_w, i32_w]; done) | (simp only [putAll, Act.put, List.setIfInBounds_toArray, List.set_cons_zero, List.set_cons_succ, i64_w, i32_w]; rfl))
    refine four_ (i := 8) (j := 16) (k := 20) (m := 23) (Ni := some 102) (Nj := some 110) (Nk := some 114) (Nm := some 117) (bb 27 2407423) (bb 27 2472703) (bb 27 3455743) (bb 27 10795775) rfl rfl rfl rfl rfl rfl rfl rfl (four_of HT_.out (by kernel_rfl)) (by decide) (by decide) (by decide) (by decide) (fun K hK => ?_) (fun K hK => ?_) (fun K hK => ?_) (fun K hK => ?_)
    ·refine appB (w0 := w7) (base := w7.heap.size) (xs := ([] : List Int)) (ys := b1) (A := Ab) (c := cb) (by rfl) (.tmp 98) (.tmp 101) rfl rfl rfl H1 (Kd.C_below S1.out HB) HB HB.size ?aL ?_
     (case aL => have := HLEN.out; have := HFEW.out; simp only [List.length_append, List.length_nil, List.length_cons]; omega)
     intro s W1 ho HB1 hg
     refine hK.out _ _ ⟨trivial, trivial⟩ (fun hHeld => ?_)
     clear hK K
     refine nm ?_
     have hN := ST11000000000 ((ow f W.heap.size 0), s4, s, undef, undef, 0, undef, undef, undef, undef, undef) W1 ⟨HB1, ho⟩
     refine norm_ ?_ hN
     show _ = putAll _ _
     (first | (simp only [putAll, Act.put, List.setIfInBounds_toArray, List.set_cons_zero, List.set_cons_succ, i64_w, i32_w]; done) | (simp only [putAll, Act.put, List.setIfInBounds_toArray, List.set_cons_zero, List.set_cons_succ, i64_w, i32_w]; rfl))
    ·refine event_step (by rfl) (v := .slice (some ⟨W.heap.size, 0, none⟩) 4 4) (w1 := W.alloc (.cells (([67, 85, 66, 49] : List Int).map (Value.int .u8)).toArray 5)) (by first | (go_simp; done) | (go_simp; rfl)) ?_
     have hcb := cb_new W f 1 ([67, 85, 66, 49] : List Int)
     have hb : Below W.heap.size W (W.alloc (.cells (([67, 85, 66, 49] : List Int).map (Value.int .u8)).toArray 5)) := below_alloc (Below.refl _ _) _
     generalize W.alloc (.cells (([67, 85, 66, 49] : List Int).map (Value.int .u8)).toArray 5) = W1 at *
     have HB1 := below_step HB hb
     refine hK.out _ _ ⟨trivial, trivial⟩ (fun hHeld => ?_)
     clear hK K
     refine nm ?_
     have hN := ST10001000000 ((ow f W.heap.size 1), s4, undef, undef, undef, W.heap.size, undef, undef, undef, undef, undef) W1 ⟨HB1, (rb_fresh H1 hb 1), ⟨hcb, HB.size⟩⟩
     refine norm_ ?_ hN
     show _ = putAll _ _
     (first | (simp only [putAll, Act.put, List.setIfInBounds_toArray, List.set_cons_zero, List.set_cons_succ, i64_w, i32_w]; done) | (simp only [putAll, Act.put, List.setIfInBounds_toArray, List.set_cons_zero, List.set_cons_succ, i64_w, i32_w]; rfl))
    ·refine litB (by rfl) rfl (xs := ([] : List Int)) (by first | (go_simp; done) | (go_simp; rfl)) (by simp) ?_
     intro s W1 ho hb
     have HB1 := below_step HB hb
     refine hK.out _ _ ⟨trivial, trivial⟩ (fun hHeld => ?_)
     clear hK K
     refine nm ?_
     have hN := ST10000001000 ((ow f W.heap.size 2), s4, undef, undef, undef, 0, undef, s, undef, undef, undef) W1 ⟨HB1, (rb_fresh H1 hb 2), (rb_lit f ho HB.size 2)⟩
     refine norm_ ?_ hN
     show _ = putAll _ _
     (first | (simp only [putAll, Act.put, List.setIfInBounds_toArray, List.set_cons_zero, List.set_cons_succ, i64_w, i32_w]; done) | (simp only [putAll, Act.put, List.setIfInBounds_toArray, List.set_cons_zero, List.set_cons_succ, i64_w, i32_w]; rfl))
    ·refine litB (by rfl) rfl (xs := ([0] : List Int)) (by first | (go_simp; done) | (go_simp; rfl)) (by simp) ?_
     intro s W1 ho hb
     have HB1 := below_step HB hb
     refine hK.out _ _ ⟨trivial, trivial⟩ (fun hHeld => ?_)
     clear hK K
     refine nm ?_
     have hN := ST10000000010 ((ow f W.heap.size 3), s4, undef, undef, undef, 0, undef, undef, undef, s, undef) W1 ⟨HB1, (rb_fresh H1 hb 3), (rb_lit f ho HB.size 3)⟩
     refine norm_ ?_ hN
     show _ = putAll _ _
     (first | (simp only [putAll, Act.put, List.setIfInBounds_toArray, List.set_cons_zero, List.set_cons_succ, i64_w, i32_w]; done) | (simp only [putAll, Act.put, List.setIfInBounds_toArray, List.set_cons_zero, List.set_cons_succ, i64_w, i32_w]; rfl))
   intro ST10000000000
   generalize hf0 : (fun _ : Nat => 0) = f
   generalize w7.drew = W at *
   refine four_ (i := 4) (j := 16) (k := 20) (m := 23) (Ni := some 98) (Nj := some 110) (Nk := some 114) (Nm := some 117) (bb 27 2407167) (bb 27 2472687) (bb 27 3455727) (bb 27 10795759) rfl rfl rfl rfl rfl rfl rfl rfl (four_of HT_.out (by kernel_rfl)) (by decide) (by decide) (by decide) (by decide) (fun K hK => ?_) (fun K hK => ?_) (fun K hK => ?_) (fun K hK => ?_)
   ·refine litB (by rfl) rfl (xs := ([] : List Int)) (by first | (go_simp; done) | (go_simp; rfl)) (by simp) ?_
    intro s W1 ho hb
    have HB1 := below_step HB hb
    refine hK.out _ _ ⟨trivial, trivial⟩ (fun hHeld => ?_)
    clear hK K
    refine nm ?_
    have hN := ST10000000000 ((ow f W.heap.size 0), s, undef, undef, undef, 0, undef, undef, undef, undef, undef) W1 ⟨HB1, (rb_lit f ho HB.size 0)⟩
    refine norm_ ?_ hN
    show _ = putAll _ _
    (first | (simp only [putAll, Act.put, List.setIfInBounds_toArray, List.set_cons_zero, List.set_cons_succ, i64_w, i32_w]; done) | (simp only [putAll, Act.put, List.setIfInBounds_toArray, List.set_cons_zero, List.set_cons_succ, i64_w, i32_w]; rfl))
   ·refine event_step (by rfl) (v := .slice (some ⟨W.heap.size, 0, none⟩) 4 4) (w1 := W.alloc (.cells (([67, 85, 66, 49] : List Int).map (Value.int .u8)).toArray 5)) (by first | (go_simp; done) | (go_simp; rfl)) ?_
    have hcb := cb_new W f 1 ([67, 85, 66, 49] : List Int)
    have hb : Below W.heap.size W (W.alloc (.cells (([67, 85, 66, 49] : List Int).map (Value.int .u8)).toArray 5)) := below_alloc (Below.refl _ _) _
    generalize W.alloc (.cells (([67, 85, 66, 49] : List Int).map (Value.int .u8)).toArray 5) = W1 at *
    have HB1 := below_step HB hb
    refine hK.out _ _ ⟨trivial, trivial⟩ (fun hHeld => ?_)
    clear hK K
    refine nm ?_
    have hN := ST00001000000 ((ow f W.heap.size 1), undef, undef, undef, undef, W.heap.size, undef, undef, undef, undef, undef) W1 ⟨HB1, ⟨hcb, HB.size⟩⟩
    refine norm_ ?_ hN
    show _ = putAll _ _
    (first | (simp only [putAll, Act.put, List.setIfInBounds_toArray, List.set_cons_zero, List.set_cons_succ, i64_w, i32_w]; done) | (simp only [putAll, Act.put, List.setIfInBounds_toArray, List.set_cons_zero, List.set_cons_succ, i64_w, i32_w]; rfl))
   ·refine litB (by rfl) rfl (xs := ([] : List Int)) (by first | (go_simp; done) | (go_simp; rfl)) (by simp) ?_
    intro s W1 ho hb
    have HB1 := below_step HB hb
    refine hK.out _ _ ⟨trivial, trivial⟩ (fun hHeld => ?_)
    clear hK K
    refine nm ?_
    have hN := ST00000001000 ((ow f W.heap.size 2), undef, undef, undef, undef, 0, undef, s, undef, undef, undef) W1 ⟨HB1, (rb_lit f ho HB.size 2)⟩
    refine norm_ ?_ hN
    show _ = putAll _ _
    (first | (simp only [putAll, Act.put, List.setIfInBounds_toArray, List.set_cons_zero, List.set_cons_succ, i64_w, i32_w]; done) | (simp only [putAll, Act.put, List.setIfInBounds_toArray, List.set_cons_zero, List.set_cons_succ, i64_w, i32_w]; rfl))
   ·refine litB (by rfl) rfl (xs := ([0] : List Int)) (by first | (go_simp; done) | (go_simp; rfl)) (by simp) ?_
    intro s W1 ho hb
    have HB1 := below_step HB hb
    refine hK.out _ _ ⟨trivial, trivial⟩ (fun hHeld => ?_)
    clear hK K
    refine nm ?_
    have hN := ST00000000010 ((ow f W.heap.size 3), undef, undef, undef, undef, 0, undef, undef, undef, s, undef) W1 ⟨HB1, (rb_lit f ho HB.size 3)⟩
    refine norm_ ?_ hN
    show _ = putAll _ _
    (first | (simp only [putAll, Act.put, List.setIfInBounds_toArray, List.set_cons_zero, List.set_cons_succ, i64_w, i32_w]; done) | (simp only [putAll, Act.put, List.setIfInBounds_toArray, List.set_cons_zero, List.set_cons_succ, i64_w, i32_w]; rfl))
  rintro ⟨f, s4, s8, s10, s14, g, s19, s20, s22, s23, s24⟩ W ⟨HB, H1, H2, H3⟩
  try dsimp only at *
  refine norm_ (a' := ?_) ?_ ?_
  rotate_left
  ·show putAll _ _ = _
   (first | (simp only [putAll, Act.put, List.setIfInBounds_toArray, List.set_cons_zero, List.set_cons_succ, i64_w, i32_w]; done) | (simp only [putAll, Act.put, List.setIfInBounds_toArray, List.set_cons_zero, List.set_cons_succ, i64_w, i32_w]; rfl))
  obtain ⟨B2, k2, m2, rfl, ok2⟩ := RB_row H1 (by simp only [List.nil_append]; exact (HOB.out.1.app H4.out.2.2.2.1).app HOB.out.2.1) (by have := HLEN.out; have := HFEW.out; simp only [List.length_append, List.length_nil]; omega)
  obtain ⟨B4, k4, m4, rfl, ok4⟩ := VB_row H2 (BytesOk.app (by intro x hx; simp at hx; omega) H4.out.2.2.2.2) (by have := HFEW.out; simp only [List.length_append, List.length_nil, List.length_cons]; omega)
  obtain ⟨B5, k5, m5, rfl, ok5⟩ := RB_row H3 (by simp only [List.nil_append]; exact H4.out.2.1.app (by intro x hx; simp at hx; omega)) (by have := HLEN.out; simp only [List.length_append, List.length_nil, List.length_cons]; omega)
  have okz : BRow.Ok W (some adz, cc, z) := ⟨⟨SZ.out.1, Kd.C_below SZ.out.2 HB⟩, HOB.out.2.2, by have := HLEN.out; show z.length ≤ _; omega⟩
  have ok1 : BRow.Ok W (Ab, cb, b1) := ⟨⟨by have := HBC.out.1; have := HKK.out; have := HLB1.out; show b1.length ≤ cb; omega, Kd.C_below S1.out HB⟩, HOB.out.1, by have := HLEN.out; show b1.length ≤ _; omega⟩
  have ok3 : BRow.Ok W (A8, c8, l8) := ⟨⟨R8.out.1, Kd.C_below S8.out HB⟩, H4.out.2.2.2.2, by have := HFEW.out; show l8.length ≤ _; omega⟩
  obtain ⟨lst, hlst⟩ : ∃ l : List BRow, l = [(some adz, cc, z), (Ab, cb, b1), (B2, k2, m2), (A8, c8, l8), (B4, k4, m4), (B5, k5, m5)] := ⟨_, rfl⟩
  have hall : ∀ p ∈ lst, BRow.Ok W p := by
   intro p hp
   rw [hlst] at hp
   simp only [List.mem_cons, List.not_mem_nil, or_false] at hp
   rcases hp with rfl | rfl | rfl | rfl | rfl | rfl <;> assumption
  have hlen6 : lst.length = 6 := by rw [hlst]; rfl
  have hzl := HZ.out.1
  refine one_ (i := 25) (N := some 119) (bb 27 67108863) rfl rfl (one_of HT_.out (by kernel_rfl)) (by decide) (fun K hK => ?_)
  refine event_step (by rfl) (v := .slice (some ⟨W.heap.size, 0, none⟩) 6 6) (w1 := W.alloc (.cells (lst.map BRow.val).toArray 36)) (by rw [hlst]; simp only [List.map_cons, List.map_nil, BRow.val, hzl]; first | (go_simp; done) | (go_simp; rfl)) ?_
  have hbr : Below W.heap.size W (W.alloc (.cells (lst.map BRow.val).toArray 36)) := below_alloc (Below.refl _ _) _
  have hgr : (W.alloc (.cells (lst.map BRow.val).toArray 36)).heap[W.heap.size]? = some (.cells (lst.map BRow.val).toArray 36 (0, 0)) := heap_alloc_new W _
  have hall' : ∀ p ∈ lst, BRow.Ok (W.alloc (.cells (lst.map BRow.val).toArray 36)) p := fun p hp => (hall p hp).below hbr
  refine hK.out _ _ ⟨trivial, trivial⟩ (fun hHeld => ?_)
  clear hK K
  refine nm ?_
  refine pu (i := 26) (N := some 25) (bb 27 134217727) HT_ ?_
  refine done_ (done_of HT_.out (by kernel_rfl)) ?_
  have HLST := am (And.intro hlen6 hall')
  obtain ⟨adr, hadr⟩ : ∃ adr : Addr, adr = ⟨W.heap.size, 0, none⟩ := ⟨_, rfl⟩
  rw [← hadr]
  have HGR := am hgr
  have HADR := am hadr
  have HBR := am (below_step HB5'.out (below_step HB hbr))
  clear hall hall' hlst hlen6 hgr hadr hbr okz ok1 ok3 ok2 ok4 ok5 hzl H1 H2 H3 HB hHeld HT_ HW_
  generalize W.alloc (.cells (lst.map BRow.val).toArray 36) = wR at *
  generalize W.heap.size = gr at *
  go_wp2
  clear hcut1 hcut2
  go_loopg [26] 7 (fun kq v26 w' => ∃ i : Nat, v26 = .int .i64 (i : Int) ∧ Aside0 (i + kq = 7 ∧ i ≤ 6) ∧ Aside0 (Below wR.heap.size wR w'))
  case atStart => exact ⟨0, rfl, ⟨by omega, by omega⟩, ⟨Below.refl _ _⟩⟩
  case round =>
  obtain ⟨i, rfl, HI, HS⟩ := hrel
  cases gk with
  | zero => exact absurd HI.out (by omega)
  | succ k1 =>
  by_cases hi : i < 6
  rotate_left
  ·have d1 : decide ((i : Int) < 6) = false := decide_eq_false (by omega)
   have d1' : decide (i < 6) = false := decide_eq_false hi
   clear hi
   go_wp2
   go_ret
   exact ⟨by first | rfl | (simp; done), below_step HBR.out HS.out⟩
  have d1 : decide ((i : Int) < 6) = true := decide_eq_true (by omega)
  have d1' : decide (i < 6) = true := decide_eq_true hi
  have p0 := eq_true (show (0 : Int) ≤ (i : Int) by omega)
  have p1 := eq_true (show (i : Int) < 6 by omega)
  have p1' := eq_true hi
  have hwi : wrap64 ((i : Int) + 1) = ((i + 1 : Nat) : Int) := w64c (by omega) (by omega)
  have hil : i < lst.length := by rw [HLST.out.1]; exact hi
  obtain ⟨⟨A, c, l⟩, hp⟩ : ∃ p, p = lst[i] := ⟨_, rfl⟩
  have hok : BRow.Ok wR (A, c, l) := HLST.out.2 _ (by rw [hp]; exact List.getElem_mem hil)
  have hx : wR.cell? (adr.add i) = some (.slice A l.length c) := by
   have hadd : adr.add i = ⟨gr, i, none⟩ := by rw [HADR.out, add_plain]
   rw [hadd, blk_cell HGR.out]
   simp [hil, ← hp, BRow.val]
  have hx0 := (HS.out.cell (World.block_lt_of_cell? wR _ hx)).trans hx
  obtain ⟨⟨hle, hC⟩, hby, hln⟩ := hok
  replace hle : l.length ≤ c := hle
  replace hC : Kd.C (Kd.int .u8) wR A l.length l := hC
  replace hby : BytesOk l := hby
  replace hln : l.length ≤ 2000000 := hln
  obtain ⟨h5a, q5, h5b⟩ := H5'.out l hby hln
  have hrd := fun (W : World) (hb : Below wR.heap.size wR W) => ref_dec A c l W (Kd.C_below hC hb) hle hby (by omega)
  obtain ⟨⟨r1, r2, r3, r4⟩, hr⟩ : ∃ p, p = refDecP l := ⟨_, rfl⟩
  rw [← hr] at h5a h5b hrd
  dsimp only at h5b
  have HX := am hx
  have HC := am (And.intro hle hC)
  have H5a := am h5a
  have H5b := am h5b
  have HRD := am hrd
  have HHI := am hi
  have hne : (r4 != r4) = false := by simp
  have hne2 : (r4 == r4) = true := by simp
  clear hi hil hp hx hle hC hby hln h5a h5b hrd hr
  generalize wr = wo at *
  go_wp2_with (fail)
  refine (rec_Decode.calls A c l r1 r2 r3 r4 wo (Kd.C_below HC.out.2 HS.out) HC.out.1 H5a.out).mono ?_
  rintro e w8 ⟨v1, v2, rfl, ho0, ho1, hb⟩
  obtain ⟨A27, c27, rfl⟩ := Kd.R_slice ho0
  obtain ⟨A28, c28, rfl⟩ := Kd.S_slice ho1
  have HT := am (Kd.R_reads' ho0).2
  have HM := am (Kd.S_reads' ho1).2
  have HS8 := am (below_step HS.out hb)
  clear ho0 ho1 hb hx0
  go_wp2_with (first | ((with_reducible refine gate_dst (N := 27) rfl ?_); (try (refine gate_guard (by rfl) ?_; dsimp only)); refine box_event ?hg (N := 27) ?hd (cs := #[.slice none 0 0, .int .i64 0]) (t := 24) ?hr ?_; (case hd => rfl); (case hg => rfl); (case hr => first | (go_simp; done) | (go_simp; rfl)); intro g27 hg w9 hbox hb; have hczb0 : w9.cell? ⟨g27, 0, none⟩ = some (.slice none 0 0) := (blk_cell hbox 0).trans rfl; have hczb1 : w9.cell? ⟨g27, 1, none⟩ = some (.int .i64 0) := (blk_cell hbox 1).trans rfl; have hfzb0 := blk_frozen hbox 0; have hfzb1 := blk_frozen hbox 1; have HBXb := am hbox; have HGb := am hg; have HBBb := am hb; have hg2 : w8.heap.size ≤ g27 := Nat.le_of_eq hg.symm; have HB810 : Aside0 (Below w8.heap.size w8 ((w9.setCell ⟨g27, 0, none⟩ (.slice A27 r1.length c27)).setCell ⟨g27, 1, none⟩ (.int .i64 r2))) := ⟨below_set (below_set hb hg2) hg2⟩; have HG27 : Aside0 (((w9.setCell ⟨g27, 0, none⟩ (.slice A27 r1.length c27)).setCell ⟨g27, 1, none⟩ (.int .i64 r2)).heap[g27]? = some (.cells #[.slice A27 r1.length c27, .int .i64 r2] 24 (0, 0))) := ⟨blk_put (blk_put hbox 0 _ rfl) 1 _ rfl⟩; have hx1 := ((below_step HS8.out HB810.out).cell (World.block_lt_of_cell? wR _ HX.out)).trans HX.out; clear hg2; clear hbox hg hb))
  refine name_calls ?_
  intro w10 hw10
  rw [← hw10] at hx1 HG27 HB810
  clear hw10
  refine (HRD.out w10 (below_step HS8.out HB810.out)).mono ?_
  rintro e w11 ⟨A30, c30, A31, c31, rfl, ⟨hu1, hu2⟩, ⟨hu3, hu4⟩, hb⟩
  have HU := am (And.intro (And.intro hu1 hu2) (And.intro hu3 hu4))
  have HB1011 := am hb
  clear hu1 hu2 hu3 hu4 hb hx1
  go_wp2_with (first | ((with_reducible refine gate_dst (N := 30) rfl ?_); (try (refine gate_guard (by rfl) ?_; dsimp only)); refine box_event ?hg (N := 30) ?hd (cs := #[.slice none 0 0, .int .i64 0]) (t := 24) ?hr ?_; (case hd => rfl); (case hg => rfl); (case hr => first | (go_simp; done) | (go_simp; rfl)); intro g30 hg w12 hbox hb; have hczc0 : w12.cell? ⟨g30, 0, none⟩ = some (.slice none 0 0) := (blk_cell hbox 0).trans rfl; have hczc1 : w12.cell? ⟨g30, 1, none⟩ = some (.int .i64 0) := (blk_cell hbox 1).trans rfl; have hfzc0 := blk_frozen hbox 0; have hfzc1 := blk_frozen hbox 1; have HBXc := am hbox; have HGc := am hg; have HBBc := am hb; have hg2 : w11.heap.size ≤ g30 := Nat.le_of_eq hg.symm; have HBUF : Aside0 (Below w11.heap.size w11 ((w12.setCell ⟨g30, 0, none⟩ (.slice A30 r1.length c30)).setCell ⟨g30, 1, none⟩ (.int .i64 r2))) := ⟨below_set (below_set hb hg2) hg2⟩; have HG30 : Aside0 (((w12.setCell ⟨g30, 0, none⟩ (.slice A30 r1.length c30)).setCell ⟨g30, 1, none⟩ (.int .i64 r2)).heap[g30]? = some (.cells #[.slice A30 r1.length c30, .int .i64 r2] 24 (0, 0))) := ⟨blk_put (blk_put hbox 0 _ rfl) 1 _ rfl⟩; have HB8F := am (below_step HB810.out (below_step HB1011.out HBUF.out)); have HG27F := am (blk_below HG27.out (below_step HB1011.out HBUF.out)); have y0 := bc HG27F 0; have y1 := bc HG27F 1; have u0 := bc HG30 0; have u1 := bc HG30 1; clear hg2; clear hbox hg hb) | (go_at_call 25; (with_reducible refine (hypercuberef1_Same.calls q5 A27 c27 r1 r2 A28 c28 r3 A30 c30 r1 r2 A31 c31 r3 true _ (Kd.C_below HT.out.2 HB8F.out) HT.out.1 (Kd.C_below HM.out.2 HB8F.out) HM.out.1 (Kd.C_below HU.out.1.2 HBUF.out) HU.out.1.1 (Kd.C_below HU.out.2.2 HBUF.out) HU.out.2.1 H5b.out).mono ?_); rintro e w14 ⟨rfl, hb⟩; have HB14 := am (below_step HB8F.out hb); clear hb y0 y1 u0 u1))
  go_roundg k1
  case measure => have := HI.out; have := HHI.out; omega
  case rel => exact ⟨i + 1, by first | rfl | simp [hwi], ⟨by have := HI.out; have := HHI.out; omega, by have := HHI.out; omega⟩, ⟨below_step HS8.out HB14.out⟩⟩
theorem hypercubelaw1_RecReads.walk (P : hypercubelaw1_RecReads.Pure) (a0 : Int) (a1 : Option Addr) (len1 cap1 : Nat) (z1 : List Int) (a2 : Int) (a3 : Option Addr) (len3 cap3 : Nat) (z3 : List Int) (a4 : Option Addr) (len4 cap4 : Nat) (z4 : List Int) (a5 : Option Addr) (len5 cap5 : Nat) (z5 : List Int) (a6 : Int) (a7 : Option Addr) (len7 cap7 : Nat) (z7 : List Int) (a8 : Option Addr) (len8 cap8 : Nat) (z8 : List Int) (w : World) (w0 : (Lit.int .i64 a0).wf = true) (w1 : (a1 = none ∧ len1 = 0 ∧ cap1 = 0 ∧ z1 = []) ∨ ∃ x, a1 = some x ∧ len1 ≤ cap1 ∧ cap1 ≤ maxLen ∧ z1.length = cap1 ∧ (∀ i, i < z1.length → w.cell? (x.add i) = some (.int .i64 (z1.getD i 0))) ∧ ∀ n ∈ z1, (Lit.int .i64 n).wf = true) (y1 : len1 * 8 ≤ 140737488351232) (w2 : (Lit.int .i64 a2).wf = true) (w3 : (a3 = none ∧ len3 = 0 ∧ cap3 = 0 ∧ z3 = []) ∨ ∃ x, a3 = some x ∧ len3 ≤ cap3 ∧ cap3 ≤ maxLen ∧ z3.length = cap3 ∧ (∀ i, i < z3.length → w.cell? (x.add i) = some (.int .i64 (z3.getD i 0))) ∧ ∀ n ∈ z3, (Lit.int .i64 n).wf = true) (y3 : len3 * 8 ≤ 140737488351232) (w4 : (a4 = none ∧ len4 = 0 ∧ cap4 = 0 ∧ z4 = []) ∨ ∃ x, a4 = some x ∧ len4 ≤ cap4 ∧ cap4 ≤ maxLen ∧ z4.length = cap4 ∧ (∀ i, i < z4.length → w.cell? (x.add i) = some (.int .i64 (z4.getD i 0))) ∧ ∀ n ∈ z4, (Lit.int .i64 n).wf = true) (y4 : len4 * 8 ≤ 140737488351232) (w5 : (a5 = none ∧ len5 = 0 ∧ cap5 = 0 ∧ z5 = []) ∨ ∃ x, a5 = some x ∧ len5 ≤ cap5 ∧ cap5 ≤ maxLen ∧ z5.length = cap5 ∧ (∀ i, i < z5.length → w.cell? (x.add i) = some (.int .u8 (z5.getD i 0))) ∧ ∀ n ∈ z5, (Lit.int .u8 n).wf = true) (y5 : len5 * 1 ≤ 140737488351232) (w6 : (Lit.int .i64 a6).wf = true) (w7 : (a7 = none ∧ len7 = 0 ∧ cap7 = 0 ∧ z7 = []) ∨ ∃ x, a7 = some x ∧ len7 ≤ cap7 ∧ cap7 ≤ maxLen ∧ z7.length = cap7 ∧ (∀ i, i < z7.length → w.cell? (x.add i) = some (.int .u8 (z7.getD i 0))) ∧ ∀ n ∈ z7, (Lit.int .u8 n).wf = true) (y7 : len7 * 1 ≤ 140737488351232) (w8 : (a8 = none ∧ len8 = 0 ∧ cap8 = 0 ∧ z8 = []) ∨ ∃ x, a8 = some x ∧ len8 ≤ cap8 ∧ cap8 ≤ maxLen ∧ z8.length = cap8 ∧ (∀ i, i < z8.length → w.cell? (x.add i) = some (.int .u8 (z8.getD i 0))) ∧ ∀ n ∈ z8, (Lit.int .u8 n).wf = true) (y8 : len8 * 1 ≤ 140737488351232) :
  Calls Try.prog 5 #[.int .i64 a0, .slice a1 len1 cap1, .int .i64 a2, .slice a3 len3 cap3, .slice a4 len4 cap4, .slice a5 len5 cap5, .int .i64 a6, .slice a7 len7 cap7, .slice a8 len8 cap8] w fun e w' => e = .returned (.bool true) ∧ Below w.heap.size w w' := by
 obtain ⟨l1, rfl, hr1, hm1, hw1, hc1⟩ := ReadsInt.ofRowC w1
 obtain ⟨l3, rfl, hr3, hm3, hw3, hc3⟩ := ReadsInt.ofRowC w3
 obtain ⟨l4, rfl, hr4, hm4, hw4, hc4⟩ := ReadsInt.ofRowC w4
 obtain ⟨l5, rfl, hr5, hm5, hw5, hc5⟩ := ReadsInt.ofRowC w5
 obtain ⟨l7, rfl, hr7, hm7, hw7, hc7⟩ := ReadsInt.ofRowC w7
 obtain ⟨l8, rfl, hr8, hm8, hw8, hc8⟩ := ReadsInt.ofRowC w8
 obtain ⟨k, cards, meas, rows, b, h1, h2, h3, h4, h5, h6⟩ := P a0 l1 a2 l3 l4 l5 a6 l7 l8 w0 hm1 y1 hw1 w2 hm3 y3 hw3 hm4 y4 hw4 hm5 y5 hw5 w6 hm7 y7 hw7 hm8 y8 hw8
 exact hypercubelaw1_RecReads.calls k a0 _ _ l1 a2 _ _ l3 _ _ l4 _ _ l5 a6 _ _ l7 _ _ l8 w (Kd.C_of_reads (d := (0 : Int)) (h1 := fun _ => rfl) hr1) hc1 (Kd.C_of_reads (d := (0 : Int)) (h1 := fun _ => rfl) hr3) hc3 (Kd.C_of_reads (d := (0 : Int)) (h1 := fun _ => rfl) hr4) hc4 (Kd.C_of_reads (d := (0 : Int)) (h1 := fun _ => rfl) hr5) hc5 (Kd.C_of_reads (d := (0 : Int)) (h1 := fun _ => rfl) hr7) hc7 (Kd.C_of_reads (d := (0 : Int)) (h1 := fun _ => rfl) hr8) hc8 h1 h2 h3 h4 h5 h6
end Go.Proofs.Ytlacfpbfnedgdaa.Q
