-- packed by wip/tools/pack.py (a program of this session) out of its own texts
import Derived.Test.YtlacfpbfnedgdaaPRecReads0
import Derived.ArgAppend
import Derived.Below
import Derived.BigQuiet
import Derived.Deep.AppendLies
import Derived.Deep.CutBlock
import Derived.Deep.DeepCutAuto
import Derived.Deep.Draws
import Derived.Deep.LoopGhost
import Derived.Deep.OwnRows
import Derived.Deep.QuietTactic
import Derived.Deep.RegionHeld3
import Derived.KernelRfl
import Derived.Laws.BitsLemmas
import Derived.Laws.BytesArg
import Derived.Laws.IdiomCopy
import Derived.Laws.MakeOwn
import Derived.Laws.OwnMore
import Derived.Laws.Rows
import Derived.Laws.Slices
import Derived.Lib.AppendStr
import Derived.Lib.ConvBytes
import Derived.Lib.SlBytesConst
import Derived.Maps.AppendAt
import Derived.OrdersHeld
import Derived.OwnWalk
import Derived.RowKit
import Derived.RowKit3
import Derived.Tactics
import Derived.Test.YtlacfpbfnedgdaaProg
import Derived.WalkKit
import Derived.WideLaws
import Derived.Test.YtlacfpbfnedgdaaPRecReads1
import Derived.Test.YtlacfpbfnedgdaaPRecReads3
import Derived.Test.YtlacfpbfnedgdaaPRecReads4
import Derived.Test.YtlacfpbfnedgdaaPRecReads5
import Derived.Test.YtlacfpbfnedgdaaPRecReads6
namespace Go.Proofs.Ytlacfpbfnedgdaa.Q
open Go.RowKit Go.Proofs.YtlacfpbfnedgdaaW.PrintWords Go.Proofs.YtlacfpbfnedgdaaW.PrintLast Go.Proofs.YtlacfpbfnedgdaaW.PrintMore
set_option linter.unusedVariables false
set_option linter.unusedSimpArgs false
section
variable {f f' : Nat → Nat} {q q0 q' b g : Nat} {w w1 w0 : World} {v v0 : Value} {xs xs0 : List Int} {o : Obj}
abbrev RB (w : World) (b : Nat) (f : Nat → Nat) (q : Nat) (v : Value) (xs : List Int) : Prop := Kd.R (Kd.int .u8) 5 w b (fun k => f k = q) v xs
abbrev VB (w : World) (f : Nat → Nat) (q : Nat) (v : Value) (xs : List Int) : Prop := Kd.V (Kd.int .u8) 5 w 0 (fun k => f k = q ∧ k < w.heap.size) v xs
theorem rb_re (h : RB w b f q v xs) (hh : ∀ k, f k = q → k < w.heap.size → w1.heap[k]? = w.heap[k]?) (hf : ∀ k, k < w.heap.size → f' k = f k) : RB w1 b f' q v xs :=
 Kd.R_mono (Kd.R_step (Kd.R_bound h) (fun k hk hlt => hh k hk.1 hlt)) (fun k hk => (hf k hk.2.2.1).trans hk.1)
theorem rb_fresh (h : RB w b f q v xs) (hb : Below w.heap.size w w1) (q' : Nat) : RB w1 b (ow f w.heap.size q') q v xs := rb_re h (fun k _ hlt => hb.block k hlt) (fun k hk => ow_old hk)
theorem rb_lit (f : Nat → Nat) (hr : Kd.R (Kd.int .u8) 5 w1 w.heap.size (fun _ => True) v xs) (hle : b ≤ w.heap.size) (q : Nat) : RB w1 b (ow f w.heap.size q) q v xs := Kd.R_mono (Kd.R_lower (Kd.R_bound hr) hle) (fun k hk => ow_new hk.2.1)
theorem rb_same (h : RB w b f q v xs) (q' : Nat) : RB w b (ow f w.heap.size q') q v xs := rb_re h (fun _ _ _ => rfl) (fun k hk => ow_old hk)
theorem rb_app (h : RB w b f q v xs) (h0 : RB w b f q0 v0 xs0) (hne : q ≠ q0) (hg : w.grownBy w1 v0.ownBlock) (q' : Nat) : RB w1 b (ow f w.heap.size q') q v xs :=
 rb_re h (fun k hk hlt => hg.block k hlt (fun e => hne (hk.symm.trans (h0.1 k e.symm)))) (fun k hk => ow_old hk)
theorem vb_re (h : VB w f q v xs) (hs : w.heap.size ≤ w1.heap.size) (hh : ∀ k, f k = q → k < w.heap.size → w1.heap[k]? = w.heap[k]?) (hf : ∀ k, k < w.heap.size → f' k = f k) : VB w1 f' q v xs :=
 Kd.V_mono (Kd.V_step h (fun k hk hlt => hh k hk.1 hlt)) (fun k hk => ⟨(hf k hk.2).trans hk.1, Nat.lt_of_lt_of_le hk.2 hs⟩)
theorem vb_fresh (h : VB w f q v xs) (hb : Below w.heap.size w w1) (q' : Nat) : VB w1 (ow f w.heap.size q') q v xs := vb_re h hb.size (fun k _ hlt => hb.block k hlt) (fun k hk => ow_old hk)
theorem vb_app (h : VB w f q v xs) (h0 : RB w b f q0 v0 xs0) (hne : q ≠ q0) (hg : w.grownBy w1 v0.ownBlock) (q' : Nat) : VB w1 (ow f w.heap.size q') q v xs :=
 vb_re h hg.size (fun k hk hlt => hg.block k hlt (fun e => hne (hk.symm.trans (h0.1 k e.symm)))) (fun k hk => ow_old hk)
def CB (w : World) (f : Nat → Nat) (q g : Nat) (xs : List Int) (m : Nat × Nat) : Prop := w.heap[g]? = some (.cells (xs.map (Value.int .u8)).toArray 5 m) ∧ f g = q
theorem cb_fresh {m : Nat × Nat} (h : CB w f q g xs m) (hb : Below w.heap.size w w1) (q' : Nat) : CB w1 (ow f w.heap.size q') q g xs m := ⟨blk_below h.1 hb, (ow_old (blk_lt h.1)).trans h.2⟩
theorem cb_app {m : Nat × Nat} (h : CB w f q g xs m) (h0 : RB w b f q0 v0 xs0) (hne : q ≠ q0) (hg : w.grownBy w1 v0.ownBlock) (q' : Nat) : CB w1 (ow f w.heap.size q') q g xs m :=
 ⟨blk_grown h.1 hg (fun e => hne (h.2.symm.trans (h0.1 g e.symm))), (ow_old (blk_lt h.1)).trans h.2⟩
theorem cb_new (W : World) (f : Nat → Nat) (q : Nat) (xs : List Int) : CB (W.alloc (.cells (xs.map (Value.int .u8)).toArray 5)) (ow f W.heap.size q) q W.heap.size xs (0, 0) := ⟨by show (W.heap.push _)[W.heap.size]? = _; simp, ow_new (Nat.le_refl _)⟩
theorem blk_C {m : Nat × Nat} (h : w.heap[g]? = some (.cells (xs.map (Value.int .u8)).toArray 5 m)) (hl : xs.length ≤ 9223372036854775807) : Kd.C (Kd.int .u8) w (some ⟨g, 0, none⟩) xs.length xs := by
 refine Kd.C_of_reads (d := (0 : Int)) (h1 := fun _ => rfl) ⟨rfl, hl, fun hp => ⟨_, rfl, fun j hj => ?_⟩⟩
 rw [add_plain, cell_of_row _ _ _ _ _ _ h]
 simp [List.getD_eq_getElem?_getD, hj]
theorem cb_V {m : Nat × Nat} (h : CB w f q g xs m) (hl : xs.length ≤ 9223372036854775807) : VB w f q (.slice (some ⟨g, 0, none⟩) xs.length xs.length) xs :=
 Kd.V_mk (Nat.le_refl _) (fun W' hW => blk_C ((hW g ⟨h.2, blk_lt h.1⟩ (blk_lt h.1)).trans h.1) hl)
end
section
variable {P : Program} {ops : Array Oper} {Q : Exit → Act → World → Prop} {Kc : Act → World → Prop} {o : Oper} {a : Act} {W w0 : World} {base : Nat} {f : Nat → Nat} {q q0 g : Nat} {v : Value} {xs ys : List Int} {A : Option Addr} {c : Nat}
theorem kdb_cells {α : Type} {enc : α → Value} {h1 : ∀ x, (enc x).oneCell' = true} {w : World} {A : Option Addr} {n : Nat} {xs : List α} (h : (Kd.scalar enc h1).C w A n xs) (hp : 0 < n) :
  ∃ ad, A = some ad ∧ ∀ j v, (xs.map enc)[j]? = some v → w.cell? (ad.add j) = some v := by
 cases xs with
 | nil => have := h.1; simp at this; omega
 | cons x xs =>
  obtain ⟨_, _, hr⟩ := Kd.reads_of_C (d := x) h
  obtain ⟨ad, e, hc⟩ := hr hp
  refine ⟨ad, e, fun j v hj => ?_⟩
  have hl := h.1
  rw [List.getElem?_map, Option.map_eq_some_iff] at hj
  obtain ⟨y, hy, rfl⟩ := hj
  have hjl : j < (x :: xs).length := (List.getElem?_eq_some_iff.1 hy).1
  rw [hc j (by omega)]
  simp [List.getD_eq_getElem?_getD, hy]
theorem reps_ints {w : World} {b : Nat} {ok : Nat → Prop} : ∀ xs : List Int, Reps (Kd.M (Kd.int .u8) w b ok) (Kd.int .u8).sz xs (xs.map (Value.int .u8))
 | [] => Reps.none _ _
 | x :: xs => Reps.one (show Kd.M (Kd.int .u8) _ _ _ x [.int .u8 x] from rfl) (reps_ints xs)
theorem litB (hw : Region.wanted o (yielded ops a.tmps) = true) {N : Tmp} (hd : o.dst = some N) (hrun : (execOp a.eval o).run P W = .ok (.value (.slice (some ⟨W.heap.size, 0, none⟩) xs.length xs.length)) (W.alloc (.cells (xs.map (Value.int .u8)).toArray 5))) (hm : xs.length ≤ 9223372036854775807)
  (h : ∀ v1 w1, Kd.R (Kd.int .u8) 5 w1 W.heap.size (fun _ => True) v1 xs → Below W.heap.size W w1 → Kc (a.put o.dst v1) w1) : if Region.wanted o (yielded ops a.tmps) = true then Oper.wp P o a W Kc Q else Kc (a.put o.dst undef) W :=
 Kd.R_lit_step (Kd.int .u8) _ 5 hw hd (xs := xs) (inner := xs.map (Value.int .u8)) (ok := fun _ => True) (okp := fun _ => True) hrun (reps_ints xs) (fun _ h => h) trivial (Below.refl _ _) (Nat.le_refl _) hm (fun v w ho hb _ _ => h v w ho hb)
theorem appB (hw : Region.wanted o (yielded ops a.tmps) = true) (s x : Operand)
  (ho : o.op = .call { callee := .builtin .append, args := #[s, x], argTypes := #[36, 36] }) (hs : a.eval s = v) (hx : a.eval x = .slice A ys.length c) (HR : RB W base f q v xs) (HS : Kd.C (Kd.int .u8) W A ys.length ys)
  (HB : Below base w0 W) (hbase : base ≤ W.heap.size) (hl : xs.length + ys.length ≤ 100000000000) (h : ∀ v1 w1, RB w1 base (ow f W.heap.size q) q v1 (xs ++ ys) → Below base w0 w1 → W.grownBy w1 v.ownBlock → Kc (a.put o.dst v1) w1) :
  if Region.wanted o (yielded ops a.tmps) = true then Oper.wp Try.prog o a W Kc Q else Kc (a.put o.dst undef) W :=
 Kd.R_append_rows_step (Kd.int .u8) (w0 := w0) base hw s x 36 5 (.int .u8 0) 1 ho Try.underlying36 info5 rfl (by decide) (by omega) v xs ys A _ c (fun k_ => ow f W.heap.size q k_ = q) (fun _ => False) hs hx (rb_same HR q) HS (fun _ _ h => h) (fun _ h => h.elim) (fun k hk => ow_new hk) HB hbase (by omega) (fun v1 w1 h1 h2 h3 _ => h v1 w1 h1 h2 h3)
theorem cvtB (hw : Region.wanted o (yielded ops a.tmps) = true) (x : Operand) (n : Nat) (ho : o.op = .convert 36 36 x) (hx : a.eval x = .slice (some ⟨g, 0, none⟩) n c) (hC : CB W f q g xs (0, 0))
  (h : ∀ w1, CB w1 f q g xs (xs.length, xs.length + 1) → (∀ k, k ≠ g → w1.heap[k]? = W.heap[k]?) → w1.heap.size = W.heap.size → (w1.os = W.os ∧ w1.tape = W.tape ∧ w1.output = W.output) → Kc (a.put o.dst (.slice (some ⟨g, 0, none⟩) n c)) w1) :
  if Region.wanted o (yielded ops a.tmps) = true then Oper.wp Try.prog o a W Kc Q else Kc (a.put o.dst undef) W := by
 obtain ⟨hh, hf⟩ := hC
 have hsh : W.shape? g = some (5, xs.length) := by
  unfold World.shape?
  rw [hh]; simp
 have hrun : (execOp a.eval o).run Try.prog W = .ok (.value (.slice (some ⟨g, 0, none⟩) n c)) (W.freeze ⟨g, xs.length, none⟩ 1) := by
  unfold execOp
  simp [ho, hx, convert, run_underlying Try.underlying36, run_underlying Try.underlying5, markStringish, hsh]
 refine event_step hw hrun (h _ ⟨?_, hf⟩ (fun k hk => ?_) ?_ ?_)
 ·unfold World.freeze
  rw [if_neg (by decide)]
  simp [Array.getElem?_modify, hh]
 ·unfold World.freeze
  rw [if_neg (by decide)]
  simp [Array.getElem?_modify, Ne.symm hk]
 ·unfold World.freeze
  rw [if_neg (by decide)]
  simp
 ·unfold World.freeze
  rw [if_neg (by decide)]
  exact ⟨rfl, rfl, rfl⟩
theorem appF (hw : Region.wanted o (yielded ops a.tmps) = true) (s x : Operand)
  (ho : o.op = .call { callee := .builtin .append, args := #[s, x], argTypes := #[36, 36] }) (hs : a.eval s = .slice (some ⟨g, 0, none⟩) xs.length xs.length) (hx : a.eval x = .slice A ys.length c) {m : Nat × Nat} (hC : CB W f q g xs m) (HS : Kd.C (Kd.int .u8) W A ys.length ys)
  (hl : xs.length + ys.length ≤ 100000000000) (h : ∀ v1 w1, VB w1 (ow f W.heap.size q) q v1 (xs ++ ys) → Below W.heap.size W w1 → Kc (a.put o.dst v1) w1) :
  if Region.wanted o (yielded ops a.tmps) = true then Oper.wp Try.prog o a W Kc Q else Kc (a.put o.dst undef) W := by
 obtain ⟨i0, hi, hz0, hz1, hz2⟩ := info_parts info5
 have hV := cb_V hC (by omega)
 rcases Nat.eq_zero_or_pos ys.length with h0 | h0
 ·obtain rfl : ys = [] := List.eq_nil_of_length_eq_zero h0
  have hrun : (Builtin.append_ #[36, 36] o.type #[.slice (some ⟨g, 0, none⟩) xs.length xs.length, .slice A ([] : List Int).length c]).run Try.prog W = .ok (.slice (some ⟨g, 0, none⟩) xs.length xs.length) W := by
   rcases A with _ | ad
   ·simp [Builtin.append_, run_underlying Try.underlying36, sizeOf, typeInfo, hi, Builtin.lenOf, Builtin.firstCells, storeCells]
   ·have := run_append_room_cells (P := Try.prog) W 36 o.type 5 i0 Try.underlying36 hi g 0 xs.length xs.length ad 0 c [] (by simp) (by simp) (by simp) (by omega) (by simp) (by simp)
    simpa [World.setCells] using this
  refine event_step hw (v := .slice (some ⟨g, 0, none⟩) xs.length xs.length) (w1 := W) ?_ (h _ _ ?_ (Below.refl _ _))
  ·unfold execOp
   simp only [ho, resolve, invoke, builtin, Sem.run_bind, Sem.run_pure, Result.andThen_ok, List.map_toArray, List.map_cons, List.map_nil, hs, hx, hrun]
  ·rw [List.append_nil]
   exact vb_re hV (Nat.le_refl _) (fun _ _ _ => rfl) (fun k hk => ow_old hk)
 ·obtain ⟨ad, rfl, hc⟩ := kdb_cells (enc := Value.int .u8) (h1 := fun _ => rfl) HS h0
  have hh := hC.1
  obtain ⟨v1, w1, hrun, r1, r2⟩ := run_append_arg_grows (P := Try.prog) W 36 o.type 5 i0 (.int .u8 0) 1 1 Try.underlying36 hi hz0 hz1 hz2 rfl (by decide) ⟨g, 0, none⟩ xs.length xs.length (xs.map (Value.int .u8)) (by simp)
   (fun j u hj => by
    rw [add_plain, cell_of_row _ _ _ _ _ _ hh]
    simpa using hj)
   ad ys.length c (ys.map (Value.int .u8)) (by simp) (fun j u hj => hc j u hj) (by omega) (by simp only [maxLen]; omega) (by omega)
  refine event_step hw (v := v1) (w1 := w1) ?_ (h _ _ ?_ ?_)
  ·unfold execOp
   simp only [ho, resolve, invoke, builtin, Sem.run_bind, Sem.run_pure, Result.andThen_ok, List.map_toArray, List.map_cons, List.map_nil, hs, hx, hrun]
  ·have hR : Kd.R (Kd.int .u8) 5 w1 W.heap.size (fun k => W.heap.size ≤ k) v1 (xs ++ ys) := Kd.R_of_own (by rw [List.length_append]; simpa [encs] using r1) (fun k hk => own_base r1 k hk)
   exact Kd.V_mono (Kd.R_V (Kd.R_bound hR) (base' := 0)) (fun k hk => ⟨ow_new hk.1, hk.2.2.1⟩)
  ·exact ⟨r2.os, r2.tape, r2.output, r2.size, fun k hk => r2.block k hk (by simp)⟩
end
end Go.Proofs.Ytlacfpbfnedgdaa.Q
