import Derived.Test.YtlacfpbfnedgdaaQ1
import Derived.Test.YtlacfpbfnedgdaaXOwn
import Derived.ArgAppend
import Derived.Lib.SlBytesConst
namespace Go.Proofs.Ytlacfpbfnedgdaa.Q
open Go.RowKit Go.Proofs.YtlacfpbfnedgdaaW.PrintWords Go.Proofs.YtlacfpbfnedgdaaW.PrintLast Go.Proofs.YtlacfpbfnedgdaaW.PrintMore
set_option linter.unusedVariables false
set_option linter.unusedSimpArgs false

/-! A constant's bytes: their row bears the run-time's mark, so it is read, never written: the first append makes a new one. -/

theorem lit_mark (W : World) (xs : List Int) (e : TypeId) (m : Nat × Nat) (hl : xs.length ≤ 9223372036854775807) : Kd.C (Kd.int .u8) (W.alloc (.cells (xs.map (Value.int .u8)).toArray e m)) (some ⟨W.heap.size, 0, none⟩) xs.length xs := by
  refine Kd.C_of_reads (d := (0 : Int)) (h1 := fun _ => rfl) ⟨rfl, hl, fun hp => ⟨_, rfl, fun j hj => ?_⟩⟩
  rw [add_plain]
  have hh : (W.alloc (.cells (xs.map (Value.int .u8)).toArray e m)).heap[W.heap.size]? = some (.cells (xs.map (Value.int .u8)).toArray e m) := by
    show (W.heap.push _)[W.heap.size]? = _
    simp
  rw [cell_of_row _ _ _ _ _ _ hh]
  simp [List.getD_eq_getElem?_getD, hj]

/-- append(xs, p): xs is read, and has no room. -/
theorem kd_append_full {P : Program} {ops : Array Oper} {rest : List Oper} {o : Oper} {a : Act} {Q : Exit → Act → World → Prop} {α : Type} {enc : α → Value} {h1 : ∀ x, (enc x).oneCell' = true} {W w0 : World} {base : Nat}
    (hgd : o.guard = none) (s x : Operand) (t : TypeId) (ho : o.op = .call { callee := .builtin .append, args := #[s, x], argTypes := #[t, t] }) (e : TypeId) (z : Value) (bytes : Nat) (ht : P.underlying t = some (.slice e))
    (hinfo : (P.info? e).map (fun i => (i.zero, i.size, i.bytes)) = some (some z, 1, bytes)) (hz : z.cells.size = 1)
    (A : Option Addr) (n : Nat) (xs : List α) (p : α) (hs : a.eval s = .slice A n n) (hx : a.eval x = .slice (some ⟨W.heap.size, 0, none⟩) 1 1) (hC : (Kd.scalar enc h1).C W A n xs) (hp : 0 < n)
    (hl : (n + 1) * bytes ≤ 140737488355328) (hm : n + 1 ≤ maxLen) (HB : Below base w0 W) (hbase : base ≤ W.heap.size)
    (h : ∀ v1 w1, (Kd.scalar enc h1).R e w1 base (fun k => W.heap.size ≤ k) v1 (xs ++ [p]) → Below base w0 w1 → Below W.heap.size W w1 → wpList P ops Q rest (a.put o.dst v1) w1) :
    wpList P ops Q (o :: rest) a (W.alloc (.cells #[enc p] e)) := by
  obtain ⟨ad, rfl, hc⟩ := kd_scalar_cells hC hp
  obtain ⟨i0, hi, hz0, hz1, hz2⟩ := info_parts hinfo
  have hlen : xs.length = n := hC.1
  refine wpList_append_grows _ hgd s x t ho e i0 z 1 bytes ht hi hz0 hz1 hz2 hz (by decide) (some ad) n n (xs.map enc) hs (fun h => by cases h) (by simp [hlen]) (fun b hb j u hj => ?_) ⟨W.heap.size, 0, none⟩ 1 1 [enc p] hx rfl (fun j u hj => ?_) (fun u hu => by rw [List.mem_singleton.1 hu]; exact h1 p) (by omega) hm hl ?_
  · cases hb
    exact pw_cell_below (below_alloc (Below.refl _ _) _) (hc j u hj)
  · have : j = 0 := by
      have := (List.getElem?_eq_some_iff.1 hj).1
      simp at this; omega
    subst this
    simp at hj
    subst hj
    rw [add_plain]
    simp
  · intro v' w' hown hg
    have hb0 : Below W.heap.size W w' := pw_below_grown (below_alloc (Below.refl _ _) _) _ (by simp) hg (fun k e => by cases e)
    refine h v' w' (Kd.R_of_own ?_ (fun k hk => ?_)) (below_then HB hbase hb0) hb0
    · have : (xs ++ [p]).length = n + 1 := by simp [hlen]
      rw [this]
      have h2 := own_weaken (base' := base) hown (by simp; omega)
      simpa [encs] using h2
    · have := own_base hown k hk
      simp at this
      omega

theorem small_one {k : Nat} {l0 l1 r : List Int} (h1 : l1.length = 1) (h : rec_small.f k l0 l1 = some r) : r = l0 ++ [(rd l1 0) % 256] ∧ l0.length < 140737488355328 := by
  unfold rec_small.f at h
  match k, h with
  | 0, h => simp [rec_small.l0] at h
  | 1, h => simp [rec_small.l0, h1] at h
  | k + 2, h =>
    simp only [rec_small.l0] at h
    rw [if_pos (by omega), if_pos (by omega), if_pos (by omega)] at h
    by_cases hl : l0.length < 140737488355328
    · rw [if_pos hl, if_neg (by unfold wrap64; omega)] at h
      exact ⟨(Option.some.inj h).symm, hl⟩
    · rw [if_neg hl] at h; cases h

set_option maxHeartbeats 4000000 in
theorem rec_small.lit (k : Nat) (A0 : Option Addr) (l0 : List Int) (A1 : Option Addr) (c1 : Nat) (l1 : List Int) (r : List Int) (w0 w : World) (hB : Below w0.heap.size w0 w) (hr0 : Kd.C (Kd.int .u8) w A0 l0.length l0) (hp : 0 < l0.length)
    (hr1 : Kd.C (Kd.int .i64) w A1 l1.length l1) (h1 : l1.length = 1) (h : rec_small.f k l0 l1 = some r) :
    Calls Try.prog 30 #[.slice A0 l0.length l0.length, .slice A1 l1.length c1] w fun e w' => ∃ v0_ : Value, e = .returned (v0_) ∧ Kd.R (Kd.int .u8) 5 w' w0.heap.size (fun k_ => (False ∨ w.heap.size ≤ k_)) v0_ r ∧ Below w0.heap.size w0 w' ∧ Kept w w' (fun k_ => False) := by
  obtain ⟨hr, hlim⟩ := small_one h1 h
  clear h
  obtain ⟨ad, e1, hx⟩ := Kd.at_int hr1 0 (by omega) (by omega)
  subst e1
  rw [show ((0 : Int)).toNat = 0 from rfl, show ad.add 0 = ad by simp [Addr.add]] at hx
  obtain ⟨y, hy⟩ : ∃ y, y = rd l1 0 := ⟨_, rfl⟩
  rw [← hy] at hx hr
  have Y := Aside0.mk hr
  have HR := Aside0.mk hr0
  have HB := Aside0.mk hB
  have hb0 := Aside0.mk hB.size
  have L1 := Aside0.mk h1
  rw [h1]
  clear hr1 hr0 hB hr hy h1
  go_enter Try.func30, Try.ntmps30
  go_wp2
  go_loopg [0, 6, 9] 1 (fun kq v0 v6 v9 wr => (kq = 1 ∧ v9 = .int .i64 0 ∧ v0 = .slice A0 l0.length l0.length ∧ wr = w) ∨
    (kq = 0 ∧ v9 = .int .i64 1 ∧ Aside0 (Kd.R (Kd.int .u8) 5 wr w0.heap.size (fun k_ => (False ∨ w.heap.size ≤ k_)) v0 r ∧ Below w0.heap.size w0 wr ∧ Below w.heap.size w wr)))
  case atStart => exact .inl ⟨rfl, rfl, rfl, rfl⟩
  case round =>
    rcases hrel with ⟨rfl, rfl, rfl, rfl⟩ | ⟨rfl, rfl, F⟩
    · go_wp2_with (((with_reducible refine gate_builtin (b := .append) (xs := #[.tmp 13, .tmp 16]) rfl ?_); at_builtin; refine kd_append_full (enc := Value.int .u8) (h1 := fun _ => rfl) (w0 := w0) (base := w0.heap.size) rfl (.tmp 13) (.tmp 16) 36 rfl 5 (.int .u8 0) 1 Try.underlying36 info5 rfl A0 l0.length l0 (y % 256) rfl rfl HR.out hp (by omega) (by unfold maxLen; omega) HB.out hb0.out ?_; intro v3 w3 ho hb hbb; have O3 := Aside0.mk ho; have B3 := Aside0.mk hb; have G3 := Aside0.mk hbb; clear ho hb hbb))
      go_roundg 0
      case measure => omega
      case rel => exact .inr ⟨rfl, by go_num, ⟨by rw [Y.out]; exact Kd.R_mono O3.out (fun k_ hk => .inr hk), B3.out, G3.out⟩⟩
    · go_wp2
      go_ret
      exact ⟨_, rfl, F.out.1, F.out.2.1, Kept.of_below F.out.2.2 _⟩
end Go.Proofs.Ytlacfpbfnedgdaa.Q
