-- packed by wip/tools/pack.py (a program of this session) out of its own texts
import Derived.Test.YtlacfpbfnedgdaaPRecReads0
import Derived.ArgAppend
import Derived.Below
import Derived.BigQuiet
import Derived.Deep.AppendLies
import Derived.Deep.CutBlock
import Derived.Deep.DeepCutAuto
import Derived.Deep.Draws
import Derived.Deep.LoopGhost
import Derived.Deep.OwnRows
import Derived.Deep.QuietTactic
import Derived.Deep.RegionHeld3
import Derived.KernelRfl
import Derived.Laws.BitsLemmas
import Derived.Laws.BytesArg
import Derived.Laws.CopyOwn
import Derived.Laws.IdiomCopy
import Derived.Laws.MakeOwn
import Derived.Laws.OwnMore
import Derived.Laws.Rows
import Derived.Laws.Slices
import Derived.Lib.AppendStr
import Derived.Lib.ConvBytes
import Derived.Maps.AppendAt
import Derived.OrdersHeld
import Derived.OwnWalk
import Derived.RowKit
import Derived.RowKit3
import Derived.Tactics
import Derived.Test.YtlacfpbfnedgdaaProg
import Derived.WalkKit
import Derived.WideLaws
import Derived.Test.YtlacfpbfnedgdaaPRecReads1
import Derived.Test.YtlacfpbfnedgdaaPRecReads3
import Derived.Test.YtlacfpbfnedgdaaPRecReads4
import Derived.Test.YtlacfpbfnedgdaaPRecReads5
namespace Go.Proofs.Ytlacfpbfnedgdaa.Q
open Go.RowKit Go.Proofs.YtlacfpbfnedgdaaW.PrintWords Go.Proofs.YtlacfpbfnedgdaaW.PrintLast Go.Proofs.YtlacfpbfnedgdaaW.PrintMore
set_option linter.unusedVariables false
set_option linter.unusedSimpArgs false
theorem kd_scalar_cells {α : Type} {enc : α → Value} {h1 : ∀ x, (enc x).oneCell' = true} {w : World} {A : Option Addr} {n : Nat} {xs : List α} (h : (Kd.scalar enc h1).C w A n xs) (hp : 0 < n) :
  ∃ ad, A = some ad ∧ ∀ j v, (xs.map enc)[j]? = some v → w.cell? (ad.add j) = some v := by
 cases xs with
 | nil => have := h.1; simp at this; omega
 | cons x xs =>
  obtain ⟨_, _, hr⟩ := Kd.reads_of_C (d := x) h
  obtain ⟨ad, e, hc⟩ := hr hp
  refine ⟨ad, e, fun j v hj => ?_⟩
  have hl := h.1
  rw [List.getElem?_map, Option.map_eq_some_iff] at hj
  obtain ⟨y, hy, rfl⟩ := hj
  have hjl : j < (x :: xs).length := (List.getElem?_eq_some_iff.1 hy).1
  rw [hc j (by omega)]
  simp [List.getD_eq_getElem?_getD, hy]
theorem kd_copy_full {P : Program} {ops : Array Oper} {rest : List Oper} {o : Oper} {a : Act} {Q : Exit → Act → World → Prop} {α : Type} {enc : α → Value} {h1 : ∀ x, (enc x).oneCell' = true} {W w0 : World} {base : Nat} {ok : Nat → Prop}
  (hgd : o.guard = none) (d s : Operand) (dT sT : TypeId) (ho : o.op = .call { callee := .builtin .copy, args := #[d, s], argTypes := #[dT, sT] }) (e : TypeId) (hu : P.underlying dT = some (.slice e)) (hsz : (P.info? e).map (·.size) = some 1)
  (v1 : Value) (A0 : Option Addr) (c0 : Nat) (xs ys : List α) (hd : a.eval d = v1) (hs : a.eval s = .slice A0 xs.length c0) (hO : (Kd.scalar enc h1).R e W base ok v1 ys) (hl : ys.length = xs.length) (hC : (Kd.scalar enc h1).C W A0 xs.length xs) (HB : Below base w0 W)
  (h : ∀ w1, (Kd.scalar enc h1).R e w1 base ok v1 xs → Below base w0 w1 → wpList P ops Q rest (a.put o.dst (goInt xs.length)) w1) : wpList P ops Q (o :: rest) a W := by
 have hown := Kd.own_of_R hO
 rcases Nat.eq_zero_or_pos xs.length with h0 | h0
 ·obtain rfl := List.eq_nil_of_length_eq_zero h0
  obtain rfl := List.eq_nil_of_length_eq_zero (hl.trans h0)
  obtain ⟨A, c, rfl, _⟩ := Kd.R_reads hO
  refine wpList_copy_nothing hgd d s dT sT ho e hu hsz A A0 _ c _ c0 hd hs (by simp) ?_
  exact h W hO HB
 ·rcases hown with ⟨_, hn | ⟨g, cap, cur, rfl, hb, hh, hnc, hcm, hcs, ht⟩⟩
  ·omega
  ·obtain ⟨ad, rfl, hc⟩ := kd_scalar_cells hC h0
   have hlen : (xs.map enc).length = Nat.min xs.length ys.length := by simp [hl]
   have hfit : 0 + (xs.map enc).length ≤ cur.size := by rw [hcs, List.length_map]; omega
   refine wpList_copy_own hgd d s dT sT ho e hu hsz g 0 _ cap ad _ c0 hd hs cur e hh (xs.map enc) hlen hc hfit (fun v hv => by obtain ⟨x, _, rfl⟩ := List.mem_map.1 hv; exact h1 x) ?_
   have hgo := h (W.setRow g (cur.toList.take 0 ++ (xs.map enc ++ cur.toList.drop (0 + (xs.map enc).length))).toArray) ?_ (below_setRow HB hb _)
   ·simpa only [List.length_map] using hgo
   ·rw [hl]
    refine Kd.R_of_own ⟨by simp [encs], .inr ⟨g, cap, _, rfl, hb, setRow_heap W g _ _ e _ hh, by omega, hcm, ?_, ?_⟩⟩ (fun k hk => hO.1 k (by simpa [Value.ownBlock] using hk))
    ·simp
     rw [List.length_map] at hfit
     omega
    ·simp [encs]
def rec_own.f (l0 : List Int) : Option (List Int) := if l0.length ≤ 281474976710656 then some l0 else none
set_option maxHeartbeats 2000000 in
theorem rec_own.calls (A0 : Option Addr) (c0 : Nat) (l0 : List Int) (r : List Int) (w : World) (hr0 : Kd.C (Kd.int .u8) w A0 l0.length l0) (hc0 : l0.length ≤ c0) (h : rec_own.f l0 = some r) :
  Calls Try.prog 32 #[.slice A0 l0.length c0] w fun e w' => ∃ v0_ : Value, e = .returned (v0_) ∧ Kd.R (Kd.int .u8) 5 w' w.heap.size (fun _ => True) v0_ r ∧ Below w.heap.size w w' := by
 unfold rec_own.f at h
 split at h
 case isFalse => cases h
 case isTrue hlen =>
 obtain rfl := Option.some.inj h
 have HR := am hr0
 clear hr0 h
 go_enter Try.func32, Try.ntmps32
 go_wp2_with (first
  | ((with_reducible refine gate_dst (N := 6) rfl ?_); refine Kd.R_make (Kd.int .u8) (w0 := w) w.heap.size 5 rfl rfl 36 (.tmp 5) (.tmp 5) rfl (l0.length : Int) rfl rfl Try.underlying36 (.int .u8 0) 1 info5 rfl (by decide) (by decide) 0 (ok := fun _ => True) (okp := fun _ => True) rfl (fun _ h => h) trivial (Int.natCast_nonneg _) ?hl (Below.refl _ _) (Nat.le_refl _) ?_; (case hl => simpa using hlen); intro v1 w1 ho hb hg hat; have HO := am ho; have HB := am hb; clear ho hb hg hat)
  | ((with_reducible refine gate_builtin (b := .copy) (xs := #[.tmp 7, .tmp 8]) rfl ?_); refine kd_copy_full rfl (.tmp 7) (.tmp 8) 36 36 rfl 5 Try.underlying36 (by kernel_rfl) v1 A0 c0 l0 _ rfl rfl HO.out (by simp) (Kd.C_below HR.out HB.out) HB.out ?_; intro w2 ho2 hb2; have HO2 := am ho2; have HB2 := am hb2; clear HO HB ho2 hb2))
 go_ret
 exact ⟨v1, rfl, HO2.out, HB2.out⟩
end Go.Proofs.Ytlacfpbfnedgdaa.Q
