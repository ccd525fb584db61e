-- packed by wip/tools/pack.py (a program of this session) out of its own texts
import Derived.Test.YtlacfpbfnedgdaaPRecReads0
import Derived.ArgAppend
import Derived.Below
import Derived.BigQuiet
import Derived.Deep.AppendLies
import Derived.Deep.CutBlock
import Derived.Deep.DeepCutAuto
import Derived.Deep.Draws
import Derived.Deep.LoopGhost
import Derived.Deep.OwnRows
import Derived.Deep.QuietTactic
import Derived.Deep.RegionHeld3
import Derived.KernelRfl
import Derived.Laws.BitsLemmas
import Derived.Laws.BytesArg
import Derived.Laws.IdiomCopy
import Derived.Laws.MakeOwn
import Derived.Laws.OwnMore
import Derived.Laws.Rows
import Derived.Laws.Slices
import Derived.Lib.AppendStr
import Derived.Lib.ConvBytes
import Derived.Lib.SliceRun
import Derived.Maps.AppendAt
import Derived.OrdersHeld
import Derived.OwnWalk
import Derived.RowKit
import Derived.RowKit3
import Derived.Tactics
import Derived.Test.YtlacfpbfnedgdaaProg
import Derived.WalkKit
import Derived.WalkSpells
import Derived.WideLaws
import Derived.Test.YtlacfpbfnedgdaaPRecReads1
import Derived.Test.YtlacfpbfnedgdaaPRecReads3
import Derived.Test.YtlacfpbfnedgdaaPRecReads4
import Derived.Test.YtlacfpbfnedgdaaPRecReads5
namespace Go.Proofs.Ytlacfpbfnedgdaa.Q
open Go.RowKit Go.Proofs.YtlacfpbfnedgdaaW.PrintWords Go.Proofs.YtlacfpbfnedgdaaW.PrintLast Go.Proofs.YtlacfpbfnedgdaaW.PrintMore
set_option linter.unusedVariables false
set_option linter.unusedSimpArgs false
theorem R_none_nil {α : Type} {d : Kd α} {e : Nat} {w : World} {base : Nat} {ok : Nat → Prop} {n c : Nat} {xs : List α} (h : d.R e w base ok (.slice none n c) xs) : xs = [] ∧ n = 0 ∧ c = 0 := by
 obtain ⟨_, inner, ho, hr⟩ := h
 rcases ho.2 with ⟨he, h0⟩ | ⟨g, cap, cur, he, _⟩
 ·injection he with _ h1 h2
  exact ⟨List.eq_nil_of_length_eq_zero h0, h1, h2⟩
 ·cases he
set_option maxHeartbeats 2000000 in
theorem CloneRows_calls {α : Type} (d : Kd α) (hsz : d.sz = 2) (v : Value) (xs : List α) (base : Nat) (ok : Nat → Prop) (w0 w : World) (hB : Below base w0 w) (hbase : base ≤ w.heap.size)
  (hR : d.R 33 w base ok v xs) (hfresh : ∀ k, w.heap.size ≤ k → ok k) (hl : xs.length * 48 ≤ 140737488355328) :
  Calls Try.prog 35 #[v] w fun e w' => ∃ v1 : Value, e = .returned v1 ∧ d.R 33 w' base ok v1 xs ∧ Below base w0 w' ∧ Below w.heap.size w w' := by
 have O := am hR
 have B := am hB
 have F := am hfresh
 obtain ⟨A, c, e⟩ := Kd.R_slice hR
 subst e
 clear hR hB hfresh
 have heq : ∀ W : World, (binOp .eql 25 (.slice A xs.length c) (.slice none 0 0)).run Try.prog W = .ok (.bool A.isNone) W := fun W => Lib.run_eql_slice_nil W _ _ A _ _ _ _ Try.underlying25
 cases A with
 | none =>
  have hb : (none : Option Addr).isNone = true := rfl
  rw [hb] at heq
  go_enter Try.func35, Try.ntmps35
  go_wp2
  go_ret
  obtain ⟨rfl, _, rfl⟩ := R_none_nil O.out
  exact ⟨_, rfl, Kd.R_nil _ _ _ _ _, B.out, Below.refl _ _⟩
 | some ad =>
  have hb : (some ad).isNone = false := rfl
  rw [hb] at heq
  have hlen : (([] : List α).length + xs.length) * 48 ≤ 140737488355328 := by simpa using hl
  have hO := Kd.R_alloc O.out (.cells #[] 33)
  have hrr : ReadsRow (d.M (w.alloc (.cells #[] 33)) base (fun k => ok k ∧ k < w.heap.size)) d.sz (w.alloc (.cells #[] 33)) (some ad) xs.length xs := by
   obtain ⟨A, c', e, hlc, hr⟩ := OwnRow.reads (Kd.R_bound O.out).2
   injection e with e1 e2 e3
   subst e1
   exact hr.imp_ (below_alloc (Below.refl _ _) _) (fun x cs hx => d.M_mono (fun k hk => ⟨hk.1.1, hk.1.2.2.1⟩) (Kd.M_below hx (below_alloc (Below.refl _ _) _)))
  have HR := am hrr
  have HN : Aside0 (d.R 33 (w.alloc (.cells #[] 33)) base ok (.slice (some ⟨w.heap.size, 0, none⟩) 0 0) []) := by
   obtain hl := OwnRow.lit (R := d.M (w.alloc (.cells #[] 33)) base (fun k => ok k ∧ some k ≠ (Value.slice (some ⟨w.heap.size, 0, none⟩) 0 0).ownBlock)) (e := 33) (size := d.sz) (ps := ([] : List α)) w base (inner := []) (Reps.none _ _) hbase (by simp)
   exact ⟨⟨fun k hk => F.out k (by simp [Value.ownBlock] at hk; omega), hl⟩⟩
  clear hO hrr
  go_enter Try.func35, Try.ntmps35
  go_wp2_with (((with_reducible refine gate_builtin (b := .append) (xs := #[.tmp 5, .tmp 6]) rfl ?_); at_builtin; refine Kd.R_append_rows d (w0 := w0) base rfl (.tmp 5) (.tmp 6) 25 33 (.agg #[.slice none 0 0, .slice none 0 0]) 48 rfl Try.underlying25 (by rw [hsz]; exact info33) (by rw [hsz]; rfl) (by omega) (by decide) (.slice (some ⟨w.heap.size, 0, none⟩) 0 0) [] xs _ _ _ ok (fun k => ok k ∧ k < w.heap.size) rfl rfl HN.out HR.out (fun _ _ h => h) (fun k hk => ⟨hk.1, fun e => by simp [Value.ownBlock] at e; omega⟩) (fun k hk => F.out k (by simp at hk; omega)) (B.out.alloc hbase _) (by simp; omega) hlen ?_; intro v3 w3 ho hb hg hat; have O3 := am ho; have B3 := am hb; have G3 := am hg; clear ho hb hg hat))
  go_ret
  refine ⟨_, rfl, O3.out, B3.out, ?_⟩
  exact pw_below_grown (below_alloc (Below.refl _ _) _) _ (by simp) G3.out (fun k e => by simp [Value.ownBlock] at e; omega)
end Go.Proofs.Ytlacfpbfnedgdaa.Q
