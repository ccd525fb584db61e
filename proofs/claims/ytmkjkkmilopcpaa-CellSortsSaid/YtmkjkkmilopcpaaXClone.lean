import Derived.Test.YtmkjkkmilopcpaaQ0
import Derived.WalkSpells
import Derived.Lib.SliceRun
namespace Go.Proofs.Ytmkjkkmilopcpaa.Q
open Go.RowKit Go.Proofs.YtmkjkkmilopcpaaW.PrintWords Go.Proofs.YtmkjkkmilopcpaaW.PrintLast Go.Proofs.YtmkjkkmilopcpaaW.PrintMore
set_option linter.unusedVariables false
set_option linter.unusedSimpArgs false

/-! slices.Clone of ints that are read: a row of the call's own. -/

def slices_Clone_int_int.f (l0 : List Int) : Option (List Int) := if l0.length * 8 ≤ 140737488355328 then some l0 else none
set_option maxHeartbeats 2000000 in
theorem slices_Clone_int_int.calls (A0 : Option Addr) (c0 : Nat) (l0 : List Int) (r : List Int) (w : World) (hr0 : Kd.C (Kd.int .i64) w A0 l0.length l0) (hc0 : l0.length ≤ c0) (h : slices_Clone_int_int.f l0 = some r) :
    Calls Try.prog 40 #[.slice A0 l0.length c0] w fun e w' => ∃ v0_ : Value, e = .returned (v0_) ∧ Kd.R (Kd.int .i64) 3 w' w.heap.size (fun _ => True) v0_ r ∧ Below w.heap.size w w' := by
  unfold slices_Clone_int_int.f at h
  split at h
  case isFalse => cases h
  case isTrue hl =>
  obtain rfl := Option.some.inj h
  clear h
  have heq : ∀ W : World, (binOp .eql 22 (.slice A0 l0.length c0) (.slice none 0 0)).run Try.prog W = .ok (.bool A0.isNone) W := fun W => Lib.run_eql_slice_nil W _ _ A0 _ _ _ _ Try.underlying22
  cases A0 with
  | none =>
    have hb : (none : Option Addr).isNone = true := rfl
    rw [hb] at heq
    have hn : Aside0 (l0 = []) := ⟨by
      cases l0 with
      | nil => rfl
      | cons x xs => obtain ⟨ad, e, _⟩ := (Kd.reads_of_C (d := x) hr0).2.2 (by simp); cases e⟩
    clear hr0
    go_enter Try.func40, Try.ntmps40
    go_wp2
    go_ret
    obtain rfl := hn.out
    exact ⟨_, rfl, Kd.R_nil _ _ _ _ _, Below.refl _ _⟩
  | some ad =>
    have hb : (some ad).isNone = false := rfl
    rw [hb] at heq
    have hlen : (([] : List Int).length + l0.length) * 8 ≤ 140737488355328 := by simpa using hl
    have HR := Aside0.mk (Kd.C_alloc hr0 (.cells #[] 3))
    have HN : Aside0 (Kd.R (Kd.int .i64) 3 (w.alloc (.cells #[] 3)) w.heap.size (fun _ => True) (.slice (some ⟨w.heap.size, 0, none⟩) 0 0) []) := by
      obtain hl := OwnRow.lit (R := (Kd.int .i64).M (w.alloc (.cells #[] 3)) w.heap.size (fun k => True ∧ some k ≠ (Value.slice (some ⟨w.heap.size, 0, none⟩) 0 0).ownBlock)) (e := 3) (size := (Kd.int .i64).sz) (ps := ([] : List Int)) w w.heap.size (inner := []) (Reps.none _ _) (Nat.le_refl _) (by simp)
      exact ⟨⟨fun k hk => trivial, hl⟩⟩
    clear hr0
    go_enter Try.func40, Try.ntmps40
    go_wp2_with (((with_reducible refine gate_builtin (b := .append) (xs := #[.tmp 5, .tmp 6]) rfl ?_); at_builtin; refine Kd.R_append_rows (Kd.int .i64) (w0 := w) w.heap.size rfl (.tmp 5) (.tmp 6) 22 3 (.int .i64 0) 8 rfl Try.underlying22 info3 rfl (by decide) (by decide) (.slice (some ⟨w.heap.size, 0, none⟩) 0 0) [] l0 _ _ _ (fun _ => True) (fun _ => False) rfl rfl HN.out HR.out (fun _ _ h => h) (fun k hk => hk.elim) (fun k hk => trivial) ((Below.refl _ w).alloc (Nat.le_refl _) _) (by simp) hlen ?_; intro v3 w3 ho hb hg hat; have O3 := Aside0.mk ho; have B3 := Aside0.mk hb; clear ho hb hg hat))
    go_ret
    exact ⟨_, rfl, O3.out, B3.out⟩
end Go.Proofs.Ytmkjkkmilopcpaa.Q
