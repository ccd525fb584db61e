import Derived.Test.YtlacfpbfnedgdaaQ0
import Derived.Shelf.Abstract
namespace Go.Proofs.Ytlacfpbfnedgdaa.Q
open Go.RowKit Go.Proofs.YtlacfpbfnedgdaaW.PrintWords Go.Proofs.YtlacfpbfnedgdaaW.PrintLast Go.Proofs.YtlacfpbfnedgdaaW.PrintMore
set_option linter.unusedVariables false
set_option linter.unusedSimpArgs false

/-! slices.IndexFunc, slices.ContainsFunc at []int, with any function value that only reads; rec.within. -/

theorem ret_i64 {a b : Int} (h : a = b) : Ending.returned (.int .i64 a) = .returned (.int .i64 b) := by rw [h]
theorem ret_bool {a b : Bool} (h : a = b) : Ending.returned (.bool a) = .returned (.bool b) := by rw [h]

/-- Called in whatever world that keeps w, the function value says p. -/
def SaysInt (g : Nat) (lb : Array Value) (p : Int → Bool) (w : World) : Prop :=
  ∀ W x, Below w.heap.size w W → Calls Try.prog g (#[.int .i64 x] ++ lb) W fun e w' => e = .returned (.bool (p x)) ∧ ∃ n, w' = W.drewN n

/-- The first place from j on where p holds; -1: none. -/
def idxFrom (p : Int → Bool) (l : List Int) (j : Nat) : Int :=
  match (l.drop j).findIdx? p with
  | some i => ((j + i : Nat) : Int)
  | none => -1

theorem idxFrom_hit {p : Int → Bool} {l : List Int} {j : Nat} (h : j < l.length) (hp : p (rd l j) = true) : idxFrom p l j = j := by
  have hd : l.drop j = rd l j :: l.drop (j + 1) := by
    rw [List.drop_eq_getElem_cons h]
    simp [rd, List.getD_eq_getElem?_getD, h]
  simp [idxFrom, hd, List.findIdx?_cons, hp]
theorem idxFrom_miss {p : Int → Bool} {l : List Int} {j : Nat} (h : j < l.length) (hp : p (rd l j) = false) : idxFrom p l (j + 1) = idxFrom p l j := by
  have hd : l.drop j = rd l j :: l.drop (j + 1) := by
    rw [List.drop_eq_getElem_cons h]
    simp [rd, List.getD_eq_getElem?_getD, h]
  simp only [idxFrom, hd, List.findIdx?_cons, hp]
  cases (l.drop (j + 1)).findIdx? p <;> simp <;> omega
theorem idxFrom_end {p : Int → Bool} {l : List Int} : idxFrom p l l.length = -1 := by simp [idxFrom]

set_option maxHeartbeats 1000000 in
theorem IndexFunc_calls (A0 : Option Addr) (c0 : Nat) (l : List Int) (g : Nat) (lb : Array Value) (p : Int → Bool) (w : World)
    (hr0 : Kd.C (Kd.int .i64) w A0 l.length l) (hc0 : l.length ≤ c0) (hp : SaysInt g lb p w)
    (eg : ∀ args w, (callFunc g args).run Try.prog w = .ok (.enter g args) w) :
    Calls Try.prog 43 #[.slice A0 l.length c0, .func (.func g) #[] lb] w fun e w' => e = .returned (.int .i64 (idxFrom p l 0)) ∧ ∃ n, w' = w.drewN n := by
  have HR := Aside0.mk hr0
  have HP : ∀ (x : Int) (q : Nat), Calls Try.prog g (#[.int .i64 x] ++ lb) (w.drewN q) fun e w' => e = .returned (.bool (p x)) ∧ ∃ q', w' = (w.drewN q).drewN q' := fun x q => hp _ x (pw_below_drewN (Below.refl _ w) q)
  clear hr0 hp
  have hmx : l.length ≤ 9223372036854775807 := HR.out.2.1
  go_enter Try.func43, Try.ntmps43
  go_wp2
  go_loopg [5, 8] l.length (fun gg _ s8 wr => ∃ kk q : Nat, kk ≤ l.length ∧ l.length - kk ≤ gg ∧ s8 = .int .i64 kk ∧ wr = w.drewN q ∧ Aside0 (idxFrom p l kk = idxFrom p l 0))
  case atStart => exact ⟨0, 0, Nat.zero_le _, by omega, rfl, rfl, ⟨rfl⟩⟩
  case round =>
    obtain ⟨kk, q, hkk, hg, rfl, rfl, A⟩ := hrel
    by_cases hlt : kk < l.length
    · have hltz : (kk : Int) < (l.length : Int) := by omega
      obtain ⟨ad, e0, hcell⟩ := Kd.at_int HR.out (kk : Int) (by omega) hltz
      cases e0
      simp only [Int.toNat_natCast] at hcell
      generalize hy : rd l kk = y at hcell
      have B := Aside0.mk hy
      clear hy
      have hcall := HP y
      clear HP
      cases hq : p y with
      | true =>
        rw [hq] at hcall
        go_wp2_with fail
        refine (hcall _).mono ?_
        rintro e w' ⟨rfl, q', rfl⟩
        clear hcall
        go_wp2
        go_ret
        exact ⟨ret_i64 ((idxFrom_hit hlt (by rw [B.out]; exact hq)).symm.trans A.out), _, rfl⟩
      | false =>
        rw [hq] at hcall
        go_wp2_with fail
        refine (hcall _).mono ?_
        rintro e w' ⟨rfl, q', rfl⟩
        clear hcall
        go_wp2
        go_roundg (l.length - (kk + 1))
        case measure => omega
        case rel => exact ⟨kk + 1, _, by omega, by omega, by go_num, rfl, ⟨(idxFrom_miss hlt (by rw [B.out]; exact hq)).trans A.out⟩⟩
    · have hltz : ¬ (kk : Int) < (l.length : Int) := by omega
      obtain rfl : kk = l.length := by omega
      clear HP
      go_wp2
      go_ret
      exact ⟨ret_i64 (idxFrom_end.symm.trans A.out), q, rfl⟩

theorem idxFrom_any (p : Int → Bool) (l : List Int) : decide (0 ≤ idxFrom p l 0) = l.any p := by
  unfold idxFrom
  simp only [List.drop_zero]
  cases h : l.findIdx? p with
  | some i =>
    obtain ⟨hi, hp, _⟩ := List.findIdx?_eq_some_iff_getElem.1 h
    have : l.any p = true := List.any_eq_true.2 ⟨l[i], List.getElem_mem hi, hp⟩
    rw [this]; exact decide_eq_true (Int.natCast_nonneg _)
  | none =>
    have := List.findIdx?_eq_none_iff.1 h
    have h2 : l.any p = false := by
      rw [Bool.eq_false_iff]
      intro h3
      obtain ⟨x, hx, hpx⟩ := List.any_eq_true.1 h3
      have := this x hx
      simp_all
    rw [h2]; decide

set_option maxHeartbeats 1000000 in
theorem ContainsFunc_calls (A0 : Option Addr) (c0 : Nat) (l : List Int) (g : Nat) (lb : Array Value) (p : Int → Bool) (w : World)
    (hr0 : Kd.C (Kd.int .i64) w A0 l.length l) (hc0 : l.length ≤ c0) (hp : SaysInt g lb p w)
    (eg : ∀ args w, (callFunc g args).run Try.prog w = .ok (.enter g args) w) :
    Calls Try.prog 41 #[.slice A0 l.length c0, .func (.func g) #[] lb] w fun e w' => e = .returned (.bool (l.any p)) ∧ ∃ n, w' = w.drewN n := by
  have hcon := IndexFunc_calls A0 c0 l g lb p w hr0 hc0 hp eg
  clear hr0 hp eg
  have hany := Aside0.mk (idxFrom_any p l)
  generalize idxFrom p l 0 = r at hcon hany
  go_enter Try.func41, Try.ntmps41
  go_wp2_with (go_at_call 43; refine hcon.mono ?_; clear hcon; rintro e w' ⟨rfl, q, rfl⟩)
  go_ret
  exact ⟨ret_bool hany.out, q, rfl⟩

theorem within_lit (B : Nat) (lo hi : Int) (w : World) (hB : B + 1 < w.heap.size) (h0 : w.cell? ⟨B, 0, none⟩ = some (.int .i64 lo)) (h1 : w.cell? ⟨B + 1, 0, none⟩ = some (.int .i64 hi)) :
    SaysInt 42 #[.pointer (some ⟨B, 0, none⟩), .pointer (some ⟨B + 1, 0, none⟩)] (fun x => decide (x < lo) || decide (hi < x)) w := fun W x hb => by
  have hc0 : W.cell? ⟨B, 0, none⟩ = some (.int .i64 lo) := (hb.cell (p := ⟨B, 0, none⟩) (by show B < _; omega)).trans h0
  have hc1 : W.cell? ⟨B + 1, 0, none⟩ = some (.int .i64 hi) := (hb.cell (p := ⟨B + 1, 0, none⟩) (by show B + 1 < _; omega)).trans h1
  clear hb h0 h1 hB
  show Calls Try.prog 42 #[.int .i64 x, .pointer (some ⟨B, 0, none⟩), .pointer (some ⟨B + 1, 0, none⟩)] W _
  by_cases c0 : x < lo
  · have d0 : decide (x < lo) = true := decide_eq_true c0
    go_enter Try.func42, Try.ntmps42
    go_wp2
    go_ret
    exact ⟨by simp [d0], 0, rfl⟩
  · have d0 : decide (x < lo) = false := decide_eq_false c0
    by_cases c1 : hi < x
    · have d1 : decide (hi < x) = true := decide_eq_true c1
      go_enter Try.func42, Try.ntmps42
      go_wp2
      go_ret
      exact ⟨by simp [d0, d1], 0, rfl⟩
    · have d1 : decide (hi < x) = false := decide_eq_false c1
      go_enter Try.func42, Try.ntmps42
      go_wp2
      go_ret
      exact ⟨by simp [d0, d1], 0, rfl⟩

/-- Is each number from lo to hi? -/
def rec_within_int.f (l0 : List Int) (a1 : Int) (a2 : Int) : Option (Bool) := some (l0.all fun x => decide (a1 ≤ x) && decide (x ≤ a2))

theorem within_not (l : List Int) (lo hi : Int) : (!l.any fun x => decide (x < lo) || decide (hi < x)) = l.all fun x => decide (lo ≤ x) && decide (x ≤ hi) := by
  rw [List.not_any_eq_all_not]
  congr 1
  funext x
  by_cases a : x < lo <;> by_cases b : hi < x <;> simp [a, b] <;> omega

set_option maxHeartbeats 1000000 in
theorem rec_within_int.calls (A0 : Option Addr) (c0 : Nat) (l0 : List Int) (a1 : Int) (a2 : Int) (r : Bool) (w : World) (hr0 : Kd.C (Kd.int .i64) w A0 l0.length l0) (hc0 : l0.length ≤ c0) (h : rec_within_int.f l0 a1 a2 = some r) :
    Calls Try.prog 29 #[.slice A0 l0.length c0, .int .i64 a1, .int .i64 a2] w fun e w' => e = .returned (.bool r) ∧ Below w.heap.size w w' := by
  obtain rfl := Option.some.inj h
  have eg : ∀ args w, (callFunc 42 args).run Try.prog w = .ok (.enter 42 args) w := enters_of Try.func42 (by kernel_rfl) rfl
  have hb : Below w.heap.size w ((w.alloc (.cells #[.int .i64 a1] 3)).alloc (.cells #[.int .i64 a2] 3)) := ((Below.refl _ w).alloc (Nat.le_refl _) _).alloc (by simp) _
  have hcon := ContainsFunc_calls A0 c0 l0 42 #[.pointer (some ⟨w.heap.size, 0, none⟩), .pointer (some ⟨w.heap.size + 1, 0, none⟩)] _ _ (Kd.C_below hr0 hb) hc0
    (within_lit w.heap.size a1 a2 _ (by simp) (by simp) (by simp)) eg
  have HB := Aside0.mk hb
  have hn := Aside0.mk (within_not l0 a1 a2)
  clear hb eg hr0 h
  generalize (l0.any fun x => decide (x < a1) || decide (a2 < x)) = b at hcon hn
  go_enter Try.func29, Try.ntmps29
  go_wp2_with (go_at_call 41; refine hcon.mono ?_; clear hcon; rintro e w' ⟨rfl, q, rfl⟩)
  go_ret
  exact ⟨ret_bool hn.out, pw_below_drewN HB.out q⟩
end Go.Proofs.Ytlacfpbfnedgdaa.Q
