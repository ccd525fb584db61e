import Derived.Test.YtlacfpbfnedgdaaQ0
namespace Go.Proofs.Ytlacfpbfnedgdaa.Q
open Go.RowKit Go.Proofs.YtlacfpbfnedgdaaW.PrintWords Go.Proofs.YtlacfpbfnedgdaaW.PrintLast Go.Proofs.YtlacfpbfnedgdaaW.PrintMore
set_option linter.unusedVariables false
set_option linter.unusedSimpArgs false

/-! (*rec.reader).take, .list: numbers off the front of bytes. -/

/-- A number of bytes, the highest first. -/
def numOf (l : List Int) : Int := l.foldl (fun x c => Go.bits .or .i64 (wrap64 (x * 256)) (wrap64 c)) 0
theorem numOf_snoc (l : List Int) (c : Int) : numOf (l ++ [c]) = Go.bits .or .i64 (wrap64 (numOf l * 256)) (wrap64 c) := by simp [numOf, List.foldl_append]

def takeV (l : List Int) (n : Nat) : Int := if l.length < n then 0 else numOf (l.take n)
def takeL (l : List Int) (n : Nat) : List Int := if l.length < n then [] else l.drop n
def takeB (l : List Int) (n : Nat) (b : Bool) : Bool := if l.length < n then true else b

theorem ret_i64' {a b : Int} (h : a = b) : Ending.returned (.int .i64 a) = .returned (.int .i64 b) := by rw [h]
theorem take_snoc' (l : List Int) (k : Nat) (h : k < l.length) : l.take (k + 1) = l.take k ++ [rd l k] := by
  rw [List.take_succ_eq_append_getElem h]; simp [rd, List.getD_eq_getElem?_getD, h]

/-- The reader in block g holds what is left, l, of bytes that came in. -/
def RdrAt (g : Nat) (w0 : World) (l : List Int) (bad : Bool) (w : World) : Prop := ∃ (A : Option Addr) (c : Nat),
  w.heap[g]? = some (.cells #[.slice A l.length c, .bool bad] 61 (0, 0)) ∧ Kd.C (Kd.int .u8) w0 A l.length l ∧ l.length ≤ c
theorem RdrAt.move {g : Nat} {w0 : World} {l : List Int} {bad : Bool} {w w1 : World} (h : RdrAt g w0 l bad w) (hm : w1.heap[g]? = w.heap[g]?) : RdrAt g w0 l bad w1 := by
  obtain ⟨A, c, h1, h2, h3⟩ := h
  exact ⟨A, c, hm.trans h1, h2, h3⟩
theorem RdrAt.lt {g : Nat} {w0 : World} {l : List Int} {bad : Bool} {w : World} (h : RdrAt g w0 l bad w) : g < w.heap.size := by
  obtain ⟨A, c, h1, h2, h3⟩ := h
  exact blk_lt h1

set_option maxHeartbeats 2000000 in
theorem take_calls (g : Nat) (l : List Int) (bad : Bool) (n : Nat) (w0 w : World) (hB : Below w0.heap.size w0 w) (hgb : w0.heap.size ≤ g)
    (hR : RdrAt g w0 l bad w) (hn : n ≤ 8) :
    Calls Try.prog 34 #[.pointer (some ⟨g, 0, none⟩), .int .i64 (n : Int)] w fun e w' => e = .returned (.int .i64 (takeV l n)) ∧
      RdrAt g w0 (takeL l n) (takeB l n bad) w' ∧ Below w0.heap.size w0 w' ∧ KeepBut w w' g none := by
  obtain ⟨A, c, hg, hC, hc⟩ := hR
  have HG := Aside0.mk hg
  have HC := Aside0.mk hC
  have HB := Aside0.mk hB
  have h0 := blk_cell hg 0
  have h1 := blk_cell hg 1
  have f0 := blk_frozen hg 0
  have f1 := blk_frozen hg 1
  have hmx : l.length ≤ 9223372036854775807 := hC.2.1
  have hbk : g < w.heap.size := blk_lt hg
  clear hg hC hB
  by_cases hlt : l.length < n
  · have e1 : takeV l n = 0 := if_pos hlt
    have e2 : takeL l n = [] := if_pos hlt
    have e3 : takeB l n bad = true := if_pos hlt
    have E := Aside0.mk (And.intro e1 (And.intro e2 e3))
    clear e1 e2 e3
    have hd : decide (l.length < n) = true := decide_eq_true hlt
    go_enter Try.func34, Try.ntmps34
    go_wp2
    go_ret
    refine ⟨ret_i64' E.out.1.symm, ⟨none, 0, ?_, ?_, ?_⟩, ?_, ?_⟩
    · rw [E.out.2.1, E.out.2.2]
      exact blk_set (blk_set HG.out 0 _) 1 _
    · rw [E.out.2.1]; exact Kd.C_nil _ _
    · rw [E.out.2.1]; exact Nat.le_refl _
    · exact below_set (below_set HB.out hgb) hgb
    · exact ((KeepBut.refl w g none).set_ 0 _).set_ 1 _
  · have e1 : takeV l n = numOf (l.take n) := if_neg hlt
    have e2 : takeL l n = l.drop n := if_neg hlt
    have e3 : takeB l n bad = bad := if_neg hlt
    have E := Aside0.mk (And.intro e1 (And.intro e2 e3))
    clear e1 e2 e3
    have hd : decide (l.length < n) = false := decide_eq_false hlt
    obtain ⟨i0, hi0, _, hsz, _⟩ := info_parts info5
    have hto := cut_to (P := Try.prog) 36 5 .i64 Try.underlying36 hi0 A l.length c (n : Int) (by omega) (by omega) hc
    have hfrom := cut_from (P := Try.prog) 36 5 .i64 Try.underlying36 hi0 1 hsz A l.length c (n : Int) (by omega) (by omega)
    simp only [Int.toNat_natCast, Nat.mul_one] at hto hfrom
    obtain ⟨A', hA'⟩ : ∃ A', A' = (if c = n then A else A.map (·.add n)) := ⟨_, rfl⟩
    rw [← hA'] at hfrom
    have HA := Aside0.mk hA'
    clear hA' hi0 hsz
    have hnl : n ≤ l.length := by omega
    go_enter Try.func34, Try.ntmps34
    go_wp2
    go_loop [5, 7, 28] (fun x _ i => ∃ k : Nat, k ≤ n ∧ i = .int .i64 k ∧ x = .int .i64 (numOf (l.take k))) (fun _ _ i => n - (intOf i).toNat)
    case atStart => exact ⟨0, Nat.zero_le _, rfl, rfl⟩
    case round =>
      obtain ⟨k, hk, rfl, rfl⟩ := hrel
      by_cases hkn : k < n
      · obtain ⟨ad, ea, hx⟩ := Kd.at_int HC.out (k : Int) (by omega) (by omega)
        subst ea
        have hx' := (HB.out.cell (World.block_lt_of_cell? _ _ hx)).trans hx
        simp only [Int.toNat_natCast] at hx'
        clear hx
        have hkl : k < l.length := by omega
        have hs := Aside0.mk ((congrArg numOf (take_snoc' l k hkl)).trans (numOf_snoc _ _))
        generalize rd l k = y at hx' hs
        go_wp2
        go_round
        case rel => exact ⟨k + 1, by omega, by go_num, by rw [hs.out]⟩
        case measure => simp [intOf]; omega
      · obtain rfl : k = n := by omega
        go_wp2
        go_ret
        refine ⟨ret_i64' E.out.1.symm, ⟨A', c - k, ?_, ?_, ?_⟩, ?_, ?_⟩
        · rw [E.out.2.1, E.out.2.2, List.length_drop]
          exact blk_set HG.out 0 _
        · rw [E.out.2.1, HA.out]
          have := Kd.C_drop (k := Kd.int .u8) HC.out hnl hc
          rw [show (Kd.int .u8).sz = 1 from rfl, Nat.mul_one] at this
          exact this
        · rw [E.out.2.1, List.length_drop]; omega
        · exact below_set HB.out hgb
        · exact (KeepBut.refl w g none).set_ 0 _

/-- So many numbers of n bytes: these, what is left, whether there were too few. -/
def listL (n : Nat) : Nat → List Int → Bool → List Int → List Int × List Int × Bool
  | 0, l, b, acc => (acc, l, b)
  | m + 1, l, b, acc => if b = true then ([], l, b) else listL n m (takeL l n) (takeB l n b) (acc ++ [takeV l n])
theorem listL_bad (n m : Nat) (l : List Int) (acc : List Int) : listL n (m + 1) l true acc = ([], l, true) := by simp [listL]
theorem listL_go (n m : Nat) (l : List Int) (acc : List Int) : listL n (m + 1) l false acc = listL n m (takeL l n) (takeB l n false) (acc ++ [takeV l n]) := by simp [listL]
theorem takeL_lt (l : List Int) (n : Nat) (hn : 1 ≤ n) (h : takeB l n false = false) : (takeL l n).length + 1 ≤ l.length := by
  unfold takeB at h
  split at h
  · cases h
  · unfold takeL
    rw [if_neg (by assumption), List.length_drop]
    omega

theorem own_none_or {v : Value} {B : Nat} (h : ∀ k, v.ownBlock = some k → B ≤ k) : v.ownBlock = none ∨ ∃ b, v.ownBlock = some b ∧ B ≤ b := by
  cases hv : v.ownBlock with
  | none => exact .inl rfl
  | some b => exact .inr ⟨b, rfl, h b hv⟩

set_option maxHeartbeats 4000000 in
theorem list_calls (g : Nat) (l : List Int) (bad : Bool) (m : Int) (n : Nat) (w0 w : World) (hB : Below w0.heap.size w0 w) (hgb : w0.heap.size ≤ g)
    (hR : RdrAt g w0 l bad w) (hn : n ≤ 8) (hn1 : 1 ≤ n) (hL : l.length ≤ 1000000000000) (hmx : m ≤ 9223372036854775807) :
    Calls Try.prog 33 #[.pointer (some ⟨g, 0, none⟩), .int .i64 m, .int .i64 (n : Int)] w fun e w' => ∃ v : Value, e = .returned v ∧
      Kd.R (Kd.int .i64) 3 w' w0.heap.size (fun k_ => w.heap.size ≤ k_) v (listL n m.toNat l bad []).1 ∧
      RdrAt g w0 (listL n m.toNat l bad []).2.1 (listL n m.toNat l bad []).2.2 w' ∧ Below w0.heap.size w0 w' ∧ KeepBut w w' g none := by
  have HR := Aside0.mk hR
  have HB := Aside0.mk hB
  have HL := Aside0.mk hL
  have MX := Aside0.mk hmx
  have hgw : g < w.heap.size := hR.lt
  have HS := Aside0.mk hB.size
  obtain ⟨res, hres⟩ : ∃ res, res = listL n m.toNat l bad [] := ⟨_, rfl⟩
  rw [← hres]
  have HE := Aside0.mk hres
  clear hres hR hB hL
  go_enter Try.func33, Try.ntmps33
  go_wp2
  go_loopg [7, 9] m.toNat (fun gg v7 v9 wr => ∃ (k : Nat) (li : List Int) (bi : Bool) (acc : List Int), k ≤ m.toNat ∧ m.toNat - k ≤ gg ∧ v9 = .int .i64 (k : Int) ∧ Aside0 (listL n (m.toNat - k) li bi acc = res) ∧ Aside0 (acc.length ≤ l.length + 1 ∧ (bi = false → acc.length + li.length ≤ l.length)) ∧
    Aside0 (Kd.R (Kd.int .i64) 3 wr w0.heap.size (fun k_ => w.heap.size ≤ k_) v7 acc) ∧ Aside0 (RdrAt g w0 li bi wr) ∧ Aside0 (Below w0.heap.size w0 wr) ∧ Aside0 (KeepBut w wr g none))
  case atStart => exact ⟨0, l, bad, [], Nat.zero_le _, by omega, rfl, ⟨by rw [Nat.sub_zero]; exact HE.out.symm⟩, ⟨by simp⟩, ⟨Kd.R_nil _ _ _ _ _⟩, HR, HB, ⟨KeepBut.refl w g none⟩⟩
  case round =>
    obtain ⟨k, li, bi, acc, hk, hg, rfl, E, I, O, R, B, K⟩ := hrel
    by_cases hlt : k < m.toNat
    · have hltz : (k : Int) < m := by omega
      obtain ⟨r, hr⟩ : ∃ r, m.toNat - k = r + 1 := ⟨m.toNat - k - 1, by omega⟩
      have hc1 : wr.cell? ⟨g, 1, none⟩ = some (.bool bi) := by
        obtain ⟨A, c, h1, _⟩ := R.out
        exact blk_cell h1 1
      cases bi with
      | true =>
        rw [hr, listL_bad] at E
        go_wp2
        go_ret
        refine ⟨_, rfl, ?_, ?_, B.out, K.out⟩
        · rw [← E.out]; exact Kd.R_nil _ _ _ _ _
        · rw [← E.out]; exact R.out
      | false =>
        rw [hr, listL_go] at E
        have I2 := Aside0.mk (I.out.2 rfl)
        clear I
        have hka : (acc.length + 1) * 8 ≤ 140737488355328 := by have := I2.out; have := HL.out; omega
        have hki : (k : Int) + 1 ≤ 9223372036854775807 := by have := MX.out; omega
        have htk := fun W h1 h2 => take_calls g li false n w0 W h1 hgb h2 hn
        go_wp2_with fail
        refine (htk _ B.out R.out).mono ?_
        clear htk
        obtain ⟨y, hy⟩ : ∃ y, y = takeV li n := ⟨_, rfl⟩
        rw [← hy] at E ⊢
        have Y := Aside0.mk hy
        clear hy
        rintro e w2 ⟨rfl, hR2, hB2, hK2⟩
        have R2 := Aside0.mk hR2
        have B2 := Aside0.mk hB2
        have O2 := Aside0.mk (Kd.R_keep O.out hK2 (fun k_ hk => by omega))
        have K2 := Aside0.mk (K.out.trans hK2 (.inl rfl))
        have S2 := Aside0.mk K2.out.1
        clear hR2 hB2 hK2 O R B K hc1
        go_wp2_with (((with_reducible refine gate_builtin (b := .append) (xs := #[.tmp 15, .tmp 19]) rfl ?_); at_builtin; refine Kd.R_append (Kd.int .i64) (w0 := w0) w0.heap.size rfl (.tmp 15) (.tmp 19) 22 3 (.int .i64 0) 8 rfl Try.underlying22 info3 rfl (by decide) (by omega) _ acc y [.int .i64 y] (fun k_ => w.heap.size ≤ k_) (fun _ => False) rfl rfl rfl (fun _ hk => hk.elim) (fun k_ hk => Nat.le_trans S2.out hk) O2.out B2.out (Nat.le_trans HS.out S2.out) hka ?_; intro v3 w3 ho hb hg hat; have O3 := Aside0.mk ho; have B3 := Aside0.mk hb; have G3 := Aside0.mk hg; clear ho hb hg hat))
        go_roundg (m.toNat - (k + 1))
        case measure => omega
        case rel =>
          refine ⟨k + 1, _, _, _, by omega, by omega, by go_num, ⟨by rw [show m.toNat - (k + 1) = r by omega]; exact E.out⟩, ⟨?_, fun hb => ?_⟩, O3, ⟨R2.out.move ?_⟩, B3, ⟨?_⟩⟩
          · have := I2.out
            simp; omega
          · have := takeL_lt li n hn1 hb
            have := I2.out
            simp; omega
          · refine G3.out.block g (Nat.lt_of_lt_of_le hgw S2.out) (fun he => ?_)
            have := O2.out.1 g he.symm
            omega
          · exact K2.out.trans (KeepBut.of_grown G3.out g) (own_none_or O2.out.1)
    · have hltz : ¬ (k : Int) < m := by omega
      obtain rfl : k = m.toNat := by omega
      rw [Nat.sub_self] at E
      obtain ⟨Ao, co, eo⟩ := Kd.R_slice O.out
      subst eo
      have hal : (([] : List Int).length + acc.length) * 8 ≤ 140737488355328 := by have := I.out.1; have := HL.out; simp; omega
      go_wp2_with (((with_reducible refine gate_builtin (b := .append) (xs := #[.const (.slice none 0 0), .tmp 22]) rfl ?_); at_builtin; refine Kd.R_append_rows (Kd.int .i64) (w0 := w0) w0.heap.size rfl (.const (.slice none 0 0)) (.tmp 22) 22 3 (.int .i64 0) 8 rfl Try.underlying22 info3 rfl (by decide) (by omega) (.slice none 0 0) [] acc _ _ _ (fun k_ => w.heap.size ≤ k_) (fun _ => False) rfl rfl (Kd.R_nil _ _ _ _ _) (Kd.R_reads' O.out).2.2 (fun _ _ h => h) (fun _ h => h.elim) (fun k_ hk => Nat.le_trans K.out.1 hk) B.out (Nat.le_trans HS.out K.out.1) hal ?_; intro v3 w3 ho hb hg hat; have O3 := Aside0.mk ho; have B3 := Aside0.mk hb; have G3 := Aside0.mk hg; clear ho hb hg hat))
      go_ret
      refine ⟨_, rfl, ?_, ?_, B3.out, ?_⟩
      · rw [← E.out]; exact O3.out
      · rw [← E.out]; exact R.out.move (G3.out.block g (Nat.lt_of_lt_of_le hgw K.out.1) (by simp [Value.ownBlock]))
      · exact K.out.trans (KeepBut.of_grown G3.out g) (.inl rfl)
end Go.Proofs.Ytlacfpbfnedgdaa.Q
