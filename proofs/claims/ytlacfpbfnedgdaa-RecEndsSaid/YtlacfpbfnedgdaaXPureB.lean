import Derived.Test.YtlacfpbfnedgdaaXPureA
import Derived.Test.YtlacfpbfnedgdaaQ5
namespace Go.Proofs.Ytlacfpbfnedgdaa.Q
open Go.RowKit Go.Proofs.YtlacfpbfnedgdaaW.PrintWords Go.Proofs.YtlacfpbfnedgdaaW.PrintLast Go.Proofs.YtlacfpbfnedgdaaW.PrintMore
set_option linter.unusedVariables false
set_option linter.unusedSimpArgs false

/-! Chapter 1: bytes and numbers; known. -/

theorem known_40 : hypercubelaw1_known.f 60 = some true := by decide +kernel
theorem known_ev : Ev (fun k => hypercubelaw1_known.f k) true := Ev.of hypercubelaw1_known.mono known_40

/-! ### eight bytes of a number -/
def eight (x : Int) : List Int := [x / 72057594037927936 % 256, x / 281474976710656 % 256, x / 1099511627776 % 256, x / 4294967296 % 256, x / 16777216 % 256, x / 65536 % 256, x / 256 % 256, x % 256]
theorem eight_length (x : Int) : (eight x).length = 8 := rfl

/-- A byte laid behind what ends in eight zero bits. -/
theorem or_byte (q c : Int) (h0 : 0 ≤ c) (h1 : c < 256) (h2 : -9223372036854775808 ≤ q * 256) (h3 : q * 256 ≤ 9223372036854775552) : Go.bits .or .i64 (q * 256) c = q * 256 + c := by
  unfold Go.bits
  simp only []
  have hb : IntKind.i64.bits = 64 := rfl
  have key : ((BitVec.ofInt 64 (q * 256)) ||| (BitVec.ofInt 64 c)).toNat = ((q * 256) % 18446744073709551616 + c).toNat := by
    rw [BitVec.toNat_or, BitVec.toNat_ofInt, BitVec.toNat_ofInt]
    have e1 : (c % ((2 ^ 64 : Nat) : Int)).toNat = c.toNat := by
      have : c % ((2 ^ 64 : Nat) : Int) = c := Int.emod_eq_of_lt h0 (by have : ((2 ^ 64 : Nat) : Int) = 18446744073709551616 := rfl; omega)
      rw [this]
    have e2 : ((q * 256) % ((2 ^ 64 : Nat) : Int)).toNat = 2 ^ 8 * (((q * 256) % 18446744073709551616) / 256).toNat := by
      have : ((2 ^ 64 : Nat) : Int) = 18446744073709551616 := rfl
      rw [this]; omega
    rw [e1, e2, ← Nat.two_pow_add_eq_or_of_lt (by omega : c.toNat < 2 ^ 8)]
    omega
  show IntKind.i64.wrap ((((BitVec.ofInt 64 (q * 256)) ||| (BitVec.ofInt 64 c)).toNat : Int)) = _
  rw [key]
  have hw : ∀ n : Int, IntKind.i64.wrap n = wrap64 n := fun n => by
    unfold IntKind.wrap wrap64
    have hs : IntKind.i64.signed = true := rfl
    simp only [hb, hs, Bool.true_and]
    split
    · rename_i h; have := of_decide_eq_true h; omega
    · rename_i h; have := of_decide_eq_false (Bool.eq_false_iff.2 h); omega
  rw [hw]
  unfold wrap64
  omega
theorem numOf_step (y c : Int) (h0 : 0 ≤ c) (h1 : c < 256) : Go.bits .or .i64 (wrap64 (y * 256)) (wrap64 c) = wrap64 (y * 256 + c) := by
  have e : wrap64 (y * 256) = ((y + 36028797018963968) % 72057594037927936 - 36028797018963968) * 256 := by unfold wrap64; omega
  rw [e, w64 (x := c) (by omega) (by omega), or_byte _ _ h0 h1 (by omega) (by omega)]
  unfold wrap64
  omega
theorem numOf_eight (x : Int) (h0 : -9223372036854775808 ≤ x) (h1 : x ≤ 9223372036854775807) : numOf (eight x) = x := by
  have hb : ∀ y : Int, 0 ≤ y % 256 ∧ y % 256 < 256 := fun y => ⟨by omega, by omega⟩
  unfold numOf eight
  simp only [List.foldl_cons, List.foldl_nil]
  rw [numOf_step _ _ (hb _).1 (hb _).2, numOf_step _ _ (hb _).1 (hb _).2, numOf_step _ _ (hb _).1 (hb _).2, numOf_step _ _ (hb _).1 (hb _).2, numOf_step _ _ (hb _).1 (hb _).2, numOf_step _ _ (hb _).1 (hb _).2, numOf_step _ _ (hb _).1 (hb _).2, numOf_step _ _ (hb _).1 (hb _).2]
  unfold wrap64
  omega
end Go.Proofs.Ytlacfpbfnedgdaa.Q
