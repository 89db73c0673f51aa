/- Bits of small whole numbers, and shifts of them. -/
import Derived.Test.YtikjedefbflklaaK
import Derived.Test.YtikjedefbflklaaFMath
namespace Go.Proofs.Ytikjedefbflklaa
open Go.RowKit
set_option linter.unusedVariables false
theorem i64_nat {n : Nat} (h : n < 2 ^ 63) : IntKind.i64.wrap (n : Int) = (n : Int) := IntWalk.i64_in _ ⟨by omega, by omega⟩
theorem u8_nat {n : Nat} (h : n < 256) : IntKind.u8.wrap (n : Int) = (n : Int) := by
  simp [IntKind.wrap, IntKind.signed, IntKind.bits]
  omega
theorem bv64 {a : Nat} (ha : a < 2 ^ 63) : (BitVec.ofInt 64 (a : Int)).toNat = a := by
  rw [BitVec.ofInt_natCast, BitVec.toNat_ofNat]
  exact Nat.mod_eq_of_lt (by omega)
theorem bv8 {a : Nat} (ha : a < 256) : (BitVec.ofInt 8 (a : Int)).toNat = a := by
  rw [BitVec.ofInt_natCast, BitVec.toNat_ofNat]
  exact Nat.mod_eq_of_lt (by omega)
theorem bitv_xor64 {a b : Nat} (ha : a < 2 ^ 63) (hb : b < 2 ^ 63) : bitv .xor .i64 (a : Int) (b : Int) = ((a ^^^ b : Nat) : Int) := by
  show IntKind.i64.wrap (((BitVec.ofInt 64 (a : Int) ^^^ BitVec.ofInt 64 (b : Int)).toNat : Nat) : Int) = _
  rw [BitVec.toNat_xor, bv64 ha, bv64 hb, i64_nat (Nat.xor_lt_two_pow ha hb)]
theorem bitv_and64 {a b : Nat} (ha : a < 2 ^ 63) (hb : b < 2 ^ 63) : bitv .and .i64 (a : Int) (b : Int) = ((a &&& b : Nat) : Int) := by
  show IntKind.i64.wrap (((BitVec.ofInt 64 (a : Int) &&& BitVec.ofInt 64 (b : Int)).toNat : Nat) : Int) = _
  rw [BitVec.toNat_and, bv64 ha, bv64 hb, i64_nat (Nat.and_lt_two_pow _ hb)]
theorem bitv_xor8 {a b : Nat} (ha : a < 256) (hb : b < 256) : bitv .xor .u8 (a : Int) (b : Int) = ((a ^^^ b : Nat) : Int) := by
  show IntKind.u8.wrap (((BitVec.ofInt 8 (a : Int) ^^^ BitVec.ofInt 8 (b : Int)).toNat : Nat) : Int) = _
  rw [BitVec.toNat_xor, bv8 ha, bv8 hb, u8_nat (GF.xor_lt ha hb)]
section
variable {K : Value → Prop}
theorem Sh.shl64 {a n : Nat} (h : a <<< n < 2 ^ 63) (hn : n < 64) (k : K (.int .i64 ((a <<< n : Nat) : Int))) : Sh .shl .i64 (a : Int) (n : Int) K := by
  refine ⟨by omega, ?_⟩
  have e : min ((n : Int)).toNat IntKind.i64.bits = n := by simp [IntKind.bits]; omega
  have e2 : ((a : Int) * 2 ^ n) = ((a <<< n : Nat) : Int) := by rw [Nat.shiftLeft_eq]; push_cast; rfl
  simp only [e, e2, i64_nat h]
  exact k
theorem Sh.shr64 {a n : Nat} (hn : n < 64) (k : K (.int .i64 ((a >>> n : Nat) : Int))) : Sh .shr .i64 (a : Int) (n : Int) K := by
  refine ⟨by omega, ?_⟩
  have e : min ((n : Int)).toNat IntKind.i64.bits = n := by simp [IntKind.bits]; omega
  have e2 : (a : Int).fdiv (2 ^ n) = ((a >>> n : Nat) : Int) := by
    rw [Int.fdiv_eq_ediv_of_nonneg _ (Int.le_of_lt (Int.pow_pos (by decide))), Nat.shiftRight_eq_div_pow]; push_cast; rfl
  simp only [e, e2]
  exact k
end
theorem bit_test (s i : Nat) : (((s >>> i &&& 1 : Nat) : Int) = 1) ↔ s.testBit i = true := by
  unfold Nat.testBit
  rw [Nat.and_comm]
  have h : 1 &&& s >>> i = 0 ∨ 1 &&& s >>> i = 1 := by
    have : 1 &&& s >>> i < 2 := by
      rw [Nat.and_comm]
      exact Nat.and_lt_two_pow (n := 1) _ (by decide)
    omega
  rcases h with h | h <;> rw [h] <;> simp
end Go.Proofs.Ytikjedefbflklaa
