/-
  Masks, shifts and wraps as plain arithmetic.
-/
import Derived.Test.YtmdiokmkokjpiaaGreatCore18
set_option linter.all false
set_option linter.unusedVariables false
set_option linter.unusedSimpArgs false
set_option linter.unnecessarySimpa false
namespace Go.Aw

theorem ofInt_toNat (w : Nat) (n : Int) : ((BitVec.ofInt w n).toNat : Int) = n % (2 : Int) ^ w := by
  rw [BitVec.toNat_ofInt]
  have h0 : (0 : Int) ≤ n % ((2 ^ w : Nat) : Int) := Int.emod_nonneg _ (by have := Nat.two_pow_pos w; omega)
  rw [Int.toNat_of_nonneg h0, Int.natCast_pow]; rfl

/-- A mask of low bits is a remainder. -/
theorem and_mask (k : IntKind) (n : Int) (j : Nat) (hj : j < k.bits) : bits .and k n ((2 : Int) ^ j - 1) = n % (2 : Int) ^ j := by
  show k.wrap ((BitVec.ofInt k.bits n &&& BitVec.ofInt k.bits ((2 : Int) ^ j - 1)).toNat : Int) = _
  have hp : (0 : Int) < 2 ^ j := Int.pow_pos (by omega)
  have h1 : (BitVec.ofInt k.bits ((2 : Int) ^ j - 1)).toNat = 2 ^ j - 1 := by
    have h := ofInt_toNat k.bits ((2 : Int) ^ j - 1)
    have h2 : ((2 : Int) ^ j - 1) % (2 : Int) ^ k.bits = (2 : Int) ^ j - 1 := by
      apply Int.emod_eq_of_lt (by omega)
      have : (2 : Int) ^ j ≤ 2 ^ k.bits := by exact_mod_cast Nat.pow_le_pow_right (by omega) (Nat.le_of_lt hj)
      omega
    rw [h2] at h
    have h3 : ((2 ^ j - 1 : Nat) : Int) = (2 : Int) ^ j - 1 := by
      rw [Int.ofNat_sub (Nat.two_pow_pos j)]; simp
    omega
  have h4 : (BitVec.ofInt k.bits n &&& BitVec.ofInt k.bits ((2 : Int) ^ j - 1)).toNat = (BitVec.ofInt k.bits n).toNat % 2 ^ j := by
    rw [BitVec.toNat_and, h1, Nat.and_two_pow_sub_one_eq_mod]
  rw [h4, Int.natCast_emod, ofInt_toNat]
  have h5 : n % (2 : Int) ^ k.bits % ((2 ^ j : Nat) : Int) = n % (2 : Int) ^ j := by
    have : ((2 ^ j : Nat) : Int) = (2 : Int) ^ j := by simp
    rw [this]
    exact Int.emod_emod_of_dvd n (by
      have : (2 : Int) ^ k.bits = 2 ^ j * 2 ^ (k.bits - j) := by rw [← Int.pow_add]; congr 1; omega
      rw [this]; exact Int.dvd_mul_right _ _)
  rw [h5]
  have h6 : 0 ≤ n % (2 : Int) ^ j := Int.emod_nonneg _ (by omega)
  have h7 : n % (2 : Int) ^ j < 2 ^ j := Int.emod_lt_of_pos _ hp
  have h8 : (2 : Int) ^ j ≤ 2 ^ (k.bits - 1) := by exact_mod_cast Nat.pow_le_pow_right (by omega) (by omega)
  have h9 : (2 : Int) ^ (k.bits - 1) ≤ 2 ^ k.bits := by exact_mod_cast Nat.pow_le_pow_right (by omega) (by omega)
  unfold IntKind.wrap
  have h10 : n % (2 : Int) ^ j % (2 : Int) ^ k.bits = n % (2 : Int) ^ j := Int.emod_eq_of_lt h6 (by omega)
  simp only [h10]
  rw [if_neg]
  simp only [Bool.and_eq_true, decide_eq_true_eq, not_and]
  intro _; omega
theorem and3 (n : Int) : bits .and .i64 n 3 = n % 4 := and_mask .i64 n 2 (by decide)
theorem and1 (n : Int) : bits .and .i64 n 1 = n % 2 := and_mask .i64 n 1 (by decide)
theorem and1u (n : Int) : bits .and .u8 n 1 = n % 2 := and_mask .u8 n 1 (by decide)
theorem and3u (n : Int) : bits .and .u8 n 3 = n % 4 := and_mask .u8 n 2 (by decide)
theorem and7u (n : Int) : bits .and .u8 n 7 = n % 8 := and_mask .u8 n 3 (by decide)
theorem and15u (n : Int) : bits .and .u8 n 15 = n % 16 := and_mask .u8 n 4 (by decide)
theorem and15 (n : Int) : bits .and .i64 n 15 = n % 16 := and_mask .i64 n 4 (by decide)
theorem and7 (n : Int) : bits .and .i64 n 7 = n % 8 := and_mask .i64 n 3 (by decide)
end Go.Aw
