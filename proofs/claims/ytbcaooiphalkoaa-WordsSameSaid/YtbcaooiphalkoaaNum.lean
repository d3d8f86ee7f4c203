/-
  Whole numbers: wrapping, bits, shifts. No program in sight; nothing here is claimed.
-/
import Derived.Test.YtbcaooiphalkoaaDraw
set_option linter.unusedVariables false
set_option linter.unusedSimpArgs false
namespace Go.Proofs.Ytbcaooiphalkoaa
open Go Go.RowKit

/-- A number of 64 bits as a value. -/
def U (n : Nat) : Value := .int .u64 (n : Int)
theorem u64w {a : Int} {r : Nat} (h : a = (r : Int)) (hr : r < 18446744073709551616) : IntKind.u64.wrap a = (r : Int) := by
  rw [IntKind.wrap_u64, h]; omega
theorem u64m {a : Int} {r : Nat} (h : a = (r : Int)) : IntKind.u64.wrap a = ((r % 18446744073709551616 : Nat) : Int) := by
  rw [IntKind.wrap_u64, h]; omega
theorem bv64 (a : Nat) : BitVec.ofInt IntKind.u64.bits (a : Int) = BitVec.ofNat 64 a := by
  show BitVec.ofInt 64 (a : Int) = _
  simp
theorem b_and {a b r : Nat} (ha : a < 18446744073709551616) (hb : b < 18446744073709551616) (h : a &&& b = r) : bits .and .u64 (a : Int) (b : Int) = (r : Int) := by
  unfold bits
  rw [bv64, bv64]
  subst h
  refine u64w ?_ (Nat.lt_of_le_of_lt Nat.and_le_left ha)
  show (((BitVec.ofNat 64 a) &&& (BitVec.ofNat 64 b)).toNat : Int) = _
  rw [BitVec.toNat_and, BitVec.toNat_ofNat, BitVec.toNat_ofNat, Nat.mod_eq_of_lt ha, Nat.mod_eq_of_lt hb]
theorem b_or {a b r : Nat} (ha : a < 18446744073709551616) (hb : b < 18446744073709551616) (h : a ||| b = r) : bits .or .u64 (a : Int) (b : Int) = (r : Int) := by
  unfold bits
  rw [bv64, bv64]
  subst h
  refine u64w ?_ (Nat.or_lt_two_pow (n := 64) ha hb)
  show (((BitVec.ofNat 64 a) ||| (BitVec.ofNat 64 b)).toNat : Int) = _
  rw [BitVec.toNat_or, BitVec.toNat_ofNat, BitVec.toNat_ofNat, Nat.mod_eq_of_lt ha, Nat.mod_eq_of_lt hb]
theorem shr_nat (a k : Nat) (hk : k ≤ 64) : (a : Int).fdiv (2 ^ min ((k : Int)).toNat IntKind.u64.bits) = ((a / 2 ^ k : Nat) : Int) := by
  have h1 : min ((k : Int)).toNat IntKind.u64.bits = k := by
    show min k 64 = k
    omega
  have h2 : (0 : Int) ≤ 2 ^ k := Int.le_of_lt (Int.pow_pos (by decide))
  rw [h1, Int.fdiv_eq_ediv_of_nonneg _ h2]
  simp
theorem u32w {a : Int} {r : Nat} (h : a = (r : Int)) (hr : r < 4294967296) : IntKind.u32.wrap a = (r : Int) := by
  rw [IntKind.wrap_u32, h]; omega
theorem u32m {a : Int} {r : Nat} (h : a = (r : Int)) : IntKind.u32.wrap a = ((r % 4294967296 : Nat) : Int) := by
  rw [IntKind.wrap_u32, h]; omega
theorem u8w {a : Int} {r : Nat} (h : a = (r : Int)) (hr : r < 256) : IntKind.u8.wrap a = (r : Int) := by
  rw [IntKind.wrap_u8, h]; omega
theorem u8m {a : Int} {r : Nat} (h : a = (r : Int)) : IntKind.u8.wrap a = ((r % 256 : Nat) : Int) := by
  rw [IntKind.wrap_u8, h]; omega
theorem bv32 (a : Nat) : BitVec.ofInt IntKind.u32.bits (a : Int) = BitVec.ofNat 32 a := by
  show BitVec.ofInt 32 (a : Int) = _
  simp
theorem b_and32 {a b r : Nat} (ha : a < 4294967296) (hb : b < 4294967296) (h : a &&& b = r) : bits .and .u32 (a : Int) (b : Int) = (r : Int) := by
  unfold bits
  rw [bv32, bv32]
  subst h
  refine u32w ?_ (Nat.lt_of_le_of_lt Nat.and_le_left ha)
  show (((BitVec.ofNat 32 a) &&& (BitVec.ofNat 32 b)).toNat : Int) = _
  rw [BitVec.toNat_and, BitVec.toNat_ofNat, BitVec.toNat_ofNat, Nat.mod_eq_of_lt ha, Nat.mod_eq_of_lt hb]
theorem b_or32 {a b r : Nat} (ha : a < 4294967296) (hb : b < 4294967296) (h : a ||| b = r) : bits .or .u32 (a : Int) (b : Int) = (r : Int) := by
  unfold bits
  rw [bv32, bv32]
  subst h
  refine u32w ?_ (Nat.or_lt_two_pow (n := 32) ha hb)
  show (((BitVec.ofNat 32 a) ||| (BitVec.ofNat 32 b)).toNat : Int) = _
  rw [BitVec.toNat_or, BitVec.toNat_ofNat, BitVec.toNat_ofNat, Nat.mod_eq_of_lt ha, Nat.mod_eq_of_lt hb]
theorem b_xor32 {a b r : Nat} (ha : a < 4294967296) (hb : b < 4294967296) (h : a ^^^ b = r) : bits .xor .u32 (a : Int) (b : Int) = (r : Int) := by
  unfold bits
  rw [bv32, bv32]
  subst h
  refine u32w ?_ (Nat.xor_lt_two_pow (n := 32) ha hb)
  show (((BitVec.ofNat 32 a) ^^^ (BitVec.ofNat 32 b)).toNat : Int) = _
  rw [BitVec.toNat_xor, BitVec.toNat_ofNat, BitVec.toNat_ofNat, Nat.mod_eq_of_lt ha, Nat.mod_eq_of_lt hb]
theorem b_xor64 {a b r : Nat} (ha : a < 18446744073709551616) (hb : b < 18446744073709551616) (h : a ^^^ b = r) : bits .xor .u64 (a : Int) (b : Int) = (r : Int) := by
  unfold bits
  rw [bv64, bv64]
  subst h
  refine u64w ?_ (Nat.xor_lt_two_pow (n := 64) ha hb)
  show (((BitVec.ofNat 64 a) ^^^ (BitVec.ofNat 64 b)).toNat : Int) = _
  rw [BitVec.toNat_xor, BitVec.toNat_ofNat, BitVec.toNat_ofNat, Nat.mod_eq_of_lt ha, Nat.mod_eq_of_lt hb]
theorem shr_n32 (a k : Nat) (hk : k ≤ 32) : (a : Int).fdiv (2 ^ min ((k : Int)).toNat IntKind.u32.bits) = ((a / 2 ^ k : Nat) : Int) := by
  have h1 : min ((k : Int)).toNat IntKind.u32.bits = k := by
    show min k 32 = k
    omega
  have h2 : (0 : Int) ≤ 2 ^ k := Int.le_of_lt (Int.pow_pos (by decide))
  rw [h1, Int.fdiv_eq_ediv_of_nonneg _ h2]
  simp
theorem not32 {a : Nat} (ha : a < 4294967296) : bits .xor .u32 (if IntKind.u32.signed = true then -1 else IntKind.u32.max) (a : Int) = ((4294967295 - a : Nat) : Int) := by
  show bits .xor .u32 ((4294967295 : Nat) : Int) (a : Int) = _
  refine b_xor32 (by decide) ha ?_
  apply Nat.eq_of_testBit_eq
  intro i
  rw [Nat.testBit_xor, show (4294967295 : Nat) = 2 ^ 32 - 1 from rfl, Nat.testBit_two_pow_sub_one]
  by_cases hi : i < 32
  · have h1 : (2 ^ 32 - 1 - a).testBit i = !(a.testBit i) := by
      rw [show 2 ^ 32 - 1 - a = 2 ^ 32 - (a + 1) from by omega, Nat.testBit_two_pow_sub_succ ha]
      simp [hi]
    rw [h1]; simp [hi]
  · have hp : (2 : Nat) ^ 32 ≤ 2 ^ i := Nat.pow_le_pow_right (by decide) (by omega)
    have h2 : a.testBit i = false := Nat.testBit_lt_two_pow (by omega)
    have h3 : (2 ^ 32 - 1 - a).testBit i = false := Nat.testBit_lt_two_pow (by omega)
    rw [h2, h3]; simp [hi]
end Go.Proofs.Ytbcaooiphalkoaa
