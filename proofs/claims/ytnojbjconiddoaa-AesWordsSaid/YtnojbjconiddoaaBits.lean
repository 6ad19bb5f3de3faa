/-
  Bits of Go's integers as bits of natural numbers, in the forms in which a walk leaves them; no program in sight.
-/
import Derived.Laws.BitsAllLaws
import Derived.WalkKit
namespace Go.Proofs.Ytnojbjconiddoaa
open Go.RowKit

theorem ofInt64_toNat (a : Nat) (ha : a < 9223372036854775808) : (BitVec.ofInt 64 (a : Int)).toNat = a := by
  rw [BitVec.ofInt_natCast, BitVec.toNat_ofNat]; exact Nat.mod_eq_of_lt (by omega)
theorem i64_xor (a b : Nat) (ha : a < 9223372036854775808) (hb : b < 9223372036854775808) : bits .xor .i64 (a : Int) (b : Int) = ((a ^^^ b : Nat) : Int) := by
  have hx : a ^^^ b < 2 ^ 63 := Nat.xor_lt_two_pow (by omega) (by omega)
  show IntKind.i64.wrap ((BitVec.ofInt 64 (a : Int) ^^^ BitVec.ofInt 64 (b : Int)).toNat : Int) = _
  rw [BitVec.toNat_xor, ofInt64_toNat a ha, ofInt64_toNat b hb, IntKind.wrap_i64]
  omega
theorem i64_and (a b : Nat) (ha : a < 9223372036854775808) (hb : b < 9223372036854775808) : bits .and .i64 (a : Int) (b : Int) = ((a &&& b : Nat) : Int) := by
  have hx : a &&& b < 2 ^ 63 := Nat.and_lt_two_pow _ (by omega)
  show IntKind.i64.wrap ((BitVec.ofInt 64 (a : Int) &&& BitVec.ofInt 64 (b : Int)).toNat : Int) = _
  rw [BitVec.toNat_and, ofInt64_toNat a ha, ofInt64_toNat b hb, IntKind.wrap_i64]
  omega
theorem i64_odd (a : Nat) (ha : a < 9223372036854775808) : bits .and .i64 (a : Int) 1 = ((a % 2 : Nat) : Int) := by
  have := i64_and a 1 ha (by decide)
  rw [nat_mask1] at this
  exact this
theorem u8_odd (d : Nat) (hd : d < 256) : bits .and .u8 (d : Int) 1 = ((d % 2 : Nat) : Int) := by
  have := u8_and_nat d 1 hd (by decide)
  rw [nat_mask1] at this
  exact this
theorem u8_high (d : Nat) (hd : d < 256) : bits .and .u8 (d : Int) 128 = ((d / 128 % 2 * 128 : Nat) : Int) := by
  have := u8_and_nat d 128 hd (by decide)
  rw [nat_bit 7] at this
  exact this
theorem odd_t (d : Nat) (hd : d < 256) (h : d % 2 = 1) : (bits .and .u8 (d : Int) 1 != 0) = true := by rw [u8_odd d hd, h]; rfl
theorem odd_f (d : Nat) (hd : d < 256) (h : d % 2 = 0) : (bits .and .u8 (d : Int) 1 != 0) = false := by rw [u8_odd d hd, h]; rfl
theorem high_t (d : Nat) (hd : d < 256) (h : d / 128 % 2 = 1) : (bits .and .u8 (d : Int) 128 != 0) = true := by rw [u8_high d hd, h]; rfl
theorem high_f (d : Nat) (hd : d < 256) (h : d / 128 % 2 = 0) : (bits .and .u8 (d : Int) 128 != 0) = false := by rw [u8_high d hd, h]; rfl
theorem cast_shr (b k : Nat) : (b : Int) / 2 ^ k = ((b / 2 ^ k : Nat) : Int) := by simp
theorem cast_shl (b k : Nat) : (b : Int) * 2 ^ k = ((b * 2 ^ k : Nat) : Int) := by simp
/-- 'b >> k & 1 == 1' over bytes. -/
theorem u8_bit_t (b k : Nat) (hb : b < 256) (h : b / 2 ^ k % 2 = 1) : (bits .and .u8 ((b : Int) / 2 ^ k) 1 == 1) = true := by
  rw [cast_shr, u8_odd _ (Nat.lt_of_le_of_lt (Nat.div_le_self _ _) hb), h]; rfl
theorem u8_bit_f (b k : Nat) (hb : b < 256) (h : b / 2 ^ k % 2 = 0) : (bits .and .u8 ((b : Int) / 2 ^ k) 1 == 1) = false := by
  rw [cast_shr, u8_odd _ (Nat.lt_of_le_of_lt (Nat.div_le_self _ _) hb), h]; rfl
theorem i64_bit_t (b k : Nat) (hb : b < 9223372036854775808) (h : b / 2 ^ k % 2 = 1) : (bits .and .i64 ((b : Int) / 2 ^ k) 1 == 1) = true := by
  rw [cast_shr, i64_odd _ (Nat.lt_of_le_of_lt (Nat.div_le_self _ _) hb), h]; rfl
theorem i64_bit_f (b k : Nat) (hb : b < 9223372036854775808) (h : b / 2 ^ k % 2 = 0) : (bits .and .i64 ((b : Int) / 2 ^ k) 1 == 1) = false := by
  rw [cast_shr, i64_odd _ (Nat.lt_of_le_of_lt (Nat.div_le_self _ _) hb), h]; rfl
theorem wrap64_nat (a : Nat) (ha : a < 9223372036854775808) : wrap64 (a : Int) = (a : Int) := IntWalk.wrap64_in _ ⟨by omega, by omega⟩
end Go.Proofs.Ytnojbjconiddoaa
