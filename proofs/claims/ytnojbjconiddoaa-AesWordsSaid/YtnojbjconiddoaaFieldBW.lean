/-
  The walks of the boxes' parts: the rotation, the reference's box and back box.
-/
import Derived.Test.YtnojbjconiddoaaFieldPW
import Derived.Test.YtnojbjconiddoaaFieldB
namespace Go.Proofs.Ytnojbjconiddoaa
open Go.RowKit
open Fld

theorem rot_val (b n : Nat) (hb : b < 256) : bits .or .u8 ((b : Int) * 2 ^ n % 256) ((b : Int) / 2 ^ (8 - n)) = ((rot b n : Nat) : Int) := by
  have h1 : (b : Int) * 2 ^ n % 256 = ((b * 2 ^ n % 256 : Nat) : Int) := by simp
  have h2 : (b : Int) / 2 ^ (8 - n) = ((b / 2 ^ (8 - n) : Nat) : Int) := by simp
  rw [h1, h2, u8_or_nat _ _ (Nat.mod_lt _ (by omega)) (Nat.lt_of_le_of_lt (Nat.div_le_self _ _) hb)]
  rfl

set_option maxHeartbeats 400000 in
theorem rot_any (b n : Nat) (hb : b < 256) (hn : n < 5) (w : World) :
    Calls Try.prog 67 #[.int .u8 b, .int .i64 n] w fun e w' => e = .returned (.int .u8 (rot b n)) ∧ w = w' := by
  have hm : bits .and .u64 (n : Int) 7 = (n : Int) := by
    have h := u64_and_nat n 7 (by omega) (by omega)
    rw [nat_mask3, Nat.mod_eq_of_lt (by omega)] at h
    exact h
  have hv := Lib.hid (rot_val b n hb)
  have hn8 : n ≤ 8 := by omega
  go_enter Try.func67, Try.ntmps67
  go_wp2
  go_ret
  exact ⟨by rw [← hv.out]; rfl, rfl⟩

theorem bb (b k : Nat) (hb : b < 256) : bits .and .u8 ((b : Int) / 2 ^ k) 1 = ((b / 2 ^ k % 2 : Nat) : Int) := by
  rw [cast_shr, u8_odd _ (Nat.lt_of_le_of_lt (Nat.div_le_self _ _) hb)]
theorem bit_val (b k : Nat) (hb : b < 256) (hk : k < 8) :
    (bits .and .u8 (99 / 2 ^ k) 1 + bits .and .u8 ((b : Int) / 2 ^ k) 1 + bits .and .u8 ((b : Int) / 2 ^ ((k + 4) % 8)) 1 + bits .and .u8 ((b : Int) / 2 ^ ((k + 5) % 8)) 1 + bits .and .u8 ((b : Int) / 2 ^ ((k + 6) % 8)) 1 + bits .and .u8 ((b : Int) / 2 ^ ((k + 7) % 8)) 1) % 2 * 2 ^ k % 256
      = ((bitAt b k * 2 ^ k : Nat) : Int) := by
  have h99 := bb 99 k (by omega)
  rw [show ((99 : Nat) : Int) = 99 from rfl] at h99
  rw [h99, bb b k hb, bb b _ hb, bb b _ hb, bb b _ hb, bb b _ hb]
  have e : bitAt b k * 2 ^ k < 256 := by
    have h1 : bitAt b k ≤ 1 := by have := Nat.mod_lt (99 / 2 ^ k % 2 + b / 2 ^ k % 2 + b / 2 ^ ((k + 4) % 8) % 2 + b / 2 ^ ((k + 5) % 8) % 2 + b / 2 ^ ((k + 6) % 8) % 2 + b / 2 ^ ((k + 7) % 8) % 2) (show 0 < 2 by omega); unfold bitAt; omega
    have := Nat.mul_le_mul h1 (pow_le7 k hk)
    omega
  unfold bitAt at e ⊢
  rw [← Nat.mod_eq_of_lt e]
  simp
theorem bit_or (b k q : Nat) (hk : k < 8) (hq : q < 256) : bits .or .u8 (q : Int) ((bitAt b k * 2 ^ k : Nat) : Int) = ((q ||| bitAt b k * 2 ^ k : Nat) : Int) := by
  have h1 : bitAt b k ≤ 1 := by have := Nat.mod_lt (99 / 2 ^ k % 2 + b / 2 ^ k % 2 + b / 2 ^ ((k + 4) % 8) % 2 + b / 2 ^ ((k + 5) % 8) % 2 + b / 2 ^ ((k + 6) % 8) % 2 + b / 2 ^ ((k + 7) % 8) % 2) (show 0 < 2 by omega); unfold bitAt; omega
  have := Nat.mul_le_mul h1 (pow_le7 k hk)
  exact u8_or_nat _ _ hq (by omega)
theorem bit_lt (b k : Nat) (hk : k < 8) : bitAt b k * 2 ^ k < 256 := by
  have h1 : bitAt b k ≤ 1 := by have := Nat.mod_lt (99 / 2 ^ k % 2 + b / 2 ^ k % 2 + b / 2 ^ ((k + 4) % 8) % 2 + b / 2 ^ ((k + 5) % 8) % 2 + b / 2 ^ ((k + 6) % 8) % 2 + b / 2 ^ ((k + 7) % 8) % 2) (show 0 < 2 by omega); unfold bitAt; omega
  have := Nat.mul_le_mul h1 (pow_le7 k hk)
  omega

set_option maxHeartbeats 400000 in
theorem refBox_any (a : Nat) (ha : a < 256) (w : World) :
    Calls Try.prog 65 #[.int .u8 a] w fun e w' => e = .returned (.int .u8 (sb a)) ∧ w = w' := by
  go_enter Try.func65, Try.ntmps65
  go_wp2_with fail
  refine (refInverse_any a ha _).mono ?_
  rintro e w' ⟨rfl, rfl⟩
  obtain ⟨b, hb0⟩ : ∃ b, b = inv a := ⟨_, rfl⟩
  have hb : b < 256 := by rw [hb0]; exact inv_lt a
  rw [← hb0]
  have Hb := Lib.hid hb0
  clear hb0
  go_wp2_with fail
  go_loop [4, 5, 6] (fun s i _ => ∃ k q : Nat, k ≤ 8 ∧ q < 256 ∧ i = .int .u64 k ∧ s = .int .u8 q ∧ q = rbF b k) (fun _ i _ => 8 - (intOf i).toNat)
  case atStart => exact ⟨0, 0, by omega, by omega, rfl, rfl, rfl⟩
  case round =>
    obtain ⟨k, q, hk, hq, rfl, rfl, hr⟩ := hrel
    have Hr := Lib.hid hr
    clear hr
    by_cases hlt : k < 8
    · have E1 := Lib.hid (bit_val b k hb hlt)
      have E2 := Lib.hid (bit_or b k q hlt hq)
      have E3 := Lib.hid (Nat.or_lt_two_pow (n := 8) hq (bit_lt b k hlt))
      have E4 := Lib.hid (show (q ||| bitAt b k * 2 ^ k) = rbF b (k + 1) by rw [Hr.out]; rfl)
      go_wp2
      go_round
      case rel => exact ⟨k + 1, q ||| bitAt b k * 2 ^ k, by omega, E3.out, by go_num, by rw [← E2.out, ← E1.out], E4.out⟩
      case measure => simp [intOf]; omega
    · obtain rfl : k = 8 := by omega
      have E := Lib.hid (show q = sb a by rw [Hr.out, rb_aff b hb, Hb.out]; rfl)
      go_wp2
      go_ret
      exact ⟨by rw [← E.out]; rfl, rfl⟩

end Go.Proofs.Ytnojbjconiddoaa
