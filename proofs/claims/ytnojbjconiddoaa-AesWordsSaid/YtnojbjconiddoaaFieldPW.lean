/-
  The walks of the byte field's powers and inverses, and of their references.
-/
import Derived.Test.YtnojbjconiddoaaFieldW
import Derived.Test.YtnojbjconiddoaaFieldP
namespace Go.Proofs.Ytnojbjconiddoaa
open Go.RowKit
open Fld

theorem i64_odd_t (m : Nat) (hm : m < 9223372036854775808) (h : m % 2 = 1) : (bits .and .i64 (m : Int) 1 != 0) = true := by rw [i64_odd m hm, h]; rfl
theorem i64_odd_f (m : Nat) (hm : m < 9223372036854775808) (h : m % 2 = 0) : (bits .and .i64 (m : Int) 1 != 0) = false := by rw [i64_odd m hm, h]; rfl

set_option maxRecDepth 100000 in
theorem refPower_any (a : Nat) (n : Int) (ha : a < 256) (h0 : -9223372036854775808 ≤ n) (hn : n < 9223372036854775808) (w : World) :
    Calls Try.prog 51 #[.int .u8 a, .int .i64 n] w fun e w' => e = .returned (.int .u8 (gpow a n.toNat)) ∧ w = w' := by
  by_cases h : n < 1
  · have e : n.toNat = 0 := by omega
    rw [e]
    clear e
    go_enter Try.func51, Try.ntmps51
    go_wp2
    go_ret
    exact ⟨rfl, rfl⟩
  · obtain ⟨m, rfl⟩ := Int.eq_ofNat_of_zero_le (show 0 ≤ n by omega)
    have hm : 1 ≤ m := by omega
    rw [Int.toNat_natCast]
    have hn2 : m < 9223372036854775808 := by omega
    clear h h0 hn
    by_cases hz : a = 0
    · subst hz
      rw [gpow_zero_base m hm]
      go_enter Try.func51, Try.ntmps51
      go_wp2
      go_ret
      exact ⟨rfl, rfl⟩
    · have ta : ((a : Int) == 0) = false := by rw [beq_eq_false_iff_ne]; omega
      have hfin := Lib.hid (gpow_mod a m ha hz)
      have hml := Nat.mod_lt m (show 0 < 255 by omega)
      clear hz
      go_enter Try.func51, Try.ntmps51
      go_wp2
      go_loop [5, 6] (fun p i => ∃ k : Nat, k ≤ m % 255 ∧ i = .int .i64 k ∧ p = .int .u8 (gpow a k)) (fun _ i => m % 255 - (intOf i).toNat)
      case atStart => exact ⟨0, by omega, rfl, rfl⟩
      case round =>
        obtain ⟨k, hk, rfl, rfl⟩ := hrel
        have hp := gpow_lt a k
        by_cases hkk : k < m % 255
        · go_wp2_with fail
          refine (refTimes_any (gpow a k) a hp ha _).mono ?_
          rintro e w' ⟨rfl, rfl⟩
          go_wp2_with fail
          go_round
          case rel => exact ⟨k + 1, by omega, by go_num, rfl⟩
          case measure => simp [intOf]; omega
        · obtain rfl : k = m % 255 := by omega
          go_wp2
          go_ret
          exact ⟨by rw [← hfin.out]; rfl, rfl⟩

set_option maxRecDepth 100000 in
theorem refInverse_any (a : Nat) (ha : a < 256) (w : World) :
    Calls Try.prog 69 #[.int .u8 a] w fun e w' => e = .returned (.int .u8 (inv a)) ∧ w = w' := by
  go_enter Try.func69, Try.ntmps69
  go_wp2
  go_loop [3] (fun i => ∃ k : Nat, 1 ≤ k ∧ k ≤ 256 ∧ i = .int .i64 k ∧ ∀ j, 1 ≤ j → j < k → gm a j ≠ 1) (fun i => 256 - (intOf i).toNat)
  case atStart => exact ⟨1, by omega, by omega, rfl, fun j h1 h2 => by omega⟩
  case round =>
    obtain ⟨k, hk1, hk, rfl, hno⟩ := hrel
    have Hno := Lib.hid hno
    clear hno
    by_cases hlt : k < 256
    · by_cases hg : gm a k = 1
      · have Hg := Lib.hid hg
        have Hk := Lib.hid (inv_uniq a k ha hlt hg)
        clear hg
        go_wp2_with fail
        refine (refTimes_any a k ha hlt _).mono ?_
        rintro e w' ⟨rfl, rfl⟩
        rw [Hg.out]
        go_wp2_with fail
        go_ret
        exact ⟨by rw [← Hk.out]; rfl, rfl⟩
      · have t : (((gm a k : Nat) : Int) == 1) = false := by rw [beq_eq_false_iff_ne]; omega
        have Hn := Lib.hid (show ∀ j, 1 ≤ j → j < k + 1 → gm a j ≠ 1 from fun j h1 h2 => by
          by_cases e : j = k
          · subst e; exact hg
          · exact Hno.out j h1 (by omega))
        clear hg
        go_wp2_with fail
        refine (refTimes_any a k ha hlt _).mono ?_
        rintro e w' ⟨rfl, rfl⟩
        go_wp2_with fail
        go_round
        case rel => exact ⟨k + 1, by omega, by omega, by go_num, Hn.out⟩
        case measure => simp [intOf]; omega
    · obtain rfl : k = 256 := by omega
      have hz : a = 0 := by
        by_cases e : a = 0
        · exact e
        · have h1 := gm_inv a ha e
          have h2 : inv a ≠ 0 := by
            intro h0
            rw [h0, gm_zero] at h1
            omega
          exact absurd h1 (Hno.out (inv a) (by omega) (inv_lt a))
      have Hz := Lib.hid hz
      clear hz
      go_wp2
      go_ret
      exact ⟨by rw [Hz.out, inv_zero]; rfl, rfl⟩
end Go.Proofs.Ytnojbjconiddoaa
