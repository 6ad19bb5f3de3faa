/-
  The walks of the byte field's powers and inverses, and of their references.
-/
import Derived.Test.YtdefdhmoleahnaaFieldW
import Derived.Test.YtdefdhmoleahnaaFieldP
namespace Go.Proofs.Ytdefdhmoleahnaa
open Go.RowKit
open Fld

theorem i64_odd_t (m : Nat) (hm : m < 9223372036854775808) (h : m % 2 = 1) : (bits .and .i64 (m : Int) 1 != 0) = true := by rw [i64_odd m hm, h]; rfl
theorem i64_odd_f (m : Nat) (hm : m < 9223372036854775808) (h : m % 2 = 0) : (bits .and .i64 (m : Int) 1 != 0) = false := by rw [i64_odd m hm, h]; rfl

set_option maxHeartbeats 400000 in
theorem power_nat (a n : Nat) (ha : a < 256) (hn : n < 9223372036854775808) (w : World) :
    Calls Try.prog 20 #[.int .u8 a, .int .i64 n] w fun e w' => e = .returned (.int .u8 (gpow a n)) ∧ w = w' := by
  have h1 := Lib.hid (show gm 1 (gpow a n) = gpow a n by rw [gm_comm 1 _ (by omega) (gpow_lt a n), gm_one _ (gpow_lt a n)])
  go_enter Try.func20, Try.ntmps20
  go_wp2
  go_loop [0, 1, 5] (fun x y p => ∃ c m q : Nat, c < 256 ∧ q < 256 ∧ m < 9223372036854775808 ∧ x = .int .u8 c ∧ y = .int .i64 m ∧ p = .int .u8 q ∧ gm q (gpow c m) = gpow a n) (fun _ y _ => (intOf y).toNat)
  case atStart => exact ⟨a, n, 1, ha, by omega, hn, rfl, rfl, rfl, h1.out⟩
  case round =>
    obtain ⟨c, m, q, hc, hq, hm, rfl, rfl, rfl, hg⟩ := hrel
    have Hg := Lib.hid hg
    clear hg
    by_cases h0 : m = 0
    · subst h0
      go_wp2
      go_ret
      exact ⟨by rw [← Hg.out]; show _ = Ending.returned (.int .u8 ((gm q 1 : Nat) : Int)); rw [gm_one q hq]; rfl, rfl⟩
    · have hm1 : 1 ≤ m := by omega
      clear h0
      have hcc := gm_lt c c hc
      have hqc := gm_lt q c hq
      rcases Nat.mod_two_eq_zero_or_one m with o | o
      · have G := Lib.hid ((pw_even c q m hc o).trans Hg.out)
        have t := i64_odd_f m hm o
        clear o Hg h1
        go_wp2_with fail
        refine (times_any c c hc hc _).mono ?_
        rintro e w' ⟨rfl, rfl⟩
        go_wp2_with fail
        go_round
        case rel => exact ⟨gm c c, m / 2, q, hcc, hq, by omega, rfl, by simp, rfl, G.out⟩
        case measure => simp [intOf]; omega
      · have G := Lib.hid ((pw_odd c q m hc hq o).trans Hg.out)
        have t := i64_odd_t m hm o
        clear o Hg h1
        go_wp2_with fail
        refine (times_any q c hq hc _).mono ?_
        rintro e w' ⟨rfl, rfl⟩
        go_wp2_with fail
        refine (times_any c c hc hc _).mono ?_
        rintro e w' ⟨rfl, rfl⟩
        go_wp2_with fail
        go_round
        case rel => exact ⟨gm c c, m / 2, gm q c, hcc, hqc, by omega, rfl, by simp, rfl, G.out⟩
        case measure => simp [intOf]; omega

theorem power_any (a : Nat) (n : Int) (ha : a < 256) (h0 : -9223372036854775808 ≤ n) (hn : n < 9223372036854775808) (w : World) :
    Calls Try.prog 20 #[.int .u8 a, .int .i64 n] w fun e w' => e = .returned (.int .u8 (gpow a n.toNat)) ∧ w = w' := by
  by_cases h : 0 ≤ n
  · obtain ⟨m, rfl⟩ := Int.eq_ofNat_of_zero_le h
    exact power_nat a m ha (by omega) w
  · have e : n.toNat = 0 := by omega
    rw [e]
    have hlt : n < 0 := by omega
    clear e h
    go_enter Try.func20, Try.ntmps20
    go_wp2
    go_loop [0, 1, 5] (fun x y p => x = .int .u8 a ∧ y = .int .i64 n ∧ p = .int .u8 1) (fun _ _ _ => 0)
    case atStart => exact ⟨rfl, rfl, rfl⟩
    case round =>
      obtain ⟨rfl, rfl, rfl⟩ := hrel
      go_wp2
      go_ret
      exact ⟨rfl, rfl⟩

set_option maxRecDepth 100000 in
theorem refPower_any (a : Nat) (n : Int) (ha : a < 256) (h0 : -9223372036854775808 ≤ n) (hn : n < 9223372036854775808) (w : World) :
    Calls Try.prog 21 #[.int .u8 a, .int .i64 n] w fun e w' => e = .returned (.int .u8 (gpow a n.toNat)) ∧ w = w' := by
  by_cases h : n < 1
  · have e : n.toNat = 0 := by omega
    rw [e]
    clear e
    go_enter Try.func21, Try.ntmps21
    go_wp2
    go_ret
    exact ⟨rfl, rfl⟩
  · obtain ⟨m, rfl⟩ := Int.eq_ofNat_of_zero_le (show 0 ≤ n by omega)
    have hm : 1 ≤ m := by omega
    rw [Int.toNat_natCast]
    have hn2 : m < 9223372036854775808 := by omega
    clear h h0 hn
    by_cases hz : a = 0
    · subst hz
      rw [gpow_zero_base m hm]
      go_enter Try.func21, Try.ntmps21
      go_wp2
      go_ret
      exact ⟨rfl, rfl⟩
    · have ta : ((a : Int) == 0) = false := by rw [beq_eq_false_iff_ne]; omega
      have hfin := Lib.hid (gpow_mod a m ha hz)
      have hml := Nat.mod_lt m (show 0 < 255 by omega)
      clear hz
      go_enter Try.func21, Try.ntmps21
      go_wp2
      go_loop [5, 6] (fun p i => ∃ k : Nat, k ≤ m % 255 ∧ i = .int .i64 k ∧ p = .int .u8 (gpow a k)) (fun _ i => m % 255 - (intOf i).toNat)
      case atStart => exact ⟨0, by omega, rfl, rfl⟩
      case round =>
        obtain ⟨k, hk, rfl, rfl⟩ := hrel
        have hp := gpow_lt a k
        by_cases hkk : k < m % 255
        · go_wp2_with fail
          refine (refTimes_any (gpow a k) a hp ha _).mono ?_
          rintro e w' ⟨rfl, rfl⟩
          go_wp2_with fail
          go_round
          case rel => exact ⟨k + 1, by omega, by go_num, rfl⟩
          case measure => simp [intOf]; omega
        · obtain rfl : k = m % 255 := by omega
          go_wp2
          go_ret
          exact ⟨by rw [← hfin.out]; rfl, rfl⟩

theorem inverse_any (a : Nat) (ha : a < 256) (w : World) :
    Calls Try.prog 22 #[.int .u8 a] w fun e w' => e = .returned (.int .u8 (inv a)) ∧ w = w' := by
  go_enter Try.func22, Try.ntmps22
  go_wp2_with fail
  refine (power_nat a 254 ha (by omega) _).mono ?_
  rintro e w' ⟨rfl, rfl⟩
  go_wp2_with fail
  go_ret
  exact ⟨rfl, rfl⟩

set_option maxRecDepth 100000 in
theorem refInverse_any (a : Nat) (ha : a < 256) (w : World) :
    Calls Try.prog 23 #[.int .u8 a] w fun e w' => e = .returned (.int .u8 (inv a)) ∧ w = w' := by
  go_enter Try.func23, Try.ntmps23
  go_wp2
  go_loop [3] (fun i => ∃ k : Nat, 1 ≤ k ∧ k ≤ 256 ∧ i = .int .i64 k ∧ ∀ j, 1 ≤ j → j < k → gm a j ≠ 1) (fun i => 256 - (intOf i).toNat)
  case atStart => exact ⟨1, by omega, by omega, rfl, fun j h1 h2 => by omega⟩
  case round =>
    obtain ⟨k, hk1, hk, rfl, hno⟩ := hrel
    have Hno := Lib.hid hno
    clear hno
    by_cases hlt : k < 256
    · by_cases hg : gm a k = 1
      · have Hg := Lib.hid hg
        have Hk := Lib.hid (inv_uniq a k ha hlt hg)
        clear hg
        go_wp2_with fail
        refine (refTimes_any a k ha hlt _).mono ?_
        rintro e w' ⟨rfl, rfl⟩
        rw [Hg.out]
        go_wp2_with fail
        go_ret
        exact ⟨by rw [← Hk.out]; rfl, rfl⟩
      · have t : (((gm a k : Nat) : Int) == 1) = false := by rw [beq_eq_false_iff_ne]; omega
        have Hn := Lib.hid (show ∀ j, 1 ≤ j → j < k + 1 → gm a j ≠ 1 from fun j h1 h2 => by
          by_cases e : j = k
          · subst e; exact hg
          · exact Hno.out j h1 (by omega))
        clear hg
        go_wp2_with fail
        refine (refTimes_any a k ha hlt _).mono ?_
        rintro e w' ⟨rfl, rfl⟩
        go_wp2_with fail
        go_round
        case rel => exact ⟨k + 1, by omega, by omega, by go_num, Hn.out⟩
        case measure => simp [intOf]; omega
    · obtain rfl : k = 256 := by omega
      have hz : a = 0 := by
        by_cases e : a = 0
        · exact e
        · have h1 := gm_inv a ha e
          have h2 : inv a ≠ 0 := by
            intro h0
            rw [h0, gm_zero] at h1
            omega
          exact absurd h1 (Hno.out (inv a) (by omega) (inv_lt a))
      have Hz := Lib.hid hz
      clear hz
      go_wp2
      go_ret
      exact ⟨by rw [Hz.out, inv_zero]; rfl, rfl⟩
end Go.Proofs.Ytdefdhmoleahnaa
