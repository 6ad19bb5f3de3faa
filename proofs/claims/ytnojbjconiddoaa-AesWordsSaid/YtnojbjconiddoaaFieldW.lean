/-
  The walks of the byte field: what field.Times and its reference compute.
-/
import Derived.Test.YtnojbjconiddoaaRows
import Derived.Test.YtnojbjconiddoaaFieldM
import Derived.Test.YtnojbjconiddoaaBits
import Derived.WalkKit
import Derived.WalkSpells
import Derived.WalkLawsBesides
import Derived.Lib.Hide
namespace Go.Proofs.Ytnojbjconiddoaa
open Go.RowKit
open Fld

theorem xt_t (c : Nat) (h : c / 128 % 2 = 1) : bits .xor .u8 ((c : Int) * 2 % 256) 27 = ((xt c : Nat) : Int) := by
  have := u8_xor_nat (c * 2 % 256) 27 (by omega) (by decide)
  rw [xt, if_pos h, ← this]
  simp
theorem xt_f (c : Nat) (h : c / 128 % 2 = 0) : (c : Int) * 2 % 256 = ((xt c : Nat) : Int) := by
  rw [xt, if_neg (by omega)]
  simp

set_option maxHeartbeats 400000 in
theorem times_any (a b : Nat) (ha : a < 256) (hb : b < 256) (w : World) :
    Calls Try.prog 49 #[.int .u8 a, .int .u8 b] w fun e w' => e = .returned (.int .u8 (gm a b)) ∧ w = w' := by
  go_enter Try.func49, Try.ntmps49
  go_wp2
  go_loop [0, 1, 5] (fun x y p => ∃ k c d q : Nat, c < 256 ∧ d < 2 ^ k ∧ d < 256 ∧ q < 256 ∧ k ≤ 8 ∧ x = .int .u8 c ∧ y = .int .u8 d ∧ p = .int .u8 q ∧ gmF k c d q = gm a b) (fun _ y _ => (intOf y).toNat)
  case atStart => exact ⟨8, a, b, 0, ha, hb, hb, by omega, by omega, rfl, rfl, rfl, rfl⟩
  case round =>
    obtain ⟨k, c, d, q, hc, hk, hd, hq, hk8, rfl, rfl, rfl, hg⟩ := hrel
    have Hg := Lib.hid hg
    clear hg
    by_cases h0 : d = 0
    · subst h0
      go_wp2
      go_ret
      exact ⟨by rw [← Hg.out, gmF_zero]; rfl, rfl⟩
    · obtain ⟨k, rfl⟩ : ∃ k', k = k' + 1 := by
        cases k with
        | zero => omega
        | succ k => exact ⟨k, rfl⟩
      have hk2 : d / 2 < 2 ^ k := by rw [Nat.pow_succ] at hk; omega
      have t0 : ((d : Int) != 0) = true := by rw [bne_iff_ne]; omega
      have hx := xt_lt c
      have hd1 : 1 ≤ d := by omega
      clear h0 hk
      rcases Nat.mod_two_eq_zero_or_one d with o | o
      · have g := gmF_even k c d q o
        have G := Lib.hid (g.symm.trans Hg.out)
        clear g Hg
        have t1 := odd_f d hd o
        rcases Nat.mod_two_eq_zero_or_one (c / 128) with s | s
        · have t2 := high_f c hc s
          have e := Lib.hid (xt_f c s)
          clear o s
          go_wp2
          go_round
          case rel => exact ⟨k, xt c, d / 2, q, hx, hk2, by omega, hq, by omega, by rw [e.out], by simp, rfl, G.out⟩
          case measure => simp [intOf]; omega
        · have t2 := high_t c hc s
          have e := Lib.hid (xt_t c s)
          clear o s
          go_wp2
          go_round
          case rel => exact ⟨k, xt c, d / 2, q, hx, hk2, by omega, hq, by omega, by rw [e.out], by simp, rfl, G.out⟩
          case measure => simp [intOf]; omega
      · have g := gmF_odd k c d q o
        have G := Lib.hid (g.symm.trans Hg.out)
        clear g Hg
        have t1 := odd_t d hd o
        have hqc : q ^^^ c < 256 := Nat.xor_lt_two_pow (n := 8) hq hc
        have ex := Lib.hid (u8_xor_nat q c hq hc)
        rcases Nat.mod_two_eq_zero_or_one (c / 128) with s | s
        · have t2 := high_f c hc s
          have e := Lib.hid (xt_f c s)
          clear o s
          go_wp2
          go_round
          case rel => exact ⟨k, xt c, d / 2, q ^^^ c, hx, hk2, by omega, hqc, by omega, by rw [e.out], by simp, by rw [ex.out], G.out⟩
          case measure => simp [intOf]; omega
        · have t2 := high_t c hc s
          have e := Lib.hid (xt_t c s)
          clear o s
          go_wp2
          go_round
          case rel => exact ⟨k, xt c, d / 2, q ^^^ c, hx, hk2, by omega, hqc, by omega, by rw [e.out], by simp, by rw [ex.out], G.out⟩
          case measure => simp [intOf]; omega

set_option maxHeartbeats 400000 in
theorem refTimes_any (a b : Nat) (ha : a < 256) (hb : b < 256) (w : World) :
    Calls Try.prog 66 #[.int .u8 a, .int .u8 b] w fun e w' => e = .returned (.int .u8 (gm a b)) ∧ w = w' := by
  have hfin := Lib.hid (refT_gm a b ha hb)
  go_enter Try.func66, Try.ntmps66
  go_wp2
  go_loop [5, 6] (fun p i => ∃ k : Nat, k ≤ 8 ∧ i = .int .u64 k ∧ p = .int .i64 (clF k a b)) (fun _ i => 8 - (intOf i).toNat)
  case atStart => exact ⟨0, by omega, rfl, rfl⟩
  case round =>
    obtain ⟨k, hk, rfl, rfl⟩ := hrel
    have hq := clF_lt a b ha k hk
    by_cases h : k < 8
    · rcases Nat.mod_two_eq_zero_or_one (b / 2 ^ k) with o | o
      · have e := Lib.hid (clF_f k a b o)
        have t := u8_bit_f b k hb o
        clear o
        go_wp2
        go_round
        case rel => exact ⟨k + 1, by omega, by go_num, by rw [e.out]⟩
        case measure => simp [intOf]; omega
      · have e := Lib.hid (clF_t k a b o)
        have t := u8_bit_t b k hb o
        have hs := shl_lt a k ha h
        have ex := Lib.hid (i64_xor (clF k a b) (a * 2 ^ k) (by omega) (by omega))
        have ew := Lib.hid (wrap64_nat (a * 2 ^ k) (by omega))
        clear o
        go_wp2
        go_round
        case rel => exact ⟨k + 1, by omega, by go_num, by rw [e.out, ← ex.out, cast_shl, ew.out]⟩
        case measure => simp [intOf]; omega
    · obtain rfl : k = 8 := by omega
      go_wp2
      go_loop [5, 7] (fun p i => ∃ k q : Nat, k ≤ 8 ∧ q < 65536 ∧ i = .int .u64 (k + 7) ∧ p = .int .i64 q ∧ rdF k q = rdF 8 (clF 8 a b)) (fun _ i => (intOf i).toNat)
      case atStart => exact ⟨8, clF 8 a b, by omega, by omega, rfl, rfl, rfl⟩
      case round =>
        obtain ⟨k, q, hk, hq, rfl, rfl, hr⟩ := hrel
        have Hr := Lib.hid hr
        clear hr
        cases k with
        | zero =>
          go_wp2
          go_ret
          exact ⟨by have h1 := hfin.out; unfold refT at h1; rw [← Hr.out] at h1; rw [← h1]; simp [rdF], rfl⟩
        | succ k =>
          have hk8 : k < 8 := by omega
          have c1 : ((k + 1 : Nat) : Int) + 7 = ((k + 8 : Nat) : Int) := by omega
          rw [c1]
          have s1 : k + 8 - 8 = k := by omega
          rcases Nat.mod_two_eq_zero_or_one (q / 2 ^ (k + 8)) with o | o
          · have e := Lib.hid ((rdF_f k q o).symm.trans Hr.out)
            have t := i64_bit_f q (k + 8) (by omega) o
            clear o c1 Hr
            go_wp2
            go_round
            case rel => exact ⟨k, q, by omega, hq, by go_num, rfl, e.out⟩
            case measure => simp [intOf]; omega
          · have e := Lib.hid ((rdF_t k q o).symm.trans Hr.out)
            have t := i64_bit_t q (k + 8) (by omega) o
            have hs : 283 * 2 ^ k < 65536 := shl283_lt k hk8
            have ex := Lib.hid (i64_xor q (283 * 2 ^ k) (by omega) (by omega))
            have ew := Lib.hid (wrap64_nat (283 * 2 ^ k) (by omega))
            have hx : q ^^^ (283 * 2 ^ k) < 65536 := Nat.xor_lt_two_pow (n := 16) hq hs
            clear o c1 Hr
            go_wp2
            go_round
            case rel => exact ⟨k, q ^^^ (283 * 2 ^ k), by omega, hx, by go_num, by rw [← ex.out, ← ew.out]; simp, e.out⟩
            case measure => simp [intOf]; omega
end Go.Proofs.Ytnojbjconiddoaa
