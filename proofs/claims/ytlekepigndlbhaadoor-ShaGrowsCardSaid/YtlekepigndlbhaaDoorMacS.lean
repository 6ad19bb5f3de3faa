/-
  The walk of mac.Same.
-/
import Derived.Test.YtlekepigndlbhaaDoorRef02
import Derived.Laws.BitsAllLaws
namespace Go.Proofs.YtlekepigndlbhaaDoor
open Go.ChangeShapes Go.WideShapes Go.ChangeAt Go.RowKit

theorem or_none (p x y : Nat) (xs ys : List Nat) (k : Nat) (hx : xs[k]? = some x) (hy : ys[k]? = some y) (h : p = 0 ↔ xs.take k = ys.take k) :
    p ||| (x ^^^ y) = 0 ↔ xs.take (k + 1) = ys.take (k + 1) := by
  have e : p ||| (x ^^^ y) = 0 ↔ p = 0 ∧ x = y := by
    constructor
    · intro h0
      have h1 : p = 0 := Nat.eq_zero_of_le_zero (h0 ▸ Nat.left_le_or)
      have h2 : x ^^^ y = 0 := Nat.eq_zero_of_le_zero (h0 ▸ Nat.right_le_or)
      refine ⟨h1, ?_⟩
      have h3 : (x ^^^ y) ^^^ y = 0 ^^^ y := by rw [h2]
      rw [Nat.xor_assoc, Nat.xor_self, Nat.xor_zero, Nat.zero_xor] at h3
      exact h3
    · rintro ⟨rfl, rfl⟩
      simp
  rw [e, h, List.take_add_one, List.take_add_one, hx, hy]
  constructor
  · rintro ⟨h1, rfl⟩
    rw [h1]
  · intro h1
    have h2 := List.append_inj' h1 rfl
    exact ⟨h2.1, by simpa using h2.2⟩

set_option maxRecDepth 100000 in
set_option maxHeartbeats 1000000 in
theorem macSame_len (a b : Option Addr) (la ca cb : Nat) (xs ys : List Nat) (w : World) (ha : IntsIn w .u8 a la xs) (hb : IntsIn w .u8 b la ys) (hla : la ≤ 9223372036854775807) :
    Calls Tryd.prog 30 #[.slice a la ca, .slice b la cb] w fun e w' => e = .returned (.bool (decide (xs = ys))) ∧ ∃ n, w' = w.drewN n := by
  go_enter Tryd.func30, Tryd.ntmps30
  go_wp2_with fail
  go_loopw [5, 14] (fun p i wr => ∃ k P : Nat, k ≤ la ∧ i = .int .i64 k ∧ p = .int .u8 P ∧ P < 256 ∧ (P = 0 ↔ xs.take k = ys.take k) ∧ ∃ n, wr = w.drewN n) (fun _ i _ => la - (intOf i).toNat)
  case atStart => exact ⟨0, 0, by omega, rfl, rfl, by omega, by simp, 0, rfl⟩
  case round =>
    obtain ⟨k, P, hk, rfl, rfl, hP, ht, n, rfl⟩ := hrel
    have Ht := Lib.hid ht
    clear ht
    by_cases hlt : k < la
    · obtain ⟨b1, o1, x, rfl, hb1, hx, hwx, hcx⟩ := ha.elem k hlt
      obtain ⟨b2, o2, y, rfl, hb2, hy, hwy, hcy⟩ := hb.elem k hlt
      have hx8 := wf_u8_lt hwx
      have hy8 := wf_u8_lt hwy
      have Hn := Lib.hid (or_none P x y xs ys k hx hy Ht.out)
      have Hl := Lib.hid (Nat.or_lt_two_pow (n := 8) hP (Nat.xor_lt_two_pow (n := 8) hx8 hy8))
      have e1 := u8_xor_nat x y hx8 hy8
      have e2 := u8_or_nat P (x ^^^ y) hP (Nat.xor_lt_two_pow (n := 8) hx8 hy8)
      clear hx hy hwx hwy Ht
      have hi : (k : Int) < (la : Int) := by omega
      generalize P ||| (x ^^^ y) = q at *
      generalize x ^^^ y = z at *
      go_wp2_with fail
      go_quiet (fail)
      go_wp2_with fail
      go_roundw
      case rel => exact ⟨k + 1, q, by omega, by go_num, rfl, Hl.out, Hn.out, _, rfl⟩
      case measure => simp [intOf]; omega
    · obtain rfl : k = la := by omega
      have He : P = 0 ↔ xs = ys := by
        have h := Ht.out
        rw [List.take_of_length_le (by rw [ha.1]; exact Nat.le_refl _), List.take_of_length_le (by rw [hb.1]; exact Nat.le_refl _)] at h
        exact h
      by_cases hP0 : P = 0
      · have He2 := Lib.hid (He.1 hP0)
        subst hP0
        clear He Ht
        go_wp2_with fail
        go_ret
        exact ⟨by rw [decide_eq_true He2.out]; rfl, _, rfl⟩
      · have He2 := Lib.hid (fun e => hP0 (He.2 e))
        have t : ((P : Int) == 0) = false := by rw [beq_eq_false_iff_ne]; omega
        clear He Ht hP0
        go_wp2_with fail
        go_ret
        exact ⟨by rw [decide_eq_false He2.out]; rfl, _, rfl⟩

theorem macSame_any (a b : Option Addr) (la lb ca cb : Nat) (xs ys : List Nat) (w : World) (ha : IntsIn w .u8 a la xs) (hb : IntsIn w .u8 b lb ys) (hla : la ≤ 9223372036854775807) (hlb : lb ≤ 9223372036854775807) :
    Calls Tryd.prog 30 #[.slice a la ca, .slice b lb cb] w fun e w' => e = .returned (.bool (decide (xs = ys))) ∧ ∃ n, w' = w.drewN n := by
  by_cases hl : la = lb
  · subst hl
    exact macSame_len a b la ca cb xs ys w ha hb hla
  · have Hne := Lib.hid (show xs ≠ ys from fun e => hl (by rw [← ha.1, ← hb.1, e]))
    have t : ((la : Int) != (lb : Int)) = true := by rw [bne_iff_ne]; omega
    clear hl
    go_enter Tryd.func30, Tryd.ntmps30
    go_wp2_with fail
    go_ret
    exact ⟨by rw [decide_eq_false Hne.out]; rfl, 0, rfl⟩
theorem macSame_is {a b : Option Addr} {la lb ca cb : Nat} {xs ys : List Nat} {w : World} (v : Bool) (hv : decide (xs = ys) = v) (ha : IntsIn w .u8 a la xs) (hb : IntsIn w .u8 b lb ys) (hla : la ≤ 9223372036854775807) (hlb : lb ≤ 9223372036854775807) :
    Calls Tryd.prog 30 #[.slice a la ca, .slice b lb cb] w fun e w' => e = .returned (.bool v) ∧ ∃ n, w' = w.drewN n := by
  rw [← hv]
  exact macSame_any a b la lb ca cb xs ys w ha hb hla hlb
end Go.Proofs.YtlekepigndlbhaaDoor
