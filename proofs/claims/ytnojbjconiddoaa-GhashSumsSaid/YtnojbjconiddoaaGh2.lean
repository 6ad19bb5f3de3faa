/-
  A block's bytes and the great field's numbers; the halves that the program works on; no program in sight.
-/
import Derived.Test.YtnojbjconiddoaaGh1
import Derived.Test.YtnojbjconiddoaaNum
namespace Gh

/-- The first k bits of x, turned about. -/
def rv : Nat → Nat → Nat
  | 0, _ => 0
  | k + 1, x => (x % 2) * 2 ^ k ^^^ rv k (x / 2)
theorem rv_lt (k x : Nat) : rv k x < 2 ^ k := by
  induction k generalizing x with
  | zero => simp [rv]
  | succ k ih =>
    refine Nat.xor_lt_two_pow ?_ (Nat.lt_of_lt_of_le (ih _) (Nat.pow_le_pow_right (by omega) (by omega)))
    rw [Nat.pow_succ]
    have := Nat.two_pow_pos k
    rcases Nat.mod_two_eq_zero_or_one x with h | h <;> rw [h] <;> omega
theorem rv_bit (k x i : Nat) : (rv k x).testBit i = (decide (i < k) && x.testBit (k - 1 - i)) := by
  induction k generalizing x with
  | zero => simp [rv]
  | succ k ih =>
    simp only [rv]
    rw [Nat.testBit_xor, ih]
    by_cases hik : i = k
    · subst hik
      have e : (x % 2 * 2 ^ i).testBit i = x.testBit 0 := by
        rw [Nat.testBit_zero]
        rcases Nat.mod_two_eq_zero_or_one x with h | h <;> rw [h] <;> simp
      rw [e]
      simp
    · have e : (x % 2 * 2 ^ k).testBit i = false := by
        rcases Nat.mod_two_eq_zero_or_one x with h | h <;> rw [h]
        · simp
        · rw [Nat.one_mul, Nat.testBit_two_pow_of_ne (fun h => hik h.symm)]
      rw [e, Bool.false_xor]
      by_cases hlt : i < k
      · have h1 : i < k + 1 := by omega
        rw [← Nat.testBit_add_one]
        simp only [hlt, h1, decide_true, Bool.true_and]
        congr 1
        omega
      · have h1 : ¬ i < k + 1 := by omega
        simp [hlt, h1]
theorem rv_xor (k a b : Nat) : rv k (a ^^^ b) = rv k a ^^^ rv k b := by
  apply Nat.eq_of_testBit_eq
  intro i
  simp only [Nat.testBit_xor, rv_bit]
  cases decide (i < k) <;> simp
theorem rv_zero (k : Nat) : rv k 0 = 0 := by
  apply Nat.eq_of_testBit_eq
  intro i
  simp [rv_bit]
theorem rv_rv (k x : Nat) (h : x < 2 ^ k) : rv k (rv k x) = x := by
  apply Nat.eq_of_testBit_eq
  intro i
  rw [rv_bit, rv_bit]
  by_cases hi : i < k
  · have h1 : k - 1 - i < k := by omega
    have h2 : k - 1 - (k - 1 - i) = i := by omega
    simp [hi, h1, h2]
  · simp [hi]
    exact (Nat.testBit_lt_two_pow (Nat.lt_of_lt_of_le h (Nat.pow_le_pow_right (n := 2) (by omega) (show k ≤ i by omega))))

/-- The two halves of a number of the field, as the program has them. -/
def hi (p : Nat) : Nat := rv 128 p / 18446744073709551616
def lo (p : Nat) : Nat := rv 128 p % 18446744073709551616
def join (h l : Nat) : Nat := rv 128 (h * 18446744073709551616 + l)
theorem hi_lt (p : Nat) : hi p < 18446744073709551616 := by
  have := rv_lt 128 p
  unfold hi
  omega
theorem lo_lt (p : Nat) : lo p < 18446744073709551616 := Nat.mod_lt _ (by omega)
theorem join_lt (h l : Nat) : join h l < 2 ^ 128 := rv_lt 128 _
theorem hi_join (h l : Nat) (hh : h < 18446744073709551616) (hl : l < 18446744073709551616) : hi (join h l) = h := by
  unfold hi join
  rw [rv_rv 128 _ (by omega)]
  omega
theorem lo_join (h l : Nat) (hh : h < 18446744073709551616) (hl : l < 18446744073709551616) : lo (join h l) = l := by
  unfold lo join
  rw [rv_rv 128 _ (by omega)]
  omega
theorem join_hi_lo (p : Nat) (hp : p < 2 ^ 128) : join (hi p) (lo p) = p := by
  unfold hi lo join
  rw [Nat.mul_comm, Nat.div_add_mod, rv_rv 128 p hp]
theorem two64 : (18446744073709551616 : Nat) = 2 ^ 64 := by decide
theorem hi_xor (p q : Nat) : hi (p ^^^ q) = hi p ^^^ hi q := by
  unfold hi
  rw [rv_xor, two64, Nat.xor_div_two_pow]
theorem lo_xor (p q : Nat) : lo (p ^^^ q) = lo p ^^^ lo q := by
  unfold lo
  rw [rv_xor, two64, Nat.xor_mod_two_pow]
theorem hi_zero : hi 0 = 0 := by decide +kernel
theorem lo_zero : lo 0 = 0 := by decide +kernel
/-- Bit i, as the program finds it. -/
theorem bit_hi (p i : Nat) (h : i < 64) : hi p / 2 ^ (63 - i) % 2 = if p.testBit i then 1 else 0 := by
  have e : (hi p / 2 ^ (63 - i)).testBit 0 = p.testBit i := by
    unfold hi
    rw [two64, Nat.div_div_eq_div_mul, ← Nat.pow_add, ← Nat.shiftRight_eq_div_pow, Nat.testBit_shiftRight, rv_bit]
    have h1 : 64 + (63 - i) + 0 < 128 := by omega
    have h2 : 128 - 1 - (64 + (63 - i) + 0) = i := by omega
    rw [h2]
    simp only [h1, decide_true, Bool.true_and]
  rw [Nat.testBit_zero] at e
  rw [← e]
  rcases Nat.mod_two_eq_zero_or_one (hi p / 2 ^ (63 - i)) with h3 | h3 <;> simp [h3]
theorem bit_lo (p i : Nat) (h : 64 ≤ i) (h2 : i < 128) : lo p / 2 ^ (127 - i) % 2 = if p.testBit i then 1 else 0 := by
  have e : (lo p / 2 ^ (127 - i)).testBit 0 = p.testBit i := by
    unfold lo
    rw [two64, ← Nat.shiftRight_eq_div_pow, Nat.testBit_shiftRight, Nat.testBit_mod_two_pow, rv_bit]
    have h1 : 127 - i + 0 < 64 := by omega
    have h3 : 127 - i + 0 < 128 := by omega
    have h4 : 128 - 1 - (127 - i + 0) = i := by omega
    rw [h4]
    simp only [h1, h3, decide_true, Bool.true_and]
  rw [Nat.testBit_zero] at e
  rw [← e]
  rcases Nat.mod_two_eq_zero_or_one (lo p / 2 ^ (127 - i)) with h3 | h3 <;> simp [h3]
/-- The program's step. -/
def stepH (h l : Nat) : Nat := h / 2 ^^^ (if l % 2 = 1 then 16212958658533785600 else 0)
def stepL (h l : Nat) : Nat := (l / 2) ||| (h * 9223372036854775808 % 18446744073709551616)
theorem T_rv (X : Nat) (hX : X < 2 ^ 128) : rv 128 (X / 2 ^^^ (if X % 2 = 1 then 299076299051606071403356588563077529600 else 0)) = T (rv 128 X) := by
  refine Gal.ext_pows (fun X => rv 128 (X / 2 ^^^ (if X % 2 = 1 then 299076299051606071403356588563077529600 else 0))) (fun X => T (rv 128 X)) (by decide +kernel) (by decide +kernel) 128 (fun x y _ _ => ?_) (fun x y _ _ => ?_) (by decide +kernel) X hX
  · show rv 128 ((x ^^^ y) / 2 ^^^ _) = _
    rw [← rv_xor, Gal.xor_div2, Gal.xor_mod2, Gal.xor4]
    rcases Nat.mod_two_eq_zero_or_one x with h | h <;> rcases Nat.mod_two_eq_zero_or_one y with h' | h' <;> simp [h, h']
  · show T (rv 128 (x ^^^ y)) = _
    rw [rv_xor, T_xor]
theorem shl63 (h : Nat) : h * 9223372036854775808 % 18446744073709551616 = h % 2 * 9223372036854775808 := by omega
theorem or_add (a b : Nat) (ha : a < 9223372036854775808) : a ||| (b * 9223372036854775808) = b * 9223372036854775808 + a := by
  have := Nat.two_pow_add_eq_or_of_lt (i := 63) (b := a) (by omega) b
  rw [Nat.or_comm]
  rw [show (9223372036854775808 : Nat) = 2 ^ 63 by decide, Nat.mul_comm]
  exact this.symm
theorem step_eq (p : Nat) (hp : p < 2 ^ 128) : stepH (hi p) (lo p) = hi (T p) ∧ stepL (hi p) (lo p) = lo (T p) := by
  have e := T_rv (rv 128 p) (rv_lt 128 p)
  rw [rv_rv 128 p hp] at e
  have h1 : rv 128 (T p) = rv 128 p / 2 ^^^ (if rv 128 p % 2 = 1 then 299076299051606071403356588563077529600 else 0) := by
    rw [← e, rv_rv 128 _ ?_]
    have := rv_lt 128 p
    refine Nat.xor_lt_two_pow (by omega) ?_
    split <;> decide
  obtain ⟨X, hX⟩ : ∃ X, X = rv 128 p := ⟨_, rfl⟩
  have hXl := rv_lt 128 p
  rw [← hX] at h1 hXl
  have em : X % 18446744073709551616 % 2 = X % 2 := by omega
  unfold stepH stepL hi lo
  rw [h1, ← hX, em, shl63, or_add _ _ (by omega), two64, Nat.xor_div_two_pow, Nat.xor_mod_two_pow, ← two64]
  constructor
  · rw [show X / 18446744073709551616 / 2 = X / 2 / 18446744073709551616 by omega]
    split <;> rfl
  · rw [show X / 2 % 18446744073709551616 = X / 18446744073709551616 % 2 * 9223372036854775808 + X % 18446744073709551616 / 2 by omega]
    split
    · rw [show (299076299051606071403356588563077529600 : Nat) % 18446744073709551616 = 0 by decide, Nat.xor_zero]
    · rw [Nat.zero_mod, Nat.xor_zero]
/-- One more bit of the second. -/
theorem gmul_snoc (k : Nat) : ∀ (a b : Nat), a < 2 ^ 128 → Gal.mul T (k + 1) a b = Gal.mul T k a b ^^^ (if b.testBit k then Gal.iter T k a else 0) := by
  induction k with
  | zero =>
    intro a b _
    simp only [Gal.mul, Gal.iter, Nat.testBit_zero, Nat.xor_zero, Nat.zero_xor]
    rcases Nat.mod_two_eq_zero_or_one b with h | h <;> simp [h]
  | succ k ih =>
    intro a b ha
    rw [Gal.mul, ih (T a) (b / 2) (T_lt a), Gal.mul, ← Nat.xor_assoc, ← Nat.testBit_add_one, Gal.iter_comm]
    rfl
end Gh
