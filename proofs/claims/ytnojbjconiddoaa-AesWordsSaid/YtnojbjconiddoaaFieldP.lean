/-
  Plain mathematics of the byte field: powers and inverses.
-/
import Derived.Test.YtnojbjconiddoaaFieldM
namespace Fld

def gpow (a : Nat) : Nat → Nat
  | 0 => 1
  | n + 1 => gm (gpow a n) a
theorem gpow_lt (a : Nat) (n : Nat) : gpow a n < 256 := by
  induction n with
  | zero => simp [gpow]
  | succ n ih => exact gm_lt _ _ ih
theorem gpow_one (a : Nat) (ha : a < 256) : gpow a 1 = a := by
  show gm 1 a = a
  rw [gm_comm 1 a (by omega) ha, gm_one a ha]
theorem gpow_add (a n m : Nat) (ha : a < 256) : gm (gpow a n) (gpow a m) = gpow a (n + m) := by
  induction m with
  | zero => exact gm_one _ (gpow_lt a n)
  | succ m ih =>
    show gm (gpow a n) (gm (gpow a m) a) = gm (gpow a (n + m)) a
    rw [gm_assoc _ _ _ (gpow_lt a n) (gpow_lt a m) ha, ih]
theorem gpow_sq (a m : Nat) (ha : a < 256) : gpow (gm a a) m = gpow a (2 * m) := by
  induction m with
  | zero => rfl
  | succ m ih =>
    show gm (gpow (gm a a) m) (gm a a) = gpow a (2 * m + 1 + 1)
    rw [ih, gm_assoc _ _ _ (gpow_lt _ _) ha ha]
    rfl
/-- One round of the way by squares. -/
theorem pw_odd (a q m : Nat) (ha : a < 256) (hq : q < 256) (h : m % 2 = 1) : gm (gm q a) (gpow (gm a a) (m / 2)) = gm q (gpow a m) := by
  rw [gpow_sq a _ ha, ← gm_assoc _ _ _ hq ha (gpow_lt _ _)]
  have e : gm a (gpow a (2 * (m / 2))) = gpow a m := by
    rw [gm_comm _ _ ha (gpow_lt _ _)]
    have : m = 2 * (m / 2) + 1 := by omega
    conv => rhs; rw [this]
    rfl
  rw [e]
theorem pw_even (a q m : Nat) (ha : a < 256) (h : m % 2 = 0) : gm q (gpow (gm a a) (m / 2)) = gm q (gpow a m) := by
  rw [gpow_sq a _ ha]
  have : 2 * (m / 2) = m := by omega
  rw [this]

theorem gpow_zero_base (n : Nat) (h : 1 ≤ n) : gpow 0 n = 0 := by
  obtain ⟨m, rfl⟩ : ∃ m, n = m + 1 := ⟨n - 1, by omega⟩
  exact gm_zero _
def inv (a : Nat) : Nat := gpow a 254
theorem inv_lt (a : Nat) : inv a < 256 := gpow_lt a 254
theorem inv_zero : inv 0 = 0 := gpow_zero_base 254 (by omega)
/-- 2 + 4 + .. + 128 = 254. -/
def sqs (a : Nat) : Nat → Nat × Nat
  | 0 => (a, 1)
  | k + 1 => (gm (sqs a k).1 (sqs a k).1, gm (sqs a k).2 (gm (sqs a k).1 (sqs a k).1))
theorem sqs_pow (a : Nat) (ha : a < 256) (k : Nat) : (sqs a k).1 = gpow a (2 ^ k) ∧ (sqs a k).2 = gpow a (2 ^ (k + 1) - 2) := by
  induction k with
  | zero => exact ⟨(gpow_one a ha).symm, rfl⟩
  | succ k ih =>
    have h1 := ih.1
    have h2 := ih.2
    have e : 2 ^ (k + 1) = 2 ^ k + 2 ^ k := by rw [Nat.pow_succ]; omega
    have e2 : 2 ^ (k + 1 + 1) = 2 ^ (k + 1) + 2 ^ (k + 1) := by rw [Nat.pow_succ]; omega
    have hp := Nat.two_pow_pos k
    refine ⟨?_, ?_⟩
    · show gm (sqs a k).1 (sqs a k).1 = _
      rw [h1, gpow_add a _ _ ha, e]
    · show gm (sqs a k).2 (gm (sqs a k).1 (sqs a k).1) = _
      rw [h1, h2, gpow_add a _ _ ha, gpow_add a _ _ ha]
      congr 1
      omega
/-- The squares, one behind the other, by a loop that holds numbers alone. -/
def sqL : Nat → Nat → Nat → Nat
  | 0, _, p => p
  | k + 1, s, p => sqL k (gm s s) (gm p (gm s s))
theorem sqL_sqs (a : Nat) (k : Nat) : ∀ j, sqL k (sqs a j).1 (sqs a j).2 = (sqs a (j + k)).2 := by
  induction k with
  | zero => intro j; rfl
  | succ k ih =>
    intro j
    have := ih (j + 1)
    rw [show j + (k + 1) = j + 1 + k by omega, ← this]
    rfl
theorem inv_sqL (a : Nat) (ha : a < 256) : inv a = sqL 7 a 1 := by
  have h := (sqs_pow a ha 7).2
  have h2 := sqL_sqs a 7 0
  rw [show (2 ^ (7 + 1) - 2 : Nat) = 254 by decide] at h
  unfold inv
  rw [← h]
  exact h2.symm
theorem all_inv : ∀ a, a < 256 → a ≠ 0 → gm a (sqL 7 a 1) = 1 := by decide +kernel
theorem gm_inv (a : Nat) (ha : a < 256) (h : a ≠ 0) : gm a (inv a) = 1 := by rw [inv_sqL a ha]; exact all_inv a ha h
theorem gm_zero_left (b : Nat) : gm 0 b = 0 := by rw [gm_mul]; exact Gal.mul_zero_left xt_lin 8 b
theorem inv_uniq (a x : Nat) (ha : a < 256) (hx : x < 256) (h : gm a x = 1) : x = inv a := by
  have h0 : a ≠ 0 := by
    rintro rfl
    rw [gm_zero_left] at h
    omega
  have e : gm (gm (inv a) a) x = gm (inv a) (gm a x) := (gm_assoc _ _ _ (inv_lt a) ha hx).symm
  rw [h, gm_one _ (inv_lt a), gm_comm _ _ (inv_lt a) ha, gm_inv a ha h0, gm_comm 1 x (by omega) hx, gm_one x hx] at e
  exact e
theorem inv_inv (a : Nat) (ha : a < 256) : inv (inv a) = a := by
  by_cases h : a = 0
  · subst h
    rw [inv_zero, inv_zero]
  · exact (inv_uniq (inv a) a (inv_lt a) ha (by rw [gm_comm _ _ (inv_lt a) ha]; exact gm_inv a ha h)).symm
theorem gpow_255 (a : Nat) (ha : a < 256) (h : a ≠ 0) : gpow a 255 = 1 := by
  show gm (inv a) a = 1
  rw [gm_comm _ _ (inv_lt a) ha]
  exact gm_inv a ha h
theorem gpow_255k (a k : Nat) (ha : a < 256) (h : a ≠ 0) : gpow a (255 * k) = 1 := by
  induction k with
  | zero => rfl
  | succ k ih => rw [Nat.mul_succ, ← gpow_add a _ _ ha, ih, gpow_255 a ha h]; decide
theorem gpow_mod (a n : Nat) (ha : a < 256) (h : a ≠ 0) : gpow a (n % 255) = gpow a n := by
  have e : n = 255 * (n / 255) + n % 255 := by omega
  conv => rhs; rw [e, ← gpow_add a _ _ ha, gpow_255k a _ ha h, gm_comm _ _ (by omega) (gpow_lt _ _), gm_one _ (gpow_lt _ _)]
theorem inv53 : inv 83 = 202 := (inv_uniq 83 202 (by omega) (by omega) (by decide +kernel)).symm
end Fld
