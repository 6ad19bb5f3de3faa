/-
  Plain mathematics of the boxes: the affine step, by rotations and by bits, and that each byte is met once on the way about the field.
-/
import Derived.Test.YtnojbjconiddoaaFieldP
namespace Fld

def rot (b n : Nat) : Nat := (b * 2 ^ n % 256) ||| (b / 2 ^ (8 - n))
/-- The box's sum behind k rotations. -/
def affF (b : Nat) : Nat → Nat
  | 0 => 99
  | k + 1 => affF b k ^^^ rot b k
def aff (b : Nat) : Nat := affF b 5
/-- The way back. -/
def aff' (s : Nat) : Nat := rot s 1 ^^^ rot s 3 ^^^ rot s 6 ^^^ 5
/-- The box of a. -/
def sb (a : Nat) : Nat := aff (inv a)

theorem rot_lt (b n : Nat) (hb : b < 256) : rot b n < 256 := Nat.or_lt_two_pow (n := 8) (Nat.mod_lt _ (by omega)) (Nat.lt_of_le_of_lt (Nat.div_le_self _ _) hb)
theorem affF_lt (b k : Nat) (hb : b < 256) : affF b k < 256 := by
  induction k with
  | zero => simp [affF]
  | succ k ih => exact Nat.xor_lt_two_pow (n := 8) ih (rot_lt b k hb)
theorem aff'_lt (s : Nat) (hs : s < 256) : aff' s < 256 :=
  Nat.xor_lt_two_pow (n := 8) (Nat.xor_lt_two_pow (n := 8) (Nat.xor_lt_two_pow (n := 8) (rot_lt s 1 hs) (rot_lt s 3 hs)) (rot_lt s 6 hs)) (by omega)
theorem aff_aff' : ∀ s, s < 256 → aff (aff' s) = s := by decide +kernel
theorem aff'_aff : ∀ b, b < 256 → aff' (aff b) = b := by decide +kernel
theorem sb_lt (a : Nat) : sb a < 256 := affF_lt _ 5 (inv_lt a)
/-- The back box. -/
def bs (s : Nat) : Nat := inv (aff' s)
theorem bs_lt (s : Nat) : bs s < 256 := inv_lt _
theorem sb_bs (s : Nat) (hs : s < 256) : sb (bs s) = s := by
  unfold sb bs
  rw [inv_inv _ (aff'_lt s hs), aff_aff' s hs]
theorem bs_sb (a : Nat) (ha : a < 256) : bs (sb a) = a := by
  unfold sb bs
  rw [aff'_aff _ (inv_lt a), inv_inv a ha]
theorem sb_zero : sb 0 = 99 := by
  unfold sb
  rw [inv_zero]
  decide +kernel

/-- The reference's bits. -/
def bitAt (b k : Nat) : Nat := (99 / 2 ^ k % 2 + b / 2 ^ k % 2 + b / 2 ^ ((k + 4) % 8) % 2 + b / 2 ^ ((k + 5) % 8) % 2 + b / 2 ^ ((k + 6) % 8) % 2 + b / 2 ^ ((k + 7) % 8) % 2) % 2
def rbF (b : Nat) : Nat → Nat
  | 0 => 0
  | k + 1 => rbF b k ||| bitAt b k * 2 ^ k
theorem rb_aff : ∀ b, b < 256 → rbF b 8 = aff b := by decide +kernel

/-- The way about the field: powers of 3, and of its inverse. -/
theorem three : gm 3 246 = 1 := by decide +kernel
theorem pow_pair (k : Nat) : inv (gpow 3 k) = gpow 246 k := by
  refine (inv_uniq _ _ (gpow_lt 3 k) (gpow_lt 246 k) ?_).symm
  induction k with
  | zero => decide +kernel
  | succ k ih =>
    show gm (gm (gpow 3 k) 3) (gm (gpow 246 k) 246) = 1
    have h3 := gpow_lt 3 k
    have h6 := gpow_lt 246 k
    rw [gm_comm (gpow 246 k) 246 h6 (by omega), gm_assoc _ _ _ (gm_lt _ _ h3) (by omega) h6, ← gm_assoc (gpow 3 k) 3 246 h3 (by omega) (by omega), three, gm_one _ h3, ih]
/-- Which bytes were met behind k rounds, as a number's bits. -/
def metF : Nat → Nat × Nat
  | 0 => (1, 0)
  | k + 1 => (gm (metF k).1 3, (metF k).2 ||| 2 ^ gm (metF k).1 3)
def metL : Nat → Nat → Nat → Nat
  | 0, _, m => m
  | k + 1, p, m => metL k (gm p 3) (m ||| 2 ^ gm p 3)
theorem metF_pow (k : Nat) : (metF k).1 = gpow 3 k := by
  induction k with
  | zero => rfl
  | succ k ih =>
    show gm (metF k).1 3 = gm (gpow 3 k) 3
    rw [ih]
theorem metL_metF (k : Nat) : ∀ j, metL k (metF j).1 (metF j).2 = (metF (j + k)).2 := by
  induction k with
  | zero => intro j; rfl
  | succ k ih =>
    intro j
    rw [show j + (k + 1) = j + 1 + k by omega, ← ih (j + 1)]
    rfl
theorem met_bit (k : Nat) : ∀ a, (metF k).2.testBit a = true → ∃ j, j < k ∧ gpow 3 (j + 1) = a := by
  induction k with
  | zero => intro a h; simp [metF] at h
  | succ k ih =>
    intro a h
    have e : (metF (k + 1)).2 = (metF k).2 ||| 2 ^ gm (metF k).1 3 := rfl
    rw [e, Nat.testBit_or, Bool.or_eq_true] at h
    rcases h with h | h
    · obtain ⟨j, hj, hg⟩ := ih a h
      exact ⟨j, by omega, hg⟩
    · rw [Nat.testBit_two_pow] at h
      refine ⟨k, by omega, ?_⟩
      show gm (gpow 3 k) 3 = a
      rw [← metF_pow]
      simpa using h
theorem met_all : metL 255 1 0 = 2 ^ 256 - 2 := by decide +kernel
theorem bits_all : ∀ a, a < 256 → a ≠ 0 → (2 ^ 256 - 2 : Nat).testBit a = true := by decide +kernel
theorem met_every (a : Nat) (ha : a < 256) (h : a ≠ 0) : ∃ j, j < 255 ∧ gpow 3 (j + 1) = a := by
  refine met_bit 255 a ?_
  have e : (metF 255).2 = metL 255 1 0 := (by have := metL_metF 255 0; rw [Nat.zero_add] at this; exact this.symm)
  rw [e, met_all]
  exact bits_all a ha h
end Fld
