/-
  Plain mathematics of the byte field of 2^8 elements: its product as a loop over bits and by bits, powers, inverses.
-/
import Derived.Test.YtnojbjconiddoaaGal
namespace Fld

/-- One step on: times x. -/
def xt (a : Nat) : Nat := if a / 128 % 2 = 1 then (a * 2 % 256) ^^^ 27 else a * 2 % 256
/-- The product as a loop gathers it. -/
def gmF : Nat → Nat → Nat → Nat → Nat
  | 0, _, _, p => p
  | k + 1, a, b, p => gmF k (xt a) (b / 2) (if b % 2 = 1 then p ^^^ a else p)
def gm (a b : Nat) : Nat := gmF 8 a b 0

theorem xt_lt (a : Nat) : xt a < 256 := by
  unfold xt
  split
  · exact Nat.xor_lt_two_pow (n := 8) (by omega) (by omega)
  · omega
theorem gmF_zero (k : Nat) : ∀ a p, gmF k a 0 p = p := by
  induction k with
  | zero => intro a p; rfl
  | succ k ih => intro a p; simp [gmF, ih]
theorem gmF_even (k a b p : Nat) (h : b % 2 = 0) : gmF (k + 1) a b p = gmF k (xt a) (b / 2) p := by simp [gmF, h]
theorem gmF_odd (k a b p : Nat) (h : b % 2 = 1) : gmF (k + 1) a b p = gmF k (xt a) (b / 2) (p ^^^ a) := by simp [gmF, h]

theorem gmF_mul (k : Nat) : ∀ a b p, gmF k a b p = p ^^^ Gal.mul xt k a b := by
  induction k with
  | zero => intro a b p; simp [gmF, Gal.mul]
  | succ k ih =>
    intro a b p
    simp only [gmF, Gal.mul, ih]
    split
    · rw [Nat.xor_assoc]
    · simp
theorem gm_mul (a b : Nat) : gm a b = Gal.mul xt 8 a b := by
  unfold gm
  rw [gmF_mul]
  simp
theorem bit7 (a : Nat) : (a / 128 % 2 = 1) = (a.testBit 7 = true) := by
  rw [Nat.testBit_eq_decide_div_mod_eq]
  simp
theorem mul2_xor (a b : Nat) : (a ^^^ b) * 2 % 256 = (a * 2 % 256) ^^^ (b * 2 % 256) := by
  have h1 : (a ^^^ b) * 2 = a * 2 ^^^ b * 2 := by
    have := Nat.shiftLeft_xor_distrib (a := a) (b := b) (i := 1)
    simpa [Nat.shiftLeft_eq] using this
  rw [h1]
  have := Nat.xor_mod_two_pow (a := a * 2) (b := b * 2) (n := 8)
  exact this
theorem xt_lin : Gal.Lin 8 xt := by
  refine ⟨fun a _ => xt_lt a, fun a b _ _ => ?_⟩
  unfold xt
  simp only [bit7, mul2_xor, Nat.testBit_xor]
  rcases h1 : a.testBit 7 <;> rcases h2 : b.testBit 7 <;> simp
  · rw [Nat.xor_assoc]
  · rw [Nat.xor_assoc, Nat.xor_assoc, Nat.xor_comm 27]
  · rw [Gal.xor4]; simp
theorem fld : Gal.Field 8 xt := ⟨xt_lin, by decide +kernel, by omega⟩

theorem gm_lt (a b : Nat) (ha : a < 256) : gm a b < 256 := by rw [gm_mul]; exact Gal.mul_lt xt_lin 8 a b ha
theorem gm_comm (a b : Nat) (ha : a < 256) (hb : b < 256) : gm a b = gm b a := by rw [gm_mul, gm_mul]; exact Gal.mul_comm fld a b ha hb
theorem gm_assoc (a b c : Nat) (ha : a < 256) (hb : b < 256) (hc : c < 256) : gm a (gm b c) = gm (gm a b) c := by
  simp only [gm_mul]; exact Gal.mul_assoc fld a b c ha hb hc
theorem gm_xor (a b c : Nat) (ha : a < 256) : gm a (b ^^^ c) = gm a b ^^^ gm a c := by
  simp only [gm_mul]; exact Gal.mul_xor_right xt_lin 8 a b c ha
theorem gm_one (a : Nat) (ha : a < 256) : gm a 1 = a := by rw [gm_mul]; exact Gal.mul_one fld a ha
theorem gm_zero (a : Nat) : gm a 0 = 0 := by rw [gm_mul]; exact Gal.mul_zero_right 8 a

/-! The reference's way: the product of polynomials, then what is too much is taken away. -/
def clF : Nat → Nat → Nat → Nat
  | 0, _, _ => 0
  | k + 1, a, b => if b / 2 ^ k % 2 = 1 then clF k a b ^^^ (a * 2 ^ k) else clF k a b
def rdF : Nat → Nat → Nat
  | 0, p => p
  | k + 1, p => rdF k (if p / 2 ^ (k + 8) % 2 = 1 then p ^^^ (283 * 2 ^ k) else p)
def refT (a b : Nat) : Nat := rdF 8 (clF 8 a b) % 256

theorem clF_t (k a b : Nat) (h : b / 2 ^ k % 2 = 1) : clF (k + 1) a b = clF k a b ^^^ (a * 2 ^ k) := by simp [clF, h]
theorem clF_f (k a b : Nat) (h : b / 2 ^ k % 2 = 0) : clF (k + 1) a b = clF k a b := by simp [clF, h]
theorem rdF_t (k p : Nat) (h : p / 2 ^ (k + 8) % 2 = 1) : rdF (k + 1) p = rdF k (p ^^^ (283 * 2 ^ k)) := by simp [rdF, h]
theorem rdF_f (k p : Nat) (h : p / 2 ^ (k + 8) % 2 = 0) : rdF (k + 1) p = rdF k p := by simp [rdF, h]
theorem pow_le7 (k : Nat) (h : k < 8) : 2 ^ k ≤ 128 := Nat.pow_le_pow_right (n := 2) (by omega) (show k ≤ 7 by omega)
theorem shl_lt (a k : Nat) (ha : a < 256) (h : k < 8) : a * 2 ^ k < 32768 := by
  have := Nat.mul_le_mul (show a ≤ 255 by omega) (pow_le7 k h)
  omega
theorem shl283_lt (k : Nat) (h : k < 8) : 283 * 2 ^ k < 65536 := by
  have := pow_le7 k h
  omega
theorem clF_lt (a b : Nat) (ha : a < 256) (k : Nat) (hk : k ≤ 8) : clF k a b < 32768 := by
  induction k with
  | zero => simp [clF]
  | succ k ih =>
    unfold clF
    split
    · exact Nat.xor_lt_two_pow (n := 15) (ih (by omega)) (shl_lt a k ha (by omega))
    · exact ih (by omega)

theorem bitk (k a : Nat) : (a / 2 ^ k % 2 = 1) = (a.testBit k = true) := by
  rw [Nat.testBit_eq_decide_div_mod_eq]
  simp
theorem shl_xor (a b k : Nat) : (a ^^^ b) * 2 ^ k = a * 2 ^ k ^^^ b * 2 ^ k := by
  have := Nat.shiftLeft_xor_distrib (a := a) (b := b) (i := k)
  simpa [Nat.shiftLeft_eq] using this
theorem clF_xor_right (k a b c : Nat) : clF k a (b ^^^ c) = clF k a b ^^^ clF k a c := by
  induction k with
  | zero => simp [clF]
  | succ k ih =>
    simp only [clF, bitk, Nat.testBit_xor, ih]
    rcases b.testBit k <;> rcases c.testBit k <;> simp
    · rw [Nat.xor_assoc]
    · rw [Nat.xor_assoc, Nat.xor_assoc, Nat.xor_comm (a * 2 ^ k)]
    · rw [Gal.xor4]; simp
theorem clF_xor_left (k a b c : Nat) : clF k (a ^^^ b) c = clF k a c ^^^ clF k b c := by
  induction k with
  | zero => simp [clF]
  | succ k ih =>
    simp only [clF, ih, shl_xor]
    split
    · rw [Gal.xor4]
    · rfl
theorem clF_zero_left (k b : Nat) : clF k 0 b = 0 := by
  induction k with
  | zero => rfl
  | succ k ih => simp [clF, ih]
theorem clF_zero_right (k a : Nat) : clF k a 0 = 0 := by
  induction k with
  | zero => rfl
  | succ k ih => simp [clF, ih]
theorem rdF_xor (k : Nat) : ∀ p q, rdF k (p ^^^ q) = rdF k p ^^^ rdF k q := by
  induction k with
  | zero => intro p q; rfl
  | succ k ih =>
    intro p q
    simp only [rdF, bitk, Nat.testBit_xor, ← ih]
    congr 1
    rcases p.testBit (k + 8) <;> rcases q.testBit (k + 8) <;> simp
    · rw [Nat.xor_assoc]
    · rw [Nat.xor_assoc, Nat.xor_assoc, Nat.xor_comm (283 * 2 ^ k)]
    · rw [Gal.xor4]; simp
theorem rdF_zero (k : Nat) : rdF k 0 = 0 := by
  induction k with
  | zero => rfl
  | succ k ih => simp [rdF, ih]
theorem mod256_xor (a b : Nat) : (a ^^^ b) % 256 = (a % 256) ^^^ (b % 256) := Nat.xor_mod_two_pow (n := 8)
theorem refT_gm (a b : Nat) (ha : a < 256) (hb : b < 256) : refT a b = gm a b := by
  refine Gal.ext_pows (fun b => refT a b) (fun b => gm a b) (by simp [refT, clF_zero_right, rdF_zero]) (gm_zero a) 8 (fun x y _ _ => by simp [refT, clF_xor_right, rdF_xor, mod256_xor]) (fun x y _ _ => gm_xor a x y ha) ?_ b hb
  intro i hi
  refine Gal.ext_pows (fun a => refT a (2 ^ i)) (fun a => gm a (2 ^ i)) (by simp [refT, clF_zero_left, rdF_zero]) (by rw [gm_mul]; exact Gal.mul_zero_left xt_lin 8 _) 8 (fun x y _ _ => by simp [refT, clF_xor_left, rdF_xor, mod256_xor]) (fun x y hx hy => by simp only [gm_mul]; exact Gal.mul_xor_left xt_lin 8 x y _ hx hy) ?_ a ha
  intro j hj
  exact (by decide +kernel : ∀ i, i < 8 → ∀ j, j < 8 → refT (2 ^ j) (2 ^ i) = gm (2 ^ j) (2 ^ i)) i hi j hj
end Fld
