/-
  The document's way of products in plain Lean: rows of bits, the product of polynomials, what is too much taken away; no program in sight.
-/
import Derived.Test.YtnojbjconiddoaaGh3
namespace Gh
open Go.Proofs.Ytnojbjconiddoaa

def b01 (b : Bool) : Nat := if b then 1 else 0
theorem b01_le (b : Bool) : b01 b ≤ 1 := by cases b <;> decide
def bitsL (N n : Nat) : List Nat := (List.range n).map fun j => b01 (N.testBit j)
theorem bitsL_len (N n : Nat) : (bitsL N n).length = n := by simp [bitsL]
theorem bitsL_at (N n j : Nat) (h : j < n) : (bitsL N n)[j]? = some (b01 (N.testBit j)) := by
  unfold bitsL
  rw [List.getElem?_map, List.getElem?_range h]
  rfl
theorem bitsL_zero (n : Nat) : bitsL 0 n = List.replicate n 0 := by
  apply List.ext_getElem?
  intro j
  by_cases h : j < n
  · rw [bitsL_at 0 n j h, List.getElem?_replicate, if_pos h, Nat.zero_testBit]; rfl
  · rw [List.getElem?_eq_none (by rw [bitsL_len]; omega), List.getElem?_eq_none (by simp; omega)]
theorem bit_mul_pow (c j i : Nat) (hc : c ≤ 1) : (c * 2 ^ j).testBit i = (decide (i = j) && decide (c = 1)) := by
  rcases (show c = 0 ∨ c = 1 by omega) with rfl | rfl
  · simp
  · rw [Nat.one_mul]
    by_cases h : i = j
    · subst h; simp
    · rw [Nat.testBit_two_pow_of_ne (fun e => h e.symm)]; simp [h]
theorem bitsL_xor (N n j c : Nat) (h : j < n) (hc : c ≤ 1) : (bitsL N n).set j (b01 (N.testBit j) ^^^ c) = bitsL (N ^^^ c * 2 ^ j) n := by
  apply List.ext_getElem?
  intro i
  rw [List.getElem?_set]
  by_cases hi : i < n
  · rw [bitsL_at (N ^^^ c * 2 ^ j) n i hi, Nat.testBit_xor, bit_mul_pow c j i hc]
    by_cases hij : j = i
    · subst hij
      rw [if_pos rfl, if_pos (by rw [bitsL_len]; exact h)]
      refine congrArg some ?_
      rcases (show c = 0 ∨ c = 1 by omega) with rfl | rfl <;> cases N.testBit j <;> simp [b01]
    · rw [if_neg hij, bitsL_at N n i hi]
      have : ¬ i = j := fun e => hij e.symm
      simp [this]
  · rw [if_neg (by omega), List.getElem?_eq_none (by rw [bitsL_len]; omega), List.getElem?_eq_none (by rw [bitsL_len]; omega)]
theorem mod_succ (B k : Nat) : B % 2 ^ (k + 1) = B % 2 ^ k ^^^ b01 (B.testBit k) * 2 ^ k := by
  apply Nat.eq_of_testBit_eq
  intro i
  rw [Nat.testBit_xor, Nat.testBit_mod_two_pow, Nat.testBit_mod_two_pow, bit_mul_pow _ _ _ (b01_le _)]
  by_cases h1 : i < k
  · have h2 : i < k + 1 := by omega
    have h3 : ¬ i = k := by omega
    simp [h1, h2, h3]
  · by_cases h3 : i = k
    · subst h3
      cases B.testBit i <;> simp [b01]
    · have h2 : ¬ i < k + 1 := by omega
      simp [h1, h2, h3]
theorem xor_shl (a b i : Nat) : (a ^^^ b) * 2 ^ i = a * 2 ^ i ^^^ b * 2 ^ i := by
  have := Nat.shiftLeft_xor_distrib (a := a) (b := b) (i := i)
  simpa [Nat.shiftLeft_eq] using this
/-- One more bit of the second. -/
theorem inner_step (N B i k : Nat) : N ^^^ (B % 2 ^ k) * 2 ^ i ^^^ b01 (B.testBit k) * 2 ^ (i + k) = N ^^^ (B % 2 ^ (k + 1)) * 2 ^ i := by
  rw [mod_succ, xor_shl, ← Nat.xor_assoc, Nat.mul_assoc, ← Nat.pow_add, Nat.add_comm k i]
def clG (A B : Nat) : Nat → Nat
  | 0 => 0
  | i + 1 => clG A B i ^^^ (if A.testBit i then B * 2 ^ i else 0)
def rdStepG (N k : Nat) : Nat := if N.testBit (k + 128) then N ^^^ 340282366920938463463374607431768211591 * 2 ^ k else N
def rdG : Nat → Nat → Nat
  | 0, N => N
  | k + 1, N => rdG k (rdStepG N k)
theorem rdStep_xor (a b k : Nat) : rdStepG (a ^^^ b) k = rdStepG a k ^^^ rdStepG b k := by
  unfold rdStepG
  rw [Nat.testBit_xor]
  cases a.testBit (k + 128) <;> cases b.testBit (k + 128) <;> simp
  · rw [Nat.xor_assoc]
  · rw [Nat.xor_assoc, Nat.xor_assoc, Nat.xor_comm (340282366920938463463374607431768211591 * 2 ^ k)]
  · rw [Gal.xor4]; simp
theorem rdG_xor (k : Nat) : ∀ a b, rdG k (a ^^^ b) = rdG k a ^^^ rdG k b := by
  induction k with
  | zero => intro a b; rfl
  | succ k ih => intro a b; simp only [rdG]; rw [rdStep_xor, ih]
theorem rdG_zero (k : Nat) : rdG k 0 = 0 := by
  induction k with
  | zero => rfl
  | succ k ih => simp only [rdG]; rw [show rdStepG 0 k = 0 by simp [rdStepG], ih]
theorem rd_pows : ∀ m, m < 255 → rdG 128 (2 ^ m) = Gal.iter T m 1 := by decide +kernel
theorem rd_shl (B i : Nat) (hB : B < 2 ^ 128) (hi : i < 128) : rdG 128 (B * 2 ^ i) = Gal.iter T i B := by
  refine Gal.ext_pows (fun B => rdG 128 (B * 2 ^ i)) (fun B => Gal.iter T i B) ?_ ((lin.iter i).zero) 128 (fun x y _ _ => ?_) (fun x y hx hy => (lin.iter i).xor x y hx hy) (fun j hj => ?_) B hB
  · show rdG 128 (0 * 2 ^ i) = 0
    rw [Nat.zero_mul, rdG_zero]
  · show rdG 128 ((x ^^^ y) * 2 ^ i) = _
    rw [xor_shl, rdG_xor]
  · show rdG 128 (2 ^ j * 2 ^ i) = Gal.iter T i (2 ^ j)
    rw [← Nat.pow_add, rd_pows (j + i) (by omega), ← base j hj, Gal.iter_add, Nat.add_comm]
theorem rd_cl (A B : Nat) (hB : B < 2 ^ 128) : ∀ i, i ≤ 128 → rdG 128 (clG A B i) = Gal.mul T i B A := by
  intro i
  induction i with
  | zero => intro _; simp only [clG, Gal.mul]; exact rdG_zero 128
  | succ i ih =>
    intro h
    simp only [clG]
    rw [rdG_xor, ih (by omega), gmul_snoc i B A hB]
    congr 1
    split
    · exact rd_shl B i hB (by omega)
    · exact rdG_zero 128
theorem ref_mul (A B : Nat) (hB : B < 2 ^ 128) : rdG 128 (clG A B 128) = mul B A := rd_cl A B hB 128 (by omega)
end Gh
namespace Go.Proofs.Ytnojbjconiddoaa
/-- The bits of a block's bytes. -/
theorem beL_bit (n j t : Nat) (hj : j < 8) (ht : t < 8) : ((beL n 8 8).getD j 0).testBit t = n.testBit (8 * (7 - j) + t) := by
  unfold beL
  rw [List.getD_eq_getElem?_getD, List.getElem?_map, List.getElem?_range hj]
  simp only [Option.map_some, Option.getD_some]
  rw [show (256 : Nat) = 2 ^ 8 by decide, Nat.testBit_mod_two_pow, ← Nat.shiftRight_eq_div_pow, Nat.testBit_shiftRight]
  simp [ht]
theorem bytB_bit (N j t : Nat) (hj : j < 16) (ht : t < 8) : ((bytB N).getD j 0).testBit t = N.testBit (8 * j + (7 - t)) := by
  unfold bytB
  have hl := beL_length (Gh.hi N) 8 8
  by_cases h : j < 8
  · rw [List.getD_eq_getElem?_getD, List.getElem?_append_left (by omega), ← List.getD_eq_getElem?_getD, beL_bit _ _ _ h ht]
    unfold Gh.hi
    rw [Gh.two64, ← Nat.shiftRight_eq_div_pow, Nat.testBit_shiftRight, Gh.rv_bit]
    have h1 : 64 + (8 * (7 - j) + t) < 128 := by omega
    have h2 : 128 - 1 - (64 + (8 * (7 - j) + t)) = 8 * j + (7 - t) := by omega
    rw [h2]
    simp [h1]
  · rw [List.getD_eq_getElem?_getD, List.getElem?_append_right (by omega), ← List.getD_eq_getElem?_getD, hl, beL_bit _ _ _ (by omega) ht]
    unfold Gh.lo
    rw [Gh.two64, Nat.testBit_mod_two_pow, Gh.rv_bit]
    have h0 : 8 * (7 - (j - 8)) + t < 64 := by omega
    have h1 : 8 * (7 - (j - 8)) + t < 128 := by omega
    have h2 : 128 - 1 - (8 * (7 - (j - 8)) + t) = 8 * j + (7 - t) := by omega
    rw [h2]
    simp only [h0, h1, decide_true, Bool.true_and]
theorem div_bit (x t : Nat) : x / 2 ^ t % 2 = Gh.b01 (x.testBit t) := by
  have e : (x / 2 ^ t).testBit 0 = x.testBit t := by rw [← Nat.shiftRight_eq_div_pow, Nat.testBit_shiftRight, Nat.add_zero]
  rw [Nat.testBit_zero] at e
  rw [← e]
  rcases Nat.mod_two_eq_zero_or_one (x / 2 ^ t) with h | h <;> simp [h, Gh.b01]
theorem polB_bit (xs : List Nat) (hl : xs.length = 16) (hx : ∀ x ∈ xs, x < 256) (i y : Nat) (hi : i < 128) (hy : xs[i / 8]? = some y) : y / 2 ^ (7 - i % 8) % 2 = Gh.b01 ((polB xs).testBit i) := by
  rw [div_bit]
  have h := bytB_bit (polB xs) (i / 8) (7 - i % 8) (by omega) (by omega)
  rw [bytB_polB xs hl hx, List.getD_eq_getElem?_getD, hy, Option.getD_some] at h
  rw [h, show 8 * (i / 8) + (7 - (7 - i % 8)) = i by omega]
theorem bytB_high (N j t : Nat) (ht : 8 ≤ t) : ((bytB N).getD j 0).testBit t = false := by
  refine Nat.testBit_lt_two_pow (Nat.lt_of_lt_of_le (m := 2 ^ 8) ?_ (Nat.pow_le_pow_right (n := 2) (by omega) ht))
  rw [List.getD_eq_getElem?_getD]
  cases h : (bytB N)[j]? with
  | none => exact (by decide : 0 < 2 ^ 8)
  | some y => exact bytB_lt N y (List.mem_of_getElem? h)
/-- One more bit is laid into the bytes. -/
theorem lay_bit (M i c : Nat) (hM : M < 2 ^ i) (hi : i < 128) (hc : c ≤ 1) : ∃ y, (bytB M)[i / 8]? = some y ∧ (bytB M).set (i / 8) (y ||| c * 2 ^ (7 - i % 8)) = bytB (M ^^^ c * 2 ^ i) := by
  have hlen := bytB_len M
  have hlt : i / 8 < (bytB M).length := by omega
  obtain ⟨y, hy⟩ : ∃ y, (bytB M)[i / 8]? = some y := ⟨_, List.getElem?_eq_getElem hlt⟩
  have hyd : y = (bytB M).getD (i / 8) 0 := by rw [List.getD_eq_getElem?_getD, hy]; rfl
  refine ⟨y, hy, ?_⟩
  apply List.ext_getElem?
  intro j
  rw [List.getElem?_set]
  by_cases hj : j < 16
  · have e1 : ∀ N, (bytB N)[j]? = some ((bytB N).getD j 0) := fun N => by
      rw [List.getD_eq_getElem?_getD, List.getElem?_eq_getElem (by rw [bytB_len]; exact hj)]; rfl
    rw [e1 (M ^^^ c * 2 ^ i)]
    by_cases hij : i / 8 = j
    · rw [if_pos hij, if_pos hlt, hyd, hij]
      refine congrArg some ?_
      apply Nat.eq_of_testBit_eq
      intro t
      rw [Nat.testBit_or, Gh.bit_mul_pow c _ _ hc]
      by_cases ht : t < 8
      · rw [bytB_bit M _ t hj ht, bytB_bit (M ^^^ c * 2 ^ i) _ t hj ht, Nat.testBit_xor, Gh.bit_mul_pow c _ _ hc]
        by_cases h1 : 8 * j + (7 - t) = i
        · have h2 : t = 7 - i % 8 := by omega
          rw [h1, Nat.testBit_lt_two_pow hM]
          simp [h2]
        · have h2 : ¬ t = 7 - i % 8 := by omega
          simp [h1, h2]
      · have h3 : ¬ t = 7 - i % 8 := by omega
        rw [bytB_high M j t (by omega), bytB_high (M ^^^ c * 2 ^ i) j t (by omega)]
        simp [h3]
    · rw [if_neg hij, e1 M]
      refine congrArg some ?_
      apply Nat.eq_of_testBit_eq
      intro t
      by_cases ht : t < 8
      · rw [bytB_bit M j t hj ht, bytB_bit (M ^^^ c * 2 ^ i) j t hj ht, Nat.testBit_xor, Gh.bit_mul_pow c _ _ hc]
        have h1 : ¬ 8 * j + (7 - t) = i := by omega
        simp [h1]
      · rw [bytB_high M j t (by omega), bytB_high (M ^^^ c * 2 ^ i) j t (by omega)]
  · rw [if_neg (by omega), List.getElem?_eq_none (by rw [bytB_len]; omega), List.getElem?_eq_none (by rw [bytB_len]; omega)]
end Go.Proofs.Ytnojbjconiddoaa
