/-
  Plain mathematics, no program in sight: products over the bits of natural numbers, for any linear step T ('times x').
-/
namespace Gal

/-- The product: for each bit of b that is set, a moved on so often. 'k' bits of b are looked at. -/
def mul (T : Nat → Nat) : Nat → Nat → Nat → Nat
  | 0, _, _ => 0
  | k + 1, a, b => (if b % 2 = 1 then a else 0) ^^^ mul T k (T a) (b / 2)

/-- A step that is linear over '^' and stays below 2^n. -/
structure Lin (n : Nat) (T : Nat → Nat) : Prop where
  lt : ∀ a, a < 2 ^ n → T a < 2 ^ n
  xor : ∀ a b, a < 2 ^ n → b < 2 ^ n → T (a ^^^ b) = T a ^^^ T b

def iter (T : Nat → Nat) : Nat → Nat → Nat
  | 0, a => a
  | k + 1, a => T (iter T k a)

theorem iter_comm (T : Nat → Nat) (k a : Nat) : iter T k (T a) = T (iter T k a) := by
  induction k with
  | zero => rfl
  | succ k ih => simp [iter, ih]
theorem iter_add (T : Nat → Nat) (i j a : Nat) : iter T i (iter T j a) = iter T (i + j) a := by
  induction i with
  | zero => simp [iter]
  | succ i ih => rw [show i + 1 + j = (i + j) + 1 by omega]; simp [iter, ih]

variable {n : Nat} {T : Nat → Nat}

theorem Lin.zero (h : Lin n T) : T 0 = 0 := by
  have := h.xor 0 0 (Nat.two_pow_pos n) (Nat.two_pow_pos n)
  simpa using this
theorem Lin.iter (h : Lin n T) (k : Nat) : Lin n (iter T k) := by
  induction k with
  | zero => exact ⟨fun a ha => ha, fun a b _ _ => rfl⟩
  | succ k ih => exact ⟨fun a ha => h.lt _ (ih.lt a ha), fun a b ha hb => by
      show T (Gal.iter T k (a ^^^ b)) = T (Gal.iter T k a) ^^^ T (Gal.iter T k b)
      rw [ih.xor a b ha hb, h.xor _ _ (ih.lt a ha) (ih.lt b hb)]⟩

theorem xor4 (a b c d : Nat) : (a ^^^ b) ^^^ (c ^^^ d) = (a ^^^ c) ^^^ (b ^^^ d) := by
  rw [Nat.xor_assoc, Nat.xor_assoc, ← Nat.xor_assoc b c d, Nat.xor_comm b c, Nat.xor_assoc c b d]

theorem mul_lt (h : Lin n T) (k : Nat) : ∀ a b, a < 2 ^ n → mul T k a b < 2 ^ n := by
  induction k with
  | zero => intro a b _; exact Nat.two_pow_pos n
  | succ k ih =>
    intro a b ha
    refine Nat.xor_lt_two_pow ?_ (ih _ _ (h.lt a ha))
    split
    · exact ha
    · exact Nat.two_pow_pos n
theorem mul_zero_left (h : Lin n T) (k : Nat) : ∀ b, mul T k 0 b = 0 := by
  induction k with
  | zero => intro b; rfl
  | succ k ih => intro b; simp [mul, h.zero, ih]
theorem mul_zero_right (k : Nat) : ∀ a, mul T k a 0 = 0 := by
  induction k with
  | zero => intro b; rfl
  | succ k ih => intro a; simp [mul, ih]
theorem mul_xor_left (h : Lin n T) (k : Nat) : ∀ a a' b, a < 2 ^ n → a' < 2 ^ n → mul T k (a ^^^ a') b = mul T k a b ^^^ mul T k a' b := by
  induction k with
  | zero => intro a a' b _ _; simp [mul]
  | succ k ih =>
    intro a a' b ha ha'
    simp only [mul, h.xor a a' ha ha']
    rw [ih _ _ _ (h.lt a ha) (h.lt a' ha')]
    split
    · exact xor4 _ _ _ _
    · simp
theorem xor_mod2 (a b : Nat) : (a ^^^ b) % 2 = (a % 2 + b % 2) % 2 := by
  have h := Nat.testBit_xor a b 0
  simp only [Nat.testBit_zero] at h
  rcases Nat.mod_two_eq_zero_or_one a with ha | ha <;> rcases Nat.mod_two_eq_zero_or_one b with hb | hb <;>
    rcases Nat.mod_two_eq_zero_or_one (a ^^^ b) with hc | hc <;> simp [ha, hb, hc] at h ⊢
theorem xor_div2 (a b : Nat) : (a ^^^ b) / 2 = a / 2 ^^^ b / 2 := by
  apply Nat.eq_of_testBit_eq
  intro i
  simp [← Nat.testBit_add_one, Nat.testBit_xor]
theorem mul_xor_right (h : Lin n T) (k : Nat) : ∀ a b b', a < 2 ^ n → mul T k a (b ^^^ b') = mul T k a b ^^^ mul T k a b' := by
  induction k with
  | zero => intro a b b' _; simp [mul]
  | succ k ih =>
    intro a b b' ha
    simp only [mul, xor_div2]
    rw [ih _ _ _ (h.lt a ha), xor_mod2]
    rcases Nat.mod_two_eq_zero_or_one b with hb | hb <;> rcases Nat.mod_two_eq_zero_or_one b' with hb' | hb' <;> simp [hb, hb']
    · rw [← Nat.xor_assoc, ← Nat.xor_assoc, Nat.xor_comm a]
    · rw [Nat.xor_assoc]
    · rw [xor4]; simp
theorem mul_T_left (h : Lin n T) (k : Nat) : ∀ a b, a < 2 ^ n → mul T k (T a) b = T (mul T k a b) := by
  induction k with
  | zero => intro a b _; simp [mul, h.zero]
  | succ k ih =>
    intro a b ha
    have hlt : (if b % 2 = 1 then a else 0) < 2 ^ n := by
      split
      · exact ha
      · exact Nat.two_pow_pos n
    simp only [mul]
    rw [ih _ _ (h.lt a ha), h.xor _ _ hlt (mul_lt h k _ _ (h.lt a ha)), ih _ _ ha]
    by_cases hb : b % 2 = 1 <;> simp [hb, h.zero]
theorem mul_iter_left (h : Lin n T) (k i a b : Nat) (ha : a < 2 ^ n) : mul T k (iter T i a) b = iter T i (mul T k a b) := by
  induction i with
  | zero => rfl
  | succ i ih =>
    show mul T k (T (iter T i a)) b = T (iter T i (mul T k a b))
    rw [mul_T_left h k _ _ ((h.iter i).lt a ha), ih]
theorem mul_pow (h : Lin n T) (k : Nat) : ∀ (i a : Nat), a < 2 ^ n → i < k → mul T k a (2 ^ i) = iter T i a := by
  induction k with
  | zero => intro i a _ hi; omega
  | succ k ih =>
    intro i a ha hi
    cases i with
    | zero =>
      show (if 1 % 2 = 1 then a else 0) ^^^ mul T k (T a) (1 / 2) = a
      have h0 : (1 : Nat) / 2 = 0 := by omega
      rw [h0, mul_zero_right]
      simp
    | succ i =>
      have e1 : 2 ^ (i + 1) % 2 = 0 := by rw [Nat.pow_succ]; omega
      have e2 : 2 ^ (i + 1) / 2 = 2 ^ i := by rw [Nat.pow_succ]; omega
      simp only [mul, e1, e2]
      rw [ih i _ (h.lt a ha) (by omega), iter_comm]
      simp [iter]

/-- What is linear is known by what it makes of the single bits. -/
theorem ext_pows (f g : Nat → Nat) (hf0 : f 0 = 0) (hg0 : g 0 = 0) : ∀ k : Nat,
    (∀ a b, a < 2 ^ k → b < 2 ^ k → f (a ^^^ b) = f a ^^^ f b) → (∀ a b, a < 2 ^ k → b < 2 ^ k → g (a ^^^ b) = g a ^^^ g b) →
    (∀ i, i < k → f (2 ^ i) = g (2 ^ i)) → ∀ a, a < 2 ^ k → f a = g a := by
  intro k
  induction k with
  | zero => intro _ _ _ a ha; obtain rfl : a = 0 := by omega
            rw [hf0, hg0]
  | succ k ih =>
    intro hf hg hp a ha
    have hpw : 2 ^ (k + 1) = 2 * 2 ^ k := by rw [Nat.pow_succ]; omega
    have ih' := ih (fun a b h1 h2 => hf a b (by omega) (by omega)) (fun a b h1 h2 => hg a b (by omega) (by omega)) (fun i hi => hp i (by omega))
    by_cases hlt : a < 2 ^ k
    · exact ih' a hlt
    · have e : a = 2 ^ k ^^^ (a - 2 ^ k) := by
        have := Nat.two_pow_add_eq_or_of_lt (i := k) (b := a - 2 ^ k) (by omega) 1
        apply Nat.eq_of_testBit_eq
        intro i
        rw [Nat.testBit_xor]
        have e2 : a = 2 ^ k * 1 + (a - 2 ^ k) := by omega
        by_cases hik : i = k
        · subst hik
          rw [Nat.testBit_two_pow_self, Nat.testBit_lt_two_pow (show a - 2 ^ i < 2 ^ i by omega)]
          rw [e2, Nat.testBit_two_pow_mul_add _ (show a - 2 ^ i < 2 ^ i by omega)]
          simp
        · rw [Nat.testBit_two_pow_of_ne (fun h => hik h.symm)]
          conv => lhs; rw [e2, Nat.testBit_two_pow_mul_add _ (show a - 2 ^ k < 2 ^ k by omega)]
          by_cases hik2 : i < k
          · simp [hik2]
          · simp only [hik2, if_false]
            rw [Nat.testBit_lt_two_pow (show a - 2 ^ k < 2 ^ i from Nat.lt_of_lt_of_le (show a - 2 ^ k < 2 ^ k by omega) (Nat.pow_le_pow_right (by omega) (by omega)))]
            have : i - k ≠ 0 := by omega
            obtain ⟨m, hm⟩ : ∃ m, i - k = m + 1 := ⟨i - k - 1, by omega⟩
            rw [hm, Nat.testBit_add_one]
            simp
      rw [e, hf _ _ (by omega) (by omega), hg _ _ (by omega) (by omega), hp k (by omega), ih' _ (by omega)]

/-- The bits of the field's base are what comes of 1, moved on. -/
structure Field (n : Nat) (T : Nat → Nat) : Prop where
  lin : Lin n T
  base : ∀ i, i < n → iter T i 1 = 2 ^ i
  pos : 0 < n

theorem Field.one_lt (h : Field n T) : 1 < 2 ^ n := Nat.one_lt_two_pow (by have := h.pos; omega)
theorem mul_comm (h : Field n T) (a b : Nat) (ha : a < 2 ^ n) (hb : b < 2 ^ n) : mul T n a b = mul T n b a := by
  have hbase : ∀ i j, i < n → j < n → mul T n (2 ^ i) (2 ^ j) = mul T n (2 ^ j) (2 ^ i) := by
    intro i j hi hj
    rw [mul_pow h.lin n j _ (Nat.pow_lt_pow_right (by omega) hi) hj, mul_pow h.lin n i _ (Nat.pow_lt_pow_right (by omega) hj) hi, ← h.base i hi, ← h.base j hj, iter_add, iter_add, Nat.add_comm]
  have h1 : ∀ i, i < n → ∀ a, a < 2 ^ n → mul T n a (2 ^ i) = mul T n (2 ^ i) a := by
    intro i hi
    have hi2 : 2 ^ i < 2 ^ n := Nat.pow_lt_pow_right (by omega) hi
    exact ext_pows (fun a => mul T n a (2 ^ i)) (fun a => mul T n (2 ^ i) a) (mul_zero_left h.lin n _) (mul_zero_right n _) n (fun a b ha hb => mul_xor_left h.lin n a b _ ha hb) (fun a b _ _ => mul_xor_right h.lin n _ a b hi2) (fun j hj => hbase j i hj hi)
  exact ext_pows (fun b => mul T n a b) (fun b => mul T n b a) (mul_zero_right n _) (mul_zero_left h.lin n _) n (fun x y _ _ => mul_xor_right h.lin n a x y ha) (fun x y hx hy => mul_xor_left h.lin n x y a hx hy) (fun i hi => h1 i hi a ha) b hb
theorem mul_assoc (h : Field n T) (a b c : Nat) (ha : a < 2 ^ n) (hb : b < 2 ^ n) (hc : c < 2 ^ n) : mul T n a (mul T n b c) = mul T n (mul T n a b) c := by
  have hab : mul T n a b < 2 ^ n := mul_lt h.lin n a b ha
  refine ext_pows (fun c => mul T n a (mul T n b c)) (fun c => mul T n (mul T n a b) c) ?_ (mul_zero_right n _) n ?_ (fun x y _ _ => mul_xor_right h.lin n _ x y hab) ?_ c hc
  · show mul T n a (mul T n b 0) = 0
    rw [mul_zero_right, mul_zero_right]
  · intro x y hx hy
    show mul T n a (mul T n b (x ^^^ y)) = _
    rw [mul_xor_right h.lin n b x y hb, mul_xor_right h.lin n a _ _ ha]
  · intro i hi
    show mul T n a (mul T n b (2 ^ i)) = mul T n (mul T n a b) (2 ^ i)
    rw [mul_pow h.lin n i _ hb hi, mul_pow h.lin n i _ hab hi]
    have hi1 : iter T i b < 2 ^ n := (h.lin.iter i).lt b hb
    rw [mul_comm h a _ ha hi1, mul_iter_left h.lin n i b a hb, mul_comm h b a hb ha]
theorem mul_one (h : Field n T) (a : Nat) (ha : a < 2 ^ n) : mul T n a 1 = a := by
  have := mul_pow h.lin n 0 a ha h.pos
  simpa [iter] using this
theorem one_mul (h : Field n T) (a : Nat) (ha : a < 2 ^ n) : mul T n 1 a = a := by
  rw [mul_comm h 1 a h.one_lt ha, mul_one h a ha]

end Gal
