/-
  What the proof of GcmTurned rests on, part 1 of 10.
-/
import Derived.Laws.BitsAllLaws
import Derived.WalkKit
import Derived.Test.YtpeibkdcglkimaaRows
import Derived.WalkSpells
import Derived.WalkLawsBesides
import Derived.Lib.Hide
import Derived.Below
import Derived.Laws.OwnMore
import Derived.Deep.Draws
import Derived.Laws.Rows
import Derived.RegionTactic
import Derived.BigRegion
import Derived.StillTailTactics
import Derived.Deep.QuietTactic
import Derived.BigQuiet
import Derived.ProofKit
import Derived.OpenShut
import Derived.Laws.AppendOwn
import Derived.Laws.AppendOwnNone
import Derived.Laws.CopyOwn
import Derived.Recover
import Derived.Defers
import Derived.Deep.MidRow
import Derived.Laws.ResultCell
import Derived.Deep.RegionHeld3
import Derived.Maps.AppendAt
import Derived.Deep.DeepCutAuto
import Derived.Deep.AppendLies
import Derived.Deep.CutBlock
import Derived.Outline
import Derived.Deep.LoopGhost
import Derived.Deep.Cut
import Derived.Deep.CutRange
import Derived.ChangeKeysEq
import Derived.Laws.StructEq
import Derived.KernelRfl
namespace Gal

/-- The product: for each bit of b that is set, a moved on so often. 'k' bits of b are looked at. -/
def mul (T : Nat → Nat) : Nat → Nat → Nat → Nat
  | 0, _, _ => 0
  | k + 1, a, b => (if b % 2 = 1 then a else 0) ^^^ mul T k (T a) (b / 2)

/-- A step that is linear over '^' and stays below 2^n. -/
structure Lin (n : Nat) (T : Nat → Nat) : Prop where
  lt : ∀ a, a < 2 ^ n → T a < 2 ^ n
  xor : ∀ a b, a < 2 ^ n → b < 2 ^ n → T (a ^^^ b) = T a ^^^ T b

def iter (T : Nat → Nat) : Nat → Nat → Nat
  | 0, a => a
  | k + 1, a => T (iter T k a)

theorem iter_comm (T : Nat → Nat) (k a : Nat) : iter T k (T a) = T (iter T k a) := by
  induction k with
  | zero => rfl
  | succ k ih => simp [iter, ih]
theorem iter_add (T : Nat → Nat) (i j a : Nat) : iter T i (iter T j a) = iter T (i + j) a := by
  induction i with
  | zero => simp [iter]
  | succ i ih => rw [show i + 1 + j = (i + j) + 1 by omega]; simp [iter, ih]

variable {n : Nat} {T : Nat → Nat}

theorem Lin.zero (h : Lin n T) : T 0 = 0 := by
  have := h.xor 0 0 (Nat.two_pow_pos n) (Nat.two_pow_pos n)
  simpa using this
theorem Lin.iter (h : Lin n T) (k : Nat) : Lin n (iter T k) := by
  induction k with
  | zero => exact ⟨fun a ha => ha, fun a b _ _ => rfl⟩
  | succ k ih => exact ⟨fun a ha => h.lt _ (ih.lt a ha), fun a b ha hb => by
      show T (Gal.iter T k (a ^^^ b)) = T (Gal.iter T k a) ^^^ T (Gal.iter T k b)
      rw [ih.xor a b ha hb, h.xor _ _ (ih.lt a ha) (ih.lt b hb)]⟩

theorem xor4 (a b c d : Nat) : (a ^^^ b) ^^^ (c ^^^ d) = (a ^^^ c) ^^^ (b ^^^ d) := by
  rw [Nat.xor_assoc, Nat.xor_assoc, ← Nat.xor_assoc b c d, Nat.xor_comm b c, Nat.xor_assoc c b d]

theorem mul_lt (h : Lin n T) (k : Nat) : ∀ a b, a < 2 ^ n → mul T k a b < 2 ^ n := by
  induction k with
  | zero => intro a b _; exact Nat.two_pow_pos n
  | succ k ih =>
    intro a b ha
    refine Nat.xor_lt_two_pow ?_ (ih _ _ (h.lt a ha))
    split
    · exact ha
    · exact Nat.two_pow_pos n
theorem mul_zero_left (h : Lin n T) (k : Nat) : ∀ b, mul T k 0 b = 0 := by
  induction k with
  | zero => intro b; rfl
  | succ k ih => intro b; simp [mul, h.zero, ih]
theorem mul_zero_right (k : Nat) : ∀ a, mul T k a 0 = 0 := by
  induction k with
  | zero => intro b; rfl
  | succ k ih => intro a; simp [mul, ih]
theorem mul_xor_left (h : Lin n T) (k : Nat) : ∀ a a' b, a < 2 ^ n → a' < 2 ^ n → mul T k (a ^^^ a') b = mul T k a b ^^^ mul T k a' b := by
  induction k with
  | zero => intro a a' b _ _; simp [mul]
  | succ k ih =>
    intro a a' b ha ha'
    simp only [mul, h.xor a a' ha ha']
    rw [ih _ _ _ (h.lt a ha) (h.lt a' ha')]
    split
    · exact xor4 _ _ _ _
    · simp
theorem xor_mod2 (a b : Nat) : (a ^^^ b) % 2 = (a % 2 + b % 2) % 2 := by
  have h := Nat.testBit_xor a b 0
  simp only [Nat.testBit_zero] at h
  rcases Nat.mod_two_eq_zero_or_one a with ha | ha <;> rcases Nat.mod_two_eq_zero_or_one b with hb | hb <;>
    rcases Nat.mod_two_eq_zero_or_one (a ^^^ b) with hc | hc <;> simp [ha, hb, hc] at h ⊢
theorem xor_div2 (a b : Nat) : (a ^^^ b) / 2 = a / 2 ^^^ b / 2 := by
  apply Nat.eq_of_testBit_eq
  intro i
  simp [← Nat.testBit_add_one, Nat.testBit_xor]
theorem mul_xor_right (h : Lin n T) (k : Nat) : ∀ a b b', a < 2 ^ n → mul T k a (b ^^^ b') = mul T k a b ^^^ mul T k a b' := by
  induction k with
  | zero => intro a b b' _; simp [mul]
  | succ k ih =>
    intro a b b' ha
    simp only [mul, xor_div2]
    rw [ih _ _ _ (h.lt a ha), xor_mod2]
    rcases Nat.mod_two_eq_zero_or_one b with hb | hb <;> rcases Nat.mod_two_eq_zero_or_one b' with hb' | hb' <;> simp [hb, hb']
    · rw [← Nat.xor_assoc, ← Nat.xor_assoc, Nat.xor_comm a]
    · rw [Nat.xor_assoc]
    · rw [xor4]; simp
theorem mul_T_left (h : Lin n T) (k : Nat) : ∀ a b, a < 2 ^ n → mul T k (T a) b = T (mul T k a b) := by
  induction k with
  | zero => intro a b _; simp [mul, h.zero]
  | succ k ih =>
    intro a b ha
    have hlt : (if b % 2 = 1 then a else 0) < 2 ^ n := by
      split
      · exact ha
      · exact Nat.two_pow_pos n
    simp only [mul]
    rw [ih _ _ (h.lt a ha), h.xor _ _ hlt (mul_lt h k _ _ (h.lt a ha)), ih _ _ ha]
    by_cases hb : b % 2 = 1 <;> simp [hb, h.zero]
theorem mul_iter_left (h : Lin n T) (k i a b : Nat) (ha : a < 2 ^ n) : mul T k (iter T i a) b = iter T i (mul T k a b) := by
  induction i with
  | zero => rfl
  | succ i ih =>
    show mul T k (T (iter T i a)) b = T (iter T i (mul T k a b))
    rw [mul_T_left h k _ _ ((h.iter i).lt a ha), ih]
theorem mul_pow (h : Lin n T) (k : Nat) : ∀ (i a : Nat), a < 2 ^ n → i < k → mul T k a (2 ^ i) = iter T i a := by
  induction k with
  | zero => intro i a _ hi; omega
  | succ k ih =>
    intro i a ha hi
    cases i with
    | zero =>
      show (if 1 % 2 = 1 then a else 0) ^^^ mul T k (T a) (1 / 2) = a
      have h0 : (1 : Nat) / 2 = 0 := by omega
      rw [h0, mul_zero_right]
      simp
    | succ i =>
      have e1 : 2 ^ (i + 1) % 2 = 0 := by rw [Nat.pow_succ]; omega
      have e2 : 2 ^ (i + 1) / 2 = 2 ^ i := by rw [Nat.pow_succ]; omega
      simp only [mul, e1, e2]
      rw [ih i _ (h.lt a ha) (by omega), iter_comm]
      simp [iter]

/-- What is linear is known by what it makes of the single bits. -/
theorem ext_pows (f g : Nat → Nat) (hf0 : f 0 = 0) (hg0 : g 0 = 0) : ∀ k : Nat,
    (∀ a b, a < 2 ^ k → b < 2 ^ k → f (a ^^^ b) = f a ^^^ f b) → (∀ a b, a < 2 ^ k → b < 2 ^ k → g (a ^^^ b) = g a ^^^ g b) →
    (∀ i, i < k → f (2 ^ i) = g (2 ^ i)) → ∀ a, a < 2 ^ k → f a = g a := by
  intro k
  induction k with
  | zero => intro _ _ _ a ha; obtain rfl : a = 0 := by omega
            rw [hf0, hg0]
  | succ k ih =>
    intro hf hg hp a ha
    have hpw : 2 ^ (k + 1) = 2 * 2 ^ k := by rw [Nat.pow_succ]; omega
    have ih' := ih (fun a b h1 h2 => hf a b (by omega) (by omega)) (fun a b h1 h2 => hg a b (by omega) (by omega)) (fun i hi => hp i (by omega))
    by_cases hlt : a < 2 ^ k
    · exact ih' a hlt
    · have e : a = 2 ^ k ^^^ (a - 2 ^ k) := by
        have := Nat.two_pow_add_eq_or_of_lt (i := k) (b := a - 2 ^ k) (by omega) 1
        apply Nat.eq_of_testBit_eq
        intro i
        rw [Nat.testBit_xor]
        have e2 : a = 2 ^ k * 1 + (a - 2 ^ k) := by omega
        by_cases hik : i = k
        · subst hik
          rw [Nat.testBit_two_pow_self, Nat.testBit_lt_two_pow (show a - 2 ^ i < 2 ^ i by omega)]
          rw [e2, Nat.testBit_two_pow_mul_add _ (show a - 2 ^ i < 2 ^ i by omega)]
          simp
        · rw [Nat.testBit_two_pow_of_ne (fun h => hik h.symm)]
          conv => lhs; rw [e2, Nat.testBit_two_pow_mul_add _ (show a - 2 ^ k < 2 ^ k by omega)]
          by_cases hik2 : i < k
          · simp [hik2]
          · simp only [hik2, if_false]
            rw [Nat.testBit_lt_two_pow (show a - 2 ^ k < 2 ^ i from Nat.lt_of_lt_of_le (show a - 2 ^ k < 2 ^ k by omega) (Nat.pow_le_pow_right (by omega) (by omega)))]
            have : i - k ≠ 0 := by omega
            obtain ⟨m, hm⟩ : ∃ m, i - k = m + 1 := ⟨i - k - 1, by omega⟩
            rw [hm, Nat.testBit_add_one]
            simp
      rw [e, hf _ _ (by omega) (by omega), hg _ _ (by omega) (by omega), hp k (by omega), ih' _ (by omega)]

/-- The bits of the field's base are what comes of 1, moved on. -/
structure Field (n : Nat) (T : Nat → Nat) : Prop where
  lin : Lin n T
  base : ∀ i, i < n → iter T i 1 = 2 ^ i
  pos : 0 < n

theorem Field.one_lt (h : Field n T) : 1 < 2 ^ n := Nat.one_lt_two_pow (by have := h.pos; omega)
theorem mul_comm (h : Field n T) (a b : Nat) (ha : a < 2 ^ n) (hb : b < 2 ^ n) : mul T n a b = mul T n b a := by
  have hbase : ∀ i j, i < n → j < n → mul T n (2 ^ i) (2 ^ j) = mul T n (2 ^ j) (2 ^ i) := by
    intro i j hi hj
    rw [mul_pow h.lin n j _ (Nat.pow_lt_pow_right (by omega) hi) hj, mul_pow h.lin n i _ (Nat.pow_lt_pow_right (by omega) hj) hi, ← h.base i hi, ← h.base j hj, iter_add, iter_add, Nat.add_comm]
  have h1 : ∀ i, i < n → ∀ a, a < 2 ^ n → mul T n a (2 ^ i) = mul T n (2 ^ i) a := by
    intro i hi
    have hi2 : 2 ^ i < 2 ^ n := Nat.pow_lt_pow_right (by omega) hi
    exact ext_pows (fun a => mul T n a (2 ^ i)) (fun a => mul T n (2 ^ i) a) (mul_zero_left h.lin n _) (mul_zero_right n _) n (fun a b ha hb => mul_xor_left h.lin n a b _ ha hb) (fun a b _ _ => mul_xor_right h.lin n _ a b hi2) (fun j hj => hbase j i hj hi)
  exact ext_pows (fun b => mul T n a b) (fun b => mul T n b a) (mul_zero_right n _) (mul_zero_left h.lin n _) n (fun x y _ _ => mul_xor_right h.lin n a x y ha) (fun x y hx hy => mul_xor_left h.lin n x y a hx hy) (fun i hi => h1 i hi a ha) b hb
theorem mul_assoc (h : Field n T) (a b c : Nat) (ha : a < 2 ^ n) (hb : b < 2 ^ n) (hc : c < 2 ^ n) : mul T n a (mul T n b c) = mul T n (mul T n a b) c := by
  have hab : mul T n a b < 2 ^ n := mul_lt h.lin n a b ha
  refine ext_pows (fun c => mul T n a (mul T n b c)) (fun c => mul T n (mul T n a b) c) ?_ (mul_zero_right n _) n ?_ (fun x y _ _ => mul_xor_right h.lin n _ x y hab) ?_ c hc
  · show mul T n a (mul T n b 0) = 0
    rw [mul_zero_right, mul_zero_right]
  · intro x y hx hy
    show mul T n a (mul T n b (x ^^^ y)) = _
    rw [mul_xor_right h.lin n b x y hb, mul_xor_right h.lin n a _ _ ha]
  · intro i hi
    show mul T n a (mul T n b (2 ^ i)) = mul T n (mul T n a b) (2 ^ i)
    rw [mul_pow h.lin n i _ hb hi, mul_pow h.lin n i _ hab hi]
    have hi1 : iter T i b < 2 ^ n := (h.lin.iter i).lt b hb
    rw [mul_comm h a _ ha hi1, mul_iter_left h.lin n i b a hb, mul_comm h b a hb ha]
theorem mul_one (h : Field n T) (a : Nat) (ha : a < 2 ^ n) : mul T n a 1 = a := by
  have := mul_pow h.lin n 0 a ha h.pos
  simpa [iter] using this
theorem one_mul (h : Field n T) (a : Nat) (ha : a < 2 ^ n) : mul T n 1 a = a := by
  rw [mul_comm h 1 a h.one_lt ha, mul_one h a ha]

end Gal

namespace Fld

/-- One step on: times x. -/
def xt (a : Nat) : Nat := if a / 128 % 2 = 1 then (a * 2 % 256) ^^^ 27 else a * 2 % 256
/-- The product as a loop gathers it. -/
def gmF : Nat → Nat → Nat → Nat → Nat
  | 0, _, _, p => p
  | k + 1, a, b, p => gmF k (xt a) (b / 2) (if b % 2 = 1 then p ^^^ a else p)
def gm (a b : Nat) : Nat := gmF 8 a b 0

theorem xt_lt (a : Nat) : xt a < 256 := by
  unfold xt
  split
  · exact Nat.xor_lt_two_pow (n := 8) (by omega) (by omega)
  · omega
theorem gmF_zero (k : Nat) : ∀ a p, gmF k a 0 p = p := by
  induction k with
  | zero => intro a p; rfl
  | succ k ih => intro a p; simp [gmF, ih]
theorem gmF_even (k a b p : Nat) (h : b % 2 = 0) : gmF (k + 1) a b p = gmF k (xt a) (b / 2) p := by simp [gmF, h]
theorem gmF_odd (k a b p : Nat) (h : b % 2 = 1) : gmF (k + 1) a b p = gmF k (xt a) (b / 2) (p ^^^ a) := by simp [gmF, h]

theorem gmF_mul (k : Nat) : ∀ a b p, gmF k a b p = p ^^^ Gal.mul xt k a b := by
  induction k with
  | zero => intro a b p; simp [gmF, Gal.mul]
  | succ k ih =>
    intro a b p
    simp only [gmF, Gal.mul, ih]
    split
    · rw [Nat.xor_assoc]
    · simp
theorem gm_mul (a b : Nat) : gm a b = Gal.mul xt 8 a b := by
  unfold gm
  rw [gmF_mul]
  simp
theorem bit7 (a : Nat) : (a / 128 % 2 = 1) = (a.testBit 7 = true) := by
  rw [Nat.testBit_eq_decide_div_mod_eq]
  simp
theorem mul2_xor (a b : Nat) : (a ^^^ b) * 2 % 256 = (a * 2 % 256) ^^^ (b * 2 % 256) := by
  have h1 : (a ^^^ b) * 2 = a * 2 ^^^ b * 2 := by
    have := Nat.shiftLeft_xor_distrib (a := a) (b := b) (i := 1)
    simpa [Nat.shiftLeft_eq] using this
  rw [h1]
  have := Nat.xor_mod_two_pow (a := a * 2) (b := b * 2) (n := 8)
  exact this
theorem xt_lin : Gal.Lin 8 xt := by
  refine ⟨fun a _ => xt_lt a, fun a b _ _ => ?_⟩
  unfold xt
  simp only [bit7, mul2_xor, Nat.testBit_xor]
  rcases h1 : a.testBit 7 <;> rcases h2 : b.testBit 7 <;> simp
  · rw [Nat.xor_assoc]
  · rw [Nat.xor_assoc, Nat.xor_assoc, Nat.xor_comm 27]
  · rw [Gal.xor4]; simp
theorem fld : Gal.Field 8 xt := ⟨xt_lin, by decide +kernel, by omega⟩

theorem gm_lt (a b : Nat) (ha : a < 256) : gm a b < 256 := by rw [gm_mul]; exact Gal.mul_lt xt_lin 8 a b ha
theorem gm_comm (a b : Nat) (ha : a < 256) (hb : b < 256) : gm a b = gm b a := by rw [gm_mul, gm_mul]; exact Gal.mul_comm fld a b ha hb
theorem gm_assoc (a b c : Nat) (ha : a < 256) (hb : b < 256) (hc : c < 256) : gm a (gm b c) = gm (gm a b) c := by
  simp only [gm_mul]; exact Gal.mul_assoc fld a b c ha hb hc
theorem gm_xor (a b c : Nat) (ha : a < 256) : gm a (b ^^^ c) = gm a b ^^^ gm a c := by
  simp only [gm_mul]; exact Gal.mul_xor_right xt_lin 8 a b c ha
theorem gm_one (a : Nat) (ha : a < 256) : gm a 1 = a := by rw [gm_mul]; exact Gal.mul_one fld a ha
theorem gm_zero (a : Nat) : gm a 0 = 0 := by rw [gm_mul]; exact Gal.mul_zero_right 8 a

/-! The reference's way: the product of polynomials, then what is too much is taken away. -/
def clF : Nat → Nat → Nat → Nat
  | 0, _, _ => 0
  | k + 1, a, b => if b / 2 ^ k % 2 = 1 then clF k a b ^^^ (a * 2 ^ k) else clF k a b
def rdF : Nat → Nat → Nat
  | 0, p => p
  | k + 1, p => rdF k (if p / 2 ^ (k + 8) % 2 = 1 then p ^^^ (283 * 2 ^ k) else p)
def refT (a b : Nat) : Nat := rdF 8 (clF 8 a b) % 256

theorem clF_t (k a b : Nat) (h : b / 2 ^ k % 2 = 1) : clF (k + 1) a b = clF k a b ^^^ (a * 2 ^ k) := by simp [clF, h]
theorem clF_f (k a b : Nat) (h : b / 2 ^ k % 2 = 0) : clF (k + 1) a b = clF k a b := by simp [clF, h]
theorem rdF_t (k p : Nat) (h : p / 2 ^ (k + 8) % 2 = 1) : rdF (k + 1) p = rdF k (p ^^^ (283 * 2 ^ k)) := by simp [rdF, h]
theorem rdF_f (k p : Nat) (h : p / 2 ^ (k + 8) % 2 = 0) : rdF (k + 1) p = rdF k p := by simp [rdF, h]
theorem pow_le7 (k : Nat) (h : k < 8) : 2 ^ k ≤ 128 := Nat.pow_le_pow_right (n := 2) (by omega) (show k ≤ 7 by omega)
theorem shl_lt (a k : Nat) (ha : a < 256) (h : k < 8) : a * 2 ^ k < 32768 := by
  have := Nat.mul_le_mul (show a ≤ 255 by omega) (pow_le7 k h)
  omega
theorem shl283_lt (k : Nat) (h : k < 8) : 283 * 2 ^ k < 65536 := by
  have := pow_le7 k h
  omega
theorem clF_lt (a b : Nat) (ha : a < 256) (k : Nat) (hk : k ≤ 8) : clF k a b < 32768 := by
  induction k with
  | zero => simp [clF]
  | succ k ih =>
    unfold clF
    split
    · exact Nat.xor_lt_two_pow (n := 15) (ih (by omega)) (shl_lt a k ha (by omega))
    · exact ih (by omega)

theorem bitk (k a : Nat) : (a / 2 ^ k % 2 = 1) = (a.testBit k = true) := by
  rw [Nat.testBit_eq_decide_div_mod_eq]
  simp
theorem shl_xor (a b k : Nat) : (a ^^^ b) * 2 ^ k = a * 2 ^ k ^^^ b * 2 ^ k := by
  have := Nat.shiftLeft_xor_distrib (a := a) (b := b) (i := k)
  simpa [Nat.shiftLeft_eq] using this
theorem clF_xor_right (k a b c : Nat) : clF k a (b ^^^ c) = clF k a b ^^^ clF k a c := by
  induction k with
  | zero => simp [clF]
  | succ k ih =>
    simp only [clF, bitk, Nat.testBit_xor, ih]
    rcases b.testBit k <;> rcases c.testBit k <;> simp
    · rw [Nat.xor_assoc]
    · rw [Nat.xor_assoc, Nat.xor_assoc, Nat.xor_comm (a * 2 ^ k)]
    · rw [Gal.xor4]; simp
theorem clF_xor_left (k a b c : Nat) : clF k (a ^^^ b) c = clF k a c ^^^ clF k b c := by
  induction k with
  | zero => simp [clF]
  | succ k ih =>
    simp only [clF, ih, shl_xor]
    split
    · rw [Gal.xor4]
    · rfl
theorem clF_zero_left (k b : Nat) : clF k 0 b = 0 := by
  induction k with
  | zero => rfl
  | succ k ih => simp [clF, ih]
theorem clF_zero_right (k a : Nat) : clF k a 0 = 0 := by
  induction k with
  | zero => rfl
  | succ k ih => simp [clF, ih]
theorem rdF_xor (k : Nat) : ∀ p q, rdF k (p ^^^ q) = rdF k p ^^^ rdF k q := by
  induction k with
  | zero => intro p q; rfl
  | succ k ih =>
    intro p q
    simp only [rdF, bitk, Nat.testBit_xor, ← ih]
    congr 1
    rcases p.testBit (k + 8) <;> rcases q.testBit (k + 8) <;> simp
    · rw [Nat.xor_assoc]
    · rw [Nat.xor_assoc, Nat.xor_assoc, Nat.xor_comm (283 * 2 ^ k)]
    · rw [Gal.xor4]; simp
theorem rdF_zero (k : Nat) : rdF k 0 = 0 := by
  induction k with
  | zero => rfl
  | succ k ih => simp [rdF, ih]
theorem mod256_xor (a b : Nat) : (a ^^^ b) % 256 = (a % 256) ^^^ (b % 256) := Nat.xor_mod_two_pow (n := 8)
theorem refT_gm (a b : Nat) (ha : a < 256) (hb : b < 256) : refT a b = gm a b := by
  refine Gal.ext_pows (fun b => refT a b) (fun b => gm a b) (by simp [refT, clF_zero_right, rdF_zero]) (gm_zero a) 8 (fun x y _ _ => by simp [refT, clF_xor_right, rdF_xor, mod256_xor]) (fun x y _ _ => gm_xor a x y ha) ?_ b hb
  intro i hi
  refine Gal.ext_pows (fun a => refT a (2 ^ i)) (fun a => gm a (2 ^ i)) (by simp [refT, clF_zero_left, rdF_zero]) (by rw [gm_mul]; exact Gal.mul_zero_left xt_lin 8 _) 8 (fun x y _ _ => by simp [refT, clF_xor_left, rdF_xor, mod256_xor]) (fun x y hx hy => by simp only [gm_mul]; exact Gal.mul_xor_left xt_lin 8 x y _ hx hy) ?_ a ha
  intro j hj
  exact (by decide +kernel : ∀ i, i < 8 → ∀ j, j < 8 → refT (2 ^ j) (2 ^ i) = gm (2 ^ j) (2 ^ i)) i hi j hj
end Fld

namespace Go.Proofs.Ytpeibkdcglkimaa
open Go.RowKit

theorem ofInt64_toNat (a : Nat) (ha : a < 9223372036854775808) : (BitVec.ofInt 64 (a : Int)).toNat = a := by
  rw [BitVec.ofInt_natCast, BitVec.toNat_ofNat]; exact Nat.mod_eq_of_lt (by omega)
theorem i64_xor (a b : Nat) (ha : a < 9223372036854775808) (hb : b < 9223372036854775808) : bits .xor .i64 (a : Int) (b : Int) = ((a ^^^ b : Nat) : Int) := by
  have hx : a ^^^ b < 2 ^ 63 := Nat.xor_lt_two_pow (by omega) (by omega)
  show IntKind.i64.wrap ((BitVec.ofInt 64 (a : Int) ^^^ BitVec.ofInt 64 (b : Int)).toNat : Int) = _
  rw [BitVec.toNat_xor, ofInt64_toNat a ha, ofInt64_toNat b hb, IntKind.wrap_i64]
  omega
theorem i64_and (a b : Nat) (ha : a < 9223372036854775808) (hb : b < 9223372036854775808) : bits .and .i64 (a : Int) (b : Int) = ((a &&& b : Nat) : Int) := by
  have hx : a &&& b < 2 ^ 63 := Nat.and_lt_two_pow _ (by omega)
  show IntKind.i64.wrap ((BitVec.ofInt 64 (a : Int) &&& BitVec.ofInt 64 (b : Int)).toNat : Int) = _
  rw [BitVec.toNat_and, ofInt64_toNat a ha, ofInt64_toNat b hb, IntKind.wrap_i64]
  omega
theorem i64_odd (a : Nat) (ha : a < 9223372036854775808) : bits .and .i64 (a : Int) 1 = ((a % 2 : Nat) : Int) := by
  have := i64_and a 1 ha (by decide)
  rw [nat_mask1] at this
  exact this
theorem u8_odd (d : Nat) (hd : d < 256) : bits .and .u8 (d : Int) 1 = ((d % 2 : Nat) : Int) := by
  have := u8_and_nat d 1 hd (by decide)
  rw [nat_mask1] at this
  exact this
theorem u8_high (d : Nat) (hd : d < 256) : bits .and .u8 (d : Int) 128 = ((d / 128 % 2 * 128 : Nat) : Int) := by
  have := u8_and_nat d 128 hd (by decide)
  rw [nat_bit 7] at this
  exact this
theorem odd_t (d : Nat) (hd : d < 256) (h : d % 2 = 1) : (bits .and .u8 (d : Int) 1 != 0) = true := by rw [u8_odd d hd, h]; rfl
theorem odd_f (d : Nat) (hd : d < 256) (h : d % 2 = 0) : (bits .and .u8 (d : Int) 1 != 0) = false := by rw [u8_odd d hd, h]; rfl
theorem high_t (d : Nat) (hd : d < 256) (h : d / 128 % 2 = 1) : (bits .and .u8 (d : Int) 128 != 0) = true := by rw [u8_high d hd, h]; rfl
theorem high_f (d : Nat) (hd : d < 256) (h : d / 128 % 2 = 0) : (bits .and .u8 (d : Int) 128 != 0) = false := by rw [u8_high d hd, h]; rfl
theorem cast_shr (b k : Nat) : (b : Int) / 2 ^ k = ((b / 2 ^ k : Nat) : Int) := by simp
theorem cast_shl (b k : Nat) : (b : Int) * 2 ^ k = ((b * 2 ^ k : Nat) : Int) := by simp
/-- 'b >> k & 1 == 1' over bytes. -/
theorem u8_bit_t (b k : Nat) (hb : b < 256) (h : b / 2 ^ k % 2 = 1) : (bits .and .u8 ((b : Int) / 2 ^ k) 1 == 1) = true := by
  rw [cast_shr, u8_odd _ (Nat.lt_of_le_of_lt (Nat.div_le_self _ _) hb), h]; rfl
theorem u8_bit_f (b k : Nat) (hb : b < 256) (h : b / 2 ^ k % 2 = 0) : (bits .and .u8 ((b : Int) / 2 ^ k) 1 == 1) = false := by
  rw [cast_shr, u8_odd _ (Nat.lt_of_le_of_lt (Nat.div_le_self _ _) hb), h]; rfl
theorem i64_bit_t (b k : Nat) (hb : b < 9223372036854775808) (h : b / 2 ^ k % 2 = 1) : (bits .and .i64 ((b : Int) / 2 ^ k) 1 == 1) = true := by
  rw [cast_shr, i64_odd _ (Nat.lt_of_le_of_lt (Nat.div_le_self _ _) hb), h]; rfl
theorem i64_bit_f (b k : Nat) (hb : b < 9223372036854775808) (h : b / 2 ^ k % 2 = 0) : (bits .and .i64 ((b : Int) / 2 ^ k) 1 == 1) = false := by
  rw [cast_shr, i64_odd _ (Nat.lt_of_le_of_lt (Nat.div_le_self _ _) hb), h]; rfl
theorem wrap64_nat (a : Nat) (ha : a < 9223372036854775808) : wrap64 (a : Int) = (a : Int) := IntWalk.wrap64_in _ ⟨by omega, by omega⟩
end Go.Proofs.Ytpeibkdcglkimaa

namespace Go.Proofs.Ytpeibkdcglkimaa
open Go.RowKit
open Fld

theorem xt_t (c : Nat) (h : c / 128 % 2 = 1) : bits .xor .u8 ((c : Int) * 2 % 256) 27 = ((xt c : Nat) : Int) := by
  have := u8_xor_nat (c * 2 % 256) 27 (by omega) (by decide)
  rw [xt, if_pos h, ← this]
  simp
theorem xt_f (c : Nat) (h : c / 128 % 2 = 0) : (c : Int) * 2 % 256 = ((xt c : Nat) : Int) := by
  rw [xt, if_neg (by omega)]
  simp

set_option maxHeartbeats 400000 in
theorem times_any (a b : Nat) (ha : a < 256) (hb : b < 256) (w : World) :
    Calls Try.prog 40 #[.int .u8 a, .int .u8 b] w fun e w' => e = .returned (.int .u8 (gm a b)) ∧ w = w' := by
  go_enter Try.func40, Try.ntmps40
  go_wp2
  go_loop [0, 1, 5] (fun x y p => ∃ k c d q : Nat, c < 256 ∧ d < 2 ^ k ∧ d < 256 ∧ q < 256 ∧ k ≤ 8 ∧ x = .int .u8 c ∧ y = .int .u8 d ∧ p = .int .u8 q ∧ gmF k c d q = gm a b) (fun _ y _ => (intOf y).toNat)
  case atStart => exact ⟨8, a, b, 0, ha, hb, hb, by omega, by omega, rfl, rfl, rfl, rfl⟩
  case round =>
    obtain ⟨k, c, d, q, hc, hk, hd, hq, hk8, rfl, rfl, rfl, hg⟩ := hrel
    have Hg := Lib.hid hg
    clear hg
    by_cases h0 : d = 0
    · subst h0
      go_wp2
      go_ret
      exact ⟨by rw [← Hg.out, gmF_zero]; rfl, rfl⟩
    · obtain ⟨k, rfl⟩ : ∃ k', k = k' + 1 := by
        cases k with
        | zero => omega
        | succ k => exact ⟨k, rfl⟩
      have hk2 : d / 2 < 2 ^ k := by rw [Nat.pow_succ] at hk; omega
      have t0 : ((d : Int) != 0) = true := by rw [bne_iff_ne]; omega
      have hx := xt_lt c
      have hd1 : 1 ≤ d := by omega
      clear h0 hk
      rcases Nat.mod_two_eq_zero_or_one d with o | o
      · have g := gmF_even k c d q o
        have G := Lib.hid (g.symm.trans Hg.out)
        clear g Hg
        have t1 := odd_f d hd o
        rcases Nat.mod_two_eq_zero_or_one (c / 128) with s | s
        · have t2 := high_f c hc s
          have e := Lib.hid (xt_f c s)
          clear o s
          go_wp2
          go_round
          case rel => exact ⟨k, xt c, d / 2, q, hx, hk2, by omega, hq, by omega, by rw [e.out], by simp, rfl, G.out⟩
          case measure => simp [intOf]; omega
        · have t2 := high_t c hc s
          have e := Lib.hid (xt_t c s)
          clear o s
          go_wp2
          go_round
          case rel => exact ⟨k, xt c, d / 2, q, hx, hk2, by omega, hq, by omega, by rw [e.out], by simp, rfl, G.out⟩
          case measure => simp [intOf]; omega
      · have g := gmF_odd k c d q o
        have G := Lib.hid (g.symm.trans Hg.out)
        clear g Hg
        have t1 := odd_t d hd o
        have hqc : q ^^^ c < 256 := Nat.xor_lt_two_pow (n := 8) hq hc
        have ex := Lib.hid (u8_xor_nat q c hq hc)
        rcases Nat.mod_two_eq_zero_or_one (c / 128) with s | s
        · have t2 := high_f c hc s
          have e := Lib.hid (xt_f c s)
          clear o s
          go_wp2
          go_round
          case rel => exact ⟨k, xt c, d / 2, q ^^^ c, hx, hk2, by omega, hqc, by omega, by rw [e.out], by simp, by rw [ex.out], G.out⟩
          case measure => simp [intOf]; omega
        · have t2 := high_t c hc s
          have e := Lib.hid (xt_t c s)
          clear o s
          go_wp2
          go_round
          case rel => exact ⟨k, xt c, d / 2, q ^^^ c, hx, hk2, by omega, hqc, by omega, by rw [e.out], by simp, by rw [ex.out], G.out⟩
          case measure => simp [intOf]; omega

set_option maxHeartbeats 400000 in
theorem refTimes_any (a b : Nat) (ha : a < 256) (hb : b < 256) (w : World) :
    Calls Try.prog 47 #[.int .u8 a, .int .u8 b] w fun e w' => e = .returned (.int .u8 (gm a b)) ∧ w = w' := by
  have hfin := Lib.hid (refT_gm a b ha hb)
  go_enter Try.func47, Try.ntmps47
  go_wp2
  go_loop [5, 6] (fun p i => ∃ k : Nat, k ≤ 8 ∧ i = .int .u64 k ∧ p = .int .i64 (clF k a b)) (fun _ i => 8 - (intOf i).toNat)
  case atStart => exact ⟨0, by omega, rfl, rfl⟩
  case round =>
    obtain ⟨k, hk, rfl, rfl⟩ := hrel
    have hq := clF_lt a b ha k hk
    by_cases h : k < 8
    · rcases Nat.mod_two_eq_zero_or_one (b / 2 ^ k) with o | o
      · have e := Lib.hid (clF_f k a b o)
        have t := u8_bit_f b k hb o
        clear o
        go_wp2
        go_round
        case rel => exact ⟨k + 1, by omega, by go_num, by rw [e.out]⟩
        case measure => simp [intOf]; omega
      · have e := Lib.hid (clF_t k a b o)
        have t := u8_bit_t b k hb o
        have hs := shl_lt a k ha h
        have ex := Lib.hid (i64_xor (clF k a b) (a * 2 ^ k) (by omega) (by omega))
        have ew := Lib.hid (wrap64_nat (a * 2 ^ k) (by omega))
        clear o
        go_wp2
        go_round
        case rel => exact ⟨k + 1, by omega, by go_num, by rw [e.out, ← ex.out, cast_shl, ew.out]⟩
        case measure => simp [intOf]; omega
    · obtain rfl : k = 8 := by omega
      go_wp2
      go_loop [5, 7] (fun p i => ∃ k q : Nat, k ≤ 8 ∧ q < 65536 ∧ i = .int .u64 (k + 7) ∧ p = .int .i64 q ∧ rdF k q = rdF 8 (clF 8 a b)) (fun _ i => (intOf i).toNat)
      case atStart => exact ⟨8, clF 8 a b, by omega, by omega, rfl, rfl, rfl⟩
      case round =>
        obtain ⟨k, q, hk, hq, rfl, rfl, hr⟩ := hrel
        have Hr := Lib.hid hr
        clear hr
        cases k with
        | zero =>
          go_wp2
          go_ret
          exact ⟨by have h1 := hfin.out; unfold refT at h1; rw [← Hr.out] at h1; rw [← h1]; simp [rdF], rfl⟩
        | succ k =>
          have hk8 : k < 8 := by omega
          have c1 : ((k + 1 : Nat) : Int) + 7 = ((k + 8 : Nat) : Int) := by omega
          rw [c1]
          have s1 : k + 8 - 8 = k := by omega
          rcases Nat.mod_two_eq_zero_or_one (q / 2 ^ (k + 8)) with o | o
          · have e := Lib.hid ((rdF_f k q o).symm.trans Hr.out)
            have t := i64_bit_f q (k + 8) (by omega) o
            clear o c1 Hr
            go_wp2
            go_round
            case rel => exact ⟨k, q, by omega, hq, by go_num, rfl, e.out⟩
            case measure => simp [intOf]; omega
          · have e := Lib.hid ((rdF_t k q o).symm.trans Hr.out)
            have t := i64_bit_t q (k + 8) (by omega) o
            have hs : 283 * 2 ^ k < 65536 := shl283_lt k hk8
            have ex := Lib.hid (i64_xor q (283 * 2 ^ k) (by omega) (by omega))
            have ew := Lib.hid (wrap64_nat (283 * 2 ^ k) (by omega))
            have hx : q ^^^ (283 * 2 ^ k) < 65536 := Nat.xor_lt_two_pow (n := 16) hq hs
            clear o c1 Hr
            go_wp2
            go_round
            case rel => exact ⟨k, q ^^^ (283 * 2 ^ k), by omega, hx, by go_num, by rw [← ex.out, ← ew.out]; simp, e.out⟩
            case measure => simp [intOf]; omega
end Go.Proofs.Ytpeibkdcglkimaa

namespace Fld

def gpow (a : Nat) : Nat → Nat
  | 0 => 1
  | n + 1 => gm (gpow a n) a
theorem gpow_lt (a : Nat) (n : Nat) : gpow a n < 256 := by
  induction n with
  | zero => simp [gpow]
  | succ n ih => exact gm_lt _ _ ih
theorem gpow_one (a : Nat) (ha : a < 256) : gpow a 1 = a := by
  show gm 1 a = a
  rw [gm_comm 1 a (by omega) ha, gm_one a ha]
theorem gpow_add (a n m : Nat) (ha : a < 256) : gm (gpow a n) (gpow a m) = gpow a (n + m) := by
  induction m with
  | zero => exact gm_one _ (gpow_lt a n)
  | succ m ih =>
    show gm (gpow a n) (gm (gpow a m) a) = gm (gpow a (n + m)) a
    rw [gm_assoc _ _ _ (gpow_lt a n) (gpow_lt a m) ha, ih]
theorem gpow_sq (a m : Nat) (ha : a < 256) : gpow (gm a a) m = gpow a (2 * m) := by
  induction m with
  | zero => rfl
  | succ m ih =>
    show gm (gpow (gm a a) m) (gm a a) = gpow a (2 * m + 1 + 1)
    rw [ih, gm_assoc _ _ _ (gpow_lt _ _) ha ha]
    rfl
/-- One round of the way by squares. -/
theorem pw_odd (a q m : Nat) (ha : a < 256) (hq : q < 256) (h : m % 2 = 1) : gm (gm q a) (gpow (gm a a) (m / 2)) = gm q (gpow a m) := by
  rw [gpow_sq a _ ha, ← gm_assoc _ _ _ hq ha (gpow_lt _ _)]
  have e : gm a (gpow a (2 * (m / 2))) = gpow a m := by
    rw [gm_comm _ _ ha (gpow_lt _ _)]
    have : m = 2 * (m / 2) + 1 := by omega
    conv => rhs; rw [this]
    rfl
  rw [e]
theorem pw_even (a q m : Nat) (ha : a < 256) (h : m % 2 = 0) : gm q (gpow (gm a a) (m / 2)) = gm q (gpow a m) := by
  rw [gpow_sq a _ ha]
  have : 2 * (m / 2) = m := by omega
  rw [this]

theorem gpow_zero_base (n : Nat) (h : 1 ≤ n) : gpow 0 n = 0 := by
  obtain ⟨m, rfl⟩ : ∃ m, n = m + 1 := ⟨n - 1, by omega⟩
  exact gm_zero _
def inv (a : Nat) : Nat := gpow a 254
theorem inv_lt (a : Nat) : inv a < 256 := gpow_lt a 254
theorem inv_zero : inv 0 = 0 := gpow_zero_base 254 (by omega)
/-- 2 + 4 + .. + 128 = 254. -/
def sqs (a : Nat) : Nat → Nat × Nat
  | 0 => (a, 1)
  | k + 1 => (gm (sqs a k).1 (sqs a k).1, gm (sqs a k).2 (gm (sqs a k).1 (sqs a k).1))
theorem sqs_pow (a : Nat) (ha : a < 256) (k : Nat) : (sqs a k).1 = gpow a (2 ^ k) ∧ (sqs a k).2 = gpow a (2 ^ (k + 1) - 2) := by
  induction k with
  | zero => exact ⟨(gpow_one a ha).symm, rfl⟩
  | succ k ih =>
    have h1 := ih.1
    have h2 := ih.2
    have e : 2 ^ (k + 1) = 2 ^ k + 2 ^ k := by rw [Nat.pow_succ]; omega
    have e2 : 2 ^ (k + 1 + 1) = 2 ^ (k + 1) + 2 ^ (k + 1) := by rw [Nat.pow_succ]; omega
    have hp := Nat.two_pow_pos k
    refine ⟨?_, ?_⟩
    · show gm (sqs a k).1 (sqs a k).1 = _
      rw [h1, gpow_add a _ _ ha, e]
    · show gm (sqs a k).2 (gm (sqs a k).1 (sqs a k).1) = _
      rw [h1, h2, gpow_add a _ _ ha, gpow_add a _ _ ha]
      congr 1
      omega
/-- The squares, one behind the other, by a loop that holds numbers alone. -/
def sqL : Nat → Nat → Nat → Nat
  | 0, _, p => p
  | k + 1, s, p => sqL k (gm s s) (gm p (gm s s))
theorem sqL_sqs (a : Nat) (k : Nat) : ∀ j, sqL k (sqs a j).1 (sqs a j).2 = (sqs a (j + k)).2 := by
  induction k with
  | zero => intro j; rfl
  | succ k ih =>
    intro j
    have := ih (j + 1)
    rw [show j + (k + 1) = j + 1 + k by omega, ← this]
    rfl
theorem inv_sqL (a : Nat) (ha : a < 256) : inv a = sqL 7 a 1 := by
  have h := (sqs_pow a ha 7).2
  have h2 := sqL_sqs a 7 0
  rw [show (2 ^ (7 + 1) - 2 : Nat) = 254 by decide] at h
  unfold inv
  rw [← h]
  exact h2.symm
theorem all_inv : ∀ a, a < 256 → a ≠ 0 → gm a (sqL 7 a 1) = 1 := by decide +kernel
theorem gm_inv (a : Nat) (ha : a < 256) (h : a ≠ 0) : gm a (inv a) = 1 := by rw [inv_sqL a ha]; exact all_inv a ha h
theorem gm_zero_left (b : Nat) : gm 0 b = 0 := by rw [gm_mul]; exact Gal.mul_zero_left xt_lin 8 b
theorem inv_uniq (a x : Nat) (ha : a < 256) (hx : x < 256) (h : gm a x = 1) : x = inv a := by
  have h0 : a ≠ 0 := by
    rintro rfl
    rw [gm_zero_left] at h
    omega
  have e : gm (gm (inv a) a) x = gm (inv a) (gm a x) := (gm_assoc _ _ _ (inv_lt a) ha hx).symm
  rw [h, gm_one _ (inv_lt a), gm_comm _ _ (inv_lt a) ha, gm_inv a ha h0, gm_comm 1 x (by omega) hx, gm_one x hx] at e
  exact e
theorem inv_inv (a : Nat) (ha : a < 256) : inv (inv a) = a := by
  by_cases h : a = 0
  · subst h
    rw [inv_zero, inv_zero]
  · exact (inv_uniq (inv a) a (inv_lt a) ha (by rw [gm_comm _ _ (inv_lt a) ha]; exact gm_inv a ha h)).symm
theorem gpow_255 (a : Nat) (ha : a < 256) (h : a ≠ 0) : gpow a 255 = 1 := by
  show gm (inv a) a = 1
  rw [gm_comm _ _ (inv_lt a) ha]
  exact gm_inv a ha h
theorem gpow_255k (a k : Nat) (ha : a < 256) (h : a ≠ 0) : gpow a (255 * k) = 1 := by
  induction k with
  | zero => rfl
  | succ k ih => rw [Nat.mul_succ, ← gpow_add a _ _ ha, ih, gpow_255 a ha h]; decide
theorem gpow_mod (a n : Nat) (ha : a < 256) (h : a ≠ 0) : gpow a (n % 255) = gpow a n := by
  have e : n = 255 * (n / 255) + n % 255 := by omega
  conv => rhs; rw [e, ← gpow_add a _ _ ha, gpow_255k a _ ha h, gm_comm _ _ (by omega) (gpow_lt _ _), gm_one _ (gpow_lt _ _)]
theorem inv53 : inv 83 = 202 := (inv_uniq 83 202 (by omega) (by omega) (by decide +kernel)).symm
end Fld

namespace Go.Proofs.Ytpeibkdcglkimaa
open Go.RowKit
open Fld

theorem i64_odd_t (m : Nat) (hm : m < 9223372036854775808) (h : m % 2 = 1) : (bits .and .i64 (m : Int) 1 != 0) = true := by rw [i64_odd m hm, h]; rfl
theorem i64_odd_f (m : Nat) (hm : m < 9223372036854775808) (h : m % 2 = 0) : (bits .and .i64 (m : Int) 1 != 0) = false := by rw [i64_odd m hm, h]; rfl

set_option maxRecDepth 100000 in
theorem refPower_any (a : Nat) (n : Int) (ha : a < 256) (h0 : -9223372036854775808 ≤ n) (hn : n < 9223372036854775808) (w : World) :
    Calls Try.prog 27 #[.int .u8 a, .int .i64 n] w fun e w' => e = .returned (.int .u8 (gpow a n.toNat)) ∧ w = w' := by
  by_cases h : n < 1
  · have e : n.toNat = 0 := by omega
    rw [e]
    clear e
    go_enter Try.func27, Try.ntmps27
    go_wp2
    go_ret
    exact ⟨rfl, rfl⟩
  · obtain ⟨m, rfl⟩ := Int.eq_ofNat_of_zero_le (show 0 ≤ n by omega)
    have hm : 1 ≤ m := by omega
    rw [Int.toNat_natCast]
    have hn2 : m < 9223372036854775808 := by omega
    clear h h0 hn
    by_cases hz : a = 0
    · subst hz
      rw [gpow_zero_base m hm]
      go_enter Try.func27, Try.ntmps27
      go_wp2
      go_ret
      exact ⟨rfl, rfl⟩
    · have ta : ((a : Int) == 0) = false := by rw [beq_eq_false_iff_ne]; omega
      have hfin := Lib.hid (gpow_mod a m ha hz)
      have hml := Nat.mod_lt m (show 0 < 255 by omega)
      clear hz
      go_enter Try.func27, Try.ntmps27
      go_wp2
      go_loop [5, 6] (fun p i => ∃ k : Nat, k ≤ m % 255 ∧ i = .int .i64 k ∧ p = .int .u8 (gpow a k)) (fun _ i => m % 255 - (intOf i).toNat)
      case atStart => exact ⟨0, by omega, rfl, rfl⟩
      case round =>
        obtain ⟨k, hk, rfl, rfl⟩ := hrel
        have hp := gpow_lt a k
        by_cases hkk : k < m % 255
        · go_wp2_with fail
          refine (refTimes_any (gpow a k) a hp ha _).mono ?_
          rintro e w' ⟨rfl, rfl⟩
          go_wp2_with fail
          go_round
          case rel => exact ⟨k + 1, by omega, by go_num, rfl⟩
          case measure => simp [intOf]; omega
        · obtain rfl : k = m % 255 := by omega
          go_wp2
          go_ret
          exact ⟨by rw [← hfin.out]; rfl, rfl⟩

set_option maxRecDepth 100000 in
theorem refInverse_any (a : Nat) (ha : a < 256) (w : World) :
    Calls Try.prog 60 #[.int .u8 a] w fun e w' => e = .returned (.int .u8 (inv a)) ∧ w = w' := by
  go_enter Try.func60, Try.ntmps60
  go_wp2
  go_loop [3] (fun i => ∃ k : Nat, 1 ≤ k ∧ k ≤ 256 ∧ i = .int .i64 k ∧ ∀ j, 1 ≤ j → j < k → gm a j ≠ 1) (fun i => 256 - (intOf i).toNat)
  case atStart => exact ⟨1, by omega, by omega, rfl, fun j h1 h2 => by omega⟩
  case round =>
    obtain ⟨k, hk1, hk, rfl, hno⟩ := hrel
    have Hno := Lib.hid hno
    clear hno
    by_cases hlt : k < 256
    · by_cases hg : gm a k = 1
      · have Hg := Lib.hid hg
        have Hk := Lib.hid (inv_uniq a k ha hlt hg)
        clear hg
        go_wp2_with fail
        refine (refTimes_any a k ha hlt _).mono ?_
        rintro e w' ⟨rfl, rfl⟩
        rw [Hg.out]
        go_wp2_with fail
        go_ret
        exact ⟨by rw [← Hk.out]; rfl, rfl⟩
      · have t : (((gm a k : Nat) : Int) == 1) = false := by rw [beq_eq_false_iff_ne]; omega
        have Hn := Lib.hid (show ∀ j, 1 ≤ j → j < k + 1 → gm a j ≠ 1 from fun j h1 h2 => by
          by_cases e : j = k
          · subst e; exact hg
          · exact Hno.out j h1 (by omega))
        clear hg
        go_wp2_with fail
        refine (refTimes_any a k ha hlt _).mono ?_
        rintro e w' ⟨rfl, rfl⟩
        go_wp2_with fail
        go_round
        case rel => exact ⟨k + 1, by omega, by omega, by go_num, Hn.out⟩
        case measure => simp [intOf]; omega
    · obtain rfl : k = 256 := by omega
      have hz : a = 0 := by
        by_cases e : a = 0
        · exact e
        · have h1 := gm_inv a ha e
          have h2 : inv a ≠ 0 := by
            intro h0
            rw [h0, gm_zero] at h1
            omega
          exact absurd h1 (Hno.out (inv a) (by omega) (inv_lt a))
      have Hz := Lib.hid hz
      clear hz
      go_wp2
      go_ret
      exact ⟨by rw [Hz.out, inv_zero]; rfl, rfl⟩
end Go.Proofs.Ytpeibkdcglkimaa

namespace Fld

def rot (b n : Nat) : Nat := (b * 2 ^ n % 256) ||| (b / 2 ^ (8 - n))
/-- The box's sum behind k rotations. -/
def affF (b : Nat) : Nat → Nat
  | 0 => 99
  | k + 1 => affF b k ^^^ rot b k
def aff (b : Nat) : Nat := affF b 5
/-- The way back. -/
def aff' (s : Nat) : Nat := rot s 1 ^^^ rot s 3 ^^^ rot s 6 ^^^ 5
/-- The box of a. -/
def sb (a : Nat) : Nat := aff (inv a)

theorem rot_lt (b n : Nat) (hb : b < 256) : rot b n < 256 := Nat.or_lt_two_pow (n := 8) (Nat.mod_lt _ (by omega)) (Nat.lt_of_le_of_lt (Nat.div_le_self _ _) hb)
theorem affF_lt (b k : Nat) (hb : b < 256) : affF b k < 256 := by
  induction k with
  | zero => simp [affF]
  | succ k ih => exact Nat.xor_lt_two_pow (n := 8) ih (rot_lt b k hb)
theorem aff'_lt (s : Nat) (hs : s < 256) : aff' s < 256 :=
  Nat.xor_lt_two_pow (n := 8) (Nat.xor_lt_two_pow (n := 8) (Nat.xor_lt_two_pow (n := 8) (rot_lt s 1 hs) (rot_lt s 3 hs)) (rot_lt s 6 hs)) (by omega)
theorem aff_aff' : ∀ s, s < 256 → aff (aff' s) = s := by decide +kernel
theorem aff'_aff : ∀ b, b < 256 → aff' (aff b) = b := by decide +kernel
theorem sb_lt (a : Nat) : sb a < 256 := affF_lt _ 5 (inv_lt a)
/-- The back box. -/
def bs (s : Nat) : Nat := inv (aff' s)
theorem bs_lt (s : Nat) : bs s < 256 := inv_lt _
theorem sb_bs (s : Nat) (hs : s < 256) : sb (bs s) = s := by
  unfold sb bs
  rw [inv_inv _ (aff'_lt s hs), aff_aff' s hs]
theorem bs_sb (a : Nat) (ha : a < 256) : bs (sb a) = a := by
  unfold sb bs
  rw [aff'_aff _ (inv_lt a), inv_inv a ha]
theorem sb_zero : sb 0 = 99 := by
  unfold sb
  rw [inv_zero]
  decide +kernel

/-- The reference's bits. -/
def bitAt (b k : Nat) : Nat := (99 / 2 ^ k % 2 + b / 2 ^ k % 2 + b / 2 ^ ((k + 4) % 8) % 2 + b / 2 ^ ((k + 5) % 8) % 2 + b / 2 ^ ((k + 6) % 8) % 2 + b / 2 ^ ((k + 7) % 8) % 2) % 2
def rbF (b : Nat) : Nat → Nat
  | 0 => 0
  | k + 1 => rbF b k ||| bitAt b k * 2 ^ k
theorem rb_aff : ∀ b, b < 256 → rbF b 8 = aff b := by decide +kernel

/-- The way about the field: powers of 3, and of its inverse. -/
theorem three : gm 3 246 = 1 := by decide +kernel
theorem pow_pair (k : Nat) : inv (gpow 3 k) = gpow 246 k := by
  refine (inv_uniq _ _ (gpow_lt 3 k) (gpow_lt 246 k) ?_).symm
  induction k with
  | zero => decide +kernel
  | succ k ih =>
    show gm (gm (gpow 3 k) 3) (gm (gpow 246 k) 246) = 1
    have h3 := gpow_lt 3 k
    have h6 := gpow_lt 246 k
    rw [gm_comm (gpow 246 k) 246 h6 (by omega), gm_assoc _ _ _ (gm_lt _ _ h3) (by omega) h6, ← gm_assoc (gpow 3 k) 3 246 h3 (by omega) (by omega), three, gm_one _ h3, ih]
/-- Which bytes were met behind k rounds, as a number's bits. -/
def metF : Nat → Nat × Nat
  | 0 => (1, 0)
  | k + 1 => (gm (metF k).1 3, (metF k).2 ||| 2 ^ gm (metF k).1 3)
def metL : Nat → Nat → Nat → Nat
  | 0, _, m => m
  | k + 1, p, m => metL k (gm p 3) (m ||| 2 ^ gm p 3)
theorem metF_pow (k : Nat) : (metF k).1 = gpow 3 k := by
  induction k with
  | zero => rfl
  | succ k ih =>
    show gm (metF k).1 3 = gm (gpow 3 k) 3
    rw [ih]
theorem metL_metF (k : Nat) : ∀ j, metL k (metF j).1 (metF j).2 = (metF (j + k)).2 := by
  induction k with
  | zero => intro j; rfl
  | succ k ih =>
    intro j
    rw [show j + (k + 1) = j + 1 + k by omega, ← ih (j + 1)]
    rfl
theorem met_bit (k : Nat) : ∀ a, (metF k).2.testBit a = true → ∃ j, j < k ∧ gpow 3 (j + 1) = a := by
  induction k with
  | zero => intro a h; simp [metF] at h
  | succ k ih =>
    intro a h
    have e : (metF (k + 1)).2 = (metF k).2 ||| 2 ^ gm (metF k).1 3 := rfl
    rw [e, Nat.testBit_or, Bool.or_eq_true] at h
    rcases h with h | h
    · obtain ⟨j, hj, hg⟩ := ih a h
      exact ⟨j, by omega, hg⟩
    · rw [Nat.testBit_two_pow] at h
      refine ⟨k, by omega, ?_⟩
      show gm (gpow 3 k) 3 = a
      rw [← metF_pow]
      simpa using h
theorem met_all : metL 255 1 0 = 2 ^ 256 - 2 := by decide +kernel
theorem bits_all : ∀ a, a < 256 → a ≠ 0 → (2 ^ 256 - 2 : Nat).testBit a = true := by decide +kernel
theorem met_every (a : Nat) (ha : a < 256) (h : a ≠ 0) : ∃ j, j < 255 ∧ gpow 3 (j + 1) = a := by
  refine met_bit 255 a ?_
  have e : (metF 255).2 = metL 255 1 0 := (by have := metL_metF 255 0; rw [Nat.zero_add] at this; exact this.symm)
  rw [e, met_all]
  exact bits_all a ha h
end Fld

namespace Go.Proofs.Ytpeibkdcglkimaa
open Go.RowKit
open Fld

theorem rot_val (b n : Nat) (hb : b < 256) : bits .or .u8 ((b : Int) * 2 ^ n % 256) ((b : Int) / 2 ^ (8 - n)) = ((rot b n : Nat) : Int) := by
  have h1 : (b : Int) * 2 ^ n % 256 = ((b * 2 ^ n % 256 : Nat) : Int) := by simp
  have h2 : (b : Int) / 2 ^ (8 - n) = ((b / 2 ^ (8 - n) : Nat) : Int) := by simp
  rw [h1, h2, u8_or_nat _ _ (Nat.mod_lt _ (by omega)) (Nat.lt_of_le_of_lt (Nat.div_le_self _ _) hb)]
  rfl

set_option maxHeartbeats 400000 in
theorem rot_any (b n : Nat) (hb : b < 256) (hn : n < 5) (w : World) :
    Calls Try.prog 67 #[.int .u8 b, .int .i64 n] w fun e w' => e = .returned (.int .u8 (rot b n)) ∧ w = w' := by
  have hm : bits .and .u64 (n : Int) 7 = (n : Int) := by
    have h := u64_and_nat n 7 (by omega) (by omega)
    rw [nat_mask3, Nat.mod_eq_of_lt (by omega)] at h
    exact h
  have hv := Lib.hid (rot_val b n hb)
  have hn8 : n ≤ 8 := by omega
  go_enter Try.func67, Try.ntmps67
  go_wp2
  go_ret
  exact ⟨by rw [← hv.out]; rfl, rfl⟩

theorem bb (b k : Nat) (hb : b < 256) : bits .and .u8 ((b : Int) / 2 ^ k) 1 = ((b / 2 ^ k % 2 : Nat) : Int) := by
  rw [cast_shr, u8_odd _ (Nat.lt_of_le_of_lt (Nat.div_le_self _ _) hb)]
theorem bit_val (b k : Nat) (hb : b < 256) (hk : k < 8) :
    (bits .and .u8 (99 / 2 ^ k) 1 + bits .and .u8 ((b : Int) / 2 ^ k) 1 + bits .and .u8 ((b : Int) / 2 ^ ((k + 4) % 8)) 1 + bits .and .u8 ((b : Int) / 2 ^ ((k + 5) % 8)) 1 + bits .and .u8 ((b : Int) / 2 ^ ((k + 6) % 8)) 1 + bits .and .u8 ((b : Int) / 2 ^ ((k + 7) % 8)) 1) % 2 * 2 ^ k % 256
      = ((bitAt b k * 2 ^ k : Nat) : Int) := by
  have h99 := bb 99 k (by omega)
  rw [show ((99 : Nat) : Int) = 99 from rfl] at h99
  rw [h99, bb b k hb, bb b _ hb, bb b _ hb, bb b _ hb, bb b _ hb]
  have e : bitAt b k * 2 ^ k < 256 := by
    have h1 : bitAt b k ≤ 1 := by have := Nat.mod_lt (99 / 2 ^ k % 2 + b / 2 ^ k % 2 + b / 2 ^ ((k + 4) % 8) % 2 + b / 2 ^ ((k + 5) % 8) % 2 + b / 2 ^ ((k + 6) % 8) % 2 + b / 2 ^ ((k + 7) % 8) % 2) (show 0 < 2 by omega); unfold bitAt; omega
    have := Nat.mul_le_mul h1 (pow_le7 k hk)
    omega
  unfold bitAt at e ⊢
  rw [← Nat.mod_eq_of_lt e]
  simp
theorem bit_or (b k q : Nat) (hk : k < 8) (hq : q < 256) : bits .or .u8 (q : Int) ((bitAt b k * 2 ^ k : Nat) : Int) = ((q ||| bitAt b k * 2 ^ k : Nat) : Int) := by
  have h1 : bitAt b k ≤ 1 := by have := Nat.mod_lt (99 / 2 ^ k % 2 + b / 2 ^ k % 2 + b / 2 ^ ((k + 4) % 8) % 2 + b / 2 ^ ((k + 5) % 8) % 2 + b / 2 ^ ((k + 6) % 8) % 2 + b / 2 ^ ((k + 7) % 8) % 2) (show 0 < 2 by omega); unfold bitAt; omega
  have := Nat.mul_le_mul h1 (pow_le7 k hk)
  exact u8_or_nat _ _ hq (by omega)
theorem bit_lt (b k : Nat) (hk : k < 8) : bitAt b k * 2 ^ k < 256 := by
  have h1 : bitAt b k ≤ 1 := by have := Nat.mod_lt (99 / 2 ^ k % 2 + b / 2 ^ k % 2 + b / 2 ^ ((k + 4) % 8) % 2 + b / 2 ^ ((k + 5) % 8) % 2 + b / 2 ^ ((k + 6) % 8) % 2 + b / 2 ^ ((k + 7) % 8) % 2) (show 0 < 2 by omega); unfold bitAt; omega
  have := Nat.mul_le_mul h1 (pow_le7 k hk)
  omega

set_option maxHeartbeats 400000 in
theorem refBox_any (a : Nat) (ha : a < 256) (w : World) :
    Calls Try.prog 46 #[.int .u8 a] w fun e w' => e = .returned (.int .u8 (sb a)) ∧ w = w' := by
  go_enter Try.func46, Try.ntmps46
  go_wp2_with fail
  refine (refInverse_any a ha _).mono ?_
  rintro e w' ⟨rfl, rfl⟩
  obtain ⟨b, hb0⟩ : ∃ b, b = inv a := ⟨_, rfl⟩
  have hb : b < 256 := by rw [hb0]; exact inv_lt a
  rw [← hb0]
  have Hb := Lib.hid hb0
  clear hb0
  go_wp2_with fail
  go_loop [4, 5, 6] (fun s i _ => ∃ k q : Nat, k ≤ 8 ∧ q < 256 ∧ i = .int .u64 k ∧ s = .int .u8 q ∧ q = rbF b k) (fun _ i _ => 8 - (intOf i).toNat)
  case atStart => exact ⟨0, 0, by omega, by omega, rfl, rfl, rfl⟩
  case round =>
    obtain ⟨k, q, hk, hq, rfl, rfl, hr⟩ := hrel
    have Hr := Lib.hid hr
    clear hr
    by_cases hlt : k < 8
    · have E1 := Lib.hid (bit_val b k hb hlt)
      have E2 := Lib.hid (bit_or b k q hlt hq)
      have E3 := Lib.hid (Nat.or_lt_two_pow (n := 8) hq (bit_lt b k hlt))
      have E4 := Lib.hid (show (q ||| bitAt b k * 2 ^ k) = rbF b (k + 1) by rw [Hr.out]; rfl)
      go_wp2
      go_round
      case rel => exact ⟨k + 1, q ||| bitAt b k * 2 ^ k, by omega, E3.out, by go_num, by rw [← E2.out, ← E1.out], E4.out⟩
      case measure => simp [intOf]; omega
    · obtain rfl : k = 8 := by omega
      have E := Lib.hid (show q = sb a by rw [Hr.out, rb_aff b hb, Hb.out]; rfl)
      go_wp2
      go_ret
      exact ⟨by rw [← E.out]; rfl, rfl⟩

end Go.Proofs.Ytpeibkdcglkimaa

namespace Go.Proofs.Ytpeibkdcglkimaa
open Go.RowKit

/-- Block g holds just the cells cs, of element type t, and none of them is frozen. -/
def Blk (w : World) (g : Nat) (t : TypeId) (cs : Array Value) : Prop := w.heap[g]? = some (.cells cs t (0, 0))

section
variable {w w' : World} {g : Nat} {t : TypeId} {cs : Array Value}
theorem Blk.lt (h : Blk w g t cs) : g < w.heap.size := by
  rcases Nat.lt_or_ge g w.heap.size with hl | hl
  · exact hl
  · have h' : w.heap[g]? = some (.cells cs t (0, 0)) := h
    rw [Array.getElem?_eq_none hl] at h'
    cases h'
theorem Blk.at (h : Blk w g t cs) (i : Nat) (v : Value) (hv : cs[i]? = some v) : w.cell? ⟨g, i, none⟩ = some v := (cell_of_row w g i cs t (0, 0) h).trans hv
theorem Blk.free (h : Blk w g t cs) (i : Nat) : w.frozen? ⟨g, i, none⟩ = false := by
  have h' : w.heap[g]? = some (.cells cs t (0, 0)) := h
  simp [World.frozen?, h']
theorem Blk.made (w : World) (t : TypeId) (cs : Array Value) : Blk (w.alloc (.cells cs t)) w.heap.size t cs := heap_alloc_new w _
theorem Blk.drew (h : Blk w g t cs) : Blk w.drew g t cs := h
theorem Blk.drewN (h : Blk w g t cs) (n : Nat) : Blk (w.drewN n) g t cs := h
theorem Blk.alloc (h : Blk w g t cs) (o : Obj) : Blk (w.alloc o) g t cs := (Below.heap_alloc w o g h.lt).trans h
theorem Blk.put (h : Blk w g t cs) (i : Nat) (u : Value) : Blk (w.setCell ⟨g, i, none⟩ u) g t (cs.setIfInBounds i u) := by
  have h' : w.heap[g]? = some (.cells cs t (0, 0)) := h
  show (w.setCell ⟨g, i, none⟩ u).heap[g]? = _
  simp [World.setCell, Array.getElem?_modify, h']
theorem Blk.far (h : Blk w g t cs) {p : Addr} (hp : g ≠ p.block) (u : Value) : Blk (w.setCell p u) g t cs := (Below.heap_setCell w p u g hp).trans h
theorem Blk.below {B : Nat} (h : Blk w g t cs) (hb : Below B w w') (hg : g < B) : Blk w' g t cs := (hb.block g hg).trans h
theorem Blk.grown {row : Option Nat} (h : Blk w g t cs) (hb : w.grownBy w' row) (hg : some g ≠ row) : Blk w' g t cs := (hb.block g h.lt hg).trans h
theorem Blk.apart {g' : Nat} {t' : TypeId} {cs' : Array Value} (h : Blk w g t cs) (h' : Blk w g' t' cs') (hne : t ≠ t') : g ≠ g' := by
  rintro rfl
  have e : (some (Obj.cells cs t (0, 0)) : Option Obj) = some (.cells cs' t' (0, 0)) := (show w.heap[g]? = _ from h).symm.trans h'
  injection e with e
  injection e with _ e2
  exact hne e2
theorem Blk.made1 (w : World) (o : Obj) (t : TypeId) (cs : Array Value) : Blk ((w.alloc o).alloc (.cells cs t)) (w.heap.size + 1) t cs := by
  have h := Blk.made (w.alloc o) t cs
  rw [show (w.alloc o).heap.size = w.heap.size + 1 by simp] at h
  exact h
theorem Blk.made2 (w : World) (o p : Obj) (t : TypeId) (cs : Array Value) : Blk (((w.alloc o).alloc p).alloc (.cells cs t)) (w.heap.size + 1 + 1) t cs := by
  have h := Blk.made1 (w.alloc o) p t cs
  rw [show (w.alloc o).heap.size = w.heap.size + 1 by simp] at h
  exact h
theorem Blk.made3 (w : World) (o p q : Obj) (t : TypeId) (cs : Array Value) : Blk ((((w.alloc o).alloc p).alloc q).alloc (.cells cs t)) (w.heap.size + 1 + 1 + 1) t cs := by
  have h := Blk.made2 (w.alloc o) p q t cs
  rw [show (w.alloc o).heap.size = w.heap.size + 1 by simp] at h
  exact h
/-- A block of one cell holds nothing else. -/
theorem Blk.only {u v : Value} {p : Addr} (h : Blk w g t #[u]) (hp : w.cell? p = some v) (hb : p.block = g) (hs : p.spot = none) : v = u := by
  obtain ⟨b, i, s⟩ := p
  simp only at hb hs
  subst hb
  subst hs
  rw [cell_of_row w b i #[u] t (0, 0) h] at hp
  cases i with
  | zero => simpa using hp.symm
  | succ i => simp at hp
end

section
variable {a w w' : World} {row : Option Nat}
theorem gb_refl (w : World) (row : Option Nat) : w.grownBy w row := ⟨rfl, rfl, rfl, Nat.le_refl _, fun _ _ _ => rfl⟩
theorem gb_drew (h : a.grownBy w row) : a.grownBy w.drew row := ⟨h.os, h.tape, h.output, h.size, h.block⟩
theorem gb_drewN (h : a.grownBy w row) (n : Nat) : a.grownBy (w.drewN n) row := ⟨h.os, h.tape, h.output, h.size, h.block⟩
theorem gb_alloc (h : a.grownBy w row) (o : Obj) : a.grownBy (w.alloc o) row :=
  ⟨h.os, h.tape, h.output, Nat.le_trans h.size (by simp), fun i hi hne => (Below.heap_alloc w o i (Nat.lt_of_lt_of_le hi h.size)).trans (h.block i hi hne)⟩
theorem gb_set {g : Nat} (h : a.grownBy w (some g)) {p : Addr} (hp : p.block = g ∨ a.heap.size ≤ p.block) (u : Value) : a.grownBy (w.setCell p u) (some g) :=
  ⟨h.os, h.tape, h.output, by simpa [World.setCell] using h.size, fun i hi hne => by
    refine (Below.heap_setCell w p u i ?_).trans (h.block i hi hne)
    rintro rfl
    rcases hp with hp | hp
    · exact hne (by rw [hp])
    · omega⟩
theorem gb_trans {b c : World} (h : a.grownBy b row) (k : b.grownBy c row) : a.grownBy c row :=
  ⟨k.os.trans h.os, k.tape.trans h.tape, k.output.trans h.output, Nat.le_trans h.size k.size, fun i hi hne => (k.block i (Nat.lt_of_lt_of_le hi h.size) hne).trans (h.block i hi hne)⟩
theorem gb_of_below (h : Below a.heap.size a w) (row : Option Nat) : a.grownBy w row := ⟨h.os, h.tape, h.output, h.size, fun i hi _ => h.block i hi⟩
theorem below_drewN {B : Nat} (h : Below B a w) (n : Nat) : Below B a (w.drewN n) := ⟨h.os, h.tape, h.output, h.size, h.block⟩
/-- What a fresh block of the call's own has turned is nothing to what lies below it. -/
theorem below_turned {B g : Nat} (h : Below B a w) (k : w.grownBy w' (some g)) (hB : B ≤ w.heap.size) (hg : B ≤ g) : Below B a w' :=
  h.grown k hB (fun j hj => by injection hj with hj; omega)
end
end Go.Proofs.Ytpeibkdcglkimaa

namespace Go.Proofs.Ytpeibkdcglkimaa
open Go.RowKit
open Fld

def mixOf (s : Nat) : Nat := gm s 2 * 16777216 + s * 65536 + s * 256 + gm s 3
/-- What the tables hold where the bytes of P were met. -/
structure Tabs (cs : Array Value) (P : Nat → Prop) : Prop where
  size : cs.size = 768
  box : ∀ a, a < 256 → ∃ v : Nat, cs[a]? = some (.int .u8 (v : Int)) ∧ (P a → v = sb a)
  back : ∀ s, s < 256 → ∃ v : Nat, cs[256 + s]? = some (.int .u8 (v : Int)) ∧ (∀ a, a < 256 → P a → sb a = s → v = a)
  mix : ∀ a, a < 256 → ∃ v : Nat, cs[512 + a]? = some (.int .u32 (v : Int)) ∧ (P a → v = mixOf (sb a))

theorem Tabs.set {cs : Array Value} {P : Nat → Prop} (h : Tabs cs P) (a : Nat) (ha : a < 256) :
    Tabs (((cs.setIfInBounds a (.int .u8 ((sb a : Nat) : Int))).setIfInBounds (256 + sb a) (.int .u8 (a : Int))).setIfInBounds (512 + a) (.int .u32 ((mixOf (sb a) : Nat) : Int))) (fun x => P x ∨ x = a) := by
  have hs := sb_lt a
  have hz := h.size
  have get : ∀ i, (((cs.setIfInBounds a (.int .u8 ((sb a : Nat) : Int))).setIfInBounds (256 + sb a) (.int .u8 (a : Int))).setIfInBounds (512 + a) (.int .u32 ((mixOf (sb a) : Nat) : Int)))[i]? =
      if i = 512 + a then some (.int .u32 ((mixOf (sb a) : Nat) : Int)) else if i = 256 + sb a then some (.int .u8 (a : Int)) else if i = a then some (.int .u8 ((sb a : Nat) : Int)) else cs[i]? := by
    intro i
    simp only [Array.getElem?_setIfInBounds, Array.size_setIfInBounds, hz]
    by_cases h1 : i = 512 + a
    · subst h1
      simp
      omega
    · by_cases h2 : i = 256 + sb a
      · subst h2
        simp [h1, Ne.symm h1]
        omega
      · by_cases h3 : i = a
        · subst h3
          have h4 : ¬ 512 + i = i := by omega
          simp [h2, Ne.symm h2]
          omega
        · simp [h1, h2, h3, Ne.symm h1, Ne.symm h2, Ne.symm h3]
  refine ⟨by simp [hz], ?_, ?_, ?_⟩
  · intro x hx
    rw [get x, if_neg (by omega), if_neg (by omega)]
    by_cases e : x = a
    · subst e
      exact ⟨sb x, by rw [if_pos rfl], fun _ => rfl⟩
    · obtain ⟨v, hv, hp⟩ := h.box x hx
      exact ⟨v, by rw [if_neg e, hv], fun hq => hp (hq.resolve_right e)⟩
  · intro s hs2
    rw [get (256 + s), if_neg (by omega)]
    by_cases e : s = sb a
    · subst e
      refine ⟨a, by rw [if_pos rfl], fun x hx _ hxs => ?_⟩
      rw [← bs_sb a ha, ← hxs, bs_sb x hx]
    · obtain ⟨v, hv, hp⟩ := h.back s hs2
      refine ⟨v, by rw [if_neg (by omega), if_neg (by omega), hv], fun x hx hq hxs => ?_⟩
      rcases hq with hq | hq
      · exact hp x hx hq hxs
      · subst hq
        exact absurd hxs.symm e
  · intro x hx
    rw [get (512 + x)]
    by_cases e : x = a
    · subst e
      exact ⟨mixOf (sb x), by rw [if_pos rfl], fun _ => rfl⟩
    · obtain ⟨v, hv, hp⟩ := h.mix x hx
      exact ⟨v, by rw [if_neg (by omega), if_neg (by omega), if_neg (by omega), hv], fun hq => hp (hq.resolve_right e)⟩

theorem mix_val (s : Nat) (hs : s < 256) :
    bits .or .u32 (bits .or .u32 (bits .or .u32 ((gm s 2 : Nat) * 16777216 : Int) ((s : Int) * 65536)) ((s : Int) * 256)) ((gm s 3 : Nat) : Int) = ((mixOf s : Nat) : Int) := by
  have h2 := gm_lt s 2 hs
  have h3 := gm_lt s 3 hs
  have e1 := u32_or_nat (gm s 2 * 16777216) (s * 65536) (by omega) (by omega)
  rw [nat_join 24 _ _ (by omega) (by omega)] at e1
  have e2 := u32_or_nat (gm s 2 * 16777216 + s * 65536) (s * 256) (by omega) (by omega)
  rw [nat_join 16 _ _ (by omega) (by omega)] at e2
  have e3 := u32_or_nat (gm s 2 * 16777216 + s * 65536 + s * 256) (gm s 3) (by omega) (by omega)
  rw [nat_join 8 _ _ (by omega) (by omega)] at e3
  rw [show ((gm s 2 : Nat) : Int) * 16777216 = ((gm s 2 * 16777216 : Nat) : Int) by simp, show (s : Int) * 65536 = ((s * 65536 : Nat) : Int) by simp, show (s : Int) * 256 = ((s * 256 : Nat) : Int) by simp, e1, e2, e3]
  rfl
theorem idx5_0 (w : World) : (Instr.index 110 (.agg #[.int .i64 0, .int .i64 1, .int .i64 2, .int .i64 3, .int .i64 4]) (.int .i64 0)).run Try.prog w = .ok (.int .i64 0) w := by kernel_rfl
theorem idx5_1 (w : World) : (Instr.index 110 (.agg #[.int .i64 0, .int .i64 1, .int .i64 2, .int .i64 3, .int .i64 4]) (.int .i64 1)).run Try.prog w = .ok (.int .i64 1) w := by kernel_rfl
theorem idx5_2 (w : World) : (Instr.index 110 (.agg #[.int .i64 0, .int .i64 1, .int .i64 2, .int .i64 3, .int .i64 4]) (.int .i64 2)).run Try.prog w = .ok (.int .i64 2) w := by kernel_rfl
theorem idx5_3 (w : World) : (Instr.index 110 (.agg #[.int .i64 0, .int .i64 1, .int .i64 2, .int .i64 3, .int .i64 4]) (.int .i64 3)).run Try.prog w = .ok (.int .i64 3) w := by kernel_rfl
theorem idx5_4 (w : World) : (Instr.index 110 (.agg #[.int .i64 0, .int .i64 1, .int .i64 2, .int .i64 3, .int .i64 4]) (.int .i64 4)).run Try.prog w = .ok (.int .i64 4) w := by kernel_rfl
theorem idx5 (k : Nat) (hk : k < 5) (w : World) : (Instr.index 110 (.agg #[.int .i64 0, .int .i64 1, .int .i64 2, .int .i64 3, .int .i64 4]) (.int .i64 (k : Int))).run Try.prog w = .ok (.int .i64 (k : Int)) w :=
  match k, hk with
  | 0, _ => idx5_0 w
  | 1, _ => idx5_1 w
  | 2, _ => idx5_2 w
  | 3, _ => idx5_3 w
  | 4, _ => idx5_4 w

set_option maxRecDepth 100000 in
set_option maxHeartbeats 1000000 in
theorem set_any (g a b : Nat) (cs : Array Value) (w : World) (ha : a < 256) (hab : b = inv a) (hg : Blk w g 98 cs) {P : Nat → Prop} (ht : Tabs cs P) :
    Calls Try.prog 55 #[.pointer (some ⟨g, 0, none⟩), .int .u8 a, .int .u8 b] w fun e w' => e = .returned (.tuple #[]) ∧ w.grownBy w' (some g) ∧ ∃ cs', Blk w' g 98 cs' ∧ Tabs cs' (fun x => P x ∨ x = a) := by
  have hb : b < 256 := by rw [hab]; exact inv_lt a
  have Hs := Lib.hid (show affF b 5 = sb a by rw [hab]; rfl)
  clear hab
  go_enter Try.func55, Try.ntmps55
  go_wp2_with fail
  go_loop [6, 8, 10] (fun s _ i => ∃ k q : Nat, k ≤ 5 ∧ q < 256 ∧ i = .int .i64 k ∧ s = .int .u8 q ∧ q = affF b k) (fun _ _ i => 5 - (intOf i).toNat)
  case atStart => exact ⟨0, 99, by omega, by omega, rfl, rfl, rfl⟩
  case round =>
    obtain ⟨k, q, hk, hq, rfl, rfl, hr⟩ := hrel
    have Hr := Lib.hid hr
    clear hr
    by_cases hlt : k < 5
    · have hi := idx5 k hlt
      have hrl := rot_lt b k hb
      have E1 := Lib.hid (u8_xor_nat q (rot b k) hq hrl)
      have E2 := Lib.hid (show q ^^^ rot b k = affF b (k + 1) by rw [Hr.out]; rfl)
      have E3 := Lib.hid (Nat.xor_lt_two_pow (n := 8) hq hrl)
      go_wp2_with fail
      refine (rot_any b k hb hlt _).mono ?_
      rintro e w' ⟨rfl, rfl⟩
      go_wp2_with fail
      go_round
      case rel => exact ⟨k + 1, q ^^^ rot b k, by omega, E3.out, by go_num, by rw [← E1.out], E2.out⟩
      case measure => simp [intOf]; omega
    · obtain rfl : k = 5 := by omega
      have e : q = sb a := by rw [Hr.out, Hs.out]
      subst e
      have c1 : ∃ v, w.cell? ⟨g, a, none⟩ = some v := by obtain ⟨v, hv, _⟩ := ht.box a ha; exact ⟨_, hg.at a _ hv⟩
      have c2 : ∃ v, w.cell? ⟨g, 256 + sb a, none⟩ = some v := by obtain ⟨v, hv, _⟩ := ht.back _ hq; exact ⟨_, hg.at _ _ hv⟩
      have c3 : ∃ v, w.cell? ⟨g, 512 + a, none⟩ = some v := by obtain ⟨v, hv, _⟩ := ht.mix a ha; exact ⟨_, hg.at _ _ hv⟩
      obtain ⟨v1, c1⟩ := c1
      obtain ⟨v2, c2⟩ := c2
      obtain ⟨v3, c3⟩ := c3
      have f1 := hg.free a
      have f2 := hg.free (256 + sb a)
      have f3 := hg.free (512 + a)
      have hne : a ≠ 256 + sb a := by omega
      have hia : (a : Int) < 256 := by omega
      have his : ((sb a : Nat) : Int) < 256 := by omega
      go_wp2_with fail
      go_region
      have hg1 := ((hg.put a (.int .u8 ((sb a : Nat) : Int))).put (256 + sb a) (.int .u8 (a : Int))).drew
      have gb1 := gb_drew (gb_set (gb_set (gb_refl w (some g)) (p := ⟨g, a, none⟩) (.inl rfl) (.int .u8 ((sb a : Nat) : Int))) (p := ⟨g, 256 + sb a, none⟩) (.inl rfl) (.int .u8 (a : Int)))
      have c4 : ((w.setCell ⟨g, a, none⟩ (.int .u8 ((sb a : Nat) : Int))).setCell ⟨g, 256 + sb a, none⟩ (.int .u8 (a : Int))).drew.cell? ⟨g, 512 + a, none⟩ = some v3 := by
        refine (World.cell?_setCell_other _ _ _ _ (fun e => by injection e with _ e; omega)).trans ((World.cell?_setCell_other _ _ _ _ (fun e => by injection e with _ e; omega)).trans c3)
      generalize ((w.setCell ⟨g, a, none⟩ (.int .u8 ((sb a : Nat) : Int))).setCell ⟨g, 256 + sb a, none⟩ (.int .u8 (a : Int))).drew = w1 at hg1 gb1 c4 ⊢
      have f4 := hg1.free (512 + a)
      have m2 := gm_lt (sb a) 2 hq
      have m3 := gm_lt (sb a) 3 hq
      have Hmix := Lib.hid (mix_val (sb a) hq)
      have Htab := Lib.hid (ht.set a ha)
      clear c1 c2 c3 f1 f2 f3 hg ht
      go_wp2_with fail
      go_still_tail 21, (by kernel_rfl)
      still_call ((times_any (sb a) 2 hq (by omega) _).mono fun _ _ h => ⟨h.1, h.2.symm⟩)
      repeat still_step
      still_call ((times_any (sb a) 3 hq (by omega) _).mono fun _ _ h => ⟨h.1, h.2.symm⟩)
      repeat still_step
      refine wpStill_nil ?_
      change wpList _ _ _ _ _ w1.drew
      have hg2 := hg1.drew
      have gb2 := gb_drew gb1
      have c5 : w1.drew.cell? ⟨g, 512 + a, none⟩ = some v3 := c4
      have f5 : w1.drew.frozen? ⟨g, 512 + a, none⟩ = false := f4
      generalize w1.drew = w2 at hg2 gb2 c5 f5 ⊢
      clear hg1 gb1 c4 f4
      go_wp2_with fail
      go_end0
      rw [Hmix.out]
      exact ⟨rfl, gb_set gb2 (.inl rfl) _, _, hg2.put (512 + a) _, Htab.out⟩
end Go.Proofs.Ytpeibkdcglkimaa

namespace Go.Proofs.Ytpeibkdcglkimaa
open Go.RowKit
open Fld

def z768 : Array Value := Array.replicate 512 (.int .u8 0) ++ Array.replicate 256 (.int .u32 0)
theorem zero_boxes (w : World) : (zeroValue 98).run Try.prog w = .ok (.agg z768) w := by kernel_rfl
theorem z768_tabs : Tabs z768 (fun _ => False) := by
  refine ⟨by simp [z768], fun a ha => ⟨0, ?_, fun h => h.elim⟩, fun a ha => ⟨0, ?_, fun _ _ h => h.elim⟩, fun a ha => ⟨0, ?_, fun h => h.elim⟩⟩
  · unfold z768
    rw [Array.getElem?_append_left (by simp; omega), Array.getElem?_replicate, if_pos (by omega)]
    rfl
  · unfold z768
    rw [Array.getElem?_append_left (by simp; omega), Array.getElem?_replicate, if_pos (by omega)]
    rfl
  · unfold z768
    rw [Array.getElem?_append_right (by simp), Array.getElem?_replicate, if_pos (by simp; omega)]
    rfl
theorem Tabs.weaken {cs : Array Value} {P Q : Nat → Prop} (h : Tabs cs P) (hq : ∀ a, a < 256 → Q a → P a) : Tabs cs Q :=
  ⟨h.size, fun a ha => let ⟨v, h1, h2⟩ := h.box a ha; ⟨v, h1, fun q => h2 (hq a ha q)⟩, fun s hs => let ⟨v, h1, h2⟩ := h.back s hs; ⟨v, h1, fun a ha q => h2 a ha (hq a ha q)⟩, fun a ha => let ⟨v, h1, h2⟩ := h.mix a ha; ⟨v, h1, fun q => h2 (hq a ha q)⟩⟩

def metBy (k : Nat) (a : Nat) : Prop := ∃ j, j < k ∧ gpow 3 (j + 1) = a
theorem metBy_succ (k a : Nat) (h : metBy (k + 1) a) : metBy k a ∨ a = gpow 3 (k + 1) := by
  obtain ⟨j, hj, e⟩ := h
  by_cases h : j = k
  · subst h
    exact .inr e.symm
  · exact .inl ⟨j, by omega, e⟩

set_option maxRecDepth 100000 in
set_option maxHeartbeats 1000000 in
theorem newBoxes_any (w : World) :
    Calls Try.prog 34 #[] w fun e w' => e = .returned (.pointer (some ⟨w.heap.size, 0, none⟩)) ∧ Below w.heap.size w w' ∧ ∃ cs, Blk w' w.heap.size 98 cs ∧ Tabs cs (fun a => a < 256) := by
  have hz := zero_boxes
  have B0 := Blk.made w 98 z768
  have L0 : Below w.heap.size w (w.alloc (.cells z768 98)) := (Below.refl _ _).alloc (Nat.le_refl _) _
  go_enter Try.func34, Try.ntmps34
  go_wp2_with fail
  clear hz
  go_loopw [2, 3, 6] (fun p q i wr => ∃ k : Nat, k ≤ 255 ∧ i = .int .i64 k ∧ p = .int .u8 (gpow 3 k) ∧ q = .int .u8 (gpow 246 k) ∧ Below w.heap.size w wr ∧ ∃ cs, Blk wr w.heap.size 98 cs ∧ Tabs cs (metBy k)) (fun _ _ i _ => 255 - (intOf i).toNat)
  case atStart => exact ⟨0, by omega, rfl, rfl, rfl, L0, z768, B0, z768_tabs.weaken (fun a _ h => by obtain ⟨j, hj, _⟩ := h; omega)⟩
  case round =>
    obtain ⟨k, hk, rfl, rfl, rfl, hb, cs, hg, ht⟩ := hrel
    have h3 := gpow_lt 3 k
    have h6 := gpow_lt 246 k
    have hsz := hg.lt
    clear B0 L0
    by_cases hlt : k < 255
    · have h3' : gm (gpow 3 k) 3 < 256 := gm_lt _ _ h3
      have Hp := Lib.hid (show gm (gpow 246 k) 246 = inv (gm (gpow 3 k) 3) from (pow_pair (k + 1)).symm)
      go_wp2_with fail
      refine (times_any (gpow 3 k) 3 h3 (by omega) _).mono ?_
      rintro e w' ⟨rfl, rfl⟩
      go_wp2_with fail
      refine (times_any (gpow 246 k) 246 h6 (by omega) _).mono ?_
      rintro e w' ⟨rfl, rfl⟩
      go_wp2_with fail
      refine (set_any w.heap.size (gm (gpow 3 k) 3) (gm (gpow 246 k) 246) cs _ h3' Hp.out hg ht).mono ?_
      rintro e w2 ⟨rfl, g2, cs2, hg2, ht2⟩
      have hb2 := below_turned hb g2 (by omega) (Nat.le_refl _)
      clear g2 hg ht
      go_wp2_with fail
      go_roundw
      case rel => exact ⟨k + 1, by omega, by go_num, rfl, rfl, hb2, cs2, hg2, ht2.weaken (fun a _ h => metBy_succ k a h)⟩
      case measure => simp [intOf]; omega
    · obtain rfl : k = 255 := by omega
      go_wp2_with fail
      refine (set_any w.heap.size 0 0 cs _ (by omega) inv_zero.symm hg ht).mono ?_
      rintro e w2 ⟨rfl, g2, cs2, hg2, ht2⟩
      have hb2 := below_turned hb g2 (by omega) (Nat.le_refl _)
      have ht3 := ht2.weaken (Q := fun a => a < 256) (fun a ha _ => by
        by_cases h : a = 0
        · exact .inr h
        · exact .inl (met_every a ha h))
      clear g2 hg ht ht2
      go_wp2_with fail
      go_ret
      exact ⟨rfl, hb2, cs2, hg2, ht3⟩

theorem box_any (g a : Nat) (cs : Array Value) (w : World) (ha : a < 256) (hg : Blk w g 98 cs) (ht : Tabs cs (fun a => a < 256)) :
    Calls Try.prog 45 #[.pointer (some ⟨g, 0, none⟩), .int .u8 a] w fun e w' => e = .returned (.int .u8 (sb a)) ∧ w = w' := by
  obtain ⟨v, hv, hp⟩ := ht.box a ha
  have e := hp ha
  subst e
  have c := hg.at a _ hv
  have hia : (a : Int) < 256 := by omega
  go_enter Try.func45, Try.ntmps45
  go_wp2_with fail
  go_ret
  exact ⟨rfl, rfl⟩
theorem mix53 : mixOf (sb 83) = 3253595436 := by
  unfold sb
  rw [inv53]
  decide +kernel
theorem mix_any (g a : Nat) (cs : Array Value) (w : World) (ha : a < 256) (hg : Blk w g 98 cs) (ht : Tabs cs (fun a => a < 256)) :
    Calls Try.prog 44 #[.pointer (some ⟨g, 0, none⟩), .int .u8 a] w fun e w' => e = .returned (.int .u32 (mixOf (sb a))) ∧ w = w' := by
  obtain ⟨v, hv, hp⟩ := ht.mix a ha
  have e := hp ha
  subst e
  have c := hg.at _ _ hv
  have hia : (a : Int) < 256 := by omega
  go_enter Try.func44, Try.ntmps44
  go_wp2_with fail
  go_ret
  exact ⟨rfl, rfl⟩
theorem box_nil (a : Nat) (w : World) : Calls Try.prog 45 #[.pointer none, .int .u8 a] w fun e w' => e = .returned (.int .u8 0) ∧ w = w' := by
  go_enter Try.func45, Try.ntmps45
  go_wp2_with fail
  go_ret
  exact ⟨rfl, rfl⟩
theorem mix_nil (a : Nat) (w : World) : Calls Try.prog 44 #[.pointer none, .int .u8 a] w fun e w' => e = .returned (.int .u32 0) ∧ w = w' := by
  go_enter Try.func44, Try.ntmps44
  go_wp2_with fail
  go_ret
  exact ⟨rfl, rfl⟩
end Go.Proofs.Ytpeibkdcglkimaa

namespace Aes
open Fld

def wN (a b c d : Nat) : Nat := a * 16777216 + b * 65536 + c * 256 + d
theorem wN_lt (a b c d : Nat) (ha : a < 256) (hb : b < 256) (hc : c < 256) (hd : d < 256) : wN a b c d < 4294967296 := by unfold wN; omega
/-- The bytes of a word, from the highest on. -/
def wb (w : Nat) : Nat → Nat
  | 0 => w / 16777216 % 256
  | 1 => w / 65536 % 256
  | 2 => w / 256 % 256
  | _ => w % 256
theorem wb_lt (w j : Nat) : wb w j < 256 := by
  unfold wb
  split <;> exact Nat.mod_lt _ (by omega)
theorem wb_wN (a b c d : Nat) (ha : a < 256) (hb : b < 256) (hc : c < 256) (hd : d < 256) : wb (wN a b c d) 0 = a ∧ wb (wN a b c d) 1 = b ∧ wb (wN a b c d) 2 = c ∧ wb (wN a b c d) 3 = d := by
  simp only [wb, wN]
  omega
theorem wN_wb (w : Nat) (h : w < 4294967296) : wN (wb w 0) (wb w 1) (wb w 2) (wb w 3) = w := by
  simp only [wb, wN]
  omega
theorem div_xor (a b n : Nat) : (a ^^^ b) / 2 ^ n = a / 2 ^ n ^^^ b / 2 ^ n := by
  rw [← Nat.shiftRight_eq_div_pow, ← Nat.shiftRight_eq_div_pow, ← Nat.shiftRight_eq_div_pow, Nat.shiftRight_xor_distrib]
theorem mod_xor (a b : Nat) : (a ^^^ b) % 256 = (a % 256) ^^^ (b % 256) := Nat.xor_mod_two_pow (n := 8)
theorem wb_xor (v w j : Nat) : wb (v ^^^ w) j = wb v j ^^^ wb w j := by
  have h24 := div_xor v w 24
  have h16 := div_xor v w 16
  have h8 := div_xor v w 8
  simp only [Nat.reducePow] at h24 h16 h8
  unfold wb
  split
  · rw [h24, mod_xor]
  · rw [h16, mod_xor]
  · rw [h8, mod_xor]
  · rw [mod_xor]
theorem xor_lt8 {a b : Nat} (ha : a < 256) (hb : b < 256) : a ^^^ b < 256 := Nat.xor_lt_two_pow (n := 8) ha hb
theorem xor_lt32 {a b : Nat} (ha : a < 4294967296) (hb : b < 4294967296) : a ^^^ b < 4294967296 := Nat.xor_lt_two_pow (n := 32) ha hb
theorem wb_ext {v w : Nat} (hv : v < 4294967296) (hw : w < 4294967296) (h0 : wb v 0 = wb w 0) (h1 : wb v 1 = wb w 1) (h2 : wb v 2 = wb w 2) (h3 : wb v 3 = wb w 3) : v = w := by
  rw [← wN_wb v hv, ← wN_wb w hw, h0, h1, h2, h3]
theorem wN_xor (a b c d a' b' c' d' : Nat) (ha : a < 256) (hb : b < 256) (hc : c < 256) (hd : d < 256) (ha' : a' < 256) (hb' : b' < 256) (hc' : c' < 256) (hd' : d' < 256) :
    wN a b c d ^^^ wN a' b' c' d' = wN (a ^^^ a') (b ^^^ b') (c ^^^ c') (d ^^^ d') := by
  have e := wb_wN a b c d ha hb hc hd
  have e' := wb_wN a' b' c' d' ha' hb' hc' hd'
  have e2 := wb_wN _ _ _ _ (xor_lt8 ha ha') (xor_lt8 hb hb') (xor_lt8 hc hc') (xor_lt8 hd hd')
  refine wb_ext (xor_lt32 (wN_lt _ _ _ _ ha hb hc hd) (wN_lt _ _ _ _ ha' hb' hc' hd')) (wN_lt _ _ _ _ (xor_lt8 ha ha') (xor_lt8 hb hb') (xor_lt8 hc hc') (xor_lt8 hd hd')) ?_ ?_ ?_ ?_
  · rw [wb_xor, e.1, e'.1, e2.1]
  · rw [wb_xor, e.2.1, e'.2.1, e2.2.1]
  · rw [wb_xor, e.2.2.1, e'.2.2.1, e2.2.2.1]
  · rw [wb_xor, e.2.2.2, e'.2.2.2, e2.2.2.2]

/-! The key's words. -/
def rotW (w : Nat) : Nat := wN (wb w 1) (wb w 2) (wb w 3) (wb w 0)
def subW (w : Nat) : Nat := wN (sb (wb w 0)) (sb (wb w 1)) (sb (wb w 2)) (sb (wb w 3))
theorem rotW_lt (w : Nat) : rotW w < 4294967296 := wN_lt _ _ _ _ (wb_lt _ _) (wb_lt _ _) (wb_lt _ _) (wb_lt _ _)
theorem subW_lt (w : Nat) : subW w < 4294967296 := wN_lt _ _ _ _ (sb_lt _) (sb_lt _) (sb_lt _) (sb_lt _)
theorem wb_rotW (w : Nat) : wb (rotW w) 0 = wb w 1 ∧ wb (rotW w) 1 = wb w 2 ∧ wb (rotW w) 2 = wb w 3 ∧ wb (rotW w) 3 = wb w 0 := wb_wN _ _ _ _ (wb_lt _ _) (wb_lt _ _) (wb_lt _ _) (wb_lt _ _)
theorem wb_subW (w : Nat) : wb (subW w) 0 = sb (wb w 0) ∧ wb (subW w) 1 = sb (wb w 1) ∧ wb (subW w) 2 = sb (wb w 2) ∧ wb (subW w) 3 = sb (wb w 3) := wb_wN _ _ _ _ (sb_lt _) (sb_lt _) (sb_lt _) (sb_lt _)
/-- What the word ahead becomes. -/
def turnOf (n i t : Nat) : Nat := if i % n = 0 then subW (rotW t) ^^^ (gpow 2 (i / n - 1) * 16777216) else if n = 8 ∧ i % 8 = 4 then subW t else t
theorem turnOf_lt (n i t : Nat) (ht : t < 4294967296) : turnOf n i t < 4294967296 := by
  unfold turnOf
  have := gpow_lt 2 (i / n - 1)
  split
  · exact xor_lt32 (subW_lt _) (by omega)
  · split
    · exact subW_lt _
    · exact ht
def nextW (n : Nat) (W : List Nat) : Nat := W.getD (W.length - n) 0 ^^^ turnOf n W.length (W.getD (W.length - 1) 0)
def grow (n : Nat) : Nat → List Nat → List Nat
  | 0, W => W
  | k + 1, W => grow n k (W ++ [nextW n W])
theorem grow_succ (n : Nat) : ∀ (k : Nat) (W : List Nat), grow n (k + 1) W = grow n k W ++ [nextW n (grow n k W)] := by
  intro k
  induction k with
  | zero => intro W; rfl
  | succ k ih => intro W; exact ih (W ++ [nextW n W])
theorem grow_len (n : Nat) : ∀ (k : Nat) (W : List Nat), (grow n k W).length = W.length + k := by
  intro k
  induction k with
  | zero => intro W; rfl
  | succ k ih => intro W; rw [grow, ih]; simp; omega
def Small (W : List Nat) : Prop := ∀ x ∈ W, x < 4294967296
theorem Small.getD {W : List Nat} (h : Small W) (i : Nat) : W.getD i 0 < 4294967296 := by
  rw [List.getD_eq_getElem?_getD]
  rcases hi : W[i]? with _ | x
  · simp
  · exact h x (List.mem_of_getElem? hi)
theorem nextW_lt {W : List Nat} (h : Small W) (n : Nat) : nextW n W < 4294967296 := xor_lt32 (h.getD _) (turnOf_lt _ _ _ (h.getD _))
theorem Small.snoc {W : List Nat} (h : Small W) {x : Nat} (hx : x < 4294967296) : Small (W ++ [x]) := fun y hy => by
  rcases List.mem_append.1 hy with hy | hy
  · exact h y hy
  · rw [List.mem_singleton.1 hy]; exact hx
theorem grow_small (n : Nat) : ∀ (k : Nat) (W : List Nat), Small W → Small (grow n k W) := by
  intro k
  induction k with
  | zero => intro W h; exact h
  | succ k ih => intro W h; exact ih _ (h.snoc (nextW_lt h n))
/-- The words that the bytes of a key make. -/
def words (key : List Nat) : Nat → List Nat
  | 0 => []
  | k + 1 => words key k ++ [wN (key.getD (4 * k) 0) (key.getD (4 * k + 1) 0) (key.getD (4 * k + 2) 0) (key.getD (4 * k + 3) 0)]
theorem words_len (key : List Nat) (k : Nat) : (words key k).length = k := by
  induction k with
  | zero => rfl
  | succ k ih => simp [words, ih]
theorem getD_lt {key : List Nat} (h : ∀ x ∈ key, x < 256) (i : Nat) : key.getD i 0 < 256 := by
  rw [List.getD_eq_getElem?_getD]
  rcases hi : key[i]? with _ | x
  · simp
  · exact h x (List.mem_of_getElem? hi)
theorem words_small {key : List Nat} (h : ∀ x ∈ key, x < 256) (k : Nat) : Small (words key k) := by
  induction k with
  | zero => intro x hx; cases hx
  | succ k ih => exact ih.snoc (wN_lt _ _ _ _ (getD_lt h _) (getD_lt h _) (getD_lt h _) (getD_lt h _))
/-- All words of a key of 4n bytes. -/
def expand (key : List Nat) : List Nat := grow (key.length / 4) (4 * (key.length / 4 + 7) - key.length / 4) (words key (key.length / 4))
theorem expand_len (key : List Nat) : (expand key).length = 4 * (key.length / 4 + 7) := by
  unfold expand
  rw [grow_len, words_len]
  omega
theorem expand_small {key : List Nat} (h : ∀ x ∈ key, x < 256) : Small (expand key) := grow_small _ _ _ (words_small h _)
/-- Words, byte by byte. -/
def flat (W : List Nat) : List Nat := W.flatMap fun w => [wb w 0, wb w 1, wb w 2, wb w 3]
theorem flat_snoc (W : List Nat) (x : Nat) : flat (W ++ [x]) = flat W ++ [wb x 0, wb x 1, wb x 2, wb x 3] := by simp [flat]
theorem flat_len (W : List Nat) : (flat W).length = 4 * W.length := by
  induction W with
  | nil => rfl
  | cons x W ih => simp only [flat, List.flatMap_cons, List.length_append, List.length_cons, List.length_nil] at ih ⊢; omega
theorem flat_lt (W : List Nat) : ∀ x ∈ flat W, x < 256 := fun x hx => by
  obtain ⟨w, _, hw⟩ := List.mem_flatMap.1 hx
  simp only [List.mem_cons, List.not_mem_nil, or_false] at hw
  rcases hw with rfl | rfl | rfl | rfl <;> exact wb_lt _ _
theorem flat_at (W : List Nat) : ∀ (i j : Nat), i < W.length → j < 4 → (flat W)[4 * i + j]? = some (wb (W.getD i 0) j) := by
  induction W with
  | nil => intro i j hi; simp at hi
  | cons x W ih =>
    intro i j hi hj
    show ([wb x 0, wb x 1, wb x 2, wb x 3] ++ flat W)[4 * i + j]? = _
    cases i with
    | zero =>
      rw [List.getElem?_append_left (by simp; omega)]
      rcases (show j = 0 ∨ j = 1 ∨ j = 2 ∨ j = 3 by omega) with rfl | rfl | rfl | rfl <;> rfl
    | succ i =>
      rw [List.getElem?_append_right (by simp; omega), show 4 * (i + 1) + j - [wb x 0, wb x 1, wb x 2, wb x 3].length = 4 * i + j by simp; omega, ih i j (by simpa using hi) hj]
      rfl

/-! States: sixteen bytes, column by column. -/
/-- What is xored in a round: the round's four words, byte by byte. -/
def addK (W : List Nat) (r : Nat) (b : List Nat) : List Nat := (List.range 16).map fun i => b.getD i 0 ^^^ wb (W.getD (4 * r + i / 4) 0) (i % 4)
def sub (b : List Nat) : List Nat := (List.range 16).map fun i => sb (b.getD (4 * ((i / 4 + i % 4) % 4) + i % 4) 0)
def unsub (b : List Nat) : List Nat := (List.range 16).map fun i => bs (b.getD (4 * ((i / 4 + 4 - i % 4) % 4) + i % 4) 0)
def mixAt (f0 f1 f2 f3 : Nat) (b : List Nat) (i : Nat) : Nat :=
  gm f0 (b.getD (i / 4 * 4 + i % 4) 0) ^^^ gm f1 (b.getD (i / 4 * 4 + (i + 1) % 4) 0) ^^^ gm f2 (b.getD (i / 4 * 4 + (i + 2) % 4) 0) ^^^ gm f3 (b.getD (i / 4 * 4 + (i + 3) % 4) 0)
def mix (f0 f1 f2 f3 : Nat) (b : List Nat) : List Nat := (List.range 16).map (mixAt f0 f1 f2 f3 b)
/-- A state. -/
def St16 (b : List Nat) : Prop := b.length = 16 ∧ ∀ x ∈ b, x < 256
theorem St16.getD {b : List Nat} (h : St16 b) (i : Nat) : b.getD i 0 < 256 := getD_lt h.2 i
theorem addK_st {b : List Nat} (h : St16 b) (W : List Nat) (r : Nat) : St16 (addK W r b) := ⟨by simp [addK], fun x hx => by
  obtain ⟨i, _, rfl⟩ := List.mem_map.1 hx
  exact xor_lt8 (h.getD i) (wb_lt _ _)⟩
theorem sub_st (b : List Nat) : St16 (sub b) := ⟨by simp [sub], fun x hx => by
  obtain ⟨i, _, rfl⟩ := List.mem_map.1 hx
  exact sb_lt _⟩
theorem unsub_st (b : List Nat) : St16 (unsub b) := ⟨by simp [unsub], fun x hx => by
  obtain ⟨i, _, rfl⟩ := List.mem_map.1 hx
  exact bs_lt _⟩
theorem mixAt_lt (f0 f1 f2 f3 : Nat) (h0 : f0 < 256) (h1 : f1 < 256) (h2 : f2 < 256) (h3 : f3 < 256) (b : List Nat) (i : Nat) : mixAt f0 f1 f2 f3 b i < 256 :=
  xor_lt8 (xor_lt8 (xor_lt8 (gm_lt _ _ h0) (gm_lt _ _ h1)) (gm_lt _ _ h2)) (gm_lt _ _ h3)
theorem mix_st (f0 f1 f2 f3 : Nat) (h0 : f0 < 256) (h1 : f1 < 256) (h2 : f2 < 256) (h3 : f3 < 256) (b : List Nat) : St16 (mix f0 f1 f2 f3 b) := ⟨by simp [mix], fun x hx => by
  obtain ⟨i, _, rfl⟩ := List.mem_map.1 hx
  exact mixAt_lt _ _ _ _ h0 h1 h2 h3 b i⟩
theorem open16 {b : List Nat} (h : b.length = 16) : ∃ a0 a1 a2 a3 a4 a5 a6 a7 a8 a9 a10 a11 a12 a13 a14 a15, b = [a0, a1, a2, a3, a4, a5, a6, a7, a8, a9, a10, a11, a12, a13, a14, a15] := by
  match b, h with
  | [a0, a1, a2, a3, a4, a5, a6, a7, a8, a9, a10, a11, a12, a13, a14, a15], _ => exact ⟨a0, a1, a2, a3, a4, a5, a6, a7, a8, a9, a10, a11, a12, a13, a14, a15, rfl⟩
theorem unsub_sub {b : List Nat} (h : St16 b) : unsub (sub b) = b := by
  obtain ⟨h1, h2⟩ := h
  obtain ⟨a0, a1, a2, a3, a4, a5, a6, a7, a8, a9, a10, a11, a12, a13, a14, a15, rfl⟩ := open16 h1
  show [bs (sb a0), bs (sb a1), bs (sb a2), bs (sb a3), bs (sb a4), bs (sb a5), bs (sb a6), bs (sb a7), bs (sb a8), bs (sb a9), bs (sb a10), bs (sb a11), bs (sb a12), bs (sb a13), bs (sb a14), bs (sb a15)] = _
  simp only [List.mem_cons, List.not_mem_nil, or_false] at h2
  rw [bs_sb a0 (h2 _ (by simp)), bs_sb a1 (h2 _ (by simp)), bs_sb a2 (h2 _ (by simp)), bs_sb a3 (h2 _ (by simp)), bs_sb a4 (h2 _ (by simp)), bs_sb a5 (h2 _ (by simp)), bs_sb a6 (h2 _ (by simp)), bs_sb a7 (h2 _ (by simp)), bs_sb a8 (h2 _ (by simp)), bs_sb a9 (h2 _ (by simp)), bs_sb a10 (h2 _ (by simp)), bs_sb a11 (h2 _ (by simp)), bs_sb a12 (h2 _ (by simp)), bs_sb a13 (h2 _ (by simp)), bs_sb a14 (h2 _ (by simp)), bs_sb a15 (h2 _ (by simp))]
theorem sub_unsub {b : List Nat} (h : St16 b) : sub (unsub b) = b := by
  obtain ⟨h1, h2⟩ := h
  obtain ⟨a0, a1, a2, a3, a4, a5, a6, a7, a8, a9, a10, a11, a12, a13, a14, a15, rfl⟩ := open16 h1
  show [sb (bs a0), sb (bs a1), sb (bs a2), sb (bs a3), sb (bs a4), sb (bs a5), sb (bs a6), sb (bs a7), sb (bs a8), sb (bs a9), sb (bs a10), sb (bs a11), sb (bs a12), sb (bs a13), sb (bs a14), sb (bs a15)] = _
  simp only [List.mem_cons, List.not_mem_nil, or_false] at h2
  rw [sb_bs a0 (h2 _ (by simp)), sb_bs a1 (h2 _ (by simp)), sb_bs a2 (h2 _ (by simp)), sb_bs a3 (h2 _ (by simp)), sb_bs a4 (h2 _ (by simp)), sb_bs a5 (h2 _ (by simp)), sb_bs a6 (h2 _ (by simp)), sb_bs a7 (h2 _ (by simp)), sb_bs a8 (h2 _ (by simp)), sb_bs a9 (h2 _ (by simp)), sb_bs a10 (h2 _ (by simp)), sb_bs a11 (h2 _ (by simp)), sb_bs a12 (h2 _ (by simp)), sb_bs a13 (h2 _ (by simp)), sb_bs a14 (h2 _ (by simp)), sb_bs a15 (h2 _ (by simp))]
theorem xor_back (x k : Nat) : x ^^^ k ^^^ k = x := by rw [Nat.xor_assoc, Nat.xor_self, Nat.xor_zero]
theorem addK_addK {b : List Nat} (h : b.length = 16) (W : List Nat) (r : Nat) : addK W r (addK W r b) = b := by
  obtain ⟨a0, a1, a2, a3, a4, a5, a6, a7, a8, a9, a10, a11, a12, a13, a14, a15, rfl⟩ := open16 h
  simp only [addK, List.range, List.range.loop, List.map_cons, List.map_nil]
  simp only [List.getD_cons_zero, List.getD_cons_succ, xor_back]

/-! A column that is mixed and led back. -/
theorem led (x : Nat) (hx : x < 256) : gm 14 (gm 2 x) ^^^ gm 11 (gm 1 x) ^^^ gm 13 (gm 1 x) ^^^ gm 9 (gm 3 x) = x ∧ gm 14 (gm 3 x) ^^^ gm 11 (gm 2 x) ^^^ gm 13 (gm 1 x) ^^^ gm 9 (gm 1 x) = 0 ∧
    gm 14 (gm 1 x) ^^^ gm 11 (gm 3 x) ^^^ gm 13 (gm 2 x) ^^^ gm 9 (gm 1 x) = 0 ∧ gm 14 (gm 1 x) ^^^ gm 11 (gm 1 x) ^^^ gm 13 (gm 3 x) ^^^ gm 9 (gm 2 x) = 0 ∧
    gm 2 (gm 14 x) ^^^ gm 3 (gm 9 x) ^^^ gm 1 (gm 13 x) ^^^ gm 1 (gm 11 x) = x ∧ gm 2 (gm 11 x) ^^^ gm 3 (gm 14 x) ^^^ gm 1 (gm 9 x) ^^^ gm 1 (gm 13 x) = 0 ∧
    gm 2 (gm 13 x) ^^^ gm 3 (gm 11 x) ^^^ gm 1 (gm 14 x) ^^^ gm 1 (gm 9 x) = 0 ∧ gm 2 (gm 9 x) ^^^ gm 3 (gm 13 x) ^^^ gm 1 (gm 11 x) ^^^ gm 1 (gm 14 x) = 0 := by
  revert x
  decide +kernel
theorem xor16 (a b c d e f g h i j k l m n o p : Nat) : (a ^^^ b ^^^ c ^^^ d) ^^^ (e ^^^ f ^^^ g ^^^ h) ^^^ (i ^^^ j ^^^ k ^^^ l) ^^^ (m ^^^ n ^^^ o ^^^ p) =
    (a ^^^ h ^^^ k ^^^ n) ^^^ (b ^^^ e ^^^ l ^^^ o) ^^^ (c ^^^ f ^^^ i ^^^ p) ^^^ (d ^^^ g ^^^ j ^^^ m) := by ac_rfl
theorem col_led (x y z t : Nat) (hx : x < 256) (hy : y < 256) (hz : z < 256) (ht : t < 256) :
    gm 14 (gm 2 x ^^^ gm 3 y ^^^ gm 1 z ^^^ gm 1 t) ^^^ gm 11 (gm 2 y ^^^ gm 3 z ^^^ gm 1 t ^^^ gm 1 x) ^^^ gm 13 (gm 2 z ^^^ gm 3 t ^^^ gm 1 x ^^^ gm 1 y) ^^^ gm 9 (gm 2 t ^^^ gm 3 x ^^^ gm 1 y ^^^ gm 1 z) = x := by
  simp only [gm_xor 14 _ _ (show 14 < 256 by omega), gm_xor 11 _ _ (show 11 < 256 by omega), gm_xor 13 _ _ (show 13 < 256 by omega), gm_xor 9 _ _ (show 9 < 256 by omega)]
  rw [xor16, (led x hx).1, (led y hy).2.1, (led z hz).2.2.1, (led t ht).2.2.2.1]
  simp
theorem col_led' (x y z t : Nat) (hx : x < 256) (hy : y < 256) (hz : z < 256) (ht : t < 256) :
    gm 2 (gm 14 x ^^^ gm 11 y ^^^ gm 13 z ^^^ gm 9 t) ^^^ gm 3 (gm 14 y ^^^ gm 11 z ^^^ gm 13 t ^^^ gm 9 x) ^^^ gm 1 (gm 14 z ^^^ gm 11 t ^^^ gm 13 x ^^^ gm 9 y) ^^^ gm 1 (gm 14 t ^^^ gm 11 x ^^^ gm 13 y ^^^ gm 9 z) = x := by
  simp only [gm_xor 2 _ _ (show 2 < 256 by omega), gm_xor 3 _ _ (show 3 < 256 by omega), gm_xor 1 _ _ (show 1 < 256 by omega)]
  rw [xor16, (led x hx).2.2.2.2.1, (led y hy).2.2.2.2.2.1, (led z hz).2.2.2.2.2.2.1, (led t ht).2.2.2.2.2.2.2]
  simp
set_option maxRecDepth 100000 in
theorem unmix_mix {b : List Nat} (h : St16 b) : mix 14 11 13 9 (mix 2 3 1 1 b) = b := by
  obtain ⟨h1, h2⟩ := h
  obtain ⟨a0, a1, a2, a3, a4, a5, a6, a7, a8, a9, a10, a11, a12, a13, a14, a15, rfl⟩ := open16 h1
  have e : ∀ x ∈ [a0, a1, a2, a3, a4, a5, a6, a7, a8, a9, a10, a11, a12, a13, a14, a15], x < 256 := h2
  simp only [List.mem_cons, List.not_mem_nil, or_false] at h2
  have g0 := h2 a0 (by simp)
  have g1 := h2 a1 (by simp)
  have g2 := h2 a2 (by simp)
  have g3 := h2 a3 (by simp)
  have g4 := h2 a4 (by simp)
  have g5 := h2 a5 (by simp)
  have g6 := h2 a6 (by simp)
  have g7 := h2 a7 (by simp)
  have g8 := h2 a8 (by simp)
  have g9 := h2 a9 (by simp)
  have g10 := h2 a10 (by simp)
  have g11 := h2 a11 (by simp)
  have g12 := h2 a12 (by simp)
  have g13 := h2 a13 (by simp)
  have g14 := h2 a14 (by simp)
  have g15 := h2 a15 (by simp)
  clear e h2
  show [gm 14 (gm 2 a0 ^^^ gm 3 a1 ^^^ gm 1 a2 ^^^ gm 1 a3) ^^^ gm 11 (gm 2 a1 ^^^ gm 3 a2 ^^^ gm 1 a3 ^^^ gm 1 a0) ^^^ gm 13 (gm 2 a2 ^^^ gm 3 a3 ^^^ gm 1 a0 ^^^ gm 1 a1) ^^^ gm 9 (gm 2 a3 ^^^ gm 3 a0 ^^^ gm 1 a1 ^^^ gm 1 a2), gm 14 (gm 2 a1 ^^^ gm 3 a2 ^^^ gm 1 a3 ^^^ gm 1 a0) ^^^ gm 11 (gm 2 a2 ^^^ gm 3 a3 ^^^ gm 1 a0 ^^^ gm 1 a1) ^^^ gm 13 (gm 2 a3 ^^^ gm 3 a0 ^^^ gm 1 a1 ^^^ gm 1 a2) ^^^ gm 9 (gm 2 a0 ^^^ gm 3 a1 ^^^ gm 1 a2 ^^^ gm 1 a3), gm 14 (gm 2 a2 ^^^ gm 3 a3 ^^^ gm 1 a0 ^^^ gm 1 a1) ^^^ gm 11 (gm 2 a3 ^^^ gm 3 a0 ^^^ gm 1 a1 ^^^ gm 1 a2) ^^^ gm 13 (gm 2 a0 ^^^ gm 3 a1 ^^^ gm 1 a2 ^^^ gm 1 a3) ^^^ gm 9 (gm 2 a1 ^^^ gm 3 a2 ^^^ gm 1 a3 ^^^ gm 1 a0), gm 14 (gm 2 a3 ^^^ gm 3 a0 ^^^ gm 1 a1 ^^^ gm 1 a2) ^^^ gm 11 (gm 2 a0 ^^^ gm 3 a1 ^^^ gm 1 a2 ^^^ gm 1 a3) ^^^ gm 13 (gm 2 a1 ^^^ gm 3 a2 ^^^ gm 1 a3 ^^^ gm 1 a0) ^^^ gm 9 (gm 2 a2 ^^^ gm 3 a3 ^^^ gm 1 a0 ^^^ gm 1 a1), gm 14 (gm 2 a4 ^^^ gm 3 a5 ^^^ gm 1 a6 ^^^ gm 1 a7) ^^^ gm 11 (gm 2 a5 ^^^ gm 3 a6 ^^^ gm 1 a7 ^^^ gm 1 a4) ^^^ gm 13 (gm 2 a6 ^^^ gm 3 a7 ^^^ gm 1 a4 ^^^ gm 1 a5) ^^^ gm 9 (gm 2 a7 ^^^ gm 3 a4 ^^^ gm 1 a5 ^^^ gm 1 a6), gm 14 (gm 2 a5 ^^^ gm 3 a6 ^^^ gm 1 a7 ^^^ gm 1 a4) ^^^ gm 11 (gm 2 a6 ^^^ gm 3 a7 ^^^ gm 1 a4 ^^^ gm 1 a5) ^^^ gm 13 (gm 2 a7 ^^^ gm 3 a4 ^^^ gm 1 a5 ^^^ gm 1 a6) ^^^ gm 9 (gm 2 a4 ^^^ gm 3 a5 ^^^ gm 1 a6 ^^^ gm 1 a7), gm 14 (gm 2 a6 ^^^ gm 3 a7 ^^^ gm 1 a4 ^^^ gm 1 a5) ^^^ gm 11 (gm 2 a7 ^^^ gm 3 a4 ^^^ gm 1 a5 ^^^ gm 1 a6) ^^^ gm 13 (gm 2 a4 ^^^ gm 3 a5 ^^^ gm 1 a6 ^^^ gm 1 a7) ^^^ gm 9 (gm 2 a5 ^^^ gm 3 a6 ^^^ gm 1 a7 ^^^ gm 1 a4), gm 14 (gm 2 a7 ^^^ gm 3 a4 ^^^ gm 1 a5 ^^^ gm 1 a6) ^^^ gm 11 (gm 2 a4 ^^^ gm 3 a5 ^^^ gm 1 a6 ^^^ gm 1 a7) ^^^ gm 13 (gm 2 a5 ^^^ gm 3 a6 ^^^ gm 1 a7 ^^^ gm 1 a4) ^^^ gm 9 (gm 2 a6 ^^^ gm 3 a7 ^^^ gm 1 a4 ^^^ gm 1 a5), gm 14 (gm 2 a8 ^^^ gm 3 a9 ^^^ gm 1 a10 ^^^ gm 1 a11) ^^^ gm 11 (gm 2 a9 ^^^ gm 3 a10 ^^^ gm 1 a11 ^^^ gm 1 a8) ^^^ gm 13 (gm 2 a10 ^^^ gm 3 a11 ^^^ gm 1 a8 ^^^ gm 1 a9) ^^^ gm 9 (gm 2 a11 ^^^ gm 3 a8 ^^^ gm 1 a9 ^^^ gm 1 a10), gm 14 (gm 2 a9 ^^^ gm 3 a10 ^^^ gm 1 a11 ^^^ gm 1 a8) ^^^ gm 11 (gm 2 a10 ^^^ gm 3 a11 ^^^ gm 1 a8 ^^^ gm 1 a9) ^^^ gm 13 (gm 2 a11 ^^^ gm 3 a8 ^^^ gm 1 a9 ^^^ gm 1 a10) ^^^ gm 9 (gm 2 a8 ^^^ gm 3 a9 ^^^ gm 1 a10 ^^^ gm 1 a11), gm 14 (gm 2 a10 ^^^ gm 3 a11 ^^^ gm 1 a8 ^^^ gm 1 a9) ^^^ gm 11 (gm 2 a11 ^^^ gm 3 a8 ^^^ gm 1 a9 ^^^ gm 1 a10) ^^^ gm 13 (gm 2 a8 ^^^ gm 3 a9 ^^^ gm 1 a10 ^^^ gm 1 a11) ^^^ gm 9 (gm 2 a9 ^^^ gm 3 a10 ^^^ gm 1 a11 ^^^ gm 1 a8), gm 14 (gm 2 a11 ^^^ gm 3 a8 ^^^ gm 1 a9 ^^^ gm 1 a10) ^^^ gm 11 (gm 2 a8 ^^^ gm 3 a9 ^^^ gm 1 a10 ^^^ gm 1 a11) ^^^ gm 13 (gm 2 a9 ^^^ gm 3 a10 ^^^ gm 1 a11 ^^^ gm 1 a8) ^^^ gm 9 (gm 2 a10 ^^^ gm 3 a11 ^^^ gm 1 a8 ^^^ gm 1 a9), gm 14 (gm 2 a12 ^^^ gm 3 a13 ^^^ gm 1 a14 ^^^ gm 1 a15) ^^^ gm 11 (gm 2 a13 ^^^ gm 3 a14 ^^^ gm 1 a15 ^^^ gm 1 a12) ^^^ gm 13 (gm 2 a14 ^^^ gm 3 a15 ^^^ gm 1 a12 ^^^ gm 1 a13) ^^^ gm 9 (gm 2 a15 ^^^ gm 3 a12 ^^^ gm 1 a13 ^^^ gm 1 a14), gm 14 (gm 2 a13 ^^^ gm 3 a14 ^^^ gm 1 a15 ^^^ gm 1 a12) ^^^ gm 11 (gm 2 a14 ^^^ gm 3 a15 ^^^ gm 1 a12 ^^^ gm 1 a13) ^^^ gm 13 (gm 2 a15 ^^^ gm 3 a12 ^^^ gm 1 a13 ^^^ gm 1 a14) ^^^ gm 9 (gm 2 a12 ^^^ gm 3 a13 ^^^ gm 1 a14 ^^^ gm 1 a15), gm 14 (gm 2 a14 ^^^ gm 3 a15 ^^^ gm 1 a12 ^^^ gm 1 a13) ^^^ gm 11 (gm 2 a15 ^^^ gm 3 a12 ^^^ gm 1 a13 ^^^ gm 1 a14) ^^^ gm 13 (gm 2 a12 ^^^ gm 3 a13 ^^^ gm 1 a14 ^^^ gm 1 a15) ^^^ gm 9 (gm 2 a13 ^^^ gm 3 a14 ^^^ gm 1 a15 ^^^ gm 1 a12), gm 14 (gm 2 a15 ^^^ gm 3 a12 ^^^ gm 1 a13 ^^^ gm 1 a14) ^^^ gm 11 (gm 2 a12 ^^^ gm 3 a13 ^^^ gm 1 a14 ^^^ gm 1 a15) ^^^ gm 13 (gm 2 a13 ^^^ gm 3 a14 ^^^ gm 1 a15 ^^^ gm 1 a12) ^^^ gm 9 (gm 2 a14 ^^^ gm 3 a15 ^^^ gm 1 a12 ^^^ gm 1 a13)] = _
  rw [col_led a0 a1 a2 a3 g0 g1 g2 g3]
  rw [col_led a1 a2 a3 a0 g1 g2 g3 g0]
  rw [col_led a2 a3 a0 a1 g2 g3 g0 g1]
  rw [col_led a3 a0 a1 a2 g3 g0 g1 g2]
  rw [col_led a4 a5 a6 a7 g4 g5 g6 g7]
  rw [col_led a5 a6 a7 a4 g5 g6 g7 g4]
  rw [col_led a6 a7 a4 a5 g6 g7 g4 g5]
  rw [col_led a7 a4 a5 a6 g7 g4 g5 g6]
  rw [col_led a8 a9 a10 a11 g8 g9 g10 g11]
  rw [col_led a9 a10 a11 a8 g9 g10 g11 g8]
  rw [col_led a10 a11 a8 a9 g10 g11 g8 g9]
  rw [col_led a11 a8 a9 a10 g11 g8 g9 g10]
  rw [col_led a12 a13 a14 a15 g12 g13 g14 g15]
  rw [col_led a13 a14 a15 a12 g13 g14 g15 g12]
  rw [col_led a14 a15 a12 a13 g14 g15 g12 g13]
  rw [col_led a15 a12 a13 a14 g15 g12 g13 g14]
set_option maxRecDepth 100000 in
theorem mix_unmix {b : List Nat} (h : St16 b) : mix 2 3 1 1 (mix 14 11 13 9 b) = b := by
  obtain ⟨h1, h2⟩ := h
  obtain ⟨a0, a1, a2, a3, a4, a5, a6, a7, a8, a9, a10, a11, a12, a13, a14, a15, rfl⟩ := open16 h1
  have e : ∀ x ∈ [a0, a1, a2, a3, a4, a5, a6, a7, a8, a9, a10, a11, a12, a13, a14, a15], x < 256 := h2
  simp only [List.mem_cons, List.not_mem_nil, or_false] at h2
  have g0 := h2 a0 (by simp)
  have g1 := h2 a1 (by simp)
  have g2 := h2 a2 (by simp)
  have g3 := h2 a3 (by simp)
  have g4 := h2 a4 (by simp)
  have g5 := h2 a5 (by simp)
  have g6 := h2 a6 (by simp)
  have g7 := h2 a7 (by simp)
  have g8 := h2 a8 (by simp)
  have g9 := h2 a9 (by simp)
  have g10 := h2 a10 (by simp)
  have g11 := h2 a11 (by simp)
  have g12 := h2 a12 (by simp)
  have g13 := h2 a13 (by simp)
  have g14 := h2 a14 (by simp)
  have g15 := h2 a15 (by simp)
  clear e h2
  show [gm 2 (gm 14 a0 ^^^ gm 11 a1 ^^^ gm 13 a2 ^^^ gm 9 a3) ^^^ gm 3 (gm 14 a1 ^^^ gm 11 a2 ^^^ gm 13 a3 ^^^ gm 9 a0) ^^^ gm 1 (gm 14 a2 ^^^ gm 11 a3 ^^^ gm 13 a0 ^^^ gm 9 a1) ^^^ gm 1 (gm 14 a3 ^^^ gm 11 a0 ^^^ gm 13 a1 ^^^ gm 9 a2), gm 2 (gm 14 a1 ^^^ gm 11 a2 ^^^ gm 13 a3 ^^^ gm 9 a0) ^^^ gm 3 (gm 14 a2 ^^^ gm 11 a3 ^^^ gm 13 a0 ^^^ gm 9 a1) ^^^ gm 1 (gm 14 a3 ^^^ gm 11 a0 ^^^ gm 13 a1 ^^^ gm 9 a2) ^^^ gm 1 (gm 14 a0 ^^^ gm 11 a1 ^^^ gm 13 a2 ^^^ gm 9 a3), gm 2 (gm 14 a2 ^^^ gm 11 a3 ^^^ gm 13 a0 ^^^ gm 9 a1) ^^^ gm 3 (gm 14 a3 ^^^ gm 11 a0 ^^^ gm 13 a1 ^^^ gm 9 a2) ^^^ gm 1 (gm 14 a0 ^^^ gm 11 a1 ^^^ gm 13 a2 ^^^ gm 9 a3) ^^^ gm 1 (gm 14 a1 ^^^ gm 11 a2 ^^^ gm 13 a3 ^^^ gm 9 a0), gm 2 (gm 14 a3 ^^^ gm 11 a0 ^^^ gm 13 a1 ^^^ gm 9 a2) ^^^ gm 3 (gm 14 a0 ^^^ gm 11 a1 ^^^ gm 13 a2 ^^^ gm 9 a3) ^^^ gm 1 (gm 14 a1 ^^^ gm 11 a2 ^^^ gm 13 a3 ^^^ gm 9 a0) ^^^ gm 1 (gm 14 a2 ^^^ gm 11 a3 ^^^ gm 13 a0 ^^^ gm 9 a1), gm 2 (gm 14 a4 ^^^ gm 11 a5 ^^^ gm 13 a6 ^^^ gm 9 a7) ^^^ gm 3 (gm 14 a5 ^^^ gm 11 a6 ^^^ gm 13 a7 ^^^ gm 9 a4) ^^^ gm 1 (gm 14 a6 ^^^ gm 11 a7 ^^^ gm 13 a4 ^^^ gm 9 a5) ^^^ gm 1 (gm 14 a7 ^^^ gm 11 a4 ^^^ gm 13 a5 ^^^ gm 9 a6), gm 2 (gm 14 a5 ^^^ gm 11 a6 ^^^ gm 13 a7 ^^^ gm 9 a4) ^^^ gm 3 (gm 14 a6 ^^^ gm 11 a7 ^^^ gm 13 a4 ^^^ gm 9 a5) ^^^ gm 1 (gm 14 a7 ^^^ gm 11 a4 ^^^ gm 13 a5 ^^^ gm 9 a6) ^^^ gm 1 (gm 14 a4 ^^^ gm 11 a5 ^^^ gm 13 a6 ^^^ gm 9 a7), gm 2 (gm 14 a6 ^^^ gm 11 a7 ^^^ gm 13 a4 ^^^ gm 9 a5) ^^^ gm 3 (gm 14 a7 ^^^ gm 11 a4 ^^^ gm 13 a5 ^^^ gm 9 a6) ^^^ gm 1 (gm 14 a4 ^^^ gm 11 a5 ^^^ gm 13 a6 ^^^ gm 9 a7) ^^^ gm 1 (gm 14 a5 ^^^ gm 11 a6 ^^^ gm 13 a7 ^^^ gm 9 a4), gm 2 (gm 14 a7 ^^^ gm 11 a4 ^^^ gm 13 a5 ^^^ gm 9 a6) ^^^ gm 3 (gm 14 a4 ^^^ gm 11 a5 ^^^ gm 13 a6 ^^^ gm 9 a7) ^^^ gm 1 (gm 14 a5 ^^^ gm 11 a6 ^^^ gm 13 a7 ^^^ gm 9 a4) ^^^ gm 1 (gm 14 a6 ^^^ gm 11 a7 ^^^ gm 13 a4 ^^^ gm 9 a5), gm 2 (gm 14 a8 ^^^ gm 11 a9 ^^^ gm 13 a10 ^^^ gm 9 a11) ^^^ gm 3 (gm 14 a9 ^^^ gm 11 a10 ^^^ gm 13 a11 ^^^ gm 9 a8) ^^^ gm 1 (gm 14 a10 ^^^ gm 11 a11 ^^^ gm 13 a8 ^^^ gm 9 a9) ^^^ gm 1 (gm 14 a11 ^^^ gm 11 a8 ^^^ gm 13 a9 ^^^ gm 9 a10), gm 2 (gm 14 a9 ^^^ gm 11 a10 ^^^ gm 13 a11 ^^^ gm 9 a8) ^^^ gm 3 (gm 14 a10 ^^^ gm 11 a11 ^^^ gm 13 a8 ^^^ gm 9 a9) ^^^ gm 1 (gm 14 a11 ^^^ gm 11 a8 ^^^ gm 13 a9 ^^^ gm 9 a10) ^^^ gm 1 (gm 14 a8 ^^^ gm 11 a9 ^^^ gm 13 a10 ^^^ gm 9 a11), gm 2 (gm 14 a10 ^^^ gm 11 a11 ^^^ gm 13 a8 ^^^ gm 9 a9) ^^^ gm 3 (gm 14 a11 ^^^ gm 11 a8 ^^^ gm 13 a9 ^^^ gm 9 a10) ^^^ gm 1 (gm 14 a8 ^^^ gm 11 a9 ^^^ gm 13 a10 ^^^ gm 9 a11) ^^^ gm 1 (gm 14 a9 ^^^ gm 11 a10 ^^^ gm 13 a11 ^^^ gm 9 a8), gm 2 (gm 14 a11 ^^^ gm 11 a8 ^^^ gm 13 a9 ^^^ gm 9 a10) ^^^ gm 3 (gm 14 a8 ^^^ gm 11 a9 ^^^ gm 13 a10 ^^^ gm 9 a11) ^^^ gm 1 (gm 14 a9 ^^^ gm 11 a10 ^^^ gm 13 a11 ^^^ gm 9 a8) ^^^ gm 1 (gm 14 a10 ^^^ gm 11 a11 ^^^ gm 13 a8 ^^^ gm 9 a9), gm 2 (gm 14 a12 ^^^ gm 11 a13 ^^^ gm 13 a14 ^^^ gm 9 a15) ^^^ gm 3 (gm 14 a13 ^^^ gm 11 a14 ^^^ gm 13 a15 ^^^ gm 9 a12) ^^^ gm 1 (gm 14 a14 ^^^ gm 11 a15 ^^^ gm 13 a12 ^^^ gm 9 a13) ^^^ gm 1 (gm 14 a15 ^^^ gm 11 a12 ^^^ gm 13 a13 ^^^ gm 9 a14), gm 2 (gm 14 a13 ^^^ gm 11 a14 ^^^ gm 13 a15 ^^^ gm 9 a12) ^^^ gm 3 (gm 14 a14 ^^^ gm 11 a15 ^^^ gm 13 a12 ^^^ gm 9 a13) ^^^ gm 1 (gm 14 a15 ^^^ gm 11 a12 ^^^ gm 13 a13 ^^^ gm 9 a14) ^^^ gm 1 (gm 14 a12 ^^^ gm 11 a13 ^^^ gm 13 a14 ^^^ gm 9 a15), gm 2 (gm 14 a14 ^^^ gm 11 a15 ^^^ gm 13 a12 ^^^ gm 9 a13) ^^^ gm 3 (gm 14 a15 ^^^ gm 11 a12 ^^^ gm 13 a13 ^^^ gm 9 a14) ^^^ gm 1 (gm 14 a12 ^^^ gm 11 a13 ^^^ gm 13 a14 ^^^ gm 9 a15) ^^^ gm 1 (gm 14 a13 ^^^ gm 11 a14 ^^^ gm 13 a15 ^^^ gm 9 a12), gm 2 (gm 14 a15 ^^^ gm 11 a12 ^^^ gm 13 a13 ^^^ gm 9 a14) ^^^ gm 3 (gm 14 a12 ^^^ gm 11 a13 ^^^ gm 13 a14 ^^^ gm 9 a15) ^^^ gm 1 (gm 14 a13 ^^^ gm 11 a14 ^^^ gm 13 a15 ^^^ gm 9 a12) ^^^ gm 1 (gm 14 a14 ^^^ gm 11 a15 ^^^ gm 13 a12 ^^^ gm 9 a13)] = _
  rw [col_led' a0 a1 a2 a3 g0 g1 g2 g3]
  rw [col_led' a1 a2 a3 a0 g1 g2 g3 g0]
  rw [col_led' a2 a3 a0 a1 g2 g3 g0 g1]
  rw [col_led' a3 a0 a1 a2 g3 g0 g1 g2]
  rw [col_led' a4 a5 a6 a7 g4 g5 g6 g7]
  rw [col_led' a5 a6 a7 a4 g5 g6 g7 g4]
  rw [col_led' a6 a7 a4 a5 g6 g7 g4 g5]
  rw [col_led' a7 a4 a5 a6 g7 g4 g5 g6]
  rw [col_led' a8 a9 a10 a11 g8 g9 g10 g11]
  rw [col_led' a9 a10 a11 a8 g9 g10 g11 g8]
  rw [col_led' a10 a11 a8 a9 g10 g11 g8 g9]
  rw [col_led' a11 a8 a9 a10 g11 g8 g9 g10]
  rw [col_led' a12 a13 a14 a15 g12 g13 g14 g15]
  rw [col_led' a13 a14 a15 a12 g13 g14 g15 g12]
  rw [col_led' a14 a15 a12 a13 g14 g15 g12 g13]
  rw [col_led' a15 a12 a13 a14 g15 g12 g13 g14]

/-! The rounds. -/
def encF (W : List Nat) : Nat → List Nat → List Nat
  | 0, b => addK W 0 b
  | k + 1, b => addK W (k + 1) (mix 2 3 1 1 (sub (encF W k b)))
def enc (W : List Nat) (R : Nat) (b : List Nat) : List Nat := addK W R (sub (encF W (R - 1) b))
def decF (W : List Nat) (R : Nat) : Nat → List Nat → List Nat
  | 0, b => b
  | k + 1, b => unsub (if k = 0 then addK W R b else mix 14 11 13 9 (addK W (R - k) (decF W R k b)))
def dec (W : List Nat) (R : Nat) (b : List Nat) : List Nat := addK W 0 (decF W R R b)
theorem encF_st {b : List Nat} (h : St16 b) (W : List Nat) (k : Nat) : St16 (encF W k b) := by
  cases k with
  | zero => exact addK_st h W 0
  | succ k => exact addK_st (mix_st 2 3 1 1 (by omega) (by omega) (by omega) (by omega) _) W (k + 1)
theorem enc_st (b : List Nat) (W : List Nat) (R : Nat) : St16 (enc W R b) := addK_st (sub_st _) W R
theorem decF_st {b : List Nat} (h : St16 b) (W : List Nat) (R k : Nat) : St16 (decF W R k b) := by
  cases k with
  | zero => exact h
  | succ k => exact unsub_st _
theorem dec_st {b : List Nat} (h : St16 b) (W : List Nat) (R : Nat) : St16 (dec W R b) := addK_st (decF_st h W R R) W 0
theorem decF_enc {b : List Nat} (h : St16 b) (W : List Nat) (R : Nat) : ∀ k, k < R → decF W R (k + 1) (enc W R b) = encF W (R - 1 - k) b := by
  intro k
  induction k with
  | zero =>
    intro _
    show unsub (addK W R (addK W R (sub (encF W (R - 1) b)))) = _
    rw [addK_addK (sub_st _).1, unsub_sub (encF_st h W _)]
    rfl
  | succ k ih =>
    intro hk
    show unsub (if k + 1 = 0 then _ else mix 14 11 13 9 (addK W (R - (k + 1)) (decF W R (k + 1) (enc W R b)))) = _
    rw [if_neg (by omega), ih (by omega)]
    obtain ⟨m, hm⟩ : ∃ m, R - 1 - k = m + 1 := ⟨R - 1 - k - 1, by omega⟩
    rw [hm, show R - (k + 1) = m + 1 by omega, show R - 1 - (k + 1) = m by omega]
    show unsub (mix 14 11 13 9 (addK W (m + 1) (addK W (m + 1) (mix 2 3 1 1 (sub (encF W m b)))))) = _
    rw [addK_addK (mix_st 2 3 1 1 (by omega) (by omega) (by omega) (by omega) _).1, unmix_mix (sub_st _), unsub_sub (encF_st h W _)]
theorem dec_enc {b : List Nat} (h : St16 b) (W : List Nat) (R : Nat) (hR : 0 < R) : dec W R (enc W R b) = b := by
  unfold dec
  obtain ⟨m, rfl⟩ : ∃ m, R = m + 1 := ⟨R - 1, by omega⟩
  rw [decF_enc h W (m + 1) m (by omega), show m + 1 - 1 - m = 0 by omega]
  exact addK_addK h.1 W 0
theorem encF_dec {b : List Nat} (h : St16 b) (W : List Nat) (R : Nat) : ∀ j, j < R → encF W j (dec W R b) = decF W R (R - j) b := by
  intro j
  induction j with
  | zero =>
    intro _
    exact addK_addK (decF_st h W R R).1 W 0
  | succ j ih =>
    intro hj
    show addK W (j + 1) (mix 2 3 1 1 (sub (encF W j (dec W R b)))) = _
    rw [ih (by omega)]
    obtain ⟨m, hm⟩ : ∃ m, R - j = m + 2 := ⟨R - j - 2, by omega⟩
    rw [hm, show R - (j + 1) = m + 1 by omega]
    show addK W (j + 1) (mix 2 3 1 1 (sub (unsub (if m + 1 = 0 then _ else mix 14 11 13 9 (addK W (R - (m + 1)) (decF W R (m + 1) b)))))) = _
    rw [if_neg (by omega), sub_unsub (mix_st 14 11 13 9 (by omega) (by omega) (by omega) (by omega) _), mix_unmix (addK_st (decF_st h W R _) W _), show R - (m + 1) = j + 1 by omega, addK_addK (decF_st h W R _).1]
theorem enc_dec {b : List Nat} (h : St16 b) (W : List Nat) (R : Nat) (hR : 0 < R) : enc W R (dec W R b) = b := by
  unfold enc
  rw [encF_dec h W R (R - 1) (by omega), show R - (R - 1) = 0 + 1 by omega]
  show addK W R (sub (unsub (addK W R b))) = b
  rw [sub_unsub (addK_st h W R), addK_addK h.1]
theorem enc_inj {a b : List Nat} (ha : St16 a) (hb : St16 b) (W : List Nat) (R : Nat) (hR : 0 < R) (e : enc W R a = enc W R b) : a = b := by
  rw [← dec_enc ha W R hR, e, dec_enc hb W R hR]
theorem dec_inj {a b : List Nat} (ha : St16 a) (hb : St16 b) (W : List Nat) (R : Nat) (hR : 0 < R) (e : dec W R a = dec W R b) : a = b := by
  rw [← enc_dec ha W R hR, e, enc_dec hb W R hR]
end Aes

namespace Go.Proofs.Ytpeibkdcglkimaa
open Go.ChangeShapes Go.WideShapes Go.ChangeAt Go.RowKit

/-- What the proof's shell says of a slice of integers. -/
def RowSaid (k : IntKind) (w : World) (a : Option Addr) (len cap : Nat) (zs : List Int) : Prop :=
  (a = none ∧ len = 0 ∧ cap = 0 ∧ zs = []) ∨
  ∃ x, a = some x ∧ len ≤ cap ∧ cap ≤ maxLen ∧ zs.length = cap ∧ (∀ i, i < zs.length → w.cell? (x.add i) = some (.int k (zs.getD i 0))) ∧ ∀ n ∈ zs, (Lit.int k n).wf = true

/-- The slice (a, len) holds the numbers xs. -/
def IntsIn (w : World) (k : IntKind) (a : Option Addr) (len : Nat) (xs : List Nat) : Prop :=
  xs.length = len ∧ (∀ n ∈ xs, (Lit.int k (n : Int)).wf = true) ∧
  (0 < len → ∃ b off, a = some ⟨b, off, none⟩ ∧ b < w.heap.size ∧ ∀ j n : Nat, xs[j]? = some n → w.cell? ⟨b, off + j, none⟩ = some (.int k (n : Int)))

theorem intsIn_of_row {k : IntKind} (hk : ∀ n : Int, (Lit.int k n).wf = true → 0 ≤ n) {w : World} {a : Option Addr} {len cap : Nat} {zs : List Int} (h : RowSaid k w a len cap zs) :
    len ≤ maxLen ∧ len ≤ cap ∧ ∃ xs, IntsIn w k a len xs := by
  rcases h with ⟨rfl, rfl, rfl, rfl⟩ | ⟨x, rfl, hlc, hcm, hl, hc, hw⟩
  · exact ⟨by unfold maxLen; omega, by omega, [], rfl, by simp, fun h => absurd h (by omega)⟩
  · refine ⟨by omega, hlc, (zs.take len).map Int.toNat, by simp; omega, ?_, ?_⟩
    · intro n hn
      obtain ⟨z, hz, rfl⟩ := List.mem_map.1 hn
      have hz' := hw z (List.mem_of_mem_take hz)
      rw [Int.toNat_of_nonneg (hk z hz')]
      exact hz'
    · intro hpos
      obtain ⟨b, off, rfl, hb⟩ := ints_at hc (by omega)
      refine ⟨b, off, rfl, World.block_lt_of_cell? _ _ (hb 0 (by omega)), fun j n hn => ?_⟩
      rw [List.getElem?_map, Option.map_eq_some_iff] at hn
      obtain ⟨z, hz, rfl⟩ := hn
      have hjl : j < (zs.take len).length := (List.getElem?_eq_some_iff.1 hz).1
      have hjz : j < zs.length := by
        rw [List.length_take] at hjl
        omega
      have hz2 : zs[j]? = some z := by
        rw [List.getElem?_take] at hz
        split at hz
        · exact hz
        · cases hz
      rw [hb j hjz, List.getD_eq_getElem?_getD, hz2]
      have hz' := hw z (List.mem_of_getElem? hz2)
      rw [Int.toNat_of_nonneg (hk z hz')]
      rfl

theorem u8_nonneg (n : Int) (h : (Lit.int .u8 n).wf = true) : 0 ≤ n := (bounds_u8 h).1
theorem u32_nonneg (n : Int) (h : (Lit.int .u32 n).wf = true) : 0 ≤ n := (bounds_u32 h).1
theorem u64_nonneg (n : Int) (h : (Lit.int .u64 n).wf = true) : 0 ≤ n := (bounds_u64 h).1

theorem IntsIn.keep {w w' : World} {k : IntKind} {a : Option Addr} {len : Nat} {xs : List Nat} (h : IntsIn w k a len xs) (hb : Below w.heap.size w w') : IntsIn w' k a len xs :=
  ⟨h.1, h.2.1, fun hp => by
    obtain ⟨b, off, rfl, hlt, hc⟩ := h.2.2 hp
    exact ⟨b, off, rfl, Nat.lt_of_lt_of_le hlt hb.size, fun j n hn => (hb.cell (p := ⟨b, off + j, none⟩) hlt).trans (hc j n hn)⟩⟩
/-- One element. -/
theorem IntsIn.elem {w : World} {k : IntKind} {a : Option Addr} {len : Nat} {xs : List Nat} (h : IntsIn w k a len xs) (j : Nat) (hj : j < len) :
    ∃ b off n, a = some ⟨b, off, none⟩ ∧ b < w.heap.size ∧ xs[j]? = some n ∧ (Lit.int k (n : Int)).wf = true ∧ w.cell? ⟨b, off + j, none⟩ = some (.int k (n : Int)) := by
  obtain ⟨b, off, rfl, hlt, hc⟩ := h.2.2 (by omega)
  have hn : xs[j]? = some (xs[j]'(by rw [h.1]; exact hj)) := List.getElem?_eq_getElem (by rw [h.1]; exact hj)
  exact ⟨b, off, _, rfl, hlt, hn, h.2.1 _ (List.getElem_mem _), hc j _ hn⟩
end Go.Proofs.Ytpeibkdcglkimaa

namespace Go.Proofs.Ytpeibkdcglkimaa
open Go.ChangeShapes Go.WideShapes Go.ChangeAt Go.RowKit

/-- A byte as a value. -/
def vb (n : Nat) : Value := .int .u8 (n : Int)
theorem vb_one (l : List Nat) : ∀ u ∈ l.map vb, u.oneCell' = true := by
  intro u hu
  obtain ⟨x, _, rfl⟩ := List.mem_map.1 hu
  rfl

section
variable {P : Program} {w : World}

theorem wpList_append_src {ops : Array Oper} {rest : List Oper} {o : Oper} {a : Act} {Q : Exit → Act → World → Prop} (hgd : o.guard = none) (s x : Operand) (t : TypeId)
    (ho : o.op = .call { callee := .builtin .append, args := #[s, x], argTypes := #[t, t] })
    (base : Nat) (e : TypeId) (i : TypeInfo) (z : Value) (size bytes : Nat) (ht : P.underlying t = some (.slice e)) (hi : P.info? e = some i) (hz : i.zero = some z)
    (hsize : i.size = size) (hby : i.bytes = bytes) (hzs : z.cells.size = size) (hsz : 0 < size)
    (v : Value) (n : Nat) (xs : List Value) (hs : a.eval s = v) (hown : w.ownsRow base e size v n xs)
    (ao : Option Addr) (m c : Nat) (news : List Value) (hx : a.eval x = .slice ao m c) (hnone : ao = none → m = 0 ∧ c = 0) (hl : news.length = m * size)
    (hnews : ∀ ad, ao = some ad → ∀ j u, news[j]? = some u → w.cell? (ad.add j) = some u) (h1 : ∀ u ∈ news, u.oneCell' = true)
    (h63 : n + m ≤ maxLen) (hbytes : (n + m) * bytes ≤ 140737488355328) (hbase : base ≤ w.heap.size)
    (h : ∀ v' w', w'.ownsRow base e size v' (n + m) (xs ++ news) → w.grownBy w' v.ownBlock → wpList P ops Q rest (a.put o.dst v') w') : wpList P ops Q (o :: rest) a w := by
  cases ao with
  | none =>
    obtain ⟨rfl, rfl⟩ := hnone rfl
    have hn : news = [] := List.eq_nil_of_length_eq_zero (by simpa using hl)
    subst hn
    exact wpList_append_own_none hgd s x t ho base e i size ht hi v n xs hs hown hx (h v w (by simpa using hown) (World.grownBy.refl w _))
  | some ad => exact wpList_append_own w hgd s x t ho base e i z size bytes ht hi hz hsize hby hzs hsz v n xs hs hown ad m c news hx hl (hnews ad rfl) h1 h63 hbytes hbase fun v' w' h2 h3 _ => h v' w' h2 h3
end

/-- A slice of bytes that holds xs, with what an append asks of it. -/
def BytesIn (w : World) (a : Option Addr) (len cap : Nat) (xs : List Nat) : Prop := IntsIn w .u8 a len xs ∧ (a = none → len = 0 ∧ cap = 0)
theorem BytesIn.src {w : World} {a : Option Addr} {len cap : Nat} {xs : List Nat} (h : BytesIn w a len cap xs) : ∀ ad, a = some ad → ∀ (j : Nat) (u : Value), (xs.map vb)[j]? = some u → w.cell? (ad.add j) = some u := by
  rintro ad rfl j u hu
  rw [List.getElem?_map, Option.map_eq_some_iff] at hu
  obtain ⟨x, hx, rfl⟩ := hu
  have hj : j < xs.length := (List.getElem?_eq_some_iff.1 hx).1
  obtain ⟨b, off, e, _, hc⟩ := h.1.2.2 (by rw [← h.1.1]; omega)
  injection e with e
  subst e
  rw [Go.WideShapes.add_plain]
  exact hc j x hx
theorem BytesIn.keep {w w' : World} {a : Option Addr} {len cap : Nat} {xs : List Nat} (h : BytesIn w a len cap xs) (hb : Below w.heap.size w w') : BytesIn w' a len cap xs := ⟨h.1.keep hb, h.2⟩
theorem BytesIn.drewN {w : World} {a : Option Addr} {len cap : Nat} {xs : List Nat} (h : BytesIn w a len cap xs) (n : Nat) : BytesIn (w.drewN n) a len cap xs := h
theorem BytesIn.nil_ (w : World) : BytesIn w none 0 0 [] := ⟨⟨rfl, by simp, fun h => absurd h (by omega)⟩, fun _ => ⟨rfl, rfl⟩⟩
theorem bytesIn_of_row {w : World} {a : Option Addr} {len cap : Nat} {zs : List Int} (h : RowSaid .u8 w a len cap zs) : len ≤ cap ∧ ∃ xs, BytesIn w a len cap xs := by
  obtain ⟨_, h2, xs, h3⟩ := intsIn_of_row u8_nonneg h
  refine ⟨h2, xs, h3, ?_⟩
  rcases h with ⟨rfl, rfl, rfl, rfl⟩ | ⟨x, rfl, _⟩
  · exact fun _ => ⟨rfl, rfl⟩
  · exact fun h => by cases h
theorem wf_u8_lt {n : Nat} (h : (Lit.int .u8 (n : Int)).wf = true) : n < 256 := by
  have := bounds_u8 h
  omega
theorem wf_u8_of {n : Nat} (h : n < 256) : (Lit.int .u8 (n : Int)).wf = true := by
  simp [Lit.wf, IntKind.min, IntKind.max, IntKind.bits, IntKind.signed]
  omega

/-- A row of bytes of the call's own: its value, and the bytes. -/
def OwnB (w : World) (base : Nat) (e : TypeId) (v : Value) (xs : List Nat) : Prop := w.ownsRow base e 1 v xs.length (xs.map vb) ∧ ∀ x ∈ xs, x < 256
theorem own_mono {w : World} {base base' : Nat} {e : TypeId} {v : Value} {xs : List Nat} (h : OwnB w base e v xs) (hb : base' ≤ base) : OwnB w base' e v xs := by
  refine ⟨⟨h.1.1, ?_⟩, h.2⟩
  rcases h.1.2 with h2 | ⟨g, cap, cur, h2, h3, r⟩
  · exact .inl h2
  · exact .inr ⟨g, cap, cur, h2, Nat.le_trans hb h3, r⟩
/-- What a row of the call's own reads as. -/
theorem OwnB.reads {w : World} {base : Nat} {e : TypeId} {v : Value} {xs : List Nat} (h : OwnB w base e v xs) : ∃ a cap, v = .slice a xs.length cap ∧ xs.length ≤ cap ∧ cap ≤ maxLen ∧ BytesIn w a xs.length cap xs := by
  obtain ⟨⟨_, h2⟩, hlt⟩ := h
  have hwf : ∀ n ∈ xs, (Lit.int .u8 (n : Int)).wf = true := fun n hn => wf_u8_of (hlt n hn)
  rcases h2 with ⟨rfl, h0⟩ | ⟨g, cap, cur, rfl, hbg, hh, hnc, hcm, hsz, htk⟩
  · have : xs = [] := List.eq_nil_of_length_eq_zero h0
    subst this
    exact ⟨none, 0, rfl, Nat.le_refl _, Nat.zero_le _, BytesIn.nil_ w⟩
  · refine ⟨_, cap, rfl, hnc, hcm, ⟨rfl, hwf, fun hp => ⟨g, 0, rfl, ?_, ?_⟩⟩, fun h => by cases h⟩
    · exact Blk.lt (t := e) (cs := cur) hh
    · intro j n hn
      have hj : j < xs.length := (List.getElem?_eq_some_iff.1 hn).1
      rw [Nat.zero_add]
      refine Blk.at (t := e) hh j _ ?_
      have e1 : (cur.toList.take (xs.length * 1))[j]? = some (vb n) := by rw [htk, List.getElem?_map, hn]; rfl
      rw [List.getElem?_take] at e1
      split at e1
      · rw [← Array.getElem?_toList]; exact e1
      · cases e1
/-- What a row of the call's own reads as, and where it lies. -/
theorem OwnB.lies {w : World} {base : Nat} {e : TypeId} {v : Value} {xs : List Nat} (h : OwnB w base e v xs) : ∃ a cap, v = .slice a xs.length cap ∧ xs.length ≤ cap ∧ cap ≤ maxLen ∧ BytesIn w a xs.length cap xs ∧ ∀ ad, a = some ad → base ≤ ad.block ∧ ad.block < w.heap.size := by
  obtain ⟨a, cap, rfl, h1, h2, h3⟩ := h.reads
  refine ⟨a, cap, rfl, h1, h2, h3, ?_⟩
  rintro ad rfl
  rcases h.1.2 with ⟨h4, _⟩ | ⟨g, cap', cur, h4, h5, h6, _⟩
  · cases h4
  · injection h4 with h4
    injection h4 with h4
    subst h4
    exact ⟨h5, Blk.lt (t := e) (cs := cur) h6⟩
end Go.Proofs.Ytpeibkdcglkimaa

namespace Go.Proofs.Ytpeibkdcglkimaa
open Go.RowKit

/-- Of what was there only the blocks g and h have turned. -/
structure Touch (g h : Nat) (w w' : World) : Prop where
  os : w'.os = w.os
  tape : w'.tape = w.tape
  output : w'.output = w.output
  size : w.heap.size ≤ w'.heap.size
  block : ∀ k, k < w.heap.size → k ≠ g → k ≠ h → w'.heap[k]? = w.heap[k]?

variable {g h : Nat} {a w w' : World}
theorem Touch.refl (g h : Nat) (w : World) : Touch g h w w := ⟨rfl, rfl, rfl, Nat.le_refl _, fun _ _ _ _ => rfl⟩
theorem Touch.drewN (t : Touch g h a w) (n : Nat) : Touch g h a (w.drewN n) := ⟨t.os, t.tape, t.output, t.size, t.block⟩
theorem Touch.drew (t : Touch g h a w) : Touch g h a w.drew := ⟨t.os, t.tape, t.output, t.size, t.block⟩
theorem Touch.trans {b : World} (t : Touch g h a w) (u : Touch g h w b) : Touch g h a b :=
  ⟨u.os.trans t.os, u.tape.trans t.tape, u.output.trans t.output, Nat.le_trans t.size u.size, fun k hk h1 h2 => (u.block k (Nat.lt_of_lt_of_le hk t.size) h1 h2).trans (t.block k hk h1 h2)⟩
theorem Touch.alloc (t : Touch g h a w) (o : Obj) : Touch g h a (w.alloc o) :=
  ⟨t.os, t.tape, t.output, Nat.le_trans t.size (by simp), fun k hk h1 h2 => (Below.heap_alloc w o k (Nat.lt_of_lt_of_le hk t.size)).trans (t.block k hk h1 h2)⟩
theorem Touch.setCell (t : Touch g h a w) {p : Addr} (hp : p.block = g ∨ p.block = h) (u : Value) : Touch g h a (w.setCell p u) :=
  ⟨t.os, t.tape, t.output, by simpa [World.setCell] using t.size, fun k hk h1 h2 => by
    refine (Below.heap_setCell w p u k ?_).trans (t.block k hk h1 h2)
    rintro rfl
    rcases hp with hp | hp
    · exact h1 hp
    · exact h2 hp⟩
theorem Touch.cell (t : Touch g h w w') {p : Addr} (hp : p.block < w.heap.size) (h1 : p.block ≠ g) (h2 : p.block ≠ h) : w'.cell? p = w.cell? p := World.cell?_of_block (w := w) (t.block p.block hp h1 h2)
theorem Touch.below {B : Nat} (t : Touch g h w w') (hB : B ≤ w.heap.size) (h1 : B ≤ g) (h2 : B ≤ h) : Below B w w' := ⟨t.os, t.tape, t.output, t.size, fun k hk => t.block k (by omega) (by omega) (by omega)⟩
theorem Touch.of_grown (k : w.grownBy w' (some h)) : Touch g h w w' := ⟨k.os, k.tape, k.output, k.size, fun j hj _ h2 => k.block j hj (fun e => h2 (by injection e))⟩
theorem Touch.grown (t : Touch g h a w') (k : w.grownBy a (some g)) (hh : w.heap.size ≤ h) : w.grownBy w' (some g) :=
  ⟨t.os.trans k.os, t.tape.trans k.tape, t.output.trans k.output, Nat.le_trans k.size t.size, fun j hj hne => (t.block j (Nat.lt_of_lt_of_le hj k.size) (fun e => hne (by rw [e])) (by omega)).trans (k.block j hj hne)⟩
theorem Touch.of_grown' (k : w.grownBy w' (some g)) : Touch g h w w' := ⟨k.os, k.tape, k.output, k.size, fun j hj h1 _ => k.block j hj (fun e => h1 (by injection e))⟩
theorem Touch.blk {k : Nat} {t : TypeId} {cs : Array Value} (u : Touch g h w w') (hb : Blk w k t cs) (h1 : k ≠ g) (h2 : k ≠ h) : Blk w' k t cs := (u.block k hb.lt h1 h2).trans hb
theorem BytesIn.touch {a : Option Addr} {len cap : Nat} {xs : List Nat} (hx : BytesIn w a len cap xs) (u : Touch g h w w') (hne : 0 < len → ∀ ad, a = some ad → ad.block ≠ g ∧ ad.block ≠ h) : BytesIn w' a len cap xs := by
  refine ⟨⟨hx.1.1, hx.1.2.1, fun hp => ?_⟩, hx.2⟩
  obtain ⟨b, off, rfl, hlt, hc⟩ := hx.1.2.2 hp
  obtain ⟨h1, h2⟩ := hne hp _ rfl
  exact ⟨b, off, rfl, Nat.lt_of_lt_of_le hlt u.size, fun j n hn => (u.cell (p := ⟨b, off + j, none⟩) hlt h1 h2).trans (hc j n hn)⟩
/-- What is left behind the first n of a slice. -/
def leftAt (a : Option Addr) (cap n : Nat) : Option Addr := if cap = n then a else a.map (·.add n)
theorem leftAt_block {x : Option Addr} {cap n : Nat} {ad : Addr} (hl : leftAt x cap n = some ad) : ∃ ad0, x = some ad0 ∧ ad.block = ad0.block := by
  unfold leftAt at hl
  split at hl
  · exact ⟨ad, hl, rfl⟩
  · rw [Option.map_eq_some_iff] at hl
    obtain ⟨ad0, h1, rfl⟩ := hl
    exact ⟨ad0, h1, by unfold Addr.add; split <;> rfl⟩
theorem BytesIn.left {a : Option Addr} {len cap n : Nat} {xs : List Nat} (hx : BytesIn w a len cap xs) (hn : n ≤ len) (hc : len ≤ cap) : BytesIn w (leftAt a cap n) (len - n) (cap - n) (xs.drop n) := by
  refine ⟨⟨by rw [List.length_drop, hx.1.1], fun x hx' => hx.1.2.1 x (List.mem_of_mem_drop hx'), fun hp => ?_⟩, fun he => ?_⟩
  · obtain ⟨b, off, rfl, hlt, hcell⟩ := hx.1.2.2 (by omega)
    refine ⟨b, off + n, ?_, hlt, fun j m hm => ?_⟩
    · unfold leftAt
      rw [if_neg (by omega)]
      simp [Go.WideShapes.add_plain]
    · rw [List.getElem?_drop] at hm
      rw [show off + n + j = off + (n + j) by omega]
      exact hcell _ _ hm
  · have h0 : a = none := by
      unfold leftAt at he
      split at he
      · exact he
      · simpa using he
    obtain ⟨h1, h2⟩ := hx.2 h0
    omega
theorem BytesIn.first {a : Option Addr} {len cap n : Nat} {xs : List Nat} (hx : BytesIn w a len cap xs) (hn : n ≤ len) : BytesIn w a n cap (xs.take n) := by
  refine ⟨⟨by rw [List.length_take, hx.1.1]; omega, fun x hx' => hx.1.2.1 x (List.mem_of_mem_take hx'), fun hp => ?_⟩, fun he => ?_⟩
  · obtain ⟨b, off, rfl, hlt, hcell⟩ := hx.1.2.2 (by omega)
    refine ⟨b, off, rfl, hlt, fun j m hm => hcell j m ?_⟩
    rw [List.getElem?_take] at hm
    split at hm
    · exact hm
    · cases hm
  · obtain ⟨h1, h2⟩ := hx.2 he
    omega
theorem OwnB.kept {k base : Nat} {e : TypeId} {v : Value} {xs : List Nat} (ho : OwnB w base e v xs) (hg : w.grownBy w' (some k)) (hk : k < base) : OwnB w' base e v xs := by
  refine ⟨ho.1.kept hg ?_, ho.2⟩
  cases hv : v.ownBlock with
  | none => exact .inl rfl
  | some j =>
    refine .inr (fun e => ?_)
    have := (ho.1.lt j hv).1
    injection e
    omega
theorem Touch.of_below (hb : Below w.heap.size w w') : Touch g h w w' := ⟨hb.os, hb.tape, hb.output, hb.size, fun k hk _ _ => hb.block k hk⟩
/-! ### Only new memory: 'Below' at the heap's own size -/
theorem nu_refl (w : World) : Below w.heap.size w w := Below.refl _ _
theorem nu_trans {b : World} (h1 : Below a.heap.size a w) (h2 : Below w.heap.size w b) : Below a.heap.size a b := h1.trans (h2.mono h1.size)
theorem nu_alloc (h1 : Below a.heap.size a w) (o : Obj) : Below a.heap.size a (w.alloc o) := h1.alloc h1.size o
theorem nu_drewN (h1 : Below a.heap.size a w) (n : Nat) : Below a.heap.size a (w.drewN n) := below_drewN h1 n
theorem nu_drew (h1 : Below a.heap.size a w) : Below a.heap.size a w.drew := h1.drew
theorem nu_grown (h1 : Below a.heap.size a w) {k : Nat} (h2 : w.grownBy w' (some k)) (hk : a.heap.size ≤ k) : Below a.heap.size a w' := below_turned h1 h2 h1.size hk
theorem nu_set (h1 : Below a.heap.size a w) {p : Addr} (hp : a.heap.size ≤ p.block) (u : Value) : Below a.heap.size a (w.setCell p u) := h1.setCell hp u
/-- What can be read stays so where only one block of another kind turns. -/
theorem BytesIn.far {x : Option Addr} {len cap k : Nat} {xs : List Nat} (hx : BytesIn w x len cap xs) (hb : w.grownBy w' (some k)) (hk : 0 < len → ∀ ad, x = some ad → ad.block ≠ k) : BytesIn w' x len cap xs :=
  hx.touch (Touch.of_grown (g := k) hb) (fun hp ad had => ⟨hk hp ad had, hk hp ad had⟩)
/-- A row of the call's own that is not empty: its block. -/
theorem OwnB.form {base : Nat} {e : TypeId} {v : Value} {xs : List Nat} (ho : OwnB w base e v xs) (hp : 0 < xs.length) :
    ∃ k cap cur, v = .slice (some ⟨k, 0, none⟩) xs.length cap ∧ base ≤ k ∧ Blk w k e cur ∧ xs.length ≤ cap ∧ cap ≤ maxLen ∧ cur.size = cap ∧ cur.toList.take xs.length = xs.map vb := by
  obtain ⟨⟨_, h2⟩, _⟩ := ho
  rcases h2 with ⟨rfl, h0⟩ | ⟨k, cap, cur, rfl, hbg, hh, hnc, hcm, hsz, htk⟩
  · omega
  · exact ⟨k, cap, cur, rfl, hbg, hh, hnc, hcm, by rw [hsz, Nat.mul_one], by rw [Nat.mul_one] at htk; exact htk⟩
theorem own_cell {cur : Array Value} {n j x : Nat} {xs : List Nat} (htk : cur.toList.take n = xs.map vb) (hx : xs[j]? = some x) : cur[j]? = some (vb x) := by
  have e1 : (cur.toList.take n)[j]? = some (vb x) := by rw [htk, List.getElem?_map, hx]; rfl
  rw [List.getElem?_take] at e1
  split at e1
  · rw [← Array.getElem?_toList]; exact e1
  · cases e1
end Go.Proofs.Ytpeibkdcglkimaa
