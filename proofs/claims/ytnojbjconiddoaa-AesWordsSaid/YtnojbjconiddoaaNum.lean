/-
  Plain mathematics: the number that bytes make, and the bytes of a number.
-/
import Derived.Test.YtnojbjconiddoaaPut
namespace Go.Proofs.Ytnojbjconiddoaa

/-- The number that bytes make, the greatest byte first. -/
def numOf (l : List Nat) : Nat := l.foldl (fun a b => a * 256 + b) 0
theorem numOf_snoc (l : List Nat) (x : Nat) : numOf (l ++ [x]) = numOf l * 256 + x := by simp [numOf]
theorem numOf_beL (n size m : Nat) (hn : n < 2 ^ (8 * size)) (hm : m ≤ size) : numOf (beL n size m) = n / 2 ^ (8 * (size - m)) := by
  induction m with
  | zero => rw [Nat.sub_zero, Nat.div_eq_of_lt hn]; rfl
  | succ m ih =>
    rw [beL_succ, numOf_snoc, ih (by omega)]
    have e : 2 ^ (8 * (size - m)) = 2 ^ (8 * (size - (m + 1))) * 256 := by
      rw [show 8 * (size - m) = 8 * (size - (m + 1)) + 8 by omega, Nat.pow_add]
    rw [e, ← Nat.div_div_eq_div_mul, show size - 1 - m = size - (m + 1) by omega]
    omega
theorem numOf_be (n size : Nat) (hn : n < 2 ^ (8 * size)) : numOf (beL n size size) = n := by
  rw [numOf_beL n size size hn (Nat.le_refl _)]
  simp
theorem beL_inj {n m size : Nat} (hn : n < 2 ^ (8 * size)) (hm : m < 2 ^ (8 * size)) (h : beL n size size = beL m size size) : n = m := by
  rw [← numOf_be n size hn, ← numOf_be m size hm, h]
end Go.Proofs.Ytnojbjconiddoaa
