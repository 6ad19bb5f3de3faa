/-
  Sums of two messages and of their sum (plain Lean).
-/
import Derived.Test.YtnojbjconiddoaaGhW2
namespace Go.Proofs.Ytnojbjconiddoaa

def xorL (xs ys : List Nat) : List Nat := List.zipWith (· ^^^ ·) xs ys
theorem xorL_len (xs ys : List Nat) (h : xs.length = ys.length) : (xorL xs ys).length = xs.length := by unfold xorL; rw [List.length_zipWith]; omega
theorem xorL_lt (xs ys : List Nat) (hx : ∀ x ∈ xs, x < 256) (hy : ∀ x ∈ ys, x < 256) : ∀ x ∈ xorL xs ys, x < 256 := by
  intro x h
  obtain ⟨i, hi⟩ := List.mem_iff_getElem?.1 h
  unfold xorL at hi
  rw [List.getElem?_zipWith_eq_some] at hi
  obtain ⟨a, b, ha, hb, rfl⟩ := hi
  exact Nat.xor_lt_two_pow (n := 8) (hx _ (List.mem_of_getElem? ha)) (hy _ (List.mem_of_getElem? hb))
theorem xorB_xorL (xs ys : List Nat) (hlx : xs.length = 16) (hly : ys.length = 16) (hx : ∀ x ∈ xs, x < 256) (hy : ∀ x ∈ ys, x < 256) : xorB xs ys = xorL xs ys := by
  refine List.ext_getElem (by rw [xorB_len, xorL_len _ _ (by omega), hlx]) (fun j h1 h2 => ?_)
  have hj : j < 16 := by rw [xorB_len] at h1; exact h1
  have e := numOf_xor xs ys 16 hlx hly hx hy j (xs[j]'(by omega)) (ys[j]'(by omega)) (List.getElem?_eq_getElem _) (List.getElem?_eq_getElem _) rfl
  rw [List.getElem?_eq_getElem h1] at e
  injection e with e
  have e2 : (xorL xs ys)[j]? = some ((xs[j]'(by omega)) ^^^ (ys[j]'(by omega))) := by
    unfold xorL
    rw [List.getElem?_zipWith, List.getElem?_eq_getElem (by omega), List.getElem?_eq_getElem (by omega)]
  rw [List.getElem?_eq_getElem h2] at e2
  injection e2 with e2
  rw [e, e2]
theorem polB_xorL (xs ys : List Nat) (hlx : xs.length = 16) (hly : ys.length = 16) (hx : ∀ x ∈ xs, x < 256) (hy : ∀ x ∈ ys, x < 256) : polB (xorL xs ys) = polB xs ^^^ polB ys := by
  rw [← xorB_xorL xs ys hlx hly hx hy]
  exact polB_bytB _ (Nat.xor_lt_two_pow (polB_lt _) (polB_lt _))
theorem pad16_xorL (xs ys : List Nat) (h : xs.length = ys.length) : pad16 (xorL xs ys) = xorL (pad16 xs) (pad16 ys) := by
  unfold pad16
  rw [xorL_len xs ys h, ← h]
  unfold xorL
  rw [List.zipWith_append h, List.zipWith_replicate, Nat.min_self]
  rfl
theorem gstep_two (h y1 y2 : Nat) (b1 b2 : List Nat) (hh : h < 2 ^ 128) : gstep h y1 b1 ^^^ gstep h y2 b2 = Gh.mul h ((y1 ^^^ y2) ^^^ (polB b1 ^^^ polB b2)) := by
  unfold gstep
  rw [← Gh.mul_xor h _ _ hh]
  congr 1
  rw [Nat.xor_assoc, Nat.xor_assoc]
  congr 1
  rw [← Nat.xor_assoc, Nat.xor_comm (polB b1) y2, Nat.xor_assoc]
theorem gfold_adds (h : Nat) (hh : h < 2 ^ 128) (l : List Nat) : ∀ (n : Nat) (xs ys : List Nat) (y1 y2 y3 y4 : Nat), xs.length ≤ n → ys.length = xs.length → (∀ x ∈ xs, x < 256) → (∀ x ∈ ys, x < 256) → y1 ^^^ y2 = y3 ^^^ y4 →
    gfold h y1 (blocks xs ++ [l]) ^^^ gfold h y2 (blocks ys ++ [l]) = gfold h y3 (blocks (xorL xs ys) ++ [l]) ^^^ gfold h y4 (blocks (List.replicate xs.length 0) ++ [l]) := by
  have base : ∀ y1 y2 y3 y4, y1 ^^^ y2 = y3 ^^^ y4 → gfold h y1 ([] ++ [l]) ^^^ gfold h y2 ([] ++ [l]) = gfold h y3 ([] ++ [l]) ^^^ gfold h y4 ([] ++ [l]) := by
    intro y1 y2 y3 y4 e
    show gstep h y1 l ^^^ gstep h y2 l = gstep h y3 l ^^^ gstep h y4 l
    rw [gstep_two _ _ _ _ _ hh, gstep_two _ _ _ _ _ hh, e]
  intro n
  induction n with
  | zero =>
    intro xs ys y1 y2 y3 y4 h1 h2 _ _ e
    obtain rfl : xs = [] := List.eq_nil_of_length_eq_zero (by omega)
    obtain rfl : ys = [] := List.eq_nil_of_length_eq_zero (by rw [h2]; rfl)
    exact base y1 y2 y3 y4 e
  | succ n ih =>
    intro xs ys y1 y2 y3 y4 h1 h2 hx hy e
    by_cases h0 : xs = []
    · subst h0
      obtain rfl : ys = [] := List.eq_nil_of_length_eq_zero (by rw [h2]; rfl)
      exact base y1 y2 y3 y4 e
    · have hp : 0 < xs.length := List.length_pos_iff.2 h0
      have h0' : ys ≠ [] := List.length_pos_iff.1 (by omega)
      have hl := xorL_len xs ys h2.symm
      have h0z : xorL xs ys ≠ [] := List.length_pos_iff.1 (by omega)
      have h0t : List.replicate xs.length 0 ≠ [] := List.length_pos_iff.1 (by rw [List.length_replicate]; omega)
      rw [blocks_cons xs h0, blocks_cons ys h0', blocks_cons _ h0z, blocks_cons _ h0t, List.cons_append, List.cons_append, List.cons_append, List.cons_append]
      have hz1 : (xorL xs ys).drop 16 = xorL (xs.drop 16) (ys.drop 16) := by unfold xorL; rw [List.drop_zipWith]
      have hz2 : (xorL xs ys).take 16 = xorL (xs.take 16) (ys.take 16) := by unfold xorL; rw [List.take_zipWith]
      have ht1 : (List.replicate xs.length 0).drop 16 = List.replicate (xs.drop 16).length 0 := by rw [List.drop_replicate, List.length_drop]
      have ht2 : pad16 ((List.replicate xs.length 0).take 16) = List.replicate 16 0 := by
        unfold pad16
        rw [List.take_replicate, List.length_replicate, List.replicate_append_replicate]
        congr 1
        omega
      have hlt : (xs.take 16).length = (ys.take 16).length := by rw [List.length_take, List.length_take]; omega
      have hbx : ∀ x ∈ xs.take 16, x < 256 := fun x h => hx x (List.mem_of_mem_take h)
      have hby : ∀ x ∈ ys.take 16, x < 256 := fun x h => hy x (List.mem_of_mem_take h)
      have hl1 : (xs.take 16).length ≤ 16 := by rw [List.length_take]; omega
      have hl2 : (ys.take 16).length ≤ 16 := by rw [List.length_take]; omega
      have hpz : polB (pad16 ((xorL xs ys).take 16)) = polB (pad16 (xs.take 16)) ^^^ polB (pad16 (ys.take 16)) := by
        rw [hz2, pad16_xorL _ _ hlt, polB_xorL _ _ (pad16_len _ hl1) (pad16_len _ hl2) (pad16_lt _ hbx) (pad16_lt _ hby)]
      have e2 : gstep h y1 (pad16 (xs.take 16)) ^^^ gstep h y2 (pad16 (ys.take 16)) = gstep h y3 (pad16 ((xorL xs ys).take 16)) ^^^ gstep h y4 (pad16 ((List.replicate xs.length 0).take 16)) := by
        rw [gstep_two _ _ _ _ _ hh, gstep_two _ _ _ _ _ hh, e, hpz, ht2, polB_zero, Nat.xor_zero]
      have e3 := ih (xs.drop 16) (ys.drop 16) _ _ _ _ (by rw [List.length_drop]; omega) (by rw [List.length_drop, List.length_drop, h2]) (fun x h => hx x (List.mem_of_mem_drop h)) (fun x h => hy x (List.mem_of_mem_drop h)) e2
      rw [← hz1, ← ht1] at e3
      exact e3
/-- The law: the two sums' sum is the sum's and the blank's. -/
theorem gadds (h : Nat) (hh : h < 2 ^ 128) (xs ys : List Nat) (hl : ys.length = xs.length) (hx : ∀ x ∈ xs, x < 256) (hy : ∀ x ∈ ys, x < 256) :
    xorB (gsumB h [] xs) (gsumB h [] ys) = xorB (gsumB h [] (xorL xs ys)) (gsumB h [] (List.replicate xs.length 0)) := by
  have e := gfold_adds h hh (lastB 0 xs.length) xs.length xs ys 0 0 0 0 (Nat.le_refl _) hl hx hy rfl
  have f : ∀ zs : List Nat, zs.length = xs.length → polB (gsumB h [] zs) = gfold h 0 (blocks zs ++ [lastB 0 xs.length]) := fun zs hz => by
    unfold gsumB
    rw [polB_bytB _ (gfold_lt _ _ _ hh (by decide)), hz, blocks_nil, List.nil_append]
    rfl
  unfold xorB
  rw [f xs rfl, f ys hl, f _ (xorL_len xs ys hl.symm), f _ (List.length_replicate ..), e]
theorem xorB_self (xs : List Nat) : xorB xs xs = List.replicate 16 0 := by
  unfold xorB
  rw [Nat.xor_self]
  kernel_rfl
end Go.Proofs.Ytnojbjconiddoaa
