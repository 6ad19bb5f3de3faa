/-
  Two sums over bytes of which one is turned (plain Lean).
-/
import Derived.Test.YtnojbjconiddoaaGh16
namespace Go.Proofs.Ytnojbjconiddoaa

theorem xcl (a b c : Nat) (e : a ^^^ b = a ^^^ c) : b = c := by
  have h := congrArg (a ^^^ ·) e
  simp only [← Nat.xor_assoc, Nat.xor_self, Nat.zero_xor] at h
  exact h
theorem xcr (a b c : Nat) (e : b ^^^ a = c ^^^ a) : b = c := xcl a b c (by rw [Nat.xor_comm a b, e, Nat.xor_comm])
theorem gmul_inj (h u v : Nat) (hh : h < 2 ^ 128) (h0 : h ≠ 0) (hu : u < 2 ^ 128) (hv : v < 2 ^ 128) (e : Gh.mul h u = Gh.mul h v) : u = v := by
  have e1 : Gh.mul h (u ^^^ v) = 0 := by rw [Gh.mul_xor h u v hh, e, Nat.xor_self]
  rcases (Gh.no_zero h (u ^^^ v) hh (Nat.xor_lt_two_pow hu hv)).1 e1 with h1 | h1
  · exact absurd h1 h0
  · exact xcl u u v (by rw [Nat.xor_self, h1]) ▸ rfl
theorem gstep_y (h y y' : Nat) (b : List Nat) (hh : h < 2 ^ 128) (h0 : h ≠ 0) (hy : y < 2 ^ 128) (hy' : y' < 2 ^ 128) (e : gstep h y b = gstep h y' b) : y = y' := by
  have e1 := gmul_inj h _ _ hh h0 (Nat.xor_lt_two_pow hy (polB_lt b)) (Nat.xor_lt_two_pow hy' (polB_lt b)) e
  exact xcr _ _ _ e1
theorem gstep_b (h y : Nat) (b b' : List Nat) (hh : h < 2 ^ 128) (h0 : h ≠ 0) (hy : y < 2 ^ 128) (e : gstep h y b = gstep h y b') : polB b = polB b' := by
  have e1 := gmul_inj h _ _ hh h0 (Nat.xor_lt_two_pow hy (polB_lt b)) (Nat.xor_lt_two_pow hy (polB_lt b')) e
  exact xcl _ _ _ e1
theorem gfold_y (h : Nat) (hh : h < 2 ^ 128) (h0 : h ≠ 0) : ∀ (bs : List (List Nat)) (y y' : Nat), y < 2 ^ 128 → y' < 2 ^ 128 → gfold h y bs = gfold h y' bs → y = y' := by
  intro bs
  induction bs with
  | nil => intro y y' _ _ e; exact e
  | cons b bs ih =>
    intro y y' hy hy' e
    exact gstep_y h y y' b hh h0 hy hy' (ih _ _ (Gh.mul_lt _ _ hh) (Gh.mul_lt _ _ hh) e)
theorem gfold_set (h : Nat) (hh : h < 2 ^ 128) (h0 : h ≠ 0) (z : Nat) (hz : z < 256) (rest : List (List Nat)) : ∀ (n : Nat) (xs : List Nat) (i y : Nat), xs.length ≤ n → i < xs.length → (∀ x ∈ xs, x < 256) → y < 2 ^ 128 →
    gfold h y (blocks xs ++ rest) = gfold h y (blocks (xs.set i z) ++ rest) → xs = xs.set i z := by
  intro n
  induction n with
  | zero => intro xs i y h1 h2; omega
  | succ n ih =>
    intro xs i y hl hi hx hy e
    have hne : xs ≠ [] := fun e => by rw [e] at hi; exact absurd hi (Nat.not_lt_zero _)
    have hne' : xs.set i z ≠ [] := fun e => by have h1 := congrArg List.length e; rw [List.length_set] at h1; rw [List.length_nil] at h1; omega
    rw [blocks_cons xs hne, blocks_cons _ hne', List.cons_append, List.cons_append] at e
    have e2 : gfold h (gstep h y (pad16 (xs.take 16))) (blocks (xs.drop 16) ++ rest) = gfold h (gstep h y (pad16 ((xs.set i z).take 16))) (blocks ((xs.set i z).drop 16) ++ rest) := e
    have hx' : ∀ x ∈ xs.set i z, x < 256 := fun x h => by
      rcases List.mem_or_eq_of_mem_set h with h | h
      · exact hx x h
      · rw [h]; exact hz
    by_cases h16 : i < 16
    · have ed : (xs.set i z).drop 16 = xs.drop 16 := by rw [List.drop_set_of_lt h16]
      rw [ed] at e2
      have e3 := gfold_y h hh h0 _ _ _ (Gh.mul_lt _ _ hh) (Gh.mul_lt _ _ hh) e2
      have e4 := gstep_b h y _ _ hh h0 hy e3
      have e5 := polB_inj _ _ (pad16_len _ (by rw [List.length_take]; omega)) (pad16_lt _ (fun x h => hx x (List.mem_of_mem_take h))) (pad16_len _ (by rw [List.length_take]; omega)) (pad16_lt _ (fun x h => hx' x (List.mem_of_mem_take h))) e4
      unfold pad16 at e5
      have e6 := (List.append_inj e5 (by rw [List.length_take, List.length_take, List.length_set])).1
      rw [← List.take_append_drop 16 (xs.set i z), ← e6, ed, List.take_append_drop]
    · have et : (xs.set i z).take 16 = xs.take 16 := by rw [List.take_set_of_le (by omega)]
      have ed : (xs.set i z).drop 16 = (xs.drop 16).set (i - 16) z := by rw [List.drop_set, if_neg h16]
      rw [et, ed] at e2
      have e3 := ih (xs.drop 16) (i - 16) _ (by rw [List.length_drop]; omega) (by rw [List.length_drop]; omega) (fun x h => hx x (List.mem_of_mem_drop h)) (Gh.mul_lt _ _ hh) e2
      rw [← List.take_append_drop 16 (xs.set i z), et, ed, ← e3, List.take_append_drop]
theorem gfold_zero (y : Nat) (bs : List (List Nat)) (b : List Nat) : gfold 0 y (bs ++ [b]) = 0 := by
  rw [gfold_app]
  exact Gh.zero_mul _
theorem bytB_inj (p q : Nat) (hp : p < 2 ^ 128) (hq : q < 2 ^ 128) (e : bytB p = bytB q) : p = q := by rw [← polB_bytB p hp, e, polB_bytB q hq]
/-- The law: a turned byte is seen, but by a zero key. -/
theorem gapart (ks xs ys : List Nat) (i y q : Nat) (hkl : ks.length = 16) (hkx : ∀ x ∈ ks, x < 256) (hy : xs[i]? = some y) (hq : q < 256) (hx : ∀ x ∈ xs, x < 256) (hys : xs.set i (y ^^^ q) = ys) :
    decide (gsumB (polB ks) [] xs = gsumB (polB ks) [] ys) = decide (q = 0 ∨ ks = List.replicate 16 0) ∧ decide (gsumB (polB ks) xs [] = gsumB (polB ks) ys []) = decide (q = 0 ∨ ks = List.replicate 16 0) := by
  have hi : i < xs.length := (List.getElem?_eq_some_iff.1 hy).1
  have hg : xs[i] = y := (List.getElem?_eq_some_iff.1 hy).2
  have hyb : y < 256 := hx y (List.mem_of_getElem? hy)
  have hz : y ^^^ q < 256 := Nat.xor_lt_two_pow (n := 8) hyb hq
  have hh := polB_lt ks
  have hl : ys.length = xs.length := by rw [← hys, List.length_set]
  have hk0 : ks = List.replicate 16 0 ↔ polB ks = 0 := by
    have e0 : polB (List.replicate 16 0) = 0 := by kernel_rfl
    constructor
    · intro e; rw [e, e0]
    · intro e; exact polB_inj _ _ hkl hkx (by rfl) (fun x h => by rw [(List.mem_replicate.1 h).2]; omega) (by rw [e, e0])
  have hsame : q = 0 → xs = ys := fun e => by
    rw [← hys, e, Nat.xor_zero, ← hg, List.set_getElem_self]
  have hdiff : xs = ys → q = 0 := fun e => by
    have h1 : xs[i]? = ys[i]? := by rw [← e]
    rw [← hys, List.getElem?_set_self hi, hy] at h1
    injection h1 with h1
    have h2 : y ^^^ 0 = y ^^^ q := by rw [Nat.xor_zero]; exact h1
    exact (xcl _ _ _ h2).symm
  rw [decide_eq_decide, decide_eq_decide]
  refine ⟨⟨fun e => ?_, fun e => ?_⟩, ⟨fun e => ?_, fun e => ?_⟩⟩
  · by_cases h0 : polB ks = 0
    · exact Or.inr (hk0.2 h0)
    · left
      unfold gsumB at e
      rw [hl, blocks_nil, List.nil_append, List.nil_append] at e
      have e1 := bytB_inj _ _ (gfold_lt _ _ _ hh (by decide)) (gfold_lt _ _ _ hh (by decide)) e
      rw [← hys] at e1
      exact hdiff ((gfold_set _ hh h0 _ hz _ _ xs i 0 (Nat.le_refl _) hi hx (by decide) e1).trans hys)
  · rcases e with e | e
    · rw [hsame e]
    · unfold gsumB
      rw [hk0.1 e, gfold_zero, gfold_zero]
  · by_cases h0 : polB ks = 0
    · exact Or.inr (hk0.2 h0)
    · left
      unfold gsumB at e
      rw [hl, blocks_nil, List.append_nil, List.append_nil] at e
      have e1 := bytB_inj _ _ (gfold_lt _ _ _ hh (by decide)) (gfold_lt _ _ _ hh (by decide)) e
      rw [← hys] at e1
      exact hdiff ((gfold_set _ hh h0 _ hz _ _ xs i 0 (Nat.le_refl _) hi hx (by decide) e1).trans hys)
  · rcases e with e | e
    · rw [hsame e]
    · unfold gsumB
      rw [hk0.1 e, gfold_zero, gfold_zero]
end Go.Proofs.Ytnojbjconiddoaa
