/-
  Blocks laid flat (plain Lean).
-/
import Derived.Test.YtnojbjconiddoaaGh20
namespace Go.Proofs.Ytnojbjconiddoaa

theorem blocks_flat : ∀ (m : Nat) (xs : List Nat), xs.length ≤ m → (blocks xs).flatten = xs ++ List.replicate (16 * ((xs.length + 15) / 16) - xs.length) 0 ∧ (blocks xs).length = (xs.length + 15) / 16 := by
  intro m
  induction m with
  | zero =>
    intro xs h
    obtain rfl : xs = [] := List.eq_nil_of_length_eq_zero (by omega)
    exact ⟨rfl, rfl⟩
  | succ m ih =>
    intro xs h
    by_cases h0 : xs = []
    · subst h0
      exact ⟨rfl, rfl⟩
    · have hp : 0 < xs.length := List.length_pos_iff.2 h0
      obtain ⟨e1, e2⟩ := ih (xs.drop 16) (by rw [List.length_drop]; omega)
      rw [List.length_drop] at e1 e2
      rw [blocks_cons xs h0, List.flatten_cons, List.length_cons, e1, e2]
      by_cases h16 : xs.length ≤ 16
      · refine ⟨?_, by omega⟩
        rw [List.take_of_length_le h16, List.drop_of_length_le h16, List.nil_append, show 16 * ((xs.length - 16 + 15) / 16) - (xs.length - 16) = 0 by omega, show 16 * ((xs.length + 15) / 16) - xs.length = 16 - xs.length by omega]
        simp [pad16]
      · refine ⟨?_, by omega⟩
        have e3 : pad16 (xs.take 16) = xs.take 16 := by
          unfold pad16
          rw [List.length_take, show 16 - min 16 xs.length = 0 by omega]
          simp
        rw [e3, ← List.append_assoc, List.take_append_drop, show 16 * ((xs.length - 16 + 15) / 16) - (xs.length - 16) = 16 * ((xs.length + 15) / 16) - xs.length by omega]
theorem blocks_each : ∀ (m : Nat) (xs : List Nat), xs.length ≤ m → (∀ x ∈ xs, x < 256) → ∀ b ∈ blocks xs, b.length = 16 ∧ ∀ x ∈ b, x < 256 := by
  intro m
  induction m with
  | zero =>
    intro xs h _
    obtain rfl : xs = [] := List.eq_nil_of_length_eq_zero (by omega)
    intro b hb
    cases hb
  | succ m ih =>
    intro xs h hx b hb
    by_cases h0 : xs = []
    · subst h0
      cases hb
    · have hp : 0 < xs.length := List.length_pos_iff.2 h0
      rw [blocks_cons xs h0] at hb
      rcases List.mem_cons.1 hb with rfl | hb
      · exact ⟨pad16_len _ (by rw [List.length_take]; omega), pad16_lt _ (fun x h => hx x (List.mem_of_mem_take h))⟩
      · exact ih (xs.drop 16) (by rw [List.length_drop]; omega) (fun x h => hx x (List.mem_of_mem_drop h)) b hb
theorem flat_len : ∀ (L : List (List Nat)), (∀ b ∈ L, b.length = 16) → L.flatten.length = 16 * L.length := by
  intro L
  induction L with
  | nil => intro _; rfl
  | cons b L ih =>
    intro h
    rw [List.flatten_cons, List.length_append, ih (fun c hc => h c (List.mem_cons_of_mem _ hc)), h b (List.mem_cons_self ..), List.length_cons]
    omega
theorem flat_split (L : List (List Nat)) (k : Nat) (b : List Nat) (hb : L[k]? = some b) : L.flatten = (L.take k).flatten ++ b ++ (L.drop (k + 1)).flatten := by
  have hk := (List.getElem?_eq_some_iff.1 hb).1
  have e : L = L.take k ++ b :: L.drop (k + 1) := by
    rw [← (List.getElem?_eq_some_iff.1 hb).2, List.getElem_cons_drop, List.take_append_drop]
  conv => lhs; rw [e]
  simp
/-- All the blocks of a sum. -/
def allB (xs ys : List Nat) : List (List Nat) := blocks xs ++ blocks ys ++ [lastB xs.length ys.length]
theorem allB_len (xs ys : List Nat) : (allB xs ys).length = (xs.length + 15) / 16 + (ys.length + 15) / 16 + 1 := by
  unfold allB
  rw [List.length_append, List.length_append, (blocks_flat _ xs (Nat.le_refl _)).2, (blocks_flat _ ys (Nat.le_refl _)).2]
  rfl
theorem allB_each (xs ys : List Nat) (hx : ∀ x ∈ xs, x < 256) (hy : ∀ x ∈ ys, x < 256) : ∀ b ∈ allB xs ys, b.length = 16 ∧ ∀ x ∈ b, x < 256 := by
  intro b hb
  unfold allB at hb
  rcases List.mem_append.1 hb with hb | hb
  · rcases List.mem_append.1 hb with hb | hb
    · exact blocks_each _ xs (Nat.le_refl _) hx b hb
    · exact blocks_each _ ys (Nat.le_refl _) hy b hb
  · rw [List.mem_singleton.1 hb]
    exact ⟨lastB_len _ _, lastB_lt _ _⟩
theorem allB_flat (xs ys : List Nat) : (allB xs ys).flatten.map vb = flat16 xs xs.length ((xs.length + 15) / 16) ++ (flat16 ys ys.length ((ys.length + 15) / 16) ++ (lastB xs.length ys.length).map vb) := by
  unfold allB flat16
  rw [List.flatten_append, List.flatten_append, (blocks_flat _ xs (Nat.le_refl _)).1, (blocks_flat _ ys (Nat.le_refl _)).1, List.take_length, List.take_length]
  simp
theorem gfold_next (h y k : Nat) (L : List (List Nat)) (b : List Nat) (hb : L[k]? = some b) : gfold h y (L.take (k + 1)) = gstep h (gfold h y (L.take k)) b := by
  rw [List.take_add_one, hb]
  exact gfold_app h y (L.take k) [b]
theorem gsumB_all (h : Nat) (xs ys : List Nat) : gsumB h xs ys = bytB (gfold h 0 (allB xs ys)) := rfl
end Go.Proofs.Ytnojbjconiddoaa
