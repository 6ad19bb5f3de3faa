/-
  Plain mathematics: what is packed is opened as it was, and the other way about.
-/
import Derived.Test.YtogcckedelkpbaaCountO
namespace Go.Proofs.Ytogcckedelkpbaa

theorem beL_step (m x s : Nat) (hx : x < 256) : beL (m * 256 + x) (s + 1) (s + 1) = beL m s s ++ [x] := by
  rw [beL_succ]
  have h1 : (m * 256 + x) / 2 ^ (8 * (s + 1 - 1 - s)) % 256 = x := by
    rw [show s + 1 - 1 - s = 0 by omega]
    simp
    omega
  rw [h1]
  congr 1
  unfold beL
  refine List.map_congr_left fun t ht => ?_
  have hts : t < s := List.mem_range.1 ht
  have e : 2 ^ (8 * (s + 1 - 1 - t)) = 256 * 2 ^ (8 * (s - 1 - t)) := by
    rw [show 8 * (s + 1 - 1 - t) = 8 + 8 * (s - 1 - t) by omega, Nat.pow_add]
  rw [e, ← Nat.div_div_eq_div_mul, show (m * 256 + x) / 256 = m by omega]
theorem beL_numOf : ∀ (n : Nat) (l : List Nat), l.length = n → (∀ x ∈ l, x < 256) → beL (numOf l) n n = l := by
  intro n
  induction n with
  | zero => intro l hl _; rw [List.eq_nil_of_length_eq_zero hl]; rfl
  | succ n ih =>
    intro l hl hb
    have hne : l ≠ [] := by intro e; rw [e] at hl; simp at hl
    obtain ⟨l', x, rfl⟩ : ∃ l' x, l = l' ++ [x] := ⟨l.dropLast, l.getLast hne, (List.dropLast_concat_getLast hne).symm⟩
    have hl' : l'.length = n := by simpa using hl
    rw [numOf_snoc, beL_step _ _ _ (hb x (by simp)), ih l' hl' (fun y hy => hb y (by simp [hy]))]

theorem packTo_at (es : List Ent) (k m : Nat) : ∃ r, packTo es (k + 1 + m) = packTo es k ++ (entL (es.getD k (0, 0, 0)) ++ r) := by
  induction m with
  | zero => exact ⟨[], by rw [Nat.add_zero, packTo_succ, List.append_nil]⟩
  | succ m ih =>
    obtain ⟨r, hr⟩ := ih
    exact ⟨r ++ entL (es.getD (k + 1 + m) (0, 0, 0)), by rw [← Nat.add_assoc, packTo_succ, hr]; simp [List.append_assoc]⟩
theorem entAt_pack (es : List Ent) (h : ∀ e ∈ es, entOk e) (k : Nat) (hk : k < 16) : entAt (packTo es 16) k = es.getD k (0, 0, 0) := by
  obtain ⟨r, hr⟩ := packTo_at es k (16 - (k + 1))
  rw [show k + 1 + (16 - (k + 1)) = 16 by omega] at hr
  obtain ⟨h0, h1, h2⟩ := ent_getD h k
  obtain ⟨⟨e0, e1, e2⟩, he⟩ : ∃ e, es.getD k (0, 0, 0) = e := ⟨_, rfl⟩
  rw [he] at hr h0 h1 h2 ⊢
  have hd : (packTo es 16).drop (16 * k) = beL e0 4 4 ++ (beL e1 4 4 ++ (beL e2 8 8 ++ r)) := by
    rw [hr, List.drop_left' (packTo_length es k)]
    simp [entL, List.append_assoc]
  have d4 : (packTo es 16).drop (16 * k + 4) = beL e1 4 4 ++ (beL e2 8 8 ++ r) := by
    rw [← List.drop_drop, hd, List.drop_left' (beL_length _ _ _)]
  have d8 : (packTo es 16).drop (16 * k + 8) = beL e2 8 8 ++ r := by
    rw [show 16 * k + 8 = 16 * k + 4 + 4 by omega, ← List.drop_drop, d4, List.drop_left' (beL_length _ _ _)]
  unfold entAt
  rw [hd, d4, d8, List.take_left' (beL_length _ _ _), List.take_left' (beL_length _ _ _), List.take_left' (beL_length _ _ _), numOf_be e0 4 (by simpa using h0), numOf_be e1 4 (by simpa using h1), numOf_be e2 8 (by simpa using h2)]
theorem entL_at (xs : List Nat) (h : ∀ x ∈ xs, x < 256) (k : Nat) (hk : 16 * k + 16 ≤ xs.length) : entL (entAt xs k) = (xs.drop (16 * k)).take 16 := by
  have hd : ∀ a n, ∀ x ∈ (xs.drop a).take n, x < 256 := fun a n x hx => h x (List.mem_of_mem_drop (List.mem_of_mem_take hx))
  unfold entL entAt
  simp only []
  rw [beL_numOf 4 _ (by rw [List.length_take, List.length_drop]; omega) (hd _ _), beL_numOf 4 _ (by rw [List.length_take, List.length_drop]; omega) (hd _ _), beL_numOf 8 _ (by rw [List.length_take, List.length_drop]; omega) (hd _ _)]
  have d4 : xs.drop (16 * k + 4) = (xs.drop (16 * k)).drop 4 := by rw [List.drop_drop]
  have d8 : xs.drop (16 * k + 8) = ((xs.drop (16 * k)).drop 4).drop 4 := by rw [List.drop_drop, List.drop_drop]
  rw [d4, d8]
  generalize xs.drop (16 * k) = ys
  rw [show (16 : Nat) = 4 + (4 + 8) by omega, List.take_add, List.take_add, List.append_assoc]
theorem pack_entsTo (xs : List Nat) (h : ∀ x ∈ xs, x < 256) (n : Nat) (hn : 16 * n ≤ xs.length) : ∀ k, k ≤ n → packTo (entsTo xs n) k = xs.take (16 * k) := by
  intro k
  induction k with
  | zero => intro _; simp [packTo]
  | succ k ih =>
    intro hk
    rw [packTo_succ, ih (by omega), List.getD_eq_getElem?_getD, entsTo_get xs n k (by omega)]
    simp only [Option.getD_some]
    rw [entL_at xs h k (by omega), show 16 * (k + 1) = 16 * k + 16 by omega, List.take_add]
end Go.Proofs.Ytogcckedelkpbaa
