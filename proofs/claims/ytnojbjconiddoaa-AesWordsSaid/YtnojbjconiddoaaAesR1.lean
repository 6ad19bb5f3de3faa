/-
  What the document's key is: its boxes, its rows; its columns' sums.
-/
import Derived.Test.YtnojbjconiddoaaAes9
namespace Aes
open Fld
def boxL : List Nat := (List.range 256).map sb
def backL : List Nat := (List.range 256).map bs
theorem boxL_len : boxL.length = 256 := by simp [boxL]
theorem backL_len : backL.length = 256 := by simp [backL]
theorem boxL_at (i : Nat) (h : i < 256) : boxL[i]? = some (sb i) := by simp [boxL, h]
theorem backL_at (i : Nat) (h : i < 256) : backL[i]? = some (bs i) := by simp [backL, h]
/-- The back box as it grows. -/
def backF : Nat → List Nat
  | 0 => List.replicate 256 0
  | k + 1 => (backF k).set (sb k) k
theorem backF_len (k : Nat) : (backF k).length = 256 := by
  induction k with
  | zero => exact List.length_replicate
  | succ k ih => rw [backF, List.length_set, ih]
theorem backF_at (k : Nat) (hk : k ≤ 256) (s : Nat) (hs : s < 256) : (backF k)[s]? = some (if bs s < k then bs s else 0) := by
  induction k with
  | zero => rw [backF, List.getElem?_replicate, if_pos hs, if_neg (Nat.not_lt_zero _)]
  | succ k ih =>
    rw [backF, List.getElem?_set]
    by_cases e : sb k = s
    · rw [if_pos e, if_pos (by rw [backF_len, e]; exact hs), ← e, bs_sb k (by omega), if_pos (by omega)]
    · rw [if_neg e, ih (by omega)]
      have hne : bs s ≠ k := fun h => e (by rw [← h]; exact sb_bs s hs)
      by_cases h : bs s < k
      · rw [if_pos h, if_pos (by omega)]
      · rw [if_neg h, if_neg (by omega)]
theorem backF_all : backF 256 = backL := by
  apply List.ext_getElem?
  intro i
  by_cases h : i < 256
  · rw [backF_at 256 (Nat.le_refl _) i h, backL_at i h, if_pos (bs_lt i)]
  · rw [List.getElem?_eq_none (by rw [backF_len]; omega), List.getElem?_eq_none (by rw [backL_len]; omega)]
/-- The sum of a column's products, so far. -/
def mixJ (f b : List Nat) (c r : Nat) : Nat → Nat
  | 0 => 0
  | j + 1 => mixJ f b c r j ^^^ gm (f.getD ((j + 4 - r) % 4) 0) (b.getD (4 * c + j) 0)
theorem mixJ_lt (f b : List Nat) (hf : ∀ x ∈ f, x < 256) (c r j : Nat) : mixJ f b c r j < 256 := by
  induction j with
  | zero => show (0 : Nat) < 256; omega
  | succ j ih => exact xor_lt8 ih (gm_lt _ _ (getD_lt hf _))
theorem mixJ_four (f0 f1 f2 f3 : Nat) (b : List Nat) (c r : Nat) (hc : c < 4) (hr : r < 4) : mixJ [f0, f1, f2, f3] b c r 4 = mixAt f0 f1 f2 f3 b (4 * c + r) := by
  have h : (4 * c + r) / 4 * 4 = 4 * c := by omega
  have h0 : (4 * c + r) % 4 = r := by omega
  have h1 : (4 * c + r + 1) % 4 = (r + 1) % 4 := by omega
  have h2 : (4 * c + r + 2) % 4 = (r + 2) % 4 := by omega
  have h3 : (4 * c + r + 3) % 4 = (r + 3) % 4 := by omega
  unfold mixAt
  rw [h, h0, h1, h2, h3]
  have hr4 : r = 0 ∨ r = 1 ∨ r = 2 ∨ r = 3 := by omega
  rcases hr4 with rfl | rfl | rfl | rfl
  · show 0 ^^^ gm f0 (b.getD (4 * c + 0) 0) ^^^ gm f1 (b.getD (4 * c + 1) 0) ^^^ gm f2 (b.getD (4 * c + 2) 0) ^^^ gm f3 (b.getD (4 * c + 3) 0) = gm f0 (b.getD (4 * c + 0) 0) ^^^ gm f1 (b.getD (4 * c + 1) 0) ^^^ gm f2 (b.getD (4 * c + 2) 0) ^^^ gm f3 (b.getD (4 * c + 3) 0)
    rw [Nat.zero_xor]
  · show 0 ^^^ gm f3 (b.getD (4 * c + 0) 0) ^^^ gm f0 (b.getD (4 * c + 1) 0) ^^^ gm f1 (b.getD (4 * c + 2) 0) ^^^ gm f2 (b.getD (4 * c + 3) 0) = gm f0 (b.getD (4 * c + 1) 0) ^^^ gm f1 (b.getD (4 * c + 2) 0) ^^^ gm f2 (b.getD (4 * c + 3) 0) ^^^ gm f3 (b.getD (4 * c + 0) 0)
    rw [Nat.zero_xor]
    ac_rfl
  · show 0 ^^^ gm f2 (b.getD (4 * c + 0) 0) ^^^ gm f3 (b.getD (4 * c + 1) 0) ^^^ gm f0 (b.getD (4 * c + 2) 0) ^^^ gm f1 (b.getD (4 * c + 3) 0) = gm f0 (b.getD (4 * c + 2) 0) ^^^ gm f1 (b.getD (4 * c + 3) 0) ^^^ gm f2 (b.getD (4 * c + 0) 0) ^^^ gm f3 (b.getD (4 * c + 1) 0)
    rw [Nat.zero_xor]
    ac_rfl
  · show 0 ^^^ gm f1 (b.getD (4 * c + 0) 0) ^^^ gm f2 (b.getD (4 * c + 1) 0) ^^^ gm f3 (b.getD (4 * c + 2) 0) ^^^ gm f0 (b.getD (4 * c + 3) 0) = gm f0 (b.getD (4 * c + 3) 0) ^^^ gm f1 (b.getD (4 * c + 0) 0) ^^^ gm f2 (b.getD (4 * c + 1) 0) ^^^ gm f3 (b.getD (4 * c + 2) 0)
    rw [Nat.zero_xor]
    ac_rfl
theorem mix_at4 (f0 f1 f2 f3 : Nat) (b : List Nat) (c r : Nat) (hc : c < 4) (hr : r < 4) : (mix f0 f1 f2 f3 b)[4 * c + r]? = some (mixJ [f0, f1, f2, f3] b c r 4) := by
  rw [mixJ_four f0 f1 f2 f3 b c r hc hr]
  unfold mix
  rw [List.getElem?_map, List.getElem?_range (by omega)]
  rfl
end Aes
namespace Go.Proofs.Ytnojbjconiddoaa
open Go.ChangeShapes Go.WideShapes Go.ChangeAt Go.RowKit Fld Aes
/-- The cells of a document's key: its rows, its box, its back box. -/
def keyL (v : Value) : List Value := v :: (boxL.map vb ++ backL.map vb)
theorem keyL_len (v : Value) : (keyL v).length = 513 := by rw [keyL, List.length_cons, List.length_append, List.length_map, List.length_map, boxL_len, backL_len]
theorem keyL_0 (v : Value) : (keyL v).toArray[0]? = some v := by rw [List.getElem?_toArray, keyL, List.getElem?_cons_zero]
theorem keyL_box (v : Value) (i : Nat) (h : i < 256) : (keyL v).toArray[1 + i]? = some (vb (sb i)) := by
  rw [List.getElem?_toArray, Nat.add_comm, keyL, List.getElem?_cons_succ, List.getElem?_append_left (by rw [List.length_map, boxL_len]; exact h), List.getElem?_map, boxL_at i h]
  rfl
theorem keyL_back (v : Value) (i : Nat) (h : i < 256) : (keyL v).toArray[257 + i]? = some (vb (bs i)) := by
  rw [List.getElem?_toArray, show 257 + i = (256 + i) + 1 by omega, keyL, List.getElem?_cons_succ, List.getElem?_append_right (by rw [List.length_map, boxL_len]; omega), List.length_map, boxL_len, show 256 + i - 256 = i by omega, List.getElem?_map, backL_at i h]
  rfl
/-- Rows of four bytes that can be read. -/
def RowsAt (w : World) (v : Value) (W : List Nat) : Prop := ∃ m c cur, v = .slice (some ⟨m, 0, none⟩) W.length c ∧ Blk w m 51 cur ∧ cur.toList.take (W.length * 4) = (flat W).map vb ∧ W.length ≤ c ∧ c ≤ maxLen
theorem RowsAt.below {w w' : World} {v : Value} {W : List Nat} (h : RowsAt w v W) (hb : Below w.heap.size w w') : RowsAt w' v W := by
  obtain ⟨m, c, cur, h1, h2, h3⟩ := h
  exact ⟨m, c, cur, h1, h2.below hb h2.lt, h3⟩
theorem rows_cell {w : World} {m : Nat} {cur : Array Value} {W : List Nat} (hm : Blk w m 51 cur) (ht : cur.toList.take (W.length * 4) = (flat W).map vb) (i j : Nat) (hi : i < W.length) (hj : j < 4) :
    w.cell? ⟨m, i * 4 + j, none⟩ = some (.int .u8 ((wb (W.getD i 0) j : Nat) : Int)) := by
  refine hm.at (i * 4 + j) _ ?_
  have e1 : (cur.toList.take (W.length * 4))[i * 4 + j]? = some (vb (wb (W.getD i 0) j)) := by
    rw [ht, List.getElem?_map, show i * 4 + j = 4 * i + j by omega, flat_at W i j hi hj]
    rfl
  rw [List.getElem?_take, if_pos (by omega)] at e1
  rw [← Array.getElem?_toList]
  exact e1
end Go.Proofs.Ytnojbjconiddoaa
