/-
  Plain mathematics of AES, no program in sight: words of four bytes, states of sixteen, key expansion, and that decryption leads back.
-/
import Derived.Test.YtnojbjconiddoaaFieldB
namespace Aes
open Fld

def wN (a b c d : Nat) : Nat := a * 16777216 + b * 65536 + c * 256 + d
theorem wN_lt (a b c d : Nat) (ha : a < 256) (hb : b < 256) (hc : c < 256) (hd : d < 256) : wN a b c d < 4294967296 := by unfold wN; omega
/-- The bytes of a word, from the highest on. -/
def wb (w : Nat) : Nat → Nat
  | 0 => w / 16777216 % 256
  | 1 => w / 65536 % 256
  | 2 => w / 256 % 256
  | _ => w % 256
theorem wb_lt (w j : Nat) : wb w j < 256 := by
  unfold wb
  split <;> exact Nat.mod_lt _ (by omega)
theorem wb_wN (a b c d : Nat) (ha : a < 256) (hb : b < 256) (hc : c < 256) (hd : d < 256) : wb (wN a b c d) 0 = a ∧ wb (wN a b c d) 1 = b ∧ wb (wN a b c d) 2 = c ∧ wb (wN a b c d) 3 = d := by
  simp only [wb, wN]
  omega
theorem wN_wb (w : Nat) (h : w < 4294967296) : wN (wb w 0) (wb w 1) (wb w 2) (wb w 3) = w := by
  simp only [wb, wN]
  omega
theorem div_xor (a b n : Nat) : (a ^^^ b) / 2 ^ n = a / 2 ^ n ^^^ b / 2 ^ n := by
  rw [← Nat.shiftRight_eq_div_pow, ← Nat.shiftRight_eq_div_pow, ← Nat.shiftRight_eq_div_pow, Nat.shiftRight_xor_distrib]
theorem mod_xor (a b : Nat) : (a ^^^ b) % 256 = (a % 256) ^^^ (b % 256) := Nat.xor_mod_two_pow (n := 8)
theorem wb_xor (v w j : Nat) : wb (v ^^^ w) j = wb v j ^^^ wb w j := by
  have h24 := div_xor v w 24
  have h16 := div_xor v w 16
  have h8 := div_xor v w 8
  simp only [Nat.reducePow] at h24 h16 h8
  unfold wb
  split
  · rw [h24, mod_xor]
  · rw [h16, mod_xor]
  · rw [h8, mod_xor]
  · rw [mod_xor]
theorem xor_lt8 {a b : Nat} (ha : a < 256) (hb : b < 256) : a ^^^ b < 256 := Nat.xor_lt_two_pow (n := 8) ha hb
theorem xor_lt32 {a b : Nat} (ha : a < 4294967296) (hb : b < 4294967296) : a ^^^ b < 4294967296 := Nat.xor_lt_two_pow (n := 32) ha hb
theorem wb_ext {v w : Nat} (hv : v < 4294967296) (hw : w < 4294967296) (h0 : wb v 0 = wb w 0) (h1 : wb v 1 = wb w 1) (h2 : wb v 2 = wb w 2) (h3 : wb v 3 = wb w 3) : v = w := by
  rw [← wN_wb v hv, ← wN_wb w hw, h0, h1, h2, h3]
theorem wN_xor (a b c d a' b' c' d' : Nat) (ha : a < 256) (hb : b < 256) (hc : c < 256) (hd : d < 256) (ha' : a' < 256) (hb' : b' < 256) (hc' : c' < 256) (hd' : d' < 256) :
    wN a b c d ^^^ wN a' b' c' d' = wN (a ^^^ a') (b ^^^ b') (c ^^^ c') (d ^^^ d') := by
  have e := wb_wN a b c d ha hb hc hd
  have e' := wb_wN a' b' c' d' ha' hb' hc' hd'
  have e2 := wb_wN _ _ _ _ (xor_lt8 ha ha') (xor_lt8 hb hb') (xor_lt8 hc hc') (xor_lt8 hd hd')
  refine wb_ext (xor_lt32 (wN_lt _ _ _ _ ha hb hc hd) (wN_lt _ _ _ _ ha' hb' hc' hd')) (wN_lt _ _ _ _ (xor_lt8 ha ha') (xor_lt8 hb hb') (xor_lt8 hc hc') (xor_lt8 hd hd')) ?_ ?_ ?_ ?_
  · rw [wb_xor, e.1, e'.1, e2.1]
  · rw [wb_xor, e.2.1, e'.2.1, e2.2.1]
  · rw [wb_xor, e.2.2.1, e'.2.2.1, e2.2.2.1]
  · rw [wb_xor, e.2.2.2, e'.2.2.2, e2.2.2.2]

/-! The key's words. -/
def rotW (w : Nat) : Nat := wN (wb w 1) (wb w 2) (wb w 3) (wb w 0)
def subW (w : Nat) : Nat := wN (sb (wb w 0)) (sb (wb w 1)) (sb (wb w 2)) (sb (wb w 3))
theorem rotW_lt (w : Nat) : rotW w < 4294967296 := wN_lt _ _ _ _ (wb_lt _ _) (wb_lt _ _) (wb_lt _ _) (wb_lt _ _)
theorem subW_lt (w : Nat) : subW w < 4294967296 := wN_lt _ _ _ _ (sb_lt _) (sb_lt _) (sb_lt _) (sb_lt _)
theorem wb_rotW (w : Nat) : wb (rotW w) 0 = wb w 1 ∧ wb (rotW w) 1 = wb w 2 ∧ wb (rotW w) 2 = wb w 3 ∧ wb (rotW w) 3 = wb w 0 := wb_wN _ _ _ _ (wb_lt _ _) (wb_lt _ _) (wb_lt _ _) (wb_lt _ _)
theorem wb_subW (w : Nat) : wb (subW w) 0 = sb (wb w 0) ∧ wb (subW w) 1 = sb (wb w 1) ∧ wb (subW w) 2 = sb (wb w 2) ∧ wb (subW w) 3 = sb (wb w 3) := wb_wN _ _ _ _ (sb_lt _) (sb_lt _) (sb_lt _) (sb_lt _)
/-- What the word ahead becomes. -/
def turnOf (n i t : Nat) : Nat := if i % n = 0 then subW (rotW t) ^^^ (gpow 2 (i / n - 1) * 16777216) else if n = 8 ∧ i % 8 = 4 then subW t else t
theorem turnOf_lt (n i t : Nat) (ht : t < 4294967296) : turnOf n i t < 4294967296 := by
  unfold turnOf
  have := gpow_lt 2 (i / n - 1)
  split
  · exact xor_lt32 (subW_lt _) (by omega)
  · split
    · exact subW_lt _
    · exact ht
def nextW (n : Nat) (W : List Nat) : Nat := W.getD (W.length - n) 0 ^^^ turnOf n W.length (W.getD (W.length - 1) 0)
def grow (n : Nat) : Nat → List Nat → List Nat
  | 0, W => W
  | k + 1, W => grow n k (W ++ [nextW n W])
theorem grow_succ (n : Nat) : ∀ (k : Nat) (W : List Nat), grow n (k + 1) W = grow n k W ++ [nextW n (grow n k W)] := by
  intro k
  induction k with
  | zero => intro W; rfl
  | succ k ih => intro W; exact ih (W ++ [nextW n W])
theorem grow_len (n : Nat) : ∀ (k : Nat) (W : List Nat), (grow n k W).length = W.length + k := by
  intro k
  induction k with
  | zero => intro W; rfl
  | succ k ih => intro W; rw [grow, ih]; simp; omega
def Small (W : List Nat) : Prop := ∀ x ∈ W, x < 4294967296
theorem Small.getD {W : List Nat} (h : Small W) (i : Nat) : W.getD i 0 < 4294967296 := by
  rw [List.getD_eq_getElem?_getD]
  rcases hi : W[i]? with _ | x
  · simp
  · exact h x (List.mem_of_getElem? hi)
theorem nextW_lt {W : List Nat} (h : Small W) (n : Nat) : nextW n W < 4294967296 := xor_lt32 (h.getD _) (turnOf_lt _ _ _ (h.getD _))
theorem Small.snoc {W : List Nat} (h : Small W) {x : Nat} (hx : x < 4294967296) : Small (W ++ [x]) := fun y hy => by
  rcases List.mem_append.1 hy with hy | hy
  · exact h y hy
  · rw [List.mem_singleton.1 hy]; exact hx
theorem grow_small (n : Nat) : ∀ (k : Nat) (W : List Nat), Small W → Small (grow n k W) := by
  intro k
  induction k with
  | zero => intro W h; exact h
  | succ k ih => intro W h; exact ih _ (h.snoc (nextW_lt h n))
/-- The words that the bytes of a key make. -/
def words (key : List Nat) : Nat → List Nat
  | 0 => []
  | k + 1 => words key k ++ [wN (key.getD (4 * k) 0) (key.getD (4 * k + 1) 0) (key.getD (4 * k + 2) 0) (key.getD (4 * k + 3) 0)]
theorem words_len (key : List Nat) (k : Nat) : (words key k).length = k := by
  induction k with
  | zero => rfl
  | succ k ih => simp [words, ih]
theorem getD_lt {key : List Nat} (h : ∀ x ∈ key, x < 256) (i : Nat) : key.getD i 0 < 256 := by
  rw [List.getD_eq_getElem?_getD]
  rcases hi : key[i]? with _ | x
  · simp
  · exact h x (List.mem_of_getElem? hi)
theorem words_small {key : List Nat} (h : ∀ x ∈ key, x < 256) (k : Nat) : Small (words key k) := by
  induction k with
  | zero => intro x hx; cases hx
  | succ k ih => exact ih.snoc (wN_lt _ _ _ _ (getD_lt h _) (getD_lt h _) (getD_lt h _) (getD_lt h _))
/-- All words of a key of 4n bytes. -/
def expand (key : List Nat) : List Nat := grow (key.length / 4) (4 * (key.length / 4 + 7) - key.length / 4) (words key (key.length / 4))
theorem expand_len (key : List Nat) : (expand key).length = 4 * (key.length / 4 + 7) := by
  unfold expand
  rw [grow_len, words_len]
  omega
theorem expand_small {key : List Nat} (h : ∀ x ∈ key, x < 256) : Small (expand key) := grow_small _ _ _ (words_small h _)
/-- Words, byte by byte. -/
def flat (W : List Nat) : List Nat := W.flatMap fun w => [wb w 0, wb w 1, wb w 2, wb w 3]
theorem flat_snoc (W : List Nat) (x : Nat) : flat (W ++ [x]) = flat W ++ [wb x 0, wb x 1, wb x 2, wb x 3] := by simp [flat]
theorem flat_len (W : List Nat) : (flat W).length = 4 * W.length := by
  induction W with
  | nil => rfl
  | cons x W ih => simp only [flat, List.flatMap_cons, List.length_append, List.length_cons, List.length_nil] at ih ⊢; omega
theorem flat_lt (W : List Nat) : ∀ x ∈ flat W, x < 256 := fun x hx => by
  obtain ⟨w, _, hw⟩ := List.mem_flatMap.1 hx
  simp only [List.mem_cons, List.not_mem_nil, or_false] at hw
  rcases hw with rfl | rfl | rfl | rfl <;> exact wb_lt _ _
theorem flat_at (W : List Nat) : ∀ (i j : Nat), i < W.length → j < 4 → (flat W)[4 * i + j]? = some (wb (W.getD i 0) j) := by
  induction W with
  | nil => intro i j hi; simp at hi
  | cons x W ih =>
    intro i j hi hj
    show ([wb x 0, wb x 1, wb x 2, wb x 3] ++ flat W)[4 * i + j]? = _
    cases i with
    | zero =>
      rw [List.getElem?_append_left (by simp; omega)]
      rcases (show j = 0 ∨ j = 1 ∨ j = 2 ∨ j = 3 by omega) with rfl | rfl | rfl | rfl <;> rfl
    | succ i =>
      rw [List.getElem?_append_right (by simp; omega), show 4 * (i + 1) + j - [wb x 0, wb x 1, wb x 2, wb x 3].length = 4 * i + j by simp; omega, ih i j (by simpa using hi) hj]
      rfl

/-! States: sixteen bytes, column by column. -/
/-- What is xored in a round: the round's four words, byte by byte. -/
def addK (W : List Nat) (r : Nat) (b : List Nat) : List Nat := (List.range 16).map fun i => b.getD i 0 ^^^ wb (W.getD (4 * r + i / 4) 0) (i % 4)
def sub (b : List Nat) : List Nat := (List.range 16).map fun i => sb (b.getD (4 * ((i / 4 + i % 4) % 4) + i % 4) 0)
def unsub (b : List Nat) : List Nat := (List.range 16).map fun i => bs (b.getD (4 * ((i / 4 + 4 - i % 4) % 4) + i % 4) 0)
def mixAt (f0 f1 f2 f3 : Nat) (b : List Nat) (i : Nat) : Nat :=
  gm f0 (b.getD (i / 4 * 4 + i % 4) 0) ^^^ gm f1 (b.getD (i / 4 * 4 + (i + 1) % 4) 0) ^^^ gm f2 (b.getD (i / 4 * 4 + (i + 2) % 4) 0) ^^^ gm f3 (b.getD (i / 4 * 4 + (i + 3) % 4) 0)
def mix (f0 f1 f2 f3 : Nat) (b : List Nat) : List Nat := (List.range 16).map (mixAt f0 f1 f2 f3 b)
/-- A state. -/
def St16 (b : List Nat) : Prop := b.length = 16 ∧ ∀ x ∈ b, x < 256
theorem St16.getD {b : List Nat} (h : St16 b) (i : Nat) : b.getD i 0 < 256 := getD_lt h.2 i
theorem addK_st {b : List Nat} (h : St16 b) (W : List Nat) (r : Nat) : St16 (addK W r b) := ⟨by simp [addK], fun x hx => by
  obtain ⟨i, _, rfl⟩ := List.mem_map.1 hx
  exact xor_lt8 (h.getD i) (wb_lt _ _)⟩
theorem sub_st (b : List Nat) : St16 (sub b) := ⟨by simp [sub], fun x hx => by
  obtain ⟨i, _, rfl⟩ := List.mem_map.1 hx
  exact sb_lt _⟩
theorem unsub_st (b : List Nat) : St16 (unsub b) := ⟨by simp [unsub], fun x hx => by
  obtain ⟨i, _, rfl⟩ := List.mem_map.1 hx
  exact bs_lt _⟩
theorem mixAt_lt (f0 f1 f2 f3 : Nat) (h0 : f0 < 256) (h1 : f1 < 256) (h2 : f2 < 256) (h3 : f3 < 256) (b : List Nat) (i : Nat) : mixAt f0 f1 f2 f3 b i < 256 :=
  xor_lt8 (xor_lt8 (xor_lt8 (gm_lt _ _ h0) (gm_lt _ _ h1)) (gm_lt _ _ h2)) (gm_lt _ _ h3)
theorem mix_st (f0 f1 f2 f3 : Nat) (h0 : f0 < 256) (h1 : f1 < 256) (h2 : f2 < 256) (h3 : f3 < 256) (b : List Nat) : St16 (mix f0 f1 f2 f3 b) := ⟨by simp [mix], fun x hx => by
  obtain ⟨i, _, rfl⟩ := List.mem_map.1 hx
  exact mixAt_lt _ _ _ _ h0 h1 h2 h3 b i⟩
theorem open16 {b : List Nat} (h : b.length = 16) : ∃ a0 a1 a2 a3 a4 a5 a6 a7 a8 a9 a10 a11 a12 a13 a14 a15, b = [a0, a1, a2, a3, a4, a5, a6, a7, a8, a9, a10, a11, a12, a13, a14, a15] := by
  match b, h with
  | [a0, a1, a2, a3, a4, a5, a6, a7, a8, a9, a10, a11, a12, a13, a14, a15], _ => exact ⟨a0, a1, a2, a3, a4, a5, a6, a7, a8, a9, a10, a11, a12, a13, a14, a15, rfl⟩
theorem unsub_sub {b : List Nat} (h : St16 b) : unsub (sub b) = b := by
  obtain ⟨h1, h2⟩ := h
  obtain ⟨a0, a1, a2, a3, a4, a5, a6, a7, a8, a9, a10, a11, a12, a13, a14, a15, rfl⟩ := open16 h1
  show [bs (sb a0), bs (sb a1), bs (sb a2), bs (sb a3), bs (sb a4), bs (sb a5), bs (sb a6), bs (sb a7), bs (sb a8), bs (sb a9), bs (sb a10), bs (sb a11), bs (sb a12), bs (sb a13), bs (sb a14), bs (sb a15)] = _
  simp only [List.mem_cons, List.not_mem_nil, or_false] at h2
  rw [bs_sb a0 (h2 _ (by simp)), bs_sb a1 (h2 _ (by simp)), bs_sb a2 (h2 _ (by simp)), bs_sb a3 (h2 _ (by simp)), bs_sb a4 (h2 _ (by simp)), bs_sb a5 (h2 _ (by simp)), bs_sb a6 (h2 _ (by simp)), bs_sb a7 (h2 _ (by simp)), bs_sb a8 (h2 _ (by simp)), bs_sb a9 (h2 _ (by simp)), bs_sb a10 (h2 _ (by simp)), bs_sb a11 (h2 _ (by simp)), bs_sb a12 (h2 _ (by simp)), bs_sb a13 (h2 _ (by simp)), bs_sb a14 (h2 _ (by simp)), bs_sb a15 (h2 _ (by simp))]
theorem sub_unsub {b : List Nat} (h : St16 b) : sub (unsub b) = b := by
  obtain ⟨h1, h2⟩ := h
  obtain ⟨a0, a1, a2, a3, a4, a5, a6, a7, a8, a9, a10, a11, a12, a13, a14, a15, rfl⟩ := open16 h1
  show [sb (bs a0), sb (bs a1), sb (bs a2), sb (bs a3), sb (bs a4), sb (bs a5), sb (bs a6), sb (bs a7), sb (bs a8), sb (bs a9), sb (bs a10), sb (bs a11), sb (bs a12), sb (bs a13), sb (bs a14), sb (bs a15)] = _
  simp only [List.mem_cons, List.not_mem_nil, or_false] at h2
  rw [sb_bs a0 (h2 _ (by simp)), sb_bs a1 (h2 _ (by simp)), sb_bs a2 (h2 _ (by simp)), sb_bs a3 (h2 _ (by simp)), sb_bs a4 (h2 _ (by simp)), sb_bs a5 (h2 _ (by simp)), sb_bs a6 (h2 _ (by simp)), sb_bs a7 (h2 _ (by simp)), sb_bs a8 (h2 _ (by simp)), sb_bs a9 (h2 _ (by simp)), sb_bs a10 (h2 _ (by simp)), sb_bs a11 (h2 _ (by simp)), sb_bs a12 (h2 _ (by simp)), sb_bs a13 (h2 _ (by simp)), sb_bs a14 (h2 _ (by simp)), sb_bs a15 (h2 _ (by simp))]
theorem xor_back (x k : Nat) : x ^^^ k ^^^ k = x := by rw [Nat.xor_assoc, Nat.xor_self, Nat.xor_zero]
theorem addK_addK {b : List Nat} (h : b.length = 16) (W : List Nat) (r : Nat) : addK W r (addK W r b) = b := by
  obtain ⟨a0, a1, a2, a3, a4, a5, a6, a7, a8, a9, a10, a11, a12, a13, a14, a15, rfl⟩ := open16 h
  simp only [addK, List.range, List.range.loop, List.map_cons, List.map_nil]
  simp only [List.getD_cons_zero, List.getD_cons_succ, xor_back]

/-! A column that is mixed and led back. -/
theorem led (x : Nat) (hx : x < 256) : gm 14 (gm 2 x) ^^^ gm 11 (gm 1 x) ^^^ gm 13 (gm 1 x) ^^^ gm 9 (gm 3 x) = x ∧ gm 14 (gm 3 x) ^^^ gm 11 (gm 2 x) ^^^ gm 13 (gm 1 x) ^^^ gm 9 (gm 1 x) = 0 ∧
    gm 14 (gm 1 x) ^^^ gm 11 (gm 3 x) ^^^ gm 13 (gm 2 x) ^^^ gm 9 (gm 1 x) = 0 ∧ gm 14 (gm 1 x) ^^^ gm 11 (gm 1 x) ^^^ gm 13 (gm 3 x) ^^^ gm 9 (gm 2 x) = 0 ∧
    gm 2 (gm 14 x) ^^^ gm 3 (gm 9 x) ^^^ gm 1 (gm 13 x) ^^^ gm 1 (gm 11 x) = x ∧ gm 2 (gm 11 x) ^^^ gm 3 (gm 14 x) ^^^ gm 1 (gm 9 x) ^^^ gm 1 (gm 13 x) = 0 ∧
    gm 2 (gm 13 x) ^^^ gm 3 (gm 11 x) ^^^ gm 1 (gm 14 x) ^^^ gm 1 (gm 9 x) = 0 ∧ gm 2 (gm 9 x) ^^^ gm 3 (gm 13 x) ^^^ gm 1 (gm 11 x) ^^^ gm 1 (gm 14 x) = 0 := by
  revert x
  decide +kernel
theorem xor16 (a b c d e f g h i j k l m n o p : Nat) : (a ^^^ b ^^^ c ^^^ d) ^^^ (e ^^^ f ^^^ g ^^^ h) ^^^ (i ^^^ j ^^^ k ^^^ l) ^^^ (m ^^^ n ^^^ o ^^^ p) =
    (a ^^^ h ^^^ k ^^^ n) ^^^ (b ^^^ e ^^^ l ^^^ o) ^^^ (c ^^^ f ^^^ i ^^^ p) ^^^ (d ^^^ g ^^^ j ^^^ m) := by ac_rfl
theorem col_led (x y z t : Nat) (hx : x < 256) (hy : y < 256) (hz : z < 256) (ht : t < 256) :
    gm 14 (gm 2 x ^^^ gm 3 y ^^^ gm 1 z ^^^ gm 1 t) ^^^ gm 11 (gm 2 y ^^^ gm 3 z ^^^ gm 1 t ^^^ gm 1 x) ^^^ gm 13 (gm 2 z ^^^ gm 3 t ^^^ gm 1 x ^^^ gm 1 y) ^^^ gm 9 (gm 2 t ^^^ gm 3 x ^^^ gm 1 y ^^^ gm 1 z) = x := by
  simp only [gm_xor 14 _ _ (show 14 < 256 by omega), gm_xor 11 _ _ (show 11 < 256 by omega), gm_xor 13 _ _ (show 13 < 256 by omega), gm_xor 9 _ _ (show 9 < 256 by omega)]
  rw [xor16, (led x hx).1, (led y hy).2.1, (led z hz).2.2.1, (led t ht).2.2.2.1]
  simp
theorem col_led' (x y z t : Nat) (hx : x < 256) (hy : y < 256) (hz : z < 256) (ht : t < 256) :
    gm 2 (gm 14 x ^^^ gm 11 y ^^^ gm 13 z ^^^ gm 9 t) ^^^ gm 3 (gm 14 y ^^^ gm 11 z ^^^ gm 13 t ^^^ gm 9 x) ^^^ gm 1 (gm 14 z ^^^ gm 11 t ^^^ gm 13 x ^^^ gm 9 y) ^^^ gm 1 (gm 14 t ^^^ gm 11 x ^^^ gm 13 y ^^^ gm 9 z) = x := by
  simp only [gm_xor 2 _ _ (show 2 < 256 by omega), gm_xor 3 _ _ (show 3 < 256 by omega), gm_xor 1 _ _ (show 1 < 256 by omega)]
  rw [xor16, (led x hx).2.2.2.2.1, (led y hy).2.2.2.2.2.1, (led z hz).2.2.2.2.2.2.1, (led t ht).2.2.2.2.2.2.2]
  simp
set_option maxRecDepth 100000 in
theorem unmix_mix {b : List Nat} (h : St16 b) : mix 14 11 13 9 (mix 2 3 1 1 b) = b := by
  obtain ⟨h1, h2⟩ := h
  obtain ⟨a0, a1, a2, a3, a4, a5, a6, a7, a8, a9, a10, a11, a12, a13, a14, a15, rfl⟩ := open16 h1
  have e : ∀ x ∈ [a0, a1, a2, a3, a4, a5, a6, a7, a8, a9, a10, a11, a12, a13, a14, a15], x < 256 := h2
  simp only [List.mem_cons, List.not_mem_nil, or_false] at h2
  have g0 := h2 a0 (by simp)
  have g1 := h2 a1 (by simp)
  have g2 := h2 a2 (by simp)
  have g3 := h2 a3 (by simp)
  have g4 := h2 a4 (by simp)
  have g5 := h2 a5 (by simp)
  have g6 := h2 a6 (by simp)
  have g7 := h2 a7 (by simp)
  have g8 := h2 a8 (by simp)
  have g9 := h2 a9 (by simp)
  have g10 := h2 a10 (by simp)
  have g11 := h2 a11 (by simp)
  have g12 := h2 a12 (by simp)
  have g13 := h2 a13 (by simp)
  have g14 := h2 a14 (by simp)
  have g15 := h2 a15 (by simp)
  clear e h2
  show [gm 14 (gm 2 a0 ^^^ gm 3 a1 ^^^ gm 1 a2 ^^^ gm 1 a3) ^^^ gm 11 (gm 2 a1 ^^^ gm 3 a2 ^^^ gm 1 a3 ^^^ gm 1 a0) ^^^ gm 13 (gm 2 a2 ^^^ gm 3 a3 ^^^ gm 1 a0 ^^^ gm 1 a1) ^^^ gm 9 (gm 2 a3 ^^^ gm 3 a0 ^^^ gm 1 a1 ^^^ gm 1 a2), gm 14 (gm 2 a1 ^^^ gm 3 a2 ^^^ gm 1 a3 ^^^ gm 1 a0) ^^^ gm 11 (gm 2 a2 ^^^ gm 3 a3 ^^^ gm 1 a0 ^^^ gm 1 a1) ^^^ gm 13 (gm 2 a3 ^^^ gm 3 a0 ^^^ gm 1 a1 ^^^ gm 1 a2) ^^^ gm 9 (gm 2 a0 ^^^ gm 3 a1 ^^^ gm 1 a2 ^^^ gm 1 a3), gm 14 (gm 2 a2 ^^^ gm 3 a3 ^^^ gm 1 a0 ^^^ gm 1 a1) ^^^ gm 11 (gm 2 a3 ^^^ gm 3 a0 ^^^ gm 1 a1 ^^^ gm 1 a2) ^^^ gm 13 (gm 2 a0 ^^^ gm 3 a1 ^^^ gm 1 a2 ^^^ gm 1 a3) ^^^ gm 9 (gm 2 a1 ^^^ gm 3 a2 ^^^ gm 1 a3 ^^^ gm 1 a0), gm 14 (gm 2 a3 ^^^ gm 3 a0 ^^^ gm 1 a1 ^^^ gm 1 a2) ^^^ gm 11 (gm 2 a0 ^^^ gm 3 a1 ^^^ gm 1 a2 ^^^ gm 1 a3) ^^^ gm 13 (gm 2 a1 ^^^ gm 3 a2 ^^^ gm 1 a3 ^^^ gm 1 a0) ^^^ gm 9 (gm 2 a2 ^^^ gm 3 a3 ^^^ gm 1 a0 ^^^ gm 1 a1), gm 14 (gm 2 a4 ^^^ gm 3 a5 ^^^ gm 1 a6 ^^^ gm 1 a7) ^^^ gm 11 (gm 2 a5 ^^^ gm 3 a6 ^^^ gm 1 a7 ^^^ gm 1 a4) ^^^ gm 13 (gm 2 a6 ^^^ gm 3 a7 ^^^ gm 1 a4 ^^^ gm 1 a5) ^^^ gm 9 (gm 2 a7 ^^^ gm 3 a4 ^^^ gm 1 a5 ^^^ gm 1 a6), gm 14 (gm 2 a5 ^^^ gm 3 a6 ^^^ gm 1 a7 ^^^ gm 1 a4) ^^^ gm 11 (gm 2 a6 ^^^ gm 3 a7 ^^^ gm 1 a4 ^^^ gm 1 a5) ^^^ gm 13 (gm 2 a7 ^^^ gm 3 a4 ^^^ gm 1 a5 ^^^ gm 1 a6) ^^^ gm 9 (gm 2 a4 ^^^ gm 3 a5 ^^^ gm 1 a6 ^^^ gm 1 a7), gm 14 (gm 2 a6 ^^^ gm 3 a7 ^^^ gm 1 a4 ^^^ gm 1 a5) ^^^ gm 11 (gm 2 a7 ^^^ gm 3 a4 ^^^ gm 1 a5 ^^^ gm 1 a6) ^^^ gm 13 (gm 2 a4 ^^^ gm 3 a5 ^^^ gm 1 a6 ^^^ gm 1 a7) ^^^ gm 9 (gm 2 a5 ^^^ gm 3 a6 ^^^ gm 1 a7 ^^^ gm 1 a4), gm 14 (gm 2 a7 ^^^ gm 3 a4 ^^^ gm 1 a5 ^^^ gm 1 a6) ^^^ gm 11 (gm 2 a4 ^^^ gm 3 a5 ^^^ gm 1 a6 ^^^ gm 1 a7) ^^^ gm 13 (gm 2 a5 ^^^ gm 3 a6 ^^^ gm 1 a7 ^^^ gm 1 a4) ^^^ gm 9 (gm 2 a6 ^^^ gm 3 a7 ^^^ gm 1 a4 ^^^ gm 1 a5), gm 14 (gm 2 a8 ^^^ gm 3 a9 ^^^ gm 1 a10 ^^^ gm 1 a11) ^^^ gm 11 (gm 2 a9 ^^^ gm 3 a10 ^^^ gm 1 a11 ^^^ gm 1 a8) ^^^ gm 13 (gm 2 a10 ^^^ gm 3 a11 ^^^ gm 1 a8 ^^^ gm 1 a9) ^^^ gm 9 (gm 2 a11 ^^^ gm 3 a8 ^^^ gm 1 a9 ^^^ gm 1 a10), gm 14 (gm 2 a9 ^^^ gm 3 a10 ^^^ gm 1 a11 ^^^ gm 1 a8) ^^^ gm 11 (gm 2 a10 ^^^ gm 3 a11 ^^^ gm 1 a8 ^^^ gm 1 a9) ^^^ gm 13 (gm 2 a11 ^^^ gm 3 a8 ^^^ gm 1 a9 ^^^ gm 1 a10) ^^^ gm 9 (gm 2 a8 ^^^ gm 3 a9 ^^^ gm 1 a10 ^^^ gm 1 a11), gm 14 (gm 2 a10 ^^^ gm 3 a11 ^^^ gm 1 a8 ^^^ gm 1 a9) ^^^ gm 11 (gm 2 a11 ^^^ gm 3 a8 ^^^ gm 1 a9 ^^^ gm 1 a10) ^^^ gm 13 (gm 2 a8 ^^^ gm 3 a9 ^^^ gm 1 a10 ^^^ gm 1 a11) ^^^ gm 9 (gm 2 a9 ^^^ gm 3 a10 ^^^ gm 1 a11 ^^^ gm 1 a8), gm 14 (gm 2 a11 ^^^ gm 3 a8 ^^^ gm 1 a9 ^^^ gm 1 a10) ^^^ gm 11 (gm 2 a8 ^^^ gm 3 a9 ^^^ gm 1 a10 ^^^ gm 1 a11) ^^^ gm 13 (gm 2 a9 ^^^ gm 3 a10 ^^^ gm 1 a11 ^^^ gm 1 a8) ^^^ gm 9 (gm 2 a10 ^^^ gm 3 a11 ^^^ gm 1 a8 ^^^ gm 1 a9), gm 14 (gm 2 a12 ^^^ gm 3 a13 ^^^ gm 1 a14 ^^^ gm 1 a15) ^^^ gm 11 (gm 2 a13 ^^^ gm 3 a14 ^^^ gm 1 a15 ^^^ gm 1 a12) ^^^ gm 13 (gm 2 a14 ^^^ gm 3 a15 ^^^ gm 1 a12 ^^^ gm 1 a13) ^^^ gm 9 (gm 2 a15 ^^^ gm 3 a12 ^^^ gm 1 a13 ^^^ gm 1 a14), gm 14 (gm 2 a13 ^^^ gm 3 a14 ^^^ gm 1 a15 ^^^ gm 1 a12) ^^^ gm 11 (gm 2 a14 ^^^ gm 3 a15 ^^^ gm 1 a12 ^^^ gm 1 a13) ^^^ gm 13 (gm 2 a15 ^^^ gm 3 a12 ^^^ gm 1 a13 ^^^ gm 1 a14) ^^^ gm 9 (gm 2 a12 ^^^ gm 3 a13 ^^^ gm 1 a14 ^^^ gm 1 a15), gm 14 (gm 2 a14 ^^^ gm 3 a15 ^^^ gm 1 a12 ^^^ gm 1 a13) ^^^ gm 11 (gm 2 a15 ^^^ gm 3 a12 ^^^ gm 1 a13 ^^^ gm 1 a14) ^^^ gm 13 (gm 2 a12 ^^^ gm 3 a13 ^^^ gm 1 a14 ^^^ gm 1 a15) ^^^ gm 9 (gm 2 a13 ^^^ gm 3 a14 ^^^ gm 1 a15 ^^^ gm 1 a12), gm 14 (gm 2 a15 ^^^ gm 3 a12 ^^^ gm 1 a13 ^^^ gm 1 a14) ^^^ gm 11 (gm 2 a12 ^^^ gm 3 a13 ^^^ gm 1 a14 ^^^ gm 1 a15) ^^^ gm 13 (gm 2 a13 ^^^ gm 3 a14 ^^^ gm 1 a15 ^^^ gm 1 a12) ^^^ gm 9 (gm 2 a14 ^^^ gm 3 a15 ^^^ gm 1 a12 ^^^ gm 1 a13)] = _
  rw [col_led a0 a1 a2 a3 g0 g1 g2 g3]
  rw [col_led a1 a2 a3 a0 g1 g2 g3 g0]
  rw [col_led a2 a3 a0 a1 g2 g3 g0 g1]
  rw [col_led a3 a0 a1 a2 g3 g0 g1 g2]
  rw [col_led a4 a5 a6 a7 g4 g5 g6 g7]
  rw [col_led a5 a6 a7 a4 g5 g6 g7 g4]
  rw [col_led a6 a7 a4 a5 g6 g7 g4 g5]
  rw [col_led a7 a4 a5 a6 g7 g4 g5 g6]
  rw [col_led a8 a9 a10 a11 g8 g9 g10 g11]
  rw [col_led a9 a10 a11 a8 g9 g10 g11 g8]
  rw [col_led a10 a11 a8 a9 g10 g11 g8 g9]
  rw [col_led a11 a8 a9 a10 g11 g8 g9 g10]
  rw [col_led a12 a13 a14 a15 g12 g13 g14 g15]
  rw [col_led a13 a14 a15 a12 g13 g14 g15 g12]
  rw [col_led a14 a15 a12 a13 g14 g15 g12 g13]
  rw [col_led a15 a12 a13 a14 g15 g12 g13 g14]
set_option maxRecDepth 100000 in
theorem mix_unmix {b : List Nat} (h : St16 b) : mix 2 3 1 1 (mix 14 11 13 9 b) = b := by
  obtain ⟨h1, h2⟩ := h
  obtain ⟨a0, a1, a2, a3, a4, a5, a6, a7, a8, a9, a10, a11, a12, a13, a14, a15, rfl⟩ := open16 h1
  have e : ∀ x ∈ [a0, a1, a2, a3, a4, a5, a6, a7, a8, a9, a10, a11, a12, a13, a14, a15], x < 256 := h2
  simp only [List.mem_cons, List.not_mem_nil, or_false] at h2
  have g0 := h2 a0 (by simp)
  have g1 := h2 a1 (by simp)
  have g2 := h2 a2 (by simp)
  have g3 := h2 a3 (by simp)
  have g4 := h2 a4 (by simp)
  have g5 := h2 a5 (by simp)
  have g6 := h2 a6 (by simp)
  have g7 := h2 a7 (by simp)
  have g8 := h2 a8 (by simp)
  have g9 := h2 a9 (by simp)
  have g10 := h2 a10 (by simp)
  have g11 := h2 a11 (by simp)
  have g12 := h2 a12 (by simp)
  have g13 := h2 a13 (by simp)
  have g14 := h2 a14 (by simp)
  have g15 := h2 a15 (by simp)
  clear e h2
  show [gm 2 (gm 14 a0 ^^^ gm 11 a1 ^^^ gm 13 a2 ^^^ gm 9 a3) ^^^ gm 3 (gm 14 a1 ^^^ gm 11 a2 ^^^ gm 13 a3 ^^^ gm 9 a0) ^^^ gm 1 (gm 14 a2 ^^^ gm 11 a3 ^^^ gm 13 a0 ^^^ gm 9 a1) ^^^ gm 1 (gm 14 a3 ^^^ gm 11 a0 ^^^ gm 13 a1 ^^^ gm 9 a2), gm 2 (gm 14 a1 ^^^ gm 11 a2 ^^^ gm 13 a3 ^^^ gm 9 a0) ^^^ gm 3 (gm 14 a2 ^^^ gm 11 a3 ^^^ gm 13 a0 ^^^ gm 9 a1) ^^^ gm 1 (gm 14 a3 ^^^ gm 11 a0 ^^^ gm 13 a1 ^^^ gm 9 a2) ^^^ gm 1 (gm 14 a0 ^^^ gm 11 a1 ^^^ gm 13 a2 ^^^ gm 9 a3), gm 2 (gm 14 a2 ^^^ gm 11 a3 ^^^ gm 13 a0 ^^^ gm 9 a1) ^^^ gm 3 (gm 14 a3 ^^^ gm 11 a0 ^^^ gm 13 a1 ^^^ gm 9 a2) ^^^ gm 1 (gm 14 a0 ^^^ gm 11 a1 ^^^ gm 13 a2 ^^^ gm 9 a3) ^^^ gm 1 (gm 14 a1 ^^^ gm 11 a2 ^^^ gm 13 a3 ^^^ gm 9 a0), gm 2 (gm 14 a3 ^^^ gm 11 a0 ^^^ gm 13 a1 ^^^ gm 9 a2) ^^^ gm 3 (gm 14 a0 ^^^ gm 11 a1 ^^^ gm 13 a2 ^^^ gm 9 a3) ^^^ gm 1 (gm 14 a1 ^^^ gm 11 a2 ^^^ gm 13 a3 ^^^ gm 9 a0) ^^^ gm 1 (gm 14 a2 ^^^ gm 11 a3 ^^^ gm 13 a0 ^^^ gm 9 a1), gm 2 (gm 14 a4 ^^^ gm 11 a5 ^^^ gm 13 a6 ^^^ gm 9 a7) ^^^ gm 3 (gm 14 a5 ^^^ gm 11 a6 ^^^ gm 13 a7 ^^^ gm 9 a4) ^^^ gm 1 (gm 14 a6 ^^^ gm 11 a7 ^^^ gm 13 a4 ^^^ gm 9 a5) ^^^ gm 1 (gm 14 a7 ^^^ gm 11 a4 ^^^ gm 13 a5 ^^^ gm 9 a6), gm 2 (gm 14 a5 ^^^ gm 11 a6 ^^^ gm 13 a7 ^^^ gm 9 a4) ^^^ gm 3 (gm 14 a6 ^^^ gm 11 a7 ^^^ gm 13 a4 ^^^ gm 9 a5) ^^^ gm 1 (gm 14 a7 ^^^ gm 11 a4 ^^^ gm 13 a5 ^^^ gm 9 a6) ^^^ gm 1 (gm 14 a4 ^^^ gm 11 a5 ^^^ gm 13 a6 ^^^ gm 9 a7), gm 2 (gm 14 a6 ^^^ gm 11 a7 ^^^ gm 13 a4 ^^^ gm 9 a5) ^^^ gm 3 (gm 14 a7 ^^^ gm 11 a4 ^^^ gm 13 a5 ^^^ gm 9 a6) ^^^ gm 1 (gm 14 a4 ^^^ gm 11 a5 ^^^ gm 13 a6 ^^^ gm 9 a7) ^^^ gm 1 (gm 14 a5 ^^^ gm 11 a6 ^^^ gm 13 a7 ^^^ gm 9 a4), gm 2 (gm 14 a7 ^^^ gm 11 a4 ^^^ gm 13 a5 ^^^ gm 9 a6) ^^^ gm 3 (gm 14 a4 ^^^ gm 11 a5 ^^^ gm 13 a6 ^^^ gm 9 a7) ^^^ gm 1 (gm 14 a5 ^^^ gm 11 a6 ^^^ gm 13 a7 ^^^ gm 9 a4) ^^^ gm 1 (gm 14 a6 ^^^ gm 11 a7 ^^^ gm 13 a4 ^^^ gm 9 a5), gm 2 (gm 14 a8 ^^^ gm 11 a9 ^^^ gm 13 a10 ^^^ gm 9 a11) ^^^ gm 3 (gm 14 a9 ^^^ gm 11 a10 ^^^ gm 13 a11 ^^^ gm 9 a8) ^^^ gm 1 (gm 14 a10 ^^^ gm 11 a11 ^^^ gm 13 a8 ^^^ gm 9 a9) ^^^ gm 1 (gm 14 a11 ^^^ gm 11 a8 ^^^ gm 13 a9 ^^^ gm 9 a10), gm 2 (gm 14 a9 ^^^ gm 11 a10 ^^^ gm 13 a11 ^^^ gm 9 a8) ^^^ gm 3 (gm 14 a10 ^^^ gm 11 a11 ^^^ gm 13 a8 ^^^ gm 9 a9) ^^^ gm 1 (gm 14 a11 ^^^ gm 11 a8 ^^^ gm 13 a9 ^^^ gm 9 a10) ^^^ gm 1 (gm 14 a8 ^^^ gm 11 a9 ^^^ gm 13 a10 ^^^ gm 9 a11), gm 2 (gm 14 a10 ^^^ gm 11 a11 ^^^ gm 13 a8 ^^^ gm 9 a9) ^^^ gm 3 (gm 14 a11 ^^^ gm 11 a8 ^^^ gm 13 a9 ^^^ gm 9 a10) ^^^ gm 1 (gm 14 a8 ^^^ gm 11 a9 ^^^ gm 13 a10 ^^^ gm 9 a11) ^^^ gm 1 (gm 14 a9 ^^^ gm 11 a10 ^^^ gm 13 a11 ^^^ gm 9 a8), gm 2 (gm 14 a11 ^^^ gm 11 a8 ^^^ gm 13 a9 ^^^ gm 9 a10) ^^^ gm 3 (gm 14 a8 ^^^ gm 11 a9 ^^^ gm 13 a10 ^^^ gm 9 a11) ^^^ gm 1 (gm 14 a9 ^^^ gm 11 a10 ^^^ gm 13 a11 ^^^ gm 9 a8) ^^^ gm 1 (gm 14 a10 ^^^ gm 11 a11 ^^^ gm 13 a8 ^^^ gm 9 a9), gm 2 (gm 14 a12 ^^^ gm 11 a13 ^^^ gm 13 a14 ^^^ gm 9 a15) ^^^ gm 3 (gm 14 a13 ^^^ gm 11 a14 ^^^ gm 13 a15 ^^^ gm 9 a12) ^^^ gm 1 (gm 14 a14 ^^^ gm 11 a15 ^^^ gm 13 a12 ^^^ gm 9 a13) ^^^ gm 1 (gm 14 a15 ^^^ gm 11 a12 ^^^ gm 13 a13 ^^^ gm 9 a14), gm 2 (gm 14 a13 ^^^ gm 11 a14 ^^^ gm 13 a15 ^^^ gm 9 a12) ^^^ gm 3 (gm 14 a14 ^^^ gm 11 a15 ^^^ gm 13 a12 ^^^ gm 9 a13) ^^^ gm 1 (gm 14 a15 ^^^ gm 11 a12 ^^^ gm 13 a13 ^^^ gm 9 a14) ^^^ gm 1 (gm 14 a12 ^^^ gm 11 a13 ^^^ gm 13 a14 ^^^ gm 9 a15), gm 2 (gm 14 a14 ^^^ gm 11 a15 ^^^ gm 13 a12 ^^^ gm 9 a13) ^^^ gm 3 (gm 14 a15 ^^^ gm 11 a12 ^^^ gm 13 a13 ^^^ gm 9 a14) ^^^ gm 1 (gm 14 a12 ^^^ gm 11 a13 ^^^ gm 13 a14 ^^^ gm 9 a15) ^^^ gm 1 (gm 14 a13 ^^^ gm 11 a14 ^^^ gm 13 a15 ^^^ gm 9 a12), gm 2 (gm 14 a15 ^^^ gm 11 a12 ^^^ gm 13 a13 ^^^ gm 9 a14) ^^^ gm 3 (gm 14 a12 ^^^ gm 11 a13 ^^^ gm 13 a14 ^^^ gm 9 a15) ^^^ gm 1 (gm 14 a13 ^^^ gm 11 a14 ^^^ gm 13 a15 ^^^ gm 9 a12) ^^^ gm 1 (gm 14 a14 ^^^ gm 11 a15 ^^^ gm 13 a12 ^^^ gm 9 a13)] = _
  rw [col_led' a0 a1 a2 a3 g0 g1 g2 g3]
  rw [col_led' a1 a2 a3 a0 g1 g2 g3 g0]
  rw [col_led' a2 a3 a0 a1 g2 g3 g0 g1]
  rw [col_led' a3 a0 a1 a2 g3 g0 g1 g2]
  rw [col_led' a4 a5 a6 a7 g4 g5 g6 g7]
  rw [col_led' a5 a6 a7 a4 g5 g6 g7 g4]
  rw [col_led' a6 a7 a4 a5 g6 g7 g4 g5]
  rw [col_led' a7 a4 a5 a6 g7 g4 g5 g6]
  rw [col_led' a8 a9 a10 a11 g8 g9 g10 g11]
  rw [col_led' a9 a10 a11 a8 g9 g10 g11 g8]
  rw [col_led' a10 a11 a8 a9 g10 g11 g8 g9]
  rw [col_led' a11 a8 a9 a10 g11 g8 g9 g10]
  rw [col_led' a12 a13 a14 a15 g12 g13 g14 g15]
  rw [col_led' a13 a14 a15 a12 g13 g14 g15 g12]
  rw [col_led' a14 a15 a12 a13 g14 g15 g12 g13]
  rw [col_led' a15 a12 a13 a14 g15 g12 g13 g14]

/-! The rounds. -/
def encF (W : List Nat) : Nat → List Nat → List Nat
  | 0, b => addK W 0 b
  | k + 1, b => addK W (k + 1) (mix 2 3 1 1 (sub (encF W k b)))
def enc (W : List Nat) (R : Nat) (b : List Nat) : List Nat := addK W R (sub (encF W (R - 1) b))
def decF (W : List Nat) (R : Nat) : Nat → List Nat → List Nat
  | 0, b => b
  | k + 1, b => unsub (if k = 0 then addK W R b else mix 14 11 13 9 (addK W (R - k) (decF W R k b)))
def dec (W : List Nat) (R : Nat) (b : List Nat) : List Nat := addK W 0 (decF W R R b)
theorem encF_st {b : List Nat} (h : St16 b) (W : List Nat) (k : Nat) : St16 (encF W k b) := by
  cases k with
  | zero => exact addK_st h W 0
  | succ k => exact addK_st (mix_st 2 3 1 1 (by omega) (by omega) (by omega) (by omega) _) W (k + 1)
theorem enc_st (b : List Nat) (W : List Nat) (R : Nat) : St16 (enc W R b) := addK_st (sub_st _) W R
theorem decF_st {b : List Nat} (h : St16 b) (W : List Nat) (R k : Nat) : St16 (decF W R k b) := by
  cases k with
  | zero => exact h
  | succ k => exact unsub_st _
theorem dec_st {b : List Nat} (h : St16 b) (W : List Nat) (R : Nat) : St16 (dec W R b) := addK_st (decF_st h W R R) W 0
theorem decF_enc {b : List Nat} (h : St16 b) (W : List Nat) (R : Nat) : ∀ k, k < R → decF W R (k + 1) (enc W R b) = encF W (R - 1 - k) b := by
  intro k
  induction k with
  | zero =>
    intro _
    show unsub (addK W R (addK W R (sub (encF W (R - 1) b)))) = _
    rw [addK_addK (sub_st _).1, unsub_sub (encF_st h W _)]
    rfl
  | succ k ih =>
    intro hk
    show unsub (if k + 1 = 0 then _ else mix 14 11 13 9 (addK W (R - (k + 1)) (decF W R (k + 1) (enc W R b)))) = _
    rw [if_neg (by omega), ih (by omega)]
    obtain ⟨m, hm⟩ : ∃ m, R - 1 - k = m + 1 := ⟨R - 1 - k - 1, by omega⟩
    rw [hm, show R - (k + 1) = m + 1 by omega, show R - 1 - (k + 1) = m by omega]
    show unsub (mix 14 11 13 9 (addK W (m + 1) (addK W (m + 1) (mix 2 3 1 1 (sub (encF W m b)))))) = _
    rw [addK_addK (mix_st 2 3 1 1 (by omega) (by omega) (by omega) (by omega) _).1, unmix_mix (sub_st _), unsub_sub (encF_st h W _)]
theorem dec_enc {b : List Nat} (h : St16 b) (W : List Nat) (R : Nat) (hR : 0 < R) : dec W R (enc W R b) = b := by
  unfold dec
  obtain ⟨m, rfl⟩ : ∃ m, R = m + 1 := ⟨R - 1, by omega⟩
  rw [decF_enc h W (m + 1) m (by omega), show m + 1 - 1 - m = 0 by omega]
  exact addK_addK h.1 W 0
theorem encF_dec {b : List Nat} (h : St16 b) (W : List Nat) (R : Nat) : ∀ j, j < R → encF W j (dec W R b) = decF W R (R - j) b := by
  intro j
  induction j with
  | zero =>
    intro _
    exact addK_addK (decF_st h W R R).1 W 0
  | succ j ih =>
    intro hj
    show addK W (j + 1) (mix 2 3 1 1 (sub (encF W j (dec W R b)))) = _
    rw [ih (by omega)]
    obtain ⟨m, hm⟩ : ∃ m, R - j = m + 2 := ⟨R - j - 2, by omega⟩
    rw [hm, show R - (j + 1) = m + 1 by omega]
    show addK W (j + 1) (mix 2 3 1 1 (sub (unsub (if m + 1 = 0 then _ else mix 14 11 13 9 (addK W (R - (m + 1)) (decF W R (m + 1) b)))))) = _
    rw [if_neg (by omega), sub_unsub (mix_st 14 11 13 9 (by omega) (by omega) (by omega) (by omega) _), mix_unmix (addK_st (decF_st h W R _) W _), show R - (m + 1) = j + 1 by omega, addK_addK (decF_st h W R _).1]
theorem enc_dec {b : List Nat} (h : St16 b) (W : List Nat) (R : Nat) (hR : 0 < R) : enc W R (dec W R b) = b := by
  unfold enc
  rw [encF_dec h W R (R - 1) (by omega), show R - (R - 1) = 0 + 1 by omega]
  show addK W R (sub (unsub (addK W R b))) = b
  rw [sub_unsub (addK_st h W R), addK_addK h.1]
theorem enc_inj {a b : List Nat} (ha : St16 a) (hb : St16 b) (W : List Nat) (R : Nat) (hR : 0 < R) (e : enc W R a = enc W R b) : a = b := by
  rw [← dec_enc ha W R hR, e, dec_enc hb W R hR]
theorem dec_inj {a b : List Nat} (ha : St16 a) (hb : St16 b) (W : List Nat) (R : Nat) (hR : 0 < R) (e : dec W R a = dec W R b) : a = b := by
  rw [← enc_dec ha W R hR, e, enc_dec hb W R hR]
end Aes
