/-
  Plain mathematics of AES: a round by columns and tables is the round by bytes.
-/
import Derived.Test.YtnojbjconiddoaaAes3
namespace Go.Proofs.Ytnojbjconiddoaa
open Fld Aes

def cols (b : List Nat) : List Nat := (List.range 4).map (colOf b)
theorem cols_len (b : List Nat) : (cols b).length = 4 := by simp [cols]
theorem cols_at (b : List Nat) (i : Nat) (hi : i < 4) : (cols b)[i]? = some (colOf b i) := by simp [cols, hi]
theorem cols_getD (b : List Nat) (i : Nat) (hi : i < 4) : (cols b).getD i 0 = colOf b i := by rw [List.getD_eq_getElem?_getD, cols_at b i hi]; rfl
theorem wb_colOf {b : List Nat} (h : St16 b) (i j : Nat) (hj : j < 4) : wb (colOf b i) j = b.getD (4 * i + j) 0 := by
  have e := wb_wN _ _ _ _ (h.getD (4 * i)) (h.getD (4 * i + 1)) (h.getD (4 * i + 2)) (h.getD (4 * i + 3))
  rcases (show j = 0 ∨ j = 1 ∨ j = 2 ∨ j = 3 by omega) with rfl | rfl | rfl | rfl
  · exact e.1
  · exact e.2.1
  · exact e.2.2.1
  · exact e.2.2.2
theorem addK_at (W : List Nat) (r : Nat) (b : List Nat) (i : Nat) (hi : i < 16) : (addK W r b).getD i 0 = b.getD i 0 ^^^ wb (W.getD (4 * r + i / 4) 0) (i % 4) := by
  rw [List.getD_eq_getElem?_getD, addK, List.getElem?_map, List.getElem?_range hi]
  rfl
theorem sub_at (b : List Nat) (i : Nat) (hi : i < 16) : (sub b).getD i 0 = sb (b.getD (4 * ((i / 4 + i % 4) % 4) + i % 4) 0) := by
  rw [List.getD_eq_getElem?_getD, sub, List.getElem?_map, List.getElem?_range hi]
  rfl
theorem mix_at (f0 f1 f2 f3 : Nat) (b : List Nat) (i : Nat) (hi : i < 16) : (mix f0 f1 f2 f3 b).getD i 0 = mixAt f0 f1 f2 f3 b i := by
  rw [List.getD_eq_getElem?_getD, mix, List.getElem?_map, List.getElem?_range hi]
  rfl
/-- A column that is xored with a word. -/
theorem col_addK {b : List Nat} (h : St16 b) {W : List Nat} (hW : Small W) (r i : Nat) (hi : i < 4) : colOf (addK W r b) i = colOf b i ^^^ W.getD (4 * r + i) 0 := by
  have hw := hW.getD (4 * r + i)
  have e : ∀ j, j < 4 → (addK W r b).getD (4 * i + j) 0 = b.getD (4 * i + j) 0 ^^^ wb (W.getD (4 * r + i) 0) j := fun j hj => by
    rw [addK_at W r b _ (by omega), show (4 * i + j) / 4 = i by omega, show (4 * i + j) % 4 = j by omega]
  have e0 := e 0 (by omega)
  rw [Nat.add_zero] at e0
  rw [colOf, e0, e 1 (by omega), e 2 (by omega), e 3 (by omega), colOf]
  generalize W.getD (4 * r + i) 0 = w at *
  rw [← wN_xor _ _ _ _ _ _ _ _ (h.getD _) (h.getD _) (h.getD _) (h.getD _) (wb_lt _ _) (wb_lt _ _) (wb_lt _ _) (wb_lt _ _), wN_wb w hw]
theorem loadL_eq {b : List Nat} (h : St16 b) {W : List Nat} (hW : Small W) (r : Nat) : loadL W r b = cols (addK W r b) := by
  unfold loadL cols
  apply List.map_congr_left
  intro i hi
  rw [col_addK h hW r i (List.mem_range.1 hi)]

/-! A column by tables. -/
def tword (W : List Nat) (r : Nat) (s : List Nat) (i : Nat) : Nat → Nat
  | 0 => W.getD (4 * r + i) 0
  | q + 1 => tword W r s i q ^^^ turnW (mixOf (sb (wb (s.getD ((i + q) % 4) 0) q))) q
def tL (W : List Nat) (r : Nat) (s : List Nat) : List Nat := (List.range 4).map fun i => tword W r s i 4
theorem tL_len (W : List Nat) (r : Nat) (s : List Nat) : (tL W r s).length = 4 := by simp [tL]
theorem tL_at (W : List Nat) (r : Nat) (s : List Nat) (i : Nat) (hi : i < 4) : (tL W r s)[i]? = some (tword W r s i 4) := by simp [tL, hi]
theorem mixOf_wN (x : Nat) : mixOf x = wN (gm x 2) x x (gm x 3) := rfl
theorem mixOf_lt (x : Nat) (hx : x < 256) : mixOf x < 4294967296 := wN_lt _ _ _ _ (gm_lt _ _ hx) hx hx (gm_lt _ _ hx)
theorem turnW_lt (x q : Nat) (hx : x < 4294967296) : turnW x q < 4294967296 := by
  unfold turnW
  split
  · exact hx
  all_goals exact wN_lt _ _ _ _ (wb_lt _ _) (wb_lt _ _) (wb_lt _ _) (wb_lt _ _)
theorem tword_lt {W : List Nat} (hW : Small W) (r : Nat) (s : List Nat) (i q : Nat) : tword W r s i q < 4294967296 := by
  induction q with
  | zero => exact hW.getD _
  | succ q ih => exact xor_lt32 ih (turnW_lt _ _ (mixOf_lt _ (sb_lt _)))
theorem col_mix (w x0 x1 x2 x3 : Nat) (hw : w < 4294967296) (h0 : x0 < 256) (h1 : x1 < 256) (h2 : x2 < 256) (h3 : x3 < 256) :
    w ^^^ turnW (mixOf x0) 0 ^^^ turnW (mixOf x1) 1 ^^^ turnW (mixOf x2) 2 ^^^ turnW (mixOf x3) 3 =
      wN (gm 2 x0 ^^^ gm 3 x1 ^^^ gm 1 x2 ^^^ gm 1 x3 ^^^ wb w 0) (gm 2 x1 ^^^ gm 3 x2 ^^^ gm 1 x3 ^^^ gm 1 x0 ^^^ wb w 1) (gm 2 x2 ^^^ gm 3 x3 ^^^ gm 1 x0 ^^^ gm 1 x1 ^^^ wb w 2) (gm 2 x3 ^^^ gm 3 x0 ^^^ gm 1 x1 ^^^ gm 1 x2 ^^^ wb w 3) := by
  have g1 : ∀ x, x < 256 → gm 1 x = x := fun x hx => by rw [gm_comm 1 x (by omega) hx, gm_one x hx]
  have g2 : ∀ x, x < 256 → gm 2 x = gm x 2 := fun x hx => gm_comm 2 x (by omega) hx
  have g3 : ∀ x, x < 256 → gm 3 x = gm x 3 := fun x hx => gm_comm 3 x (by omega) hx
  rw [g1 x0 h0, g1 x1 h1, g1 x2 h2, g1 x3 h3, g2 x0 h0, g2 x1 h1, g2 x2 h2, g2 x3 h3, g3 x0 h0, g3 x1 h1, g3 x2 h2, g3 x3 h3]
  have m2 : ∀ x, x < 256 → gm x 2 < 256 := fun x hx => gm_lt x 2 hx
  have m3 : ∀ x, x < 256 → gm x 3 < 256 := fun x hx => gm_lt x 3 hx
  have e0 := wb_wN _ _ _ _ (m2 x0 h0) h0 h0 (m3 x0 h0)
  have e1 := wb_wN _ _ _ _ (m2 x1 h1) h1 h1 (m3 x1 h1)
  have e2 := wb_wN _ _ _ _ (m2 x2 h2) h2 h2 (m3 x2 h2)
  have e3 := wb_wN _ _ _ _ (m2 x3 h3) h3 h3 (m3 x3 h3)
  have t0 : turnW (mixOf x0) 0 = wN (gm x0 2) x0 x0 (gm x0 3) := rfl
  have t1 : turnW (mixOf x1) 1 = wN (gm x1 3) (gm x1 2) x1 x1 := by rw [mixOf_wN, turnW, e1.1, e1.2.1, e1.2.2.1, e1.2.2.2]
  have t2 : turnW (mixOf x2) 2 = wN x2 (gm x2 3) (gm x2 2) x2 := by rw [mixOf_wN, turnW, e2.1, e2.2.1, e2.2.2.1, e2.2.2.2]
  have t3 : turnW (mixOf x3) 3 = wN x3 x3 (gm x3 3) (gm x3 2) := by rw [mixOf_wN, turnW, e3.1, e3.2.1, e3.2.2.1, e3.2.2.2] <;> simp
  have hk : ∀ j, wb w j < 256 := wb_lt w
  have a0 := m2 x0 h0; have a1 := m2 x1 h1; have a2 := m2 x2 h2; have a3 := m2 x3 h3
  have b0 := m3 x0 h0; have b1 := m3 x1 h1; have b2 := m3 x2 h2; have b3 := m3 x3 h3
  rw [t0, t1, t2, t3]
  conv => lhs; rw [← wN_wb w hw]
  rw [wN_xor _ _ _ _ _ _ _ _ (hk 0) (hk 1) (hk 2) (hk 3) a0 h0 h0 b0,
    wN_xor _ _ _ _ _ _ _ _ (xor_lt8 (hk 0) a0) (xor_lt8 (hk 1) h0) (xor_lt8 (hk 2) h0) (xor_lt8 (hk 3) b0) b1 a1 h1 h1,
    wN_xor _ _ _ _ _ _ _ _ (xor_lt8 (xor_lt8 (hk 0) a0) b1) (xor_lt8 (xor_lt8 (hk 1) h0) a1) (xor_lt8 (xor_lt8 (hk 2) h0) h1) (xor_lt8 (xor_lt8 (hk 3) b0) h1) h2 b2 a2 h2,
    wN_xor _ _ _ _ _ _ _ _ (xor_lt8 (xor_lt8 (xor_lt8 (hk 0) a0) b1) h2) (xor_lt8 (xor_lt8 (xor_lt8 (hk 1) h0) a1) b2) (xor_lt8 (xor_lt8 (xor_lt8 (hk 2) h0) h1) a2) (xor_lt8 (xor_lt8 (xor_lt8 (hk 3) b0) h1) h2) h3 h3 b3 a3]
  congr 1 <;> ac_rfl
theorem tL_eq {b : List Nat} (h : St16 b) {W : List Nat} (hW : Small W) (r : Nat) : tL W r (cols b) = cols (addK W r (mix 2 3 1 1 (sub b))) := by
  unfold tL
  conv => rhs; unfold cols
  apply List.map_congr_left
  intro i hi
  have hi4 := List.mem_range.1 hi
  have e : ∀ j, j < 4 → (addK W r (mix 2 3 1 1 (sub b))).getD (4 * i + j) 0 = mixAt 2 3 1 1 (sub b) (4 * i + j) ^^^ wb (W.getD (4 * r + i) 0) j := fun j hj => by
    rw [addK_at W r _ _ (by omega), mix_at _ _ _ _ _ _ (by omega), show (4 * i + j) / 4 = i by omega, show (4 * i + j) % 4 = j by omega]
  have s : ∀ j, j < 4 → (sub b).getD (i * 4 + j) 0 = sb (wb ((cols b).getD ((i + j) % 4) 0) j) := fun j hj => by
    rw [sub_at b _ (by omega), cols_getD b _ (Nat.mod_lt _ (by omega)), wb_colOf h _ j hj, show (i * 4 + j) / 4 = i by omega, show (i * 4 + j) % 4 = j by omega]
  have e0 := e 0 (by omega)
  rw [Nat.add_zero] at e0
  rw [colOf, e0, e 1 (by omega), e 2 (by omega), e 3 (by omega)]
  have m : ∀ j, j < 4 → mixAt 2 3 1 1 (sub b) (4 * i + j) = gm 2 ((sub b).getD (i * 4 + j) 0) ^^^ gm 3 ((sub b).getD (i * 4 + (j + 1) % 4) 0) ^^^ gm 1 ((sub b).getD (i * 4 + (j + 2) % 4) 0) ^^^ gm 1 ((sub b).getD (i * 4 + (j + 3) % 4) 0) := fun j hj => by
    unfold mixAt
    rw [show (4 * i + j) / 4 = i by omega, show (4 * i + j) % 4 = j by omega, show (4 * i + j + 1) % 4 = (j + 1) % 4 by omega, show (4 * i + j + 2) % 4 = (j + 2) % 4 by omega, show (4 * i + j + 3) % 4 = (j + 3) % 4 by omega]
  have m0 := m 0 (by omega)
  rw [Nat.add_zero] at m0
  rw [m0, m 1 (by omega), m 2 (by omega), m 3 (by omega)]
  simp only [Nat.reduceAdd, Nat.reduceMod, Nat.zero_add, s 1 (by omega), s 2 (by omega), s 3 (by omega), s 0 (by omega)]
  exact col_mix _ _ _ _ _ (hW.getD _) (sb_lt _) (sb_lt _) (sb_lt _) (sb_lt _)
/-- The last round, byte by byte. -/
theorem last_at {b : List Nat} (h : St16 b) (W : List Nat) (R i : Nat) (hi : i < 16) : (addK W R (sub b))[i]? = some (sb (wb ((cols b).getD ((i / 4 + i % 4) % 4) 0) (i % 4)) ^^^ wb (W.getD (4 * R + i / 4) 0) (i % 4)) := by
  have e := addK_at W R (sub b) i hi
  rw [sub_at b i hi] at e
  rw [cols_getD b _ (Nat.mod_lt _ (by omega)), wb_colOf h _ _ (Nat.mod_lt _ (by omega)), ← e, List.getD_eq_getElem?_getD, List.getElem?_eq_getElem (by rw [(addK_st (sub_st b) W R).1]; exact hi)]
  rfl
end Go.Proofs.Ytnojbjconiddoaa
