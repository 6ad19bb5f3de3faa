/-
  Plain mathematics of AES: a column mixed term by term; a state led back byte by byte.
-/
import Derived.Test.YtnojbjconiddoaaAes4
namespace Go.Proofs.Ytnojbjconiddoaa
open Fld Aes

def mixP (f b : List Nat) (i : Nat) : Nat → Nat
  | 0 => 0
  | k + 1 => mixP f b i k ^^^ gm (f.getD k 0) (b.getD (i / 4 * 4 + (i + k) % 4) 0)
theorem mixP_four (f0 f1 f2 f3 : Nat) (b : List Nat) (i : Nat) : mixP [f0, f1, f2, f3] b i 4 = mixAt f0 f1 f2 f3 b i := by
  show 0 ^^^ gm f0 _ ^^^ gm f1 _ ^^^ gm f2 _ ^^^ gm f3 _ = _
  rw [Nat.zero_xor]
  rfl
theorem mixP_lt (f b : List Nat) (hf : ∀ x ∈ f, x < 256) (i k : Nat) : mixP f b i k < 256 := by
  induction k with
  | zero => exact Nat.zero_lt_succ _
  | succ k ih => exact xor_lt8 ih (gm_lt _ _ (getD_lt hf k))
theorem mix_get (f0 f1 f2 f3 : Nat) (b : List Nat) (i : Nat) (hi : i < 16) : (mix f0 f1 f2 f3 b)[i]? = some (mixAt f0 f1 f2 f3 b i) := by
  rw [mix, List.getElem?_map, List.getElem?_range hi]
  rfl
theorem addK_get {b : List Nat} (h : St16 b) {W : List Nat} (hW : Small W) (r i : Nat) (hi : i < 16) : (addK W r b)[i]? = some (wb ((cols (addK W r b)).getD (i / 4) 0) (i % 4)) := by
  have h2 := addK_st h W r
  rw [cols_getD _ _ (by omega), wb_colOf h2 _ _ (Nat.mod_lt _ (by omega)), show 4 * (i / 4) + i % 4 = i by omega, List.getD_eq_getElem?_getD, List.getElem?_eq_getElem (by rw [h2.1]; exact hi)]
  rfl
/-- Where a byte is led back to. -/
def toPos (i : Nat) : Nat := 4 * ((i / 4 + i % 4) % 4) + i % 4
theorem toPos_lt (i : Nat) : toPos i < 16 := by unfold toPos; omega
def unsubF (b : List Nat) : Nat → List Nat
  | 0 => z16n
  | k + 1 => (unsubF b k).set (toPos k) (bs (b.getD k 0))
theorem unsubF_len (b : List Nat) (k : Nat) : (unsubF b k).length = 16 := by
  induction k with
  | zero => rfl
  | succ k ih => rw [unsubF, List.length_set, ih]
theorem unsubF_all {b : List Nat} (h : St16 b) : unsubF b 16 = unsub b := by
  obtain ⟨h1, h2⟩ := h
  obtain ⟨a0, a1, a2, a3, a4, a5, a6, a7, a8, a9, a10, a11, a12, a13, a14, a15, rfl⟩ := open16 h1
  rfl
theorem unsubF_at (b : List Nat) (k : Nat) : ∃ v, (unsubF b k)[toPos k]? = some v := ⟨_, List.getElem?_eq_getElem (by rw [unsubF_len]; exact toPos_lt k)⟩
theorem decF_succ (W : List Nat) (R k : Nat) (b : List Nat) : decF W R (k + 1) b = unsub (if k = 0 then addK W R b else mix 14 11 13 9 (addK W (R - k) (decF W R k b))) := rfl
end Go.Proofs.Ytnojbjconiddoaa
