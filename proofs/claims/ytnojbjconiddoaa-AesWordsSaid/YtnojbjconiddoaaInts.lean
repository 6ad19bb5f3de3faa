/-
  A slice of unsigned integers that came in, read as a list of natural numbers; no program in sight.
-/
import Derived.Test.YtnojbjconiddoaaMem
import Derived.WalkKit
import Derived.ProofKit
import Derived.OpenShut
namespace Go.Proofs.Ytnojbjconiddoaa
open Go.ChangeShapes Go.WideShapes Go.ChangeAt Go.RowKit

/-- What the proof's shell says of a slice of integers. -/
def RowSaid (k : IntKind) (w : World) (a : Option Addr) (len cap : Nat) (zs : List Int) : Prop :=
  (a = none ∧ len = 0 ∧ cap = 0 ∧ zs = []) ∨
  ∃ x, a = some x ∧ len ≤ cap ∧ cap ≤ maxLen ∧ zs.length = cap ∧ (∀ i, i < zs.length → w.cell? (x.add i) = some (.int k (zs.getD i 0))) ∧ ∀ n ∈ zs, (Lit.int k n).wf = true

/-- The slice (a, len) holds the numbers xs. -/
def IntsIn (w : World) (k : IntKind) (a : Option Addr) (len : Nat) (xs : List Nat) : Prop :=
  xs.length = len ∧ (∀ n ∈ xs, (Lit.int k (n : Int)).wf = true) ∧
  (0 < len → ∃ b off, a = some ⟨b, off, none⟩ ∧ b < w.heap.size ∧ ∀ j n : Nat, xs[j]? = some n → w.cell? ⟨b, off + j, none⟩ = some (.int k (n : Int)))

theorem intsIn_of_row {k : IntKind} (hk : ∀ n : Int, (Lit.int k n).wf = true → 0 ≤ n) {w : World} {a : Option Addr} {len cap : Nat} {zs : List Int} (h : RowSaid k w a len cap zs) :
    len ≤ maxLen ∧ len ≤ cap ∧ ∃ xs, IntsIn w k a len xs := by
  rcases h with ⟨rfl, rfl, rfl, rfl⟩ | ⟨x, rfl, hlc, hcm, hl, hc, hw⟩
  · exact ⟨by unfold maxLen; omega, by omega, [], rfl, by simp, fun h => absurd h (by omega)⟩
  · refine ⟨by omega, hlc, (zs.take len).map Int.toNat, by simp; omega, ?_, ?_⟩
    · intro n hn
      obtain ⟨z, hz, rfl⟩ := List.mem_map.1 hn
      have hz' := hw z (List.mem_of_mem_take hz)
      rw [Int.toNat_of_nonneg (hk z hz')]
      exact hz'
    · intro hpos
      obtain ⟨b, off, rfl, hb⟩ := ints_at hc (by omega)
      refine ⟨b, off, rfl, World.block_lt_of_cell? _ _ (hb 0 (by omega)), fun j n hn => ?_⟩
      rw [List.getElem?_map, Option.map_eq_some_iff] at hn
      obtain ⟨z, hz, rfl⟩ := hn
      have hjl : j < (zs.take len).length := (List.getElem?_eq_some_iff.1 hz).1
      have hjz : j < zs.length := by
        rw [List.length_take] at hjl
        omega
      have hz2 : zs[j]? = some z := by
        rw [List.getElem?_take] at hz
        split at hz
        · exact hz
        · cases hz
      rw [hb j hjz, List.getD_eq_getElem?_getD, hz2]
      have hz' := hw z (List.mem_of_getElem? hz2)
      rw [Int.toNat_of_nonneg (hk z hz')]
      rfl

theorem u8_nonneg (n : Int) (h : (Lit.int .u8 n).wf = true) : 0 ≤ n := (bounds_u8 h).1
theorem u32_nonneg (n : Int) (h : (Lit.int .u32 n).wf = true) : 0 ≤ n := (bounds_u32 h).1
theorem u64_nonneg (n : Int) (h : (Lit.int .u64 n).wf = true) : 0 ≤ n := (bounds_u64 h).1

theorem IntsIn.keep {w w' : World} {k : IntKind} {a : Option Addr} {len : Nat} {xs : List Nat} (h : IntsIn w k a len xs) (hb : Below w.heap.size w w') : IntsIn w' k a len xs :=
  ⟨h.1, h.2.1, fun hp => by
    obtain ⟨b, off, rfl, hlt, hc⟩ := h.2.2 hp
    exact ⟨b, off, rfl, Nat.lt_of_lt_of_le hlt hb.size, fun j n hn => (hb.cell (p := ⟨b, off + j, none⟩) hlt).trans (hc j n hn)⟩⟩
/-- One element. -/
theorem IntsIn.elem {w : World} {k : IntKind} {a : Option Addr} {len : Nat} {xs : List Nat} (h : IntsIn w k a len xs) (j : Nat) (hj : j < len) :
    ∃ b off n, a = some ⟨b, off, none⟩ ∧ b < w.heap.size ∧ xs[j]? = some n ∧ (Lit.int k (n : Int)).wf = true ∧ w.cell? ⟨b, off + j, none⟩ = some (.int k (n : Int)) := by
  obtain ⟨b, off, rfl, hlt, hc⟩ := h.2.2 (by omega)
  have hn : xs[j]? = some (xs[j]'(by rw [h.1]; exact hj)) := List.getElem?_eq_getElem (by rw [h.1]; exact hj)
  exact ⟨b, off, _, rfl, hlt, hn, h.2.1 _ (List.getElem_mem _), hc j _ hn⟩
end Go.Proofs.Ytnojbjconiddoaa
