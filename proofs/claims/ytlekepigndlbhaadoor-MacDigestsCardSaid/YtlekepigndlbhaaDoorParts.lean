/-
  A slice of slices of bytes that came in, opened; no program in sight.
-/
import Derived.Test.YtlekepigndlbhaaDoorApp
import Derived.Test.YtlekepigndlbhaaDoorTouch
import Derived.Deep.Matrix
namespace Go.Proofs.YtlekepigndlbhaaDoor
open Go.ChangeShapes Go.WideShapes Go.ChangeAt Go.RowKit

/-- Every row, as a list of bytes: the outer cell holds a slice, and that slice reads so. -/
def PartsAt (w : World) (a : Option Addr) (len : Nat) (ps : List (List Nat)) : Prop :=
  ps.length = len ∧ (0 < len → ∃ b off, a = some ⟨b, off, none⟩ ∧ b < w.heap.size ∧ ∀ i p, ps[i]? = some p → ∃ ai li ci, w.cell? ⟨b, off + i, none⟩ = some (.slice ai li ci) ∧ li ≤ ci ∧ ci ≤ maxLen ∧ BytesIn w ai li ci p)
theorem parts_open {H : Type} {enc : TypeId × Value → H} {P : Program} {w : World} {base : Nat} {held : Bool} {t e q : TypeId} {a : Option Addr} {len cap : Nat} {d : DataW H} {p : List MemPlace}
    (ht : P.underlying t = some (.slice e)) (he : P.underlying e = some (.slice q)) (hq : P.underlying q = some (.int .u8)) (ce : P.cellsOf e = 1) (cq : P.cellsOf q = 1)
    (h : DataW.Trod enc P w base (fun _ => true) held t (.slice a len cap) d p) : len ≤ cap ∧ cap ≤ maxLen ∧ ∃ ps, PartsAt w a len ps := by
  obtain ⟨fuel, h⟩ := h
  rcases Deep.open_int_rows ht he hq ce cq h with ⟨hcs, _⟩ | ⟨x, len', cap', A, L, C, Z, hcs, _, hlc, hcm, _, hr⟩
  · simp [Value.cells] at hcs
    obtain ⟨rfl, rfl, rfl⟩ := hcs
    exact ⟨by omega, by unfold maxLen; omega, [], rfl, fun h => absurd h (by omega)⟩
  · simp [Value.cells] at hcs
    obtain ⟨rfl, rfl, rfl⟩ := hcs
    have each : ∀ r, ∃ xs, r < cap → BytesIn w (A r) (L r) (C r) xs := by
      intro r
      by_cases hrc : r < cap
      · obtain ⟨_, h1, h2, h3, h4, h5, h6⟩ := hr r hrc
        have hrow : RowSaid .u8 w (A r) (L r) (C r) (Z r) := by
          cases hA : A r with
          | none =>
            have h0 := h5 hA
            exact .inl ⟨rfl, by omega, h0, List.eq_nil_of_length_eq_zero (by omega)⟩
          | some y => exact .inr ⟨y, rfl, h1, h2, h3, fun i hi => (h6 y hA).2 i (by omega), h4⟩
        obtain ⟨_, xs, hx⟩ := bytesIn_of_row hrow
        exact ⟨xs, fun _ => hx⟩
      · exact ⟨[], fun h => absurd h hrc⟩
    obtain ⟨X, hX⟩ := Classical.axiomOfChoice each
    refine ⟨hlc, hcm, (List.range len).map X, by simp, fun hp => ?_⟩
    obtain ⟨b, off, spot⟩ := x
    have h0 := (hr 0 (by omega)).1
    have hspot : spot = none := by simpa [Addr.add] using World.cell?_spot h0
    subst hspot
    refine ⟨b, off, rfl, ?_, fun i p hi => ?_⟩
    · rw [add_plain] at h0
      exact World.block_lt_of_cell? _ _ h0
    · rw [List.getElem?_map, Option.map_eq_some_iff] at hi
      obtain ⟨j, hj, rfl⟩ := hi
      have hil : i < len := by
        have := (List.getElem?_eq_some_iff.1 hj).1
        simpa using this
      have hji : j = i := by
        rw [List.getElem?_range hil] at hj
        injection hj with hj
        exact hj.symm
      subst hji
      obtain ⟨h1, h2, h3, _⟩ := hr j (by omega)
      rw [add_plain] at h1
      exact ⟨A j, L j, C j, h1, h2, h3, hX j (by omega)⟩
end Go.Proofs.YtlekepigndlbhaaDoor
