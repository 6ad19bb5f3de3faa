/-
  A block of sixteen bytes that came in by value, opened; no program in sight.
-/
import Derived.Test.YtnojbjconiddoaaApp
import Derived.OpenShut
namespace Go.Proofs.Ytnojbjconiddoaa
open Go.ChangeShapes Go.WideShapes Go.ChangeAt Go.RowKit

theorem array_open {H : Type} {enc : TypeId × Value → H} {P : Program} {w : World} {base : Nat} {spare : Nat → Bool} {held : Bool} {r : Reach} {base' : Nat} {t e : TypeId} {n : Nat} {v : Value} {d : DataW H} {p : List MemPlace}
    (ht : P.underlying t = some (.array n e)) (he : P.underlying e = some (.int .u8)) (ce : P.cellsOf e = 1) (ct : P.cellsOf t = n) (hval : Value.okWide P w r base' t v) (h : DataW.Trod enc P w base spare held t v d p) :
    ∃ xs : List Nat, v = .agg (xs.map vb).toArray ∧ xs.length = n ∧ ∀ x ∈ xs, x < 256 := by
  have hv : ∃ cs, v = .agg cs ∧ cs.size = P.cellsOf t := by
    simp only [Value.okWide, ht] at hval
    obtain ⟨cs, h1, h2, _⟩ := hval
    exact ⟨cs, h1, h2⟩
  obtain ⟨cs, rfl, hcs⟩ := hv
  rw [ct] at hcs
  obtain ⟨fuel, h⟩ := h
  obtain ⟨ys, m, _, _, _, hyl, hat⟩ := DataW.trod_array ht h
  rw [ce] at hat
  have each : ∀ i : Nat, ∃ x : Nat, i < n → cs[i]? = some (vb x) ∧ x < 256 := by
    intro i
    by_cases hi : i < n
    · have h1 := hat i hi
      have hc : cs[i]? = some (cs[i]'(by omega)) := Array.getElem?_eq_getElem (by omega)
      have hd : ((Value.cells (.agg cs)).toList.drop (i * 1)).take 1 = [cs[i]'(by omega)] := by
        have : (Value.cells (.agg cs)) = cs := rfl
        rw [this, Nat.mul_one, List.drop_eq_getElem_cons (by simpa using by omega)]
        simp
      have h2 : DataW.trod enc P w base spare held m e [cs[i]'(by omega)] = some (ys[i]'(by omega)) := by
        rw [← hd, ← List.getElem?_eq_getElem (by omega : i < ys.length)]
        exact h1
      obtain ⟨z, hz, _, hw⟩ := DataW.trod_int he h2
      simp only [List.cons.injEq, and_true] at hz
      obtain ⟨b1, b2⟩ := bounds_u8 hw
      refine ⟨z.toNat, fun _ => ⟨?_, by omega⟩⟩
      rw [hc, hz]
      unfold vb
      rw [Int.toNat_of_nonneg b1]
    · exact ⟨0, fun h => absurd h hi⟩
  obtain ⟨X, hX⟩ := Classical.axiomOfChoice each
  refine ⟨(List.range n).map X, ?_, by simp, fun x hx => ?_⟩
  · congr 1
    apply Array.ext_getElem?
    intro i
    by_cases hi : i < n
    · rw [(hX i hi).1]
      simp [hi]
    · rw [Array.getElem?_eq_none (by omega), Array.getElem?_eq_none (by simp; omega)]
  · obtain ⟨i, hi, rfl⟩ := List.mem_map.1 hx
    exact (hX i (List.mem_range.1 hi)).2
end Go.Proofs.Ytnojbjconiddoaa
