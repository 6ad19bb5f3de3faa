/-
  '==' on arrays of bytes, by the lists that they hold; no program in sight.
-/
import Derived.Test.YtnojbjconiddoaaApp
import Derived.ChangeKeysEq
import Derived.Laws.StructEq
namespace Go.Proofs.Ytnojbjconiddoaa
open Go.ChangeShapes Go.WideShapes Go.ChangeAt Go.RowKit

section
variable {P : Program} (w : World)

theorem run_eqItems_bytes (d : Nat) {e : TypeId} {k : IntKind} (he : P.underlying e = some (.int k)) (hp : P.plainKey e = true) (xs ys : List Nat) : ∀ is : List Nat,
    (∀ i ∈ is, i < xs.length ∧ i < ys.length) → (Op.eqItems (d + 1) e 1 (xs.map vb).toArray (ys.map vb).toArray is).run P w = .ok (decide (∀ i ∈ is, xs[i]? = ys[i]?)) w := by
  intro is
  induction is with
  | nil => intro _; simp [Op.eqItems]
  | cons i is ih =>
    intro h
    obtain ⟨h1, h2⟩ := h i (by simp)
    have e1 : ((xs.map vb).toArray)[i * 1]? = some (vb xs[i]) := by
      rw [List.getElem?_toArray, Nat.mul_one, List.getElem?_map, List.getElem?_eq_getElem h1]
      rfl
    have e2 : ((ys.map vb).toArray)[i * 1]? = some (vb ys[i]) := by
      rw [List.getElem?_toArray, Nat.mul_one, List.getElem?_map, List.getElem?_eq_getElem h2]
      rfl
    have e3 := run_equalIn_int (P := P) (w := w) d e .u8 k (xs[i] : Int) (ys[i] : Int) he
    have ih' := ih (fun j hj => h j (by simp [hj]))
    simp only [Op.eqItems, Sem.run_bind, run_part_plain w hp e1, run_part_plain w hp e2, Result.andThen_ok]
    rw [show vb xs[i] = Value.int .u8 (xs[i] : Int) from rfl, show vb ys[i] = Value.int .u8 (ys[i] : Int) from rfl, e3]
    simp only [Result.andThen_ok]
    by_cases hxy : xs[i] = ys[i]
    · have t1 : ((xs[i] : Int) == (ys[i] : Int)) = true := by rw [hxy]; simp
      have t2 : xs[i]? = ys[i]? := by rw [List.getElem?_eq_getElem h1, List.getElem?_eq_getElem h2, hxy]
      rw [t1]
      simp only [Bool.not_true, Bool.false_eq_true, if_false]
      rw [ih']
      simp [t2]
    · have t1 : ((xs[i] : Int) == (ys[i] : Int)) = false := by rw [beq_eq_false_iff_ne]; omega
      have t2 : ¬ xs[i]? = ys[i]? := by rw [List.getElem?_eq_getElem h1, List.getElem?_eq_getElem h2]; simpa using hxy
      rw [t1]
      simp [t2]
theorem run_equalIn_bytes' {t e : TypeId} {n : Nat} {i : TypeInfo} {k : IntKind} (d : Nat) (hu : P.underlying t = some (.array n e)) (hi : P.info? e = some i) (he : P.underlying e = some (.int k)) (hp : P.plainKey e = true) (hc : P.cellsOf e = 1)
    (xs ys : List Nat) (hx : xs.length = n) (hy : ys.length = n) :
    (Op.equalIn (d + 1 + 1) t (.agg (xs.map vb).toArray) (.agg (ys.map vb).toArray)).run P w = .ok (decide (xs = ys)) w := by
  have h1 := run_equalIn_array (P := P) w (d + 1) (xs.map vb).toArray (ys.map vb).toArray hu hi
  rw [hc, run_eqItems_bytes w d he hp xs ys (List.range n) (fun i hi => by rw [List.mem_range] at hi; omega)] at h1
  have h2 : (∀ i ∈ List.range n, xs[i]? = ys[i]?) ↔ xs = ys := by
    constructor
    · intro h
      refine List.ext_getElem? fun i => ?_
      by_cases hin : i < n
      · exact h i (List.mem_range.2 hin)
      · rw [List.getElem?_eq_none (by omega), List.getElem?_eq_none (by omega)]
    · rintro rfl
      exact fun _ _ => rfl
  have h3 : decide (∀ i ∈ List.range n, xs[i]? = ys[i]?) = decide (xs = ys) := by simp only [h2]
  rw [h3] at h1
  exact h1
theorem run_equalIn_bytes {t e : TypeId} {n : Nat} {i : TypeInfo} {k : IntKind} (hu : P.underlying t = some (.array n e)) (hi : P.info? e = some i) (he : P.underlying e = some (.int k)) (hp : P.plainKey e = true) (hc : P.cellsOf e = 1)
    (xs ys : List Nat) (hx : xs.length = n) (hy : ys.length = n) :
    (Op.equalIn 10000 t (.agg (xs.map vb).toArray) (.agg (ys.map vb).toArray)).run P w = .ok (decide (xs = ys)) w := by
  have h1 := run_equalIn_array (P := P) w 9999 (xs.map vb).toArray (ys.map vb).toArray hu hi
  rw [hc, run_eqItems_bytes w 9998 he hp xs ys (List.range n) (fun i hi => by rw [List.mem_range] at hi; omega)] at h1
  have h2 : (∀ i ∈ List.range n, xs[i]? = ys[i]?) ↔ xs = ys := by
    constructor
    · intro h
      refine List.ext_getElem? fun i => ?_
      by_cases hin : i < n
      · exact h i (List.mem_range.2 hin)
      · rw [List.getElem?_eq_none (by omega), List.getElem?_eq_none (by omega)]
    · rintro rfl
      exact fun _ _ => rfl
  have h3 : decide (∀ i ∈ List.range n, xs[i]? = ys[i]?) = decide (xs = ys) := by simp only [h2]
  rw [h3] at h1
  exact h1
theorem run_eql_bytes {t e : TypeId} {n : Nat} {i : TypeInfo} {k : IntKind} (hu : P.underlying t = some (.array n e)) (hi : P.info? e = some i) (he : P.underlying e = some (.int k)) (hp : P.plainKey e = true) (hc : P.cellsOf e = 1)
    (xs ys : List Nat) (hx : xs.length = n) (hy : ys.length = n) :
    (binOp .eql t (.agg (xs.map vb).toArray) (.agg (ys.map vb).toArray)).run P w = .ok (.bool (decide (xs = ys))) w := by
  have h1 := run_equalIn_bytes w hu hi he hp hc xs ys hx hy
  simp only [binOp]
  simp [Op.equal, Op.maxDepth, h1]
end
end Go.Proofs.Ytnojbjconiddoaa
