/-
  An array of bytes that is filled one by one, in plain words of Lean
-/
import Derived.Test.YtnojbjconiddoaaArr
namespace Go.Proofs.Ytnojbjconiddoaa

/-- The first j of l; the others are noughts. -/
def fillTo (l : List Nat) (n j : Nat) : List Nat := l.take j ++ List.replicate (n - j) 0
theorem fillTo_zero (l : List Nat) (n : Nat) : fillTo l n 0 = List.replicate n 0 := by simp [fillTo]
theorem fillTo_all (l : List Nat) (n : Nat) (h : l.length = n) : fillTo l n n = l := by
  unfold fillTo
  rw [List.take_of_length_le (by omega), Nat.sub_self]
  simp
theorem fillTo_length (l : List Nat) (n j : Nat) (h : l.length = n) (hj : j ≤ n) : (fillTo l n j).length = n := by
  unfold fillTo
  rw [List.length_append, List.length_take, List.length_replicate]
  omega
theorem fillTo_at (l : List Nat) (n j : Nat) (h : l.length = n) (hj : j < n) : (fillTo l n j)[j]? = some 0 := by
  unfold fillTo
  rw [List.getElem?_append_right (by rw [List.length_take]; omega), List.length_take, show j - min j l.length = 0 by omega, List.getElem?_replicate]
  simp
  omega
theorem fillTo_succ (l : List Nat) (n j x : Nat) (h : l.length = n) (hj : j < n) (hx : l[j]? = some x) : (fillTo l n j).set j x = fillTo l n (j + 1) := by
  unfold fillTo
  rw [List.set_append, if_neg (by rw [List.length_take]; omega), List.length_take, show j - min j l.length = 0 by omega, show n - j = (n - (j + 1)) + 1 by omega, List.replicate_succ, List.set_cons_zero, List.take_add_one, hx]
  simp
theorem arr_set (l : List Nat) (j x : Nat) : ((l.map vb).toArray).setIfInBounds j (vb x) = ((l.set j x).map vb).toArray := by
  rw [List.map_set]
  simp
theorem arr_at (l : List Nat) (j x : Nat) (hx : l[j]? = some x) : ((l.map vb).toArray)[j]? = some (vb x) := by
  rw [List.getElem?_toArray, List.getElem?_map, hx]
  rfl
theorem arr_size (l : List Nat) : ((l.map vb).toArray).size = l.length := by simp
end Go.Proofs.Ytnojbjconiddoaa
