/-
  What the bound of an 'upto' statement gives of a slice.
-/
import Derived.Test.YtogcckedelkpbaaRows
namespace Go.Proofs.Ytogcckedelkpbaa

theorem bulk_one {H : Type} (d : DataW H) : 1 ≤ Rows.uptoBulk d := by
  cases d with
  | lit l => cases l <;> simp [Rows.uptoBulk]
  | _ => simp [Rows.uptoBulk]
theorem bulk_all {H : Type} (l : List (DataW H)) : l.length ≤ Rows.uptoBulkAll l := by
  induction l with
  | nil => simp [Rows.uptoBulkAll]
  | cons x r ih =>
    have := bulk_one x
    simp only [Rows.uptoBulkAll, List.length_cons]
    omega
theorem bulk_slice {H : Type} (elems spare : List (DataW H)) : elems.length + spare.length + 1 ≤ Rows.uptoBulk (.slice elems spare) := by
  have h1 := bulk_all elems
  have h2 := bulk_all spare
  simp only [Rows.uptoBulk]
  omega
end Go.Proofs.Ytogcckedelkpbaa
