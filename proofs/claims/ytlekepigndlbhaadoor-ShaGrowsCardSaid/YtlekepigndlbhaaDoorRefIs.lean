/-
  The document's Of at a digest that is named.
-/
import Derived.Test.YtlekepigndlbhaaDoorShaR
namespace Go.Proofs.YtlekepigndlbhaaDoor
open Go.ChangeShapes Go.WideShapes Go.ChangeAt Go.RowKit

theorem refOf_is {w : World} {a : Option Addr} {len cap : Nat} {xs D : List Nat} (hD : digest xs = D) (hx : BytesIn w a len cap xs) (hlen : len ≤ 1000000000) : Calls Tryd.prog 16 #[.slice a len cap] w fun e w' => e = .returned (.agg (D.map vb).toArray) ∧ Below w.heap.size w w' := by
  rw [← hD]
  exact refOf_any a len cap xs w hx hlen
end Go.Proofs.YtlekepigndlbhaaDoor
