/-
  A whole block stored as one step of a region.
-/
import Derived.Test.YtnojbjconiddoaaArr
import Derived.Test.YtnojbjconiddoaaStep
import Derived.Deep.MidRow
namespace Go.Proofs.Ytnojbjconiddoaa
open Go.ChangeShapes Go.WideShapes Go.ChangeAt Go.RowKit

theorem step_store_blk {P : Program} {ops : Array Oper} {o : Oper} {a : Act} {w : World} {K : Act → World → Prop} {Q : Exit → Act → World → Prop} {G : Prop} (hgd : o.guard = none) (ty : TypeId) (x y : Operand) (ho : o.op = .store ty x y) (g : Nat) (vs : List Value) (hx : a.eval x = .pointer (some ⟨g, 0, none⟩)) (hy : a.eval y = .agg vs.toArray)
    (t : TypeId) (cs : Array Value) (hb : Blk w g t cs) (hl : vs.length = cs.size) (hi : (P.info? ty).map (·.size) = some vs.length) (h1 : ∀ v ∈ vs, v.oneCell' = true)
    (h : K (a.put o.dst undef) (w.setCells g 0 vs)) : if Region.wanted o (yielded ops a.tmps) = true then Oper.wp P o a w K Q else G := by
  have hw : Region.wanted o (yielded ops a.tmps) = true := by simp [Region.wanted, hgd]
  rw [if_pos hw]
  exact wp_store_mid ty x y ho g 0 vs.toArray hx hy (hb.there 0 _ (by simp; omega)) (by simpa using hi) (all_oneCell_toArray h1) (by simpa using h)
end Go.Proofs.Ytnojbjconiddoaa
