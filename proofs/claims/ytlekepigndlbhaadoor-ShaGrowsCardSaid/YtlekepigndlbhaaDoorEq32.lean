/-
  Whole digests: loaded, compared.
-/
import Derived.Test.YtlekepigndlbhaaDoorRun
import Derived.Test.YtlekepigndlbhaaDoorArrEq
import Derived.Test.YtlekepigndlbhaaDoorBytes
namespace Go.Proofs.YtlekepigndlbhaaDoor
open Go.ChangeShapes Go.WideShapes Go.ChangeAt Go.RowKit

section
variable {o : Oper} {a : Act} {w : World}
theorem exec_load_32 (xs : List Nat) (hl : xs.length = 32) (x : Operand) (b f : Nat) (ho : o.op = .load 25 x) (hx : a.eval x = .pointer (some ⟨b, f, none⟩)) (hc : w.rangeAt b f (xs.map vb)) :
    (execOp a.eval o).run Tryd.prog w = .ok (.value (.agg (xs.map vb).toArray)) w :=
  exec_load_mid _ x b f (xs.map vb) (.array 32 5) ho hx hc (by kernel_rfl) rfl (by rw [List.length_map, hl]; kernel_rfl)
theorem exec_eql_32 (xs ys : List Nat) (h1 : xs.length = 32) (h2 : ys.length = 32) (x y : Operand) (ho : o.op = .binOp .eql 25 x y 25) (hx : a.eval x = .agg (xs.map vb).toArray) (hy : a.eval y = .agg (ys.map vb).toArray) :
    (execOp a.eval o).run Tryd.prog w = .ok (.value (.bool (decide (xs = ys)))) w := by
  have he := run_equalIn_bytes' (P := Tryd.prog) w (t := 25) (e := 5) (n := 32) (i := (Tryd.prog.info? 5).get!) (k := .u8) 9998 (by kernel_rfl) (by kernel_rfl) (by kernel_rfl) (by kernel_rfl) (by kernel_rfl) xs ys h1 h2
  unfold execOp
  simp only [ho, hx, hy]
  simp [run_eqGuard_agg (P := Tryd.prog) w .eql 25 x y (xs.map vb).toArray (ys.map vb).toArray (by kernel_rfl), run_eql_struct, he]
theorem exec_same_32 (xs : List Nat) (h1 : xs.length = 32) (x y : Operand) (ho : o.op = .binOp .eql 25 x y 25) (hx : a.eval x = .agg (xs.map vb).toArray) (hy : a.eval y = .agg (xs.map vb).toArray) :
    (execOp a.eval o).run Tryd.prog w = .ok (.value (.bool true)) w := by
  have h := exec_eql_32 (w := w) xs xs h1 h1 x y ho hx hy
  rw [decide_eq_true rfl] at h
  exact h
end
end Go.Proofs.YtlekepigndlbhaaDoor
