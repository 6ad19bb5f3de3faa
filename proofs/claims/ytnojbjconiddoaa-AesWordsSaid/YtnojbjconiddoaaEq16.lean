/-
  Blocks of sixteen bytes: whole loads, and comparing by ==; one byte more onto a row of bytes.
-/
import Derived.Test.YtnojbjconiddoaaArrEq
import Derived.Test.YtnojbjconiddoaaRun
import Derived.Test.YtnojbjconiddoaaTouch
import Derived.Test.YtnojbjconiddoaaBytes
namespace Go.Proofs.Ytnojbjconiddoaa
open Go.ChangeShapes Go.WideShapes Go.ChangeAt Go.RowKit

section
variable {o : Oper} {a : Act} {w : World}
theorem e16_eql (xs ys : List Nat) (v : Bool) (hv : decide (xs = ys) = v) (h1 : xs.length = 16) (h2 : ys.length = 16) (x y : Operand) (ho : o.op = .binOp .eql 22 x y 22) (hx : a.eval x = .agg (xs.map vb).toArray) (hy : a.eval y = .agg (ys.map vb).toArray) :
    (execOp a.eval o).run Try.prog w = .ok (.value (.bool v)) w := by
  have he := run_equalIn_bytes' (P := Try.prog) w (t := 22) (e := 5) (n := 16) (i := (Try.prog.info? 5).get!) (k := .u8) 9998 (by kernel_rfl) (by kernel_rfl) (by kernel_rfl) (by kernel_rfl) (by kernel_rfl) xs ys h1 h2
  rw [hv] at he
  unfold execOp
  simp only [ho, hx, hy]
  simp [run_eqGuard_agg (P := Try.prog) w .eql 22 x y (xs.map vb).toArray (ys.map vb).toArray (by kernel_rfl), run_eql_struct, he]
theorem e16_same (xs : List Nat) (h1 : xs.length = 16) (x y : Operand) (ho : o.op = .binOp .eql 22 x y 22) (hx : a.eval x = .agg (xs.map vb).toArray) (hy : a.eval y = .agg (xs.map vb).toArray) :
    (execOp a.eval o).run Try.prog w = .ok (.value (.bool true)) w := e16_eql xs xs true (by simp) h1 h1 x y ho hx hy
theorem e16_load {g : Nat} {t : TypeId} {xs : List Nat} (hb : Blk w g t (xs.map vb).toArray) (h1 : xs.length = 16) (x : Operand) (ho : o.op = .load 22 x) (hx : a.eval x = .pointer (some ⟨g, 0, none⟩)) :
    (execOp a.eval o).run Try.prog w = .ok (.value (.agg (xs.map vb).toArray)) w :=
  exec_load_mid (P := Try.prog) (w := w) 22 x g 0 (xs.map vb) (.array 16 5) ho hx (range_blk hb) (by kernel_rfl) rfl (by rw [List.length_map, h1]; kernel_rfl)
theorem exec_eqb (v : Bool) (x y : Operand) (ho : o.op = .binOp .eql 4 x y 4) (hx : a.eval x = .bool v) (hy : a.eval y = .bool v) :
    (execOp a.eval o).run Try.prog w = .ok (.value (.bool true)) w := by
  cases v
  · unfold execOp
    simp only [ho, hx, hy]
    kernel_rfl
  · unfold execOp
    simp only [ho, hx, hy]
    kernel_rfl
end
theorem ownB_under {w w' : World} {base : Nat} {e : TypeId} {v : Value} {xs : List Nat} (h : OwnB w base e v xs) (hb : Below w.heap.size w w') : OwnB w' base e v xs :=
  ⟨h.1.kept (gb_of_below hb none) (by cases v.ownBlock <;> simp), h.2⟩
/-- One byte more, out of a slice that was made for it. -/
theorem wpList_byte_more {ops : Array Oper} {rest : List Oper} {o : Oper} {a : Act} {Q : Exit → Act → World → Prop} (hgd : o.guard = none) (s x : Operand)
    (ho : o.op = .call { callee := .builtin .append, args := #[s, x], argTypes := #[27, 27] }) {w : World} {base : Nat} {v : Value} {xs : List Nat} (hown : OwnB w base 5 v xs) (hb : base ≤ w.heap.size) (hl : xs.length < 140737488355328)
    (y : Int) (n : Nat) (hn : n < 256) (hy : y = (n : Int)) (hs : a.eval s = v) (hx : a.eval x = .slice (some ⟨w.heap.size, 0, none⟩) 1 1)
    (h : ∀ v' w', OwnB w' base 5 v' (xs ++ [n]) → Below base w w' → wpList Try.prog ops Q rest (a.put o.dst v') w') : wpList Try.prog ops Q (o :: rest) a (w.alloc (.cells #[.int .u8 y] 5)) := by
  subst hy
  obtain ⟨i0, hi, hz0, hz1, hz2⟩ := info_parts info_u8
  have hal := nu_alloc (nu_refl w) (.cells #[.int .u8 (n : Int)] 5)
  refine wpList_append_own _ hgd s x 27 ho base 5 i0 (.int .u8 0) 1 1 Try.underlying27 hi hz0 hz1 hz2 rfl (by decide) v xs.length (xs.map vb) hs (ownB_under hown hal).1 ⟨w.heap.size, 0, none⟩ 1 1 [.int .u8 (n : Int)] hx rfl (cell_one_new _ _ _)
    (by intro u hu; obtain rfl := List.mem_singleton.1 hu; rfl) (by unfold maxLen; omega) (by omega) (by simp; omega) ?_
  intro v' w' h1 h2 _
  refine h v' w' ⟨by rw [List.length_append, List.map_append]; exact h1, fun z hz => ?_⟩ ((hal.mono hb).grown h2 (by simp; omega) (fun k hk => (hown.1.lt k hk).1))
  rcases List.mem_append.1 hz with hz | hz
  · exact hown.2 z hz
  · simp at hz
    omega
end Go.Proofs.Ytnojbjconiddoaa
