/-
  dev.Device: Spend; dev.New of one block; reg.New.
-/
import Derived.Test.YthlofbkbaabamaaDev1
import Derived.Laws.MakeOwn
namespace Go.Proofs.Ythlofbkbaabamaa
open Go.ChangeShapes Go.WideShapes Go.ChangeAt Go.RowKit

set_option maxRecDepth 100000 in
theorem spend_off {w : World} {d : Nat} {st wa : Value} {ar co : Int} {cp wr : Value} (h : DevAt w d st wa true ar co cp wr) :
    Calls Try.prog 28 #[.pointer (some ⟨d, 0, none⟩)] w fun e w' => e = .returned (.bool false) ∧ w' = w := by
  obtain ⟨_, _, c2, _⟩ := h.cells
  go_enter Try.func28, Try.ntmps28
  go_wp2_with fail
  go_ret
  exact ⟨rfl, rfl⟩

set_option maxRecDepth 100000 in
set_option maxHeartbeats 1000000 in
theorem spend_on {w : World} {d : Nat} {st wa : Value} {ar co : Int} {cp wr : Value} (h : DevAt w d st wa false ar co cp wr) (h0 : 0 ≤ ar) (h1 : ar ≤ 9223372036854775807) :
    Calls Try.prog 28 #[.pointer (some ⟨d, 0, none⟩)] w fun e w' => e = .returned (.bool (!spentOff ar)) ∧ DevAt w' d st wa (spentOff ar) (spentAr ar) (IntKind.i64.wrap (co + 1)) cp wr ∧ w.grownBy w' (some d) := by
  obtain ⟨_, _, c2, _⟩ := h.cells
  have HS := Lib.hid (spend_any h h0 h1)
  generalize spentOff ar = so at *
  generalize spentAr ar = sa at *
  generalize IntKind.i64.wrap (co + 1) = sc at *
  clear h h0 h1
  go_enter Try.func28, Try.ntmps28
  go_wp2_with fail
  refine (HS.out).mono ?_
  rintro e w1 ⟨rfl, hd, hg⟩
  have Hd := Lib.hid hd
  have Hg := Lib.hid hg
  clear hd hg
  go_wp2_with fail
  go_ret
  exact ⟨rfl, Hd.out, Hg.out⟩

theorem wpList_runW {P : Program} {ops : Array Oper} {rest : List Oper} {o : Oper} {a : Act} {w : World} {Q : Exit → Act → World → Prop} (v : Value) (w1 : World) (hw : Region.wanted o (yielded ops a.tmps) = true) (hr : (execOp a.eval o).run P w = .ok (.value v) w1) (h : wpList P ops Q rest (a.put o.dst v) w1) : wpList P ops Q (o :: rest) a w := by
  unfold wpList
  rw [if_pos hw]
  refine .inl ?_
  unfold Oper.wp
  rw [hr]
  exact h
theorem exec_make1 {o : Oper} {a : Act} {w : World} : ∃ ob : Obj, ∀ (x y : Operand), o.op = .makeSlice 87 x y → a.eval x = .int .i64 1 → a.eval y = .int .i64 1 →
    (execOp a.eval o).run Try.prog w = .ok (.value (.slice (some ⟨w.heap.size, 0, none⟩) 1 1)) (w.alloc ob) := by
  have h := run_makeSlice (P := Try.prog) (w := w) 87 92 (Try.prog.info? 92).get! ((Try.prog.info? 92).get!.zero).get! (by kernel_rfl) (by kernel_rfl) (by kernel_rfl) .i64 .i64 1 1 (by omega) (by omega)
    (by rw [show (Try.prog.info? 92).get!.size = 256 by kernel_rfl]; omega) (by rw [show (Try.prog.info? 92).get!.bytes = 256 by kernel_rfl]; omega) (by omega)
  obtain ⟨ob, hob⟩ : ∃ ob, (Instr.makeSlice 87 (.int .i64 1) (.int .i64 1)).run Try.prog w = .ok (.slice (some ⟨w.heap.size, 0, none⟩) 1 1) (w.alloc ob) := ⟨_, h⟩
  refine ⟨ob, fun x y ho hx hy => ?_⟩
  unfold execOp
  simp only [ho, hx, hy, Sem.run_bind, hob, Result.andThen_ok, Sem.run_pure]

set_option maxRecDepth 100000 in
set_option maxHeartbeats 1000000 in
theorem devNew_one (w : World) :
    Calls Try.prog 24 #[.int .i64 1] w fun e w' => ∃ d st, e = .returned (.tuple #[.pointer (some ⟨d, 0, none⟩), .int .i64 0]) ∧ w.heap.size ≤ d ∧ DevAt w' d st (.slice none 0 0) false 0 0 (.slice none 0 0) (.slice none 0 0) ∧ Below w.heap.size w w' := by
  go_enter Try.func24, Try.ntmps24
  go_wp2_with (obtain ⟨ob, hob⟩ := exec_make1 (w := w); refine wpList_runW _ _ rfl (hob (.tmp 10) (.tmp 10) rfl rfl rfl) ?_; clear hob)
  go_ret2
  exact ⟨w.heap.size + 1, _, rfl, by omega, Blk.made1 w ob 91 _, nu_alloc (nu_alloc (nu_refl w) _) _⟩
end Go.Proofs.Ythlofbkbaabamaa
