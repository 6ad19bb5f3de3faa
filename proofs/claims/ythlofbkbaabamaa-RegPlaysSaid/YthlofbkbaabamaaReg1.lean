/-
  reg.Register: New, Read; the example's state.
-/
import Derived.Test.YthlofbkbaabamaaRegH
import Derived.Test.YthlofbkbaabamaaDev2
namespace Go.Proofs.Ythlofbkbaabamaa
open Go.ChangeShapes Go.WideShapes Go.ChangeAt Go.RowKit

/-- A register's cells. -/
def regL (d : Nat) (s : St) : List Value := .pointer (some ⟨d, 0, none⟩) :: stL s
def RegAt (w : World) (g d : Nat) (s : St) : Prop := Blk w g 86 (regL d s).toArray
theorem RegAt.dev {w : World} {g d : Nat} {s : St} (h : RegAt w g d s) : w.cell? ⟨g, 0, none⟩ = some (.pointer (some ⟨d, 0, none⟩)) := h.at 0 _ (by simp [regL])
theorem RegAt.loads {w : World} {g d : Nat} {s : St} (hs : StOk s) (h : RegAt w g d s) : LoadsSt w g 1 s := fun _ _ x ho hx => exec_load_st s hs x g 1 ho hx (range_mid h (l := [.pointer (some ⟨d, 0, none⟩)]) (r := []) (by simp [regL]) rfl)

theorem exec_newreg {o : Oper} {a : Act} {w : World} (d : Nat) (x : Operand) (ho : o.op = .build 86 #[(0, x)]) (hx : a.eval x = .pointer (some ⟨d, 0, none⟩)) : (execOp a.eval o).run Try.prog w = .ok (.value (.agg (regL d st0).toArray)) w := by
  have h : (Instr.build 86 #[(0, .pointer (some ⟨d, 0, none⟩))]).run Try.prog w = .ok (.agg (regL d st0).toArray) w := by kernel_rfl
  generalize (regL d st0).toArray = cs at *
  unfold execOp
  simp [ho, hx, h]

set_option maxRecDepth 100000 in
set_option maxHeartbeats 1000000 in
theorem regNew_any (w : World) (d : Nat) :
    Calls Try.prog 20 #[.pointer (some ⟨d, 0, none⟩)] w fun e w' => e = .returned (.tuple #[.pointer (some ⟨w.heap.size, 0, none⟩), .int .i64 0]) ∧ RegAt w' w.heap.size d st0 ∧ Below w.heap.size w w' := by
  go_enter Try.func20, Try.ntmps20
  go_upto_region 3 with fail
  go_wp2_with (refine wpList_run _ rfl (exec_newreg d (.tmp 6) rfl rfl) ?_)
  go_ret2
  exact ⟨rfl, Blk.made w _ _, nu_alloc (nu_refl w) _⟩

theorem st_one {s : St} : ∀ v ∈ stL s, v.oneCell' = true := fun v hv => by
  unfold stL at hv
  rcases List.mem_append.1 hv with hv | hv
  · simp at hv
    rcases hv with rfl | rfl | rfl | rfl | rfl | rfl | rfl | rfl <;> rfl
  · rcases List.mem_append.1 hv with hv | hv
    · exact vb_one32 _ v hv
    · exact vb_one32 _ v hv
theorem size_st : (Try.prog.info? 26).map (·.size) = some 72 := by kernel_rfl
theorem und_st : Try.prog.underlying 26 = some (.struct (Try.prog.fieldsOf 26)) := by kernel_rfl
theorem zst_size : (Try.zeroCells26).size = 72 := by kernel_rfl

set_option maxRecDepth 100000 in
set_option maxHeartbeats 1000000 in
theorem regRead_any {w : World} {g d : Nat} {s : St} (hs : StOk s) (h : RegAt w g d s) :
    Calls Try.prog 23 #[.pointer (some ⟨g, 0, none⟩)] w fun e w' => e = .returned (.agg (stA s)) ∧ Below w.heap.size w w' := by
  have HL := Lib.hid (RegAt.loads hs (show RegAt (w.alloc (.cells Try.zeroCells26 26)) g d s from Blk.alloc h _))
  have HZ := Lib.hid (Blk.made w 26 Try.zeroCells26)
  have Hz := Lib.hid (show (stL s).length = (Try.zeroCells26).size by rw [st_len hs, zst_size])
  have Hz2 := Lib.hid (show (Try.prog.info? 26).map (·.size) = some (stL s).length by rw [st_len hs, size_st])
  have HF := Lib.hid (HZ.out.fill (stL s) Hz.out)
  have hn := nu_fill (stL s) (g := w.heap.size) (Nat.le_refl _) 0 _ (nu_alloc (nu_refl w) (.cells Try.zeroCells26 26))
  have Hn := Lib.hid hn
  have Hs := Lib.hid hs
  clear h hn hs
  go_enter Try.func23, Try.ntmps23
  go_upto_region 3 with fail
  go_wp2_with (first | (refine wpList_run _ rfl (HL.out _ _ (.tmp 8) rfl rfl) ?_) | (refine wpList_store_blk rfl 26 (.tmp 2) (.tmp 9) rfl w.heap.size (stL s) rfl rfl 26 Try.zeroCells26 HZ.out Hz.out Hz2.out st_one ?_))
  refine bodyPost_ret (results_blkS rfl _ w.heap.size 26 (stL s).toArray rfl HF.out und_st (by rw [size_st, List.size_toArray, st_len Hs.out])) rfl ⟨rfl, Hn.out⟩
end Go.Proofs.Ythlofbkbaabamaa
