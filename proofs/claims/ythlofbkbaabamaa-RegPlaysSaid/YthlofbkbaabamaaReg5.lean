/-
  The walk of RegNil.
-/
import Derived.Test.YthlofbkbaabamaaReg3
namespace Go.Proofs.Ythlofbkbaabamaa
open Go.ChangeShapes Go.WideShapes Go.ChangeAt Go.RowKit

set_option maxRecDepth 100000 in
theorem regNew_nil (w : World) :
    Calls Try.prog 20 #[.pointer none] w fun e w' => e = .returned (.tuple #[.pointer none, .int .i64 5]) ∧ w' = w := by
  go_enter Try.func20, Try.ntmps20
  go_wp2_with fail
  go_ret2
  exact ⟨rfl, rfl⟩

set_option maxRecDepth 100000 in
theorem regWrite_nil (s : St) (w : World) :
    Calls Try.prog 21 #[.pointer none, .agg (stA s)] w fun e w' => e = .returned (.int .i64 5) ∧ Below w.heap.size w w' := by
  have hn := nu_alloc (nu_refl w) (.cells (stA s) 26)
  generalize stA s = cs at *
  go_enter Try.func21, Try.ntmps21
  go_wp2_with fail
  go_ret
  exact ⟨rfl, hn⟩

set_option maxRecDepth 100000 in
set_option maxHeartbeats 1000000 in
theorem regRead_nil (w : World) :
    Calls Try.prog 23 #[.pointer none] w fun e w' => e = .returned (.agg (stA st0)) ∧ Below w.heap.size w w' := by
  have HZ := Lib.hid (Blk.made w 26 Try.zeroCells26)
  have Hz := Lib.hid (show (stL st0).length = (Try.zeroCells26).size by rw [st_len st0_ok, zst_size])
  have Hz2 := Lib.hid (show (Try.prog.info? 26).map (·.size) = some (stL st0).length by rw [st_len st0_ok, size_st])
  have HF := Lib.hid (HZ.out.fill (stL st0) Hz.out)
  have Hn := Lib.hid (nu_fill (stL st0) (g := w.heap.size) (Nat.le_refl _) 0 _ (nu_alloc (nu_refl w) (.cells Try.zeroCells26 26)))
  go_enter Try.func23, Try.ntmps23
  go_upto_region 2 with fail
  go_wp2_with (first | (refine wpList_run _ rfl (exec_zero_st rfl) ?_) | (refine wpList_store_blk rfl 26 (.tmp 2) (.tmp 5) rfl w.heap.size (stL st0) rfl rfl 26 Try.zeroCells26 HZ.out Hz.out Hz2.out st_one ?_))
  refine bodyPost_ret (results_blkS rfl _ w.heap.size 26 (stL st0).toArray rfl HF.out und_st (by rw [size_st, List.size_toArray, st_len st0_ok])) rfl ⟨rfl, Hn.out⟩

theorem blank_zero (w : World) :
    Calls Try.prog 22 #[.agg (stA st0)] w fun e w' => e = .returned (.bool true) ∧ Below w.heap.size w w' := by
  have h := refBlank_any st0 st0_ok w
  rw [decide_eq_true rfl] at h
  exact h

set_option maxRecDepth 100000 in
set_option maxHeartbeats 2000000 in
theorem regNil_walk (s : St) (hs : StOk s) (w : World) :
    Calls Try.prog 5 #[.agg (stA s)] w fun e w' => e = .returned (.bool true) ∧ Below w.heap.size w w' := by
  have hn := nu_alloc (nu_refl w) (.cells (stA s) 26)
  have HL := Lib.hid (loads_blk hs (Blk.made w 26 (stA s)))
  clear hs
  go_enter Try.func5, Try.ntmps5
  go_upto_region 1 with fail
  generalize w.alloc (.cells (stA s) 26) = u0 at *
  go_wp2_with fail
  refine (regNew_nil u0).mono ?_
  rintro e w1 ⟨rfl, rfl⟩
  go_wp2_with (refine wpList_run _ rfl (HL.out _ _ (.tmp 1) rfl rfl) ?_)
  refine (regWrite_nil s w1).mono ?_
  rintro e w2 ⟨rfl, hb2⟩
  go_wp2_with fail
  refine (regRead_nil w2).mono ?_
  rintro e w3 ⟨rfl, hb3⟩
  go_wp2_with fail
  refine (blank_zero w3).mono ?_
  rintro e w4 ⟨rfl, hb4⟩
  go_wp2_with fail
  refine (regAwake_any w4).mono ?_
  rintro e w5 ⟨rfl, hb5⟩
  have hn5 := nu_trans (nu_trans (nu_trans (nu_trans hn hb2) hb3) hb4) hb5
  clear hn hb2 hb3 hb4 hb5
  go_wp2_with fail
  go_ret
  exact ⟨rfl, hn5⟩
end Go.Proofs.Ythlofbkbaabamaa
