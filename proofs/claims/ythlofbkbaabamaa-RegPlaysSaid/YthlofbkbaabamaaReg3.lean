/-
  law11's example: first, awake.
-/
import Derived.Test.YthlofbkbaabamaaReg2
namespace Go.Proofs.Ythlofbkbaabamaa
open Go.ChangeShapes Go.WideShapes Go.ChangeAt Go.RowKit

def s1 : St := ⟨1, 1, false, 5, 0, 1, 0, false, List.replicate 32 0, List.replicate 32 0⟩
def sLow : St := ⟨1, 1, false, 4, 0, 1, 0, false, List.replicate 32 0, List.replicate 32 0⟩
theorem s1_ok : StOk s1 := ⟨rfl, rfl, by decide⟩
theorem sLow_ok : StOk sLow := ⟨rfl, rfl, by decide⟩
theorem f_s1 : followsB st0 s1 = true := by kernel_rfl
theorem f_sLow : followsB s1 sLow = false := by kernel_rfl
theorem low_put : (stA s1).setIfInBounds 3 (.int .u32 4) = stA sLow := by kernel_rfl
theorem exec_first {o : Oper} {a : Act} {w : World} (ho : o.op = .build 26 #[(0, .const (.int .i64 1)), (1, .const (.int .i64 1)), (5, .const (.int .u32 1)), (3, .const (.int .u32 5))]) :
    (execOp a.eval o).run Try.prog w = .ok (.value (.agg (stA s1))) w := by
  unfold execOp
  simp only [ho]
  kernel_rfl
theorem exec_eql_s1 {o : Oper} {a : Act} {w : World} (x y : Operand) (ho : o.op = .binOp .eql 26 x y 26) (hx : a.eval x = .agg (stA s1)) (hy : a.eval y = .agg (stA s1)) :
    (execOp a.eval o).run Try.prog w = .ok (.value (.bool true)) w := by
  have h := exec_eql_st (w := w) s1 s1 s1_ok s1_ok x y ho hx hy
  rw [decide_eq_true rfl] at h
  exact h

set_option maxRecDepth 100000 in
set_option maxHeartbeats 1000000 in
theorem first_any (w : World) :
    Calls Try.prog 50 #[] w fun e w' => e = .returned (.agg (stA s1)) ∧ Below w.heap.size w w' := by
  have HZ := Lib.hid (Blk.made w 26 Try.zeroCells26)
  have Hz := Lib.hid (show (stL s1).length = (Try.zeroCells26).size by rw [st_len s1_ok, zst_size])
  have Hz2 := Lib.hid (show (Try.prog.info? 26).map (·.size) = some (stL s1).length by rw [st_len s1_ok, size_st])
  have HF := Lib.hid (HZ.out.fill (stL s1) Hz.out)
  have Hn := Lib.hid (nu_fill (stL s1) (g := w.heap.size) (Nat.le_refl _) 0 _ (nu_alloc (nu_refl w) (.cells Try.zeroCells26 26)))
  go_enter Try.func50, Try.ntmps50
  go_wp2_with (first | (refine wpList_run _ rfl (exec_first rfl) ?_) | (refine wpList_store_blk rfl 26 (.tmp 0) (.tmp 1) rfl w.heap.size (stL s1) rfl rfl 26 Try.zeroCells26 HZ.out Hz.out Hz2.out st_one ?_))
  refine bodyPost_ret (results_blkS rfl _ w.heap.size 26 (stL s1).toArray rfl HF.out und_st (by rw [size_st, List.size_toArray, st_len s1_ok])) rfl ⟨rfl, Hn.out⟩

theorem write_first {g d : Nat} {st wa : Value} {co : Int} {cp wr : Value} (hgd : g ≠ d) (w : World) (h : RegAt w g d st0) (hd : DevAt w d st wa false 0 co cp wr) :
    Calls Try.prog 21 #[.pointer (some ⟨g, 0, none⟩), .agg (stA s1)] w fun e w' => e = .returned (.int .i64 0) ∧ RegAt w' g d s1 ∧ DevAt w' d st wa false 0 (IntKind.i64.wrap (co + 1)) cp wr ∧ Touch g d w w' := by
  refine (regWrite_up h hd hgd st0_ok s1_ok (by omega) (by omega)).mono ?_
  rintro e w' (⟨hf, _⟩ | ⟨_, hs, _⟩ | ⟨_, _, he, hr, hd', ht⟩)
  · rw [f_s1] at hf; cases hf
  · exact absurd hs (by decide)
  · exact ⟨he, hr, hd', ht⟩
theorem write_low {g d : Nat} {st wa : Value} {cp wr : Value} (hgd : g ≠ d) (w : World) (co : Int) (h : RegAt w g d s1) (hd : DevAt w d st wa false 0 co cp wr) :
    Calls Try.prog 21 #[.pointer (some ⟨g, 0, none⟩), .agg (stA sLow)] w fun e w' => e = .returned (.int .i64 3) ∧ Below w.heap.size w w' := by
  refine (regWrite_up h hd hgd s1_ok sLow_ok (by omega) (by omega)).mono ?_
  rintro e w' (⟨_, he, hb⟩ | ⟨hf, _⟩ | ⟨hf, _⟩)
  · exact ⟨he, hb⟩
  · rw [f_sLow] at hf; cases hf
  · rw [f_sLow] at hf; cases hf

set_option maxRecDepth 100000 in
set_option maxHeartbeats 2000000 in
theorem regAwake_any (w : World) :
    Calls Try.prog 19 #[] w fun e w' => e = .returned (.bool true) ∧ Below w.heap.size w w' := by
  go_enter Try.func19, Try.ntmps19
  go_wp2_with fail
  refine (devNew_one w).mono ?_
  rintro e w1 ⟨d, st, rfl, hwd, hD1, hb1⟩
  have HD1 := Lib.hid hD1
  have hdl : d < w1.heap.size := Blk.lt hD1
  clear hD1
  go_wp2_with fail
  refine (regNew_any w1 d).mono ?_
  rintro e w2 ⟨rfl, hr2, hb2⟩
  have HR2 := Lib.hid hr2
  have HD2 := Lib.hid (show DevAt w2 d st (.slice none 0 0) false 0 0 (.slice none 0 0) (.slice none 0 0) from Blk.below HD1.out hb2 hdl)
  have hn2 := nu_trans hb1 hb2
  clear hr2 hb2
  go_wp2_with fail
  refine (first_any w2).mono ?_
  rintro e w3 ⟨rfl, hb3⟩
  have HR3 := Lib.hid (show RegAt w3 w1.heap.size d st0 from Blk.below HR2.out hb3 (Blk.lt HR2.out))
  have HD3 := Lib.hid (show DevAt w3 d st (.slice none 0 0) false 0 0 (.slice none 0 0) (.slice none 0 0) from Blk.below HD2.out hb3 (Blk.lt HD2.out))
  have Hz := Lib.hid (show (stL s1).length = (Try.zeroCells26).size by rw [st_len s1_ok, zst_size])
  have Hz2 := Lib.hid (show (Try.prog.info? 26).map (·.size) = some (stL s1).length by rw [st_len s1_ok, size_st])
  have HZ3 := Lib.hid (Blk.made w3 26 Try.zeroCells26)
  have HB3 := Lib.hid (HZ3.out.fill (stL s1) Hz.out)
  have hf3 := nu_fill (stL s1) (g := w3.heap.size) (Nat.le_refl _) 0 _ (nu_alloc (nu_refl w3) (.cells Try.zeroCells26 26))
  have hn3 := nu_trans hn2 hb3
  clear hb3 hn2 HR2 HD2
  go_upto_region 4 with (refine wpList_store_blk rfl 26 (.tmp 5) (.tmp 16) rfl w3.heap.size (stL s1) rfl rfl 26 Try.zeroCells26 HZ3.out Hz.out Hz2.out st_one ?_)
  generalize (w3.alloc (.cells Try.zeroCells26 26)).setCells w3.heap.size 0 (stL s1) = w4 at *
  go_wp2_with fail
  refine (first_any w4).mono ?_
  rintro e w5 ⟨rfl, hb5⟩
  have hb35 := nu_trans hf3 hb5
  have HB5 := Lib.hid (Blk.below HB3.out hb5 (Blk.lt HB3.out))
  have HZ5 := Lib.hid (Blk.made w5 26 Try.zeroCells26)
  have HB6 := Lib.hid (HZ5.out.fill (stL s1) Hz.out)
  have hf5 := nu_fill (stL s1) (g := w5.heap.size) (Nat.le_refl _) 0 _ (nu_alloc (nu_refl w5) (.cells Try.zeroCells26 26))
  have h35 : w3.heap.size < w5.heap.size := Blk.lt HB5.out
  clear hb5 hf3 HB3 HZ3
  go_upto_region 5 with (refine wpList_store_blk rfl 26 (.tmp 6) (.tmp 17) rfl w5.heap.size (stL s1) rfl rfl 26 Try.zeroCells26 HZ5.out Hz.out Hz2.out st_one ?_)
  generalize (w5.alloc (.cells Try.zeroCells26 26)).setCells w5.heap.size 0 (stL s1) = w6 at *
  have b3 := (st_cells (show Blk w6 w5.heap.size 26 (stA s1) from HB6.out)).2.2.2.1
  have g3 := HB6.out.free 3
  have HB7 := Lib.hid (show Blk (w6.setCell ⟨w5.heap.size, 3, none⟩ (.int .u32 4)) w5.heap.size 26 (stA sLow) from by rw [← low_put]; exact HB6.out.put 3 _)
  have hf7 := nu_set hf5 (p := ⟨w5.heap.size, 3, none⟩) (Nat.le_refl _) (.int .u32 4)
  go_upto_region 6 with fail
  generalize w6.setCell ⟨w5.heap.size, 3, none⟩ (.int .u32 4) = u0 at *
  have hall := nu_trans hb35 hf7
  have hn7 := nu_trans hn3 hall
  have HR := Lib.hid (show RegAt u0 w1.heap.size d st0 from Blk.below HR3.out hall (Blk.lt HR3.out))
  have HD := Lib.hid (show DevAt u0 d st (.slice none 0 0) false 0 0 (.slice none 0 0) (.slice none 0 0) from Blk.below HD3.out hall (Blk.lt HD3.out))
  have HB5' := Lib.hid (Blk.below HB5.out hf7 (Blk.lt HB5.out))
  have q1 : w1.heap.size < w3.heap.size := Blk.lt HR3.out
  have HL5 := Lib.hid (fun (W : World) (hS : Touch w1.heap.size d u0 W) => loads_blk s1_ok (show Blk W w3.heap.size 26 (stA s1) from hS.blk HB5'.out (by omega) (by omega)))
  have HL6 := Lib.hid (fun (W : World) (hS : Touch w1.heap.size d u0 W) => loads_blk sLow_ok (show Blk W w5.heap.size 26 (stA sLow) from hS.blk HB7.out (by omega) (by omega)))
  have HW1 := Lib.hid (@write_first w1.heap.size d st (.slice none 0 0) 0 (.slice none 0 0) (.slice none 0 0) (by omega))
  have HW2 := Lib.hid (@write_low w1.heap.size d st (.slice none 0 0) (.slice none 0 0) (.slice none 0 0) (by omega))
  have Hq := Lib.hid (show w.heap.size ≤ u0.heap.size ∧ w.heap.size ≤ w1.heap.size ∧ w.heap.size ≤ d from ⟨hn7.size, hb1.size, hwd⟩)
  clear HR3 HD3 HD1 HB5 HB6 HZ5 b3 g3 hf5 hf7 hb35 hall hn3 hb1 hwd hdl q1 h35 Hz Hz2 HB7 HB5'
  refine wp_region_held_drew (S := fun w' => Touch w1.heap.size d u0 w') (by kernel_rfl) (Touch.drew (Touch.refl _ _ _)) (fun hHeld => ?_)
  dsimp only [Array.replicate, List.replicate, List.size_toArray, List.length_cons, List.length_nil, Nat.reduceAdd] at hHeld ⊢
  refine take_l (i := 0) (v := ?_) rfl (by kernel_rfl) (by kernel_rfl) (by kernel_rfl) (fun _ _ _ h => h) (Or.inl ⟨by rfl, ?_⟩) (by assumption) ?_
  case refine_2 => (intro _ _; go_simp; all_goals with_reducible rfl)
  simp only [Act.put, List.setIfInBounds_toArray, List.set_cons_zero, List.set_cons_succ]
  refine take_l (i := 1) (v := ?_) rfl (by kernel_rfl) (by kernel_rfl) (by kernel_rfl) (fun _ _ _ h => h) (Or.inl ⟨by rfl, ?_⟩) (by assumption) ?_
  case refine_2 => (intro _ _; go_simp; all_goals with_reducible rfl)
  simp only [Act.put, List.setIfInBounds_toArray, List.set_cons_zero, List.set_cons_succ]
  refine take_l (i := 2) (v := ?_) rfl (by kernel_rfl) (by kernel_rfl) (by kernel_rfl) (fun _ _ _ h => h) (Or.inl ⟨by rfl, ?_⟩) (by assumption) ?_
  case refine_2 => (intro _ _; go_simp; all_goals with_reducible rfl)
  simp only [Act.put, List.setIfInBounds_toArray, List.set_cons_zero, List.set_cons_succ]
  refine take_l (i := 3) (v := ?_) rfl (by kernel_rfl) (by kernel_rfl) (by kernel_rfl) (fun _ _ _ h => h) (Or.inl ⟨by rfl, ?_⟩) (by assumption) ?_
  case refine_2 => (intro _ _; go_simp; all_goals with_reducible rfl)
  simp only [Act.put, List.setIfInBounds_toArray, List.set_cons_zero, List.set_cons_succ]
  refine take_l (i := 4) rfl (by kernel_rfl) (by kernel_rfl) (by kernel_rfl) (fun _ _ _ h => h) (Or.inl ⟨by rfl, fun W hS => (HL5.out W hS) _ _ (.tmp 5) rfl rfl⟩) (by assumption) ?_
  simp only [Act.put, List.setIfInBounds_toArray, List.set_cons_zero, List.set_cons_succ]
  refine wpAnyH_ready (rs := [5]) (by kernel_rfl) (by simp) ?_
  refine cons_l rfl (fun K hK => ?_) AllReadyH.nil
  go_simp
  go_at_call 21
  refine (HW1.out u0.drew HR.out HD.out).mono ?_
  rintro e v1 ⟨rfl, hr1, hd1, ht1⟩
  have HR1 := Lib.hid hr1
  have HD1 := Lib.hid hd1
  clear hr1 hd1
  go_wp2_with fail
  refine hK.out _ _ (Touch.trans hHeld ht1) (fun hHeld => ?_)
  clear hK K
  simp only [Act.put, List.setIfInBounds_toArray, List.set_cons_zero, List.set_cons_succ]
  refine take_l (i := 6) (v := ?_) rfl (by kernel_rfl) (by kernel_rfl) (by kernel_rfl) (fun _ _ _ h => h) (Or.inl ⟨by rfl, ?_⟩) (by assumption) ?_
  case refine_2 => (intro _ _; go_simp; all_goals with_reducible rfl)
  simp only [Act.put, List.setIfInBounds_toArray, List.set_cons_zero, List.set_cons_succ]
  refine take_l (i := 7) (v := ?_) rfl (by kernel_rfl) (by kernel_rfl) (by kernel_rfl) (fun _ _ _ h => h) (Or.inl ⟨by rfl, ?_⟩) (by assumption) ?_
  case refine_2 => (intro _ _; go_simp; all_goals with_reducible rfl)
  simp only [Act.put, List.setIfInBounds_toArray, List.set_cons_zero, List.set_cons_succ]
  refine take_l (i := 8) (v := ?_) rfl (by kernel_rfl) (by kernel_rfl) (by kernel_rfl) (fun _ _ _ h => h) (Or.inl ⟨by rfl, ?_⟩) (by assumption) ?_
  case refine_2 => (intro _ _; go_simp; all_goals with_reducible rfl)
  simp only [Act.put, List.setIfInBounds_toArray, List.set_cons_zero, List.set_cons_succ]
  refine take_l (i := 9) (v := ?_) rfl (by kernel_rfl) (by kernel_rfl) (by kernel_rfl) (fun _ _ _ h => h) (Or.inl ⟨by rfl, ?_⟩) (by assumption) ?_
  case refine_2 => (intro _ _; go_simp; all_goals with_reducible rfl)
  simp only [Act.put, List.setIfInBounds_toArray, List.set_cons_zero, List.set_cons_succ]
  refine take_l (i := 10) rfl (by kernel_rfl) (by kernel_rfl) (by kernel_rfl) (fun _ _ _ h => h) (Or.inl ⟨by rfl, fun W hS => (HL6.out W hS) _ _ (.tmp 6) rfl rfl⟩) (by assumption) ?_
  simp only [Act.put, List.setIfInBounds_toArray, List.set_cons_zero, List.set_cons_succ]
  refine wpAnyH_ready (rs := [11]) (by kernel_rfl) (by simp) ?_
  refine cons_l rfl (fun K hK => ?_) AllReadyH.nil
  go_simp
  go_at_call 21
  refine (HW2.out _ _ HR1.out HD1.out).mono ?_
  rintro e v2 ⟨rfl, hb2⟩
  have HR2 := Lib.hid (show RegAt v2 w1.heap.size d s1 from Blk.below HR1.out hb2 (Blk.lt HR1.out))
  go_wp2_with fail
  refine hK.out _ _ (Touch.trans hHeld (Touch.of_below hb2)) (fun hHeld => ?_)
  clear hK K
  simp only [Act.put, List.setIfInBounds_toArray, List.set_cons_zero, List.set_cons_succ]
  refine take_l (i := 12) (v := ?_) rfl (by kernel_rfl) (by kernel_rfl) (by kernel_rfl) (fun _ _ _ h => h) (Or.inl ⟨by rfl, ?_⟩) (by assumption) ?_
  case refine_2 => (intro _ _; go_simp; all_goals with_reducible rfl)
  simp only [Act.put, List.setIfInBounds_toArray, List.set_cons_zero, List.set_cons_succ]
  refine take_l (i := 13) (v := ?_) rfl (by kernel_rfl) (by kernel_rfl) (by kernel_rfl) (fun _ _ _ h => h) (Or.inl ⟨by rfl, ?_⟩) (by assumption) ?_
  case refine_2 => (intro _ _; go_simp; all_goals with_reducible rfl)
  simp only [Act.put, List.setIfInBounds_toArray, List.set_cons_zero, List.set_cons_succ]
  refine take_l (i := 14) (v := ?_) rfl (by kernel_rfl) (by kernel_rfl) (by kernel_rfl) (fun _ _ _ h => h) (Or.inl ⟨by rfl, ?_⟩) (by assumption) ?_
  case refine_2 => (intro _ _; go_simp; all_goals with_reducible rfl)
  simp only [Act.put, List.setIfInBounds_toArray, List.set_cons_zero, List.set_cons_succ]
  refine take_l (i := 15) (v := ?_) rfl (by kernel_rfl) (by kernel_rfl) (by kernel_rfl) (fun _ _ _ h => h) (Or.inl ⟨by rfl, ?_⟩) (by assumption) ?_
  case refine_2 => (intro _ _; go_simp; all_goals with_reducible rfl)
  simp only [Act.put, List.setIfInBounds_toArray, List.set_cons_zero, List.set_cons_succ]
  refine take_l (i := 17) rfl (by kernel_rfl) (by kernel_rfl) (by kernel_rfl) (fun _ _ _ h => h) (Or.inl ⟨by rfl, fun W hS => (HL5.out W hS) _ _ (.tmp 5) rfl rfl⟩) (by assumption) ?_
  simp only [Act.put, List.setIfInBounds_toArray, List.set_cons_zero, List.set_cons_succ]
  refine wpAnyH_ready (rs := [16]) (by kernel_rfl) (by simp) ?_
  refine cons_l rfl (fun K hK => ?_) AllReadyH.nil
  go_simp
  go_at_call 23
  refine (regRead_any s1_ok HR2.out).mono ?_
  rintro e v3 ⟨rfl, hb3⟩
  go_wp2_with fail
  refine hK.out _ _ (Touch.trans hHeld (Touch.of_below hb3)) (fun hHeld => ?_)
  clear hK K
  simp only [Act.put, List.setIfInBounds_toArray, List.set_cons_zero, List.set_cons_succ]
  refine take_l (i := 18) rfl (by kernel_rfl) (by kernel_rfl) (by kernel_rfl) (fun _ _ _ h => h) (Or.inl ⟨by rfl, fun W _ => exec_eql_s1 (.tmp 35) (.tmp 36) rfl rfl rfl⟩) (by assumption) ?_
  simp only [Act.put, List.setIfInBounds_toArray, List.set_cons_zero, List.set_cons_succ]
  refine take_l (i := 19) (v := ?_) rfl (by kernel_rfl) (by kernel_rfl) (by kernel_rfl) (fun _ _ _ h => h) (Or.inl ⟨by rfl, ?_⟩) (by assumption) ?_
  case refine_2 => (intro _ _; go_simp; all_goals with_reducible rfl)
  simp only [Act.put, List.setIfInBounds_toArray, List.set_cons_zero, List.set_cons_succ]
  refine take_l (i := 20) (v := ?_) rfl (by kernel_rfl) (by kernel_rfl) (by kernel_rfl) (fun _ _ _ h => h) (Or.inl ⟨by rfl, ?_⟩) (by assumption) ?_
  case refine_2 => (intro _ _; go_simp; all_goals with_reducible rfl)
  simp only [Act.put, List.setIfInBounds_toArray, List.set_cons_zero, List.set_cons_succ]
  refine wpAnyH_done (by kernel_rfl) ?_ _
  go_wp2_with fail
  go_ret
  exact ⟨rfl, hn7.trans (hHeld.below Hq.out.1 Hq.out.2.1 Hq.out.2.2)⟩
end Go.Proofs.Ythlofbkbaabamaa
