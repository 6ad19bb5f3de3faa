/-
  The walk of RegOrder.
-/
import Derived.Test.YthlofbkbaabamaaReg3
namespace Go.Proofs.Ythlofbkbaabamaa
open Go.ChangeShapes Go.WideShapes Go.ChangeAt Go.RowKit

theorem follows_self (s : St) : followsB s s = rightB s := by
  unfold followsB
  rw [decide_eq_true (show s.p = s.p ∧ s.b = s.b ∧ s.wi = s.wi from ⟨rfl, rfl, rfl⟩), decide_eq_true (show s.bo ≤ s.bo ∧ s.ve ≤ s.ve ∧ s.ep ≤ s.ep from ⟨by omega, by omega, by omega⟩), Bool.and_true, Bool.or_true, Bool.and_true]
theorem follows_blank (s : St) : followsB st0 s = rightB s := by
  unfold followsB
  rw [decide_eq_true rfl, Bool.true_or, Bool.and_true]
theorem follows_trans {a b c : St} (h : followsB a b = true) (k : followsB b c = true) : followsB a c = true := by
  unfold followsB at h k ⊢
  simp only [Bool.and_eq_true, Bool.or_eq_true, decide_eq_true_eq] at h k ⊢
  refine ⟨k.1, ?_⟩
  have hb : b ≠ st0 := by
    rintro rfl
    have := h.1
    rw [show rightB st0 = false by kernel_rfl] at this
    cases this
  rcases h.2 with h0 | ⟨⟨p1, p2, p3⟩, p4, p5, p6⟩
  · exact .inl h0
  · rcases k.2 with k0 | ⟨⟨q1, q2, q3⟩, q4, q5, q6⟩
    · exact absurd k0 hb
    · exact .inr ⟨⟨p1.trans q1, p2.trans q2, p3.trans q3⟩, by omega, by omega, by omega⟩

set_option maxRecDepth 100000 in
set_option maxHeartbeats 2000000 in
theorem regOrder_walk (a b c : St) (ha : StOk a) (hb : StOk b) (hc : StOk c) (w : World) :
    Calls Try.prog 4 #[.agg (stA a), .agg (stA b), .agg (stA c)] w fun e w' => e = .returned (.bool true) ∧ Below w.heap.size w w' := by
  have hn := nu_alloc (nu_alloc (nu_alloc (nu_refl w) (.cells (stA a) 26)) (.cells (stA b) 26)) (.cells (stA c) 26)
  have HA := Lib.hid (((Blk.made w 26 (stA a)).alloc (.cells (stA b) 26)).alloc (.cells (stA c) 26))
  have HB := Lib.hid ((Blk.made1 w (.cells (stA a) 26) 26 (stA b)).alloc (.cells (stA c) 26))
  have HC := Lib.hid (Blk.made2 w (.cells (stA a) 26) (.cells (stA b) 26) 26 (stA c))
  have HRa := Lib.hid (fun W => right_any a W)
  have HAB := Lib.hid (fun W => follows_any a b ha hb W)
  have HBC := Lib.hid (fun W => follows_any b c hb hc W)
  have HAC := Lib.hid (fun W => follows_any a c ha hc W)
  have HAA := Lib.hid (fun W => follows_any a a ha ha W)
  have HZA := Lib.hid (fun W => follows_any st0 a st0_ok ha W)
  have Ha := Lib.hid ha
  have Hb := Lib.hid hb
  have Hc := Lib.hid hc
  have HT := Lib.hid (@follows_trans a b c)
  rw [follows_self] at HAA
  rw [follows_blank] at HZA
  generalize rightB a = r at *
  generalize followsB a b = x at *
  generalize followsB b c = y at *
  generalize followsB a c = z at *
  clear ha hb hc
  go_enter Try.func4, Try.ntmps4
  go_upto_region 1 with fail
  generalize ((w.alloc (.cells (stA a) 26)).alloc (.cells (stA b) 26)).alloc (.cells (stA c) 26) = u0 at *
  have HLa0 := Lib.hid (loads_blk Ha.out HA.out)
  have HLb0 := Lib.hid (loads_blk Hb.out HB.out)
  go_wp2_with (first | (refine wpList_run _ rfl (HLa0.out _ _ (.tmp 3) rfl rfl) ?_) | (refine wpList_run _ rfl (HLb0.out _ _ (.tmp 4) rfl rfl) ?_))
  refine (HAB.out u0).mono ?_
  rintro e w1 ⟨rfl, hb1⟩
  have HA1 := Lib.hid (Blk.below HA.out hb1 (Blk.lt HA.out))
  have HB1 := Lib.hid (Blk.below HB.out hb1 (Blk.lt HB.out))
  have HC1 := Lib.hid (Blk.below HC.out hb1 (Blk.lt HC.out))
  have hn1 := nu_trans hn hb1
  clear hb1 hn HLa0 HLb0 HA HB HC HAB
  have HLb1 := Lib.hid (loads_blk Hb.out HB1.out)
  have HLc1 := Lib.hid (loads_blk Hc.out HC1.out)
  cases x
  · go_upto_region 3 with fail
    clear HB1 HC1 HLb1 HLc1 HT HBC HAC
    generalize w1 = u1 at *
    have HLa := Lib.hid (fun (W : World) (hS : Below u1.heap.size u1 W) => loads_blk Ha.out (Blk.below HA1.out hS (Blk.lt HA1.out)))
    refine wp_region_held_drew (S := fun w' => Below u1.heap.size u1 w') (by kernel_rfl) (nu_drew (nu_refl _)) (fun hHeld => ?_)
    dsimp only [Array.replicate, List.replicate, List.size_toArray, List.length_cons, List.length_nil, Nat.reduceAdd] at hHeld ⊢
    refine take_l (i := 0) rfl (by kernel_rfl) (by kernel_rfl) (by kernel_rfl) (fun _ _ _ h => h) (Or.inl ⟨by rfl, fun W hS => (HLa.out W hS) _ _ (.tmp 3) rfl rfl⟩) (by assumption) ?_
    simp only [Act.put, List.setIfInBounds_toArray, List.set_cons_zero, List.set_cons_succ]
    refine take_l (i := 1) rfl (by kernel_rfl) (by kernel_rfl) (by kernel_rfl) (fun _ _ _ h => h) (Or.inl ⟨by rfl, fun W hS => (HLa.out W hS) _ _ (.tmp 3) rfl rfl⟩) (by assumption) ?_
    simp only [Act.put, List.setIfInBounds_toArray, List.set_cons_zero, List.set_cons_succ]
    refine take_l (i := 3) rfl (by kernel_rfl) (by kernel_rfl) (by kernel_rfl) (fun _ _ _ h => h) (Or.inl ⟨by rfl, fun W hS => (HLa.out W hS) _ _ (.tmp 3) rfl rfl⟩) (by assumption) ?_
    simp only [Act.put, List.setIfInBounds_toArray, List.set_cons_zero, List.set_cons_succ]
    refine wpAnyH_ready (rs := [2]) (by kernel_rfl) (by simp) ?_
    refine cons_l rfl (fun K hK => ?_) AllReadyH.nil
    go_simp
    go_at_call 17
    refine (HAA.out _).mono ?_
    rintro e v1 ⟨rfl, hv1⟩
    go_wp2_with fail
    refine hK.out _ _ (nu_trans (by assumption) hv1) (fun hHeld => ?_)
    clear hK K hv1
    simp only [Act.put, List.setIfInBounds_toArray, List.set_cons_zero, List.set_cons_succ]
    refine wpAnyH_ready (rs := [4]) (by kernel_rfl) (by simp) ?_
    refine cons_l rfl (fun K hK => ?_) AllReadyH.nil
    go_simp
    go_at_call 15
    refine (HRa.out _).mono ?_
    rintro e v2 ⟨rfl, hv2⟩
    go_wp2_with fail
    refine hK.out _ _ (nu_trans (by assumption) hv2) (fun hHeld => ?_)
    clear hK K hv2
    simp only [Act.put, List.setIfInBounds_toArray, List.set_cons_zero, List.set_cons_succ]
    refine take_l (i := 5) (v := ?_) rfl (by kernel_rfl) (by kernel_rfl) (by kernel_rfl) (fun _ _ _ h => h) (Or.inl ⟨by rfl, ?_⟩) (by assumption) ?_
    case refine_2 => (intro _ _; go_simp; all_goals with_reducible rfl)
    simp only [Act.put, List.setIfInBounds_toArray, List.set_cons_zero, List.set_cons_succ]
    refine take_l (i := 6) (v := ?_) rfl (by kernel_rfl) (by kernel_rfl) (by kernel_rfl) (fun _ _ _ h => h) (Or.inl ⟨by rfl, ?_⟩) (by assumption) ?_
    case refine_2 => (intro _ _; go_simp; all_goals with_reducible rfl)
    simp only [Act.put, List.setIfInBounds_toArray, List.set_cons_zero, List.set_cons_succ]
    refine take_l (i := 7) rfl (by kernel_rfl) (by kernel_rfl) (by kernel_rfl) (fun _ _ _ h => h) (Or.inl ⟨by rfl, fun _ _ => exec_zero_st rfl⟩) (by assumption) ?_
    simp only [Act.put, List.setIfInBounds_toArray, List.set_cons_zero, List.set_cons_succ]
    refine take_l (i := 8) rfl (by kernel_rfl) (by kernel_rfl) (by kernel_rfl) (fun _ _ _ h => h) (Or.inl ⟨by rfl, fun W hS => (HLa.out W hS) _ _ (.tmp 3) rfl rfl⟩) (by assumption) ?_
    simp only [Act.put, List.setIfInBounds_toArray, List.set_cons_zero, List.set_cons_succ]
    refine take_l (i := 10) rfl (by kernel_rfl) (by kernel_rfl) (by kernel_rfl) (fun _ _ _ h => h) (Or.inl ⟨by rfl, fun W hS => (HLa.out W hS) _ _ (.tmp 3) rfl rfl⟩) (by assumption) ?_
    simp only [Act.put, List.setIfInBounds_toArray, List.set_cons_zero, List.set_cons_succ]
    refine wpAnyH_ready (rs := [9]) (by kernel_rfl) (by simp) ?_
    refine cons_l rfl (fun K hK => ?_) AllReadyH.nil
    go_simp
    go_at_call 17
    refine (HZA.out _).mono ?_
    rintro e v3 ⟨rfl, hv3⟩
    go_wp2_with fail
    refine hK.out _ _ (nu_trans (by assumption) hv3) (fun hHeld => ?_)
    clear hK K hv3
    simp only [Act.put, List.setIfInBounds_toArray, List.set_cons_zero, List.set_cons_succ]
    refine wpAnyH_ready (rs := [11]) (by kernel_rfl) (by simp) ?_
    refine cons_l rfl (fun K hK => ?_) AllReadyH.nil
    go_simp
    go_at_call 15
    refine (HRa.out _).mono ?_
    rintro e v4 ⟨rfl, hv4⟩
    go_wp2_with fail
    refine hK.out _ _ (nu_trans (by assumption) hv4) (fun hHeld => ?_)
    clear hK K hv4
    simp only [Act.put, List.setIfInBounds_toArray, List.set_cons_zero, List.set_cons_succ]
    refine take_l (i := 12) (v := ?_) rfl (by kernel_rfl) (by kernel_rfl) (by kernel_rfl) (fun _ _ _ h => h) (Or.inl ⟨by rfl, ?_⟩) (by assumption) ?_
    case refine_2 => (intro _ _; go_simp; all_goals with_reducible rfl)
    simp only [Act.put, List.setIfInBounds_toArray, List.set_cons_zero, List.set_cons_succ]
    refine take_l (i := 13) (v := ?_) rfl (by kernel_rfl) (by kernel_rfl) (by kernel_rfl) (fun _ _ _ h => h) (Or.inl ⟨by rfl, ?_⟩) (by assumption) ?_
    case refine_2 => (intro _ _; go_simp; all_goals with_reducible rfl)
    simp only [Act.put, List.setIfInBounds_toArray, List.set_cons_zero, List.set_cons_succ]
    refine take_l (i := 14) (v := ?_) rfl (by kernel_rfl) (by kernel_rfl) (by kernel_rfl) (fun _ _ _ h => h) (Or.inl ⟨by rfl, ?_⟩) (by assumption) ?_
    case refine_2 => (intro _ _; go_simp; all_goals with_reducible rfl)
    simp only [Act.put, List.setIfInBounds_toArray, List.set_cons_zero, List.set_cons_succ]
    refine wpAnyH_ready (rs := [15]) (by kernel_rfl) (by simp) ?_
    refine cons_l rfl (fun K hK => ?_) AllReadyH.nil
    go_simp
    go_at_call 19
    refine (regAwake_any _).mono ?_
    rintro e v5 ⟨rfl, hv5⟩
    go_wp2_with fail
    refine hK.out _ _ (nu_trans (by assumption) hv5) (fun hHeld => ?_)
    clear hK K hv5
    simp only [Act.put, List.setIfInBounds_toArray, List.set_cons_zero, List.set_cons_succ]
    refine take_l (i := 16) (v := ?_) rfl (by kernel_rfl) (by kernel_rfl) (by kernel_rfl) (fun _ _ _ h => h) (Or.inl ⟨by rfl, ?_⟩) (by assumption) ?_
    case refine_2 => (intro _ _; go_simp; all_goals with_reducible rfl)
    simp only [Act.put, List.setIfInBounds_toArray, List.set_cons_zero, List.set_cons_succ]
    refine take_l (i := 17) (v := ?_) rfl (by kernel_rfl) (by kernel_rfl) (by kernel_rfl) (fun _ _ _ h => h) (Or.inl ⟨by rfl, ?_⟩) (by assumption) ?_
    case refine_2 => (intro _ _; go_simp; all_goals with_reducible rfl)
    simp only [Act.put, List.setIfInBounds_toArray, List.set_cons_zero, List.set_cons_succ]
    refine wpAnyH_done (by kernel_rfl) ?_ _
    go_wp2_with fail
    go_ret
    exact ⟨rfl, nu_trans hn1 hHeld⟩
  · go_wp2_with (first | (refine wpList_run _ rfl (HLb1.out _ _ (.tmp 4) rfl rfl) ?_) | (refine wpList_run _ rfl (HLc1.out _ _ (.tmp 5) rfl rfl) ?_))
    refine (HBC.out w1).mono ?_
    rintro e w2 ⟨rfl, hb2⟩
    have HA2 := Lib.hid (Blk.below HA1.out hb2 (Blk.lt HA1.out))
    have HC2 := Lib.hid (Blk.below HC1.out hb2 (Blk.lt HC1.out))
    have hn2 := nu_trans hn1 hb2
    clear hb2 hn1 HLb1 HLc1 HA1 HB1 HC1 HBC
    have HLa2 := Lib.hid (loads_blk Ha.out HA2.out)
    have HLc2 := Lib.hid (loads_blk Hc.out HC2.out)
    cases y
    · go_upto_region 3 with fail
      clear HC2 HLa2 HLc2 HT HAC
      generalize w2 = u1 at *
      have HLa := Lib.hid (fun (W : World) (hS : Below u1.heap.size u1 W) => loads_blk Ha.out (Blk.below HA2.out hS (Blk.lt HA2.out)))
      refine wp_region_held_drew (S := fun w' => Below u1.heap.size u1 w') (by kernel_rfl) (nu_drew (nu_refl _)) (fun hHeld => ?_)
      dsimp only [Array.replicate, List.replicate, List.size_toArray, List.length_cons, List.length_nil, Nat.reduceAdd] at hHeld ⊢
      refine take_l (i := 0) rfl (by kernel_rfl) (by kernel_rfl) (by kernel_rfl) (fun _ _ _ h => h) (Or.inl ⟨by rfl, fun W hS => (HLa.out W hS) _ _ (.tmp 3) rfl rfl⟩) (by assumption) ?_
      simp only [Act.put, List.setIfInBounds_toArray, List.set_cons_zero, List.set_cons_succ]
      refine take_l (i := 1) rfl (by kernel_rfl) (by kernel_rfl) (by kernel_rfl) (fun _ _ _ h => h) (Or.inl ⟨by rfl, fun W hS => (HLa.out W hS) _ _ (.tmp 3) rfl rfl⟩) (by assumption) ?_
      simp only [Act.put, List.setIfInBounds_toArray, List.set_cons_zero, List.set_cons_succ]
      refine take_l (i := 3) rfl (by kernel_rfl) (by kernel_rfl) (by kernel_rfl) (fun _ _ _ h => h) (Or.inl ⟨by rfl, fun W hS => (HLa.out W hS) _ _ (.tmp 3) rfl rfl⟩) (by assumption) ?_
      simp only [Act.put, List.setIfInBounds_toArray, List.set_cons_zero, List.set_cons_succ]
      refine wpAnyH_ready (rs := [2]) (by kernel_rfl) (by simp) ?_
      refine cons_l rfl (fun K hK => ?_) AllReadyH.nil
      go_simp
      go_at_call 17
      refine (HAA.out _).mono ?_
      rintro e v1 ⟨rfl, hv1⟩
      go_wp2_with fail
      refine hK.out _ _ (nu_trans (by assumption) hv1) (fun hHeld => ?_)
      clear hK K hv1
      simp only [Act.put, List.setIfInBounds_toArray, List.set_cons_zero, List.set_cons_succ]
      refine wpAnyH_ready (rs := [4]) (by kernel_rfl) (by simp) ?_
      refine cons_l rfl (fun K hK => ?_) AllReadyH.nil
      go_simp
      go_at_call 15
      refine (HRa.out _).mono ?_
      rintro e v2 ⟨rfl, hv2⟩
      go_wp2_with fail
      refine hK.out _ _ (nu_trans (by assumption) hv2) (fun hHeld => ?_)
      clear hK K hv2
      simp only [Act.put, List.setIfInBounds_toArray, List.set_cons_zero, List.set_cons_succ]
      refine take_l (i := 5) (v := ?_) rfl (by kernel_rfl) (by kernel_rfl) (by kernel_rfl) (fun _ _ _ h => h) (Or.inl ⟨by rfl, ?_⟩) (by assumption) ?_
      case refine_2 => (intro _ _; go_simp; all_goals with_reducible rfl)
      simp only [Act.put, List.setIfInBounds_toArray, List.set_cons_zero, List.set_cons_succ]
      refine take_l (i := 6) (v := ?_) rfl (by kernel_rfl) (by kernel_rfl) (by kernel_rfl) (fun _ _ _ h => h) (Or.inl ⟨by rfl, ?_⟩) (by assumption) ?_
      case refine_2 => (intro _ _; go_simp; all_goals with_reducible rfl)
      simp only [Act.put, List.setIfInBounds_toArray, List.set_cons_zero, List.set_cons_succ]
      refine take_l (i := 7) rfl (by kernel_rfl) (by kernel_rfl) (by kernel_rfl) (fun _ _ _ h => h) (Or.inl ⟨by rfl, fun _ _ => exec_zero_st rfl⟩) (by assumption) ?_
      simp only [Act.put, List.setIfInBounds_toArray, List.set_cons_zero, List.set_cons_succ]
      refine take_l (i := 8) rfl (by kernel_rfl) (by kernel_rfl) (by kernel_rfl) (fun _ _ _ h => h) (Or.inl ⟨by rfl, fun W hS => (HLa.out W hS) _ _ (.tmp 3) rfl rfl⟩) (by assumption) ?_
      simp only [Act.put, List.setIfInBounds_toArray, List.set_cons_zero, List.set_cons_succ]
      refine take_l (i := 10) rfl (by kernel_rfl) (by kernel_rfl) (by kernel_rfl) (fun _ _ _ h => h) (Or.inl ⟨by rfl, fun W hS => (HLa.out W hS) _ _ (.tmp 3) rfl rfl⟩) (by assumption) ?_
      simp only [Act.put, List.setIfInBounds_toArray, List.set_cons_zero, List.set_cons_succ]
      refine wpAnyH_ready (rs := [9]) (by kernel_rfl) (by simp) ?_
      refine cons_l rfl (fun K hK => ?_) AllReadyH.nil
      go_simp
      go_at_call 17
      refine (HZA.out _).mono ?_
      rintro e v3 ⟨rfl, hv3⟩
      go_wp2_with fail
      refine hK.out _ _ (nu_trans (by assumption) hv3) (fun hHeld => ?_)
      clear hK K hv3
      simp only [Act.put, List.setIfInBounds_toArray, List.set_cons_zero, List.set_cons_succ]
      refine wpAnyH_ready (rs := [11]) (by kernel_rfl) (by simp) ?_
      refine cons_l rfl (fun K hK => ?_) AllReadyH.nil
      go_simp
      go_at_call 15
      refine (HRa.out _).mono ?_
      rintro e v4 ⟨rfl, hv4⟩
      go_wp2_with fail
      refine hK.out _ _ (nu_trans (by assumption) hv4) (fun hHeld => ?_)
      clear hK K hv4
      simp only [Act.put, List.setIfInBounds_toArray, List.set_cons_zero, List.set_cons_succ]
      refine take_l (i := 12) (v := ?_) rfl (by kernel_rfl) (by kernel_rfl) (by kernel_rfl) (fun _ _ _ h => h) (Or.inl ⟨by rfl, ?_⟩) (by assumption) ?_
      case refine_2 => (intro _ _; go_simp; all_goals with_reducible rfl)
      simp only [Act.put, List.setIfInBounds_toArray, List.set_cons_zero, List.set_cons_succ]
      refine take_l (i := 13) (v := ?_) rfl (by kernel_rfl) (by kernel_rfl) (by kernel_rfl) (fun _ _ _ h => h) (Or.inl ⟨by rfl, ?_⟩) (by assumption) ?_
      case refine_2 => (intro _ _; go_simp; all_goals with_reducible rfl)
      simp only [Act.put, List.setIfInBounds_toArray, List.set_cons_zero, List.set_cons_succ]
      refine take_l (i := 14) (v := ?_) rfl (by kernel_rfl) (by kernel_rfl) (by kernel_rfl) (fun _ _ _ h => h) (Or.inl ⟨by rfl, ?_⟩) (by assumption) ?_
      case refine_2 => (intro _ _; go_simp; all_goals with_reducible rfl)
      simp only [Act.put, List.setIfInBounds_toArray, List.set_cons_zero, List.set_cons_succ]
      refine wpAnyH_ready (rs := [15]) (by kernel_rfl) (by simp) ?_
      refine cons_l rfl (fun K hK => ?_) AllReadyH.nil
      go_simp
      go_at_call 19
      refine (regAwake_any _).mono ?_
      rintro e v5 ⟨rfl, hv5⟩
      go_wp2_with fail
      refine hK.out _ _ (nu_trans (by assumption) hv5) (fun hHeld => ?_)
      clear hK K hv5
      simp only [Act.put, List.setIfInBounds_toArray, List.set_cons_zero, List.set_cons_succ]
      refine take_l (i := 16) (v := ?_) rfl (by kernel_rfl) (by kernel_rfl) (by kernel_rfl) (fun _ _ _ h => h) (Or.inl ⟨by rfl, ?_⟩) (by assumption) ?_
      case refine_2 => (intro _ _; go_simp; all_goals with_reducible rfl)
      simp only [Act.put, List.setIfInBounds_toArray, List.set_cons_zero, List.set_cons_succ]
      refine take_l (i := 17) (v := ?_) rfl (by kernel_rfl) (by kernel_rfl) (by kernel_rfl) (fun _ _ _ h => h) (Or.inl ⟨by rfl, ?_⟩) (by assumption) ?_
      case refine_2 => (intro _ _; go_simp; all_goals with_reducible rfl)
      simp only [Act.put, List.setIfInBounds_toArray, List.set_cons_zero, List.set_cons_succ]
      refine wpAnyH_done (by kernel_rfl) ?_ _
      go_wp2_with fail
      go_ret
      exact ⟨rfl, nu_trans hn2 hHeld⟩
    · obtain rfl : z = true := by have h := HT.out; simpa using h
      go_wp2_with (first | (refine wpList_run _ rfl (HLa2.out _ _ (.tmp 3) rfl rfl) ?_) | (refine wpList_run _ rfl (HLc2.out _ _ (.tmp 5) rfl rfl) ?_))
      refine (HAC.out w2).mono ?_
      rintro e w3 ⟨rfl, hb3⟩
      have HA3 := Lib.hid (Blk.below HA2.out hb3 (Blk.lt HA2.out))
      have hn3 := nu_trans hn2 hb3
      clear hb3 hn2 HLa2 HLc2 HA2 HC2 HAC HT
      go_upto_region 3 with fail
      generalize w3 = u1 at *
      have HLa := Lib.hid (fun (W : World) (hS : Below u1.heap.size u1 W) => loads_blk Ha.out (Blk.below HA3.out hS (Blk.lt HA3.out)))
      refine wp_region_held_drew (S := fun w' => Below u1.heap.size u1 w') (by kernel_rfl) (nu_drew (nu_refl _)) (fun hHeld => ?_)
      dsimp only [Array.replicate, List.replicate, List.size_toArray, List.length_cons, List.length_nil, Nat.reduceAdd] at hHeld ⊢
      refine take_l (i := 0) rfl (by kernel_rfl) (by kernel_rfl) (by kernel_rfl) (fun _ _ _ h => h) (Or.inl ⟨by rfl, fun W hS => (HLa.out W hS) _ _ (.tmp 3) rfl rfl⟩) (by assumption) ?_
      simp only [Act.put, List.setIfInBounds_toArray, List.set_cons_zero, List.set_cons_succ]
      refine take_l (i := 1) rfl (by kernel_rfl) (by kernel_rfl) (by kernel_rfl) (fun _ _ _ h => h) (Or.inl ⟨by rfl, fun W hS => (HLa.out W hS) _ _ (.tmp 3) rfl rfl⟩) (by assumption) ?_
      simp only [Act.put, List.setIfInBounds_toArray, List.set_cons_zero, List.set_cons_succ]
      refine take_l (i := 3) rfl (by kernel_rfl) (by kernel_rfl) (by kernel_rfl) (fun _ _ _ h => h) (Or.inl ⟨by rfl, fun W hS => (HLa.out W hS) _ _ (.tmp 3) rfl rfl⟩) (by assumption) ?_
      simp only [Act.put, List.setIfInBounds_toArray, List.set_cons_zero, List.set_cons_succ]
      refine wpAnyH_ready (rs := [2]) (by kernel_rfl) (by simp) ?_
      refine cons_l rfl (fun K hK => ?_) AllReadyH.nil
      go_simp
      go_at_call 17
      refine (HAA.out _).mono ?_
      rintro e v1 ⟨rfl, hv1⟩
      go_wp2_with fail
      refine hK.out _ _ (nu_trans (by assumption) hv1) (fun hHeld => ?_)
      clear hK K hv1
      simp only [Act.put, List.setIfInBounds_toArray, List.set_cons_zero, List.set_cons_succ]
      refine wpAnyH_ready (rs := [4]) (by kernel_rfl) (by simp) ?_
      refine cons_l rfl (fun K hK => ?_) AllReadyH.nil
      go_simp
      go_at_call 15
      refine (HRa.out _).mono ?_
      rintro e v2 ⟨rfl, hv2⟩
      go_wp2_with fail
      refine hK.out _ _ (nu_trans (by assumption) hv2) (fun hHeld => ?_)
      clear hK K hv2
      simp only [Act.put, List.setIfInBounds_toArray, List.set_cons_zero, List.set_cons_succ]
      refine take_l (i := 5) (v := ?_) rfl (by kernel_rfl) (by kernel_rfl) (by kernel_rfl) (fun _ _ _ h => h) (Or.inl ⟨by rfl, ?_⟩) (by assumption) ?_
      case refine_2 => (intro _ _; go_simp; all_goals with_reducible rfl)
      simp only [Act.put, List.setIfInBounds_toArray, List.set_cons_zero, List.set_cons_succ]
      refine take_l (i := 6) (v := ?_) rfl (by kernel_rfl) (by kernel_rfl) (by kernel_rfl) (fun _ _ _ h => h) (Or.inl ⟨by rfl, ?_⟩) (by assumption) ?_
      case refine_2 => (intro _ _; go_simp; all_goals with_reducible rfl)
      simp only [Act.put, List.setIfInBounds_toArray, List.set_cons_zero, List.set_cons_succ]
      refine take_l (i := 7) rfl (by kernel_rfl) (by kernel_rfl) (by kernel_rfl) (fun _ _ _ h => h) (Or.inl ⟨by rfl, fun _ _ => exec_zero_st rfl⟩) (by assumption) ?_
      simp only [Act.put, List.setIfInBounds_toArray, List.set_cons_zero, List.set_cons_succ]
      refine take_l (i := 8) rfl (by kernel_rfl) (by kernel_rfl) (by kernel_rfl) (fun _ _ _ h => h) (Or.inl ⟨by rfl, fun W hS => (HLa.out W hS) _ _ (.tmp 3) rfl rfl⟩) (by assumption) ?_
      simp only [Act.put, List.setIfInBounds_toArray, List.set_cons_zero, List.set_cons_succ]
      refine take_l (i := 10) rfl (by kernel_rfl) (by kernel_rfl) (by kernel_rfl) (fun _ _ _ h => h) (Or.inl ⟨by rfl, fun W hS => (HLa.out W hS) _ _ (.tmp 3) rfl rfl⟩) (by assumption) ?_
      simp only [Act.put, List.setIfInBounds_toArray, List.set_cons_zero, List.set_cons_succ]
      refine wpAnyH_ready (rs := [9]) (by kernel_rfl) (by simp) ?_
      refine cons_l rfl (fun K hK => ?_) AllReadyH.nil
      go_simp
      go_at_call 17
      refine (HZA.out _).mono ?_
      rintro e v3 ⟨rfl, hv3⟩
      go_wp2_with fail
      refine hK.out _ _ (nu_trans (by assumption) hv3) (fun hHeld => ?_)
      clear hK K hv3
      simp only [Act.put, List.setIfInBounds_toArray, List.set_cons_zero, List.set_cons_succ]
      refine wpAnyH_ready (rs := [11]) (by kernel_rfl) (by simp) ?_
      refine cons_l rfl (fun K hK => ?_) AllReadyH.nil
      go_simp
      go_at_call 15
      refine (HRa.out _).mono ?_
      rintro e v4 ⟨rfl, hv4⟩
      go_wp2_with fail
      refine hK.out _ _ (nu_trans (by assumption) hv4) (fun hHeld => ?_)
      clear hK K hv4
      simp only [Act.put, List.setIfInBounds_toArray, List.set_cons_zero, List.set_cons_succ]
      refine take_l (i := 12) (v := ?_) rfl (by kernel_rfl) (by kernel_rfl) (by kernel_rfl) (fun _ _ _ h => h) (Or.inl ⟨by rfl, ?_⟩) (by assumption) ?_
      case refine_2 => (intro _ _; go_simp; all_goals with_reducible rfl)
      simp only [Act.put, List.setIfInBounds_toArray, List.set_cons_zero, List.set_cons_succ]
      refine take_l (i := 13) (v := ?_) rfl (by kernel_rfl) (by kernel_rfl) (by kernel_rfl) (fun _ _ _ h => h) (Or.inl ⟨by rfl, ?_⟩) (by assumption) ?_
      case refine_2 => (intro _ _; go_simp; all_goals with_reducible rfl)
      simp only [Act.put, List.setIfInBounds_toArray, List.set_cons_zero, List.set_cons_succ]
      refine take_l (i := 14) (v := ?_) rfl (by kernel_rfl) (by kernel_rfl) (by kernel_rfl) (fun _ _ _ h => h) (Or.inl ⟨by rfl, ?_⟩) (by assumption) ?_
      case refine_2 => (intro _ _; go_simp; all_goals with_reducible rfl)
      simp only [Act.put, List.setIfInBounds_toArray, List.set_cons_zero, List.set_cons_succ]
      refine wpAnyH_ready (rs := [15]) (by kernel_rfl) (by simp) ?_
      refine cons_l rfl (fun K hK => ?_) AllReadyH.nil
      go_simp
      go_at_call 19
      refine (regAwake_any _).mono ?_
      rintro e v5 ⟨rfl, hv5⟩
      go_wp2_with fail
      refine hK.out _ _ (nu_trans (by assumption) hv5) (fun hHeld => ?_)
      clear hK K hv5
      simp only [Act.put, List.setIfInBounds_toArray, List.set_cons_zero, List.set_cons_succ]
      refine take_l (i := 16) (v := ?_) rfl (by kernel_rfl) (by kernel_rfl) (by kernel_rfl) (fun _ _ _ h => h) (Or.inl ⟨by rfl, ?_⟩) (by assumption) ?_
      case refine_2 => (intro _ _; go_simp; all_goals with_reducible rfl)
      simp only [Act.put, List.setIfInBounds_toArray, List.set_cons_zero, List.set_cons_succ]
      refine take_l (i := 17) (v := ?_) rfl (by kernel_rfl) (by kernel_rfl) (by kernel_rfl) (fun _ _ _ h => h) (Or.inl ⟨by rfl, ?_⟩) (by assumption) ?_
      case refine_2 => (intro _ _; go_simp; all_goals with_reducible rfl)
      simp only [Act.put, List.setIfInBounds_toArray, List.set_cons_zero, List.set_cons_succ]
      refine wpAnyH_done (by kernel_rfl) ?_ _
      go_wp2_with fail
      go_ret
      exact ⟨rfl, nu_trans hn3 hHeld⟩
end Go.Proofs.Ythlofbkbaabamaa
