/-
  The walk of AesBack.
-/
import Derived.Test.YtnojbjconiddoaaAes9
import Derived.Deep.DeepCutAuto
namespace Go.Proofs.Ytnojbjconiddoaa
open Go.ChangeShapes Go.WideShapes Go.ChangeAt Go.RowKit Fld Aes
set_option linter.unusedSimpArgs false

set_option maxRecDepth 100000 in
set_option maxHeartbeats 4000000 in
theorem aesBack_walk (a : Option Addr) (len cap : Nat) (xs : List Nat) (b : List Nat) (hb : St16 b) (w : World) (hx : BytesIn w a len cap xs) :
    Calls Try.prog 12 #[.slice a len cap, .agg (b.map vb).toArray] w fun e w' => e = .returned (.bool true) ∧ Below w.heap.size w w' := by
  have Hal := Lib.hid (nu_alloc (nu_refl w) (.cells (b.map vb).toArray 22))
  have HB1 := Lib.hid (Blk.made w 22 (b.map vb).toArray)
  have Hb := Lib.hid hb
  have Hb16 := Lib.hid hb.1
  by_cases hL : len = 16 ∨ len = 32
  · have hx1 := hx.keep Hal.out
    have hxs : ∀ x ∈ xs, x < 256 := fun x h => wf_u8_lt (hx.1.2.1 x h)
    have hxl : xs.length = len := hx.1.1
    have HNw := Lib.hid (new_good hL hx1)
    obtain ⟨Ws, hWs⟩ : ∃ Ws, Ws = expand xs := ⟨_, rfl⟩
    obtain ⟨R, hR⟩ : ∃ R, R = xs.length / 4 + 6 := ⟨_, rfl⟩
    have HK := Lib.hid (show Keyed Ws R by rw [hWs, hR]; exact keyed_of hxs (by rw [hxl]; exact hL))
    have HWR := Lib.hid (And.intro hWs hR)
    obtain ⟨E, hE⟩ : ∃ E, E = enc Ws R b := ⟨_, rfl⟩
    obtain ⟨D, hD⟩ : ∃ D, D = dec Ws R b := ⟨_, rfl⟩
    have HE := Lib.hid (show St16 E by rw [hE]; exact enc_st b Ws R)
    have HD := Lib.hid (show St16 D by rw [hD]; exact dec_st hb Ws R)
    have HEe := Lib.hid hE.symm
    have HDe := Lib.hid hD.symm
    have HEd := Lib.hid (show dec Ws R E = b by rw [hE]; exact dec_enc hb Ws R HK.out.pos)
    have HDd := Lib.hid (show enc Ws R D = b by rw [hD]; exact enc_dec hb Ws R HK.out.pos)
    clear hx hx1 hxs hxl hWs hR hE hD hL hb
    go_enter Try.func12, Try.ntmps12
    go_upto_region 1 with fail
    generalize w.alloc (.cells (b.map vb).toArray 22) = w1 at *
    obtain ⟨B, hB⟩ : ∃ B, B = w.heap.size := ⟨_, rfl⟩
    rw [← hB] at HB1
    rw [← hB]
    clear hB
    go_wp2_with fail
    refine HNw.out.mono ?_
    rintro e w2 ⟨C, rfl, hC, hb2⟩
    have HS2 := Lib.hid (show CB w2 C R Ws B b from ⟨by rw [HWR.out.1, HWR.out.2]; exact hC, HB1.out.below hb2 HB1.out.lt⟩)
    have hn2 := nu_trans Hal.out hb2
    clear hC hb2 HNw Hal HB1
    go_wp2_with fail
    refine wp_region_held_drew (S := fun W => CB W C R Ws B b) (by kernel_rfl) (HS2.out.drew) (fun hHeld => ?_)
    dsimp only [Array.replicate, List.replicate, List.size_toArray, List.length_cons, List.length_nil, Nat.reduceAdd] at hHeld ⊢
    have HS3 := Lib.hid hHeld
    have hn3 := nu_drew hn2
    clear HS2 hn2
    generalize w2.drew = w3 at *
    refine take_l (i := 0) (v := ?_) rfl (by kernel_rfl) (by kernel_rfl) (by kernel_rfl) (fun _ _ _ h => h) (Or.inl ⟨by rfl, ?_⟩) (by assumption) ?_
    case refine_2 => (intro _ _; go_simp; all_goals with_reducible rfl)
    simp only [Act.put, List.setIfInBounds_toArray, List.set_cons_zero, List.set_cons_succ]
    refine take_l (i := 1) (v := ?_) rfl (by kernel_rfl) (by kernel_rfl) (by kernel_rfl) (fun _ _ _ h => h) (Or.inl ⟨by rfl, ?_⟩) (by assumption) ?_
    case refine_2 => (intro _ _; go_simp; all_goals with_reducible rfl)
    simp only [Act.put, List.setIfInBounds_toArray, List.set_cons_zero, List.set_cons_succ]
    refine take_l (i := 2) rfl (by kernel_rfl) (by kernel_rfl) (by kernel_rfl) (fun _ _ _ h => h) (Or.inl ⟨by rfl, fun W hS => e16_load (CB.b hS) Hb16.out (.tmp 3) rfl rfl⟩) (by assumption) ?_
    simp only [Act.put, List.setIfInBounds_toArray, List.set_cons_zero, List.set_cons_succ]
    refine take_l (i := 5) rfl (by kernel_rfl) (by kernel_rfl) (by kernel_rfl) (fun _ _ _ h => h) (Or.inl ⟨by rfl, fun W hS => e16_load (CB.b hS) Hb16.out (.tmp 3) rfl rfl⟩) (by assumption) ?_
    simp only [Act.put, List.setIfInBounds_toArray, List.set_cons_zero, List.set_cons_succ]
    clear hHeld
    refine wpAnyH_ready (rs := [3]) (by kernel_rfl) (by simp) ?_
    refine cons_l rfl (fun K hK => ?_) AllReadyH.nil
    go_simp
    go_at_call 29
    refine (enc_call HS3.out.c HK.out Hb.out HEe.out).mono ?_
    rintro e w4 ⟨rfl, hb4⟩
    have HS4 := Lib.hid (HS3.out.below hb4)
    have hn4 := nu_trans hn3 hb4
    clear hb4 HS3 hn3
    go_wp2_with fail
    refine hK.out _ _ HS4.out (fun hHeld => ?_)
    clear hK K hHeld
    simp only [Act.put, List.setIfInBounds_toArray, List.set_cons_zero, List.set_cons_succ]
    have hHeld := HS4.out
    clear hHeld
    refine wpAnyH_ready (rs := [4]) (by kernel_rfl) (by simp) ?_
    refine cons_l rfl (fun K hK => ?_) AllReadyH.nil
    go_simp
    go_at_call 32
    refine (dec_call HS4.out.c HK.out HE.out HEd.out).mono ?_
    rintro e w5 ⟨rfl, hb5⟩
    have HS5 := Lib.hid (HS4.out.below hb5)
    have hn5 := nu_trans hn4 hb5
    clear hb5 HS4 hn4
    go_wp2_with fail
    refine hK.out _ _ HS5.out (fun hHeld => ?_)
    clear hK K hHeld
    simp only [Act.put, List.setIfInBounds_toArray, List.set_cons_zero, List.set_cons_succ]
    have hHeld := HS5.out
    refine take_l (i := 6) rfl (by kernel_rfl) (by kernel_rfl) (by kernel_rfl) (fun _ _ _ h => h) (Or.inl ⟨by rfl, fun W _ => e16_same b Hb16.out (.tmp 29) (.tmp 30) rfl rfl rfl⟩) (by assumption) ?_
    simp only [Act.put, List.setIfInBounds_toArray, List.set_cons_zero, List.set_cons_succ]
    refine take_l (i := 7) (v := ?_) rfl (by kernel_rfl) (by kernel_rfl) (by kernel_rfl) (fun _ _ _ h => h) (Or.inl ⟨by rfl, ?_⟩) (by assumption) ?_
    case refine_2 => (intro _ _; go_simp; all_goals with_reducible rfl)
    simp only [Act.put, List.setIfInBounds_toArray, List.set_cons_zero, List.set_cons_succ]
    refine take_l (i := 8) (v := ?_) rfl (by kernel_rfl) (by kernel_rfl) (by kernel_rfl) (fun _ _ _ h => h) (Or.inl ⟨by rfl, ?_⟩) (by assumption) ?_
    case refine_2 => (intro _ _; go_simp; all_goals with_reducible rfl)
    simp only [Act.put, List.setIfInBounds_toArray, List.set_cons_zero, List.set_cons_succ]
    refine take_l (i := 9) (v := ?_) rfl (by kernel_rfl) (by kernel_rfl) (by kernel_rfl) (fun _ _ _ h => h) (Or.inl ⟨by rfl, ?_⟩) (by assumption) ?_
    case refine_2 => (intro _ _; go_simp; all_goals with_reducible rfl)
    simp only [Act.put, List.setIfInBounds_toArray, List.set_cons_zero, List.set_cons_succ]
    refine take_l (i := 10) rfl (by kernel_rfl) (by kernel_rfl) (by kernel_rfl) (fun _ _ _ h => h) (Or.inl ⟨by rfl, fun W hS => e16_load (CB.b hS) Hb16.out (.tmp 3) rfl rfl⟩) (by assumption) ?_
    simp only [Act.put, List.setIfInBounds_toArray, List.set_cons_zero, List.set_cons_succ]
    refine take_l (i := 13) rfl (by kernel_rfl) (by kernel_rfl) (by kernel_rfl) (fun _ _ _ h => h) (Or.inl ⟨by rfl, fun W hS => e16_load (CB.b hS) Hb16.out (.tmp 3) rfl rfl⟩) (by assumption) ?_
    simp only [Act.put, List.setIfInBounds_toArray, List.set_cons_zero, List.set_cons_succ]
    clear hHeld
    refine wpAnyH_ready (rs := [11]) (by kernel_rfl) (by simp) ?_
    refine cons_l rfl (fun K hK => ?_) AllReadyH.nil
    go_simp
    go_at_call 32
    refine (dec_call HS5.out.c HK.out Hb.out HDe.out).mono ?_
    rintro e w6 ⟨rfl, hb6⟩
    have HS6 := Lib.hid (HS5.out.below hb6)
    have hn6 := nu_trans hn5 hb6
    clear hb6 HS5 hn5
    go_wp2_with fail
    refine hK.out _ _ HS6.out (fun hHeld => ?_)
    clear hK K hHeld
    simp only [Act.put, List.setIfInBounds_toArray, List.set_cons_zero, List.set_cons_succ]
    have hHeld := HS6.out
    clear hHeld
    refine wpAnyH_ready (rs := [12]) (by kernel_rfl) (by simp) ?_
    refine cons_l rfl (fun K hK => ?_) AllReadyH.nil
    go_simp
    go_at_call 29
    refine (enc_call HS6.out.c HK.out HD.out HDd.out).mono ?_
    rintro e w7 ⟨rfl, hb7⟩
    have HS7 := Lib.hid (HS6.out.below hb7)
    have hn7 := nu_trans hn6 hb7
    clear hb7 HS6 hn6
    go_wp2_with fail
    refine hK.out _ _ HS7.out (fun hHeld => ?_)
    clear hK K hHeld
    simp only [Act.put, List.setIfInBounds_toArray, List.set_cons_zero, List.set_cons_succ]
    have hHeld := HS7.out
    refine take_l (i := 14) rfl (by kernel_rfl) (by kernel_rfl) (by kernel_rfl) (fun _ _ _ h => h) (Or.inl ⟨by rfl, fun W _ => e16_same b Hb16.out (.tmp 37) (.tmp 38) rfl rfl rfl⟩) (by assumption) ?_
    simp only [Act.put, List.setIfInBounds_toArray, List.set_cons_zero, List.set_cons_succ]
    refine take_l (i := 15) (v := ?_) rfl (by kernel_rfl) (by kernel_rfl) (by kernel_rfl) (fun _ _ _ h => h) (Or.inl ⟨by rfl, ?_⟩) (by assumption) ?_
    case refine_2 => (intro _ _; go_simp; all_goals with_reducible rfl)
    simp only [Act.put, List.setIfInBounds_toArray, List.set_cons_zero, List.set_cons_succ]
    refine take_l (i := 16) (v := ?_) rfl (by kernel_rfl) (by kernel_rfl) (by kernel_rfl) (fun _ _ _ h => h) (Or.inl ⟨by rfl, ?_⟩) (by assumption) ?_
    case refine_2 => (intro _ _; go_simp; all_goals with_reducible rfl)
    simp only [Act.put, List.setIfInBounds_toArray, List.set_cons_zero, List.set_cons_succ]
    clear hHeld
    refine wpAnyH_ready (rs := [17]) (by kernel_rfl) (by simp) ?_
    refine cons_l rfl (fun K hK => ?_) AllReadyH.nil
    go_simp
    go_at_call 28
    refine (awake6 w7).mono ?_
    rintro e w8 ⟨rfl, hb8⟩
    have HS8 := Lib.hid (HS7.out.below hb8)
    have hn8 := nu_trans hn7 hb8
    clear hb8 HS7 hn7
    go_wp2_with fail
    refine hK.out _ _ HS8.out (fun hHeld => ?_)
    clear hK K hHeld
    simp only [Act.put, List.setIfInBounds_toArray, List.set_cons_zero, List.set_cons_succ]
    have hHeld := HS8.out
    refine take_l (i := 18) (v := ?_) rfl (by kernel_rfl) (by kernel_rfl) (by kernel_rfl) (fun _ _ _ h => h) (Or.inl ⟨by rfl, ?_⟩) (by assumption) ?_
    case refine_2 => (intro _ _; go_simp; all_goals with_reducible rfl)
    simp only [Act.put, List.setIfInBounds_toArray, List.set_cons_zero, List.set_cons_succ]
    refine take_l (i := 19) (v := ?_) rfl (by kernel_rfl) (by kernel_rfl) (by kernel_rfl) (fun _ _ _ h => h) (Or.inl ⟨by rfl, ?_⟩) (by assumption) ?_
    case refine_2 => (intro _ _; go_simp; all_goals with_reducible rfl)
    simp only [Act.put, List.setIfInBounds_toArray, List.set_cons_zero, List.set_cons_succ]
    refine wpAnyH_done (by kernel_rfl) ?_ _
    go_wp2_with fail
    go_ret
    exact ⟨rfl, hn8⟩
  · have t1 : ((len : Int) != 16) = true := by rw [bne_iff_ne]; omega
    have t2 : ((len : Int) != 32) = true := by rw [bne_iff_ne]; omega
    have HNw := Lib.hid (aesNew_bad a len cap (w.alloc (.cells (b.map vb).toArray 22)) (by omega) (by omega))
    clear hx hL hb
    go_enter Try.func12, Try.ntmps12
    go_wp2_with fail
    refine HNw.out.mono ?_
    rintro e w2 ⟨rfl, rfl⟩
    go_wp2_with fail
    refine (awake6 _).mono ?_
    rintro e w3 ⟨rfl, hb3⟩
    have hn3 := nu_trans Hal.out hb3
    go_wp2_with fail
    go_ret
    exact ⟨rfl, hn3⟩
end Go.Proofs.Ytnojbjconiddoaa
