/-
  The walk of AesDecrypts.
-/
import Derived.Test.YtnojbjconiddoaaAesN
namespace Go.Proofs.Ytnojbjconiddoaa
open Go.ChangeShapes Go.WideShapes Go.ChangeAt Go.RowKit Fld Aes
set_option linter.unusedSimpArgs false

set_option maxRecDepth 100000 in
set_option maxHeartbeats 4000000 in
theorem aesDecrypts_walk (a : Option Addr) (len cap : Nat) (xs : List Nat) (b : List Nat) (hb : St16 b) (w : World) (hx : BytesIn w a len cap xs) :
    Calls Try.prog 11 #[.slice a len cap, .agg (b.map vb).toArray] w fun e w' => e = .returned (.bool true) ∧ Below w.heap.size w w' := by
  have Hal := Lib.hid (nu_alloc (nu_refl w) (.cells (b.map vb).toArray 22))
  have HB1 := Lib.hid (Blk.made w 22 (b.map vb).toArray)
  have Hb := Lib.hid hb
  have Hb16 := Lib.hid hb.1
  by_cases hL : len = 16 ∨ len = 32
  · have hx1 := hx.keep Hal.out
    have hxs : ∀ x ∈ xs, x < 256 := fun x h => wf_u8_lt (hx.1.2.1 x h)
    have hxl : xs.length = len := hx.1.1
    obtain ⟨Ws, hWs⟩ : ∃ Ws, Ws = expand xs := ⟨_, rfl⟩
    obtain ⟨R, hR⟩ : ∃ R, R = xs.length / 4 + 6 := ⟨_, rfl⟩
    have HK := Lib.hid (show Keyed Ws R by rw [hWs, hR]; exact keyed_of hxs (by rw [hxl]; exact hL))
    have HWR := Lib.hid (And.intro hWs hR)
    obtain ⟨D, hD⟩ : ∃ D, D = dec Ws R b := ⟨_, rfl⟩
    have HDe := Lib.hid hD.symm
    have HD := Lib.hid (show D.length = 16 by rw [hD]; exact (dec_st hb Ws R).1)
    have HNw := Lib.hid (new_good hL hx1)
    have HX1 := Lib.hid hx1
    have HL := Lib.hid hL
    clear hx hx1 hxs hxl hWs hR hD hL hb
    go_enter Try.func11, Try.ntmps11
    go_upto_region 1 with fail
    generalize w.alloc (.cells (b.map vb).toArray 22) = w1 at *
    obtain ⟨B, hB⟩ : ∃ B, B = w.heap.size := ⟨_, rfl⟩
    rw [← hB] at HB1
    rw [← hB]
    clear hB
    go_wp2_with fail
    refine HNw.out.mono ?_
    rintro e w2 ⟨C, rfl, hC, hb2⟩
    have HC2 := Lib.hid (show CiphAt w2 C Ws R from by rw [HWR.out.1, HWR.out.2]; exact hC)
    have HB2 := Lib.hid (HB1.out.below hb2 HB1.out.lt)
    have HX2 := Lib.hid (HX1.out.keep hb2)
    have Hn2 := Lib.hid (nu_trans Hal.out hb2)
    have HRn := Lib.hid (refNew_any (len / 4) len (by have := HL.out; omega) (by have := HL.out; omega) a cap xs w2 HX2.out)
    rw [← HWR.out.1] at HRn
    clear hC hb2 HNw Hal HB1 HX1
    go_wp2_with fail
    refine HRn.out.mono ?_
    rintro e w3 ⟨v, rfl, hrow, hbk⟩
    obtain ⟨LK, hLK⟩ : ∃ LK, LK = keyL v := ⟨_, rfl⟩
    rw [← hLK]
    have HLK := Lib.hid hLK
    have HLl := Lib.hid (show LK.length = 513 by rw [hLK]; exact keyL_len v)
    have HL1 := Lib.hid (show ∀ u ∈ LK, u.oneCell' = true by rw [hLK]; exact keyL_one v hrow.one)
    have HKm := Lib.hid (Blk.made w3 44 Try.zeroCells44)
    have HKf := Lib.hid (Blk.fill HKm.out LK (by rw [zero_key_size, HLl.out]))
    have halk := nu_fill (a := w3) LK (g := w3.heap.size) (Nat.le_refl _) 0 _ (nu_alloc (nu_refl w3) (.cells Try.zeroCells44 44))
    have Hrow := Lib.hid (hrow.below halk)
    have Hbk := Lib.hid (nu_trans hbk halk)
    clear hLK hrow hbk halk
    go_upto_region 3 with (refine wpList_store_in rfl 44 (.tmp 7) (.tmp 17) rfl w3.heap.size 0 LK rfl rfl 44 Try.zeroCells44 HKm.out (by rw [zero_key_size, HLl.out]; omega) (by rw [HLl.out]; kernel_rfl) HL1.out ?_)
    change Code.wp _ _ _ _ ((w3.alloc (.cells Try.zeroCells44 44)).setCells w3.heap.size 0 LK)
    clear HKm
    generalize (w3.alloc (.cells Try.zeroCells44 44)).setCells w3.heap.size 0 LK = w9 at *
    obtain ⟨KB, hKB⟩ : ∃ KB, KB = w3.heap.size := ⟨_, rfl⟩
    rw [← hKB] at HKf
    rw [← hKB]
    clear hKB
    have HS2 := Lib.hid (show CBK w9 C R Ws B b KB LK v from ⟨HC2.out.below Hbk.out, HB2.out.below Hbk.out HB2.out.lt, HKf.out, Hrow.out⟩)
    have hn2 := nu_trans Hn2.out Hbk.out
    clear HC2 HB2 HX2 Hn2 HRn HKf Hrow Hbk
    go_wp2_with fail
    refine wp_region_held_drew (S := fun W => CBK W C R Ws B b KB LK v) (by kernel_rfl) (HS2.out.drew) (fun hHeld => ?_)
    dsimp only [Array.replicate, List.replicate, List.size_toArray, List.length_cons, List.length_nil, Nat.reduceAdd] at hHeld ⊢
    have HS3 := Lib.hid hHeld
    have hn3 := nu_drew hn2
    clear HS2 hn2
    generalize w9.drew = w3 at *
    refine take_l (i := 0) (v := ?_) rfl (by kernel_rfl) (by kernel_rfl) (by kernel_rfl) (fun _ _ _ h => h) (Or.inl ⟨by rfl, ?_⟩) (by assumption) ?_
    case refine_2 => (intro _ _; go_simp; all_goals with_reducible rfl)
    simp only [Act.put, List.setIfInBounds_toArray, List.set_cons_zero, List.set_cons_succ]
    refine take_l (i := 1) (v := ?_) rfl (by kernel_rfl) (by kernel_rfl) (by kernel_rfl) (fun _ _ _ h => h) (Or.inl ⟨by rfl, ?_⟩) (by assumption) ?_
    case refine_2 => (intro _ _; go_simp; all_goals with_reducible rfl)
    simp only [Act.put, List.setIfInBounds_toArray, List.set_cons_zero, List.set_cons_succ]
    refine take_l (i := 2) (v := ?_) rfl (by kernel_rfl) (by kernel_rfl) (by kernel_rfl) (fun _ _ _ h => h) (Or.inl ⟨by rfl, ?_⟩) (by assumption) ?_
    case refine_2 => (intro _ _; go_simp; all_goals with_reducible rfl)
    simp only [Act.put, List.setIfInBounds_toArray, List.set_cons_zero, List.set_cons_succ]
    refine take_l (i := 3) (v := ?_) rfl (by kernel_rfl) (by kernel_rfl) (by kernel_rfl) (fun _ _ _ h => h) (Or.inl ⟨by rfl, ?_⟩) (by assumption) ?_
    case refine_2 => (intro _ _; go_simp; all_goals with_reducible rfl)
    simp only [Act.put, List.setIfInBounds_toArray, List.set_cons_zero, List.set_cons_succ]
    refine take_l (i := 4) rfl (by kernel_rfl) (by kernel_rfl) (by kernel_rfl) (fun _ _ _ h => h) (Or.inl ⟨by rfl, fun W hS => e16_load (CBK.b hS) Hb16.out (.tmp 3) rfl rfl⟩) (by assumption) ?_
    simp only [Act.put, List.setIfInBounds_toArray, List.set_cons_zero, List.set_cons_succ]
    refine take_l (i := 6) rfl (by kernel_rfl) (by kernel_rfl) (by kernel_rfl) (fun _ _ _ h => h) (Or.inl ⟨by rfl, fun W hS => eKey_load (CBK.k hS) HLl.out (.tmp 7) rfl rfl⟩) (by assumption) ?_
    simp only [Act.put, List.setIfInBounds_toArray, List.set_cons_zero, List.set_cons_succ]
    refine take_l (i := 7) rfl (by kernel_rfl) (by kernel_rfl) (by kernel_rfl) (fun _ _ _ h => h) (Or.inl ⟨by rfl, fun W hS => e16_load (CBK.b hS) Hb16.out (.tmp 3) rfl rfl⟩) (by assumption) ?_
    simp only [Act.put, List.setIfInBounds_toArray, List.set_cons_zero, List.set_cons_succ]
    clear hHeld
    refine wpAnyH_ready (rs := [5]) (by kernel_rfl) (by simp) ?_
    refine cons_l rfl (fun K hK => ?_) AllReadyH.nil
    go_simp
    go_at_call 32
    refine (dec_call HS3.out.c HK.out Hb.out HDe.out).mono ?_
    rintro e w4 ⟨rfl, hb4⟩
    have HS4 := Lib.hid (HS3.out.below hb4)
    have hn4 := nu_trans hn3 hb4
    clear hb4 HS3 hn3
    go_wp2_with fail
    refine hK.out _ _ HS4.out (fun hHeld => ?_)
    clear hK K hHeld
    simp only [Act.put, List.setIfInBounds_toArray, List.set_cons_zero, List.set_cons_succ]
    have hHeld := HS4.out
    clear hHeld
    refine wpAnyH_ready (rs := [8]) (by kernel_rfl) (by simp) ?_
    refine cons_l rfl (fun K hK => ?_) AllReadyH.nil
    go_simp
    go_at_call 33
    refine (refDec_is HS4.out.r HK.out HLK.out Hb.out HDe.out).mono ?_
    rintro e w5 ⟨rfl, hb5⟩
    have HS5 := Lib.hid (HS4.out.below hb5)
    have hn5 := nu_trans hn4 hb5
    clear hb5 HS4 hn4
    go_wp2_with fail
    refine hK.out _ _ HS5.out (fun hHeld => ?_)
    clear hK K hHeld
    simp only [Act.put, List.setIfInBounds_toArray, List.set_cons_zero, List.set_cons_succ]
    have hHeld := HS5.out
    refine take_l (i := 9) rfl (by kernel_rfl) (by kernel_rfl) (by kernel_rfl) (fun _ _ _ h => h) (Or.inl ⟨by rfl, fun W _ => e16_same D HD.out (.tmp 31) (.tmp 34) rfl rfl rfl⟩) (by assumption) ?_
    simp only [Act.put, List.setIfInBounds_toArray, List.set_cons_zero, List.set_cons_succ]
    refine take_l (i := 10) (v := ?_) rfl (by kernel_rfl) (by kernel_rfl) (by kernel_rfl) (fun _ _ _ h => h) (Or.inl ⟨by rfl, ?_⟩) (by assumption) ?_
    case refine_2 => (intro _ _; go_simp; all_goals with_reducible rfl)
    simp only [Act.put, List.setIfInBounds_toArray, List.set_cons_zero, List.set_cons_succ]
    refine take_l (i := 11) (v := ?_) rfl (by kernel_rfl) (by kernel_rfl) (by kernel_rfl) (fun _ _ _ h => h) (Or.inl ⟨by rfl, ?_⟩) (by assumption) ?_
    case refine_2 => (intro _ _; go_simp; all_goals with_reducible rfl)
    simp only [Act.put, List.setIfInBounds_toArray, List.set_cons_zero, List.set_cons_succ]
    clear hHeld
    refine wpAnyH_ready (rs := [12]) (by kernel_rfl) (by simp) ?_
    refine cons_l rfl (fun K hK => ?_) AllReadyH.nil
    go_simp
    go_at_call 28
    refine (awake6 w5).mono ?_
    rintro e w6 ⟨rfl, hb6⟩
    have HS6 := Lib.hid (HS5.out.below hb6)
    have hn6 := nu_trans hn5 hb6
    clear hb6 HS5 hn5
    go_wp2_with fail
    refine hK.out _ _ HS6.out (fun hHeld => ?_)
    clear hK K hHeld
    simp only [Act.put, List.setIfInBounds_toArray, List.set_cons_zero, List.set_cons_succ]
    have hHeld := HS6.out
    refine take_l (i := 13) (v := ?_) rfl (by kernel_rfl) (by kernel_rfl) (by kernel_rfl) (fun _ _ _ h => h) (Or.inl ⟨by rfl, ?_⟩) (by assumption) ?_
    case refine_2 => (intro _ _; go_simp; all_goals with_reducible rfl)
    simp only [Act.put, List.setIfInBounds_toArray, List.set_cons_zero, List.set_cons_succ]
    refine take_l (i := 14) (v := ?_) rfl (by kernel_rfl) (by kernel_rfl) (by kernel_rfl) (fun _ _ _ h => h) (Or.inl ⟨by rfl, ?_⟩) (by assumption) ?_
    case refine_2 => (intro _ _; go_simp; all_goals with_reducible rfl)
    simp only [Act.put, List.setIfInBounds_toArray, List.set_cons_zero, List.set_cons_succ]
    refine wpAnyH_done (by kernel_rfl) ?_ _
    go_wp2_with fail
    go_ret
    exact ⟨rfl, hn6⟩
  · have HNw := Lib.hid (aesNew_bad a len cap (w.alloc (.cells (b.map vb).toArray 22)) (by omega) (by omega))
    have HRw := Lib.hid (refNew_bad a len cap (w.alloc (.cells (b.map vb).toArray 22)) (by omega) (by omega))
    clear hx hL hb
    go_enter Try.func11, Try.ntmps11
    go_upto_region 1 with fail
    change Code.wp _ _ _ _ (w.alloc (.cells (b.map vb).toArray 22))
    generalize w.alloc (.cells (b.map vb).toArray 22) = w1 at *
    go_wp2_with fail
    refine HNw.out.mono ?_
    rintro e w2 ⟨rfl, rfl⟩
    go_wp2_with fail
    refine HRw.out.mono ?_
    rintro e w3 ⟨rfl, hbk⟩
    obtain ⟨LK, hLK⟩ : ∃ LK, LK = keyZ := ⟨_, rfl⟩
    rw [← hLK]
    have HLl := Lib.hid (show LK.length = 513 by rw [hLK]; exact keyZ_len)
    have HL1 := Lib.hid (show ∀ u ∈ LK, u.oneCell' = true by rw [hLK]; exact keyZ_one)
    have HKm := Lib.hid (Blk.made w3 44 Try.zeroCells44)
    have halk := nu_fill (a := w3) LK (g := w3.heap.size) (Nat.le_refl _) 0 _ (nu_alloc (nu_refl w3) (.cells Try.zeroCells44 44))
    have Hbk := Lib.hid (nu_trans hbk halk)
    clear hLK hbk halk
    go_upto_region 3 with (refine wpList_store_in rfl 44 (.tmp 7) (.tmp 17) rfl w3.heap.size 0 LK rfl rfl 44 Try.zeroCells44 HKm.out (by rw [zero_key_size, HLl.out]; omega) (by rw [HLl.out]; kernel_rfl) HL1.out ?_)
    change Code.wp _ _ _ _ ((w3.alloc (.cells Try.zeroCells44 44)).setCells w3.heap.size 0 LK)
    clear HKm
    generalize (w3.alloc (.cells Try.zeroCells44 44)).setCells w3.heap.size 0 LK = w9 at *
    go_wp2_with fail
    refine (awake6 _).mono ?_
    rintro e w4 ⟨rfl, hb4⟩
    have hn4 := nu_trans Hal.out (nu_trans Hbk.out hb4)
    go_wp2_with fail
    go_ret
    exact ⟨rfl, hn4⟩
end Go.Proofs.Ytnojbjconiddoaa
