/-
  What the proof of GcmBack rests on, part 7 of 8.
-/
import Derived.Test.YtpeibkdcglkimaaGcmBackB6
namespace Go.Proofs.Ytpeibkdcglkimaa
open Go.ChangeShapes Go.WideShapes Go.ChangeAt Go.RowKit Fld Aes Gcm
set_option linter.unusedSimpArgs false

theorem e_hash {o : Oper} {a : Act} {w : World} {g i : Nat} {v : Option Addr} (hc : w.cell? ⟨g, i, none⟩ = some (.pointer v)) (x : Operand) (ho : o.op = .load 51 x) (hx : a.eval x = .pointer (some ⟨g, i, none⟩)) :
    (execOp a.eval o).run Try.prog w = .ok (.value (.pointer v)) w := by
  unfold execOp
  simp only [ho, hx]
  go_simp
set_option maxRecDepth 100000 in
set_option maxHeartbeats 16000000 in
theorem tag_any {w : World} {X R h : Nat} {Ws : List Nat} (hG : GBox w X Ws R h) (hK : Keyed Ws R) (hh : h < 2 ^ 128) (nonce : List Nat) (h12 : nonce.length = 12) (hx12 : ∀ x ∈ nonce, x < 256) (a t : Option Addr) (la ca lt ct : Nat) (xs ys : List Nat) (hx : BytesIn w a la ca xs) (hy : BytesIn w t lt ct ys) (hla : la ≤ 140737488355320) (hlt : lt ≤ 140737488355320) (hac : la ≤ ca ∧ ca ≤ maxLen) (htc : lt ≤ ct ∧ ct ≤ maxLen) :
    Calls Try.prog 29 #[.pointer (some ⟨X, 0, none⟩), .agg (nonce.map vb).toArray, .slice a la ca, .slice t lt ct] w fun e w' => ∃ G, e = .returned (.slice (some ⟨G, 0, none⟩) 16 16) ∧ w.heap.size ≤ G ∧ Blk w' G 44 ((tagL Ws R nonce h xs ys).map vb).toArray ∧ Below w.heap.size w w' := by
  have hal := nu_alloc (nu_refl w) (.cells (nonce.map vb).toArray 23)
  have HP := Lib.hid (Blk.made w 23 (nonce.map vb).toArray)
  have HG := Lib.hid (hG.below hal)
  obtain ⟨C, g, hX, hC, hKA⟩ := hG.below hal
  have HX := Lib.hid hX
  have HXl := Lib.hid hX.lt
  have HKA := Lib.hid (show KeyAt _ g h from hKA)
  have HK := Lib.hid hK
  have Hh := Lib.hid hh
  have H12 := Lib.hid h12
  have Hx := Lib.hid (hx.keep hal)
  have Hy := Lib.hid (hy.keep hal)
  have Hla := Lib.hid hla
  have Hlt := Lib.hid hlt
  have Hac := Lib.hid hac
  have Htc := Lib.hid htc
  obtain ⟨D1, hD1⟩ : ∃ D, D = gsumB h xs ys := ⟨_, rfl⟩
  obtain ⟨D2, hD2⟩ : ∃ D, D = ctr Ws R nonce 1 := ⟨_, rfl⟩
  have HD1 := Lib.hid hD1.symm
  have HL1 := Lib.hid (show D1.length = 16 by rw [hD1]; exact (gsumB_st _ _ _).1)
  have HL2 := Lib.hid (show D2.length = 16 by rw [hD2]; exact (ctr_st _ _ _ _).1)
  have HS1 := Lib.hid (show ∀ x ∈ D1, x < 256 by rw [hD1]; exact (gsumB_st _ _ _).2)
  have HS2 := Lib.hid (show ∀ x ∈ D2, x < 256 by rw [hD2]; exact (ctr_st _ _ _ _).2)
  have HCt := Lib.hid (show ∀ u : World, GBox u X Ws R h → Calls Try.prog 48 #[.pointer (some ⟨X, 0, none⟩), .agg (nonce.map vb).toArray, .int .u32 1] u fun e w' => e = .returned (.agg (D2.map vb).toArray) ∧ Below u.heap.size u w' from fun u hu => by
    rw [hD2]
    exact counter_any hu hK nonce h12 hx12 1 (by omega))
  obtain ⟨Tg, hTg⟩ : ∃ T, T = tagL Ws R nonce h xs ys := ⟨_, rfl⟩
  have HTl := Lib.hid (show Tg.length = 16 by rw [hTg]; exact (tagL_st _ _ _ _ _ _).1)
  have HTe := Lib.hid (show Tg = xorL D1 D2 by rw [hTg, hD1, hD2]; rfl)
  have Hal := Lib.hid hal
  have HPw := Lib.hid (show w.heap.size ≤ (w.alloc (.cells (nonce.map vb).toArray 23)).heap.size by simp)
  rw [← hTg]
  clear hG hX hC hKA hK hh h12 hx12 hx hy hla hlt hac htc hD1 hD2 hTg hal
  go_enter Try.func29, Try.ntmps29
  go_upto_region 1 with fail
  generalize w.alloc (.cells (nonce.map vb).toArray 23) = w1 at *
  obtain ⟨P, hP⟩ : ∃ P, P = w.heap.size := ⟨_, rfl⟩
  rw [← hP] at HP
  rw [← hP]
  clear hP
  go_cut [9, 10] (fun s9 s10 wx => ∃ A B : Nat, s9 = .pointer (some ⟨A, 0, none⟩) ∧ s10 = .pointer (some ⟨B, 0, none⟩) ∧ Blk wx A 44 (D1.map vb).toArray ∧ Blk wx B 44 (D2.map vb).toArray ∧ A ≠ B ∧ w1.heap.size ≤ A ∧ w1.heap.size ≤ B ∧ Below w1.heap.size w1 wx)
  case first =>
    refine wp_region_held_drew (S := fun W => Below w1.heap.size w1 W) (by kernel_rfl) (nu_drew (nu_refl w1)) (fun hHeld => ?_)
    dsimp only [Array.replicate, List.replicate, List.size_toArray, List.length_cons, List.length_nil, Nat.reduceAdd] at hHeld ⊢
    have HB0 := Lib.hid hHeld
    generalize w1.drew = u0 at *
    refine take_l (i := 0) (v := ?_) rfl (by kernel_rfl) (by kernel_rfl) (by kernel_rfl) (fun _ _ _ h => h) (Or.inl ⟨by rfl, ?_⟩) (by assumption) ?_
    case refine_2 => (intro _ _; go_simp; all_goals with_reducible rfl)
    simp only [Act.put, List.setIfInBounds_toArray, List.set_cons_zero, List.set_cons_succ]
    refine take_l (i := 1) (v := ?_) rfl (by kernel_rfl) (by kernel_rfl) (by kernel_rfl) (fun _ _ _ h => h) (Or.inl ⟨by rfl, ?_⟩) (by assumption) ?_
    case refine_2 => (intro _ _; go_simp; all_goals with_reducible rfl)
    simp only [Act.put, List.setIfInBounds_toArray, List.set_cons_zero, List.set_cons_succ]
    refine take_l (i := 2) (v := ?_) rfl (by kernel_rfl) (by kernel_rfl) (by kernel_rfl) (fun _ _ _ h => h) (Or.inl ⟨by rfl, ?_⟩) (by assumption) ?_
    case refine_2 => (intro _ _; go_simp; all_goals with_reducible rfl)
    simp only [Act.put, List.setIfInBounds_toArray, List.set_cons_zero, List.set_cons_succ]
    refine take_l (i := 3) rfl (by kernel_rfl) (by kernel_rfl) (by kernel_rfl) (fun _ _ _ h => h) (Or.inl ⟨by rfl, fun W hS => e_hash ((hS.cell (p := ⟨X, 1, none⟩) HXl.out).trans (HX.out.at 1 _ rfl)) (.tmp 14) rfl rfl⟩) (by assumption) ?_
    simp only [Act.put, List.setIfInBounds_toArray, List.set_cons_zero, List.set_cons_succ]
    refine take_l (i := 4) (v := ?_) rfl (by kernel_rfl) (by kernel_rfl) (by kernel_rfl) (fun _ _ _ h => h) (Or.inl ⟨by rfl, ?_⟩) (by assumption) ?_
    case refine_2 => (intro _ _; go_simp; all_goals with_reducible rfl)
    simp only [Act.put, List.setIfInBounds_toArray, List.set_cons_zero, List.set_cons_succ]
    refine take_l (i := 5) (v := ?_) rfl (by kernel_rfl) (by kernel_rfl) (by kernel_rfl) (fun _ _ _ h => h) (Or.inl ⟨by rfl, ?_⟩) (by assumption) ?_
    case refine_2 => (intro _ _; go_simp; all_goals with_reducible rfl)
    simp only [Act.put, List.setIfInBounds_toArray, List.set_cons_zero, List.set_cons_succ]
    refine take_l (i := 7) (v := ?_) rfl (by kernel_rfl) (by kernel_rfl) (by kernel_rfl) (fun _ _ _ h => h) (Or.inl ⟨by rfl, ?_⟩) (by assumption) ?_
    case refine_2 => (intro _ _; go_simp; all_goals with_reducible rfl)
    simp only [Act.put, List.setIfInBounds_toArray, List.set_cons_zero, List.set_cons_succ]
    refine take_l (i := 8) rfl (by kernel_rfl) (by kernel_rfl) (by kernel_rfl) (fun _ _ _ h => h) (Or.inl ⟨by rfl, fun W hS => e12_load (Blk.below HP.out hS HP.out.lt) H12.out (.tmp 5) rfl rfl⟩) (by assumption) ?_
    simp only [Act.put, List.setIfInBounds_toArray, List.set_cons_zero, List.set_cons_succ]
    clear hHeld
    refine wpAnyH_ready (rs := [6, 10, 11]) (by kernel_rfl) (by simp) ?_
    refine cons_l rfl (fun K hK => ?_) (cons_l rfl (fun K hK => ?_) (cons_l rfl (fun K hK => ?_) AllReadyH.nil))
    · go_simp
      go_at_call 49
      refine (gh_sum_isg HD1.out (show KeyAt u0 g h from Blk.below HKA.out HB0.out (Blk.lt HKA.out)) Hh.out (Hx.out.keep HB0.out) (Hy.out.keep HB0.out) Hla.out Hlt.out Hac.out Htc.out).mono ?_
      rintro e u1 ⟨rfl, hb⟩
      have HB1 := Lib.hid (nu_trans HB0.out hb)
      clear hb HB0 
      go_wp2_with fail
      refine hK.out _ _ HB1.out (fun hHeld => ?_)
      clear hK K hHeld
      simp only [Act.put, List.setIfInBounds_toArray, List.set_cons_zero, List.set_cons_succ]
      refine wpAnyH_ready (rs := [9, 10, 11]) (by kernel_rfl) (by simp) ?_
      refine cons_l rfl (fun K hK => ?_) (cons_l rfl (fun K hK => ?_) (cons_l rfl (fun K hK => ?_) AllReadyH.nil))
      · go_simp
        go_at_call 48
        refine ((HCt.out u1 (HG.out.below HB1.out))).mono ?_
        rintro e u2 ⟨rfl, hb⟩
        have HB2 := Lib.hid (nu_trans HB1.out hb)
        clear hb HB1 
        go_wp2_with fail
        refine hK.out _ _ HB2.out (fun hHeld => ?_)
        clear hK K hHeld
        simp only [Act.put, List.setIfInBounds_toArray, List.set_cons_zero, List.set_cons_succ]
        refine wpAnyH_ready (rs := [10, 11]) (by kernel_rfl) (by simp) ?_
        refine cons_l rfl (fun K hK => ?_) (cons_l rfl (fun K hK => ?_) AllReadyH.nil)
        · have hal := nu_alloc (nu_refl u2) (.cells (z16n.map vb).toArray 44)
          have HA10_3 := Lib.hid (Blk.made u2 44 (z16n.map vb).toArray)
          have HB3 := Lib.hid (nu_trans HB2.out hal)
          have HL10 := Lib.hid (show w1.heap.size ≤ u2.heap.size from HB2.out.size)
          clear hal HB2 
          go_simp
          go_wp2_with fail
          change K _ (u2.alloc (.cells (z16n.map vb).toArray 44))
          generalize u2.alloc (.cells (z16n.map vb).toArray 44) = u3 at *
          obtain ⟨G10, hG⟩ : ∃ G, G = u2.heap.size := ⟨_, rfl⟩
          rw [← hG] at HA10_3 HL10
          rw [← hG]
          clear hG
          refine hK.out _ _ HB3.out (fun hHeld => ?_)
          clear hK K hHeld
          simp only [Act.put, List.setIfInBounds_toArray, List.set_cons_zero, List.set_cons_succ]
          refine wpAnyH_ready (rs := [11]) (by kernel_rfl) (by simp) ?_
          refine cons_l rfl (fun K hK => ?_) AllReadyH.nil
          have hal := nu_alloc (nu_refl u3) (.cells (z16n.map vb).toArray 44)
          have HA11_4 := Lib.hid (Blk.made u3 44 (z16n.map vb).toArray)
          have HB4 := Lib.hid (nu_trans HB3.out hal)
          have HL11 := Lib.hid (show w1.heap.size ≤ u3.heap.size from HB3.out.size)
          have HA10_4 := Lib.hid (Blk.below HA10_3.out hal (Blk.lt HA10_3.out))
          have HNe := Lib.hid (show G10 ≠ u3.heap.size from Nat.ne_of_lt (Blk.lt HA10_3.out))
          clear hal HB3 HA10_3
          go_simp
          go_wp2_with fail
          change K _ (u3.alloc (.cells (z16n.map vb).toArray 44))
          generalize u3.alloc (.cells (z16n.map vb).toArray 44) = u4 at *
          obtain ⟨G11, hG⟩ : ∃ G, G = u3.heap.size := ⟨_, rfl⟩
          rw [← hG] at HA11_4 HL11 HNe
          rw [← hG]
          clear hG
          refine hK.out _ _ HB4.out (fun hHeld => ?_)
          clear hK K hHeld
          simp only [Act.put, List.setIfInBounds_toArray, List.set_cons_zero, List.set_cons_succ]
          refine wpAnyH_ready (rs := [12]) (by kernel_rfl) (by simp) ?_
          refine cons_l rfl (fun K hK => ?_) AllReadyH.nil
          refine step_store_blk rfl 44 (.tmp 9) (.tmp 18) rfl G10 (D1.map vb) rfl rfl 44 (z16n.map vb).toArray HA10_4.out (by rw [List.length_map, HL1.out]; rfl) (by rw [List.length_map, HL1.out]; kernel_rfl) (vb_one _) ?_
          have HF := Lib.hid (Blk.fill HA10_4.out (D1.map vb) (by rw [List.length_map, HL1.out]; rfl))
          have HQ := Lib.hid (Blk.farCells HA11_4.out (D1.map vb) (Ne.symm HNe.out) 0)
          have HBf := Lib.hid (nu_fill (D1.map vb) (g := G10) HL10.out 0 _ HB4.out)
          clear HA10_4 HA11_4 HB4
          generalize u4.setCells G10 0 (D1.map vb) = x1 at *
          refine hK.out _ _ HBf.out (fun hHeld => ?_)
          clear hK K hHeld
          simp only [Act.put, List.setIfInBounds_toArray, List.set_cons_zero, List.set_cons_succ]
          refine wpAnyH_ready (rs := [13]) (by kernel_rfl) (by simp) ?_
          refine cons_l rfl (fun K hK => ?_) AllReadyH.nil
          refine step_store_blk rfl 44 (.tmp 10) (.tmp 21) rfl G11 (D2.map vb) rfl rfl 44 (z16n.map vb).toArray HQ.out (by rw [List.length_map, HL2.out]; rfl) (by rw [List.length_map, HL2.out]; kernel_rfl) (vb_one _) ?_
          have HF2 := Lib.hid (Blk.fill HQ.out (D2.map vb) (by rw [List.length_map, HL2.out]; rfl))
          have HF1 := Lib.hid (Blk.farCells HF.out (D2.map vb) HNe.out 0)
          have HBg := Lib.hid (nu_fill (D2.map vb) (g := G11) HL11.out 0 _ HBf.out)
          clear HF HQ HBf
          generalize x1.setCells G11 0 (D2.map vb) = x2 at *
          refine hK.out _ _ HBg.out (fun hHeld => ?_)
          clear hK K hHeld
          simp only [Act.put, List.setIfInBounds_toArray, List.set_cons_zero, List.set_cons_succ]
          refine wpAnyH_done (by kernel_rfl) ?_ _
          go_wp2_with fail
          go_meet
          exact ⟨G10, G11, rfl, rfl, HF1.out, HF2.out, HNe.out, HL10.out, HL11.out, HBg.out⟩
        · have hal := nu_alloc (nu_refl u2) (.cells (z16n.map vb).toArray 44)
          have HA11_3 := Lib.hid (Blk.made u2 44 (z16n.map vb).toArray)
          have HB3 := Lib.hid (nu_trans HB2.out hal)
          have HL11 := Lib.hid (show w1.heap.size ≤ u2.heap.size from HB2.out.size)
          clear hal HB2 
          go_simp
          go_wp2_with fail
          change K _ (u2.alloc (.cells (z16n.map vb).toArray 44))
          generalize u2.alloc (.cells (z16n.map vb).toArray 44) = u3 at *
          obtain ⟨G11, hG⟩ : ∃ G, G = u2.heap.size := ⟨_, rfl⟩
          rw [← hG] at HA11_3 HL11
          rw [← hG]
          clear hG
          refine hK.out _ _ HB3.out (fun hHeld => ?_)
          clear hK K hHeld
          simp only [Act.put, List.setIfInBounds_toArray, List.set_cons_zero, List.set_cons_succ]
          refine wpAnyH_ready (rs := [10]) (by kernel_rfl) (by simp) ?_
          refine cons_l rfl (fun K hK => ?_) AllReadyH.nil
          have hal := nu_alloc (nu_refl u3) (.cells (z16n.map vb).toArray 44)
          have HA10_4 := Lib.hid (Blk.made u3 44 (z16n.map vb).toArray)
          have HB4 := Lib.hid (nu_trans HB3.out hal)
          have HL10 := Lib.hid (show w1.heap.size ≤ u3.heap.size from HB3.out.size)
          have HA11_4 := Lib.hid (Blk.below HA11_3.out hal (Blk.lt HA11_3.out))
          have HNe := Lib.hid (show G11 ≠ u3.heap.size from Nat.ne_of_lt (Blk.lt HA11_3.out))
          clear hal HB3 HA11_3
          go_simp
          go_wp2_with fail
          change K _ (u3.alloc (.cells (z16n.map vb).toArray 44))
          generalize u3.alloc (.cells (z16n.map vb).toArray 44) = u4 at *
          obtain ⟨G10, hG⟩ : ∃ G, G = u3.heap.size := ⟨_, rfl⟩
          rw [← hG] at HA10_4 HL10 HNe
          rw [← hG]
          clear hG
          refine hK.out _ _ HB4.out (fun hHeld => ?_)
          clear hK K hHeld
          simp only [Act.put, List.setIfInBounds_toArray, List.set_cons_zero, List.set_cons_succ]
          refine wpAnyH_ready (rs := [12]) (by kernel_rfl) (by simp) ?_
          refine cons_l rfl (fun K hK => ?_) AllReadyH.nil
          refine step_store_blk rfl 44 (.tmp 9) (.tmp 18) rfl G10 (D1.map vb) rfl rfl 44 (z16n.map vb).toArray HA10_4.out (by rw [List.length_map, HL1.out]; rfl) (by rw [List.length_map, HL1.out]; kernel_rfl) (vb_one _) ?_
          have HF := Lib.hid (Blk.fill HA10_4.out (D1.map vb) (by rw [List.length_map, HL1.out]; rfl))
          have HQ := Lib.hid (Blk.farCells HA11_4.out (D1.map vb) HNe.out 0)
          have HBf := Lib.hid (nu_fill (D1.map vb) (g := G10) HL10.out 0 _ HB4.out)
          clear HA10_4 HA11_4 HB4
          generalize u4.setCells G10 0 (D1.map vb) = x1 at *
          refine hK.out _ _ HBf.out (fun hHeld => ?_)
          clear hK K hHeld
          simp only [Act.put, List.setIfInBounds_toArray, List.set_cons_zero, List.set_cons_succ]
          refine wpAnyH_ready (rs := [13]) (by kernel_rfl) (by simp) ?_
          refine cons_l rfl (fun K hK => ?_) AllReadyH.nil
          refine step_store_blk rfl 44 (.tmp 10) (.tmp 21) rfl G11 (D2.map vb) rfl rfl 44 (z16n.map vb).toArray HQ.out (by rw [List.length_map, HL2.out]; rfl) (by rw [List.length_map, HL2.out]; kernel_rfl) (vb_one _) ?_
          have HF2 := Lib.hid (Blk.fill HQ.out (D2.map vb) (by rw [List.length_map, HL2.out]; rfl))
          have HF1 := Lib.hid (Blk.farCells HF.out (D2.map vb) (Ne.symm HNe.out) 0)
          have HBg := Lib.hid (nu_fill (D2.map vb) (g := G11) HL11.out 0 _ HBf.out)
          clear HF HQ HBf
          generalize x1.setCells G11 0 (D2.map vb) = x2 at *
          refine hK.out _ _ HBg.out (fun hHeld => ?_)
          clear hK K hHeld
          simp only [Act.put, List.setIfInBounds_toArray, List.set_cons_zero, List.set_cons_succ]
          refine wpAnyH_done (by kernel_rfl) ?_ _
          go_wp2_with fail
          go_meet
          exact ⟨G10, G11, rfl, rfl, HF1.out, HF2.out, (Ne.symm HNe.out), HL10.out, HL11.out, HBg.out⟩
      · have hal := nu_alloc (nu_refl u1) (.cells (z16n.map vb).toArray 44)
        have HA10_2 := Lib.hid (Blk.made u1 44 (z16n.map vb).toArray)
        have HB2 := Lib.hid (nu_trans HB1.out hal)
        have HL10 := Lib.hid (show w1.heap.size ≤ u1.heap.size from HB1.out.size)
        clear hal HB1 
        go_simp
        go_wp2_with fail
        change K _ (u1.alloc (.cells (z16n.map vb).toArray 44))
        generalize u1.alloc (.cells (z16n.map vb).toArray 44) = u2 at *
        obtain ⟨G10, hG⟩ : ∃ G, G = u1.heap.size := ⟨_, rfl⟩
        rw [← hG] at HA10_2 HL10
        rw [← hG]
        clear hG
        refine hK.out _ _ HB2.out (fun hHeld => ?_)
        clear hK K hHeld
        simp only [Act.put, List.setIfInBounds_toArray, List.set_cons_zero, List.set_cons_succ]
        refine wpAnyH_ready (rs := [9, 11]) (by kernel_rfl) (by simp) ?_
        refine cons_l rfl (fun K hK => ?_) (cons_l rfl (fun K hK => ?_) AllReadyH.nil)
        · go_simp
          go_at_call 48
          refine ((HCt.out u2 (HG.out.below HB2.out))).mono ?_
          rintro e u3 ⟨rfl, hb⟩
          have HB3 := Lib.hid (nu_trans HB2.out hb)
          have HA10_3 := Lib.hid (Blk.below HA10_2.out hb (Blk.lt HA10_2.out))
          clear hb HB2 HA10_2
          go_wp2_with fail
          refine hK.out _ _ HB3.out (fun hHeld => ?_)
          clear hK K hHeld
          simp only [Act.put, List.setIfInBounds_toArray, List.set_cons_zero, List.set_cons_succ]
          refine wpAnyH_ready (rs := [11]) (by kernel_rfl) (by simp) ?_
          refine cons_l rfl (fun K hK => ?_) AllReadyH.nil
          have hal := nu_alloc (nu_refl u3) (.cells (z16n.map vb).toArray 44)
          have HA11_4 := Lib.hid (Blk.made u3 44 (z16n.map vb).toArray)
          have HB4 := Lib.hid (nu_trans HB3.out hal)
          have HL11 := Lib.hid (show w1.heap.size ≤ u3.heap.size from HB3.out.size)
          have HA10_4 := Lib.hid (Blk.below HA10_3.out hal (Blk.lt HA10_3.out))
          have HNe := Lib.hid (show G10 ≠ u3.heap.size from Nat.ne_of_lt (Blk.lt HA10_3.out))
          clear hal HB3 HA10_3
          go_simp
          go_wp2_with fail
          change K _ (u3.alloc (.cells (z16n.map vb).toArray 44))
          generalize u3.alloc (.cells (z16n.map vb).toArray 44) = u4 at *
          obtain ⟨G11, hG⟩ : ∃ G, G = u3.heap.size := ⟨_, rfl⟩
          rw [← hG] at HA11_4 HL11 HNe
          rw [← hG]
          clear hG
          refine hK.out _ _ HB4.out (fun hHeld => ?_)
          clear hK K hHeld
          simp only [Act.put, List.setIfInBounds_toArray, List.set_cons_zero, List.set_cons_succ]
          refine wpAnyH_ready (rs := [12]) (by kernel_rfl) (by simp) ?_
          refine cons_l rfl (fun K hK => ?_) AllReadyH.nil
          refine step_store_blk rfl 44 (.tmp 9) (.tmp 18) rfl G10 (D1.map vb) rfl rfl 44 (z16n.map vb).toArray HA10_4.out (by rw [List.length_map, HL1.out]; rfl) (by rw [List.length_map, HL1.out]; kernel_rfl) (vb_one _) ?_
          have HF := Lib.hid (Blk.fill HA10_4.out (D1.map vb) (by rw [List.length_map, HL1.out]; rfl))
          have HQ := Lib.hid (Blk.farCells HA11_4.out (D1.map vb) (Ne.symm HNe.out) 0)
          have HBf := Lib.hid (nu_fill (D1.map vb) (g := G10) HL10.out 0 _ HB4.out)
          clear HA10_4 HA11_4 HB4
          generalize u4.setCells G10 0 (D1.map vb) = x1 at *
          refine hK.out _ _ HBf.out (fun hHeld => ?_)
          clear hK K hHeld
          simp only [Act.put, List.setIfInBounds_toArray, List.set_cons_zero, List.set_cons_succ]
          refine wpAnyH_ready (rs := [13]) (by kernel_rfl) (by simp) ?_
          refine cons_l rfl (fun K hK => ?_) AllReadyH.nil
          refine step_store_blk rfl 44 (.tmp 10) (.tmp 21) rfl G11 (D2.map vb) rfl rfl 44 (z16n.map vb).toArray HQ.out (by rw [List.length_map, HL2.out]; rfl) (by rw [List.length_map, HL2.out]; kernel_rfl) (vb_one _) ?_
          have HF2 := Lib.hid (Blk.fill HQ.out (D2.map vb) (by rw [List.length_map, HL2.out]; rfl))
          have HF1 := Lib.hid (Blk.farCells HF.out (D2.map vb) HNe.out 0)
          have HBg := Lib.hid (nu_fill (D2.map vb) (g := G11) HL11.out 0 _ HBf.out)
          clear HF HQ HBf
          generalize x1.setCells G11 0 (D2.map vb) = x2 at *
          refine hK.out _ _ HBg.out (fun hHeld => ?_)
          clear hK K hHeld
          simp only [Act.put, List.setIfInBounds_toArray, List.set_cons_zero, List.set_cons_succ]
          refine wpAnyH_done (by kernel_rfl) ?_ _
          go_wp2_with fail
          go_meet
          exact ⟨G10, G11, rfl, rfl, HF1.out, HF2.out, HNe.out, HL10.out, HL11.out, HBg.out⟩
        · have hal := nu_alloc (nu_refl u2) (.cells (z16n.map vb).toArray 44)
          have HA11_3 := Lib.hid (Blk.made u2 44 (z16n.map vb).toArray)
          have HB3 := Lib.hid (nu_trans HB2.out hal)
          have HL11 := Lib.hid (show w1.heap.size ≤ u2.heap.size from HB2.out.size)
          have HA10_3 := Lib.hid (Blk.below HA10_2.out hal (Blk.lt HA10_2.out))
          have HNe := Lib.hid (show G10 ≠ u2.heap.size from Nat.ne_of_lt (Blk.lt HA10_2.out))
          clear hal HB2 HA10_2
          go_simp
          go_wp2_with fail
          change K _ (u2.alloc (.cells (z16n.map vb).toArray 44))
          generalize u2.alloc (.cells (z16n.map vb).toArray 44) = u3 at *
          obtain ⟨G11, hG⟩ : ∃ G, G = u2.heap.size := ⟨_, rfl⟩
          rw [← hG] at HA11_3 HL11 HNe
          rw [← hG]
          clear hG
          refine hK.out _ _ HB3.out (fun hHeld => ?_)
          clear hK K hHeld
          simp only [Act.put, List.setIfInBounds_toArray, List.set_cons_zero, List.set_cons_succ]
          refine wpAnyH_ready (rs := [9]) (by kernel_rfl) (by simp) ?_
          refine cons_l rfl (fun K hK => ?_) AllReadyH.nil
          go_simp
          go_at_call 48
          refine ((HCt.out u3 (HG.out.below HB3.out))).mono ?_
          rintro e u4 ⟨rfl, hb⟩
          have HB4 := Lib.hid (nu_trans HB3.out hb)
          have HA10_4 := Lib.hid (Blk.below HA10_3.out hb (Blk.lt HA10_3.out))
          have HA11_4 := Lib.hid (Blk.below HA11_3.out hb (Blk.lt HA11_3.out))
          clear hb HB3 HA10_3 HA11_3
          go_wp2_with fail
          refine hK.out _ _ HB4.out (fun hHeld => ?_)
          clear hK K hHeld
          simp only [Act.put, List.setIfInBounds_toArray, List.set_cons_zero, List.set_cons_succ]
          refine wpAnyH_ready (rs := [12]) (by kernel_rfl) (by simp) ?_
          refine cons_l rfl (fun K hK => ?_) AllReadyH.nil
          refine step_store_blk rfl 44 (.tmp 9) (.tmp 18) rfl G10 (D1.map vb) rfl rfl 44 (z16n.map vb).toArray HA10_4.out (by rw [List.length_map, HL1.out]; rfl) (by rw [List.length_map, HL1.out]; kernel_rfl) (vb_one _) ?_
          have HF := Lib.hid (Blk.fill HA10_4.out (D1.map vb) (by rw [List.length_map, HL1.out]; rfl))
          have HQ := Lib.hid (Blk.farCells HA11_4.out (D1.map vb) (Ne.symm HNe.out) 0)
          have HBf := Lib.hid (nu_fill (D1.map vb) (g := G10) HL10.out 0 _ HB4.out)
          clear HA10_4 HA11_4 HB4
          generalize u4.setCells G10 0 (D1.map vb) = x1 at *
          refine hK.out _ _ HBf.out (fun hHeld => ?_)
          clear hK K hHeld
          simp only [Act.put, List.setIfInBounds_toArray, List.set_cons_zero, List.set_cons_succ]
          refine wpAnyH_ready (rs := [13]) (by kernel_rfl) (by simp) ?_
          refine cons_l rfl (fun K hK => ?_) AllReadyH.nil
          refine step_store_blk rfl 44 (.tmp 10) (.tmp 21) rfl G11 (D2.map vb) rfl rfl 44 (z16n.map vb).toArray HQ.out (by rw [List.length_map, HL2.out]; rfl) (by rw [List.length_map, HL2.out]; kernel_rfl) (vb_one _) ?_
          have HF2 := Lib.hid (Blk.fill HQ.out (D2.map vb) (by rw [List.length_map, HL2.out]; rfl))
          have HF1 := Lib.hid (Blk.farCells HF.out (D2.map vb) HNe.out 0)
          have HBg := Lib.hid (nu_fill (D2.map vb) (g := G11) HL11.out 0 _ HBf.out)
          clear HF HQ HBf
          generalize x1.setCells G11 0 (D2.map vb) = x2 at *
          refine hK.out _ _ HBg.out (fun hHeld => ?_)
          clear hK K hHeld
          simp only [Act.put, List.setIfInBounds_toArray, List.set_cons_zero, List.set_cons_succ]
          refine wpAnyH_done (by kernel_rfl) ?_ _
          go_wp2_with fail
          go_meet
          exact ⟨G10, G11, rfl, rfl, HF1.out, HF2.out, HNe.out, HL10.out, HL11.out, HBg.out⟩
      · have hal := nu_alloc (nu_refl u1) (.cells (z16n.map vb).toArray 44)
        have HA11_2 := Lib.hid (Blk.made u1 44 (z16n.map vb).toArray)
        have HB2 := Lib.hid (nu_trans HB1.out hal)
        have HL11 := Lib.hid (show w1.heap.size ≤ u1.heap.size from HB1.out.size)
        clear hal HB1 
        go_simp
        go_wp2_with fail
        change K _ (u1.alloc (.cells (z16n.map vb).toArray 44))
        generalize u1.alloc (.cells (z16n.map vb).toArray 44) = u2 at *
        obtain ⟨G11, hG⟩ : ∃ G, G = u1.heap.size := ⟨_, rfl⟩
        rw [← hG] at HA11_2 HL11
        rw [← hG]
        clear hG
        refine hK.out _ _ HB2.out (fun hHeld => ?_)
        clear hK K hHeld
        simp only [Act.put, List.setIfInBounds_toArray, List.set_cons_zero, List.set_cons_succ]
        refine wpAnyH_ready (rs := [9, 10]) (by kernel_rfl) (by simp) ?_
        refine cons_l rfl (fun K hK => ?_) (cons_l rfl (fun K hK => ?_) AllReadyH.nil)
        · go_simp
          go_at_call 48
          refine ((HCt.out u2 (HG.out.below HB2.out))).mono ?_
          rintro e u3 ⟨rfl, hb⟩
          have HB3 := Lib.hid (nu_trans HB2.out hb)
          have HA11_3 := Lib.hid (Blk.below HA11_2.out hb (Blk.lt HA11_2.out))
          clear hb HB2 HA11_2
          go_wp2_with fail
          refine hK.out _ _ HB3.out (fun hHeld => ?_)
          clear hK K hHeld
          simp only [Act.put, List.setIfInBounds_toArray, List.set_cons_zero, List.set_cons_succ]
          refine wpAnyH_ready (rs := [10]) (by kernel_rfl) (by simp) ?_
          refine cons_l rfl (fun K hK => ?_) AllReadyH.nil
          have hal := nu_alloc (nu_refl u3) (.cells (z16n.map vb).toArray 44)
          have HA10_4 := Lib.hid (Blk.made u3 44 (z16n.map vb).toArray)
          have HB4 := Lib.hid (nu_trans HB3.out hal)
          have HL10 := Lib.hid (show w1.heap.size ≤ u3.heap.size from HB3.out.size)
          have HA11_4 := Lib.hid (Blk.below HA11_3.out hal (Blk.lt HA11_3.out))
          have HNe := Lib.hid (show G11 ≠ u3.heap.size from Nat.ne_of_lt (Blk.lt HA11_3.out))
          clear hal HB3 HA11_3
          go_simp
          go_wp2_with fail
          change K _ (u3.alloc (.cells (z16n.map vb).toArray 44))
          generalize u3.alloc (.cells (z16n.map vb).toArray 44) = u4 at *
          obtain ⟨G10, hG⟩ : ∃ G, G = u3.heap.size := ⟨_, rfl⟩
          rw [← hG] at HA10_4 HL10 HNe
          rw [← hG]
          clear hG
          refine hK.out _ _ HB4.out (fun hHeld => ?_)
          clear hK K hHeld
          simp only [Act.put, List.setIfInBounds_toArray, List.set_cons_zero, List.set_cons_succ]
          refine wpAnyH_ready (rs := [12]) (by kernel_rfl) (by simp) ?_
          refine cons_l rfl (fun K hK => ?_) AllReadyH.nil
          refine step_store_blk rfl 44 (.tmp 9) (.tmp 18) rfl G10 (D1.map vb) rfl rfl 44 (z16n.map vb).toArray HA10_4.out (by rw [List.length_map, HL1.out]; rfl) (by rw [List.length_map, HL1.out]; kernel_rfl) (vb_one _) ?_
          have HF := Lib.hid (Blk.fill HA10_4.out (D1.map vb) (by rw [List.length_map, HL1.out]; rfl))
          have HQ := Lib.hid (Blk.farCells HA11_4.out (D1.map vb) HNe.out 0)
          have HBf := Lib.hid (nu_fill (D1.map vb) (g := G10) HL10.out 0 _ HB4.out)
          clear HA10_4 HA11_4 HB4
          generalize u4.setCells G10 0 (D1.map vb) = x1 at *
          refine hK.out _ _ HBf.out (fun hHeld => ?_)
          clear hK K hHeld
          simp only [Act.put, List.setIfInBounds_toArray, List.set_cons_zero, List.set_cons_succ]
          refine wpAnyH_ready (rs := [13]) (by kernel_rfl) (by simp) ?_
          refine cons_l rfl (fun K hK => ?_) AllReadyH.nil
          refine step_store_blk rfl 44 (.tmp 10) (.tmp 21) rfl G11 (D2.map vb) rfl rfl 44 (z16n.map vb).toArray HQ.out (by rw [List.length_map, HL2.out]; rfl) (by rw [List.length_map, HL2.out]; kernel_rfl) (vb_one _) ?_
          have HF2 := Lib.hid (Blk.fill HQ.out (D2.map vb) (by rw [List.length_map, HL2.out]; rfl))
          have HF1 := Lib.hid (Blk.farCells HF.out (D2.map vb) (Ne.symm HNe.out) 0)
          have HBg := Lib.hid (nu_fill (D2.map vb) (g := G11) HL11.out 0 _ HBf.out)
          clear HF HQ HBf
          generalize x1.setCells G11 0 (D2.map vb) = x2 at *
          refine hK.out _ _ HBg.out (fun hHeld => ?_)
          clear hK K hHeld
          simp only [Act.put, List.setIfInBounds_toArray, List.set_cons_zero, List.set_cons_succ]
          refine wpAnyH_done (by kernel_rfl) ?_ _
          go_wp2_with fail
          go_meet
          exact ⟨G10, G11, rfl, rfl, HF1.out, HF2.out, (Ne.symm HNe.out), HL10.out, HL11.out, HBg.out⟩
        · have hal := nu_alloc (nu_refl u2) (.cells (z16n.map vb).toArray 44)
          have HA10_3 := Lib.hid (Blk.made u2 44 (z16n.map vb).toArray)
          have HB3 := Lib.hid (nu_trans HB2.out hal)
          have HL10 := Lib.hid (show w1.heap.size ≤ u2.heap.size from HB2.out.size)
          have HA11_3 := Lib.hid (Blk.below HA11_2.out hal (Blk.lt HA11_2.out))
          have HNe := Lib.hid (show G11 ≠ u2.heap.size from Nat.ne_of_lt (Blk.lt HA11_2.out))
          clear hal HB2 HA11_2
          go_simp
          go_wp2_with fail
          change K _ (u2.alloc (.cells (z16n.map vb).toArray 44))
          generalize u2.alloc (.cells (z16n.map vb).toArray 44) = u3 at *
          obtain ⟨G10, hG⟩ : ∃ G, G = u2.heap.size := ⟨_, rfl⟩
          rw [← hG] at HA10_3 HL10 HNe
          rw [← hG]
          clear hG
          refine hK.out _ _ HB3.out (fun hHeld => ?_)
          clear hK K hHeld
          simp only [Act.put, List.setIfInBounds_toArray, List.set_cons_zero, List.set_cons_succ]
          refine wpAnyH_ready (rs := [9]) (by kernel_rfl) (by simp) ?_
          refine cons_l rfl (fun K hK => ?_) AllReadyH.nil
          go_simp
          go_at_call 48
          refine ((HCt.out u3 (HG.out.below HB3.out))).mono ?_
          rintro e u4 ⟨rfl, hb⟩
          have HB4 := Lib.hid (nu_trans HB3.out hb)
          have HA10_4 := Lib.hid (Blk.below HA10_3.out hb (Blk.lt HA10_3.out))
          have HA11_4 := Lib.hid (Blk.below HA11_3.out hb (Blk.lt HA11_3.out))
          clear hb HB3 HA10_3 HA11_3
          go_wp2_with fail
          refine hK.out _ _ HB4.out (fun hHeld => ?_)
          clear hK K hHeld
          simp only [Act.put, List.setIfInBounds_toArray, List.set_cons_zero, List.set_cons_succ]
          refine wpAnyH_ready (rs := [12]) (by kernel_rfl) (by simp) ?_
          refine cons_l rfl (fun K hK => ?_) AllReadyH.nil
          refine step_store_blk rfl 44 (.tmp 9) (.tmp 18) rfl G10 (D1.map vb) rfl rfl 44 (z16n.map vb).toArray HA10_4.out (by rw [List.length_map, HL1.out]; rfl) (by rw [List.length_map, HL1.out]; kernel_rfl) (vb_one _) ?_
          have HF := Lib.hid (Blk.fill HA10_4.out (D1.map vb) (by rw [List.length_map, HL1.out]; rfl))
          have HQ := Lib.hid (Blk.farCells HA11_4.out (D1.map vb) HNe.out 0)
          have HBf := Lib.hid (nu_fill (D1.map vb) (g := G10) HL10.out 0 _ HB4.out)
          clear HA10_4 HA11_4 HB4
          generalize u4.setCells G10 0 (D1.map vb) = x1 at *
          refine hK.out _ _ HBf.out (fun hHeld => ?_)
          clear hK K hHeld
          simp only [Act.put, List.setIfInBounds_toArray, List.set_cons_zero, List.set_cons_succ]
          refine wpAnyH_ready (rs := [13]) (by kernel_rfl) (by simp) ?_
          refine cons_l rfl (fun K hK => ?_) AllReadyH.nil
          refine step_store_blk rfl 44 (.tmp 10) (.tmp 21) rfl G11 (D2.map vb) rfl rfl 44 (z16n.map vb).toArray HQ.out (by rw [List.length_map, HL2.out]; rfl) (by rw [List.length_map, HL2.out]; kernel_rfl) (vb_one _) ?_
          have HF2 := Lib.hid (Blk.fill HQ.out (D2.map vb) (by rw [List.length_map, HL2.out]; rfl))
          have HF1 := Lib.hid (Blk.farCells HF.out (D2.map vb) (Ne.symm HNe.out) 0)
          have HBg := Lib.hid (nu_fill (D2.map vb) (g := G11) HL11.out 0 _ HBf.out)
          clear HF HQ HBf
          generalize x1.setCells G11 0 (D2.map vb) = x2 at *
          refine hK.out _ _ HBg.out (fun hHeld => ?_)
          clear hK K hHeld
          simp only [Act.put, List.setIfInBounds_toArray, List.set_cons_zero, List.set_cons_succ]
          refine wpAnyH_done (by kernel_rfl) ?_ _
          go_wp2_with fail
          go_meet
          exact ⟨G10, G11, rfl, rfl, HF1.out, HF2.out, (Ne.symm HNe.out), HL10.out, HL11.out, HBg.out⟩
    · have hal := nu_alloc (nu_refl u0) (.cells (z16n.map vb).toArray 44)
      have HA10_1 := Lib.hid (Blk.made u0 44 (z16n.map vb).toArray)
      have HB1 := Lib.hid (nu_trans HB0.out hal)
      have HL10 := Lib.hid (show w1.heap.size ≤ u0.heap.size from HB0.out.size)
      clear hal HB0 
      go_simp
      go_wp2_with fail
      change K _ (u0.alloc (.cells (z16n.map vb).toArray 44))
      generalize u0.alloc (.cells (z16n.map vb).toArray 44) = u1 at *
      obtain ⟨G10, hG⟩ : ∃ G, G = u0.heap.size := ⟨_, rfl⟩
      rw [← hG] at HA10_1 HL10
      rw [← hG]
      clear hG
      refine hK.out _ _ HB1.out (fun hHeld => ?_)
      clear hK K hHeld
      simp only [Act.put, List.setIfInBounds_toArray, List.set_cons_zero, List.set_cons_succ]
      refine wpAnyH_ready (rs := [6, 11]) (by kernel_rfl) (by simp) ?_
      refine cons_l rfl (fun K hK => ?_) (cons_l rfl (fun K hK => ?_) AllReadyH.nil)
      · go_simp
        go_at_call 49
        refine (gh_sum_isg HD1.out (show KeyAt u1 g h from Blk.below HKA.out HB1.out (Blk.lt HKA.out)) Hh.out (Hx.out.keep HB1.out) (Hy.out.keep HB1.out) Hla.out Hlt.out Hac.out Htc.out).mono ?_
        rintro e u2 ⟨rfl, hb⟩
        have HB2 := Lib.hid (nu_trans HB1.out hb)
        have HA10_2 := Lib.hid (Blk.below HA10_1.out hb (Blk.lt HA10_1.out))
        clear hb HB1 HA10_1
        go_wp2_with fail
        refine hK.out _ _ HB2.out (fun hHeld => ?_)
        clear hK K hHeld
        simp only [Act.put, List.setIfInBounds_toArray, List.set_cons_zero, List.set_cons_succ]
        refine wpAnyH_ready (rs := [9, 11]) (by kernel_rfl) (by simp) ?_
        refine cons_l rfl (fun K hK => ?_) (cons_l rfl (fun K hK => ?_) AllReadyH.nil)
        · go_simp
          go_at_call 48
          refine ((HCt.out u2 (HG.out.below HB2.out))).mono ?_
          rintro e u3 ⟨rfl, hb⟩
          have HB3 := Lib.hid (nu_trans HB2.out hb)
          have HA10_3 := Lib.hid (Blk.below HA10_2.out hb (Blk.lt HA10_2.out))
          clear hb HB2 HA10_2
          go_wp2_with fail
          refine hK.out _ _ HB3.out (fun hHeld => ?_)
          clear hK K hHeld
          simp only [Act.put, List.setIfInBounds_toArray, List.set_cons_zero, List.set_cons_succ]
          refine wpAnyH_ready (rs := [11]) (by kernel_rfl) (by simp) ?_
          refine cons_l rfl (fun K hK => ?_) AllReadyH.nil
          have hal := nu_alloc (nu_refl u3) (.cells (z16n.map vb).toArray 44)
          have HA11_4 := Lib.hid (Blk.made u3 44 (z16n.map vb).toArray)
          have HB4 := Lib.hid (nu_trans HB3.out hal)
          have HL11 := Lib.hid (show w1.heap.size ≤ u3.heap.size from HB3.out.size)
          have HA10_4 := Lib.hid (Blk.below HA10_3.out hal (Blk.lt HA10_3.out))
          have HNe := Lib.hid (show G10 ≠ u3.heap.size from Nat.ne_of_lt (Blk.lt HA10_3.out))
          clear hal HB3 HA10_3
          go_simp
          go_wp2_with fail
          change K _ (u3.alloc (.cells (z16n.map vb).toArray 44))
          generalize u3.alloc (.cells (z16n.map vb).toArray 44) = u4 at *
          obtain ⟨G11, hG⟩ : ∃ G, G = u3.heap.size := ⟨_, rfl⟩
          rw [← hG] at HA11_4 HL11 HNe
          rw [← hG]
          clear hG
          refine hK.out _ _ HB4.out (fun hHeld => ?_)
          clear hK K hHeld
          simp only [Act.put, List.setIfInBounds_toArray, List.set_cons_zero, List.set_cons_succ]
          refine wpAnyH_ready (rs := [12]) (by kernel_rfl) (by simp) ?_
          refine cons_l rfl (fun K hK => ?_) AllReadyH.nil
          refine step_store_blk rfl 44 (.tmp 9) (.tmp 18) rfl G10 (D1.map vb) rfl rfl 44 (z16n.map vb).toArray HA10_4.out (by rw [List.length_map, HL1.out]; rfl) (by rw [List.length_map, HL1.out]; kernel_rfl) (vb_one _) ?_
          have HF := Lib.hid (Blk.fill HA10_4.out (D1.map vb) (by rw [List.length_map, HL1.out]; rfl))
          have HQ := Lib.hid (Blk.farCells HA11_4.out (D1.map vb) (Ne.symm HNe.out) 0)
          have HBf := Lib.hid (nu_fill (D1.map vb) (g := G10) HL10.out 0 _ HB4.out)
          clear HA10_4 HA11_4 HB4
          generalize u4.setCells G10 0 (D1.map vb) = x1 at *
          refine hK.out _ _ HBf.out (fun hHeld => ?_)
          clear hK K hHeld
          simp only [Act.put, List.setIfInBounds_toArray, List.set_cons_zero, List.set_cons_succ]
          refine wpAnyH_ready (rs := [13]) (by kernel_rfl) (by simp) ?_
          refine cons_l rfl (fun K hK => ?_) AllReadyH.nil
          refine step_store_blk rfl 44 (.tmp 10) (.tmp 21) rfl G11 (D2.map vb) rfl rfl 44 (z16n.map vb).toArray HQ.out (by rw [List.length_map, HL2.out]; rfl) (by rw [List.length_map, HL2.out]; kernel_rfl) (vb_one _) ?_
          have HF2 := Lib.hid (Blk.fill HQ.out (D2.map vb) (by rw [List.length_map, HL2.out]; rfl))
          have HF1 := Lib.hid (Blk.farCells HF.out (D2.map vb) HNe.out 0)
          have HBg := Lib.hid (nu_fill (D2.map vb) (g := G11) HL11.out 0 _ HBf.out)
          clear HF HQ HBf
          generalize x1.setCells G11 0 (D2.map vb) = x2 at *
          refine hK.out _ _ HBg.out (fun hHeld => ?_)
          clear hK K hHeld
          simp only [Act.put, List.setIfInBounds_toArray, List.set_cons_zero, List.set_cons_succ]
          refine wpAnyH_done (by kernel_rfl) ?_ _
          go_wp2_with fail
          go_meet
          exact ⟨G10, G11, rfl, rfl, HF1.out, HF2.out, HNe.out, HL10.out, HL11.out, HBg.out⟩
        · have hal := nu_alloc (nu_refl u2) (.cells (z16n.map vb).toArray 44)
          have HA11_3 := Lib.hid (Blk.made u2 44 (z16n.map vb).toArray)
          have HB3 := Lib.hid (nu_trans HB2.out hal)
          have HL11 := Lib.hid (show w1.heap.size ≤ u2.heap.size from HB2.out.size)
          have HA10_3 := Lib.hid (Blk.below HA10_2.out hal (Blk.lt HA10_2.out))
          have HNe := Lib.hid (show G10 ≠ u2.heap.size from Nat.ne_of_lt (Blk.lt HA10_2.out))
          clear hal HB2 HA10_2
          go_simp
          go_wp2_with fail
          change K _ (u2.alloc (.cells (z16n.map vb).toArray 44))
          generalize u2.alloc (.cells (z16n.map vb).toArray 44) = u3 at *
          obtain ⟨G11, hG⟩ : ∃ G, G = u2.heap.size := ⟨_, rfl⟩
          rw [← hG] at HA11_3 HL11 HNe
          rw [← hG]
          clear hG
          refine hK.out _ _ HB3.out (fun hHeld => ?_)
          clear hK K hHeld
          simp only [Act.put, List.setIfInBounds_toArray, List.set_cons_zero, List.set_cons_succ]
          refine wpAnyH_ready (rs := [9]) (by kernel_rfl) (by simp) ?_
          refine cons_l rfl (fun K hK => ?_) AllReadyH.nil
          go_simp
          go_at_call 48
          refine ((HCt.out u3 (HG.out.below HB3.out))).mono ?_
          rintro e u4 ⟨rfl, hb⟩
          have HB4 := Lib.hid (nu_trans HB3.out hb)
          have HA10_4 := Lib.hid (Blk.below HA10_3.out hb (Blk.lt HA10_3.out))
          have HA11_4 := Lib.hid (Blk.below HA11_3.out hb (Blk.lt HA11_3.out))
          clear hb HB3 HA10_3 HA11_3
          go_wp2_with fail
          refine hK.out _ _ HB4.out (fun hHeld => ?_)
          clear hK K hHeld
          simp only [Act.put, List.setIfInBounds_toArray, List.set_cons_zero, List.set_cons_succ]
          refine wpAnyH_ready (rs := [12]) (by kernel_rfl) (by simp) ?_
          refine cons_l rfl (fun K hK => ?_) AllReadyH.nil
          refine step_store_blk rfl 44 (.tmp 9) (.tmp 18) rfl G10 (D1.map vb) rfl rfl 44 (z16n.map vb).toArray HA10_4.out (by rw [List.length_map, HL1.out]; rfl) (by rw [List.length_map, HL1.out]; kernel_rfl) (vb_one _) ?_
          have HF := Lib.hid (Blk.fill HA10_4.out (D1.map vb) (by rw [List.length_map, HL1.out]; rfl))
          have HQ := Lib.hid (Blk.farCells HA11_4.out (D1.map vb) (Ne.symm HNe.out) 0)
          have HBf := Lib.hid (nu_fill (D1.map vb) (g := G10) HL10.out 0 _ HB4.out)
          clear HA10_4 HA11_4 HB4
          generalize u4.setCells G10 0 (D1.map vb) = x1 at *
          refine hK.out _ _ HBf.out (fun hHeld => ?_)
          clear hK K hHeld
          simp only [Act.put, List.setIfInBounds_toArray, List.set_cons_zero, List.set_cons_succ]
          refine wpAnyH_ready (rs := [13]) (by kernel_rfl) (by simp) ?_
          refine cons_l rfl (fun K hK => ?_) AllReadyH.nil
          refine step_store_blk rfl 44 (.tmp 10) (.tmp 21) rfl G11 (D2.map vb) rfl rfl 44 (z16n.map vb).toArray HQ.out (by rw [List.length_map, HL2.out]; rfl) (by rw [List.length_map, HL2.out]; kernel_rfl) (vb_one _) ?_
          have HF2 := Lib.hid (Blk.fill HQ.out (D2.map vb) (by rw [List.length_map, HL2.out]; rfl))
          have HF1 := Lib.hid (Blk.farCells HF.out (D2.map vb) HNe.out 0)
          have HBg := Lib.hid (nu_fill (D2.map vb) (g := G11) HL11.out 0 _ HBf.out)
          clear HF HQ HBf
          generalize x1.setCells G11 0 (D2.map vb) = x2 at *
          refine hK.out _ _ HBg.out (fun hHeld => ?_)
          clear hK K hHeld
          simp only [Act.put, List.setIfInBounds_toArray, List.set_cons_zero, List.set_cons_succ]
          refine wpAnyH_done (by kernel_rfl) ?_ _
          go_wp2_with fail
          go_meet
          exact ⟨G10, G11, rfl, rfl, HF1.out, HF2.out, HNe.out, HL10.out, HL11.out, HBg.out⟩
      · have hal := nu_alloc (nu_refl u1) (.cells (z16n.map vb).toArray 44)
        have HA11_2 := Lib.hid (Blk.made u1 44 (z16n.map vb).toArray)
        have HB2 := Lib.hid (nu_trans HB1.out hal)
        have HL11 := Lib.hid (show w1.heap.size ≤ u1.heap.size from HB1.out.size)
        have HA10_2 := Lib.hid (Blk.below HA10_1.out hal (Blk.lt HA10_1.out))
        have HNe := Lib.hid (show G10 ≠ u1.heap.size from Nat.ne_of_lt (Blk.lt HA10_1.out))
        clear hal HB1 HA10_1
        go_simp
        go_wp2_with fail
        change K _ (u1.alloc (.cells (z16n.map vb).toArray 44))
        generalize u1.alloc (.cells (z16n.map vb).toArray 44) = u2 at *
        obtain ⟨G11, hG⟩ : ∃ G, G = u1.heap.size := ⟨_, rfl⟩
        rw [← hG] at HA11_2 HL11 HNe
        rw [← hG]
        clear hG
        refine hK.out _ _ HB2.out (fun hHeld => ?_)
        clear hK K hHeld
        simp only [Act.put, List.setIfInBounds_toArray, List.set_cons_zero, List.set_cons_succ]
        refine wpAnyH_ready (rs := [6]) (by kernel_rfl) (by simp) ?_
        refine cons_l rfl (fun K hK => ?_) AllReadyH.nil
        go_simp
        go_at_call 49
        refine (gh_sum_isg HD1.out (show KeyAt u2 g h from Blk.below HKA.out HB2.out (Blk.lt HKA.out)) Hh.out (Hx.out.keep HB2.out) (Hy.out.keep HB2.out) Hla.out Hlt.out Hac.out Htc.out).mono ?_
        rintro e u3 ⟨rfl, hb⟩
        have HB3 := Lib.hid (nu_trans HB2.out hb)
        have HA10_3 := Lib.hid (Blk.below HA10_2.out hb (Blk.lt HA10_2.out))
        have HA11_3 := Lib.hid (Blk.below HA11_2.out hb (Blk.lt HA11_2.out))
        clear hb HB2 HA10_2 HA11_2
        go_wp2_with fail
        refine hK.out _ _ HB3.out (fun hHeld => ?_)
        clear hK K hHeld
        simp only [Act.put, List.setIfInBounds_toArray, List.set_cons_zero, List.set_cons_succ]
        refine wpAnyH_ready (rs := [9]) (by kernel_rfl) (by simp) ?_
        refine cons_l rfl (fun K hK => ?_) AllReadyH.nil
        go_simp
        go_at_call 48
        refine ((HCt.out u3 (HG.out.below HB3.out))).mono ?_
        rintro e u4 ⟨rfl, hb⟩
        have HB4 := Lib.hid (nu_trans HB3.out hb)
        have HA10_4 := Lib.hid (Blk.below HA10_3.out hb (Blk.lt HA10_3.out))
        have HA11_4 := Lib.hid (Blk.below HA11_3.out hb (Blk.lt HA11_3.out))
        clear hb HB3 HA10_3 HA11_3
        go_wp2_with fail
        refine hK.out _ _ HB4.out (fun hHeld => ?_)
        clear hK K hHeld
        simp only [Act.put, List.setIfInBounds_toArray, List.set_cons_zero, List.set_cons_succ]
        refine wpAnyH_ready (rs := [12]) (by kernel_rfl) (by simp) ?_
        refine cons_l rfl (fun K hK => ?_) AllReadyH.nil
        refine step_store_blk rfl 44 (.tmp 9) (.tmp 18) rfl G10 (D1.map vb) rfl rfl 44 (z16n.map vb).toArray HA10_4.out (by rw [List.length_map, HL1.out]; rfl) (by rw [List.length_map, HL1.out]; kernel_rfl) (vb_one _) ?_
        have HF := Lib.hid (Blk.fill HA10_4.out (D1.map vb) (by rw [List.length_map, HL1.out]; rfl))
        have HQ := Lib.hid (Blk.farCells HA11_4.out (D1.map vb) (Ne.symm HNe.out) 0)
        have HBf := Lib.hid (nu_fill (D1.map vb) (g := G10) HL10.out 0 _ HB4.out)
        clear HA10_4 HA11_4 HB4
        generalize u4.setCells G10 0 (D1.map vb) = x1 at *
        refine hK.out _ _ HBf.out (fun hHeld => ?_)
        clear hK K hHeld
        simp only [Act.put, List.setIfInBounds_toArray, List.set_cons_zero, List.set_cons_succ]
        refine wpAnyH_ready (rs := [13]) (by kernel_rfl) (by simp) ?_
        refine cons_l rfl (fun K hK => ?_) AllReadyH.nil
        refine step_store_blk rfl 44 (.tmp 10) (.tmp 21) rfl G11 (D2.map vb) rfl rfl 44 (z16n.map vb).toArray HQ.out (by rw [List.length_map, HL2.out]; rfl) (by rw [List.length_map, HL2.out]; kernel_rfl) (vb_one _) ?_
        have HF2 := Lib.hid (Blk.fill HQ.out (D2.map vb) (by rw [List.length_map, HL2.out]; rfl))
        have HF1 := Lib.hid (Blk.farCells HF.out (D2.map vb) HNe.out 0)
        have HBg := Lib.hid (nu_fill (D2.map vb) (g := G11) HL11.out 0 _ HBf.out)
        clear HF HQ HBf
        generalize x1.setCells G11 0 (D2.map vb) = x2 at *
        refine hK.out _ _ HBg.out (fun hHeld => ?_)
        clear hK K hHeld
        simp only [Act.put, List.setIfInBounds_toArray, List.set_cons_zero, List.set_cons_succ]
        refine wpAnyH_done (by kernel_rfl) ?_ _
        go_wp2_with fail
        go_meet
        exact ⟨G10, G11, rfl, rfl, HF1.out, HF2.out, HNe.out, HL10.out, HL11.out, HBg.out⟩
    · have hal := nu_alloc (nu_refl u0) (.cells (z16n.map vb).toArray 44)
      have HA11_1 := Lib.hid (Blk.made u0 44 (z16n.map vb).toArray)
      have HB1 := Lib.hid (nu_trans HB0.out hal)
      have HL11 := Lib.hid (show w1.heap.size ≤ u0.heap.size from HB0.out.size)
      clear hal HB0 
      go_simp
      go_wp2_with fail
      change K _ (u0.alloc (.cells (z16n.map vb).toArray 44))
      generalize u0.alloc (.cells (z16n.map vb).toArray 44) = u1 at *
      obtain ⟨G11, hG⟩ : ∃ G, G = u0.heap.size := ⟨_, rfl⟩
      rw [← hG] at HA11_1 HL11
      rw [← hG]
      clear hG
      refine hK.out _ _ HB1.out (fun hHeld => ?_)
      clear hK K hHeld
      simp only [Act.put, List.setIfInBounds_toArray, List.set_cons_zero, List.set_cons_succ]
      refine wpAnyH_ready (rs := [6, 10]) (by kernel_rfl) (by simp) ?_
      refine cons_l rfl (fun K hK => ?_) (cons_l rfl (fun K hK => ?_) AllReadyH.nil)
      · go_simp
        go_at_call 49
        refine (gh_sum_isg HD1.out (show KeyAt u1 g h from Blk.below HKA.out HB1.out (Blk.lt HKA.out)) Hh.out (Hx.out.keep HB1.out) (Hy.out.keep HB1.out) Hla.out Hlt.out Hac.out Htc.out).mono ?_
        rintro e u2 ⟨rfl, hb⟩
        have HB2 := Lib.hid (nu_trans HB1.out hb)
        have HA11_2 := Lib.hid (Blk.below HA11_1.out hb (Blk.lt HA11_1.out))
        clear hb HB1 HA11_1
        go_wp2_with fail
        refine hK.out _ _ HB2.out (fun hHeld => ?_)
        clear hK K hHeld
        simp only [Act.put, List.setIfInBounds_toArray, List.set_cons_zero, List.set_cons_succ]
        refine wpAnyH_ready (rs := [9, 10]) (by kernel_rfl) (by simp) ?_
        refine cons_l rfl (fun K hK => ?_) (cons_l rfl (fun K hK => ?_) AllReadyH.nil)
        · go_simp
          go_at_call 48
          refine ((HCt.out u2 (HG.out.below HB2.out))).mono ?_
          rintro e u3 ⟨rfl, hb⟩
          have HB3 := Lib.hid (nu_trans HB2.out hb)
          have HA11_3 := Lib.hid (Blk.below HA11_2.out hb (Blk.lt HA11_2.out))
          clear hb HB2 HA11_2
          go_wp2_with fail
          refine hK.out _ _ HB3.out (fun hHeld => ?_)
          clear hK K hHeld
          simp only [Act.put, List.setIfInBounds_toArray, List.set_cons_zero, List.set_cons_succ]
          refine wpAnyH_ready (rs := [10]) (by kernel_rfl) (by simp) ?_
          refine cons_l rfl (fun K hK => ?_) AllReadyH.nil
          have hal := nu_alloc (nu_refl u3) (.cells (z16n.map vb).toArray 44)
          have HA10_4 := Lib.hid (Blk.made u3 44 (z16n.map vb).toArray)
          have HB4 := Lib.hid (nu_trans HB3.out hal)
          have HL10 := Lib.hid (show w1.heap.size ≤ u3.heap.size from HB3.out.size)
          have HA11_4 := Lib.hid (Blk.below HA11_3.out hal (Blk.lt HA11_3.out))
          have HNe := Lib.hid (show G11 ≠ u3.heap.size from Nat.ne_of_lt (Blk.lt HA11_3.out))
          clear hal HB3 HA11_3
          go_simp
          go_wp2_with fail
          change K _ (u3.alloc (.cells (z16n.map vb).toArray 44))
          generalize u3.alloc (.cells (z16n.map vb).toArray 44) = u4 at *
          obtain ⟨G10, hG⟩ : ∃ G, G = u3.heap.size := ⟨_, rfl⟩
          rw [← hG] at HA10_4 HL10 HNe
          rw [← hG]
          clear hG
          refine hK.out _ _ HB4.out (fun hHeld => ?_)
          clear hK K hHeld
          simp only [Act.put, List.setIfInBounds_toArray, List.set_cons_zero, List.set_cons_succ]
          refine wpAnyH_ready (rs := [12]) (by kernel_rfl) (by simp) ?_
          refine cons_l rfl (fun K hK => ?_) AllReadyH.nil
          refine step_store_blk rfl 44 (.tmp 9) (.tmp 18) rfl G10 (D1.map vb) rfl rfl 44 (z16n.map vb).toArray HA10_4.out (by rw [List.length_map, HL1.out]; rfl) (by rw [List.length_map, HL1.out]; kernel_rfl) (vb_one _) ?_
          have HF := Lib.hid (Blk.fill HA10_4.out (D1.map vb) (by rw [List.length_map, HL1.out]; rfl))
          have HQ := Lib.hid (Blk.farCells HA11_4.out (D1.map vb) HNe.out 0)
          have HBf := Lib.hid (nu_fill (D1.map vb) (g := G10) HL10.out 0 _ HB4.out)
          clear HA10_4 HA11_4 HB4
          generalize u4.setCells G10 0 (D1.map vb) = x1 at *
          refine hK.out _ _ HBf.out (fun hHeld => ?_)
          clear hK K hHeld
          simp only [Act.put, List.setIfInBounds_toArray, List.set_cons_zero, List.set_cons_succ]
          refine wpAnyH_ready (rs := [13]) (by kernel_rfl) (by simp) ?_
          refine cons_l rfl (fun K hK => ?_) AllReadyH.nil
          refine step_store_blk rfl 44 (.tmp 10) (.tmp 21) rfl G11 (D2.map vb) rfl rfl 44 (z16n.map vb).toArray HQ.out (by rw [List.length_map, HL2.out]; rfl) (by rw [List.length_map, HL2.out]; kernel_rfl) (vb_one _) ?_
          have HF2 := Lib.hid (Blk.fill HQ.out (D2.map vb) (by rw [List.length_map, HL2.out]; rfl))
          have HF1 := Lib.hid (Blk.farCells HF.out (D2.map vb) (Ne.symm HNe.out) 0)
          have HBg := Lib.hid (nu_fill (D2.map vb) (g := G11) HL11.out 0 _ HBf.out)
          clear HF HQ HBf
          generalize x1.setCells G11 0 (D2.map vb) = x2 at *
          refine hK.out _ _ HBg.out (fun hHeld => ?_)
          clear hK K hHeld
          simp only [Act.put, List.setIfInBounds_toArray, List.set_cons_zero, List.set_cons_succ]
          refine wpAnyH_done (by kernel_rfl) ?_ _
          go_wp2_with fail
          go_meet
          exact ⟨G10, G11, rfl, rfl, HF1.out, HF2.out, (Ne.symm HNe.out), HL10.out, HL11.out, HBg.out⟩
        · have hal := nu_alloc (nu_refl u2) (.cells (z16n.map vb).toArray 44)
          have HA10_3 := Lib.hid (Blk.made u2 44 (z16n.map vb).toArray)
          have HB3 := Lib.hid (nu_trans HB2.out hal)
          have HL10 := Lib.hid (show w1.heap.size ≤ u2.heap.size from HB2.out.size)
          have HA11_3 := Lib.hid (Blk.below HA11_2.out hal (Blk.lt HA11_2.out))
          have HNe := Lib.hid (show G11 ≠ u2.heap.size from Nat.ne_of_lt (Blk.lt HA11_2.out))
          clear hal HB2 HA11_2
          go_simp
          go_wp2_with fail
          change K _ (u2.alloc (.cells (z16n.map vb).toArray 44))
          generalize u2.alloc (.cells (z16n.map vb).toArray 44) = u3 at *
          obtain ⟨G10, hG⟩ : ∃ G, G = u2.heap.size := ⟨_, rfl⟩
          rw [← hG] at HA10_3 HL10 HNe
          rw [← hG]
          clear hG
          refine hK.out _ _ HB3.out (fun hHeld => ?_)
          clear hK K hHeld
          simp only [Act.put, List.setIfInBounds_toArray, List.set_cons_zero, List.set_cons_succ]
          refine wpAnyH_ready (rs := [9]) (by kernel_rfl) (by simp) ?_
          refine cons_l rfl (fun K hK => ?_) AllReadyH.nil
          go_simp
          go_at_call 48
          refine ((HCt.out u3 (HG.out.below HB3.out))).mono ?_
          rintro e u4 ⟨rfl, hb⟩
          have HB4 := Lib.hid (nu_trans HB3.out hb)
          have HA10_4 := Lib.hid (Blk.below HA10_3.out hb (Blk.lt HA10_3.out))
          have HA11_4 := Lib.hid (Blk.below HA11_3.out hb (Blk.lt HA11_3.out))
          clear hb HB3 HA10_3 HA11_3
          go_wp2_with fail
          refine hK.out _ _ HB4.out (fun hHeld => ?_)
          clear hK K hHeld
          simp only [Act.put, List.setIfInBounds_toArray, List.set_cons_zero, List.set_cons_succ]
          refine wpAnyH_ready (rs := [12]) (by kernel_rfl) (by simp) ?_
          refine cons_l rfl (fun K hK => ?_) AllReadyH.nil
          refine step_store_blk rfl 44 (.tmp 9) (.tmp 18) rfl G10 (D1.map vb) rfl rfl 44 (z16n.map vb).toArray HA10_4.out (by rw [List.length_map, HL1.out]; rfl) (by rw [List.length_map, HL1.out]; kernel_rfl) (vb_one _) ?_
          have HF := Lib.hid (Blk.fill HA10_4.out (D1.map vb) (by rw [List.length_map, HL1.out]; rfl))
          have HQ := Lib.hid (Blk.farCells HA11_4.out (D1.map vb) HNe.out 0)
          have HBf := Lib.hid (nu_fill (D1.map vb) (g := G10) HL10.out 0 _ HB4.out)
          clear HA10_4 HA11_4 HB4
          generalize u4.setCells G10 0 (D1.map vb) = x1 at *
          refine hK.out _ _ HBf.out (fun hHeld => ?_)
          clear hK K hHeld
          simp only [Act.put, List.setIfInBounds_toArray, List.set_cons_zero, List.set_cons_succ]
          refine wpAnyH_ready (rs := [13]) (by kernel_rfl) (by simp) ?_
          refine cons_l rfl (fun K hK => ?_) AllReadyH.nil
          refine step_store_blk rfl 44 (.tmp 10) (.tmp 21) rfl G11 (D2.map vb) rfl rfl 44 (z16n.map vb).toArray HQ.out (by rw [List.length_map, HL2.out]; rfl) (by rw [List.length_map, HL2.out]; kernel_rfl) (vb_one _) ?_
          have HF2 := Lib.hid (Blk.fill HQ.out (D2.map vb) (by rw [List.length_map, HL2.out]; rfl))
          have HF1 := Lib.hid (Blk.farCells HF.out (D2.map vb) (Ne.symm HNe.out) 0)
          have HBg := Lib.hid (nu_fill (D2.map vb) (g := G11) HL11.out 0 _ HBf.out)
          clear HF HQ HBf
          generalize x1.setCells G11 0 (D2.map vb) = x2 at *
          refine hK.out _ _ HBg.out (fun hHeld => ?_)
          clear hK K hHeld
          simp only [Act.put, List.setIfInBounds_toArray, List.set_cons_zero, List.set_cons_succ]
          refine wpAnyH_done (by kernel_rfl) ?_ _
          go_wp2_with fail
          go_meet
          exact ⟨G10, G11, rfl, rfl, HF1.out, HF2.out, (Ne.symm HNe.out), HL10.out, HL11.out, HBg.out⟩
      · have hal := nu_alloc (nu_refl u1) (.cells (z16n.map vb).toArray 44)
        have HA10_2 := Lib.hid (Blk.made u1 44 (z16n.map vb).toArray)
        have HB2 := Lib.hid (nu_trans HB1.out hal)
        have HL10 := Lib.hid (show w1.heap.size ≤ u1.heap.size from HB1.out.size)
        have HA11_2 := Lib.hid (Blk.below HA11_1.out hal (Blk.lt HA11_1.out))
        have HNe := Lib.hid (show G11 ≠ u1.heap.size from Nat.ne_of_lt (Blk.lt HA11_1.out))
        clear hal HB1 HA11_1
        go_simp
        go_wp2_with fail
        change K _ (u1.alloc (.cells (z16n.map vb).toArray 44))
        generalize u1.alloc (.cells (z16n.map vb).toArray 44) = u2 at *
        obtain ⟨G10, hG⟩ : ∃ G, G = u1.heap.size := ⟨_, rfl⟩
        rw [← hG] at HA10_2 HL10 HNe
        rw [← hG]
        clear hG
        refine hK.out _ _ HB2.out (fun hHeld => ?_)
        clear hK K hHeld
        simp only [Act.put, List.setIfInBounds_toArray, List.set_cons_zero, List.set_cons_succ]
        refine wpAnyH_ready (rs := [6]) (by kernel_rfl) (by simp) ?_
        refine cons_l rfl (fun K hK => ?_) AllReadyH.nil
        go_simp
        go_at_call 49
        refine (gh_sum_isg HD1.out (show KeyAt u2 g h from Blk.below HKA.out HB2.out (Blk.lt HKA.out)) Hh.out (Hx.out.keep HB2.out) (Hy.out.keep HB2.out) Hla.out Hlt.out Hac.out Htc.out).mono ?_
        rintro e u3 ⟨rfl, hb⟩
        have HB3 := Lib.hid (nu_trans HB2.out hb)
        have HA10_3 := Lib.hid (Blk.below HA10_2.out hb (Blk.lt HA10_2.out))
        have HA11_3 := Lib.hid (Blk.below HA11_2.out hb (Blk.lt HA11_2.out))
        clear hb HB2 HA10_2 HA11_2
        go_wp2_with fail
        refine hK.out _ _ HB3.out (fun hHeld => ?_)
        clear hK K hHeld
        simp only [Act.put, List.setIfInBounds_toArray, List.set_cons_zero, List.set_cons_succ]
        refine wpAnyH_ready (rs := [9]) (by kernel_rfl) (by simp) ?_
        refine cons_l rfl (fun K hK => ?_) AllReadyH.nil
        go_simp
        go_at_call 48
        refine ((HCt.out u3 (HG.out.below HB3.out))).mono ?_
        rintro e u4 ⟨rfl, hb⟩
        have HB4 := Lib.hid (nu_trans HB3.out hb)
        have HA10_4 := Lib.hid (Blk.below HA10_3.out hb (Blk.lt HA10_3.out))
        have HA11_4 := Lib.hid (Blk.below HA11_3.out hb (Blk.lt HA11_3.out))
        clear hb HB3 HA10_3 HA11_3
        go_wp2_with fail
        refine hK.out _ _ HB4.out (fun hHeld => ?_)
        clear hK K hHeld
        simp only [Act.put, List.setIfInBounds_toArray, List.set_cons_zero, List.set_cons_succ]
        refine wpAnyH_ready (rs := [12]) (by kernel_rfl) (by simp) ?_
        refine cons_l rfl (fun K hK => ?_) AllReadyH.nil
        refine step_store_blk rfl 44 (.tmp 9) (.tmp 18) rfl G10 (D1.map vb) rfl rfl 44 (z16n.map vb).toArray HA10_4.out (by rw [List.length_map, HL1.out]; rfl) (by rw [List.length_map, HL1.out]; kernel_rfl) (vb_one _) ?_
        have HF := Lib.hid (Blk.fill HA10_4.out (D1.map vb) (by rw [List.length_map, HL1.out]; rfl))
        have HQ := Lib.hid (Blk.farCells HA11_4.out (D1.map vb) HNe.out 0)
        have HBf := Lib.hid (nu_fill (D1.map vb) (g := G10) HL10.out 0 _ HB4.out)
        clear HA10_4 HA11_4 HB4
        generalize u4.setCells G10 0 (D1.map vb) = x1 at *
        refine hK.out _ _ HBf.out (fun hHeld => ?_)
        clear hK K hHeld
        simp only [Act.put, List.setIfInBounds_toArray, List.set_cons_zero, List.set_cons_succ]
        refine wpAnyH_ready (rs := [13]) (by kernel_rfl) (by simp) ?_
        refine cons_l rfl (fun K hK => ?_) AllReadyH.nil
        refine step_store_blk rfl 44 (.tmp 10) (.tmp 21) rfl G11 (D2.map vb) rfl rfl 44 (z16n.map vb).toArray HQ.out (by rw [List.length_map, HL2.out]; rfl) (by rw [List.length_map, HL2.out]; kernel_rfl) (vb_one _) ?_
        have HF2 := Lib.hid (Blk.fill HQ.out (D2.map vb) (by rw [List.length_map, HL2.out]; rfl))
        have HF1 := Lib.hid (Blk.farCells HF.out (D2.map vb) (Ne.symm HNe.out) 0)
        have HBg := Lib.hid (nu_fill (D2.map vb) (g := G11) HL11.out 0 _ HBf.out)
        clear HF HQ HBf
        generalize x1.setCells G11 0 (D2.map vb) = x2 at *
        refine hK.out _ _ HBg.out (fun hHeld => ?_)
        clear hK K hHeld
        simp only [Act.put, List.setIfInBounds_toArray, List.set_cons_zero, List.set_cons_succ]
        refine wpAnyH_done (by kernel_rfl) ?_ _
        go_wp2_with fail
        go_meet
        exact ⟨G10, G11, rfl, rfl, HF1.out, HF2.out, (Ne.symm HNe.out), HL10.out, HL11.out, HBg.out⟩
  case rest =>
    obtain ⟨A, B, rfl, rfl, hA, hB, hAB, hlA, hlB, hb⟩ := hcut
    have HAw := Lib.hid (show w.heap.size ≤ A ∧ A ≠ B from ⟨Nat.le_trans HPw.out hlA, hAB⟩)
    have hn := nu_trans Hal.out hb
    have HA := Lib.hid (show Blk wc A 44 ((doneF Tg D1 0).map vb).toArray by rw [doneF_zero]; exact hA)
    have HB := Lib.hid hB
    clear hA hB hAB hlA hlB hb HP HG HX HXl HKA HK Hh Hx Hy Hla Hlt Hac Htc HD1 HCt Hal HPw
    go_wp2_with fail
    go_loopw [22] (fun i wr => ∃ k : Nat, k ≤ 16 ∧ i = .int .i64 k ∧ Blk wr A 44 ((doneF Tg D1 k).map vb).toArray ∧ Blk wr B 44 (D2.map vb).toArray ∧ Below w.heap.size w wr) (fun i _ => 16 - (intOf i).toNat)
    case atStart => exact ⟨0, by omega, rfl, HA.out, HB.out, hn⟩
    case round =>
      clear HA HB hn
      obtain ⟨i, hi16, rfl, hA, hB, hn⟩ := hrel
      by_cases hilt : i < 16
      · have hii : (i : Int) < 16 := by omega
        obtain ⟨x, hx⟩ : ∃ x, D1[i]? = some x := ⟨_, List.getElem?_eq_getElem (by rw [HL1.out]; exact hilt)⟩
        obtain ⟨y, hy⟩ : ∃ y, D2[i]? = some y := ⟨_, List.getElem?_eq_getElem (by rw [HL2.out]; exact hilt)⟩
        have hx8 := HS1.out x (List.mem_of_getElem? hx)
        have hy8 := HS2.out y (List.mem_of_getElem? hy)
        obtain ⟨z, hz⟩ : ∃ z, z = x ^^^ y := ⟨_, rfl⟩
        have hxx := u8_xor_nat x y hx8 hy8
        rw [← hz] at hxx
        have hT : Tg[i]? = some z := by rw [HTe.out, hz]; exact xorL_at hx hy
        have hold : (doneF Tg D1 i)[i]? = some x := by rw [doneF_old _ _ 16 i i HTl.out (Nat.le_refl _) hi16, hx]
        have cA : wr.cell? ⟨A, i, none⟩ = some (.int .u8 (x : Int)) := hA.at i _ (arrg_at vb _ i x hold)
        have cB : wr.cell? ⟨B, i, none⟩ = some (.int .u8 (y : Int)) := hB.at i _ (arrg_at vb _ i y hy)
        have hset := hA.drew.put i (vb z)
        rw [arrg_set, doneF_set _ _ 16 i z HTl.out HL1.out hilt hT] at hset
        have HA1 := Lib.hid hset
        have HB1 := Lib.hid (hB.drew.far (p := ⟨A, i, none⟩) (Ne.symm HAw.out.2) (vb z))
        have hn1 := nu_set hn.drew (p := ⟨A, i, none⟩) HAw.out.1 (vb z)
        have cA2 : wr.drew.cell? ⟨A, i, none⟩ = some (.int .u8 (x : Int)) := hA.drew.at i _ (arrg_at vb _ i x hold)
        have fA2 := hA.drew.free i
        simp only [vb] at HA1 HB1 hn1
        have HD := Lib.hid (And.intro cA2 fA2)
        clear hx hy hx8 hy8 hz hT hold hset cA2 fA2 hA hB hn
        go_upto_region 5 with fail
        go_still_tail 8, (by kernel_rfl)
        change wpList _ _ _ _ _ wr.drew
        clear cA cB hxx
        obtain ⟨cA2, fA2⟩ := HD.out
        clear HD
        generalize wr.drew = w6 at *
        go_wp2_with fail
        clear cA2 fA2
        generalize w6.setCell ⟨A, i, none⟩ (.int .u8 (z : Int)) = w7 at *
        go_roundw
        case rel => first | exact ⟨i + 1, by omega, by go_num, HA1.out, HB1.out, hn1⟩ | ((repeat apply Exists.intro); exact ⟨⟨i + 1, by omega, by go_num, HA1.out, HB1.out, hn1⟩, rfl⟩)
        case measure => simp [intOf]; omega
      · obtain rfl : i = 16 := by omega
        rw [doneF_all _ _ 16 HTl.out HL1.out] at hA
        have HA := Lib.hid hA
        have Hn := Lib.hid hn
        clear hA hB hn
        go_wp2_with fail
        go_ret
        exact ⟨A, rfl, HAw.out.1, HA.out, Hn.out⟩
end Go.Proofs.Ytpeibkdcglkimaa

namespace Go.Proofs.Ytpeibkdcglkimaa
open Go.ChangeShapes Go.WideShapes Go.ChangeAt Go.RowKit

theorem or_none (p x y : Nat) (xs ys : List Nat) (k : Nat) (hx : xs[k]? = some x) (hy : ys[k]? = some y) (h : p = 0 ↔ xs.take k = ys.take k) :
    p ||| (x ^^^ y) = 0 ↔ xs.take (k + 1) = ys.take (k + 1) := by
  have e : p ||| (x ^^^ y) = 0 ↔ p = 0 ∧ x = y := by
    constructor
    · intro h0
      have h1 : p = 0 := Nat.eq_zero_of_le_zero (h0 ▸ Nat.left_le_or)
      have h2 : x ^^^ y = 0 := Nat.eq_zero_of_le_zero (h0 ▸ Nat.right_le_or)
      refine ⟨h1, ?_⟩
      have h3 : (x ^^^ y) ^^^ y = 0 ^^^ y := by rw [h2]
      rw [Nat.xor_assoc, Nat.xor_self, Nat.xor_zero, Nat.zero_xor] at h3
      exact h3
    · rintro ⟨rfl, rfl⟩
      simp
  rw [e, h, List.take_add_one, List.take_add_one, hx, hy]
  constructor
  · rintro ⟨h1, rfl⟩
    rw [h1]
  · intro h1
    have h2 := List.append_inj' h1 rfl
    exact ⟨h2.1, by simpa using h2.2⟩

set_option maxRecDepth 100000 in
set_option maxHeartbeats 1000000 in
theorem macSame_len (a b : Option Addr) (la ca cb : Nat) (xs ys : List Nat) (w : World) (ha : IntsIn w .u8 a la xs) (hb : IntsIn w .u8 b la ys) (hla : la ≤ 9223372036854775807) :
    Calls Try.prog 32 #[.slice a la ca, .slice b la cb] w fun e w' => e = .returned (.bool (decide (xs = ys))) ∧ ∃ n, w' = w.drewN n := by
  go_enter Try.func32, Try.ntmps32
  go_wp2_with fail
  go_loopw [5, 14] (fun p i wr => ∃ k P : Nat, k ≤ la ∧ i = .int .i64 k ∧ p = .int .u8 P ∧ P < 256 ∧ (P = 0 ↔ xs.take k = ys.take k) ∧ ∃ n, wr = w.drewN n) (fun _ i _ => la - (intOf i).toNat)
  case atStart => exact ⟨0, 0, by omega, rfl, rfl, by omega, by simp, 0, rfl⟩
  case round =>
    obtain ⟨k, P, hk, rfl, rfl, hP, ht, n, rfl⟩ := hrel
    have Ht := Lib.hid ht
    clear ht
    by_cases hlt : k < la
    · obtain ⟨b1, o1, x, rfl, hb1, hx, hwx, hcx⟩ := ha.elem k hlt
      obtain ⟨b2, o2, y, rfl, hb2, hy, hwy, hcy⟩ := hb.elem k hlt
      have hx8 := wf_u8_lt hwx
      have hy8 := wf_u8_lt hwy
      have Hn := Lib.hid (or_none P x y xs ys k hx hy Ht.out)
      have Hl := Lib.hid (Nat.or_lt_two_pow (n := 8) hP (Nat.xor_lt_two_pow (n := 8) hx8 hy8))
      have e1 := u8_xor_nat x y hx8 hy8
      have e2 := u8_or_nat P (x ^^^ y) hP (Nat.xor_lt_two_pow (n := 8) hx8 hy8)
      clear hx hy hwx hwy Ht
      have hi : (k : Int) < (la : Int) := by omega
      generalize P ||| (x ^^^ y) = q at *
      generalize x ^^^ y = z at *
      go_wp2_with fail
      go_quiet (fail)
      go_wp2_with fail
      go_roundw
      case rel => exact ⟨k + 1, q, by omega, by go_num, rfl, Hl.out, Hn.out, _, rfl⟩
      case measure => simp [intOf]; omega
    · obtain rfl : k = la := by omega
      have He : P = 0 ↔ xs = ys := by
        have h := Ht.out
        rw [List.take_of_length_le (by rw [ha.1]; exact Nat.le_refl _), List.take_of_length_le (by rw [hb.1]; exact Nat.le_refl _)] at h
        exact h
      by_cases hP0 : P = 0
      · have He2 := Lib.hid (He.1 hP0)
        subst hP0
        clear He Ht
        go_wp2_with fail
        go_ret
        exact ⟨by rw [decide_eq_true He2.out]; rfl, _, rfl⟩
      · have He2 := Lib.hid (fun e => hP0 (He.2 e))
        have t : ((P : Int) == 0) = false := by rw [beq_eq_false_iff_ne]; omega
        clear He Ht hP0
        go_wp2_with fail
        go_ret
        exact ⟨by rw [decide_eq_false He2.out]; rfl, _, rfl⟩

theorem macSame_any (a b : Option Addr) (la lb ca cb : Nat) (xs ys : List Nat) (w : World) (ha : IntsIn w .u8 a la xs) (hb : IntsIn w .u8 b lb ys) (hla : la ≤ 9223372036854775807) (hlb : lb ≤ 9223372036854775807) :
    Calls Try.prog 32 #[.slice a la ca, .slice b lb cb] w fun e w' => e = .returned (.bool (decide (xs = ys))) ∧ ∃ n, w' = w.drewN n := by
  by_cases hl : la = lb
  · subst hl
    exact macSame_len a b la ca cb xs ys w ha hb hla
  · have Hne := Lib.hid (show xs ≠ ys from fun e => hl (by rw [← ha.1, ← hb.1, e]))
    have t : ((la : Int) != (lb : Int)) = true := by rw [bne_iff_ne]; omega
    clear hl
    go_enter Try.func32, Try.ntmps32
    go_wp2_with fail
    go_ret
    exact ⟨by rw [decide_eq_false Hne.out]; rfl, 0, rfl⟩
theorem macSame_is {a b : Option Addr} {la lb ca cb : Nat} {xs ys : List Nat} {w : World} (v : Bool) (hv : decide (xs = ys) = v) (ha : IntsIn w .u8 a la xs) (hb : IntsIn w .u8 b lb ys) (hla : la ≤ 9223372036854775807) (hlb : lb ≤ 9223372036854775807) :
    Calls Try.prog 32 #[.slice a la ca, .slice b lb cb] w fun e w' => e = .returned (.bool v) ∧ ∃ n, w' = w.drewN n := by
  rw [← hv]
  exact macSame_any a b la lb ca cb xs ys w ha hb hla hlb
end Go.Proofs.Ytpeibkdcglkimaa

namespace Go.Proofs.Ytpeibkdcglkimaa
open Go.ChangeShapes Go.WideShapes Go.ChangeAt Go.RowKit Fld Aes Gcm
set_option linter.unusedSimpArgs false

set_option maxRecDepth 100000 in
theorem seal_nil (n : Value) (a t : Option Addr) (la ca lt ct : Nat) (w : World) (cs : Array Value) (hn : n = .agg cs) :
    Calls Try.prog 14 #[.pointer none, n, .slice a la ca, .slice t lt ct] w fun e w' => e = .returned (.slice none 0 0) ∧ Below w.heap.size w w' := by
  subst hn
  have hal := nu_alloc (nu_refl w) (.cells cs 23)
  go_enter Try.func14, Try.ntmps14
  go_wp2_with fail
  go_ret
  exact ⟨rfl, hal⟩
set_option maxRecDepth 100000 in
theorem open_nil (n : Value) (a t : Option Addr) (la ca lt ct : Nat) (w : World) (cs : Array Value) (hn : n = .agg cs) :
    Calls Try.prog 18 #[.pointer none, n, .slice a la ca, .slice t lt ct] w fun e w' => e = .returned (.tuple #[.slice none 0 0, .int .i64 5]) ∧ Below w.heap.size w w' := by
  subst hn
  have hal := nu_alloc (nu_refl w) (.cells cs 23)
  go_enter Try.func18, Try.ntmps18
  go_wp2_with fail
  go_ret2
  exact ⟨rfl, hal⟩
set_option maxRecDepth 100000 in
theorem open_short (X : Nat) (n : Value) (a t : Option Addr) (la ca lt ct : Nat) (w : World) (cs : Array Value) (hn : n = .agg cs) (hl : lt < 16) :
    Calls Try.prog 18 #[.pointer (some ⟨X, 0, none⟩), n, .slice a la ca, .slice t lt ct] w fun e w' => e = .returned (.tuple #[.slice none 0 0, .int .i64 2]) ∧ Below w.heap.size w w' := by
  subst hn
  have hal := nu_alloc (nu_refl w) (.cells cs 23)
  have h1 : (lt : Int) - 16 < 0 := by omega
  go_enter Try.func18, Try.ntmps18
  go_wp2_with fail
  go_ret2
  exact ⟨rfl, hal⟩
set_option maxRecDepth 100000 in
set_option maxHeartbeats 4000000 in
theorem seal_any {w : World} {X R h : Nat} {Ws : List Nat} (hG : GBox w X Ws R h) (hK : Keyed Ws R) (hh : h < 2 ^ 128) (nonce : List Nat) (h12 : nonce.length = 12) (hx12 : ∀ x ∈ nonce, x < 256) (a : Option Addr) (la ca : Nat) (xs : List Nat) (hx : BytesIn w a la ca xs) (hla : la ≤ 140737488355320) (hac : la ≤ ca ∧ ca ≤ maxLen) (t : Option Addr) (lt ct : Nat) (ys : List Nat) (hy : BytesIn w t lt ct ys) (hlt : lt ≤ 2000) :
    Calls Try.prog 14 #[.pointer (some ⟨X, 0, none⟩), .agg (nonce.map vb).toArray, .slice a la ca, .slice t lt ct] w fun e w' => ∃ v, e = .returned v ∧ OwnB w' w.heap.size 5 v (sealL Ws R nonce h xs ys) ∧ Below w.heap.size w w' := by
  obtain ⟨i0, hi, hz0, hz1, hz2⟩ := info_parts info_u8
  have Hi := Lib.hid (And.intro hi (And.intro hz0 (And.intro hz1 hz2)))
  have hal := nu_alloc (nu_refl w) (.cells (nonce.map vb).toArray 23)
  have HP := Lib.hid (Blk.made w 23 (nonce.map vb).toArray)
  have HG := Lib.hid (hG.below hal)
  have HK := Lib.hid hK
  have Hh := Lib.hid hh
  have H12 := Lib.hid h12
  have Hx12 := Lib.hid hx12
  have Hx := Lib.hid (hx.keep hal)
  have Hy := Lib.hid (hy.keep hal)
  have Hla := Lib.hid hla
  have Hac := Lib.hid hac
  have Hlt := Lib.hid hlt
  have Hyl := Lib.hid (show ys.length = lt from hy.1.1)
  have Hal := Lib.hid hal
  clear hi hz0 hz1 hz2 hG hK hh h12 hx12 hx hy hla hac hlt hal
  go_enter Try.func14, Try.ntmps14
  go_upto_region 1 with fail
  generalize w.alloc (.cells (nonce.map vb).toArray 23) = w1 at *
  obtain ⟨P, hP⟩ : ∃ P, P = w.heap.size := ⟨_, rfl⟩
  rw [← hP] at HP
  rw [← hP]
  clear hP
  go_wp2_with (refine wpList_run _ (by rfl) (e12_load HP.out H12.out (.tmp 5) rfl rfl) ?_)
  refine (turned_any HG.out HK.out nonce H12.out Hx12.out t lt ct ys Hy.out Hlt.out).mono ?_
  rintro e w2 ⟨v, rfl, hO, hb2⟩
  have HP2 := Lib.hid (HP.out.below hb2 HP.out.lt)
  have HG2 := Lib.hid (HG.out.below hb2)
  have Hx2 := Lib.hid (Hx.out.keep hb2)
  have hn2 := nu_trans Hal.out hb2
  have HO := Lib.hid (own_mono hO Hal.out.size)
  obtain ⟨T, hT⟩ : ∃ T, T = turned Ws R nonce ys := ⟨_, rfl⟩
  rw [← hT] at HO
  have HTl := Lib.hid (show T.length = lt by rw [hT, turned_len, Hyl.out])
  have HTe := Lib.hid hT
  obtain ⟨va, vc, rfl, hv1, hv2, hvB⟩ := HO.out.reads
  rw [HTl.out] at hv1 hvB
  rw [HTl.out] at HO
  rw [HTl.out]
  have HV := Lib.hid hvB
  have Hvc := Lib.hid (And.intro hv1 hv2)
  have Hl3 := Lib.hid (show lt ≤ 140737488355320 by have := Hlt.out; omega)
  clear hO hb2 HP HG Hx Hy hT hvB hv1 hv2
  go_wp2_with (refine wpList_run _ (by rfl) (e12_load HP2.out H12.out (.tmp 5) rfl rfl) ?_)
  refine (tag_any HG2.out HK.out Hh.out nonce H12.out Hx12.out a va la ca lt vc xs T Hx2.out HV.out Hla.out Hl3.out Hac.out Hvc.out).mono ?_
  rintro e w3 ⟨G, rfl, hGl, hGb, hb3⟩
  obtain ⟨D, hD⟩ : ∃ D, D = tagL Ws R nonce h xs T := ⟨_, rfl⟩
  rw [← hD] at hGb
  have HD := Lib.hid (show St16 D by rw [hD]; exact tagL_st _ _ _ _ _ _)
  have HDe := Lib.hid hD
  have HGb := Lib.hid hGb
  have HO3 := Lib.hid (ownB_under HO.out hb3)
  have hn3 := nu_trans hn2 hb3
  have HB := Lib.hid hn3.size
  have Hll := Lib.hid (show (D.map vb).length = 16 * 1 by rw [List.length_map, HD.out.1])
  clear hGl hGb hb3 hD HP2 HG2 Hx2 HO hn2 HV Hvc
  go_wp2_with (at_builtin; refine wpList_append_own _ rfl (.tmp 16) (.tmp 21) 22 rfl w.heap.size 5 i0 (.int .u8 0) 1 1 Try.underlying22 Hi.out.1 Hi.out.2.1 Hi.out.2.2.1 Hi.out.2.2.2 rfl (by decide) (.slice va lt vc) T.length (T.map vb) rfl HO3.out.1 ⟨G, 0, none⟩ 16 16 (D.map vb) rfl Hll.out (fun j u hu => by rw [Addr.add_lit, Nat.zero_add]; exact HGb.out.at j u (by simpa using hu)) (vb_one _) (by rw [HTl.out]; have := Hlt.out; unfold maxLen; omega) (by rw [HTl.out]; have := Hlt.out; omega) HB.out ?_)
  intro v' w4 hown hg4 _
  have HF := Lib.hid (show OwnB w4 w.heap.size 5 v' (sealL Ws R nonce h xs ys) from by
    rw [sealL, ← HTe.out, ← HDe.out]
    refine ⟨by rw [List.length_append, HD.out.1, List.map_append]; exact hown, fun x hx => ?_⟩
    rcases List.mem_append.1 hx with hx | hx
    · exact HO3.out.2 x hx
    · exact HD.out.2 x hx)
  have hn4 : Below w.heap.size w w4 := hn3.grown hg4 HB.out (fun k hk => (HO3.out.1.lt k hk).1)
  clear hown hg4 HO3 hn3 HGb
  go_wp2_with fail
  go_ret
  exact ⟨v', rfl, HF.out, hn4⟩
set_option maxRecDepth 100000 in
set_option maxHeartbeats 4000000 in
theorem open_good {w : World} {X R h : Nat} {Ws : List Nat} (hG : GBox w X Ws R h) (hK : Keyed Ws R) (hh : h < 2 ^ 128) (nonce : List Nat) (h12 : nonce.length = 12) (hx12 : ∀ x ∈ nonce, x < 256) (a : Option Addr) (la ca : Nat) (xs : List Nat) (hx : BytesIn w a la ca xs) (hla : la ≤ 140737488355320) (hac : la ≤ ca ∧ ca ≤ maxLen) (t : Option Addr) (lt ct n : Nat) (ys : List Nat) (hy : BytesIn w t lt ct ys) (hn : lt = n + 16) (hn2 : n ≤ 2000) (htc : lt ≤ ct ∧ ct ≤ maxLen) (hT : tagL Ws R nonce h xs (ys.take n) = ys.drop n) :
    Calls Try.prog 18 #[.pointer (some ⟨X, 0, none⟩), .agg (nonce.map vb).toArray, .slice a la ca, .slice t lt ct] w fun e w' => ∃ v, e = .returned (.tuple #[v, .int .i64 0]) ∧ OwnB w' w.heap.size 5 v (turned Ws R nonce (ys.take n)) ∧ Below w.heap.size w w' := by
  have hal := nu_alloc (nu_refl w) (.cells (nonce.map vb).toArray 23)
  have HP := Lib.hid (Blk.made w 23 (nonce.map vb).toArray)
  have HG := Lib.hid (hG.below hal)
  have HK := Lib.hid hK
  have Hh := Lib.hid hh
  have H12 := Lib.hid h12
  have Hx12 := Lib.hid hx12
  have Hx := Lib.hid (hx.keep hal)
  have Hla := Lib.hid hla
  have Hac := Lib.hid hac
  obtain ⟨b1, o1, rfl, hbl, hcell⟩ := hy.1.2.2 (by omega)
  have hy1 := hy.keep hal
  have hcn : ¬ ct = n := by omega
  have HyF := Lib.hid (hy1.first (n := n) (by omega))
  have hyl := hy1.left (n := n) (by omega) htc.1
  rw [show leftAt (some ⟨b1, o1, none⟩) ct n = some ⟨b1, o1 + n, none⟩ by simp [leftAt, hcn, Go.WideShapes.add_plain], show lt - n = 16 by omega] at hyl
  have HyL := Lib.hid hyl
  have Hn2 := Lib.hid (show n ≤ 140737488355320 by omega)
  have Hn20 := Lib.hid hn2
  have Hnc := Lib.hid (show n ≤ ct ∧ ct ≤ maxLen by omega)
  have HT := Lib.hid (show decide (tagL Ws R nonce h xs (ys.take n) = ys.drop n) = true by rw [decide_eq_true_iff]; exact hT)
  have Hal := Lib.hid hal
  have hl1 : (lt : Int) - 16 = (n : Int) := by omega
  have hl0 : ¬ (n : Int) < 0 := by omega
  have hnl : n ≤ lt := by omega
  have hlc : lt ≤ ct := htc.1
  have hnc : n ≤ ct := by omega
  have hcm : ct ≤ 9223372036854775807 := by have := htc.2; unfold maxLen at this; omega
  have hl16 : lt - n = 16 := by omega
  have wn : IntKind.i64.wrap (n : Int) = (n : Int) := by rw [IntKind.wrap_i64]; omega
  clear hG hK hh h12 hx12 hx hla hac hy hbl hcell hy1 hyl hn2 htc hT hal hn
  go_enter Try.func18, Try.ntmps18
  go_upto_region 1 with fail
  generalize w.alloc (.cells (nonce.map vb).toArray 23) = w1 at *
  obtain ⟨P, hP⟩ : ∃ P, P = w.heap.size := ⟨_, rfl⟩
  rw [← hP] at HP
  rw [← hP]
  clear hP
  go_upto_region 6 with fail
  refine wp_region_held_drew (S := fun W => Below w1.heap.size w1 W) (by kernel_rfl) (nu_drew (nu_refl w1)) (fun hHeld => ?_)
  dsimp only [Array.replicate, List.replicate, List.size_toArray, List.length_cons, List.length_nil, Nat.reduceAdd] at hHeld ⊢
  have HB0 := Lib.hid hHeld
  generalize w1.drew = u0 at *
  refine take_l (i := 0) (v := ?_) rfl (by kernel_rfl) (by kernel_rfl) (by kernel_rfl) (fun _ _ _ h => h) (Or.inl ⟨by rfl, ?_⟩) (by assumption) ?_
  case refine_2 => (intro _ _; go_simp; all_goals with_reducible rfl)
  simp only [Act.put, List.setIfInBounds_toArray, List.set_cons_zero, List.set_cons_succ]
  refine take_l (i := 1) rfl (by kernel_rfl) (by kernel_rfl) (by kernel_rfl) (fun _ _ _ h => h) (Or.inl ⟨by rfl, fun W hS => e12_load (Blk.below HP.out hS HP.out.lt) H12.out (.tmp 5) rfl rfl⟩) (by assumption) ?_
  simp only [Act.put, List.setIfInBounds_toArray, List.set_cons_zero, List.set_cons_succ]
  refine take_l (i := 2) (v := ?_) rfl (by kernel_rfl) (by kernel_rfl) (by kernel_rfl) (fun _ _ _ h => h) (Or.inl ⟨by rfl, ?_⟩) (by assumption) ?_
  case refine_2 => (intro _ _; go_simp; all_goals with_reducible rfl)
  simp only [Act.put, List.setIfInBounds_toArray, List.set_cons_zero, List.set_cons_succ]
  refine take_l (i := 3) (v := ?_) rfl (by kernel_rfl) (by kernel_rfl) (by kernel_rfl) (fun _ _ _ h => h) (Or.inl ⟨by rfl, ?_⟩) (by assumption) ?_
  case refine_2 => (intro _ _; go_simp; all_goals with_reducible rfl)
  simp only [Act.put, List.setIfInBounds_toArray, List.set_cons_zero, List.set_cons_succ]
  refine take_l (i := 4) (v := ?_) rfl (by kernel_rfl) (by kernel_rfl) (by kernel_rfl) (fun _ _ _ h => h) (Or.inl ⟨by rfl, ?_⟩) (by assumption) ?_
  case refine_2 => (intro _ _; go_simp; all_goals with_reducible rfl)
  simp only [Act.put, List.setIfInBounds_toArray, List.set_cons_zero, List.set_cons_succ]
  refine take_l (i := 5) (v := ?_) rfl (by kernel_rfl) (by kernel_rfl) (by kernel_rfl) (fun _ _ _ h => h) (Or.inl ⟨by rfl, ?_⟩) (by assumption) ?_
  case refine_2 => (intro _ _; go_simp; all_goals with_reducible rfl)
  simp only [Act.put, List.setIfInBounds_toArray, List.set_cons_zero, List.set_cons_succ]
  refine take_l (i := 7) (v := ?_) rfl (by kernel_rfl) (by kernel_rfl) (by kernel_rfl) (fun _ _ _ h => h) (Or.inl ⟨by rfl, ?_⟩) (by assumption) ?_
  case refine_2 => (intro _ _; go_simp; all_goals with_reducible rfl)
  simp only [Act.put, List.setIfInBounds_toArray, List.set_cons_zero, List.set_cons_succ]
  refine take_l (i := 8) (v := ?_) rfl (by kernel_rfl) (by kernel_rfl) (by kernel_rfl) (fun _ _ _ h => h) (Or.inl ⟨by rfl, ?_⟩) (by assumption) ?_
  case refine_2 => (intro _ _; go_simp; all_goals with_reducible rfl)
  simp only [Act.put, List.setIfInBounds_toArray, List.set_cons_zero, List.set_cons_succ]
  refine take_l (i := 9) (v := ?_) rfl (by kernel_rfl) (by kernel_rfl) (by kernel_rfl) (fun _ _ _ h => h) (Or.inl ⟨by rfl, ?_⟩) (by assumption) ?_
  case refine_2 => (intro _ _; go_simp; all_goals with_reducible rfl)
  simp only [Act.put, List.setIfInBounds_toArray, List.set_cons_zero, List.set_cons_succ]
  clear hHeld
  refine wpAnyH_ready (rs := [6]) (by kernel_rfl) (by simp) ?_
  refine cons_l rfl (fun K hK => ?_) AllReadyH.nil
  go_simp
  go_at_call 29
  refine (tag_any (HG.out.below HB0.out) HK.out Hh.out nonce H12.out Hx12.out a (some ⟨b1, o1, none⟩) la ca n ct xs (ys.take n) (Hx.out.keep HB0.out) (HyF.out.keep HB0.out) Hla.out Hn2.out Hac.out Hnc.out).mono ?_
  rintro e u1 ⟨G, rfl, hGl, hGb, hb⟩
  have HB1 := Lib.hid (nu_trans HB0.out hb)
  have HGb := Lib.hid hGb
  clear hb hGl hGb HB0
  go_wp2_with fail
  refine hK.out _ _ HB1.out (fun hHeld => ?_)
  clear hK K hHeld
  simp only [Act.put, List.setIfInBounds_toArray, List.set_cons_zero, List.set_cons_succ]
  refine wpAnyH_ready (rs := [10]) (by kernel_rfl) (by simp) ?_
  refine cons_l rfl (fun K hK => ?_) AllReadyH.nil
  go_simp
  go_at_call 32
  refine (macSame_is true HT.out (show IntsIn u1 .u8 (some ⟨G, 0, none⟩) 16 (tagL Ws R nonce h xs (ys.take n)) from (blk_bytes HGb.out (tagL_st _ _ _ _ _ _).1 (tagL_st _ _ _ _ _ _).2).1) (HyL.out.keep HB1.out).1 (by omega) (by omega)).mono ?_
  rintro e u2 ⟨rfl, nn, rfl⟩
  have HB2 := Lib.hid (nu_drewN HB1.out nn)
  generalize u1.drewN nn = u2 at *
  clear HB1 HGb
  go_wp2_with fail
  refine hK.out _ _ HB2.out (fun hHeld => ?_)
  clear hK K hHeld
  simp only [Act.put, List.setIfInBounds_toArray, List.set_cons_zero, List.set_cons_succ]
  have hHeld := HB2.out
  refine take_l (i := 11) (v := ?_) rfl (by kernel_rfl) (by kernel_rfl) (by kernel_rfl) (fun _ _ _ h => h) (Or.inl ⟨by rfl, ?_⟩) (by assumption) ?_
  case refine_2 => (intro _ _; go_simp; all_goals with_reducible rfl)
  simp only [Act.put, List.setIfInBounds_toArray, List.set_cons_zero, List.set_cons_succ]
  refine wpAnyH_done (by kernel_rfl) ?_ _
  clear hHeld
  have HP2 := Lib.hid (HP.out.below HB2.out HP.out.lt)
  have HG2 := Lib.hid (HG.out.below HB2.out)
  have HyF2 := Lib.hid (HyF.out.keep HB2.out)
  have hn2 := nu_trans Hal.out HB2.out
  clear HP HG HyF HyL HB2 Hx
  go_upto_region 8 with fail
  refine wp_region_held_drew (S := fun W => Below u2.heap.size u2 W) (by kernel_rfl) (nu_drew (nu_refl u2)) (fun hHeld => ?_)
  dsimp only [Array.replicate, List.replicate, List.size_toArray, List.length_cons, List.length_nil, Nat.reduceAdd] at hHeld ⊢
  have HC0 := Lib.hid hHeld
  generalize u2.drew = v0 at *
  refine take_l (i := 0) (v := ?_) rfl (by kernel_rfl) (by kernel_rfl) (by kernel_rfl) (fun _ _ _ h => h) (Or.inl ⟨by rfl, ?_⟩) (by assumption) ?_
  case refine_2 => (intro _ _; go_simp; all_goals with_reducible rfl)
  simp only [Act.put, List.setIfInBounds_toArray, List.set_cons_zero, List.set_cons_succ]
  refine take_l (i := 1) rfl (by kernel_rfl) (by kernel_rfl) (by kernel_rfl) (fun _ _ _ h => h) (Or.inl ⟨by rfl, fun W hS => e12_load (Blk.below HP2.out hS HP2.out.lt) H12.out (.tmp 5) rfl rfl⟩) (by assumption) ?_
  simp only [Act.put, List.setIfInBounds_toArray, List.set_cons_zero, List.set_cons_succ]
  refine take_l (i := 2) (v := ?_) rfl (by kernel_rfl) (by kernel_rfl) (by kernel_rfl) (fun _ _ _ h => h) (Or.inl ⟨by rfl, ?_⟩) (by assumption) ?_
  case refine_2 => (intro _ _; go_simp; all_goals with_reducible rfl)
  simp only [Act.put, List.setIfInBounds_toArray, List.set_cons_zero, List.set_cons_succ]
  refine take_l (i := 3) (v := ?_) rfl (by kernel_rfl) (by kernel_rfl) (by kernel_rfl) (fun _ _ _ h => h) (Or.inl ⟨by rfl, ?_⟩) (by assumption) ?_
  case refine_2 => (intro _ _; go_simp; all_goals with_reducible rfl)
  simp only [Act.put, List.setIfInBounds_toArray, List.set_cons_zero, List.set_cons_succ]
  refine take_l (i := 4) (v := ?_) rfl (by kernel_rfl) (by kernel_rfl) (by kernel_rfl) (fun _ _ _ h => h) (Or.inl ⟨by rfl, ?_⟩) (by assumption) ?_
  case refine_2 => (intro _ _; go_simp; all_goals with_reducible rfl)
  simp only [Act.put, List.setIfInBounds_toArray, List.set_cons_zero, List.set_cons_succ]
  clear hHeld
  refine wpAnyH_ready (rs := [5]) (by kernel_rfl) (by simp) ?_
  refine cons_l rfl (fun K hK => ?_) AllReadyH.nil
  go_simp
  go_at_call 28
  refine (turned_any (HG2.out.below HC0.out) HK.out nonce H12.out Hx12.out (some ⟨b1, o1, none⟩) n ct (ys.take n) (HyF2.out.keep HC0.out) Hn20.out).mono ?_
  rintro e v1 ⟨v, rfl, hO, hb⟩
  have HC1 := Lib.hid (nu_trans HC0.out hb)
  have hsz : w.heap.size ≤ v0.heap.size := Nat.le_trans hn2.size HC0.out.size
  have HO := Lib.hid (own_mono hO hsz)
  clear hO hb HC0 hsz
  go_wp2_with fail
  refine hK.out _ _ HC1.out (fun hHeld => ?_)
  clear hK K hHeld
  simp only [Act.put, List.setIfInBounds_toArray, List.set_cons_zero, List.set_cons_succ]
  have hHeld := HC1.out
  refine take_l (i := 6) (v := ?_) rfl (by kernel_rfl) (by kernel_rfl) (by kernel_rfl) (fun _ _ _ h => h) (Or.inl ⟨by rfl, ?_⟩) (by assumption) ?_
  case refine_2 => (intro _ _; go_simp; all_goals with_reducible rfl)
  simp only [Act.put, List.setIfInBounds_toArray, List.set_cons_zero, List.set_cons_succ]
  refine take_l (i := 7) (v := ?_) rfl (by kernel_rfl) (by kernel_rfl) (by kernel_rfl) (fun _ _ _ h => h) (Or.inl ⟨by rfl, ?_⟩) (by assumption) ?_
  case refine_2 => (intro _ _; go_simp; all_goals with_reducible rfl)
  simp only [Act.put, List.setIfInBounds_toArray, List.set_cons_zero, List.set_cons_succ]
  refine wpAnyH_done (by kernel_rfl) ?_ _
  clear hHeld
  have hn3 := nu_trans hn2 HC1.out
  go_wp2_with fail
  go_ret2
  exact ⟨v, rfl, HO.out, hn3⟩
set_option maxRecDepth 100000 in
set_option maxHeartbeats 4000000 in
theorem open_bad {w : World} {X R h : Nat} {Ws : List Nat} (hG : GBox w X Ws R h) (hK : Keyed Ws R) (hh : h < 2 ^ 128) (nonce : List Nat) (h12 : nonce.length = 12) (hx12 : ∀ x ∈ nonce, x < 256) (a : Option Addr) (la ca : Nat) (xs : List Nat) (hx : BytesIn w a la ca xs) (hla : la ≤ 140737488355320) (hac : la ≤ ca ∧ ca ≤ maxLen) (t : Option Addr) (lt ct n : Nat) (ys : List Nat) (hy : BytesIn w t lt ct ys) (hn : lt = n + 16) (hn2 : n ≤ 2000) (htc : lt ≤ ct ∧ ct ≤ maxLen) (hT : ¬ tagL Ws R nonce h xs (ys.take n) = ys.drop n) :
    Calls Try.prog 18 #[.pointer (some ⟨X, 0, none⟩), .agg (nonce.map vb).toArray, .slice a la ca, .slice t lt ct] w fun e w' => e = .returned (.tuple #[.slice none 0 0, .int .i64 10]) ∧ Below w.heap.size w w' := by
  have hal := nu_alloc (nu_refl w) (.cells (nonce.map vb).toArray 23)
  have HP := Lib.hid (Blk.made w 23 (nonce.map vb).toArray)
  have HG := Lib.hid (hG.below hal)
  have HK := Lib.hid hK
  have Hh := Lib.hid hh
  have H12 := Lib.hid h12
  have Hx12 := Lib.hid hx12
  have Hx := Lib.hid (hx.keep hal)
  have Hla := Lib.hid hla
  have Hac := Lib.hid hac
  obtain ⟨b1, o1, rfl, hbl, hcell⟩ := hy.1.2.2 (by omega)
  have hy1 := hy.keep hal
  have hcn : ¬ ct = n := by omega
  have HyF := Lib.hid (hy1.first (n := n) (by omega))
  have hyl := hy1.left (n := n) (by omega) htc.1
  rw [show leftAt (some ⟨b1, o1, none⟩) ct n = some ⟨b1, o1 + n, none⟩ by simp [leftAt, hcn, Go.WideShapes.add_plain], show lt - n = 16 by omega] at hyl
  have HyL := Lib.hid hyl
  have Hn2 := Lib.hid (show n ≤ 140737488355320 by omega)
  have Hn20 := Lib.hid hn2
  have Hnc := Lib.hid (show n ≤ ct ∧ ct ≤ maxLen by omega)
  have HT := Lib.hid (show decide (tagL Ws R nonce h xs (ys.take n) = ys.drop n) = false by rw [decide_eq_false_iff_not]; exact hT)
  have Hal := Lib.hid hal
  have hl1 : (lt : Int) - 16 = (n : Int) := by omega
  have hl0 : ¬ (n : Int) < 0 := by omega
  have hnl : n ≤ lt := by omega
  have hlc : lt ≤ ct := htc.1
  have hnc : n ≤ ct := by omega
  have hcm : ct ≤ 9223372036854775807 := by have := htc.2; unfold maxLen at this; omega
  have hl16 : lt - n = 16 := by omega
  have wn : IntKind.i64.wrap (n : Int) = (n : Int) := by rw [IntKind.wrap_i64]; omega
  clear hG hK hh h12 hx12 hx hla hac hy hbl hcell hy1 hyl hn2 htc hT hal hn
  go_enter Try.func18, Try.ntmps18
  go_upto_region 1 with fail
  generalize w.alloc (.cells (nonce.map vb).toArray 23) = w1 at *
  obtain ⟨P, hP⟩ : ∃ P, P = w.heap.size := ⟨_, rfl⟩
  rw [← hP] at HP
  rw [← hP]
  clear hP
  go_upto_region 6 with fail
  refine wp_region_held_drew (S := fun W => Below w1.heap.size w1 W) (by kernel_rfl) (nu_drew (nu_refl w1)) (fun hHeld => ?_)
  dsimp only [Array.replicate, List.replicate, List.size_toArray, List.length_cons, List.length_nil, Nat.reduceAdd] at hHeld ⊢
  have HB0 := Lib.hid hHeld
  generalize w1.drew = u0 at *
  refine take_l (i := 0) (v := ?_) rfl (by kernel_rfl) (by kernel_rfl) (by kernel_rfl) (fun _ _ _ h => h) (Or.inl ⟨by rfl, ?_⟩) (by assumption) ?_
  case refine_2 => (intro _ _; go_simp; all_goals with_reducible rfl)
  simp only [Act.put, List.setIfInBounds_toArray, List.set_cons_zero, List.set_cons_succ]
  refine take_l (i := 1) rfl (by kernel_rfl) (by kernel_rfl) (by kernel_rfl) (fun _ _ _ h => h) (Or.inl ⟨by rfl, fun W hS => e12_load (Blk.below HP.out hS HP.out.lt) H12.out (.tmp 5) rfl rfl⟩) (by assumption) ?_
  simp only [Act.put, List.setIfInBounds_toArray, List.set_cons_zero, List.set_cons_succ]
  refine take_l (i := 2) (v := ?_) rfl (by kernel_rfl) (by kernel_rfl) (by kernel_rfl) (fun _ _ _ h => h) (Or.inl ⟨by rfl, ?_⟩) (by assumption) ?_
  case refine_2 => (intro _ _; go_simp; all_goals with_reducible rfl)
  simp only [Act.put, List.setIfInBounds_toArray, List.set_cons_zero, List.set_cons_succ]
  refine take_l (i := 3) (v := ?_) rfl (by kernel_rfl) (by kernel_rfl) (by kernel_rfl) (fun _ _ _ h => h) (Or.inl ⟨by rfl, ?_⟩) (by assumption) ?_
  case refine_2 => (intro _ _; go_simp; all_goals with_reducible rfl)
  simp only [Act.put, List.setIfInBounds_toArray, List.set_cons_zero, List.set_cons_succ]
  refine take_l (i := 4) (v := ?_) rfl (by kernel_rfl) (by kernel_rfl) (by kernel_rfl) (fun _ _ _ h => h) (Or.inl ⟨by rfl, ?_⟩) (by assumption) ?_
  case refine_2 => (intro _ _; go_simp; all_goals with_reducible rfl)
  simp only [Act.put, List.setIfInBounds_toArray, List.set_cons_zero, List.set_cons_succ]
  refine take_l (i := 5) (v := ?_) rfl (by kernel_rfl) (by kernel_rfl) (by kernel_rfl) (fun _ _ _ h => h) (Or.inl ⟨by rfl, ?_⟩) (by assumption) ?_
  case refine_2 => (intro _ _; go_simp; all_goals with_reducible rfl)
  simp only [Act.put, List.setIfInBounds_toArray, List.set_cons_zero, List.set_cons_succ]
  refine take_l (i := 7) (v := ?_) rfl (by kernel_rfl) (by kernel_rfl) (by kernel_rfl) (fun _ _ _ h => h) (Or.inl ⟨by rfl, ?_⟩) (by assumption) ?_
  case refine_2 => (intro _ _; go_simp; all_goals with_reducible rfl)
  simp only [Act.put, List.setIfInBounds_toArray, List.set_cons_zero, List.set_cons_succ]
  refine take_l (i := 8) (v := ?_) rfl (by kernel_rfl) (by kernel_rfl) (by kernel_rfl) (fun _ _ _ h => h) (Or.inl ⟨by rfl, ?_⟩) (by assumption) ?_
  case refine_2 => (intro _ _; go_simp; all_goals with_reducible rfl)
  simp only [Act.put, List.setIfInBounds_toArray, List.set_cons_zero, List.set_cons_succ]
  refine take_l (i := 9) (v := ?_) rfl (by kernel_rfl) (by kernel_rfl) (by kernel_rfl) (fun _ _ _ h => h) (Or.inl ⟨by rfl, ?_⟩) (by assumption) ?_
  case refine_2 => (intro _ _; go_simp; all_goals with_reducible rfl)
  simp only [Act.put, List.setIfInBounds_toArray, List.set_cons_zero, List.set_cons_succ]
  clear hHeld
  refine wpAnyH_ready (rs := [6]) (by kernel_rfl) (by simp) ?_
  refine cons_l rfl (fun K hK => ?_) AllReadyH.nil
  go_simp
  go_at_call 29
  refine (tag_any (HG.out.below HB0.out) HK.out Hh.out nonce H12.out Hx12.out a (some ⟨b1, o1, none⟩) la ca n ct xs (ys.take n) (Hx.out.keep HB0.out) (HyF.out.keep HB0.out) Hla.out Hn2.out Hac.out Hnc.out).mono ?_
  rintro e u1 ⟨G, rfl, hGl, hGb, hb⟩
  have HB1 := Lib.hid (nu_trans HB0.out hb)
  have HGb := Lib.hid hGb
  clear hb hGl hGb HB0
  go_wp2_with fail
  refine hK.out _ _ HB1.out (fun hHeld => ?_)
  clear hK K hHeld
  simp only [Act.put, List.setIfInBounds_toArray, List.set_cons_zero, List.set_cons_succ]
  refine wpAnyH_ready (rs := [10]) (by kernel_rfl) (by simp) ?_
  refine cons_l rfl (fun K hK => ?_) AllReadyH.nil
  go_simp
  go_at_call 32
  refine (macSame_is false HT.out (show IntsIn u1 .u8 (some ⟨G, 0, none⟩) 16 (tagL Ws R nonce h xs (ys.take n)) from (blk_bytes HGb.out (tagL_st _ _ _ _ _ _).1 (tagL_st _ _ _ _ _ _).2).1) (HyL.out.keep HB1.out).1 (by omega) (by omega)).mono ?_
  rintro e u2 ⟨rfl, nn, rfl⟩
  have HB2 := Lib.hid (nu_drewN HB1.out nn)
  generalize u1.drewN nn = u2 at *
  clear HB1 HGb
  go_wp2_with fail
  refine hK.out _ _ HB2.out (fun hHeld => ?_)
  clear hK K hHeld
  simp only [Act.put, List.setIfInBounds_toArray, List.set_cons_zero, List.set_cons_succ]
  have hHeld := HB2.out
  refine take_l (i := 11) (v := ?_) rfl (by kernel_rfl) (by kernel_rfl) (by kernel_rfl) (fun _ _ _ h => h) (Or.inl ⟨by rfl, ?_⟩) (by assumption) ?_
  case refine_2 => (intro _ _; go_simp; all_goals with_reducible rfl)
  simp only [Act.put, List.setIfInBounds_toArray, List.set_cons_zero, List.set_cons_succ]
  refine wpAnyH_done (by kernel_rfl) ?_ _
  clear hHeld
  have hn2 := nu_trans Hal.out HB2.out
  clear HP HG HyF HyL HB2 Hx
  go_wp2_with fail
  go_ret2
  exact ⟨rfl, hn2⟩
end Go.Proofs.Ytpeibkdcglkimaa

namespace Aes
open Fld
abbrev kz : List Nat := [0, 0, 0, 0, 0, 0, 0, 0, 0, 0, 0, 0, 0, 0, 0, 0]
theorem kz_w : words kz 4 = [0, 0, 0, 0] := by decide +kernel
theorem kz_g0 : growT 4 40 [0, 0, 0, 0] = growT 4 36 [0, 0, 0, 0, 1650680675, 1650680675, 1650680675, 1650680675] := by kernel_rfl
theorem kz_g1 : growT 4 36 [0, 0, 0, 0, 1650680675, 1650680675, 1650680675, 1650680675] = growT 4 32 [0, 0, 0, 0, 1650680675, 1650680675, 1650680675, 1650680675, 2610469065, 4194040746, 2610469065, 4194040746] := by kernel_rfl
theorem kz_g2 : growT 4 32 [0, 0, 0, 0, 1650680675, 1650680675, 1650680675, 1650680675, 2610469065, 4194040746, 2610469065, 4194040746] = growT 4 28 [0, 0, 0, 0, 1650680675, 1650680675, 1650680675, 1650680675, 2610469065, 4194040746, 2610469065, 4194040746, 2425828432, 1768738810, 4076099379, 185576601] := by kernel_rfl
theorem kz_g3 : growT 4 28 [0, 0, 0, 0, 1650680675, 1650680675, 1650680675, 1650680675, 2610469065, 4194040746, 2610469065, 4194040746, 2425828432, 1768738810, 4076099379, 185576601] = growT 4 24 [0, 0, 0, 0, 1650680675, 1650680675, 1650680675, 1650680675, 2610469065, 4194040746, 2610469065, 4194040746, 2425828432, 1768738810, 4076099379, 185576601, 3993426555, 2271876481, 1973306034, 2123492907] := by kernel_rfl
theorem kz_g4 : growT 4 24 [0, 0, 0, 0, 1650680675, 1650680675, 1650680675, 1650680675, 2610469065, 4194040746, 2610469065, 4194040746, 2425828432, 1768738810, 4076099379, 185576601, 3993426555, 2271876481, 1973306034, 2123492907] = growT 4 20 [0, 0, 0, 0, 1650680675, 1650680675, 1650680675, 1650680675, 2610469065, 4194040746, 2610469065, 4194040746, 2425828432, 1768738810, 4076099379, 185576601, 3993426555, 2271876481, 1973306034, 2123492907, 2133732232, 4165221897, 2379906235, 4081816208] := by kernel_rfl
theorem kz_g5 : growT 4 20 [0, 0, 0, 0, 1650680675, 1650680675, 1650680675, 1650680675, 2610469065, 4194040746, 2610469065, 4194040746, 2425828432, 1768738810, 4076099379, 185576601, 3993426555, 2271876481, 1973306034, 2123492907, 2133732232, 4165221897, 2379906235, 4081816208] = growT 4 16 [0, 0, 0, 0, 1650680675, 1650680675, 1650680675, 1650680675, 2610469065, 4194040746, 2610469065, 4194040746, 2425828432, 1768738810, 4076099379, 185576601, 3993426555, 2271876481, 1973306034, 2123492907, 2133732232, 4165221897, 2379906235, 4081816208, 3965799301, 337999244, 2583628087, 1790221223] := by kernel_rfl
theorem kz_g6 : growT 4 16 [0, 0, 0, 0, 1650680675, 1650680675, 1650680675, 1650680675, 2610469065, 4194040746, 2610469065, 4194040746, 2425828432, 1768738810, 4076099379, 185576601, 3993426555, 2271876481, 1973306034, 2123492907, 2133732232, 4165221897, 2379906235, 4081816208, 3965799301, 337999244, 2583628087, 1790221223] = growT 4 12 [0, 0, 0, 0, 1650680675, 1650680675, 1650680675, 1650680675, 2610469065, 4194040746, 2610469065, 4194040746, 2425828432, 1768738810, 4076099379, 185576601, 3993426555, 2271876481, 1973306034, 2123492907, 2133732232, 4165221897, 2379906235, 4081816208, 3965799301, 337999244, 2583628087, 1790221223, 561321863, 894460427, 2897177404, 3323719835] := by kernel_rfl
theorem kz_g7 : growT 4 12 [0, 0, 0, 0, 1650680675, 1650680675, 1650680675, 1650680675, 2610469065, 4194040746, 2610469065, 4194040746, 2425828432, 1768738810, 4076099379, 185576601, 3993426555, 2271876481, 1973306034, 2123492907, 2133732232, 4165221897, 2379906235, 4081816208, 3965799301, 337999244, 2583628087, 1790221223, 561321863, 894460427, 2897177404, 3323719835] = growT 4 8 [0, 0, 0, 0, 1650680675, 1650680675, 1650680675, 1650680675, 2610469065, 4194040746, 2610469065, 4194040746, 2425828432, 1768738810, 4076099379, 185576601, 3993426555, 2271876481, 1973306034, 2123492907, 2133732232, 4165221897, 2379906235, 4081816208, 3965799301, 337999244, 2583628087, 1790221223, 561321863, 894460427, 2897177404, 3323719835, 251200307, 1000956216, 2533755396, 1360919199] := by kernel_rfl
theorem kz_g8 : growT 4 8 [0, 0, 0, 0, 1650680675, 1650680675, 1650680675, 1650680675, 2610469065, 4194040746, 2610469065, 4194040746, 2425828432, 1768738810, 4076099379, 185576601, 3993426555, 2271876481, 1973306034, 2123492907, 2133732232, 4165221897, 2379906235, 4081816208, 3965799301, 337999244, 2583628087, 1790221223, 561321863, 894460427, 2897177404, 3323719835, 251200307, 1000956216, 2533755396, 1360919199] = growT 4 4 [0, 0, 0, 0, 1650680675, 1650680675, 1650680675, 1650680675, 2610469065, 4194040746, 2610469065, 4194040746, 2425828432, 1768738810, 4076099379, 185576601, 3993426555, 2271876481, 1973306034, 2123492907, 2133732232, 4165221897, 2379906235, 4081816208, 3965799301, 337999244, 2583628087, 1790221223, 561321863, 894460427, 2897177404, 3323719835, 251200307, 1000956216, 2533755396, 1360919199, 2983516386, 2323495386, 494646238, 1281771841] := by kernel_rfl
theorem kz_g9 : growT 4 4 [0, 0, 0, 0, 1650680675, 1650680675, 1650680675, 1650680675, 2610469065, 4194040746, 2610469065, 4194040746, 2425828432, 1768738810, 4076099379, 185576601, 3993426555, 2271876481, 1973306034, 2123492907, 2133732232, 4165221897, 2379906235, 4081816208, 3965799301, 337999244, 2583628087, 1790221223, 561321863, 894460427, 2897177404, 3323719835, 251200307, 1000956216, 2533755396, 1360919199, 2983516386, 2323495386, 494646238, 1281771841] = growT 4 0 [0, 0, 0, 0, 1650680675, 1650680675, 1650680675, 1650680675, 2610469065, 4194040746, 2610469065, 4194040746, 2425828432, 1768738810, 4076099379, 185576601, 3993426555, 2271876481, 1973306034, 2123492907, 2133732232, 4165221897, 2379906235, 4081816208, 3965799301, 337999244, 2583628087, 1790221223, 561321863, 894460427, 2897177404, 3323719835, 251200307, 1000956216, 2533755396, 1360919199, 2983516386, 2323495386, 494646238, 1281771841, 3035585483, 1049813521, 602493391, 1871648910] := by kernel_rfl
abbrev kz_W : List Nat := [0, 0, 0, 0, 1650680675, 1650680675, 1650680675, 1650680675, 2610469065, 4194040746, 2610469065, 4194040746, 2425828432, 1768738810, 4076099379, 185576601, 3993426555, 2271876481, 1973306034, 2123492907, 2133732232, 4165221897, 2379906235, 4081816208, 3965799301, 337999244, 2583628087, 1790221223, 561321863, 894460427, 2897177404, 3323719835, 251200307, 1000956216, 2533755396, 1360919199, 2983516386, 2323495386, 494646238, 1281771841, 3035585483, 1049813521, 602493391, 1871648910]
theorem kz_expand : expand kz = kz_W := by
  show grow 4 40 (words kz 4) = _
  rw [grow_tab, kz_w, kz_g0, kz_g1, kz_g2, kz_g3, kz_g4, kz_g5, kz_g6, kz_g7, kz_g8, kz_g9]
  rfl
abbrev z0_st : List Nat := [0, 0, 0, 0, 0, 0, 0, 0, 0, 0, 0, 0, 0, 0, 0, 0]
theorem z0_ok : St16 z0_st := ⟨rfl, by decide⟩
theorem z0_e0 : encF kz_W 0 z0_st = [0, 0, 0, 0, 0, 0, 0, 0, 0, 0, 0, 0, 0, 0, 0, 0] := by kernel_rfl
theorem z0_e1 : encF kz_W 1 z0_st = [1, 0, 0, 0, 1, 0, 0, 0, 1, 0, 0, 0, 1, 0, 0, 0] := by
  rw [encF_tab z0_ok, z0_e0]
  kernel_rfl
theorem z0_e2 : encF kz_W 2 z0_st = [198, 228, 228, 139, 164, 135, 135, 232, 198, 228, 228, 139, 164, 135, 135, 232] := by
  rw [encF_tab z0_ok, z0_e1]
  kernel_rfl
theorem z0_e3 : encF kz_W 3 z0_st = [40, 45, 243, 196, 106, 243, 134, 37, 74, 78, 144, 167, 8, 144, 229, 70] := by
  rw [encF_tab z0_ok, z0_e2]
  kernel_rfl
theorem z0_e4 : encF kz_W 4 z0_st = [171, 210, 205, 254, 55, 90, 181, 73, 80, 160, 175, 192, 117, 154, 106, 95] := by
  rw [encF_tab z0_ok, z0_e3]
  kernel_rfl
theorem z0_e5 : encF kz_W 5 z0_st = [212, 111, 79, 108, 85, 184, 150, 51, 126, 5, 187, 61, 121, 121, 222, 35] := by
  rw [encF_tab z0_ok, z0_e4]
  kernel_rfl
theorem z0_e6 : encF kz_W 6 z0_st = [4, 242, 202, 151, 7, 120, 40, 69, 226, 47, 1, 150, 73, 197, 215, 16] := by
  rw [encF_tab z0_ok, z0_e5]
  kernel_rfl
theorem z0_e7 : encF kz_W 7 z0_st = [183, 170, 228, 197, 29, 37, 45, 79, 108, 146, 15, 129, 148, 229, 129, 80] := by
  rw [encF_tab z0_ok, z0_e6]
  kernel_rfl
theorem z0_e8 : encF kz_W 8 z0_st = [35, 231, 140, 60, 19, 33, 99, 219, 170, 192, 198, 87, 46, 3, 203, 149] := by
  rw [encF_tab z0_ok, z0_e7]
  kernel_rfl
theorem z0_e9 : encF kz_W 9 z0_st = [127, 254, 14, 149, 81, 165, 102, 53, 14, 52, 124, 71, 41, 41, 236, 203] := by
  rw [encF_tab z0_ok, z0_e8]
  kernel_rfl
abbrev z0_out : List Nat := [102, 233, 75, 212, 239, 138, 44, 59, 136, 76, 250, 89, 202, 52, 43, 46]
theorem z0_enc : enc kz_W 10 z0_st = z0_out := by
  rw [enc_tab z0_ok, z0_e9]
  kernel_rfl
abbrev z1_st : List Nat := [0, 0, 0, 0, 0, 0, 0, 0, 0, 0, 0, 0, 0, 0, 0, 1]
theorem z1_ok : St16 z1_st := ⟨rfl, by decide⟩
theorem z1_e0 : encF kz_W 0 z1_st = [0, 0, 0, 0, 0, 0, 0, 0, 0, 0, 0, 0, 0, 0, 0, 1] := by kernel_rfl
theorem z1_e1 : encF kz_W 1 z1_st = [30, 31, 33, 62, 1, 0, 0, 0, 1, 0, 0, 0, 1, 0, 0, 0] := by
  rw [encF_tab z1_ok, z1_e0]
  kernel_rfl
theorem z1_e2 : encF kz_W 2 z1_st = [218, 234, 234, 153, 117, 86, 239, 81, 88, 93, 195, 21, 90, 218, 36, 75] := by
  rw [encF_tab z1_ok, z1_e1]
  kernel_rfl
theorem z1_e3 : encF kz_W 3 z1_st = [107, 120, 64, 75, 68, 221, 91, 251, 137, 115, 23, 228, 120, 135, 219, 170] := by
  rw [encF_tab z1_ok, z1_e2]
  kernel_rfl
theorem z1_e4 : encF kz_W 4 z1_st = [20, 71, 112, 136, 49, 23, 38, 231, 31, 3, 241, 64, 146, 108, 39, 163] := by
  rw [encF_tab z1_ok, z1_e3]
  kernel_rfl
theorem z1_e5 : encF kz_W 5 z1_st = [48, 221, 102, 216, 232, 254, 86, 127, 35, 221, 233, 210, 104, 84, 147, 4] := by
  rw [encF_tab z1_ok, z1_e4]
  kernel_rfl
theorem z1_e6 : encF kz_W 6 z1_st = [222, 216, 197, 211, 220, 57, 47, 229, 84, 30, 4, 241, 188, 21, 162, 105] := by
  rw [encF_tab z1_ok, z1_e5]
  kernel_rfl
theorem z1_e7 : encF kz_W 7 z1_st = [38, 184, 247, 169, 232, 26, 72, 30, 120, 21, 53, 10, 27, 34, 38, 25] := by
  rw [encF_tab z1_ok, z1_e6]
  kernel_rfl
theorem z1_e8 : encF kz_W 8 z1_st = [68, 36, 6, 182, 217, 81, 56, 157, 64, 77, 99, 196, 149, 251, 52, 133] := by
  rw [encF_tab z1_ok, z1_e7]
  kernel_rfl
theorem z1_e9 : encF kz_W 9 z1_st = [131, 247, 93, 208, 136, 243, 141, 226, 47, 131, 137, 25, 89, 53, 127, 54] := by
  rw [encF_tab z1_ok, z1_e8]
  kernel_rfl
abbrev z1_out : List Nat := [88, 226, 252, 206, 250, 126, 48, 97, 54, 127, 29, 87, 164, 231, 69, 90]
theorem z1_enc : enc kz_W 10 z1_st = z1_out := by
  rw [enc_tab z1_ok, z1_e9]
  kernel_rfl
abbrev z2_st : List Nat := [0, 0, 0, 0, 0, 0, 0, 0, 0, 0, 0, 0, 0, 0, 0, 2]
theorem z2_ok : St16 z2_st := ⟨rfl, by decide⟩
theorem z2_e0 : encF kz_W 0 z2_st = [0, 0, 0, 0, 0, 0, 0, 0, 0, 0, 0, 0, 0, 0, 0, 2] := by kernel_rfl
theorem z2_e1 : encF kz_W 1 z2_st = [21, 20, 60, 40, 1, 0, 0, 0, 1, 0, 0, 0, 1, 0, 0, 0] := by
  rw [encF_tab z2_ok, z2_e0]
  kernel_rfl
theorem z2_e2 : encF kz_W 2 z2_st = [140, 193, 193, 228, 243, 208, 126, 70, 78, 103, 239, 3, 20, 174, 30, 113] := by
  rw [encF_tab z2_ok, z2_e1]
  kernel_rfl
theorem z2_e3 : encF kz_W 3 z2_st = [180, 202, 123, 14, 252, 143, 24, 200, 185, 218, 130, 106, 228, 112, 94, 241] := by
  rw [encF_tab z2_ok, z2_e2]
  kernel_rfl
theorem z2_e4 : encF kz_W 4 z2_st = [200, 249, 250, 206, 246, 55, 164, 8, 227, 225, 36, 243, 159, 254, 180, 77] := by
  rw [encF_tab z2_ok, z2_e3]
  kernel_rfl
theorem z2_e5 : encF kz_W 5 z2_st = [212, 80, 11, 218, 105, 234, 3, 183, 100, 225, 220, 126, 170, 111, 85, 44] := by
  rw [encF_tab z2_ok, z2_e4]
  kernel_rfl
theorem z2_e6 : encF kz_W 6 z2_st = [25, 220, 0, 190, 69, 127, 110, 54, 126, 35, 84, 56, 84, 192, 156, 157] := by
  rw [encF_tab z2_ok, z2_e5]
  kernel_rfl
theorem z2_e7 : encF kz_W 7 z2_st = [129, 32, 179, 174, 243, 165, 100, 6, 226, 147, 235, 225, 143, 145, 122, 236] := by
  rw [encF_tab z2_ok, z2_e6]
  kernel_rfl
theorem z2_e8 : encF kz_W 8 z2_st = [59, 23, 137, 79, 96, 150, 40, 250, 38, 95, 120, 133, 206, 38, 171, 21] := by
  rw [encF_tab z2_ok, z2_e7]
  kernel_rfl
theorem z2_e9 : encF kz_W 9 z2_st = [32, 139, 34, 65, 157, 10, 245, 15, 96, 166, 145, 214, 233, 221, 248, 54] := by
  rw [encF_tab z2_ok, z2_e8]
  kernel_rfl
abbrev z2_out : List Nat := [3, 136, 218, 206, 96, 182, 163, 146, 243, 40, 194, 185, 113, 178, 254, 120]
theorem z2_enc : enc kz_W 10 z2_st = z2_out := by
  rw [enc_tab z2_ok, z2_e9]
  kernel_rfl
end Aes
namespace Go.Proofs.Ytpeibkdcglkimaa
open Go.ChangeShapes Go.WideShapes Go.ChangeAt Go.RowKit Fld Aes Gcm
abbrev z12n : List Nat := [0, 0, 0, 0, 0, 0, 0, 0, 0, 0, 0, 0]
theorem z12n_lt : ∀ x ∈ z12n, x < 256 := by decide
theorem kz_lt : ∀ x ∈ kz, x < 256 := by decide
theorem kz_keyed : Keyed kz_W 10 := by rw [← kz_expand]; exact keyed_of kz_lt (.inl rfl)
theorem kz_hash : enc kz_W 10 z16n = kn_h := z0_enc
theorem kz_ctr1 : ctr kz_W 10 z12n 1 = z1_out := z1_enc
theorem kz_ctr2 : ctr kz_W 10 z12n 2 = z2_out := z2_enc
theorem kz_seal0 : sealL kz_W 10 z12n (polB kn_h) [] [] = z1_out := by
  show [] ++ tagL kz_W 10 z12n (polB kn_h) [] [] = _
  rw [List.nil_append, tagL, kz_ctr1, kn_nilsum]
  kernel_rfl
theorem turned_one (W : List Nat) (R : Nat) (nonce p : List Nat) (h : p.length = 16) : turned W R nonce p = xorL p (ctr W R nonce 2) := by
  have hc := (ctr_st W R nonce 2).1
  apply List.ext_getElem?
  intro i
  by_cases hi : i < 16
  · have hp : p[i]? = some (p.getD i 0) := by rw [List.getD_eq_getElem?_getD, List.getElem?_eq_getElem (by omega)]; rfl
    have hq : (ctr W R nonce 2)[i]? = some ((ctr W R nonce 2).getD i 0) := by rw [List.getD_eq_getElem?_getD, List.getElem?_eq_getElem (by omega)]; rfl
    rw [turned_at W R nonce p i (by omega), xorL_at hp hq, show i / 16 = 0 by omega, show i % 16 = i by omega]
  · rw [List.getElem?_eq_none (by rw [turned_len]; omega), List.getElem?_eq_none (by rw [xorL_len _ _ (by omega)]; omega)]
theorem kz_turn : turned kz_W 10 z12n kz = kn_c := by
  rw [turned_one _ _ _ _ rfl, kz_ctr2]
  kernel_rfl
abbrev kz_tag : List Nat := [171, 110, 71, 212, 44, 236, 19, 189, 245, 58, 103, 178, 18, 87, 189, 223]
theorem kz_seal16 : sealL kz_W 10 z12n (polB kn_h) [] kz = kn_c ++ kz_tag := by
  rw [sealL, kz_turn, tagL, kz_ctr1, kn_sum]
  kernel_rfl
end Go.Proofs.Ytpeibkdcglkimaa

namespace Go.Proofs.Ytpeibkdcglkimaa
open Go.ChangeShapes Go.WideShapes Go.ChangeAt Go.RowKit
set_option linter.unusedSimpArgs false

theorem mk_zeros (n : Nat) (hb : n ≤ 281474976710656) (W : World) :
    (Instr.makeSlice 22 (.int .i64 (n : Int)) (.int .i64 (n : Int))).run Try.prog W = .ok (.slice (some ⟨W.heap.size, 0, none⟩) n n) (W.alloc (.cells ((List.replicate n 0).map vb).toArray 5)) := by
  obtain ⟨i0, hi, hz0, hz1, hz2⟩ := info_parts info_u8
  have := run_make (P := Try.prog) W 22 5 i0 (.int .u8 0) Try.underlying22 hi hz0 .i64 .i64 (n : Int) (n : Int) (by omega) (by omega) (by rw [hz2]; omega) (by omega)
  rw [this]
  simp only [Int.toNat_natCast, hz1, Nat.mul_one]
  have e : madeCells (Value.int .u8 0).cells n = ((List.replicate n 0).map vb).toArray := by
    apply Array.toList_inj.1
    rw [show (Value.int .u8 0).cells = #[Value.int .u8 0] from rfl, toList_madeCells_one]
    simp [vb]
  rw [e]
theorem min3_any (l m : Nat) : ∃ n : Nat, n ≤ l ∧ n ≤ m ∧ n ≤ 2000 ∧ ∀ (W : World) (ts : Array TypeId) (t : TypeId), (Builtin.min_ ts t #[.int .i64 (l : Int), .int .i64 (m : Int), .int .i64 2000]).run Try.prog W = .ok (.int .i64 (n : Int)) W := by
  by_cases h1 : (m : Int) < (l : Int)
  · by_cases h2 : (2000 : Int) < (m : Int)
    · exact ⟨2000, by omega, by omega, by omega, fun W ts t => by simp [Builtin.min_, Builtin.min2, h1, h2]⟩
    · exact ⟨m, by omega, by omega, by omega, fun W ts t => by simp [Builtin.min_, Builtin.min2, h1, h2]⟩
  · by_cases h2 : (2000 : Int) < (l : Int)
    · exact ⟨2000, by omega, by omega, by omega, fun W ts t => by simp [Builtin.min_, Builtin.min2, h1, h2]⟩
    · exact ⟨l, by omega, by omega, by omega, fun W ts t => by simp [Builtin.min_, Builtin.min2, h1, h2]⟩
structure AddsAt (w : World) (g h : Nat) (a : Option Addr) (n la : Nat) (xs : List Nat) (b : Option Addr) (lb : Nat) (ys : List Nat) (X : Nat) (U : List Nat) (W : World) : Prop where
  key : KeyAt W g h
  one : BytesIn W a n la xs
  two : BytesIn W b n lb ys
  row : Blk W X 5 (U.map vb).toArray
  nu : Below w.heap.size w W
theorem AddsAt.below {w : World} {g h : Nat} {a : Option Addr} {n la : Nat} {xs : List Nat} {b : Option Addr} {lb : Nat} {ys : List Nat} {X : Nat} {U : List Nat} {W W' : World} (H : AddsAt w g h a n la xs b lb ys X U W) (hb : Below W.heap.size W W') : AddsAt w g h a n la xs b lb ys X U W' :=
  ⟨Blk.below H.key hb (Blk.lt H.key), H.one.keep hb, H.two.keep hb, Blk.below H.row hb (Blk.lt H.row), nu_trans H.nu hb⟩

end Go.Proofs.Ytpeibkdcglkimaa
