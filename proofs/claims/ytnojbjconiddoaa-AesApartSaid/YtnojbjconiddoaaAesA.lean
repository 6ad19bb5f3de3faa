/-
  The walk of AesApart.
-/
import Derived.Test.YtnojbjconiddoaaAes9
import Derived.Deep.DeepCutAuto
namespace Go.Proofs.Ytnojbjconiddoaa
open Go.ChangeShapes Go.WideShapes Go.ChangeAt Go.RowKit Fld Aes
set_option linter.unusedSimpArgs false

structure CB2 (w : World) (C R : Nat) (W : List Nat) (B : Nat) (p q : List Nat) : Prop where
  c : CiphAt w C W R
  p : Blk w B 22 (p.map vb).toArray
  q : Blk w (B + 1) 22 (q.map vb).toArray
theorem CB2.below {w w' : World} {C R : Nat} {W : List Nat} {B : Nat} {p q : List Nat} (h : CB2 w C R W B p q) (hb : Below w.heap.size w w') : CB2 w' C R W B p q := ⟨h.c.below hb, h.p.below hb h.p.lt, h.q.below hb h.q.lt⟩
theorem CB2.drew {w : World} {C R : Nat} {W : List Nat} {B : Nat} {p q : List Nat} (h : CB2 w C R W B p q) : CB2 w.drew C R W B p q := h.below (nu_drew (nu_refl w))
set_option maxRecDepth 100000 in
set_option maxHeartbeats 4000000 in
theorem aesApart_walk (a : Option Addr) (len cap : Nat) (xs : List Nat) (p q : List Nat) (hp : St16 p) (hq : St16 q) (w : World) (hx : BytesIn w a len cap xs) :
    Calls Try.prog 13 #[.slice a len cap, .agg (p.map vb).toArray, .agg (q.map vb).toArray] w fun e w' => e = .returned (.bool true) ∧ Below w.heap.size w w' := by
  have Hal := Lib.hid (nu_alloc (nu_alloc (nu_refl w) (.cells (p.map vb).toArray 22)) (.cells (q.map vb).toArray 22))
  have HP1 := Lib.hid ((Blk.made w 22 (p.map vb).toArray).alloc (.cells (q.map vb).toArray 22))
  have HQ1 := Lib.hid (Blk.made1 w (.cells (p.map vb).toArray 22) 22 (q.map vb).toArray)
  have Hp := Lib.hid hp
  have Hp16 := Lib.hid hp.1
  have Hq := Lib.hid hq
  have Hq16 := Lib.hid hq.1
  by_cases hL : len = 16 ∨ len = 32
  · have hx1 := hx.keep Hal.out
    have hxs : ∀ x ∈ xs, x < 256 := fun x h => wf_u8_lt (hx.1.2.1 x h)
    have hxl : xs.length = len := hx.1.1
    have HNw := Lib.hid (new_good hL hx1)
    obtain ⟨Ws, hWs⟩ : ∃ Ws, Ws = expand xs := ⟨_, rfl⟩
    obtain ⟨R, hR⟩ : ∃ R, R = xs.length / 4 + 6 := ⟨_, rfl⟩
    have HK := Lib.hid (show Keyed Ws R by rw [hWs, hR]; exact keyed_of hxs (by rw [hxl]; exact hL))
    have HWR := Lib.hid (And.intro hWs hR)
    obtain ⟨E, hE⟩ : ∃ E, E = enc Ws R p := ⟨_, rfl⟩
    obtain ⟨F, hF⟩ : ∃ F, F = enc Ws R q := ⟨_, rfl⟩
    obtain ⟨D, hD⟩ : ∃ D, D = dec Ws R p := ⟨_, rfl⟩
    obtain ⟨G, hG⟩ : ∃ G, G = dec Ws R q := ⟨_, rfl⟩
    have HE := Lib.hid (show E.length = 16 by rw [hE]; exact (enc_st p Ws R).1)
    have HF := Lib.hid (show F.length = 16 by rw [hF]; exact (enc_st q Ws R).1)
    have HD := Lib.hid (show D.length = 16 by rw [hD]; exact (dec_st hp Ws R).1)
    have HG := Lib.hid (show G.length = 16 by rw [hG]; exact (dec_st hq Ws R).1)
    have HEe := Lib.hid hE.symm
    have HFe := Lib.hid hF.symm
    have HDe := Lib.hid hD.symm
    have HGe := Lib.hid hG.symm
    obtain ⟨v, hv⟩ : ∃ v, v = decide (p = q) := ⟨_, rfl⟩
    have Hv := Lib.hid hv.symm
    have HEF := Lib.hid (show decide (E = F) = v by
      rw [hv, decide_eq_decide, hE, hF]
      exact ⟨enc_inj hp hq Ws R HK.out.pos, fun h => by rw [h]⟩)
    have HDG := Lib.hid (show decide (D = G) = v by
      rw [hv, decide_eq_decide, hD, hG]
      exact ⟨dec_inj hp hq Ws R HK.out.pos, fun h => by rw [h]⟩)
    clear hx hx1 hxs hxl hWs hR hE hF hD hG hL hp hq hv
    go_enter Try.func13, Try.ntmps13
    go_upto_region 1 with fail
    generalize (w.alloc (.cells (p.map vb).toArray 22)).alloc (.cells (q.map vb).toArray 22) = w1 at *
    obtain ⟨B, hB⟩ : ∃ B, B = w.heap.size := ⟨_, rfl⟩
    rw [← hB] at HP1 HQ1
    rw [← hB]
    clear hB
    go_wp2_with fail
    refine HNw.out.mono ?_
    rintro e w2 ⟨C, rfl, hC, hb2⟩
    have HS2 := Lib.hid (show CB2 w2 C R Ws B p q from ⟨by rw [HWR.out.1, HWR.out.2]; exact hC, HP1.out.below hb2 HP1.out.lt, HQ1.out.below hb2 HQ1.out.lt⟩)
    have hn2 := nu_trans Hal.out hb2
    clear hC hb2 HNw Hal HP1 HQ1
    go_wp2_with fail
    refine wp_region_held_drew (S := fun W => CB2 W C R Ws B p q) (by kernel_rfl) (HS2.out.drew) (fun hHeld => ?_)
    dsimp only [Array.replicate, List.replicate, List.size_toArray, List.length_cons, List.length_nil, Nat.reduceAdd] at hHeld ⊢
    have HS3 := Lib.hid hHeld
    have hn3 := nu_drew hn2
    clear HS2 hn2
    generalize w2.drew = w3 at *
    refine take_l (i := 0) rfl (by kernel_rfl) (by kernel_rfl) (by kernel_rfl) (fun _ _ _ h => h) (Or.inl ⟨by rfl, fun W hS => e16_load (CB2.p hS) Hp16.out (.tmp 4) rfl rfl⟩) (by assumption) ?_
    simp only [Act.put, List.setIfInBounds_toArray, List.set_cons_zero, List.set_cons_succ]
    refine take_l (i := 1) rfl (by kernel_rfl) (by kernel_rfl) (by kernel_rfl) (fun _ _ _ h => h) (Or.inl ⟨by rfl, fun W hS => e16_load (CB2.q hS) Hq16.out (.tmp 5) rfl rfl⟩) (by assumption) ?_
    simp only [Act.put, List.setIfInBounds_toArray, List.set_cons_zero, List.set_cons_succ]
    refine take_l (i := 2) rfl (by kernel_rfl) (by kernel_rfl) (by kernel_rfl) (fun _ _ _ h => h) (Or.inl ⟨by rfl, fun W _ => e16_eql p q v Hv.out Hp16.out Hq16.out (.tmp 17) (.tmp 18) rfl rfl rfl⟩) (by assumption) ?_
    simp only [Act.put, List.setIfInBounds_toArray, List.set_cons_zero, List.set_cons_succ]
    refine take_l (i := 3) (v := ?_) rfl (by kernel_rfl) (by kernel_rfl) (by kernel_rfl) (fun _ _ _ h => h) (Or.inl ⟨by rfl, ?_⟩) (by assumption) ?_
    case refine_2 => (intro _ _; go_simp; all_goals with_reducible rfl)
    simp only [Act.put, List.setIfInBounds_toArray, List.set_cons_zero, List.set_cons_succ]
    refine take_l (i := 4) rfl (by kernel_rfl) (by kernel_rfl) (by kernel_rfl) (fun _ _ _ h => h) (Or.inl ⟨by rfl, fun W hS => e16_load (CB2.p hS) Hp16.out (.tmp 4) rfl rfl⟩) (by assumption) ?_
    simp only [Act.put, List.setIfInBounds_toArray, List.set_cons_zero, List.set_cons_succ]
    refine take_l (i := 6) (v := ?_) rfl (by kernel_rfl) (by kernel_rfl) (by kernel_rfl) (fun _ _ _ h => h) (Or.inl ⟨by rfl, ?_⟩) (by assumption) ?_
    case refine_2 => (intro _ _; go_simp; all_goals with_reducible rfl)
    simp only [Act.put, List.setIfInBounds_toArray, List.set_cons_zero, List.set_cons_succ]
    refine take_l (i := 7) rfl (by kernel_rfl) (by kernel_rfl) (by kernel_rfl) (fun _ _ _ h => h) (Or.inl ⟨by rfl, fun W hS => e16_load (CB2.q hS) Hq16.out (.tmp 5) rfl rfl⟩) (by assumption) ?_
    simp only [Act.put, List.setIfInBounds_toArray, List.set_cons_zero, List.set_cons_succ]
    clear hHeld
    refine wpAnyH_ready (rs := [5]) (by kernel_rfl) (by simp) ?_
    refine cons_l rfl (fun K hK => ?_) AllReadyH.nil
    go_simp
    go_at_call 29
    refine (enc_call HS3.out.c HK.out Hp.out HEe.out).mono ?_
    rintro e w4 ⟨rfl, hb4⟩
    have HS4 := Lib.hid (HS3.out.below hb4)
    have hn4 := nu_trans hn3 hb4
    clear hb4 HS3 hn3
    go_wp2_with fail
    refine hK.out _ _ HS4.out (fun hHeld => ?_)
    clear hK K hHeld
    simp only [Act.put, List.setIfInBounds_toArray, List.set_cons_zero, List.set_cons_succ]
    have hHeld := HS4.out
    clear hHeld
    refine wpAnyH_ready (rs := [8]) (by kernel_rfl) (by simp) ?_
    refine cons_l rfl (fun K hK => ?_) AllReadyH.nil
    go_simp
    go_at_call 29
    refine (enc_call HS4.out.c HK.out Hq.out HFe.out).mono ?_
    rintro e w5 ⟨rfl, hb5⟩
    have HS5 := Lib.hid (HS4.out.below hb5)
    have hn5 := nu_trans hn4 hb5
    clear hb5 HS4 hn4
    go_wp2_with fail
    refine hK.out _ _ HS5.out (fun hHeld => ?_)
    clear hK K hHeld
    simp only [Act.put, List.setIfInBounds_toArray, List.set_cons_zero, List.set_cons_succ]
    have hHeld := HS5.out
    refine take_l (i := 9) rfl (by kernel_rfl) (by kernel_rfl) (by kernel_rfl) (fun _ _ _ h => h) (Or.inl ⟨by rfl, fun W _ => e16_eql E F v HEF.out HE.out HF.out (.tmp 22) (.tmp 25) rfl rfl rfl⟩) (by assumption) ?_
    simp only [Act.put, List.setIfInBounds_toArray, List.set_cons_zero, List.set_cons_succ]
    refine take_l (i := 10) rfl (by kernel_rfl) (by kernel_rfl) (by kernel_rfl) (fun _ _ _ h => h) (Or.inl ⟨by rfl, fun W _ => exec_eqb v (.tmp 19) (.tmp 26) rfl rfl rfl⟩) (by assumption) ?_
    simp only [Act.put, List.setIfInBounds_toArray, List.set_cons_zero, List.set_cons_succ]
    refine take_l (i := 11) (v := ?_) rfl (by kernel_rfl) (by kernel_rfl) (by kernel_rfl) (fun _ _ _ h => h) (Or.inl ⟨by rfl, ?_⟩) (by assumption) ?_
    case refine_2 => (intro _ _; go_simp; all_goals with_reducible rfl)
    simp only [Act.put, List.setIfInBounds_toArray, List.set_cons_zero, List.set_cons_succ]
    refine take_l (i := 12) rfl (by kernel_rfl) (by kernel_rfl) (by kernel_rfl) (fun _ _ _ h => h) (Or.inl ⟨by rfl, fun W hS => e16_load (CB2.p hS) Hp16.out (.tmp 4) rfl rfl⟩) (by assumption) ?_
    simp only [Act.put, List.setIfInBounds_toArray, List.set_cons_zero, List.set_cons_succ]
    refine take_l (i := 13) rfl (by kernel_rfl) (by kernel_rfl) (by kernel_rfl) (fun _ _ _ h => h) (Or.inl ⟨by rfl, fun W hS => e16_load (CB2.q hS) Hq16.out (.tmp 5) rfl rfl⟩) (by assumption) ?_
    simp only [Act.put, List.setIfInBounds_toArray, List.set_cons_zero, List.set_cons_succ]
    refine take_l (i := 14) rfl (by kernel_rfl) (by kernel_rfl) (by kernel_rfl) (fun _ _ _ h => h) (Or.inl ⟨by rfl, fun W _ => e16_eql p q v Hv.out Hp16.out Hq16.out (.tmp 29) (.tmp 30) rfl rfl rfl⟩) (by assumption) ?_
    simp only [Act.put, List.setIfInBounds_toArray, List.set_cons_zero, List.set_cons_succ]
    refine take_l (i := 15) (v := ?_) rfl (by kernel_rfl) (by kernel_rfl) (by kernel_rfl) (fun _ _ _ h => h) (Or.inl ⟨by rfl, ?_⟩) (by assumption) ?_
    case refine_2 => (intro _ _; go_simp; all_goals with_reducible rfl)
    simp only [Act.put, List.setIfInBounds_toArray, List.set_cons_zero, List.set_cons_succ]
    refine take_l (i := 16) rfl (by kernel_rfl) (by kernel_rfl) (by kernel_rfl) (fun _ _ _ h => h) (Or.inl ⟨by rfl, fun W hS => e16_load (CB2.p hS) Hp16.out (.tmp 4) rfl rfl⟩) (by assumption) ?_
    simp only [Act.put, List.setIfInBounds_toArray, List.set_cons_zero, List.set_cons_succ]
    refine take_l (i := 18) (v := ?_) rfl (by kernel_rfl) (by kernel_rfl) (by kernel_rfl) (fun _ _ _ h => h) (Or.inl ⟨by rfl, ?_⟩) (by assumption) ?_
    case refine_2 => (intro _ _; go_simp; all_goals with_reducible rfl)
    simp only [Act.put, List.setIfInBounds_toArray, List.set_cons_zero, List.set_cons_succ]
    refine take_l (i := 19) rfl (by kernel_rfl) (by kernel_rfl) (by kernel_rfl) (fun _ _ _ h => h) (Or.inl ⟨by rfl, fun W hS => e16_load (CB2.q hS) Hq16.out (.tmp 5) rfl rfl⟩) (by assumption) ?_
    simp only [Act.put, List.setIfInBounds_toArray, List.set_cons_zero, List.set_cons_succ]
    clear hHeld
    refine wpAnyH_ready (rs := [17]) (by kernel_rfl) (by simp) ?_
    refine cons_l rfl (fun K hK => ?_) AllReadyH.nil
    go_simp
    go_at_call 32
    refine (dec_call HS5.out.c HK.out Hp.out HDe.out).mono ?_
    rintro e w6 ⟨rfl, hb6⟩
    have HS6 := Lib.hid (HS5.out.below hb6)
    have hn6 := nu_trans hn5 hb6
    clear hb6 HS5 hn5
    go_wp2_with fail
    refine hK.out _ _ HS6.out (fun hHeld => ?_)
    clear hK K hHeld
    simp only [Act.put, List.setIfInBounds_toArray, List.set_cons_zero, List.set_cons_succ]
    have hHeld := HS6.out
    clear hHeld
    refine wpAnyH_ready (rs := [20]) (by kernel_rfl) (by simp) ?_
    refine cons_l rfl (fun K hK => ?_) AllReadyH.nil
    go_simp
    go_at_call 32
    refine (dec_call HS6.out.c HK.out Hq.out HGe.out).mono ?_
    rintro e w7 ⟨rfl, hb7⟩
    have HS7 := Lib.hid (HS6.out.below hb7)
    have hn7 := nu_trans hn6 hb7
    clear hb7 HS6 hn6
    go_wp2_with fail
    refine hK.out _ _ HS7.out (fun hHeld => ?_)
    clear hK K hHeld
    simp only [Act.put, List.setIfInBounds_toArray, List.set_cons_zero, List.set_cons_succ]
    have hHeld := HS7.out
    refine take_l (i := 21) rfl (by kernel_rfl) (by kernel_rfl) (by kernel_rfl) (fun _ _ _ h => h) (Or.inl ⟨by rfl, fun W _ => e16_eql D G v HDG.out HD.out HG.out (.tmp 34) (.tmp 37) rfl rfl rfl⟩) (by assumption) ?_
    simp only [Act.put, List.setIfInBounds_toArray, List.set_cons_zero, List.set_cons_succ]
    refine take_l (i := 22) rfl (by kernel_rfl) (by kernel_rfl) (by kernel_rfl) (fun _ _ _ h => h) (Or.inl ⟨by rfl, fun W _ => exec_eqb v (.tmp 31) (.tmp 38) rfl rfl rfl⟩) (by assumption) ?_
    simp only [Act.put, List.setIfInBounds_toArray, List.set_cons_zero, List.set_cons_succ]
    refine take_l (i := 23) (v := ?_) rfl (by kernel_rfl) (by kernel_rfl) (by kernel_rfl) (fun _ _ _ h => h) (Or.inl ⟨by rfl, ?_⟩) (by assumption) ?_
    case refine_2 => (intro _ _; go_simp; all_goals with_reducible rfl)
    simp only [Act.put, List.setIfInBounds_toArray, List.set_cons_zero, List.set_cons_succ]
    refine take_l (i := 24) (v := ?_) rfl (by kernel_rfl) (by kernel_rfl) (by kernel_rfl) (fun _ _ _ h => h) (Or.inl ⟨by rfl, ?_⟩) (by assumption) ?_
    case refine_2 => (intro _ _; go_simp; all_goals with_reducible rfl)
    simp only [Act.put, List.setIfInBounds_toArray, List.set_cons_zero, List.set_cons_succ]
    clear hHeld
    refine wpAnyH_ready (rs := [25]) (by kernel_rfl) (by simp) ?_
    refine cons_l rfl (fun K hK => ?_) AllReadyH.nil
    go_simp
    go_at_call 28
    refine (awake6 w7).mono ?_
    rintro e w8 ⟨rfl, hb8⟩
    have HS8 := Lib.hid (HS7.out.below hb8)
    have hn8 := nu_trans hn7 hb8
    clear hb8 HS7 hn7
    go_wp2_with fail
    refine hK.out _ _ HS8.out (fun hHeld => ?_)
    clear hK K hHeld
    simp only [Act.put, List.setIfInBounds_toArray, List.set_cons_zero, List.set_cons_succ]
    have hHeld := HS8.out
    refine take_l (i := 26) (v := ?_) rfl (by kernel_rfl) (by kernel_rfl) (by kernel_rfl) (fun _ _ _ h => h) (Or.inl ⟨by rfl, ?_⟩) (by assumption) ?_
    case refine_2 => (intro _ _; go_simp; all_goals with_reducible rfl)
    simp only [Act.put, List.setIfInBounds_toArray, List.set_cons_zero, List.set_cons_succ]
    refine take_l (i := 27) (v := ?_) rfl (by kernel_rfl) (by kernel_rfl) (by kernel_rfl) (fun _ _ _ h => h) (Or.inl ⟨by rfl, ?_⟩) (by assumption) ?_
    case refine_2 => (intro _ _; go_simp; all_goals with_reducible rfl)
    simp only [Act.put, List.setIfInBounds_toArray, List.set_cons_zero, List.set_cons_succ]
    refine wpAnyH_done (by kernel_rfl) ?_ _
    go_wp2_with fail
    go_ret
    exact ⟨rfl, hn8⟩
  · have HNw := Lib.hid (aesNew_bad a len cap ((w.alloc (.cells (p.map vb).toArray 22)).alloc (.cells (q.map vb).toArray 22)) (by omega) (by omega))
    clear hx hL hp hq
    go_enter Try.func13, Try.ntmps13
    go_wp2_with fail
    refine HNw.out.mono ?_
    rintro e w2 ⟨rfl, rfl⟩
    go_wp2_with fail
    refine (awake6 _).mono ?_
    rintro e w3 ⟨rfl, hb3⟩
    have hn3 := nu_trans Hal.out hb3
    go_wp2_with fail
    go_ret
    exact ⟨rfl, hn3⟩
end Go.Proofs.Ytnojbjconiddoaa
