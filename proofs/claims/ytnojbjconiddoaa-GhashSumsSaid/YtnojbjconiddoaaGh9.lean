/-
  The walk of ghash.Times.
-/
import Derived.Test.YtnojbjconiddoaaGh8
import Derived.Test.YtnojbjconiddoaaStepB
namespace Go.Proofs.Ytnojbjconiddoaa
open Go.ChangeShapes Go.WideShapes Go.ChangeAt Go.RowKit

set_option maxRecDepth 100000 in
set_option maxHeartbeats 1000000 in
theorem gh_prod (xa xb : List Nat) (hla : xa.length = 16) (hlb : xb.length = 16) (hxa : ∀ x ∈ xa, x < 256) (hxb : ∀ x ∈ xb, x < 256) (w : World) :
    Calls Try.prog 15 #[.agg (xa.map vb).toArray, .agg (xb.map vb).toArray] w fun e w' => e = .returned (.agg ((bytB (Gh.mul (polB xb) (polB xa))).map vb).toArray) ∧ Below w.heap.size w w' := by
  have Hxa := Lib.hid hla
  have Hxb := Lib.hid hlb
  have Hxax := Lib.hid hxa
  have Hxbx := Lib.hid hxb
  have HS1 := Lib.hid (show Blk (((w.alloc (.cells (xa.map vb).toArray 22)).alloc (.cells (xb.map vb).toArray 22)).alloc (.cells z16 22)) w.heap.size 22 (xa.map vb).toArray ∧ Blk (((w.alloc (.cells (xa.map vb).toArray 22)).alloc (.cells (xb.map vb).toArray 22)).alloc (.cells z16 22)) (w.heap.size + 1) 22 (xb.map vb).toArray ∧ Blk (((w.alloc (.cells (xa.map vb).toArray 22)).alloc (.cells (xb.map vb).toArray 22)).alloc (.cells z16 22)) (w.heap.size + 1 + 1) 22 z16 ∧ Below w.heap.size w (((w.alloc (.cells (xa.map vb).toArray 22)).alloc (.cells (xb.map vb).toArray 22)).alloc (.cells z16 22)) from
    ⟨((Blk.made w _ _).alloc _).alloc _, (Blk.made1 w _ _ _).alloc _, Blk.made2 w _ _ _ _, nu_alloc (nu_alloc (nu_alloc (nu_refl w) _) _) _⟩)
  clear hla hlb hxa hxb
  go_enter Try.func15, Try.ntmps15
  go_upto_region 1 with fail
  generalize ((w.alloc (.cells (xa.map vb).toArray 22)).alloc (.cells (xb.map vb).toArray 22)).alloc (.cells z16 22) = w1 at *
  refine wp_region_held_drew (S := fun W => Blk W w.heap.size 22 (xa.map vb).toArray ∧ Blk W (w.heap.size + 1) 22 (xb.map vb).toArray) (by kernel_rfl) (⟨HS1.out.1.drew, HS1.out.2.1.drew⟩) (fun hHeld => ?_)
  dsimp only [Array.replicate, List.replicate, List.size_toArray, List.length_cons, List.length_nil, Nat.reduceAdd] at hHeld ⊢
  have HS2 := Lib.hid hHeld
  have HR2 := Lib.hid HS1.out.2.2.1.drew
  have Hn2 := Lib.hid HS1.out.2.2.2.drew
  clear HS1
  refine take_l (i := 0) rfl (by kernel_rfl) (by kernel_rfl) (by kernel_rfl) (fun _ _ _ h => h) (Or.inl ⟨by rfl, fun W hS => exec_load_mid (P := Try.prog) (w := W) 22 (.tmp 3) (w.heap.size + 1) 0 (xb.map vb) (.array 16 5) rfl rfl (range_mid hS.2 (l := []) (r := []) (by simp) rfl) (by kernel_rfl) rfl (by rw [List.length_map, Hxb.out]; kernel_rfl)⟩) (by assumption) ?_
  simp only [Act.put, List.setIfInBounds_toArray, List.set_cons_zero, List.set_cons_succ]
  refine take_l (i := 2) rfl (by kernel_rfl) (by kernel_rfl) (by kernel_rfl) (fun _ _ _ h => h) (Or.inl ⟨by rfl, fun W hS => exec_load_mid (P := Try.prog) (w := W) 22 (.tmp 2) (w.heap.size) 0 (xa.map vb) (.array 16 5) rfl rfl (range_mid hS.1 (l := []) (r := []) (by simp) rfl) (by kernel_rfl) rfl (by rw [List.length_map, Hxa.out]; kernel_rfl)⟩) (by assumption) ?_
  simp only [Act.put, List.setIfInBounds_toArray, List.set_cons_zero, List.set_cons_succ]
  clear hHeld
  generalize w1.drew = w2 at *
  refine wpAnyH_ready (rs := [1]) (by kernel_rfl) (by simp) ?_
  refine cons_l rfl (fun K hK => ?_) AllReadyH.nil
  go_simp
  go_at_call 20
  refine (gh_new xb Hxb.out Hxbx.out w2).mono ?_
  rintro e w3 ⟨g, rfl, _, hk3, hb3⟩
  have hS := HS2.out
  have HS3 := Lib.hid (show Blk w3 w.heap.size 22 (xa.map vb).toArray ∧ Blk w3 (w.heap.size + 1) 22 (xb.map vb).toArray from ⟨Blk.below hS.1 hb3 (Blk.lt hS.1), Blk.below hS.2 hb3 (Blk.lt hS.2)⟩)
  have HR3 := Lib.hid (Blk.below HR2.out hb3 (Blk.lt HR2.out))
  have Hn3 := Lib.hid (nu_trans Hn2.out hb3)
  have HK3 := Lib.hid hk3
  clear hb3 hk3 hS HS2
  go_wp2_with fail
  refine hK.out _ _ HS3.out (fun hHeld => ?_)
  clear hK K hHeld
  simp only [Act.put, List.setIfInBounds_toArray, List.set_cons_zero, List.set_cons_succ]
  refine wpAnyH_ready (rs := [3]) (by kernel_rfl) (by simp) ?_
  refine cons_l rfl (fun K hK => ?_) AllReadyH.nil
  go_simp
  go_at_call 35
  refine (load_any xa Hxa.out Hxax.out w3).mono ?_
  rintro e w4 ⟨rfl, hb4⟩
  have hS := HS3.out
  have HS4 := Lib.hid (show Blk w4 w.heap.size 22 (xa.map vb).toArray ∧ Blk w4 (w.heap.size + 1) 22 (xb.map vb).toArray from ⟨Blk.below hS.1 hb4 (Blk.lt hS.1), Blk.below hS.2 hb4 (Blk.lt hS.2)⟩)
  have HR4 := Lib.hid (Blk.below HR3.out hb4 (Blk.lt HR3.out))
  have Hn4 := Lib.hid (nu_trans Hn3.out hb4)
  have HK4 := Lib.hid (Blk.below HK3.out hb4 (Blk.lt HK3.out))
  clear hb4 hS HS3 HK3
  go_wp2_with fail
  refine hK.out _ _ HS4.out (fun hHeld => ?_)
  clear hK K hHeld
  simp only [Act.put, List.setIfInBounds_toArray, List.set_cons_zero, List.set_cons_succ]
  refine wpAnyH_ready (rs := [4]) (by kernel_rfl) (by simp) ?_
  refine cons_l rfl (fun K hK => ?_) AllReadyH.nil
  go_simp
  go_at_call 34
  refine (gh_times g (polB xb) (polB xa) (polB_lt xb) w4 HK4.out).mono ?_
  rintro e w5 ⟨rfl, hb5⟩
  have hS := HS4.out
  have HS5 := Lib.hid (show Blk w5 w.heap.size 22 (xa.map vb).toArray ∧ Blk w5 (w.heap.size + 1) 22 (xb.map vb).toArray from ⟨Blk.below hS.1 hb5 (Blk.lt hS.1), Blk.below hS.2 hb5 (Blk.lt hS.2)⟩)
  have HR5 := Lib.hid (Blk.below HR4.out hb5 (Blk.lt HR4.out))
  have Hn5 := Lib.hid (nu_trans Hn4.out hb5)
  clear hb5 hS HS4 HK4
  go_wp2_with fail
  refine hK.out _ _ HS5.out (fun hHeld => ?_)
  clear hK K hHeld
  simp only [Act.put, List.setIfInBounds_toArray, List.set_cons_zero, List.set_cons_succ]
  refine wpAnyH_ready (rs := [5]) (by kernel_rfl) (by simp) ?_
  refine cons_l rfl (fun K hK => ?_) AllReadyH.nil
  go_simp
  go_at_call 36
  refine (gh_bytes (Gh.mul (polB xb) (polB xa)) w5).mono ?_
  rintro e w6 ⟨rfl, hb6⟩
  have hS := HS5.out
  have HS6 := Lib.hid (show Blk w6 w.heap.size 22 (xa.map vb).toArray ∧ Blk w6 (w.heap.size + 1) 22 (xb.map vb).toArray from ⟨Blk.below hS.1 hb6 (Blk.lt hS.1), Blk.below hS.2 hb6 (Blk.lt hS.2)⟩)
  have HR6 := Lib.hid (Blk.below HR5.out hb6 (Blk.lt HR5.out))
  have Hn6 := Lib.hid (nu_trans Hn5.out hb6)
  clear hb6 hS HS5
  go_wp2_with fail
  refine hK.out _ _ HS6.out (fun hHeld => ?_)
  clear hK K hHeld
  simp only [Act.put, List.setIfInBounds_toArray, List.set_cons_zero, List.set_cons_succ]
  obtain ⟨E, hE⟩ : ∃ E, E = bytB (Gh.mul (polB xb) (polB xa)) := ⟨_, rfl⟩
  have HE := Lib.hid hE
  rw [← hE]
  have HEl := Lib.hid (show E.length = 16 by rw [hE, bytB_len])
  clear hE
  have hR6 := HR6.out
  have hn6 := Hn6.out
  have HlE := Lib.hid (show (E.map vb).length = z16.size by rw [List.length_map, HEl.out]; rfl)
  have HFE := Lib.hid (Blk.fill hR6 (E.map vb) HlE.out)
  have Hnf := Lib.hid (nu_fill (E.map vb) (g := w.heap.size + 1 + 1) (by omega) 0 _ hn6)
  have HszE := Lib.hid (show (Try.prog.info? 22).map (·.size) = some (E.map vb).toArray.size by rw [List.size_toArray, List.length_map, HEl.out]; kernel_rfl)
  have H1E := Lib.hid (vb_one E)
  clear hR6 hn6
  refine wpAnyH_ready (rs := [6]) (by kernel_rfl) (by simp) ?_
  refine cons_l rfl (fun K hK => ?_) AllReadyH.nil
  refine step_store_blk rfl 22 (.tmp 4) (.tmp 10) rfl (w.heap.size + 1 + 1) (E.map vb) rfl rfl 22 z16 HR6.out HlE.out (by have h := HszE.out; rwa [List.size_toArray] at h) H1E.out ?_
  refine hK.out _ _ ⟨HS6.out.1.farCells _ (by omega) _, HS6.out.2.farCells _ (by omega) _⟩ (fun hHeld => ?_)
  clear hK K hHeld
  simp only [Act.put, List.setIfInBounds_toArray, List.set_cons_zero, List.set_cons_succ]
  refine wpAnyH_done (by kernel_rfl) ?_ _
  go_wp2_with fail
  refine bodyPost_ret (results_blk rfl _ (w.heap.size + 1 + 1) 22 (E.map vb).toArray rfl HFE.out Try.underlying22 HszE.out) rfl ⟨by rw [HE.out], Hnf.out⟩
end Go.Proofs.Ytnojbjconiddoaa
