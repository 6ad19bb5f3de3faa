/-
  The walk of GhashTimes.
-/
import Derived.Test.YtnojbjconiddoaaGh15
import Derived.Test.YtnojbjconiddoaaBlockO
namespace Go.Proofs.Ytnojbjconiddoaa
open Go.ChangeShapes Go.WideShapes Go.ChangeAt Go.RowKit

theorem ref_times_is {xa xb D : List Nat} (hD : bytB (Gh.mul (polB xb) (polB xa)) = D) (hla : xa.length = 16) (hlb : xb.length = 16) (hxa : ∀ x ∈ xa, x < 256) (hxb : ∀ x ∈ xb, x < 256) (w : World) :
    Calls Try.prog 16 #[.agg (xa.map vb).toArray, .agg (xb.map vb).toArray] w fun e w' => e = .returned (.agg (D.map vb).toArray) ∧ Below w.heap.size w w' := by
  rw [← hD]
  exact ref_times xa xb hla hlb hxa hxb w
set_option maxRecDepth 100000 in
set_option maxHeartbeats 1000000 in
theorem ghashTimes_walk (xa xb : List Nat) (hla : xa.length = 16) (hlb : xb.length = 16) (hxa : ∀ x ∈ xa, x < 256) (hxb : ∀ x ∈ xb, x < 256) (w : World) :
    Calls Try.prog 3 #[.agg (xa.map vb).toArray, .agg (xb.map vb).toArray] w fun e w' => e = .returned (.bool true) ∧ Below w.heap.size w w' := by
  have Hxa := Lib.hid hla
  have Hxb := Lib.hid hlb
  have Hxax := Lib.hid hxa
  have Hxbx := Lib.hid hxb
  obtain ⟨D, hD⟩ : ∃ D, bytB (Gh.mul (polB xb) (polB xa)) = D := ⟨_, rfl⟩
  have HD := Lib.hid hD
  have HDl := Lib.hid (show D.length = 16 by rw [← hD, bytB_len])
  have HS1 := Lib.hid (show Blk ((w.alloc (.cells (xa.map vb).toArray 22)).alloc (.cells (xb.map vb).toArray 22)) w.heap.size 22 (xa.map vb).toArray ∧ Blk ((w.alloc (.cells (xa.map vb).toArray 22)).alloc (.cells (xb.map vb).toArray 22)) (w.heap.size + 1) 22 (xb.map vb).toArray from
    ⟨(Blk.made w _ _).alloc _, Blk.made1 w _ _ _⟩)
  have hn1 := nu_alloc (nu_alloc (nu_refl w) (.cells (xa.map vb).toArray 22)) (.cells (xb.map vb).toArray 22)
  clear hla hlb hxa hxb hD
  go_enter Try.func3, Try.ntmps3
  go_upto_region 1 with fail
  generalize (w.alloc (.cells (xa.map vb).toArray 22)).alloc (.cells (xb.map vb).toArray 22) = w1 at *
  refine wp_region_held_drew (S := fun W => Blk W w.heap.size 22 (xa.map vb).toArray ∧ Blk W (w.heap.size + 1) 22 (xb.map vb).toArray) (by kernel_rfl) (⟨HS1.out.1.drew, HS1.out.2.drew⟩) (fun hHeld => ?_)
  dsimp only [Array.replicate, List.replicate, List.size_toArray, List.length_cons, List.length_nil, Nat.reduceAdd] at hHeld ⊢
  have HS2 := Lib.hid hHeld
  have hn2 := nu_drew hn1
  clear HS1 hn1
  refine take_l (i := 0) rfl (by kernel_rfl) (by kernel_rfl) (by kernel_rfl) (fun _ _ _ h => h) (Or.inl ⟨by rfl, fun W hS => exec_load_mid (P := Try.prog) (w := W) 22 (.tmp 2) (w.heap.size) 0 (xa.map vb) (.array 16 5) rfl rfl (range_mid hS.1 (l := []) (r := []) (by simp) rfl) (by kernel_rfl) rfl (by rw [List.length_map, Hxa.out]; kernel_rfl)⟩) (by assumption) ?_
  simp only [Act.put, List.setIfInBounds_toArray, List.set_cons_zero, List.set_cons_succ]
  refine take_l (i := 1) rfl (by kernel_rfl) (by kernel_rfl) (by kernel_rfl) (fun _ _ _ h => h) (Or.inl ⟨by rfl, fun W hS => exec_load_mid (P := Try.prog) (w := W) 22 (.tmp 3) (w.heap.size + 1) 0 (xb.map vb) (.array 16 5) rfl rfl (range_mid hS.2 (l := []) (r := []) (by simp) rfl) (by kernel_rfl) rfl (by rw [List.length_map, Hxb.out]; kernel_rfl)⟩) (by assumption) ?_
  simp only [Act.put, List.setIfInBounds_toArray, List.set_cons_zero, List.set_cons_succ]
  refine take_l (i := 3) rfl (by kernel_rfl) (by kernel_rfl) (by kernel_rfl) (fun _ _ _ h => h) (Or.inl ⟨by rfl, fun W hS => exec_load_mid (P := Try.prog) (w := W) 22 (.tmp 2) (w.heap.size) 0 (xa.map vb) (.array 16 5) rfl rfl (range_mid hS.1 (l := []) (r := []) (by simp) rfl) (by kernel_rfl) rfl (by rw [List.length_map, Hxa.out]; kernel_rfl)⟩) (by assumption) ?_
  simp only [Act.put, List.setIfInBounds_toArray, List.set_cons_zero, List.set_cons_succ]
  refine take_l (i := 4) rfl (by kernel_rfl) (by kernel_rfl) (by kernel_rfl) (fun _ _ _ h => h) (Or.inl ⟨by rfl, fun W hS => exec_load_mid (P := Try.prog) (w := W) 22 (.tmp 3) (w.heap.size + 1) 0 (xb.map vb) (.array 16 5) rfl rfl (range_mid hS.2 (l := []) (r := []) (by simp) rfl) (by kernel_rfl) rfl (by rw [List.length_map, Hxb.out]; kernel_rfl)⟩) (by assumption) ?_
  simp only [Act.put, List.setIfInBounds_toArray, List.set_cons_zero, List.set_cons_succ]
  clear hHeld
  generalize w1.drew = w2 at *
  refine wpAnyH_ready (rs := [2]) (by kernel_rfl) (by simp) ?_
  refine cons_l rfl (fun K hK => ?_) AllReadyH.nil
  go_simp
  go_at_call 15
  refine (gh_prod_is HD.out Hxa.out Hxb.out Hxax.out Hxbx.out w2).mono ?_
  rintro e w3 ⟨rfl, hb3⟩
  have HS3 := Lib.hid (show Blk w3 w.heap.size 22 (xa.map vb).toArray ∧ Blk w3 (w.heap.size + 1) 22 (xb.map vb).toArray from ⟨Blk.below HS2.out.1 hb3 (Blk.lt HS2.out.1), Blk.below HS2.out.2 hb3 (Blk.lt HS2.out.2)⟩)
  have hn3 := nu_trans hn2 hb3
  clear hb3 HS2 hn2
  go_wp2_with fail
  refine hK.out _ _ HS3.out (fun hHeld => ?_)
  clear hK K hHeld
  simp only [Act.put, List.setIfInBounds_toArray, List.set_cons_zero, List.set_cons_succ]
  refine wpAnyH_ready (rs := [5]) (by kernel_rfl) (by simp) ?_
  refine cons_l rfl (fun K hK => ?_) AllReadyH.nil
  go_simp
  go_at_call 16
  refine (ref_times_is HD.out Hxa.out Hxb.out Hxax.out Hxbx.out w3).mono ?_
  rintro e w4 ⟨rfl, hb4⟩
  have HS4 := Lib.hid (show Blk w4 w.heap.size 22 (xa.map vb).toArray ∧ Blk w4 (w.heap.size + 1) 22 (xb.map vb).toArray from ⟨Blk.below HS3.out.1 hb4 (Blk.lt HS3.out.1), Blk.below HS3.out.2 hb4 (Blk.lt HS3.out.2)⟩)
  have hn4 := nu_trans hn3 hb4
  clear hb4 HS3 hn3
  go_wp2_with fail
  refine hK.out _ _ HS4.out (fun hHeld => ?_)
  clear hK K hHeld
  simp only [Act.put, List.setIfInBounds_toArray, List.set_cons_zero, List.set_cons_succ]
  have hHeld := HS4.out
  refine take_l (i := 6) rfl (by kernel_rfl) (by kernel_rfl) (by kernel_rfl) (fun _ _ _ h => h) (Or.inl ⟨by rfl, fun W _ => exec_same_16 D HDl.out (.tmp 7) (.tmp 10) rfl rfl rfl⟩) (by assumption) ?_
  simp only [Act.put, List.setIfInBounds_toArray, List.set_cons_zero, List.set_cons_succ]
  refine take_l (i := 7) (v := ?_) rfl (by kernel_rfl) (by kernel_rfl) (by kernel_rfl) (fun _ _ _ h => h) (Or.inl ⟨by rfl, ?_⟩) (by assumption) ?_
  case refine_2 => (intro _ _; go_simp; all_goals with_reducible rfl)
  simp only [Act.put, List.setIfInBounds_toArray, List.set_cons_zero, List.set_cons_succ]
  clear hHeld
  refine wpAnyH_ready (rs := [8]) (by kernel_rfl) (by simp) ?_
  refine cons_l rfl (fun K hK => ?_) AllReadyH.nil
  go_simp
  go_at_call 17
  refine (awake7 w4).mono ?_
  rintro e w5 ⟨rfl, hb5⟩
  have HS5 := Lib.hid (show Blk w5 w.heap.size 22 (xa.map vb).toArray ∧ Blk w5 (w.heap.size + 1) 22 (xb.map vb).toArray from ⟨Blk.below HS4.out.1 hb5 (Blk.lt HS4.out.1), Blk.below HS4.out.2 hb5 (Blk.lt HS4.out.2)⟩)
  have hn5 := nu_trans hn4 hb5
  clear hb5 HS4 hn4
  go_wp2_with fail
  refine hK.out _ _ HS5.out (fun hHeld => ?_)
  clear hK K hHeld
  simp only [Act.put, List.setIfInBounds_toArray, List.set_cons_zero, List.set_cons_succ]
  have hHeld := HS5.out
  refine take_l (i := 9) (v := ?_) rfl (by kernel_rfl) (by kernel_rfl) (by kernel_rfl) (fun _ _ _ h => h) (Or.inl ⟨by rfl, ?_⟩) (by assumption) ?_
  case refine_2 => (intro _ _; go_simp; all_goals with_reducible rfl)
  simp only [Act.put, List.setIfInBounds_toArray, List.set_cons_zero, List.set_cons_succ]
  refine take_l (i := 10) (v := ?_) rfl (by kernel_rfl) (by kernel_rfl) (by kernel_rfl) (fun _ _ _ h => h) (Or.inl ⟨by rfl, ?_⟩) (by assumption) ?_
  case refine_2 => (intro _ _; go_simp; all_goals with_reducible rfl)
  simp only [Act.put, List.setIfInBounds_toArray, List.set_cons_zero, List.set_cons_succ]
  refine wpAnyH_done (by kernel_rfl) ?_ _
  go_wp2_with fail
  go_ret
  exact ⟨rfl, hn5⟩
end Go.Proofs.Ytnojbjconiddoaa
