/-
  The walk of ShaKnown.
-/
import Derived.Test.YtlekepigndlbhaaDoorSha8
import Derived.Test.YtlekepigndlbhaaDoorEq32
namespace Go.Proofs.YtlekepigndlbhaaDoor
open Go.ChangeShapes Go.WideShapes Go.ChangeAt Go.RowKit

theorem none_facts : ∃ D : List Nat, digest [] = D ∧ D.length = 32 ∧ D[0]? = some 227 ∧ D[1]? = some 176 ∧ D[30]? = some 184 ∧ D[31]? = some 85 :=
  ⟨_, dig_none, rfl, rfl, rfl, rfl, rfl⟩
set_option maxRecDepth 100000 in
theorem write_nil (a : Option Addr) (l c : Nat) (w : World) : Calls Tryd.prog 22 #[.pointer none, .slice a l c] w fun e w' => e = .returned (.tuple #[]) ∧ w' = w := by
  go_enter Tryd.func22, Tryd.ntmps22
  go_wp2_with fail
  all_goals first | (refine bodyPost_end (results_none rfl _ _ _) rfl ⟨rfl, rfl⟩) | (refine bodyPost_ret (results_none rfl _ _ _) rfl ⟨rfl, rfl⟩)
set_option maxRecDepth 100000 in
theorem len_nil (w : World) : Calls Tryd.prog 23 #[.pointer none] w fun e w' => e = .returned (.int .i64 0) ∧ Below w.heap.size w w' := by
  go_enter Tryd.func23, Tryd.ntmps23
  go_wp2_with fail
  go_ret
  exact ⟨rfl, nu_refl _⟩
theorem sum_zero {w : World} {base g : Nat} {rv : Value} {D : List Nat} (hD : digest [] = D) (h : SumIs w base g [] 0 rv) (hT : TabIn w) : Calls Tryd.prog 21 #[.pointer (some ⟨g, 0, none⟩)] w fun e w' => e = .returned (.agg (D.map vb).toArray) ∧ Below w.heap.size w w' := by
  rw [← hD]
  exact sum_any h hT rfl (by simp)
theorem of_none {w : World} {D : List Nat} (hD : digest [] = D) (hT : TabIn w) : Calls Tryd.prog 15 #[.slice none 0 0] w fun e w' => e = .returned (.agg (D.map vb).toArray) ∧ Below w.heap.size w w' := by
  have h := shaOf_any (w := w) (a := none) (len := 0) (cap := 0) (ps := []) ⟨rfl, fun h => absurd h (by omega)⟩ hT (by unfold maxLen; omega) (by simp)
  rw [List.flatten_nil, hD] at h
  exact h
set_option maxRecDepth 100000 in
set_option maxHeartbeats 1000000 in
theorem sum_nil {w : World} {D : List Nat} (hD : digest [] = D) (hT : TabIn w) : Calls Tryd.prog 21 #[.pointer none] w fun e w' => e = .returned (.agg (D.map vb).toArray) ∧ Below w.heap.size w w' := by
  have hal := nu_alloc (nu_refl w) (.cells z32 25)
  have HR0 := Lib.hid (Blk.made w 25 z32)
  have HW := Lib.hid (of_none hD (hT.below hal hT.size))
  have HDl := Lib.hid (show D.length = 32 by rw [← hD]; rfl)
  clear hT hD
  go_enter Tryd.func21, Tryd.ntmps21
  go_wp2_with fail
  generalize w.alloc (.cells z32 25) = w0 at *
  refine HW.out.mono ?_
  rintro e w1 ⟨rfl, hb1⟩
  have HR1 := Lib.hid (Blk.below HR0.out hb1 (Blk.lt HR0.out))
  have hn1 := nu_trans hal hb1
  have Hl := Lib.hid (show (D.map vb).length = z32.size by rw [List.length_map, HDl.out]; rfl)
  have Hl2 := Lib.hid (show (Tryd.prog.info? 25).map (·.size) = some (D.map vb).length by rw [List.length_map, HDl.out]; kernel_rfl)
  have Hsz := Lib.hid (show (Tryd.prog.info? 25).map (·.size) = some (D.map vb).toArray.size by rw [List.size_toArray]; exact Hl2.out)
  have HF := Lib.hid (Blk.fill HR1.out (D.map vb) Hl.out)
  have Hnf := Lib.hid (nu_fill (D.map vb) (g := w.heap.size) (Nat.le_refl _) 0 _ hn1)
  clear hn1 hb1 hal HW HR0
  go_wp2_with (refine wpList_store_blk rfl 25 (.tmp 2) (.tmp 10) rfl w.heap.size (D.map vb) rfl rfl 25 z32 HR1.out Hl.out Hl2.out (vb_one _) ?_)
  refine bodyPost_ret (results_blk rfl _ w.heap.size 25 (D.map vb).toArray rfl HF.out Tryd.underlying25 Hsz.out) rfl ⟨rfl, Hnf.out⟩

set_option maxRecDepth 100000 in
set_option maxHeartbeats 4000000 in
theorem shaKnown_walk {w : World} (hT : TabIn w) : Calls Tryd.prog 7 #[] w fun e w' => e = .returned (.bool true) ∧ Below w.heap.size w w' := by
  obtain ⟨D, hD, hDl, d0, d1, d2, d3⟩ := none_facts
  have HD := Lib.hid hD
  have HDl := Lib.hid hDl
  have H0 := Lib.hid (And.intro d0 (And.intro d1 (And.intro d2 d3)))
  have hal := nu_alloc (nu_refl w) (.cells #[.int .u8 1] 5)
  have HT1 := Lib.hid (hT.below hal hT.size)
  clear hD hDl d0 d1 d2 d3 hT
  go_enter Tryd.func7, Tryd.ntmps7
  go_wp2_with fail
  generalize w.alloc (.cells #[.int .u8 1] 5) = w1 at *
  refine (write_nil _ _ _ w1).mono ?_
  rintro e w2 ⟨rfl, rfl⟩
  go_wp2_with fail
  refine (of_none HD.out HT1.out).mono ?_
  rintro e w3 ⟨rfl, hb3⟩
  have hn3 := nu_trans hal hb3
  have HT3 := Lib.hid (HT1.out.below hb3 HT1.out.size)
  have HZ := Lib.hid (Blk.made w3 25 z32)
  have Hl := Lib.hid (show (D.map vb).length = z32.size by rw [List.length_map, HDl.out]; rfl)
  have Hl2 := Lib.hid (show (Tryd.prog.info? 25).map (·.size) = some (D.map vb).length by rw [List.length_map, HDl.out]; kernel_rfl)
  have HF := Lib.hid (Blk.fill HZ.out (D.map vb) Hl.out)
  have hf := nu_fill (D.map vb) (g := w3.heap.size) (Nat.le_refl _) 0 _ (nu_alloc (nu_refl w3) (.cells z32 25))
  clear hal hb3 HT1
  go_upto_region 4 with (refine wpList_store_blk rfl 25 (.tmp 2) (.tmp 6) rfl w3.heap.size (D.map vb) rfl rfl 25 z32 HZ.out Hl.out Hl2.out (vb_one _) ?_)
  generalize (w3.alloc (.cells z32 25)).setCells w3.heap.size 0 (D.map vb) = w4 at *
  have HT4 := Lib.hid (fun (W : World) (hS : Below w4.heap.size w4 W) => (HT3.out.below (nu_trans hf hS) HT3.out.size))
  have hn4 := nu_trans hn3 hf
  generalize w3.heap.size = E at *
  have HE := Lib.hid (fun (W : World) (hS : Below w4.heap.size w4 W) => Blk.below HF.out hS (Blk.lt HF.out))
  clear hf hn3 HZ Hl Hl2 HT3
  refine wp_region_held_drew (S := fun w' => Below w4.heap.size w4 w') (by kernel_rfl) (nu_drew (nu_refl _)) (fun hHeld => ?_)
  dsimp only [Array.replicate, List.replicate, List.size_toArray, List.length_cons, List.length_nil, Nat.reduceAdd] at hHeld ⊢
  refine wpAnyH_ready (rs := [0]) (by kernel_rfl) (by simp) ?_
  refine cons_l rfl (fun K hK => ?_) AllReadyH.nil
  go_simp
  go_at_call 13
  refine (shaAwake_any (HT4.out _ hHeld)).mono ?_
  rintro e v1 ⟨rfl, hv1⟩
  go_wp2_with fail
  refine hK.out _ _ (nu_trans (by assumption) hv1) (fun hHeld => ?_)
  clear hK K hv1
  simp only [Act.put, List.setIfInBounds_toArray, List.set_cons_zero, List.set_cons_succ]
  refine take_l (i := 1) (v := ?_) rfl (by kernel_rfl) (by kernel_rfl) (by kernel_rfl) (fun _ _ _ h => h) (Or.inl ⟨by rfl, ?_⟩) (by assumption) ?_
  case refine_2 => (intro _ _; go_simp; all_goals with_reducible rfl)
  simp only [Act.put, List.setIfInBounds_toArray, List.set_cons_zero, List.set_cons_succ]
  refine take_l (i := 2) (v := ?_) rfl (by kernel_rfl) (by kernel_rfl) (by kernel_rfl) (fun _ _ _ h => h) (Or.inl ⟨by rfl, ?_⟩) (by assumption) ?_
  case refine_2 => (intro _ _; go_simp; all_goals with_reducible rfl)
  simp only [Act.put, List.setIfInBounds_toArray, List.set_cons_zero, List.set_cons_succ]
  refine take_l (i := 3) (v := ?_) rfl (by kernel_rfl) (by kernel_rfl) (by kernel_rfl) (fun _ _ _ h => h) (Or.inl ⟨by rfl, ?_⟩) (by assumption) ?_
  case refine_2 => (intro W hS; have c0 : W.cell? ⟨E, 0, none⟩ = some (.int .u8 227) := Blk.at (HE.out W hS) 0 _ (arr_at D 0 _ H0.out.1); go_simp; all_goals with_reducible rfl)
  simp only [Act.put, List.setIfInBounds_toArray, List.set_cons_zero, List.set_cons_succ]
  refine take_l (i := 4) (v := ?_) rfl (by kernel_rfl) (by kernel_rfl) (by kernel_rfl) (fun _ _ _ h => h) (Or.inl ⟨by rfl, ?_⟩) (by assumption) ?_
  case refine_2 => (intro _ _; go_simp; all_goals with_reducible rfl)
  simp only [Act.put, List.setIfInBounds_toArray, List.set_cons_zero, List.set_cons_succ]
  refine take_l (i := 5) (v := ?_) rfl (by kernel_rfl) (by kernel_rfl) (by kernel_rfl) (fun _ _ _ h => h) (Or.inl ⟨by rfl, ?_⟩) (by assumption) ?_
  case refine_2 => (intro _ _; go_simp; all_goals with_reducible rfl)
  simp only [Act.put, List.setIfInBounds_toArray, List.set_cons_zero, List.set_cons_succ]
  refine take_l (i := 6) (v := ?_) rfl (by kernel_rfl) (by kernel_rfl) (by kernel_rfl) (fun _ _ _ h => h) (Or.inl ⟨by rfl, ?_⟩) (by assumption) ?_
  case refine_2 => (intro _ _; go_simp; all_goals with_reducible rfl)
  simp only [Act.put, List.setIfInBounds_toArray, List.set_cons_zero, List.set_cons_succ]
  refine take_l (i := 7) (v := ?_) rfl (by kernel_rfl) (by kernel_rfl) (by kernel_rfl) (fun _ _ _ h => h) (Or.inl ⟨by rfl, ?_⟩) (by assumption) ?_
  case refine_2 => (intro _ _; go_simp; all_goals with_reducible rfl)
  simp only [Act.put, List.setIfInBounds_toArray, List.set_cons_zero, List.set_cons_succ]
  refine take_l (i := 8) (v := ?_) rfl (by kernel_rfl) (by kernel_rfl) (by kernel_rfl) (fun _ _ _ h => h) (Or.inl ⟨by rfl, ?_⟩) (by assumption) ?_
  case refine_2 => (intro W hS; have c0 : W.cell? ⟨E, 1, none⟩ = some (.int .u8 176) := Blk.at (HE.out W hS) 1 _ (arr_at D 1 _ H0.out.2.1); go_simp; all_goals with_reducible rfl)
  simp only [Act.put, List.setIfInBounds_toArray, List.set_cons_zero, List.set_cons_succ]
  refine take_l (i := 9) (v := ?_) rfl (by kernel_rfl) (by kernel_rfl) (by kernel_rfl) (fun _ _ _ h => h) (Or.inl ⟨by rfl, ?_⟩) (by assumption) ?_
  case refine_2 => (intro _ _; go_simp; all_goals with_reducible rfl)
  simp only [Act.put, List.setIfInBounds_toArray, List.set_cons_zero, List.set_cons_succ]
  refine take_l (i := 10) (v := ?_) rfl (by kernel_rfl) (by kernel_rfl) (by kernel_rfl) (fun _ _ _ h => h) (Or.inl ⟨by rfl, ?_⟩) (by assumption) ?_
  case refine_2 => (intro _ _; go_simp; all_goals with_reducible rfl)
  simp only [Act.put, List.setIfInBounds_toArray, List.set_cons_zero, List.set_cons_succ]
  refine take_l (i := 11) (v := ?_) rfl (by kernel_rfl) (by kernel_rfl) (by kernel_rfl) (fun _ _ _ h => h) (Or.inl ⟨by rfl, ?_⟩) (by assumption) ?_
  case refine_2 => (intro _ _; go_simp; all_goals with_reducible rfl)
  simp only [Act.put, List.setIfInBounds_toArray, List.set_cons_zero, List.set_cons_succ]
  refine take_l (i := 12) (v := ?_) rfl (by kernel_rfl) (by kernel_rfl) (by kernel_rfl) (fun _ _ _ h => h) (Or.inl ⟨by rfl, ?_⟩) (by assumption) ?_
  case refine_2 => (intro _ _; go_simp; all_goals with_reducible rfl)
  simp only [Act.put, List.setIfInBounds_toArray, List.set_cons_zero, List.set_cons_succ]
  refine take_l (i := 13) (v := ?_) rfl (by kernel_rfl) (by kernel_rfl) (by kernel_rfl) (fun _ _ _ h => h) (Or.inl ⟨by rfl, ?_⟩) (by assumption) ?_
  case refine_2 => (intro W hS; have c0 : W.cell? ⟨E, 30, none⟩ = some (.int .u8 184) := Blk.at (HE.out W hS) 30 _ (arr_at D 30 _ H0.out.2.2.1); go_simp; all_goals with_reducible rfl)
  simp only [Act.put, List.setIfInBounds_toArray, List.set_cons_zero, List.set_cons_succ]
  refine take_l (i := 14) (v := ?_) rfl (by kernel_rfl) (by kernel_rfl) (by kernel_rfl) (fun _ _ _ h => h) (Or.inl ⟨by rfl, ?_⟩) (by assumption) ?_
  case refine_2 => (intro _ _; go_simp; all_goals with_reducible rfl)
  simp only [Act.put, List.setIfInBounds_toArray, List.set_cons_zero, List.set_cons_succ]
  refine take_l (i := 15) (v := ?_) rfl (by kernel_rfl) (by kernel_rfl) (by kernel_rfl) (fun _ _ _ h => h) (Or.inl ⟨by rfl, ?_⟩) (by assumption) ?_
  case refine_2 => (intro _ _; go_simp; all_goals with_reducible rfl)
  simp only [Act.put, List.setIfInBounds_toArray, List.set_cons_zero, List.set_cons_succ]
  refine take_l (i := 16) (v := ?_) rfl (by kernel_rfl) (by kernel_rfl) (by kernel_rfl) (fun _ _ _ h => h) (Or.inl ⟨by rfl, ?_⟩) (by assumption) ?_
  case refine_2 => (intro _ _; go_simp; all_goals with_reducible rfl)
  simp only [Act.put, List.setIfInBounds_toArray, List.set_cons_zero, List.set_cons_succ]
  refine take_l (i := 17) (v := ?_) rfl (by kernel_rfl) (by kernel_rfl) (by kernel_rfl) (fun _ _ _ h => h) (Or.inl ⟨by rfl, ?_⟩) (by assumption) ?_
  case refine_2 => (intro _ _; go_simp; all_goals with_reducible rfl)
  simp only [Act.put, List.setIfInBounds_toArray, List.set_cons_zero, List.set_cons_succ]
  refine take_l (i := 18) (v := ?_) rfl (by kernel_rfl) (by kernel_rfl) (by kernel_rfl) (fun _ _ _ h => h) (Or.inl ⟨by rfl, ?_⟩) (by assumption) ?_
  case refine_2 => (intro W hS; have c0 : W.cell? ⟨E, 31, none⟩ = some (.int .u8 85) := Blk.at (HE.out W hS) 31 _ (arr_at D 31 _ H0.out.2.2.2); go_simp; all_goals with_reducible rfl)
  simp only [Act.put, List.setIfInBounds_toArray, List.set_cons_zero, List.set_cons_succ]
  refine take_l (i := 19) (v := ?_) rfl (by kernel_rfl) (by kernel_rfl) (by kernel_rfl) (fun _ _ _ h => h) (Or.inl ⟨by rfl, ?_⟩) (by assumption) ?_
  case refine_2 => (intro _ _; go_simp; all_goals with_reducible rfl)
  simp only [Act.put, List.setIfInBounds_toArray, List.set_cons_zero, List.set_cons_succ]
  refine take_l (i := 20) (v := ?_) rfl (by kernel_rfl) (by kernel_rfl) (by kernel_rfl) (fun _ _ _ h => h) (Or.inl ⟨by rfl, ?_⟩) (by assumption) ?_
  case refine_2 => (intro _ _; go_simp; all_goals with_reducible rfl)
  simp only [Act.put, List.setIfInBounds_toArray, List.set_cons_zero, List.set_cons_succ]
  refine take_l (i := 21) (v := ?_) rfl (by kernel_rfl) (by kernel_rfl) (by kernel_rfl) (fun _ _ _ h => h) (Or.inl ⟨by rfl, ?_⟩) (by assumption) ?_
  case refine_2 => (intro _ _; go_simp; all_goals with_reducible rfl)
  simp only [Act.put, List.setIfInBounds_toArray, List.set_cons_zero, List.set_cons_succ]
  refine take_l (i := 22) (v := ?_) rfl (by kernel_rfl) (by kernel_rfl) (by kernel_rfl) (fun _ _ _ h => h) (Or.inl ⟨by rfl, ?_⟩) (by assumption) ?_
  case refine_2 => (intro _ _; go_simp; all_goals with_reducible rfl)
  simp only [Act.put, List.setIfInBounds_toArray, List.set_cons_zero, List.set_cons_succ]
  refine take_l (i := 24) rfl (by kernel_rfl) (by kernel_rfl) (by kernel_rfl) (fun _ _ _ h => h) (Or.inl ⟨by rfl, fun W hS => exec_load_32 D HDl.out (.tmp 2) E 0 rfl rfl (by have h := range_blk (HE.out W hS); simpa using h)⟩) (by assumption) ?_
  simp only [Act.put, List.setIfInBounds_toArray, List.set_cons_zero, List.set_cons_succ]
  refine wpAnyH_ready (rs := [23]) (by kernel_rfl) (by simp) ?_
  refine cons_l rfl (fun K hK => ?_) AllReadyH.nil
  go_simp
  go_at_call 21
  refine (sum_nil HD.out (HT4.out _ hHeld)).mono ?_
  rintro e v2 ⟨rfl, hv2⟩
  go_wp2_with fail
  refine hK.out _ _ (nu_trans (by assumption) hv2) (fun hHeld => ?_)
  clear hK K hv2
  simp only [Act.put, List.setIfInBounds_toArray, List.set_cons_zero, List.set_cons_succ]
  refine take_l (i := 25) rfl (by kernel_rfl) (by kernel_rfl) (by kernel_rfl) (fun _ _ _ h => h) (Or.inl ⟨by rfl, fun W _ => exec_same_32 D HDl.out (.tmp 30) (.tmp 31) rfl rfl rfl⟩) (by assumption) ?_
  simp only [Act.put, List.setIfInBounds_toArray, List.set_cons_zero, List.set_cons_succ]
  refine take_l (i := 26) (v := ?_) rfl (by kernel_rfl) (by kernel_rfl) (by kernel_rfl) (fun _ _ _ h => h) (Or.inl ⟨by rfl, ?_⟩) (by assumption) ?_
  case refine_2 => (intro _ _; go_simp; all_goals with_reducible rfl)
  simp only [Act.put, List.setIfInBounds_toArray, List.set_cons_zero, List.set_cons_succ]
  refine take_l (i := 27) (v := ?_) rfl (by kernel_rfl) (by kernel_rfl) (by kernel_rfl) (fun _ _ _ h => h) (Or.inl ⟨by rfl, ?_⟩) (by assumption) ?_
  case refine_2 => (intro _ _; go_simp; all_goals with_reducible rfl)
  simp only [Act.put, List.setIfInBounds_toArray, List.set_cons_zero, List.set_cons_succ]
  refine take_l (i := 28) (v := ?_) rfl (by kernel_rfl) (by kernel_rfl) (by kernel_rfl) (fun _ _ _ h => h) (Or.inl ⟨by rfl, ?_⟩) (by assumption) ?_
  case refine_2 => (intro _ _; go_simp; all_goals with_reducible rfl)
  simp only [Act.put, List.setIfInBounds_toArray, List.set_cons_zero, List.set_cons_succ]
  refine wpAnyH_ready (rs := [29]) (by kernel_rfl) (by simp) ?_
  refine cons_l rfl (fun K hK => ?_) AllReadyH.nil
  go_simp
  go_at_call 23
  refine (len_nil _).mono ?_
  rintro e v3 ⟨rfl, hv3⟩
  go_wp2_with fail
  refine hK.out _ _ (nu_trans (by assumption) hv3) (fun hHeld => ?_)
  clear hK K hv3
  simp only [Act.put, List.setIfInBounds_toArray, List.set_cons_zero, List.set_cons_succ]
  refine take_l (i := 30) (v := ?_) rfl (by kernel_rfl) (by kernel_rfl) (by kernel_rfl) (fun _ _ _ h => h) (Or.inl ⟨by rfl, ?_⟩) (by assumption) ?_
  case refine_2 => (intro _ _; go_simp; all_goals with_reducible rfl)
  simp only [Act.put, List.setIfInBounds_toArray, List.set_cons_zero, List.set_cons_succ]
  refine take_l (i := 31) (v := ?_) rfl (by kernel_rfl) (by kernel_rfl) (by kernel_rfl) (fun _ _ _ h => h) (Or.inl ⟨by rfl, ?_⟩) (by assumption) ?_
  case refine_2 => (intro _ _; go_simp; all_goals with_reducible rfl)
  simp only [Act.put, List.setIfInBounds_toArray, List.set_cons_zero, List.set_cons_succ]
  refine take_l (i := 32) (v := ?_) rfl (by kernel_rfl) (by kernel_rfl) (by kernel_rfl) (fun _ _ _ h => h) (Or.inl ⟨by rfl, ?_⟩) (by assumption) ?_
  case refine_2 => (intro _ _; go_simp; all_goals with_reducible rfl)
  simp only [Act.put, List.setIfInBounds_toArray, List.set_cons_zero, List.set_cons_succ]
  refine take_l (i := 35) rfl (by kernel_rfl) (by kernel_rfl) (by kernel_rfl) (fun _ _ _ h => h) (Or.inl ⟨by rfl, fun W hS => exec_load_32 D HDl.out (.tmp 2) E 0 rfl rfl (by have h := range_blk (HE.out W hS); simpa using h)⟩) (by assumption) ?_
  simp only [Act.put, List.setIfInBounds_toArray, List.set_cons_zero, List.set_cons_succ]
  refine wpAnyH_ready (rs := [33]) (by kernel_rfl) (by simp) ?_
  refine cons_l rfl (fun K hK => ?_) AllReadyH.nil
  go_simp
  go_at_call 20
  refine (new_any _).mono ?_
  rintro e v4 ⟨rfl, hS4, hv4⟩
  have HS4 := Lib.hid hS4
  have HT5 := Lib.hid (HT4.out _ (nu_trans hHeld hv4))
  clear hS4
  go_wp2_with fail
  refine hK.out _ _ (nu_trans (by assumption) hv4) (fun hHeld => ?_)
  clear hK K hv4
  simp only [Act.put, List.setIfInBounds_toArray, List.set_cons_zero, List.set_cons_succ]
  refine wpAnyH_ready (rs := [34]) (by kernel_rfl) (by simp) ?_
  refine cons_l rfl (fun K hK => ?_) AllReadyH.nil
  go_simp
  go_at_call 21
  refine (sum_zero HD.out HS4.out HT5.out).mono ?_
  rintro e v5 ⟨rfl, hv5⟩
  go_wp2_with fail
  refine hK.out _ _ (nu_trans (by assumption) hv5) (fun hHeld => ?_)
  clear hK K hv5
  simp only [Act.put, List.setIfInBounds_toArray, List.set_cons_zero, List.set_cons_succ]
  refine take_l (i := 36) rfl (by kernel_rfl) (by kernel_rfl) (by kernel_rfl) (fun _ _ _ h => h) (Or.inl ⟨by rfl, fun W _ => exec_same_32 D HDl.out (.tmp 41) (.tmp 42) rfl rfl rfl⟩) (by assumption) ?_
  simp only [Act.put, List.setIfInBounds_toArray, List.set_cons_zero, List.set_cons_succ]
  refine take_l (i := 37) (v := ?_) rfl (by kernel_rfl) (by kernel_rfl) (by kernel_rfl) (fun _ _ _ h => h) (Or.inl ⟨by rfl, ?_⟩) (by assumption) ?_
  case refine_2 => (intro _ _; go_simp; all_goals with_reducible rfl)
  simp only [Act.put, List.setIfInBounds_toArray, List.set_cons_zero, List.set_cons_succ]
  refine take_l (i := 38) (v := ?_) rfl (by kernel_rfl) (by kernel_rfl) (by kernel_rfl) (fun _ _ _ h => h) (Or.inl ⟨by rfl, ?_⟩) (by assumption) ?_
  case refine_2 => (intro _ _; go_simp; all_goals with_reducible rfl)
  simp only [Act.put, List.setIfInBounds_toArray, List.set_cons_zero, List.set_cons_succ]
  refine wpAnyH_done (by kernel_rfl) ?_ _
  go_wp2_with fail
  go_ret
  exact ⟨rfl, nu_trans hn4 hHeld⟩
end Go.Proofs.YtlekepigndlbhaaDoor
