/-
  The walk of GhashRing.
-/
import Derived.Test.YtnojbjconiddoaaGh18
import Derived.Test.YtnojbjconiddoaaBlockO
namespace Go.Proofs.Ytnojbjconiddoaa
open Go.ChangeShapes Go.WideShapes Go.ChangeAt Go.RowKit

def Three (W : World) (A : Nat) (xa xb xc : List Nat) : Prop := Blk W A 22 (xa.map vb).toArray ∧ Blk W (A + 1) 22 (xb.map vb).toArray ∧ Blk W (A + 1 + 1) 22 (xc.map vb).toArray
section
variable {W W' : World} {A : Nat} {xa xb xc : List Nat}
theorem Three.a (h : Three W A xa xb xc) : Blk W A 22 (xa.map vb).toArray := h.1
theorem Three.b (h : Three W A xa xb xc) : Blk W (A + 1) 22 (xb.map vb).toArray := h.2.1
theorem Three.c (h : Three W A xa xb xc) : Blk W (A + 1 + 1) 22 (xc.map vb).toArray := h.2.2
theorem Three.drew (h : Three W A xa xb xc) : Three W.drew A xa xb xc := ⟨h.1.drew, h.2.1.drew, h.2.2.drew⟩
theorem Three.below (h : Three W A xa xb xc) (hb : Below W.heap.size W W') : Three W' A xa xb xc := ⟨Blk.below h.1 hb (Blk.lt h.1), Blk.below h.2.1 hb (Blk.lt h.2.1), Blk.below h.2.2 hb (Blk.lt h.2.2)⟩
end
theorem exec_b0 {o : Oper} {a : Act} {w : World} (ho : o.op = .build 22 #[]) : (execOp a.eval o).run Try.prog w = .ok (.value (.agg ((List.replicate 16 0).map vb).toArray)) w := by
  unfold execOp
  simp only [ho]
  kernel_rfl
abbrev one16 : List Nat := [128, 0, 0, 0, 0, 0, 0, 0, 0, 0, 0, 0, 0, 0, 0, 0]
theorem exec_b128 {o : Oper} {a : Act} {w : World} (ho : o.op = .build 22 #[(0, .const (.int .u8 128))]) : (execOp a.eval o).run Try.prog w = .ok (.value (.agg (one16.map vb).toArray)) w := by
  unfold execOp
  simp only [ho]
  kernel_rfl
theorem ref_add_is {xa xb D : List Nat} (hD : xorB xa xb = D) (hla : xa.length = 16) (hlb : xb.length = 16) (hxa : ∀ x ∈ xa, x < 256) (hxb : ∀ x ∈ xb, x < 256) (w : World) :
    Calls Try.prog 18 #[.agg (xa.map vb).toArray, .agg (xb.map vb).toArray] w fun e w' => e = .returned (.agg (D.map vb).toArray) ∧ Below w.heap.size w w' := by
  rw [← hD]
  exact ref_add xa xb hla hlb hxa hxb w
theorem polB_one : polB one16 = 1 := by kernel_rfl
theorem polB_zero : polB (List.replicate 16 0) = 0 := by kernel_rfl
theorem zero_iff (xs : List Nat) (hl : xs.length = 16) (hx : ∀ x ∈ xs, x < 256) : xs = List.replicate 16 0 ↔ polB xs = 0 :=
  ⟨fun e => by rw [e, polB_zero], fun e => polB_inj _ _ hl hx rfl (fun x h => by rw [(List.mem_replicate.1 h).2]; omega) (by rw [e, polB_zero])⟩

set_option maxRecDepth 100000 in
set_option maxHeartbeats 4000000 in
theorem ghashRing_walk (xa xb xc : List Nat) (hla : xa.length = 16) (hlb : xb.length = 16) (hlc : xc.length = 16) (hxa : ∀ x ∈ xa, x < 256) (hxb : ∀ x ∈ xb, x < 256) (hxc : ∀ x ∈ xc, x < 256) (w : World) :
    Calls Try.prog 4 #[.agg (xa.map vb).toArray, .agg (xb.map vb).toArray, .agg (xc.map vb).toArray] w fun e w' => e = .returned (.bool true) ∧ Below w.heap.size w w' := by
  have Hxa := Lib.hid hla
  have Hxb := Lib.hid hlb
  have Hxc := Lib.hid hlc
  have Hxax := Lib.hid hxa
  have Hxbx := Lib.hid hxb
  have Hxcx := Lib.hid hxc
  have pa := polB_lt xa
  have pb := polB_lt xb
  have pc := polB_lt xc
  obtain ⟨D, hD⟩ : ∃ D, bytB (Gh.mul (polB xb) (polB xa)) = D := ⟨_, rfl⟩
  obtain ⟨E, hE⟩ : ∃ E, bytB (Gh.mul (polB xc) (polB xb)) = E := ⟨_, rfl⟩
  obtain ⟨F, hF⟩ : ∃ F, bytB (Gh.mul (polB E) (polB xa)) = F := ⟨_, rfl⟩
  obtain ⟨G, hG⟩ : ∃ G, bytB (Gh.mul (polB xc) (polB xa)) = G := ⟨_, rfl⟩
  obtain ⟨M, hM⟩ : ∃ M, xorB xb xc = M := ⟨_, rfl⟩
  obtain ⟨N, hN⟩ : ∃ N, bytB (Gh.mul (polB M) (polB xa)) = N := ⟨_, rfl⟩
  obtain ⟨va, hva⟩ : ∃ v, decide (xa = List.replicate 16 0) = v := ⟨_, rfl⟩
  obtain ⟨ub, hub⟩ : ∃ v, decide (xb = List.replicate 16 0) = v := ⟨_, rfl⟩
  obtain ⟨v, hv⟩ : ∃ v, (va || ub) = v := ⟨_, rfl⟩
  have eD : polB D = Gh.mul (polB xb) (polB xa) := by rw [← hD]; exact polB_bytB _ (Gh.mul_lt _ _ pb)
  have eE : polB E = Gh.mul (polB xc) (polB xb) := by rw [← hE]; exact polB_bytB _ (Gh.mul_lt _ _ pc)
  have eG : polB G = Gh.mul (polB xc) (polB xa) := by rw [← hG]; exact polB_bytB _ (Gh.mul_lt _ _ pc)
  have eM : polB M = polB xb ^^^ polB xc := by rw [← hM]; exact polB_bytB _ (Nat.xor_lt_two_pow pb pc)
  have HD := Lib.hid hD
  have HE := Lib.hid hE
  have HF := Lib.hid hF
  have HG := Lib.hid hG
  have HM := Lib.hid hM
  have HN := Lib.hid hN
  have HD2 := Lib.hid (show bytB (Gh.mul (polB xa) (polB xb)) = D by rw [← hD, Gh.mul_comm _ _ pa pb])
  have HF2 := Lib.hid (show bytB (Gh.mul (polB xc) (polB D)) = F by rw [← hF, eD, eE, Gh.mul_assoc _ _ _ pc pb pa])
  have HN2 := Lib.hid (show xorB D G = N by unfold xorB; rw [← hN, eD, eG, eM, Gh.xor_mul _ _ _ pb pc])
  have HO := Lib.hid (show bytB (Gh.mul (polB one16) (polB xa)) = xa by rw [polB_one, Gh.mul_comm _ _ (by decide) pa, Gh.mul_one _ pa, bytB_polB xa hla hxa])
  have HDl := Lib.hid (show D.length = 16 by rw [← hD, bytB_len])
  have HEl := Lib.hid (show E.length = 16 by rw [← hE, bytB_len])
  have HFl := Lib.hid (show F.length = 16 by rw [← hF, bytB_len])
  have HGl := Lib.hid (show G.length = 16 by rw [← hG, bytB_len])
  have HMl := Lib.hid (show M.length = 16 by rw [← hM, xorB_len])
  have HNl := Lib.hid (show N.length = 16 by rw [← hN, bytB_len])
  have HDx := Lib.hid (show ∀ x ∈ D, x < 256 by rw [← hD]; exact bytB_lt _)
  have HEx := Lib.hid (show ∀ x ∈ E, x < 256 by rw [← hE]; exact bytB_lt _)
  have HGx := Lib.hid (show ∀ x ∈ G, x < 256 by rw [← hG]; exact bytB_lt _)
  have HMx := Lib.hid (show ∀ x ∈ M, x < 256 by rw [← hM]; exact xorB_lt _ _)
  have Hva := Lib.hid hva
  have Hub := Lib.hid hub
  have Hv := Lib.hid hv
  have HDz := Lib.hid (show decide (D = List.replicate 16 0) = v by
    rw [← hv, ← hva, ← hub, ← Bool.decide_or, decide_eq_decide, zero_iff D HDl.out HDx.out, zero_iff xa hla hxa, zero_iff xb hlb hxb, eD, Gh.no_zero _ _ pb pa]
    exact Or.comm)
  have HS1 := Lib.hid (show Three (((w.alloc (.cells (xa.map vb).toArray 22)).alloc (.cells (xb.map vb).toArray 22)).alloc (.cells (xc.map vb).toArray 22)) w.heap.size xa xb xc from
    ⟨((Blk.made w _ _).alloc _).alloc _, (Blk.made1 w _ _ _).alloc _, Blk.made2 w _ _ _ _⟩)
  have hn1 := nu_alloc (nu_alloc (nu_alloc (nu_refl w) (.cells (xa.map vb).toArray 22)) (.cells (xb.map vb).toArray 22)) (.cells (xc.map vb).toArray 22)
  clear hla hlb hlc hxa hxb hxc pa pb pc hD hE hF hG hM hN hva hub hv eD eE eG eM
  go_enter Try.func4, Try.ntmps4
  go_upto_region 1 with fail
  generalize ((w.alloc (.cells (xa.map vb).toArray 22)).alloc (.cells (xb.map vb).toArray 22)).alloc (.cells (xc.map vb).toArray 22) = w1 at *
  refine wp_region_held_drew (S := fun W => Three W w.heap.size xa xb xc) (by kernel_rfl) (HS1.out.drew) (fun hHeld => ?_)
  dsimp only [Array.replicate, List.replicate, List.size_toArray, List.length_cons, List.length_nil, Nat.reduceAdd] at hHeld ⊢
  have HS2 := Lib.hid hHeld
  have hn2 := nu_drew hn1
  clear HS1 hn1
  generalize w1.drew = w2 at *
  refine take_l (i := 0) rfl (by kernel_rfl) (by kernel_rfl) (by kernel_rfl) (fun _ _ _ h => h) (Or.inl ⟨by rfl, fun W hS => exec_load_mid (P := Try.prog) (w := W) 22 (.tmp 3) (w.heap.size) 0 (xa.map vb) (.array 16 5) rfl rfl (range_mid (Three.a hS) (l := []) (r := []) (by simp) rfl) (by kernel_rfl) rfl (by rw [List.length_map, Hxa.out]; kernel_rfl)⟩) (by assumption) ?_
  simp only [Act.put, List.setIfInBounds_toArray, List.set_cons_zero, List.set_cons_succ]
  refine take_l (i := 1) rfl (by kernel_rfl) (by kernel_rfl) (by kernel_rfl) (fun _ _ _ h => h) (Or.inl ⟨by rfl, fun W hS => exec_load_mid (P := Try.prog) (w := W) 22 (.tmp 4) (w.heap.size + 1) 0 (xb.map vb) (.array 16 5) rfl rfl (range_mid (Three.b hS) (l := []) (r := []) (by simp) rfl) (by kernel_rfl) rfl (by rw [List.length_map, Hxb.out]; kernel_rfl)⟩) (by assumption) ?_
  simp only [Act.put, List.setIfInBounds_toArray, List.set_cons_zero, List.set_cons_succ]
  refine take_l (i := 3) rfl (by kernel_rfl) (by kernel_rfl) (by kernel_rfl) (fun _ _ _ h => h) (Or.inl ⟨by rfl, fun W hS => exec_load_mid (P := Try.prog) (w := W) 22 (.tmp 4) (w.heap.size + 1) 0 (xb.map vb) (.array 16 5) rfl rfl (range_mid (Three.b hS) (l := []) (r := []) (by simp) rfl) (by kernel_rfl) rfl (by rw [List.length_map, Hxb.out]; kernel_rfl)⟩) (by assumption) ?_
  simp only [Act.put, List.setIfInBounds_toArray, List.set_cons_zero, List.set_cons_succ]
  refine take_l (i := 4) rfl (by kernel_rfl) (by kernel_rfl) (by kernel_rfl) (fun _ _ _ h => h) (Or.inl ⟨by rfl, fun W hS => exec_load_mid (P := Try.prog) (w := W) 22 (.tmp 3) (w.heap.size) 0 (xa.map vb) (.array 16 5) rfl rfl (range_mid (Three.a hS) (l := []) (r := []) (by simp) rfl) (by kernel_rfl) rfl (by rw [List.length_map, Hxa.out]; kernel_rfl)⟩) (by assumption) ?_
  simp only [Act.put, List.setIfInBounds_toArray, List.set_cons_zero, List.set_cons_succ]
  clear hHeld
  refine wpAnyH_ready (rs := [2]) (by kernel_rfl) (by simp) ?_
  refine cons_l rfl (fun K hK => ?_) AllReadyH.nil
  go_simp
  go_at_call 15
  refine (gh_prod_is HD.out Hxa.out Hxb.out Hxax.out Hxbx.out w2).mono ?_
  rintro e w3 ⟨rfl, hb3⟩
  have HS3 := Lib.hid (HS2.out.below hb3)
  have hn3 := nu_trans hn2 hb3
  clear hb3 HS2 hn2
  go_wp2_with fail
  refine hK.out _ _ HS3.out (fun hHeld => ?_)
  clear hK K hHeld
  simp only [Act.put, List.setIfInBounds_toArray, List.set_cons_zero, List.set_cons_succ]
  have hHeld := HS3.out
  clear hHeld
  refine wpAnyH_ready (rs := [5]) (by kernel_rfl) (by simp) ?_
  refine cons_l rfl (fun K hK => ?_) AllReadyH.nil
  go_simp
  go_at_call 15
  refine (gh_prod_is HD2.out Hxb.out Hxa.out Hxbx.out Hxax.out w3).mono ?_
  rintro e w4 ⟨rfl, hb4⟩
  have HS4 := Lib.hid (HS3.out.below hb4)
  have hn4 := nu_trans hn3 hb4
  clear hb4 HS3 hn3
  go_wp2_with fail
  refine hK.out _ _ HS4.out (fun hHeld => ?_)
  clear hK K hHeld
  simp only [Act.put, List.setIfInBounds_toArray, List.set_cons_zero, List.set_cons_succ]
  have hHeld := HS4.out
  refine take_l (i := 6) rfl (by kernel_rfl) (by kernel_rfl) (by kernel_rfl) (fun _ _ _ h => h) (Or.inl ⟨by rfl, fun W _ => exec_nsame_16 D HDl.out (.tmp 10) (.tmp 13) rfl rfl rfl⟩) (by assumption) ?_
  simp only [Act.put, List.setIfInBounds_toArray, List.set_cons_zero, List.set_cons_succ]
  refine take_l (i := 7) (v := ?_) rfl (by kernel_rfl) (by kernel_rfl) (by kernel_rfl) (fun _ _ _ h => h) (Or.inl ⟨by rfl, ?_⟩) (by assumption) ?_
  case refine_2 => (intro _ _; go_simp; all_goals with_reducible rfl)
  simp only [Act.put, List.setIfInBounds_toArray, List.set_cons_zero, List.set_cons_succ]
  refine take_l (i := 8) rfl (by kernel_rfl) (by kernel_rfl) (by kernel_rfl) (fun _ _ _ h => h) (Or.inl ⟨by rfl, fun W hS => exec_load_mid (P := Try.prog) (w := W) 22 (.tmp 3) (w.heap.size) 0 (xa.map vb) (.array 16 5) rfl rfl (range_mid (Three.a hS) (l := []) (r := []) (by simp) rfl) (by kernel_rfl) rfl (by rw [List.length_map, Hxa.out]; kernel_rfl)⟩) (by assumption) ?_
  simp only [Act.put, List.setIfInBounds_toArray, List.set_cons_zero, List.set_cons_succ]
  refine take_l (i := 9) rfl (by kernel_rfl) (by kernel_rfl) (by kernel_rfl) (fun _ _ _ h => h) (Or.inl ⟨by rfl, fun W hS => exec_load_mid (P := Try.prog) (w := W) 22 (.tmp 4) (w.heap.size + 1) 0 (xb.map vb) (.array 16 5) rfl rfl (range_mid (Three.b hS) (l := []) (r := []) (by simp) rfl) (by kernel_rfl) rfl (by rw [List.length_map, Hxb.out]; kernel_rfl)⟩) (by assumption) ?_
  simp only [Act.put, List.setIfInBounds_toArray, List.set_cons_zero, List.set_cons_succ]
  refine take_l (i := 10) rfl (by kernel_rfl) (by kernel_rfl) (by kernel_rfl) (fun _ _ _ h => h) (Or.inl ⟨by rfl, fun W hS => exec_load_mid (P := Try.prog) (w := W) 22 (.tmp 5) (w.heap.size + 1 + 1) 0 (xc.map vb) (.array 16 5) rfl rfl (range_mid (Three.c hS) (l := []) (r := []) (by simp) rfl) (by kernel_rfl) rfl (by rw [List.length_map, Hxc.out]; kernel_rfl)⟩) (by assumption) ?_
  simp only [Act.put, List.setIfInBounds_toArray, List.set_cons_zero, List.set_cons_succ]
  refine take_l (i := 13) rfl (by kernel_rfl) (by kernel_rfl) (by kernel_rfl) (fun _ _ _ h => h) (Or.inl ⟨by rfl, fun W hS => exec_load_mid (P := Try.prog) (w := W) 22 (.tmp 3) (w.heap.size) 0 (xa.map vb) (.array 16 5) rfl rfl (range_mid (Three.a hS) (l := []) (r := []) (by simp) rfl) (by kernel_rfl) rfl (by rw [List.length_map, Hxa.out]; kernel_rfl)⟩) (by assumption) ?_
  simp only [Act.put, List.setIfInBounds_toArray, List.set_cons_zero, List.set_cons_succ]
  refine take_l (i := 14) rfl (by kernel_rfl) (by kernel_rfl) (by kernel_rfl) (fun _ _ _ h => h) (Or.inl ⟨by rfl, fun W hS => exec_load_mid (P := Try.prog) (w := W) 22 (.tmp 4) (w.heap.size + 1) 0 (xb.map vb) (.array 16 5) rfl rfl (range_mid (Three.b hS) (l := []) (r := []) (by simp) rfl) (by kernel_rfl) rfl (by rw [List.length_map, Hxb.out]; kernel_rfl)⟩) (by assumption) ?_
  simp only [Act.put, List.setIfInBounds_toArray, List.set_cons_zero, List.set_cons_succ]
  refine take_l (i := 16) rfl (by kernel_rfl) (by kernel_rfl) (by kernel_rfl) (fun _ _ _ h => h) (Or.inl ⟨by rfl, fun W hS => exec_load_mid (P := Try.prog) (w := W) 22 (.tmp 5) (w.heap.size + 1 + 1) 0 (xc.map vb) (.array 16 5) rfl rfl (range_mid (Three.c hS) (l := []) (r := []) (by simp) rfl) (by kernel_rfl) rfl (by rw [List.length_map, Hxc.out]; kernel_rfl)⟩) (by assumption) ?_
  simp only [Act.put, List.setIfInBounds_toArray, List.set_cons_zero, List.set_cons_succ]
  clear hHeld
  refine wpAnyH_ready (rs := [11]) (by kernel_rfl) (by simp) ?_
  refine cons_l rfl (fun K hK => ?_) AllReadyH.nil
  go_simp
  go_at_call 15
  refine (gh_prod_is HE.out Hxb.out Hxc.out Hxbx.out Hxcx.out w4).mono ?_
  rintro e w5 ⟨rfl, hb5⟩
  have HS5 := Lib.hid (HS4.out.below hb5)
  have hn5 := nu_trans hn4 hb5
  clear hb5 HS4 hn4
  go_wp2_with fail
  refine hK.out _ _ HS5.out (fun hHeld => ?_)
  clear hK K hHeld
  simp only [Act.put, List.setIfInBounds_toArray, List.set_cons_zero, List.set_cons_succ]
  have hHeld := HS5.out
  clear hHeld
  refine wpAnyH_ready (rs := [12]) (by kernel_rfl) (by simp) ?_
  refine cons_l rfl (fun K hK => ?_) AllReadyH.nil
  go_simp
  go_at_call 15
  refine (gh_prod_is HF.out Hxa.out HEl.out Hxax.out HEx.out w5).mono ?_
  rintro e w6 ⟨rfl, hb6⟩
  have HS6 := Lib.hid (HS5.out.below hb6)
  have hn6 := nu_trans hn5 hb6
  clear hb6 HS5 hn5
  go_wp2_with fail
  refine hK.out _ _ HS6.out (fun hHeld => ?_)
  clear hK K hHeld
  simp only [Act.put, List.setIfInBounds_toArray, List.set_cons_zero, List.set_cons_succ]
  have hHeld := HS6.out
  clear hHeld
  refine wpAnyH_ready (rs := [15]) (by kernel_rfl) (by simp) ?_
  refine cons_l rfl (fun K hK => ?_) AllReadyH.nil
  go_simp
  go_at_call 15
  refine (gh_prod_is HD.out Hxa.out Hxb.out Hxax.out Hxbx.out w6).mono ?_
  rintro e w7 ⟨rfl, hb7⟩
  have HS7 := Lib.hid (HS6.out.below hb7)
  have hn7 := nu_trans hn6 hb7
  clear hb7 HS6 hn6
  go_wp2_with fail
  refine hK.out _ _ HS7.out (fun hHeld => ?_)
  clear hK K hHeld
  simp only [Act.put, List.setIfInBounds_toArray, List.set_cons_zero, List.set_cons_succ]
  have hHeld := HS7.out
  clear hHeld
  refine wpAnyH_ready (rs := [17]) (by kernel_rfl) (by simp) ?_
  refine cons_l rfl (fun K hK => ?_) AllReadyH.nil
  go_simp
  go_at_call 15
  refine (gh_prod_is HF2.out HDl.out Hxc.out HDx.out Hxcx.out w7).mono ?_
  rintro e w8 ⟨rfl, hb8⟩
  have HS8 := Lib.hid (HS7.out.below hb8)
  have hn8 := nu_trans hn7 hb8
  clear hb8 HS7 hn7
  go_wp2_with fail
  refine hK.out _ _ HS8.out (fun hHeld => ?_)
  clear hK K hHeld
  simp only [Act.put, List.setIfInBounds_toArray, List.set_cons_zero, List.set_cons_succ]
  have hHeld := HS8.out
  refine take_l (i := 18) rfl (by kernel_rfl) (by kernel_rfl) (by kernel_rfl) (fun _ _ _ h => h) (Or.inl ⟨by rfl, fun W _ => exec_nsame_16 F HFl.out (.tmp 20) (.tmp 25) rfl rfl rfl⟩) (by assumption) ?_
  simp only [Act.put, List.setIfInBounds_toArray, List.set_cons_zero, List.set_cons_succ]
  refine take_l (i := 19) (v := ?_) rfl (by kernel_rfl) (by kernel_rfl) (by kernel_rfl) (fun _ _ _ h => h) (Or.inl ⟨by rfl, ?_⟩) (by assumption) ?_
  case refine_2 => (intro _ _; go_simp; all_goals with_reducible rfl)
  simp only [Act.put, List.setIfInBounds_toArray, List.set_cons_zero, List.set_cons_succ]
  refine wpAnyH_done (by kernel_rfl) ?_ _
  clear hHeld
  go_upto_region 3 with fail
  refine wp_region_held_drew (S := fun W => Three W w.heap.size xa xb xc) (by kernel_rfl) (HS8.out.drew) (fun hHeld => ?_)
  dsimp only [Array.replicate, List.replicate, List.size_toArray, List.length_cons, List.length_nil, Nat.reduceAdd] at hHeld ⊢
  have HS9 := Lib.hid hHeld
  have hn9 := nu_drew hn8
  clear HS8 hn8
  generalize w8.drew = w9 at *
  refine take_l (i := 0) rfl (by kernel_rfl) (by kernel_rfl) (by kernel_rfl) (fun _ _ _ h => h) (Or.inl ⟨by rfl, fun W hS => exec_load_mid (P := Try.prog) (w := W) 22 (.tmp 3) (w.heap.size) 0 (xa.map vb) (.array 16 5) rfl rfl (range_mid (Three.a hS) (l := []) (r := []) (by simp) rfl) (by kernel_rfl) rfl (by rw [List.length_map, Hxa.out]; kernel_rfl)⟩) (by assumption) ?_
  simp only [Act.put, List.setIfInBounds_toArray, List.set_cons_zero, List.set_cons_succ]
  refine take_l (i := 1) rfl (by kernel_rfl) (by kernel_rfl) (by kernel_rfl) (fun _ _ _ h => h) (Or.inl ⟨by rfl, fun W hS => exec_load_mid (P := Try.prog) (w := W) 22 (.tmp 4) (w.heap.size + 1) 0 (xb.map vb) (.array 16 5) rfl rfl (range_mid (Three.b hS) (l := []) (r := []) (by simp) rfl) (by kernel_rfl) rfl (by rw [List.length_map, Hxb.out]; kernel_rfl)⟩) (by assumption) ?_
  simp only [Act.put, List.setIfInBounds_toArray, List.set_cons_zero, List.set_cons_succ]
  refine take_l (i := 2) rfl (by kernel_rfl) (by kernel_rfl) (by kernel_rfl) (fun _ _ _ h => h) (Or.inl ⟨by rfl, fun W hS => exec_load_mid (P := Try.prog) (w := W) 22 (.tmp 5) (w.heap.size + 1 + 1) 0 (xc.map vb) (.array 16 5) rfl rfl (range_mid (Three.c hS) (l := []) (r := []) (by simp) rfl) (by kernel_rfl) rfl (by rw [List.length_map, Hxc.out]; kernel_rfl)⟩) (by assumption) ?_
  simp only [Act.put, List.setIfInBounds_toArray, List.set_cons_zero, List.set_cons_succ]
  refine take_l (i := 5) rfl (by kernel_rfl) (by kernel_rfl) (by kernel_rfl) (fun _ _ _ h => h) (Or.inl ⟨by rfl, fun W hS => exec_load_mid (P := Try.prog) (w := W) 22 (.tmp 3) (w.heap.size) 0 (xa.map vb) (.array 16 5) rfl rfl (range_mid (Three.a hS) (l := []) (r := []) (by simp) rfl) (by kernel_rfl) rfl (by rw [List.length_map, Hxa.out]; kernel_rfl)⟩) (by assumption) ?_
  simp only [Act.put, List.setIfInBounds_toArray, List.set_cons_zero, List.set_cons_succ]
  refine take_l (i := 6) rfl (by kernel_rfl) (by kernel_rfl) (by kernel_rfl) (fun _ _ _ h => h) (Or.inl ⟨by rfl, fun W hS => exec_load_mid (P := Try.prog) (w := W) 22 (.tmp 4) (w.heap.size + 1) 0 (xb.map vb) (.array 16 5) rfl rfl (range_mid (Three.b hS) (l := []) (r := []) (by simp) rfl) (by kernel_rfl) rfl (by rw [List.length_map, Hxb.out]; kernel_rfl)⟩) (by assumption) ?_
  simp only [Act.put, List.setIfInBounds_toArray, List.set_cons_zero, List.set_cons_succ]
  refine take_l (i := 8) rfl (by kernel_rfl) (by kernel_rfl) (by kernel_rfl) (fun _ _ _ h => h) (Or.inl ⟨by rfl, fun W hS => exec_load_mid (P := Try.prog) (w := W) 22 (.tmp 3) (w.heap.size) 0 (xa.map vb) (.array 16 5) rfl rfl (range_mid (Three.a hS) (l := []) (r := []) (by simp) rfl) (by kernel_rfl) rfl (by rw [List.length_map, Hxa.out]; kernel_rfl)⟩) (by assumption) ?_
  simp only [Act.put, List.setIfInBounds_toArray, List.set_cons_zero, List.set_cons_succ]
  refine take_l (i := 9) rfl (by kernel_rfl) (by kernel_rfl) (by kernel_rfl) (fun _ _ _ h => h) (Or.inl ⟨by rfl, fun W hS => exec_load_mid (P := Try.prog) (w := W) 22 (.tmp 5) (w.heap.size + 1 + 1) 0 (xc.map vb) (.array 16 5) rfl rfl (range_mid (Three.c hS) (l := []) (r := []) (by simp) rfl) (by kernel_rfl) rfl (by rw [List.length_map, Hxc.out]; kernel_rfl)⟩) (by assumption) ?_
  simp only [Act.put, List.setIfInBounds_toArray, List.set_cons_zero, List.set_cons_succ]
  clear hHeld
  refine wpAnyH_ready (rs := [3]) (by kernel_rfl) (by simp) ?_
  refine cons_l rfl (fun K hK => ?_) AllReadyH.nil
  go_simp
  go_at_call 18
  refine (ref_add_is HM.out Hxb.out Hxc.out Hxbx.out Hxcx.out w9).mono ?_
  rintro e w10 ⟨rfl, hb10⟩
  have HS10 := Lib.hid (HS9.out.below hb10)
  have hn10 := nu_trans hn9 hb10
  clear hb10 HS9 hn9
  go_wp2_with fail
  refine hK.out _ _ HS10.out (fun hHeld => ?_)
  clear hK K hHeld
  simp only [Act.put, List.setIfInBounds_toArray, List.set_cons_zero, List.set_cons_succ]
  have hHeld := HS10.out
  clear hHeld
  refine wpAnyH_ready (rs := [4]) (by kernel_rfl) (by simp) ?_
  refine cons_l rfl (fun K hK => ?_) AllReadyH.nil
  go_simp
  go_at_call 15
  refine (gh_prod_is HN.out Hxa.out HMl.out Hxax.out HMx.out w10).mono ?_
  rintro e w11 ⟨rfl, hb11⟩
  have HS11 := Lib.hid (HS10.out.below hb11)
  have hn11 := nu_trans hn10 hb11
  clear hb11 HS10 hn10
  go_wp2_with fail
  refine hK.out _ _ HS11.out (fun hHeld => ?_)
  clear hK K hHeld
  simp only [Act.put, List.setIfInBounds_toArray, List.set_cons_zero, List.set_cons_succ]
  have hHeld := HS11.out
  clear hHeld
  refine wpAnyH_ready (rs := [7]) (by kernel_rfl) (by simp) ?_
  refine cons_l rfl (fun K hK => ?_) AllReadyH.nil
  go_simp
  go_at_call 15
  refine (gh_prod_is HD.out Hxa.out Hxb.out Hxax.out Hxbx.out w11).mono ?_
  rintro e w12 ⟨rfl, hb12⟩
  have HS12 := Lib.hid (HS11.out.below hb12)
  have hn12 := nu_trans hn11 hb12
  clear hb12 HS11 hn11
  go_wp2_with fail
  refine hK.out _ _ HS12.out (fun hHeld => ?_)
  clear hK K hHeld
  simp only [Act.put, List.setIfInBounds_toArray, List.set_cons_zero, List.set_cons_succ]
  have hHeld := HS12.out
  clear hHeld
  refine wpAnyH_ready (rs := [10]) (by kernel_rfl) (by simp) ?_
  refine cons_l rfl (fun K hK => ?_) AllReadyH.nil
  go_simp
  go_at_call 15
  refine (gh_prod_is HG.out Hxa.out Hxc.out Hxax.out Hxcx.out w12).mono ?_
  rintro e w13 ⟨rfl, hb13⟩
  have HS13 := Lib.hid (HS12.out.below hb13)
  have hn13 := nu_trans hn12 hb13
  clear hb13 HS12 hn12
  go_wp2_with fail
  refine hK.out _ _ HS13.out (fun hHeld => ?_)
  clear hK K hHeld
  simp only [Act.put, List.setIfInBounds_toArray, List.set_cons_zero, List.set_cons_succ]
  have hHeld := HS13.out
  clear hHeld
  refine wpAnyH_ready (rs := [11]) (by kernel_rfl) (by simp) ?_
  refine cons_l rfl (fun K hK => ?_) AllReadyH.nil
  go_simp
  go_at_call 18
  refine (ref_add_is HN2.out HDl.out HGl.out HDx.out HGx.out w13).mono ?_
  rintro e w14 ⟨rfl, hb14⟩
  have HS14 := Lib.hid (HS13.out.below hb14)
  have hn14 := nu_trans hn13 hb14
  clear hb14 HS13 hn13
  go_wp2_with fail
  refine hK.out _ _ HS14.out (fun hHeld => ?_)
  clear hK K hHeld
  simp only [Act.put, List.setIfInBounds_toArray, List.set_cons_zero, List.set_cons_succ]
  have hHeld := HS14.out
  refine take_l (i := 12) rfl (by kernel_rfl) (by kernel_rfl) (by kernel_rfl) (fun _ _ _ h => h) (Or.inl ⟨by rfl, fun W _ => exec_nsame_16 N HNl.out (.tmp 32) (.tmp 39) rfl rfl rfl⟩) (by assumption) ?_
  simp only [Act.put, List.setIfInBounds_toArray, List.set_cons_zero, List.set_cons_succ]
  refine wpAnyH_done (by kernel_rfl) ?_ _
  clear hHeld
  go_wp2_with (first | (refine wpList_run _ rfl ((fun W hS => exec_load_mid (P := Try.prog) (w := W) 22 (.tmp 3) (w.heap.size) 0 (xa.map vb) (.array 16 5) rfl rfl (range_mid (Three.a hS) (l := []) (r := []) (by simp) rfl) (by kernel_rfl) rfl (by rw [List.length_map, Hxa.out]; kernel_rfl)) w14 HS14.out) ?_) | (refine wpList_run _ rfl ((fun W hS => exec_load_mid (P := Try.prog) (w := W) 22 (.tmp 4) (w.heap.size + 1) 0 (xb.map vb) (.array 16 5) rfl rfl (range_mid (Three.b hS) (l := []) (r := []) (by simp) rfl) (by kernel_rfl) rfl (by rw [List.length_map, Hxb.out]; kernel_rfl)) w14 HS14.out) ?_))
  refine (gh_prod_is HD.out Hxa.out Hxb.out Hxax.out Hxbx.out w14).mono ?_
  rintro e w15 ⟨rfl, hb15⟩
  have HS15 := Lib.hid (HS14.out.below hb15)
  have hn15 := nu_trans hn14 hb15
  clear hb15 HS14 hn14
  go_upto_region 6 with (refine wpList_run _ rfl (exec_eqlv_16 D (List.replicate 16 0) v HDz.out HDl.out rfl (.tmp 43) (.tmp 44) rfl rfl rfl) ?_)
  refine wp_region_held_drew (S := fun W => Three W w.heap.size xa xb xc) (by kernel_rfl) (HS15.out.drew) (fun hHeld => ?_)
  dsimp only [Array.replicate, List.replicate, List.size_toArray, List.length_cons, List.length_nil, Nat.reduceAdd] at hHeld ⊢
  have HS16 := Lib.hid hHeld
  have hn16 := nu_drew hn15
  clear HS15 hn15
  generalize w15.drew = w16 at *
  refine take_l (i := 0) rfl (by kernel_rfl) (by kernel_rfl) (by kernel_rfl) (fun _ _ _ h => h) (Or.inl ⟨by rfl, fun W hS => exec_load_mid (P := Try.prog) (w := W) 22 (.tmp 3) (w.heap.size) 0 (xa.map vb) (.array 16 5) rfl rfl (range_mid (Three.a hS) (l := []) (r := []) (by simp) rfl) (by kernel_rfl) rfl (by rw [List.length_map, Hxa.out]; kernel_rfl)⟩) (by assumption) ?_
  simp only [Act.put, List.setIfInBounds_toArray, List.set_cons_zero, List.set_cons_succ]
  refine take_l (i := 1) rfl (by kernel_rfl) (by kernel_rfl) (by kernel_rfl) (fun _ _ _ h => h) (Or.inl ⟨by rfl, fun W _ => exec_b128 rfl⟩) (by assumption) ?_
  simp only [Act.put, List.setIfInBounds_toArray, List.set_cons_zero, List.set_cons_succ]
  refine take_l (i := 3) rfl (by kernel_rfl) (by kernel_rfl) (by kernel_rfl) (fun _ _ _ h => h) (Or.inl ⟨by rfl, fun W hS => exec_load_mid (P := Try.prog) (w := W) 22 (.tmp 3) (w.heap.size) 0 (xa.map vb) (.array 16 5) rfl rfl (range_mid (Three.a hS) (l := []) (r := []) (by simp) rfl) (by kernel_rfl) rfl (by rw [List.length_map, Hxa.out]; kernel_rfl)⟩) (by assumption) ?_
  simp only [Act.put, List.setIfInBounds_toArray, List.set_cons_zero, List.set_cons_succ]
  clear hHeld
  refine wpAnyH_ready (rs := [2]) (by kernel_rfl) (by simp) ?_
  refine cons_l rfl (fun K hK => ?_) AllReadyH.nil
  go_simp
  go_at_call 15
  refine (gh_prod_is HO.out Hxa.out rfl Hxax.out (by decide) w16).mono ?_
  rintro e w17 ⟨rfl, hb17⟩
  have HS17 := Lib.hid (HS16.out.below hb17)
  have hn17 := nu_trans hn16 hb17
  clear hb17 HS16 hn16
  go_wp2_with fail
  refine hK.out _ _ HS17.out (fun hHeld => ?_)
  clear hK K hHeld
  simp only [Act.put, List.setIfInBounds_toArray, List.set_cons_zero, List.set_cons_succ]
  have hHeld := HS17.out
  refine take_l (i := 4) rfl (by kernel_rfl) (by kernel_rfl) (by kernel_rfl) (fun _ _ _ h => h) (Or.inl ⟨by rfl, fun W _ => exec_same_16 xa Hxa.out (.tmp 48) (.tmp 49) rfl rfl rfl⟩) (by assumption) ?_
  simp only [Act.put, List.setIfInBounds_toArray, List.set_cons_zero, List.set_cons_succ]
  refine take_l (i := 5) (v := ?_) rfl (by kernel_rfl) (by kernel_rfl) (by kernel_rfl) (fun _ _ _ h => h) (Or.inl ⟨by rfl, ?_⟩) (by assumption) ?_
  case refine_2 => (intro _ _; go_simp; all_goals with_reducible rfl)
  simp only [Act.put, List.setIfInBounds_toArray, List.set_cons_zero, List.set_cons_succ]
  refine take_l (i := 6) (v := ?_) rfl (by kernel_rfl) (by kernel_rfl) (by kernel_rfl) (fun _ _ _ h => h) (Or.inl ⟨by rfl, ?_⟩) (by assumption) ?_
  case refine_2 => (intro _ _; go_simp; all_goals with_reducible rfl)
  simp only [Act.put, List.setIfInBounds_toArray, List.set_cons_zero, List.set_cons_succ]
  refine take_l (i := 7) rfl (by kernel_rfl) (by kernel_rfl) (by kernel_rfl) (fun _ _ _ h => h) (Or.inl ⟨by rfl, fun W hS => exec_load_mid (P := Try.prog) (w := W) 22 (.tmp 3) (w.heap.size) 0 (xa.map vb) (.array 16 5) rfl rfl (range_mid (Three.a hS) (l := []) (r := []) (by simp) rfl) (by kernel_rfl) rfl (by rw [List.length_map, Hxa.out]; kernel_rfl)⟩) (by assumption) ?_
  simp only [Act.put, List.setIfInBounds_toArray, List.set_cons_zero, List.set_cons_succ]
  refine take_l (i := 8) rfl (by kernel_rfl) (by kernel_rfl) (by kernel_rfl) (fun _ _ _ h => h) (Or.inl ⟨by rfl, fun W _ => exec_b0 rfl⟩) (by assumption) ?_
  simp only [Act.put, List.setIfInBounds_toArray, List.set_cons_zero, List.set_cons_succ]
  cases va
  · cases ub
    · obtain rfl : v = false := by rw [← Hv.out]; rfl
      refine take_l (i := 9) rfl (by kernel_rfl) (by kernel_rfl) (by kernel_rfl) (fun _ _ _ h => h) (Or.inl ⟨by rfl, fun W _ => exec_eqlv_16 xa (List.replicate 16 0) false Hva.out Hxa.out rfl (.tmp 53) (.tmp 54) rfl rfl rfl⟩) (by assumption) ?_
      simp only [Act.put, List.setIfInBounds_toArray, List.set_cons_zero, List.set_cons_succ]
      refine take_l (i := 10) (v := ?_) rfl (by kernel_rfl) (by kernel_rfl) (by kernel_rfl) (fun _ _ _ h => h) (Or.inl ⟨by rfl, ?_⟩) (by assumption) ?_
      case refine_2 => (intro _ _; go_simp; all_goals with_reducible rfl)
      simp only [Act.put, List.setIfInBounds_toArray, List.set_cons_zero, List.set_cons_succ]
      refine take_l (i := 11) rfl (by kernel_rfl) (by kernel_rfl) (by kernel_rfl) (fun _ _ _ h => h) (Or.inl ⟨by rfl, fun W hS => exec_load_mid (P := Try.prog) (w := W) 22 (.tmp 4) (w.heap.size + 1) 0 (xb.map vb) (.array 16 5) rfl rfl (range_mid (Three.b hS) (l := []) (r := []) (by simp) rfl) (by kernel_rfl) rfl (by rw [List.length_map, Hxb.out]; kernel_rfl)⟩) (by assumption) ?_
      simp only [Act.put, List.setIfInBounds_toArray, List.set_cons_zero, List.set_cons_succ]
      refine take_l (i := 12) rfl (by kernel_rfl) (by kernel_rfl) (by kernel_rfl) (fun _ _ _ h => h) (Or.inl ⟨by rfl, fun W _ => exec_b0 rfl⟩) (by assumption) ?_
      simp only [Act.put, List.setIfInBounds_toArray, List.set_cons_zero, List.set_cons_succ]
      refine take_l (i := 13) rfl (by kernel_rfl) (by kernel_rfl) (by kernel_rfl) (fun _ _ _ h => h) (Or.inl ⟨by rfl, fun W _ => exec_eqlv_16 xb (List.replicate 16 0) false Hub.out Hxb.out rfl (.tmp 57) (.tmp 58) rfl rfl rfl⟩) (by assumption) ?_
      simp only [Act.put, List.setIfInBounds_toArray, List.set_cons_zero, List.set_cons_succ]
      refine take_l (i := 14) (v := ?_) rfl (by kernel_rfl) (by kernel_rfl) (by kernel_rfl) (fun _ _ _ h => h) (Or.inl ⟨by rfl, ?_⟩) (by assumption) ?_
      case refine_2 => (intro _ _; go_simp; all_goals with_reducible rfl)
      simp only [Act.put, List.setIfInBounds_toArray, List.set_cons_zero, List.set_cons_succ]
      refine take_l (i := 15) (v := ?_) rfl (by kernel_rfl) (by kernel_rfl) (by kernel_rfl) (fun _ _ _ h => h) (Or.inl ⟨by rfl, ?_⟩) (by assumption) ?_
      case refine_2 => (intro _ _; go_simp; all_goals with_reducible rfl)
      simp only [Act.put, List.setIfInBounds_toArray, List.set_cons_zero, List.set_cons_succ]
      refine take_l (i := 16) (v := ?_) rfl (by kernel_rfl) (by kernel_rfl) (by kernel_rfl) (fun _ _ _ h => h) (Or.inl ⟨by rfl, ?_⟩) (by assumption) ?_
      case refine_2 => (intro _ _; go_simp; all_goals with_reducible rfl)
      simp only [Act.put, List.setIfInBounds_toArray, List.set_cons_zero, List.set_cons_succ]
      refine take_l (i := 17) (v := ?_) rfl (by kernel_rfl) (by kernel_rfl) (by kernel_rfl) (fun _ _ _ h => h) (Or.inl ⟨by rfl, ?_⟩) (by assumption) ?_
      case refine_2 => (intro _ _; go_simp; all_goals with_reducible rfl)
      simp only [Act.put, List.setIfInBounds_toArray, List.set_cons_zero, List.set_cons_succ]
      clear hHeld
      refine wpAnyH_ready (rs := [18]) (by kernel_rfl) (by simp) ?_
      refine cons_l rfl (fun K hK => ?_) AllReadyH.nil
      go_simp
      go_at_call 17
      refine (awake7 w17).mono ?_
      rintro e w18 ⟨rfl, hb18⟩
      have HS18 := Lib.hid (HS17.out.below hb18)
      have hn18 := nu_trans hn17 hb18
      clear hb18 HS17 hn17
      go_wp2_with fail
      refine hK.out _ _ HS18.out (fun hHeld => ?_)
      clear hK K hHeld
      simp only [Act.put, List.setIfInBounds_toArray, List.set_cons_zero, List.set_cons_succ]
      have hHeld := HS18.out
      refine take_l (i := 19) (v := ?_) rfl (by kernel_rfl) (by kernel_rfl) (by kernel_rfl) (fun _ _ _ h => h) (Or.inl ⟨by rfl, ?_⟩) (by assumption) ?_
      case refine_2 => (intro _ _; go_simp; all_goals with_reducible rfl)
      simp only [Act.put, List.setIfInBounds_toArray, List.set_cons_zero, List.set_cons_succ]
      refine take_l (i := 20) (v := ?_) rfl (by kernel_rfl) (by kernel_rfl) (by kernel_rfl) (fun _ _ _ h => h) (Or.inl ⟨by rfl, ?_⟩) (by assumption) ?_
      case refine_2 => (intro _ _; go_simp; all_goals with_reducible rfl)
      simp only [Act.put, List.setIfInBounds_toArray, List.set_cons_zero, List.set_cons_succ]
      refine wpAnyH_done (by kernel_rfl) ?_ _
      go_wp2_with fail
      go_ret
      exact ⟨rfl, hn18⟩
    · obtain rfl : v = true := by rw [← Hv.out]; rfl
      refine take_l (i := 9) rfl (by kernel_rfl) (by kernel_rfl) (by kernel_rfl) (fun _ _ _ h => h) (Or.inl ⟨by rfl, fun W _ => exec_eqlv_16 xa (List.replicate 16 0) false Hva.out Hxa.out rfl (.tmp 53) (.tmp 54) rfl rfl rfl⟩) (by assumption) ?_
      simp only [Act.put, List.setIfInBounds_toArray, List.set_cons_zero, List.set_cons_succ]
      refine take_l (i := 10) (v := ?_) rfl (by kernel_rfl) (by kernel_rfl) (by kernel_rfl) (fun _ _ _ h => h) (Or.inl ⟨by rfl, ?_⟩) (by assumption) ?_
      case refine_2 => (intro _ _; go_simp; all_goals with_reducible rfl)
      simp only [Act.put, List.setIfInBounds_toArray, List.set_cons_zero, List.set_cons_succ]
      refine take_l (i := 11) rfl (by kernel_rfl) (by kernel_rfl) (by kernel_rfl) (fun _ _ _ h => h) (Or.inl ⟨by rfl, fun W hS => exec_load_mid (P := Try.prog) (w := W) 22 (.tmp 4) (w.heap.size + 1) 0 (xb.map vb) (.array 16 5) rfl rfl (range_mid (Three.b hS) (l := []) (r := []) (by simp) rfl) (by kernel_rfl) rfl (by rw [List.length_map, Hxb.out]; kernel_rfl)⟩) (by assumption) ?_
      simp only [Act.put, List.setIfInBounds_toArray, List.set_cons_zero, List.set_cons_succ]
      refine take_l (i := 12) rfl (by kernel_rfl) (by kernel_rfl) (by kernel_rfl) (fun _ _ _ h => h) (Or.inl ⟨by rfl, fun W _ => exec_b0 rfl⟩) (by assumption) ?_
      simp only [Act.put, List.setIfInBounds_toArray, List.set_cons_zero, List.set_cons_succ]
      refine take_l (i := 13) rfl (by kernel_rfl) (by kernel_rfl) (by kernel_rfl) (fun _ _ _ h => h) (Or.inl ⟨by rfl, fun W _ => exec_eqlv_16 xb (List.replicate 16 0) true Hub.out Hxb.out rfl (.tmp 57) (.tmp 58) rfl rfl rfl⟩) (by assumption) ?_
      simp only [Act.put, List.setIfInBounds_toArray, List.set_cons_zero, List.set_cons_succ]
      refine take_l (i := 14) (v := ?_) rfl (by kernel_rfl) (by kernel_rfl) (by kernel_rfl) (fun _ _ _ h => h) (Or.inl ⟨by rfl, ?_⟩) (by assumption) ?_
      case refine_2 => (intro _ _; go_simp; all_goals with_reducible rfl)
      simp only [Act.put, List.setIfInBounds_toArray, List.set_cons_zero, List.set_cons_succ]
      refine take_l (i := 15) (v := ?_) rfl (by kernel_rfl) (by kernel_rfl) (by kernel_rfl) (fun _ _ _ h => h) (Or.inl ⟨by rfl, ?_⟩) (by assumption) ?_
      case refine_2 => (intro _ _; go_simp; all_goals with_reducible rfl)
      simp only [Act.put, List.setIfInBounds_toArray, List.set_cons_zero, List.set_cons_succ]
      refine take_l (i := 16) (v := ?_) rfl (by kernel_rfl) (by kernel_rfl) (by kernel_rfl) (fun _ _ _ h => h) (Or.inl ⟨by rfl, ?_⟩) (by assumption) ?_
      case refine_2 => (intro _ _; go_simp; all_goals with_reducible rfl)
      simp only [Act.put, List.setIfInBounds_toArray, List.set_cons_zero, List.set_cons_succ]
      refine take_l (i := 17) (v := ?_) rfl (by kernel_rfl) (by kernel_rfl) (by kernel_rfl) (fun _ _ _ h => h) (Or.inl ⟨by rfl, ?_⟩) (by assumption) ?_
      case refine_2 => (intro _ _; go_simp; all_goals with_reducible rfl)
      simp only [Act.put, List.setIfInBounds_toArray, List.set_cons_zero, List.set_cons_succ]
      clear hHeld
      refine wpAnyH_ready (rs := [18]) (by kernel_rfl) (by simp) ?_
      refine cons_l rfl (fun K hK => ?_) AllReadyH.nil
      go_simp
      go_at_call 17
      refine (awake7 w17).mono ?_
      rintro e w18 ⟨rfl, hb18⟩
      have HS18 := Lib.hid (HS17.out.below hb18)
      have hn18 := nu_trans hn17 hb18
      clear hb18 HS17 hn17
      go_wp2_with fail
      refine hK.out _ _ HS18.out (fun hHeld => ?_)
      clear hK K hHeld
      simp only [Act.put, List.setIfInBounds_toArray, List.set_cons_zero, List.set_cons_succ]
      have hHeld := HS18.out
      refine take_l (i := 19) (v := ?_) rfl (by kernel_rfl) (by kernel_rfl) (by kernel_rfl) (fun _ _ _ h => h) (Or.inl ⟨by rfl, ?_⟩) (by assumption) ?_
      case refine_2 => (intro _ _; go_simp; all_goals with_reducible rfl)
      simp only [Act.put, List.setIfInBounds_toArray, List.set_cons_zero, List.set_cons_succ]
      refine take_l (i := 20) (v := ?_) rfl (by kernel_rfl) (by kernel_rfl) (by kernel_rfl) (fun _ _ _ h => h) (Or.inl ⟨by rfl, ?_⟩) (by assumption) ?_
      case refine_2 => (intro _ _; go_simp; all_goals with_reducible rfl)
      simp only [Act.put, List.setIfInBounds_toArray, List.set_cons_zero, List.set_cons_succ]
      refine wpAnyH_done (by kernel_rfl) ?_ _
      go_wp2_with fail
      go_ret
      exact ⟨rfl, hn18⟩
  · obtain rfl : v = true := by rw [← Hv.out]; rfl
    refine take_l (i := 9) rfl (by kernel_rfl) (by kernel_rfl) (by kernel_rfl) (fun _ _ _ h => h) (Or.inl ⟨by rfl, fun W _ => exec_eqlv_16 xa (List.replicate 16 0) true Hva.out Hxa.out rfl (.tmp 53) (.tmp 54) rfl rfl rfl⟩) (by assumption) ?_
    simp only [Act.put, List.setIfInBounds_toArray, List.set_cons_zero, List.set_cons_succ]
    refine take_l (i := 10) (v := ?_) rfl (by kernel_rfl) (by kernel_rfl) (by kernel_rfl) (fun _ _ _ h => h) (Or.inl ⟨by rfl, ?_⟩) (by assumption) ?_
    case refine_2 => (intro _ _; go_simp; all_goals with_reducible rfl)
    simp only [Act.put, List.setIfInBounds_toArray, List.set_cons_zero, List.set_cons_succ]
    refine take_l (i := 11) rfl (by kernel_rfl) (by kernel_rfl) (by kernel_rfl) (fun _ _ _ h => h) (Or.inr ⟨by rfl, rfl⟩) (by assumption) ?_
    simp only [Act.put, List.setIfInBounds_toArray, List.set_cons_zero, List.set_cons_succ]
    refine take_l (i := 12) rfl (by kernel_rfl) (by kernel_rfl) (by kernel_rfl) (fun _ _ _ h => h) (Or.inr ⟨by rfl, rfl⟩) (by assumption) ?_
    simp only [Act.put, List.setIfInBounds_toArray, List.set_cons_zero, List.set_cons_succ]
    refine take_l (i := 13) rfl (by kernel_rfl) (by kernel_rfl) (by kernel_rfl) (fun _ _ _ h => h) (Or.inr ⟨by rfl, rfl⟩) (by assumption) ?_
    simp only [Act.put, List.setIfInBounds_toArray, List.set_cons_zero, List.set_cons_succ]
    refine take_l (i := 14) (v := ?_) rfl (by kernel_rfl) (by kernel_rfl) (by kernel_rfl) (fun _ _ _ h => h) (Or.inl ⟨by rfl, ?_⟩) (by assumption) ?_
    case refine_2 => (intro _ _; go_simp; all_goals with_reducible rfl)
    simp only [Act.put, List.setIfInBounds_toArray, List.set_cons_zero, List.set_cons_succ]
    refine take_l (i := 15) (v := ?_) rfl (by kernel_rfl) (by kernel_rfl) (by kernel_rfl) (fun _ _ _ h => h) (Or.inl ⟨by rfl, ?_⟩) (by assumption) ?_
    case refine_2 => (intro _ _; go_simp; all_goals with_reducible rfl)
    simp only [Act.put, List.setIfInBounds_toArray, List.set_cons_zero, List.set_cons_succ]
    refine take_l (i := 16) (v := ?_) rfl (by kernel_rfl) (by kernel_rfl) (by kernel_rfl) (fun _ _ _ h => h) (Or.inl ⟨by rfl, ?_⟩) (by assumption) ?_
    case refine_2 => (intro _ _; go_simp; all_goals with_reducible rfl)
    simp only [Act.put, List.setIfInBounds_toArray, List.set_cons_zero, List.set_cons_succ]
    refine take_l (i := 17) (v := ?_) rfl (by kernel_rfl) (by kernel_rfl) (by kernel_rfl) (fun _ _ _ h => h) (Or.inl ⟨by rfl, ?_⟩) (by assumption) ?_
    case refine_2 => (intro _ _; go_simp; all_goals with_reducible rfl)
    simp only [Act.put, List.setIfInBounds_toArray, List.set_cons_zero, List.set_cons_succ]
    clear hHeld
    refine wpAnyH_ready (rs := [18]) (by kernel_rfl) (by simp) ?_
    refine cons_l rfl (fun K hK => ?_) AllReadyH.nil
    go_simp
    go_at_call 17
    refine (awake7 w17).mono ?_
    rintro e w18 ⟨rfl, hb18⟩
    have HS18 := Lib.hid (HS17.out.below hb18)
    have hn18 := nu_trans hn17 hb18
    clear hb18 HS17 hn17
    go_wp2_with fail
    refine hK.out _ _ HS18.out (fun hHeld => ?_)
    clear hK K hHeld
    simp only [Act.put, List.setIfInBounds_toArray, List.set_cons_zero, List.set_cons_succ]
    have hHeld := HS18.out
    refine take_l (i := 19) (v := ?_) rfl (by kernel_rfl) (by kernel_rfl) (by kernel_rfl) (fun _ _ _ h => h) (Or.inl ⟨by rfl, ?_⟩) (by assumption) ?_
    case refine_2 => (intro _ _; go_simp; all_goals with_reducible rfl)
    simp only [Act.put, List.setIfInBounds_toArray, List.set_cons_zero, List.set_cons_succ]
    refine take_l (i := 20) (v := ?_) rfl (by kernel_rfl) (by kernel_rfl) (by kernel_rfl) (fun _ _ _ h => h) (Or.inl ⟨by rfl, ?_⟩) (by assumption) ?_
    case refine_2 => (intro _ _; go_simp; all_goals with_reducible rfl)
    simp only [Act.put, List.setIfInBounds_toArray, List.set_cons_zero, List.set_cons_succ]
    refine wpAnyH_done (by kernel_rfl) ?_ _
    go_wp2_with fail
    go_ret
    exact ⟨rfl, hn18⟩
end Go.Proofs.Ytnojbjconiddoaa
