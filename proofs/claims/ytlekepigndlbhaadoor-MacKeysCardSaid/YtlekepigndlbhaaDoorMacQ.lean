/-
  The walk of the document's Of of law04.
-/
import Derived.Test.YtlekepigndlbhaaDoorMacR
import Derived.Test.YtlekepigndlbhaaDoorStep
namespace Go.Proofs.YtlekepigndlbhaaDoor
open Go.ChangeShapes Go.WideShapes Go.ChangeAt Go.RowKit

theorem step_append_bytes {ops : Array Oper} {o : Oper} {a : Act} {w : World} {K : Act → World → Prop} {Q : Exit → Act → World → Prop} {E : Prop} (hgd : o.guard = none) (s x : Operand)
    (ho : o.op = .call { callee := .builtin .append, args := #[s, x], argTypes := #[22, 22] }) {base : Nat} {v : Value} {xs ys : List Nat} (hown : OwnB w base 5 v xs) (hb : base ≤ w.heap.size)
    {ao : Option Addr} {m c : Nat} (hy : BytesIn w ao m c ys) (hl : xs.length + m ≤ 140737488355320) (hs : a.eval s = v) (hx : a.eval x = .slice ao m c)
    (h : ∀ v' w', OwnB w' base 5 v' (xs ++ ys) → w.grownBy w' v.ownBlock → K (a.put o.dst v') w') :
    if Region.wanted o (yielded ops a.tmps) = true then Oper.wp Tryd.prog o a w K Q else E := by
  obtain ⟨i0, hi, hz0, hz1, hz2⟩ := info_parts info_u8
  refine step_append_own hgd s x 22 ho base 5 i0 (.int .u8 0) 1 1 Tryd.underlying22 hi hz0 hz1 hz2 rfl (by decide) v xs.length (xs.map vb) hs hown.1 ao m c (ys.map vb) hx hy.2 (by rw [List.length_map, hy.1.1, Nat.mul_one]) hy.src (vb_one _) (by unfold maxLen; omega) (by omega) hb ?_
  intro v' w' hown' hg _
  refine h v' w' ⟨?_, fun z hz => ?_⟩ hg
  · rw [List.length_append, hy.1.1, List.map_append]
    exact hown'
  · rcases List.mem_append.1 hz with hz | hz
    · exact hown.2 z hz
    · exact wf_u8_lt (hy.1.2.1 z hz)

set_option maxRecDepth 100000 in
set_option maxHeartbeats 2000000 in
theorem ref4Of_any (ka ta : Option Addr) (klen kcap tlen tcap : Nat) (key text : List Nat) (w : World) (hx : BytesIn w ka klen kcap key) (hy : BytesIn w ta tlen tcap text) (hk : klen ≤ 1000000) (ht : tlen ≤ 1000000) :
    Calls Tryd.prog 27 #[.slice ka klen kcap, .slice ta tlen tcap] w fun e w' => e = .returned (.agg ((hmac key text).map vb).toArray) ∧ Below w.heap.size w w' := by
  have hal := nu_alloc (nu_refl w) (.cells z32 25)
  have HR0 := Lib.hid (Blk.made w 25 z32)
  have Hx := Lib.hid (hx.keep hal)
  have Hy := Lib.hid (hy.keep hal)
  have Hyl := Lib.hid hy.1.1
  clear hx hy
  go_enter Tryd.func27, Tryd.ntmps27
  go_wp2_with fail
  generalize w.alloc (.cells z32 25) = w0 at *
  refine (block4_any ka klen kcap key w0 Hx.out (by omega)).mono ?_
  rintro e w1 ⟨v1, rfl, hO1, hn1⟩
  obtain ⟨a1, c1, rfl, _, _, hby1⟩ := hO1.reads
  rw [kb_len] at hby1 ⊢
  have HB1 := Lib.hid hby1
  clear hO1 hby1
  go_wp2_with fail
  refine (with_any a1 64 c1 (kb key) 54 54 rfl (by omega) w1 HB1.out (by omega)).mono ?_
  rintro e w2 ⟨v2, rfl, hO2, hb2⟩
  have hn2 := nu_trans hn1 hb2
  have HO2 := Lib.hid hO2
  have HY2 := Lib.hid (Hy.out.keep hn2)
  have Hs2 := Lib.hid hb2.size
  have Hs1 := Lib.hid hn1.size
  have Hl2 := Lib.hid (show (xr (kb key) 54).length + tlen ≤ 140737488355320 by rw [xr_len, kb_len]; omega)
  clear hO2 hb2 hn1 HB1
  go_wp2_with (at_builtin; refine wpList_append_bytes rfl (.tmp 8) (.tmp 9) rfl HO2.out Hs2.out HY2.out Hl2.out rfl rfl ?_)
  intro v3 w3 hO3 hb3
  have hn3 := hn2.trans (hb3.mono Hs1.out)
  obtain ⟨a3, c3, rfl, _, _, hby3⟩ := hO3.reads
  obtain ⟨D, hD⟩ : ∃ D, digest (xr (kb key) 54 ++ text) = D := ⟨_, rfl⟩
  have HD := Lib.hid hD
  have HDl := Lib.hid (show D.length = 32 by rw [← hD, digest_len])
  have HDx := Lib.hid (show ∀ x ∈ D, x < 256 by rw [← hD]; exact digest_lt _)
  obtain ⟨L, hL⟩ : ∃ L, L = (xr (kb key) 54 ++ text).length := ⟨_, rfl⟩
  rw [← hL] at hby3 ⊢
  have hLb : L ≤ 1000000000 := by rw [hL, List.length_append, xr_len, kb_len, Hyl.out]; omega
  have HW3 := Lib.hid (refOf_is hD hby3 hLb)
  clear hO3 hb3 hby3 hn2 HO2 HY2 Hl2 hD hL
  go_wp2_with fail
  refine HW3.out.mono ?_
  rintro e w4 ⟨rfl, hb4⟩
  have hn4 := nu_trans hn3 hb4
  have HZ := Lib.hid (Blk.made w4 25 z32)
  have Hl := Lib.hid (show (D.map vb).length = z32.size by rw [List.length_map, HDl.out]; rfl)
  have Hsz := Lib.hid (show (Tryd.prog.info? 25).map (·.size) = some (D.map vb).length by rw [List.length_map, HDl.out]; kernel_rfl)
  have H1 := Lib.hid (vb_one D)
  have HF := Lib.hid (Blk.fill HZ.out (D.map vb) Hl.out)
  have hn5 := nu_trans hn4 (nu_fill (D.map vb) (g := w4.heap.size) (Nat.le_refl _) 0 _ (nu_alloc (nu_refl w4) (.cells z32 25)))
  clear HW3 hb4 hn3 hn4
  go_upto_region 2 with (refine wpList_store_blk rfl 25 (.tmp 5) (.tmp 11) rfl w4.heap.size (D.map vb) rfl rfl 25 z32 HZ.out Hl.out Hsz.out H1.out ?_)
  generalize (w4.alloc (.cells z32 25)).setCells w4.heap.size 0 (D.map vb) = w5 at *
  generalize w4.heap.size = d5 at *
  have HF5 := Lib.hid (show Blk w5 d5 25 (D.map vb).toArray from HF.out)
  have HR5 := Lib.hid (Blk.below HR0.out hn5 (Blk.lt HR0.out))
  clear HF HZ
  refine wp_region_held_drew (S := fun _ => True) (by kernel_rfl) (trivial) (fun hHeld => ?_)
  dsimp only [Array.replicate, List.replicate, List.size_toArray, List.length_cons, List.length_nil, Nat.reduceAdd] at hHeld ⊢
  have hn5 := nu_drew hn5
  have HF5 := Lib.hid HF5.out.drew
  have HR5 := Lib.hid HR5.out.drew
  generalize w5.drew = w6 at *
  refine take_l (i := 0) (v := ?_) rfl (by kernel_rfl) (by kernel_rfl) (by kernel_rfl) (fun _ _ _ h => h) (Or.inl ⟨by rfl, ?_⟩) (by assumption) ?_
  case refine_2 => (intro _ _; go_simp; all_goals with_reducible rfl)
  simp only [Act.put, List.setIfInBounds_toArray, List.set_cons_zero, List.set_cons_succ]
  refine take_l (i := 3) (v := ?_) rfl (by kernel_rfl) (by kernel_rfl) (by kernel_rfl) (fun _ _ _ h => h) (Or.inl ⟨by rfl, ?_⟩) (by assumption) ?_
  case refine_2 => (intro _ _; go_simp; all_goals with_reducible rfl)
  simp only [Act.put, List.setIfInBounds_toArray, List.set_cons_zero, List.set_cons_succ]
  refine wpAnyH_ready (rs := [1]) (by kernel_rfl) (by simp) ?_
  refine cons_l rfl (fun K hK => ?_) AllReadyH.nil
  go_simp
  go_at_call 39
  refine (block4_any ka klen kcap key w6 (Hx.out.keep hn5) (by omega)).mono ?_
  rintro e w7 ⟨v7, rfl, hO7, hb7⟩
  have hn7 := nu_trans hn5 hb7
  obtain ⟨a7, c7, rfl, _, _, hby7⟩ := hO7.reads
  rw [kb_len] at hby7 ⊢
  have HB7 := Lib.hid hby7
  have HF7 := Lib.hid (Blk.below HF5.out hb7 (Blk.lt HF5.out))
  have HR7 := Lib.hid (Blk.below HR5.out hb7 (Blk.lt HR5.out))
  clear hO7 hby7 hb7 hn5 HF5 HR5
  go_wp2_with fail
  refine hK.out _ _ trivial (fun hHeld => ?_)
  clear hK K
  simp only [Act.put, List.setIfInBounds_toArray, List.set_cons_zero, List.set_cons_succ]
  refine wpAnyH_ready (rs := [2]) (by kernel_rfl) (by simp) ?_
  refine cons_l rfl (fun K hK => ?_) AllReadyH.nil
  go_simp
  go_at_call 38
  refine (with_any a7 64 c7 (kb key) 92 92 rfl (by omega) w7 HB7.out (by omega)).mono ?_
  rintro e w8 ⟨v8, rfl, hO8, hb8⟩
  have hn8 := nu_trans hn7 hb8
  have HO8 := Lib.hid hO8
  have HF8 := Lib.hid (Blk.below HF7.out hb8 (Blk.lt HF7.out))
  have HR8 := Lib.hid (Blk.below HR7.out hb8 (Blk.lt HR7.out))
  have Hs7 := Lib.hid hn7.size
  have Hs8 := Lib.hid hb8.size
  clear hO8 hb8 hn7 HF7 HR7 HB7
  go_wp2_with fail
  refine hK.out _ _ trivial (fun hHeld => ?_)
  clear hK K
  simp only [Act.put, List.setIfInBounds_toArray, List.set_cons_zero, List.set_cons_succ]
  refine wpAnyH_ready (rs := [4]) (by kernel_rfl) (by simp) ?_
  refine cons_l rfl (fun K hK => ?_) AllReadyH.nil
  refine step_append_bytes rfl (.tmp 14) (.tmp 15) rfl HO8.out Hs8.out (bytes_blk HF8.out HDl.out HDx.out) (by rw [xr_len, kb_len]; omega) rfl rfl ?_
  intro v9 w9 hO9 hg9
  have hs78 := Hs8.out
  have hn9 : Below w0.heap.size w0 w9 := hn8.grown hg9 hn8.size (fun k hk => Nat.le_trans Hs7.out (HO8.out.1.lt k hk).1)
  have HR9 := Lib.hid (HR8.out.grown hg9 (fun e => by have h1 := (HO8.out.1.lt _ e.symm).1; have h2 := Hs7.out; have h3 := Blk.lt HR0.out; omega))
  obtain ⟨a9, c9, rfl, _, _, hby9⟩ := hO9.reads
  obtain ⟨M, hM⟩ : ∃ M, M = (xr (kb key) 92 ++ D).length := ⟨_, rfl⟩
  rw [← hM] at hby9 ⊢
  have hMb : M ≤ 1000000000 := by rw [hM, List.length_append, xr_len, kb_len, HDl.out]; omega
  have HB9 := Lib.hid hby9
  have HE := Lib.hid (show digest (xr (kb key) 92 ++ D) = hmac key text by rw [hmac, HD.out])
  obtain ⟨E, hE⟩ : ∃ E, E = hmac key text := ⟨_, rfl⟩
  rw [← hE] at HE
  have HEe := Lib.hid hE
  clear hE hO9 hg9 hby9 hM HO8 HF8 HR8 hn8 hs78
  refine hK.out _ _ trivial (fun hHeld => ?_)
  clear hK K
  simp only [Act.put, List.setIfInBounds_toArray, List.set_cons_zero, List.set_cons_succ]
  refine wpAnyH_ready (rs := [5]) (by kernel_rfl) (by simp) ?_
  refine cons_l rfl (fun K hK => ?_) AllReadyH.nil
  go_simp
  go_at_call 16
  refine (refOf_is HE.out HB9.out hMb).mono ?_
  rintro e w10 ⟨rfl, hb10⟩
  have hn10 := nu_trans hn9 hb10
  have HR10 := Lib.hid (Blk.below HR9.out hb10 (Blk.lt HR9.out))
  clear hb10 hn9 HR9 HB9
  go_wp2_with fail
  refine hK.out _ _ trivial (fun hHeld => ?_)
  clear hK K
  simp only [Act.put, List.setIfInBounds_toArray, List.set_cons_zero, List.set_cons_succ]
  have HEl := Lib.hid (show E.length = 32 by rw [HEe.out, hmac_len])
  have HlE := Lib.hid (show (E.map vb).length = z32.size by rw [List.length_map, HEl.out]; rfl)
  have HFE := Lib.hid (Blk.fill HR10.out (E.map vb) HlE.out)
  have Hnf := Lib.hid (nu_fill (E.map vb) (g := w.heap.size) (Nat.le_refl _) 0 _ (nu_trans hal hn10))
  have HszE := Lib.hid (show (Tryd.prog.info? 25).map (·.size) = some (E.map vb).toArray.size by rw [List.size_toArray, List.length_map, HEl.out]; kernel_rfl)
  have H1E := Lib.hid (vb_one E)
  refine wpAnyH_ready (rs := [6]) (by kernel_rfl) (by simp) ?_
  refine cons_l rfl (fun K hK => ?_) AllReadyH.nil
  refine step_store_blk rfl 25 (.tmp 4) (.tmp 17) rfl w.heap.size (E.map vb) rfl rfl 25 z32 HR10.out HlE.out (by have h := HszE.out; rwa [List.size_toArray] at h) H1E.out ?_
  refine hK.out _ _ trivial (fun hHeld => ?_)
  clear hK K
  simp only [Act.put, List.setIfInBounds_toArray, List.set_cons_zero, List.set_cons_succ]
  refine wpAnyH_done (by kernel_rfl) ?_ _
  go_wp2_with fail
  refine bodyPost_ret (results_blk rfl _ w.heap.size 25 (E.map vb).toArray rfl HFE.out Tryd.underlying25 HszE.out) rfl ⟨by rw [HEe.out], Hnf.out⟩
theorem ref4Of_is {ka ta : Option Addr} {klen kcap tlen tcap : Nat} {key text D : List Nat} {w : World} (hD : hmac key text = D) (hx : BytesIn w ka klen kcap key) (hy : BytesIn w ta tlen tcap text) (hk : klen ≤ 1000000) (ht : tlen ≤ 1000000) :
    Calls Tryd.prog 27 #[.slice ka klen kcap, .slice ta tlen tcap] w fun e w' => e = .returned (.agg (D.map vb).toArray) ∧ Below w.heap.size w w' := by
  rw [← hD]
  exact ref4Of_any ka ta klen kcap tlen tcap key text w hx hy hk ht
end Go.Proofs.YtlekepigndlbhaaDoor
