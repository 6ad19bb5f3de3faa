/-
  What the proof of GcmTurned rests on, part 8 of 10.
-/
import Derived.Test.YtpeibkdcglkimaaGcmTurnedB7
namespace Go.Proofs.Ytpeibkdcglkimaa
open Go.ChangeShapes Go.WideShapes Go.ChangeAt Go.RowKit Fld Aes Gcm
set_option linter.unusedSimpArgs false

set_option maxRecDepth 100000 in
theorem seal_nil (n : Value) (a t : Option Addr) (la ca lt ct : Nat) (w : World) (cs : Array Value) (hn : n = .agg cs) :
    Calls Try.prog 14 #[.pointer none, n, .slice a la ca, .slice t lt ct] w fun e w' => e = .returned (.slice none 0 0) ∧ Below w.heap.size w w' := by
  subst hn
  have hal := nu_alloc (nu_refl w) (.cells cs 23)
  go_enter Try.func14, Try.ntmps14
  go_wp2_with fail
  go_ret
  exact ⟨rfl, hal⟩
set_option maxRecDepth 100000 in
theorem open_nil (n : Value) (a t : Option Addr) (la ca lt ct : Nat) (w : World) (cs : Array Value) (hn : n = .agg cs) :
    Calls Try.prog 18 #[.pointer none, n, .slice a la ca, .slice t lt ct] w fun e w' => e = .returned (.tuple #[.slice none 0 0, .int .i64 5]) ∧ Below w.heap.size w w' := by
  subst hn
  have hal := nu_alloc (nu_refl w) (.cells cs 23)
  go_enter Try.func18, Try.ntmps18
  go_wp2_with fail
  go_ret2
  exact ⟨rfl, hal⟩
set_option maxRecDepth 100000 in
theorem open_short (X : Nat) (n : Value) (a t : Option Addr) (la ca lt ct : Nat) (w : World) (cs : Array Value) (hn : n = .agg cs) (hl : lt < 16) :
    Calls Try.prog 18 #[.pointer (some ⟨X, 0, none⟩), n, .slice a la ca, .slice t lt ct] w fun e w' => e = .returned (.tuple #[.slice none 0 0, .int .i64 2]) ∧ Below w.heap.size w w' := by
  subst hn
  have hal := nu_alloc (nu_refl w) (.cells cs 23)
  have h1 : (lt : Int) - 16 < 0 := by omega
  go_enter Try.func18, Try.ntmps18
  go_wp2_with fail
  go_ret2
  exact ⟨rfl, hal⟩
set_option maxRecDepth 100000 in
set_option maxHeartbeats 4000000 in
theorem seal_any {w : World} {X R h : Nat} {Ws : List Nat} (hG : GBox w X Ws R h) (hK : Keyed Ws R) (hh : h < 2 ^ 128) (nonce : List Nat) (h12 : nonce.length = 12) (hx12 : ∀ x ∈ nonce, x < 256) (a : Option Addr) (la ca : Nat) (xs : List Nat) (hx : BytesIn w a la ca xs) (hla : la ≤ 140737488355320) (hac : la ≤ ca ∧ ca ≤ maxLen) (t : Option Addr) (lt ct : Nat) (ys : List Nat) (hy : BytesIn w t lt ct ys) (hlt : lt ≤ 2000) :
    Calls Try.prog 14 #[.pointer (some ⟨X, 0, none⟩), .agg (nonce.map vb).toArray, .slice a la ca, .slice t lt ct] w fun e w' => ∃ v, e = .returned v ∧ OwnB w' w.heap.size 5 v (sealL Ws R nonce h xs ys) ∧ Below w.heap.size w w' := by
  obtain ⟨i0, hi, hz0, hz1, hz2⟩ := info_parts info_u8
  have Hi := Lib.hid (And.intro hi (And.intro hz0 (And.intro hz1 hz2)))
  have hal := nu_alloc (nu_refl w) (.cells (nonce.map vb).toArray 23)
  have HP := Lib.hid (Blk.made w 23 (nonce.map vb).toArray)
  have HG := Lib.hid (hG.below hal)
  have HK := Lib.hid hK
  have Hh := Lib.hid hh
  have H12 := Lib.hid h12
  have Hx12 := Lib.hid hx12
  have Hx := Lib.hid (hx.keep hal)
  have Hy := Lib.hid (hy.keep hal)
  have Hla := Lib.hid hla
  have Hac := Lib.hid hac
  have Hlt := Lib.hid hlt
  have Hyl := Lib.hid (show ys.length = lt from hy.1.1)
  have Hal := Lib.hid hal
  clear hi hz0 hz1 hz2 hG hK hh h12 hx12 hx hy hla hac hlt hal
  go_enter Try.func14, Try.ntmps14
  go_upto_region 1 with fail
  generalize w.alloc (.cells (nonce.map vb).toArray 23) = w1 at *
  obtain ⟨P, hP⟩ : ∃ P, P = w.heap.size := ⟨_, rfl⟩
  rw [← hP] at HP
  rw [← hP]
  clear hP
  go_wp2_with (refine wpList_run _ (by rfl) (e12_load HP.out H12.out (.tmp 5) rfl rfl) ?_)
  refine (turned_any HG.out HK.out nonce H12.out Hx12.out t lt ct ys Hy.out Hlt.out).mono ?_
  rintro e w2 ⟨v, rfl, hO, hb2⟩
  have HP2 := Lib.hid (HP.out.below hb2 HP.out.lt)
  have HG2 := Lib.hid (HG.out.below hb2)
  have Hx2 := Lib.hid (Hx.out.keep hb2)
  have hn2 := nu_trans Hal.out hb2
  have HO := Lib.hid (own_mono hO Hal.out.size)
  obtain ⟨T, hT⟩ : ∃ T, T = turned Ws R nonce ys := ⟨_, rfl⟩
  rw [← hT] at HO
  have HTl := Lib.hid (show T.length = lt by rw [hT, turned_len, Hyl.out])
  have HTe := Lib.hid hT
  obtain ⟨va, vc, rfl, hv1, hv2, hvB⟩ := HO.out.reads
  rw [HTl.out] at hv1 hvB
  rw [HTl.out] at HO
  rw [HTl.out]
  have HV := Lib.hid hvB
  have Hvc := Lib.hid (And.intro hv1 hv2)
  have Hl3 := Lib.hid (show lt ≤ 140737488355320 by have := Hlt.out; omega)
  clear hO hb2 HP HG Hx Hy hT hvB hv1 hv2
  go_wp2_with (refine wpList_run _ (by rfl) (e12_load HP2.out H12.out (.tmp 5) rfl rfl) ?_)
  refine (tag_any HG2.out HK.out Hh.out nonce H12.out Hx12.out a va la ca lt vc xs T Hx2.out HV.out Hla.out Hl3.out Hac.out Hvc.out).mono ?_
  rintro e w3 ⟨G, rfl, hGl, hGb, hb3⟩
  obtain ⟨D, hD⟩ : ∃ D, D = tagL Ws R nonce h xs T := ⟨_, rfl⟩
  rw [← hD] at hGb
  have HD := Lib.hid (show St16 D by rw [hD]; exact tagL_st _ _ _ _ _ _)
  have HDe := Lib.hid hD
  have HGb := Lib.hid hGb
  have HO3 := Lib.hid (ownB_under HO.out hb3)
  have hn3 := nu_trans hn2 hb3
  have HB := Lib.hid hn3.size
  have Hll := Lib.hid (show (D.map vb).length = 16 * 1 by rw [List.length_map, HD.out.1])
  clear hGl hGb hb3 hD HP2 HG2 Hx2 HO hn2 HV Hvc
  go_wp2_with (at_builtin; refine wpList_append_own _ rfl (.tmp 16) (.tmp 21) 22 rfl w.heap.size 5 i0 (.int .u8 0) 1 1 Try.underlying22 Hi.out.1 Hi.out.2.1 Hi.out.2.2.1 Hi.out.2.2.2 rfl (by decide) (.slice va lt vc) T.length (T.map vb) rfl HO3.out.1 ⟨G, 0, none⟩ 16 16 (D.map vb) rfl Hll.out (fun j u hu => by rw [Addr.add_lit, Nat.zero_add]; exact HGb.out.at j u (by simpa using hu)) (vb_one _) (by rw [HTl.out]; have := Hlt.out; unfold maxLen; omega) (by rw [HTl.out]; have := Hlt.out; omega) HB.out ?_)
  intro v' w4 hown hg4 _
  have HF := Lib.hid (show OwnB w4 w.heap.size 5 v' (sealL Ws R nonce h xs ys) from by
    rw [sealL, ← HTe.out, ← HDe.out]
    refine ⟨by rw [List.length_append, HD.out.1, List.map_append]; exact hown, fun x hx => ?_⟩
    rcases List.mem_append.1 hx with hx | hx
    · exact HO3.out.2 x hx
    · exact HD.out.2 x hx)
  have hn4 : Below w.heap.size w w4 := hn3.grown hg4 HB.out (fun k hk => (HO3.out.1.lt k hk).1)
  clear hown hg4 HO3 hn3 HGb
  go_wp2_with fail
  go_ret
  exact ⟨v', rfl, HF.out, hn4⟩
set_option maxRecDepth 100000 in
set_option maxHeartbeats 4000000 in
theorem open_good {w : World} {X R h : Nat} {Ws : List Nat} (hG : GBox w X Ws R h) (hK : Keyed Ws R) (hh : h < 2 ^ 128) (nonce : List Nat) (h12 : nonce.length = 12) (hx12 : ∀ x ∈ nonce, x < 256) (a : Option Addr) (la ca : Nat) (xs : List Nat) (hx : BytesIn w a la ca xs) (hla : la ≤ 140737488355320) (hac : la ≤ ca ∧ ca ≤ maxLen) (t : Option Addr) (lt ct n : Nat) (ys : List Nat) (hy : BytesIn w t lt ct ys) (hn : lt = n + 16) (hn2 : n ≤ 2000) (htc : lt ≤ ct ∧ ct ≤ maxLen) (hT : tagL Ws R nonce h xs (ys.take n) = ys.drop n) :
    Calls Try.prog 18 #[.pointer (some ⟨X, 0, none⟩), .agg (nonce.map vb).toArray, .slice a la ca, .slice t lt ct] w fun e w' => ∃ v, e = .returned (.tuple #[v, .int .i64 0]) ∧ OwnB w' w.heap.size 5 v (turned Ws R nonce (ys.take n)) ∧ Below w.heap.size w w' := by
  have hal := nu_alloc (nu_refl w) (.cells (nonce.map vb).toArray 23)
  have HP := Lib.hid (Blk.made w 23 (nonce.map vb).toArray)
  have HG := Lib.hid (hG.below hal)
  have HK := Lib.hid hK
  have Hh := Lib.hid hh
  have H12 := Lib.hid h12
  have Hx12 := Lib.hid hx12
  have Hx := Lib.hid (hx.keep hal)
  have Hla := Lib.hid hla
  have Hac := Lib.hid hac
  obtain ⟨b1, o1, rfl, hbl, hcell⟩ := hy.1.2.2 (by omega)
  have hy1 := hy.keep hal
  have hcn : ¬ ct = n := by omega
  have HyF := Lib.hid (hy1.first (n := n) (by omega))
  have hyl := hy1.left (n := n) (by omega) htc.1
  rw [show leftAt (some ⟨b1, o1, none⟩) ct n = some ⟨b1, o1 + n, none⟩ by simp [leftAt, hcn, Go.WideShapes.add_plain], show lt - n = 16 by omega] at hyl
  have HyL := Lib.hid hyl
  have Hn2 := Lib.hid (show n ≤ 140737488355320 by omega)
  have Hn20 := Lib.hid hn2
  have Hnc := Lib.hid (show n ≤ ct ∧ ct ≤ maxLen by omega)
  have HT := Lib.hid (show decide (tagL Ws R nonce h xs (ys.take n) = ys.drop n) = true by rw [decide_eq_true_iff]; exact hT)
  have Hal := Lib.hid hal
  have hl1 : (lt : Int) - 16 = (n : Int) := by omega
  have hl0 : ¬ (n : Int) < 0 := by omega
  have hnl : n ≤ lt := by omega
  have hlc : lt ≤ ct := htc.1
  have hnc : n ≤ ct := by omega
  have hcm : ct ≤ 9223372036854775807 := by have := htc.2; unfold maxLen at this; omega
  have hl16 : lt - n = 16 := by omega
  have wn : IntKind.i64.wrap (n : Int) = (n : Int) := by rw [IntKind.wrap_i64]; omega
  clear hG hK hh h12 hx12 hx hla hac hy hbl hcell hy1 hyl hn2 htc hT hal hn
  go_enter Try.func18, Try.ntmps18
  go_upto_region 1 with fail
  generalize w.alloc (.cells (nonce.map vb).toArray 23) = w1 at *
  obtain ⟨P, hP⟩ : ∃ P, P = w.heap.size := ⟨_, rfl⟩
  rw [← hP] at HP
  rw [← hP]
  clear hP
  go_upto_region 6 with fail
  refine wp_region_held_drew (S := fun W => Below w1.heap.size w1 W) (by kernel_rfl) (nu_drew (nu_refl w1)) (fun hHeld => ?_)
  dsimp only [Array.replicate, List.replicate, List.size_toArray, List.length_cons, List.length_nil, Nat.reduceAdd] at hHeld ⊢
  have HB0 := Lib.hid hHeld
  generalize w1.drew = u0 at *
  refine take_l (i := 0) (v := ?_) rfl (by kernel_rfl) (by kernel_rfl) (by kernel_rfl) (fun _ _ _ h => h) (Or.inl ⟨by rfl, ?_⟩) (by assumption) ?_
  case refine_2 => (intro _ _; go_simp; all_goals with_reducible rfl)
  simp only [Act.put, List.setIfInBounds_toArray, List.set_cons_zero, List.set_cons_succ]
  refine take_l (i := 1) rfl (by kernel_rfl) (by kernel_rfl) (by kernel_rfl) (fun _ _ _ h => h) (Or.inl ⟨by rfl, fun W hS => e12_load (Blk.below HP.out hS HP.out.lt) H12.out (.tmp 5) rfl rfl⟩) (by assumption) ?_
  simp only [Act.put, List.setIfInBounds_toArray, List.set_cons_zero, List.set_cons_succ]
  refine take_l (i := 2) (v := ?_) rfl (by kernel_rfl) (by kernel_rfl) (by kernel_rfl) (fun _ _ _ h => h) (Or.inl ⟨by rfl, ?_⟩) (by assumption) ?_
  case refine_2 => (intro _ _; go_simp; all_goals with_reducible rfl)
  simp only [Act.put, List.setIfInBounds_toArray, List.set_cons_zero, List.set_cons_succ]
  refine take_l (i := 3) (v := ?_) rfl (by kernel_rfl) (by kernel_rfl) (by kernel_rfl) (fun _ _ _ h => h) (Or.inl ⟨by rfl, ?_⟩) (by assumption) ?_
  case refine_2 => (intro _ _; go_simp; all_goals with_reducible rfl)
  simp only [Act.put, List.setIfInBounds_toArray, List.set_cons_zero, List.set_cons_succ]
  refine take_l (i := 4) (v := ?_) rfl (by kernel_rfl) (by kernel_rfl) (by kernel_rfl) (fun _ _ _ h => h) (Or.inl ⟨by rfl, ?_⟩) (by assumption) ?_
  case refine_2 => (intro _ _; go_simp; all_goals with_reducible rfl)
  simp only [Act.put, List.setIfInBounds_toArray, List.set_cons_zero, List.set_cons_succ]
  refine take_l (i := 5) (v := ?_) rfl (by kernel_rfl) (by kernel_rfl) (by kernel_rfl) (fun _ _ _ h => h) (Or.inl ⟨by rfl, ?_⟩) (by assumption) ?_
  case refine_2 => (intro _ _; go_simp; all_goals with_reducible rfl)
  simp only [Act.put, List.setIfInBounds_toArray, List.set_cons_zero, List.set_cons_succ]
  refine take_l (i := 7) (v := ?_) rfl (by kernel_rfl) (by kernel_rfl) (by kernel_rfl) (fun _ _ _ h => h) (Or.inl ⟨by rfl, ?_⟩) (by assumption) ?_
  case refine_2 => (intro _ _; go_simp; all_goals with_reducible rfl)
  simp only [Act.put, List.setIfInBounds_toArray, List.set_cons_zero, List.set_cons_succ]
  refine take_l (i := 8) (v := ?_) rfl (by kernel_rfl) (by kernel_rfl) (by kernel_rfl) (fun _ _ _ h => h) (Or.inl ⟨by rfl, ?_⟩) (by assumption) ?_
  case refine_2 => (intro _ _; go_simp; all_goals with_reducible rfl)
  simp only [Act.put, List.setIfInBounds_toArray, List.set_cons_zero, List.set_cons_succ]
  refine take_l (i := 9) (v := ?_) rfl (by kernel_rfl) (by kernel_rfl) (by kernel_rfl) (fun _ _ _ h => h) (Or.inl ⟨by rfl, ?_⟩) (by assumption) ?_
  case refine_2 => (intro _ _; go_simp; all_goals with_reducible rfl)
  simp only [Act.put, List.setIfInBounds_toArray, List.set_cons_zero, List.set_cons_succ]
  clear hHeld
  refine wpAnyH_ready (rs := [6]) (by kernel_rfl) (by simp) ?_
  refine cons_l rfl (fun K hK => ?_) AllReadyH.nil
  go_simp
  go_at_call 29
  refine (tag_any (HG.out.below HB0.out) HK.out Hh.out nonce H12.out Hx12.out a (some ⟨b1, o1, none⟩) la ca n ct xs (ys.take n) (Hx.out.keep HB0.out) (HyF.out.keep HB0.out) Hla.out Hn2.out Hac.out Hnc.out).mono ?_
  rintro e u1 ⟨G, rfl, hGl, hGb, hb⟩
  have HB1 := Lib.hid (nu_trans HB0.out hb)
  have HGb := Lib.hid hGb
  clear hb hGl hGb HB0
  go_wp2_with fail
  refine hK.out _ _ HB1.out (fun hHeld => ?_)
  clear hK K hHeld
  simp only [Act.put, List.setIfInBounds_toArray, List.set_cons_zero, List.set_cons_succ]
  refine wpAnyH_ready (rs := [10]) (by kernel_rfl) (by simp) ?_
  refine cons_l rfl (fun K hK => ?_) AllReadyH.nil
  go_simp
  go_at_call 32
  refine (macSame_is true HT.out (show IntsIn u1 .u8 (some ⟨G, 0, none⟩) 16 (tagL Ws R nonce h xs (ys.take n)) from (blk_bytes HGb.out (tagL_st _ _ _ _ _ _).1 (tagL_st _ _ _ _ _ _).2).1) (HyL.out.keep HB1.out).1 (by omega) (by omega)).mono ?_
  rintro e u2 ⟨rfl, nn, rfl⟩
  have HB2 := Lib.hid (nu_drewN HB1.out nn)
  generalize u1.drewN nn = u2 at *
  clear HB1 HGb
  go_wp2_with fail
  refine hK.out _ _ HB2.out (fun hHeld => ?_)
  clear hK K hHeld
  simp only [Act.put, List.setIfInBounds_toArray, List.set_cons_zero, List.set_cons_succ]
  have hHeld := HB2.out
  refine take_l (i := 11) (v := ?_) rfl (by kernel_rfl) (by kernel_rfl) (by kernel_rfl) (fun _ _ _ h => h) (Or.inl ⟨by rfl, ?_⟩) (by assumption) ?_
  case refine_2 => (intro _ _; go_simp; all_goals with_reducible rfl)
  simp only [Act.put, List.setIfInBounds_toArray, List.set_cons_zero, List.set_cons_succ]
  refine wpAnyH_done (by kernel_rfl) ?_ _
  clear hHeld
  have HP2 := Lib.hid (HP.out.below HB2.out HP.out.lt)
  have HG2 := Lib.hid (HG.out.below HB2.out)
  have HyF2 := Lib.hid (HyF.out.keep HB2.out)
  have hn2 := nu_trans Hal.out HB2.out
  clear HP HG HyF HyL HB2 Hx
  go_upto_region 8 with fail
  refine wp_region_held_drew (S := fun W => Below u2.heap.size u2 W) (by kernel_rfl) (nu_drew (nu_refl u2)) (fun hHeld => ?_)
  dsimp only [Array.replicate, List.replicate, List.size_toArray, List.length_cons, List.length_nil, Nat.reduceAdd] at hHeld ⊢
  have HC0 := Lib.hid hHeld
  generalize u2.drew = v0 at *
  refine take_l (i := 0) (v := ?_) rfl (by kernel_rfl) (by kernel_rfl) (by kernel_rfl) (fun _ _ _ h => h) (Or.inl ⟨by rfl, ?_⟩) (by assumption) ?_
  case refine_2 => (intro _ _; go_simp; all_goals with_reducible rfl)
  simp only [Act.put, List.setIfInBounds_toArray, List.set_cons_zero, List.set_cons_succ]
  refine take_l (i := 1) rfl (by kernel_rfl) (by kernel_rfl) (by kernel_rfl) (fun _ _ _ h => h) (Or.inl ⟨by rfl, fun W hS => e12_load (Blk.below HP2.out hS HP2.out.lt) H12.out (.tmp 5) rfl rfl⟩) (by assumption) ?_
  simp only [Act.put, List.setIfInBounds_toArray, List.set_cons_zero, List.set_cons_succ]
  refine take_l (i := 2) (v := ?_) rfl (by kernel_rfl) (by kernel_rfl) (by kernel_rfl) (fun _ _ _ h => h) (Or.inl ⟨by rfl, ?_⟩) (by assumption) ?_
  case refine_2 => (intro _ _; go_simp; all_goals with_reducible rfl)
  simp only [Act.put, List.setIfInBounds_toArray, List.set_cons_zero, List.set_cons_succ]
  refine take_l (i := 3) (v := ?_) rfl (by kernel_rfl) (by kernel_rfl) (by kernel_rfl) (fun _ _ _ h => h) (Or.inl ⟨by rfl, ?_⟩) (by assumption) ?_
  case refine_2 => (intro _ _; go_simp; all_goals with_reducible rfl)
  simp only [Act.put, List.setIfInBounds_toArray, List.set_cons_zero, List.set_cons_succ]
  refine take_l (i := 4) (v := ?_) rfl (by kernel_rfl) (by kernel_rfl) (by kernel_rfl) (fun _ _ _ h => h) (Or.inl ⟨by rfl, ?_⟩) (by assumption) ?_
  case refine_2 => (intro _ _; go_simp; all_goals with_reducible rfl)
  simp only [Act.put, List.setIfInBounds_toArray, List.set_cons_zero, List.set_cons_succ]
  clear hHeld
  refine wpAnyH_ready (rs := [5]) (by kernel_rfl) (by simp) ?_
  refine cons_l rfl (fun K hK => ?_) AllReadyH.nil
  go_simp
  go_at_call 28
  refine (turned_any (HG2.out.below HC0.out) HK.out nonce H12.out Hx12.out (some ⟨b1, o1, none⟩) n ct (ys.take n) (HyF2.out.keep HC0.out) Hn20.out).mono ?_
  rintro e v1 ⟨v, rfl, hO, hb⟩
  have HC1 := Lib.hid (nu_trans HC0.out hb)
  have hsz : w.heap.size ≤ v0.heap.size := Nat.le_trans hn2.size HC0.out.size
  have HO := Lib.hid (own_mono hO hsz)
  clear hO hb HC0 hsz
  go_wp2_with fail
  refine hK.out _ _ HC1.out (fun hHeld => ?_)
  clear hK K hHeld
  simp only [Act.put, List.setIfInBounds_toArray, List.set_cons_zero, List.set_cons_succ]
  have hHeld := HC1.out
  refine take_l (i := 6) (v := ?_) rfl (by kernel_rfl) (by kernel_rfl) (by kernel_rfl) (fun _ _ _ h => h) (Or.inl ⟨by rfl, ?_⟩) (by assumption) ?_
  case refine_2 => (intro _ _; go_simp; all_goals with_reducible rfl)
  simp only [Act.put, List.setIfInBounds_toArray, List.set_cons_zero, List.set_cons_succ]
  refine take_l (i := 7) (v := ?_) rfl (by kernel_rfl) (by kernel_rfl) (by kernel_rfl) (fun _ _ _ h => h) (Or.inl ⟨by rfl, ?_⟩) (by assumption) ?_
  case refine_2 => (intro _ _; go_simp; all_goals with_reducible rfl)
  simp only [Act.put, List.setIfInBounds_toArray, List.set_cons_zero, List.set_cons_succ]
  refine wpAnyH_done (by kernel_rfl) ?_ _
  clear hHeld
  have hn3 := nu_trans hn2 HC1.out
  go_wp2_with fail
  go_ret2
  exact ⟨v, rfl, HO.out, hn3⟩
set_option maxRecDepth 100000 in
set_option maxHeartbeats 4000000 in
theorem open_bad {w : World} {X R h : Nat} {Ws : List Nat} (hG : GBox w X Ws R h) (hK : Keyed Ws R) (hh : h < 2 ^ 128) (nonce : List Nat) (h12 : nonce.length = 12) (hx12 : ∀ x ∈ nonce, x < 256) (a : Option Addr) (la ca : Nat) (xs : List Nat) (hx : BytesIn w a la ca xs) (hla : la ≤ 140737488355320) (hac : la ≤ ca ∧ ca ≤ maxLen) (t : Option Addr) (lt ct n : Nat) (ys : List Nat) (hy : BytesIn w t lt ct ys) (hn : lt = n + 16) (hn2 : n ≤ 2000) (htc : lt ≤ ct ∧ ct ≤ maxLen) (hT : ¬ tagL Ws R nonce h xs (ys.take n) = ys.drop n) :
    Calls Try.prog 18 #[.pointer (some ⟨X, 0, none⟩), .agg (nonce.map vb).toArray, .slice a la ca, .slice t lt ct] w fun e w' => e = .returned (.tuple #[.slice none 0 0, .int .i64 10]) ∧ Below w.heap.size w w' := by
  have hal := nu_alloc (nu_refl w) (.cells (nonce.map vb).toArray 23)
  have HP := Lib.hid (Blk.made w 23 (nonce.map vb).toArray)
  have HG := Lib.hid (hG.below hal)
  have HK := Lib.hid hK
  have Hh := Lib.hid hh
  have H12 := Lib.hid h12
  have Hx12 := Lib.hid hx12
  have Hx := Lib.hid (hx.keep hal)
  have Hla := Lib.hid hla
  have Hac := Lib.hid hac
  obtain ⟨b1, o1, rfl, hbl, hcell⟩ := hy.1.2.2 (by omega)
  have hy1 := hy.keep hal
  have hcn : ¬ ct = n := by omega
  have HyF := Lib.hid (hy1.first (n := n) (by omega))
  have hyl := hy1.left (n := n) (by omega) htc.1
  rw [show leftAt (some ⟨b1, o1, none⟩) ct n = some ⟨b1, o1 + n, none⟩ by simp [leftAt, hcn, Go.WideShapes.add_plain], show lt - n = 16 by omega] at hyl
  have HyL := Lib.hid hyl
  have Hn2 := Lib.hid (show n ≤ 140737488355320 by omega)
  have Hn20 := Lib.hid hn2
  have Hnc := Lib.hid (show n ≤ ct ∧ ct ≤ maxLen by omega)
  have HT := Lib.hid (show decide (tagL Ws R nonce h xs (ys.take n) = ys.drop n) = false by rw [decide_eq_false_iff_not]; exact hT)
  have Hal := Lib.hid hal
  have hl1 : (lt : Int) - 16 = (n : Int) := by omega
  have hl0 : ¬ (n : Int) < 0 := by omega
  have hnl : n ≤ lt := by omega
  have hlc : lt ≤ ct := htc.1
  have hnc : n ≤ ct := by omega
  have hcm : ct ≤ 9223372036854775807 := by have := htc.2; unfold maxLen at this; omega
  have hl16 : lt - n = 16 := by omega
  have wn : IntKind.i64.wrap (n : Int) = (n : Int) := by rw [IntKind.wrap_i64]; omega
  clear hG hK hh h12 hx12 hx hla hac hy hbl hcell hy1 hyl hn2 htc hT hal hn
  go_enter Try.func18, Try.ntmps18
  go_upto_region 1 with fail
  generalize w.alloc (.cells (nonce.map vb).toArray 23) = w1 at *
  obtain ⟨P, hP⟩ : ∃ P, P = w.heap.size := ⟨_, rfl⟩
  rw [← hP] at HP
  rw [← hP]
  clear hP
  go_upto_region 6 with fail
  refine wp_region_held_drew (S := fun W => Below w1.heap.size w1 W) (by kernel_rfl) (nu_drew (nu_refl w1)) (fun hHeld => ?_)
  dsimp only [Array.replicate, List.replicate, List.size_toArray, List.length_cons, List.length_nil, Nat.reduceAdd] at hHeld ⊢
  have HB0 := Lib.hid hHeld
  generalize w1.drew = u0 at *
  refine take_l (i := 0) (v := ?_) rfl (by kernel_rfl) (by kernel_rfl) (by kernel_rfl) (fun _ _ _ h => h) (Or.inl ⟨by rfl, ?_⟩) (by assumption) ?_
  case refine_2 => (intro _ _; go_simp; all_goals with_reducible rfl)
  simp only [Act.put, List.setIfInBounds_toArray, List.set_cons_zero, List.set_cons_succ]
  refine take_l (i := 1) rfl (by kernel_rfl) (by kernel_rfl) (by kernel_rfl) (fun _ _ _ h => h) (Or.inl ⟨by rfl, fun W hS => e12_load (Blk.below HP.out hS HP.out.lt) H12.out (.tmp 5) rfl rfl⟩) (by assumption) ?_
  simp only [Act.put, List.setIfInBounds_toArray, List.set_cons_zero, List.set_cons_succ]
  refine take_l (i := 2) (v := ?_) rfl (by kernel_rfl) (by kernel_rfl) (by kernel_rfl) (fun _ _ _ h => h) (Or.inl ⟨by rfl, ?_⟩) (by assumption) ?_
  case refine_2 => (intro _ _; go_simp; all_goals with_reducible rfl)
  simp only [Act.put, List.setIfInBounds_toArray, List.set_cons_zero, List.set_cons_succ]
  refine take_l (i := 3) (v := ?_) rfl (by kernel_rfl) (by kernel_rfl) (by kernel_rfl) (fun _ _ _ h => h) (Or.inl ⟨by rfl, ?_⟩) (by assumption) ?_
  case refine_2 => (intro _ _; go_simp; all_goals with_reducible rfl)
  simp only [Act.put, List.setIfInBounds_toArray, List.set_cons_zero, List.set_cons_succ]
  refine take_l (i := 4) (v := ?_) rfl (by kernel_rfl) (by kernel_rfl) (by kernel_rfl) (fun _ _ _ h => h) (Or.inl ⟨by rfl, ?_⟩) (by assumption) ?_
  case refine_2 => (intro _ _; go_simp; all_goals with_reducible rfl)
  simp only [Act.put, List.setIfInBounds_toArray, List.set_cons_zero, List.set_cons_succ]
  refine take_l (i := 5) (v := ?_) rfl (by kernel_rfl) (by kernel_rfl) (by kernel_rfl) (fun _ _ _ h => h) (Or.inl ⟨by rfl, ?_⟩) (by assumption) ?_
  case refine_2 => (intro _ _; go_simp; all_goals with_reducible rfl)
  simp only [Act.put, List.setIfInBounds_toArray, List.set_cons_zero, List.set_cons_succ]
  refine take_l (i := 7) (v := ?_) rfl (by kernel_rfl) (by kernel_rfl) (by kernel_rfl) (fun _ _ _ h => h) (Or.inl ⟨by rfl, ?_⟩) (by assumption) ?_
  case refine_2 => (intro _ _; go_simp; all_goals with_reducible rfl)
  simp only [Act.put, List.setIfInBounds_toArray, List.set_cons_zero, List.set_cons_succ]
  refine take_l (i := 8) (v := ?_) rfl (by kernel_rfl) (by kernel_rfl) (by kernel_rfl) (fun _ _ _ h => h) (Or.inl ⟨by rfl, ?_⟩) (by assumption) ?_
  case refine_2 => (intro _ _; go_simp; all_goals with_reducible rfl)
  simp only [Act.put, List.setIfInBounds_toArray, List.set_cons_zero, List.set_cons_succ]
  refine take_l (i := 9) (v := ?_) rfl (by kernel_rfl) (by kernel_rfl) (by kernel_rfl) (fun _ _ _ h => h) (Or.inl ⟨by rfl, ?_⟩) (by assumption) ?_
  case refine_2 => (intro _ _; go_simp; all_goals with_reducible rfl)
  simp only [Act.put, List.setIfInBounds_toArray, List.set_cons_zero, List.set_cons_succ]
  clear hHeld
  refine wpAnyH_ready (rs := [6]) (by kernel_rfl) (by simp) ?_
  refine cons_l rfl (fun K hK => ?_) AllReadyH.nil
  go_simp
  go_at_call 29
  refine (tag_any (HG.out.below HB0.out) HK.out Hh.out nonce H12.out Hx12.out a (some ⟨b1, o1, none⟩) la ca n ct xs (ys.take n) (Hx.out.keep HB0.out) (HyF.out.keep HB0.out) Hla.out Hn2.out Hac.out Hnc.out).mono ?_
  rintro e u1 ⟨G, rfl, hGl, hGb, hb⟩
  have HB1 := Lib.hid (nu_trans HB0.out hb)
  have HGb := Lib.hid hGb
  clear hb hGl hGb HB0
  go_wp2_with fail
  refine hK.out _ _ HB1.out (fun hHeld => ?_)
  clear hK K hHeld
  simp only [Act.put, List.setIfInBounds_toArray, List.set_cons_zero, List.set_cons_succ]
  refine wpAnyH_ready (rs := [10]) (by kernel_rfl) (by simp) ?_
  refine cons_l rfl (fun K hK => ?_) AllReadyH.nil
  go_simp
  go_at_call 32
  refine (macSame_is false HT.out (show IntsIn u1 .u8 (some ⟨G, 0, none⟩) 16 (tagL Ws R nonce h xs (ys.take n)) from (blk_bytes HGb.out (tagL_st _ _ _ _ _ _).1 (tagL_st _ _ _ _ _ _).2).1) (HyL.out.keep HB1.out).1 (by omega) (by omega)).mono ?_
  rintro e u2 ⟨rfl, nn, rfl⟩
  have HB2 := Lib.hid (nu_drewN HB1.out nn)
  generalize u1.drewN nn = u2 at *
  clear HB1 HGb
  go_wp2_with fail
  refine hK.out _ _ HB2.out (fun hHeld => ?_)
  clear hK K hHeld
  simp only [Act.put, List.setIfInBounds_toArray, List.set_cons_zero, List.set_cons_succ]
  have hHeld := HB2.out
  refine take_l (i := 11) (v := ?_) rfl (by kernel_rfl) (by kernel_rfl) (by kernel_rfl) (fun _ _ _ h => h) (Or.inl ⟨by rfl, ?_⟩) (by assumption) ?_
  case refine_2 => (intro _ _; go_simp; all_goals with_reducible rfl)
  simp only [Act.put, List.setIfInBounds_toArray, List.set_cons_zero, List.set_cons_succ]
  refine wpAnyH_done (by kernel_rfl) ?_ _
  clear hHeld
  have hn2 := nu_trans Hal.out HB2.out
  clear HP HG HyF HyL HB2 Hx
  go_wp2_with fail
  go_ret2
  exact ⟨rfl, hn2⟩
end Go.Proofs.Ytpeibkdcglkimaa

namespace Go.Proofs.Ytpeibkdcglkimaa
open Go.ChangeShapes Go.WideShapes Go.ChangeAt Go.RowKit
set_option linter.unusedSimpArgs false

theorem mk_zeros (n : Nat) (hb : n ≤ 281474976710656) (W : World) :
    (Instr.makeSlice 22 (.int .i64 (n : Int)) (.int .i64 (n : Int))).run Try.prog W = .ok (.slice (some ⟨W.heap.size, 0, none⟩) n n) (W.alloc (.cells ((List.replicate n 0).map vb).toArray 5)) := by
  obtain ⟨i0, hi, hz0, hz1, hz2⟩ := info_parts info_u8
  have := run_make (P := Try.prog) W 22 5 i0 (.int .u8 0) Try.underlying22 hi hz0 .i64 .i64 (n : Int) (n : Int) (by omega) (by omega) (by rw [hz2]; omega) (by omega)
  rw [this]
  simp only [Int.toNat_natCast, hz1, Nat.mul_one]
  have e : madeCells (Value.int .u8 0).cells n = ((List.replicate n 0).map vb).toArray := by
    apply Array.toList_inj.1
    rw [show (Value.int .u8 0).cells = #[Value.int .u8 0] from rfl, toList_madeCells_one]
    simp [vb]
  rw [e]
theorem min3_any (l m : Nat) : ∃ n : Nat, n ≤ l ∧ n ≤ m ∧ n ≤ 2000 ∧ ∀ (W : World) (ts : Array TypeId) (t : TypeId), (Builtin.min_ ts t #[.int .i64 (l : Int), .int .i64 (m : Int), .int .i64 2000]).run Try.prog W = .ok (.int .i64 (n : Int)) W := by
  by_cases h1 : (m : Int) < (l : Int)
  · by_cases h2 : (2000 : Int) < (m : Int)
    · exact ⟨2000, by omega, by omega, by omega, fun W ts t => by simp [Builtin.min_, Builtin.min2, h1, h2]⟩
    · exact ⟨m, by omega, by omega, by omega, fun W ts t => by simp [Builtin.min_, Builtin.min2, h1, h2]⟩
  · by_cases h2 : (2000 : Int) < (l : Int)
    · exact ⟨2000, by omega, by omega, by omega, fun W ts t => by simp [Builtin.min_, Builtin.min2, h1, h2]⟩
    · exact ⟨l, by omega, by omega, by omega, fun W ts t => by simp [Builtin.min_, Builtin.min2, h1, h2]⟩
structure AddsAt (w : World) (g h : Nat) (a : Option Addr) (n la : Nat) (xs : List Nat) (b : Option Addr) (lb : Nat) (ys : List Nat) (X : Nat) (U : List Nat) (W : World) : Prop where
  key : KeyAt W g h
  one : BytesIn W a n la xs
  two : BytesIn W b n lb ys
  row : Blk W X 5 (U.map vb).toArray
  nu : Below w.heap.size w W
theorem AddsAt.below {w : World} {g h : Nat} {a : Option Addr} {n la : Nat} {xs : List Nat} {b : Option Addr} {lb : Nat} {ys : List Nat} {X : Nat} {U : List Nat} {W W' : World} (H : AddsAt w g h a n la xs b lb ys X U W) (hb : Below W.heap.size W W') : AddsAt w g h a n la xs b lb ys X U W' :=
  ⟨Blk.below H.key hb (Blk.lt H.key), H.one.keep hb, H.two.keep hb, Blk.below H.row hb (Blk.lt H.row), nu_trans H.nu hb⟩

end Go.Proofs.Ytpeibkdcglkimaa

namespace Go.Proofs.Ytpeibkdcglkimaa
open Go.ChangeShapes Go.WideShapes Go.ChangeAt Go.RowKit
set_option linter.unusedSimpArgs false

theorem info_16 : (Try.prog.info? 44).map (fun i => (i.zero, i.size, i.bytes)) = some (some (.agg z16l.toArray), 16, 16) := by kernel_rfl
/-- The bytes so far, in whole blocks. -/
def flat16 (xs : List Nat) (k n : Nat) : List Value := (xs.take k ++ List.replicate (16 * n - k) 0).map vb

theorem own_drew {w : World} {base : Nat} {e : TypeId} {size : Nat} {v : Value} {n : Nat} {xs : List Value} (h : w.ownsRow base e size v n xs) : w.drew.ownsRow base e size v n xs :=
  h.kept (row := none) ⟨rfl, rfl, rfl, Nat.le_refl _, fun _ _ _ => rfl⟩ (by cases v.ownBlock <;> simp)
theorem flat16_at (xs : List Nat) (k n : Nat) (hk : k < xs.length) (hn : k < 16 * n) : (flat16 xs k n)[k]? = some (vb 0) := by
  unfold flat16
  rw [List.getElem?_map, List.getElem?_append_right (by rw [List.length_take]; omega), List.length_take, List.getElem?_replicate, if_pos (by omega)]
  rfl
theorem flat16_set (xs : List Nat) (k n x : Nat) (hx : xs[k]? = some x) (hn : k < 16 * n) : (flat16 xs k n).set k (vb x) = flat16 xs (k + 1) n := by
  unfold flat16
  have hk := (List.getElem?_eq_some_iff.1 hx).1
  rw [← List.map_set, List.set_append, if_neg (by rw [List.length_take]; omega), List.length_take, show k - min k xs.length = 0 by omega, show 16 * n - k = (16 * n - (k + 1)) + 1 by omega, List.replicate_succ, List.set_cons_zero, List.take_add_one, hx]
  simp
theorem flat16_next (xs : List Nat) (k q : Nat) (hk : k = 16 * q) : flat16 xs k q ++ z16l = flat16 xs k (q + 1) := by
  unfold flat16
  rw [show z16l = (List.replicate 16 0).map vb from rfl, ← List.map_append, show 16 * q - k = 0 by omega, show 16 * (q + 1) - k = 16 by omega]
  simp
set_option maxRecDepth 100000 in
set_option maxHeartbeats 2000000 in
theorem blocks_any (a : Option Addr) (len cap : Nat) (xs : List Nat) (w : World) (hx : BytesIn w a len cap xs) (hlen : len ≤ 2000) :
    Calls Try.prog 65 #[.slice a len cap] w fun e w' => ∃ v, e = .returned v ∧ w'.ownsRow w.heap.size 44 16 v ((len + 15) / 16) (flat16 xs len ((len + 15) / 16)) ∧ Below w.heap.size w w' := by
  obtain ⟨i0, hi, hz0, hz1, hz2⟩ := info_parts info_16
  have Hl := Lib.hid hx.1.1
  have Hx := Lib.hid hx
  clear hx
  go_enter Try.func65, Try.ntmps65
  go_wp2_with fail
  go_loopw [3, 4] (fun v i wr => ∃ k : Nat, k ≤ len ∧ i = .int .i64 k ∧ wr.ownsRow w.heap.size 44 16 v ((k + 15) / 16) (flat16 xs k ((k + 15) / 16)) ∧ Below w.heap.size w wr) (fun _ i _ => len - (intOf i).toNat)
  case atStart => exact ⟨0, by omega, rfl, by simpa [flat16] using World.ownsRow_nil w _ _ _, Below.refl _ _⟩
  case round =>
    obtain ⟨k, hk, rfl, hown, hb⟩ := hrel
    by_cases hlt : k < len
    · have hki : (k : Int) < (len : Int) := by omega
      obtain ⟨q, r, hkq, hr⟩ : ∃ q r, k = 16 * q + r ∧ r < 16 := ⟨k / 16, k % 16, by omega, by omega⟩
      have etq : Int.tdiv (k : Int) 16 = (q : Int) := by rw [Int.tdiv_eq_ediv_of_nonneg (by omega)]; omega
      have etr : Int.tmod (k : Int) 16 = (r : Int) := by rw [Int.tmod_eq_emod_of_nonneg (by omega)]; omega
      have ek : (k : Int) / 16 = (q : Int) := by omega
      have em : (k : Int) % 16 = (r : Int) := by omega
      have wq : IntKind.i64.wrap (q : Int) = (q : Int) := by rw [IntKind.wrap_i64]; omega
      have wr' : IntKind.i64.wrap (r : Int) = (r : Int) := by rw [IntKind.wrap_i64]; omega
      have Hkq := Lib.hid hkq
      clear hkq
      obtain ⟨n, hn⟩ : ∃ n, n = q + 1 := ⟨_, rfl⟩
      have hn0 : 0 < n := by omega
      have hqn : (q : Int) < (n : Int) := by omega
      have hri : (r : Int) < 16 := by omega
      have Hn := Lib.hid hn
      clear hn
      by_cases hr0 : r = 0
      · have tr : ((r : Int) == 0) = true := by rw [hr0]; rfl
        have Hr0 := Lib.hid hr0
        clear hr0
        have hown2 := Lib.hid hown
        have Hb := Lib.hid hb
        clear hown
        go_wp2_with (at_builtin; refine wpList_append_own _ rfl (.tmp 14) (.tmp 16) 108 rfl w.heap.size 44 i0 (.agg z16l.toArray) 16 16 Try.underlying108 hi hz0 hz1 hz2 rfl (by decide) _ _ _ rfl (hown2.out.alloc _) ⟨wr.heap.size, 0, none⟩ 1 1 z16l rfl rfl ?c1 ?c2 ?c3 ?c4 ?c5 ?_)
        case c1 => intro j u hu; rw [Addr.add_lit, Nat.zero_add]; exact (Blk.made wr 44 z16l.toArray).at j u (by simpa using hu)
        case c2 => decide
        case c3 => unfold maxLen; omega
        case c4 => omega
        case c5 => simp; have := Hb.out.size; omega
        intro v' w3 hown3 hg3 _
        have hb3 := (Hb.out.alloc Hb.out.size (.cells z16l.toArray 44)).grown hg3 (by simp; have := Hb.out.size; omega) (fun k hk => (hown2.out.lt k hk).1)
        have hE : w3.ownsRow w.heap.size 44 16 v' n (flat16 xs k n) := by
          have h := hown3
          have e1 : (k + 15) / 16 = q := by have := Hkq.out; have := Hr0.out; omega
          rw [e1, flat16_next xs k q (by have := Hkq.out; have := Hr0.out; omega), ← Hn.out] at h
          exact h
        clear hown3 hg3 hown2 Hb hb
        have HE := Lib.hid hE
        obtain ⟨M, cp, rfl, hMb, hMl⟩ := World.ownsRow.form HE.out hn0
        have HMb := Lib.hid hMb
        obtain ⟨b1, o1, x, ha, _, hxk, _, hcx⟩ := (Hx.out.keep hb3).1.elem k hlt
        have Hxk := Lib.hid hxk
        clear hxk
        have HFk := Lib.hid (flat16_at xs k n (by rw [Hl.out]; exact hlt) (by rw [Hkq.out, Hn.out]; omega))
        have HFs := Lib.hid (flat16_set xs k n x Hxk.out (by rw [Hkq.out, Hn.out]; omega))
        have Hb3 := Lib.hid hb3
        clear hE hMb hMl hb3
        subst ha
        have Hadr := Lib.hid (show q * 16 + r = k by have := Hkq.out; omega)
        go_upto_region 7 with fail
        go_still_tail 10, (by kernel_rfl)
        change wpList _ _ _ _ _ (World.drew _)
        have hE4 := own_drew HE.out
        have hn4 := Hb3.out.drew
        generalize World.drew _ = w4 at *
        have f0 := hE4.frozenAt (q * 16 + r)
        have d0 : w4.cell? ⟨M, q * 16 + r, none⟩ = some (.int .u8 0) := by
          have h := hE4.cellAt k (by have := Hkq.out; have := Hn.out; omega)
          rw [HFk.out] at h
          rw [Hadr.out]
          exact h
        have hS := (hE4.stored k (vb x)).1
        rw [HFs.out] at hS
        have HS := Lib.hid (show (w4.setCell ⟨M, q * 16 + r, none⟩ (.int .u8 (x : Int))).ownsRow w.heap.size 44 16 (.slice (some ⟨M, 0, none⟩) n cp) ((k + 1 + 15) / 16) (flat16 xs (k + 1) ((k + 1 + 15) / 16)) by
          rw [Hadr.out, show (k + 1 + 15) / 16 = n by have := Hkq.out; have := Hn.out; omega]
          exact hS)
        have Hn5 := Lib.hid (nu_set hn4 (p := ⟨M, q * 16 + r, none⟩) HMb.out (.int .u8 (x : Int)))
        clear hS hE4 hn4 hcx
        go_wp2_with fail
        go_roundw
        case rel => first | exact ⟨k + 1, by omega, by go_num, HS.out, Hn5.out⟩ | ((repeat apply Exists.intro); exact ⟨⟨k + 1, by omega, by go_num, HS.out, Hn5.out⟩, rfl⟩)
        case measure => simp [intOf]; omega
      · have tr : ((r : Int) == 0) = false := by rw [beq_eq_false_iff_ne]; omega
        have e1 : (k + 15) / 16 = n := by have := Hkq.out; have := Hn.out; omega
        have hE := hown
        rw [e1] at hE
        have hb3 := hb
        clear hown hb e1
        have HE := Lib.hid hE
        obtain ⟨M, cp, rfl, hMb, hMl⟩ := World.ownsRow.form HE.out hn0
        have HMb := Lib.hid hMb
        obtain ⟨b1, o1, x, ha, _, hxk, _, hcx⟩ := (Hx.out.keep hb3).1.elem k hlt
        have Hxk := Lib.hid hxk
        clear hxk
        have HFk := Lib.hid (flat16_at xs k n (by rw [Hl.out]; exact hlt) (by rw [Hkq.out, Hn.out]; omega))
        have HFs := Lib.hid (flat16_set xs k n x Hxk.out (by rw [Hkq.out, Hn.out]; omega))
        have Hb3 := Lib.hid hb3
        clear hE hMb hMl hb3
        subst ha
        have Hadr := Lib.hid (show q * 16 + r = k by have := Hkq.out; omega)
        go_upto_region 7 with fail
        go_still_tail 10, (by kernel_rfl)
        change wpList _ _ _ _ _ (World.drew _)
        have hE4 := own_drew HE.out
        have hn4 := Hb3.out.drew
        generalize World.drew _ = w4 at *
        have f0 := hE4.frozenAt (q * 16 + r)
        have d0 : w4.cell? ⟨M, q * 16 + r, none⟩ = some (.int .u8 0) := by
          have h := hE4.cellAt k (by have := Hkq.out; have := Hn.out; omega)
          rw [HFk.out] at h
          rw [Hadr.out]
          exact h
        have hS := (hE4.stored k (vb x)).1
        rw [HFs.out] at hS
        have HS := Lib.hid (show (w4.setCell ⟨M, q * 16 + r, none⟩ (.int .u8 (x : Int))).ownsRow w.heap.size 44 16 (.slice (some ⟨M, 0, none⟩) n cp) ((k + 1 + 15) / 16) (flat16 xs (k + 1) ((k + 1 + 15) / 16)) by
          rw [Hadr.out, show (k + 1 + 15) / 16 = n by have := Hkq.out; have := Hn.out; omega]
          exact hS)
        have Hn5 := Lib.hid (nu_set hn4 (p := ⟨M, q * 16 + r, none⟩) HMb.out (.int .u8 (x : Int)))
        clear hS hE4 hn4 hcx
        go_wp2_with fail
        go_roundw
        case rel => first | exact ⟨k + 1, by omega, by go_num, HS.out, Hn5.out⟩ | ((repeat apply Exists.intro); exact ⟨⟨k + 1, by omega, by go_num, HS.out, Hn5.out⟩, rfl⟩)
        case measure => simp [intOf]; omega
    · obtain rfl : k = len := by omega
      have Hown := Lib.hid hown
      go_wp2_with fail
      go_ret
      exact ⟨_, rfl, Hown.out, hb⟩
end Go.Proofs.Ytpeibkdcglkimaa

namespace Go.Proofs.Ytpeibkdcglkimaa

theorem blocks_flat : ∀ (m : Nat) (xs : List Nat), xs.length ≤ m → (blocks xs).flatten = xs ++ List.replicate (16 * ((xs.length + 15) / 16) - xs.length) 0 ∧ (blocks xs).length = (xs.length + 15) / 16 := by
  intro m
  induction m with
  | zero =>
    intro xs h
    obtain rfl : xs = [] := List.eq_nil_of_length_eq_zero (by omega)
    exact ⟨rfl, rfl⟩
  | succ m ih =>
    intro xs h
    by_cases h0 : xs = []
    · subst h0
      exact ⟨rfl, rfl⟩
    · have hp : 0 < xs.length := List.length_pos_iff.2 h0
      obtain ⟨e1, e2⟩ := ih (xs.drop 16) (by rw [List.length_drop]; omega)
      rw [List.length_drop] at e1 e2
      rw [blocks_cons xs h0, List.flatten_cons, List.length_cons, e1, e2]
      by_cases h16 : xs.length ≤ 16
      · refine ⟨?_, by omega⟩
        rw [List.take_of_length_le h16, List.drop_of_length_le h16, List.nil_append, show 16 * ((xs.length - 16 + 15) / 16) - (xs.length - 16) = 0 by omega, show 16 * ((xs.length + 15) / 16) - xs.length = 16 - xs.length by omega]
        simp [pad16]
      · refine ⟨?_, by omega⟩
        have e3 : pad16 (xs.take 16) = xs.take 16 := by
          unfold pad16
          rw [List.length_take, show 16 - min 16 xs.length = 0 by omega]
          simp
        rw [e3, ← List.append_assoc, List.take_append_drop, show 16 * ((xs.length - 16 + 15) / 16) - (xs.length - 16) = 16 * ((xs.length + 15) / 16) - xs.length by omega]
theorem blocks_each : ∀ (m : Nat) (xs : List Nat), xs.length ≤ m → (∀ x ∈ xs, x < 256) → ∀ b ∈ blocks xs, b.length = 16 ∧ ∀ x ∈ b, x < 256 := by
  intro m
  induction m with
  | zero =>
    intro xs h _
    obtain rfl : xs = [] := List.eq_nil_of_length_eq_zero (by omega)
    intro b hb
    cases hb
  | succ m ih =>
    intro xs h hx b hb
    by_cases h0 : xs = []
    · subst h0
      cases hb
    · have hp : 0 < xs.length := List.length_pos_iff.2 h0
      rw [blocks_cons xs h0] at hb
      rcases List.mem_cons.1 hb with rfl | hb
      · exact ⟨pad16_len _ (by rw [List.length_take]; omega), pad16_lt _ (fun x h => hx x (List.mem_of_mem_take h))⟩
      · exact ih (xs.drop 16) (by rw [List.length_drop]; omega) (fun x h => hx x (List.mem_of_mem_drop h)) b hb
theorem flat_len : ∀ (L : List (List Nat)), (∀ b ∈ L, b.length = 16) → L.flatten.length = 16 * L.length := by
  intro L
  induction L with
  | nil => intro _; rfl
  | cons b L ih =>
    intro h
    rw [List.flatten_cons, List.length_append, ih (fun c hc => h c (List.mem_cons_of_mem _ hc)), h b (List.mem_cons_self ..), List.length_cons]
    omega
theorem flat_split (L : List (List Nat)) (k : Nat) (b : List Nat) (hb : L[k]? = some b) : L.flatten = (L.take k).flatten ++ b ++ (L.drop (k + 1)).flatten := by
  have hk := (List.getElem?_eq_some_iff.1 hb).1
  have e : L = L.take k ++ b :: L.drop (k + 1) := by
    rw [← (List.getElem?_eq_some_iff.1 hb).2, List.getElem_cons_drop, List.take_append_drop]
  conv => lhs; rw [e]
  simp
/-- All the blocks of a sum. -/
def allB (xs ys : List Nat) : List (List Nat) := blocks xs ++ blocks ys ++ [lastB xs.length ys.length]
theorem allB_len (xs ys : List Nat) : (allB xs ys).length = (xs.length + 15) / 16 + (ys.length + 15) / 16 + 1 := by
  unfold allB
  rw [List.length_append, List.length_append, (blocks_flat _ xs (Nat.le_refl _)).2, (blocks_flat _ ys (Nat.le_refl _)).2]
  rfl
theorem allB_each (xs ys : List Nat) (hx : ∀ x ∈ xs, x < 256) (hy : ∀ x ∈ ys, x < 256) : ∀ b ∈ allB xs ys, b.length = 16 ∧ ∀ x ∈ b, x < 256 := by
  intro b hb
  unfold allB at hb
  rcases List.mem_append.1 hb with hb | hb
  · rcases List.mem_append.1 hb with hb | hb
    · exact blocks_each _ xs (Nat.le_refl _) hx b hb
    · exact blocks_each _ ys (Nat.le_refl _) hy b hb
  · rw [List.mem_singleton.1 hb]
    exact ⟨lastB_len _ _, lastB_lt _ _⟩
theorem allB_flat (xs ys : List Nat) : (allB xs ys).flatten.map vb = flat16 xs xs.length ((xs.length + 15) / 16) ++ (flat16 ys ys.length ((ys.length + 15) / 16) ++ (lastB xs.length ys.length).map vb) := by
  unfold allB flat16
  rw [List.flatten_append, List.flatten_append, (blocks_flat _ xs (Nat.le_refl _)).1, (blocks_flat _ ys (Nat.le_refl _)).1, List.take_length, List.take_length]
  simp
theorem gfold_next (h y k : Nat) (L : List (List Nat)) (b : List Nat) (hb : L[k]? = some b) : gfold h y (L.take (k + 1)) = gstep h (gfold h y (L.take k)) b := by
  rw [List.take_add_one, hb]
  exact gfold_app h y (L.take k) [b]
theorem gsumB_all (h : Nat) (xs ys : List Nat) : gsumB h xs ys = bytB (gfold h 0 (allB xs ys)) := rfl
end Go.Proofs.Ytpeibkdcglkimaa

namespace Go.Proofs.Ytpeibkdcglkimaa
open Go.ChangeShapes Go.WideShapes Go.ChangeAt Go.RowKit

theorem ref_times_is {xa xb D : List Nat} (hD : bytB (Gh.mul (polB xb) (polB xa)) = D) (hla : xa.length = 16) (hlb : xb.length = 16) (hxa : ∀ x ∈ xa, x < 256) (hxb : ∀ x ∈ xb, x < 256) (w : World) :
    Calls Try.prog 66 #[.agg (xa.map vb).toArray, .agg (xb.map vb).toArray] w fun e w' => e = .returned (.agg (D.map vb).toArray) ∧ Below w.heap.size w w' := by
  rw [← hD]
  exact ref_times xa xb hla hlb hxa hxb w
end Go.Proofs.Ytpeibkdcglkimaa

namespace Go.Proofs.Ytpeibkdcglkimaa
open Go.ChangeShapes Go.WideShapes Go.ChangeAt Go.RowKit
set_option linter.unusedSimpArgs false

section
variable {w w' : World} {base : Nat} {e : TypeId} {size : Nat} {v : Value} {n : Nat} {xs : List Value}
theorem own_src (h : w.ownsRow base e size v n xs) : ∃ ao c, v = .slice ao n c ∧ (ao = none → n = 0 ∧ c = 0) ∧ ∀ ad, ao = some ad → ∀ j u, xs[j]? = some u → w.cell? (ad.add j) = some u := by
  rcases h.2 with ⟨h1, h2⟩ | ⟨g, cap, cur, h1, _⟩
  · exact ⟨none, 0, by rw [h1, h2], fun _ => ⟨h2, rfl⟩, fun ad had => by cases had⟩
  · refine ⟨some ⟨g, 0, none⟩, cap, h1, ⟨fun hn => absurd hn (by simp), fun ad had => ?_⟩⟩
    injection had with had
    subst had
    exact h.cells (by rw [h1]; rfl)
theorem own_below (h : w.ownsRow base e size v n xs) (hb : Below w.heap.size w w') : w'.ownsRow base e size v n xs := by
  refine ⟨h.1, ?_⟩
  rcases h.2 with hn | ⟨g, cap, cur, rfl, hb0, hgg, rest⟩
  · exact .inl hn
  · exact .inr ⟨g, cap, cur, rfl, hb0, (hb.block g (by have := (Array.getElem?_eq_some_iff.1 hgg).1; exact this)).trans hgg, rest⟩
end
theorem two_one (p q : List Nat) (k x : Nat) (hp : p.length = 8) (hk : k < 8) (hx : p[k]? = some x) : (fillTo p 8 k ++ fillTo q 8 k)[k]? = some 0 ∧ (fillTo p 8 k ++ fillTo q 8 k).set k x = fillTo p 8 (k + 1) ++ fillTo q 8 k := by
  have hl := fillTo_length p 8 k hp (by omega)
  rw [List.getElem?_append_left (by omega), List.set_append, if_pos (by omega), fillTo_at p 8 k hp hk, fillTo_succ p 8 k x hp hk hx]
  exact ⟨rfl, rfl⟩
theorem two_two (p q : List Nat) (k y : Nat) (hp : p.length = 8) (hq : q.length = 8) (hk : k < 8) (hy : q[k]? = some y) : (fillTo p 8 (k + 1) ++ fillTo q 8 k)[8 + k]? = some 0 ∧ (fillTo p 8 (k + 1) ++ fillTo q 8 k).set (8 + k) y = fillTo p 8 (k + 1) ++ fillTo q 8 (k + 1) := by
  have hl := fillTo_length p 8 (k + 1) hp (by omega)
  rw [List.getElem?_append_right (by omega), List.set_append, if_neg (by omega), hl, show 8 + k - 8 = k by omega, fillTo_at q 8 k hq hk, fillTo_succ q 8 k y hq hk hy]
  exact ⟨rfl, rfl⟩
theorem beL_get (n k : Nat) (hk : k < 8) : ∃ x : Nat, (beL (8 * n) 8 8)[k]? = some x ∧ 8 * (n : Int) / 2 ^ (56 - 8 * k) % 256 = (x : Int) := by
  refine ⟨8 * n / 2 ^ (56 - 8 * k) % 256, ?_, ?_⟩
  · unfold beL
    rw [List.getElem?_map, List.getElem?_range hk, show 56 - 8 * k = 8 * (8 - 1 - k) by omega]
    rfl
  · have h : ((2 ^ (56 - 8 * k) : Nat) : Int) = (2 : Int) ^ (56 - 8 * k) := by simp
    rw [← h]
    generalize 2 ^ (56 - 8 * k) = d
    rw [Int.natCast_emod, Int.natCast_ediv, Int.natCast_mul]
    rfl
theorem foldZip (D : List Value) : ∀ (cs : Array Value) (k : Nat), k + D.length ≤ cs.size → (List.foldl (fun (cs : Array Value) (x : Value × Nat) => cs.setIfInBounds x.snd x.fst) cs (D.zipIdx k)).toList = cs.toList.take k ++ D ++ cs.toList.drop (k + D.length) := by
  induction D with
  | nil => intro cs k _; simp
  | cons d D ih =>
    intro cs k h
    rw [List.length_cons] at h
    rw [List.zipIdx_cons, List.foldl_cons, ih _ (k + 1) (by rw [Array.size_setIfInBounds]; omega), Array.toList_setIfInBounds]
    have hk : k < cs.toList.length := by rw [Array.length_toList]; omega
    rw [List.drop_set_of_lt (by omega), List.take_add_one, List.getElem?_set_self hk, List.take_set_of_le (Nat.le_refl _), List.length_cons, show k + (D.length + 1) = k + 1 + D.length by omega]
    simp
theorem fold16 (D : List Value) (h : D.length = 16) : List.foldl (fun (cs : Array Value) (x : Value × Nat) => cs.setIfInBounds x.snd x.fst) z16l.toArray D.zipIdx = D.toArray := by
  apply Array.toList_inj.1
  rw [foldZip D z16l.toArray 0 (by rw [h]; exact Nat.le_refl _), h]
  simp
theorem step_load_mid {P : Program} {ops : Array Oper} {o : Oper} {a : Act} {w : World} {K : Act → World → Prop} {Q : Exit → Act → World → Prop} {G : Prop} (hgd : o.guard = none) (ty : TypeId) (x : Operand) (ho : o.op = .load ty x) (b f : Nat) (hx : a.eval x = .pointer (some ⟨b, f, none⟩)) (cs : List Value) (d : TypeDesc) (hc : w.rangeAt b f cs)
    (hu : P.underlying ty = some d) (hd : d.isRow = true) (hi : (P.info? ty).map (·.size) = some cs.length) (h : K (a.put o.dst (.agg cs.toArray)) w) : if Region.wanted o (yielded ops a.tmps) = true then Oper.wp P o a w K Q else G := by
  have hw : Region.wanted o (yielded ops a.tmps) = true := by simp [Region.wanted, hgd]
  rw [if_pos hw]
  exact wp_load_mid ty x ho b f hx cs d hc hu hd hi h
theorem bytB_zero : (bytB 0).map vb = z16l := by kernel_rfl
theorem flat16_one (xs : List Nat) (k n : Nat) : ∀ u ∈ flat16 xs k n, u.oneCell' = true := vb_one _

set_option maxRecDepth 100000 in
set_option maxHeartbeats 2000000 in
theorem refSum_any (ks : List Nat) (hkl : ks.length = 16) (hkx : ∀ x ∈ ks, x < 256) (a b : Option Addr) (la ca lb cb : Nat) (xs ys : List Nat) (w : World) (hx : BytesIn w a la ca xs) (hy : BytesIn w b lb cb ys) (hla : la ≤ 2000) (hlb : lb ≤ 2000) :
    Calls Try.prog 52 #[.agg (ks.map vb).toArray, .slice a la ca, .slice b lb cb] w fun e w' => e = .returned (.agg ((gsumB (polB ks) xs ys).map vb).toArray) ∧ Below w.heap.size w w' := by
  obtain ⟨i0, hi, hz0, hz1, hz2⟩ := info_parts info_16
  have hal := nu_alloc (nu_alloc (nu_refl w) (.cells (ks.map vb).toArray 44)) (.cells z16l.toArray 44)
  have HK := Lib.hid ((Blk.made w 44 (ks.map vb).toArray).alloc (.cells z16l.toArray 44))
  have HR := Lib.hid (Blk.made1 w (.cells (ks.map vb).toArray 44) 44 z16l.toArray)
  have Hal := Lib.hid hal
  have HX := Lib.hid (hx.keep hal)
  have HY := Lib.hid (hy.keep hal)
  clear hx hy hal
  go_enter Try.func52, Try.ntmps52
  go_upto_region 1 with fail
  generalize (w.alloc (.cells (ks.map vb).toArray 44)).alloc (.cells z16l.toArray 44) = w1 at *
  obtain ⟨A, hA⟩ : ∃ A, A = w.heap.size := ⟨_, rfl⟩
  obtain ⟨Rb, hRb⟩ : ∃ Rb, Rb = w.heap.size + 1 := ⟨_, rfl⟩
  have Hab := Lib.hid (show A ≠ Rb ∧ w.heap.size ≤ Rb from ⟨by omega, by omega⟩)
  rw [← hA] at HK
  rw [← hRb] at HR
  rw [← hRb, ← hA]
  clear hA hRb
  go_wp2_with fail
  refine (blocks_any a la ca xs w1 HX.out hla).mono ?_
  rintro e w2 ⟨v1, rfl, hO1, hb1⟩
  have HO1 := Lib.hid hO1
  have HY2 := Lib.hid (HY.out.keep hb1)
  have Hb1 := Lib.hid hb1
  clear hO1 hb1
  go_wp2_with fail
  refine (blocks_any b lb cb ys w2 HY2.out hlb).mono ?_
  rintro e w3 ⟨v2, rfl, hO2, hb2⟩
  have HO1 := Lib.hid (own_below HO1.out hb2)
  have Hb3 := Lib.hid (nu_trans Hb1.out hb2)
  obtain ⟨ao, c2, rfl, hnone, hsrc⟩ := own_src hO2
  have HO2l := Lib.hid hO2.1
  have Hnone := Lib.hid hnone
  have Hsrc := Lib.hid hsrc
  clear hO2 hb2 hnone hsrc HY2 Hb1
  obtain ⟨n1, hn1⟩ : ∃ n, n = (la + 15) / 16 := ⟨_, rfl⟩
  obtain ⟨n2, hn2⟩ : ∃ n, n = (lb + 15) / 16 := ⟨_, rfl⟩
  have hn1l : n1 ≤ 126 := by omega
  have hn2l : n2 ≤ 126 := by omega
  have Hn1 := Lib.hid hn1
  have Hn2 := Lib.hid hn2
  rw [← hn1] at HO1
  rw [← hn2] at Hnone Hsrc HO2l
  rw [← hn2]
  clear hn1 hn2
  go_wp2_with (at_builtin; refine wpList_append_src rfl (.tmp 13) (.tmp 15) 108 rfl w1.heap.size 44 i0 (.agg z16l.toArray) 16 16 Try.underlying108 hi hz0 hz1 hz2 rfl (by decide) v1 n1 (flat16 xs la n1) rfl HO1.out ao n2 c2 (flat16 ys lb n2) rfl Hnone.out HO2l.out Hsrc.out (flat16_one _ _ _) (by unfold maxLen; omega) (by omega) Hb3.out.size ?_)
  intro v4 w4 hO4 hg4
  have hb4 := Hb3.out.grown hg4 Hb3.out.size (fun k hk => (HO1.out.lt k hk).1)
  have HO4 := Lib.hid hO4
  have Hb4 := Lib.hid hb4
  clear hO4 hg4 hb4 HO1 HO2l Hnone Hsrc Hb3
  go_wp2_with fail
  have HL0 := Lib.hid (Blk.made w4 44 z16l.toArray)
  have hal4 := nu_alloc (nu_refl w4) (.cells z16l.toArray 44)
  obtain ⟨L, hL⟩ : ∃ L, L = w4.heap.size := ⟨_, rfl⟩
  have HLw := Lib.hid (show w4.heap.size ≤ L by omega)
  rw [← hL] at HL0
  rw [← hL]
  clear hL
  obtain ⟨p, hp⟩ : ∃ p, p = beL (8 * la) 8 8 := ⟨_, rfl⟩
  obtain ⟨q, hq⟩ : ∃ q, q = beL (8 * lb) 8 8 := ⟨_, rfl⟩
  have Hp := Lib.hid hp
  have Hq := Lib.hid hq
  have Hpl := Lib.hid (show p.length = 8 by rw [hp, beL_length])
  have Hql := Lib.hid (show q.length = 8 by rw [hq, beL_length])
  clear hp hq
  go_loopw [9] (fun i wr => ∃ k : Nat, k ≤ 8 ∧ i = .int .i64 k ∧ Blk wr L 44 ((fillTo p 8 k ++ fillTo q 8 k).map vb).toArray ∧ Below w4.heap.size w4 wr) (fun i _ => 8 - (intOf i).toNat)
  case atStart => exact ⟨0, by omega, rfl, by rw [fillTo_zero, fillTo_zero]; exact HL0.out, hal4⟩
  case round =>
    clear HL0 hal4
    obtain ⟨k, hk, rfl, hB, hn⟩ := hrel
    have HB := Lib.hid hB
    clear hB
    by_cases hlt : k < 8
    · have hki : (k : Int) < 8 := by omega
      obtain ⟨x, hx, ex⟩ := beL_get la k hlt
      obtain ⟨y, hy, ey⟩ := beL_get lb k hlt
      rw [← Hp.out] at hx
      rw [← Hq.out] at hy
      obtain ⟨a1, a2⟩ := two_one p q k x Hpl.out hlt hx
      obtain ⟨b1, b2⟩ := two_two p q k y Hpl.out Hql.out hlt hy
      have Ha1 := Lib.hid a1
      have Hb1 := Lib.hid b1
      have f0 := HB.out.free k
      have d0 : wr.cell? ⟨L, k, none⟩ = some (.int .u8 0) := HB.out.at k _ (arr_at _ k 0 a1)
      have h := HB.out.put k (vb x)
      rw [arr_set, a2] at h
      have HB2 := Lib.hid h
      have Hn2 := Lib.hid (nu_set hn (p := ⟨L, k, none⟩) HLw.out (vb x))
      have Hb2 := Lib.hid b2
      simp only [vb] at HB2 Hn2
      clear h hn hx hy a1 a2 b1 b2
      go_upto_region 7 with fail
      clear d0 f0
      generalize wr.setCell ⟨L, k, none⟩ (.int .u8 (x : Int)) = w5 at *
      have f1 := HB2.out.free (8 + k)
      have d1 : w5.cell? ⟨L, 8 + k, none⟩ = some (.int .u8 0) := HB2.out.at (8 + k) _ (arr_at _ (8 + k) 0 Hb1.out)
      have h := HB2.out.put (8 + k) (vb y)
      rw [arr_set, Hb2.out] at h
      have HB3 := Lib.hid h
      have Hn3 := Lib.hid (nu_set Hn2.out (p := ⟨L, 8 + k, none⟩) HLw.out (vb y))
      simp only [vb] at HB3 Hn3
      clear h Hn2
      go_wp2_with fail
      go_roundw
      case rel => first | exact ⟨k + 1, by omega, by go_num, HB3.out, Hn3.out⟩ | ((repeat apply Exists.intro); exact ⟨⟨k + 1, by omega, by go_num, HB3.out, Hn3.out⟩, rfl⟩)
      case measure => simp [intOf]; omega
    · obtain rfl : k = 8 := by omega
      have hB := HB.out
      rw [fillTo_all p 8 Hpl.out, fillTo_all q 8 Hql.out, Hp.out, Hq.out] at hB
      have HB8 := Lib.hid hB
      have Hn8 := Lib.hid hn
      clear hB HB hn Hp Hq Hpl Hql HLw hlt hk
      obtain ⟨D, hD⟩ : ∃ D, D = (lastB la lb).map vb := ⟨_, rfl⟩
      have HD := Lib.hid hD
      have HDl := Lib.hid (show D.length = 16 by rw [hD, List.length_map, lastB_len])
      have HB9 := Lib.hid (show Blk wr L 44 D.toArray by rw [hD]; exact HB8.out)
      have Hsz := Lib.hid (show (Try.prog.info? 44).map (·.size) = some D.toArray.size by rw [List.size_toArray, HDl.out]; kernel_rfl)
      clear hD HB8
      have hfold := fold16 D HDl.out
      have hDl := HDl.out
      have HD1 := Lib.hid (show ∀ u ∈ D, u.oneCell' = true by rw [HD.out]; exact vb_one _)
      have Hbr := Lib.hid (nu_trans Hb4.out Hn8.out)
      have HO8 := Lib.hid (own_below HO4.out Hn8.out)
      clear HO4 Hb4 Hn8
      go_upto_region 8 with fail
      go_wp2_with (first | (refine wpList_load_blk rfl 44 (.tmp 8) rfl L rfl 44 D.toArray HB9.out Try.underlying44 Hsz.out ?_) | (at_builtin; refine wpList_append_own _ rfl (.tmp 46) (.tmp 48) 108 rfl w1.heap.size 44 i0 (.agg z16l.toArray) 16 16 Try.underlying108 hi hz0 hz1 hz2 rfl (by decide) v4 (n1 + n2) (flat16 xs la n1 ++ flat16 ys lb n2) rfl (HO8.out.alloc _) ⟨wr.heap.size, 0, none⟩ 1 1 D rfl HDl.out ?c1 HD1.out ?c3 ?c4 ?c5 ?_))
      case c1 => intro j u hu; rw [Addr.add_lit, Nat.zero_add]; exact (Blk.made wr 44 D.toArray).at j u (by simpa using hu)
      case c3 => unfold maxLen; omega
      case c4 => omega
      case c5 => simp; have := Hbr.out.size; omega
      intro v9 w9 hO9 hg9 _
      have hb9 := (Hbr.out.alloc Hbr.out.size (.cells D.toArray 44)).grown hg9 (by simp; have := Hbr.out.size; omega) (fun k hk => (HO8.out.lt k hk).1)
      have Hxl := Lib.hid HX.out.1.1
      have Hyl := Lib.hid HY.out.1.1
      have Hxx := Lib.hid (fun x h => wf_u8_lt (HX.out.1.2.1 x h))
      have Hyx := Lib.hid (fun x h => wf_u8_lt (HY.out.1.2.1 x h))
      have hF := allB_flat xs ys
      rw [Hxl.out, Hyl.out, ← Hn1.out, ← Hn2.out, ← HD.out] at hF
      rw [← hF] at hO9
      obtain ⟨N, hN⟩ : ∃ N, N = n1 + n2 + 1 := ⟨_, rfl⟩
      have HN := Lib.hid (show (allB xs ys).length = N by rw [allB_len, Hxl.out, Hyl.out, ← Hn1.out, ← Hn2.out, hN])
      have hNl : N ≤ 253 := by omega
      have hN0 : N ≠ 0 := by omega
      rw [← hN] at hO9
      clear hN hF
      rcases hO9.2 with ⟨_, h0⟩ | ⟨M, cp, cur, rfl, hMb, hMg, _, _, _, hMt⟩
      · exact absurd h0 hN0
      · obtain ⟨rest, hrest⟩ : ∃ r, r = cur.toList.drop (N * 16) := ⟨_, rfl⟩
        have hcur : cur = ((allB xs ys).flatten.map vb ++ rest).toArray := by
          apply Array.toList_inj.1
          rw [hrest, ← hMt, List.take_append_drop]
        have hM : Blk w9 M 44 ((allB xs ys).flatten.map vb ++ rest).toArray := by rw [← hcur]; exact hMg
        have HM := Lib.hid hM
        have HK9 := Lib.hid (Blk.below HK.out hb9 (Blk.lt HK.out))
        have HR9 := Lib.hid (Blk.below HR.out hb9 (Blk.lt HR.out))
        have Hn9 := Lib.hid (nu_trans Hal.out hb9)
        have hal := nu_alloc (nu_refl w9) (.cells z16l.toArray 44)
        have HY0 := Lib.hid (Blk.made w9 44 z16l.toArray)
        clear hO9 hg9 hMg hMt hcur hM hrest hfold hDl hb9 HB9 HD HDl Hsz HD1 Hbr HO8 HX HY
        go_wp2_with fail
        obtain ⟨Y, hY⟩ : ∃ Y, Y = w9.heap.size := ⟨_, rfl⟩
        have HYw := Lib.hid (show w9.heap.size ≤ Y by omega)
        have Hap := Lib.hid (show A ≠ Y ∧ M ≠ Y ∧ Rb ≠ Y from ⟨by have := Blk.lt HK9.out; omega, by have := Blk.lt HM.out; omega, by have := Blk.lt HR9.out; omega⟩)
        rw [← hY] at HY0
        rw [← hY]
        clear hY
        have hh := polB_lt ks
        go_loopw [11] (fun i wq => ∃ k : Nat, k ≤ N ∧ i = .int .i64 k ∧ Blk wq Y 44 ((bytB (gfold (polB ks) 0 ((allB xs ys).take k))).map vb).toArray ∧ Below w9.heap.size w9 wq) (fun i _ => N - (intOf i).toNat)
        case atStart => exact ⟨0, by omega, rfl, by rw [List.take_zero]; show Blk _ _ _ ((bytB 0).map vb).toArray; rw [bytB_zero]; exact HY0.out, hal⟩
        case round =>
          clear HY0 hal
          obtain ⟨k, hk, rfl, hB, hn⟩ := hrel
          by_cases hlt : k < N
          · have hki : (k : Int) < (N : Int) := by omega
            obtain ⟨bk, hbk⟩ : ∃ bk, (allB xs ys)[k]? = some bk := ⟨_, List.getElem?_eq_getElem (by rw [HN.out]; exact hlt)⟩
            have Hbk := Lib.hid (allB_each xs ys Hxx.out Hyx.out bk (List.mem_of_getElem? hbk))
            have hsp := flat_split _ k bk hbk
            have hgn := gfold_next (polB ks) 0 k _ bk hbk
            have hyl := gfold_lt (polB ks) 0 ((allB xs ys).take k) hh (by decide)
            obtain ⟨y, hy⟩ : ∃ y, y = gfold (polB ks) 0 ((allB xs ys).take k) := ⟨_, rfl⟩
            rw [← hy] at hgn hyl hB
            obtain ⟨Yc, hYc⟩ : ∃ Yc, Yc = bytB y := ⟨_, rfl⟩
            rw [← hYc] at hB
            have HYl := Lib.hid (show Yc.length = 16 by rw [hYc, bytB_len])
            have HYx := Lib.hid (show ∀ x ∈ Yc, x < 256 by rw [hYc]; exact bytB_lt _)
            obtain ⟨E, hE⟩ : ∃ E, xorB Yc bk = E := ⟨_, rfl⟩
            have HE := Lib.hid hE
            have HEl := Lib.hid (show E.length = 16 by rw [← hE, xorB_len])
            have HEx := Lib.hid (show ∀ x ∈ E, x < 256 by rw [← hE]; exact xorB_lt _ _)
            obtain ⟨Y2, hY2⟩ : ∃ Y2, bytB (gfold (polB ks) 0 ((allB xs ys).take (k + 1))) = Y2 := ⟨_, rfl⟩
            have HF := Lib.hid (show bytB (Gh.mul (polB ks) (polB E)) = Y2 by
              rw [← hY2, hgn, ← hE, hYc]
              unfold xorB gstep
              rw [polB_bytB y hyl, polB_bytB _ (Nat.xor_lt_two_pow hyl (polB_lt bk))])
            have HFl := Lib.hid (show Y2.length = 16 by rw [← hY2, bytB_len])
            have HY2 := Lib.hid hY2
            obtain ⟨lf, hlf⟩ : ∃ lf, lf = (((allB xs ys).take k).flatten).map vb := ⟨_, rfl⟩
            obtain ⟨rf, hrf⟩ : ∃ rf, rf = (((allB xs ys).drop (k + 1)).flatten).map vb ++ rest := ⟨_, rfl⟩
            have Hlf := Lib.hid (show lf.length = k * 16 by
              rw [hlf, List.length_map, flat_len _ (fun b hb => (allB_each xs ys Hxx.out Hyx.out b (List.mem_of_mem_take hb)).1), List.length_take, HN.out]
              omega)
            have HMe := Lib.hid (show (allB xs ys).flatten.map vb ++ rest = lf ++ bk.map vb ++ rf by
              rw [hsp, hlf, hrf]
              simp)
            have HY1 := Lib.hid hB
            have HA1 := Lib.hid (Blk.below HK9.out hn (Blk.lt HK9.out))
            have HM1 := Lib.hid (show Blk wr M 44 (lf ++ bk.map vb ++ rf).toArray by rw [← HMe.out]; exact Blk.below HM.out hn (Blk.lt HM.out))
            have Hkl := Lib.hid hkl
            have Hkx := Lib.hid hkx
            clear hB hsp hgn hyl hy hYc hE hY2 hlf hrf hbk
            go_upto_region 13 with fail
            refine wp_region_held_drew (S := fun W => Blk W A 44 (ks.map vb).toArray ∧ Blk W M 44 (lf ++ bk.map vb ++ rf).toArray) (by kernel_rfl) (⟨HA1.out.drew, HM1.out.drew⟩) (fun hHeld => ?_)
            dsimp only [Array.replicate, List.replicate, List.size_toArray, List.length_cons, List.length_nil, Nat.reduceAdd] at hHeld ⊢
            have HS2 := Lib.hid hHeld
            have HY2w := Lib.hid HY1.out.drew
            have Hn2 := Lib.hid (nu_drew hn)
            clear HY1 HA1 HM1 hn
            generalize wr.drew = w11 at *
            refine take_l (i := 1) (v := ?_) rfl (by kernel_rfl) (by kernel_rfl) (by kernel_rfl) (fun _ _ _ h => h) (Or.inl ⟨by rfl, ?_⟩) (by assumption) ?_
            case refine_2 => (intro _ _; go_simp; all_goals with_reducible rfl)
            simp only [Act.put, List.setIfInBounds_toArray, List.set_cons_zero, List.set_cons_succ]
            refine take_l (i := 2) (v := ?_) rfl (by kernel_rfl) (by kernel_rfl) (by kernel_rfl) (fun _ _ _ h => h) (Or.inl ⟨by rfl, ?_⟩) (by assumption) ?_
            case refine_2 => (intro _ _; go_simp; all_goals with_reducible rfl)
            simp only [Act.put, List.setIfInBounds_toArray, List.set_cons_zero, List.set_cons_succ]
            refine take_l (i := 3) (v := ?_) rfl (by kernel_rfl) (by kernel_rfl) (by kernel_rfl) (fun _ _ _ h => h) (Or.inl ⟨by rfl, ?_⟩) (by assumption) ?_
            case refine_2 => (intro _ _; go_simp; all_goals with_reducible rfl)
            simp only [Act.put, List.setIfInBounds_toArray, List.set_cons_zero, List.set_cons_succ]
            refine take_l (i := 4) rfl (by kernel_rfl) (by kernel_rfl) (by kernel_rfl) (fun _ _ _ h => h) (Or.inl ⟨by rfl, fun W hS => exec_load_mid (P := Try.prog) (w := W) 44 (.tmp 59) M (k * 16) (bk.map vb) (.array 16 5) rfl rfl (range_mid hS.2 (l := lf) (r := rf) (by simp) Hlf.out) (by kernel_rfl) rfl (by rw [List.length_map, Hbk.out.1]; kernel_rfl)⟩) (by assumption) ?_
            simp only [Act.put, List.setIfInBounds_toArray, List.set_cons_zero, List.set_cons_succ]
            refine take_l (i := 6) rfl (by kernel_rfl) (by kernel_rfl) (by kernel_rfl) (fun _ _ _ h => h) (Or.inl ⟨by rfl, fun W hS => exec_load_mid (P := Try.prog) (w := W) 44 (.tmp 3) A 0 (ks.map vb) (.array 16 5) rfl rfl (range_mid hS.1 (l := []) (r := []) (by simp) rfl) (by kernel_rfl) rfl (by rw [List.length_map, Hkl.out]; kernel_rfl)⟩) (by assumption) ?_
            simp only [Act.put, List.setIfInBounds_toArray, List.set_cons_zero, List.set_cons_succ]
            clear hHeld
            refine wpAnyH_ready (rs := [0]) (by kernel_rfl) (by simp) ?_
            refine cons_l rfl (fun K hK => ?_) AllReadyH.nil
            refine step_load_mid rfl 44 (.tmp 10) rfl Y 0 rfl (Yc.map vb) (.array 16 5) (range_mid HY2w.out (l := []) (r := []) (by simp) rfl) (by kernel_rfl) rfl (by rw [List.length_map, HYl.out]; kernel_rfl) ?_
            refine hK.out _ _ HS2.out (fun hHeld => ?_)
            clear hK K hHeld
            simp only [Act.put, List.setIfInBounds_toArray, List.set_cons_zero, List.set_cons_succ]
            refine wpAnyH_ready (rs := [5]) (by kernel_rfl) (by simp) ?_
            refine cons_l rfl (fun K hK => ?_) AllReadyH.nil
            go_simp
            go_at_call 51
            refine (ref_add_is HE.out HYl.out Hbk.out.1 HYx.out Hbk.out.2 w11).mono ?_
            rintro e w12 ⟨rfl, hb⟩
            have HS3 := Lib.hid (show Blk w12 A 44 (ks.map vb).toArray ∧ Blk w12 M 44 (lf ++ bk.map vb ++ rf).toArray from ⟨Blk.below HS2.out.1 hb (Blk.lt HS2.out.1), Blk.below HS2.out.2 hb (Blk.lt HS2.out.2)⟩)
            have HY3w := Lib.hid (Blk.below HY2w.out hb (Blk.lt HY2w.out))
            have Hn3 := Lib.hid (nu_trans Hn2.out hb)
            clear hb HS2 HY2w Hn2
            go_wp2_with fail
            refine hK.out _ _ HS3.out (fun hHeld => ?_)
            clear hK K hHeld
            simp only [Act.put, List.setIfInBounds_toArray, List.set_cons_zero, List.set_cons_succ]
            refine wpAnyH_ready (rs := [7]) (by kernel_rfl) (by simp) ?_
            refine cons_l rfl (fun K hK => ?_) AllReadyH.nil
            go_simp
            go_at_call 66
            refine (ref_times_is HF.out HEl.out Hkl.out HEx.out Hkx.out w12).mono ?_
            rintro e w13 ⟨rfl, hb⟩
            have HS4 := Lib.hid (show Blk w13 A 44 (ks.map vb).toArray ∧ Blk w13 M 44 (lf ++ bk.map vb ++ rf).toArray from ⟨Blk.below HS3.out.1 hb (Blk.lt HS3.out.1), Blk.below HS3.out.2 hb (Blk.lt HS3.out.2)⟩)
            have HY4w := Lib.hid (Blk.below HY3w.out hb (Blk.lt HY3w.out))
            have Hn4 := Lib.hid (nu_trans Hn3.out hb)
            clear hb HS3 HY3w Hn3
            go_wp2_with fail
            refine hK.out _ _ HS4.out (fun hHeld => ?_)
            clear hK K hHeld
            simp only [Act.put, List.setIfInBounds_toArray, List.set_cons_zero, List.set_cons_succ]
            have HP := Lib.hid (Blk.fill HY4w.out (Y2.map vb) (by rw [List.size_toArray, List.length_map, List.length_map, HYl.out, HFl.out]))
            have Hn5 := Lib.hid (nu_fill (Y2.map vb) (g := Y) HYw.out 0 _ Hn4.out)
            refine wpAnyH_ready (rs := [8]) (by kernel_rfl) (by simp) ?_
            refine cons_l rfl (fun K hK => ?_) AllReadyH.nil
            refine step_store_blk rfl 44 (.tmp 10) (.tmp 63) rfl Y (Y2.map vb) rfl rfl 44 (Yc.map vb).toArray HY4w.out (by rw [List.size_toArray, List.length_map, List.length_map, HYl.out, HFl.out]) (by rw [List.length_map, HFl.out]; kernel_rfl) (vb_one Y2) ?_
            have HS5 := Lib.hid (And.intro (HS4.out.1.farCells (Y2.map vb) Hap.out.1 0) (HS4.out.2.farCells (Y2.map vb) Hap.out.2.1 0))
            refine hK.out _ _ HS5.out (fun hHeld => ?_)
            clear hK K hHeld HS5
            simp only [Act.put, List.setIfInBounds_toArray, List.set_cons_zero, List.set_cons_succ]
            refine wpAnyH_done (by kernel_rfl) ?_ _
            clear HS4 HY4w Hn4
            generalize w13.setCells Y 0 (Y2.map vb) = w14 at *
            rw [← HY2.out] at HP
            go_wp2_with fail
            go_roundw
            case rel => first | exact ⟨k + 1, by omega, by go_num, HP.out, Hn5.out⟩ | ((repeat apply Exists.intro); exact ⟨⟨k + 1, by omega, by go_num, HP.out, Hn5.out⟩, rfl⟩)
            case measure => simp [intOf]; omega
          · obtain rfl : k = N := by omega
            have hB2 := hB
            rw [List.take_of_length_le (by rw [HN.out]; exact Nat.le_refl _), ← gsumB_all] at hB2
            obtain ⟨D2, hD2⟩ : ∃ D2, D2 = (gsumB (polB ks) xs ys).map vb := ⟨_, rfl⟩
            rw [← hD2] at hB2
            have HB := Lib.hid hB2
            have HDe := Lib.hid hD2
            have HDl := Lib.hid (show D2.length = z16l.toArray.size by rw [hD2, List.length_map, gsumB, bytB_len]; rfl)
            have Hsz := Lib.hid (show (Try.prog.info? 44).map (·.size) = some D2.toArray.size by rw [List.size_toArray, HDl.out]; kernel_rfl)
            have H1 := Lib.hid (show ∀ u ∈ D2, u.oneCell' = true by rw [hD2]; exact vb_one _)
            have HR8 := Lib.hid (Blk.below HR9.out hn (Blk.lt HR9.out))
            have HFr := Lib.hid (Blk.fill HR8.out D2 HDl.out)
            have Hnf := Lib.hid (nu_fill D2 (g := Rb) Hab.out.2 0 _ (nu_trans Hn9.out hn))
            clear hB hB2 hD2 hn hlt hk
            go_wp2_with (first | (refine wpList_load_blk rfl 44 (.tmp 10) rfl Y rfl 44 D2.toArray HB.out Try.underlying44 Hsz.out ?_) | (refine wpList_store_blk rfl 44 (.tmp 6) (.tmp 64) rfl Rb D2 rfl rfl 44 z16l.toArray HR8.out HDl.out (by have h := Hsz.out; rwa [List.size_toArray] at h) H1.out ?_))
            refine bodyPost_ret (results_blk rfl _ Rb 44 D2.toArray rfl HFr.out Try.underlying44 Hsz.out) rfl ⟨by rw [HDe.out], Hnf.out⟩
end Go.Proofs.Ytpeibkdcglkimaa

namespace Go.Proofs.Ytpeibkdcglkimaa
open Go.ChangeShapes Go.WideShapes Go.ChangeAt Go.RowKit Fld Aes Gcm
set_option linter.unusedSimpArgs false

set_option maxRecDepth 100000 in
set_option maxHeartbeats 4000000 in
theorem refTag_any {w : World} {v : Value} {W : List Nat} {R : Nat} (hv : RowsAt w v W) (hK : Keyed W R) (nonce : List Nat) (h12 : nonce.length = 12) (hx12 : ∀ x ∈ nonce, x < 256) (a : Option Addr) (la ca : Nat) (xs : List Nat) (hx : BytesIn w a la ca xs) (t : Option Addr) (lt ct : Nat) (ys : List Nat) (hy : BytesIn w t lt ct ys) (hla : la ≤ 2000) (hlt : lt ≤ 2000) :
    Calls Try.prog 31 #[.agg (rkeyL v).toArray, .agg (nonce.map vb).toArray, .slice a la ca, .slice t lt ct] w fun e w' => e = .returned (.agg ((tagL W R nonce (polB (enc W R z16n)) xs ys).map vb).toArray) ∧ Below w.heap.size w w' := by
  obtain ⟨L, hL⟩ : ∃ L, L = rkeyL v := ⟨_, rfl⟩
  have HLl := Lib.hid (show L.length = 513 by rw [hL]; exact rkeyL_len _)
  rw [← hL]
  have H12 := Lib.hid h12
  obtain ⟨Q, hQ⟩ : ∃ Q, Q = enc W R z16n := ⟨_, rfl⟩
  obtain ⟨D1, hD1⟩ : ∃ D, D = gsumB (polB Q) xs ys := ⟨_, rfl⟩
  obtain ⟨D2, hD2⟩ : ∃ D, D = ctr W R nonce 1 := ⟨_, rfl⟩
  obtain ⟨D, hD⟩ : ∃ D, D = tagL W R nonce (polB Q) xs ys := ⟨_, rfl⟩
  have hQs : St16 Q := by rw [hQ]; exact enc_st z16n W R
  have hS1 : St16 D1 := by rw [hD1]; exact gsumB_st _ _ _
  have hS2 : St16 D2 := by rw [hD2]; exact ctr_st _ _ _ _
  have HD16 := Lib.hid (show D.length = 16 by rw [hD]; exact (tagL_st _ _ _ _ _ _).1)
  have hDx : xorB D1 D2 = D := by rw [xorB_xorL _ _ hS1.1 hS2.1 hS1.2 hS2.2, hD, hD1, hD2]; rfl
  have hal := nu_alloc (nu_alloc (nu_alloc (nu_refl w) (.cells L.toArray 31)) (.cells (nonce.map vb).toArray 23)) (.cells (z16n.map vb).toArray 44)
  have HKb := Lib.hid (((Blk.made w 31 L.toArray).alloc (.cells (nonce.map vb).toArray 23)).alloc (.cells (z16n.map vb).toArray 44))
  have HP := Lib.hid ((Blk.made1 w (.cells L.toArray 31) 23 (nonce.map vb).toArray).alloc (.cells (z16n.map vb).toArray 44))
  have HZ := Lib.hid (Blk.made2 w (.cells L.toArray 31) (.cells (nonce.map vb).toArray 23) 44 (z16n.map vb).toArray)
  have Hal := Lib.hid hal
  have HV := Lib.hid (hv.below hal)
  have HX := Lib.hid (hx.keep hal)
  have HY := Lib.hid (hy.keep hal)
  rw [← hQ, ← hD]
  have HEq := Lib.hid (And.intro hL (And.intro hQ (And.intro hD1 hD2)))
  have HAd := Lib.hid (fun u : World => ref_add_is hDx hS1.1 hS2.1 hS1.2 hS2.2 u)
  have HKd := Lib.hid hK
  have Hx12 := Lib.hid hx12
  have Hll := Lib.hid (And.intro hla hlt)
  have HQs := Lib.hid hQs
  clear hL hQ hD1 hD2 hD hS1 hS2 hDx hK h12 hx12 hla hlt hQs
  go_enter Try.func31, Try.ntmps31
  go_upto_region 1 with fail
  change Code.wp _ _ _ _ (((w.alloc (.cells L.toArray 31)).alloc (.cells (nonce.map vb).toArray 23)).alloc (.cells (z16n.map vb).toArray 44))
  clear hv hx hy hal
  generalize ((w.alloc (.cells L.toArray 31)).alloc (.cells (nonce.map vb).toArray 23)).alloc (.cells (z16n.map vb).toArray 44) = w1 at *
  have HHs := Lib.hid (show ∀ u : World, Below w1.heap.size w1 u → Calls Try.prog 20 #[.agg L.toArray] u fun e w' => e = .returned (.agg (Q.map vb).toArray) ∧ Below u.heap.size u w' from fun u hu => by
    rw [HEq.out.1, HEq.out.2.1]
    exact refHash_any (HV.out.below hu) HKd.out)
  have HSm := Lib.hid (show ∀ u : World, Below w1.heap.size w1 u → Calls Try.prog 52 #[.agg (Q.map vb).toArray, .slice a la ca, .slice t lt ct] u fun e w' => e = .returned (.agg (D1.map vb).toArray) ∧ Below u.heap.size u w' from fun u hu => by
    rw [HEq.out.2.2.1]
    exact refSum_any Q HQs.out.1 HQs.out.2 a t la ca lt ct xs ys u (HX.out.keep hu) (HY.out.keep hu) Hll.out.1 Hll.out.2)
  have HCt := Lib.hid (show ∀ u : World, Below w1.heap.size w1 u → Calls Try.prog 50 #[.agg L.toArray, .agg (nonce.map vb).toArray, .int .i64 1] u fun e w' => e = .returned (.agg (D2.map vb).toArray) ∧ Below u.heap.size u w' from fun u hu => by
    rw [HEq.out.1, HEq.out.2.2.2]
    exact refCounter_any (HV.out.below hu) HKd.out nonce H12.out Hx12.out 1 (by omega))
  obtain ⟨Z, hZ⟩ : ∃ Z, Z = w.heap.size + 1 + 1 := ⟨_, rfl⟩
  obtain ⟨P, hP⟩ : ∃ P, P = w.heap.size + 1 := ⟨_, rfl⟩
  obtain ⟨K, hKe⟩ : ∃ K, K = w.heap.size := ⟨_, rfl⟩
  rw [← hZ] at HZ
  rw [← hP] at HP
  rw [← hKe] at HKb
  rw [← hZ, ← hP, ← hKe]
  have Hap := Lib.hid (show w.heap.size ≤ Z ∧ K ≠ Z ∧ P ≠ Z from ⟨by omega, by omega, by omega⟩)
  clear hZ hP hKe HV HX HY HEq HKd Hx12 Hll HQs
  refine wp_region_held_drew (S := fun W => Blk W K 31 L.toArray ∧ Blk W P 23 (nonce.map vb).toArray) (by kernel_rfl) (⟨HKb.out.drew, HP.out.drew⟩) (fun hHeld => ?_)
  dsimp only [Array.replicate, List.replicate, List.size_toArray, List.length_cons, List.length_nil, Nat.reduceAdd] at hHeld ⊢
  have HS0 := Lib.hid hHeld
  have HB0 := Lib.hid (nu_drew (nu_refl w1))
  generalize w1.drew = u0 at *
  refine take_l (i := 0) rfl (by kernel_rfl) (by kernel_rfl) (by kernel_rfl) (fun _ _ _ h => h) (Or.inl ⟨by rfl, fun W hS => eKey_load hS.1 HLl.out (.tmp 4) rfl rfl⟩) (by assumption) ?_
  simp only [Act.put, List.setIfInBounds_toArray, List.set_cons_zero, List.set_cons_succ]
  refine take_l (i := 2) (v := ?_) rfl (by kernel_rfl) (by kernel_rfl) (by kernel_rfl) (fun _ _ _ h => h) (Or.inl ⟨by rfl, ?_⟩) (by assumption) ?_
  case refine_2 => (intro _ _; go_simp; all_goals with_reducible rfl)
  simp only [Act.put, List.setIfInBounds_toArray, List.set_cons_zero, List.set_cons_succ]
  refine take_l (i := 3) (v := ?_) rfl (by kernel_rfl) (by kernel_rfl) (by kernel_rfl) (fun _ _ _ h => h) (Or.inl ⟨by rfl, ?_⟩) (by assumption) ?_
  case refine_2 => (intro _ _; go_simp; all_goals with_reducible rfl)
  simp only [Act.put, List.setIfInBounds_toArray, List.set_cons_zero, List.set_cons_succ]
  refine take_l (i := 5) rfl (by kernel_rfl) (by kernel_rfl) (by kernel_rfl) (fun _ _ _ h => h) (Or.inl ⟨by rfl, fun W hS => eKey_load hS.1 HLl.out (.tmp 4) rfl rfl⟩) (by assumption) ?_
  simp only [Act.put, List.setIfInBounds_toArray, List.set_cons_zero, List.set_cons_succ]
  refine take_l (i := 6) rfl (by kernel_rfl) (by kernel_rfl) (by kernel_rfl) (fun _ _ _ h => h) (Or.inl ⟨by rfl, fun W hS => e12_load hS.2 H12.out (.tmp 5) rfl rfl⟩) (by assumption) ?_
  simp only [Act.put, List.setIfInBounds_toArray, List.set_cons_zero, List.set_cons_succ]
  clear hHeld
  refine wpAnyH_ready (rs := [1]) (by kernel_rfl) (by simp) ?_
  refine cons_l rfl (fun KC hK => ?_) AllReadyH.nil
  go_simp
  go_at_call 20
  refine (HHs.out u0 HB0.out).mono ?_
  rintro e u1 ⟨rfl, hb⟩
  have HB1 := Lib.hid (nu_trans HB0.out hb)
  have HS1 := Lib.hid (And.intro (HS0.out.1.below hb HS0.out.1.lt) (HS0.out.2.below hb HS0.out.2.lt))
  clear hb HB0 HS0
  go_wp2_with fail
  refine hK.out _ _ HS1.out (fun hHeld => ?_)
  clear hK KC hHeld
  simp only [Act.put, List.setIfInBounds_toArray, List.set_cons_zero, List.set_cons_succ]
  refine wpAnyH_ready (rs := [4]) (by kernel_rfl) (by simp) ?_
  refine cons_l rfl (fun KC hK => ?_) AllReadyH.nil
  go_simp
  go_at_call 52
  refine (HSm.out u1 HB1.out).mono ?_
  rintro e u2 ⟨rfl, hb⟩
  have HB2 := Lib.hid (nu_trans HB1.out hb)
  have HS2 := Lib.hid (And.intro (HS1.out.1.below hb HS1.out.1.lt) (HS1.out.2.below hb HS1.out.2.lt))
  clear hb HB1 HS1
  go_wp2_with fail
  refine hK.out _ _ HS2.out (fun hHeld => ?_)
  clear hK KC hHeld
  simp only [Act.put, List.setIfInBounds_toArray, List.set_cons_zero, List.set_cons_succ]
  refine wpAnyH_ready (rs := [7]) (by kernel_rfl) (by simp) ?_
  refine cons_l rfl (fun KC hK => ?_) AllReadyH.nil
  go_simp
  go_at_call 50
  refine (HCt.out u2 HB2.out).mono ?_
  rintro e u3 ⟨rfl, hb⟩
  have HB3 := Lib.hid (nu_trans HB2.out hb)
  have HS3 := Lib.hid (And.intro (HS2.out.1.below hb HS2.out.1.lt) (HS2.out.2.below hb HS2.out.2.lt))
  clear hb HB2 HS2
  go_wp2_with fail
  refine hK.out _ _ HS3.out (fun hHeld => ?_)
  clear hK KC hHeld
  simp only [Act.put, List.setIfInBounds_toArray, List.set_cons_zero, List.set_cons_succ]
  refine wpAnyH_ready (rs := [8]) (by kernel_rfl) (by simp) ?_
  refine cons_l rfl (fun KC hK => ?_) AllReadyH.nil
  go_simp
  go_at_call 51
  refine (HAd.out u3).mono ?_
  rintro e u4 ⟨rfl, hb⟩
  have HB4 := Lib.hid (nu_trans HB3.out hb)
  have HS4 := Lib.hid (And.intro (HS3.out.1.below hb HS3.out.1.lt) (HS3.out.2.below hb HS3.out.2.lt))
  clear hb HB3 HS3
  go_wp2_with fail
  refine hK.out _ _ HS4.out (fun hHeld => ?_)
  clear hK KC hHeld
  simp only [Act.put, List.setIfInBounds_toArray, List.set_cons_zero, List.set_cons_succ]
  refine wpAnyH_ready (rs := [9]) (by kernel_rfl) (by simp) ?_
  refine cons_l rfl (fun KC hK => ?_) AllReadyH.nil
  have HZ4 := Lib.hid (HZ.out.below HB4.out HZ.out.lt)
  refine step_store_blk rfl 44 (.tmp 8) (.tmp 17) rfl Z (D.map vb) rfl rfl 44 (z16n.map vb).toArray HZ4.out (by rw [List.length_map, HD16.out]; rfl) (by rw [List.length_map, HD16.out]; kernel_rfl) (vb_one _) ?_
  have HF := Lib.hid (Blk.fill HZ4.out (D.map vb) (by rw [List.length_map, HD16.out]; rfl))
  have Hnf := Lib.hid (nu_fill (D.map vb) (g := Z) Hap.out.1 0 _ (nu_trans Hal.out HB4.out))
  have HS5 := Lib.hid (And.intro (HS4.out.1.farCells (D.map vb) Hap.out.2.1 0) (HS4.out.2.farCells (D.map vb) Hap.out.2.2 0))
  clear HZ HZ4 HB4 HS4
  refine hK.out _ _ HS5.out (fun hHeld => ?_)
  clear hK KC hHeld
  simp only [Act.put, List.setIfInBounds_toArray, List.set_cons_zero, List.set_cons_succ]
  refine wpAnyH_done (by kernel_rfl) ?_ _
  go_wp2_with fail
  refine bodyPost_ret (results_blk rfl _ Z 44 (D.map vb).toArray rfl HF.out Try.underlying44 (by rw [List.size_toArray, List.length_map, HD16.out]; kernel_rfl)) rfl ⟨rfl, Hnf.out⟩
set_option maxRecDepth 100000 in
set_option maxHeartbeats 4000000 in
theorem refSeal_any {w : World} {v : Value} {W : List Nat} {R : Nat} (hv : RowsAt w v W) (hK : Keyed W R) (nonce : List Nat) (h12 : nonce.length = 12) (hx12 : ∀ x ∈ nonce, x < 256) (a : Option Addr) (la ca : Nat) (xs : List Nat) (hx : BytesIn w a la ca xs) (t : Option Addr) (lt ct : Nat) (ys : List Nat) (hy : BytesIn w t lt ct ys) (hla : la ≤ 2000) (hlt : lt ≤ 2000) :
    Calls Try.prog 15 #[.agg (rkeyL v).toArray, .agg (nonce.map vb).toArray, .slice a la ca, .slice t lt ct] w fun e w' => ∃ u, e = .returned u ∧ OwnB w' w.heap.size 5 u (sealL W R nonce (polB (enc W R z16n)) xs ys) ∧ Below w.heap.size w w' := by
  obtain ⟨i0, hi, hz0, hz1, hz2⟩ := info_parts info_u8
  have Hi := Lib.hid (And.intro hi (And.intro hz0 (And.intro hz1 hz2)))
  obtain ⟨L, hL⟩ : ∃ L, L = rkeyL v := ⟨_, rfl⟩
  have HLl := Lib.hid (show L.length = 513 by rw [hL]; exact rkeyL_len _)
  rw [← hL]
  have H12 := Lib.hid h12
  obtain ⟨T, hT⟩ : ∃ T, T = turned W R nonce ys := ⟨_, rfl⟩
  obtain ⟨D, hD⟩ : ∃ D, D = tagL W R nonce (polB (enc W R z16n)) xs T := ⟨_, rfl⟩
  have HD := Lib.hid (show St16 D by rw [hD]; exact tagL_st _ _ _ _ _ _)
  have HTl := Lib.hid (show T.length = lt by rw [hT, turned_len]; exact hy.1.1)
  have HS := Lib.hid (show sealL W R nonce (polB (enc W R z16n)) xs ys = T ++ D by rw [sealL, ← hT, ← hD])
  have hal := nu_alloc (nu_alloc (nu_refl w) (.cells L.toArray 31)) (.cells (nonce.map vb).toArray 23)
  have HKb := Lib.hid ((Blk.made w 31 L.toArray).alloc (.cells (nonce.map vb).toArray 23))
  have HP := Lib.hid (Blk.made1 w (.cells L.toArray 31) 23 (nonce.map vb).toArray)
  have Hal := Lib.hid hal
  have HTu := Lib.hid (show ∀ u : World, Below w.heap.size w u → Calls Try.prog 30 #[.agg L.toArray, .agg (nonce.map vb).toArray, .slice t lt ct] u fun e w' => ∃ x, e = .returned x ∧ OwnB w' u.heap.size 5 x T ∧ Below u.heap.size u w' from fun u hu => by
    rw [hL, hT]
    exact refTurned_any (hv.below hu) hK nonce h12 hx12 t lt ct ys (hy.keep hu) hlt)
  have HTg := Lib.hid (show ∀ u : World, Below w.heap.size w u → ∀ va vc, BytesIn u va lt vc T → Calls Try.prog 31 #[.agg L.toArray, .agg (nonce.map vb).toArray, .slice a la ca, .slice va lt vc] u fun e w' => e = .returned (.agg (D.map vb).toArray) ∧ Below u.heap.size u w' from fun u hu va vc hB => by
    rw [hL, hD]
    exact refTag_any (hv.below hu) hK nonce h12 hx12 a la ca xs (hx.keep hu) va lt vc T hB hla hlt)
  have Hlt := Lib.hid hlt
  clear hi hz0 hz1 hz2 hv hK h12 hx12 hx hy hla hlt hL hT hD hal
  go_enter Try.func15, Try.ntmps15
  go_upto_region 1 with fail
  change Code.wp _ _ _ _ ((w.alloc (.cells L.toArray 31)).alloc (.cells (nonce.map vb).toArray 23))
  generalize (w.alloc (.cells L.toArray 31)).alloc (.cells (nonce.map vb).toArray 23) = w1 at *
  obtain ⟨P, hP⟩ : ∃ P, P = w.heap.size + 1 := ⟨_, rfl⟩
  obtain ⟨K, hKe⟩ : ∃ K, K = w.heap.size := ⟨_, rfl⟩
  rw [← hP] at HP
  rw [← hKe] at HKb
  rw [← hP, ← hKe]
  clear hP hKe
  go_wp2_with (first | (refine wpList_run _ (by rfl) (eKey_load HKb.out HLl.out (.tmp 4) rfl rfl) ?_) | (refine wpList_run _ (by rfl) (e12_load HP.out H12.out (.tmp 5) rfl rfl) ?_))
  refine (HTu.out w1 Hal.out).mono ?_
  rintro e w2 ⟨x, rfl, hO, hb2⟩
  have HP2 := Lib.hid (HP.out.below hb2 HP.out.lt)
  have HK2 := Lib.hid (HKb.out.below hb2 HKb.out.lt)
  have Hn2 := Lib.hid (nu_trans Hal.out hb2)
  have HO := Lib.hid (own_mono hO Hal.out.size)
  obtain ⟨va, vc, rfl, hv1, hv2, hvB⟩ := HO.out.reads
  rw [HTl.out] at hv1 hvB
  rw [HTl.out] at HO
  rw [HTl.out]
  have HV := Lib.hid hvB
  clear hO hb2 HP HKb hvB hv1 hv2 HTu
  go_wp2_with (first | (refine wpList_run _ (by rfl) (eKey_load HK2.out HLl.out (.tmp 4) rfl rfl) ?_) | (refine wpList_run _ (by rfl) (e12_load HP2.out H12.out (.tmp 5) rfl rfl) ?_))
  refine (HTg.out w2 Hn2.out va vc HV.out).mono ?_
  rintro e w3 ⟨rfl, hb3⟩
  have hal := nu_alloc (nu_refl w3) (.cells (z16n.map vb).toArray 44)
  have HSm := Lib.hid (Blk.made w3 44 (z16n.map vb).toArray)
  have HSf := Lib.hid (Blk.fill HSm.out (D.map vb) (by rw [List.length_map, HD.out.1]; rfl))
  have h33 := nu_trans hb3 (nu_fill (D.map vb) (g := w3.heap.size) (Nat.le_refl _) 0 _ hal)
  have HO3 := Lib.hid (ownB_under HO.out h33)
  have Hn3 := Lib.hid (nu_trans Hn2.out h33)
  clear hal hb3 h33 HP2 HK2 HO HV Hn2 HTg
  go_upto_region 3 with (refine wpList_store_blk rfl 44 (.tmp 10) (.tmp 19) rfl w3.heap.size (D.map vb) rfl rfl 44 (z16n.map vb).toArray HSm.out (by rw [List.length_map, HD.out.1]; rfl) (by rw [List.length_map, HD.out.1]; kernel_rfl) (vb_one _) ?_)
  change Code.wp _ _ _ _ ((w3.alloc (.cells (z16n.map vb).toArray 44)).setCells w3.heap.size 0 (D.map vb))
  clear HSm
  generalize (w3.alloc (.cells (z16n.map vb).toArray 44)).setCells w3.heap.size 0 (D.map vb) = w4 at *
  obtain ⟨G, hG⟩ : ∃ G, G = w3.heap.size := ⟨_, rfl⟩
  rw [← hG] at HSf
  rw [← hG]
  clear hG
  have HB := Lib.hid Hn3.out.size
  have Hll := Lib.hid (show (D.map vb).length = 16 * 1 by rw [List.length_map, HD.out.1])
  go_wp2_with (at_builtin; refine wpList_append_own _ rfl (.tmp 20) (.tmp 21) 22 rfl w.heap.size 5 i0 (.int .u8 0) 1 1 Try.underlying22 Hi.out.1 Hi.out.2.1 Hi.out.2.2.1 Hi.out.2.2.2 rfl (by decide) (.slice va lt vc) T.length (T.map vb) rfl HO3.out.1 ⟨G, 0, none⟩ 16 16 (D.map vb) rfl Hll.out (fun j u hu => by rw [Addr.add_lit, Nat.zero_add]; exact HSf.out.at j u (by simpa using hu)) (vb_one _) (by rw [HTl.out]; have := Hlt.out; unfold maxLen; omega) (by rw [HTl.out]; have := Hlt.out; omega) HB.out ?_)
  intro v' w5 hown hg5 _
  have HF := Lib.hid (show OwnB w5 w.heap.size 5 v' (sealL W R nonce (polB (enc W R z16n)) xs ys) from by
    rw [HS.out]
    refine ⟨by rw [List.length_append, HD.out.1, List.map_append]; exact hown, fun x hx => ?_⟩
    rcases List.mem_append.1 hx with hx | hx
    · exact HO3.out.2 x hx
    · exact HD.out.2 x hx)
  have hn5 : Below w.heap.size w w5 := Hn3.out.grown hg5 HB.out (fun k hk => (HO3.out.1.lt k hk).1)
  clear hown hg5 HO3 Hn3 HSf
  go_wp2_with fail
  go_ret
  exact ⟨v', rfl, HF.out, hn5⟩
set_option maxRecDepth 100000 in
set_option maxHeartbeats 1000000 in
theorem refOpen_short (k n : Value) (a t : Option Addr) (la ca lt ct : Nat) (w : World) (ks cs : Array Value) (hk : k = .agg ks) (hn : n = .agg cs) (hl : lt < 16) :
    Calls Try.prog 19 #[k, n, .slice a la ca, .slice t lt ct] w fun e w' => e = .returned (.tuple #[.slice none 0 0, .int .i64 2]) ∧ Below w.heap.size w w' := by
  subst hk hn
  have hal := nu_alloc (nu_alloc (nu_refl w) (.cells ks 31)) (.cells cs 23)
  have h1 : (lt : Int) - 16 < 0 := by omega
  go_enter Try.func19, Try.ntmps19
  go_wp2_with fail
  go_ret2
  exact ⟨rfl, hal⟩
set_option maxRecDepth 100000 in
set_option maxHeartbeats 4000000 in
theorem refOpen_good {w : World} {v : Value} {W : List Nat} {R : Nat} (hv : RowsAt w v W) (hK : Keyed W R) (nonce : List Nat) (h12 : nonce.length = 12) (hx12 : ∀ x ∈ nonce, x < 256) (a : Option Addr) (la ca : Nat) (xs : List Nat) (hx : BytesIn w a la ca xs) (t : Option Addr) (lt ct : Nat) (ys : List Nat) (hy : BytesIn w t lt ct ys) (hla : la ≤ 2000) (n : Nat) (hn : lt = n + 16) (hn2 : n ≤ 2000) (htc : lt ≤ ct ∧ ct ≤ maxLen) (hT : tagL W R nonce (polB (enc W R z16n)) xs (ys.take n) = ys.drop n) :
    Calls Try.prog 19 #[.agg (rkeyL v).toArray, .agg (nonce.map vb).toArray, .slice a la ca, .slice t lt ct] w fun e w' => ∃ u, e = .returned (.tuple #[u, .int .i64 0]) ∧ OwnB w' w.heap.size 5 u (turned W R nonce (ys.take n)) ∧ Below w.heap.size w w' := by
  obtain ⟨L, hL⟩ : ∃ L, L = rkeyL v := ⟨_, rfl⟩
  have HLl := Lib.hid (show L.length = 513 by rw [hL]; exact rkeyL_len _)
  rw [← hL]
  have H12 := Lib.hid h12
  obtain ⟨D, hD⟩ : ∃ D, D = tagL W R nonce (polB (enc W R z16n)) xs (ys.take n) := ⟨_, rfl⟩
  have HD := Lib.hid (show St16 D by rw [hD]; exact tagL_st _ _ _ _ _ _)
  have HT := Lib.hid (show decide (D = ys.drop n) = true by rw [decide_eq_true_iff, hD]; exact hT)
  have hal := nu_alloc (nu_alloc (nu_refl w) (.cells L.toArray 31)) (.cells (nonce.map vb).toArray 23)
  have HKb := Lib.hid ((Blk.made w 31 L.toArray).alloc (.cells (nonce.map vb).toArray 23))
  have HP := Lib.hid (Blk.made1 w (.cells L.toArray 31) 23 (nonce.map vb).toArray)
  have Hal := Lib.hid hal
  obtain ⟨b1, o1, rfl, hbl, hcell⟩ := hy.1.2.2 (by omega)
  have hcn : ¬ ct = n := by omega
  have HyF := Lib.hid (hy.first (n := n) (by omega))
  have hyl := (hy.keep hal).left (n := n) (by omega) htc.1
  rw [show leftAt (some ⟨b1, o1, none⟩) ct n = some ⟨b1, o1 + n, none⟩ by simp [leftAt, hcn, Go.WideShapes.add_plain], show lt - n = 16 by omega] at hyl
  have HyL := Lib.hid hyl
  have HTu := Lib.hid (show ∀ u : World, Below w.heap.size w u → Calls Try.prog 30 #[.agg L.toArray, .agg (nonce.map vb).toArray, .slice (some ⟨b1, o1, none⟩) n ct] u fun e w' => ∃ x, e = .returned x ∧ OwnB w' u.heap.size 5 x (turned W R nonce (ys.take n)) ∧ Below u.heap.size u w' from fun u hu => by
    rw [hL]
    exact refTurned_any (hv.below hu) hK nonce h12 hx12 (some ⟨b1, o1, none⟩) n ct (ys.take n) (HyF.out.keep hu) hn2)
  have HTg0 : ∀ u : World, Below w.heap.size w u → Calls Try.prog 31 #[.agg L.toArray, .agg (nonce.map vb).toArray, .slice a la ca, .slice (some ⟨b1, o1, none⟩) n ct] u fun e w' => e = .returned (.agg (D.map vb).toArray) ∧ Below u.heap.size u w' := fun u hu => by
    rw [hL, hD]
    exact refTag_any (hv.below hu) hK nonce h12 hx12 a la ca xs (hx.keep hu) (some ⟨b1, o1, none⟩) n ct (ys.take n) (HyF.out.keep hu) hla hn2
  have hl1 : (lt : Int) - 16 = (n : Int) := by omega
  have hl0 : ¬ (n : Int) < 0 := by omega
  have hnl : n ≤ lt := by omega
  have hlc : lt ≤ ct := htc.1
  have hnc : n ≤ ct := by omega
  have hcm : ct ≤ 9223372036854775807 := by have := htc.2; unfold maxLen at this; omega
  have hl16 : lt - n = 16 := by omega
  have wn : IntKind.i64.wrap (n : Int) = (n : Int) := by rw [IntKind.wrap_i64]; omega
  have hTg1 : ∀ u : World, Below ((w.alloc (.cells L.toArray 31)).alloc (.cells (nonce.map vb).toArray 23)).heap.size ((w.alloc (.cells L.toArray 31)).alloc (.cells (nonce.map vb).toArray 23)) u → Calls Try.prog 31 #[.agg L.toArray, .agg (nonce.map vb).toArray, .slice a la ca, .slice (some ⟨b1, o1, none⟩) n ct] u fun e w' => e = .returned (.agg (D.map vb).toArray) ∧ Below u.heap.size u w' := fun u hu => HTg0 u (nu_trans hal hu)
  have HTg := Lib.hid hTg1
  clear hv hK h12 hx12 hx hy hla hbl hcell hyl hn2 htc hT hn hD hL hal HTg0 hTg1 HyF
  go_enter Try.func19, Try.ntmps19
  go_upto_region 1 with fail
  change Code.wp _ _ _ _ ((w.alloc (.cells L.toArray 31)).alloc (.cells (nonce.map vb).toArray 23))
  generalize (w.alloc (.cells L.toArray 31)).alloc (.cells (nonce.map vb).toArray 23) = w1 at *
  obtain ⟨P, hP⟩ : ∃ P, P = w.heap.size + 1 := ⟨_, rfl⟩
  obtain ⟨K, hKe⟩ : ∃ K, K = w.heap.size := ⟨_, rfl⟩
  rw [← hP] at HP
  rw [← hKe] at HKb
  rw [← hP, ← hKe]
  clear hP hKe
  go_upto_region 4 with fail
  go_cut [11] (fun s11 wx => ∃ G : Nat, s11 = .pointer (some ⟨G, 0, none⟩) ∧ Blk wx G 44 (D.map vb).toArray ∧ Below w1.heap.size w1 wx)
  case first =>
    refine wp_region_held_drew (S := fun W => Below w1.heap.size w1 W) (by kernel_rfl) (nu_drew (nu_refl w1)) (fun hHeld => ?_)
    dsimp only [Array.replicate, List.replicate, List.size_toArray, List.length_cons, List.length_nil, Nat.reduceAdd] at hHeld ⊢
    have HB0 := Lib.hid hHeld
    generalize w1.drew = u0 at *
    refine take_l (i := 0) rfl (by kernel_rfl) (by kernel_rfl) (by kernel_rfl) (fun _ _ _ h => h) (Or.inl ⟨by rfl, fun W hS => eKey_load (Blk.below HKb.out hS HKb.out.lt) HLl.out (.tmp 4) rfl rfl⟩) (by assumption) ?_
    simp only [Act.put, List.setIfInBounds_toArray, List.set_cons_zero, List.set_cons_succ]
    refine take_l (i := 1) rfl (by kernel_rfl) (by kernel_rfl) (by kernel_rfl) (fun _ _ _ h => h) (Or.inl ⟨by rfl, fun W hS => e12_load (Blk.below HP.out hS HP.out.lt) H12.out (.tmp 5) rfl rfl⟩) (by assumption) ?_
    simp only [Act.put, List.setIfInBounds_toArray, List.set_cons_zero, List.set_cons_succ]
    refine take_l (i := 2) (v := ?_) rfl (by kernel_rfl) (by kernel_rfl) (by kernel_rfl) (fun _ _ _ h => h) (Or.inl ⟨by rfl, ?_⟩) (by assumption) ?_
    case refine_2 => (intro _ _; go_simp; all_goals with_reducible rfl)
    simp only [Act.put, List.setIfInBounds_toArray, List.set_cons_zero, List.set_cons_succ]
    refine take_l (i := 3) (v := ?_) rfl (by kernel_rfl) (by kernel_rfl) (by kernel_rfl) (fun _ _ _ h => h) (Or.inl ⟨by rfl, ?_⟩) (by assumption) ?_
    case refine_2 => (intro _ _; go_simp; all_goals with_reducible rfl)
    simp only [Act.put, List.setIfInBounds_toArray, List.set_cons_zero, List.set_cons_succ]
    refine take_l (i := 4) (v := ?_) rfl (by kernel_rfl) (by kernel_rfl) (by kernel_rfl) (fun _ _ _ h => h) (Or.inl ⟨by rfl, ?_⟩) (by assumption) ?_
    case refine_2 => (intro _ _; go_simp; all_goals with_reducible rfl)
    simp only [Act.put, List.setIfInBounds_toArray, List.set_cons_zero, List.set_cons_succ]
    refine take_l (i := 5) (v := ?_) rfl (by kernel_rfl) (by kernel_rfl) (by kernel_rfl) (fun _ _ _ h => h) (Or.inl ⟨by rfl, ?_⟩) (by assumption) ?_
    case refine_2 => (intro _ _; go_simp; all_goals with_reducible rfl)
    simp only [Act.put, List.setIfInBounds_toArray, List.set_cons_zero, List.set_cons_succ]
    clear hHeld
    refine wpAnyH_ready (rs := [6, 7]) (by kernel_rfl) (by simp) ?_
    refine cons_l rfl (fun KC hK => ?_) ?_
    · go_simp
      go_at_call 31
      refine (HTg.out u0 HB0.out).mono ?_
      rintro e u1 ⟨rfl, hb⟩
      have HB1 := Lib.hid (nu_trans HB0.out hb)
      clear hb HB0
      go_wp2_with fail
      refine hK.out _ _ HB1.out (fun hHeld => ?_)
      clear hK KC hHeld
      simp only [Act.put, List.setIfInBounds_toArray, List.set_cons_zero, List.set_cons_succ]
      refine wpAnyH_ready (rs := [7]) (by kernel_rfl) (by simp) ?_
      refine cons_l rfl (fun KC hK => ?_) AllReadyH.nil
      have hal := nu_alloc (nu_refl u1) (.cells (z16n.map vb).toArray 44)
      have HA := Lib.hid (Blk.made u1 44 (z16n.map vb).toArray)
      have HB2 := Lib.hid (nu_trans HB1.out hal)
      have HL := Lib.hid (show w1.heap.size ≤ u1.heap.size from HB1.out.size)
      clear hal HB1
      go_simp
      go_wp2_with fail
      change KC _ (u1.alloc (.cells (z16n.map vb).toArray 44))
      generalize u1.alloc (.cells (z16n.map vb).toArray 44) = u2 at *
      obtain ⟨G, hG⟩ : ∃ G, G = u1.heap.size := ⟨_, rfl⟩
      rw [← hG] at HA HL
      rw [← hG]
      clear hG
      refine hK.out _ _ HB2.out (fun hHeld => ?_)
      clear hK KC hHeld
      simp only [Act.put, List.setIfInBounds_toArray, List.set_cons_zero, List.set_cons_succ]
      refine wpAnyH_ready (rs := [8]) (by kernel_rfl) (by simp) ?_
      refine cons_l rfl (fun KC hK => ?_) AllReadyH.nil
      refine step_store_blk rfl 44 (.tmp 11) (.tmp 23) rfl G (D.map vb) rfl rfl 44 (z16n.map vb).toArray HA.out (by rw [List.length_map, HD.out.1]; rfl) (by rw [List.length_map, HD.out.1]; kernel_rfl) (vb_one _) ?_
      have HF := Lib.hid (Blk.fill HA.out (D.map vb) (by rw [List.length_map, HD.out.1]; rfl))
      have HBf := Lib.hid (nu_fill (D.map vb) (g := G) HL.out 0 _ HB2.out)
      clear HB2 HA
      generalize u2.setCells G 0 (D.map vb) = x1 at *
      refine hK.out _ _ HBf.out (fun hHeld => ?_)
      clear hK KC hHeld
      simp only [Act.put, List.setIfInBounds_toArray, List.set_cons_zero, List.set_cons_succ]
      refine wpAnyH_done (by kernel_rfl) ?_ _
      go_wp2_with fail
      go_meet
      exact ⟨G, rfl, HF.out, HBf.out⟩
    · refine cons_l rfl (fun KC hK => ?_) AllReadyH.nil
      have hal := nu_alloc (nu_refl u0) (.cells (z16n.map vb).toArray 44)
      have HA := Lib.hid (Blk.made u0 44 (z16n.map vb).toArray)
      have HB1 := Lib.hid (nu_trans HB0.out hal)
      have HL := Lib.hid (show w1.heap.size ≤ u0.heap.size from HB0.out.size)
      clear hal HB0
      go_simp
      go_wp2_with fail
      change KC _ (u0.alloc (.cells (z16n.map vb).toArray 44))
      generalize u0.alloc (.cells (z16n.map vb).toArray 44) = u1 at *
      obtain ⟨G, hG⟩ : ∃ G, G = u0.heap.size := ⟨_, rfl⟩
      rw [← hG] at HA HL
      rw [← hG]
      clear hG
      refine hK.out _ _ HB1.out (fun hHeld => ?_)
      clear hK KC hHeld
      simp only [Act.put, List.setIfInBounds_toArray, List.set_cons_zero, List.set_cons_succ]
      refine wpAnyH_ready (rs := [6]) (by kernel_rfl) (by simp) ?_
      refine cons_l rfl (fun KC hK => ?_) AllReadyH.nil
      go_simp
      go_at_call 31
      refine (HTg.out u1 HB1.out).mono ?_
      rintro e u2 ⟨rfl, hb⟩
      have HB2 := Lib.hid (nu_trans HB1.out hb)
      have HA2 := Lib.hid (HA.out.below hb HA.out.lt)
      clear hb HB1
      go_wp2_with fail
      refine hK.out _ _ HB2.out (fun hHeld => ?_)
      clear hK KC hHeld
      simp only [Act.put, List.setIfInBounds_toArray, List.set_cons_zero, List.set_cons_succ]
      refine wpAnyH_ready (rs := [8]) (by kernel_rfl) (by simp) ?_
      refine cons_l rfl (fun KC hK => ?_) AllReadyH.nil
      refine step_store_blk rfl 44 (.tmp 11) (.tmp 23) rfl G (D.map vb) rfl rfl 44 (z16n.map vb).toArray HA2.out (by rw [List.length_map, HD.out.1]; rfl) (by rw [List.length_map, HD.out.1]; kernel_rfl) (vb_one _) ?_
      have HF := Lib.hid (Blk.fill HA2.out (D.map vb) (by rw [List.length_map, HD.out.1]; rfl))
      have HBf := Lib.hid (nu_fill (D.map vb) (g := G) HL.out 0 _ HB2.out)
      clear HB2 HA2
      generalize u2.setCells G 0 (D.map vb) = x1 at *
      refine hK.out _ _ HBf.out (fun hHeld => ?_)
      clear hK KC hHeld
      simp only [Act.put, List.setIfInBounds_toArray, List.set_cons_zero, List.set_cons_succ]
      refine wpAnyH_done (by kernel_rfl) ?_ _
      go_wp2_with fail
      go_meet
      exact ⟨G, rfl, HF.out, HBf.out⟩
  case rest =>
    obtain ⟨G, rfl, hGb, hb⟩ := hcut
    have HGb := Lib.hid hGb
    have HB1 := Lib.hid hb
    have HKb := Lib.hid (HKb.out.below hb HKb.out.lt)
    have HP := Lib.hid (HP.out.below hb HP.out.lt)
    have HyL := Lib.hid (HyL.out.keep hb)
    have Hn1 := Lib.hid (nu_trans Hal.out hb)
    clear hGb hb HTg HB1
    generalize wc = x1 at *
    go_upto_region 5 with fail
    refine wp_region_held_drew (S := fun W => Below x1.heap.size x1 W) (by kernel_rfl) (nu_drew (nu_refl x1)) (fun hHeld => ?_)
    dsimp only [Array.replicate, List.replicate, List.size_toArray, List.length_cons, List.length_nil, Nat.reduceAdd] at hHeld ⊢
    have HB0 := Lib.hid hHeld
    generalize x1.drew = u0 at *
    refine take_l (i := 0) (v := ?_) rfl (by kernel_rfl) (by kernel_rfl) (by kernel_rfl) (fun _ _ _ h => h) (Or.inl ⟨by rfl, ?_⟩) (by assumption) ?_
    case refine_2 => (intro _ _; go_simp; all_goals with_reducible rfl)
    simp only [Act.put, List.setIfInBounds_toArray, List.set_cons_zero, List.set_cons_succ]
    refine take_l (i := 1) (v := ?_) rfl (by kernel_rfl) (by kernel_rfl) (by kernel_rfl) (fun _ _ _ h => h) (Or.inl ⟨by rfl, ?_⟩) (by assumption) ?_
    case refine_2 => (intro _ _; go_simp; all_goals with_reducible rfl)
    simp only [Act.put, List.setIfInBounds_toArray, List.set_cons_zero, List.set_cons_succ]
    refine take_l (i := 2) (v := ?_) rfl (by kernel_rfl) (by kernel_rfl) (by kernel_rfl) (fun _ _ _ h => h) (Or.inl ⟨by rfl, ?_⟩) (by assumption) ?_
    case refine_2 => (intro _ _; go_simp; all_goals with_reducible rfl)
    simp only [Act.put, List.setIfInBounds_toArray, List.set_cons_zero, List.set_cons_succ]
    refine take_l (i := 3) (v := ?_) rfl (by kernel_rfl) (by kernel_rfl) (by kernel_rfl) (fun _ _ _ h => h) (Or.inl ⟨by rfl, ?_⟩) (by assumption) ?_
    case refine_2 => (intro _ _; go_simp; all_goals with_reducible rfl)
    simp only [Act.put, List.setIfInBounds_toArray, List.set_cons_zero, List.set_cons_succ]
    clear hHeld
    refine wpAnyH_ready (rs := [4]) (by kernel_rfl) (by simp) ?_
    refine cons_l rfl (fun KC hK => ?_) AllReadyH.nil
    go_simp
    go_at_call 16
    refine (same_is true HT.out (show IntsIn u0 .u8 (some ⟨G, 0, none⟩) 16 D from (blk_bytes (HGb.out.below HB0.out HGb.out.lt) HD.out.1 HD.out.2).1) (HyL.out.keep HB0.out).1 (by omega) (by omega)).mono ?_
    rintro e u2 ⟨rfl, nn, rfl⟩
    have HB2 := Lib.hid (nu_drewN HB0.out nn)
    generalize u0.drewN nn = u2 at *
    clear HB0 HGb
    go_wp2_with fail
    refine hK.out _ _ HB2.out (fun hHeld => ?_)
    clear hK KC hHeld
    simp only [Act.put, List.setIfInBounds_toArray, List.set_cons_zero, List.set_cons_succ]
    have hHeld := HB2.out
    refine take_l (i := 5) (v := ?_) rfl (by kernel_rfl) (by kernel_rfl) (by kernel_rfl) (fun _ _ _ h => h) (Or.inl ⟨by rfl, ?_⟩) (by assumption) ?_
    case refine_2 => (intro _ _; go_simp; all_goals with_reducible rfl)
    simp only [Act.put, List.setIfInBounds_toArray, List.set_cons_zero, List.set_cons_succ]
    refine wpAnyH_done (by kernel_rfl) ?_ _
    clear hHeld
    have Hn2 := Lib.hid (nu_trans Hn1.out HB2.out)
    have HP2 := Lib.hid (HP.out.below HB2.out HP.out.lt)
    have HK2 := Lib.hid (HKb.out.below HB2.out HKb.out.lt)
    clear HP HKb HyL HB2 Hn1
    go_upto_region 7 with fail
    refine wp_region_held_drew (S := fun W => Below u2.heap.size u2 W) (by kernel_rfl) (nu_drew (nu_refl u2)) (fun hHeld => ?_)
    dsimp only [Array.replicate, List.replicate, List.size_toArray, List.length_cons, List.length_nil, Nat.reduceAdd] at hHeld ⊢
    have HC0 := Lib.hid hHeld
    generalize u2.drew = v0 at *
    refine take_l (i := 0) rfl (by kernel_rfl) (by kernel_rfl) (by kernel_rfl) (fun _ _ _ h => h) (Or.inl ⟨by rfl, fun W hS => eKey_load (Blk.below HK2.out hS HK2.out.lt) HLl.out (.tmp 4) rfl rfl⟩) (by assumption) ?_
    simp only [Act.put, List.setIfInBounds_toArray, List.set_cons_zero, List.set_cons_succ]
    refine take_l (i := 1) rfl (by kernel_rfl) (by kernel_rfl) (by kernel_rfl) (fun _ _ _ h => h) (Or.inl ⟨by rfl, fun W hS => e12_load (Blk.below HP2.out hS HP2.out.lt) H12.out (.tmp 5) rfl rfl⟩) (by assumption) ?_
    simp only [Act.put, List.setIfInBounds_toArray, List.set_cons_zero, List.set_cons_succ]
    refine take_l (i := 2) (v := ?_) rfl (by kernel_rfl) (by kernel_rfl) (by kernel_rfl) (fun _ _ _ h => h) (Or.inl ⟨by rfl, ?_⟩) (by assumption) ?_
    case refine_2 => (intro _ _; go_simp; all_goals with_reducible rfl)
    simp only [Act.put, List.setIfInBounds_toArray, List.set_cons_zero, List.set_cons_succ]
    refine take_l (i := 3) (v := ?_) rfl (by kernel_rfl) (by kernel_rfl) (by kernel_rfl) (fun _ _ _ h => h) (Or.inl ⟨by rfl, ?_⟩) (by assumption) ?_
    case refine_2 => (intro _ _; go_simp; all_goals with_reducible rfl)
    simp only [Act.put, List.setIfInBounds_toArray, List.set_cons_zero, List.set_cons_succ]
    refine take_l (i := 4) (v := ?_) rfl (by kernel_rfl) (by kernel_rfl) (by kernel_rfl) (fun _ _ _ h => h) (Or.inl ⟨by rfl, ?_⟩) (by assumption) ?_
    case refine_2 => (intro _ _; go_simp; all_goals with_reducible rfl)
    simp only [Act.put, List.setIfInBounds_toArray, List.set_cons_zero, List.set_cons_succ]
    clear hHeld
    refine wpAnyH_ready (rs := [5]) (by kernel_rfl) (by simp) ?_
    refine cons_l rfl (fun KC hK => ?_) AllReadyH.nil
    go_simp
    go_at_call 30
    refine (HTu.out v0 (nu_trans Hn2.out HC0.out)).mono ?_
    rintro e v1 ⟨x, rfl, hO, hb⟩
    have HC1 := Lib.hid (nu_trans HC0.out hb)
    have hsz : w.heap.size ≤ v0.heap.size := Nat.le_trans Hn2.out.size HC0.out.size
    have HO := Lib.hid (own_mono hO hsz)
    clear hO hb HC0 hsz
    go_wp2_with fail
    refine hK.out _ _ HC1.out (fun hHeld => ?_)
    clear hK KC hHeld
    simp only [Act.put, List.setIfInBounds_toArray, List.set_cons_zero, List.set_cons_succ]
    have hHeld := HC1.out
    refine take_l (i := 6) (v := ?_) rfl (by kernel_rfl) (by kernel_rfl) (by kernel_rfl) (fun _ _ _ h => h) (Or.inl ⟨by rfl, ?_⟩) (by assumption) ?_
    case refine_2 => (intro _ _; go_simp; all_goals with_reducible rfl)
    simp only [Act.put, List.setIfInBounds_toArray, List.set_cons_zero, List.set_cons_succ]
    refine take_l (i := 7) (v := ?_) rfl (by kernel_rfl) (by kernel_rfl) (by kernel_rfl) (fun _ _ _ h => h) (Or.inl ⟨by rfl, ?_⟩) (by assumption) ?_
    case refine_2 => (intro _ _; go_simp; all_goals with_reducible rfl)
    simp only [Act.put, List.setIfInBounds_toArray, List.set_cons_zero, List.set_cons_succ]
    refine wpAnyH_done (by kernel_rfl) ?_ _
    clear hHeld
    have hn3 := nu_trans Hn2.out HC1.out
    go_wp2_with fail
    go_ret2
    exact ⟨x, rfl, HO.out, hn3⟩
set_option maxRecDepth 100000 in
set_option maxHeartbeats 4000000 in
theorem refOpen_bad {w : World} {v : Value} {W : List Nat} {R : Nat} (hv : RowsAt w v W) (hK : Keyed W R) (nonce : List Nat) (h12 : nonce.length = 12) (hx12 : ∀ x ∈ nonce, x < 256) (a : Option Addr) (la ca : Nat) (xs : List Nat) (hx : BytesIn w a la ca xs) (t : Option Addr) (lt ct : Nat) (ys : List Nat) (hy : BytesIn w t lt ct ys) (hla : la ≤ 2000) (n : Nat) (hn : lt = n + 16) (hn2 : n ≤ 2000) (htc : lt ≤ ct ∧ ct ≤ maxLen) (hT : ¬ tagL W R nonce (polB (enc W R z16n)) xs (ys.take n) = ys.drop n) :
    Calls Try.prog 19 #[.agg (rkeyL v).toArray, .agg (nonce.map vb).toArray, .slice a la ca, .slice t lt ct] w fun e w' => e = .returned (.tuple #[.slice none 0 0, .int .i64 10]) ∧ Below w.heap.size w w' := by
  obtain ⟨L, hL⟩ : ∃ L, L = rkeyL v := ⟨_, rfl⟩
  have HLl := Lib.hid (show L.length = 513 by rw [hL]; exact rkeyL_len _)
  rw [← hL]
  have H12 := Lib.hid h12
  obtain ⟨D, hD⟩ : ∃ D, D = tagL W R nonce (polB (enc W R z16n)) xs (ys.take n) := ⟨_, rfl⟩
  have HD := Lib.hid (show St16 D by rw [hD]; exact tagL_st _ _ _ _ _ _)
  have HT := Lib.hid (show decide (D = ys.drop n) = false by rw [decide_eq_false_iff_not, hD]; exact hT)
  have hal := nu_alloc (nu_alloc (nu_refl w) (.cells L.toArray 31)) (.cells (nonce.map vb).toArray 23)
  have HKb := Lib.hid ((Blk.made w 31 L.toArray).alloc (.cells (nonce.map vb).toArray 23))
  have HP := Lib.hid (Blk.made1 w (.cells L.toArray 31) 23 (nonce.map vb).toArray)
  have Hal := Lib.hid hal
  obtain ⟨b1, o1, rfl, hbl, hcell⟩ := hy.1.2.2 (by omega)
  have hcn : ¬ ct = n := by omega
  have HyF := Lib.hid (hy.first (n := n) (by omega))
  have hyl := (hy.keep hal).left (n := n) (by omega) htc.1
  rw [show leftAt (some ⟨b1, o1, none⟩) ct n = some ⟨b1, o1 + n, none⟩ by simp [leftAt, hcn, Go.WideShapes.add_plain], show lt - n = 16 by omega] at hyl
  have HyL := Lib.hid hyl
  have HTu := Lib.hid (show ∀ u : World, Below w.heap.size w u → Calls Try.prog 30 #[.agg L.toArray, .agg (nonce.map vb).toArray, .slice (some ⟨b1, o1, none⟩) n ct] u fun e w' => ∃ x, e = .returned x ∧ OwnB w' u.heap.size 5 x (turned W R nonce (ys.take n)) ∧ Below u.heap.size u w' from fun u hu => by
    rw [hL]
    exact refTurned_any (hv.below hu) hK nonce h12 hx12 (some ⟨b1, o1, none⟩) n ct (ys.take n) (HyF.out.keep hu) hn2)
  have HTg0 : ∀ u : World, Below w.heap.size w u → Calls Try.prog 31 #[.agg L.toArray, .agg (nonce.map vb).toArray, .slice a la ca, .slice (some ⟨b1, o1, none⟩) n ct] u fun e w' => e = .returned (.agg (D.map vb).toArray) ∧ Below u.heap.size u w' := fun u hu => by
    rw [hL, hD]
    exact refTag_any (hv.below hu) hK nonce h12 hx12 a la ca xs (hx.keep hu) (some ⟨b1, o1, none⟩) n ct (ys.take n) (HyF.out.keep hu) hla hn2
  have hl1 : (lt : Int) - 16 = (n : Int) := by omega
  have hl0 : ¬ (n : Int) < 0 := by omega
  have hnl : n ≤ lt := by omega
  have hlc : lt ≤ ct := htc.1
  have hnc : n ≤ ct := by omega
  have hcm : ct ≤ 9223372036854775807 := by have := htc.2; unfold maxLen at this; omega
  have hl16 : lt - n = 16 := by omega
  have wn : IntKind.i64.wrap (n : Int) = (n : Int) := by rw [IntKind.wrap_i64]; omega
  have hTg1 : ∀ u : World, Below ((w.alloc (.cells L.toArray 31)).alloc (.cells (nonce.map vb).toArray 23)).heap.size ((w.alloc (.cells L.toArray 31)).alloc (.cells (nonce.map vb).toArray 23)) u → Calls Try.prog 31 #[.agg L.toArray, .agg (nonce.map vb).toArray, .slice a la ca, .slice (some ⟨b1, o1, none⟩) n ct] u fun e w' => e = .returned (.agg (D.map vb).toArray) ∧ Below u.heap.size u w' := fun u hu => HTg0 u (nu_trans hal hu)
  have HTg := Lib.hid hTg1
  clear hv hK h12 hx12 hx hy hla hbl hcell hyl hn2 htc hT hn hD hL hal HTg0 hTg1 HyF
  go_enter Try.func19, Try.ntmps19
  go_upto_region 1 with fail
  change Code.wp _ _ _ _ ((w.alloc (.cells L.toArray 31)).alloc (.cells (nonce.map vb).toArray 23))
  generalize (w.alloc (.cells L.toArray 31)).alloc (.cells (nonce.map vb).toArray 23) = w1 at *
  obtain ⟨P, hP⟩ : ∃ P, P = w.heap.size + 1 := ⟨_, rfl⟩
  obtain ⟨K, hKe⟩ : ∃ K, K = w.heap.size := ⟨_, rfl⟩
  rw [← hP] at HP
  rw [← hKe] at HKb
  rw [← hP, ← hKe]
  clear hP hKe
  go_upto_region 4 with fail
  go_cut [11] (fun s11 wx => ∃ G : Nat, s11 = .pointer (some ⟨G, 0, none⟩) ∧ Blk wx G 44 (D.map vb).toArray ∧ Below w1.heap.size w1 wx)
  case first =>
    refine wp_region_held_drew (S := fun W => Below w1.heap.size w1 W) (by kernel_rfl) (nu_drew (nu_refl w1)) (fun hHeld => ?_)
    dsimp only [Array.replicate, List.replicate, List.size_toArray, List.length_cons, List.length_nil, Nat.reduceAdd] at hHeld ⊢
    have HB0 := Lib.hid hHeld
    generalize w1.drew = u0 at *
    refine take_l (i := 0) rfl (by kernel_rfl) (by kernel_rfl) (by kernel_rfl) (fun _ _ _ h => h) (Or.inl ⟨by rfl, fun W hS => eKey_load (Blk.below HKb.out hS HKb.out.lt) HLl.out (.tmp 4) rfl rfl⟩) (by assumption) ?_
    simp only [Act.put, List.setIfInBounds_toArray, List.set_cons_zero, List.set_cons_succ]
    refine take_l (i := 1) rfl (by kernel_rfl) (by kernel_rfl) (by kernel_rfl) (fun _ _ _ h => h) (Or.inl ⟨by rfl, fun W hS => e12_load (Blk.below HP.out hS HP.out.lt) H12.out (.tmp 5) rfl rfl⟩) (by assumption) ?_
    simp only [Act.put, List.setIfInBounds_toArray, List.set_cons_zero, List.set_cons_succ]
    refine take_l (i := 2) (v := ?_) rfl (by kernel_rfl) (by kernel_rfl) (by kernel_rfl) (fun _ _ _ h => h) (Or.inl ⟨by rfl, ?_⟩) (by assumption) ?_
    case refine_2 => (intro _ _; go_simp; all_goals with_reducible rfl)
    simp only [Act.put, List.setIfInBounds_toArray, List.set_cons_zero, List.set_cons_succ]
    refine take_l (i := 3) (v := ?_) rfl (by kernel_rfl) (by kernel_rfl) (by kernel_rfl) (fun _ _ _ h => h) (Or.inl ⟨by rfl, ?_⟩) (by assumption) ?_
    case refine_2 => (intro _ _; go_simp; all_goals with_reducible rfl)
    simp only [Act.put, List.setIfInBounds_toArray, List.set_cons_zero, List.set_cons_succ]
    refine take_l (i := 4) (v := ?_) rfl (by kernel_rfl) (by kernel_rfl) (by kernel_rfl) (fun _ _ _ h => h) (Or.inl ⟨by rfl, ?_⟩) (by assumption) ?_
    case refine_2 => (intro _ _; go_simp; all_goals with_reducible rfl)
    simp only [Act.put, List.setIfInBounds_toArray, List.set_cons_zero, List.set_cons_succ]
    refine take_l (i := 5) (v := ?_) rfl (by kernel_rfl) (by kernel_rfl) (by kernel_rfl) (fun _ _ _ h => h) (Or.inl ⟨by rfl, ?_⟩) (by assumption) ?_
    case refine_2 => (intro _ _; go_simp; all_goals with_reducible rfl)
    simp only [Act.put, List.setIfInBounds_toArray, List.set_cons_zero, List.set_cons_succ]
    clear hHeld
    refine wpAnyH_ready (rs := [6, 7]) (by kernel_rfl) (by simp) ?_
    refine cons_l rfl (fun KC hK => ?_) ?_
    · go_simp
      go_at_call 31
      refine (HTg.out u0 HB0.out).mono ?_
      rintro e u1 ⟨rfl, hb⟩
      have HB1 := Lib.hid (nu_trans HB0.out hb)
      clear hb HB0
      go_wp2_with fail
      refine hK.out _ _ HB1.out (fun hHeld => ?_)
      clear hK KC hHeld
      simp only [Act.put, List.setIfInBounds_toArray, List.set_cons_zero, List.set_cons_succ]
      refine wpAnyH_ready (rs := [7]) (by kernel_rfl) (by simp) ?_
      refine cons_l rfl (fun KC hK => ?_) AllReadyH.nil
      have hal := nu_alloc (nu_refl u1) (.cells (z16n.map vb).toArray 44)
      have HA := Lib.hid (Blk.made u1 44 (z16n.map vb).toArray)
      have HB2 := Lib.hid (nu_trans HB1.out hal)
      have HL := Lib.hid (show w1.heap.size ≤ u1.heap.size from HB1.out.size)
      clear hal HB1
      go_simp
      go_wp2_with fail
      change KC _ (u1.alloc (.cells (z16n.map vb).toArray 44))
      generalize u1.alloc (.cells (z16n.map vb).toArray 44) = u2 at *
      obtain ⟨G, hG⟩ : ∃ G, G = u1.heap.size := ⟨_, rfl⟩
      rw [← hG] at HA HL
      rw [← hG]
      clear hG
      refine hK.out _ _ HB2.out (fun hHeld => ?_)
      clear hK KC hHeld
      simp only [Act.put, List.setIfInBounds_toArray, List.set_cons_zero, List.set_cons_succ]
      refine wpAnyH_ready (rs := [8]) (by kernel_rfl) (by simp) ?_
      refine cons_l rfl (fun KC hK => ?_) AllReadyH.nil
      refine step_store_blk rfl 44 (.tmp 11) (.tmp 23) rfl G (D.map vb) rfl rfl 44 (z16n.map vb).toArray HA.out (by rw [List.length_map, HD.out.1]; rfl) (by rw [List.length_map, HD.out.1]; kernel_rfl) (vb_one _) ?_
      have HF := Lib.hid (Blk.fill HA.out (D.map vb) (by rw [List.length_map, HD.out.1]; rfl))
      have HBf := Lib.hid (nu_fill (D.map vb) (g := G) HL.out 0 _ HB2.out)
      clear HB2 HA
      generalize u2.setCells G 0 (D.map vb) = x1 at *
      refine hK.out _ _ HBf.out (fun hHeld => ?_)
      clear hK KC hHeld
      simp only [Act.put, List.setIfInBounds_toArray, List.set_cons_zero, List.set_cons_succ]
      refine wpAnyH_done (by kernel_rfl) ?_ _
      go_wp2_with fail
      go_meet
      exact ⟨G, rfl, HF.out, HBf.out⟩
    · refine cons_l rfl (fun KC hK => ?_) AllReadyH.nil
      have hal := nu_alloc (nu_refl u0) (.cells (z16n.map vb).toArray 44)
      have HA := Lib.hid (Blk.made u0 44 (z16n.map vb).toArray)
      have HB1 := Lib.hid (nu_trans HB0.out hal)
      have HL := Lib.hid (show w1.heap.size ≤ u0.heap.size from HB0.out.size)
      clear hal HB0
      go_simp
      go_wp2_with fail
      change KC _ (u0.alloc (.cells (z16n.map vb).toArray 44))
      generalize u0.alloc (.cells (z16n.map vb).toArray 44) = u1 at *
      obtain ⟨G, hG⟩ : ∃ G, G = u0.heap.size := ⟨_, rfl⟩
      rw [← hG] at HA HL
      rw [← hG]
      clear hG
      refine hK.out _ _ HB1.out (fun hHeld => ?_)
      clear hK KC hHeld
      simp only [Act.put, List.setIfInBounds_toArray, List.set_cons_zero, List.set_cons_succ]
      refine wpAnyH_ready (rs := [6]) (by kernel_rfl) (by simp) ?_
      refine cons_l rfl (fun KC hK => ?_) AllReadyH.nil
      go_simp
      go_at_call 31
      refine (HTg.out u1 HB1.out).mono ?_
      rintro e u2 ⟨rfl, hb⟩
      have HB2 := Lib.hid (nu_trans HB1.out hb)
      have HA2 := Lib.hid (HA.out.below hb HA.out.lt)
      clear hb HB1
      go_wp2_with fail
      refine hK.out _ _ HB2.out (fun hHeld => ?_)
      clear hK KC hHeld
      simp only [Act.put, List.setIfInBounds_toArray, List.set_cons_zero, List.set_cons_succ]
      refine wpAnyH_ready (rs := [8]) (by kernel_rfl) (by simp) ?_
      refine cons_l rfl (fun KC hK => ?_) AllReadyH.nil
      refine step_store_blk rfl 44 (.tmp 11) (.tmp 23) rfl G (D.map vb) rfl rfl 44 (z16n.map vb).toArray HA2.out (by rw [List.length_map, HD.out.1]; rfl) (by rw [List.length_map, HD.out.1]; kernel_rfl) (vb_one _) ?_
      have HF := Lib.hid (Blk.fill HA2.out (D.map vb) (by rw [List.length_map, HD.out.1]; rfl))
      have HBf := Lib.hid (nu_fill (D.map vb) (g := G) HL.out 0 _ HB2.out)
      clear HB2 HA2
      generalize u2.setCells G 0 (D.map vb) = x1 at *
      refine hK.out _ _ HBf.out (fun hHeld => ?_)
      clear hK KC hHeld
      simp only [Act.put, List.setIfInBounds_toArray, List.set_cons_zero, List.set_cons_succ]
      refine wpAnyH_done (by kernel_rfl) ?_ _
      go_wp2_with fail
      go_meet
      exact ⟨G, rfl, HF.out, HBf.out⟩
  case rest =>
    obtain ⟨G, rfl, hGb, hb⟩ := hcut
    have HGb := Lib.hid hGb
    have HB1 := Lib.hid hb
    have HKb := Lib.hid (HKb.out.below hb HKb.out.lt)
    have HP := Lib.hid (HP.out.below hb HP.out.lt)
    have HyL := Lib.hid (HyL.out.keep hb)
    have Hn1 := Lib.hid (nu_trans Hal.out hb)
    clear hGb hb HTg HB1
    generalize wc = x1 at *
    go_upto_region 5 with fail
    refine wp_region_held_drew (S := fun W => Below x1.heap.size x1 W) (by kernel_rfl) (nu_drew (nu_refl x1)) (fun hHeld => ?_)
    dsimp only [Array.replicate, List.replicate, List.size_toArray, List.length_cons, List.length_nil, Nat.reduceAdd] at hHeld ⊢
    have HB0 := Lib.hid hHeld
    generalize x1.drew = u0 at *
    refine take_l (i := 0) (v := ?_) rfl (by kernel_rfl) (by kernel_rfl) (by kernel_rfl) (fun _ _ _ h => h) (Or.inl ⟨by rfl, ?_⟩) (by assumption) ?_
    case refine_2 => (intro _ _; go_simp; all_goals with_reducible rfl)
    simp only [Act.put, List.setIfInBounds_toArray, List.set_cons_zero, List.set_cons_succ]
    refine take_l (i := 1) (v := ?_) rfl (by kernel_rfl) (by kernel_rfl) (by kernel_rfl) (fun _ _ _ h => h) (Or.inl ⟨by rfl, ?_⟩) (by assumption) ?_
    case refine_2 => (intro _ _; go_simp; all_goals with_reducible rfl)
    simp only [Act.put, List.setIfInBounds_toArray, List.set_cons_zero, List.set_cons_succ]
    refine take_l (i := 2) (v := ?_) rfl (by kernel_rfl) (by kernel_rfl) (by kernel_rfl) (fun _ _ _ h => h) (Or.inl ⟨by rfl, ?_⟩) (by assumption) ?_
    case refine_2 => (intro _ _; go_simp; all_goals with_reducible rfl)
    simp only [Act.put, List.setIfInBounds_toArray, List.set_cons_zero, List.set_cons_succ]
    refine take_l (i := 3) (v := ?_) rfl (by kernel_rfl) (by kernel_rfl) (by kernel_rfl) (fun _ _ _ h => h) (Or.inl ⟨by rfl, ?_⟩) (by assumption) ?_
    case refine_2 => (intro _ _; go_simp; all_goals with_reducible rfl)
    simp only [Act.put, List.setIfInBounds_toArray, List.set_cons_zero, List.set_cons_succ]
    clear hHeld
    refine wpAnyH_ready (rs := [4]) (by kernel_rfl) (by simp) ?_
    refine cons_l rfl (fun KC hK => ?_) AllReadyH.nil
    go_simp
    go_at_call 16
    refine (same_is false HT.out (show IntsIn u0 .u8 (some ⟨G, 0, none⟩) 16 D from (blk_bytes (HGb.out.below HB0.out HGb.out.lt) HD.out.1 HD.out.2).1) (HyL.out.keep HB0.out).1 (by omega) (by omega)).mono ?_
    rintro e u2 ⟨rfl, nn, rfl⟩
    have HB2 := Lib.hid (nu_drewN HB0.out nn)
    generalize u0.drewN nn = u2 at *
    clear HB0 HGb
    go_wp2_with fail
    refine hK.out _ _ HB2.out (fun hHeld => ?_)
    clear hK KC hHeld
    simp only [Act.put, List.setIfInBounds_toArray, List.set_cons_zero, List.set_cons_succ]
    have hHeld := HB2.out
    refine take_l (i := 5) (v := ?_) rfl (by kernel_rfl) (by kernel_rfl) (by kernel_rfl) (fun _ _ _ h => h) (Or.inl ⟨by rfl, ?_⟩) (by assumption) ?_
    case refine_2 => (intro _ _; go_simp; all_goals with_reducible rfl)
    simp only [Act.put, List.setIfInBounds_toArray, List.set_cons_zero, List.set_cons_succ]
    refine wpAnyH_done (by kernel_rfl) ?_ _
    clear hHeld
    have Hn2 := Lib.hid (nu_trans Hn1.out HB2.out)
    clear HP HKb HyL HB2 Hn1
    go_wp2_with fail
    go_ret2
    exact ⟨rfl, Hn2.out⟩
end Go.Proofs.Ytpeibkdcglkimaa
