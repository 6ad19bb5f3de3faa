/-
  The walk of GhashSums.
-/
import Derived.Test.YtnojbjconiddoaaGh21
import Derived.Test.YtnojbjconiddoaaLent
namespace Go.Proofs.Ytnojbjconiddoaa
open Go.ChangeShapes Go.WideShapes Go.ChangeAt Go.RowKit
set_option linter.unusedSimpArgs false

structure SumsAt (w : World) (g h g1 g2 : Nat) (xs ys : List Nat) (a b : Option Addr) (la ca lb cb P : Nat) (D : List Nat) (W : World) : Prop where
  key : KeyAt W g h
  l1 : Blk W g1 5 (lentCells xs)
  l2 : Blk W g2 5 (lentCells ys)
  r1 : BytesIn W (some ⟨g1, 0, none⟩) la (la + 3) xs
  r2 : BytesIn W (some ⟨g2, 0, none⟩) lb (lb + 3) ys
  one : BytesIn W a la ca xs
  two : BytesIn W b lb cb ys
  blk : Blk W P 22 (D.map vb).toArray
  nu : Below w.heap.size w W
theorem SumsAt.below {w : World} {g h g1 g2 : Nat} {xs ys : List Nat} {a b : Option Addr} {la ca lb cb P : Nat} {D : List Nat} {W W' : World} (H : SumsAt w g h g1 g2 xs ys a b la ca lb cb P D W) (hb : Below W.heap.size W W') : SumsAt w g h g1 g2 xs ys a b la ca lb cb P D W' :=
  ⟨Blk.below H.key hb (Blk.lt H.key), Blk.below H.l1 hb (Blk.lt H.l1), Blk.below H.l2 hb (Blk.lt H.l2), H.r1.keep hb, H.r2.keep hb, H.one.keep hb, H.two.keep hb, Blk.below H.blk hb (Blk.lt H.blk), nu_trans H.nu hb⟩

set_option maxRecDepth 100000 in
set_option maxHeartbeats 4000000 in
theorem ghashSums_walk (ks : List Nat) (hkl : ks.length = 16) (hkx : ∀ x ∈ ks, x < 256) (a b : Option Addr) (la ca lb cb : Nat) (xs ys : List Nat) (w : World) (hx : BytesIn w a la ca xs) (hy : BytesIn w b lb cb ys) :
    Calls Try.prog 5 #[.agg (ks.map vb).toArray, .slice a la ca, .slice b lb cb] w fun e w' => e = .returned (.bool true) ∧ Below w.heap.size w w' := by
  have Hal := Lib.hid (nu_alloc (nu_refl w) (.cells (ks.map vb).toArray 22))
  have HK1 := Lib.hid (Blk.made w 22 (ks.map vb).toArray)
  by_cases h0 : 2000 < la ∨ 2000 < lb
  · have Hg := Lib.hid h0
    clear hx hy
    go_enter Try.func5, Try.ntmps5
    by_cases h1 : 2000 < la
    · have hi : (2000 : Int) < (la : Int) := by omega
      go_wp2_with fail
      refine (awake7 _).mono ?_
      rintro e w2 ⟨rfl, hb⟩
      have hn2 := nu_trans Hal.out hb
      go_wp2_with fail
      go_ret
      exact ⟨rfl, hn2⟩
    · have hi : ¬ (2000 : Int) < (la : Int) := by omega
      have hi2 : (2000 : Int) < (lb : Int) := by omega
      go_wp2_with fail
      refine (awake7 _).mono ?_
      rintro e w2 ⟨rfl, hb⟩
      have hn2 := nu_trans Hal.out hb
      go_wp2_with fail
      go_ret
      exact ⟨rfl, hn2⟩
  · have hi : ¬ (2000 : Int) < (la : Int) := by omega
    have hi2 : ¬ (2000 : Int) < (lb : Int) := by omega
    have hla : la ≤ 2000 := by omega
    have hlb : lb ≤ 2000 := by omega
    have Hxl := Lib.hid hx.1.1
    have Hyl := Lib.hid hy.1.1
    have Hxx := Lib.hid (fun x h => wf_u8_lt (hx.1.2.1 x h))
    have Hyx := Lib.hid (fun x h => wf_u8_lt (hy.1.2.1 x h))
    have HX1 := Lib.hid (hx.keep Hal.out)
    have HY1 := Lib.hid (hy.keep Hal.out)
    have HN := Lib.hid (gh_new ks hkl hkx)
    have HRS := Lib.hid (refSum_any ks hkl hkx)
    have Hkl := Lib.hid hkl
    have Hhh := Lib.hid (polB_lt ks)
    obtain ⟨D, hD⟩ : ∃ D, gsumB (polB ks) xs ys = D := ⟨_, rfl⟩
    have HD := Lib.hid hD
    have HDl := Lib.hid (show D.length = 16 by rw [← hD, gsumB, bytB_len])
    clear hx hy hkl hkx h0 hD
    go_enter Try.func5, Try.ntmps5
    go_upto_region 3 with fail
    generalize w.alloc (.cells (ks.map vb).toArray 22) = w1 at *
    obtain ⟨B0, hB0⟩ : ∃ B0, B0 = w.heap.size := ⟨_, rfl⟩
    rw [← hB0] at HK1
    rw [← hB0]
    clear hB0
    go_wp2_with fail
    refine (lent_any a la ca xs w1 HX1.out (by omega)).mono ?_
    rintro e w2 ⟨rfl, hL1, hb1⟩
    have HL1 := Lib.hid hL1
    have HX2 := Lib.hid (HX1.out.keep hb1)
    have HY2 := Lib.hid (HY1.out.keep hb1)
    have HK2 := Lib.hid (Blk.below HK1.out hb1 (Blk.lt HK1.out))
    have Hn2 := Lib.hid (nu_trans Hal.out hb1)
    clear hL1 hb1 HX1 HY1 HK1 Hal
    generalize w1.heap.size = g1 at *
    go_wp2_with fail
    refine (lent_any b lb cb ys w2 HY2.out (by omega)).mono ?_
    rintro e w3 ⟨rfl, hL2, hb2⟩
    have HL2 := Lib.hid hL2
    have HL1 := Lib.hid (Blk.below HL1.out hb2 (Blk.lt HL1.out))
    have HX3 := Lib.hid (HX2.out.keep hb2)
    have HY3 := Lib.hid (HY2.out.keep hb2)
    have HK3 := Lib.hid (Blk.below HK2.out hb2 (Blk.lt HK2.out))
    have Hn3 := Lib.hid (nu_trans Hn2.out hb2)
    have HNw := Lib.hid (HN.out w3)
    clear hL2 hb2 HX2 HY2 HK2 Hn2
    generalize w2.heap.size = g2 at *
    go_wp2_with (refine wpList_run _ rfl (exec_load_mid (P := Try.prog) (w := w3) 22 (.tmp 3) B0 0 (ks.map vb) (.array 16 5) rfl rfl (range_mid HK3.out (l := []) (r := []) (by simp) rfl) (by kernel_rfl) rfl (by rw [List.length_map, Hkl.out]; kernel_rfl)) ?_)
    refine HNw.out.mono ?_
    rintro e w4 ⟨g, rfl, _, hKA, hb⟩
    have HKA := Lib.hid hKA
    have HL1 := Lib.hid (Blk.below HL1.out hb (Blk.lt HL1.out))
    have HL2 := Lib.hid (Blk.below HL2.out hb (Blk.lt HL2.out))
    have HX4 := Lib.hid (HX3.out.keep hb)
    have HY4 := Lib.hid (HY3.out.keep hb)
    have HK4 := Lib.hid (Blk.below HK3.out hb (Blk.lt HK3.out))
    have Hn4 := Lib.hid (nu_trans Hn3.out hb)
    have HR4 := Lib.hid (HRS.out a b la ca lb cb xs ys w4 HX4.out HY4.out hla hlb)
    rw [HD.out] at HR4
    clear hKA hb HX3 HY3 HK3 Hn3 HNw HN HRS
    go_wp2_with (refine wpList_run _ rfl (exec_load_mid (P := Try.prog) (w := w4) 22 (.tmp 3) B0 0 (ks.map vb) (.array 16 5) rfl rfl (range_mid HK4.out (l := []) (r := []) (by simp) rfl) (by kernel_rfl) rfl (by rw [List.length_map, Hkl.out]; kernel_rfl)) ?_)
    refine HR4.out.mono ?_
    rintro e w4b ⟨rfl, hb⟩
    have hfill := nu_fill (a := w4b) (D.map vb) (g := w4b.heap.size) (Nat.le_refl _) 0 _ (nu_alloc (nu_refl w4b) (.cells z16l.toArray 22))
    have HBm := Lib.hid (Blk.made w4b 22 z16l.toArray)
    have HFl := Lib.hid (Blk.fill HBm.out (D.map vb) (by rw [List.length_map, HDl.out]; rfl))
    have hb5 := nu_trans hb hfill
    have HS5 := Lib.hid (show SumsAt w g (polB ks) g1 g2 xs ys a b la ca lb cb w4b.heap.size D _ from
      ⟨Blk.below HKA.out hb5 (Blk.lt HKA.out), Blk.below HL1.out hb5 (Blk.lt HL1.out), Blk.below HL2.out hb5 (Blk.lt HL2.out), lent_bytes (Blk.below HL1.out hb5 (Blk.lt HL1.out)) Hxl.out Hxx.out, lent_bytes (Blk.below HL2.out hb5 (Blk.lt HL2.out)) Hyl.out Hyx.out, HX4.out.keep hb5, HY4.out.keep hb5, HFl.out, nu_trans Hn4.out hb5⟩)
    clear hb hfill hb5 HKA HL1 HL2 HX4 HY4 HK4 Hn4 HR4 HFl
    go_upto_region 6 with (refine wpList_store_blk rfl 22 (.tmp 10) (.tmp 29) rfl w4b.heap.size (D.map vb) rfl rfl 22 z16l.toArray HBm.out (by rw [List.length_map, HDl.out]; rfl) (by rw [List.length_map, HDl.out]; kernel_rfl) (vb_one D) ?_)
    clear HBm
    generalize (w4b.alloc (.cells z16l.toArray 22)).setCells w4b.heap.size 0 (D.map vb) = w5 at *
    generalize w4b.heap.size = P at *
    refine wp_region_held_drew (S := fun W => SumsAt w g (polB ks) g1 g2 xs ys a b la ca lb cb P D W) (by kernel_rfl) (HS5.out.below (nu_drew (nu_refl _))) (fun hHeld => ?_)
    dsimp only [Array.replicate, List.replicate, List.size_toArray, List.length_cons, List.length_nil, Nat.reduceAdd] at hHeld ⊢
    have HS6 := Lib.hid hHeld
    clear HS5
    generalize w5.drew = w6 at *
    refine take_l (i := 0) (v := ?_) rfl (by kernel_rfl) (by kernel_rfl) (by kernel_rfl) (fun _ _ _ h => h) (Or.inl ⟨by rfl, ?_⟩) (by assumption) ?_
    case refine_2 => (intro _ _; go_simp; all_goals with_reducible rfl)
    simp only [Act.put, List.setIfInBounds_toArray, List.set_cons_zero, List.set_cons_succ]
    refine take_l (i := 1) (v := ?_) rfl (by kernel_rfl) (by kernel_rfl) (by kernel_rfl) (fun _ _ _ h => h) (Or.inl ⟨by rfl, ?_⟩) (by assumption) ?_
    case refine_2 => (intro _ _; go_simp; all_goals with_reducible rfl)
    simp only [Act.put, List.setIfInBounds_toArray, List.set_cons_zero, List.set_cons_succ]
    refine take_l (i := 2) (v := ?_) rfl (by kernel_rfl) (by kernel_rfl) (by kernel_rfl) (fun _ _ _ h => h) (Or.inl ⟨by rfl, ?_⟩) (by assumption) ?_
    case refine_2 => (intro _ _; go_simp; all_goals with_reducible rfl)
    simp only [Act.put, List.setIfInBounds_toArray, List.set_cons_zero, List.set_cons_succ]
    refine take_l (i := 4) rfl (by kernel_rfl) (by kernel_rfl) (by kernel_rfl) (fun _ _ _ h => h) (Or.inl ⟨by rfl, fun W hS => exec_load_mid (P := Try.prog) (w := W) 22 (.tmp 10) P 0 (D.map vb) (.array 16 5) rfl rfl (range_mid hS.blk (l := []) (r := []) (by simp) rfl) (by kernel_rfl) rfl (by rw [List.length_map, HDl.out]; kernel_rfl)⟩) (by assumption) ?_
    simp only [Act.put, List.setIfInBounds_toArray, List.set_cons_zero, List.set_cons_succ]
    clear hHeld
    refine wpAnyH_ready (rs := [3]) (by kernel_rfl) (by simp) ?_
    refine cons_l rfl (fun K hK => ?_) AllReadyH.nil
    go_simp
    go_at_call 22
    refine (gh_sum_isg HD.out HS6.out.key Hhh.out HS6.out.r1 HS6.out.r2 (by omega) (by omega) ⟨by omega, by unfold maxLen; omega⟩ ⟨by omega, by unfold maxLen; omega⟩).mono ?_
    rintro e w7 ⟨rfl, hb⟩
    have HS7 := Lib.hid (HS6.out.below hb)
    clear hb HS6
    go_wp2_with fail
    refine hK.out _ _ HS7.out (fun hHeld => ?_)
    clear hK K hHeld
    simp only [Act.put, List.setIfInBounds_toArray, List.set_cons_zero, List.set_cons_succ]
    have hHeld := HS7.out
    refine take_l (i := 5) rfl (by kernel_rfl) (by kernel_rfl) (by kernel_rfl) (fun _ _ _ h => h) (Or.inl ⟨by rfl, fun W _ => exec_same_16 D HDl.out (.tmp 33) (.tmp 34) rfl rfl rfl⟩) (by assumption) ?_
    simp only [Act.put, List.setIfInBounds_toArray, List.set_cons_zero, List.set_cons_succ]
    refine take_l (i := 6) (v := ?_) rfl (by kernel_rfl) (by kernel_rfl) (by kernel_rfl) (fun _ _ _ h => h) (Or.inl ⟨by rfl, ?_⟩) (by assumption) ?_
    case refine_2 => (intro _ _; go_simp; all_goals with_reducible rfl)
    simp only [Act.put, List.setIfInBounds_toArray, List.set_cons_zero, List.set_cons_succ]
    refine take_l (i := 7) (v := ?_) rfl (by kernel_rfl) (by kernel_rfl) (by kernel_rfl) (fun _ _ _ h => h) (Or.inl ⟨by rfl, ?_⟩) (by assumption) ?_
    case refine_2 => (intro _ _; go_simp; all_goals with_reducible rfl)
    simp only [Act.put, List.setIfInBounds_toArray, List.set_cons_zero, List.set_cons_succ]
    refine take_l (i := 8) (v := ?_) rfl (by kernel_rfl) (by kernel_rfl) (by kernel_rfl) (fun _ _ _ h => h) (Or.inl ⟨by rfl, ?_⟩) (by assumption) ?_
    case refine_2 => (intro _ _; go_simp; all_goals with_reducible rfl)
    simp only [Act.put, List.setIfInBounds_toArray, List.set_cons_zero, List.set_cons_succ]
    refine take_l (i := 9) (v := ?_) rfl (by kernel_rfl) (by kernel_rfl) (by kernel_rfl) (fun _ _ _ h => h) (Or.inl ⟨by rfl, ?_⟩) (by assumption) ?_
    case refine_2 => (intro _ _; go_simp; all_goals with_reducible rfl)
    simp only [Act.put, List.setIfInBounds_toArray, List.set_cons_zero, List.set_cons_succ]
    refine take_l (i := 11) rfl (by kernel_rfl) (by kernel_rfl) (by kernel_rfl) (fun _ _ _ h => h) (Or.inl ⟨by rfl, fun W hS => exec_load_mid (P := Try.prog) (w := W) 22 (.tmp 10) P 0 (D.map vb) (.array 16 5) rfl rfl (range_mid hS.blk (l := []) (r := []) (by simp) rfl) (by kernel_rfl) rfl (by rw [List.length_map, HDl.out]; kernel_rfl)⟩) (by assumption) ?_
    simp only [Act.put, List.setIfInBounds_toArray, List.set_cons_zero, List.set_cons_succ]
    clear hHeld
    refine wpAnyH_ready (rs := [10]) (by kernel_rfl) (by simp) ?_
    refine cons_l rfl (fun K hK => ?_) AllReadyH.nil
    go_simp
    go_at_call 22
    refine (gh_sum_isg HD.out HS7.out.key Hhh.out HS7.out.r1 HS7.out.r2 (by omega) (by omega) ⟨by omega, by unfold maxLen; omega⟩ ⟨by omega, by unfold maxLen; omega⟩).mono ?_
    rintro e w8 ⟨rfl, hb⟩
    have HS8 := Lib.hid (HS7.out.below hb)
    clear hb HS7
    go_wp2_with fail
    refine hK.out _ _ HS8.out (fun hHeld => ?_)
    clear hK K hHeld
    simp only [Act.put, List.setIfInBounds_toArray, List.set_cons_zero, List.set_cons_succ]
    have hHeld := HS8.out
    refine take_l (i := 12) rfl (by kernel_rfl) (by kernel_rfl) (by kernel_rfl) (fun _ _ _ h => h) (Or.inl ⟨by rfl, fun W _ => exec_same_16 D HDl.out (.tmp 40) (.tmp 41) rfl rfl rfl⟩) (by assumption) ?_
    simp only [Act.put, List.setIfInBounds_toArray, List.set_cons_zero, List.set_cons_succ]
    refine take_l (i := 13) (v := ?_) rfl (by kernel_rfl) (by kernel_rfl) (by kernel_rfl) (fun _ _ _ h => h) (Or.inl ⟨by rfl, ?_⟩) (by assumption) ?_
    case refine_2 => (intro _ _; go_simp; all_goals with_reducible rfl)
    simp only [Act.put, List.setIfInBounds_toArray, List.set_cons_zero, List.set_cons_succ]
    refine take_l (i := 14) (v := ?_) rfl (by kernel_rfl) (by kernel_rfl) (by kernel_rfl) (fun _ _ _ h => h) (Or.inl ⟨by rfl, ?_⟩) (by assumption) ?_
    case refine_2 => (intro _ _; go_simp; all_goals with_reducible rfl)
    simp only [Act.put, List.setIfInBounds_toArray, List.set_cons_zero, List.set_cons_succ]
    refine take_l (i := 15) (v := ?_) rfl (by kernel_rfl) (by kernel_rfl) (by kernel_rfl) (fun _ _ _ h => h) (Or.inl ⟨by rfl, ?_⟩) (by assumption) ?_
    case refine_2 => (intro _ _; go_simp; all_goals with_reducible rfl)
    simp only [Act.put, List.setIfInBounds_toArray, List.set_cons_zero, List.set_cons_succ]
    refine take_l (i := 16) (v := ?_) rfl (by kernel_rfl) (by kernel_rfl) (by kernel_rfl) (fun _ _ _ h => h) (Or.inl ⟨by rfl, ?_⟩) (by assumption) ?_
    case refine_2 => (intro _ _; go_simp; all_goals with_reducible rfl)
    simp only [Act.put, List.setIfInBounds_toArray, List.set_cons_zero, List.set_cons_succ]
    clear hHeld
    refine wpAnyH_ready (rs := [17]) (by kernel_rfl) (by simp) ?_
    refine cons_l rfl (fun K hK => ?_) AllReadyH.nil
    go_simp
    go_at_call 23
    refine (kept_any g1 a la ca xs w8 HS8.out.l1 HS8.out.one.1 (by omega)).mono ?_
    rintro e w9 ⟨rfl, nn, rfl⟩
    have hb := below_drewN (Below.refl w8.heap.size w8) nn
    have HS9 := Lib.hid (HS8.out.below hb)
    clear hb HS8
    generalize w8.drewN nn = w9 at *
    go_wp2_with fail
    refine hK.out _ _ HS9.out (fun hHeld => ?_)
    clear hK K hHeld
    simp only [Act.put, List.setIfInBounds_toArray, List.set_cons_zero, List.set_cons_succ]
    have hHeld := HS9.out
    refine take_l (i := 18) (v := ?_) rfl (by kernel_rfl) (by kernel_rfl) (by kernel_rfl) (fun _ _ _ h => h) (Or.inl ⟨by rfl, ?_⟩) (by assumption) ?_
    case refine_2 => (intro _ _; go_simp; all_goals with_reducible rfl)
    simp only [Act.put, List.setIfInBounds_toArray, List.set_cons_zero, List.set_cons_succ]
    refine take_l (i := 19) (v := ?_) rfl (by kernel_rfl) (by kernel_rfl) (by kernel_rfl) (fun _ _ _ h => h) (Or.inl ⟨by rfl, ?_⟩) (by assumption) ?_
    case refine_2 => (intro _ _; go_simp; all_goals with_reducible rfl)
    simp only [Act.put, List.setIfInBounds_toArray, List.set_cons_zero, List.set_cons_succ]
    refine take_l (i := 20) (v := ?_) rfl (by kernel_rfl) (by kernel_rfl) (by kernel_rfl) (fun _ _ _ h => h) (Or.inl ⟨by rfl, ?_⟩) (by assumption) ?_
    case refine_2 => (intro _ _; go_simp; all_goals with_reducible rfl)
    simp only [Act.put, List.setIfInBounds_toArray, List.set_cons_zero, List.set_cons_succ]
    refine take_l (i := 21) (v := ?_) rfl (by kernel_rfl) (by kernel_rfl) (by kernel_rfl) (fun _ _ _ h => h) (Or.inl ⟨by rfl, ?_⟩) (by assumption) ?_
    case refine_2 => (intro _ _; go_simp; all_goals with_reducible rfl)
    simp only [Act.put, List.setIfInBounds_toArray, List.set_cons_zero, List.set_cons_succ]
    clear hHeld
    refine wpAnyH_ready (rs := [22]) (by kernel_rfl) (by simp) ?_
    refine cons_l rfl (fun K hK => ?_) AllReadyH.nil
    go_simp
    go_at_call 23
    refine (kept_any g2 b lb cb ys w9 HS9.out.l2 HS9.out.two.1 (by omega)).mono ?_
    rintro e w10 ⟨rfl, nn, rfl⟩
    have hb := below_drewN (Below.refl w9.heap.size w9) nn
    have HS10 := Lib.hid (HS9.out.below hb)
    clear hb HS9
    generalize w9.drewN nn = w10 at *
    go_wp2_with fail
    refine hK.out _ _ HS10.out (fun hHeld => ?_)
    clear hK K hHeld
    simp only [Act.put, List.setIfInBounds_toArray, List.set_cons_zero, List.set_cons_succ]
    have hHeld := HS10.out
    refine take_l (i := 23) (v := ?_) rfl (by kernel_rfl) (by kernel_rfl) (by kernel_rfl) (fun _ _ _ h => h) (Or.inl ⟨by rfl, ?_⟩) (by assumption) ?_
    case refine_2 => (intro _ _; go_simp; all_goals with_reducible rfl)
    simp only [Act.put, List.setIfInBounds_toArray, List.set_cons_zero, List.set_cons_succ]
    refine take_l (i := 24) (v := ?_) rfl (by kernel_rfl) (by kernel_rfl) (by kernel_rfl) (fun _ _ _ h => h) (Or.inl ⟨by rfl, ?_⟩) (by assumption) ?_
    case refine_2 => (intro _ _; go_simp; all_goals with_reducible rfl)
    simp only [Act.put, List.setIfInBounds_toArray, List.set_cons_zero, List.set_cons_succ]
    clear hHeld
    refine wpAnyH_ready (rs := [25]) (by kernel_rfl) (by simp) ?_
    refine cons_l rfl (fun K hK => ?_) AllReadyH.nil
    go_simp
    go_at_call 17
    refine (awake7 w10).mono ?_
    rintro e w11 ⟨rfl, hb⟩
    have HS11 := Lib.hid (HS10.out.below hb)
    clear hb HS10
    go_wp2_with fail
    refine hK.out _ _ HS11.out (fun hHeld => ?_)
    clear hK K hHeld
    simp only [Act.put, List.setIfInBounds_toArray, List.set_cons_zero, List.set_cons_succ]
    have hHeld := HS11.out
    refine take_l (i := 26) (v := ?_) rfl (by kernel_rfl) (by kernel_rfl) (by kernel_rfl) (fun _ _ _ h => h) (Or.inl ⟨by rfl, ?_⟩) (by assumption) ?_
    case refine_2 => (intro _ _; go_simp; all_goals with_reducible rfl)
    simp only [Act.put, List.setIfInBounds_toArray, List.set_cons_zero, List.set_cons_succ]
    refine take_l (i := 27) (v := ?_) rfl (by kernel_rfl) (by kernel_rfl) (by kernel_rfl) (fun _ _ _ h => h) (Or.inl ⟨by rfl, ?_⟩) (by assumption) ?_
    case refine_2 => (intro _ _; go_simp; all_goals with_reducible rfl)
    simp only [Act.put, List.setIfInBounds_toArray, List.set_cons_zero, List.set_cons_succ]
    refine wpAnyH_done (by kernel_rfl) ?_ _
    go_wp2_with fail
    go_ret
    exact ⟨rfl, HS11.out.nu⟩
end Go.Proofs.Ytnojbjconiddoaa
