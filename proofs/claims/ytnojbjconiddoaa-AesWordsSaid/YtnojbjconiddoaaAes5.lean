/-
  The walk of aes' unmixed.
-/
import Derived.Test.YtnojbjconiddoaaAp3
import Derived.Deep.LoopGhost
namespace Go.Proofs.Ytnojbjconiddoaa
open Go.ChangeShapes Go.WideShapes Go.ChangeAt Go.RowKit Fld Aes
set_option linter.unusedSimpArgs false

abbrev by4 : List Nat := [14, 11, 13, 9]
theorem by4_lt : ∀ x ∈ by4, x < 256 := by decide
set_option maxRecDepth 100000 in
set_option maxHeartbeats 4000000 in
theorem unmixed_any {w : World} (b : List Nat) (hb : St16 b) :
    Calls Try.prog 58 #[.agg (b.map vb).toArray] w fun e w' => e = .returned (.agg ((mix 14 11 13 9 b).map vb).toArray) ∧ Below w.heap.size w w' := by
  have Hb := Lib.hid hb
  have Hbl := Lib.hid (show (b.map vb).toArray.size = 16 by rw [List.size_toArray, List.length_map, hb.1])
  have hal := nu_alloc (nu_alloc (nu_alloc (nu_refl w) (.cells (b.map vb).toArray 22)) (.cells (z16n.map vb).toArray 22)) (.cells (z16n.map vb).toArray 22)
  have HB := Lib.hid (((Blk.made w 22 (b.map vb).toArray).alloc (.cells (z16n.map vb).toArray 22)).alloc (.cells (z16n.map vb).toArray 22))
  have HZ := Lib.hid ((Blk.made1 w (.cells (b.map vb).toArray 22) 22 (z16n.map vb).toArray).alloc (.cells (z16n.map vb).toArray 22))
  have HT := Lib.hid (Blk.made2 w (.cells (b.map vb).toArray 22) (.cells (z16n.map vb).toArray 22) 22 (z16n.map vb).toArray)
  clear hb
  go_enter Try.func58, Try.ntmps58
  go_upto_region 2 with fail
  change Code.wp _ _ _ _ (((w.alloc (.cells (b.map vb).toArray 22)).alloc (.cells (z16n.map vb).toArray 22)).alloc (.cells (z16n.map vb).toArray 22))
  generalize ((w.alloc (.cells (b.map vb).toArray 22)).alloc (.cells (z16n.map vb).toArray 22)).alloc (.cells (z16n.map vb).toArray 22) = w1 at *
  obtain ⟨B, hB⟩ : ∃ B, B = w.heap.size := ⟨_, rfl⟩
  obtain ⟨Z, hZ⟩ : ∃ Z, Z = w.heap.size + 1 := ⟨_, rfl⟩
  obtain ⟨T, hT⟩ : ∃ T, T = w.heap.size + 1 + 1 := ⟨_, rfl⟩
  rw [← hB] at HB
  rw [← hZ] at HZ
  rw [← hT] at HT
  rw [← hT, ← hZ, ← hB]
  have Hap := Lib.hid (show B ≠ T ∧ Z ≠ T ∧ w.heap.size ≤ T ∧ w.heap.size ≤ Z from ⟨by omega, by omega, by omega, by omega⟩)
  clear hZ hT hB
  have hB1 := HB.out.lt
  have hZ1 := HZ.out.lt
  have hT1 := HT.out.lt
  have HYm := Lib.hid (Blk.made w1 51 (z4.map vb).toArray)
  have HY := Lib.hid (Blk.fill HYm.out (by4.map vb) rfl)
  have hf := nu_fill (a := w1) (by4.map vb) (g := w1.heap.size) (Nat.le_refl _) 0 _ (nu_alloc (nu_refl w1) (.cells (z4.map vb).toArray 51))
  go_upto_region 3 with (refine wpList_store_blk rfl 51 (.tmp 4) (.tmp 7) rfl w1.heap.size (by4.map vb) rfl rfl 51 (z4.map vb).toArray HYm.out rfl (by kernel_rfl) (vb_one _) ?_)
  change Code.wp _ _ _ _ ((w1.alloc (.cells (z4.map vb).toArray 51)).setCells w1.heap.size 0 (by4.map vb))
  have HB2 := Lib.hid (Blk.below HB.out hf hB1)
  have HZ2 := Lib.hid (Blk.below HZ.out hf hZ1)
  have HT2 := Lib.hid (Blk.below HT.out hf hT1)
  have hn2 := nu_trans hal hf
  clear HYm hf HB HZ HT hal
  generalize (w1.alloc (.cells (z4.map vb).toArray 51)).setCells w1.heap.size 0 (by4.map vb) = w2 at *
  obtain ⟨Y, hY⟩ : ∃ Y, Y = w1.heap.size := ⟨_, rfl⟩
  rw [← hY] at HY hB1 hZ1 hT1
  rw [← hY]
  have HapY := Lib.hid (show Y ≠ T from by omega)
  clear hY hB1 hZ1 hT1
  obtain ⟨M, hM⟩ : ∃ M, M = mix 14 11 13 9 b := ⟨_, rfl⟩
  have HMl := Lib.hid (show M.length = 16 by rw [hM]; exact (mix_st 14 11 13 9 (by omega) (by omega) (by omega) (by omega) b).1)
  have HMa := Lib.hid (show ∀ i, i < 16 → M[i]? = some (mixP by4 b i 4) from fun i hi => by rw [hM, mixP_four]; exact mix_get 14 11 13 9 b i hi)
  have HMe := Lib.hid hM
  clear hM
  go_wp2_with fail
  go_loopw [8] (fun i wr => ∃ k : Nat, k ≤ 16 ∧ i = .int .i64 k ∧ Blk wr B 22 (b.map vb).toArray ∧ Blk wr Y 51 (by4.map vb).toArray ∧ Blk wr T 22 ((doneF M z16n k).map vb).toArray ∧ Blk wr Z 22 (z16n.map vb).toArray ∧ Below w.heap.size w wr) (fun i _ => 16 - (intOf i).toNat)
  case atStart => exact ⟨0, by omega, rfl, HB2.out, HY.out, HT2.out, HZ2.out, hn2⟩
  case round =>
    clear HB2 HY HT2 HZ2 hn2
    obtain ⟨i, hi16, rfl, hB, hY, hT, hZ, hn⟩ := hrel
    have HB := Lib.hid hB
    have HY := Lib.hid hY
    have HT := Lib.hid hT
    have HZ := Lib.hid hZ
    clear hB hY hT hZ
    by_cases hilt : i < 16
    · have hii : (i : Int) < 16 := by omega
      have hold : (doneF M z16n i)[i]? = some 0 := by
        rw [doneF_old _ _ 16 i i HMl.out (Nat.le_refl _) hi16]
        exact z16_at i hilt
      have h0 : (doneF M z16n i) = (doneF M z16n i).set i (mixP by4 b i 0) := by
        apply List.ext_getElem?
        intro j
        rw [List.getElem?_set]
        by_cases e : i = j
        · subst e
          rw [if_pos rfl, if_pos (by rw [doneF_len M z16n 16 i HMl.out rfl hi16]; exact hilt), hold]; rfl
        · rw [if_neg e]
      have hT := HT.out
      rw [h0] at hT
      have HT1 := Lib.hid hT
      clear hT HT hold h0
      obtain ⟨wo, rfl⟩ : ∃ q : World, q = wr := ⟨_, rfl⟩
      go_wp2_with fail
      go_loopw [11] (fun q wr => ∃ k : Nat, k ≤ 4 ∧ q = .int .i64 k ∧ Blk wr B 22 (b.map vb).toArray ∧ Blk wr Y 51 (by4.map vb).toArray ∧ Blk wr T 22 (((doneF M z16n i).set i (mixP by4 b i k)).map vb).toArray ∧ Blk wr Z 22 (z16n.map vb).toArray ∧ Below w.heap.size w wr) (fun q _ => 4 - (intOf q).toNat)
      case atStart => exact ⟨0, by omega, rfl, HB.out, HY.out, HT1.out, HZ.out, hn⟩
      case round =>
        clear HB HY HT1 HZ hn
        obtain ⟨q, hq4, rfl, hB, hY, hT, hZ, hn⟩ := hrel
        have HB := Lib.hid hB
        have HY := Lib.hid hY
        have HT := Lib.hid hT
        have HZ := Lib.hid hZ
        clear hB hY hT hZ
        by_cases hqlt : q < 4
        · have hqi : (q : Int) < 4 := by omega
          obtain ⟨d, hd⟩ : ∃ d, d = i / 4 := ⟨_, rfl⟩
          have ed : (i : Int) / 4 = (d : Int) := by omega
          have etd : Int.tdiv (i : Int) 4 = (d : Int) := by rw [Int.tdiv_eq_ediv_of_nonneg (by omega)]; omega
          have w0 : IntKind.i64.wrap (d : Int) = (d : Int) := by rw [IntKind.wrap_i64]; omega
          obtain ⟨d4, hd4⟩ : ∃ d4, d4 = d * 4 := ⟨_, rfl⟩
          have w1 : IntKind.i64.wrap ((d : Int) * 4) = (d4 : Int) := by rw [IntKind.wrap_i64]; omega
          obtain ⟨j, hj⟩ : ∃ j, j = (i + q) % 4 := ⟨_, rfl⟩
          have hj4 : j < 4 := by omega
          obtain ⟨p, hp⟩ : ∃ p, p = d4 + j := ⟨_, rfl⟩
          have w3 : IntKind.i64.wrap ((d4 : Int) + (j : Int)) = (p : Int) := by rw [IntKind.wrap_i64]; omega
          have hp16 : p < 16 := by omega
          have hpi : (p : Int) < 16 := by omega
          obtain ⟨y, hy⟩ : ∃ y, y = b.getD p 0 := ⟨_, rfl⟩
          have hy8 : y < 256 := by rw [hy]; exact Hb.out.getD p
          have hyj : b[p]? = some y := by rw [hy, List.getD_eq_getElem?_getD, List.getElem?_eq_getElem (by rw [Hb.out.1]; exact hp16)]; rfl
          have cB : wr.cell? ⟨B, p, none⟩ = some (.int .u8 (y : Int)) := HB.out.at p _ (arrg_at vb _ p y hyj)
          obtain ⟨v, hv⟩ : ∃ v, v = mixP by4 b i q := ⟨_, rfl⟩
          have hv8 : v < 256 := by rw [hv]; exact mixP_lt by4 b by4_lt i q
          have hself := doneF_self M z16n 16 i v HMl.out rfl hilt
          rw [← hv] at HT
          have cT : wr.cell? ⟨T, i, none⟩ = some (.int .u8 (v : Int)) := HT.out.at i _ (arrg_at vb _ i v hself)
          have hnext : mixP by4 b i (q + 1) = v ^^^ gm (by4.getD q 0) y := by rw [mixP, ← hv, ← hd, ← hj, ← hd4, ← hp, ← hy]
          obtain ⟨v2, hv2⟩ : ∃ v2, v2 = mixP by4 b i (q + 1) := ⟨_, rfl⟩
          have hG8 : gm (by4.getD q 0) y < 256 := gm_lt _ _ (getD_lt by4_lt q)
          have hxx := u8_xor_nat v (gm (by4.getD q 0) y) hv8 hG8
          rw [← hnext, ← hv2] at hxx
          have h1 := HT.out.drew.put i (vb v2)
          rw [arrg_set, List.set_set, hv2] at h1
          have HT1 := Lib.hid h1
          rw [← hv2] at HT1
          have HB1 := Lib.hid (HB.out.drew.far (p := ⟨T, i, none⟩) Hap.out.1 (vb v2))
          have HY1 := Lib.hid (HY.out.drew.far (p := ⟨T, i, none⟩) HapY.out (vb v2))
          have HZ1 := Lib.hid (HZ.out.drew.far (p := ⟨T, i, none⟩) Hap.out.2.1 (vb v2))
          have hn1 := nu_set hn.drew (p := ⟨T, i, none⟩) Hap.out.2.2.1 (vb v2)
          have cT2 : wr.drew.cell? ⟨T, i, none⟩ = some (.int .u8 (v : Int)) := HT.out.drew.at i _ (arrg_at vb _ i v hself)
          have fT2 := HT.out.drew.free i
          simp only [vb] at HT1 HB1 HY1 HZ1 hn1
          have Hj := Lib.hid (And.intro hj hv2)
          have HD := Lib.hid (And.intro cT2 fT2)
          have HYo := Lib.hid (show ∀ (k x : Nat), by4[k]? = some x → wr.cell? ⟨Y, k, none⟩ = some (.int .u8 (x : Int)) from fun k x hx => HY.out.at k _ (arrg_at vb _ k x hx))
          have HTm := Lib.hid (show ∀ (x : Nat), x < 256 → Calls Try.prog 49 #[.int .u8 (x : Int), .int .u8 (y : Int)] wr.drew fun e w' => e = .returned (.int .u8 ((gm x y : Nat) : Int)) ∧ w' = wr.drew from fun x hx => (times_any x y hx hy8 wr.drew).mono fun _ _ h => ⟨h.1, h.2.symm⟩)
          clear hd hd4 hj hp hy hv hnext hself h1 HT HB HY HZ hn cT2 fT2 hyj hp16 hv2 hG8
          have Hq := Lib.hid (show q = 0 ∨ q = 1 ∨ q = 2 ∨ q = 3 by omega)
          rcases Hq.out with rfl | rfl | rfl | rfl
          · rw [show ((0 : Nat) : Int) = 0 from rfl]
            have ei : (i : Int) % 4 = (j : Int) := by have := Hj.out.1; omega
            have eit : Int.tmod (i : Int) 4 = (j : Int) := by have := Hj.out.1; rw [Int.tmod_eq_emod_of_nonneg (by omega)]; omega
            have wi : IntKind.i64.wrap (i : Int) = (i : Int) := by rw [IntKind.wrap_i64]; omega
            have cY : wr.cell? ⟨Y, 0, none⟩ = some (.int .u8 14) := HYo.out 0 14 rfl
            have hTm := HTm.out 14 (by omega)
            rw [show ((14 : Nat) : Int) = 14 from rfl] at hTm
            change bits .xor .u8 (v : Int) ((gm 14 y : Nat) : Int) = (v2 : Int) at hxx
            generalize gm 14 y = G at *
            have HTq := Lib.hid hTm
            clear HYo HTm hTm
            go_upto_region 9 with fail
            go_still_tail 19, (by kernel_rfl)
            still_call HTq.out
            repeat still_step
            refine wpStill_nil ?_
            change wpList _ _ _ _ _ wr.drew
            clear cT cB cY HTq hxx hqi
            obtain ⟨cT2, fT2⟩ := HD.out
            clear HD
            generalize wr.drew = w6 at *
            go_wp2_with fail
            clear cT2 fT2
            generalize w6.setCell ⟨T, i, none⟩ (.int .u8 (v2 : Int)) = w7 at *
            go_roundw
            case rel =>
              have hT1 := HT1.out
              rw [Hj.out.2] at hT1
              first | exact ⟨1, by omega, by first | rfl | go_num, HB1.out, HY1.out, hT1, HZ1.out, hn1⟩ | ((repeat apply Exists.intro); exact ⟨⟨1, by omega, by first | rfl | go_num, HB1.out, HY1.out, hT1, HZ1.out, hn1⟩, rfl⟩)
            case measure => simp [intOf]
          · rw [show ((1 : Nat) : Int) = 1 from rfl]
            have ei : ((i : Int) + 1) % 4 = (j : Int) := by have := Hj.out.1; omega
            have eit : Int.tmod ((i : Int) + 1) 4 = (j : Int) := by have := Hj.out.1; rw [Int.tmod_eq_emod_of_nonneg (by omega)]; omega
            have wi : IntKind.i64.wrap ((i : Int) + 1) = (i : Int) + 1 := by rw [IntKind.wrap_i64]; omega
            have cY : wr.cell? ⟨Y, 1, none⟩ = some (.int .u8 11) := HYo.out 1 11 rfl
            have hTm := HTm.out 11 (by omega)
            rw [show ((11 : Nat) : Int) = 11 from rfl] at hTm
            change bits .xor .u8 (v : Int) ((gm 11 y : Nat) : Int) = (v2 : Int) at hxx
            generalize gm 11 y = G at *
            have HTq := Lib.hid hTm
            clear HYo HTm hTm
            go_upto_region 9 with fail
            go_still_tail 19, (by kernel_rfl)
            still_call HTq.out
            repeat still_step
            refine wpStill_nil ?_
            change wpList _ _ _ _ _ wr.drew
            clear cT cB cY HTq hxx hqi
            obtain ⟨cT2, fT2⟩ := HD.out
            clear HD
            generalize wr.drew = w6 at *
            go_wp2_with fail
            clear cT2 fT2
            generalize w6.setCell ⟨T, i, none⟩ (.int .u8 (v2 : Int)) = w7 at *
            go_roundw
            case rel =>
              have hT1 := HT1.out
              rw [Hj.out.2] at hT1
              first | exact ⟨2, by omega, by first | rfl | go_num, HB1.out, HY1.out, hT1, HZ1.out, hn1⟩ | ((repeat apply Exists.intro); exact ⟨⟨2, by omega, by first | rfl | go_num, HB1.out, HY1.out, hT1, HZ1.out, hn1⟩, rfl⟩)
            case measure => simp [intOf]
          · rw [show ((2 : Nat) : Int) = 2 from rfl]
            have ei : ((i : Int) + 2) % 4 = (j : Int) := by have := Hj.out.1; omega
            have eit : Int.tmod ((i : Int) + 2) 4 = (j : Int) := by have := Hj.out.1; rw [Int.tmod_eq_emod_of_nonneg (by omega)]; omega
            have wi : IntKind.i64.wrap ((i : Int) + 2) = (i : Int) + 2 := by rw [IntKind.wrap_i64]; omega
            have cY : wr.cell? ⟨Y, 2, none⟩ = some (.int .u8 13) := HYo.out 2 13 rfl
            have hTm := HTm.out 13 (by omega)
            rw [show ((13 : Nat) : Int) = 13 from rfl] at hTm
            change bits .xor .u8 (v : Int) ((gm 13 y : Nat) : Int) = (v2 : Int) at hxx
            generalize gm 13 y = G at *
            have HTq := Lib.hid hTm
            clear HYo HTm hTm
            go_upto_region 9 with fail
            go_still_tail 19, (by kernel_rfl)
            still_call HTq.out
            repeat still_step
            refine wpStill_nil ?_
            change wpList _ _ _ _ _ wr.drew
            clear cT cB cY HTq hxx hqi
            obtain ⟨cT2, fT2⟩ := HD.out
            clear HD
            generalize wr.drew = w6 at *
            go_wp2_with fail
            clear cT2 fT2
            generalize w6.setCell ⟨T, i, none⟩ (.int .u8 (v2 : Int)) = w7 at *
            go_roundw
            case rel =>
              have hT1 := HT1.out
              rw [Hj.out.2] at hT1
              first | exact ⟨3, by omega, by first | rfl | go_num, HB1.out, HY1.out, hT1, HZ1.out, hn1⟩ | ((repeat apply Exists.intro); exact ⟨⟨3, by omega, by first | rfl | go_num, HB1.out, HY1.out, hT1, HZ1.out, hn1⟩, rfl⟩)
            case measure => simp [intOf]
          · rw [show ((3 : Nat) : Int) = 3 from rfl]
            have ei : ((i : Int) + 3) % 4 = (j : Int) := by have := Hj.out.1; omega
            have eit : Int.tmod ((i : Int) + 3) 4 = (j : Int) := by have := Hj.out.1; rw [Int.tmod_eq_emod_of_nonneg (by omega)]; omega
            have wi : IntKind.i64.wrap ((i : Int) + 3) = (i : Int) + 3 := by rw [IntKind.wrap_i64]; omega
            have cY : wr.cell? ⟨Y, 3, none⟩ = some (.int .u8 9) := HYo.out 3 9 rfl
            have hTm := HTm.out 9 (by omega)
            rw [show ((9 : Nat) : Int) = 9 from rfl] at hTm
            change bits .xor .u8 (v : Int) ((gm 9 y : Nat) : Int) = (v2 : Int) at hxx
            generalize gm 9 y = G at *
            have HTq := Lib.hid hTm
            clear HYo HTm hTm
            go_upto_region 9 with fail
            go_still_tail 19, (by kernel_rfl)
            still_call HTq.out
            repeat still_step
            refine wpStill_nil ?_
            change wpList _ _ _ _ _ wr.drew
            clear cT cB cY HTq hxx hqi
            obtain ⟨cT2, fT2⟩ := HD.out
            clear HD
            generalize wr.drew = w6 at *
            go_wp2_with fail
            clear cT2 fT2
            generalize w6.setCell ⟨T, i, none⟩ (.int .u8 (v2 : Int)) = w7 at *
            go_roundw
            case rel =>
              have hT1 := HT1.out
              rw [Hj.out.2] at hT1
              first | exact ⟨4, by omega, by first | rfl | go_num, HB1.out, HY1.out, hT1, HZ1.out, hn1⟩ | ((repeat apply Exists.intro); exact ⟨⟨4, by omega, by first | rfl | go_num, HB1.out, HY1.out, hT1, HZ1.out, hn1⟩, rfl⟩)
            case measure => simp [intOf]
        · obtain rfl : q = 4 := by omega
          have hT := HT.out
          rw [doneF_set _ _ 16 i _ HMl.out rfl hilt (HMa.out i hilt)] at hT
          have HT2 := Lib.hid hT
          clear hT HT
          go_wp2_with fail
          go_roundw
          case rel => first | exact ⟨i + 1, by omega, by go_num, HB.out, HY.out, HT2.out, HZ.out, hn⟩ | ((repeat apply Exists.intro); exact ⟨⟨i + 1, by omega, by go_num, HB.out, HY.out, HT2.out, HZ.out, hn⟩, rfl⟩)
          case measure => simp [intOf]; omega
    · obtain rfl : i = 16 := by omega
      have hT := HT.out
      rw [doneF_all _ _ 16 HMl.out rfl] at hT
      obtain ⟨D, hD⟩ : ∃ D, D = M.map vb := ⟨_, rfl⟩
      rw [← hD] at hT
      have HT2 := Lib.hid hT
      have HD16 := Lib.hid (show D.length = 16 by rw [hD, List.length_map, HMl.out])
      have HD1 := Lib.hid (show ∀ u ∈ D, u.oneCell' = true by rw [hD]; exact vb_one _)
      have HDe := Lib.hid hD
      have HF := Lib.hid (Blk.fill HZ.out D (by rw [HD16.out]; rfl))
      have Hnf := Lib.hid (nu_fill D (g := Z) Hap.out.2.2.2 0 _ hn)
      clear hT HT hD hn
      go_wp2_with (first | (refine wpList_load_blk rfl 22 (.tmp 3) rfl T rfl 22 D.toArray HT2.out Try.underlying22 (by rw [List.size_toArray, HD16.out]; kernel_rfl) ?_) | (refine wpList_store_blk rfl 22 (.tmp 2) (.tmp 35) rfl Z D rfl rfl 22 (z16n.map vb).toArray HZ.out (by rw [HD16.out]; rfl) (by rw [HD16.out]; kernel_rfl) HD1.out ?_))
      refine bodyPost_ret (results_blk rfl _ Z 22 D.toArray rfl HF.out Try.underlying22 (by rw [List.size_toArray, HD16.out]; kernel_rfl)) rfl ⟨by rw [HDe.out, ← HMe.out], Hnf.out⟩
end Go.Proofs.Ytnojbjconiddoaa
