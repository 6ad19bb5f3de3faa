/-
  The walk of the document's Decrypt (law06).
-/
import Derived.Test.YtnojbjconiddoaaAesR6
namespace Go.Proofs.Ytnojbjconiddoaa
open Go.ChangeShapes Go.WideShapes Go.ChangeAt Go.RowKit Fld Aes
set_option linter.unusedSimpArgs false

set_option maxRecDepth 100000 in
set_option maxHeartbeats 8000000 in
theorem refDecrypt_any {w : World} {v : Value} {W : List Nat} {R : Nat} (hv : RowsAt w v W) (hK : Keyed W R) (b : List Nat) (hb : St16 b) :
    Calls Try.prog 33 #[.agg (keyL v).toArray, .agg (b.map vb).toArray] w fun e w' => e = .returned (.agg ((dec W R b).map vb).toArray) ∧ Below w.heap.size w w' := by
  have HV := Lib.hid hv
  obtain ⟨m, c, cur, rfl, hm, htk, hlc, hcm⟩ := hv
  unfold maxLen at hcm
  obtain ⟨L, hL⟩ : ∃ L, L = keyL (.slice (some ⟨m, 0, none⟩) W.length c) := ⟨_, rfl⟩
  have HL := Lib.hid hL
  have HLl := Lib.hid (show L.length = 513 by rw [hL]; exact keyL_len _)
  have HL0 := Lib.hid (show L.toArray[0]? = some (.slice (some ⟨m, 0, none⟩) W.length c) by rw [hL]; exact keyL_0 _)
  have HLb := Lib.hid (show ∀ i, i < 256 → L.toArray[257 + i]? = some (vb (bs i)) from fun i hi => by rw [hL]; exact keyL_back _ i hi)
  have Hb := Lib.hid hb
  have HKd := Lib.hid hK
  have HR14 := Lib.hid (show R ≤ 14 ∧ 0 < R from ⟨hK.few, hK.pos⟩)
  obtain ⟨n, hn⟩ : ∃ n, n = W.length := ⟨_, rfl⟩
  have hnR : n = 4 * (R + 1) := by rw [hn]; exact hK.len
  have Hn := Lib.hid hn
  have HnR := Lib.hid hnR
  rw [← hL]
  rw [← hn] at hlc HL0
  have hal := nu_alloc (nu_alloc (nu_alloc (nu_refl w) (.cells L.toArray 44)) (.cells (b.map vb).toArray 22)) (.cells (z16n.map vb).toArray 22)
  have HK := Lib.hid (((Blk.made w 44 L.toArray).alloc (.cells (b.map vb).toArray 22)).alloc (.cells (z16n.map vb).toArray 22))
  have HB := Lib.hid ((Blk.made1 w (.cells L.toArray 44) 22 (b.map vb).toArray).alloc (.cells (z16n.map vb).toArray 22))
  have HZ := Lib.hid (Blk.made2 w (.cells L.toArray 44) (.cells (b.map vb).toArray 22) 22 (z16n.map vb).toArray)
  clear hm htk hb hn hL hK
  go_enter Try.func33, Try.ntmps33
  go_upto_region 1 with fail
  change Code.wp _ _ _ _ (((w.alloc (.cells L.toArray 44)).alloc (.cells (b.map vb).toArray 22)).alloc (.cells (z16n.map vb).toArray 22))
  have Hal := Lib.hid hal
  clear hal
  generalize ((w.alloc (.cells L.toArray 44)).alloc (.cells (b.map vb).toArray 22)).alloc (.cells (z16n.map vb).toArray 22) = w1 at *
  obtain ⟨Z, hZ⟩ : ∃ Z, Z = w.heap.size + 1 + 1 := ⟨_, rfl⟩
  obtain ⟨B, hB⟩ : ∃ B, B = w.heap.size + 1 := ⟨_, rfl⟩
  obtain ⟨K, hK⟩ : ∃ K, K = w.heap.size := ⟨_, rfl⟩
  rw [← hZ] at HZ
  rw [← hB] at HB
  rw [← hK] at HK
  rw [← hZ, ← hB, ← hK]
  have Hap := Lib.hid (show K ≠ B ∧ Z ≠ B ∧ w.heap.size ≤ B ∧ w.heap.size ≤ Z from ⟨by omega, by omega, by omega, by omega⟩)
  clear hZ hB hK
  obtain ⟨R1, hR1⟩ : ∃ R1, R1 = R + 1 := ⟨_, rfl⟩
  have etq : Int.tdiv (n : Int) 4 = (R1 : Int) := by rw [Int.tdiv_eq_ediv_of_nonneg (by omega)]; omega
  have ekq : (n : Int) / 4 = (R1 : Int) := by omega
  have wq : IntKind.i64.wrap (R1 : Int) = (R1 : Int) := by rw [IntKind.wrap_i64]; have := HR14.out; omega
  have wq1 : IntKind.i64.wrap ((R1 : Int) - 1) = (R : Int) := by rw [IntKind.wrap_i64]; have := HR14.out; omega
  have wq2 : (R1 : Int) - 1 = (R : Int) := by omega
  have cK : w1.cell? ⟨K, 0, none⟩ = some (.slice (some ⟨m, 0, none⟩) n c) := HK.out.at 0 _ HL0.out
  clear hR1 hnR
  go_upto_region 2 with fail
  clear etq ekq wq wq1 wq2 cK
  have Hnw := Lib.hid Hal.out.size
  go_wp2_with fail
  go_loopw [6] (fun i wr => ∃ k : Nat, k ≤ R ∧ i = .int .i64 ((R - k : Nat) : Int) ∧ Blk wr K 44 L.toArray ∧ Blk wr B 22 ((decF W R k b).map vb).toArray ∧ Blk wr Z 22 (z16n.map vb).toArray ∧ Below w.heap.size w wr) (fun i _ => (intOf i).toNat)
  case atStart => exact ⟨0, by omega, rfl, HK.out, HB.out, HZ.out, Hal.out⟩
  case round =>
    clear HK HB HZ Hal
    obtain ⟨k, hkR, rfl, hK, hB, hZ, hn⟩ := hrel
    obtain ⟨st, hst⟩ : ∃ st, st = decF W R k b := ⟨_, rfl⟩
    have Hst16 := Lib.hid (show St16 st by rw [hst]; exact decF_st Hb.out W R k)
    rw [← hst] at hB
    have Hst := Lib.hid hst
    have HK := Lib.hid hK
    have HB := Lib.hid hB
    have HZ := Lib.hid hZ
    clear hK hB hZ hst
    obtain ⟨rd, hrd⟩ : ∃ rd, rd = R - k := ⟨_, rfl⟩
    rw [← hrd]
    obtain ⟨D, hD⟩ : ∃ D, D = addK W rd st := ⟨_, rfl⟩
    have HD16 := Lib.hid (show St16 D by rw [hD]; exact addK_st Hst16.out W rd)
    have HA := Lib.hid (refAdd_is (HV.out.below hn) HL.out rd (by have := HnR.out; have := Hn.out; omega) (by have := HR14.out; omega) Hst16.out hD.symm)
    have HDe := Lib.hid hD
    clear hD
    by_cases hk : k < R
    · have hri : (1 : Int) ≤ (rd : Int) := by omega
      have Hrd := Lib.hid (show rd + k = R by omega)
      obtain ⟨wo, rfl⟩ : ∃ q : World, q = wr := ⟨_, rfl⟩
      clear hrd
      go_wp2_with (first | (refine wpList_run _ (by rfl) (eKey_load HK.out HLl.out (.tmp 2) rfl rfl) ?_) | (refine wpList_run _ (by rfl) (e16_load HB.out Hst16.out.1 (.tmp 3) rfl rfl) ?_))
      refine HA.out.mono ?_
      rintro e w5 ⟨rfl, hb5⟩
      have HB5 := Lib.hid (HB.out.below hb5 HB.out.lt)
      have HF5 := Lib.hid (Blk.fill HB5.out (D.map vb) (by rw [List.length_map, HD16.out.1, List.size_toArray, List.length_map, Hst16.out.1]))
      have HK5 := Lib.hid ((HK.out.below hb5 HK.out.lt).farCells (D.map vb) Hap.out.1 0)
      have HZ5 := Lib.hid ((HZ.out.below hb5 HZ.out.lt).farCells (D.map vb) Hap.out.2.1 0)
      have Hn5 := Lib.hid (nu_fill (D.map vb) (g := B) Hap.out.2.2.1 0 _ (nu_trans hn hb5))
      clear hb5 HK HB HZ hn HA
      go_upto_if 26 with (refine wpList_store_blk rfl 22 (.tmp 3) (.tmp 23) rfl B (D.map vb) rfl rfl 22 (st.map vb).toArray HB5.out (by rw [List.length_map, HD16.out.1, List.size_toArray, List.length_map, Hst16.out.1]) (by rw [List.length_map, HD16.out.1]; kernel_rfl) (vb_one _) ?_)
      change Code.wp _ _ _ _ (w5.setCells B 0 (D.map vb))
      clear HB5
      generalize w5.setCells B 0 (D.map vb) = w6 at *
      obtain ⟨g, hg⟩ : ∃ g, g = if k = 0 then D else mix 14 11 13 9 D := ⟨_, rfl⟩
      have Hg16 := Lib.hid (show St16 g by
        rw [hg]
        split
        · exact HD16.out
        · exact mix_st 14 11 13 9 (by omega) (by omega) (by omega) (by omega) D)
      have Hge := Lib.hid (show decF W R (k + 1) b = unsub g by
        rw [decF_succ, hg, HDe.out, Hst.out]
        by_cases hk0 : k = 0
        · subst hk0
          rw [if_pos rfl, if_pos rfl, show rd = R from by have := Hrd.out; omega]; rfl
        · rw [if_neg hk0, if_neg hk0, show R - k = rd from by have := Hrd.out; omega])
      go_cut [6] (fun s6 wx => s6 = .int .i64 (rd : Int) ∧ Blk wx K 44 L.toArray ∧ Blk wx B 22 (g.map vb).toArray ∧ Blk wx Z 22 (z16n.map vb).toArray ∧ Below w.heap.size w wx)
      case first =>
        by_cases hk0 : k = 0
        · have hli : ¬ (rd : Int) < (R : Int) := by have := Hrd.out; omega
          rw [if_pos hk0] at hg
          go_wp2_with fail
          go_meet
          exact ⟨rfl, HK5.out, by rw [hg]; exact HF5.out, HZ5.out, Hn5.out⟩
        · have hli : (rd : Int) < (R : Int) := by have := Hrd.out; omega
          rw [if_neg hk0] at hg
          have HM := Lib.hid (show Calls Try.prog 56 #[.agg (D.map vb).toArray, .agg #[.int .u8 14, .int .u8 11, .int .u8 13, .int .u8 9]] w6 fun e w' => e = .returned (.agg (g.map vb).toArray) ∧ Below w6.heap.size w6 w' from by
            rw [hg]
            exact refMixed_any (w := w6) 14 11 13 9 (by omega) (by omega) (by omega) (by omega) D HD16.out)
          clear hg
          go_wp2_with (refine wpList_run _ (by rfl) (e16_load HF5.out HD16.out.1 (.tmp 3) rfl rfl) ?_)
          refine HM.out.mono ?_
          rintro e w7 ⟨rfl, hb7⟩
          have HB7 := Lib.hid (HF5.out.below hb7 HF5.out.lt)
          have HF7 := Lib.hid (Blk.fill HB7.out (g.map vb) (by rw [List.length_map, Hg16.out.1, List.size_toArray, List.length_map, HD16.out.1]))
          have HK7 := Lib.hid ((HK5.out.below hb7 HK5.out.lt).farCells (g.map vb) Hap.out.1 0)
          have HZ7 := Lib.hid ((HZ5.out.below hb7 HZ5.out.lt).farCells (g.map vb) Hap.out.2.1 0)
          have Hn7 := Lib.hid (nu_fill (g.map vb) (g := B) Hap.out.2.2.1 0 _ (nu_trans Hn5.out hb7))
          clear hb7 HK5 HF5 HZ5 Hn5
          go_wp2_with (refine wpList_store_blk rfl 22 (.tmp 3) (.tmp 29) rfl B (g.map vb) rfl rfl 22 (D.map vb).toArray HB7.out (by rw [List.length_map, Hg16.out.1, List.size_toArray, List.length_map, HD16.out.1]) (by rw [List.length_map, Hg16.out.1]; kernel_rfl) (vb_one _) ?_)
          go_meet
          exact ⟨rfl, HK7.out, HF7.out, HZ7.out, Hn7.out⟩
      case rest =>
        obtain ⟨rfl, hK, hB, hZ, hn⟩ := hcut
        clear hg HK5 HF5 HZ5 Hn5
        have HK := Lib.hid hK
        have HB := Lib.hid hB
        have HZ := Lib.hid hZ
        clear hK hB hZ
        have HTm := Lib.hid (Blk.made wc 22 (z16n.map vb).toArray)
        have hal := nu_alloc (nu_refl wc) (.cells (z16n.map vb).toArray 22)
        have HK1 := Lib.hid (HK.out.below hal HK.out.lt)
        have HB1 := Lib.hid (HB.out.below hal HB.out.lt)
        have HZ1 := Lib.hid (HZ.out.below hal HZ.out.lt)
        have hn1 := nu_trans hn hal
        have HapT := Lib.hid (show K ≠ wc.heap.size ∧ B ≠ wc.heap.size ∧ Z ≠ wc.heap.size ∧ w.heap.size ≤ wc.heap.size from ⟨Nat.ne_of_lt HK.out.lt, Nat.ne_of_lt HB.out.lt, Nat.ne_of_lt HZ.out.lt, hn.size⟩)
        clear hal HK HB HZ hn
        go_upto_region 9 with fail
        change Code.wp _ _ _ _ (wc.alloc (.cells (z16n.map vb).toArray 22))
        generalize wc.alloc (.cells (z16n.map vb).toArray 22) = w8 at *
        obtain ⟨T, hT⟩ : ∃ T, T = wc.heap.size := ⟨_, rfl⟩
        rw [← hT] at HTm HapT
        rw [← hT]
        clear hT
        go_wp2_with fail
        go_loopw [8] (fun i wr => ∃ k : Nat, k ≤ 4 ∧ i = .int .i64 k ∧ Blk wr K 44 L.toArray ∧ Blk wr B 22 (g.map vb).toArray ∧ Blk wr Z 22 (z16n.map vb).toArray ∧ Blk wr T 22 ((unsubF g (4 * k)).map vb).toArray ∧ Below w.heap.size w wr) (fun i _ => 4 - (intOf i).toNat)
        case atStart => exact ⟨0, by omega, rfl, HK1.out, HB1.out, HZ1.out, HTm.out, hn1⟩
        case round =>
          clear HK1 HB1 HZ1 HTm hn1
          obtain ⟨c, hc4, rfl, hK, hB, hZ, hT, hn⟩ := hrel
          by_cases hclt : c < 4
          · have hci : (c : Int) < 4 := by omega
            obtain ⟨wo, rfl⟩ : ∃ q : World, q = wr := ⟨_, rfl⟩
            go_wp2_with fail
            go_loopw [9] (fun i wr => ∃ k : Nat, k ≤ 4 ∧ i = .int .i64 k ∧ Blk wr K 44 L.toArray ∧ Blk wr B 22 (g.map vb).toArray ∧ Blk wr Z 22 (z16n.map vb).toArray ∧ Blk wr T 22 ((unsubF g (4 * c + k)).map vb).toArray ∧ Below w.heap.size w wr) (fun i _ => 4 - (intOf i).toNat)
            case atStart => exact ⟨0, by omega, rfl, hK, hB, hZ, hT, hn⟩
            case round =>
              clear hK hB hZ hT hn
              obtain ⟨r, hr4, rfl, hK, hB, hZ, hT, hn⟩ := hrel
              have HK := Lib.hid hK
              have HB := Lib.hid hB
              have HZ := Lib.hid hZ
              by_cases hrlt : r < 4
              · have hri4 : (r : Int) < 4 := by omega
                obtain ⟨i, hi⟩ : ∃ i, i = 4 * c + r := ⟨_, rfl⟩
                rw [← hi] at hT
                have HT := Lib.hid hT
                clear hK hB hZ hT
                have hilt : i < 16 := by omega
                obtain ⟨c4, hc⟩ : ∃ c4, c4 = 4 * c := ⟨_, rfl⟩
                have wc' : IntKind.i64.wrap (4 * (c : Int)) = (c4 : Int) := by rw [IntKind.wrap_i64]; omega
                have wi : IntKind.i64.wrap ((c4 : Int) + (r : Int)) = (i : Int) := by rw [IntKind.wrap_i64]; omega
                have hii : (i : Int) < 16 := by omega
                obtain ⟨cr, hcr⟩ : ∃ cr, cr = c + r := ⟨_, rfl⟩
                have wcr : IntKind.i64.wrap ((c : Int) + (r : Int)) = (cr : Int) := by rw [IntKind.wrap_i64]; omega
                obtain ⟨q, hq⟩ : ∃ q, q = cr % 4 := ⟨_, rfl⟩
                have eq4 : (cr : Int) % 4 = (q : Int) := by omega
                have eqt : Int.tmod (cr : Int) 4 = (q : Int) := by rw [Int.tmod_eq_emod_of_nonneg (by omega)]; omega
                have wq : IntKind.i64.wrap (q : Int) = (q : Int) := by rw [IntKind.wrap_i64]; omega
                obtain ⟨q4, hq4⟩ : ∃ q4, q4 = 4 * q := ⟨_, rfl⟩
                have wq4 : IntKind.i64.wrap (4 * (q : Int)) = (q4 : Int) := by rw [IntKind.wrap_i64]; omega
                obtain ⟨p, hp⟩ : ∃ p, p = q4 + r := ⟨_, rfl⟩
                have wp : IntKind.i64.wrap ((q4 : Int) + (r : Int)) = (p : Int) := by rw [IntKind.wrap_i64]; omega
                have hpt : p = toPos i := by unfold toPos; omega
                have hpi : (p : Int) < 16 := by omega
                obtain ⟨y, hy⟩ : ∃ y, y = g.getD i 0 := ⟨_, rfl⟩
                have hy8 : y < 256 := by rw [hy]; exact Hg16.out.getD i
                have hyi : (y : Int) < 256 := by omega
                have hyp : g[i]? = some y := by rw [hy, List.getD_eq_getElem?_getD, List.getElem?_eq_getElem (by rw [Hg16.out.1]; exact hilt)]; rfl
                obtain ⟨z, hz⟩ : ∃ z, z = bs y := ⟨_, rfl⟩
                have cB : wr.cell? ⟨B, i, none⟩ = some (.int .u8 (y : Int)) := HB.out.at i _ (arrg_at vb _ i y hyp)
                have cK : wr.cell? ⟨K, 257 + y, none⟩ = some (.int .u8 (z : Int)) := by rw [hz]; exact HK.out.at (257 + y) _ (HLb.out y hy8)
                obtain ⟨v, hv⟩ := unsubF_at g i
                rw [← hpt] at hv
                have cT : wr.cell? ⟨T, p, none⟩ = some (.int .u8 (v : Int)) := HT.out.at p _ (arrg_at vb _ p v hv)
                have fT := HT.out.free p
                have hset := HT.out.put p (vb z)
                rw [arrg_set, show (unsubF g i).set p z = unsubF g (i + 1) by rw [unsubF, ← hpt, ← hy, ← hz], hi] at hset
                have HT1 := Lib.hid (show Blk (wr.setCell ⟨T, p, none⟩ (vb z)) T 22 ((unsubF g (4 * c + (r + 1))).map vb).toArray from hset)
                have HK1 := Lib.hid (HK.out.far (p := ⟨T, p, none⟩) HapT.out.1 (vb z))
                have HB1 := Lib.hid (HB.out.far (p := ⟨T, p, none⟩) HapT.out.2.1 (vb z))
                have HZ1 := Lib.hid (HZ.out.far (p := ⟨T, p, none⟩) HapT.out.2.2.1 (vb z))
                have hn1 := nu_set hn (p := ⟨T, p, none⟩) HapT.out.2.2.2 (vb z)
                simp only [vb] at HT1 HK1 HB1 HZ1 hn1
                clear hi hc hcr hq hq4 hp hpt hy hy8 hyp hz hv hset HK HB HZ HT hn
                go_wp2_with fail
                clear cB cK cT fT wc' wi wcr eq4 eqt wq wq4 wp
                generalize wr.setCell ⟨T, p, none⟩ (.int .u8 (z : Int)) = w7 at *
                go_roundw
                case rel => first | exact ⟨r + 1, by omega, by go_num, HK1.out, HB1.out, HZ1.out, HT1.out, hn1⟩ | ((repeat apply Exists.intro); exact ⟨⟨r + 1, by omega, by go_num, HK1.out, HB1.out, HZ1.out, HT1.out, hn1⟩, rfl⟩)
                case measure => simp [intOf]; omega
              · obtain rfl : r = 4 := by omega
                have HT2 := Lib.hid (show Blk wr T 22 ((unsubF g (4 * (c + 1))).map vb).toArray from hT)
                clear hT hK hB hZ
                go_wp2_with fail
                go_roundw
                case rel => first | exact ⟨c + 1, by omega, by go_num, HK.out, HB.out, HZ.out, HT2.out, hn⟩ | ((repeat apply Exists.intro); exact ⟨⟨c + 1, by omega, by go_num, HK.out, HB.out, HZ.out, HT2.out, hn⟩, rfl⟩)
                case measure => simp [intOf]; omega
          · obtain rfl : c = 4 := by omega
            rw [show 4 * 4 = 16 from rfl, unsubF_all Hg16.out] at hT
            obtain ⟨u, hu⟩ : ∃ u, u = unsub g := ⟨_, rfl⟩
            have Hu16 := Lib.hid (show St16 u by rw [hu]; exact unsub_st g)
            have Hue := Lib.hid (show decF W R (k + 1) b = u by rw [hu, Hge.out])
            rw [← hu] at hT
            have HK := Lib.hid hK
            have HB := Lib.hid hB
            have HZ := Lib.hid hZ
            have HT := Lib.hid hT
            clear hK hB hZ hT hu
            have HF := Lib.hid (Blk.fill HB.out (u.map vb) (by rw [List.length_map, Hu16.out.1, List.size_toArray, List.length_map, Hg16.out.1]))
            have HKf := Lib.hid (HK.out.farCells (u.map vb) Hap.out.1 0)
            have HZf := Lib.hid (HZ.out.farCells (u.map vb) Hap.out.2.1 0)
            have Hnf := Lib.hid (nu_fill (u.map vb) (g := B) Hap.out.2.2.1 0 _ hn)
            obtain ⟨rd2, hrd2⟩ : ∃ x, x = rd - 1 := ⟨_, rfl⟩
            have wrd : IntKind.i64.wrap ((rd : Int) - 1) = (rd2 : Int) := by rw [IntKind.wrap_i64]; have := HR14.out; have := Hrd.out; omega
            have Hwr := Lib.hid (show (rd : Int) - 1 = (rd2 : Int) by omega)
            have Hrd2 := Lib.hid (show rd2 = R - (k + 1) ∧ rd2 < rd by have := Hrd.out; omega)
            have hkr : k + 1 ≤ R := hk
            clear hrd2 hn HK HZ
            obtain ⟨wo, rfl⟩ : ∃ q : World, q = wr := ⟨_, rfl⟩
            go_upto_region 4 with (first | (refine wpList_run _ (by rfl) (e16_load HT.out Hu16.out.1 (.tmp 7) rfl rfl) ?_) | (refine wpList_store_blk rfl 22 (.tmp 3) (.tmp 55) rfl B (u.map vb) rfl rfl 22 (g.map vb).toArray HB.out (by rw [List.length_map, Hu16.out.1, List.size_toArray, List.length_map, Hg16.out.1]) (by rw [List.length_map, Hu16.out.1]; kernel_rfl) (vb_one _) ?_))
            change Code.wp _ _ _ _ (wo.setCells B 0 (u.map vb))
            generalize wo.setCells B 0 (u.map vb) = w9 at *
            go_wp2_with fail
            go_roundw
            case rel =>
              have hF : Blk w9 B 22 ((decF W R (k + 1) b).map vb).toArray := by rw [Hue.out]; exact HF.out
              have hv : Value.int .i64 (rd2 : Int) = .int .i64 ((R - (k + 1) : Nat) : Int) := by rw [Hrd2.out.1]
              have hv2 : Value.int .i64 ((rd : Int) - 1) = .int .i64 ((R - (k + 1) : Nat) : Int) := by rw [Hwr.out]; exact hv
              first | exact ⟨k + 1, hkr, hv, HKf.out, hF, HZf.out, Hnf.out⟩ | exact ⟨k + 1, hkr, hv2, HKf.out, hF, HZf.out, Hnf.out⟩ | ((repeat apply Exists.intro); exact ⟨⟨k + 1, hkr, hv, HKf.out, hF, HZf.out, Hnf.out⟩, rfl⟩)
            case measure =>
              have := Hrd2.out
              simp [intOf]; omega
    · obtain rfl : k = R := by omega
      obtain rfl : rd = 0 := by omega
      have HDd := Lib.hid (show D = dec W k b by rw [HDe.out, Hst.out]; rfl)
      have Hz16n16 := Lib.hid (show St16 z16n from ⟨rfl, by decide⟩)
      obtain ⟨wo, rfl⟩ : ∃ q : World, q = wr := ⟨_, rfl⟩
      clear hrd
      go_wp2_with (first | (refine wpList_run _ (by rfl) (eKey_load HK.out HLl.out (.tmp 2) rfl rfl) ?_) | (refine wpList_run _ (by rfl) (e16_load HB.out Hst16.out.1 (.tmp 3) rfl rfl) ?_))
      refine HA.out.mono ?_
      rintro e w5 ⟨rfl, hb5⟩
      have HZ5 := Lib.hid (HZ.out.below hb5 HZ.out.lt)
      have HF := Lib.hid (Blk.fill HZ5.out (D.map vb) (by rw [List.length_map, HD16.out.1]; rfl))
      have Hnf := Lib.hid (nu_fill (D.map vb) (g := Z) Hap.out.2.2.2 0 _ (nu_trans hn hb5))
      clear hn hb5 HK HB HZ HA
      go_wp2_with (refine wpList_store_blk rfl 22 (.tmp 4) (.tmp 58) rfl Z (D.map vb) rfl rfl 22 (z16n.map vb).toArray HZ5.out (by rw [List.length_map, HD16.out.1, List.size_toArray, List.length_map, Hz16n16.out.1]) (by rw [List.length_map, HD16.out.1]; kernel_rfl) (vb_one _) ?_)
      refine bodyPost_ret (results_blk rfl _ Z 22 (D.map vb).toArray rfl HF.out Try.underlying22 (by rw [List.size_toArray, List.length_map, HD16.out.1]; kernel_rfl)) rfl ⟨by rw [HDd.out], Hnf.out⟩
end Go.Proofs.Ytnojbjconiddoaa
