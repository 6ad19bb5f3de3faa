/-
  The walk of aes' Decrypt.
-/
import Derived.Test.YtnojbjconiddoaaAes5
import Derived.Deep.Cut
import Derived.Deep.CutRange
import Derived.Deep.DeepCutAuto
namespace Go.Proofs.Ytnojbjconiddoaa
open Go.ChangeShapes Go.WideShapes Go.ChangeAt Go.RowKit Fld Aes
set_option linter.unusedSimpArgs false

set_option maxRecDepth 100000 in
set_option maxHeartbeats 8000000 in
theorem decrypt_any {w : World} {C R : Nat} {W : List Nat} (hC : CiphAt w C W R) (hW : Small W) (hR0 : 0 < R) (hR : R ≤ 14) (hWl : W.length = 4 * (R + 1)) (b : List Nat) (hb : St16 b) :
    Calls Try.prog 32 #[.pointer (some ⟨C, 0, none⟩), .agg (b.map vb).toArray] w fun e w' => e = .returned (.agg ((dec W R b).map vb).toArray) ∧ Below w.heap.size w w' := by
  have HCi := Lib.hid hC
  obtain ⟨x, m, c, cur, hc, hm, htk, hbx, hxl, hlc, hcm⟩ := hC
  have HC1 := Lib.hid (Blk.at hc 1 _ rfl)
  have HC2 := Lib.hid (Blk.at hc 2 _ rfl)
  have c1w := HC1.out
  have hCl := hc.lt
  have Hb := Lib.hid hb
  have HW := Lib.hid hW
  have HWl := Lib.hid hWl
  have HBx := Lib.hid (And.intro hbx hxl)
  have hal := nu_alloc (nu_alloc (nu_refl w) (.cells (b.map vb).toArray 22)) (.cells (z16n.map vb).toArray 22)
  have HB := Lib.hid ((Blk.made w 22 (b.map vb).toArray).alloc (.cells (z16n.map vb).toArray 22))
  have HZ := Lib.hid (Blk.made1 w (.cells (b.map vb).toArray 22) 22 (z16n.map vb).toArray)
  clear hc hm htk hb hW hWl hbx hlc hcm c1w
  go_enter Try.func32, Try.ntmps32
  go_upto_region 1 with fail
  change Code.wp _ _ _ _ ((w.alloc (.cells (b.map vb).toArray 22)).alloc (.cells (z16n.map vb).toArray 22))
  generalize ((w.alloc (.cells (b.map vb).toArray 22)).alloc (.cells (z16n.map vb).toArray 22)) = w1 at *
  obtain ⟨Z, hZ⟩ : ∃ Z, Z = w.heap.size + 1 := ⟨_, rfl⟩
  obtain ⟨B, hB⟩ : ∃ B, B = w.heap.size := ⟨_, rfl⟩
  rw [← hZ] at HZ
  rw [← hB] at HB
  rw [← hZ, ← hB]
  have Hap := Lib.hid (show B ≠ Z ∧ w.heap.size ≤ Z ∧ w.heap.size ≤ B from ⟨by omega, by omega, by omega⟩)
  clear hZ hB
  have c1w : w1.cell? ⟨C, 1, none⟩ = some (.int .i64 (R : Int)) := (hal.cell (p := ⟨C, 1, none⟩) hCl).trans HC1.out
  go_wp2_with fail
  clear c1w
  go_loopw [5] (fun i wr => ∃ k : Nat, k ≤ R ∧ i = .int .i64 ((R - k : Nat) : Int) ∧ Blk wr B 22 ((decF W R k b).map vb).toArray ∧ Blk wr Z 22 (z16n.map vb).toArray ∧ Below w.heap.size w wr) (fun i _ => (intOf i).toNat)
  case atStart => exact ⟨0, by omega, rfl, HB.out, HZ.out, hal⟩
  case round =>
    clear HB HZ hal
    obtain ⟨k, hk, rfl, hB, hZ, hn⟩ := hrel
    obtain ⟨st, hst⟩ : ∃ st, st = decF W R k b := ⟨_, rfl⟩
    have hst16 : St16 st := by rw [hst]; exact decF_st Hb.out W R k
    rw [← hst] at hB
    obtain ⟨rd, hrd⟩ : ∃ rd, rd = R - k := ⟨_, rfl⟩
    rw [← hrd]
    have HB := Lib.hid hB
    have HZ := Lib.hid hZ
    have Hst := Lib.hid hst
    have Hst16 := Lib.hid hst16
    have hrdR : rd ≤ R := by omega
    have Hrd := Lib.hid (show rd + k = R from by omega)
    have hr0 : (0 : Int) ≤ (rd : Int) := by omega
    have HL := Lib.hid (load_any (HCi.out.below hn) HW.out rd (by have := HWl.out; omega) (by omega) st hst16)
    have Hsl := Lib.hid (show (st.map vb).toArray.size = 16 by rw [List.size_toArray, List.length_map, hst16.1])
    have hB1 := hB.lt
    have hZ1 := hZ.lt
    clear hB hZ hst hst16 hrd
    obtain ⟨wo, rfl⟩ : ∃ q : World, q = wr := ⟨_, rfl⟩
    go_wp2_with (refine wpList_load_blk rfl 22 (.tmp 3) rfl B rfl 22 (st.map vb).toArray HB.out Try.underlying22 (by rw [Hsl.out]; kernel_rfl) ?_)
    refine HL.out.mono ?_
    rintro e w2 ⟨rfl, hb2⟩
    clear hr0
    rw [loadL_eq Hst16.out HW.out rd]
    obtain ⟨a, ha⟩ : ∃ a, a = addK W rd st := ⟨_, rfl⟩
    have Ha16 := Lib.hid (show St16 a by rw [ha]; exact addK_st Hst16.out W rd)
    have HAa := Lib.hid (show ∀ i, i < 16 → a[i]? = some (wb ((cols a).getD (i / 4) 0) (i % 4)) from fun i hi => by rw [ha]; exact addK_get Hst16.out HW.out rd i hi)
    rw [← ha]
    obtain ⟨s, hs⟩ : ∃ s, s = cols a := ⟨_, rfl⟩
    rw [← hs] at HAa
    rw [← hs]
    have Hs4 := Lib.hid (show s.length = 4 by rw [hs]; exact cols_len _)
    have Hsm := Lib.hid (show ∀ j, j < 4 → s.getD j 0 < 4294967296 from fun j hj => by rw [hs, cols_getD a j hj]; exact colOf_lt Ha16.out j)
    have Hae := Lib.hid ha
    have hB2 : B < w2.heap.size := Nat.lt_of_lt_of_le hB1 hb2.size
    have hZ2 : Z < w2.heap.size := Nat.lt_of_lt_of_le hZ1 hb2.size
    have HB2 := Lib.hid (Blk.below HB.out hb2 hB1)
    have HZ2 := Lib.hid (Blk.below HZ.out hb2 hZ1)
    have Hn2 := Lib.hid (nu_trans hn hb2)
    have HSm := Lib.hid (Blk.made w2 86 (z4.map uv).toArray)
    have HS3 := Lib.hid (Blk.fill HSm.out (s.map uv) (by rw [List.length_map, Hs4.out]; rfl))
    have hf := nu_fill (a := w2) (s.map uv) (g := w2.heap.size) (Nat.le_refl _) 0 _ (nu_alloc (nu_refl w2) (.cells (z4.map uv).toArray 86))
    clear hs ha hb2 hn HB HZ HL hB1 hZ1
    go_upto_region 7 with (refine wpList_store_blk rfl 86 (.tmp 6) (.tmp 24) rfl w2.heap.size (s.map uv) rfl rfl 86 (z4.map uv).toArray HSm.out (by rw [List.length_map, Hs4.out]; rfl) (by rw [List.length_map, Hs4.out]; kernel_rfl) (uv_one _) ?_)
    change Code.wp _ _ _ _ ((w2.alloc (.cells (z4.map uv).toArray 86)).setCells w2.heap.size 0 (s.map uv))
    have HB3 := Lib.hid (Blk.below HB2.out hf hB2)
    have HZ3 := Lib.hid (Blk.below HZ2.out hf hZ2)
    have Hn3 := Lib.hid (nu_trans Hn2.out hf)
    have hsw := Hn2.out.size
    clear HSm hf HB2 HZ2 Hn2
    generalize (w2.alloc (.cells (z4.map uv).toArray 86)).setCells w2.heap.size 0 (s.map uv) = w3 at *
    obtain ⟨S, hS⟩ : ∃ S, S = w2.heap.size := ⟨_, rfl⟩
    rw [← hS] at HS3 hB2 hZ2 hsw
    rw [← hS]
    clear hS
    go_wp2_with fail
    go_loopw [25] (fun i wr => ∃ k : Nat, k ≤ 16 ∧ i = .int .i64 k ∧ Blk wr B 22 ((doneF a st k).map vb).toArray ∧ Blk wr S 86 (s.map uv).toArray ∧ Blk wr Z 22 (z16n.map vb).toArray ∧ Below w.heap.size w wr) (fun i _ => 16 - (intOf i).toNat)
    case atStart => exact ⟨0, by omega, rfl, HB3.out, HS3.out, HZ3.out, Hn3.out⟩
    case round =>
      clear HS3 HZ3 HB3 Hn3
      obtain ⟨i, hi16, rfl, hB, hS, hZ, hn⟩ := hrel
      have HB := Lib.hid hB
      have HS := Lib.hid hS
      have HZ := Lib.hid hZ
      clear hB hS hZ
      by_cases hilt : i < 16
      · have hii : (i : Int) < 16 := by omega
        obtain ⟨q, hq⟩ : ∃ q, q = i / 4 := ⟨_, rfl⟩
        obtain ⟨r, hr⟩ : ∃ r, r = i % 4 := ⟨_, rfl⟩
        have ek : (i : Int) / 4 = (q : Int) := by omega
        have em : (i : Int) % 4 = (r : Int) := by omega
        have hq4 : q < 4 := by omega
        have hqi : (q : Int) < 4 := by omega
        obtain ⟨y, hy⟩ : ∃ y, y = s.getD q 0 := ⟨_, rfl⟩
        have hy32 : y < 4294967296 := by rw [hy]; exact Hsm.out q hq4
        have hsq : s[q]? = some y := by rw [hy, List.getD_eq_getElem?_getD, List.getElem?_eq_getElem (by rw [Hs4.out]; exact hq4)]; rfl
        have cS : wr.cell? ⟨S, q, none⟩ = some (.int .u32 (y : Int)) := HS.out.at q _ (arrg_at uv _ q y hsq)
        obtain ⟨v, hv⟩ : ∃ v, v = wb y r := ⟨_, rfl⟩
        have hai := HAa.out i hilt
        rw [← hq, ← hr, ← hy, ← hv] at hai
        obtain ⟨o, ho⟩ : ∃ o, st[i]? = some o := ⟨_, List.getElem?_eq_getElem (by rw [Hst16.out.1]; exact hilt)⟩
        have hold : (doneF a st i)[i]? = some o := by rw [doneF_old _ _ 16 i i Ha16.out.1 (Nat.le_refl _) hi16, ho]
        have cB : wr.cell? ⟨B, i, none⟩ = some (.int .u8 (o : Int)) := HB.out.at i _ (arrg_at vb _ i o hold)
        have fB := HB.out.free i
        have h1 := HB.out.put i (vb v)
        rw [arrg_set, doneF_set _ _ 16 i v Ha16.out.1 Hst16.out.1 hilt hai] at h1
        have HB1 := Lib.hid h1
        have HS1 := Lib.hid (HS.out.far (p := ⟨B, i, none⟩) (Nat.ne_of_gt hB2) (vb v))
        have HZ1 := Lib.hid (HZ.out.far (p := ⟨B, i, none⟩) (Ne.symm Hap.out.1) (vb v))
        have hn1 := nu_set hn (p := ⟨B, i, none⟩) Hap.out.2.2 (vb v)
        simp only [vb] at HB1 HS1 HZ1 hn1
        have Hv := Lib.hid hv
        have Hr := Lib.hid (show r = 0 ∨ r = 1 ∨ r = 2 ∨ r = 3 by omega)
        clear hq hr hy hv hai ho hold h1 HB HS HZ hn hsq
        rcases Hr.out with rfl | rfl | rfl | rfl
        · rw [show ((0 : Nat) : Int) = 0 from rfl] at em
          have ea : (y : Int) / 16777216 = (v : Int) := by have h := Hv.out; simp only [wb] at h; omega
          have ez : IntKind.u8.wrap ((y : Int) / 16777216) = (v : Int) := by have h := Hv.out; simp only [wb] at h; rw [IntKind.wrap_u8]; omega
          go_wp2_with fail
          clear cS cB fB ek em hqi
          try rw [ea]
          clear ea ez
          generalize wr.setCell ⟨B, i, none⟩ (.int .u8 (v : Int)) = w7 at *
          go_roundw
          case rel => first | exact ⟨i + 1, by omega, by go_num, HB1.out, HS1.out, HZ1.out, hn1⟩ | ((repeat apply Exists.intro); exact ⟨⟨i + 1, by omega, by go_num, HB1.out, HS1.out, HZ1.out, hn1⟩, rfl⟩)
          case measure => simp [intOf]; omega
        · rw [show ((1 : Nat) : Int) = 1 from rfl] at em
          have ea : (y : Int) / 65536 % 256 = (v : Int) := by have h := Hv.out; simp only [wb] at h; omega
          have ez : IntKind.u8.wrap ((y : Int) / 65536) = (v : Int) := by have h := Hv.out; simp only [wb] at h; rw [IntKind.wrap_u8]; omega
          go_wp2_with fail
          clear cS cB fB ek em hqi
          try rw [ea]
          clear ea ez
          generalize wr.setCell ⟨B, i, none⟩ (.int .u8 (v : Int)) = w7 at *
          go_roundw
          case rel => first | exact ⟨i + 1, by omega, by go_num, HB1.out, HS1.out, HZ1.out, hn1⟩ | ((repeat apply Exists.intro); exact ⟨⟨i + 1, by omega, by go_num, HB1.out, HS1.out, HZ1.out, hn1⟩, rfl⟩)
          case measure => simp [intOf]; omega
        · rw [show ((2 : Nat) : Int) = 2 from rfl] at em
          have ea : (y : Int) / 256 % 256 = (v : Int) := by have h := Hv.out; simp only [wb] at h; omega
          have ez : IntKind.u8.wrap ((y : Int) / 256) = (v : Int) := by have h := Hv.out; simp only [wb] at h; rw [IntKind.wrap_u8]; omega
          go_wp2_with fail
          clear cS cB fB ek em hqi
          try rw [ea]
          clear ea ez
          generalize wr.setCell ⟨B, i, none⟩ (.int .u8 (v : Int)) = w7 at *
          go_roundw
          case rel => first | exact ⟨i + 1, by omega, by go_num, HB1.out, HS1.out, HZ1.out, hn1⟩ | ((repeat apply Exists.intro); exact ⟨⟨i + 1, by omega, by go_num, HB1.out, HS1.out, HZ1.out, hn1⟩, rfl⟩)
          case measure => simp [intOf]; omega
        · rw [show ((3 : Nat) : Int) = 3 from rfl] at em
          have ea : (y : Int) % 256 = (v : Int) := by have h := Hv.out; simp only [wb] at h; omega
          have ez : IntKind.u8.wrap ((y : Int)) = (v : Int) := by have h := Hv.out; simp only [wb] at h; rw [IntKind.wrap_u8]; omega
          go_wp2_with fail
          clear cS cB fB ek em hqi
          try rw [ea]
          clear ea ez
          generalize wr.setCell ⟨B, i, none⟩ (.int .u8 (v : Int)) = w7 at *
          go_roundw
          case rel => first | exact ⟨i + 1, by omega, by go_num, HB1.out, HS1.out, HZ1.out, hn1⟩ | ((repeat apply Exists.intro); exact ⟨⟨i + 1, by omega, by go_num, HB1.out, HS1.out, HZ1.out, hn1⟩, rfl⟩)
          case measure => simp [intOf]; omega
      · obtain rfl : i = 16 := by omega
        have hB := HB.out
        rw [doneF_all _ _ 16 Ha16.out.1 Hst16.out.1] at hB
        have HBa := Lib.hid hB
        clear hB HB HS
        by_cases hrz : rd = 0
        · subst hrz
          obtain ⟨D, hD⟩ : ∃ D, D = a.map vb := ⟨_, rfl⟩
          have hB := HBa.out
          rw [← hD] at hB
          have HB2 := Lib.hid hB
          have HD16 := Lib.hid (show D.length = 16 by rw [hD, List.length_map, Ha16.out.1])
          have HD1 := Lib.hid (show ∀ u ∈ D, u.oneCell' = true by rw [hD]; exact vb_one _)
          have HDe := Lib.hid (show D = (dec W R b).map vb by
            rw [hD, Hae.out, Hst.out, show k = R from by have := Hrd.out; omega]; rfl)
          have HF := Lib.hid (Blk.fill HZ.out D (by rw [HD16.out]; rfl))
          have Hnf := Lib.hid (nu_fill D (g := Z) Hap.out.2.1 0 _ hn)
          clear hB hD hn HBa
          go_wp2_with (first | (refine wpList_load_blk rfl 22 (.tmp 3) rfl B rfl 22 D.toArray HB2.out Try.underlying22 (by rw [List.size_toArray, HD16.out]; kernel_rfl) ?_) | (refine wpList_store_blk rfl 22 (.tmp 4) (.tmp 75) rfl Z D rfl rfl 22 (z16n.map vb).toArray HZ.out (by rw [HD16.out]; rfl) (by rw [HD16.out]; kernel_rfl) HD1.out ?_))
          refine bodyPost_ret (results_blk rfl _ Z 22 D.toArray rfl HF.out Try.underlying22 (by rw [List.size_toArray, HD16.out]; kernel_rfl)) rfl ⟨by rw [HDe.out], Hnf.out⟩
        · have hrzb : ((rd : Int) == 0) = false := by rw [beq_eq_false_iff_ne]; omega
          have c1 : wr.cell? ⟨C, 1, none⟩ = some (.int .i64 (R : Int)) := (hn.cell (p := ⟨C, 1, none⟩) hCl).trans HC1.out
          obtain ⟨g, hg⟩ : ∃ g, g = if k = 0 then a else mix 14 11 13 9 a := ⟨_, rfl⟩
          have Hg16 := Lib.hid (show St16 g by
            rw [hg]
            split
            · exact Ha16.out
            · exact mix_st 14 11 13 9 (by omega) (by omega) (by omega) (by omega) a)
          have Hge := Lib.hid (show decF W R (k + 1) b = unsub g by
            rw [decF_succ, hg, Hae.out, Hst.out]
            by_cases hk0 : k = 0
            · subst hk0
              rw [if_pos rfl, if_pos rfl, show rd = R from by have := Hrd.out; omega]; rfl
            · rw [if_neg hk0, if_neg hk0, show R - k = rd from by have := Hrd.out; omega])
          go_upto_if 48 with fail
          clear c1
          go_cut [5] (fun s5 wx => s5 = .int .i64 (rd : Int) ∧ Blk wx B 22 (g.map vb).toArray ∧ Blk wx Z 22 (z16n.map vb).toArray ∧ Below w.heap.size w wx)
          case first =>
            by_cases hk0 : k = 0
            · have hlt : ¬ (rd : Int) < (R : Int) := by have := Hrd.out; omega
              rw [if_pos hk0] at hg
              go_wp2_with fail
              go_meet
              exact ⟨rfl, by rw [hg]; exact HBa.out, HZ.out, hn⟩
            · have hlt : (rd : Int) < (R : Int) := by have := Hrd.out; omega
              rw [if_neg hk0] at hg
              have HU := Lib.hid (unmixed_any (w := wr) a Ha16.out)
              have Hal := Lib.hid (show (a.map vb).toArray.size = 16 by rw [List.size_toArray, List.length_map, Ha16.out.1])
              rw [← hg] at HU
              clear hg
              obtain ⟨wo, rfl⟩ : ∃ q : World, q = wr := ⟨_, rfl⟩
              go_wp2_with (refine wpList_load_blk rfl 22 (.tmp 3) rfl B rfl 22 (a.map vb).toArray HBa.out Try.underlying22 (by rw [Hal.out]; kernel_rfl) ?_)
              refine HU.out.mono ?_
              rintro e w4 ⟨rfl, hb4⟩
              have HB4 := Lib.hid (Blk.below HBa.out hb4 HBa.out.lt)
              have HZ4 := Lib.hid (Blk.below HZ.out hb4 HZ.out.lt)
              have Hgl := Lib.hid (show (g.map vb).length = 16 by rw [List.length_map, Hg16.out.1])
              have HF := Lib.hid (Blk.fill HB4.out (g.map vb) (by rw [Hgl.out, Hal.out]))
              have HZf := Lib.hid (HZ4.out.farCells (g.map vb) Hap.out.1.symm 0)
              have Hnf := Lib.hid (nu_fill (g.map vb) (g := B) Hap.out.2.2 0 _ (nu_trans hn hb4))
              clear hb4 HBa HZ hn
              go_wp2_with (refine wpList_store_blk rfl 22 (.tmp 3) (.tmp 50) rfl B (g.map vb) rfl rfl 22 (a.map vb).toArray HB4.out (by rw [Hgl.out, Hal.out]) (by rw [Hgl.out]; kernel_rfl) (vb_one _) ?_)
              go_meet
              exact ⟨rfl, HF.out, HZf.out, Hnf.out⟩
          case rest =>
            obtain ⟨rfl, hB, hZ, hn4⟩ := hcut
            clear hg HBa HZ hn
            have hn := hn4
            clear hn4
            have HB := Lib.hid hB
            have HZ := Lib.hid hZ
            clear hB hZ
            have HT := Lib.hid (Blk.made wc 22 (z16n.map vb).toArray)
            have hal := nu_alloc (nu_refl wc) (.cells (z16n.map vb).toArray 22)
            have HB1 := Lib.hid (HB.out.below hal HB.out.lt)
            have HZ1 := Lib.hid (HZ.out.below hal HZ.out.lt)
            have hn1 := nu_trans hn hal
            have HapT := Lib.hid (show B ≠ wc.heap.size ∧ Z ≠ wc.heap.size ∧ w.heap.size ≤ wc.heap.size from ⟨Nat.ne_of_lt HB.out.lt, Nat.ne_of_lt HZ.out.lt, hn.size⟩)
            clear hal HB HZ hn
            go_upto_region 16 with fail
            change Code.wp _ _ _ _ (wc.alloc (.cells (z16n.map vb).toArray 22))
            generalize wc.alloc (.cells (z16n.map vb).toArray 22) = w5 at *
            obtain ⟨T, hT⟩ : ∃ T, T = wc.heap.size := ⟨_, rfl⟩
            rw [← hT] at HT HapT
            rw [← hT]
            clear hT
            go_wp2_with fail
            go_loopw [51] (fun i wr => ∃ k : Nat, k ≤ 16 ∧ i = .int .i64 k ∧ Blk wr T 22 ((unsubF g k).map vb).toArray ∧ Blk wr B 22 (g.map vb).toArray ∧ Blk wr Z 22 (z16n.map vb).toArray ∧ Below w.heap.size w wr) (fun i _ => 16 - (intOf i).toNat)
            case atStart => exact ⟨0, by omega, rfl, HT.out, HB1.out, HZ1.out, hn1⟩
            case round =>
              clear HT HB1 HZ1 hn1
              obtain ⟨i, hi16, rfl, hT, hB, hZ, hn⟩ := hrel
              have HT := Lib.hid hT
              have HB := Lib.hid hB
              have HZ := Lib.hid hZ
              clear hT hB hZ
              by_cases hilt : i < 16
              · have hii : (i : Int) < 16 := by omega
                obtain ⟨q, hq⟩ : ∃ q, q = i / 4 := ⟨_, rfl⟩
                obtain ⟨r, hr⟩ : ∃ r, r = i % 4 := ⟨_, rfl⟩
                have ek : (i : Int) / 4 = (q : Int) := by omega
                have em : (i : Int) % 4 = (r : Int) := by omega
                have etq : Int.tdiv (i : Int) 4 = (q : Int) := by rw [Int.tdiv_eq_ediv_of_nonneg (by omega)]; omega
                have etr : Int.tmod (i : Int) 4 = (r : Int) := by rw [Int.tmod_eq_emod_of_nonneg (by omega)]; omega
                have wq : IntKind.i64.wrap (q : Int) = (q : Int) := by rw [IntKind.wrap_i64]; omega
                obtain ⟨qr, hqr⟩ : ∃ qr, qr = q + r := ⟨_, rfl⟩
                have wqr : IntKind.i64.wrap ((q : Int) + (r : Int)) = (qr : Int) := by rw [IntKind.wrap_i64]; omega
                obtain ⟨j, hj⟩ : ∃ j, j = qr % 4 := ⟨_, rfl⟩
                have ej : (qr : Int) % 4 = (j : Int) := by omega
                have etj : Int.tmod (qr : Int) 4 = (j : Int) := by rw [Int.tmod_eq_emod_of_nonneg (by omega)]; omega
                obtain ⟨j4, hj4⟩ : ∃ j4, j4 = 4 * j := ⟨_, rfl⟩
                have w4 : IntKind.i64.wrap (4 * (j : Int)) = (j4 : Int) := by rw [IntKind.wrap_i64]; omega
                obtain ⟨p, hp⟩ : ∃ p, p = j4 + r := ⟨_, rfl⟩
                have w5 : IntKind.i64.wrap ((j4 : Int) + (r : Int)) = (p : Int) := by rw [IntKind.wrap_i64]; omega
                have hpt : p = toPos i := by unfold toPos; omega
                have hpi : (p : Int) < 16 := by have := toPos_lt i; omega
                obtain ⟨y, hy⟩ : ∃ y, y = g.getD i 0 := ⟨_, rfl⟩
                have hy8 : y < 256 := by rw [hy]; exact Hg16.out.getD i
                have hyi : g[i]? = some y := by rw [hy, List.getD_eq_getElem?_getD, List.getElem?_eq_getElem (by rw [Hg16.out.1]; exact hilt)]; rfl
                have cB : wr.cell? ⟨B, i, none⟩ = some (.int .u8 (y : Int)) := HB.out.at i _ (arrg_at vb _ i y hyi)
                have cC2 : wr.cell? ⟨C, 2, none⟩ = some (.pointer (some ⟨x, 0, none⟩)) := (hn.cell (p := ⟨C, 2, none⟩) hCl).trans HC2.out
                have HBw := Lib.hid (show BoxAt wr x from HBx.out.1.below hn HBx.out.2)
                have HBk := Lib.hid (boxAt_back (w := wr.drew) (show BoxAt wr.drew x from HBw.out) y hy8)
                obtain ⟨v, hv⟩ := unsubF_at g i
                rw [← hpt] at hv
                obtain ⟨z, hz⟩ : ∃ z, z = bs y := ⟨_, rfl⟩
                rw [← hz] at HBk
                have cT2 : wr.drew.cell? ⟨T, p, none⟩ = some (.int .u8 (v : Int)) := HT.out.drew.at p _ (arrg_at vb _ p v hv)
                have fT2 := HT.out.drew.free p
                have h1 := HT.out.drew.put p (vb z)
                rw [arrg_set, show (unsubF g i).set p z = unsubF g (i + 1) by rw [unsubF, ← hpt, ← hy, ← hz]] at h1
                have HT1 := Lib.hid h1
                have HB1 := Lib.hid (HB.out.drew.far (p := ⟨T, p, none⟩) HapT.out.1 (vb z))
                have HZ1 := Lib.hid (HZ.out.drew.far (p := ⟨T, p, none⟩) HapT.out.2.1 (vb z))
                have hn1 := nu_set hn.drew (p := ⟨T, p, none⟩) HapT.out.2.2 (vb z)
                simp only [vb] at HT1 HB1 HZ1 hn1
                have HD := Lib.hid (And.intro cT2 fT2)
                clear hq hr hqr hj hj4 hp hpt hy hyi hv hz cT2 fT2 h1 HT HB HZ hn
                go_upto_region 19 with fail
                go_still_tail 19, (by kernel_rfl)
                still_call HBk.out
                repeat still_step
                refine wpStill_nil ?_
                change wpList _ _ _ _ _ wr.drew
                clear cB cC2 HBk HBw hpi ek em etq etr wq wqr ej etj w4 w5
                obtain ⟨cT2, fT2⟩ := HD.out
                clear HD
                generalize wr.drew = w6 at *
                go_wp2_with fail
                clear cT2 fT2
                generalize w6.setCell ⟨T, p, none⟩ (.int .u8 (z : Int)) = w7 at *
                go_roundw
                case rel => first | exact ⟨i + 1, by omega, by go_num, HT1.out, HB1.out, HZ1.out, hn1⟩ | ((repeat apply Exists.intro); exact ⟨⟨i + 1, by omega, by go_num, HT1.out, HB1.out, HZ1.out, hn1⟩, rfl⟩)
                case measure => simp [intOf]; omega
              · obtain rfl : i = 16 := by omega
                have hT := HT.out
                rw [unsubF_all Hg16.out] at hT
                obtain ⟨D, hD⟩ : ∃ D, D = (unsub g).map vb := ⟨_, rfl⟩
                rw [← hD] at hT
                have HT2 := Lib.hid hT
                have HD16 := Lib.hid (show D.length = 16 by rw [hD, List.length_map, (unsub_st g).1])
                have HD1 := Lib.hid (show ∀ u ∈ D, u.oneCell' = true by rw [hD]; exact vb_one _)
                have HDe := Lib.hid (show D = (decF W R (k + 1) b).map vb by rw [hD, Hge.out])
                have HF := Lib.hid (Blk.fill HB.out D (by rw [HD16.out, List.size_toArray, List.length_map, Hg16.out.1]))
                have HZf := Lib.hid (HZ.out.farCells D Hap.out.1.symm 0)
                have Hnf := Lib.hid (nu_fill D (g := B) Hap.out.2.2 0 _ hn)
                have Hgl := Lib.hid (show (g.map vb).toArray.size = 16 by rw [List.size_toArray, List.length_map, Hg16.out.1])
                clear hT hD hn HT HZ
                obtain ⟨wo, rfl⟩ : ∃ q : World, q = wr := ⟨_, rfl⟩
                go_upto_region 5 with (first | (refine wpList_load_blk rfl 22 (.tmp 8) rfl T rfl 22 D.toArray HT2.out Try.underlying22 (by rw [List.size_toArray, HD16.out]; kernel_rfl) ?_) | (refine wpList_store_blk rfl 22 (.tmp 3) (.tmp 74) rfl B D rfl rfl 22 (g.map vb).toArray HB.out (by rw [HD16.out, Hgl.out]) (by rw [HD16.out]; kernel_rfl) HD1.out ?_))
                generalize wo.setCells B 0 D = w7 at *
                have hkR : k + 1 ≤ R := by have := Hrd.out; omega
                have hrm : ((rd : Int) - 1) = ((R - (k + 1) : Nat) : Int) := by have := Hrd.out; omega
                go_wp2_with fail
                go_roundw
                case rel =>
                  have hF := HF.out
                  rw [HDe.out] at hF
                  have hR : ∃ k : Nat, k ≤ R ∧ Value.int .i64 ((rd : Int) - 1) = .int .i64 ((R - k : Nat) : Int) ∧ Blk w7 B 22 ((decF W R k b).map vb).toArray ∧ Blk w7 Z 22 (z16n.map vb).toArray ∧ Below w.heap.size w w7 := ⟨k + 1, hkR, congrArg _ hrm, hF, HZf.out, Hnf.out⟩
                  first | exact hR | exact ⟨k + 1, hkR, rfl, hF, HZf.out, Hnf.out⟩ | ((repeat apply Exists.intro); exact ⟨hR, rfl⟩)
                case measure => simp [intOf]; omega
end Go.Proofs.Ytnojbjconiddoaa
