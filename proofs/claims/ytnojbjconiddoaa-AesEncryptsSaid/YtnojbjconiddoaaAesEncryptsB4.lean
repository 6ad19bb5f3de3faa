/-
  What the proof of AesEncrypts rests on, part 4 of 6.
-/
import Derived.Test.YtnojbjconiddoaaAesEncryptsB3
namespace Go.Proofs.Ytnojbjconiddoaa
open Go.ChangeShapes Go.WideShapes Go.ChangeAt Go.RowKit Fld Aes
set_option linter.unusedSimpArgs false

abbrev z16n : List Nat := [0, 0, 0, 0, 0, 0, 0, 0, 0, 0, 0, 0, 0, 0, 0, 0]
theorem z16_at (k : Nat) (hk : k < 16) : z16n[k]? = some 0 := by
  rcases (show k = 0 ∨ k = 1 ∨ k = 2 ∨ k = 3 ∨ k = 4 ∨ k = 5 ∨ k = 6 ∨ k = 7 ∨ k = 8 ∨ k = 9 ∨ k = 10 ∨ k = 11 ∨ k = 12 ∨ k = 13 ∨ k = 14 ∨ k = 15 by omega) with rfl | rfl | rfl | rfl | rfl | rfl | rfl | rfl | rfl | rfl | rfl | rfl | rfl | rfl | rfl | rfl <;> rfl
theorem boxAt_mix {w : World} {x : Nat} (h : BoxAt w x) (a : Nat) (ha : a < 256) : Calls Try.prog 53 #[.pointer (some ⟨x, 0, none⟩), .int .u8 a] w fun e w' => e = .returned (.int .u32 (mixOf (sb a) : Nat)) ∧ w' = w := by
  obtain ⟨cs, hg, ht⟩ := h
  exact (mix_any x a cs w ha hg ht).mono fun _ _ h => ⟨h.1, h.2.symm⟩
theorem boxAt_boxq {w : World} {x : Nat} (h : BoxAt w x) (a : Nat) (ha : a < 256) : Calls Try.prog 54 #[.pointer (some ⟨x, 0, none⟩), .int .u8 a] w fun e w' => e = .returned (.int .u8 (sb a : Nat)) ∧ w' = w :=
  (boxAt_box h a ha).mono fun _ _ h => ⟨h.1, h.2.symm⟩
theorem boxAt_back {w : World} {x : Nat} (h : BoxAt w x) (a : Nat) (ha : a < 256) : Calls Try.prog 59 #[.pointer (some ⟨x, 0, none⟩), .int .u8 a] w fun e w' => e = .returned (.int .u8 (bs a : Nat)) ∧ w' = w := by
  obtain ⟨cs, hg, ht⟩ := h
  exact (back_any x a cs w ha hg ht).mono fun _ _ h => ⟨h.1, h.2.symm⟩
theorem rotq (q : Nat) (v : Nat) (hv : v < 4294967296) (hq : q < 4) (n : Int) (hn : n = -8 * (q : Int)) (w : World) : Calls Try.prog 48 #[.int .u32 (v : Int), .int .i64 n] w fun e w' => e = .returned (.int .u32 (turnW v q : Nat)) ∧ w' = w := by
  subst hn
  rcases (show q = 0 ∨ q = 1 ∨ q = 2 ∨ q = 3 by omega) with rfl | rfl | rfl | rfl
  · exact (rot_r0 v hv w).mono fun _ _ h => ⟨h.1, h.2.symm⟩
  · exact (rot_r8 v hv w).mono fun _ _ h => ⟨h.1, h.2.symm⟩
  · exact (rot_r16 v hv w).mono fun _ _ h => ⟨h.1, h.2.symm⟩
  · exact (rot_r24 v hv w).mono fun _ _ h => ⟨h.1, h.2.symm⟩
theorem set_doneF (L l : List Nat) (n k a b : Nat) (h1 : L.length = n) (h2 : l.length = n) (hk : k < n) (hb : L[k]? = some b) : ((doneF L l k).set k a).set k b = doneF L l (k + 1) := by
  rw [List.set_set, doneF_set L l n k b h1 h2 hk hb]
theorem doneF_self (L l : List Nat) (n k a : Nat) (h1 : L.length = n) (h2 : l.length = n) (hk : k < n) : ((doneF L l k).set k a)[k]? = some a := by
  rw [List.getElem?_set_self (by rw [doneF_len L l n k h1 h2 (by omega)]; exact hk)]

set_option maxRecDepth 100000 in
set_option maxHeartbeats 8000000 in
theorem encrypt_any {w : World} {C R : Nat} {W : List Nat} (hC : CiphAt w C W R) (hW : Small W) (hR0 : 0 < R) (hR : R ≤ 14) (hWl : W.length = 4 * (R + 1)) (b : List Nat) (hb : St16 b) :
    Calls Try.prog 29 #[.pointer (some ⟨C, 0, none⟩), .agg (b.map vb).toArray] w fun e w' => e = .returned (.agg ((enc W R b).map vb).toArray) ∧ Below w.heap.size w w' := by
  have HCi := Lib.hid hC
  obtain ⟨x, m, c, cur, hc, hm, htk, hbx, hxl, hlc, hcm⟩ := hC
  have HC0 := Lib.hid (Blk.at hc 0 _ rfl)
  have HC1 := Lib.hid (Blk.at hc 1 _ rfl)
  have HC2 := Lib.hid (Blk.at hc 2 _ rfl)
  have hCl := hc.lt
  have hml := hm.lt
  have Hm := Lib.hid hm
  have Ht := Lib.hid htk
  have Hb := Lib.hid hb
  have HW := Lib.hid hW
  have HWl := Lib.hid hWl
  have HBx := Lib.hid (And.intro hbx hxl)
  unfold maxLen at hcm
  obtain ⟨n, hn⟩ : ∃ n, n = W.length := ⟨_, rfl⟩
  rw [← hn] at HC0 hlc
  have Hn := Lib.hid (hn.trans hWl)
  have hn60 : n ≤ 60 := by omega
  have Hbl := Lib.hid (show (b.map vb).toArray.size = 16 by rw [List.size_toArray, List.length_map, hb.1])
  have hal := nu_alloc (nu_alloc (nu_refl w) (.cells (b.map vb).toArray 22)) (.cells (z16n.map vb).toArray 22)
  have HB := Lib.hid ((Blk.made w 22 (b.map vb).toArray).alloc (.cells (z16n.map vb).toArray 22))
  have HZ := Lib.hid (Blk.made1 w (.cells (b.map vb).toArray 22) 22 (z16n.map vb).toArray)
  clear hc hm htk hb hW hWl hbx hn
  go_enter Try.func29, Try.ntmps29
  go_upto_region 1 with fail
  change Code.wp _ _ _ _ ((w.alloc (.cells (b.map vb).toArray 22)).alloc (.cells (z16n.map vb).toArray 22))
  generalize ((w.alloc (.cells (b.map vb).toArray 22)).alloc (.cells (z16n.map vb).toArray 22)) = w1 at *
  obtain ⟨Z, hZ⟩ : ∃ Z, Z = w.heap.size + 1 := ⟨_, rfl⟩
  rw [← hZ] at HZ
  rw [← hZ]
  have hZw : w.heap.size ≤ Z := by omega
  have hZ1 := Blk.lt HZ.out
  clear hZ
  have HL := Lib.hid (load_any (HCi.out.below hal) HW.out 0 (by have := HWl.out; omega) (by omega) b Hb.out)
  have Hn1 := Lib.hid hal
  clear hal
  go_wp2_with (refine wpList_load_blk rfl 22 (.tmp 3) rfl w.heap.size rfl 22 (b.map vb).toArray HB.out Try.underlying22 (by rw [Hbl.out]; kernel_rfl) ?_)
  refine HL.out.mono ?_
  rintro e w2 ⟨rfl, hb2⟩
  rw [loadL_eq Hb.out HW.out 0]
  obtain ⟨s0, hs0⟩ : ∃ s0, s0 = cols (addK W 0 b) := ⟨_, rfl⟩
  rw [← hs0]
  have hs4 : s0.length = 4 := by rw [hs0]; exact cols_len _
  have Hs0 := Lib.hid hs0
  have hZ2 : Z < w2.heap.size := Nat.lt_of_lt_of_le hZ1 hb2.size
  have HZ2 := Lib.hid (Blk.below HZ.out hb2 hZ1)
  have Hn2 := Lib.hid (nu_trans Hn1.out hb2)
  have HSm := Lib.hid (Blk.made w2 86 (z4.map uv).toArray)
  have HS3 := Lib.hid (Blk.fill HSm.out (s0.map uv) (by rw [List.length_map, hs4]; rfl))
  have hf := nu_fill (a := w2) (s0.map uv) (g := w2.heap.size) (Nat.le_refl _) 0 _ (nu_alloc (nu_refl w2) (.cells (z4.map uv).toArray 86))
  have Hl4 := Lib.hid hs4
  clear hs0 hb2 HZ HL HB Hn1 hs4
  go_upto_region 4 with (refine wpList_store_blk rfl 86 (.tmp 5) (.tmp 19) rfl w2.heap.size (s0.map uv) rfl rfl 86 (z4.map uv).toArray HSm.out (by rw [List.length_map, Hl4.out]; rfl) (by rw [List.length_map, Hl4.out]; kernel_rfl) (uv_one _) ?_)
  change Code.wp _ _ _ _ ((w2.alloc (.cells (z4.map uv).toArray 86)).setCells w2.heap.size 0 (s0.map uv))
  have HZ3 := Lib.hid (Blk.below HZ2.out hf hZ2)
  have Hn3 := Lib.hid (nu_trans Hn2.out hf)
  have hsw := Hn2.out.size
  clear HSm hf HZ2 Hn2
  generalize (w2.alloc (.cells (z4.map uv).toArray 86)).setCells w2.heap.size 0 (s0.map uv) = w3 at *
  obtain ⟨S, hS⟩ : ∃ S, S = w2.heap.size := ⟨_, rfl⟩
  rw [← hS] at HS3 hZ2 hsw
  rw [← hS]
  clear hS hZ1
  go_wp2_with fail
  go_loopw [6] (fun i wr => ∃ k : Nat, k + 1 ≤ R ∧ i = .int .i64 ((k + 1 : Nat) : Int) ∧ Blk wr S 86 ((cols (encF W k b)).map uv).toArray ∧ Blk wr Z 22 (z16n.map vb).toArray ∧ Below w.heap.size w wr) (fun i _ => R - (intOf i).toNat)
  case atStart => exact ⟨0, by omega, rfl, by rw [show encF W 0 b = addK W 0 b from rfl, ← Hs0.out]; exact HS3.out, HZ3.out, Hn3.out⟩
  case round =>
    clear HS3 HZ3 Hn3 Hs0 Hl4
    obtain ⟨k, hk, rfl, hS, hZ, hn⟩ := hrel
    obtain ⟨st, hst⟩ : ∃ st, st = encF W k b := ⟨_, rfl⟩
    have hst16 : St16 st := by rw [hst]; exact encF_st Hb.out W k
    rw [← hst] at hS
    have HS := Lib.hid hS
    have HZ := Lib.hid hZ
    have Hst := Lib.hid hst
    have Hst16 := Lib.hid hst16
    have cC1 : wr.cell? ⟨C, 1, none⟩ = some (.int .i64 (R : Int)) := (hn.cell (p := ⟨C, 1, none⟩) hCl).trans HC1.out
    clear hS hZ hst hst16
    obtain ⟨rd, hrd⟩ : ∃ rd, rd = k + 1 := ⟨_, rfl⟩
    rw [← hrd] at hk ⊢
    have Hrd := Lib.hid hrd
    clear hrd
    by_cases hlt : rd < R
    · have hri : (rd : Int) < (R : Int) := by omega
      obtain ⟨s, hs⟩ : ∃ s, s = cols st := ⟨_, rfl⟩
      rw [← hs] at HS
      have Hs := Lib.hid (And.intro hs (show s.length = 4 by rw [hs]; exact cols_len _))
      have Hsm := Lib.hid (show ∀ j, j < 4 → s.getD j 0 < 4294967296 from fun j hj => by rw [hs, cols_getD st j hj]; exact colOf_lt Hst16.out j)
      have HT := Lib.hid (Blk.made wr 86 (z4.map uv).toArray)
      have hal := nu_alloc (nu_refl wr) (.cells (z4.map uv).toArray 86)
      have HS1 := Lib.hid (HS.out.below hal HS.out.lt)
      have HZ1 := Lib.hid (HZ.out.below hal HZ.out.lt)
      have hn1 := nu_trans hn hal
      have hST : S < wr.heap.size ∧ Z < wr.heap.size ∧ w.heap.size ≤ wr.heap.size := ⟨HS.out.lt, HZ.out.lt, hn.size⟩
      clear hs hal HS HZ hn
      go_upto_region 8 with fail
      change Code.wp _ _ _ _ (wr.alloc (.cells (z4.map uv).toArray 86))
      clear cC1
      generalize wr.alloc (.cells (z4.map uv).toArray 86) = w4 at *
      obtain ⟨T, hT⟩ : ∃ T, T = wr.heap.size := ⟨_, rfl⟩
      rw [← hT] at HT hST
      rw [← hT]
      obtain ⟨hST, hZT, hwT⟩ := hST
      clear hT
      obtain ⟨L, hL⟩ : ∃ L, L = tL W rd s := ⟨_, rfl⟩
      have hLl : L.length = 4 := by rw [hL]; exact tL_len _ _ _
      have hLa : ∀ i, i < 4 → L[i]? = some (tword W rd s i 4) := fun i hi => by rw [hL]; exact tL_at W rd s i hi
      have HLl := Lib.hid hLl
      have HLa := Lib.hid hLa
      have HLe := Lib.hid (show L = cols (encF W rd b) by rw [hL, Hs.out.1, tL_eq Hst16.out HW.out rd, Hst.out, Hrd.out]; rfl)
      clear hL hLl hLa
      go_wp2_with fail
      go_loopw [28] (fun i wr => ∃ k : Nat, k ≤ 4 ∧ i = .int .i64 k ∧ Blk wr T 86 ((doneF L z4 k).map uv).toArray ∧ Blk wr S 86 (s.map uv).toArray ∧ Blk wr Z 22 (z16n.map vb).toArray ∧ Below w.heap.size w wr) (fun i _ => 4 - (intOf i).toNat)
      case atStart => exact ⟨0, by omega, rfl, HT.out, HS1.out, HZ1.out, hn1⟩
      case round =>
        clear HT HS1 HZ1 hn1
        obtain ⟨i, hi4, rfl, hT, hS, hZ, hn⟩ := hrel
        have HT := Lib.hid hT
        have HS := Lib.hid hS
        have HZ := Lib.hid hZ
        clear hT hS hZ
        by_cases hilt : i < 4
        · have hii : (i : Int) < 4 := by omega
          obtain ⟨p, hp⟩ : ∃ p, p = 4 * rd + i := ⟨_, rfl⟩
          have hpi : 4 * (rd : Int) + (i : Int) = (p : Int) := by omega
          have hpl : (p : Int) < (n : Int) := by have := Hn.out; omega
          have hpl2 : p < W.length := by have := Hn.out; have := HWl.out; omega
          have cC0 : wr.cell? ⟨C, 0, none⟩ = some (.slice (some ⟨m, 0, none⟩) n c) := (hn.cell (p := ⟨C, 0, none⟩) hCl).trans HC0.out
          have cW : wr.cell? ⟨m, p, none⟩ = some (.int .u32 ((tword W rd s i 0 : Nat) : Int)) := by
            have h := (hn.cell (p := ⟨m, p, none⟩) hml).trans (word_at Hm.out Ht.out p hpl2)
            rw [h, hp]; rfl
          have hold : (doneF L z4 i)[i]? = some 0 := by
            rw [doneF_old _ _ 4 i i HLl.out (Nat.le_refl _) hi4]
            rcases (show i = 0 ∨ i = 1 ∨ i = 2 ∨ i = 3 by omega) with rfl | rfl | rfl | rfl <;> rfl
          have fT := HT.out.free i
          have cT : wr.cell? ⟨T, i, none⟩ = some (.int .u32 0) := HT.out.at i _ (arrg_at uv _ i 0 hold)
          obtain ⟨v0, hv0⟩ : ∃ v0, v0 = tword W rd s i 0 := ⟨_, rfl⟩
          rw [← hv0] at cW
          have h1 := HT.out.put i (uv v0)
          rw [arrg_set, hv0] at h1
          have HT1 := Lib.hid h1
          have HS1 := Lib.hid (HS.out.far (p := ⟨T, i, none⟩) (Nat.ne_of_lt hST) (uv v0))
          have HZ1 := Lib.hid (HZ.out.far (p := ⟨T, i, none⟩) (Nat.ne_of_lt hZT) (uv v0))
          have hn1 := nu_set hn (p := ⟨T, i, none⟩) hwT (uv v0)
          rw [← hv0] at HT1
          simp only [uv] at HT1 HS1 HZ1 hn1
          have Hv0 := Lib.hid hv0
          clear hp hpl2 hold HT HS HZ hn h1 hv0
          go_upto_region 12 with fail
          clear cC0 cW cT fT
          generalize wr.setCell ⟨T, i, none⟩ (.int .u32 (v0 : Int)) = w5 at *
          go_wp2_with fail
          go_loopw [43] (fun q wr => ∃ k : Nat, k ≤ 4 ∧ q = .int .i64 k ∧ Blk wr T 86 (((doneF L z4 i).set i (tword W rd s i k)).map uv).toArray ∧ Blk wr S 86 (s.map uv).toArray ∧ Blk wr Z 22 (z16n.map vb).toArray ∧ Below w.heap.size w wr) (fun q _ => 4 - (intOf q).toNat)
          case atStart => exact ⟨0, by omega, rfl, by rw [← Hv0.out]; exact HT1.out, HS1.out, HZ1.out, hn1⟩
          case round =>
            clear HT1 HS1 HZ1 hn1 Hv0
            obtain ⟨q, hq4, rfl, hT, hS, hZ, hn⟩ := hrel
            have HT := Lib.hid hT
            have HS := Lib.hid hS
            have HZ := Lib.hid hZ
            clear hT hS hZ
            by_cases hqlt : q < 4
            · obtain ⟨j, hj⟩ : ∃ j, j = (i + q) % 4 := ⟨_, rfl⟩
              have hj4 : j < 4 := by omega
              have hji : (j : Int) < 4 := by omega
              obtain ⟨y, hy⟩ : ∃ y, y = s.getD j 0 := ⟨_, rfl⟩
              have hy32 : y < 4294967296 := by rw [hy]; exact Hsm.out j hj4
              have hsj : s[j]? = some y := by rw [hy, List.getD_eq_getElem?_getD, List.getElem?_eq_getElem (by rw [Hs.out.2]; exact hj4)]; rfl
              have cS : wr.cell? ⟨S, j, none⟩ = some (.int .u32 (y : Int)) := HS.out.at j _ (arrg_at uv _ j y hsj)
              obtain ⟨a, ha⟩ : ∃ a, a = wb y q := ⟨_, rfl⟩
              have ha8 : a < 256 := by rw [ha]; exact wb_lt _ _
              obtain ⟨v, hv⟩ : ∃ v, v = tword W rd s i q := ⟨_, rfl⟩
              have hv32 : v < 4294967296 := by rw [hv]; exact tword_lt HW.out rd s i q
              have hM32 := mixOf_lt (sb a) (sb_lt a)
              have hU32 := turnW_lt (mixOf (sb a)) q hM32
              have hnext : tword W rd s i (q + 1) = v ^^^ turnW (mixOf (sb a)) q := by rw [tword, ← hv, ← hj, ← hy, ← ha]
              have HBw := Lib.hid (show BoxAt wr x from HBx.out.1.below hn HBx.out.2)
              have HMx := Lib.hid (boxAt_mix (w := wr.drew) (show BoxAt wr.drew x from HBw.out) a ha8)
              have HRt := Lib.hid (fun (d : Int) (hd : d = -8 * (q : Int)) => rotq q (mixOf (sb a)) hM32 hqlt d hd wr.drew)
              generalize mixOf (sb a) = M at *
              generalize turnW M q = U at *
              have hxx := u32_xor_nat v U hv32 hU32
              rw [← hnext] at hxx
              have cC2 : wr.cell? ⟨C, 2, none⟩ = some (.pointer (some ⟨x, 0, none⟩)) := (hn.cell (p := ⟨C, 2, none⟩) hCl).trans HC2.out
              have hself := doneF_self L z4 4 i v HLl.out rfl hilt
              rw [← hv] at HT
              have cT : wr.cell? ⟨T, i, none⟩ = some (.int .u32 (v : Int)) := HT.out.at i _ (arrg_at uv _ i v hself)
              obtain ⟨v2, hv2⟩ : ∃ v2, v2 = tword W rd s i (q + 1) := ⟨_, rfl⟩
              rw [← hv2] at hxx
              have h1 := HT.out.drew.put i (uv v2)
              rw [arrg_set, List.set_set, hv2] at h1
              have HT1 := Lib.hid h1
              rw [← hv2] at HT1
              have HS1 := Lib.hid (HS.out.drew.far (p := ⟨T, i, none⟩) (Nat.ne_of_lt hST) (uv v2))
              have HZ1 := Lib.hid (HZ.out.drew.far (p := ⟨T, i, none⟩) (Nat.ne_of_lt hZT) (uv v2))
              have hn1 := nu_set hn.drew (p := ⟨T, i, none⟩) hwT (uv v2)
              have cT2 : wr.drew.cell? ⟨T, i, none⟩ = some (.int .u32 (v : Int)) := HT.out.drew.at i _ (arrg_at uv _ i v hself)
              have fT2 := HT.out.drew.free i
              simp only [uv] at HT1 HS1 HZ1 hn1
              have Hj := Lib.hid (And.intro hj (And.intro ha hv2))
              have HD := Lib.hid (And.intro cT2 fT2)
              clear hj hy ha hv hv2 hnext hself h1 HT HS HZ hn cT2 fT2 hsj
              have Hq := Lib.hid (show q = 0 ∨ q = 1 ∨ q = 2 ∨ q = 3 by omega)
              rcases Hq.out with rfl | rfl | rfl | rfl
              · rw [show ((0 : Nat) : Int) = 0 from rfl]
                have ea : (y : Int) / 16777216 = (a : Int) := by have h := Hj.out.2.1; simp only [wb] at h; omega
                have ei : (i : Int) % 4 = (j : Int) := by have := Hj.out.1; omega
                have hw : IntKind.i64.wrap (0) = 0 := by kernel_rfl
                go_upto_region 16 with fail
                try rw [ea]
                clear ea ei cS hji
                go_still_tail 14, (by kernel_rfl)
                still_call HMx.out
                repeat still_step
                still_call (HRt.out (0) (by decide))
                repeat still_step
                refine wpStill_nil ?_
                change wpList _ _ _ _ _ wr.drew
                clear cC2 cT HMx HRt HBw hxx
                obtain ⟨cT2, fT2⟩ := HD.out
                clear HD
                generalize wr.drew = w6 at *
                go_wp2_with fail
                clear cT2 fT2
                generalize w6.setCell ⟨T, i, none⟩ (.int .u32 (v2 : Int)) = w7 at *
                go_roundw
                case rel =>
                  have hT1 := HT1.out
                  rw [Hj.out.2.2] at hT1
                  first | exact ⟨1, by omega, by first | rfl | go_num, hT1, HS1.out, HZ1.out, hn1⟩ | ((repeat apply Exists.intro); exact ⟨⟨1, by omega, by first | rfl | go_num, hT1, HS1.out, HZ1.out, hn1⟩, rfl⟩)
                case measure => simp [intOf]
              · rw [show ((1 : Nat) : Int) = 1 from rfl]
                have ea : (y : Int) / 65536 % 256 = (a : Int) := by have h := Hj.out.2.1; simp only [wb] at h; omega
                have ei : ((i : Int) + 1) % 4 = (j : Int) := by have := Hj.out.1; omega
                have hw : IntKind.i64.wrap (-8) = -8 := by kernel_rfl
                go_upto_region 16 with fail
                try rw [ea]
                clear ea ei cS hji
                go_still_tail 14, (by kernel_rfl)
                still_call HMx.out
                repeat still_step
                still_call (HRt.out (-8) (by decide))
                repeat still_step
                refine wpStill_nil ?_
                change wpList _ _ _ _ _ wr.drew
                clear cC2 cT HMx HRt HBw hxx
                obtain ⟨cT2, fT2⟩ := HD.out
                clear HD
                generalize wr.drew = w6 at *
                go_wp2_with fail
                clear cT2 fT2
                generalize w6.setCell ⟨T, i, none⟩ (.int .u32 (v2 : Int)) = w7 at *
                go_roundw
                case rel =>
                  have hT1 := HT1.out
                  rw [Hj.out.2.2] at hT1
                  first | exact ⟨2, by omega, by first | rfl | go_num, hT1, HS1.out, HZ1.out, hn1⟩ | ((repeat apply Exists.intro); exact ⟨⟨2, by omega, by first | rfl | go_num, hT1, HS1.out, HZ1.out, hn1⟩, rfl⟩)
                case measure => simp [intOf]
              · rw [show ((2 : Nat) : Int) = 2 from rfl]
                have ea : (y : Int) / 256 % 256 = (a : Int) := by have h := Hj.out.2.1; simp only [wb] at h; omega
                have ei : ((i : Int) + 2) % 4 = (j : Int) := by have := Hj.out.1; omega
                have hw : IntKind.i64.wrap (-16) = -16 := by kernel_rfl
                go_upto_region 16 with fail
                try rw [ea]
                clear ea ei cS hji
                go_still_tail 14, (by kernel_rfl)
                still_call HMx.out
                repeat still_step
                still_call (HRt.out (-16) (by decide))
                repeat still_step
                refine wpStill_nil ?_
                change wpList _ _ _ _ _ wr.drew
                clear cC2 cT HMx HRt HBw hxx
                obtain ⟨cT2, fT2⟩ := HD.out
                clear HD
                generalize wr.drew = w6 at *
                go_wp2_with fail
                clear cT2 fT2
                generalize w6.setCell ⟨T, i, none⟩ (.int .u32 (v2 : Int)) = w7 at *
                go_roundw
                case rel =>
                  have hT1 := HT1.out
                  rw [Hj.out.2.2] at hT1
                  first | exact ⟨3, by omega, by first | rfl | go_num, hT1, HS1.out, HZ1.out, hn1⟩ | ((repeat apply Exists.intro); exact ⟨⟨3, by omega, by first | rfl | go_num, hT1, HS1.out, HZ1.out, hn1⟩, rfl⟩)
                case measure => simp [intOf]
              · rw [show ((3 : Nat) : Int) = 3 from rfl]
                have ea : (y : Int) % 256 = (a : Int) := by have h := Hj.out.2.1; simp only [wb] at h; omega
                have ei : ((i : Int) + 3) % 4 = (j : Int) := by have := Hj.out.1; omega
                have hw : IntKind.i64.wrap (-24) = -24 := by kernel_rfl
                go_upto_region 16 with fail
                try rw [ea]
                clear ea ei cS hji
                go_still_tail 14, (by kernel_rfl)
                still_call HMx.out
                repeat still_step
                still_call (HRt.out (-24) (by decide))
                repeat still_step
                refine wpStill_nil ?_
                change wpList _ _ _ _ _ wr.drew
                clear cC2 cT HMx HRt HBw hxx
                obtain ⟨cT2, fT2⟩ := HD.out
                clear HD
                generalize wr.drew = w6 at *
                go_wp2_with fail
                clear cT2 fT2
                generalize w6.setCell ⟨T, i, none⟩ (.int .u32 (v2 : Int)) = w7 at *
                go_roundw
                case rel =>
                  have hT1 := HT1.out
                  rw [Hj.out.2.2] at hT1
                  first | exact ⟨4, by omega, by first | rfl | go_num, hT1, HS1.out, HZ1.out, hn1⟩ | ((repeat apply Exists.intro); exact ⟨⟨4, by omega, by first | rfl | go_num, hT1, HS1.out, HZ1.out, hn1⟩, rfl⟩)
                case measure => simp [intOf]
            · obtain rfl : q = 4 := by omega
              have hT := HT.out
              rw [doneF_set _ _ 4 i _ HLl.out rfl hilt (HLa.out i hilt)] at hT
              have HT2 := Lib.hid hT
              clear hT HT
              go_wp2_with fail
              go_roundw
              case rel => first | exact ⟨i + 1, by omega, by go_num, HT2.out, HS.out, HZ.out, hn⟩ | ((repeat apply Exists.intro); exact ⟨⟨i + 1, by omega, by go_num, HT2.out, HS.out, HZ.out, hn⟩, rfl⟩)
              case measure => simp [intOf]; omega
        · obtain rfl : i = 4 := by omega
          have hT := HT.out
          rw [doneF_all _ _ 4 HLl.out rfl, HLe.out] at hT
          obtain ⟨D, hD⟩ : ∃ D, D = (cols (encF W rd b)).map uv := ⟨_, rfl⟩
          rw [← hD] at hT
          have HT2 := Lib.hid hT
          have HD4 := Lib.hid (show D.length = 4 by rw [hD, List.length_map]; exact cols_len _)
          have HD1 := Lib.hid (show ∀ u ∈ D, u.oneCell' = true by rw [hD]; exact uv_one _)
          have HDe := Lib.hid hD
          have HF := Lib.hid (Blk.fill HS.out D (by rw [List.size_toArray, List.length_map, HD4.out, Hs.out.2]))
          have HZf := Lib.hid (HZ.out.farCells D (Nat.ne_of_lt hZ2) 0)
          have Hnf := Lib.hid (nu_fill D (g := S) hsw 0 _ hn)
          have Hsl := Lib.hid (show (s.map uv).toArray.size = 4 by rw [List.size_toArray, List.length_map, Hs.out.2])
          clear hT HT hD hn HZ
          obtain ⟨wo, rfl⟩ : ∃ q : World, q = wr := ⟨_, rfl⟩
          go_upto_region 6 with (first | (refine wpList_load_blk rfl 86 (.tmp 7) rfl T rfl 86 D.toArray HT2.out Try.underlying86 (by rw [List.size_toArray, HD4.out]; kernel_rfl) ?_) | (refine wpList_store_blk rfl 86 (.tmp 5) (.tmp 73) rfl S D rfl rfl 86 (s.map uv).toArray HS.out (by rw [Hsl.out, HD4.out]) (by rw [HD4.out]; kernel_rfl) HD1.out ?_))
          generalize wo.setCells S 0 D = w6 at *
          go_wp2_with fail
          go_roundw
          case rel =>
            have hF := HF.out
            rw [HDe.out] at hF
            have hR : ∃ k : Nat, k + 1 ≤ R ∧ Value.int .i64 ((rd : Int) + 1) = .int .i64 ((k + 1 : Nat) : Int) ∧ Blk w6 S 86 ((cols (encF W k b)).map uv).toArray ∧ Blk w6 Z 22 (z16n.map vb).toArray ∧ Below w.heap.size w w6 := ⟨rd, by omega, by go_num, hF, HZf.out, Hnf.out⟩
            first | exact hR | ((repeat apply Exists.intro); exact ⟨hR, rfl⟩)
          case measure => simp [intOf]; omega
    · obtain rfl : rd = R := by omega
      have hri : ¬ (rd : Int) < (rd : Int) := by omega
      obtain ⟨s, hs⟩ : ∃ s, s = cols st := ⟨_, rfl⟩
      rw [← hs] at HS
      have Hs := Lib.hid (And.intro hs (show s.length = 4 by rw [hs]; exact cols_len _))
      have Hsm := Lib.hid (show ∀ j, j < 4 → s.getD j 0 < 4294967296 from fun j hj => by rw [hs, cols_getD st j hj]; exact colOf_lt Hst16.out j)
      have HE16 := Lib.hid (enc_st b W rd)
      have HEa := Lib.hid (show ∀ i, i < 16 → (enc W rd b)[i]? = some (sb (wb (s.getD ((i / 4 + i % 4) % 4) 0) (i % 4)) ^^^ wb (W.getD (4 * rd + i / 4) 0) (i % 4)) from fun i hi => by
        rw [hs, enc, show rd - 1 = k by have := Hrd.out; omega, ← Hst.out]
        exact last_at Hst16.out W rd i hi)
      obtain ⟨E, hE⟩ : ∃ E, E = enc W rd b := ⟨_, rfl⟩
      rw [← hE] at HE16 HEa
      have HEe := Lib.hid hE
      have HO := Lib.hid (Blk.made wr 22 (z16n.map vb).toArray)
      have hal := nu_alloc (nu_refl wr) (.cells (z16n.map vb).toArray 22)
      have HS1 := Lib.hid (HS.out.below hal HS.out.lt)
      have HZ1 := Lib.hid (HZ.out.below hal HZ.out.lt)
      have hn1 := nu_trans hn hal
      have hSO : S < wr.heap.size ∧ Z < wr.heap.size ∧ w.heap.size ≤ wr.heap.size := ⟨HS.out.lt, HZ.out.lt, hn.size⟩
      clear hs hE hal HS HZ hn Hst Hst16 Hrd
      obtain ⟨wo, rfl⟩ : ∃ q : World, q = wr := ⟨_, rfl⟩
      go_upto_region 21 with fail
      change Code.wp _ _ _ _ (wo.alloc (.cells (z16n.map vb).toArray 22))
      clear cC1 hri hlt
      generalize wo.alloc (.cells (z16n.map vb).toArray 22) = w4 at *
      obtain ⟨O, hO⟩ : ∃ O, O = wo.heap.size := ⟨_, rfl⟩
      rw [← hO] at HO hSO
      rw [← hO]
      obtain ⟨hSO, hZO, hwO⟩ := hSO
      clear hO
      go_wp2_with fail
      go_loopw [74] (fun i wr => ∃ k : Nat, k ≤ 16 ∧ i = .int .i64 k ∧ Blk wr O 22 ((doneF E z16n k).map vb).toArray ∧ Blk wr S 86 (s.map uv).toArray ∧ Blk wr Z 22 (z16n.map vb).toArray ∧ Below w.heap.size w wr) (fun i _ => 16 - (intOf i).toNat)
      case atStart => exact ⟨0, by omega, rfl, HO.out, HS1.out, HZ1.out, hn1⟩
      case round =>
        clear HO HS1 HZ1 hn1
        obtain ⟨k, hk16, rfl, hO, hS, hZ, hn⟩ := hrel
        have HO := Lib.hid hO
        have HS := Lib.hid hS
        have HZ := Lib.hid hZ
        clear hO hS hZ
        by_cases hlt : k < 16
        · have hki : (k : Int) < 16 := by omega
          obtain ⟨q, hq⟩ : ∃ q, q = k / 4 := ⟨_, rfl⟩
          obtain ⟨r, hr⟩ : ∃ r, r = k % 4 := ⟨_, rfl⟩
          have ek : (k : Int) / 4 = (q : Int) := by omega
          have em : (k : Int) % 4 = (r : Int) := by omega
          have etq : Int.tdiv (k : Int) 4 = (q : Int) := by rw [Int.tdiv_eq_ediv_of_nonneg (by omega)]; omega
          have etr : Int.tmod (k : Int) 4 = (r : Int) := by rw [Int.tmod_eq_emod_of_nonneg (by omega)]; omega
          have hq4 : q < 4 := by omega
          obtain ⟨j, hj⟩ : ∃ j, j = (q + r) % 4 := ⟨_, rfl⟩
          have hj4 : j < 4 := by omega
          have hji : (j : Int) < 4 := by omega
          obtain ⟨y, hy⟩ : ∃ y, y = s.getD j 0 := ⟨_, rfl⟩
          have hy32 : y < 4294967296 := by rw [hy]; exact Hsm.out j hj4
          have hsj : s[j]? = some y := by rw [hy, List.getD_eq_getElem?_getD, List.getElem?_eq_getElem (by rw [Hs.out.2]; exact hj4)]; rfl
          have cS : wr.cell? ⟨S, j, none⟩ = some (.int .u32 (y : Int)) := HS.out.at j _ (arrg_at uv _ j y hsj)
          obtain ⟨a, ha⟩ : ∃ a, a = wb y r := ⟨_, rfl⟩
          have ha8 : a < 256 := by rw [ha]; exact wb_lt _ _
          obtain ⟨p, hp⟩ : ∃ p, p = 4 * rd + q := ⟨_, rfl⟩
          have hpl : (p : Int) < (n : Int) := by have := Hn.out; omega
          have hpl2 : p < W.length := by have := Hn.out; have := HWl.out; omega
          have cC0 : wr.cell? ⟨C, 0, none⟩ = some (.slice (some ⟨m, 0, none⟩) n c) := (hn.cell (p := ⟨C, 0, none⟩) hCl).trans HC0.out
          have cC1 : wr.cell? ⟨C, 1, none⟩ = some (.int .i64 (rd : Int)) := (hn.cell (p := ⟨C, 1, none⟩) hCl).trans HC1.out
          have cC2 : wr.cell? ⟨C, 2, none⟩ = some (.pointer (some ⟨x, 0, none⟩)) := (hn.cell (p := ⟨C, 2, none⟩) hCl).trans HC2.out
          have cW : wr.cell? ⟨m, p, none⟩ = some (.int .u32 ((W.getD p 0 : Nat) : Int)) := (hn.cell (p := ⟨m, p, none⟩) hml).trans (word_at Hm.out Ht.out p hpl2)
          obtain ⟨z, hz⟩ : ∃ z, z = W.getD p 0 := ⟨_, rfl⟩
          have hz32 : z < 4294967296 := by rw [hz]; exact HW.out.getD p
          rw [← hz] at cW
          obtain ⟨zb, hzb⟩ : ∃ zb, zb = wb z r := ⟨_, rfl⟩
          have hzb8 : zb < 256 := by rw [hzb]; exact wb_lt _ _
          have hsb8 := sb_lt a
          have hEk := HEa.out k hlt
          rw [← hq, ← hr, ← hj, ← hy, ← ha, ← hp, ← hz, ← hzb] at hEk
          have HBw := Lib.hid (show BoxAt wr x from HBx.out.1.below hn HBx.out.2)
          have HBo := Lib.hid (boxAt_boxq (w := wr.drew) (show BoxAt wr.drew x from HBw.out) a ha8)
          generalize sb a = sa at *
          have hxx := u8_xor_nat sa zb hsb8 hzb8
          obtain ⟨ee, hee⟩ : ∃ ee, ee = sa ^^^ zb := ⟨_, rfl⟩
          rw [← hee] at hxx hEk
          obtain ⟨R4, hR4⟩ : ∃ R4, R4 = 4 * rd := ⟨_, rfl⟩
          have w1 : IntKind.i64.wrap (4 * (rd : Int)) = (R4 : Int) := by rw [IntKind.wrap_i64]; omega
          have w2 : IntKind.i64.wrap (q : Int) = (q : Int) := by rw [IntKind.wrap_i64]; omega
          have w3 : IntKind.i64.wrap ((R4 : Int) + (q : Int)) = (p : Int) := by rw [IntKind.wrap_i64]; omega
          have cO : (doneF E z16n k)[k]? = some 0 := by rw [doneF_old _ _ 16 k k HE16.out.1 (Nat.le_refl _) hk16]; exact z16_at k hlt
          have cO2 : wr.drew.cell? ⟨O, k, none⟩ = some (.int .u8 0) := HO.out.drew.at k _ (arrg_at vb _ k 0 cO)
          have fO2 := HO.out.drew.free k
          have h1 := HO.out.drew.put k (vb ee)
          rw [arrg_set, doneF_set _ _ 16 k ee HE16.out.1 rfl hlt hEk] at h1
          have HO1 := Lib.hid h1
          have HS1 := Lib.hid (HS.out.drew.far (p := ⟨O, k, none⟩) (Nat.ne_of_lt hSO) (vb ee))
          have HZ1 := Lib.hid (HZ.out.drew.far (p := ⟨O, k, none⟩) (Nat.ne_of_lt hZO) (vb ee))
          have hn1 := nu_set hn.drew (p := ⟨O, k, none⟩) hwO (vb ee)
          simp only [vb] at HO1 HS1 HZ1 hn1
          have HD := Lib.hid (And.intro cO2 fO2)
          have Hj := Lib.hid (And.intro hj (And.intro ha hzb))
          have Hr := Lib.hid (show r = 0 ∨ r = 1 ∨ r = 2 ∨ r = 3 by omega)
          clear hq hr hj hy ha hp hz hzb hee hR4 h1 HO HS HZ hn cO cO2 fO2 hsj hpl2 hEk
          rcases Hr.out with rfl | rfl | rfl | rfl
          · rw [show ((0 : Nat) : Int) = 0 from rfl] at em etr
            have ea : (y : Int) / 16777216 = (a : Int) := by have h := Hj.out.2.1; simp only [wb] at h; omega
            have ei : (q : Int) % 4 = (j : Int) := by have := Hj.out.1; omega
            have ez : IntKind.u8.wrap ((z : Int) / 16777216) = (zb : Int) := by have h := Hj.out.2.2; simp only [wb] at h; rw [IntKind.wrap_u8]; omega
            have l1 : IntKind.i64.wrap 0 = 0 := by kernel_rfl
            skip
            have l3 : IntKind.i64.wrap 24 = 24 := by kernel_rfl
            go_upto_region 25 with fail
            try rw [ea]
            clear ea ei cS hji ek em
            go_still_tail 29, (by kernel_rfl)
            still_call HBo.out
            repeat still_step
            refine wpStill_nil ?_
            change wpList _ _ _ _ _ wr.drew
            clear cC0 cC1 cC2 cW HBo HBw hxx ez etq etr w1 w2 w3 hpl
            obtain ⟨cO2, fO2⟩ := HD.out
            clear HD
            generalize wr.drew = w6 at *
            go_wp2_with fail
            clear cO2 fO2
            generalize w6.setCell ⟨O, k, none⟩ (.int .u8 (ee : Int)) = w7 at *
            go_roundw
            case rel => first | exact ⟨k + 1, by omega, by go_num, HO1.out, HS1.out, HZ1.out, hn1⟩ | ((repeat apply Exists.intro); exact ⟨⟨k + 1, by omega, by go_num, HO1.out, HS1.out, HZ1.out, hn1⟩, rfl⟩)
            case measure => simp [intOf]; omega
          · rw [show ((1 : Nat) : Int) = 1 from rfl] at em etr
            have ea : (y : Int) / 65536 % 256 = (a : Int) := by have h := Hj.out.2.1; simp only [wb] at h; omega
            have ei : ((q : Int) + 1) % 4 = (j : Int) := by have := Hj.out.1; omega
            have ez : IntKind.u8.wrap ((z : Int) / 65536) = (zb : Int) := by have h := Hj.out.2.2; simp only [wb] at h; rw [IntKind.wrap_u8]; omega
            have l1 : IntKind.i64.wrap 1 = 1 := by kernel_rfl
            have l2 : IntKind.i64.wrap 8 = 8 := by kernel_rfl
            have l3 : IntKind.i64.wrap 16 = 16 := by kernel_rfl
            go_upto_region 25 with fail
            try rw [ea]
            clear ea ei cS hji ek em
            go_still_tail 29, (by kernel_rfl)
            still_call HBo.out
            repeat still_step
            refine wpStill_nil ?_
            change wpList _ _ _ _ _ wr.drew
            clear cC0 cC1 cC2 cW HBo HBw hxx ez etq etr w1 w2 w3 hpl
            obtain ⟨cO2, fO2⟩ := HD.out
            clear HD
            generalize wr.drew = w6 at *
            go_wp2_with fail
            clear cO2 fO2
            generalize w6.setCell ⟨O, k, none⟩ (.int .u8 (ee : Int)) = w7 at *
            go_roundw
            case rel => first | exact ⟨k + 1, by omega, by go_num, HO1.out, HS1.out, HZ1.out, hn1⟩ | ((repeat apply Exists.intro); exact ⟨⟨k + 1, by omega, by go_num, HO1.out, HS1.out, HZ1.out, hn1⟩, rfl⟩)
            case measure => simp [intOf]; omega
          · rw [show ((2 : Nat) : Int) = 2 from rfl] at em etr
            have ea : (y : Int) / 256 % 256 = (a : Int) := by have h := Hj.out.2.1; simp only [wb] at h; omega
            have ei : ((q : Int) + 2) % 4 = (j : Int) := by have := Hj.out.1; omega
            have ez : IntKind.u8.wrap ((z : Int) / 256) = (zb : Int) := by have h := Hj.out.2.2; simp only [wb] at h; rw [IntKind.wrap_u8]; omega
            have l1 : IntKind.i64.wrap 2 = 2 := by kernel_rfl
            have l2 : IntKind.i64.wrap 16 = 16 := by kernel_rfl
            have l3 : IntKind.i64.wrap 8 = 8 := by kernel_rfl
            go_upto_region 25 with fail
            try rw [ea]
            clear ea ei cS hji ek em
            go_still_tail 29, (by kernel_rfl)
            still_call HBo.out
            repeat still_step
            refine wpStill_nil ?_
            change wpList _ _ _ _ _ wr.drew
            clear cC0 cC1 cC2 cW HBo HBw hxx ez etq etr w1 w2 w3 hpl
            obtain ⟨cO2, fO2⟩ := HD.out
            clear HD
            generalize wr.drew = w6 at *
            go_wp2_with fail
            clear cO2 fO2
            generalize w6.setCell ⟨O, k, none⟩ (.int .u8 (ee : Int)) = w7 at *
            go_roundw
            case rel => first | exact ⟨k + 1, by omega, by go_num, HO1.out, HS1.out, HZ1.out, hn1⟩ | ((repeat apply Exists.intro); exact ⟨⟨k + 1, by omega, by go_num, HO1.out, HS1.out, HZ1.out, hn1⟩, rfl⟩)
            case measure => simp [intOf]; omega
          · rw [show ((3 : Nat) : Int) = 3 from rfl] at em etr
            have ea : (y : Int) % 256 = (a : Int) := by have h := Hj.out.2.1; simp only [wb] at h; omega
            have ei : ((q : Int) + 3) % 4 = (j : Int) := by have := Hj.out.1; omega
            have ez : IntKind.u8.wrap ((z : Int)) = (zb : Int) := by have h := Hj.out.2.2; simp only [wb] at h; rw [IntKind.wrap_u8]; omega
            have l1 : IntKind.i64.wrap 3 = 3 := by kernel_rfl
            have l2 : IntKind.i64.wrap 24 = 24 := by kernel_rfl
            have l3 : IntKind.i64.wrap 0 = 0 := by kernel_rfl
            go_upto_region 25 with fail
            try rw [ea]
            clear ea ei cS hji ek em
            go_still_tail 29, (by kernel_rfl)
            still_call HBo.out
            repeat still_step
            refine wpStill_nil ?_
            change wpList _ _ _ _ _ wr.drew
            clear cC0 cC1 cC2 cW HBo HBw hxx ez etq etr w1 w2 w3 hpl
            obtain ⟨cO2, fO2⟩ := HD.out
            clear HD
            generalize wr.drew = w6 at *
            go_wp2_with fail
            clear cO2 fO2
            generalize w6.setCell ⟨O, k, none⟩ (.int .u8 (ee : Int)) = w7 at *
            go_roundw
            case rel => first | exact ⟨k + 1, by omega, by go_num, HO1.out, HS1.out, HZ1.out, hn1⟩ | ((repeat apply Exists.intro); exact ⟨⟨k + 1, by omega, by go_num, HO1.out, HS1.out, HZ1.out, hn1⟩, rfl⟩)
            case measure => simp [intOf]; omega
        · obtain rfl : k = 16 := by omega
          have hO := HO.out
          rw [doneF_all _ _ 16 HE16.out.1 rfl] at hO
          obtain ⟨D, hD⟩ : ∃ D, D = E.map vb := ⟨_, rfl⟩
          rw [← hD] at hO
          have HO2 := Lib.hid hO
          have HD16 := Lib.hid (show D.length = 16 by rw [hD, List.length_map, HE16.out.1])
          have HD1 := Lib.hid (show ∀ u ∈ D, u.oneCell' = true by rw [hD]; exact vb_one _)
          have HDe := Lib.hid hD
          have HF := Lib.hid (Blk.fill HZ.out D (by rw [HD16.out]; rfl))
          have Hnf := Lib.hid (nu_fill D (g := Z) hZw 0 _ hn)
          clear hO HO hD hn
          go_wp2_with (first | (refine wpList_load_blk rfl 22 (.tmp 11) rfl O rfl 22 D.toArray HO2.out Try.underlying22 (by rw [List.size_toArray, HD16.out]; kernel_rfl) ?_) | (refine wpList_store_blk rfl 22 (.tmp 4) (.tmp 121) rfl Z D rfl rfl 22 (z16n.map vb).toArray HZ.out (by rw [HD16.out]; rfl) (by rw [HD16.out]; kernel_rfl) HD1.out ?_))
          refine bodyPost_ret (results_blk rfl _ Z 22 D.toArray rfl HF.out Try.underlying22 (by rw [List.size_toArray, HD16.out]; kernel_rfl)) rfl ⟨by rw [HDe.out, ← HEe.out], Hnf.out⟩
end Go.Proofs.Ytnojbjconiddoaa

namespace Go.Proofs.Ytnojbjconiddoaa
open Fld Aes

def mixP (f b : List Nat) (i : Nat) : Nat → Nat
  | 0 => 0
  | k + 1 => mixP f b i k ^^^ gm (f.getD k 0) (b.getD (i / 4 * 4 + (i + k) % 4) 0)
theorem mixP_four (f0 f1 f2 f3 : Nat) (b : List Nat) (i : Nat) : mixP [f0, f1, f2, f3] b i 4 = mixAt f0 f1 f2 f3 b i := by
  show 0 ^^^ gm f0 _ ^^^ gm f1 _ ^^^ gm f2 _ ^^^ gm f3 _ = _
  rw [Nat.zero_xor]
  rfl
theorem mixP_lt (f b : List Nat) (hf : ∀ x ∈ f, x < 256) (i k : Nat) : mixP f b i k < 256 := by
  induction k with
  | zero => exact Nat.zero_lt_succ _
  | succ k ih => exact xor_lt8 ih (gm_lt _ _ (getD_lt hf k))
theorem mix_get (f0 f1 f2 f3 : Nat) (b : List Nat) (i : Nat) (hi : i < 16) : (mix f0 f1 f2 f3 b)[i]? = some (mixAt f0 f1 f2 f3 b i) := by
  rw [mix, List.getElem?_map, List.getElem?_range hi]
  rfl
theorem addK_get {b : List Nat} (h : St16 b) {W : List Nat} (hW : Small W) (r i : Nat) (hi : i < 16) : (addK W r b)[i]? = some (wb ((cols (addK W r b)).getD (i / 4) 0) (i % 4)) := by
  have h2 := addK_st h W r
  rw [cols_getD _ _ (by omega), wb_colOf h2 _ _ (Nat.mod_lt _ (by omega)), show 4 * (i / 4) + i % 4 = i by omega, List.getD_eq_getElem?_getD, List.getElem?_eq_getElem (by rw [h2.1]; exact hi)]
  rfl
/-- Where a byte is led back to. -/
def toPos (i : Nat) : Nat := 4 * ((i / 4 + i % 4) % 4) + i % 4
theorem toPos_lt (i : Nat) : toPos i < 16 := by unfold toPos; omega
def unsubF (b : List Nat) : Nat → List Nat
  | 0 => z16n
  | k + 1 => (unsubF b k).set (toPos k) (bs (b.getD k 0))
theorem unsubF_len (b : List Nat) (k : Nat) : (unsubF b k).length = 16 := by
  induction k with
  | zero => rfl
  | succ k ih => rw [unsubF, List.length_set, ih]
theorem unsubF_all {b : List Nat} (h : St16 b) : unsubF b 16 = unsub b := by
  obtain ⟨h1, h2⟩ := h
  obtain ⟨a0, a1, a2, a3, a4, a5, a6, a7, a8, a9, a10, a11, a12, a13, a14, a15, rfl⟩ := open16 h1
  rfl
theorem unsubF_at (b : List Nat) (k : Nat) : ∃ v, (unsubF b k)[toPos k]? = some v := ⟨_, List.getElem?_eq_getElem (by rw [unsubF_len]; exact toPos_lt k)⟩
theorem decF_succ (W : List Nat) (R k : Nat) (b : List Nat) : decF W R (k + 1) b = unsub (if k = 0 then addK W R b else mix 14 11 13 9 (addK W (R - k) (decF W R k b))) := rfl
end Go.Proofs.Ytnojbjconiddoaa

namespace Go.Proofs.Ytnojbjconiddoaa
open Go.ChangeShapes Go.WideShapes Go.ChangeAt Go.RowKit Fld Aes
set_option linter.unusedSimpArgs false

abbrev by4 : List Nat := [14, 11, 13, 9]
theorem by4_lt : ∀ x ∈ by4, x < 256 := by decide
set_option maxRecDepth 100000 in
set_option maxHeartbeats 4000000 in
theorem unmixed_any {w : World} (b : List Nat) (hb : St16 b) :
    Calls Try.prog 58 #[.agg (b.map vb).toArray] w fun e w' => e = .returned (.agg ((mix 14 11 13 9 b).map vb).toArray) ∧ Below w.heap.size w w' := by
  have Hb := Lib.hid hb
  have Hbl := Lib.hid (show (b.map vb).toArray.size = 16 by rw [List.size_toArray, List.length_map, hb.1])
  have hal := nu_alloc (nu_alloc (nu_alloc (nu_refl w) (.cells (b.map vb).toArray 22)) (.cells (z16n.map vb).toArray 22)) (.cells (z16n.map vb).toArray 22)
  have HB := Lib.hid (((Blk.made w 22 (b.map vb).toArray).alloc (.cells (z16n.map vb).toArray 22)).alloc (.cells (z16n.map vb).toArray 22))
  have HZ := Lib.hid ((Blk.made1 w (.cells (b.map vb).toArray 22) 22 (z16n.map vb).toArray).alloc (.cells (z16n.map vb).toArray 22))
  have HT := Lib.hid (Blk.made2 w (.cells (b.map vb).toArray 22) (.cells (z16n.map vb).toArray 22) 22 (z16n.map vb).toArray)
  clear hb
  go_enter Try.func58, Try.ntmps58
  go_upto_region 2 with fail
  change Code.wp _ _ _ _ (((w.alloc (.cells (b.map vb).toArray 22)).alloc (.cells (z16n.map vb).toArray 22)).alloc (.cells (z16n.map vb).toArray 22))
  generalize ((w.alloc (.cells (b.map vb).toArray 22)).alloc (.cells (z16n.map vb).toArray 22)).alloc (.cells (z16n.map vb).toArray 22) = w1 at *
  obtain ⟨B, hB⟩ : ∃ B, B = w.heap.size := ⟨_, rfl⟩
  obtain ⟨Z, hZ⟩ : ∃ Z, Z = w.heap.size + 1 := ⟨_, rfl⟩
  obtain ⟨T, hT⟩ : ∃ T, T = w.heap.size + 1 + 1 := ⟨_, rfl⟩
  rw [← hB] at HB
  rw [← hZ] at HZ
  rw [← hT] at HT
  rw [← hT, ← hZ, ← hB]
  have Hap := Lib.hid (show B ≠ T ∧ Z ≠ T ∧ w.heap.size ≤ T ∧ w.heap.size ≤ Z from ⟨by omega, by omega, by omega, by omega⟩)
  clear hZ hT hB
  have hB1 := HB.out.lt
  have hZ1 := HZ.out.lt
  have hT1 := HT.out.lt
  have HYm := Lib.hid (Blk.made w1 51 (z4.map vb).toArray)
  have HY := Lib.hid (Blk.fill HYm.out (by4.map vb) rfl)
  have hf := nu_fill (a := w1) (by4.map vb) (g := w1.heap.size) (Nat.le_refl _) 0 _ (nu_alloc (nu_refl w1) (.cells (z4.map vb).toArray 51))
  go_upto_region 3 with (refine wpList_store_blk rfl 51 (.tmp 4) (.tmp 7) rfl w1.heap.size (by4.map vb) rfl rfl 51 (z4.map vb).toArray HYm.out rfl (by kernel_rfl) (vb_one _) ?_)
  change Code.wp _ _ _ _ ((w1.alloc (.cells (z4.map vb).toArray 51)).setCells w1.heap.size 0 (by4.map vb))
  have HB2 := Lib.hid (Blk.below HB.out hf hB1)
  have HZ2 := Lib.hid (Blk.below HZ.out hf hZ1)
  have HT2 := Lib.hid (Blk.below HT.out hf hT1)
  have hn2 := nu_trans hal hf
  clear HYm hf HB HZ HT hal
  generalize (w1.alloc (.cells (z4.map vb).toArray 51)).setCells w1.heap.size 0 (by4.map vb) = w2 at *
  obtain ⟨Y, hY⟩ : ∃ Y, Y = w1.heap.size := ⟨_, rfl⟩
  rw [← hY] at HY hB1 hZ1 hT1
  rw [← hY]
  have HapY := Lib.hid (show Y ≠ T from by omega)
  clear hY hB1 hZ1 hT1
  obtain ⟨M, hM⟩ : ∃ M, M = mix 14 11 13 9 b := ⟨_, rfl⟩
  have HMl := Lib.hid (show M.length = 16 by rw [hM]; exact (mix_st 14 11 13 9 (by omega) (by omega) (by omega) (by omega) b).1)
  have HMa := Lib.hid (show ∀ i, i < 16 → M[i]? = some (mixP by4 b i 4) from fun i hi => by rw [hM, mixP_four]; exact mix_get 14 11 13 9 b i hi)
  have HMe := Lib.hid hM
  clear hM
  go_wp2_with fail
  go_loopw [8] (fun i wr => ∃ k : Nat, k ≤ 16 ∧ i = .int .i64 k ∧ Blk wr B 22 (b.map vb).toArray ∧ Blk wr Y 51 (by4.map vb).toArray ∧ Blk wr T 22 ((doneF M z16n k).map vb).toArray ∧ Blk wr Z 22 (z16n.map vb).toArray ∧ Below w.heap.size w wr) (fun i _ => 16 - (intOf i).toNat)
  case atStart => exact ⟨0, by omega, rfl, HB2.out, HY.out, HT2.out, HZ2.out, hn2⟩
  case round =>
    clear HB2 HY HT2 HZ2 hn2
    obtain ⟨i, hi16, rfl, hB, hY, hT, hZ, hn⟩ := hrel
    have HB := Lib.hid hB
    have HY := Lib.hid hY
    have HT := Lib.hid hT
    have HZ := Lib.hid hZ
    clear hB hY hT hZ
    by_cases hilt : i < 16
    · have hii : (i : Int) < 16 := by omega
      have hold : (doneF M z16n i)[i]? = some 0 := by
        rw [doneF_old _ _ 16 i i HMl.out (Nat.le_refl _) hi16]
        exact z16_at i hilt
      have h0 : (doneF M z16n i) = (doneF M z16n i).set i (mixP by4 b i 0) := by
        apply List.ext_getElem?
        intro j
        rw [List.getElem?_set]
        by_cases e : i = j
        · subst e
          rw [if_pos rfl, if_pos (by rw [doneF_len M z16n 16 i HMl.out rfl hi16]; exact hilt), hold]; rfl
        · rw [if_neg e]
      have hT := HT.out
      rw [h0] at hT
      have HT1 := Lib.hid hT
      clear hT HT hold h0
      obtain ⟨wo, rfl⟩ : ∃ q : World, q = wr := ⟨_, rfl⟩
      go_wp2_with fail
      go_loopw [11] (fun q wr => ∃ k : Nat, k ≤ 4 ∧ q = .int .i64 k ∧ Blk wr B 22 (b.map vb).toArray ∧ Blk wr Y 51 (by4.map vb).toArray ∧ Blk wr T 22 (((doneF M z16n i).set i (mixP by4 b i k)).map vb).toArray ∧ Blk wr Z 22 (z16n.map vb).toArray ∧ Below w.heap.size w wr) (fun q _ => 4 - (intOf q).toNat)
      case atStart => exact ⟨0, by omega, rfl, HB.out, HY.out, HT1.out, HZ.out, hn⟩
      case round =>
        clear HB HY HT1 HZ hn
        obtain ⟨q, hq4, rfl, hB, hY, hT, hZ, hn⟩ := hrel
        have HB := Lib.hid hB
        have HY := Lib.hid hY
        have HT := Lib.hid hT
        have HZ := Lib.hid hZ
        clear hB hY hT hZ
        by_cases hqlt : q < 4
        · have hqi : (q : Int) < 4 := by omega
          obtain ⟨d, hd⟩ : ∃ d, d = i / 4 := ⟨_, rfl⟩
          have ed : (i : Int) / 4 = (d : Int) := by omega
          have etd : Int.tdiv (i : Int) 4 = (d : Int) := by rw [Int.tdiv_eq_ediv_of_nonneg (by omega)]; omega
          have w0 : IntKind.i64.wrap (d : Int) = (d : Int) := by rw [IntKind.wrap_i64]; omega
          obtain ⟨d4, hd4⟩ : ∃ d4, d4 = d * 4 := ⟨_, rfl⟩
          have w1 : IntKind.i64.wrap ((d : Int) * 4) = (d4 : Int) := by rw [IntKind.wrap_i64]; omega
          obtain ⟨j, hj⟩ : ∃ j, j = (i + q) % 4 := ⟨_, rfl⟩
          have hj4 : j < 4 := by omega
          obtain ⟨p, hp⟩ : ∃ p, p = d4 + j := ⟨_, rfl⟩
          have w3 : IntKind.i64.wrap ((d4 : Int) + (j : Int)) = (p : Int) := by rw [IntKind.wrap_i64]; omega
          have hp16 : p < 16 := by omega
          have hpi : (p : Int) < 16 := by omega
          obtain ⟨y, hy⟩ : ∃ y, y = b.getD p 0 := ⟨_, rfl⟩
          have hy8 : y < 256 := by rw [hy]; exact Hb.out.getD p
          have hyj : b[p]? = some y := by rw [hy, List.getD_eq_getElem?_getD, List.getElem?_eq_getElem (by rw [Hb.out.1]; exact hp16)]; rfl
          have cB : wr.cell? ⟨B, p, none⟩ = some (.int .u8 (y : Int)) := HB.out.at p _ (arrg_at vb _ p y hyj)
          obtain ⟨v, hv⟩ : ∃ v, v = mixP by4 b i q := ⟨_, rfl⟩
          have hv8 : v < 256 := by rw [hv]; exact mixP_lt by4 b by4_lt i q
          have hself := doneF_self M z16n 16 i v HMl.out rfl hilt
          rw [← hv] at HT
          have cT : wr.cell? ⟨T, i, none⟩ = some (.int .u8 (v : Int)) := HT.out.at i _ (arrg_at vb _ i v hself)
          have hnext : mixP by4 b i (q + 1) = v ^^^ gm (by4.getD q 0) y := by rw [mixP, ← hv, ← hd, ← hj, ← hd4, ← hp, ← hy]
          obtain ⟨v2, hv2⟩ : ∃ v2, v2 = mixP by4 b i (q + 1) := ⟨_, rfl⟩
          have hG8 : gm (by4.getD q 0) y < 256 := gm_lt _ _ (getD_lt by4_lt q)
          have hxx := u8_xor_nat v (gm (by4.getD q 0) y) hv8 hG8
          rw [← hnext, ← hv2] at hxx
          have h1 := HT.out.drew.put i (vb v2)
          rw [arrg_set, List.set_set, hv2] at h1
          have HT1 := Lib.hid h1
          rw [← hv2] at HT1
          have HB1 := Lib.hid (HB.out.drew.far (p := ⟨T, i, none⟩) Hap.out.1 (vb v2))
          have HY1 := Lib.hid (HY.out.drew.far (p := ⟨T, i, none⟩) HapY.out (vb v2))
          have HZ1 := Lib.hid (HZ.out.drew.far (p := ⟨T, i, none⟩) Hap.out.2.1 (vb v2))
          have hn1 := nu_set hn.drew (p := ⟨T, i, none⟩) Hap.out.2.2.1 (vb v2)
          have cT2 : wr.drew.cell? ⟨T, i, none⟩ = some (.int .u8 (v : Int)) := HT.out.drew.at i _ (arrg_at vb _ i v hself)
          have fT2 := HT.out.drew.free i
          simp only [vb] at HT1 HB1 HY1 HZ1 hn1
          have Hj := Lib.hid (And.intro hj hv2)
          have HD := Lib.hid (And.intro cT2 fT2)
          have HYo := Lib.hid (show ∀ (k x : Nat), by4[k]? = some x → wr.cell? ⟨Y, k, none⟩ = some (.int .u8 (x : Int)) from fun k x hx => HY.out.at k _ (arrg_at vb _ k x hx))
          have HTm := Lib.hid (show ∀ (x : Nat), x < 256 → Calls Try.prog 49 #[.int .u8 (x : Int), .int .u8 (y : Int)] wr.drew fun e w' => e = .returned (.int .u8 ((gm x y : Nat) : Int)) ∧ w' = wr.drew from fun x hx => (times_any x y hx hy8 wr.drew).mono fun _ _ h => ⟨h.1, h.2.symm⟩)
          clear hd hd4 hj hp hy hv hnext hself h1 HT HB HY HZ hn cT2 fT2 hyj hp16 hv2 hG8
          have Hq := Lib.hid (show q = 0 ∨ q = 1 ∨ q = 2 ∨ q = 3 by omega)
          rcases Hq.out with rfl | rfl | rfl | rfl
          · rw [show ((0 : Nat) : Int) = 0 from rfl]
            have ei : (i : Int) % 4 = (j : Int) := by have := Hj.out.1; omega
            have eit : Int.tmod (i : Int) 4 = (j : Int) := by have := Hj.out.1; rw [Int.tmod_eq_emod_of_nonneg (by omega)]; omega
            have wi : IntKind.i64.wrap (i : Int) = (i : Int) := by rw [IntKind.wrap_i64]; omega
            have cY : wr.cell? ⟨Y, 0, none⟩ = some (.int .u8 14) := HYo.out 0 14 rfl
            have hTm := HTm.out 14 (by omega)
            rw [show ((14 : Nat) : Int) = 14 from rfl] at hTm
            change bits .xor .u8 (v : Int) ((gm 14 y : Nat) : Int) = (v2 : Int) at hxx
            generalize gm 14 y = G at *
            have HTq := Lib.hid hTm
            clear HYo HTm hTm
            go_upto_region 9 with fail
            go_still_tail 19, (by kernel_rfl)
            still_call HTq.out
            repeat still_step
            refine wpStill_nil ?_
            change wpList _ _ _ _ _ wr.drew
            clear cT cB cY HTq hxx hqi
            obtain ⟨cT2, fT2⟩ := HD.out
            clear HD
            generalize wr.drew = w6 at *
            go_wp2_with fail
            clear cT2 fT2
            generalize w6.setCell ⟨T, i, none⟩ (.int .u8 (v2 : Int)) = w7 at *
            go_roundw
            case rel =>
              have hT1 := HT1.out
              rw [Hj.out.2] at hT1
              first | exact ⟨1, by omega, by first | rfl | go_num, HB1.out, HY1.out, hT1, HZ1.out, hn1⟩ | ((repeat apply Exists.intro); exact ⟨⟨1, by omega, by first | rfl | go_num, HB1.out, HY1.out, hT1, HZ1.out, hn1⟩, rfl⟩)
            case measure => simp [intOf]
          · rw [show ((1 : Nat) : Int) = 1 from rfl]
            have ei : ((i : Int) + 1) % 4 = (j : Int) := by have := Hj.out.1; omega
            have eit : Int.tmod ((i : Int) + 1) 4 = (j : Int) := by have := Hj.out.1; rw [Int.tmod_eq_emod_of_nonneg (by omega)]; omega
            have wi : IntKind.i64.wrap ((i : Int) + 1) = (i : Int) + 1 := by rw [IntKind.wrap_i64]; omega
            have cY : wr.cell? ⟨Y, 1, none⟩ = some (.int .u8 11) := HYo.out 1 11 rfl
            have hTm := HTm.out 11 (by omega)
            rw [show ((11 : Nat) : Int) = 11 from rfl] at hTm
            change bits .xor .u8 (v : Int) ((gm 11 y : Nat) : Int) = (v2 : Int) at hxx
            generalize gm 11 y = G at *
            have HTq := Lib.hid hTm
            clear HYo HTm hTm
            go_upto_region 9 with fail
            go_still_tail 19, (by kernel_rfl)
            still_call HTq.out
            repeat still_step
            refine wpStill_nil ?_
            change wpList _ _ _ _ _ wr.drew
            clear cT cB cY HTq hxx hqi
            obtain ⟨cT2, fT2⟩ := HD.out
            clear HD
            generalize wr.drew = w6 at *
            go_wp2_with fail
            clear cT2 fT2
            generalize w6.setCell ⟨T, i, none⟩ (.int .u8 (v2 : Int)) = w7 at *
            go_roundw
            case rel =>
              have hT1 := HT1.out
              rw [Hj.out.2] at hT1
              first | exact ⟨2, by omega, by first | rfl | go_num, HB1.out, HY1.out, hT1, HZ1.out, hn1⟩ | ((repeat apply Exists.intro); exact ⟨⟨2, by omega, by first | rfl | go_num, HB1.out, HY1.out, hT1, HZ1.out, hn1⟩, rfl⟩)
            case measure => simp [intOf]
          · rw [show ((2 : Nat) : Int) = 2 from rfl]
            have ei : ((i : Int) + 2) % 4 = (j : Int) := by have := Hj.out.1; omega
            have eit : Int.tmod ((i : Int) + 2) 4 = (j : Int) := by have := Hj.out.1; rw [Int.tmod_eq_emod_of_nonneg (by omega)]; omega
            have wi : IntKind.i64.wrap ((i : Int) + 2) = (i : Int) + 2 := by rw [IntKind.wrap_i64]; omega
            have cY : wr.cell? ⟨Y, 2, none⟩ = some (.int .u8 13) := HYo.out 2 13 rfl
            have hTm := HTm.out 13 (by omega)
            rw [show ((13 : Nat) : Int) = 13 from rfl] at hTm
            change bits .xor .u8 (v : Int) ((gm 13 y : Nat) : Int) = (v2 : Int) at hxx
            generalize gm 13 y = G at *
            have HTq := Lib.hid hTm
            clear HYo HTm hTm
            go_upto_region 9 with fail
            go_still_tail 19, (by kernel_rfl)
            still_call HTq.out
            repeat still_step
            refine wpStill_nil ?_
            change wpList _ _ _ _ _ wr.drew
            clear cT cB cY HTq hxx hqi
            obtain ⟨cT2, fT2⟩ := HD.out
            clear HD
            generalize wr.drew = w6 at *
            go_wp2_with fail
            clear cT2 fT2
            generalize w6.setCell ⟨T, i, none⟩ (.int .u8 (v2 : Int)) = w7 at *
            go_roundw
            case rel =>
              have hT1 := HT1.out
              rw [Hj.out.2] at hT1
              first | exact ⟨3, by omega, by first | rfl | go_num, HB1.out, HY1.out, hT1, HZ1.out, hn1⟩ | ((repeat apply Exists.intro); exact ⟨⟨3, by omega, by first | rfl | go_num, HB1.out, HY1.out, hT1, HZ1.out, hn1⟩, rfl⟩)
            case measure => simp [intOf]
          · rw [show ((3 : Nat) : Int) = 3 from rfl]
            have ei : ((i : Int) + 3) % 4 = (j : Int) := by have := Hj.out.1; omega
            have eit : Int.tmod ((i : Int) + 3) 4 = (j : Int) := by have := Hj.out.1; rw [Int.tmod_eq_emod_of_nonneg (by omega)]; omega
            have wi : IntKind.i64.wrap ((i : Int) + 3) = (i : Int) + 3 := by rw [IntKind.wrap_i64]; omega
            have cY : wr.cell? ⟨Y, 3, none⟩ = some (.int .u8 9) := HYo.out 3 9 rfl
            have hTm := HTm.out 9 (by omega)
            rw [show ((9 : Nat) : Int) = 9 from rfl] at hTm
            change bits .xor .u8 (v : Int) ((gm 9 y : Nat) : Int) = (v2 : Int) at hxx
            generalize gm 9 y = G at *
            have HTq := Lib.hid hTm
            clear HYo HTm hTm
            go_upto_region 9 with fail
            go_still_tail 19, (by kernel_rfl)
            still_call HTq.out
            repeat still_step
            refine wpStill_nil ?_
            change wpList _ _ _ _ _ wr.drew
            clear cT cB cY HTq hxx hqi
            obtain ⟨cT2, fT2⟩ := HD.out
            clear HD
            generalize wr.drew = w6 at *
            go_wp2_with fail
            clear cT2 fT2
            generalize w6.setCell ⟨T, i, none⟩ (.int .u8 (v2 : Int)) = w7 at *
            go_roundw
            case rel =>
              have hT1 := HT1.out
              rw [Hj.out.2] at hT1
              first | exact ⟨4, by omega, by first | rfl | go_num, HB1.out, HY1.out, hT1, HZ1.out, hn1⟩ | ((repeat apply Exists.intro); exact ⟨⟨4, by omega, by first | rfl | go_num, HB1.out, HY1.out, hT1, HZ1.out, hn1⟩, rfl⟩)
            case measure => simp [intOf]
        · obtain rfl : q = 4 := by omega
          have hT := HT.out
          rw [doneF_set _ _ 16 i _ HMl.out rfl hilt (HMa.out i hilt)] at hT
          have HT2 := Lib.hid hT
          clear hT HT
          go_wp2_with fail
          go_roundw
          case rel => first | exact ⟨i + 1, by omega, by go_num, HB.out, HY.out, HT2.out, HZ.out, hn⟩ | ((repeat apply Exists.intro); exact ⟨⟨i + 1, by omega, by go_num, HB.out, HY.out, HT2.out, HZ.out, hn⟩, rfl⟩)
          case measure => simp [intOf]; omega
    · obtain rfl : i = 16 := by omega
      have hT := HT.out
      rw [doneF_all _ _ 16 HMl.out rfl] at hT
      obtain ⟨D, hD⟩ : ∃ D, D = M.map vb := ⟨_, rfl⟩
      rw [← hD] at hT
      have HT2 := Lib.hid hT
      have HD16 := Lib.hid (show D.length = 16 by rw [hD, List.length_map, HMl.out])
      have HD1 := Lib.hid (show ∀ u ∈ D, u.oneCell' = true by rw [hD]; exact vb_one _)
      have HDe := Lib.hid hD
      have HF := Lib.hid (Blk.fill HZ.out D (by rw [HD16.out]; rfl))
      have Hnf := Lib.hid (nu_fill D (g := Z) Hap.out.2.2.2 0 _ hn)
      clear hT HT hD hn
      go_wp2_with (first | (refine wpList_load_blk rfl 22 (.tmp 3) rfl T rfl 22 D.toArray HT2.out Try.underlying22 (by rw [List.size_toArray, HD16.out]; kernel_rfl) ?_) | (refine wpList_store_blk rfl 22 (.tmp 2) (.tmp 35) rfl Z D rfl rfl 22 (z16n.map vb).toArray HZ.out (by rw [HD16.out]; rfl) (by rw [HD16.out]; kernel_rfl) HD1.out ?_))
      refine bodyPost_ret (results_blk rfl _ Z 22 D.toArray rfl HF.out Try.underlying22 (by rw [List.size_toArray, HD16.out]; kernel_rfl)) rfl ⟨by rw [HDe.out, ← HMe.out], Hnf.out⟩
end Go.Proofs.Ytnojbjconiddoaa

namespace Go.Proofs.Ytnojbjconiddoaa
open Go.ChangeShapes Go.WideShapes Go.ChangeAt Go.RowKit Fld Aes
set_option linter.unusedSimpArgs false

set_option maxRecDepth 100000 in
set_option maxHeartbeats 8000000 in
theorem decrypt_any {w : World} {C R : Nat} {W : List Nat} (hC : CiphAt w C W R) (hW : Small W) (hR0 : 0 < R) (hR : R ≤ 14) (hWl : W.length = 4 * (R + 1)) (b : List Nat) (hb : St16 b) :
    Calls Try.prog 32 #[.pointer (some ⟨C, 0, none⟩), .agg (b.map vb).toArray] w fun e w' => e = .returned (.agg ((dec W R b).map vb).toArray) ∧ Below w.heap.size w w' := by
  have HCi := Lib.hid hC
  obtain ⟨x, m, c, cur, hc, hm, htk, hbx, hxl, hlc, hcm⟩ := hC
  have HC1 := Lib.hid (Blk.at hc 1 _ rfl)
  have HC2 := Lib.hid (Blk.at hc 2 _ rfl)
  have c1w := HC1.out
  have hCl := hc.lt
  have Hb := Lib.hid hb
  have HW := Lib.hid hW
  have HWl := Lib.hid hWl
  have HBx := Lib.hid (And.intro hbx hxl)
  have hal := nu_alloc (nu_alloc (nu_refl w) (.cells (b.map vb).toArray 22)) (.cells (z16n.map vb).toArray 22)
  have HB := Lib.hid ((Blk.made w 22 (b.map vb).toArray).alloc (.cells (z16n.map vb).toArray 22))
  have HZ := Lib.hid (Blk.made1 w (.cells (b.map vb).toArray 22) 22 (z16n.map vb).toArray)
  clear hc hm htk hb hW hWl hbx hlc hcm c1w
  go_enter Try.func32, Try.ntmps32
  go_upto_region 1 with fail
  change Code.wp _ _ _ _ ((w.alloc (.cells (b.map vb).toArray 22)).alloc (.cells (z16n.map vb).toArray 22))
  generalize ((w.alloc (.cells (b.map vb).toArray 22)).alloc (.cells (z16n.map vb).toArray 22)) = w1 at *
  obtain ⟨Z, hZ⟩ : ∃ Z, Z = w.heap.size + 1 := ⟨_, rfl⟩
  obtain ⟨B, hB⟩ : ∃ B, B = w.heap.size := ⟨_, rfl⟩
  rw [← hZ] at HZ
  rw [← hB] at HB
  rw [← hZ, ← hB]
  have Hap := Lib.hid (show B ≠ Z ∧ w.heap.size ≤ Z ∧ w.heap.size ≤ B from ⟨by omega, by omega, by omega⟩)
  clear hZ hB
  have c1w : w1.cell? ⟨C, 1, none⟩ = some (.int .i64 (R : Int)) := (hal.cell (p := ⟨C, 1, none⟩) hCl).trans HC1.out
  go_wp2_with fail
  clear c1w
  go_loopw [5] (fun i wr => ∃ k : Nat, k ≤ R ∧ i = .int .i64 ((R - k : Nat) : Int) ∧ Blk wr B 22 ((decF W R k b).map vb).toArray ∧ Blk wr Z 22 (z16n.map vb).toArray ∧ Below w.heap.size w wr) (fun i _ => (intOf i).toNat)
  case atStart => exact ⟨0, by omega, rfl, HB.out, HZ.out, hal⟩
  case round =>
    clear HB HZ hal
    obtain ⟨k, hk, rfl, hB, hZ, hn⟩ := hrel
    obtain ⟨st, hst⟩ : ∃ st, st = decF W R k b := ⟨_, rfl⟩
    have hst16 : St16 st := by rw [hst]; exact decF_st Hb.out W R k
    rw [← hst] at hB
    obtain ⟨rd, hrd⟩ : ∃ rd, rd = R - k := ⟨_, rfl⟩
    rw [← hrd]
    have HB := Lib.hid hB
    have HZ := Lib.hid hZ
    have Hst := Lib.hid hst
    have Hst16 := Lib.hid hst16
    have hrdR : rd ≤ R := by omega
    have Hrd := Lib.hid (show rd + k = R from by omega)
    have hr0 : (0 : Int) ≤ (rd : Int) := by omega
    have HL := Lib.hid (load_any (HCi.out.below hn) HW.out rd (by have := HWl.out; omega) (by omega) st hst16)
    have Hsl := Lib.hid (show (st.map vb).toArray.size = 16 by rw [List.size_toArray, List.length_map, hst16.1])
    have hB1 := hB.lt
    have hZ1 := hZ.lt
    clear hB hZ hst hst16 hrd
    obtain ⟨wo, rfl⟩ : ∃ q : World, q = wr := ⟨_, rfl⟩
    go_wp2_with (refine wpList_load_blk rfl 22 (.tmp 3) rfl B rfl 22 (st.map vb).toArray HB.out Try.underlying22 (by rw [Hsl.out]; kernel_rfl) ?_)
    refine HL.out.mono ?_
    rintro e w2 ⟨rfl, hb2⟩
    clear hr0
    rw [loadL_eq Hst16.out HW.out rd]
    obtain ⟨a, ha⟩ : ∃ a, a = addK W rd st := ⟨_, rfl⟩
    have Ha16 := Lib.hid (show St16 a by rw [ha]; exact addK_st Hst16.out W rd)
    have HAa := Lib.hid (show ∀ i, i < 16 → a[i]? = some (wb ((cols a).getD (i / 4) 0) (i % 4)) from fun i hi => by rw [ha]; exact addK_get Hst16.out HW.out rd i hi)
    rw [← ha]
    obtain ⟨s, hs⟩ : ∃ s, s = cols a := ⟨_, rfl⟩
    rw [← hs] at HAa
    rw [← hs]
    have Hs4 := Lib.hid (show s.length = 4 by rw [hs]; exact cols_len _)
    have Hsm := Lib.hid (show ∀ j, j < 4 → s.getD j 0 < 4294967296 from fun j hj => by rw [hs, cols_getD a j hj]; exact colOf_lt Ha16.out j)
    have Hae := Lib.hid ha
    have hB2 : B < w2.heap.size := Nat.lt_of_lt_of_le hB1 hb2.size
    have hZ2 : Z < w2.heap.size := Nat.lt_of_lt_of_le hZ1 hb2.size
    have HB2 := Lib.hid (Blk.below HB.out hb2 hB1)
    have HZ2 := Lib.hid (Blk.below HZ.out hb2 hZ1)
    have Hn2 := Lib.hid (nu_trans hn hb2)
    have HSm := Lib.hid (Blk.made w2 86 (z4.map uv).toArray)
    have HS3 := Lib.hid (Blk.fill HSm.out (s.map uv) (by rw [List.length_map, Hs4.out]; rfl))
    have hf := nu_fill (a := w2) (s.map uv) (g := w2.heap.size) (Nat.le_refl _) 0 _ (nu_alloc (nu_refl w2) (.cells (z4.map uv).toArray 86))
    clear hs ha hb2 hn HB HZ HL hB1 hZ1
    go_upto_region 7 with (refine wpList_store_blk rfl 86 (.tmp 6) (.tmp 24) rfl w2.heap.size (s.map uv) rfl rfl 86 (z4.map uv).toArray HSm.out (by rw [List.length_map, Hs4.out]; rfl) (by rw [List.length_map, Hs4.out]; kernel_rfl) (uv_one _) ?_)
    change Code.wp _ _ _ _ ((w2.alloc (.cells (z4.map uv).toArray 86)).setCells w2.heap.size 0 (s.map uv))
    have HB3 := Lib.hid (Blk.below HB2.out hf hB2)
    have HZ3 := Lib.hid (Blk.below HZ2.out hf hZ2)
    have Hn3 := Lib.hid (nu_trans Hn2.out hf)
    have hsw := Hn2.out.size
    clear HSm hf HB2 HZ2 Hn2
    generalize (w2.alloc (.cells (z4.map uv).toArray 86)).setCells w2.heap.size 0 (s.map uv) = w3 at *
    obtain ⟨S, hS⟩ : ∃ S, S = w2.heap.size := ⟨_, rfl⟩
    rw [← hS] at HS3 hB2 hZ2 hsw
    rw [← hS]
    clear hS
    go_wp2_with fail
    go_loopw [25] (fun i wr => ∃ k : Nat, k ≤ 16 ∧ i = .int .i64 k ∧ Blk wr B 22 ((doneF a st k).map vb).toArray ∧ Blk wr S 86 (s.map uv).toArray ∧ Blk wr Z 22 (z16n.map vb).toArray ∧ Below w.heap.size w wr) (fun i _ => 16 - (intOf i).toNat)
    case atStart => exact ⟨0, by omega, rfl, HB3.out, HS3.out, HZ3.out, Hn3.out⟩
    case round =>
      clear HS3 HZ3 HB3 Hn3
      obtain ⟨i, hi16, rfl, hB, hS, hZ, hn⟩ := hrel
      have HB := Lib.hid hB
      have HS := Lib.hid hS
      have HZ := Lib.hid hZ
      clear hB hS hZ
      by_cases hilt : i < 16
      · have hii : (i : Int) < 16 := by omega
        obtain ⟨q, hq⟩ : ∃ q, q = i / 4 := ⟨_, rfl⟩
        obtain ⟨r, hr⟩ : ∃ r, r = i % 4 := ⟨_, rfl⟩
        have ek : (i : Int) / 4 = (q : Int) := by omega
        have em : (i : Int) % 4 = (r : Int) := by omega
        have hq4 : q < 4 := by omega
        have hqi : (q : Int) < 4 := by omega
        obtain ⟨y, hy⟩ : ∃ y, y = s.getD q 0 := ⟨_, rfl⟩
        have hy32 : y < 4294967296 := by rw [hy]; exact Hsm.out q hq4
        have hsq : s[q]? = some y := by rw [hy, List.getD_eq_getElem?_getD, List.getElem?_eq_getElem (by rw [Hs4.out]; exact hq4)]; rfl
        have cS : wr.cell? ⟨S, q, none⟩ = some (.int .u32 (y : Int)) := HS.out.at q _ (arrg_at uv _ q y hsq)
        obtain ⟨v, hv⟩ : ∃ v, v = wb y r := ⟨_, rfl⟩
        have hai := HAa.out i hilt
        rw [← hq, ← hr, ← hy, ← hv] at hai
        obtain ⟨o, ho⟩ : ∃ o, st[i]? = some o := ⟨_, List.getElem?_eq_getElem (by rw [Hst16.out.1]; exact hilt)⟩
        have hold : (doneF a st i)[i]? = some o := by rw [doneF_old _ _ 16 i i Ha16.out.1 (Nat.le_refl _) hi16, ho]
        have cB : wr.cell? ⟨B, i, none⟩ = some (.int .u8 (o : Int)) := HB.out.at i _ (arrg_at vb _ i o hold)
        have fB := HB.out.free i
        have h1 := HB.out.put i (vb v)
        rw [arrg_set, doneF_set _ _ 16 i v Ha16.out.1 Hst16.out.1 hilt hai] at h1
        have HB1 := Lib.hid h1
        have HS1 := Lib.hid (HS.out.far (p := ⟨B, i, none⟩) (Nat.ne_of_gt hB2) (vb v))
        have HZ1 := Lib.hid (HZ.out.far (p := ⟨B, i, none⟩) (Ne.symm Hap.out.1) (vb v))
        have hn1 := nu_set hn (p := ⟨B, i, none⟩) Hap.out.2.2 (vb v)
        simp only [vb] at HB1 HS1 HZ1 hn1
        have Hv := Lib.hid hv
        have Hr := Lib.hid (show r = 0 ∨ r = 1 ∨ r = 2 ∨ r = 3 by omega)
        clear hq hr hy hv hai ho hold h1 HB HS HZ hn hsq
        rcases Hr.out with rfl | rfl | rfl | rfl
        · rw [show ((0 : Nat) : Int) = 0 from rfl] at em
          have ea : (y : Int) / 16777216 = (v : Int) := by have h := Hv.out; simp only [wb] at h; omega
          have ez : IntKind.u8.wrap ((y : Int) / 16777216) = (v : Int) := by have h := Hv.out; simp only [wb] at h; rw [IntKind.wrap_u8]; omega
          go_wp2_with fail
          clear cS cB fB ek em hqi
          try rw [ea]
          clear ea ez
          generalize wr.setCell ⟨B, i, none⟩ (.int .u8 (v : Int)) = w7 at *
          go_roundw
          case rel => first | exact ⟨i + 1, by omega, by go_num, HB1.out, HS1.out, HZ1.out, hn1⟩ | ((repeat apply Exists.intro); exact ⟨⟨i + 1, by omega, by go_num, HB1.out, HS1.out, HZ1.out, hn1⟩, rfl⟩)
          case measure => simp [intOf]; omega
        · rw [show ((1 : Nat) : Int) = 1 from rfl] at em
          have ea : (y : Int) / 65536 % 256 = (v : Int) := by have h := Hv.out; simp only [wb] at h; omega
          have ez : IntKind.u8.wrap ((y : Int) / 65536) = (v : Int) := by have h := Hv.out; simp only [wb] at h; rw [IntKind.wrap_u8]; omega
          go_wp2_with fail
          clear cS cB fB ek em hqi
          try rw [ea]
          clear ea ez
          generalize wr.setCell ⟨B, i, none⟩ (.int .u8 (v : Int)) = w7 at *
          go_roundw
          case rel => first | exact ⟨i + 1, by omega, by go_num, HB1.out, HS1.out, HZ1.out, hn1⟩ | ((repeat apply Exists.intro); exact ⟨⟨i + 1, by omega, by go_num, HB1.out, HS1.out, HZ1.out, hn1⟩, rfl⟩)
          case measure => simp [intOf]; omega
        · rw [show ((2 : Nat) : Int) = 2 from rfl] at em
          have ea : (y : Int) / 256 % 256 = (v : Int) := by have h := Hv.out; simp only [wb] at h; omega
          have ez : IntKind.u8.wrap ((y : Int) / 256) = (v : Int) := by have h := Hv.out; simp only [wb] at h; rw [IntKind.wrap_u8]; omega
          go_wp2_with fail
          clear cS cB fB ek em hqi
          try rw [ea]
          clear ea ez
          generalize wr.setCell ⟨B, i, none⟩ (.int .u8 (v : Int)) = w7 at *
          go_roundw
          case rel => first | exact ⟨i + 1, by omega, by go_num, HB1.out, HS1.out, HZ1.out, hn1⟩ | ((repeat apply Exists.intro); exact ⟨⟨i + 1, by omega, by go_num, HB1.out, HS1.out, HZ1.out, hn1⟩, rfl⟩)
          case measure => simp [intOf]; omega
        · rw [show ((3 : Nat) : Int) = 3 from rfl] at em
          have ea : (y : Int) % 256 = (v : Int) := by have h := Hv.out; simp only [wb] at h; omega
          have ez : IntKind.u8.wrap ((y : Int)) = (v : Int) := by have h := Hv.out; simp only [wb] at h; rw [IntKind.wrap_u8]; omega
          go_wp2_with fail
          clear cS cB fB ek em hqi
          try rw [ea]
          clear ea ez
          generalize wr.setCell ⟨B, i, none⟩ (.int .u8 (v : Int)) = w7 at *
          go_roundw
          case rel => first | exact ⟨i + 1, by omega, by go_num, HB1.out, HS1.out, HZ1.out, hn1⟩ | ((repeat apply Exists.intro); exact ⟨⟨i + 1, by omega, by go_num, HB1.out, HS1.out, HZ1.out, hn1⟩, rfl⟩)
          case measure => simp [intOf]; omega
      · obtain rfl : i = 16 := by omega
        have hB := HB.out
        rw [doneF_all _ _ 16 Ha16.out.1 Hst16.out.1] at hB
        have HBa := Lib.hid hB
        clear hB HB HS
        by_cases hrz : rd = 0
        · subst hrz
          obtain ⟨D, hD⟩ : ∃ D, D = a.map vb := ⟨_, rfl⟩
          have hB := HBa.out
          rw [← hD] at hB
          have HB2 := Lib.hid hB
          have HD16 := Lib.hid (show D.length = 16 by rw [hD, List.length_map, Ha16.out.1])
          have HD1 := Lib.hid (show ∀ u ∈ D, u.oneCell' = true by rw [hD]; exact vb_one _)
          have HDe := Lib.hid (show D = (dec W R b).map vb by
            rw [hD, Hae.out, Hst.out, show k = R from by have := Hrd.out; omega]; rfl)
          have HF := Lib.hid (Blk.fill HZ.out D (by rw [HD16.out]; rfl))
          have Hnf := Lib.hid (nu_fill D (g := Z) Hap.out.2.1 0 _ hn)
          clear hB hD hn HBa
          go_wp2_with (first | (refine wpList_load_blk rfl 22 (.tmp 3) rfl B rfl 22 D.toArray HB2.out Try.underlying22 (by rw [List.size_toArray, HD16.out]; kernel_rfl) ?_) | (refine wpList_store_blk rfl 22 (.tmp 4) (.tmp 75) rfl Z D rfl rfl 22 (z16n.map vb).toArray HZ.out (by rw [HD16.out]; rfl) (by rw [HD16.out]; kernel_rfl) HD1.out ?_))
          refine bodyPost_ret (results_blk rfl _ Z 22 D.toArray rfl HF.out Try.underlying22 (by rw [List.size_toArray, HD16.out]; kernel_rfl)) rfl ⟨by rw [HDe.out], Hnf.out⟩
        · have hrzb : ((rd : Int) == 0) = false := by rw [beq_eq_false_iff_ne]; omega
          have c1 : wr.cell? ⟨C, 1, none⟩ = some (.int .i64 (R : Int)) := (hn.cell (p := ⟨C, 1, none⟩) hCl).trans HC1.out
          obtain ⟨g, hg⟩ : ∃ g, g = if k = 0 then a else mix 14 11 13 9 a := ⟨_, rfl⟩
          have Hg16 := Lib.hid (show St16 g by
            rw [hg]
            split
            · exact Ha16.out
            · exact mix_st 14 11 13 9 (by omega) (by omega) (by omega) (by omega) a)
          have Hge := Lib.hid (show decF W R (k + 1) b = unsub g by
            rw [decF_succ, hg, Hae.out, Hst.out]
            by_cases hk0 : k = 0
            · subst hk0
              rw [if_pos rfl, if_pos rfl, show rd = R from by have := Hrd.out; omega]; rfl
            · rw [if_neg hk0, if_neg hk0, show R - k = rd from by have := Hrd.out; omega])
          go_upto_if 48 with fail
          clear c1
          go_cut [5] (fun s5 wx => s5 = .int .i64 (rd : Int) ∧ Blk wx B 22 (g.map vb).toArray ∧ Blk wx Z 22 (z16n.map vb).toArray ∧ Below w.heap.size w wx)
          case first =>
            by_cases hk0 : k = 0
            · have hlt : ¬ (rd : Int) < (R : Int) := by have := Hrd.out; omega
              rw [if_pos hk0] at hg
              go_wp2_with fail
              go_meet
              exact ⟨rfl, by rw [hg]; exact HBa.out, HZ.out, hn⟩
            · have hlt : (rd : Int) < (R : Int) := by have := Hrd.out; omega
              rw [if_neg hk0] at hg
              have HU := Lib.hid (unmixed_any (w := wr) a Ha16.out)
              have Hal := Lib.hid (show (a.map vb).toArray.size = 16 by rw [List.size_toArray, List.length_map, Ha16.out.1])
              rw [← hg] at HU
              clear hg
              obtain ⟨wo, rfl⟩ : ∃ q : World, q = wr := ⟨_, rfl⟩
              go_wp2_with (refine wpList_load_blk rfl 22 (.tmp 3) rfl B rfl 22 (a.map vb).toArray HBa.out Try.underlying22 (by rw [Hal.out]; kernel_rfl) ?_)
              refine HU.out.mono ?_
              rintro e w4 ⟨rfl, hb4⟩
              have HB4 := Lib.hid (Blk.below HBa.out hb4 HBa.out.lt)
              have HZ4 := Lib.hid (Blk.below HZ.out hb4 HZ.out.lt)
              have Hgl := Lib.hid (show (g.map vb).length = 16 by rw [List.length_map, Hg16.out.1])
              have HF := Lib.hid (Blk.fill HB4.out (g.map vb) (by rw [Hgl.out, Hal.out]))
              have HZf := Lib.hid (HZ4.out.farCells (g.map vb) Hap.out.1.symm 0)
              have Hnf := Lib.hid (nu_fill (g.map vb) (g := B) Hap.out.2.2 0 _ (nu_trans hn hb4))
              clear hb4 HBa HZ hn
              go_wp2_with (refine wpList_store_blk rfl 22 (.tmp 3) (.tmp 50) rfl B (g.map vb) rfl rfl 22 (a.map vb).toArray HB4.out (by rw [Hgl.out, Hal.out]) (by rw [Hgl.out]; kernel_rfl) (vb_one _) ?_)
              go_meet
              exact ⟨rfl, HF.out, HZf.out, Hnf.out⟩
          case rest =>
            obtain ⟨rfl, hB, hZ, hn4⟩ := hcut
            clear hg HBa HZ hn
            have hn := hn4
            clear hn4
            have HB := Lib.hid hB
            have HZ := Lib.hid hZ
            clear hB hZ
            have HT := Lib.hid (Blk.made wc 22 (z16n.map vb).toArray)
            have hal := nu_alloc (nu_refl wc) (.cells (z16n.map vb).toArray 22)
            have HB1 := Lib.hid (HB.out.below hal HB.out.lt)
            have HZ1 := Lib.hid (HZ.out.below hal HZ.out.lt)
            have hn1 := nu_trans hn hal
            have HapT := Lib.hid (show B ≠ wc.heap.size ∧ Z ≠ wc.heap.size ∧ w.heap.size ≤ wc.heap.size from ⟨Nat.ne_of_lt HB.out.lt, Nat.ne_of_lt HZ.out.lt, hn.size⟩)
            clear hal HB HZ hn
            go_upto_region 16 with fail
            change Code.wp _ _ _ _ (wc.alloc (.cells (z16n.map vb).toArray 22))
            generalize wc.alloc (.cells (z16n.map vb).toArray 22) = w5 at *
            obtain ⟨T, hT⟩ : ∃ T, T = wc.heap.size := ⟨_, rfl⟩
            rw [← hT] at HT HapT
            rw [← hT]
            clear hT
            go_wp2_with fail
            go_loopw [51] (fun i wr => ∃ k : Nat, k ≤ 16 ∧ i = .int .i64 k ∧ Blk wr T 22 ((unsubF g k).map vb).toArray ∧ Blk wr B 22 (g.map vb).toArray ∧ Blk wr Z 22 (z16n.map vb).toArray ∧ Below w.heap.size w wr) (fun i _ => 16 - (intOf i).toNat)
            case atStart => exact ⟨0, by omega, rfl, HT.out, HB1.out, HZ1.out, hn1⟩
            case round =>
              clear HT HB1 HZ1 hn1
              obtain ⟨i, hi16, rfl, hT, hB, hZ, hn⟩ := hrel
              have HT := Lib.hid hT
              have HB := Lib.hid hB
              have HZ := Lib.hid hZ
              clear hT hB hZ
              by_cases hilt : i < 16
              · have hii : (i : Int) < 16 := by omega
                obtain ⟨q, hq⟩ : ∃ q, q = i / 4 := ⟨_, rfl⟩
                obtain ⟨r, hr⟩ : ∃ r, r = i % 4 := ⟨_, rfl⟩
                have ek : (i : Int) / 4 = (q : Int) := by omega
                have em : (i : Int) % 4 = (r : Int) := by omega
                have etq : Int.tdiv (i : Int) 4 = (q : Int) := by rw [Int.tdiv_eq_ediv_of_nonneg (by omega)]; omega
                have etr : Int.tmod (i : Int) 4 = (r : Int) := by rw [Int.tmod_eq_emod_of_nonneg (by omega)]; omega
                have wq : IntKind.i64.wrap (q : Int) = (q : Int) := by rw [IntKind.wrap_i64]; omega
                obtain ⟨qr, hqr⟩ : ∃ qr, qr = q + r := ⟨_, rfl⟩
                have wqr : IntKind.i64.wrap ((q : Int) + (r : Int)) = (qr : Int) := by rw [IntKind.wrap_i64]; omega
                obtain ⟨j, hj⟩ : ∃ j, j = qr % 4 := ⟨_, rfl⟩
                have ej : (qr : Int) % 4 = (j : Int) := by omega
                have etj : Int.tmod (qr : Int) 4 = (j : Int) := by rw [Int.tmod_eq_emod_of_nonneg (by omega)]; omega
                obtain ⟨j4, hj4⟩ : ∃ j4, j4 = 4 * j := ⟨_, rfl⟩
                have w4 : IntKind.i64.wrap (4 * (j : Int)) = (j4 : Int) := by rw [IntKind.wrap_i64]; omega
                obtain ⟨p, hp⟩ : ∃ p, p = j4 + r := ⟨_, rfl⟩
                have w5 : IntKind.i64.wrap ((j4 : Int) + (r : Int)) = (p : Int) := by rw [IntKind.wrap_i64]; omega
                have hpt : p = toPos i := by unfold toPos; omega
                have hpi : (p : Int) < 16 := by have := toPos_lt i; omega
                obtain ⟨y, hy⟩ : ∃ y, y = g.getD i 0 := ⟨_, rfl⟩
                have hy8 : y < 256 := by rw [hy]; exact Hg16.out.getD i
                have hyi : g[i]? = some y := by rw [hy, List.getD_eq_getElem?_getD, List.getElem?_eq_getElem (by rw [Hg16.out.1]; exact hilt)]; rfl
                have cB : wr.cell? ⟨B, i, none⟩ = some (.int .u8 (y : Int)) := HB.out.at i _ (arrg_at vb _ i y hyi)
                have cC2 : wr.cell? ⟨C, 2, none⟩ = some (.pointer (some ⟨x, 0, none⟩)) := (hn.cell (p := ⟨C, 2, none⟩) hCl).trans HC2.out
                have HBw := Lib.hid (show BoxAt wr x from HBx.out.1.below hn HBx.out.2)
                have HBk := Lib.hid (boxAt_back (w := wr.drew) (show BoxAt wr.drew x from HBw.out) y hy8)
                obtain ⟨v, hv⟩ := unsubF_at g i
                rw [← hpt] at hv
                obtain ⟨z, hz⟩ : ∃ z, z = bs y := ⟨_, rfl⟩
                rw [← hz] at HBk
                have cT2 : wr.drew.cell? ⟨T, p, none⟩ = some (.int .u8 (v : Int)) := HT.out.drew.at p _ (arrg_at vb _ p v hv)
                have fT2 := HT.out.drew.free p
                have h1 := HT.out.drew.put p (vb z)
                rw [arrg_set, show (unsubF g i).set p z = unsubF g (i + 1) by rw [unsubF, ← hpt, ← hy, ← hz]] at h1
                have HT1 := Lib.hid h1
                have HB1 := Lib.hid (HB.out.drew.far (p := ⟨T, p, none⟩) HapT.out.1 (vb z))
                have HZ1 := Lib.hid (HZ.out.drew.far (p := ⟨T, p, none⟩) HapT.out.2.1 (vb z))
                have hn1 := nu_set hn.drew (p := ⟨T, p, none⟩) HapT.out.2.2 (vb z)
                simp only [vb] at HT1 HB1 HZ1 hn1
                have HD := Lib.hid (And.intro cT2 fT2)
                clear hq hr hqr hj hj4 hp hpt hy hyi hv hz cT2 fT2 h1 HT HB HZ hn
                go_upto_region 19 with fail
                go_still_tail 19, (by kernel_rfl)
                still_call HBk.out
                repeat still_step
                refine wpStill_nil ?_
                change wpList _ _ _ _ _ wr.drew
                clear cB cC2 HBk HBw hpi ek em etq etr wq wqr ej etj w4 w5
                obtain ⟨cT2, fT2⟩ := HD.out
                clear HD
                generalize wr.drew = w6 at *
                go_wp2_with fail
                clear cT2 fT2
                generalize w6.setCell ⟨T, p, none⟩ (.int .u8 (z : Int)) = w7 at *
                go_roundw
                case rel => first | exact ⟨i + 1, by omega, by go_num, HT1.out, HB1.out, HZ1.out, hn1⟩ | ((repeat apply Exists.intro); exact ⟨⟨i + 1, by omega, by go_num, HT1.out, HB1.out, HZ1.out, hn1⟩, rfl⟩)
                case measure => simp [intOf]; omega
              · obtain rfl : i = 16 := by omega
                have hT := HT.out
                rw [unsubF_all Hg16.out] at hT
                obtain ⟨D, hD⟩ : ∃ D, D = (unsub g).map vb := ⟨_, rfl⟩
                rw [← hD] at hT
                have HT2 := Lib.hid hT
                have HD16 := Lib.hid (show D.length = 16 by rw [hD, List.length_map, (unsub_st g).1])
                have HD1 := Lib.hid (show ∀ u ∈ D, u.oneCell' = true by rw [hD]; exact vb_one _)
                have HDe := Lib.hid (show D = (decF W R (k + 1) b).map vb by rw [hD, Hge.out])
                have HF := Lib.hid (Blk.fill HB.out D (by rw [HD16.out, List.size_toArray, List.length_map, Hg16.out.1]))
                have HZf := Lib.hid (HZ.out.farCells D Hap.out.1.symm 0)
                have Hnf := Lib.hid (nu_fill D (g := B) Hap.out.2.2 0 _ hn)
                have Hgl := Lib.hid (show (g.map vb).toArray.size = 16 by rw [List.size_toArray, List.length_map, Hg16.out.1])
                clear hT hD hn HT HZ
                obtain ⟨wo, rfl⟩ : ∃ q : World, q = wr := ⟨_, rfl⟩
                go_upto_region 5 with (first | (refine wpList_load_blk rfl 22 (.tmp 8) rfl T rfl 22 D.toArray HT2.out Try.underlying22 (by rw [List.size_toArray, HD16.out]; kernel_rfl) ?_) | (refine wpList_store_blk rfl 22 (.tmp 3) (.tmp 74) rfl B D rfl rfl 22 (g.map vb).toArray HB.out (by rw [HD16.out, Hgl.out]) (by rw [HD16.out]; kernel_rfl) HD1.out ?_))
                generalize wo.setCells B 0 D = w7 at *
                have hkR : k + 1 ≤ R := by have := Hrd.out; omega
                have hrm : ((rd : Int) - 1) = ((R - (k + 1) : Nat) : Int) := by have := Hrd.out; omega
                go_wp2_with fail
                go_roundw
                case rel =>
                  have hF := HF.out
                  rw [HDe.out] at hF
                  have hR : ∃ k : Nat, k ≤ R ∧ Value.int .i64 ((rd : Int) - 1) = .int .i64 ((R - k : Nat) : Int) ∧ Blk w7 B 22 ((decF W R k b).map vb).toArray ∧ Blk w7 Z 22 (z16n.map vb).toArray ∧ Below w.heap.size w w7 := ⟨k + 1, hkR, congrArg _ hrm, hF, HZf.out, Hnf.out⟩
                  first | exact hR | exact ⟨k + 1, hkR, rfl, hF, HZf.out, Hnf.out⟩ | ((repeat apply Exists.intro); exact ⟨hR, rfl⟩)
                case measure => simp [intOf]; omega
end Go.Proofs.Ytnojbjconiddoaa

namespace Go.Proofs.Ytnojbjconiddoaa
open Go.ChangeShapes Go.WideShapes Go.ChangeAt Go.RowKit Fld Aes
set_option linter.unusedSimpArgs false

theorem z16_rep : (z16n.map vb).toArray = (List.replicate 16 (Value.int .u8 0)).toArray := rfl
set_option maxRecDepth 100000 in
set_option maxHeartbeats 1000000 in
theorem encrypt_nil (b : List Nat) (w : World) :
    Calls Try.prog 29 #[.pointer none, .agg (b.map vb).toArray] w fun e w' => e = .returned (.agg (z16n.map vb).toArray) ∧ Below w.heap.size w w' := by
  have hn := nu_alloc (nu_alloc (nu_refl w) (.cells (b.map vb).toArray 22)) (.cells (z16n.map vb).toArray 22)
  have HR := Lib.hid (Blk.made1 w (.cells (b.map vb).toArray 22) 22 (z16n.map vb).toArray)
  go_enter Try.func29, Try.ntmps29
  go_upto_region 2 with fail
  change Code.wp _ _ _ _ ((w.alloc (.cells (b.map vb).toArray 22)).alloc (.cells (z16n.map vb).toArray 22))
  have Hn := Lib.hid hn
  clear hn
  generalize (w.alloc (.cells (b.map vb).toArray 22)).alloc (.cells (z16n.map vb).toArray 22) = w1 at *
  have HFl := Lib.hid (Blk.fill HR.out (z16n.map vb) rfl)
  have Hnf := Lib.hid (nu_fill (z16n.map vb) (g := w.heap.size + 1) (by omega) 0 _ Hn.out)
  go_wp2_with (refine wpList_store_blk rfl 22 (.tmp 4) (.tmp 16) rfl (w.heap.size + 1) (z16n.map vb) rfl rfl 22 (z16n.map vb).toArray HR.out rfl (by kernel_rfl) (vb_one _) ?_)
  exact bodyPost_ret (results_blk rfl _ (w.heap.size + 1) 22 (z16n.map vb).toArray rfl HFl.out Try.underlying22 (by kernel_rfl)) rfl ⟨rfl, Hnf.out⟩
set_option maxRecDepth 100000 in
set_option maxHeartbeats 1000000 in
theorem decrypt_nil (b : List Nat) (w : World) :
    Calls Try.prog 32 #[.pointer none, .agg (b.map vb).toArray] w fun e w' => e = .returned (.agg (z16n.map vb).toArray) ∧ Below w.heap.size w w' := by
  have hn := nu_alloc (nu_alloc (nu_refl w) (.cells (b.map vb).toArray 22)) (.cells (z16n.map vb).toArray 22)
  have HR := Lib.hid (Blk.made1 w (.cells (b.map vb).toArray 22) 22 (z16n.map vb).toArray)
  go_enter Try.func32, Try.ntmps32
  go_upto_region 2 with fail
  change Code.wp _ _ _ _ ((w.alloc (.cells (b.map vb).toArray 22)).alloc (.cells (z16n.map vb).toArray 22))
  have Hn := Lib.hid hn
  clear hn
  generalize (w.alloc (.cells (b.map vb).toArray 22)).alloc (.cells (z16n.map vb).toArray 22) = w1 at *
  have HFl := Lib.hid (Blk.fill HR.out (z16n.map vb) rfl)
  have Hnf := Lib.hid (nu_fill (z16n.map vb) (g := w.heap.size + 1) (by omega) 0 _ Hn.out)
  go_wp2_with (refine wpList_store_blk rfl 22 (.tmp 4) (.tmp 12) rfl (w.heap.size + 1) (z16n.map vb) rfl rfl 22 (z16n.map vb).toArray HR.out rfl (by kernel_rfl) (vb_one _) ?_)
  exact bodyPost_ret (results_blk rfl _ (w.heap.size + 1) 22 (z16n.map vb).toArray rfl HFl.out Try.underlying22 (by kernel_rfl)) rfl ⟨rfl, Hnf.out⟩
theorem words_nil (w : World) : Calls Try.prog 31 #[.pointer none] w fun e w' => e = .returned (.slice none 0 0) ∧ w = w' := by
  go_enter Try.func31, Try.ntmps31
  go_wp2_with fail
  go_ret
  exact ⟨rfl, rfl⟩
set_option maxRecDepth 100000 in
set_option maxHeartbeats 1000000 in
theorem aesNew_bad (a : Option Addr) (L cap : Nat) (w : World) (h1 : L ≠ 16) (h2 : L ≠ 32) :
    Calls Try.prog 26 #[.slice a L cap] w fun e w' => e = .returned (.tuple #[.pointer none, .int .i64 1]) ∧ w = w' := by
  have t1 : ((L : Int) != 16) = true := by rw [bne_iff_ne]; omega
  have t2 : ((L : Int) != 32) = true := by rw [bne_iff_ne]; omega
  go_enter Try.func26, Try.ntmps26
  go_wp2_with fail
  go_ret2
  exact ⟨rfl, rfl⟩
set_option maxRecDepth 100000 in
set_option maxHeartbeats 400000 in
theorem clone32 {w : World} {m c : Nat} {cur : Array Value} {W : List Nat} (hm : Blk w m 52 cur) (ht : cur.toList.take W.length = W.map uv) (hlen : W.length ≤ 1000) :
    Calls Try.prog 57 #[.slice (some ⟨m, 0, none⟩) W.length c] w fun e w' => ∃ v, e = .returned v ∧ w'.ownsRow w.heap.size 52 1 v W.length (W.map uv) ∧ Below w.heap.size w w' := by
  obtain ⟨i0, hi, hz0, hz1, hz2⟩ := info_parts info_u32
  have hnil := fun W : World => @Lib.run_eql_slice_nil Try.prog W
  have Hown := Lib.hid (World.ownsRow_made (base := w.heap.size) (e := 52) (size := 1) w #[] 0 (Nat.le_refl _) (by unfold maxLen; omega) rfl)
  have Hsrc := Lib.hid (show ∀ j u, (W.map uv)[j]? = some u → (w.alloc (.cells #[] 52)).cell? ((⟨m, 0, none⟩ : Addr).add j) = some u from fun j u hu => by
    have hj : j < W.length := by simpa using (List.getElem?_eq_some_iff.1 hu).1
    have h := word_at (hm.alloc (.cells #[] 52)) ht j hj
    rw [List.getElem?_map] at hu
    obtain ⟨x, hx, rfl⟩ := Option.map_eq_some_iff.1 hu
    rw [Go.WideShapes.add_plain, Nat.zero_add, h, List.getD_eq_getElem?_getD, hx]
    rfl)
  have Hl := Lib.hid (show (W.map uv).length = W.length * 1 by rw [List.length_map]; omega)
  have Hm := Lib.hid (show 0 + W.length ≤ maxLen by unfold maxLen; omega)
  have Hb := Lib.hid (show (0 + W.length) * 4 ≤ 140737488355328 by omega)
  have Hz := Lib.hid (show w.heap.size ≤ (w.alloc (.cells #[] 52)).heap.size by simp)
  obtain ⟨len, hln⟩ : ∃ n, n = W.length := ⟨_, rfl⟩
  rw [← hln] at Hl Hm Hb ⊢
  clear hm ht hln
  go_enter Try.func57, Try.ntmps57
  go_wp2_with (at_builtin; refine wpList_append_own _ rfl (.tmp 5) (.tmp 6) 49 rfl w.heap.size 52 i0 (.int .u32 0) 1 4 Try.underlying49 hi hz0 hz1 hz2 rfl (by decide) _ 0 [] rfl Hown.out ⟨m, 0, none⟩ len c (W.map uv) rfl Hl.out Hsrc.out (uv_one W) Hm.out Hb.out Hz.out ?_)
  intro v' w2 hown2 hg2 _
  have hb2 := ((Below.refl w.heap.size w).alloc (Nat.le_refl _) (.cells #[] 52)).grown hg2 (by simp) (fun k hk => by have hk2 : w.heap.size = k := Option.some.inj hk; omega)
  have Hfin := Lib.hid (show w2.ownsRow w.heap.size 52 1 v' len (W.map uv) from by simpa using hown2)
  clear hown2 hg2
  go_wp2_with fail
  go_ret
  exact ⟨_, rfl, Hfin.out, hb2⟩
set_option maxRecDepth 100000 in
set_option maxHeartbeats 400000 in
theorem words_any {w : World} {C R : Nat} {W : List Nat} (hC : CiphAt w C W R) (hlen : W.length ≤ 1000) :
    Calls Try.prog 31 #[.pointer (some ⟨C, 0, none⟩)] w fun e w' => ∃ v, e = .returned v ∧ w'.ownsRow w.heap.size 52 1 v W.length (W.map uv) ∧ Below w.heap.size w w' := by
  obtain ⟨x, m, c, cur, hc, hm, htk, hbx, hxl, hlc, hcm⟩ := hC
  have c0 := Blk.at hc 0 _ rfl
  have fC := Blk.free hc 0
  have Hcl := Lib.hid (clone32 (c := c) hm htk hlen)
  clear hc hm htk hbx
  go_enter Try.func31, Try.ntmps31
  go_wp2_with fail
  refine Hcl.out.mono ?_
  rintro e w2 ⟨v, rfl, hown, hb2⟩
  have Ho := Lib.hid hown
  clear hown
  go_wp2_with fail
  go_ret
  exact ⟨_, rfl, Ho.out, hb2⟩
end Go.Proofs.Ytnojbjconiddoaa

namespace Aes
open Fld
def boxT : List Nat := [99, 124, 119, 123, 242, 107, 111, 197, 48, 1, 103, 43, 254, 215, 171, 118, 202, 130, 201, 125, 250, 89, 71, 240, 173, 212, 162, 175, 156, 164, 114, 192, 183, 253, 147, 38, 54, 63, 247, 204, 52, 165, 229, 241, 113, 216, 49, 21, 4, 199, 35, 195, 24, 150, 5, 154, 7, 18, 128, 226, 235, 39, 178, 117, 9, 131, 44, 26, 27, 110, 90, 160, 82, 59, 214, 179, 41, 227, 47, 132, 83, 209, 0, 237, 32, 252, 177, 91, 106, 203, 190, 57, 74, 76, 88, 207, 208, 239, 170, 251, 67, 77, 51, 133, 69, 249, 2, 127, 80, 60, 159, 168, 81, 163, 64, 143, 146, 157, 56, 245, 188, 182, 218, 33, 16, 255, 243, 210, 205, 12, 19, 236, 95, 151, 68, 23, 196, 167, 126, 61, 100, 93, 25, 115, 96, 129, 79, 220, 34, 42, 144, 136, 70, 238, 184, 20, 222, 94, 11, 219, 224, 50, 58, 10, 73, 6, 36, 92, 194, 211, 172, 98, 145, 149, 228, 121, 231, 200, 55, 109, 141, 213, 78, 169, 108, 86, 244, 234, 101, 122, 174, 8, 186, 120, 37, 46, 28, 166, 180, 198, 232, 221, 116, 31, 75, 189, 139, 138, 112, 62, 181, 102, 72, 3, 246, 14, 97, 53, 87, 185, 134, 193, 29, 158, 225, 248, 152, 17, 105, 217, 142, 148, 155, 30, 135, 233, 206, 85, 40, 223, 140, 161, 137, 13, 191, 230, 66, 104, 65, 153, 45, 15, 176, 84, 187, 22]
theorem box_all : ∀ a, a < 256 → aff (sqL 7 a 1) = boxT.getD a 0 := by decide +kernel
theorem sb_tab (a : Nat) (ha : a < 256) : sb a = boxT.getD a 0 := by
  unfold sb
  rw [inv_sqL a ha]
  exact box_all a ha
def subWT (w : Nat) : Nat := wN (boxT.getD (wb w 0) 0) (boxT.getD (wb w 1) 0) (boxT.getD (wb w 2) 0) (boxT.getD (wb w 3) 0)
theorem subW_tab : subW = subWT := by
  funext w
  unfold subW subWT
  rw [sb_tab _ (wb_lt w 0), sb_tab _ (wb_lt w 1), sb_tab _ (wb_lt w 2), sb_tab _ (wb_lt w 3)]
def turnT (n i t : Nat) : Nat := if i % n = 0 then subWT (rotW t) ^^^ (gpow 2 (i / n - 1) * 16777216) else if n = 8 ∧ i % 8 = 4 then subWT t else t
def nextT (n : Nat) (W : List Nat) : Nat := W.getD (W.length - n) 0 ^^^ turnT n W.length (W.getD (W.length - 1) 0)
theorem next_tab : nextW = nextT := by
  funext n W
  unfold nextW nextT turnOf turnT
  rw [subW_tab]
def growT (n : Nat) : Nat → List Nat → List Nat
  | 0, W => W
  | k + 1, W => growT n k (W ++ [nextT n W])
theorem grow_tab (n : Nat) : ∀ (k : Nat) (W : List Nat), grow n k W = growT n k W := by
  intro k
  induction k with
  | zero => intro W; rfl
  | succ k ih => intro W; rw [grow, growT, ih, next_tab]
def subT (b : List Nat) : List Nat := (List.range 16).map fun i => boxT.getD (b.getD (4 * ((i / 4 + i % 4) % 4) + i % 4) 0) 0
theorem sub_tab {b : List Nat} (h : St16 b) : sub b = subT b := List.map_congr_left fun i _ => sb_tab _ (h.getD _)
theorem encF_tab {b : List Nat} (h : St16 b) (W : List Nat) (k : Nat) : encF W (k + 1) b = addK W (k + 1) (mix 2 3 1 1 (subT (encF W k b))) := by rw [encF, sub_tab (encF_st h W k)]
theorem enc_tab {b : List Nat} (h : St16 b) (W : List Nat) (R : Nat) : enc W R b = addK W R (subT (encF W (R - 1) b)) := by rw [enc, sub_tab (encF_st h W (R - 1))]
abbrev st0 : List Nat := [0, 17, 34, 51, 68, 85, 102, 119, 136, 153, 170, 187, 204, 221, 238, 255]
theorem st0_ok : St16 st0 := ⟨rfl, by decide⟩
theorem kx_w : words (List.range 16) 4 = [66051, 67438087, 134810123, 202182159] := by decide +kernel
theorem kx_g0 : growT 4 40 [66051, 67438087, 134810123, 202182159] = growT 4 36 [66051, 67438087, 134810123, 202182159, 3601495293, 3534713594, 3668343025, 3601561342] := by kernel_rfl
theorem kx_g1 : growT 4 36 [66051, 67438087, 134810123, 202182159, 3601495293, 3534713594, 3668343025, 3601561342] = growT 4 32 [66051, 67438087, 134810123, 202182159, 3601495293, 3534713594, 3668343025, 3601561342, 3063074571, 1681767921, 3197879552, 1748022270] := by kernel_rfl
theorem kx_g2 : growT 4 32 [66051, 67438087, 134810123, 202182159, 3601495293, 3534713594, 3668343025, 3601561342, 3063074571, 1681767921, 3197879552, 1748022270] = growT 4 28 [66051, 67438087, 134810123, 202182159, 3601495293, 3534713594, 3668343025, 3601561342, 3063074571, 1681767921, 3197879552, 1748022270, 3070194766, 3535980991, 1817775295, 74039105] := by kernel_rfl
theorem kx_g3 : growT 4 28 [66051, 67438087, 134810123, 202182159, 3601495293, 3534713594, 3668343025, 3601561342, 3063074571, 1681767921, 3197879552, 1748022270, 3070194766, 3535980991, 1817775295, 74039105] = growT 4 24 [66051, 67438087, 134810123, 202182159, 3601495293, 3534713594, 3668343025, 3601561342, 3063074571, 1681767921, 3197879552, 1748022270, 3070194766, 3535980991, 1817775295, 74039105, 1207433148, 2503294467, 4184617660, 4244999677] := by kernel_rfl
theorem kx_g4 : growT 4 24 [66051, 67438087, 134810123, 202182159, 3601495293, 3534713594, 3668343025, 3601561342, 3063074571, 1681767921, 3197879552, 1748022270, 3070194766, 3535980991, 1817775295, 74039105, 1207433148, 2503294467, 4184617660, 4244999677] = growT 4 20 [66051, 67438087, 134810123, 202182159, 3601495293, 3534713594, 3668343025, 3601561342, 3063074571, 1681767921, 3197879552, 1748022270, 3070194766, 3535980991, 1817775295, 74039105, 1207433148, 2503294467, 4184617660, 4244999677, 1017816040, 2845810155, 1358147415, 2918589098] := by kernel_rfl
theorem kx_g5 : growT 4 20 [66051, 67438087, 134810123, 202182159, 3601495293, 3534713594, 3668343025, 3601561342, 3063074571, 1681767921, 3197879552, 1748022270, 3070194766, 3535980991, 1817775295, 74039105, 1207433148, 2503294467, 4184617660, 4244999677, 1017816040, 2845810155, 1358147415, 2918589098] = growT 4 16 [66051, 67438087, 134810123, 202182159, 3601495293, 3534713594, 3668343025, 3601561342, 3063074571, 1681767921, 3197879552, 1748022270, 3070194766, 3535980991, 1817775295, 74039105, 1207433148, 2503294467, 4184617660, 4244999677, 1017816040, 2845810155, 1358147415, 2918589098, 1580797821, 4154888854, 2807381441, 178462571] := by kernel_rfl
theorem kx_g6 : growT 4 16 [66051, 67438087, 134810123, 202182159, 3601495293, 3534713594, 3668343025, 3601561342, 3063074571, 1681767921, 3197879552, 1748022270, 3070194766, 3535980991, 1817775295, 74039105, 1207433148, 2503294467, 4184617660, 4244999677, 1017816040, 2845810155, 1358147415, 2918589098, 1580797821, 4154888854, 2807381441, 178462571] = growT 4 12 [66051, 67438087, 134810123, 202182159, 3601495293, 3534713594, 3668343025, 3601561342, 3063074571, 1681767921, 3197879552, 1748022270, 3070194766, 3535980991, 1817775295, 74039105, 1207433148, 2503294467, 4184617660, 4244999677, 1017816040, 2845810155, 1358147415, 2918589098, 1580797821, 4154888854, 2807381441, 178462571, 351891482, 3814711948, 1141563213, 1319747622] := by kernel_rfl
theorem kx_g7 : growT 4 12 [66051, 67438087, 134810123, 202182159, 3601495293, 3534713594, 3668343025, 3601561342, 3063074571, 1681767921, 3197879552, 1748022270, 3070194766, 3535980991, 1817775295, 74039105, 1207433148, 2503294467, 4184617660, 4244999677, 1017816040, 2845810155, 1358147415, 2918589098, 1580797821, 4154888854, 2807381441, 178462571, 351891482, 3814711948, 1141563213, 1319747622] = growT 4 8 [66051, 67438087, 134810123, 202182159, 3601495293, 3534713594, 3668343025, 3601561342, 3063074571, 1681767921, 3197879552, 1748022270, 3070194766, 3535980991, 1817775295, 74039105, 1207433148, 2503294467, 4184617660, 4244999677, 1017816040, 2845810155, 1358147415, 2918589098, 1580797821, 4154888854, 2807381441, 178462571, 351891482, 3814711948, 1141563213, 1319747622, 1195607861, 2753324473, 3759586036, 2931784402] := by kernel_rfl
theorem kx_g8 : growT 4 8 [66051, 67438087, 134810123, 202182159, 3601495293, 3534713594, 3668343025, 3601561342, 3063074571, 1681767921, 3197879552, 1748022270, 3070194766, 3535980991, 1817775295, 74039105, 1207433148, 2503294467, 4184617660, 4244999677, 1017816040, 2845810155, 1358147415, 2918589098, 1580797821, 4154888854, 2807381441, 178462571, 351891482, 3814711948, 1141563213, 1319747622, 1195607861, 2753324473, 3759586036, 2931784402] = growT 4 4 [66051, 67438087, 134810123, 202182159, 3601495293, 3534713594, 3668343025, 3601561342, 3063074571, 1681767921, 3197879552, 1748022270, 3070194766, 3535980991, 1817775295, 74039105, 1207433148, 2503294467, 4184617660, 4244999677, 1017816040, 2845810155, 1358147415, 2918589098, 1580797821, 4154888854, 2807381441, 178462571, 351891482, 3814711948, 1141563213, 1319747622, 1195607861, 2753324473, 3759586036, 2931784402, 1419326161, 4035270504, 278130076, 3190593358] := by kernel_rfl
theorem kx_g9 : growT 4 4 [66051, 67438087, 134810123, 202182159, 3601495293, 3534713594, 3668343025, 3601561342, 3063074571, 1681767921, 3197879552, 1748022270, 3070194766, 3535980991, 1817775295, 74039105, 1207433148, 2503294467, 4184617660, 4244999677, 1017816040, 2845810155, 1358147415, 2918589098, 1580797821, 4154888854, 2807381441, 178462571, 351891482, 3814711948, 1141563213, 1319747622, 1195607861, 2753324473, 3759586036, 2931784402, 1419326161, 4035270504, 278130076, 3190593358] = growT 4 0 [66051, 67438087, 134810123, 202182159, 3601495293, 3534713594, 3668343025, 3601561342, 3063074571, 1681767921, 3197879552, 1748022270, 3070194766, 3535980991, 1817775295, 74039105, 1207433148, 2503294467, 4184617660, 4244999677, 1017816040, 2845810155, 1358147415, 2918589098, 1580797821, 4154888854, 2807381441, 178462571, 351891482, 3814711948, 1141563213, 1319747622, 1195607861, 2753324473, 3759586036, 2931784402, 1419326161, 4035270504, 278130076, 3190593358, 319888767, 3818146327, 4077365131, 1294676165] := by kernel_rfl
abbrev kx_W : List Nat := [66051, 67438087, 134810123, 202182159, 3601495293, 3534713594, 3668343025, 3601561342, 3063074571, 1681767921, 3197879552, 1748022270, 3070194766, 3535980991, 1817775295, 74039105, 1207433148, 2503294467, 4184617660, 4244999677, 1017816040, 2845810155, 1358147415, 2918589098, 1580797821, 4154888854, 2807381441, 178462571, 351891482, 3814711948, 1141563213, 1319747622, 1195607861, 2753324473, 3759586036, 2931784402, 1419326161, 4035270504, 278130076, 3190593358, 319888767, 3818146327, 4077365131, 1294676165]
theorem kx_expand : expand (List.range 16) = kx_W := by
  show grow 4 40 (words (List.range 16) 4) = _
  rw [grow_tab, kx_w, kx_g0, kx_g1, kx_g2, kx_g3, kx_g4, kx_g5, kx_g6, kx_g7, kx_g8, kx_g9]
  rfl
theorem kx_e0 : encF kx_W 0 st0 = [0, 16, 32, 48, 64, 80, 96, 112, 128, 144, 160, 176, 192, 208, 224, 240] := by kernel_rfl
theorem kx_e1 : encF kx_W 1 st0 = [137, 216, 16, 232, 133, 90, 206, 104, 45, 24, 67, 216, 203, 18, 143, 228] := by
  rw [encF_tab st0_ok, kx_e0]
  kernel_rfl
theorem kx_e2 : encF kx_W 2 st0 = [73, 21, 89, 143, 85, 229, 215, 160, 218, 202, 148, 250, 31, 10, 99, 247] := by
  rw [encF_tab st0_ok, kx_e1]
  kernel_rfl
theorem kx_e3 : encF kx_W 3 st0 = [250, 99, 106, 40, 37, 179, 57, 201, 64, 102, 138, 49, 87, 36, 77, 23] := by
  rw [encF_tab st0_ok, kx_e2]
  kernel_rfl
theorem kx_e4 : encF kx_W 4 st0 = [36, 114, 64, 35, 105, 102, 179, 250, 110, 210, 117, 50, 136, 66, 91, 108] := by
  rw [encF_tab st0_ok, kx_e3]
  kernel_rfl
theorem kx_e5 : encF kx_W 5 st0 = [200, 22, 119, 188, 155, 122, 201, 59, 37, 2, 121, 146, 176, 38, 25, 150] := by
  rw [encF_tab st0_ok, kx_e4]
  kernel_rfl
theorem kx_e6 : encF kx_W 6 st0 = [198, 47, 225, 9, 247, 94, 237, 195, 204, 121, 57, 93, 132, 249, 207, 93] := by
  rw [encF_tab st0_ok, kx_e5]
  kernel_rfl
theorem kx_e7 : encF kx_W 7 st0 = [209, 135, 108, 15, 121, 196, 48, 10, 180, 85, 148, 173, 214, 111, 244, 31] := by
  rw [encF_tab st0_ok, kx_e6]
  kernel_rfl
theorem kx_e8 : encF kx_W 8 st0 = [253, 227, 186, 210, 5, 229, 208, 215, 53, 71, 150, 78, 241, 254, 55, 241] := by
  rw [encF_tab st0_ok, kx_e7]
  kernel_rfl
theorem kx_e9 : encF kx_W 9 st0 = [189, 110, 124, 61, 242, 181, 119, 158, 11, 97, 33, 110, 139, 16, 182, 137] := by
  rw [encF_tab st0_ok, kx_e8]
  kernel_rfl
abbrev kx_out : List Nat := [105, 196, 224, 216, 106, 123, 4, 48, 216, 205, 183, 128, 112, 180, 197, 90]
theorem kx_enc : enc kx_W 10 st0 = kx_out := by
  rw [enc_tab st0_ok, kx_e9]
  kernel_rfl
theorem ky_w : words (List.range 32) 8 = [66051, 67438087, 134810123, 202182159, 269554195, 336926231, 404298267, 471670303] := by decide +kernel
theorem ky_g0 : growT 8 52 [66051, 67438087, 134810123, 202182159, 269554195, 336926231, 404298267, 471670303] = growT 8 48 [66051, 67438087, 134810123, 202182159, 269554195, 336926231, 404298267, 471670303, 2775827103, 2708915352, 2843725459, 2775761052] := by kernel_rfl
theorem ky_g1 : growT 8 48 [66051, 67438087, 134810123, 202182159, 269554195, 336926231, 404298267, 471670303, 2775827103, 2708915352, 2843725459, 2775761052] = growT 8 44 [66051, 67438087, 134810123, 202182159, 269554195, 336926231, 404298267, 471670303, 2775827103, 2708915352, 2843725459, 2775761052, 374450381, 38059738, 442344641, 104905438] := by kernel_rfl
theorem ky_g2 : growT 8 44 [66051, 67438087, 134810123, 202182159, 269554195, 336926231, 404298267, 471670303, 2775827103, 2708915352, 2843725459, 2775761052, 374450381, 38059738, 442344641, 104905438] = growT 8 40 [66051, 67438087, 134810123, 202182159, 269554195, 336926231, 404298267, 471670303, 2775827103, 2708915352, 2843725459, 2775761052, 374450381, 38059738, 442344641, 104905438, 2928140272, 267459432, 2794378747, 66852199] := by kernel_rfl
theorem ky_g3 : growT 8 40 [66051, 67438087, 134810123, 202182159, 269554195, 336926231, 404298267, 471670303, 2775827103, 2708915352, 2843725459, 2775761052, 374450381, 38059738, 442344641, 104905438, 2928140272, 267459432, 2794378747, 66852199] = growT 8 36 [66051, 67438087, 134810123, 202182159, 269554195, 336926231, 404298267, 471670303, 2775827103, 2708915352, 2843725459, 2775761052, 374450381, 38059738, 442344641, 104905438, 2928140272, 267459432, 2794378747, 66852199, 1843523912, 1873104786, 1979247443, 1941459341] := by kernel_rfl
theorem ky_g4 : growT 8 36 [66051, 67438087, 134810123, 202182159, 269554195, 336926231, 404298267, 471670303, 2775827103, 2708915352, 2843725459, 2775761052, 374450381, 38059738, 442344641, 104905438, 2928140272, 267459432, 2794378747, 66852199, 1843523912, 1873104786, 1979247443, 1941459341] = growT 8 32 [66051, 67438087, 134810123, 202182159, 269554195, 336926231, 404298267, 471670303, 2775827103, 2708915352, 2843725459, 2775761052, 374450381, 38059738, 442344641, 104905438, 2928140272, 267459432, 2794378747, 66852199, 1843523912, 1873104786, 1979247443, 1941459341, 3327558271, 3383204119, 1864977644, 1825921419] := by kernel_rfl
theorem ky_g5 : growT 8 32 [66051, 67438087, 134810123, 202182159, 269554195, 336926231, 404298267, 471670303, 2775827103, 2708915352, 2843725459, 2775761052, 374450381, 38059738, 442344641, 104905438, 2928140272, 267459432, 2794378747, 66852199, 1843523912, 1873104786, 1979247443, 1941459341, 3327558271, 3383204119, 1864977644, 1825921419] = growT 8 28 [66051, 67438087, 134810123, 202182159, 269554195, 336926231, 404298267, 471670303, 2775827103, 2708915352, 2843725459, 2775761052, 374450381, 38059738, 442344641, 104905438, 2928140272, 267459432, 2794378747, 66852199, 1843523912, 1873104786, 1979247443, 1941459341, 3327558271, 3383204119, 1864977644, 1825921419, 1038236277, 1380414951, 666869428, 1409797945] := by kernel_rfl
theorem ky_g6 : growT 8 28 [66051, 67438087, 134810123, 202182159, 269554195, 336926231, 404298267, 471670303, 2775827103, 2708915352, 2843725459, 2775761052, 374450381, 38059738, 442344641, 104905438, 2928140272, 267459432, 2794378747, 66852199, 1843523912, 1873104786, 1979247443, 1941459341, 3327558271, 3383204119, 1864977644, 1825921419, 1038236277, 1380414951, 666869428, 1409797945] = growT 8 24 [66051, 67438087, 134810123, 202182159, 269554195, 336926231, 404298267, 471670303, 2775827103, 2708915352, 2843725459, 2775761052, 374450381, 38059738, 442344641, 104905438, 2928140272, 267459432, 2794378747, 66852199, 1843523912, 1873104786, 1979247443, 1941459341, 3327558271, 3383204119, 1864977644, 1825921419, 1038236277, 1380414951, 666869428, 1409797945, 199004255, 3262843208, 2907850148, 3246857263] := by kernel_rfl
theorem ky_g7 : growT 8 24 [66051, 67438087, 134810123, 202182159, 269554195, 336926231, 404298267, 471670303, 2775827103, 2708915352, 2843725459, 2775761052, 374450381, 38059738, 442344641, 104905438, 2928140272, 267459432, 2794378747, 66852199, 1843523912, 1873104786, 1979247443, 1941459341, 3327558271, 3383204119, 1864977644, 1825921419, 1038236277, 1380414951, 666869428, 1409797945, 199004255, 3262843208, 2907850148, 3246857263] = growT 8 20 [66051, 67438087, 134810123, 202182159, 269554195, 336926231, 404298267, 471670303, 2775827103, 2708915352, 2843725459, 2775761052, 374450381, 38059738, 442344641, 104905438, 2928140272, 267459432, 2794378747, 66852199, 1843523912, 1873104786, 1979247443, 1941459341, 3327558271, 3383204119, 1864977644, 1825921419, 1038236277, 1380414951, 666869428, 1409797945, 199004255, 3262843208, 2907850148, 3246857263, 1173726816, 397595527, 806178099, 1678410250] := by kernel_rfl
theorem ky_g8 : growT 8 20 [66051, 67438087, 134810123, 202182159, 269554195, 336926231, 404298267, 471670303, 2775827103, 2708915352, 2843725459, 2775761052, 374450381, 38059738, 442344641, 104905438, 2928140272, 267459432, 2794378747, 66852199, 1843523912, 1873104786, 1979247443, 1941459341, 3327558271, 3383204119, 1864977644, 1825921419, 1038236277, 1380414951, 666869428, 1409797945, 199004255, 3262843208, 2907850148, 3246857263, 1173726816, 397595527, 806178099, 1678410250] = growT 8 16 [66051, 67438087, 134810123, 202182159, 269554195, 336926231, 404298267, 471670303, 2775827103, 2708915352, 2843725459, 2775761052, 374450381, 38059738, 442344641, 104905438, 2928140272, 267459432, 2794378747, 66852199, 1843523912, 1873104786, 1979247443, 1941459341, 3327558271, 3383204119, 1864977644, 1825921419, 1038236277, 1380414951, 666869428, 1409797945, 199004255, 3262843208, 2907850148, 3246857263, 1173726816, 397595527, 806178099, 1678410250, 2094003996, 3199532628, 333888496, 3529615327] := by kernel_rfl
theorem ky_g9 : growT 8 16 [66051, 67438087, 134810123, 202182159, 269554195, 336926231, 404298267, 471670303, 2775827103, 2708915352, 2843725459, 2775761052, 374450381, 38059738, 442344641, 104905438, 2928140272, 267459432, 2794378747, 66852199, 1843523912, 1873104786, 1979247443, 1941459341, 3327558271, 3383204119, 1864977644, 1825921419, 1038236277, 1380414951, 666869428, 1409797945, 199004255, 3262843208, 2907850148, 3246857263, 1173726816, 397595527, 806178099, 1678410250, 2094003996, 3199532628, 333888496, 3529615327] = growT 8 12 [66051, 67438087, 134810123, 202182159, 269554195, 336926231, 404298267, 471670303, 2775827103, 2708915352, 2843725459, 2775761052, 374450381, 38059738, 442344641, 104905438, 2928140272, 267459432, 2794378747, 66852199, 1843523912, 1873104786, 1979247443, 1941459341, 3327558271, 3383204119, 1864977644, 1825921419, 1038236277, 1380414951, 666869428, 1409797945, 199004255, 3262843208, 2907850148, 3246857263, 1173726816, 397595527, 806178099, 1678410250, 2094003996, 3199532628, 333888496, 3529615327, 4028300030, 3886557561, 3617940554, 3014649408] := by kernel_rfl
theorem ky_g10 : growT 8 12 [66051, 67438087, 134810123, 202182159, 269554195, 336926231, 404298267, 471670303, 2775827103, 2708915352, 2843725459, 2775761052, 374450381, 38059738, 442344641, 104905438, 2928140272, 267459432, 2794378747, 66852199, 1843523912, 1873104786, 1979247443, 1941459341, 3327558271, 3383204119, 1864977644, 1825921419, 1038236277, 1380414951, 666869428, 1409797945, 199004255, 3262843208, 2907850148, 3246857263, 1173726816, 397595527, 806178099, 1678410250, 2094003996, 3199532628, 333888496, 3529615327, 4028300030, 3886557561, 3617940554, 3014649408] = growT 8 8 [66051, 67438087, 134810123, 202182159, 269554195, 336926231, 404298267, 471670303, 2775827103, 2708915352, 2843725459, 2775761052, 374450381, 38059738, 442344641, 104905438, 2928140272, 267459432, 2794378747, 66852199, 1843523912, 1873104786, 1979247443, 1941459341, 3327558271, 3383204119, 1864977644, 1825921419, 1038236277, 1380414951, 666869428, 1409797945, 199004255, 3262843208, 2907850148, 3246857263, 1173726816, 397595527, 806178099, 1678410250, 2094003996, 3199532628, 333888496, 3529615327, 4028300030, 3886557561, 3617940554, 3014649408, 625081969, 2616524837, 2282994645, 1517427722] := by kernel_rfl
theorem ky_g11 : growT 8 8 [66051, 67438087, 134810123, 202182159, 269554195, 336926231, 404298267, 471670303, 2775827103, 2708915352, 2843725459, 2775761052, 374450381, 38059738, 442344641, 104905438, 2928140272, 267459432, 2794378747, 66852199, 1843523912, 1873104786, 1979247443, 1941459341, 3327558271, 3383204119, 1864977644, 1825921419, 1038236277, 1380414951, 666869428, 1409797945, 199004255, 3262843208, 2907850148, 3246857263, 1173726816, 397595527, 806178099, 1678410250, 2094003996, 3199532628, 333888496, 3529615327, 4028300030, 3886557561, 3617940554, 3014649408, 625081969, 2616524837, 2282994645, 1517427722] = growT 8 4 [66051, 67438087, 134810123, 202182159, 269554195, 336926231, 404298267, 471670303, 2775827103, 2708915352, 2843725459, 2775761052, 374450381, 38059738, 442344641, 104905438, 2928140272, 267459432, 2794378747, 66852199, 1843523912, 1873104786, 1979247443, 1941459341, 3327558271, 3383204119, 1864977644, 1825921419, 1038236277, 1380414951, 666869428, 1409797945, 199004255, 3262843208, 2907850148, 3246857263, 1173726816, 397595527, 806178099, 1678410250, 2094003996, 3199532628, 333888496, 3529615327, 4028300030, 3886557561, 3617940554, 3014649408, 625081969, 2616524837, 2282994645, 1517427722, 1314547353, 2851229664, 2119642026, 3455634922] := by kernel_rfl
theorem ky_g12 : growT 8 4 [66051, 67438087, 134810123, 202182159, 269554195, 336926231, 404298267, 471670303, 2775827103, 2708915352, 2843725459, 2775761052, 374450381, 38059738, 442344641, 104905438, 2928140272, 267459432, 2794378747, 66852199, 1843523912, 1873104786, 1979247443, 1941459341, 3327558271, 3383204119, 1864977644, 1825921419, 1038236277, 1380414951, 666869428, 1409797945, 199004255, 3262843208, 2907850148, 3246857263, 1173726816, 397595527, 806178099, 1678410250, 2094003996, 3199532628, 333888496, 3529615327, 4028300030, 3886557561, 3617940554, 3014649408, 625081969, 2616524837, 2282994645, 1517427722, 1314547353, 2851229664, 2119642026, 3455634922] = growT 8 0 [66051, 67438087, 134810123, 202182159, 269554195, 336926231, 404298267, 471670303, 2775827103, 2708915352, 2843725459, 2775761052, 374450381, 38059738, 442344641, 104905438, 2928140272, 267459432, 2794378747, 66852199, 1843523912, 1873104786, 1979247443, 1941459341, 3327558271, 3383204119, 1864977644, 1825921419, 1038236277, 1380414951, 666869428, 1409797945, 199004255, 3262843208, 2907850148, 3246857263, 1173726816, 397595527, 806178099, 1678410250, 2094003996, 3199532628, 333888496, 3529615327, 4028300030, 3886557561, 3617940554, 3014649408, 625081969, 2616524837, 2282994645, 1517427722, 1314547353, 2851229664, 2119642026, 3455634922, 620526028, 3205069289, 924500540, 1835589174] := by kernel_rfl
abbrev ky_W : List Nat := [66051, 67438087, 134810123, 202182159, 269554195, 336926231, 404298267, 471670303, 2775827103, 2708915352, 2843725459, 2775761052, 374450381, 38059738, 442344641, 104905438, 2928140272, 267459432, 2794378747, 66852199, 1843523912, 1873104786, 1979247443, 1941459341, 3327558271, 3383204119, 1864977644, 1825921419, 1038236277, 1380414951, 666869428, 1409797945, 199004255, 3262843208, 2907850148, 3246857263, 1173726816, 397595527, 806178099, 1678410250, 2094003996, 3199532628, 333888496, 3529615327, 4028300030, 3886557561, 3617940554, 3014649408, 625081969, 2616524837, 2282994645, 1517427722, 1314547353, 2851229664, 2119642026, 3455634922, 620526028, 3205069289, 924500540, 1835589174]
theorem ky_expand : expand (List.range 32) = ky_W := by
  show grow 8 52 (words (List.range 32) 8) = _
  rw [grow_tab, ky_w, ky_g0, ky_g1, ky_g2, ky_g3, ky_g4, ky_g5, ky_g6, ky_g7, ky_g8, ky_g9, ky_g10, ky_g11, ky_g12]
  rfl
theorem ky_e0 : encF ky_W 0 st0 = [0, 16, 32, 48, 64, 80, 96, 112, 128, 144, 160, 176, 192, 208, 224, 240] := by kernel_rfl
theorem ky_e1 : encF ky_W 1 st0 = [79, 99, 118, 6, 67, 224, 170, 133, 239, 167, 33, 50, 1, 164, 231, 5] := by
  rw [encF_tab st0_ok, ky_e0]
  kernel_rfl
theorem ky_e2 : encF ky_W 2 st0 = [24, 89, 251, 194, 138, 28, 0, 160, 120, 237, 138, 173, 196, 47, 97, 9] := by
  rw [encF_tab st0_ok, ky_e1]
  kernel_rfl
theorem ky_e3 : encF ky_W 3 st0 = [151, 92, 102, 193, 203, 159, 63, 168, 169, 58, 40, 223, 142, 225, 15, 99] := by
  rw [encF_tab st0_ok, ky_e2]
  kernel_rfl
theorem ky_e4 : encF ky_W 4 st0 = [28, 5, 242, 113, 164, 23, 224, 79, 249, 33, 197, 193, 4, 112, 21, 84] := by
  rw [encF_tab st0_ok, ky_e3]
  kernel_rfl
theorem ky_e5 : encF ky_W 5 st0 = [195, 87, 170, 225, 27, 69, 183, 176, 162, 199, 189, 40, 168, 220, 153, 250] := by
  rw [encF_tab st0_ok, ky_e4]
  kernel_rfl
theorem ky_e6 : encF ky_W 6 st0 = [127, 7, 65, 67, 203, 78, 36, 62, 193, 12, 129, 93, 131, 117, 213, 76] := by
  rw [encF_tab st0_ok, ky_e5]
  kernel_rfl
theorem ky_e7 : encF ky_W 7 st0 = [214, 83, 164, 105, 108, 160, 188, 15, 90, 202, 171, 93, 185, 108, 94, 125] := by
  rw [encF_tab st0_ok, ky_e6]
  kernel_rfl
theorem ky_e8 : encF ky_W 8 st0 = [90, 168, 88, 57, 95, 210, 141, 125, 5, 225, 163, 136, 104, 243, 185, 197] := by
  rw [encF_tab st0_ok, ky_e7]
  kernel_rfl
theorem ky_e9 : encF ky_W 9 st0 = [74, 130, 72, 81, 197, 126, 126, 71, 100, 61, 229, 12, 42, 243, 232, 201] := by
  rw [encF_tab st0_ok, ky_e8]
  kernel_rfl
theorem ky_e10 : encF ky_W 10 st0 = [193, 73, 7, 246, 202, 59, 58, 160, 112, 233, 170, 49, 59, 82, 181, 236] := by
  rw [encF_tab st0_ok, ky_e9]
  kernel_rfl
theorem ky_e11 : encF ky_W 11 st0 = [95, 156, 106, 191, 186, 198, 52, 170, 80, 64, 159, 167, 102, 103, 118, 83] := by
  rw [encF_tab st0_ok, ky_e10]
  kernel_rfl
theorem ky_e12 : encF ky_W 12 st0 = [81, 102, 4, 149, 67, 83, 149, 3, 20, 251, 134, 228, 1, 146, 37, 33] := by
  rw [encF_tab st0_ok, ky_e11]
  kernel_rfl
theorem ky_e13 : encF ky_W 13 st0 = [98, 123, 206, 185, 153, 157, 90, 170, 201, 69, 236, 244, 35, 245, 109, 165] := by
  rw [encF_tab st0_ok, ky_e12]
  kernel_rfl
abbrev ky_out : List Nat := [142, 162, 183, 202, 81, 103, 69, 191, 234, 252, 73, 144, 75, 73, 96, 137]
theorem ky_enc : enc ky_W 14 st0 = ky_out := by
  rw [enc_tab st0_ok, ky_e13]
  kernel_rfl
end Aes

namespace Go.Proofs.Ytnojbjconiddoaa
open Go.ChangeShapes Go.WideShapes Go.ChangeAt Go.RowKit

section
variable {P : Program} (w : World)

theorem run_eqItems_bytes (d : Nat) {e : TypeId} {k : IntKind} (he : P.underlying e = some (.int k)) (hp : P.plainKey e = true) (xs ys : List Nat) : ∀ is : List Nat,
    (∀ i ∈ is, i < xs.length ∧ i < ys.length) → (Op.eqItems (d + 1) e 1 (xs.map vb).toArray (ys.map vb).toArray is).run P w = .ok (decide (∀ i ∈ is, xs[i]? = ys[i]?)) w := by
  intro is
  induction is with
  | nil => intro _; simp [Op.eqItems]
  | cons i is ih =>
    intro h
    obtain ⟨h1, h2⟩ := h i (by simp)
    have e1 : ((xs.map vb).toArray)[i * 1]? = some (vb xs[i]) := by
      rw [List.getElem?_toArray, Nat.mul_one, List.getElem?_map, List.getElem?_eq_getElem h1]
      rfl
    have e2 : ((ys.map vb).toArray)[i * 1]? = some (vb ys[i]) := by
      rw [List.getElem?_toArray, Nat.mul_one, List.getElem?_map, List.getElem?_eq_getElem h2]
      rfl
    have e3 := run_equalIn_int (P := P) (w := w) d e .u8 k (xs[i] : Int) (ys[i] : Int) he
    have ih' := ih (fun j hj => h j (by simp [hj]))
    simp only [Op.eqItems, Sem.run_bind, run_part_plain w hp e1, run_part_plain w hp e2, Result.andThen_ok]
    rw [show vb xs[i] = Value.int .u8 (xs[i] : Int) from rfl, show vb ys[i] = Value.int .u8 (ys[i] : Int) from rfl, e3]
    simp only [Result.andThen_ok]
    by_cases hxy : xs[i] = ys[i]
    · have t1 : ((xs[i] : Int) == (ys[i] : Int)) = true := by rw [hxy]; simp
      have t2 : xs[i]? = ys[i]? := by rw [List.getElem?_eq_getElem h1, List.getElem?_eq_getElem h2, hxy]
      rw [t1]
      simp only [Bool.not_true, Bool.false_eq_true, if_false]
      rw [ih']
      simp [t2]
    · have t1 : ((xs[i] : Int) == (ys[i] : Int)) = false := by rw [beq_eq_false_iff_ne]; omega
      have t2 : ¬ xs[i]? = ys[i]? := by rw [List.getElem?_eq_getElem h1, List.getElem?_eq_getElem h2]; simpa using hxy
      rw [t1]
      simp [t2]
theorem run_equalIn_bytes' {t e : TypeId} {n : Nat} {i : TypeInfo} {k : IntKind} (d : Nat) (hu : P.underlying t = some (.array n e)) (hi : P.info? e = some i) (he : P.underlying e = some (.int k)) (hp : P.plainKey e = true) (hc : P.cellsOf e = 1)
    (xs ys : List Nat) (hx : xs.length = n) (hy : ys.length = n) :
    (Op.equalIn (d + 1 + 1) t (.agg (xs.map vb).toArray) (.agg (ys.map vb).toArray)).run P w = .ok (decide (xs = ys)) w := by
  have h1 := run_equalIn_array (P := P) w (d + 1) (xs.map vb).toArray (ys.map vb).toArray hu hi
  rw [hc, run_eqItems_bytes w d he hp xs ys (List.range n) (fun i hi => by rw [List.mem_range] at hi; omega)] at h1
  have h2 : (∀ i ∈ List.range n, xs[i]? = ys[i]?) ↔ xs = ys := by
    constructor
    · intro h
      refine List.ext_getElem? fun i => ?_
      by_cases hin : i < n
      · exact h i (List.mem_range.2 hin)
      · rw [List.getElem?_eq_none (by omega), List.getElem?_eq_none (by omega)]
    · rintro rfl
      exact fun _ _ => rfl
  have h3 : decide (∀ i ∈ List.range n, xs[i]? = ys[i]?) = decide (xs = ys) := by simp only [h2]
  rw [h3] at h1
  exact h1
theorem run_equalIn_bytes {t e : TypeId} {n : Nat} {i : TypeInfo} {k : IntKind} (hu : P.underlying t = some (.array n e)) (hi : P.info? e = some i) (he : P.underlying e = some (.int k)) (hp : P.plainKey e = true) (hc : P.cellsOf e = 1)
    (xs ys : List Nat) (hx : xs.length = n) (hy : ys.length = n) :
    (Op.equalIn 10000 t (.agg (xs.map vb).toArray) (.agg (ys.map vb).toArray)).run P w = .ok (decide (xs = ys)) w := by
  have h1 := run_equalIn_array (P := P) w 9999 (xs.map vb).toArray (ys.map vb).toArray hu hi
  rw [hc, run_eqItems_bytes w 9998 he hp xs ys (List.range n) (fun i hi => by rw [List.mem_range] at hi; omega)] at h1
  have h2 : (∀ i ∈ List.range n, xs[i]? = ys[i]?) ↔ xs = ys := by
    constructor
    · intro h
      refine List.ext_getElem? fun i => ?_
      by_cases hin : i < n
      · exact h i (List.mem_range.2 hin)
      · rw [List.getElem?_eq_none (by omega), List.getElem?_eq_none (by omega)]
    · rintro rfl
      exact fun _ _ => rfl
  have h3 : decide (∀ i ∈ List.range n, xs[i]? = ys[i]?) = decide (xs = ys) := by simp only [h2]
  rw [h3] at h1
  exact h1
theorem run_eql_bytes {t e : TypeId} {n : Nat} {i : TypeInfo} {k : IntKind} (hu : P.underlying t = some (.array n e)) (hi : P.info? e = some i) (he : P.underlying e = some (.int k)) (hp : P.plainKey e = true) (hc : P.cellsOf e = 1)
    (xs ys : List Nat) (hx : xs.length = n) (hy : ys.length = n) :
    (binOp .eql t (.agg (xs.map vb).toArray) (.agg (ys.map vb).toArray)).run P w = .ok (.bool (decide (xs = ys))) w := by
  have h1 := run_equalIn_bytes w hu hi he hp hc xs ys hx hy
  simp only [binOp]
  simp [Op.equal, Op.maxDepth, h1]
end
end Go.Proofs.Ytnojbjconiddoaa
