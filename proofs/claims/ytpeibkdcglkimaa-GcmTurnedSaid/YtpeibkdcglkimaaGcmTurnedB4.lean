/-
  What the proof of GcmTurned rests on, part 4 of 10.
-/
import Derived.Test.YtpeibkdcglkimaaGcmTurnedB3
namespace Go.Proofs.Ytpeibkdcglkimaa
open Go.ChangeShapes Go.WideShapes Go.ChangeAt Go.RowKit Fld Aes
set_option linter.unusedSimpArgs false

abbrev z16n : List Nat := [0, 0, 0, 0, 0, 0, 0, 0, 0, 0, 0, 0, 0, 0, 0, 0]
theorem z16_at (k : Nat) (hk : k < 16) : z16n[k]? = some 0 := by
  rcases (show k = 0 ∨ k = 1 ∨ k = 2 ∨ k = 3 ∨ k = 4 ∨ k = 5 ∨ k = 6 ∨ k = 7 ∨ k = 8 ∨ k = 9 ∨ k = 10 ∨ k = 11 ∨ k = 12 ∨ k = 13 ∨ k = 14 ∨ k = 15 by omega) with rfl | rfl | rfl | rfl | rfl | rfl | rfl | rfl | rfl | rfl | rfl | rfl | rfl | rfl | rfl | rfl <;> rfl
theorem boxAt_mix {w : World} {x : Nat} (h : BoxAt w x) (a : Nat) (ha : a < 256) : Calls Try.prog 44 #[.pointer (some ⟨x, 0, none⟩), .int .u8 a] w fun e w' => e = .returned (.int .u32 (mixOf (sb a) : Nat)) ∧ w' = w := by
  obtain ⟨cs, hg, ht⟩ := h
  exact (mix_any x a cs w ha hg ht).mono fun _ _ h => ⟨h.1, h.2.symm⟩
theorem boxAt_boxq {w : World} {x : Nat} (h : BoxAt w x) (a : Nat) (ha : a < 256) : Calls Try.prog 45 #[.pointer (some ⟨x, 0, none⟩), .int .u8 a] w fun e w' => e = .returned (.int .u8 (sb a : Nat)) ∧ w' = w :=
  (boxAt_box h a ha).mono fun _ _ h => ⟨h.1, h.2.symm⟩
theorem rotq (q : Nat) (v : Nat) (hv : v < 4294967296) (hq : q < 4) (n : Int) (hn : n = -8 * (q : Int)) (w : World) : Calls Try.prog 39 #[.int .u32 (v : Int), .int .i64 n] w fun e w' => e = .returned (.int .u32 (turnW v q : Nat)) ∧ w' = w := by
  subst hn
  rcases (show q = 0 ∨ q = 1 ∨ q = 2 ∨ q = 3 by omega) with rfl | rfl | rfl | rfl
  · exact (rot_r0 v hv w).mono fun _ _ h => ⟨h.1, h.2.symm⟩
  · exact (rot_r8 v hv w).mono fun _ _ h => ⟨h.1, h.2.symm⟩
  · exact (rot_r16 v hv w).mono fun _ _ h => ⟨h.1, h.2.symm⟩
  · exact (rot_r24 v hv w).mono fun _ _ h => ⟨h.1, h.2.symm⟩
theorem set_doneF (L l : List Nat) (n k a b : Nat) (h1 : L.length = n) (h2 : l.length = n) (hk : k < n) (hb : L[k]? = some b) : ((doneF L l k).set k a).set k b = doneF L l (k + 1) := by
  rw [List.set_set, doneF_set L l n k b h1 h2 hk hb]
theorem doneF_self (L l : List Nat) (n k a : Nat) (h1 : L.length = n) (h2 : l.length = n) (hk : k < n) : ((doneF L l k).set k a)[k]? = some a := by
  rw [List.getElem?_set_self (by rw [doneF_len L l n k h1 h2 (by omega)]; exact hk)]

set_option maxRecDepth 100000 in
set_option maxHeartbeats 8000000 in
theorem encrypt_any {w : World} {C R : Nat} {W : List Nat} (hC : CiphAt w C W R) (hW : Small W) (hR0 : 0 < R) (hR : R ≤ 14) (hWl : W.length = 4 * (R + 1)) (b : List Nat) (hb : St16 b) :
    Calls Try.prog 25 #[.pointer (some ⟨C, 0, none⟩), .agg (b.map vb).toArray] w fun e w' => e = .returned (.agg ((enc W R b).map vb).toArray) ∧ Below w.heap.size w w' := by
  have HCi := Lib.hid hC
  obtain ⟨x, m, c, cur, hc, hm, htk, hbx, hxl, hlc, hcm⟩ := hC
  have HC0 := Lib.hid (Blk.at hc 0 _ rfl)
  have HC1 := Lib.hid (Blk.at hc 1 _ rfl)
  have HC2 := Lib.hid (Blk.at hc 2 _ rfl)
  have hCl := hc.lt
  have hml := hm.lt
  have Hm := Lib.hid hm
  have Ht := Lib.hid htk
  have Hb := Lib.hid hb
  have HW := Lib.hid hW
  have HWl := Lib.hid hWl
  have HBx := Lib.hid (And.intro hbx hxl)
  unfold maxLen at hcm
  obtain ⟨n, hn⟩ : ∃ n, n = W.length := ⟨_, rfl⟩
  rw [← hn] at HC0 hlc
  have Hn := Lib.hid (hn.trans hWl)
  have hn60 : n ≤ 60 := by omega
  have Hbl := Lib.hid (show (b.map vb).toArray.size = 16 by rw [List.size_toArray, List.length_map, hb.1])
  have hal := nu_alloc (nu_alloc (nu_refl w) (.cells (b.map vb).toArray 44)) (.cells (z16n.map vb).toArray 44)
  have HB := Lib.hid ((Blk.made w 44 (b.map vb).toArray).alloc (.cells (z16n.map vb).toArray 44))
  have HZ := Lib.hid (Blk.made1 w (.cells (b.map vb).toArray 44) 44 (z16n.map vb).toArray)
  clear hc hm htk hb hW hWl hbx hn
  go_enter Try.func25, Try.ntmps25
  go_upto_region 1 with fail
  change Code.wp _ _ _ _ ((w.alloc (.cells (b.map vb).toArray 44)).alloc (.cells (z16n.map vb).toArray 44))
  generalize ((w.alloc (.cells (b.map vb).toArray 44)).alloc (.cells (z16n.map vb).toArray 44)) = w1 at *
  obtain ⟨Z, hZ⟩ : ∃ Z, Z = w.heap.size + 1 := ⟨_, rfl⟩
  rw [← hZ] at HZ
  rw [← hZ]
  have hZw : w.heap.size ≤ Z := by omega
  have hZ1 := Blk.lt HZ.out
  clear hZ
  have HL := Lib.hid (aload_any (HCi.out.below hal) HW.out 0 (by have := HWl.out; omega) (by omega) b Hb.out)
  have Hn1 := Lib.hid hal
  clear hal
  go_wp2_with (refine wpList_load_blk rfl 44 (.tmp 3) rfl w.heap.size rfl 44 (b.map vb).toArray HB.out Try.underlying44 (by rw [Hbl.out]; kernel_rfl) ?_)
  refine HL.out.mono ?_
  rintro e w2 ⟨rfl, hb2⟩
  rw [loadL_eq Hb.out HW.out 0]
  obtain ⟨s0, hs0⟩ : ∃ s0, s0 = cols (addK W 0 b) := ⟨_, rfl⟩
  rw [← hs0]
  have hs4 : s0.length = 4 := by rw [hs0]; exact cols_len _
  have Hs0 := Lib.hid hs0
  have hZ2 : Z < w2.heap.size := Nat.lt_of_lt_of_le hZ1 hb2.size
  have HZ2 := Lib.hid (Blk.below HZ.out hb2 hZ1)
  have Hn2 := Lib.hid (nu_trans Hn1.out hb2)
  have HSm := Lib.hid (Blk.made w2 85 (z4.map uv).toArray)
  have HS3 := Lib.hid (Blk.fill HSm.out (s0.map uv) (by rw [List.length_map, hs4]; rfl))
  have hf := nu_fill (a := w2) (s0.map uv) (g := w2.heap.size) (Nat.le_refl _) 0 _ (nu_alloc (nu_refl w2) (.cells (z4.map uv).toArray 85))
  have Hl4 := Lib.hid hs4
  clear hs0 hb2 HZ HL HB Hn1 hs4
  go_upto_region 4 with (refine wpList_store_blk rfl 85 (.tmp 5) (.tmp 19) rfl w2.heap.size (s0.map uv) rfl rfl 85 (z4.map uv).toArray HSm.out (by rw [List.length_map, Hl4.out]; rfl) (by rw [List.length_map, Hl4.out]; kernel_rfl) (uv_one _) ?_)
  change Code.wp _ _ _ _ ((w2.alloc (.cells (z4.map uv).toArray 85)).setCells w2.heap.size 0 (s0.map uv))
  have HZ3 := Lib.hid (Blk.below HZ2.out hf hZ2)
  have Hn3 := Lib.hid (nu_trans Hn2.out hf)
  have hsw := Hn2.out.size
  clear HSm hf HZ2 Hn2
  generalize (w2.alloc (.cells (z4.map uv).toArray 85)).setCells w2.heap.size 0 (s0.map uv) = w3 at *
  obtain ⟨S, hS⟩ : ∃ S, S = w2.heap.size := ⟨_, rfl⟩
  rw [← hS] at HS3 hZ2 hsw
  rw [← hS]
  clear hS hZ1
  go_wp2_with fail
  go_loopw [6] (fun i wr => ∃ k : Nat, k + 1 ≤ R ∧ i = .int .i64 ((k + 1 : Nat) : Int) ∧ Blk wr S 85 ((cols (encF W k b)).map uv).toArray ∧ Blk wr Z 44 (z16n.map vb).toArray ∧ Below w.heap.size w wr) (fun i _ => R - (intOf i).toNat)
  case atStart => exact ⟨0, by omega, rfl, by rw [show encF W 0 b = addK W 0 b from rfl, ← Hs0.out]; exact HS3.out, HZ3.out, Hn3.out⟩
  case round =>
    clear HS3 HZ3 Hn3 Hs0 Hl4
    obtain ⟨k, hk, rfl, hS, hZ, hn⟩ := hrel
    obtain ⟨st, hst⟩ : ∃ st, st = encF W k b := ⟨_, rfl⟩
    have hst16 : St16 st := by rw [hst]; exact encF_st Hb.out W k
    rw [← hst] at hS
    have HS := Lib.hid hS
    have HZ := Lib.hid hZ
    have Hst := Lib.hid hst
    have Hst16 := Lib.hid hst16
    have cC1 : wr.cell? ⟨C, 1, none⟩ = some (.int .i64 (R : Int)) := (hn.cell (p := ⟨C, 1, none⟩) hCl).trans HC1.out
    clear hS hZ hst hst16
    obtain ⟨rd, hrd⟩ : ∃ rd, rd = k + 1 := ⟨_, rfl⟩
    rw [← hrd] at hk ⊢
    have Hrd := Lib.hid hrd
    clear hrd
    by_cases hlt : rd < R
    · have hri : (rd : Int) < (R : Int) := by omega
      obtain ⟨s, hs⟩ : ∃ s, s = cols st := ⟨_, rfl⟩
      rw [← hs] at HS
      have Hs := Lib.hid (And.intro hs (show s.length = 4 by rw [hs]; exact cols_len _))
      have Hsm := Lib.hid (show ∀ j, j < 4 → s.getD j 0 < 4294967296 from fun j hj => by rw [hs, cols_getD st j hj]; exact colOf_lt Hst16.out j)
      have HT := Lib.hid (Blk.made wr 85 (z4.map uv).toArray)
      have hal := nu_alloc (nu_refl wr) (.cells (z4.map uv).toArray 85)
      have HS1 := Lib.hid (HS.out.below hal HS.out.lt)
      have HZ1 := Lib.hid (HZ.out.below hal HZ.out.lt)
      have hn1 := nu_trans hn hal
      have hST : S < wr.heap.size ∧ Z < wr.heap.size ∧ w.heap.size ≤ wr.heap.size := ⟨HS.out.lt, HZ.out.lt, hn.size⟩
      clear hs hal HS HZ hn
      go_upto_region 8 with fail
      change Code.wp _ _ _ _ (wr.alloc (.cells (z4.map uv).toArray 85))
      clear cC1
      generalize wr.alloc (.cells (z4.map uv).toArray 85) = w4 at *
      obtain ⟨T, hT⟩ : ∃ T, T = wr.heap.size := ⟨_, rfl⟩
      rw [← hT] at HT hST
      rw [← hT]
      obtain ⟨hST, hZT, hwT⟩ := hST
      clear hT
      obtain ⟨L, hL⟩ : ∃ L, L = tL W rd s := ⟨_, rfl⟩
      have hLl : L.length = 4 := by rw [hL]; exact tL_len _ _ _
      have hLa : ∀ i, i < 4 → L[i]? = some (tword W rd s i 4) := fun i hi => by rw [hL]; exact tL_at W rd s i hi
      have HLl := Lib.hid hLl
      have HLa := Lib.hid hLa
      have HLe := Lib.hid (show L = cols (encF W rd b) by rw [hL, Hs.out.1, tL_eq Hst16.out HW.out rd, Hst.out, Hrd.out]; rfl)
      clear hL hLl hLa
      go_wp2_with fail
      go_loopw [28] (fun i wr => ∃ k : Nat, k ≤ 4 ∧ i = .int .i64 k ∧ Blk wr T 85 ((doneF L z4 k).map uv).toArray ∧ Blk wr S 85 (s.map uv).toArray ∧ Blk wr Z 44 (z16n.map vb).toArray ∧ Below w.heap.size w wr) (fun i _ => 4 - (intOf i).toNat)
      case atStart => exact ⟨0, by omega, rfl, HT.out, HS1.out, HZ1.out, hn1⟩
      case round =>
        clear HT HS1 HZ1 hn1
        obtain ⟨i, hi4, rfl, hT, hS, hZ, hn⟩ := hrel
        have HT := Lib.hid hT
        have HS := Lib.hid hS
        have HZ := Lib.hid hZ
        clear hT hS hZ
        by_cases hilt : i < 4
        · have hii : (i : Int) < 4 := by omega
          obtain ⟨p, hp⟩ : ∃ p, p = 4 * rd + i := ⟨_, rfl⟩
          have hpi : 4 * (rd : Int) + (i : Int) = (p : Int) := by omega
          have hpl : (p : Int) < (n : Int) := by have := Hn.out; omega
          have hpl2 : p < W.length := by have := Hn.out; have := HWl.out; omega
          have cC0 : wr.cell? ⟨C, 0, none⟩ = some (.slice (some ⟨m, 0, none⟩) n c) := (hn.cell (p := ⟨C, 0, none⟩) hCl).trans HC0.out
          have cW : wr.cell? ⟨m, p, none⟩ = some (.int .u32 ((tword W rd s i 0 : Nat) : Int)) := by
            have h := (hn.cell (p := ⟨m, p, none⟩) hml).trans (word_at Hm.out Ht.out p hpl2)
            rw [h, hp]; rfl
          have hold : (doneF L z4 i)[i]? = some 0 := by
            rw [doneF_old _ _ 4 i i HLl.out (Nat.le_refl _) hi4]
            rcases (show i = 0 ∨ i = 1 ∨ i = 2 ∨ i = 3 by omega) with rfl | rfl | rfl | rfl <;> rfl
          have fT := HT.out.free i
          have cT : wr.cell? ⟨T, i, none⟩ = some (.int .u32 0) := HT.out.at i _ (arrg_at uv _ i 0 hold)
          obtain ⟨v0, hv0⟩ : ∃ v0, v0 = tword W rd s i 0 := ⟨_, rfl⟩
          rw [← hv0] at cW
          have h1 := HT.out.put i (uv v0)
          rw [arrg_set, hv0] at h1
          have HT1 := Lib.hid h1
          have HS1 := Lib.hid (HS.out.far (p := ⟨T, i, none⟩) (Nat.ne_of_lt hST) (uv v0))
          have HZ1 := Lib.hid (HZ.out.far (p := ⟨T, i, none⟩) (Nat.ne_of_lt hZT) (uv v0))
          have hn1 := nu_set hn (p := ⟨T, i, none⟩) hwT (uv v0)
          rw [← hv0] at HT1
          simp only [uv] at HT1 HS1 HZ1 hn1
          have Hv0 := Lib.hid hv0
          clear hp hpl2 hold HT HS HZ hn h1 hv0
          go_upto_region 12 with fail
          clear cC0 cW cT fT
          generalize wr.setCell ⟨T, i, none⟩ (.int .u32 (v0 : Int)) = w5 at *
          go_wp2_with fail
          go_loopw [43] (fun q wr => ∃ k : Nat, k ≤ 4 ∧ q = .int .i64 k ∧ Blk wr T 85 (((doneF L z4 i).set i (tword W rd s i k)).map uv).toArray ∧ Blk wr S 85 (s.map uv).toArray ∧ Blk wr Z 44 (z16n.map vb).toArray ∧ Below w.heap.size w wr) (fun q _ => 4 - (intOf q).toNat)
          case atStart => exact ⟨0, by omega, rfl, by rw [← Hv0.out]; exact HT1.out, HS1.out, HZ1.out, hn1⟩
          case round =>
            clear HT1 HS1 HZ1 hn1 Hv0
            obtain ⟨q, hq4, rfl, hT, hS, hZ, hn⟩ := hrel
            have HT := Lib.hid hT
            have HS := Lib.hid hS
            have HZ := Lib.hid hZ
            clear hT hS hZ
            by_cases hqlt : q < 4
            · obtain ⟨j, hj⟩ : ∃ j, j = (i + q) % 4 := ⟨_, rfl⟩
              have hj4 : j < 4 := by omega
              have hji : (j : Int) < 4 := by omega
              obtain ⟨y, hy⟩ : ∃ y, y = s.getD j 0 := ⟨_, rfl⟩
              have hy32 : y < 4294967296 := by rw [hy]; exact Hsm.out j hj4
              have hsj : s[j]? = some y := by rw [hy, List.getD_eq_getElem?_getD, List.getElem?_eq_getElem (by rw [Hs.out.2]; exact hj4)]; rfl
              have cS : wr.cell? ⟨S, j, none⟩ = some (.int .u32 (y : Int)) := HS.out.at j _ (arrg_at uv _ j y hsj)
              obtain ⟨a, ha⟩ : ∃ a, a = wb y q := ⟨_, rfl⟩
              have ha8 : a < 256 := by rw [ha]; exact wb_lt _ _
              obtain ⟨v, hv⟩ : ∃ v, v = tword W rd s i q := ⟨_, rfl⟩
              have hv32 : v < 4294967296 := by rw [hv]; exact tword_lt HW.out rd s i q
              have hM32 := mixOf_lt (sb a) (sb_lt a)
              have hU32 := turnW_lt (mixOf (sb a)) q hM32
              have hnext : tword W rd s i (q + 1) = v ^^^ turnW (mixOf (sb a)) q := by rw [tword, ← hv, ← hj, ← hy, ← ha]
              have HBw := Lib.hid (show BoxAt wr x from HBx.out.1.below hn HBx.out.2)
              have HMx := Lib.hid (boxAt_mix (w := wr.drew) (show BoxAt wr.drew x from HBw.out) a ha8)
              have HRt := Lib.hid (fun (d : Int) (hd : d = -8 * (q : Int)) => rotq q (mixOf (sb a)) hM32 hqlt d hd wr.drew)
              generalize mixOf (sb a) = M at *
              generalize turnW M q = U at *
              have hxx := u32_xor_nat v U hv32 hU32
              rw [← hnext] at hxx
              have cC2 : wr.cell? ⟨C, 2, none⟩ = some (.pointer (some ⟨x, 0, none⟩)) := (hn.cell (p := ⟨C, 2, none⟩) hCl).trans HC2.out
              have hself := doneF_self L z4 4 i v HLl.out rfl hilt
              rw [← hv] at HT
              have cT : wr.cell? ⟨T, i, none⟩ = some (.int .u32 (v : Int)) := HT.out.at i _ (arrg_at uv _ i v hself)
              obtain ⟨v2, hv2⟩ : ∃ v2, v2 = tword W rd s i (q + 1) := ⟨_, rfl⟩
              rw [← hv2] at hxx
              have h1 := HT.out.drew.put i (uv v2)
              rw [arrg_set, List.set_set, hv2] at h1
              have HT1 := Lib.hid h1
              rw [← hv2] at HT1
              have HS1 := Lib.hid (HS.out.drew.far (p := ⟨T, i, none⟩) (Nat.ne_of_lt hST) (uv v2))
              have HZ1 := Lib.hid (HZ.out.drew.far (p := ⟨T, i, none⟩) (Nat.ne_of_lt hZT) (uv v2))
              have hn1 := nu_set hn.drew (p := ⟨T, i, none⟩) hwT (uv v2)
              have cT2 : wr.drew.cell? ⟨T, i, none⟩ = some (.int .u32 (v : Int)) := HT.out.drew.at i _ (arrg_at uv _ i v hself)
              have fT2 := HT.out.drew.free i
              simp only [uv] at HT1 HS1 HZ1 hn1
              have Hj := Lib.hid (And.intro hj (And.intro ha hv2))
              have HD := Lib.hid (And.intro cT2 fT2)
              clear hj hy ha hv hv2 hnext hself h1 HT HS HZ hn cT2 fT2 hsj
              have Hq := Lib.hid (show q = 0 ∨ q = 1 ∨ q = 2 ∨ q = 3 by omega)
              rcases Hq.out with rfl | rfl | rfl | rfl
              · rw [show ((0 : Nat) : Int) = 0 from rfl]
                have ea : (y : Int) / 16777216 = (a : Int) := by have h := Hj.out.2.1; simp only [wb] at h; omega
                have ei : (i : Int) % 4 = (j : Int) := by have := Hj.out.1; omega
                have hw : IntKind.i64.wrap (0) = 0 := by kernel_rfl
                go_upto_region 16 with fail
                try rw [ea]
                clear ea ei cS hji
                go_still_tail 14, (by kernel_rfl)
                still_call HMx.out
                repeat still_step
                still_call (HRt.out (0) (by decide))
                repeat still_step
                refine wpStill_nil ?_
                change wpList _ _ _ _ _ wr.drew
                clear cC2 cT HMx HRt HBw hxx
                obtain ⟨cT2, fT2⟩ := HD.out
                clear HD
                generalize wr.drew = w6 at *
                go_wp2_with fail
                clear cT2 fT2
                generalize w6.setCell ⟨T, i, none⟩ (.int .u32 (v2 : Int)) = w7 at *
                go_roundw
                case rel =>
                  have hT1 := HT1.out
                  rw [Hj.out.2.2] at hT1
                  first | exact ⟨1, by omega, by first | rfl | go_num, hT1, HS1.out, HZ1.out, hn1⟩ | ((repeat apply Exists.intro); exact ⟨⟨1, by omega, by first | rfl | go_num, hT1, HS1.out, HZ1.out, hn1⟩, rfl⟩)
                case measure => simp [intOf]
              · rw [show ((1 : Nat) : Int) = 1 from rfl]
                have ea : (y : Int) / 65536 % 256 = (a : Int) := by have h := Hj.out.2.1; simp only [wb] at h; omega
                have ei : ((i : Int) + 1) % 4 = (j : Int) := by have := Hj.out.1; omega
                have hw : IntKind.i64.wrap (-8) = -8 := by kernel_rfl
                go_upto_region 16 with fail
                try rw [ea]
                clear ea ei cS hji
                go_still_tail 14, (by kernel_rfl)
                still_call HMx.out
                repeat still_step
                still_call (HRt.out (-8) (by decide))
                repeat still_step
                refine wpStill_nil ?_
                change wpList _ _ _ _ _ wr.drew
                clear cC2 cT HMx HRt HBw hxx
                obtain ⟨cT2, fT2⟩ := HD.out
                clear HD
                generalize wr.drew = w6 at *
                go_wp2_with fail
                clear cT2 fT2
                generalize w6.setCell ⟨T, i, none⟩ (.int .u32 (v2 : Int)) = w7 at *
                go_roundw
                case rel =>
                  have hT1 := HT1.out
                  rw [Hj.out.2.2] at hT1
                  first | exact ⟨2, by omega, by first | rfl | go_num, hT1, HS1.out, HZ1.out, hn1⟩ | ((repeat apply Exists.intro); exact ⟨⟨2, by omega, by first | rfl | go_num, hT1, HS1.out, HZ1.out, hn1⟩, rfl⟩)
                case measure => simp [intOf]
              · rw [show ((2 : Nat) : Int) = 2 from rfl]
                have ea : (y : Int) / 256 % 256 = (a : Int) := by have h := Hj.out.2.1; simp only [wb] at h; omega
                have ei : ((i : Int) + 2) % 4 = (j : Int) := by have := Hj.out.1; omega
                have hw : IntKind.i64.wrap (-16) = -16 := by kernel_rfl
                go_upto_region 16 with fail
                try rw [ea]
                clear ea ei cS hji
                go_still_tail 14, (by kernel_rfl)
                still_call HMx.out
                repeat still_step
                still_call (HRt.out (-16) (by decide))
                repeat still_step
                refine wpStill_nil ?_
                change wpList _ _ _ _ _ wr.drew
                clear cC2 cT HMx HRt HBw hxx
                obtain ⟨cT2, fT2⟩ := HD.out
                clear HD
                generalize wr.drew = w6 at *
                go_wp2_with fail
                clear cT2 fT2
                generalize w6.setCell ⟨T, i, none⟩ (.int .u32 (v2 : Int)) = w7 at *
                go_roundw
                case rel =>
                  have hT1 := HT1.out
                  rw [Hj.out.2.2] at hT1
                  first | exact ⟨3, by omega, by first | rfl | go_num, hT1, HS1.out, HZ1.out, hn1⟩ | ((repeat apply Exists.intro); exact ⟨⟨3, by omega, by first | rfl | go_num, hT1, HS1.out, HZ1.out, hn1⟩, rfl⟩)
                case measure => simp [intOf]
              · rw [show ((3 : Nat) : Int) = 3 from rfl]
                have ea : (y : Int) % 256 = (a : Int) := by have h := Hj.out.2.1; simp only [wb] at h; omega
                have ei : ((i : Int) + 3) % 4 = (j : Int) := by have := Hj.out.1; omega
                have hw : IntKind.i64.wrap (-24) = -24 := by kernel_rfl
                go_upto_region 16 with fail
                try rw [ea]
                clear ea ei cS hji
                go_still_tail 14, (by kernel_rfl)
                still_call HMx.out
                repeat still_step
                still_call (HRt.out (-24) (by decide))
                repeat still_step
                refine wpStill_nil ?_
                change wpList _ _ _ _ _ wr.drew
                clear cC2 cT HMx HRt HBw hxx
                obtain ⟨cT2, fT2⟩ := HD.out
                clear HD
                generalize wr.drew = w6 at *
                go_wp2_with fail
                clear cT2 fT2
                generalize w6.setCell ⟨T, i, none⟩ (.int .u32 (v2 : Int)) = w7 at *
                go_roundw
                case rel =>
                  have hT1 := HT1.out
                  rw [Hj.out.2.2] at hT1
                  first | exact ⟨4, by omega, by first | rfl | go_num, hT1, HS1.out, HZ1.out, hn1⟩ | ((repeat apply Exists.intro); exact ⟨⟨4, by omega, by first | rfl | go_num, hT1, HS1.out, HZ1.out, hn1⟩, rfl⟩)
                case measure => simp [intOf]
            · obtain rfl : q = 4 := by omega
              have hT := HT.out
              rw [doneF_set _ _ 4 i _ HLl.out rfl hilt (HLa.out i hilt)] at hT
              have HT2 := Lib.hid hT
              clear hT HT
              go_wp2_with fail
              go_roundw
              case rel => first | exact ⟨i + 1, by omega, by go_num, HT2.out, HS.out, HZ.out, hn⟩ | ((repeat apply Exists.intro); exact ⟨⟨i + 1, by omega, by go_num, HT2.out, HS.out, HZ.out, hn⟩, rfl⟩)
              case measure => simp [intOf]; omega
        · obtain rfl : i = 4 := by omega
          have hT := HT.out
          rw [doneF_all _ _ 4 HLl.out rfl, HLe.out] at hT
          obtain ⟨D, hD⟩ : ∃ D, D = (cols (encF W rd b)).map uv := ⟨_, rfl⟩
          rw [← hD] at hT
          have HT2 := Lib.hid hT
          have HD4 := Lib.hid (show D.length = 4 by rw [hD, List.length_map]; exact cols_len _)
          have HD1 := Lib.hid (show ∀ u ∈ D, u.oneCell' = true by rw [hD]; exact uv_one _)
          have HDe := Lib.hid hD
          have HF := Lib.hid (Blk.fill HS.out D (by rw [List.size_toArray, List.length_map, HD4.out, Hs.out.2]))
          have HZf := Lib.hid (HZ.out.farCells D (Nat.ne_of_lt hZ2) 0)
          have Hnf := Lib.hid (nu_fill D (g := S) hsw 0 _ hn)
          have Hsl := Lib.hid (show (s.map uv).toArray.size = 4 by rw [List.size_toArray, List.length_map, Hs.out.2])
          clear hT HT hD hn HZ
          obtain ⟨wo, rfl⟩ : ∃ q : World, q = wr := ⟨_, rfl⟩
          go_upto_region 6 with (first | (refine wpList_load_blk rfl 85 (.tmp 7) rfl T rfl 85 D.toArray HT2.out Try.underlying85 (by rw [List.size_toArray, HD4.out]; kernel_rfl) ?_) | (refine wpList_store_blk rfl 85 (.tmp 5) (.tmp 73) rfl S D rfl rfl 85 (s.map uv).toArray HS.out (by rw [Hsl.out, HD4.out]) (by rw [HD4.out]; kernel_rfl) HD1.out ?_))
          generalize wo.setCells S 0 D = w6 at *
          go_wp2_with fail
          go_roundw
          case rel =>
            have hF := HF.out
            rw [HDe.out] at hF
            have hR : ∃ k : Nat, k + 1 ≤ R ∧ Value.int .i64 ((rd : Int) + 1) = .int .i64 ((k + 1 : Nat) : Int) ∧ Blk w6 S 85 ((cols (encF W k b)).map uv).toArray ∧ Blk w6 Z 44 (z16n.map vb).toArray ∧ Below w.heap.size w w6 := ⟨rd, by omega, by go_num, hF, HZf.out, Hnf.out⟩
            first | exact hR | ((repeat apply Exists.intro); exact ⟨hR, rfl⟩)
          case measure => simp [intOf]; omega
    · obtain rfl : rd = R := by omega
      have hri : ¬ (rd : Int) < (rd : Int) := by omega
      obtain ⟨s, hs⟩ : ∃ s, s = cols st := ⟨_, rfl⟩
      rw [← hs] at HS
      have Hs := Lib.hid (And.intro hs (show s.length = 4 by rw [hs]; exact cols_len _))
      have Hsm := Lib.hid (show ∀ j, j < 4 → s.getD j 0 < 4294967296 from fun j hj => by rw [hs, cols_getD st j hj]; exact colOf_lt Hst16.out j)
      have HE16 := Lib.hid (enc_st b W rd)
      have HEa := Lib.hid (show ∀ i, i < 16 → (enc W rd b)[i]? = some (sb (wb (s.getD ((i / 4 + i % 4) % 4) 0) (i % 4)) ^^^ wb (W.getD (4 * rd + i / 4) 0) (i % 4)) from fun i hi => by
        rw [hs, enc, show rd - 1 = k by have := Hrd.out; omega, ← Hst.out]
        exact last_at Hst16.out W rd i hi)
      obtain ⟨E, hE⟩ : ∃ E, E = enc W rd b := ⟨_, rfl⟩
      rw [← hE] at HE16 HEa
      have HEe := Lib.hid hE
      have HO := Lib.hid (Blk.made wr 44 (z16n.map vb).toArray)
      have hal := nu_alloc (nu_refl wr) (.cells (z16n.map vb).toArray 44)
      have HS1 := Lib.hid (HS.out.below hal HS.out.lt)
      have HZ1 := Lib.hid (HZ.out.below hal HZ.out.lt)
      have hn1 := nu_trans hn hal
      have hSO : S < wr.heap.size ∧ Z < wr.heap.size ∧ w.heap.size ≤ wr.heap.size := ⟨HS.out.lt, HZ.out.lt, hn.size⟩
      clear hs hE hal HS HZ hn Hst Hst16 Hrd
      obtain ⟨wo, rfl⟩ : ∃ q : World, q = wr := ⟨_, rfl⟩
      go_upto_region 21 with fail
      change Code.wp _ _ _ _ (wo.alloc (.cells (z16n.map vb).toArray 44))
      clear cC1 hri hlt
      generalize wo.alloc (.cells (z16n.map vb).toArray 44) = w4 at *
      obtain ⟨O, hO⟩ : ∃ O, O = wo.heap.size := ⟨_, rfl⟩
      rw [← hO] at HO hSO
      rw [← hO]
      obtain ⟨hSO, hZO, hwO⟩ := hSO
      clear hO
      go_wp2_with fail
      go_loopw [74] (fun i wr => ∃ k : Nat, k ≤ 16 ∧ i = .int .i64 k ∧ Blk wr O 44 ((doneF E z16n k).map vb).toArray ∧ Blk wr S 85 (s.map uv).toArray ∧ Blk wr Z 44 (z16n.map vb).toArray ∧ Below w.heap.size w wr) (fun i _ => 16 - (intOf i).toNat)
      case atStart => exact ⟨0, by omega, rfl, HO.out, HS1.out, HZ1.out, hn1⟩
      case round =>
        clear HO HS1 HZ1 hn1
        obtain ⟨k, hk16, rfl, hO, hS, hZ, hn⟩ := hrel
        have HO := Lib.hid hO
        have HS := Lib.hid hS
        have HZ := Lib.hid hZ
        clear hO hS hZ
        by_cases hlt : k < 16
        · have hki : (k : Int) < 16 := by omega
          obtain ⟨q, hq⟩ : ∃ q, q = k / 4 := ⟨_, rfl⟩
          obtain ⟨r, hr⟩ : ∃ r, r = k % 4 := ⟨_, rfl⟩
          have ek : (k : Int) / 4 = (q : Int) := by omega
          have em : (k : Int) % 4 = (r : Int) := by omega
          have etq : Int.tdiv (k : Int) 4 = (q : Int) := by rw [Int.tdiv_eq_ediv_of_nonneg (by omega)]; omega
          have etr : Int.tmod (k : Int) 4 = (r : Int) := by rw [Int.tmod_eq_emod_of_nonneg (by omega)]; omega
          have hq4 : q < 4 := by omega
          obtain ⟨j, hj⟩ : ∃ j, j = (q + r) % 4 := ⟨_, rfl⟩
          have hj4 : j < 4 := by omega
          have hji : (j : Int) < 4 := by omega
          obtain ⟨y, hy⟩ : ∃ y, y = s.getD j 0 := ⟨_, rfl⟩
          have hy32 : y < 4294967296 := by rw [hy]; exact Hsm.out j hj4
          have hsj : s[j]? = some y := by rw [hy, List.getD_eq_getElem?_getD, List.getElem?_eq_getElem (by rw [Hs.out.2]; exact hj4)]; rfl
          have cS : wr.cell? ⟨S, j, none⟩ = some (.int .u32 (y : Int)) := HS.out.at j _ (arrg_at uv _ j y hsj)
          obtain ⟨a, ha⟩ : ∃ a, a = wb y r := ⟨_, rfl⟩
          have ha8 : a < 256 := by rw [ha]; exact wb_lt _ _
          obtain ⟨p, hp⟩ : ∃ p, p = 4 * rd + q := ⟨_, rfl⟩
          have hpl : (p : Int) < (n : Int) := by have := Hn.out; omega
          have hpl2 : p < W.length := by have := Hn.out; have := HWl.out; omega
          have cC0 : wr.cell? ⟨C, 0, none⟩ = some (.slice (some ⟨m, 0, none⟩) n c) := (hn.cell (p := ⟨C, 0, none⟩) hCl).trans HC0.out
          have cC1 : wr.cell? ⟨C, 1, none⟩ = some (.int .i64 (rd : Int)) := (hn.cell (p := ⟨C, 1, none⟩) hCl).trans HC1.out
          have cC2 : wr.cell? ⟨C, 2, none⟩ = some (.pointer (some ⟨x, 0, none⟩)) := (hn.cell (p := ⟨C, 2, none⟩) hCl).trans HC2.out
          have cW : wr.cell? ⟨m, p, none⟩ = some (.int .u32 ((W.getD p 0 : Nat) : Int)) := (hn.cell (p := ⟨m, p, none⟩) hml).trans (word_at Hm.out Ht.out p hpl2)
          obtain ⟨z, hz⟩ : ∃ z, z = W.getD p 0 := ⟨_, rfl⟩
          have hz32 : z < 4294967296 := by rw [hz]; exact HW.out.getD p
          rw [← hz] at cW
          obtain ⟨zb, hzb⟩ : ∃ zb, zb = wb z r := ⟨_, rfl⟩
          have hzb8 : zb < 256 := by rw [hzb]; exact wb_lt _ _
          have hsb8 := sb_lt a
          have hEk := HEa.out k hlt
          rw [← hq, ← hr, ← hj, ← hy, ← ha, ← hp, ← hz, ← hzb] at hEk
          have HBw := Lib.hid (show BoxAt wr x from HBx.out.1.below hn HBx.out.2)
          have HBo := Lib.hid (boxAt_boxq (w := wr.drew) (show BoxAt wr.drew x from HBw.out) a ha8)
          generalize sb a = sa at *
          have hxx := u8_xor_nat sa zb hsb8 hzb8
          obtain ⟨ee, hee⟩ : ∃ ee, ee = sa ^^^ zb := ⟨_, rfl⟩
          rw [← hee] at hxx hEk
          obtain ⟨R4, hR4⟩ : ∃ R4, R4 = 4 * rd := ⟨_, rfl⟩
          have w1 : IntKind.i64.wrap (4 * (rd : Int)) = (R4 : Int) := by rw [IntKind.wrap_i64]; omega
          have w2 : IntKind.i64.wrap (q : Int) = (q : Int) := by rw [IntKind.wrap_i64]; omega
          have w3 : IntKind.i64.wrap ((R4 : Int) + (q : Int)) = (p : Int) := by rw [IntKind.wrap_i64]; omega
          have cO : (doneF E z16n k)[k]? = some 0 := by rw [doneF_old _ _ 16 k k HE16.out.1 (Nat.le_refl _) hk16]; exact z16_at k hlt
          have cO2 : wr.drew.cell? ⟨O, k, none⟩ = some (.int .u8 0) := HO.out.drew.at k _ (arrg_at vb _ k 0 cO)
          have fO2 := HO.out.drew.free k
          have h1 := HO.out.drew.put k (vb ee)
          rw [arrg_set, doneF_set _ _ 16 k ee HE16.out.1 rfl hlt hEk] at h1
          have HO1 := Lib.hid h1
          have HS1 := Lib.hid (HS.out.drew.far (p := ⟨O, k, none⟩) (Nat.ne_of_lt hSO) (vb ee))
          have HZ1 := Lib.hid (HZ.out.drew.far (p := ⟨O, k, none⟩) (Nat.ne_of_lt hZO) (vb ee))
          have hn1 := nu_set hn.drew (p := ⟨O, k, none⟩) hwO (vb ee)
          simp only [vb] at HO1 HS1 HZ1 hn1
          have HD := Lib.hid (And.intro cO2 fO2)
          have Hj := Lib.hid (And.intro hj (And.intro ha hzb))
          have Hr := Lib.hid (show r = 0 ∨ r = 1 ∨ r = 2 ∨ r = 3 by omega)
          clear hq hr hj hy ha hp hz hzb hee hR4 h1 HO HS HZ hn cO cO2 fO2 hsj hpl2 hEk
          rcases Hr.out with rfl | rfl | rfl | rfl
          · rw [show ((0 : Nat) : Int) = 0 from rfl] at em etr
            have ea : (y : Int) / 16777216 = (a : Int) := by have h := Hj.out.2.1; simp only [wb] at h; omega
            have ei : (q : Int) % 4 = (j : Int) := by have := Hj.out.1; omega
            have ez : IntKind.u8.wrap ((z : Int) / 16777216) = (zb : Int) := by have h := Hj.out.2.2; simp only [wb] at h; rw [IntKind.wrap_u8]; omega
            have l1 : IntKind.i64.wrap 0 = 0 := by kernel_rfl
            skip
            have l3 : IntKind.i64.wrap 24 = 24 := by kernel_rfl
            go_upto_region 25 with fail
            try rw [ea]
            clear ea ei cS hji ek em
            go_still_tail 29, (by kernel_rfl)
            still_call HBo.out
            repeat still_step
            refine wpStill_nil ?_
            change wpList _ _ _ _ _ wr.drew
            clear cC0 cC1 cC2 cW HBo HBw hxx ez etq etr w1 w2 w3 hpl
            obtain ⟨cO2, fO2⟩ := HD.out
            clear HD
            generalize wr.drew = w6 at *
            go_wp2_with fail
            clear cO2 fO2
            generalize w6.setCell ⟨O, k, none⟩ (.int .u8 (ee : Int)) = w7 at *
            go_roundw
            case rel => first | exact ⟨k + 1, by omega, by go_num, HO1.out, HS1.out, HZ1.out, hn1⟩ | ((repeat apply Exists.intro); exact ⟨⟨k + 1, by omega, by go_num, HO1.out, HS1.out, HZ1.out, hn1⟩, rfl⟩)
            case measure => simp [intOf]; omega
          · rw [show ((1 : Nat) : Int) = 1 from rfl] at em etr
            have ea : (y : Int) / 65536 % 256 = (a : Int) := by have h := Hj.out.2.1; simp only [wb] at h; omega
            have ei : ((q : Int) + 1) % 4 = (j : Int) := by have := Hj.out.1; omega
            have ez : IntKind.u8.wrap ((z : Int) / 65536) = (zb : Int) := by have h := Hj.out.2.2; simp only [wb] at h; rw [IntKind.wrap_u8]; omega
            have l1 : IntKind.i64.wrap 1 = 1 := by kernel_rfl
            have l2 : IntKind.i64.wrap 8 = 8 := by kernel_rfl
            have l3 : IntKind.i64.wrap 16 = 16 := by kernel_rfl
            go_upto_region 25 with fail
            try rw [ea]
            clear ea ei cS hji ek em
            go_still_tail 29, (by kernel_rfl)
            still_call HBo.out
            repeat still_step
            refine wpStill_nil ?_
            change wpList _ _ _ _ _ wr.drew
            clear cC0 cC1 cC2 cW HBo HBw hxx ez etq etr w1 w2 w3 hpl
            obtain ⟨cO2, fO2⟩ := HD.out
            clear HD
            generalize wr.drew = w6 at *
            go_wp2_with fail
            clear cO2 fO2
            generalize w6.setCell ⟨O, k, none⟩ (.int .u8 (ee : Int)) = w7 at *
            go_roundw
            case rel => first | exact ⟨k + 1, by omega, by go_num, HO1.out, HS1.out, HZ1.out, hn1⟩ | ((repeat apply Exists.intro); exact ⟨⟨k + 1, by omega, by go_num, HO1.out, HS1.out, HZ1.out, hn1⟩, rfl⟩)
            case measure => simp [intOf]; omega
          · rw [show ((2 : Nat) : Int) = 2 from rfl] at em etr
            have ea : (y : Int) / 256 % 256 = (a : Int) := by have h := Hj.out.2.1; simp only [wb] at h; omega
            have ei : ((q : Int) + 2) % 4 = (j : Int) := by have := Hj.out.1; omega
            have ez : IntKind.u8.wrap ((z : Int) / 256) = (zb : Int) := by have h := Hj.out.2.2; simp only [wb] at h; rw [IntKind.wrap_u8]; omega
            have l1 : IntKind.i64.wrap 2 = 2 := by kernel_rfl
            have l2 : IntKind.i64.wrap 16 = 16 := by kernel_rfl
            have l3 : IntKind.i64.wrap 8 = 8 := by kernel_rfl
            go_upto_region 25 with fail
            try rw [ea]
            clear ea ei cS hji ek em
            go_still_tail 29, (by kernel_rfl)
            still_call HBo.out
            repeat still_step
            refine wpStill_nil ?_
            change wpList _ _ _ _ _ wr.drew
            clear cC0 cC1 cC2 cW HBo HBw hxx ez etq etr w1 w2 w3 hpl
            obtain ⟨cO2, fO2⟩ := HD.out
            clear HD
            generalize wr.drew = w6 at *
            go_wp2_with fail
            clear cO2 fO2
            generalize w6.setCell ⟨O, k, none⟩ (.int .u8 (ee : Int)) = w7 at *
            go_roundw
            case rel => first | exact ⟨k + 1, by omega, by go_num, HO1.out, HS1.out, HZ1.out, hn1⟩ | ((repeat apply Exists.intro); exact ⟨⟨k + 1, by omega, by go_num, HO1.out, HS1.out, HZ1.out, hn1⟩, rfl⟩)
            case measure => simp [intOf]; omega
          · rw [show ((3 : Nat) : Int) = 3 from rfl] at em etr
            have ea : (y : Int) % 256 = (a : Int) := by have h := Hj.out.2.1; simp only [wb] at h; omega
            have ei : ((q : Int) + 3) % 4 = (j : Int) := by have := Hj.out.1; omega
            have ez : IntKind.u8.wrap ((z : Int)) = (zb : Int) := by have h := Hj.out.2.2; simp only [wb] at h; rw [IntKind.wrap_u8]; omega
            have l1 : IntKind.i64.wrap 3 = 3 := by kernel_rfl
            have l2 : IntKind.i64.wrap 24 = 24 := by kernel_rfl
            have l3 : IntKind.i64.wrap 0 = 0 := by kernel_rfl
            go_upto_region 25 with fail
            try rw [ea]
            clear ea ei cS hji ek em
            go_still_tail 29, (by kernel_rfl)
            still_call HBo.out
            repeat still_step
            refine wpStill_nil ?_
            change wpList _ _ _ _ _ wr.drew
            clear cC0 cC1 cC2 cW HBo HBw hxx ez etq etr w1 w2 w3 hpl
            obtain ⟨cO2, fO2⟩ := HD.out
            clear HD
            generalize wr.drew = w6 at *
            go_wp2_with fail
            clear cO2 fO2
            generalize w6.setCell ⟨O, k, none⟩ (.int .u8 (ee : Int)) = w7 at *
            go_roundw
            case rel => first | exact ⟨k + 1, by omega, by go_num, HO1.out, HS1.out, HZ1.out, hn1⟩ | ((repeat apply Exists.intro); exact ⟨⟨k + 1, by omega, by go_num, HO1.out, HS1.out, HZ1.out, hn1⟩, rfl⟩)
            case measure => simp [intOf]; omega
        · obtain rfl : k = 16 := by omega
          have hO := HO.out
          rw [doneF_all _ _ 16 HE16.out.1 rfl] at hO
          obtain ⟨D, hD⟩ : ∃ D, D = E.map vb := ⟨_, rfl⟩
          rw [← hD] at hO
          have HO2 := Lib.hid hO
          have HD16 := Lib.hid (show D.length = 16 by rw [hD, List.length_map, HE16.out.1])
          have HD1 := Lib.hid (show ∀ u ∈ D, u.oneCell' = true by rw [hD]; exact vb_one _)
          have HDe := Lib.hid hD
          have HF := Lib.hid (Blk.fill HZ.out D (by rw [HD16.out]; rfl))
          have Hnf := Lib.hid (nu_fill D (g := Z) hZw 0 _ hn)
          clear hO HO hD hn
          go_wp2_with (first | (refine wpList_load_blk rfl 44 (.tmp 11) rfl O rfl 44 D.toArray HO2.out Try.underlying44 (by rw [List.size_toArray, HD16.out]; kernel_rfl) ?_) | (refine wpList_store_blk rfl 44 (.tmp 4) (.tmp 121) rfl Z D rfl rfl 44 (z16n.map vb).toArray HZ.out (by rw [HD16.out]; rfl) (by rw [HD16.out]; kernel_rfl) HD1.out ?_))
          refine bodyPost_ret (results_blk rfl _ Z 44 D.toArray rfl HF.out Try.underlying44 (by rw [List.size_toArray, HD16.out]; kernel_rfl)) rfl ⟨by rw [HDe.out, ← HEe.out], Hnf.out⟩
end Go.Proofs.Ytpeibkdcglkimaa

namespace Go.Proofs.Ytpeibkdcglkimaa
open Fld Aes

def mixP (f b : List Nat) (i : Nat) : Nat → Nat
  | 0 => 0
  | k + 1 => mixP f b i k ^^^ gm (f.getD k 0) (b.getD (i / 4 * 4 + (i + k) % 4) 0)
theorem mixP_four (f0 f1 f2 f3 : Nat) (b : List Nat) (i : Nat) : mixP [f0, f1, f2, f3] b i 4 = mixAt f0 f1 f2 f3 b i := by
  show 0 ^^^ gm f0 _ ^^^ gm f1 _ ^^^ gm f2 _ ^^^ gm f3 _ = _
  rw [Nat.zero_xor]
  rfl
theorem mixP_lt (f b : List Nat) (hf : ∀ x ∈ f, x < 256) (i k : Nat) : mixP f b i k < 256 := by
  induction k with
  | zero => exact Nat.zero_lt_succ _
  | succ k ih => exact xor_lt8 ih (gm_lt _ _ (getD_lt hf k))
theorem mix_get (f0 f1 f2 f3 : Nat) (b : List Nat) (i : Nat) (hi : i < 16) : (mix f0 f1 f2 f3 b)[i]? = some (mixAt f0 f1 f2 f3 b i) := by
  rw [mix, List.getElem?_map, List.getElem?_range hi]
  rfl
theorem addK_get {b : List Nat} (h : St16 b) {W : List Nat} (hW : Small W) (r i : Nat) (hi : i < 16) : (addK W r b)[i]? = some (wb ((cols (addK W r b)).getD (i / 4) 0) (i % 4)) := by
  have h2 := addK_st h W r
  rw [cols_getD _ _ (by omega), wb_colOf h2 _ _ (Nat.mod_lt _ (by omega)), show 4 * (i / 4) + i % 4 = i by omega, List.getD_eq_getElem?_getD, List.getElem?_eq_getElem (by rw [h2.1]; exact hi)]
  rfl
/-- Where a byte is led back to. -/
def toPos (i : Nat) : Nat := 4 * ((i / 4 + i % 4) % 4) + i % 4
theorem toPos_lt (i : Nat) : toPos i < 16 := by unfold toPos; omega
def unsubF (b : List Nat) : Nat → List Nat
  | 0 => z16n
  | k + 1 => (unsubF b k).set (toPos k) (bs (b.getD k 0))
theorem unsubF_len (b : List Nat) (k : Nat) : (unsubF b k).length = 16 := by
  induction k with
  | zero => rfl
  | succ k ih => rw [unsubF, List.length_set, ih]
theorem unsubF_all {b : List Nat} (h : St16 b) : unsubF b 16 = unsub b := by
  obtain ⟨h1, h2⟩ := h
  obtain ⟨a0, a1, a2, a3, a4, a5, a6, a7, a8, a9, a10, a11, a12, a13, a14, a15, rfl⟩ := open16 h1
  rfl
theorem unsubF_at (b : List Nat) (k : Nat) : ∃ v, (unsubF b k)[toPos k]? = some v := ⟨_, List.getElem?_eq_getElem (by rw [unsubF_len]; exact toPos_lt k)⟩
theorem decF_succ (W : List Nat) (R k : Nat) (b : List Nat) : decF W R (k + 1) b = unsub (if k = 0 then addK W R b else mix 14 11 13 9 (addK W (R - k) (decF W R k b))) := rfl
end Go.Proofs.Ytpeibkdcglkimaa

namespace Go.Proofs.Ytpeibkdcglkimaa
open Go.ChangeShapes Go.WideShapes Go.ChangeAt Go.RowKit Fld Aes
set_option linter.unusedSimpArgs false

abbrev by4 : List Nat := [14, 11, 13, 9]
theorem by4_lt : ∀ x ∈ by4, x < 256 := by decide
end Go.Proofs.Ytpeibkdcglkimaa

namespace Go.Proofs.Ytpeibkdcglkimaa
open Go.ChangeShapes Go.WideShapes Go.ChangeAt Go.RowKit Fld Aes
set_option linter.unusedSimpArgs false

end Go.Proofs.Ytpeibkdcglkimaa

namespace Go.Proofs.Ytpeibkdcglkimaa
open Go.ChangeShapes Go.WideShapes Go.ChangeAt Go.RowKit Fld Aes
set_option linter.unusedSimpArgs false

theorem z16_rep : (z16n.map vb).toArray = (List.replicate 16 (Value.int .u8 0)).toArray := rfl
set_option maxRecDepth 100000 in
set_option maxHeartbeats 1000000 in
theorem encrypt_nil (b : List Nat) (w : World) :
    Calls Try.prog 25 #[.pointer none, .agg (b.map vb).toArray] w fun e w' => e = .returned (.agg (z16n.map vb).toArray) ∧ Below w.heap.size w w' := by
  have hn := nu_alloc (nu_alloc (nu_refl w) (.cells (b.map vb).toArray 44)) (.cells (z16n.map vb).toArray 44)
  have HR := Lib.hid (Blk.made1 w (.cells (b.map vb).toArray 44) 44 (z16n.map vb).toArray)
  go_enter Try.func25, Try.ntmps25
  go_upto_region 2 with fail
  change Code.wp _ _ _ _ ((w.alloc (.cells (b.map vb).toArray 44)).alloc (.cells (z16n.map vb).toArray 44))
  have Hn := Lib.hid hn
  clear hn
  generalize (w.alloc (.cells (b.map vb).toArray 44)).alloc (.cells (z16n.map vb).toArray 44) = w1 at *
  have HFl := Lib.hid (Blk.fill HR.out (z16n.map vb) rfl)
  have Hnf := Lib.hid (nu_fill (z16n.map vb) (g := w.heap.size + 1) (by omega) 0 _ Hn.out)
  go_wp2_with (refine wpList_store_blk rfl 44 (.tmp 4) (.tmp 16) rfl (w.heap.size + 1) (z16n.map vb) rfl rfl 44 (z16n.map vb).toArray HR.out rfl (by kernel_rfl) (vb_one _) ?_)
  exact bodyPost_ret (results_blk rfl _ (w.heap.size + 1) 44 (z16n.map vb).toArray rfl HFl.out Try.underlying44 (by kernel_rfl)) rfl ⟨rfl, Hnf.out⟩
set_option maxRecDepth 100000 in
set_option maxHeartbeats 1000000 in
theorem aesNew_bad (a : Option Addr) (L cap : Nat) (w : World) (h1 : L ≠ 16) (h2 : L ≠ 32) :
    Calls Try.prog 23 #[.slice a L cap] w fun e w' => e = .returned (.tuple #[.pointer none, .int .i64 1]) ∧ w = w' := by
  have t1 : ((L : Int) != 16) = true := by rw [bne_iff_ne]; omega
  have t2 : ((L : Int) != 32) = true := by rw [bne_iff_ne]; omega
  go_enter Try.func23, Try.ntmps23
  go_wp2_with fail
  go_ret2
  exact ⟨rfl, rfl⟩
end Go.Proofs.Ytpeibkdcglkimaa

namespace Aes
open Fld
def boxT : List Nat := [99, 124, 119, 123, 242, 107, 111, 197, 48, 1, 103, 43, 254, 215, 171, 118, 202, 130, 201, 125, 250, 89, 71, 240, 173, 212, 162, 175, 156, 164, 114, 192, 183, 253, 147, 38, 54, 63, 247, 204, 52, 165, 229, 241, 113, 216, 49, 21, 4, 199, 35, 195, 24, 150, 5, 154, 7, 18, 128, 226, 235, 39, 178, 117, 9, 131, 44, 26, 27, 110, 90, 160, 82, 59, 214, 179, 41, 227, 47, 132, 83, 209, 0, 237, 32, 252, 177, 91, 106, 203, 190, 57, 74, 76, 88, 207, 208, 239, 170, 251, 67, 77, 51, 133, 69, 249, 2, 127, 80, 60, 159, 168, 81, 163, 64, 143, 146, 157, 56, 245, 188, 182, 218, 33, 16, 255, 243, 210, 205, 12, 19, 236, 95, 151, 68, 23, 196, 167, 126, 61, 100, 93, 25, 115, 96, 129, 79, 220, 34, 42, 144, 136, 70, 238, 184, 20, 222, 94, 11, 219, 224, 50, 58, 10, 73, 6, 36, 92, 194, 211, 172, 98, 145, 149, 228, 121, 231, 200, 55, 109, 141, 213, 78, 169, 108, 86, 244, 234, 101, 122, 174, 8, 186, 120, 37, 46, 28, 166, 180, 198, 232, 221, 116, 31, 75, 189, 139, 138, 112, 62, 181, 102, 72, 3, 246, 14, 97, 53, 87, 185, 134, 193, 29, 158, 225, 248, 152, 17, 105, 217, 142, 148, 155, 30, 135, 233, 206, 85, 40, 223, 140, 161, 137, 13, 191, 230, 66, 104, 65, 153, 45, 15, 176, 84, 187, 22]
theorem box_all : ∀ a, a < 256 → aff (sqL 7 a 1) = boxT.getD a 0 := by decide +kernel
theorem sb_tab (a : Nat) (ha : a < 256) : sb a = boxT.getD a 0 := by
  unfold sb
  rw [inv_sqL a ha]
  exact box_all a ha
def subWT (w : Nat) : Nat := wN (boxT.getD (wb w 0) 0) (boxT.getD (wb w 1) 0) (boxT.getD (wb w 2) 0) (boxT.getD (wb w 3) 0)
theorem subW_tab : subW = subWT := by
  funext w
  unfold subW subWT
  rw [sb_tab _ (wb_lt w 0), sb_tab _ (wb_lt w 1), sb_tab _ (wb_lt w 2), sb_tab _ (wb_lt w 3)]
def turnT (n i t : Nat) : Nat := if i % n = 0 then subWT (rotW t) ^^^ (gpow 2 (i / n - 1) * 16777216) else if n = 8 ∧ i % 8 = 4 then subWT t else t
def nextT (n : Nat) (W : List Nat) : Nat := W.getD (W.length - n) 0 ^^^ turnT n W.length (W.getD (W.length - 1) 0)
theorem next_tab : nextW = nextT := by
  funext n W
  unfold nextW nextT turnOf turnT
  rw [subW_tab]
def growT (n : Nat) : Nat → List Nat → List Nat
  | 0, W => W
  | k + 1, W => growT n k (W ++ [nextT n W])
theorem grow_tab (n : Nat) : ∀ (k : Nat) (W : List Nat), grow n k W = growT n k W := by
  intro k
  induction k with
  | zero => intro W; rfl
  | succ k ih => intro W; rw [grow, growT, ih, next_tab]
def subT (b : List Nat) : List Nat := (List.range 16).map fun i => boxT.getD (b.getD (4 * ((i / 4 + i % 4) % 4) + i % 4) 0) 0
theorem sub_tab {b : List Nat} (h : St16 b) : sub b = subT b := List.map_congr_left fun i _ => sb_tab _ (h.getD _)
theorem encF_tab {b : List Nat} (h : St16 b) (W : List Nat) (k : Nat) : encF W (k + 1) b = addK W (k + 1) (mix 2 3 1 1 (subT (encF W k b))) := by rw [encF, sub_tab (encF_st h W k)]
theorem enc_tab {b : List Nat} (h : St16 b) (W : List Nat) (R : Nat) : enc W R b = addK W R (subT (encF W (R - 1) b)) := by rw [enc, sub_tab (encF_st h W (R - 1))]
abbrev st0 : List Nat := [0, 17, 34, 51, 68, 85, 102, 119, 136, 153, 170, 187, 204, 221, 238, 255]
theorem st0_ok : St16 st0 := ⟨rfl, by decide⟩
theorem kx_w : words (List.range 16) 4 = [66051, 67438087, 134810123, 202182159] := by decide +kernel
theorem kx_g0 : growT 4 40 [66051, 67438087, 134810123, 202182159] = growT 4 36 [66051, 67438087, 134810123, 202182159, 3601495293, 3534713594, 3668343025, 3601561342] := by kernel_rfl
theorem kx_g1 : growT 4 36 [66051, 67438087, 134810123, 202182159, 3601495293, 3534713594, 3668343025, 3601561342] = growT 4 32 [66051, 67438087, 134810123, 202182159, 3601495293, 3534713594, 3668343025, 3601561342, 3063074571, 1681767921, 3197879552, 1748022270] := by kernel_rfl
theorem kx_g2 : growT 4 32 [66051, 67438087, 134810123, 202182159, 3601495293, 3534713594, 3668343025, 3601561342, 3063074571, 1681767921, 3197879552, 1748022270] = growT 4 28 [66051, 67438087, 134810123, 202182159, 3601495293, 3534713594, 3668343025, 3601561342, 3063074571, 1681767921, 3197879552, 1748022270, 3070194766, 3535980991, 1817775295, 74039105] := by kernel_rfl
theorem kx_g3 : growT 4 28 [66051, 67438087, 134810123, 202182159, 3601495293, 3534713594, 3668343025, 3601561342, 3063074571, 1681767921, 3197879552, 1748022270, 3070194766, 3535980991, 1817775295, 74039105] = growT 4 24 [66051, 67438087, 134810123, 202182159, 3601495293, 3534713594, 3668343025, 3601561342, 3063074571, 1681767921, 3197879552, 1748022270, 3070194766, 3535980991, 1817775295, 74039105, 1207433148, 2503294467, 4184617660, 4244999677] := by kernel_rfl
theorem kx_g4 : growT 4 24 [66051, 67438087, 134810123, 202182159, 3601495293, 3534713594, 3668343025, 3601561342, 3063074571, 1681767921, 3197879552, 1748022270, 3070194766, 3535980991, 1817775295, 74039105, 1207433148, 2503294467, 4184617660, 4244999677] = growT 4 20 [66051, 67438087, 134810123, 202182159, 3601495293, 3534713594, 3668343025, 3601561342, 3063074571, 1681767921, 3197879552, 1748022270, 3070194766, 3535980991, 1817775295, 74039105, 1207433148, 2503294467, 4184617660, 4244999677, 1017816040, 2845810155, 1358147415, 2918589098] := by kernel_rfl
theorem kx_g5 : growT 4 20 [66051, 67438087, 134810123, 202182159, 3601495293, 3534713594, 3668343025, 3601561342, 3063074571, 1681767921, 3197879552, 1748022270, 3070194766, 3535980991, 1817775295, 74039105, 1207433148, 2503294467, 4184617660, 4244999677, 1017816040, 2845810155, 1358147415, 2918589098] = growT 4 16 [66051, 67438087, 134810123, 202182159, 3601495293, 3534713594, 3668343025, 3601561342, 3063074571, 1681767921, 3197879552, 1748022270, 3070194766, 3535980991, 1817775295, 74039105, 1207433148, 2503294467, 4184617660, 4244999677, 1017816040, 2845810155, 1358147415, 2918589098, 1580797821, 4154888854, 2807381441, 178462571] := by kernel_rfl
theorem kx_g6 : growT 4 16 [66051, 67438087, 134810123, 202182159, 3601495293, 3534713594, 3668343025, 3601561342, 3063074571, 1681767921, 3197879552, 1748022270, 3070194766, 3535980991, 1817775295, 74039105, 1207433148, 2503294467, 4184617660, 4244999677, 1017816040, 2845810155, 1358147415, 2918589098, 1580797821, 4154888854, 2807381441, 178462571] = growT 4 12 [66051, 67438087, 134810123, 202182159, 3601495293, 3534713594, 3668343025, 3601561342, 3063074571, 1681767921, 3197879552, 1748022270, 3070194766, 3535980991, 1817775295, 74039105, 1207433148, 2503294467, 4184617660, 4244999677, 1017816040, 2845810155, 1358147415, 2918589098, 1580797821, 4154888854, 2807381441, 178462571, 351891482, 3814711948, 1141563213, 1319747622] := by kernel_rfl
theorem kx_g7 : growT 4 12 [66051, 67438087, 134810123, 202182159, 3601495293, 3534713594, 3668343025, 3601561342, 3063074571, 1681767921, 3197879552, 1748022270, 3070194766, 3535980991, 1817775295, 74039105, 1207433148, 2503294467, 4184617660, 4244999677, 1017816040, 2845810155, 1358147415, 2918589098, 1580797821, 4154888854, 2807381441, 178462571, 351891482, 3814711948, 1141563213, 1319747622] = growT 4 8 [66051, 67438087, 134810123, 202182159, 3601495293, 3534713594, 3668343025, 3601561342, 3063074571, 1681767921, 3197879552, 1748022270, 3070194766, 3535980991, 1817775295, 74039105, 1207433148, 2503294467, 4184617660, 4244999677, 1017816040, 2845810155, 1358147415, 2918589098, 1580797821, 4154888854, 2807381441, 178462571, 351891482, 3814711948, 1141563213, 1319747622, 1195607861, 2753324473, 3759586036, 2931784402] := by kernel_rfl
theorem kx_g8 : growT 4 8 [66051, 67438087, 134810123, 202182159, 3601495293, 3534713594, 3668343025, 3601561342, 3063074571, 1681767921, 3197879552, 1748022270, 3070194766, 3535980991, 1817775295, 74039105, 1207433148, 2503294467, 4184617660, 4244999677, 1017816040, 2845810155, 1358147415, 2918589098, 1580797821, 4154888854, 2807381441, 178462571, 351891482, 3814711948, 1141563213, 1319747622, 1195607861, 2753324473, 3759586036, 2931784402] = growT 4 4 [66051, 67438087, 134810123, 202182159, 3601495293, 3534713594, 3668343025, 3601561342, 3063074571, 1681767921, 3197879552, 1748022270, 3070194766, 3535980991, 1817775295, 74039105, 1207433148, 2503294467, 4184617660, 4244999677, 1017816040, 2845810155, 1358147415, 2918589098, 1580797821, 4154888854, 2807381441, 178462571, 351891482, 3814711948, 1141563213, 1319747622, 1195607861, 2753324473, 3759586036, 2931784402, 1419326161, 4035270504, 278130076, 3190593358] := by kernel_rfl
theorem kx_g9 : growT 4 4 [66051, 67438087, 134810123, 202182159, 3601495293, 3534713594, 3668343025, 3601561342, 3063074571, 1681767921, 3197879552, 1748022270, 3070194766, 3535980991, 1817775295, 74039105, 1207433148, 2503294467, 4184617660, 4244999677, 1017816040, 2845810155, 1358147415, 2918589098, 1580797821, 4154888854, 2807381441, 178462571, 351891482, 3814711948, 1141563213, 1319747622, 1195607861, 2753324473, 3759586036, 2931784402, 1419326161, 4035270504, 278130076, 3190593358] = growT 4 0 [66051, 67438087, 134810123, 202182159, 3601495293, 3534713594, 3668343025, 3601561342, 3063074571, 1681767921, 3197879552, 1748022270, 3070194766, 3535980991, 1817775295, 74039105, 1207433148, 2503294467, 4184617660, 4244999677, 1017816040, 2845810155, 1358147415, 2918589098, 1580797821, 4154888854, 2807381441, 178462571, 351891482, 3814711948, 1141563213, 1319747622, 1195607861, 2753324473, 3759586036, 2931784402, 1419326161, 4035270504, 278130076, 3190593358, 319888767, 3818146327, 4077365131, 1294676165] := by kernel_rfl
abbrev kx_W : List Nat := [66051, 67438087, 134810123, 202182159, 3601495293, 3534713594, 3668343025, 3601561342, 3063074571, 1681767921, 3197879552, 1748022270, 3070194766, 3535980991, 1817775295, 74039105, 1207433148, 2503294467, 4184617660, 4244999677, 1017816040, 2845810155, 1358147415, 2918589098, 1580797821, 4154888854, 2807381441, 178462571, 351891482, 3814711948, 1141563213, 1319747622, 1195607861, 2753324473, 3759586036, 2931784402, 1419326161, 4035270504, 278130076, 3190593358, 319888767, 3818146327, 4077365131, 1294676165]
theorem kx_expand : expand (List.range 16) = kx_W := by
  show grow 4 40 (words (List.range 16) 4) = _
  rw [grow_tab, kx_w, kx_g0, kx_g1, kx_g2, kx_g3, kx_g4, kx_g5, kx_g6, kx_g7, kx_g8, kx_g9]
  rfl
theorem kx_e0 : encF kx_W 0 st0 = [0, 16, 32, 48, 64, 80, 96, 112, 128, 144, 160, 176, 192, 208, 224, 240] := by kernel_rfl
theorem kx_e1 : encF kx_W 1 st0 = [137, 216, 16, 232, 133, 90, 206, 104, 45, 24, 67, 216, 203, 18, 143, 228] := by
  rw [encF_tab st0_ok, kx_e0]
  kernel_rfl
theorem kx_e2 : encF kx_W 2 st0 = [73, 21, 89, 143, 85, 229, 215, 160, 218, 202, 148, 250, 31, 10, 99, 247] := by
  rw [encF_tab st0_ok, kx_e1]
  kernel_rfl
theorem kx_e3 : encF kx_W 3 st0 = [250, 99, 106, 40, 37, 179, 57, 201, 64, 102, 138, 49, 87, 36, 77, 23] := by
  rw [encF_tab st0_ok, kx_e2]
  kernel_rfl
theorem kx_e4 : encF kx_W 4 st0 = [36, 114, 64, 35, 105, 102, 179, 250, 110, 210, 117, 50, 136, 66, 91, 108] := by
  rw [encF_tab st0_ok, kx_e3]
  kernel_rfl
theorem kx_e5 : encF kx_W 5 st0 = [200, 22, 119, 188, 155, 122, 201, 59, 37, 2, 121, 146, 176, 38, 25, 150] := by
  rw [encF_tab st0_ok, kx_e4]
  kernel_rfl
theorem kx_e6 : encF kx_W 6 st0 = [198, 47, 225, 9, 247, 94, 237, 195, 204, 121, 57, 93, 132, 249, 207, 93] := by
  rw [encF_tab st0_ok, kx_e5]
  kernel_rfl
theorem kx_e7 : encF kx_W 7 st0 = [209, 135, 108, 15, 121, 196, 48, 10, 180, 85, 148, 173, 214, 111, 244, 31] := by
  rw [encF_tab st0_ok, kx_e6]
  kernel_rfl
theorem kx_e8 : encF kx_W 8 st0 = [253, 227, 186, 210, 5, 229, 208, 215, 53, 71, 150, 78, 241, 254, 55, 241] := by
  rw [encF_tab st0_ok, kx_e7]
  kernel_rfl
theorem kx_e9 : encF kx_W 9 st0 = [189, 110, 124, 61, 242, 181, 119, 158, 11, 97, 33, 110, 139, 16, 182, 137] := by
  rw [encF_tab st0_ok, kx_e8]
  kernel_rfl
abbrev kx_out : List Nat := [105, 196, 224, 216, 106, 123, 4, 48, 216, 205, 183, 128, 112, 180, 197, 90]
theorem kx_enc : enc kx_W 10 st0 = kx_out := by
  rw [enc_tab st0_ok, kx_e9]
  kernel_rfl
theorem ky_w : words (List.range 32) 8 = [66051, 67438087, 134810123, 202182159, 269554195, 336926231, 404298267, 471670303] := by decide +kernel
theorem ky_g0 : growT 8 52 [66051, 67438087, 134810123, 202182159, 269554195, 336926231, 404298267, 471670303] = growT 8 48 [66051, 67438087, 134810123, 202182159, 269554195, 336926231, 404298267, 471670303, 2775827103, 2708915352, 2843725459, 2775761052] := by kernel_rfl
theorem ky_g1 : growT 8 48 [66051, 67438087, 134810123, 202182159, 269554195, 336926231, 404298267, 471670303, 2775827103, 2708915352, 2843725459, 2775761052] = growT 8 44 [66051, 67438087, 134810123, 202182159, 269554195, 336926231, 404298267, 471670303, 2775827103, 2708915352, 2843725459, 2775761052, 374450381, 38059738, 442344641, 104905438] := by kernel_rfl
theorem ky_g2 : growT 8 44 [66051, 67438087, 134810123, 202182159, 269554195, 336926231, 404298267, 471670303, 2775827103, 2708915352, 2843725459, 2775761052, 374450381, 38059738, 442344641, 104905438] = growT 8 40 [66051, 67438087, 134810123, 202182159, 269554195, 336926231, 404298267, 471670303, 2775827103, 2708915352, 2843725459, 2775761052, 374450381, 38059738, 442344641, 104905438, 2928140272, 267459432, 2794378747, 66852199] := by kernel_rfl
theorem ky_g3 : growT 8 40 [66051, 67438087, 134810123, 202182159, 269554195, 336926231, 404298267, 471670303, 2775827103, 2708915352, 2843725459, 2775761052, 374450381, 38059738, 442344641, 104905438, 2928140272, 267459432, 2794378747, 66852199] = growT 8 36 [66051, 67438087, 134810123, 202182159, 269554195, 336926231, 404298267, 471670303, 2775827103, 2708915352, 2843725459, 2775761052, 374450381, 38059738, 442344641, 104905438, 2928140272, 267459432, 2794378747, 66852199, 1843523912, 1873104786, 1979247443, 1941459341] := by kernel_rfl
theorem ky_g4 : growT 8 36 [66051, 67438087, 134810123, 202182159, 269554195, 336926231, 404298267, 471670303, 2775827103, 2708915352, 2843725459, 2775761052, 374450381, 38059738, 442344641, 104905438, 2928140272, 267459432, 2794378747, 66852199, 1843523912, 1873104786, 1979247443, 1941459341] = growT 8 32 [66051, 67438087, 134810123, 202182159, 269554195, 336926231, 404298267, 471670303, 2775827103, 2708915352, 2843725459, 2775761052, 374450381, 38059738, 442344641, 104905438, 2928140272, 267459432, 2794378747, 66852199, 1843523912, 1873104786, 1979247443, 1941459341, 3327558271, 3383204119, 1864977644, 1825921419] := by kernel_rfl
theorem ky_g5 : growT 8 32 [66051, 67438087, 134810123, 202182159, 269554195, 336926231, 404298267, 471670303, 2775827103, 2708915352, 2843725459, 2775761052, 374450381, 38059738, 442344641, 104905438, 2928140272, 267459432, 2794378747, 66852199, 1843523912, 1873104786, 1979247443, 1941459341, 3327558271, 3383204119, 1864977644, 1825921419] = growT 8 28 [66051, 67438087, 134810123, 202182159, 269554195, 336926231, 404298267, 471670303, 2775827103, 2708915352, 2843725459, 2775761052, 374450381, 38059738, 442344641, 104905438, 2928140272, 267459432, 2794378747, 66852199, 1843523912, 1873104786, 1979247443, 1941459341, 3327558271, 3383204119, 1864977644, 1825921419, 1038236277, 1380414951, 666869428, 1409797945] := by kernel_rfl
theorem ky_g6 : growT 8 28 [66051, 67438087, 134810123, 202182159, 269554195, 336926231, 404298267, 471670303, 2775827103, 2708915352, 2843725459, 2775761052, 374450381, 38059738, 442344641, 104905438, 2928140272, 267459432, 2794378747, 66852199, 1843523912, 1873104786, 1979247443, 1941459341, 3327558271, 3383204119, 1864977644, 1825921419, 1038236277, 1380414951, 666869428, 1409797945] = growT 8 24 [66051, 67438087, 134810123, 202182159, 269554195, 336926231, 404298267, 471670303, 2775827103, 2708915352, 2843725459, 2775761052, 374450381, 38059738, 442344641, 104905438, 2928140272, 267459432, 2794378747, 66852199, 1843523912, 1873104786, 1979247443, 1941459341, 3327558271, 3383204119, 1864977644, 1825921419, 1038236277, 1380414951, 666869428, 1409797945, 199004255, 3262843208, 2907850148, 3246857263] := by kernel_rfl
theorem ky_g7 : growT 8 24 [66051, 67438087, 134810123, 202182159, 269554195, 336926231, 404298267, 471670303, 2775827103, 2708915352, 2843725459, 2775761052, 374450381, 38059738, 442344641, 104905438, 2928140272, 267459432, 2794378747, 66852199, 1843523912, 1873104786, 1979247443, 1941459341, 3327558271, 3383204119, 1864977644, 1825921419, 1038236277, 1380414951, 666869428, 1409797945, 199004255, 3262843208, 2907850148, 3246857263] = growT 8 20 [66051, 67438087, 134810123, 202182159, 269554195, 336926231, 404298267, 471670303, 2775827103, 2708915352, 2843725459, 2775761052, 374450381, 38059738, 442344641, 104905438, 2928140272, 267459432, 2794378747, 66852199, 1843523912, 1873104786, 1979247443, 1941459341, 3327558271, 3383204119, 1864977644, 1825921419, 1038236277, 1380414951, 666869428, 1409797945, 199004255, 3262843208, 2907850148, 3246857263, 1173726816, 397595527, 806178099, 1678410250] := by kernel_rfl
theorem ky_g8 : growT 8 20 [66051, 67438087, 134810123, 202182159, 269554195, 336926231, 404298267, 471670303, 2775827103, 2708915352, 2843725459, 2775761052, 374450381, 38059738, 442344641, 104905438, 2928140272, 267459432, 2794378747, 66852199, 1843523912, 1873104786, 1979247443, 1941459341, 3327558271, 3383204119, 1864977644, 1825921419, 1038236277, 1380414951, 666869428, 1409797945, 199004255, 3262843208, 2907850148, 3246857263, 1173726816, 397595527, 806178099, 1678410250] = growT 8 16 [66051, 67438087, 134810123, 202182159, 269554195, 336926231, 404298267, 471670303, 2775827103, 2708915352, 2843725459, 2775761052, 374450381, 38059738, 442344641, 104905438, 2928140272, 267459432, 2794378747, 66852199, 1843523912, 1873104786, 1979247443, 1941459341, 3327558271, 3383204119, 1864977644, 1825921419, 1038236277, 1380414951, 666869428, 1409797945, 199004255, 3262843208, 2907850148, 3246857263, 1173726816, 397595527, 806178099, 1678410250, 2094003996, 3199532628, 333888496, 3529615327] := by kernel_rfl
theorem ky_g9 : growT 8 16 [66051, 67438087, 134810123, 202182159, 269554195, 336926231, 404298267, 471670303, 2775827103, 2708915352, 2843725459, 2775761052, 374450381, 38059738, 442344641, 104905438, 2928140272, 267459432, 2794378747, 66852199, 1843523912, 1873104786, 1979247443, 1941459341, 3327558271, 3383204119, 1864977644, 1825921419, 1038236277, 1380414951, 666869428, 1409797945, 199004255, 3262843208, 2907850148, 3246857263, 1173726816, 397595527, 806178099, 1678410250, 2094003996, 3199532628, 333888496, 3529615327] = growT 8 12 [66051, 67438087, 134810123, 202182159, 269554195, 336926231, 404298267, 471670303, 2775827103, 2708915352, 2843725459, 2775761052, 374450381, 38059738, 442344641, 104905438, 2928140272, 267459432, 2794378747, 66852199, 1843523912, 1873104786, 1979247443, 1941459341, 3327558271, 3383204119, 1864977644, 1825921419, 1038236277, 1380414951, 666869428, 1409797945, 199004255, 3262843208, 2907850148, 3246857263, 1173726816, 397595527, 806178099, 1678410250, 2094003996, 3199532628, 333888496, 3529615327, 4028300030, 3886557561, 3617940554, 3014649408] := by kernel_rfl
theorem ky_g10 : growT 8 12 [66051, 67438087, 134810123, 202182159, 269554195, 336926231, 404298267, 471670303, 2775827103, 2708915352, 2843725459, 2775761052, 374450381, 38059738, 442344641, 104905438, 2928140272, 267459432, 2794378747, 66852199, 1843523912, 1873104786, 1979247443, 1941459341, 3327558271, 3383204119, 1864977644, 1825921419, 1038236277, 1380414951, 666869428, 1409797945, 199004255, 3262843208, 2907850148, 3246857263, 1173726816, 397595527, 806178099, 1678410250, 2094003996, 3199532628, 333888496, 3529615327, 4028300030, 3886557561, 3617940554, 3014649408] = growT 8 8 [66051, 67438087, 134810123, 202182159, 269554195, 336926231, 404298267, 471670303, 2775827103, 2708915352, 2843725459, 2775761052, 374450381, 38059738, 442344641, 104905438, 2928140272, 267459432, 2794378747, 66852199, 1843523912, 1873104786, 1979247443, 1941459341, 3327558271, 3383204119, 1864977644, 1825921419, 1038236277, 1380414951, 666869428, 1409797945, 199004255, 3262843208, 2907850148, 3246857263, 1173726816, 397595527, 806178099, 1678410250, 2094003996, 3199532628, 333888496, 3529615327, 4028300030, 3886557561, 3617940554, 3014649408, 625081969, 2616524837, 2282994645, 1517427722] := by kernel_rfl
theorem ky_g11 : growT 8 8 [66051, 67438087, 134810123, 202182159, 269554195, 336926231, 404298267, 471670303, 2775827103, 2708915352, 2843725459, 2775761052, 374450381, 38059738, 442344641, 104905438, 2928140272, 267459432, 2794378747, 66852199, 1843523912, 1873104786, 1979247443, 1941459341, 3327558271, 3383204119, 1864977644, 1825921419, 1038236277, 1380414951, 666869428, 1409797945, 199004255, 3262843208, 2907850148, 3246857263, 1173726816, 397595527, 806178099, 1678410250, 2094003996, 3199532628, 333888496, 3529615327, 4028300030, 3886557561, 3617940554, 3014649408, 625081969, 2616524837, 2282994645, 1517427722] = growT 8 4 [66051, 67438087, 134810123, 202182159, 269554195, 336926231, 404298267, 471670303, 2775827103, 2708915352, 2843725459, 2775761052, 374450381, 38059738, 442344641, 104905438, 2928140272, 267459432, 2794378747, 66852199, 1843523912, 1873104786, 1979247443, 1941459341, 3327558271, 3383204119, 1864977644, 1825921419, 1038236277, 1380414951, 666869428, 1409797945, 199004255, 3262843208, 2907850148, 3246857263, 1173726816, 397595527, 806178099, 1678410250, 2094003996, 3199532628, 333888496, 3529615327, 4028300030, 3886557561, 3617940554, 3014649408, 625081969, 2616524837, 2282994645, 1517427722, 1314547353, 2851229664, 2119642026, 3455634922] := by kernel_rfl
theorem ky_g12 : growT 8 4 [66051, 67438087, 134810123, 202182159, 269554195, 336926231, 404298267, 471670303, 2775827103, 2708915352, 2843725459, 2775761052, 374450381, 38059738, 442344641, 104905438, 2928140272, 267459432, 2794378747, 66852199, 1843523912, 1873104786, 1979247443, 1941459341, 3327558271, 3383204119, 1864977644, 1825921419, 1038236277, 1380414951, 666869428, 1409797945, 199004255, 3262843208, 2907850148, 3246857263, 1173726816, 397595527, 806178099, 1678410250, 2094003996, 3199532628, 333888496, 3529615327, 4028300030, 3886557561, 3617940554, 3014649408, 625081969, 2616524837, 2282994645, 1517427722, 1314547353, 2851229664, 2119642026, 3455634922] = growT 8 0 [66051, 67438087, 134810123, 202182159, 269554195, 336926231, 404298267, 471670303, 2775827103, 2708915352, 2843725459, 2775761052, 374450381, 38059738, 442344641, 104905438, 2928140272, 267459432, 2794378747, 66852199, 1843523912, 1873104786, 1979247443, 1941459341, 3327558271, 3383204119, 1864977644, 1825921419, 1038236277, 1380414951, 666869428, 1409797945, 199004255, 3262843208, 2907850148, 3246857263, 1173726816, 397595527, 806178099, 1678410250, 2094003996, 3199532628, 333888496, 3529615327, 4028300030, 3886557561, 3617940554, 3014649408, 625081969, 2616524837, 2282994645, 1517427722, 1314547353, 2851229664, 2119642026, 3455634922, 620526028, 3205069289, 924500540, 1835589174] := by kernel_rfl
abbrev ky_W : List Nat := [66051, 67438087, 134810123, 202182159, 269554195, 336926231, 404298267, 471670303, 2775827103, 2708915352, 2843725459, 2775761052, 374450381, 38059738, 442344641, 104905438, 2928140272, 267459432, 2794378747, 66852199, 1843523912, 1873104786, 1979247443, 1941459341, 3327558271, 3383204119, 1864977644, 1825921419, 1038236277, 1380414951, 666869428, 1409797945, 199004255, 3262843208, 2907850148, 3246857263, 1173726816, 397595527, 806178099, 1678410250, 2094003996, 3199532628, 333888496, 3529615327, 4028300030, 3886557561, 3617940554, 3014649408, 625081969, 2616524837, 2282994645, 1517427722, 1314547353, 2851229664, 2119642026, 3455634922, 620526028, 3205069289, 924500540, 1835589174]
theorem ky_expand : expand (List.range 32) = ky_W := by
  show grow 8 52 (words (List.range 32) 8) = _
  rw [grow_tab, ky_w, ky_g0, ky_g1, ky_g2, ky_g3, ky_g4, ky_g5, ky_g6, ky_g7, ky_g8, ky_g9, ky_g10, ky_g11, ky_g12]
  rfl
theorem ky_e0 : encF ky_W 0 st0 = [0, 16, 32, 48, 64, 80, 96, 112, 128, 144, 160, 176, 192, 208, 224, 240] := by kernel_rfl
theorem ky_e1 : encF ky_W 1 st0 = [79, 99, 118, 6, 67, 224, 170, 133, 239, 167, 33, 50, 1, 164, 231, 5] := by
  rw [encF_tab st0_ok, ky_e0]
  kernel_rfl
theorem ky_e2 : encF ky_W 2 st0 = [24, 89, 251, 194, 138, 28, 0, 160, 120, 237, 138, 173, 196, 47, 97, 9] := by
  rw [encF_tab st0_ok, ky_e1]
  kernel_rfl
theorem ky_e3 : encF ky_W 3 st0 = [151, 92, 102, 193, 203, 159, 63, 168, 169, 58, 40, 223, 142, 225, 15, 99] := by
  rw [encF_tab st0_ok, ky_e2]
  kernel_rfl
theorem ky_e4 : encF ky_W 4 st0 = [28, 5, 242, 113, 164, 23, 224, 79, 249, 33, 197, 193, 4, 112, 21, 84] := by
  rw [encF_tab st0_ok, ky_e3]
  kernel_rfl
theorem ky_e5 : encF ky_W 5 st0 = [195, 87, 170, 225, 27, 69, 183, 176, 162, 199, 189, 40, 168, 220, 153, 250] := by
  rw [encF_tab st0_ok, ky_e4]
  kernel_rfl
theorem ky_e6 : encF ky_W 6 st0 = [127, 7, 65, 67, 203, 78, 36, 62, 193, 12, 129, 93, 131, 117, 213, 76] := by
  rw [encF_tab st0_ok, ky_e5]
  kernel_rfl
theorem ky_e7 : encF ky_W 7 st0 = [214, 83, 164, 105, 108, 160, 188, 15, 90, 202, 171, 93, 185, 108, 94, 125] := by
  rw [encF_tab st0_ok, ky_e6]
  kernel_rfl
theorem ky_e8 : encF ky_W 8 st0 = [90, 168, 88, 57, 95, 210, 141, 125, 5, 225, 163, 136, 104, 243, 185, 197] := by
  rw [encF_tab st0_ok, ky_e7]
  kernel_rfl
theorem ky_e9 : encF ky_W 9 st0 = [74, 130, 72, 81, 197, 126, 126, 71, 100, 61, 229, 12, 42, 243, 232, 201] := by
  rw [encF_tab st0_ok, ky_e8]
  kernel_rfl
theorem ky_e10 : encF ky_W 10 st0 = [193, 73, 7, 246, 202, 59, 58, 160, 112, 233, 170, 49, 59, 82, 181, 236] := by
  rw [encF_tab st0_ok, ky_e9]
  kernel_rfl
theorem ky_e11 : encF ky_W 11 st0 = [95, 156, 106, 191, 186, 198, 52, 170, 80, 64, 159, 167, 102, 103, 118, 83] := by
  rw [encF_tab st0_ok, ky_e10]
  kernel_rfl
theorem ky_e12 : encF ky_W 12 st0 = [81, 102, 4, 149, 67, 83, 149, 3, 20, 251, 134, 228, 1, 146, 37, 33] := by
  rw [encF_tab st0_ok, ky_e11]
  kernel_rfl
theorem ky_e13 : encF ky_W 13 st0 = [98, 123, 206, 185, 153, 157, 90, 170, 201, 69, 236, 244, 35, 245, 109, 165] := by
  rw [encF_tab st0_ok, ky_e12]
  kernel_rfl
abbrev ky_out : List Nat := [142, 162, 183, 202, 81, 103, 69, 191, 234, 252, 73, 144, 75, 73, 96, 137]
theorem ky_enc : enc ky_W 14 st0 = ky_out := by
  rw [enc_tab st0_ok, ky_e13]
  kernel_rfl
end Aes

namespace Go.Proofs.Ytpeibkdcglkimaa
open Go.ChangeShapes Go.WideShapes Go.ChangeAt Go.RowKit

section
variable {P : Program} (w : World)

theorem run_eqItems_bytes (d : Nat) {e : TypeId} {k : IntKind} (he : P.underlying e = some (.int k)) (hp : P.plainKey e = true) (xs ys : List Nat) : ∀ is : List Nat,
    (∀ i ∈ is, i < xs.length ∧ i < ys.length) → (Op.eqItems (d + 1) e 1 (xs.map vb).toArray (ys.map vb).toArray is).run P w = .ok (decide (∀ i ∈ is, xs[i]? = ys[i]?)) w := by
  intro is
  induction is with
  | nil => intro _; simp [Op.eqItems]
  | cons i is ih =>
    intro h
    obtain ⟨h1, h2⟩ := h i (by simp)
    have e1 : ((xs.map vb).toArray)[i * 1]? = some (vb xs[i]) := by
      rw [List.getElem?_toArray, Nat.mul_one, List.getElem?_map, List.getElem?_eq_getElem h1]
      rfl
    have e2 : ((ys.map vb).toArray)[i * 1]? = some (vb ys[i]) := by
      rw [List.getElem?_toArray, Nat.mul_one, List.getElem?_map, List.getElem?_eq_getElem h2]
      rfl
    have e3 := run_equalIn_int (P := P) (w := w) d e .u8 k (xs[i] : Int) (ys[i] : Int) he
    have ih' := ih (fun j hj => h j (by simp [hj]))
    simp only [Op.eqItems, Sem.run_bind, run_part_plain w hp e1, run_part_plain w hp e2, Result.andThen_ok]
    rw [show vb xs[i] = Value.int .u8 (xs[i] : Int) from rfl, show vb ys[i] = Value.int .u8 (ys[i] : Int) from rfl, e3]
    simp only [Result.andThen_ok]
    by_cases hxy : xs[i] = ys[i]
    · have t1 : ((xs[i] : Int) == (ys[i] : Int)) = true := by rw [hxy]; simp
      have t2 : xs[i]? = ys[i]? := by rw [List.getElem?_eq_getElem h1, List.getElem?_eq_getElem h2, hxy]
      rw [t1]
      simp only [Bool.not_true, Bool.false_eq_true, if_false]
      rw [ih']
      simp [t2]
    · have t1 : ((xs[i] : Int) == (ys[i] : Int)) = false := by rw [beq_eq_false_iff_ne]; omega
      have t2 : ¬ xs[i]? = ys[i]? := by rw [List.getElem?_eq_getElem h1, List.getElem?_eq_getElem h2]; simpa using hxy
      rw [t1]
      simp [t2]
theorem run_equalIn_bytes' {t e : TypeId} {n : Nat} {i : TypeInfo} {k : IntKind} (d : Nat) (hu : P.underlying t = some (.array n e)) (hi : P.info? e = some i) (he : P.underlying e = some (.int k)) (hp : P.plainKey e = true) (hc : P.cellsOf e = 1)
    (xs ys : List Nat) (hx : xs.length = n) (hy : ys.length = n) :
    (Op.equalIn (d + 1 + 1) t (.agg (xs.map vb).toArray) (.agg (ys.map vb).toArray)).run P w = .ok (decide (xs = ys)) w := by
  have h1 := run_equalIn_array (P := P) w (d + 1) (xs.map vb).toArray (ys.map vb).toArray hu hi
  rw [hc, run_eqItems_bytes w d he hp xs ys (List.range n) (fun i hi => by rw [List.mem_range] at hi; omega)] at h1
  have h2 : (∀ i ∈ List.range n, xs[i]? = ys[i]?) ↔ xs = ys := by
    constructor
    · intro h
      refine List.ext_getElem? fun i => ?_
      by_cases hin : i < n
      · exact h i (List.mem_range.2 hin)
      · rw [List.getElem?_eq_none (by omega), List.getElem?_eq_none (by omega)]
    · rintro rfl
      exact fun _ _ => rfl
  have h3 : decide (∀ i ∈ List.range n, xs[i]? = ys[i]?) = decide (xs = ys) := by simp only [h2]
  rw [h3] at h1
  exact h1
theorem run_equalIn_bytes {t e : TypeId} {n : Nat} {i : TypeInfo} {k : IntKind} (hu : P.underlying t = some (.array n e)) (hi : P.info? e = some i) (he : P.underlying e = some (.int k)) (hp : P.plainKey e = true) (hc : P.cellsOf e = 1)
    (xs ys : List Nat) (hx : xs.length = n) (hy : ys.length = n) :
    (Op.equalIn 10000 t (.agg (xs.map vb).toArray) (.agg (ys.map vb).toArray)).run P w = .ok (decide (xs = ys)) w := by
  have h1 := run_equalIn_array (P := P) w 9999 (xs.map vb).toArray (ys.map vb).toArray hu hi
  rw [hc, run_eqItems_bytes w 9998 he hp xs ys (List.range n) (fun i hi => by rw [List.mem_range] at hi; omega)] at h1
  have h2 : (∀ i ∈ List.range n, xs[i]? = ys[i]?) ↔ xs = ys := by
    constructor
    · intro h
      refine List.ext_getElem? fun i => ?_
      by_cases hin : i < n
      · exact h i (List.mem_range.2 hin)
      · rw [List.getElem?_eq_none (by omega), List.getElem?_eq_none (by omega)]
    · rintro rfl
      exact fun _ _ => rfl
  have h3 : decide (∀ i ∈ List.range n, xs[i]? = ys[i]?) = decide (xs = ys) := by simp only [h2]
  rw [h3] at h1
  exact h1
theorem run_eql_bytes {t e : TypeId} {n : Nat} {i : TypeInfo} {k : IntKind} (hu : P.underlying t = some (.array n e)) (hi : P.info? e = some i) (he : P.underlying e = some (.int k)) (hp : P.plainKey e = true) (hc : P.cellsOf e = 1)
    (xs ys : List Nat) (hx : xs.length = n) (hy : ys.length = n) :
    (binOp .eql t (.agg (xs.map vb).toArray) (.agg (ys.map vb).toArray)).run P w = .ok (.bool (decide (xs = ys))) w := by
  have h1 := run_equalIn_bytes w hu hi he hp hc xs ys hx hy
  simp only [binOp]
  simp [Op.equal, Op.maxDepth, h1]
end
end Go.Proofs.Ytpeibkdcglkimaa

namespace Go.Proofs.Ytpeibkdcglkimaa
open Go.ChangeShapes Go.WideShapes Go.ChangeAt Go.RowKit

section
variable {o : Oper} {a : Act} {w : World}
theorem e16_eql (xs ys : List Nat) (v : Bool) (hv : decide (xs = ys) = v) (h1 : xs.length = 16) (h2 : ys.length = 16) (x y : Operand) (ho : o.op = .binOp .eql 44 x y 44) (hx : a.eval x = .agg (xs.map vb).toArray) (hy : a.eval y = .agg (ys.map vb).toArray) :
    (execOp a.eval o).run Try.prog w = .ok (.value (.bool v)) w := by
  have he := run_equalIn_bytes' (P := Try.prog) w (t := 44) (e := 5) (n := 16) (i := (Try.prog.info? 5).get!) (k := .u8) 9998 (by kernel_rfl) (by kernel_rfl) (by kernel_rfl) (by kernel_rfl) (by kernel_rfl) xs ys h1 h2
  rw [hv] at he
  unfold execOp
  simp only [ho, hx, hy]
  simp [run_eqGuard_agg (P := Try.prog) w .eql 44 x y (xs.map vb).toArray (ys.map vb).toArray (by kernel_rfl), run_eql_struct, he]
theorem e16_same (xs : List Nat) (h1 : xs.length = 16) (x y : Operand) (ho : o.op = .binOp .eql 44 x y 44) (hx : a.eval x = .agg (xs.map vb).toArray) (hy : a.eval y = .agg (xs.map vb).toArray) :
    (execOp a.eval o).run Try.prog w = .ok (.value (.bool true)) w := e16_eql xs xs true (by simp) h1 h1 x y ho hx hy
theorem e16_load {g : Nat} {t : TypeId} {xs : List Nat} (hb : Blk w g t (xs.map vb).toArray) (h1 : xs.length = 16) (x : Operand) (ho : o.op = .load 44 x) (hx : a.eval x = .pointer (some ⟨g, 0, none⟩)) :
    (execOp a.eval o).run Try.prog w = .ok (.value (.agg (xs.map vb).toArray)) w :=
  exec_load_mid (P := Try.prog) (w := w) 44 x g 0 (xs.map vb) (.array 16 5) ho hx (range_blk hb) (by kernel_rfl) rfl (by rw [List.length_map, h1]; kernel_rfl)
theorem exec_eqb (v : Bool) (x y : Operand) (ho : o.op = .binOp .eql 4 x y 4) (hx : a.eval x = .bool v) (hy : a.eval y = .bool v) :
    (execOp a.eval o).run Try.prog w = .ok (.value (.bool true)) w := by
  cases v
  · unfold execOp
    simp only [ho, hx, hy]
    kernel_rfl
  · unfold execOp
    simp only [ho, hx, hy]
    kernel_rfl
end
theorem ownB_under {w w' : World} {base : Nat} {e : TypeId} {v : Value} {xs : List Nat} (h : OwnB w base e v xs) (hb : Below w.heap.size w w') : OwnB w' base e v xs :=
  ⟨h.1.kept (gb_of_below hb none) (by cases v.ownBlock <;> simp), h.2⟩
/-- One byte more, out of a slice that was made for it. -/
theorem wpList_byte_more {ops : Array Oper} {rest : List Oper} {o : Oper} {a : Act} {Q : Exit → Act → World → Prop} (hgd : o.guard = none) (s x : Operand)
    (ho : o.op = .call { callee := .builtin .append, args := #[s, x], argTypes := #[22, 22] }) {w : World} {base : Nat} {v : Value} {xs : List Nat} (hown : OwnB w base 5 v xs) (hb : base ≤ w.heap.size) (hl : xs.length < 140737488355328)
    (y : Int) (n : Nat) (hn : n < 256) (hy : y = (n : Int)) (hs : a.eval s = v) (hx : a.eval x = .slice (some ⟨w.heap.size, 0, none⟩) 1 1)
    (h : ∀ v' w', OwnB w' base 5 v' (xs ++ [n]) → Below base w w' → wpList Try.prog ops Q rest (a.put o.dst v') w') : wpList Try.prog ops Q (o :: rest) a (w.alloc (.cells #[.int .u8 y] 5)) := by
  subst hy
  obtain ⟨i0, hi, hz0, hz1, hz2⟩ := info_parts info_u8
  have hal := nu_alloc (nu_refl w) (.cells #[.int .u8 (n : Int)] 5)
  refine wpList_append_own _ hgd s x 22 ho base 5 i0 (.int .u8 0) 1 1 Try.underlying22 hi hz0 hz1 hz2 rfl (by decide) v xs.length (xs.map vb) hs (ownB_under hown hal).1 ⟨w.heap.size, 0, none⟩ 1 1 [.int .u8 (n : Int)] hx rfl (cell_one_new _ _ _)
    (by intro u hu; obtain rfl := List.mem_singleton.1 hu; rfl) (by unfold maxLen; omega) (by omega) (by simp; omega) ?_
  intro v' w' h1 h2 _
  refine h v' w' ⟨by rw [List.length_append, List.map_append]; exact h1, fun z hz => ?_⟩ ((hal.mono hb).grown h2 (by simp; omega) (fun k hk => (hown.1.lt k hk).1))
  rcases List.mem_append.1 hz with hz | hz
  · exact hown.2 z hz
  · simp at hz
    omega
end Go.Proofs.Ytpeibkdcglkimaa

namespace Go.Proofs.Ytpeibkdcglkimaa
open Go.ChangeShapes Go.WideShapes Go.ChangeAt Go.RowKit Fld Aes
set_option linter.unusedSimpArgs false

/-- Words that R rounds can use. -/
structure Keyed (W : List Nat) (R : Nat) : Prop where
  pos : 0 < R
  few : R ≤ 14
  small : Small W
  len : W.length = 4 * (R + 1)
theorem keyed_of {key : List Nat} (h : ∀ x ∈ key, x < 256) (hl : key.length = 16 ∨ key.length = 32) : Keyed (expand key) (key.length / 4 + 6) :=
  ⟨by omega, by omega, expand_small h, by rw [expand_len]⟩
/-- What New made. -/
def NewIs (w : World) (key : List Nat) (e : Ending) (w' : World) : Prop :=
  ∃ C, e = .returned (.tuple #[.pointer (some ⟨C, 0, none⟩), .int .i64 0]) ∧ CiphAt w' C (expand key) (key.length / 4 + 6) ∧ Below w.heap.size w w'
theorem new_good {L : Nat} (hL : L = 16 ∨ L = 32) {a : Option Addr} {cap : Nat} {key : List Nat} {w : World} (hx : BytesIn w a L cap key) :
    Calls Try.prog 23 #[.slice a L cap] w (NewIs w key) := by
  have hl : key.length = L := hx.1.1
  refine (aesNew_any (L / 4) L (by omega) (by omega) a cap key w hx).mono ?_
  rintro e w' ⟨C, x, B0, v, he, hN⟩
  have hp : 0 < (expand key).length := by rw [expand_len]; omega
  refine ⟨C, he, ?_, hN.nu⟩
  rw [hl]
  exact ciphAt_new hN hp
theorem enc_call {w : World} {C R : Nat} {W : List Nat} (hC : CiphAt w C W R) (hK : Keyed W R) {b D : List Nat} (hb : St16 b) (hD : enc W R b = D) :
    Calls Try.prog 25 #[.pointer (some ⟨C, 0, none⟩), .agg (b.map vb).toArray] w fun e w' => e = .returned (.agg (D.map vb).toArray) ∧ Below w.heap.size w w' := by
  rw [← hD]
  exact encrypt_any hC hK.small hK.pos hK.few hK.len b hb
/-- A cipher and a block. -/
structure CB (w : World) (C R : Nat) (W : List Nat) (B : Nat) (b : List Nat) : Prop where
  c : CiphAt w C W R
  b : Blk w B 44 (b.map vb).toArray
theorem CB.below {w w' : World} {C R : Nat} {W : List Nat} {B : Nat} {b : List Nat} (h : CB w C R W B b) (hb : Below w.heap.size w w') : CB w' C R W B b := ⟨h.c.below hb, h.b.below hb h.b.lt⟩

theorem CiphAt.drew {w : World} {C R : Nat} {W : List Nat} (h : CiphAt w C W R) : CiphAt w.drew C W R := h.below (nu_drew (nu_refl w))
theorem CB.drew {w : World} {C R : Nat} {W : List Nat} {B : Nat} {b : List Nat} (h : CB w C R W B b) : CB w.drew C R W B b := h.below (nu_drew (nu_refl w))
theorem kx_key : Keyed kx_W 10 := by rw [← kx_expand]; exact keyed_of (by decide) (.inl rfl)
theorem ky_key : Keyed ky_W 14 := by rw [← ky_expand]; exact keyed_of (by decide) (.inr rfl)
theorem st0_at : ∀ k, k < 16 → st0[k]? = some (17 * k) := by decide
theorem kx_out16 : kx_out.length = 16 := rfl

theorem exec_first {o : Oper} {a : Act} {w : World} (x : Operand) (ho : o.op = .index 44 x (.const (.int .i64 0))) (hx : a.eval x = .agg (kx_out.map vb).toArray) : (execOp a.eval o).run Try.prog w = .ok (.value (.int .u8 105)) w := by
  unfold execOp
  simp only [ho, hx]
  kernel_rfl
end Go.Proofs.Ytpeibkdcglkimaa

namespace Gh

/-- One step: times x, and what is too much taken away. -/
def T (a : Nat) : Nat := (a * 2 % 340282366920938463463374607431768211456) ^^^ (if a.testBit 127 then 135 else 0)
def mul (a b : Nat) : Nat := Gal.mul T 128 a b

theorem two128 : (340282366920938463463374607431768211456 : Nat) = 2 ^ 128 := by decide
theorem T_lt (a : Nat) : T a < 2 ^ 128 := by
  unfold T
  rw [two128]
  refine Nat.xor_lt_two_pow (Nat.mod_lt _ (Nat.two_pow_pos 128)) ?_
  split
  · decide
  · exact Nat.two_pow_pos 128
theorem T_xor (a b : Nat) : T (a ^^^ b) = T a ^^^ T b := by
  unfold T
  rw [two128]
  have e1 : (a ^^^ b) * 2 % 2 ^ 128 = (a * 2 % 2 ^ 128) ^^^ (b * 2 % 2 ^ 128) := by
    have h1 : (a ^^^ b) * 2 = a * 2 ^^^ b * 2 := by
      have := Nat.shiftLeft_xor_distrib (a := a) (b := b) (i := 1)
      simpa [Nat.shiftLeft_eq] using this
    rw [h1]
    exact Nat.xor_mod_two_pow (n := 128)
  rw [e1, Nat.testBit_xor]
  rcases a.testBit 127 <;> rcases b.testBit 127 <;> simp
  · rw [Nat.xor_assoc]
  · rw [Nat.xor_assoc, Nat.xor_assoc, Nat.xor_comm 135]
  · rw [Gal.xor4]; simp
theorem lin : Gal.Lin 128 T := ⟨fun a _ => T_lt a, fun a b _ _ => T_xor a b⟩
theorem base : ∀ i, i < 128 → Gal.iter T i 1 = 2 ^ i := by decide +kernel
theorem fld : Gal.Field 128 T := ⟨lin, base, by omega⟩

theorem mul_lt (a b : Nat) (ha : a < 2 ^ 128) : mul a b < 2 ^ 128 := Gal.mul_lt lin 128 a b ha
theorem mul_comm (a b : Nat) (ha : a < 2 ^ 128) (hb : b < 2 ^ 128) : mul a b = mul b a := Gal.mul_comm fld a b ha hb
theorem mul_assoc (a b c : Nat) (ha : a < 2 ^ 128) (hb : b < 2 ^ 128) (hc : c < 2 ^ 128) : mul a (mul b c) = mul (mul a b) c := Gal.mul_assoc fld a b c ha hb hc
theorem mul_xor (a b c : Nat) (ha : a < 2 ^ 128) : mul a (b ^^^ c) = mul a b ^^^ mul a c := Gal.mul_xor_right lin 128 a b c ha
theorem xor_mul (a b c : Nat) (ha : a < 2 ^ 128) (hb : b < 2 ^ 128) : mul (a ^^^ b) c = mul a c ^^^ mul b c := Gal.mul_xor_left lin 128 a b c ha hb
theorem mul_one (a : Nat) (ha : a < 2 ^ 128) : mul a 1 = a := Gal.mul_one fld a ha
theorem mul_zero (a : Nat) : mul a 0 = 0 := Gal.mul_zero_right 128 a
theorem zero_mul (b : Nat) : mul 0 b = 0 := Gal.mul_zero_left lin 128 b

/-! ### No two but 0 make 0 -/
/-- The square. -/
def sq (a : Nat) : Nat := mul a a
theorem sq_lt (a : Nat) (ha : a < 2 ^ 128) : sq a < 2 ^ 128 := mul_lt a a ha
theorem sq_xor (a b : Nat) (ha : a < 2 ^ 128) (hb : b < 2 ^ 128) : sq (a ^^^ b) = sq a ^^^ sq b := by
  unfold sq
  rw [xor_mul a b _ ha hb, mul_xor a a b ha, mul_xor b a b hb, mul_comm b a hb ha]
  rw [Nat.xor_assoc, ← Nat.xor_assoc (mul a b), Nat.xor_self, Nat.zero_xor]
theorem sq_mul (a b : Nat) (ha : a < 2 ^ 128) (hb : b < 2 ^ 128) : sq (mul a b) = mul (sq a) (sq b) := by
  unfold sq
  have hab := mul_lt a b ha
  rw [mul_assoc (mul a b) a b hab ha hb, mul_comm (mul a b) a hab ha, mul_assoc a a b ha ha hb, ← mul_assoc (mul a a) b b (mul_lt a a ha) hb hb]
/-- Squared k times. -/
def fr : Nat → Nat → Nat
  | 0, a => a
  | k + 1, a => sq (fr k a)
theorem fr_lt (k a : Nat) (ha : a < 2 ^ 128) : fr k a < 2 ^ 128 := by
  induction k with
  | zero => exact ha
  | succ k ih => exact sq_lt _ ih
theorem fr_xor (k a b : Nat) (ha : a < 2 ^ 128) (hb : b < 2 ^ 128) : fr k (a ^^^ b) = fr k a ^^^ fr k b := by
  induction k with
  | zero => rfl
  | succ k ih => simp only [fr]; rw [ih, sq_xor _ _ (fr_lt k a ha) (fr_lt k b hb)]
theorem fr_mul (k a b : Nat) (ha : a < 2 ^ 128) (hb : b < 2 ^ 128) : fr k (mul a b) = mul (fr k a) (fr k b) := by
  induction k with
  | zero => rfl
  | succ k ih => simp only [fr]; rw [ih, sq_mul _ _ (fr_lt k a ha) (fr_lt k b hb)]
theorem fr_zero (k : Nat) : fr k 0 = 0 := by
  induction k with
  | zero => rfl
  | succ k ih => simp only [fr]; rw [ih]; exact zero_mul 0
theorem fr_one (k : Nat) : fr k 1 = 1 := by
  induction k with
  | zero => rfl
  | succ k ih => simp only [fr]; rw [ih]; exact mul_one 1 (by decide)
theorem fr_two : fr 128 2 = 2 := by kernel_rfl
theorem mul_two (a : Nat) (ha : a < 2 ^ 128) : mul a 2 = T a := by
  have := Gal.mul_pow lin 128 1 a ha (by omega)
  simpa [Gal.iter, mul] using this
theorem fr_base (i : Nat) (hi : i < 128) : fr 128 (2 ^ i) = 2 ^ i := by
  induction i with
  | zero => exact fr_one 128
  | succ i ih =>
    have h1 : 2 ^ i < 2 ^ 128 := Nat.pow_lt_pow_right (by omega) (by omega)
    have e : 2 ^ (i + 1) = mul (2 ^ i) 2 := by
      rw [mul_two _ h1, ← base i (by omega), ← base (i + 1) hi]
      rfl
    rw [e, fr_mul 128 _ _ h1 (by decide), ih (by omega), fr_two]
theorem fr_all (a : Nat) (ha : a < 2 ^ 128) : fr 128 a = a :=
  Gal.ext_pows (fun a => fr 128 a) (fun a => a) (fr_zero 128) rfl 128 (fun x y hx hy => fr_xor 128 x y hx hy) (fun _ _ _ _ => rfl) fr_base a ha
/-- What a makes with all its squares. -/
def P : Nat → Nat → Nat
  | 0, _ => 1
  | k + 1, a => mul (P k a) (fr k a)
def R : Nat → Nat → Nat
  | 0, _ => 1
  | k + 1, a => mul (R k a) (fr (k + 1) a)
theorem P_lt (k a : Nat) : P k a < 2 ^ 128 := by
  induction k with
  | zero => exact (by decide : 1 < 2 ^ 128)
  | succ k ih => exact mul_lt _ _ ih
theorem R_lt (k a : Nat) : R k a < 2 ^ 128 := by
  induction k with
  | zero => exact (by decide : 1 < 2 ^ 128)
  | succ k ih => exact mul_lt _ _ ih
theorem sq_P (k a : Nat) (ha : a < 2 ^ 128) : sq (P k a) = R k a := by
  induction k with
  | zero => exact mul_one 1 (by decide)
  | succ k ih => simp only [P, R]; rw [sq_mul _ _ (P_lt k a) (fr_lt k a ha), ih]; rfl
theorem P_R (k a : Nat) (ha : a < 2 ^ 128) : P (k + 1) a = mul a (R k a) := by
  induction k with
  | zero => simp only [P, R, fr]; rw [mul_comm 1 a (by decide) ha]
  | succ k ih => rw [P, ih, R, mul_assoc a _ _ ha (R_lt k a) (fr_lt _ a ha)]
theorem P_a (k a : Nat) (ha : a < 2 ^ 128) : mul (P k a) a = fr k a := by
  induction k with
  | zero => simp only [P, fr]; rw [mul_comm 1 a (by decide) ha, mul_one a ha]
  | succ k ih =>
    rw [P, mul_comm (P k a) _ (P_lt k a) (fr_lt k a ha), ← mul_assoc _ _ _ (fr_lt k a ha) (P_lt k a) ha, ih]
    rfl
theorem sq_e (a : Nat) (ha : a < 2 ^ 128) : sq (P 128 a) = P 128 a := by
  rw [sq_P 128 a ha, P_R 127 a ha]
  show mul (R 127 a) (fr 128 a) = _
  rw [fr_all a ha, mul_comm _ a (R_lt 127 a) ha]
/-- What leads back from 'a + the square of a', but for the bit 0. -/
def Ls : List Nat := [54969562866131847669016652494142573320, 305526867633558886955404559995676324868, 305526867633558886955404559995676324870, 104469799312523126935073530960423461388, 305526867633558886955404559995676324866, 56734434906695435454005472259553578602, 104469799312523126935073530960423461380, 271830150077582418345900040240152313368, 305526867633558886955404559995676324882, 104470118804432205535668098632526617412, 56734434906695435454005472259553578570, 227145695117876428321601179286510436182, 104469799312523126935073530960423461444, 305967500991204419130524647600360013666, 271830150077582418345900040240152313496, 227728627380917811012951187023350445606, 305526867633558886955404559995676325138, 56815181714465587187729576693626853178, 104470118804432205535668098632526616900, 2537993204061707162883588357039153916, 56734434906695435454005472259553577546, 3012428575888700110705650160495551628, 227145695117876428321601179286510434134, 275671395948664093117384310641479295528, 104469799312523126935073530960423465540, 271915852323952067842399232303023203416, 305967500991204419130524647600360005474, 102998777379450204286412735627287799860, 271830150077582418345900040240152297112, 272209106874770544727132909282711537316, 227728627380917811012951187023350412838, 135325830696997074197434372310186257282, 305526867633558886955404559995676390674, 57232084741685004684866676497372669754, 56815181714465587187729576693626984250, 135411474552265958872087683058005180738, 104470118804432205535668098632526879044, 275757512462385460142162890854388625828, 2537993204061707162883588357039678204, 274842411402277094064293402576501149528, 56734434906695435454005472259554626122, 175382474467339210118195525752143821788, 3012428575888700110705650160497648780, 5261797816253387317062014170447638976, 227145695117876428321601179286514628438, 272210066766835802062006483639670336468, 275671395948664093117384310641470906920, 225136856268418471551472419225175749014, 104469799312523126935073530960440242756, 102164174349821125137969924442995585924, 271915852323952067842399232302989648984, 226936647763116174786496543602468507498, 305967500991204419130524647600427114338, 305532029585887981283514747020026657774, 102998777379450204286412735627422017588, 133211003395652039953403666705387164366, 271830150077582418345900040239883861656, 102148097239065330920971689869502701364, 272209106874770544727132909283248408228, 173139448164521758332819425568250980204, 227728627380917811012951187022276671014, 305961988162602755697098987302884752222, 135325830696997074197434372312333740930, 175397880387343143921058595535091746080, 305526867633558886955404559991381423378, 329634352286836299080082914081100, 57232084741685004684866676505962604346, 172705286512742171128536335012890908524, 56815181714465587187729576710806853434, 303614986222712004812458293485509624930, 135411474552265958872087683023645442370, 170536380025231687221712635462198253856, 104470118804432205535668098701246355780, 225051247907070202050589524227723711914, 275757512462385460142162890991827579300, 308170559265311564786252692292247708062, 2537993204061707162883588082161771260, 102169133813289299704984590013427707636, 274842411402277094064293402026745335640, 303326766809063102477989677003176958226, 56734434906695435454005473359066253898, 172841837191359616877872241477191677152, 175382474467339210118195523553120566236, 54888141419452711199816878900948880442, 3012428575888700110705654558544159884, 307799342647640341558117533281787318686, 5261797816253387317062022966540661184, 273119276677551945356669168913118222868, 227145695117876428321601196878700672854, 272311600527812781647585363233504111460, 272210066766835802062006518824042425300, 5181299727675599870287693023180209980, 275671395948664093117384240272726729256, 305525142620375929691910208574098026146, 225136856268418471551472278487687393686, 307772801086609188417528170053220769746, 104469799312523126935073249485463532100, 54596111748351997025280216654447342278, 102164174349821125137970487392949007236, 308164931596625094656266467235253809106, 271915852323952067842398106403082806360, 227647953955287367714133036452945544742, 226936647763116174786494291802654822250, 308170555145571807541189819739699809694, 305967500991204419130520144000799743842, 133105130754254600986622393405343152142, 305532029585887981283523754219281398766, 172410759080424577518324870893406614048, 102998777379450204286394721228912535604, 54969320214588899006126198736319185926, 133211003395652039953439695502406128334, 227375442280390979429973553919662004774, 271830150077582418345827982645845933720, 4955917326648230773508684280683823104, 102148097239065330921115805057578557236, 172885700256406002458384310923462859152, 272209106874770544726844678907096696484, 56538291399058816093646072645906817530, 173139448164521758332242964815947556716, 55418003596362017635628740176384579466, 227728627380917811014104108526883517990, 0, 305961988162602755699404830312098446174, 178356100567250831900639352525185366892, 135325830696997074202046058330761128834, 189481146061086134017106552491789565356, 175397880387343143911835223498236970272, 75361565302940573017734093940626417402]
def app : List Nat → Nat → Nat
  | [], _ => 0
  | l :: ls, v => (if v % 2 = 1 then l else 0) ^^^ app ls (v / 2)
theorem app_xor (ls : List Nat) : ∀ v w, app ls (v ^^^ w) = app ls v ^^^ app ls w := by
  induction ls with
  | nil => intro v w; simp [app]
  | cons l ls ih =>
    intro v w
    simp only [app, Gal.xor_div2, ih, Gal.xor_mod2]
    rcases Nat.mod_two_eq_zero_or_one v with hv | hv <;> rcases Nat.mod_two_eq_zero_or_one w with hw | hw <;> simp [hv, hw]
    · rw [← Nat.xor_assoc, ← Nat.xor_assoc, Nat.xor_comm l]
    · rw [Nat.xor_assoc]
    · rw [Gal.xor4]; simp
theorem app_zero (ls : List Nat) : app ls 0 = 0 := by
  induction ls with
  | nil => rfl
  | cons l ls ih => simp [app, ih]
theorem app_base : ∀ i, i < 128 → app Ls (sq (2 ^ i) ^^^ 2 ^ i) = 2 ^ i ^^^ (2 ^ i % 2) := by decide +kernel
theorem app_all (e : Nat) (he : e < 2 ^ 128) : app Ls (sq e ^^^ e) = e ^^^ (e % 2) := by
  refine Gal.ext_pows (fun e => app Ls (sq e ^^^ e)) (fun e => e ^^^ (e % 2)) ?_ rfl 128 (fun x y hx hy => ?_) (fun x y _ _ => ?_) app_base e he
  · show app Ls (sq 0 ^^^ 0) = 0
    rw [show sq 0 = 0 from zero_mul 0]
    exact app_zero Ls
  · show app Ls (sq (x ^^^ y) ^^^ (x ^^^ y)) = _
    rw [sq_xor x y hx hy, Gal.xor4, app_xor]
  · show (x ^^^ y) ^^^ ((x ^^^ y) % 2) = _
    rw [show (x ^^^ y) % 2 = (x % 2) ^^^ (y % 2) from Nat.xor_mod_two_pow (n := 1), Gal.xor4]
theorem idem (e : Nat) (he : e < 2 ^ 128) (h : sq e = e) : e = 0 ∨ e = 1 := by
  have h1 := app_all e he
  rw [h, Nat.xor_self, app_zero] at h1
  have h2 : e = e % 2 := by
    have h3 : e ^^^ (e ^^^ e % 2) = e ^^^ 0 := by rw [← h1]
    rw [← Nat.xor_assoc, Nat.xor_self, Nat.zero_xor, Nat.xor_zero] at h3
    exact h3.symm
  omega
/-- Each but 0 has what leads it back to 1. -/
theorem has_inv (a : Nat) (ha : a < 2 ^ 128) (h0 : a ≠ 0) : ∃ b, b < 2 ^ 128 ∧ mul b a = 1 := by
  refine ⟨R 127 a, R_lt 127 a, ?_⟩
  rw [mul_comm _ a (R_lt 127 a) ha, ← P_R 127 a ha]
  rcases idem _ (P_lt 128 a) (sq_e a ha) with h | h
  · have h1 := P_a 128 a ha
    rw [h, zero_mul, fr_all a ha] at h1
    exact absurd h1.symm h0
  · exact h
theorem no_zero (a b : Nat) (ha : a < 2 ^ 128) (hb : b < 2 ^ 128) : mul a b = 0 ↔ a = 0 ∨ b = 0 := by
  constructor
  · intro h
    by_cases h0 : a = 0
    · exact .inl h0
    · obtain ⟨c, hc, h1⟩ := has_inv a ha h0
      have h2 : mul c (mul a b) = b := by rw [mul_assoc c a b hc ha hb, h1, mul_comm 1 b (by decide) hb, mul_one b hb]
      rw [h, mul_zero] at h2
      exact .inr h2.symm
  · rintro (rfl | rfl)
    · exact zero_mul b
    · exact mul_zero a
end Gh

namespace Gh

/-- The first k bits of x, turned about. -/
def rv : Nat → Nat → Nat
  | 0, _ => 0
  | k + 1, x => (x % 2) * 2 ^ k ^^^ rv k (x / 2)
theorem rv_lt (k x : Nat) : rv k x < 2 ^ k := by
  induction k generalizing x with
  | zero => simp [rv]
  | succ k ih =>
    refine Nat.xor_lt_two_pow ?_ (Nat.lt_of_lt_of_le (ih _) (Nat.pow_le_pow_right (by omega) (by omega)))
    rw [Nat.pow_succ]
    have := Nat.two_pow_pos k
    rcases Nat.mod_two_eq_zero_or_one x with h | h <;> rw [h] <;> omega
theorem rv_bit (k x i : Nat) : (rv k x).testBit i = (decide (i < k) && x.testBit (k - 1 - i)) := by
  induction k generalizing x with
  | zero => simp [rv]
  | succ k ih =>
    simp only [rv]
    rw [Nat.testBit_xor, ih]
    by_cases hik : i = k
    · subst hik
      have e : (x % 2 * 2 ^ i).testBit i = x.testBit 0 := by
        rw [Nat.testBit_zero]
        rcases Nat.mod_two_eq_zero_or_one x with h | h <;> rw [h] <;> simp
      rw [e]
      simp
    · have e : (x % 2 * 2 ^ k).testBit i = false := by
        rcases Nat.mod_two_eq_zero_or_one x with h | h <;> rw [h]
        · simp
        · rw [Nat.one_mul, Nat.testBit_two_pow_of_ne (fun h => hik h.symm)]
      rw [e, Bool.false_xor]
      by_cases hlt : i < k
      · have h1 : i < k + 1 := by omega
        rw [← Nat.testBit_add_one]
        simp only [hlt, h1, decide_true, Bool.true_and]
        congr 1
        omega
      · have h1 : ¬ i < k + 1 := by omega
        simp [hlt, h1]
theorem rv_xor (k a b : Nat) : rv k (a ^^^ b) = rv k a ^^^ rv k b := by
  apply Nat.eq_of_testBit_eq
  intro i
  simp only [Nat.testBit_xor, rv_bit]
  cases decide (i < k) <;> simp
theorem rv_zero (k : Nat) : rv k 0 = 0 := by
  apply Nat.eq_of_testBit_eq
  intro i
  simp [rv_bit]
theorem rv_rv (k x : Nat) (h : x < 2 ^ k) : rv k (rv k x) = x := by
  apply Nat.eq_of_testBit_eq
  intro i
  rw [rv_bit, rv_bit]
  by_cases hi : i < k
  · have h1 : k - 1 - i < k := by omega
    have h2 : k - 1 - (k - 1 - i) = i := by omega
    simp [hi, h1, h2]
  · simp [hi]
    exact (Nat.testBit_lt_two_pow (Nat.lt_of_lt_of_le h (Nat.pow_le_pow_right (n := 2) (by omega) (show k ≤ i by omega))))

/-- The two halves of a number of the field, as the program has them. -/
def hi (p : Nat) : Nat := rv 128 p / 18446744073709551616
def lo (p : Nat) : Nat := rv 128 p % 18446744073709551616
def join (h l : Nat) : Nat := rv 128 (h * 18446744073709551616 + l)
theorem hi_lt (p : Nat) : hi p < 18446744073709551616 := by
  have := rv_lt 128 p
  unfold hi
  omega
theorem lo_lt (p : Nat) : lo p < 18446744073709551616 := Nat.mod_lt _ (by omega)
theorem join_lt (h l : Nat) : join h l < 2 ^ 128 := rv_lt 128 _
theorem hi_join (h l : Nat) (hh : h < 18446744073709551616) (hl : l < 18446744073709551616) : hi (join h l) = h := by
  unfold hi join
  rw [rv_rv 128 _ (by omega)]
  omega
theorem lo_join (h l : Nat) (hh : h < 18446744073709551616) (hl : l < 18446744073709551616) : lo (join h l) = l := by
  unfold lo join
  rw [rv_rv 128 _ (by omega)]
  omega
theorem join_hi_lo (p : Nat) (hp : p < 2 ^ 128) : join (hi p) (lo p) = p := by
  unfold hi lo join
  rw [Nat.mul_comm, Nat.div_add_mod, rv_rv 128 p hp]
theorem two64 : (18446744073709551616 : Nat) = 2 ^ 64 := by decide
theorem hi_xor (p q : Nat) : hi (p ^^^ q) = hi p ^^^ hi q := by
  unfold hi
  rw [rv_xor, two64, Nat.xor_div_two_pow]
theorem lo_xor (p q : Nat) : lo (p ^^^ q) = lo p ^^^ lo q := by
  unfold lo
  rw [rv_xor, two64, Nat.xor_mod_two_pow]
theorem hi_zero : hi 0 = 0 := by decide +kernel
theorem lo_zero : lo 0 = 0 := by decide +kernel
/-- Bit i, as the program finds it. -/
theorem bit_hi (p i : Nat) (h : i < 64) : hi p / 2 ^ (63 - i) % 2 = if p.testBit i then 1 else 0 := by
  have e : (hi p / 2 ^ (63 - i)).testBit 0 = p.testBit i := by
    unfold hi
    rw [two64, Nat.div_div_eq_div_mul, ← Nat.pow_add, ← Nat.shiftRight_eq_div_pow, Nat.testBit_shiftRight, rv_bit]
    have h1 : 64 + (63 - i) + 0 < 128 := by omega
    have h2 : 128 - 1 - (64 + (63 - i) + 0) = i := by omega
    rw [h2]
    simp only [h1, decide_true, Bool.true_and]
  rw [Nat.testBit_zero] at e
  rw [← e]
  rcases Nat.mod_two_eq_zero_or_one (hi p / 2 ^ (63 - i)) with h3 | h3 <;> simp [h3]
theorem bit_lo (p i : Nat) (h : 64 ≤ i) (h2 : i < 128) : lo p / 2 ^ (127 - i) % 2 = if p.testBit i then 1 else 0 := by
  have e : (lo p / 2 ^ (127 - i)).testBit 0 = p.testBit i := by
    unfold lo
    rw [two64, ← Nat.shiftRight_eq_div_pow, Nat.testBit_shiftRight, Nat.testBit_mod_two_pow, rv_bit]
    have h1 : 127 - i + 0 < 64 := by omega
    have h3 : 127 - i + 0 < 128 := by omega
    have h4 : 128 - 1 - (127 - i + 0) = i := by omega
    rw [h4]
    simp only [h1, h3, decide_true, Bool.true_and]
  rw [Nat.testBit_zero] at e
  rw [← e]
  rcases Nat.mod_two_eq_zero_or_one (lo p / 2 ^ (127 - i)) with h3 | h3 <;> simp [h3]
/-- The program's step. -/
def stepH (h l : Nat) : Nat := h / 2 ^^^ (if l % 2 = 1 then 16212958658533785600 else 0)
def stepL (h l : Nat) : Nat := (l / 2) ||| (h * 9223372036854775808 % 18446744073709551616)
theorem T_rv (X : Nat) (hX : X < 2 ^ 128) : rv 128 (X / 2 ^^^ (if X % 2 = 1 then 299076299051606071403356588563077529600 else 0)) = T (rv 128 X) := by
  refine Gal.ext_pows (fun X => rv 128 (X / 2 ^^^ (if X % 2 = 1 then 299076299051606071403356588563077529600 else 0))) (fun X => T (rv 128 X)) (by decide +kernel) (by decide +kernel) 128 (fun x y _ _ => ?_) (fun x y _ _ => ?_) (by decide +kernel) X hX
  · show rv 128 ((x ^^^ y) / 2 ^^^ _) = _
    rw [← rv_xor, Gal.xor_div2, Gal.xor_mod2, Gal.xor4]
    rcases Nat.mod_two_eq_zero_or_one x with h | h <;> rcases Nat.mod_two_eq_zero_or_one y with h' | h' <;> simp [h, h']
  · show T (rv 128 (x ^^^ y)) = _
    rw [rv_xor, T_xor]
theorem shl63 (h : Nat) : h * 9223372036854775808 % 18446744073709551616 = h % 2 * 9223372036854775808 := by omega
theorem or_add (a b : Nat) (ha : a < 9223372036854775808) : a ||| (b * 9223372036854775808) = b * 9223372036854775808 + a := by
  have := Nat.two_pow_add_eq_or_of_lt (i := 63) (b := a) (by omega) b
  rw [Nat.or_comm]
  rw [show (9223372036854775808 : Nat) = 2 ^ 63 by decide, Nat.mul_comm]
  exact this.symm
theorem step_eq (p : Nat) (hp : p < 2 ^ 128) : stepH (hi p) (lo p) = hi (T p) ∧ stepL (hi p) (lo p) = lo (T p) := by
  have e := T_rv (rv 128 p) (rv_lt 128 p)
  rw [rv_rv 128 p hp] at e
  have h1 : rv 128 (T p) = rv 128 p / 2 ^^^ (if rv 128 p % 2 = 1 then 299076299051606071403356588563077529600 else 0) := by
    rw [← e, rv_rv 128 _ ?_]
    have := rv_lt 128 p
    refine Nat.xor_lt_two_pow (by omega) ?_
    split <;> decide
  obtain ⟨X, hX⟩ : ∃ X, X = rv 128 p := ⟨_, rfl⟩
  have hXl := rv_lt 128 p
  rw [← hX] at h1 hXl
  have em : X % 18446744073709551616 % 2 = X % 2 := by omega
  unfold stepH stepL hi lo
  rw [h1, ← hX, em, shl63, or_add _ _ (by omega), two64, Nat.xor_div_two_pow, Nat.xor_mod_two_pow, ← two64]
  constructor
  · rw [show X / 18446744073709551616 / 2 = X / 2 / 18446744073709551616 by omega]
    split <;> rfl
  · rw [show X / 2 % 18446744073709551616 = X / 18446744073709551616 % 2 * 9223372036854775808 + X % 18446744073709551616 / 2 by omega]
    split
    · rw [show (299076299051606071403356588563077529600 : Nat) % 18446744073709551616 = 0 by decide, Nat.xor_zero]
    · rw [Nat.zero_mod, Nat.xor_zero]
/-- One more bit of the second. -/
theorem gmul_snoc (k : Nat) : ∀ (a b : Nat), a < 2 ^ 128 → Gal.mul T (k + 1) a b = Gal.mul T k a b ^^^ (if b.testBit k then Gal.iter T k a else 0) := by
  induction k with
  | zero =>
    intro a b _
    simp only [Gal.mul, Gal.iter, Nat.testBit_zero, Nat.xor_zero, Nat.zero_xor]
    rcases Nat.mod_two_eq_zero_or_one b with h | h <;> simp [h]
  | succ k ih =>
    intro a b ha
    rw [Gal.mul, ih (T a) (b / 2) (T_lt a), Gal.mul, ← Nat.xor_assoc, ← Nat.testBit_add_one, Gal.iter_comm]
    rfl
end Gh

namespace Go.Proofs.Ytpeibkdcglkimaa
open Go.ChangeShapes Go.WideShapes Go.ChangeAt Go.RowKit

theorem blk_bytes {w : World} {g : Nat} {xs : List Nat} {t : TypeId} {n : Nat} (h : Blk w g t (xs.map vb).toArray) (hl : xs.length = n) (hx : ∀ x ∈ xs, x < 256) : BytesIn w (some ⟨g, 0, none⟩) n n xs :=
  ⟨⟨hl, fun y hy => wf_u8_of (hx y hy), fun _ => ⟨g, 0, rfl, Blk.lt h, fun j n hn => by
    rw [Nat.zero_add]
    exact h.at j _ (arr_at xs j n hn)⟩⟩, fun e => by cases e⟩
end Go.Proofs.Ytpeibkdcglkimaa

namespace Go.Proofs.Ytpeibkdcglkimaa
open Go.ChangeShapes Go.WideShapes Go.ChangeAt Go.RowKit

/-- A half, as the program has it. -/
def halfL (p : Nat) : List Value := [.int .u64 (Gh.hi p : Int), .int .u64 (Gh.lo p : Int)]
/-- The number of a block. -/
def polB (xs : List Nat) : Nat := Gh.join (numOf (xs.take 8)) (numOf (xs.drop 8))
/-- The block of a number. -/
def bytB (p : Nat) : List Nat := beL (Gh.hi p) 8 8 ++ beL (Gh.lo p) 8 8
theorem polB_lt (xs : List Nat) : polB xs < 2 ^ 128 := Gh.join_lt _ _
theorem bytB_len (p : Nat) : (bytB p).length = 16 := by unfold bytB; rw [List.length_append, beL_length, beL_length]
theorem bytB_lt (p : Nat) : ∀ x ∈ bytB p, x < 256 := by
  intro x hx
  rcases List.mem_append.1 hx with h | h
  · exact beL_lt _ _ _ x h
  · exact beL_lt _ _ _ x h
theorem polB_bytB (p : Nat) (hp : p < 2 ^ 128) : polB (bytB p) = p := by
  have h1 : (bytB p).take 8 = beL (Gh.hi p) 8 8 := by unfold bytB; rw [List.take_left' (beL_length _ _ _)]
  have h2 : (bytB p).drop 8 = beL (Gh.lo p) 8 8 := by unfold bytB; rw [List.drop_left' (beL_length _ _ _)]
  unfold polB
  rw [h1, h2, numOf_be _ 8 (by have := Gh.hi_lt p; omega), numOf_be _ 8 (by have := Gh.lo_lt p; omega), Gh.join_hi_lo p hp]
theorem numOf8_lt (l : List Nat) (h : ∀ y ∈ l, y < 256) (hl : l.length = 8) : numOf l < 18446744073709551616 := by
  have := numOf_lt l h
  rw [hl] at this
  omega
theorem hi_polB (xs : List Nat) (hl : xs.length = 16) (h : ∀ x ∈ xs, x < 256) : Gh.hi (polB xs) = numOf (xs.take 8) ∧ Gh.lo (polB xs) = numOf (xs.drop 8) := by
  have h1 := numOf8_lt (xs.take 8) (fun y hy => h y (List.mem_of_mem_take hy)) (by rw [List.length_take]; omega)
  have h2 := numOf8_lt (xs.drop 8) (fun y hy => h y (List.mem_of_mem_drop hy)) (by rw [List.length_drop]; omega)
  exact ⟨Gh.hi_join _ _ h1 h2, Gh.lo_join _ _ h1 h2⟩
theorem beL_numOf (l : List Nat) (h : ∀ y ∈ l, y < 256) : beL (numOf l) l.length l.length = l := by
  have key : ∀ n (l : List Nat), l.length = n → (∀ y ∈ l, y < 256) → beL (numOf l) n n = l := by
    intro n
    induction n with
    | zero => intro l hl _; rw [List.eq_nil_of_length_eq_zero hl]; rfl
    | succ n ih =>
      intro l hl hx
      obtain ⟨init, x, rfl⟩ : ∃ init x, l = init ++ [x] := by
        refine ⟨l.dropLast, l.getLast (fun e => by rw [e] at hl; simp at hl), (List.dropLast_concat_getLast _).symm⟩
      rw [List.length_append] at hl
      simp at hl
      have hx8 : x < 256 := hx x (by simp)
      have h1 := ih init hl (fun y hy => hx y (List.mem_append_left _ hy))
      rw [numOf_snoc]
      unfold beL at h1 ⊢
      rw [List.range_succ, List.map_append]
      congr 1
      · conv => rhs; rw [← h1]
        apply List.map_congr_left
        intro t ht
        have htn : t < n := List.mem_range.1 ht
        rw [show 8 * (n + 1 - 1 - t) = 8 + 8 * (n - 1 - t) by omega, Nat.pow_add, ← Nat.div_div_eq_div_mul, show (2 : Nat) ^ 8 = 256 by decide]
        congr 2
        omega
      · simp
        omega
  exact key l.length l rfl h
theorem bytB_polB (xs : List Nat) (hl : xs.length = 16) (h : ∀ x ∈ xs, x < 256) : bytB (polB xs) = xs := by
  obtain ⟨e1, e2⟩ := hi_polB xs hl h
  unfold bytB
  rw [e1, e2]
  have h1 := beL_numOf (xs.take 8) (fun y hy => h y (List.mem_of_mem_take hy))
  have h2 := beL_numOf (xs.drop 8) (fun y hy => h y (List.mem_of_mem_drop hy))
  rw [show (xs.take 8).length = 8 by rw [List.length_take]; omega] at h1
  rw [show (xs.drop 8).length = 8 by rw [List.length_drop]; omega] at h2
  rw [h1, h2, List.take_append_drop]
theorem polB_inj (xs ys : List Nat) (hl : xs.length = 16) (h : ∀ x ∈ xs, x < 256) (hl' : ys.length = 16) (h' : ∀ x ∈ ys, x < 256) (e : polB xs = polB ys) : xs = ys := by
  rw [← bytB_polB xs hl h, e, bytB_polB ys hl' h']

theorem num8 {B g : Nat} {xs : List Nat} {w : World} (hr : RdAt w B g xs 0) (h : 8 ≤ xs.length) :
    Calls Try.prog 37 #[.pointer (some ⟨g, 0, none⟩), .int .i64 8] w fun e w' => e = .returned (.int .u64 ((numOf (xs.take 8) : Nat) : Int)) ∧ RdAt w' B g (xs.drop 8) 0 ∧ w.grownBy w' (some g) := by
  have h1 := num_any B g xs 0 8 w hr
  rw [show numRight 8 = true from rfl, show (8 : Int) = ((8 : Nat) : Int) from rfl, rdStep_ok h] at h1
  exact h1

set_option maxRecDepth 100000 in
set_option maxHeartbeats 1000000 in
theorem load_any (xs : List Nat) (hl : xs.length = 16) (hx : ∀ x ∈ xs, x < 256) (w : World) :
    Calls Try.prog 41 #[.agg (xs.map vb).toArray] w fun e w' => e = .returned (.agg (halfL (polB xs)).toArray) ∧ Below w.heap.size w w' := by
  obtain ⟨e1, e2⟩ := hi_polB xs hl hx
  have HE := Lib.hid (show halfL (polB xs) = [.int .u64 ((numOf (xs.take 8) : Nat) : Int), .int .u64 ((numOf (xs.drop 8) : Nat) : Int)] by unfold halfL; rw [e1, e2])
  have Hl := Lib.hid hl
  have Hx := Lib.hid hx
  have hal := nu_alloc (nu_alloc (nu_refl w) (.cells (xs.map vb).toArray 44)) (.cells #[.int .u64 0, .int .u64 0] 79)
  have HB := Lib.hid ((Blk.made w 44 (xs.map vb).toArray).alloc (.cells #[.int .u64 0, .int .u64 0] 79))
  have HO := Lib.hid (Blk.made1 w (.cells (xs.map vb).toArray 44) 79 #[.int .u64 0, .int .u64 0])
  have Hal := Lib.hid hal
  clear hl hx e1 e2 hal
  go_enter Try.func41, Try.ntmps41
  go_wp2_with fail
  generalize (w.alloc (.cells (xs.map vb).toArray 44)).alloc (.cells #[.int .u64 0, .int .u64 0] 79) = w1 at *
  refine (newReader_any (some ⟨w.heap.size, 0, none⟩) 16 16 xs w1 (blk_bytes HB.out Hl.out Hx.out) (by omega)).mono ?_
  rintro e w2 ⟨g, rfl, hR2, hb2⟩
  have hn2 := nu_trans Hal.out hb2
  have HO2 := Lib.hid (Blk.below HO.out hb2 (Blk.lt HO.out))
  have HR2 := Lib.hid hR2
  have Hg := Lib.hid (show w.heap.size + 1 < g ∧ w.heap.size ≤ g by have h1 := hR2.low; have h2 := Blk.lt HO.out; omega)
  clear hR2 hb2 Hal HB HO
  go_wp2_with fail
  refine (num8 HR2.out (by rw [Hl.out]; omega)).mono ?_
  rintro e w3 ⟨rfl, hR3, hg3⟩
  have hn3 := nu_grown hn2 hg3 Hg.out.2
  have HO3 := Lib.hid (Blk.grown HO2.out hg3 (fun e => by injection e with e; have := Hg.out.1; omega))
  have HR3 := Lib.hid hR3
  clear hR3 hg3 hn2 HO2 HR2
  go_wp2_with fail
  refine (num8 HR3.out (by rw [List.length_drop, Hl.out]; omega)).mono ?_
  rintro e w4 ⟨rfl, _, hg4⟩
  have hn4 := nu_grown hn3 hg4 Hg.out.2
  have HO4 := Lib.hid (Blk.grown HO3.out hg4 (fun e => by injection e with e; have := Hg.out.1; omega))
  have Hd := Lib.hid (show (xs.drop 8).take 8 = xs.drop 8 from List.take_of_length_le (by rw [List.length_drop, Hl.out]; omega))
  rw [Hd.out]
  clear hg4 hn3 HO3 HR3
  obtain ⟨a, ha⟩ : ∃ a, a = numOf (xs.take 8) := ⟨_, rfl⟩
  obtain ⟨b, hb⟩ : ∃ b, b = numOf (xs.drop 8) := ⟨_, rfl⟩
  rw [← ha, ← hb]
  rw [← ha, ← hb] at HE
  clear ha hb
  have HF := Lib.hid (Blk.fill HO4.out [.int .u64 (a : Int), .int .u64 (b : Int)] rfl)
  have Hnf := Lib.hid (nu_fill [.int .u64 (a : Int), .int .u64 (b : Int)] (g := w.heap.size + 1) (by omega) 0 _ hn4)
  clear hn4
  go_wp2_with (refine wpList_store_blk rfl 79 (.tmp 2) (.tmp 10) rfl (w.heap.size + 1) [.int .u64 (a : Int), .int .u64 (b : Int)] rfl rfl 79 #[.int .u64 0, .int .u64 0] HO4.out rfl (by kernel_rfl) (by simp [Value.oneCell']) ?_)
  refine bodyPost_ret (results_blkS rfl _ (w.heap.size + 1) 79 _ rfl HF.out Try.underlying79 (by kernel_rfl)) rfl ⟨by rw [HE.out], Hnf.out⟩
end Go.Proofs.Ytpeibkdcglkimaa
