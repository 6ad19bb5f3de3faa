/-
  The walk of aes' Encrypt.
-/
import Derived.Test.YtnojbjconiddoaaAp2
import Derived.Deep.LoopGhost
namespace Go.Proofs.Ytnojbjconiddoaa
open Go.ChangeShapes Go.WideShapes Go.ChangeAt Go.RowKit Fld Aes
set_option linter.unusedSimpArgs false

abbrev z16n : List Nat := [0, 0, 0, 0, 0, 0, 0, 0, 0, 0, 0, 0, 0, 0, 0, 0]
theorem z16_at (k : Nat) (hk : k < 16) : z16n[k]? = some 0 := by
  rcases (show k = 0 ∨ k = 1 ∨ k = 2 ∨ k = 3 ∨ k = 4 ∨ k = 5 ∨ k = 6 ∨ k = 7 ∨ k = 8 ∨ k = 9 ∨ k = 10 ∨ k = 11 ∨ k = 12 ∨ k = 13 ∨ k = 14 ∨ k = 15 by omega) with rfl | rfl | rfl | rfl | rfl | rfl | rfl | rfl | rfl | rfl | rfl | rfl | rfl | rfl | rfl | rfl <;> rfl
theorem boxAt_mix {w : World} {x : Nat} (h : BoxAt w x) (a : Nat) (ha : a < 256) : Calls Try.prog 53 #[.pointer (some ⟨x, 0, none⟩), .int .u8 a] w fun e w' => e = .returned (.int .u32 (mixOf (sb a) : Nat)) ∧ w' = w := by
  obtain ⟨cs, hg, ht⟩ := h
  exact (mix_any x a cs w ha hg ht).mono fun _ _ h => ⟨h.1, h.2.symm⟩
theorem boxAt_boxq {w : World} {x : Nat} (h : BoxAt w x) (a : Nat) (ha : a < 256) : Calls Try.prog 54 #[.pointer (some ⟨x, 0, none⟩), .int .u8 a] w fun e w' => e = .returned (.int .u8 (sb a : Nat)) ∧ w' = w :=
  (boxAt_box h a ha).mono fun _ _ h => ⟨h.1, h.2.symm⟩
theorem boxAt_back {w : World} {x : Nat} (h : BoxAt w x) (a : Nat) (ha : a < 256) : Calls Try.prog 59 #[.pointer (some ⟨x, 0, none⟩), .int .u8 a] w fun e w' => e = .returned (.int .u8 (bs a : Nat)) ∧ w' = w := by
  obtain ⟨cs, hg, ht⟩ := h
  exact (back_any x a cs w ha hg ht).mono fun _ _ h => ⟨h.1, h.2.symm⟩
theorem rotq (q : Nat) (v : Nat) (hv : v < 4294967296) (hq : q < 4) (n : Int) (hn : n = -8 * (q : Int)) (w : World) : Calls Try.prog 48 #[.int .u32 (v : Int), .int .i64 n] w fun e w' => e = .returned (.int .u32 (turnW v q : Nat)) ∧ w' = w := by
  subst hn
  rcases (show q = 0 ∨ q = 1 ∨ q = 2 ∨ q = 3 by omega) with rfl | rfl | rfl | rfl
  · exact (rot_r0 v hv w).mono fun _ _ h => ⟨h.1, h.2.symm⟩
  · exact (rot_r8 v hv w).mono fun _ _ h => ⟨h.1, h.2.symm⟩
  · exact (rot_r16 v hv w).mono fun _ _ h => ⟨h.1, h.2.symm⟩
  · exact (rot_r24 v hv w).mono fun _ _ h => ⟨h.1, h.2.symm⟩
theorem set_doneF (L l : List Nat) (n k a b : Nat) (h1 : L.length = n) (h2 : l.length = n) (hk : k < n) (hb : L[k]? = some b) : ((doneF L l k).set k a).set k b = doneF L l (k + 1) := by
  rw [List.set_set, doneF_set L l n k b h1 h2 hk hb]
theorem doneF_self (L l : List Nat) (n k a : Nat) (h1 : L.length = n) (h2 : l.length = n) (hk : k < n) : ((doneF L l k).set k a)[k]? = some a := by
  rw [List.getElem?_set_self (by rw [doneF_len L l n k h1 h2 (by omega)]; exact hk)]

set_option maxRecDepth 100000 in
set_option maxHeartbeats 8000000 in
theorem encrypt_any {w : World} {C R : Nat} {W : List Nat} (hC : CiphAt w C W R) (hW : Small W) (hR0 : 0 < R) (hR : R ≤ 14) (hWl : W.length = 4 * (R + 1)) (b : List Nat) (hb : St16 b) :
    Calls Try.prog 29 #[.pointer (some ⟨C, 0, none⟩), .agg (b.map vb).toArray] w fun e w' => e = .returned (.agg ((enc W R b).map vb).toArray) ∧ Below w.heap.size w w' := by
  have HCi := Lib.hid hC
  obtain ⟨x, m, c, cur, hc, hm, htk, hbx, hxl, hlc, hcm⟩ := hC
  have HC0 := Lib.hid (Blk.at hc 0 _ rfl)
  have HC1 := Lib.hid (Blk.at hc 1 _ rfl)
  have HC2 := Lib.hid (Blk.at hc 2 _ rfl)
  have hCl := hc.lt
  have hml := hm.lt
  have Hm := Lib.hid hm
  have Ht := Lib.hid htk
  have Hb := Lib.hid hb
  have HW := Lib.hid hW
  have HWl := Lib.hid hWl
  have HBx := Lib.hid (And.intro hbx hxl)
  unfold maxLen at hcm
  obtain ⟨n, hn⟩ : ∃ n, n = W.length := ⟨_, rfl⟩
  rw [← hn] at HC0 hlc
  have Hn := Lib.hid (hn.trans hWl)
  have hn60 : n ≤ 60 := by omega
  have Hbl := Lib.hid (show (b.map vb).toArray.size = 16 by rw [List.size_toArray, List.length_map, hb.1])
  have hal := nu_alloc (nu_alloc (nu_refl w) (.cells (b.map vb).toArray 22)) (.cells (z16n.map vb).toArray 22)
  have HB := Lib.hid ((Blk.made w 22 (b.map vb).toArray).alloc (.cells (z16n.map vb).toArray 22))
  have HZ := Lib.hid (Blk.made1 w (.cells (b.map vb).toArray 22) 22 (z16n.map vb).toArray)
  clear hc hm htk hb hW hWl hbx hn
  go_enter Try.func29, Try.ntmps29
  go_upto_region 1 with fail
  change Code.wp _ _ _ _ ((w.alloc (.cells (b.map vb).toArray 22)).alloc (.cells (z16n.map vb).toArray 22))
  generalize ((w.alloc (.cells (b.map vb).toArray 22)).alloc (.cells (z16n.map vb).toArray 22)) = w1 at *
  obtain ⟨Z, hZ⟩ : ∃ Z, Z = w.heap.size + 1 := ⟨_, rfl⟩
  rw [← hZ] at HZ
  rw [← hZ]
  have hZw : w.heap.size ≤ Z := by omega
  have hZ1 := Blk.lt HZ.out
  clear hZ
  have HL := Lib.hid (load_any (HCi.out.below hal) HW.out 0 (by have := HWl.out; omega) (by omega) b Hb.out)
  have Hn1 := Lib.hid hal
  clear hal
  go_wp2_with (refine wpList_load_blk rfl 22 (.tmp 3) rfl w.heap.size rfl 22 (b.map vb).toArray HB.out Try.underlying22 (by rw [Hbl.out]; kernel_rfl) ?_)
  refine HL.out.mono ?_
  rintro e w2 ⟨rfl, hb2⟩
  rw [loadL_eq Hb.out HW.out 0]
  obtain ⟨s0, hs0⟩ : ∃ s0, s0 = cols (addK W 0 b) := ⟨_, rfl⟩
  rw [← hs0]
  have hs4 : s0.length = 4 := by rw [hs0]; exact cols_len _
  have Hs0 := Lib.hid hs0
  have hZ2 : Z < w2.heap.size := Nat.lt_of_lt_of_le hZ1 hb2.size
  have HZ2 := Lib.hid (Blk.below HZ.out hb2 hZ1)
  have Hn2 := Lib.hid (nu_trans Hn1.out hb2)
  have HSm := Lib.hid (Blk.made w2 86 (z4.map uv).toArray)
  have HS3 := Lib.hid (Blk.fill HSm.out (s0.map uv) (by rw [List.length_map, hs4]; rfl))
  have hf := nu_fill (a := w2) (s0.map uv) (g := w2.heap.size) (Nat.le_refl _) 0 _ (nu_alloc (nu_refl w2) (.cells (z4.map uv).toArray 86))
  have Hl4 := Lib.hid hs4
  clear hs0 hb2 HZ HL HB Hn1 hs4
  go_upto_region 4 with (refine wpList_store_blk rfl 86 (.tmp 5) (.tmp 19) rfl w2.heap.size (s0.map uv) rfl rfl 86 (z4.map uv).toArray HSm.out (by rw [List.length_map, Hl4.out]; rfl) (by rw [List.length_map, Hl4.out]; kernel_rfl) (uv_one _) ?_)
  change Code.wp _ _ _ _ ((w2.alloc (.cells (z4.map uv).toArray 86)).setCells w2.heap.size 0 (s0.map uv))
  have HZ3 := Lib.hid (Blk.below HZ2.out hf hZ2)
  have Hn3 := Lib.hid (nu_trans Hn2.out hf)
  have hsw := Hn2.out.size
  clear HSm hf HZ2 Hn2
  generalize (w2.alloc (.cells (z4.map uv).toArray 86)).setCells w2.heap.size 0 (s0.map uv) = w3 at *
  obtain ⟨S, hS⟩ : ∃ S, S = w2.heap.size := ⟨_, rfl⟩
  rw [← hS] at HS3 hZ2 hsw
  rw [← hS]
  clear hS hZ1
  go_wp2_with fail
  go_loopw [6] (fun i wr => ∃ k : Nat, k + 1 ≤ R ∧ i = .int .i64 ((k + 1 : Nat) : Int) ∧ Blk wr S 86 ((cols (encF W k b)).map uv).toArray ∧ Blk wr Z 22 (z16n.map vb).toArray ∧ Below w.heap.size w wr) (fun i _ => R - (intOf i).toNat)
  case atStart => exact ⟨0, by omega, rfl, by rw [show encF W 0 b = addK W 0 b from rfl, ← Hs0.out]; exact HS3.out, HZ3.out, Hn3.out⟩
  case round =>
    clear HS3 HZ3 Hn3 Hs0 Hl4
    obtain ⟨k, hk, rfl, hS, hZ, hn⟩ := hrel
    obtain ⟨st, hst⟩ : ∃ st, st = encF W k b := ⟨_, rfl⟩
    have hst16 : St16 st := by rw [hst]; exact encF_st Hb.out W k
    rw [← hst] at hS
    have HS := Lib.hid hS
    have HZ := Lib.hid hZ
    have Hst := Lib.hid hst
    have Hst16 := Lib.hid hst16
    have cC1 : wr.cell? ⟨C, 1, none⟩ = some (.int .i64 (R : Int)) := (hn.cell (p := ⟨C, 1, none⟩) hCl).trans HC1.out
    clear hS hZ hst hst16
    obtain ⟨rd, hrd⟩ : ∃ rd, rd = k + 1 := ⟨_, rfl⟩
    rw [← hrd] at hk ⊢
    have Hrd := Lib.hid hrd
    clear hrd
    by_cases hlt : rd < R
    · have hri : (rd : Int) < (R : Int) := by omega
      obtain ⟨s, hs⟩ : ∃ s, s = cols st := ⟨_, rfl⟩
      rw [← hs] at HS
      have Hs := Lib.hid (And.intro hs (show s.length = 4 by rw [hs]; exact cols_len _))
      have Hsm := Lib.hid (show ∀ j, j < 4 → s.getD j 0 < 4294967296 from fun j hj => by rw [hs, cols_getD st j hj]; exact colOf_lt Hst16.out j)
      have HT := Lib.hid (Blk.made wr 86 (z4.map uv).toArray)
      have hal := nu_alloc (nu_refl wr) (.cells (z4.map uv).toArray 86)
      have HS1 := Lib.hid (HS.out.below hal HS.out.lt)
      have HZ1 := Lib.hid (HZ.out.below hal HZ.out.lt)
      have hn1 := nu_trans hn hal
      have hST : S < wr.heap.size ∧ Z < wr.heap.size ∧ w.heap.size ≤ wr.heap.size := ⟨HS.out.lt, HZ.out.lt, hn.size⟩
      clear hs hal HS HZ hn
      go_upto_region 8 with fail
      change Code.wp _ _ _ _ (wr.alloc (.cells (z4.map uv).toArray 86))
      clear cC1
      generalize wr.alloc (.cells (z4.map uv).toArray 86) = w4 at *
      obtain ⟨T, hT⟩ : ∃ T, T = wr.heap.size := ⟨_, rfl⟩
      rw [← hT] at HT hST
      rw [← hT]
      obtain ⟨hST, hZT, hwT⟩ := hST
      clear hT
      obtain ⟨L, hL⟩ : ∃ L, L = tL W rd s := ⟨_, rfl⟩
      have hLl : L.length = 4 := by rw [hL]; exact tL_len _ _ _
      have hLa : ∀ i, i < 4 → L[i]? = some (tword W rd s i 4) := fun i hi => by rw [hL]; exact tL_at W rd s i hi
      have HLl := Lib.hid hLl
      have HLa := Lib.hid hLa
      have HLe := Lib.hid (show L = cols (encF W rd b) by rw [hL, Hs.out.1, tL_eq Hst16.out HW.out rd, Hst.out, Hrd.out]; rfl)
      clear hL hLl hLa
      go_wp2_with fail
      go_loopw [28] (fun i wr => ∃ k : Nat, k ≤ 4 ∧ i = .int .i64 k ∧ Blk wr T 86 ((doneF L z4 k).map uv).toArray ∧ Blk wr S 86 (s.map uv).toArray ∧ Blk wr Z 22 (z16n.map vb).toArray ∧ Below w.heap.size w wr) (fun i _ => 4 - (intOf i).toNat)
      case atStart => exact ⟨0, by omega, rfl, HT.out, HS1.out, HZ1.out, hn1⟩
      case round =>
        clear HT HS1 HZ1 hn1
        obtain ⟨i, hi4, rfl, hT, hS, hZ, hn⟩ := hrel
        have HT := Lib.hid hT
        have HS := Lib.hid hS
        have HZ := Lib.hid hZ
        clear hT hS hZ
        by_cases hilt : i < 4
        · have hii : (i : Int) < 4 := by omega
          obtain ⟨p, hp⟩ : ∃ p, p = 4 * rd + i := ⟨_, rfl⟩
          have hpi : 4 * (rd : Int) + (i : Int) = (p : Int) := by omega
          have hpl : (p : Int) < (n : Int) := by have := Hn.out; omega
          have hpl2 : p < W.length := by have := Hn.out; have := HWl.out; omega
          have cC0 : wr.cell? ⟨C, 0, none⟩ = some (.slice (some ⟨m, 0, none⟩) n c) := (hn.cell (p := ⟨C, 0, none⟩) hCl).trans HC0.out
          have cW : wr.cell? ⟨m, p, none⟩ = some (.int .u32 ((tword W rd s i 0 : Nat) : Int)) := by
            have h := (hn.cell (p := ⟨m, p, none⟩) hml).trans (word_at Hm.out Ht.out p hpl2)
            rw [h, hp]; rfl
          have hold : (doneF L z4 i)[i]? = some 0 := by
            rw [doneF_old _ _ 4 i i HLl.out (Nat.le_refl _) hi4]
            rcases (show i = 0 ∨ i = 1 ∨ i = 2 ∨ i = 3 by omega) with rfl | rfl | rfl | rfl <;> rfl
          have fT := HT.out.free i
          have cT : wr.cell? ⟨T, i, none⟩ = some (.int .u32 0) := HT.out.at i _ (arrg_at uv _ i 0 hold)
          obtain ⟨v0, hv0⟩ : ∃ v0, v0 = tword W rd s i 0 := ⟨_, rfl⟩
          rw [← hv0] at cW
          have h1 := HT.out.put i (uv v0)
          rw [arrg_set, hv0] at h1
          have HT1 := Lib.hid h1
          have HS1 := Lib.hid (HS.out.far (p := ⟨T, i, none⟩) (Nat.ne_of_lt hST) (uv v0))
          have HZ1 := Lib.hid (HZ.out.far (p := ⟨T, i, none⟩) (Nat.ne_of_lt hZT) (uv v0))
          have hn1 := nu_set hn (p := ⟨T, i, none⟩) hwT (uv v0)
          rw [← hv0] at HT1
          simp only [uv] at HT1 HS1 HZ1 hn1
          have Hv0 := Lib.hid hv0
          clear hp hpl2 hold HT HS HZ hn h1 hv0
          go_upto_region 12 with fail
          clear cC0 cW cT fT
          generalize wr.setCell ⟨T, i, none⟩ (.int .u32 (v0 : Int)) = w5 at *
          go_wp2_with fail
          go_loopw [43] (fun q wr => ∃ k : Nat, k ≤ 4 ∧ q = .int .i64 k ∧ Blk wr T 86 (((doneF L z4 i).set i (tword W rd s i k)).map uv).toArray ∧ Blk wr S 86 (s.map uv).toArray ∧ Blk wr Z 22 (z16n.map vb).toArray ∧ Below w.heap.size w wr) (fun q _ => 4 - (intOf q).toNat)
          case atStart => exact ⟨0, by omega, rfl, by rw [← Hv0.out]; exact HT1.out, HS1.out, HZ1.out, hn1⟩
          case round =>
            clear HT1 HS1 HZ1 hn1 Hv0
            obtain ⟨q, hq4, rfl, hT, hS, hZ, hn⟩ := hrel
            have HT := Lib.hid hT
            have HS := Lib.hid hS
            have HZ := Lib.hid hZ
            clear hT hS hZ
            by_cases hqlt : q < 4
            · obtain ⟨j, hj⟩ : ∃ j, j = (i + q) % 4 := ⟨_, rfl⟩
              have hj4 : j < 4 := by omega
              have hji : (j : Int) < 4 := by omega
              obtain ⟨y, hy⟩ : ∃ y, y = s.getD j 0 := ⟨_, rfl⟩
              have hy32 : y < 4294967296 := by rw [hy]; exact Hsm.out j hj4
              have hsj : s[j]? = some y := by rw [hy, List.getD_eq_getElem?_getD, List.getElem?_eq_getElem (by rw [Hs.out.2]; exact hj4)]; rfl
              have cS : wr.cell? ⟨S, j, none⟩ = some (.int .u32 (y : Int)) := HS.out.at j _ (arrg_at uv _ j y hsj)
              obtain ⟨a, ha⟩ : ∃ a, a = wb y q := ⟨_, rfl⟩
              have ha8 : a < 256 := by rw [ha]; exact wb_lt _ _
              obtain ⟨v, hv⟩ : ∃ v, v = tword W rd s i q := ⟨_, rfl⟩
              have hv32 : v < 4294967296 := by rw [hv]; exact tword_lt HW.out rd s i q
              have hM32 := mixOf_lt (sb a) (sb_lt a)
              have hU32 := turnW_lt (mixOf (sb a)) q hM32
              have hnext : tword W rd s i (q + 1) = v ^^^ turnW (mixOf (sb a)) q := by rw [tword, ← hv, ← hj, ← hy, ← ha]
              have HBw := Lib.hid (show BoxAt wr x from HBx.out.1.below hn HBx.out.2)
              have HMx := Lib.hid (boxAt_mix (w := wr.drew) (show BoxAt wr.drew x from HBw.out) a ha8)
              have HRt := Lib.hid (fun (d : Int) (hd : d = -8 * (q : Int)) => rotq q (mixOf (sb a)) hM32 hqlt d hd wr.drew)
              generalize mixOf (sb a) = M at *
              generalize turnW M q = U at *
              have hxx := u32_xor_nat v U hv32 hU32
              rw [← hnext] at hxx
              have cC2 : wr.cell? ⟨C, 2, none⟩ = some (.pointer (some ⟨x, 0, none⟩)) := (hn.cell (p := ⟨C, 2, none⟩) hCl).trans HC2.out
              have hself := doneF_self L z4 4 i v HLl.out rfl hilt
              rw [← hv] at HT
              have cT : wr.cell? ⟨T, i, none⟩ = some (.int .u32 (v : Int)) := HT.out.at i _ (arrg_at uv _ i v hself)
              obtain ⟨v2, hv2⟩ : ∃ v2, v2 = tword W rd s i (q + 1) := ⟨_, rfl⟩
              rw [← hv2] at hxx
              have h1 := HT.out.drew.put i (uv v2)
              rw [arrg_set, List.set_set, hv2] at h1
              have HT1 := Lib.hid h1
              rw [← hv2] at HT1
              have HS1 := Lib.hid (HS.out.drew.far (p := ⟨T, i, none⟩) (Nat.ne_of_lt hST) (uv v2))
              have HZ1 := Lib.hid (HZ.out.drew.far (p := ⟨T, i, none⟩) (Nat.ne_of_lt hZT) (uv v2))
              have hn1 := nu_set hn.drew (p := ⟨T, i, none⟩) hwT (uv v2)
              have cT2 : wr.drew.cell? ⟨T, i, none⟩ = some (.int .u32 (v : Int)) := HT.out.drew.at i _ (arrg_at uv _ i v hself)
              have fT2 := HT.out.drew.free i
              simp only [uv] at HT1 HS1 HZ1 hn1
              have Hj := Lib.hid (And.intro hj (And.intro ha hv2))
              have HD := Lib.hid (And.intro cT2 fT2)
              clear hj hy ha hv hv2 hnext hself h1 HT HS HZ hn cT2 fT2 hsj
              have Hq := Lib.hid (show q = 0 ∨ q = 1 ∨ q = 2 ∨ q = 3 by omega)
              rcases Hq.out with rfl | rfl | rfl | rfl
              · rw [show ((0 : Nat) : Int) = 0 from rfl]
                have ea : (y : Int) / 16777216 = (a : Int) := by have h := Hj.out.2.1; simp only [wb] at h; omega
                have ei : (i : Int) % 4 = (j : Int) := by have := Hj.out.1; omega
                have hw : IntKind.i64.wrap (0) = 0 := by kernel_rfl
                go_upto_region 16 with fail
                try rw [ea]
                clear ea ei cS hji
                go_still_tail 14, (by kernel_rfl)
                still_call HMx.out
                repeat still_step
                still_call (HRt.out (0) (by decide))
                repeat still_step
                refine wpStill_nil ?_
                change wpList _ _ _ _ _ wr.drew
                clear cC2 cT HMx HRt HBw hxx
                obtain ⟨cT2, fT2⟩ := HD.out
                clear HD
                generalize wr.drew = w6 at *
                go_wp2_with fail
                clear cT2 fT2
                generalize w6.setCell ⟨T, i, none⟩ (.int .u32 (v2 : Int)) = w7 at *
                go_roundw
                case rel =>
                  have hT1 := HT1.out
                  rw [Hj.out.2.2] at hT1
                  first | exact ⟨1, by omega, by first | rfl | go_num, hT1, HS1.out, HZ1.out, hn1⟩ | ((repeat apply Exists.intro); exact ⟨⟨1, by omega, by first | rfl | go_num, hT1, HS1.out, HZ1.out, hn1⟩, rfl⟩)
                case measure => simp [intOf]
              · rw [show ((1 : Nat) : Int) = 1 from rfl]
                have ea : (y : Int) / 65536 % 256 = (a : Int) := by have h := Hj.out.2.1; simp only [wb] at h; omega
                have ei : ((i : Int) + 1) % 4 = (j : Int) := by have := Hj.out.1; omega
                have hw : IntKind.i64.wrap (-8) = -8 := by kernel_rfl
                go_upto_region 16 with fail
                try rw [ea]
                clear ea ei cS hji
                go_still_tail 14, (by kernel_rfl)
                still_call HMx.out
                repeat still_step
                still_call (HRt.out (-8) (by decide))
                repeat still_step
                refine wpStill_nil ?_
                change wpList _ _ _ _ _ wr.drew
                clear cC2 cT HMx HRt HBw hxx
                obtain ⟨cT2, fT2⟩ := HD.out
                clear HD
                generalize wr.drew = w6 at *
                go_wp2_with fail
                clear cT2 fT2
                generalize w6.setCell ⟨T, i, none⟩ (.int .u32 (v2 : Int)) = w7 at *
                go_roundw
                case rel =>
                  have hT1 := HT1.out
                  rw [Hj.out.2.2] at hT1
                  first | exact ⟨2, by omega, by first | rfl | go_num, hT1, HS1.out, HZ1.out, hn1⟩ | ((repeat apply Exists.intro); exact ⟨⟨2, by omega, by first | rfl | go_num, hT1, HS1.out, HZ1.out, hn1⟩, rfl⟩)
                case measure => simp [intOf]
              · rw [show ((2 : Nat) : Int) = 2 from rfl]
                have ea : (y : Int) / 256 % 256 = (a : Int) := by have h := Hj.out.2.1; simp only [wb] at h; omega
                have ei : ((i : Int) + 2) % 4 = (j : Int) := by have := Hj.out.1; omega
                have hw : IntKind.i64.wrap (-16) = -16 := by kernel_rfl
                go_upto_region 16 with fail
                try rw [ea]
                clear ea ei cS hji
                go_still_tail 14, (by kernel_rfl)
                still_call HMx.out
                repeat still_step
                still_call (HRt.out (-16) (by decide))
                repeat still_step
                refine wpStill_nil ?_
                change wpList _ _ _ _ _ wr.drew
                clear cC2 cT HMx HRt HBw hxx
                obtain ⟨cT2, fT2⟩ := HD.out
                clear HD
                generalize wr.drew = w6 at *
                go_wp2_with fail
                clear cT2 fT2
                generalize w6.setCell ⟨T, i, none⟩ (.int .u32 (v2 : Int)) = w7 at *
                go_roundw
                case rel =>
                  have hT1 := HT1.out
                  rw [Hj.out.2.2] at hT1
                  first | exact ⟨3, by omega, by first | rfl | go_num, hT1, HS1.out, HZ1.out, hn1⟩ | ((repeat apply Exists.intro); exact ⟨⟨3, by omega, by first | rfl | go_num, hT1, HS1.out, HZ1.out, hn1⟩, rfl⟩)
                case measure => simp [intOf]
              · rw [show ((3 : Nat) : Int) = 3 from rfl]
                have ea : (y : Int) % 256 = (a : Int) := by have h := Hj.out.2.1; simp only [wb] at h; omega
                have ei : ((i : Int) + 3) % 4 = (j : Int) := by have := Hj.out.1; omega
                have hw : IntKind.i64.wrap (-24) = -24 := by kernel_rfl
                go_upto_region 16 with fail
                try rw [ea]
                clear ea ei cS hji
                go_still_tail 14, (by kernel_rfl)
                still_call HMx.out
                repeat still_step
                still_call (HRt.out (-24) (by decide))
                repeat still_step
                refine wpStill_nil ?_
                change wpList _ _ _ _ _ wr.drew
                clear cC2 cT HMx HRt HBw hxx
                obtain ⟨cT2, fT2⟩ := HD.out
                clear HD
                generalize wr.drew = w6 at *
                go_wp2_with fail
                clear cT2 fT2
                generalize w6.setCell ⟨T, i, none⟩ (.int .u32 (v2 : Int)) = w7 at *
                go_roundw
                case rel =>
                  have hT1 := HT1.out
                  rw [Hj.out.2.2] at hT1
                  first | exact ⟨4, by omega, by first | rfl | go_num, hT1, HS1.out, HZ1.out, hn1⟩ | ((repeat apply Exists.intro); exact ⟨⟨4, by omega, by first | rfl | go_num, hT1, HS1.out, HZ1.out, hn1⟩, rfl⟩)
                case measure => simp [intOf]
            · obtain rfl : q = 4 := by omega
              have hT := HT.out
              rw [doneF_set _ _ 4 i _ HLl.out rfl hilt (HLa.out i hilt)] at hT
              have HT2 := Lib.hid hT
              clear hT HT
              go_wp2_with fail
              go_roundw
              case rel => first | exact ⟨i + 1, by omega, by go_num, HT2.out, HS.out, HZ.out, hn⟩ | ((repeat apply Exists.intro); exact ⟨⟨i + 1, by omega, by go_num, HT2.out, HS.out, HZ.out, hn⟩, rfl⟩)
              case measure => simp [intOf]; omega
        · obtain rfl : i = 4 := by omega
          have hT := HT.out
          rw [doneF_all _ _ 4 HLl.out rfl, HLe.out] at hT
          obtain ⟨D, hD⟩ : ∃ D, D = (cols (encF W rd b)).map uv := ⟨_, rfl⟩
          rw [← hD] at hT
          have HT2 := Lib.hid hT
          have HD4 := Lib.hid (show D.length = 4 by rw [hD, List.length_map]; exact cols_len _)
          have HD1 := Lib.hid (show ∀ u ∈ D, u.oneCell' = true by rw [hD]; exact uv_one _)
          have HDe := Lib.hid hD
          have HF := Lib.hid (Blk.fill HS.out D (by rw [List.size_toArray, List.length_map, HD4.out, Hs.out.2]))
          have HZf := Lib.hid (HZ.out.farCells D (Nat.ne_of_lt hZ2) 0)
          have Hnf := Lib.hid (nu_fill D (g := S) hsw 0 _ hn)
          have Hsl := Lib.hid (show (s.map uv).toArray.size = 4 by rw [List.size_toArray, List.length_map, Hs.out.2])
          clear hT HT hD hn HZ
          obtain ⟨wo, rfl⟩ : ∃ q : World, q = wr := ⟨_, rfl⟩
          go_upto_region 6 with (first | (refine wpList_load_blk rfl 86 (.tmp 7) rfl T rfl 86 D.toArray HT2.out Try.underlying86 (by rw [List.size_toArray, HD4.out]; kernel_rfl) ?_) | (refine wpList_store_blk rfl 86 (.tmp 5) (.tmp 73) rfl S D rfl rfl 86 (s.map uv).toArray HS.out (by rw [Hsl.out, HD4.out]) (by rw [HD4.out]; kernel_rfl) HD1.out ?_))
          generalize wo.setCells S 0 D = w6 at *
          go_wp2_with fail
          go_roundw
          case rel =>
            have hF := HF.out
            rw [HDe.out] at hF
            have hR : ∃ k : Nat, k + 1 ≤ R ∧ Value.int .i64 ((rd : Int) + 1) = .int .i64 ((k + 1 : Nat) : Int) ∧ Blk w6 S 86 ((cols (encF W k b)).map uv).toArray ∧ Blk w6 Z 22 (z16n.map vb).toArray ∧ Below w.heap.size w w6 := ⟨rd, by omega, by go_num, hF, HZf.out, Hnf.out⟩
            first | exact hR | ((repeat apply Exists.intro); exact ⟨hR, rfl⟩)
          case measure => simp [intOf]; omega
    · obtain rfl : rd = R := by omega
      have hri : ¬ (rd : Int) < (rd : Int) := by omega
      obtain ⟨s, hs⟩ : ∃ s, s = cols st := ⟨_, rfl⟩
      rw [← hs] at HS
      have Hs := Lib.hid (And.intro hs (show s.length = 4 by rw [hs]; exact cols_len _))
      have Hsm := Lib.hid (show ∀ j, j < 4 → s.getD j 0 < 4294967296 from fun j hj => by rw [hs, cols_getD st j hj]; exact colOf_lt Hst16.out j)
      have HE16 := Lib.hid (enc_st b W rd)
      have HEa := Lib.hid (show ∀ i, i < 16 → (enc W rd b)[i]? = some (sb (wb (s.getD ((i / 4 + i % 4) % 4) 0) (i % 4)) ^^^ wb (W.getD (4 * rd + i / 4) 0) (i % 4)) from fun i hi => by
        rw [hs, enc, show rd - 1 = k by have := Hrd.out; omega, ← Hst.out]
        exact last_at Hst16.out W rd i hi)
      obtain ⟨E, hE⟩ : ∃ E, E = enc W rd b := ⟨_, rfl⟩
      rw [← hE] at HE16 HEa
      have HEe := Lib.hid hE
      have HO := Lib.hid (Blk.made wr 22 (z16n.map vb).toArray)
      have hal := nu_alloc (nu_refl wr) (.cells (z16n.map vb).toArray 22)
      have HS1 := Lib.hid (HS.out.below hal HS.out.lt)
      have HZ1 := Lib.hid (HZ.out.below hal HZ.out.lt)
      have hn1 := nu_trans hn hal
      have hSO : S < wr.heap.size ∧ Z < wr.heap.size ∧ w.heap.size ≤ wr.heap.size := ⟨HS.out.lt, HZ.out.lt, hn.size⟩
      clear hs hE hal HS HZ hn Hst Hst16 Hrd
      obtain ⟨wo, rfl⟩ : ∃ q : World, q = wr := ⟨_, rfl⟩
      go_upto_region 21 with fail
      change Code.wp _ _ _ _ (wo.alloc (.cells (z16n.map vb).toArray 22))
      clear cC1 hri hlt
      generalize wo.alloc (.cells (z16n.map vb).toArray 22) = w4 at *
      obtain ⟨O, hO⟩ : ∃ O, O = wo.heap.size := ⟨_, rfl⟩
      rw [← hO] at HO hSO
      rw [← hO]
      obtain ⟨hSO, hZO, hwO⟩ := hSO
      clear hO
      go_wp2_with fail
      go_loopw [74] (fun i wr => ∃ k : Nat, k ≤ 16 ∧ i = .int .i64 k ∧ Blk wr O 22 ((doneF E z16n k).map vb).toArray ∧ Blk wr S 86 (s.map uv).toArray ∧ Blk wr Z 22 (z16n.map vb).toArray ∧ Below w.heap.size w wr) (fun i _ => 16 - (intOf i).toNat)
      case atStart => exact ⟨0, by omega, rfl, HO.out, HS1.out, HZ1.out, hn1⟩
      case round =>
        clear HO HS1 HZ1 hn1
        obtain ⟨k, hk16, rfl, hO, hS, hZ, hn⟩ := hrel
        have HO := Lib.hid hO
        have HS := Lib.hid hS
        have HZ := Lib.hid hZ
        clear hO hS hZ
        by_cases hlt : k < 16
        · have hki : (k : Int) < 16 := by omega
          obtain ⟨q, hq⟩ : ∃ q, q = k / 4 := ⟨_, rfl⟩
          obtain ⟨r, hr⟩ : ∃ r, r = k % 4 := ⟨_, rfl⟩
          have ek : (k : Int) / 4 = (q : Int) := by omega
          have em : (k : Int) % 4 = (r : Int) := by omega
          have etq : Int.tdiv (k : Int) 4 = (q : Int) := by rw [Int.tdiv_eq_ediv_of_nonneg (by omega)]; omega
          have etr : Int.tmod (k : Int) 4 = (r : Int) := by rw [Int.tmod_eq_emod_of_nonneg (by omega)]; omega
          have hq4 : q < 4 := by omega
          obtain ⟨j, hj⟩ : ∃ j, j = (q + r) % 4 := ⟨_, rfl⟩
          have hj4 : j < 4 := by omega
          have hji : (j : Int) < 4 := by omega
          obtain ⟨y, hy⟩ : ∃ y, y = s.getD j 0 := ⟨_, rfl⟩
          have hy32 : y < 4294967296 := by rw [hy]; exact Hsm.out j hj4
          have hsj : s[j]? = some y := by rw [hy, List.getD_eq_getElem?_getD, List.getElem?_eq_getElem (by rw [Hs.out.2]; exact hj4)]; rfl
          have cS : wr.cell? ⟨S, j, none⟩ = some (.int .u32 (y : Int)) := HS.out.at j _ (arrg_at uv _ j y hsj)
          obtain ⟨a, ha⟩ : ∃ a, a = wb y r := ⟨_, rfl⟩
          have ha8 : a < 256 := by rw [ha]; exact wb_lt _ _
          obtain ⟨p, hp⟩ : ∃ p, p = 4 * rd + q := ⟨_, rfl⟩
          have hpl : (p : Int) < (n : Int) := by have := Hn.out; omega
          have hpl2 : p < W.length := by have := Hn.out; have := HWl.out; omega
          have cC0 : wr.cell? ⟨C, 0, none⟩ = some (.slice (some ⟨m, 0, none⟩) n c) := (hn.cell (p := ⟨C, 0, none⟩) hCl).trans HC0.out
          have cC1 : wr.cell? ⟨C, 1, none⟩ = some (.int .i64 (rd : Int)) := (hn.cell (p := ⟨C, 1, none⟩) hCl).trans HC1.out
          have cC2 : wr.cell? ⟨C, 2, none⟩ = some (.pointer (some ⟨x, 0, none⟩)) := (hn.cell (p := ⟨C, 2, none⟩) hCl).trans HC2.out
          have cW : wr.cell? ⟨m, p, none⟩ = some (.int .u32 ((W.getD p 0 : Nat) : Int)) := (hn.cell (p := ⟨m, p, none⟩) hml).trans (word_at Hm.out Ht.out p hpl2)
          obtain ⟨z, hz⟩ : ∃ z, z = W.getD p 0 := ⟨_, rfl⟩
          have hz32 : z < 4294967296 := by rw [hz]; exact HW.out.getD p
          rw [← hz] at cW
          obtain ⟨zb, hzb⟩ : ∃ zb, zb = wb z r := ⟨_, rfl⟩
          have hzb8 : zb < 256 := by rw [hzb]; exact wb_lt _ _
          have hsb8 := sb_lt a
          have hEk := HEa.out k hlt
          rw [← hq, ← hr, ← hj, ← hy, ← ha, ← hp, ← hz, ← hzb] at hEk
          have HBw := Lib.hid (show BoxAt wr x from HBx.out.1.below hn HBx.out.2)
          have HBo := Lib.hid (boxAt_boxq (w := wr.drew) (show BoxAt wr.drew x from HBw.out) a ha8)
          generalize sb a = sa at *
          have hxx := u8_xor_nat sa zb hsb8 hzb8
          obtain ⟨ee, hee⟩ : ∃ ee, ee = sa ^^^ zb := ⟨_, rfl⟩
          rw [← hee] at hxx hEk
          obtain ⟨R4, hR4⟩ : ∃ R4, R4 = 4 * rd := ⟨_, rfl⟩
          have w1 : IntKind.i64.wrap (4 * (rd : Int)) = (R4 : Int) := by rw [IntKind.wrap_i64]; omega
          have w2 : IntKind.i64.wrap (q : Int) = (q : Int) := by rw [IntKind.wrap_i64]; omega
          have w3 : IntKind.i64.wrap ((R4 : Int) + (q : Int)) = (p : Int) := by rw [IntKind.wrap_i64]; omega
          have cO : (doneF E z16n k)[k]? = some 0 := by rw [doneF_old _ _ 16 k k HE16.out.1 (Nat.le_refl _) hk16]; exact z16_at k hlt
          have cO2 : wr.drew.cell? ⟨O, k, none⟩ = some (.int .u8 0) := HO.out.drew.at k _ (arrg_at vb _ k 0 cO)
          have fO2 := HO.out.drew.free k
          have h1 := HO.out.drew.put k (vb ee)
          rw [arrg_set, doneF_set _ _ 16 k ee HE16.out.1 rfl hlt hEk] at h1
          have HO1 := Lib.hid h1
          have HS1 := Lib.hid (HS.out.drew.far (p := ⟨O, k, none⟩) (Nat.ne_of_lt hSO) (vb ee))
          have HZ1 := Lib.hid (HZ.out.drew.far (p := ⟨O, k, none⟩) (Nat.ne_of_lt hZO) (vb ee))
          have hn1 := nu_set hn.drew (p := ⟨O, k, none⟩) hwO (vb ee)
          simp only [vb] at HO1 HS1 HZ1 hn1
          have HD := Lib.hid (And.intro cO2 fO2)
          have Hj := Lib.hid (And.intro hj (And.intro ha hzb))
          have Hr := Lib.hid (show r = 0 ∨ r = 1 ∨ r = 2 ∨ r = 3 by omega)
          clear hq hr hj hy ha hp hz hzb hee hR4 h1 HO HS HZ hn cO cO2 fO2 hsj hpl2 hEk
          rcases Hr.out with rfl | rfl | rfl | rfl
          · rw [show ((0 : Nat) : Int) = 0 from rfl] at em etr
            have ea : (y : Int) / 16777216 = (a : Int) := by have h := Hj.out.2.1; simp only [wb] at h; omega
            have ei : (q : Int) % 4 = (j : Int) := by have := Hj.out.1; omega
            have ez : IntKind.u8.wrap ((z : Int) / 16777216) = (zb : Int) := by have h := Hj.out.2.2; simp only [wb] at h; rw [IntKind.wrap_u8]; omega
            have l1 : IntKind.i64.wrap 0 = 0 := by kernel_rfl
            skip
            have l3 : IntKind.i64.wrap 24 = 24 := by kernel_rfl
            go_upto_region 25 with fail
            try rw [ea]
            clear ea ei cS hji ek em
            go_still_tail 29, (by kernel_rfl)
            still_call HBo.out
            repeat still_step
            refine wpStill_nil ?_
            change wpList _ _ _ _ _ wr.drew
            clear cC0 cC1 cC2 cW HBo HBw hxx ez etq etr w1 w2 w3 hpl
            obtain ⟨cO2, fO2⟩ := HD.out
            clear HD
            generalize wr.drew = w6 at *
            go_wp2_with fail
            clear cO2 fO2
            generalize w6.setCell ⟨O, k, none⟩ (.int .u8 (ee : Int)) = w7 at *
            go_roundw
            case rel => first | exact ⟨k + 1, by omega, by go_num, HO1.out, HS1.out, HZ1.out, hn1⟩ | ((repeat apply Exists.intro); exact ⟨⟨k + 1, by omega, by go_num, HO1.out, HS1.out, HZ1.out, hn1⟩, rfl⟩)
            case measure => simp [intOf]; omega
          · rw [show ((1 : Nat) : Int) = 1 from rfl] at em etr
            have ea : (y : Int) / 65536 % 256 = (a : Int) := by have h := Hj.out.2.1; simp only [wb] at h; omega
            have ei : ((q : Int) + 1) % 4 = (j : Int) := by have := Hj.out.1; omega
            have ez : IntKind.u8.wrap ((z : Int) / 65536) = (zb : Int) := by have h := Hj.out.2.2; simp only [wb] at h; rw [IntKind.wrap_u8]; omega
            have l1 : IntKind.i64.wrap 1 = 1 := by kernel_rfl
            have l2 : IntKind.i64.wrap 8 = 8 := by kernel_rfl
            have l3 : IntKind.i64.wrap 16 = 16 := by kernel_rfl
            go_upto_region 25 with fail
            try rw [ea]
            clear ea ei cS hji ek em
            go_still_tail 29, (by kernel_rfl)
            still_call HBo.out
            repeat still_step
            refine wpStill_nil ?_
            change wpList _ _ _ _ _ wr.drew
            clear cC0 cC1 cC2 cW HBo HBw hxx ez etq etr w1 w2 w3 hpl
            obtain ⟨cO2, fO2⟩ := HD.out
            clear HD
            generalize wr.drew = w6 at *
            go_wp2_with fail
            clear cO2 fO2
            generalize w6.setCell ⟨O, k, none⟩ (.int .u8 (ee : Int)) = w7 at *
            go_roundw
            case rel => first | exact ⟨k + 1, by omega, by go_num, HO1.out, HS1.out, HZ1.out, hn1⟩ | ((repeat apply Exists.intro); exact ⟨⟨k + 1, by omega, by go_num, HO1.out, HS1.out, HZ1.out, hn1⟩, rfl⟩)
            case measure => simp [intOf]; omega
          · rw [show ((2 : Nat) : Int) = 2 from rfl] at em etr
            have ea : (y : Int) / 256 % 256 = (a : Int) := by have h := Hj.out.2.1; simp only [wb] at h; omega
            have ei : ((q : Int) + 2) % 4 = (j : Int) := by have := Hj.out.1; omega
            have ez : IntKind.u8.wrap ((z : Int) / 256) = (zb : Int) := by have h := Hj.out.2.2; simp only [wb] at h; rw [IntKind.wrap_u8]; omega
            have l1 : IntKind.i64.wrap 2 = 2 := by kernel_rfl
            have l2 : IntKind.i64.wrap 16 = 16 := by kernel_rfl
            have l3 : IntKind.i64.wrap 8 = 8 := by kernel_rfl
            go_upto_region 25 with fail
            try rw [ea]
            clear ea ei cS hji ek em
            go_still_tail 29, (by kernel_rfl)
            still_call HBo.out
            repeat still_step
            refine wpStill_nil ?_
            change wpList _ _ _ _ _ wr.drew
            clear cC0 cC1 cC2 cW HBo HBw hxx ez etq etr w1 w2 w3 hpl
            obtain ⟨cO2, fO2⟩ := HD.out
            clear HD
            generalize wr.drew = w6 at *
            go_wp2_with fail
            clear cO2 fO2
            generalize w6.setCell ⟨O, k, none⟩ (.int .u8 (ee : Int)) = w7 at *
            go_roundw
            case rel => first | exact ⟨k + 1, by omega, by go_num, HO1.out, HS1.out, HZ1.out, hn1⟩ | ((repeat apply Exists.intro); exact ⟨⟨k + 1, by omega, by go_num, HO1.out, HS1.out, HZ1.out, hn1⟩, rfl⟩)
            case measure => simp [intOf]; omega
          · rw [show ((3 : Nat) : Int) = 3 from rfl] at em etr
            have ea : (y : Int) % 256 = (a : Int) := by have h := Hj.out.2.1; simp only [wb] at h; omega
            have ei : ((q : Int) + 3) % 4 = (j : Int) := by have := Hj.out.1; omega
            have ez : IntKind.u8.wrap ((z : Int)) = (zb : Int) := by have h := Hj.out.2.2; simp only [wb] at h; rw [IntKind.wrap_u8]; omega
            have l1 : IntKind.i64.wrap 3 = 3 := by kernel_rfl
            have l2 : IntKind.i64.wrap 24 = 24 := by kernel_rfl
            have l3 : IntKind.i64.wrap 0 = 0 := by kernel_rfl
            go_upto_region 25 with fail
            try rw [ea]
            clear ea ei cS hji ek em
            go_still_tail 29, (by kernel_rfl)
            still_call HBo.out
            repeat still_step
            refine wpStill_nil ?_
            change wpList _ _ _ _ _ wr.drew
            clear cC0 cC1 cC2 cW HBo HBw hxx ez etq etr w1 w2 w3 hpl
            obtain ⟨cO2, fO2⟩ := HD.out
            clear HD
            generalize wr.drew = w6 at *
            go_wp2_with fail
            clear cO2 fO2
            generalize w6.setCell ⟨O, k, none⟩ (.int .u8 (ee : Int)) = w7 at *
            go_roundw
            case rel => first | exact ⟨k + 1, by omega, by go_num, HO1.out, HS1.out, HZ1.out, hn1⟩ | ((repeat apply Exists.intro); exact ⟨⟨k + 1, by omega, by go_num, HO1.out, HS1.out, HZ1.out, hn1⟩, rfl⟩)
            case measure => simp [intOf]; omega
        · obtain rfl : k = 16 := by omega
          have hO := HO.out
          rw [doneF_all _ _ 16 HE16.out.1 rfl] at hO
          obtain ⟨D, hD⟩ : ∃ D, D = E.map vb := ⟨_, rfl⟩
          rw [← hD] at hO
          have HO2 := Lib.hid hO
          have HD16 := Lib.hid (show D.length = 16 by rw [hD, List.length_map, HE16.out.1])
          have HD1 := Lib.hid (show ∀ u ∈ D, u.oneCell' = true by rw [hD]; exact vb_one _)
          have HDe := Lib.hid hD
          have HF := Lib.hid (Blk.fill HZ.out D (by rw [HD16.out]; rfl))
          have Hnf := Lib.hid (nu_fill D (g := Z) hZw 0 _ hn)
          clear hO HO hD hn
          go_wp2_with (first | (refine wpList_load_blk rfl 22 (.tmp 11) rfl O rfl 22 D.toArray HO2.out Try.underlying22 (by rw [List.size_toArray, HD16.out]; kernel_rfl) ?_) | (refine wpList_store_blk rfl 22 (.tmp 4) (.tmp 121) rfl Z D rfl rfl 22 (z16n.map vb).toArray HZ.out (by rw [HD16.out]; rfl) (by rw [HD16.out]; kernel_rfl) HD1.out ?_))
          refine bodyPost_ret (results_blk rfl _ Z 22 D.toArray rfl HF.out Try.underlying22 (by rw [List.size_toArray, HD16.out]; kernel_rfl)) rfl ⟨by rw [HDe.out, ← HEe.out], Hnf.out⟩
end Go.Proofs.Ytnojbjconiddoaa
