/-
  What the proof of GcmTurned rests on, part 7 of 10.
-/
import Derived.Test.YtpeibkdcglkimaaGcmTurnedB6
namespace Go.Proofs.Ytpeibkdcglkimaa
open Go.ChangeShapes Go.WideShapes Go.ChangeAt Go.RowKit Fld Aes Gcm
set_option linter.unusedSimpArgs false

/-- The last four bytes, of which j are laid, from behind. -/
def tlz (n : Nat) : Nat → List Nat
  | 0 => [0, 0, 0, 0]
  | 1 => [0, 0, 0, wb n 3]
  | 2 => [0, 0, wb n 2, wb n 3]
  | 3 => [0, wb n 1, wb n 2, wb n 3]
  | _ => [wb n 0, wb n 1, wb n 2, wb n 3]
theorem tlz_len (n j : Nat) : (tlz n j).length = 4 := by
  unfold tlz
  split <;> rfl
theorem tlz_step {nonce : List Nat} (h : nonce.length = 12) (n j I : Nat) (hI : I + j = 15) (hj : j < 4) : (nonce ++ tlz n j)[I]? = some 0 ∧ (nonce ++ tlz n j).set I (wb n (3 - j)) = nonce ++ tlz n (j + 1) := by
  have hc : j = 0 ∨ j = 1 ∨ j = 2 ∨ j = 3 := by omega
  rw [List.getElem?_append_right (by omega), List.set_append_right _ _ (by omega), h]
  rcases hc with rfl | rfl | rfl | rfl
  · obtain rfl : I = 15 := by omega
    exact ⟨rfl, rfl⟩
  · obtain rfl : I = 14 := by omega
    exact ⟨rfl, rfl⟩
  · obtain rfl : I = 13 := by omega
    exact ⟨rfl, rfl⟩
  · obtain rfl : I = 12 := by omega
    exact ⟨rfl, rfl⟩
theorem tlz_byte (n j m : Nat) (hj : j < 4) (hm : m = n / 256 ^ j) : m % 256 = wb n (3 - j) := by
  have hc : j = 0 ∨ j = 1 ∨ j = 2 ∨ j = 3 := by omega
  rcases hc with rfl | rfl | rfl | rfl
  · subst hm; simp [wb]
  · subst hm; simp [wb]
  · subst hm; simp [wb]
  · subst hm; simp [wb]

set_option maxRecDepth 100000 in
set_option maxHeartbeats 4000000 in
theorem refCounter_any {w : World} {v : Value} {W : List Nat} {R : Nat} (hv : RowsAt w v W) (hK : Keyed W R) (nonce : List Nat) (h12 : nonce.length = 12) (hx : ∀ x ∈ nonce, x < 256) (n : Nat) (hn : n < 4294967296) :
    Calls Try.prog 50 #[.agg (rkeyL v).toArray, .agg (nonce.map vb).toArray, .int .i64 (n : Int)] w fun e w' => e = .returned (.agg ((ctr W R nonce n).map vb).toArray) ∧ Below w.heap.size w w' := by
  obtain ⟨L, hL⟩ : ∃ L, L = rkeyL v := ⟨_, rfl⟩
  have HL := Lib.hid hL
  have HLl := Lib.hid (show L.length = 513 by rw [hL]; exact rkeyL_len _)
  have HV := Lib.hid hv
  have HK := Lib.hid hK
  have H12 := Lib.hid h12
  have Hx := Lib.hid hx
  have Hn := Lib.hid hn
  rw [← hL]
  have hal := nu_alloc (nu_alloc (nu_alloc (nu_alloc (nu_refl w) (.cells L.toArray 31)) (.cells (nonce.map vb).toArray 23)) (.cells (z16n.map vb).toArray 44)) (.cells (z16n.map vb).toArray 44)
  have HKb := Lib.hid ((((Blk.made w 31 L.toArray).alloc (.cells (nonce.map vb).toArray 23)).alloc (.cells (z16n.map vb).toArray 44)).alloc (.cells (z16n.map vb).toArray 44))
  have HP := Lib.hid (((Blk.made1 w (.cells L.toArray 31) 23 (nonce.map vb).toArray).alloc (.cells (z16n.map vb).toArray 44)).alloc (.cells (z16n.map vb).toArray 44))
  have HZ := Lib.hid ((Blk.made2 w (.cells L.toArray 31) (.cells (nonce.map vb).toArray 23) 44 (z16n.map vb).toArray).alloc (.cells (z16n.map vb).toArray 44))
  have HB := Lib.hid (show Blk ((((w.alloc (.cells L.toArray 31)).alloc (.cells (nonce.map vb).toArray 23)).alloc (.cells (z16n.map vb).toArray 44)).alloc (.cells (z16n.map vb).toArray 44)) (w.heap.size + 1 + 1 + 1) 44 (z16n.map vb).toArray from by
    have h := Blk.made (((w.alloc (.cells L.toArray 31)).alloc (.cells (nonce.map vb).toArray 23)).alloc (.cells (z16n.map vb).toArray 44)) 44 (z16n.map vb).toArray
    simpa using h)
  clear hv hK h12 hx hn hL
  go_enter Try.func50, Try.ntmps50
  go_upto_region 2 with fail
  change Code.wp _ _ _ _ ((((w.alloc (.cells L.toArray 31)).alloc (.cells (nonce.map vb).toArray 23)).alloc (.cells (z16n.map vb).toArray 44)).alloc (.cells (z16n.map vb).toArray 44))
  generalize (((w.alloc (.cells L.toArray 31)).alloc (.cells (nonce.map vb).toArray 23)).alloc (.cells (z16n.map vb).toArray 44)).alloc (.cells (z16n.map vb).toArray 44) = w1 at *
  obtain ⟨B, hB⟩ : ∃ B, B = w.heap.size + 1 + 1 + 1 := ⟨_, rfl⟩
  obtain ⟨Z, hZ⟩ : ∃ Z, Z = w.heap.size + 1 + 1 := ⟨_, rfl⟩
  obtain ⟨P, hP⟩ : ∃ P, P = w.heap.size + 1 := ⟨_, rfl⟩
  obtain ⟨K, hK⟩ : ∃ K, K = w.heap.size := ⟨_, rfl⟩
  rw [← hB] at HB
  rw [← hZ] at HZ
  rw [← hP] at HP
  rw [← hK] at HKb
  rw [← hB, ← hZ, ← hP, ← hK]
  have Hap := Lib.hid (show K ≠ B ∧ P ≠ B ∧ Z ≠ B ∧ w.heap.size ≤ B ∧ w.heap.size ≤ Z from ⟨by omega, by omega, by omega, by omega, by omega⟩)
  clear hB hZ hP hK
  obtain ⟨N, hN⟩ : ∃ N, N = nonce ++ z4 := ⟨_, rfl⟩
  have HN := Lib.hid hN
  have HNl := Lib.hid (show N.length = 16 by rw [hN]; exact nz_len H12.out)
  clear hN
  have HB0 := Lib.hid (show Blk w1 B 44 ((doneF N z16n 0).map vb).toArray from HB.out)
  have Hal := Lib.hid hal
  clear HB hal
  go_wp2_with fail
  go_loopw [8] (fun i wr => ∃ k : Nat, k ≤ 12 ∧ i = .int .i64 k ∧ Blk wr K 31 L.toArray ∧ Blk wr P 23 (nonce.map vb).toArray ∧ Blk wr B 44 ((doneF N z16n k).map vb).toArray ∧ Blk wr Z 44 (z16n.map vb).toArray ∧ Below w.heap.size w wr) (fun i _ => 12 - (intOf i).toNat)
  case atStart => exact ⟨0, by omega, rfl, HKb.out, HP.out, HB0.out, HZ.out, Hal.out⟩
  case round =>
    clear HKb HP HB0 HZ Hal
    obtain ⟨i, hi12, rfl, hKb, hP, hB, hZ, hn'⟩ := hrel
    by_cases hilt : i < 12
    · have hii : (i : Int) < 12 := by omega
      obtain ⟨y, hy⟩ : ∃ y, nonce[i]? = some y := ⟨_, List.getElem?_eq_getElem (by rw [H12.out]; exact hilt)⟩
      have hNy : N[i]? = some y := by rw [HN.out, List.getElem?_append_left (by rw [H12.out]; exact hilt)]; exact hy
      have hold : (doneF N z16n i)[i]? = some 0 := by
        rw [doneF_old _ _ 16 i i HNl.out (Nat.le_refl _) (by omega)]
        have : ∀ j, j < 12 → z16n[j]? = some 0 := by decide
        exact this i hilt
      have cP : wr.cell? ⟨P, i, none⟩ = some (.int .u8 (y : Int)) := hP.at i _ (arrg_at vb _ i y hy)
      have fP := hP.free i
      have cB : wr.cell? ⟨B, i, none⟩ = some (.int .u8 ((0 : Nat) : Int)) := hB.at i _ (arrg_at vb _ i 0 hold)
      have fB := hB.free i
      have hset := hB.put i (vb y)
      rw [arrg_set, doneF_set N z16n 16 i y HNl.out rfl (by omega) hNy] at hset
      have HB1 := Lib.hid hset
      have HK1 := Lib.hid (hKb.far (p := ⟨B, i, none⟩) Hap.out.1 (vb y))
      have HP1 := Lib.hid (hP.far (p := ⟨B, i, none⟩) Hap.out.2.1 (vb y))
      have HZ1 := Lib.hid (hZ.far (p := ⟨B, i, none⟩) Hap.out.2.2.1 (vb y))
      have hn1 := nu_set hn' (p := ⟨B, i, none⟩) Hap.out.2.2.2.1 (vb y)
      simp only [vb] at HB1 HK1 HP1 HZ1 hn1
      clear hKb hP hB hZ hn' hset hold hNy hy
      go_wp2_with fail
      clear cB fB cP fP
      generalize wr.setCell ⟨B, i, none⟩ (.int .u8 (y : Int)) = w7 at *
      go_roundw
      case rel => first | exact ⟨i + 1, by omega, by go_num, HK1.out, HP1.out, HB1.out, HZ1.out, hn1⟩ | ((repeat apply Exists.intro); exact ⟨⟨i + 1, by omega, by go_num, HK1.out, HP1.out, HB1.out, HZ1.out, hn1⟩, rfl⟩)
      case measure => simp [intOf]; omega
    · obtain rfl : i = 12 := by omega
      have HKb := Lib.hid hKb
      have HP := Lib.hid hP
      have HZ := Lib.hid hZ
      have HB := Lib.hid (show Blk wr B 44 ((nonce ++ tlz n 0).map vb).toArray from by
        have e : doneF N z16n 12 = nonce ++ tlz n 0 := by
          rw [doneF, HN.out, List.take_left' H12.out]
          rfl
        rw [← e]
        exact hB)
      have Hn' := Lib.hid hn'
      clear hKb hP hB hZ hn'
      go_wp2_with fail
      go_loopw [2, 9] (fun m i wr => ∃ j I M : Nat, j ≤ 4 ∧ I + j = 15 ∧ i = .int .i64 I ∧ m = .int .i64 M ∧ M = n / 256 ^ j ∧ Blk wr K 31 L.toArray ∧ Blk wr B 44 ((nonce ++ tlz n j).map vb).toArray ∧ Blk wr Z 44 (z16n.map vb).toArray ∧ Below w.heap.size w wr) (fun _ i _ => (intOf i).toNat)
      case atStart => exact ⟨0, 15, n, by omega, rfl, rfl, rfl, by simp, HKb.out, HB.out, HZ.out, Hn'.out⟩
      case round =>
        clear HKb HP HB HZ Hn'
        rename_i wr0
        obtain ⟨j, I, M, hj, hI, rfl, rfl, hM, hKb, hB, hZ, hn'⟩ := hrel
        by_cases hjlt : j < 4
        · have hI12 : (12 : Int) ≤ (I : Int) := by omega
          have hIz : I < 16 := by omega
          have hMn : M < 4294967296 := Nat.lt_of_le_of_lt (by rw [hM]; exact Nat.div_le_self _ _) Hn.out
          obtain ⟨b, hb⟩ : ∃ b, b = M % 256 := ⟨_, rfl⟩
          obtain ⟨M2, hM2⟩ : ∃ M2, M2 = M / 256 := ⟨_, rfl⟩
          have eb : Int.tmod (M : Int) 256 = (b : Int) := by rw [Int.tmod_eq_emod_of_nonneg (by omega)]; omega
          have eb2 : (M : Int) % 256 = (b : Int) := by omega
          have wbb : IntKind.u8.wrap (b : Int) = (b : Int) := by rw [IntKind.wrap_u8]; omega
          have ed : Int.tdiv (M : Int) 256 = (M2 : Int) := by rw [Int.tdiv_eq_ediv_of_nonneg (by omega)]; omega
          have ed2 : (M : Int) / 256 = (M2 : Int) := by omega
          have wd : IntKind.i64.wrap (M2 : Int) = (M2 : Int) := by rw [IntKind.wrap_i64]; omega
          have wbb2 : IntKind.i64.wrap (b : Int) = (b : Int) := by rw [IntKind.wrap_i64]; omega
          obtain ⟨I2, hI2⟩ : ∃ I2, I = I2 + 1 := ⟨I - 1, by omega⟩
          have HI2 := Lib.hid hI2
          have ei : (I : Int) - 1 = (I2 : Int) := by omega
          have wi : IntKind.i64.wrap (I2 : Int) = (I2 : Int) := by rw [IntKind.wrap_i64]; omega
          have HM2 := Lib.hid (show M2 = n / 256 ^ (j + 1) by rw [hM2, hM, Nat.div_div_eq_div_mul, Nat.pow_succ])
          have hbe := tlz_byte n j M hjlt hM
          rw [← hb] at hbe
          obtain ⟨hold, hstep⟩ := tlz_step H12.out n j I hI hjlt
          rw [← hbe] at hstep
          have hii : (I : Int) < 16 := by omega
          have cB : wr.cell? ⟨B, I, none⟩ = some (.int .u8 ((0 : Nat) : Int)) := hB.at I _ (arrg_at vb _ I 0 hold)
          have fB := hB.free I
          have hset := hB.put I (vb b)
          rw [arrg_set, hstep] at hset
          have HB1 := Lib.hid hset
          have HK1 := Lib.hid (hKb.far (p := ⟨B, I, none⟩) Hap.out.1 (vb b))
          have HZ1 := Lib.hid (hZ.far (p := ⟨B, I, none⟩) Hap.out.2.2.1 (vb b))
          have hn1 := nu_set hn' (p := ⟨B, I, none⟩) Hap.out.2.2.2.1 (vb b)
          simp only [vb] at HB1 HK1 HZ1 hn1
          have HI := Lib.hid hI
          clear hKb hB hZ hn' hset hold hbe hstep hb hM hM2 hI hI2
          go_wp2_with fail
          clear cB fB
          generalize wr.setCell ⟨B, I, none⟩ (.int .u8 (b : Int)) = w7 at *
          go_roundw
          case rel => first | exact ⟨j + 1, I2, M2, by omega, by have := HI.out; have := HI2.out; omega, by first | rfl | go_num, by first | rfl | go_num, HM2.out, HK1.out, HB1.out, HZ1.out, hn1⟩ | ((repeat apply Exists.intro); exact ⟨⟨j + 1, I2, M2, by omega, by have := HI.out; have := HI2.out; omega, by first | rfl | go_num, by first | rfl | go_num, HM2.out, HK1.out, HB1.out, HZ1.out, hn1⟩, rfl⟩)
          case measure => have := HI2.out; simp [intOf]; omega
        · obtain rfl : j = 4 := by omega
          obtain rfl : I = 11 := by omega
          obtain ⟨b, hbe⟩ : ∃ b, b = nonce ++ tlz n 4 := ⟨_, rfl⟩
          have Hbe := Lib.hid (show b = cb nonce n from hbe)
          rw [← hbe] at hB
          have Hbs := Lib.hid (show St16 b by rw [Hbe.out]; exact cb_st H12.out Hx.out n)
          obtain ⟨D, hD⟩ : ∃ D, D = enc W R b := ⟨_, rfl⟩
          have HD := Lib.hid (show D = ctr W R nonce n by rw [hD, Hbe.out]; rfl)
          have HD16 := Lib.hid (show D.length = 16 by rw [hD]; exact (enc_st b W R).1)
          have Hc := Lib.hid (show Calls Try.prog 33 #[.agg L.toArray, .agg (b.map vb).toArray] wr fun e w' => e = .returned (.agg (D.map vb).toArray) ∧ Below wr.heap.size wr w' from by
            rw [HL.out, hD]
            exact refEncrypt_any (HV.out.below hn') HK.out b Hbs.out)
          have HKb := Lib.hid hKb
          have HB := Lib.hid hB
          have HZ := Lib.hid hZ
          have Hn' := Lib.hid hn'
          clear hKb hB hZ hn' hbe hD hM
          go_wp2_with (first | (refine wpList_run _ (by rfl) (eKey_load HKb.out HLl.out (.tmp 3) rfl rfl) ?_) | (refine wpList_run _ (by rfl) (e16_load HB.out Hbs.out.1 (.tmp 7) rfl rfl) ?_))
          refine Hc.out.mono ?_
          rintro e w2 ⟨rfl, hb2⟩
          have HZ2 := Lib.hid (HZ.out.below hb2 HZ.out.lt)
          have HF := Lib.hid (Blk.fill HZ2.out (D.map vb) (by rw [List.length_map, HD16.out]; rfl))
          have Hnf := Lib.hid (nu_fill (D.map vb) (g := Z) Hap.out.2.2.2.2 0 _ (nu_trans Hn'.out hb2))
          clear hb2 HKb HB HZ Hn' Hc
          go_wp2_with (refine wpList_store_blk rfl 44 (.tmp 6) (.tmp 32) rfl Z (D.map vb) rfl rfl 44 (z16n.map vb).toArray HZ2.out (by rw [List.length_map, HD16.out]; rfl) (by rw [List.length_map, HD16.out]; kernel_rfl) (vb_one _) ?_)
          refine bodyPost_ret (results_blk rfl _ Z 44 (D.map vb).toArray rfl HF.out Try.underlying44 (by rw [List.size_toArray, List.length_map, HD16.out]; kernel_rfl)) rfl ⟨by rw [HD.out], Hnf.out⟩
set_option maxRecDepth 100000 in
set_option maxHeartbeats 4000000 in
theorem refHash_any {w : World} {v : Value} {W : List Nat} {R : Nat} (hv : RowsAt w v W) (hK : Keyed W R) :
    Calls Try.prog 20 #[.agg (rkeyL v).toArray] w fun e w' => e = .returned (.agg ((enc W R z16n).map vb).toArray) ∧ Below w.heap.size w w' := by
  obtain ⟨L, hL⟩ : ∃ L, L = rkeyL v := ⟨_, rfl⟩
  have HLl := Lib.hid (show L.length = 513 by rw [hL]; exact rkeyL_len _)
  rw [← hL]
  have Hal := Lib.hid (nu_alloc (nu_alloc (nu_refl w) (.cells L.toArray 31)) (.cells (z16n.map vb).toArray 44))
  have HKb := Lib.hid ((Blk.made w 31 L.toArray).alloc (.cells (z16n.map vb).toArray 44))
  have HZ := Lib.hid (Blk.made1 w (.cells L.toArray 31) 44 (z16n.map vb).toArray)
  obtain ⟨D, hD⟩ : ∃ D, D = enc W R z16n := ⟨_, rfl⟩
  have HD16 := Lib.hid (show D.length = 16 by rw [hD]; exact (enc_st z16n W R).1)
  have Hc := Lib.hid (show Calls Try.prog 33 #[.agg L.toArray, .agg (z16n.map vb).toArray] ((w.alloc (.cells L.toArray 31)).alloc (.cells (z16n.map vb).toArray 44)) fun e w' => e = .returned (.agg (D.map vb).toArray) ∧ Below ((w.alloc (.cells L.toArray 31)).alloc (.cells (z16n.map vb).toArray 44)).heap.size ((w.alloc (.cells L.toArray 31)).alloc (.cells (z16n.map vb).toArray 44)) w' from by
    rw [hL, hD]
    exact refEncrypt_any (hv.below (by rw [← hL]; exact Hal.out)) hK z16n z16n_st)
  rw [← hD]
  clear hv hK hL hD
  go_enter Try.func20, Try.ntmps20
  go_upto_region 1 with fail
  change Code.wp _ _ _ _ ((w.alloc (.cells L.toArray 31)).alloc (.cells (z16n.map vb).toArray 44))
  generalize (w.alloc (.cells L.toArray 31)).alloc (.cells (z16n.map vb).toArray 44) = w1 at *
  obtain ⟨Z, hZ⟩ : ∃ Z, Z = w.heap.size + 1 := ⟨_, rfl⟩
  obtain ⟨K, hK⟩ : ∃ K, K = w.heap.size := ⟨_, rfl⟩
  rw [← hZ] at HZ
  rw [← hK] at HKb
  rw [← hZ, ← hK]
  have Hap := Lib.hid (show w.heap.size ≤ Z by omega)
  clear hZ hK
  go_wp2_with (first | (refine wpList_run _ (by rfl) (eKey_load HKb.out HLl.out (.tmp 1) rfl rfl) ?_) | (refine wpList_run _ (by rfl) (exec_zb rfl) ?_))
  refine Hc.out.mono ?_
  rintro e w2 ⟨rfl, hb2⟩
  have HZ2 := Lib.hid (HZ.out.below hb2 HZ.out.lt)
  have HF := Lib.hid (Blk.fill HZ2.out (D.map vb) (by rw [List.length_map, HD16.out]; rfl))
  have Hnf := Lib.hid (nu_fill (D.map vb) (g := Z) Hap.out 0 _ (nu_trans Hal.out hb2))
  clear hb2 HKb HZ Hc Hal
  go_wp2_with (refine wpList_store_blk rfl 44 (.tmp 2) (.tmp 5) rfl Z (D.map vb) rfl rfl 44 (z16n.map vb).toArray HZ2.out (by rw [List.length_map, HD16.out]; rfl) (by rw [List.length_map, HD16.out]; kernel_rfl) (vb_one _) ?_)
  refine bodyPost_ret (results_blk rfl _ Z 44 (D.map vb).toArray rfl HF.out Try.underlying44 (by rw [List.size_toArray, List.length_map, HD16.out]; kernel_rfl)) rfl ⟨rfl, Hnf.out⟩
end Go.Proofs.Ytpeibkdcglkimaa

namespace Go.Proofs.Ytpeibkdcglkimaa
open Go.ChangeShapes Go.WideShapes Go.ChangeAt Go.RowKit Fld Aes Gcm
set_option linter.unusedSimpArgs false

theorem own_ne {w : World} {base S : Nat} {e t : TypeId} {size n : Nat} {v : Value} {xs : List Value} {cs : Array Value} (h : w.ownsRow base e size v n xs) (hS : Blk w S t cs) (ht : t ≠ e) : v.ownBlock ≠ some S := by
  rcases h.2 with ⟨rfl, _⟩ | ⟨g, cap, cur, rfl, _, hg, _⟩
  · intro e; cases e
  · intro e
    injection e with e
    exact Blk.apart hg hS (Ne.symm ht) e
theorem OwnB.off {w w' : World} {base S : Nat} {e t : TypeId} {v : Value} {xs : List Nat} {cs : Array Value} (h : OwnB w base e v xs) (hS : Blk w S t cs) (ht : t ≠ e) (hg : w.grownBy w' (some S)) : OwnB w' base e v xs :=
  ⟨h.1.kept hg (.inr (own_ne h.1 hS ht)), h.2⟩
/-- One byte more; only the row itself turns. -/
theorem wpList_byte_own {ops : Array Oper} {rest : List Oper} {o : Oper} {a : Act} {Q : Exit → Act → World → Prop} (hgd : o.guard = none) (s x : Operand)
    (ho : o.op = .call { callee := .builtin .append, args := #[s, x], argTypes := #[22, 22] }) {w : World} {base : Nat} {v : Value} {xs : List Nat} (hown : OwnB w base 5 v xs) (hb : base ≤ w.heap.size) (hl : xs.length < 140737488355328)
    (y : Int) (n : Nat) (hn : n < 256) (hy : y = (n : Int)) (hs : a.eval s = v) (hx : a.eval x = .slice (some ⟨w.heap.size, 0, none⟩) 1 1)
    (h : ∀ v' w', OwnB w' base 5 v' (xs ++ [n]) → (w.alloc (.cells #[.int .u8 y] 5)).grownBy w' v.ownBlock → wpList Try.prog ops Q rest (a.put o.dst v') w') : wpList Try.prog ops Q (o :: rest) a (w.alloc (.cells #[.int .u8 y] 5)) := by
  subst hy
  obtain ⟨i0, hi, hz0, hz1, hz2⟩ := info_parts info_u8
  have hal := nu_alloc (nu_refl w) (.cells #[.int .u8 (n : Int)] 5)
  refine wpList_append_own _ hgd s x 22 ho base 5 i0 (.int .u8 0) 1 1 Try.underlying22 hi hz0 hz1 hz2 rfl (by decide) v xs.length (xs.map vb) hs (ownB_under hown hal).1 ⟨w.heap.size, 0, none⟩ 1 1 [.int .u8 (n : Int)] hx rfl (cell_one_new _ _ _)
    (by intro u hu; obtain rfl := List.mem_singleton.1 hu; rfl) (by unfold maxLen; omega) (by omega) (by simp; omega) ?_
  intro v' w' h1 h2 _
  refine h v' w' ⟨by rw [List.length_append, List.map_append]; exact h1, fun z hz => ?_⟩ h2
  rcases List.mem_append.1 hz with hz | hz
  · exact hown.2 z hz
  · simp at hz
    omega
theorem e12_load {o : Oper} {a : Act} {w : World} {g : Nat} {t : TypeId} {xs : List Nat} (hb : Blk w g t (xs.map vb).toArray) (h1 : xs.length = 12) (x : Operand) (ho : o.op = .load 23 x) (hx : a.eval x = .pointer (some ⟨g, 0, none⟩)) :
    (execOp a.eval o).run Try.prog w = .ok (.value (.agg (xs.map vb).toArray)) w :=
  exec_load_mid (P := Try.prog) (w := w) 23 x g 0 (xs.map vb) (.array 12 5) ho hx (range_blk hb) (by kernel_rfl) rfl (by rw [List.length_map, h1]; kernel_rfl)

set_option maxRecDepth 100000 in
set_option maxHeartbeats 8000000 in
theorem turned_any {w : World} {X R h : Nat} {Ws : List Nat} (hG : GBox w X Ws R h) (hK : Keyed Ws R) (nonce : List Nat) (h12 : nonce.length = 12) (hx12 : ∀ x ∈ nonce, x < 256) (a : Option Addr) (len cap : Nat) (xs : List Nat) (hx : BytesIn w a len cap xs) (hlen : len ≤ 2000) :
    Calls Try.prog 28 #[.pointer (some ⟨X, 0, none⟩), .agg (nonce.map vb).toArray, .slice a len cap] w fun e w' => ∃ v, e = .returned v ∧ OwnB w' w.heap.size 5 v (turned Ws R nonce xs) ∧ Below w.heap.size w w' := by
  obtain ⟨Zz, hZz, hmk⟩ := mk_bytes 0 (len + 16) 0 ((len : Int) + 16) rfl (by omega) (by omega) (by omega)
  have Hl := Lib.hid (show xs.length = len from hx.1.1)
  have Hxx := Lib.hid (fun x h => wf_u8_lt (hx.1.2.1 x h))
  have Hx := Lib.hid hx
  have HG := Lib.hid hG
  have HK := Lib.hid hK
  have H12 := Lib.hid h12
  have Hx12 := Lib.hid hx12
  have hal1 := nu_alloc (nu_refl w) (.cells (nonce.map vb).toArray 23)
  have hP1 := Blk.made w 23 (nonce.map vb).toArray
  have HO := Lib.hid (World.ownsRow_made (base := w.heap.size + 1) (e := 5) (size := 1) (w.alloc (.cells (nonce.map vb).toArray 23)) Zz.toArray (len + 16) (by simp) (by unfold maxLen; omega) (by simpa using hZz))
  have hsz : (w.alloc (.cells (nonce.map vb).toArray 23)).heap.size = w.heap.size + 1 := by simp
  rw [hsz] at HO
  have hal := nu_alloc (nu_alloc hal1 (.cells Zz.toArray 5)) (.cells (z16n.map vb).toArray 44)
  have HP := Lib.hid ((hP1.alloc (.cells Zz.toArray 5)).alloc (.cells (z16n.map vb).toArray 44))
  have HS := Lib.hid (Blk.made2 w (.cells (nonce.map vb).toArray 23) (.cells Zz.toArray 5) 44 (z16n.map vb).toArray)
  have HO2 := Lib.hid (show OwnB (((w.alloc (.cells (nonce.map vb).toArray 23)).alloc (.cells Zz.toArray 5)).alloc (.cells (z16n.map vb).toArray 44)) (w.heap.size + 1) 5 (.slice (some ⟨w.heap.size + 1, 0, none⟩) 0 (len + 16)) (trn Ws R nonce xs 0) from ⟨HO.out.alloc _, fun x hx => by cases hx⟩)
  have hbs : w.heap.size + 1 ≤ (((w.alloc (.cells (nonce.map vb).toArray 23)).alloc (.cells Zz.toArray 5)).alloc (.cells (z16n.map vb).toArray 44)).heap.size := by simp
  clear hx hG hK h12 hx12 hZz hal1 hP1 HO hsz
  go_enter Try.func28, Try.ntmps28
  go_upto_region 3 with fail
  change Code.wp _ _ _ _ (((w.alloc (.cells (nonce.map vb).toArray 23)).alloc (.cells Zz.toArray 5)).alloc (.cells (z16n.map vb).toArray 44))
  clear hmk
  generalize ((w.alloc (.cells (nonce.map vb).toArray 23)).alloc (.cells Zz.toArray 5)).alloc (.cells (z16n.map vb).toArray 44) = w1 at *
  obtain ⟨S, hS⟩ : ∃ S, S = w.heap.size + 1 + 1 := ⟨_, rfl⟩
  obtain ⟨B0, hB0⟩ : ∃ B0, B0 = w.heap.size + 1 := ⟨_, rfl⟩
  obtain ⟨P, hP⟩ : ∃ P, P = w.heap.size := ⟨_, rfl⟩
  rw [← hS] at HS
  rw [← hB0] at HO2 hbs
  rw [← hP] at HP
  rw [← hS, ← hB0, ← hP]
  have Hap := Lib.hid (show P ≠ S ∧ w.heap.size ≤ S ∧ P < B0 ∧ w.heap.size ≤ B0 from ⟨by omega, by omega, by omega, by omega⟩)
  have Hbs := Lib.hid hbs
  clear hS hB0 hP hbs
  go_wp2_with fail
  go_loopw [7, 17] (fun s7 i wr => ∃ (k : Nat) (sl : List Nat) (v : Value), k ≤ len ∧ i = .int .i64 k ∧ v = s7 ∧ OwnB wr B0 5 v (trn Ws R nonce xs k) ∧ Blk wr S 44 (sl.map vb).toArray ∧ sl.length = 16 ∧ (k % 16 ≠ 0 → sl = ctr Ws R nonce (k / 16 + 2)) ∧ Blk wr P 23 (nonce.map vb).toArray ∧ Below w.heap.size w wr ∧ B0 ≤ wr.heap.size) (fun _ i _ => len - (intOf i).toNat)
  case atStart => exact ⟨0, z16n, _, by omega, rfl, rfl, HO2.out, HS.out, rfl, fun h => absurd rfl h, HP.out, hal, Hbs.out⟩
  case round =>
    clear HO2 HS HP hal Hbs
    obtain ⟨k, sl, v, hk, rfl, rfl, hO, hS, hsl, hse, hP, hn, hbs⟩ := hrel
    by_cases hlt : k < len
    · have hki : (k : Int) < (len : Int) := by omega
      obtain ⟨b1, o1, x, ha, _, hxk, _, hcx⟩ := (Hx.out.keep hn).1.elem k hlt
      subst ha
      have hx8 : x < 256 := Hxx.out x (List.mem_of_getElem? hxk)
      obtain ⟨q, hq⟩ : ∃ q, q = k / 16 := ⟨_, rfl⟩
      obtain ⟨r, hr⟩ : ∃ r, r = k % 16 := ⟨_, rfl⟩
      have ek : (k : Int) / 16 = (q : Int) := by omega
      have em : (k : Int) % 16 = (r : Int) := by omega
      have etq : Int.tdiv (k : Int) 16 = (q : Int) := by rw [Int.tdiv_eq_ediv_of_nonneg (by omega)]; omega
      have etr : Int.tmod (k : Int) 16 = (r : Int) := by rw [Int.tmod_eq_emod_of_nonneg (by omega)]; omega
      have wq : IntKind.i64.wrap (q : Int) = (q : Int) := by rw [IntKind.wrap_i64]; omega
      have wqu : IntKind.u32.wrap (q : Int) = (q : Int) := by rw [IntKind.wrap_u32]; omega
      obtain ⟨q2, hq2⟩ : ∃ q2, q2 = q + 2 := ⟨_, rfl⟩
      have wq2 : IntKind.u32.wrap ((q : Int) + 2) = (q2 : Int) := by rw [IntKind.wrap_u32]; omega
      have hq232 : q2 < 4294967296 := by omega
      have hri : (r : Int) < 16 := by omega
      obtain ⟨D, hD⟩ : ∃ D, D = ctr Ws R nonce q2 := ⟨_, rfl⟩
      have HD := Lib.hid (show St16 D by rw [hD]; exact ctr_st _ _ _ _)
      have HDe := Lib.hid (show D = ctr Ws R nonce (k / 16 + 2) by rw [hD, hq2, hq])
      have Hkq := Lib.hid (show 16 * q + r = k by omega)
      have Hq2 := Lib.hid (show k / 16 + 2 = q2 by omega)
      have HO := Lib.hid hO
      have HS := Lib.hid hS
      have HP := Lib.hid hP
      have Hsl := Lib.hid hsl
      have Hse := Lib.hid hse
      have Hbs := Lib.hid hbs
      have Hxk := Lib.hid hxk
      have HGr := Lib.hid (HG.out.below hn)
      clear hO hS hP hsl hse hbs hxk hq hq2 hr hD
      go_upto_if 24 with fail
      clear hcx
      go_cut [7] (fun s7 wx => s7 = v ∧ OwnB wx B0 5 v (trn Ws R nonce xs k) ∧ Blk wx S 44 (D.map vb).toArray ∧ Blk wx P 23 (nonce.map vb).toArray ∧ Below w.heap.size w wx ∧ B0 ≤ wx.heap.size)
      case first =>
        by_cases hr0 : r = 0
        · have hb : ((r : Int) == 0) = true := by rw [hr0]; rfl
          have hCt := counter_any HGr.out HK.out nonce H12.out Hx12.out q2 hq232
          have HCt := Lib.hid (show Calls Try.prog 48 #[.pointer (some ⟨X, 0, none⟩), .agg (nonce.map vb).toArray, .int .u32 (q2 : Int)] wr fun e w' => e = .returned (.agg (D.map vb).toArray) ∧ Below wr.heap.size wr w' from by
            rw [HDe.out, Hq2.out]
            exact hCt)
          clear hCt hr0
          obtain ⟨wo, rfl⟩ : ∃ q : World, q = wr := ⟨_, rfl⟩
          go_wp2_with (refine wpList_run _ (by rfl) (e12_load HP.out H12.out (.tmp 4) rfl rfl) ?_)
          refine HCt.out.mono ?_
          rintro e w3 ⟨rfl, hb3⟩
          have HS3 := Lib.hid (HS.out.below hb3 HS.out.lt)
          have HSf := Lib.hid (Blk.fill HS3.out (D.map vb) (by rw [List.length_map, HD.out.1, List.size_toArray, List.length_map, Hsl.out]))
          have HOf := Lib.hid ((ownB_under HO.out hb3).off HS3.out (by decide) (gb_fill (D.map vb) 0 w3 (gb_refl w3 (some S))))
          have HPf := Lib.hid ((HP.out.below hb3 HP.out.lt).farCells (D.map vb) Hap.out.1 0)
          have Hnf := Lib.hid (nu_fill (D.map vb) (g := S) Hap.out.2.1 0 _ (nu_trans hn hb3))
          have Hbf := Lib.hid (show B0 ≤ (w3.setCells S 0 (D.map vb)).heap.size from Nat.le_trans Hbs.out (Nat.le_trans hb3.size (gb_fill (D.map vb) 0 w3 (gb_refl w3 (some S))).size))
          clear hb3 hn HO HS HP
          go_wp2_with (refine wpList_store_blk rfl 44 (.tmp 8) (.tmp 31) rfl S (D.map vb) rfl rfl 44 (sl.map vb).toArray HS3.out (by rw [List.length_map, HD.out.1, List.size_toArray, List.length_map, Hsl.out]) (by rw [List.length_map, HD.out.1]; kernel_rfl) (vb_one _) ?_)
          go_meet
          exact ⟨rfl, HOf.out, HSf.out, HPf.out, Hnf.out, Hbf.out⟩
        · have hb : ((r : Int) == 0) = false := by rw [beq_eq_false_iff_ne]; omega
          have Hsd := Lib.hid (show sl = D by rw [HDe.out]; exact Hse.out (by have := Hkq.out; omega))
          clear hr0
          go_wp2_with fail
          go_meet
          exact ⟨rfl, HO.out, by rw [← Hsd.out]; exact HS.out, HP.out, hn, Hbs.out⟩
      case rest =>
        obtain ⟨rfl, hO, hS, hP, hn2, hbs⟩ := hcut
        clear HO HS HP Hbs HGr Hse hn
        have HO := Lib.hid hO
        have HP := Lib.hid hP
        have Hbs := Lib.hid hbs
        obtain ⟨c, hc⟩ : ∃ c, c = D.getD r 0 := ⟨_, rfl⟩
        have hc8 : c < 256 := by rw [hc]; exact HD.out.getD r
        have hcr : D[r]? = some c := by rw [hc, List.getD_eq_getElem?_getD, List.getElem?_eq_getElem (by rw [HD.out.1]; omega)]; rfl
        have cS : wc.cell? ⟨S, r, none⟩ = some (.int .u8 (c : Int)) := hS.at r _ (arrg_at vb _ r c hcr)
        obtain ⟨z, hz⟩ : ∃ z, z = x ^^^ c := ⟨_, rfl⟩
        have hxx := u8_xor_nat x c hx8 hc8
        rw [← hz] at hxx
        have hz8 : z < 256 := by rw [hz]; exact xor_lt8 hx8 hc8
        have Hnx := Lib.hid (show trn Ws R nonce xs (k + 1) = trn Ws R nonce xs k ++ [z] by
          rw [trn, ← HDe.out, show k % 16 = r by have := Hkq.out; omega, ← hc, List.getD_eq_getElem?_getD, Hxk.out, hz]
          rfl)
        have Hln := Lib.hid (show (trn Ws R nonce xs k).length < 140737488355328 by rw [trn_len]; omega)
        have HS := Lib.hid hS
        have Hz8 := Lib.hid hz8
        clear hO hS hP hbs hc hc8 hcr hz hz8
        obtain ⟨wo, rfl⟩ : ∃ q : World, q = wc := ⟨_, rfl⟩
        go_wp2_with (at_builtin; refine wpList_byte_own rfl (.tmp 32) (.tmp 39) rfl HO.out Hbs.out Hln.out _ z Hz8.out (by first | rfl | assumption) rfl rfl ?_)
        intro v' w5 hown5 hg5
        have hal := nu_alloc (nu_refl wo) (.cells #[.int .u8 (z : Int)] 5)
        have HS5 := Lib.hid ((HS.out.below hal HS.out.lt).grown hg5 (fun e => own_ne HO.out.1 HS.out (by decide) e.symm))
        have HP5 := Lib.hid ((HP.out.below hal HP.out.lt).grown hg5 (fun e => own_ne HO.out.1 HP.out (by decide) e.symm))
        have HO5 := Lib.hid (show OwnB w5 B0 5 v' (trn Ws R nonce xs (k + 1)) by rw [Hnx.out]; exact hown5)
        have Hn5 := Lib.hid (show Below w.heap.size w w5 from (nu_trans hn2 hal).grown hg5 (Nat.le_trans Hap.out.2.2.2 (Nat.le_trans Hbs.out hal.size)) (fun j hj => Nat.le_trans Hap.out.2.2.2 (HO.out.1.lt j hj).1))
        have Hb5 := Lib.hid (show B0 ≤ w5.heap.size from Nat.le_trans Hbs.out (Nat.le_trans hal.size hg5.size))
        have Hs5 := Lib.hid (show (k + 1) % 16 ≠ 0 → D = ctr Ws R nonce ((k + 1) / 16 + 2) from fun h => by rw [HDe.out, show (k + 1) / 16 = k / 16 by omega])
        clear hown5 hg5 hal HO HS HP Hbs hn2 cS hxx
        go_wp2_with fail
        go_roundw
        case rel => first | exact ⟨k + 1, D, _, by omega, by go_num, rfl, HO5.out, HS5.out, HD.out.1, Hs5.out, HP5.out, Hn5.out, Hb5.out⟩ | ((repeat apply Exists.intro); exact ⟨⟨k + 1, D, _, by omega, by go_num, rfl, HO5.out, HS5.out, HD.out.1, Hs5.out, HP5.out, Hn5.out, Hb5.out⟩, rfl⟩)
        case measure => simp [intOf]; omega
    · obtain rfl : k = len := by omega
      have HF := Lib.hid (show OwnB wr w.heap.size 5 v (turned Ws R nonce xs) by
        rw [turned, Hl.out]
        exact own_mono hO Hap.out.2.2.2)
      clear hO hS hse hP hsl
      go_wp2_with fail
      go_ret
      exact ⟨_, rfl, HF.out, hn⟩
end Go.Proofs.Ytpeibkdcglkimaa

namespace Go.Proofs.Ytpeibkdcglkimaa
open Go.ChangeShapes Go.WideShapes Go.ChangeAt Go.RowKit Fld Aes Gcm
set_option linter.unusedSimpArgs false

theorem ownB_slice {w : World} {base : Nat} {e : TypeId} {v : Value} {xs : List Nat} (h : OwnB w base e v xs) (hp : 0 < xs.length) :
    ∃ G pc, v = .slice (some ⟨G, 0, none⟩) xs.length pc ∧ base ≤ G ∧ G < w.heap.size ∧ xs.length ≤ pc := by
  obtain ⟨k, cap, cur, h1, h2, h3, h4, _⟩ := h.form hp
  exact ⟨k, cap, h1, h2, h3.lt, h4⟩
theorem OwnB.cellAt {w : World} {base G l cap : Nat} {e : TypeId} {xs : List Nat} (h : OwnB w base e (.slice (some ⟨G, 0, none⟩) l cap) xs) (hl : xs.length = l) (j x : Nat) (hx : xs[j]? = some x) : w.cell? ⟨G, j, none⟩ = some (.int .u8 (x : Int)) := by
  subst hl
  rw [h.1.cellAt j (by rw [Nat.mul_one]; exact (List.getElem?_eq_some_iff.1 hx).1), List.getElem?_map, hx]
  rfl
theorem OwnB.frozenAt {w : World} {base G l cap : Nat} {e : TypeId} {xs : List Nat} (h : OwnB w base e (.slice (some ⟨G, 0, none⟩) l cap) xs) (hl : xs.length = l) (j : Nat) : w.frozen? ⟨G, j, none⟩ = false := by
  subst hl
  exact h.1.frozenAt j
theorem OwnB.stored {w : World} {base G l cap : Nat} {e : TypeId} {xs : List Nat} (h : OwnB w base e (.slice (some ⟨G, 0, none⟩) l cap) xs) (hl : xs.length = l) (j z : Nat) (hz : z < 256) : OwnB (w.setCell ⟨G, j, none⟩ (vb z)) base e (.slice (some ⟨G, 0, none⟩) l cap) (xs.set j z) := by
  subst hl
  have h1 := (h.1.stored j (vb z)).1
  refine ⟨by rw [List.length_set, List.map_set]; exact h1, fun x hx => ?_⟩
  rcases List.mem_or_eq_of_mem_set hx with hx | hx
  · exact h.2 x hx
  · rw [hx]; exact hz

set_option maxRecDepth 100000 in
set_option maxHeartbeats 8000000 in
theorem refTurned_any {w : World} {v : Value} {W : List Nat} {R : Nat} (hv : RowsAt w v W) (hK : Keyed W R) (nonce : List Nat) (h12 : nonce.length = 12) (hx12 : ∀ x ∈ nonce, x < 256) (a : Option Addr) (len cap : Nat) (xs : List Nat) (hx : BytesIn w a len cap xs) (hlen : len ≤ 2000) :
    Calls Try.prog 30 #[.agg (rkeyL v).toArray, .agg (nonce.map vb).toArray, .slice a len cap] w fun e w' => ∃ u, e = .returned u ∧ OwnB w' w.heap.size 5 u (turned W R nonce xs) ∧ Below w.heap.size w w' := by
  obtain ⟨L, hL⟩ : ∃ L, L = rkeyL v := ⟨_, rfl⟩
  have HL := Lib.hid hL
  have HLl := Lib.hid (show L.length = 513 by rw [hL]; exact rkeyL_len _)
  rw [← hL]
  have HV := Lib.hid hv
  have HK := Lib.hid hK
  have H12 := Lib.hid h12
  have Hx12 := Lib.hid hx12
  have Hl := Lib.hid (show xs.length = len from hx.1.1)
  have Hxx := Lib.hid (fun x h => wf_u8_lt (hx.1.2.1 x h))
  have hal := nu_alloc (nu_alloc (nu_refl w) (.cells L.toArray 31)) (.cells (nonce.map vb).toArray 23)
  have HKb := Lib.hid ((Blk.made w 31 L.toArray).alloc (.cells (nonce.map vb).toArray 23))
  have HP := Lib.hid (Blk.made1 w (.cells L.toArray 31) 23 (nonce.map vb).toArray)
  have HX1 := Lib.hid (hx.keep hal)
  have Hal := Lib.hid hal
  obtain ⟨T, hT⟩ : ∃ T, T = turned W R nonce xs := ⟨_, rfl⟩
  have HTl := Lib.hid (show T.length = len by rw [hT, turned_len]; exact Hl.out)
  have HTe := Lib.hid hT
  rw [← hT]
  clear hv hK h12 hx12 hx hL hal hT
  go_enter Try.func30, Try.ntmps30
  go_upto_region 1 with fail
  change Code.wp _ _ _ _ ((w.alloc (.cells L.toArray 31)).alloc (.cells (nonce.map vb).toArray 23))
  generalize (w.alloc (.cells L.toArray 31)).alloc (.cells (nonce.map vb).toArray 23) = w1 at *
  obtain ⟨P, hP⟩ : ∃ P, P = w.heap.size + 1 := ⟨_, rfl⟩
  obtain ⟨K, hKe⟩ : ∃ K, K = w.heap.size := ⟨_, rfl⟩
  rw [← hP] at HP
  rw [← hKe] at HKb
  rw [← hP, ← hKe]
  clear hP hKe
  have HCp := Lib.hid (copy_any a len cap xs w1 HX1.out (by omega))
  go_wp2_with fail
  refine HCp.out.mono ?_
  rintro e w2 ⟨u, rfl, hO, hb2⟩
  have hsz : w.heap.size ≤ w1.heap.size := Hal.out.size
  have HO := Lib.hid (show OwnB w2 w1.heap.size 5 u (doneF T xs 0) by rw [doneF_zero]; exact hO)
  have HKb2 := Lib.hid (HKb.out.below hb2 HKb.out.lt)
  have HP2 := Lib.hid (HP.out.below hb2 HP.out.lt)
  have Hn2 := Lib.hid (nu_trans Hal.out hb2)
  have Hlow := Lib.hid (show K < w1.heap.size ∧ P < w1.heap.size from ⟨HKb.out.lt, HP.out.lt⟩)
  have Hsz := Lib.hid hsz
  clear hO hb2 HCp HKb HP HX1 Hal hsz
  obtain ⟨B0, hB0⟩ : ∃ B0, B0 = w1.heap.size := ⟨_, rfl⟩
  rw [← hB0] at HO Hlow Hsz
  clear hB0
  go_wp2_with fail
  go_loopw [8] (fun i wr => ∃ q I : Nat, 16 * q = I ∧ I ≤ 2016 ∧ i = .int .i64 I ∧ OwnB wr B0 5 u (doneF T xs (min I len)) ∧ Blk wr K 31 L.toArray ∧ Blk wr P 23 (nonce.map vb).toArray ∧ Below w.heap.size w wr) (fun i _ => 2100 - (intOf i).toNat)
  case atStart => exact ⟨0, 0, rfl, by omega, rfl, by rw [Nat.zero_min]; exact HO.out, HKb2.out, HP2.out, Hn2.out⟩
  case round =>
    clear HO HKb2 HP2 Hn2
    obtain ⟨q, I, hqI, hI, rfl, hO, hKb, hP, hn⟩ := hrel
    by_cases hlt : I < len
    · have hki : (I : Int) < (len : Int) := by omega
      rw [Nat.min_eq_left (by omega)] at hO
      have hdl : (doneF T xs I).length = len := doneF_len T xs len I HTl.out Hl.out (by omega)
      obtain ⟨G, pc, rfl, hG, hGl, hpc⟩ := ownB_slice hO (by rw [hdl]; omega)
      rw [hdl] at hO hpc
      rw [hdl]
      have ek : (I : Int) / 16 = (q : Int) := by omega
      have etq : Int.tdiv (I : Int) 16 = (q : Int) := by rw [Int.tdiv_eq_ediv_of_nonneg (by omega)]; omega
      have wq : IntKind.i64.wrap (q : Int) = (q : Int) := by rw [IntKind.wrap_i64]; omega
      obtain ⟨q2, hq2⟩ : ∃ q2, q2 = q + 2 := ⟨_, rfl⟩
      have eq2 : (q : Int) + 2 = (q2 : Int) := by omega
      have wq2 : IntKind.i64.wrap (q2 : Int) = (q2 : Int) := by rw [IntKind.wrap_i64]; omega
      obtain ⟨D, hD⟩ : ∃ D, D = ctr W R nonce q2 := ⟨_, rfl⟩
      have HD := Lib.hid (show St16 D by rw [hD]; exact ctr_st _ _ _ _)
      have HDe := Lib.hid (show ∀ j, j < 16 → D = ctr W R nonce ((I + j) / 16 + 2) from fun j hj => by rw [hD, hq2, show (I + j) / 16 = q by omega])
      have Hct := Lib.hid (show Calls Try.prog 50 #[.agg L.toArray, .agg (nonce.map vb).toArray, .int .i64 (q2 : Int)] wr fun e w' => e = .returned (.agg (D.map vb).toArray) ∧ Below wr.heap.size wr w' from by
        rw [HL.out, hD]
        exact refCounter_any (HV.out.below hn) HK.out nonce H12.out Hx12.out q2 (by omega))
      have HG := Lib.hid (show B0 ≤ G ∧ G < wr.heap.size ∧ w.heap.size ≤ G from ⟨hG, hGl, Nat.le_trans Hsz.out hG⟩)
      have HO := Lib.hid hO
      have HKb := Lib.hid hKb
      have HP := Lib.hid hP
      have Hn := Lib.hid hn
      have HqI := Lib.hid hqI
      clear hO hKb hP hn hG hGl hdl hq2 hD hqI
      go_wp2_with (first | (refine wpList_run _ (by rfl) (eKey_load HKb.out HLl.out (.tmp 3) rfl rfl) ?_) | (refine wpList_run _ (by rfl) (e12_load HP.out H12.out (.tmp 4) rfl rfl) ?_))
      refine Hct.out.mono ?_
      rintro e w3 ⟨rfl, hb3⟩
      have hal := nu_alloc (nu_refl w3) (.cells (z16n.map vb).toArray 44)
      have HSm := Lib.hid (Blk.made w3 44 (z16n.map vb).toArray)
      have HSf := Lib.hid (Blk.fill HSm.out (D.map vb) (by rw [List.length_map, HD.out.1]; rfl))
      have hfl := nu_fill (D.map vb) (g := w3.heap.size) (Nat.le_refl _) 0 _ hal
      have h33 := nu_trans hb3 hfl
      have HO4 := Lib.hid (ownB_under HO.out h33)
      have HK4 := Lib.hid (HKb.out.below h33 HKb.out.lt)
      have HP4 := Lib.hid (HP.out.below h33 HP.out.lt)
      have Hn4 := Lib.hid (nu_trans Hn.out h33)
      have HSne := Lib.hid (show w3.heap.size ≠ G from by have := HG.out; have := hb3.size; omega)
      clear hal hfl h33 hb3 HO HKb HP Hn Hct
      go_upto_region 6 with (refine wpList_store_blk rfl 44 (.tmp 9) (.tmp 24) rfl w3.heap.size (D.map vb) rfl rfl 44 (z16n.map vb).toArray HSm.out (by rw [List.length_map, HD.out.1]; rfl) (by rw [List.length_map, HD.out.1]; kernel_rfl) (vb_one _) ?_)
      change Code.wp _ _ _ _ ((w3.alloc (.cells (z16n.map vb).toArray 44)).setCells w3.heap.size 0 (D.map vb))
      clear HSm
      generalize (w3.alloc (.cells (z16n.map vb).toArray 44)).setCells w3.heap.size 0 (D.map vb) = w4 at *
      obtain ⟨S, hS⟩ : ∃ S, S = w3.heap.size := ⟨_, rfl⟩
      rw [← hS] at HSf HSne
      rw [← hS]
      clear hS
      go_wp2_with fail
      go_loopw [10] (fun j wr => ∃ J : Nat, J ≤ 16 ∧ I + J ≤ len ∧ j = .int .i64 J ∧ OwnB wr B0 5 (.slice (some ⟨G, 0, none⟩) len pc) (doneF T xs (I + J)) ∧ Blk wr S 44 (D.map vb).toArray ∧ Blk wr K 31 L.toArray ∧ Blk wr P 23 (nonce.map vb).toArray ∧ Below w.heap.size w wr) (fun j _ => 16 - (intOf j).toNat)
      case atStart => exact ⟨0, by omega, by omega, rfl, HO4.out, HSf.out, HK4.out, HP4.out, Hn4.out⟩
      case round =>
        clear HO4 HSf HK4 HP4 Hn4
        obtain ⟨J, hJ, hIJ, rfl, hO, hS, hKb, hP, hn⟩ := hrel
        obtain ⟨X, hX⟩ : ∃ X, X = I + J := ⟨_, rfl⟩
        have eX : (I : Int) + (J : Int) = (X : Int) := by omega
        have wX : IntKind.i64.wrap (X : Int) = (X : Int) := by rw [IntKind.wrap_i64]; omega
        have HX := Lib.hid hX
        rw [← hX] at hO
        by_cases hJ16 : J < 16
        · have hJi : (J : Int) < 16 := by omega
          by_cases hXl : X < len
          · have hXi : (X : Int) < (len : Int) := by omega
            obtain ⟨x, hx⟩ : ∃ x, xs[X]? = some x := ⟨_, List.getElem?_eq_getElem (by rw [Hl.out]; exact hXl)⟩
            have hx8 := Hxx.out x (List.mem_of_getElem? hx)
            obtain ⟨c, hc⟩ : ∃ c, c = D.getD J 0 := ⟨_, rfl⟩
            have hc8 : c < 256 := by rw [hc]; exact HD.out.getD J
            have hcr : D[J]? = some c := by rw [hc, List.getD_eq_getElem?_getD, List.getElem?_eq_getElem (by rw [HD.out.1]; omega)]; rfl
            obtain ⟨z, hz⟩ : ∃ z, z = x ^^^ c := ⟨_, rfl⟩
            have hxx := u8_xor_nat x c hx8 hc8
            rw [← hz] at hxx
            have hz8 : z < 256 := by rw [hz]; exact xor_lt8 hx8 hc8
            have hT : T[X]? = some z := by
              rw [HTe.out, turned_at W R nonce xs X (by rw [Hl.out]; exact hXl), hz, List.getD_eq_getElem?_getD, hx, hc, HDe.out J hJ16, ← hX, show X % 16 = J by have := HqI.out; omega]
              rfl
            have hold : (doneF T xs X)[X]? = some x := by rw [doneF_old _ _ len X X HTl.out (Nat.le_refl _) (by omega)]; exact hx
            have hdl : (doneF T xs X).length = len := doneF_len T xs len X HTl.out Hl.out (by omega)
            have hset := hO.stored hdl X z hz8
            rw [doneF_set T xs len X z HTl.out Hl.out hXl hT] at hset
            have cG : wr.cell? ⟨G, X, none⟩ = some (.int .u8 (x : Int)) := hO.cellAt hdl X x hold
            have cS : wr.cell? ⟨S, J, none⟩ = some (.int .u8 (c : Int)) := hS.at J _ (arrg_at vb _ J c hcr)
            clear hset
            have hOd := ownB_under hO (nu_drew (nu_refl wr))
            have hset := hOd.stored hdl X z hz8
            rw [doneF_set T xs len X z HTl.out Hl.out hXl hT] at hset
            have HO1 := Lib.hid hset
            have HS1 := Lib.hid (hS.drew.far (p := ⟨G, X, none⟩) HSne.out (vb z))
            have HK1 := Lib.hid (hKb.drew.far (p := ⟨G, X, none⟩) (Nat.ne_of_lt (Nat.lt_of_lt_of_le Hlow.out.1 HG.out.1)) (vb z))
            have HP1 := Lib.hid (hP.drew.far (p := ⟨G, X, none⟩) (Nat.ne_of_lt (Nat.lt_of_lt_of_le Hlow.out.2 HG.out.1)) (vb z))
            have hn1 := nu_set hn.drew (p := ⟨G, X, none⟩) HG.out.2.2 (vb z)
            have HF := Lib.hid (And.intro (hOd.cellAt hdl X x hold) (hOd.frozenAt hdl X))
            simp only [vb] at HO1 HS1 HK1 HP1 hn1
            clear hO hS hKb hP hn hx hx8 hc hc8 hcr hz hz8 hT hold hdl hset hOd hX hIJ
            go_upto_region 9 with fail
            go_still_tail 15, (by kernel_rfl)
            change wpList _ _ _ _ _ wr.drew
            clear cG cS hxx
            obtain ⟨cA2, fA2⟩ := HF.out
            clear HF
            generalize wr.drew = w6 at *
            go_wp2_with fail
            clear cA2 fA2
            generalize w6.setCell ⟨G, X, none⟩ (.int .u8 (z : Int)) = w7 at *
            go_roundw
            case rel => first | exact ⟨J + 1, by omega, by have := HX.out; omega, by go_num, by rw [show I + (J + 1) = X + 1 by have := HX.out; omega]; exact HO1.out, HS1.out, HK1.out, HP1.out, hn1⟩ | ((repeat apply Exists.intro); exact ⟨⟨J + 1, by omega, by have := HX.out; omega, by go_num, by rw [show I + (J + 1) = X + 1 by have := HX.out; omega]; exact HO1.out, HS1.out, HK1.out, HP1.out, hn1⟩, rfl⟩)
            case measure => simp [intOf]; omega
          · have hXi : ¬ (X : Int) < (len : Int) := by omega
            have HO1 := Lib.hid (show OwnB wr B0 5 (.slice (some ⟨G, 0, none⟩) len pc) (doneF T xs (min (I + 16) len)) by rw [show min (I + 16) len = X by omega]; exact hO)
            have HR := Lib.hid (And.intro hKb (And.intro hP hn))
            clear hO hS hKb hP hn hX hIJ
            go_wp2_with fail
            go_roundw
            case rel => first | exact ⟨q + 1, I + 16, by have := HqI.out; omega, by omega, by go_num, HO1.out, HR.out.1, HR.out.2.1, HR.out.2.2⟩ | ((repeat apply Exists.intro); exact ⟨⟨q + 1, I + 16, by have := HqI.out; omega, by omega, by go_num, HO1.out, HR.out.1, HR.out.2.1, HR.out.2.2⟩, rfl⟩)
            case measure => simp [intOf]; omega
        · have hJi : ¬ (J : Int) < 16 := by omega
          have HO1 := Lib.hid (show OwnB wr B0 5 (.slice (some ⟨G, 0, none⟩) len pc) (doneF T xs (min (I + 16) len)) by rw [show min (I + 16) len = X by omega]; exact hO)
          have HR := Lib.hid (And.intro hKb (And.intro hP hn))
          clear hO hS hKb hP hn hX hIJ
          go_wp2_with fail
          go_roundw
          case rel => first | exact ⟨q + 1, I + 16, by have := HqI.out; omega, by omega, by go_num, HO1.out, HR.out.1, HR.out.2.1, HR.out.2.2⟩ | ((repeat apply Exists.intro); exact ⟨⟨q + 1, I + 16, by have := HqI.out; omega, by omega, by go_num, HO1.out, HR.out.1, HR.out.2.1, HR.out.2.2⟩, rfl⟩)
          case measure => simp [intOf]; omega
    · have hki : ¬ (I : Int) < (len : Int) := by omega
      rw [Nat.min_eq_right (by omega), doneF_all T xs len HTl.out Hl.out] at hO
      have HO1 := Lib.hid (own_mono hO Hsz.out)
      clear hO hKb hP
      go_wp2_with fail
      go_ret
      exact ⟨_, rfl, HO1.out, hn⟩
end Go.Proofs.Ytpeibkdcglkimaa

namespace Go.Proofs.Ytpeibkdcglkimaa
open Go.ChangeShapes Go.WideShapes Go.ChangeAt Go.RowKit Fld Aes Gcm
set_option linter.unusedSimpArgs false

theorem e_hash {o : Oper} {a : Act} {w : World} {g i : Nat} {v : Option Addr} (hc : w.cell? ⟨g, i, none⟩ = some (.pointer v)) (x : Operand) (ho : o.op = .load 51 x) (hx : a.eval x = .pointer (some ⟨g, i, none⟩)) :
    (execOp a.eval o).run Try.prog w = .ok (.value (.pointer v)) w := by
  unfold execOp
  simp only [ho, hx]
  go_simp
set_option maxRecDepth 100000 in
set_option maxHeartbeats 16000000 in
theorem tag_any {w : World} {X R h : Nat} {Ws : List Nat} (hG : GBox w X Ws R h) (hK : Keyed Ws R) (hh : h < 2 ^ 128) (nonce : List Nat) (h12 : nonce.length = 12) (hx12 : ∀ x ∈ nonce, x < 256) (a t : Option Addr) (la ca lt ct : Nat) (xs ys : List Nat) (hx : BytesIn w a la ca xs) (hy : BytesIn w t lt ct ys) (hla : la ≤ 140737488355320) (hlt : lt ≤ 140737488355320) (hac : la ≤ ca ∧ ca ≤ maxLen) (htc : lt ≤ ct ∧ ct ≤ maxLen) :
    Calls Try.prog 29 #[.pointer (some ⟨X, 0, none⟩), .agg (nonce.map vb).toArray, .slice a la ca, .slice t lt ct] w fun e w' => ∃ G, e = .returned (.slice (some ⟨G, 0, none⟩) 16 16) ∧ w.heap.size ≤ G ∧ Blk w' G 44 ((tagL Ws R nonce h xs ys).map vb).toArray ∧ Below w.heap.size w w' := by
  have hal := nu_alloc (nu_refl w) (.cells (nonce.map vb).toArray 23)
  have HP := Lib.hid (Blk.made w 23 (nonce.map vb).toArray)
  have HG := Lib.hid (hG.below hal)
  obtain ⟨C, g, hX, hC, hKA⟩ := hG.below hal
  have HX := Lib.hid hX
  have HXl := Lib.hid hX.lt
  have HKA := Lib.hid (show KeyAt _ g h from hKA)
  have HK := Lib.hid hK
  have Hh := Lib.hid hh
  have H12 := Lib.hid h12
  have Hx := Lib.hid (hx.keep hal)
  have Hy := Lib.hid (hy.keep hal)
  have Hla := Lib.hid hla
  have Hlt := Lib.hid hlt
  have Hac := Lib.hid hac
  have Htc := Lib.hid htc
  obtain ⟨D1, hD1⟩ : ∃ D, D = gsumB h xs ys := ⟨_, rfl⟩
  obtain ⟨D2, hD2⟩ : ∃ D, D = ctr Ws R nonce 1 := ⟨_, rfl⟩
  have HD1 := Lib.hid hD1.symm
  have HL1 := Lib.hid (show D1.length = 16 by rw [hD1]; exact (gsumB_st _ _ _).1)
  have HL2 := Lib.hid (show D2.length = 16 by rw [hD2]; exact (ctr_st _ _ _ _).1)
  have HS1 := Lib.hid (show ∀ x ∈ D1, x < 256 by rw [hD1]; exact (gsumB_st _ _ _).2)
  have HS2 := Lib.hid (show ∀ x ∈ D2, x < 256 by rw [hD2]; exact (ctr_st _ _ _ _).2)
  have HCt := Lib.hid (show ∀ u : World, GBox u X Ws R h → Calls Try.prog 48 #[.pointer (some ⟨X, 0, none⟩), .agg (nonce.map vb).toArray, .int .u32 1] u fun e w' => e = .returned (.agg (D2.map vb).toArray) ∧ Below u.heap.size u w' from fun u hu => by
    rw [hD2]
    exact counter_any hu hK nonce h12 hx12 1 (by omega))
  obtain ⟨Tg, hTg⟩ : ∃ T, T = tagL Ws R nonce h xs ys := ⟨_, rfl⟩
  have HTl := Lib.hid (show Tg.length = 16 by rw [hTg]; exact (tagL_st _ _ _ _ _ _).1)
  have HTe := Lib.hid (show Tg = xorL D1 D2 by rw [hTg, hD1, hD2]; rfl)
  have Hal := Lib.hid hal
  have HPw := Lib.hid (show w.heap.size ≤ (w.alloc (.cells (nonce.map vb).toArray 23)).heap.size by simp)
  rw [← hTg]
  clear hG hX hC hKA hK hh h12 hx12 hx hy hla hlt hac htc hD1 hD2 hTg hal
  go_enter Try.func29, Try.ntmps29
  go_upto_region 1 with fail
  generalize w.alloc (.cells (nonce.map vb).toArray 23) = w1 at *
  obtain ⟨P, hP⟩ : ∃ P, P = w.heap.size := ⟨_, rfl⟩
  rw [← hP] at HP
  rw [← hP]
  clear hP
  go_cut [9, 10] (fun s9 s10 wx => ∃ A B : Nat, s9 = .pointer (some ⟨A, 0, none⟩) ∧ s10 = .pointer (some ⟨B, 0, none⟩) ∧ Blk wx A 44 (D1.map vb).toArray ∧ Blk wx B 44 (D2.map vb).toArray ∧ A ≠ B ∧ w1.heap.size ≤ A ∧ w1.heap.size ≤ B ∧ Below w1.heap.size w1 wx)
  case first =>
    refine wp_region_held_drew (S := fun W => Below w1.heap.size w1 W) (by kernel_rfl) (nu_drew (nu_refl w1)) (fun hHeld => ?_)
    dsimp only [Array.replicate, List.replicate, List.size_toArray, List.length_cons, List.length_nil, Nat.reduceAdd] at hHeld ⊢
    have HB0 := Lib.hid hHeld
    generalize w1.drew = u0 at *
    refine take_l (i := 0) (v := ?_) rfl (by kernel_rfl) (by kernel_rfl) (by kernel_rfl) (fun _ _ _ h => h) (Or.inl ⟨by rfl, ?_⟩) (by assumption) ?_
    case refine_2 => (intro _ _; go_simp; all_goals with_reducible rfl)
    simp only [Act.put, List.setIfInBounds_toArray, List.set_cons_zero, List.set_cons_succ]
    refine take_l (i := 1) (v := ?_) rfl (by kernel_rfl) (by kernel_rfl) (by kernel_rfl) (fun _ _ _ h => h) (Or.inl ⟨by rfl, ?_⟩) (by assumption) ?_
    case refine_2 => (intro _ _; go_simp; all_goals with_reducible rfl)
    simp only [Act.put, List.setIfInBounds_toArray, List.set_cons_zero, List.set_cons_succ]
    refine take_l (i := 2) (v := ?_) rfl (by kernel_rfl) (by kernel_rfl) (by kernel_rfl) (fun _ _ _ h => h) (Or.inl ⟨by rfl, ?_⟩) (by assumption) ?_
    case refine_2 => (intro _ _; go_simp; all_goals with_reducible rfl)
    simp only [Act.put, List.setIfInBounds_toArray, List.set_cons_zero, List.set_cons_succ]
    refine take_l (i := 3) rfl (by kernel_rfl) (by kernel_rfl) (by kernel_rfl) (fun _ _ _ h => h) (Or.inl ⟨by rfl, fun W hS => e_hash ((hS.cell (p := ⟨X, 1, none⟩) HXl.out).trans (HX.out.at 1 _ rfl)) (.tmp 14) rfl rfl⟩) (by assumption) ?_
    simp only [Act.put, List.setIfInBounds_toArray, List.set_cons_zero, List.set_cons_succ]
    refine take_l (i := 4) (v := ?_) rfl (by kernel_rfl) (by kernel_rfl) (by kernel_rfl) (fun _ _ _ h => h) (Or.inl ⟨by rfl, ?_⟩) (by assumption) ?_
    case refine_2 => (intro _ _; go_simp; all_goals with_reducible rfl)
    simp only [Act.put, List.setIfInBounds_toArray, List.set_cons_zero, List.set_cons_succ]
    refine take_l (i := 5) (v := ?_) rfl (by kernel_rfl) (by kernel_rfl) (by kernel_rfl) (fun _ _ _ h => h) (Or.inl ⟨by rfl, ?_⟩) (by assumption) ?_
    case refine_2 => (intro _ _; go_simp; all_goals with_reducible rfl)
    simp only [Act.put, List.setIfInBounds_toArray, List.set_cons_zero, List.set_cons_succ]
    refine take_l (i := 7) (v := ?_) rfl (by kernel_rfl) (by kernel_rfl) (by kernel_rfl) (fun _ _ _ h => h) (Or.inl ⟨by rfl, ?_⟩) (by assumption) ?_
    case refine_2 => (intro _ _; go_simp; all_goals with_reducible rfl)
    simp only [Act.put, List.setIfInBounds_toArray, List.set_cons_zero, List.set_cons_succ]
    refine take_l (i := 8) rfl (by kernel_rfl) (by kernel_rfl) (by kernel_rfl) (fun _ _ _ h => h) (Or.inl ⟨by rfl, fun W hS => e12_load (Blk.below HP.out hS HP.out.lt) H12.out (.tmp 5) rfl rfl⟩) (by assumption) ?_
    simp only [Act.put, List.setIfInBounds_toArray, List.set_cons_zero, List.set_cons_succ]
    clear hHeld
    refine wpAnyH_ready (rs := [6, 10, 11]) (by kernel_rfl) (by simp) ?_
    refine cons_l rfl (fun K hK => ?_) (cons_l rfl (fun K hK => ?_) (cons_l rfl (fun K hK => ?_) AllReadyH.nil))
    · go_simp
      go_at_call 49
      refine (gh_sum_isg HD1.out (show KeyAt u0 g h from Blk.below HKA.out HB0.out (Blk.lt HKA.out)) Hh.out (Hx.out.keep HB0.out) (Hy.out.keep HB0.out) Hla.out Hlt.out Hac.out Htc.out).mono ?_
      rintro e u1 ⟨rfl, hb⟩
      have HB1 := Lib.hid (nu_trans HB0.out hb)
      clear hb HB0 
      go_wp2_with fail
      refine hK.out _ _ HB1.out (fun hHeld => ?_)
      clear hK K hHeld
      simp only [Act.put, List.setIfInBounds_toArray, List.set_cons_zero, List.set_cons_succ]
      refine wpAnyH_ready (rs := [9, 10, 11]) (by kernel_rfl) (by simp) ?_
      refine cons_l rfl (fun K hK => ?_) (cons_l rfl (fun K hK => ?_) (cons_l rfl (fun K hK => ?_) AllReadyH.nil))
      · go_simp
        go_at_call 48
        refine ((HCt.out u1 (HG.out.below HB1.out))).mono ?_
        rintro e u2 ⟨rfl, hb⟩
        have HB2 := Lib.hid (nu_trans HB1.out hb)
        clear hb HB1 
        go_wp2_with fail
        refine hK.out _ _ HB2.out (fun hHeld => ?_)
        clear hK K hHeld
        simp only [Act.put, List.setIfInBounds_toArray, List.set_cons_zero, List.set_cons_succ]
        refine wpAnyH_ready (rs := [10, 11]) (by kernel_rfl) (by simp) ?_
        refine cons_l rfl (fun K hK => ?_) (cons_l rfl (fun K hK => ?_) AllReadyH.nil)
        · have hal := nu_alloc (nu_refl u2) (.cells (z16n.map vb).toArray 44)
          have HA10_3 := Lib.hid (Blk.made u2 44 (z16n.map vb).toArray)
          have HB3 := Lib.hid (nu_trans HB2.out hal)
          have HL10 := Lib.hid (show w1.heap.size ≤ u2.heap.size from HB2.out.size)
          clear hal HB2 
          go_simp
          go_wp2_with fail
          change K _ (u2.alloc (.cells (z16n.map vb).toArray 44))
          generalize u2.alloc (.cells (z16n.map vb).toArray 44) = u3 at *
          obtain ⟨G10, hG⟩ : ∃ G, G = u2.heap.size := ⟨_, rfl⟩
          rw [← hG] at HA10_3 HL10
          rw [← hG]
          clear hG
          refine hK.out _ _ HB3.out (fun hHeld => ?_)
          clear hK K hHeld
          simp only [Act.put, List.setIfInBounds_toArray, List.set_cons_zero, List.set_cons_succ]
          refine wpAnyH_ready (rs := [11]) (by kernel_rfl) (by simp) ?_
          refine cons_l rfl (fun K hK => ?_) AllReadyH.nil
          have hal := nu_alloc (nu_refl u3) (.cells (z16n.map vb).toArray 44)
          have HA11_4 := Lib.hid (Blk.made u3 44 (z16n.map vb).toArray)
          have HB4 := Lib.hid (nu_trans HB3.out hal)
          have HL11 := Lib.hid (show w1.heap.size ≤ u3.heap.size from HB3.out.size)
          have HA10_4 := Lib.hid (Blk.below HA10_3.out hal (Blk.lt HA10_3.out))
          have HNe := Lib.hid (show G10 ≠ u3.heap.size from Nat.ne_of_lt (Blk.lt HA10_3.out))
          clear hal HB3 HA10_3
          go_simp
          go_wp2_with fail
          change K _ (u3.alloc (.cells (z16n.map vb).toArray 44))
          generalize u3.alloc (.cells (z16n.map vb).toArray 44) = u4 at *
          obtain ⟨G11, hG⟩ : ∃ G, G = u3.heap.size := ⟨_, rfl⟩
          rw [← hG] at HA11_4 HL11 HNe
          rw [← hG]
          clear hG
          refine hK.out _ _ HB4.out (fun hHeld => ?_)
          clear hK K hHeld
          simp only [Act.put, List.setIfInBounds_toArray, List.set_cons_zero, List.set_cons_succ]
          refine wpAnyH_ready (rs := [12]) (by kernel_rfl) (by simp) ?_
          refine cons_l rfl (fun K hK => ?_) AllReadyH.nil
          refine step_store_blk rfl 44 (.tmp 9) (.tmp 18) rfl G10 (D1.map vb) rfl rfl 44 (z16n.map vb).toArray HA10_4.out (by rw [List.length_map, HL1.out]; rfl) (by rw [List.length_map, HL1.out]; kernel_rfl) (vb_one _) ?_
          have HF := Lib.hid (Blk.fill HA10_4.out (D1.map vb) (by rw [List.length_map, HL1.out]; rfl))
          have HQ := Lib.hid (Blk.farCells HA11_4.out (D1.map vb) (Ne.symm HNe.out) 0)
          have HBf := Lib.hid (nu_fill (D1.map vb) (g := G10) HL10.out 0 _ HB4.out)
          clear HA10_4 HA11_4 HB4
          generalize u4.setCells G10 0 (D1.map vb) = x1 at *
          refine hK.out _ _ HBf.out (fun hHeld => ?_)
          clear hK K hHeld
          simp only [Act.put, List.setIfInBounds_toArray, List.set_cons_zero, List.set_cons_succ]
          refine wpAnyH_ready (rs := [13]) (by kernel_rfl) (by simp) ?_
          refine cons_l rfl (fun K hK => ?_) AllReadyH.nil
          refine step_store_blk rfl 44 (.tmp 10) (.tmp 21) rfl G11 (D2.map vb) rfl rfl 44 (z16n.map vb).toArray HQ.out (by rw [List.length_map, HL2.out]; rfl) (by rw [List.length_map, HL2.out]; kernel_rfl) (vb_one _) ?_
          have HF2 := Lib.hid (Blk.fill HQ.out (D2.map vb) (by rw [List.length_map, HL2.out]; rfl))
          have HF1 := Lib.hid (Blk.farCells HF.out (D2.map vb) HNe.out 0)
          have HBg := Lib.hid (nu_fill (D2.map vb) (g := G11) HL11.out 0 _ HBf.out)
          clear HF HQ HBf
          generalize x1.setCells G11 0 (D2.map vb) = x2 at *
          refine hK.out _ _ HBg.out (fun hHeld => ?_)
          clear hK K hHeld
          simp only [Act.put, List.setIfInBounds_toArray, List.set_cons_zero, List.set_cons_succ]
          refine wpAnyH_done (by kernel_rfl) ?_ _
          go_wp2_with fail
          go_meet
          exact ⟨G10, G11, rfl, rfl, HF1.out, HF2.out, HNe.out, HL10.out, HL11.out, HBg.out⟩
        · have hal := nu_alloc (nu_refl u2) (.cells (z16n.map vb).toArray 44)
          have HA11_3 := Lib.hid (Blk.made u2 44 (z16n.map vb).toArray)
          have HB3 := Lib.hid (nu_trans HB2.out hal)
          have HL11 := Lib.hid (show w1.heap.size ≤ u2.heap.size from HB2.out.size)
          clear hal HB2 
          go_simp
          go_wp2_with fail
          change K _ (u2.alloc (.cells (z16n.map vb).toArray 44))
          generalize u2.alloc (.cells (z16n.map vb).toArray 44) = u3 at *
          obtain ⟨G11, hG⟩ : ∃ G, G = u2.heap.size := ⟨_, rfl⟩
          rw [← hG] at HA11_3 HL11
          rw [← hG]
          clear hG
          refine hK.out _ _ HB3.out (fun hHeld => ?_)
          clear hK K hHeld
          simp only [Act.put, List.setIfInBounds_toArray, List.set_cons_zero, List.set_cons_succ]
          refine wpAnyH_ready (rs := [10]) (by kernel_rfl) (by simp) ?_
          refine cons_l rfl (fun K hK => ?_) AllReadyH.nil
          have hal := nu_alloc (nu_refl u3) (.cells (z16n.map vb).toArray 44)
          have HA10_4 := Lib.hid (Blk.made u3 44 (z16n.map vb).toArray)
          have HB4 := Lib.hid (nu_trans HB3.out hal)
          have HL10 := Lib.hid (show w1.heap.size ≤ u3.heap.size from HB3.out.size)
          have HA11_4 := Lib.hid (Blk.below HA11_3.out hal (Blk.lt HA11_3.out))
          have HNe := Lib.hid (show G11 ≠ u3.heap.size from Nat.ne_of_lt (Blk.lt HA11_3.out))
          clear hal HB3 HA11_3
          go_simp
          go_wp2_with fail
          change K _ (u3.alloc (.cells (z16n.map vb).toArray 44))
          generalize u3.alloc (.cells (z16n.map vb).toArray 44) = u4 at *
          obtain ⟨G10, hG⟩ : ∃ G, G = u3.heap.size := ⟨_, rfl⟩
          rw [← hG] at HA10_4 HL10 HNe
          rw [← hG]
          clear hG
          refine hK.out _ _ HB4.out (fun hHeld => ?_)
          clear hK K hHeld
          simp only [Act.put, List.setIfInBounds_toArray, List.set_cons_zero, List.set_cons_succ]
          refine wpAnyH_ready (rs := [12]) (by kernel_rfl) (by simp) ?_
          refine cons_l rfl (fun K hK => ?_) AllReadyH.nil
          refine step_store_blk rfl 44 (.tmp 9) (.tmp 18) rfl G10 (D1.map vb) rfl rfl 44 (z16n.map vb).toArray HA10_4.out (by rw [List.length_map, HL1.out]; rfl) (by rw [List.length_map, HL1.out]; kernel_rfl) (vb_one _) ?_
          have HF := Lib.hid (Blk.fill HA10_4.out (D1.map vb) (by rw [List.length_map, HL1.out]; rfl))
          have HQ := Lib.hid (Blk.farCells HA11_4.out (D1.map vb) HNe.out 0)
          have HBf := Lib.hid (nu_fill (D1.map vb) (g := G10) HL10.out 0 _ HB4.out)
          clear HA10_4 HA11_4 HB4
          generalize u4.setCells G10 0 (D1.map vb) = x1 at *
          refine hK.out _ _ HBf.out (fun hHeld => ?_)
          clear hK K hHeld
          simp only [Act.put, List.setIfInBounds_toArray, List.set_cons_zero, List.set_cons_succ]
          refine wpAnyH_ready (rs := [13]) (by kernel_rfl) (by simp) ?_
          refine cons_l rfl (fun K hK => ?_) AllReadyH.nil
          refine step_store_blk rfl 44 (.tmp 10) (.tmp 21) rfl G11 (D2.map vb) rfl rfl 44 (z16n.map vb).toArray HQ.out (by rw [List.length_map, HL2.out]; rfl) (by rw [List.length_map, HL2.out]; kernel_rfl) (vb_one _) ?_
          have HF2 := Lib.hid (Blk.fill HQ.out (D2.map vb) (by rw [List.length_map, HL2.out]; rfl))
          have HF1 := Lib.hid (Blk.farCells HF.out (D2.map vb) (Ne.symm HNe.out) 0)
          have HBg := Lib.hid (nu_fill (D2.map vb) (g := G11) HL11.out 0 _ HBf.out)
          clear HF HQ HBf
          generalize x1.setCells G11 0 (D2.map vb) = x2 at *
          refine hK.out _ _ HBg.out (fun hHeld => ?_)
          clear hK K hHeld
          simp only [Act.put, List.setIfInBounds_toArray, List.set_cons_zero, List.set_cons_succ]
          refine wpAnyH_done (by kernel_rfl) ?_ _
          go_wp2_with fail
          go_meet
          exact ⟨G10, G11, rfl, rfl, HF1.out, HF2.out, (Ne.symm HNe.out), HL10.out, HL11.out, HBg.out⟩
      · have hal := nu_alloc (nu_refl u1) (.cells (z16n.map vb).toArray 44)
        have HA10_2 := Lib.hid (Blk.made u1 44 (z16n.map vb).toArray)
        have HB2 := Lib.hid (nu_trans HB1.out hal)
        have HL10 := Lib.hid (show w1.heap.size ≤ u1.heap.size from HB1.out.size)
        clear hal HB1 
        go_simp
        go_wp2_with fail
        change K _ (u1.alloc (.cells (z16n.map vb).toArray 44))
        generalize u1.alloc (.cells (z16n.map vb).toArray 44) = u2 at *
        obtain ⟨G10, hG⟩ : ∃ G, G = u1.heap.size := ⟨_, rfl⟩
        rw [← hG] at HA10_2 HL10
        rw [← hG]
        clear hG
        refine hK.out _ _ HB2.out (fun hHeld => ?_)
        clear hK K hHeld
        simp only [Act.put, List.setIfInBounds_toArray, List.set_cons_zero, List.set_cons_succ]
        refine wpAnyH_ready (rs := [9, 11]) (by kernel_rfl) (by simp) ?_
        refine cons_l rfl (fun K hK => ?_) (cons_l rfl (fun K hK => ?_) AllReadyH.nil)
        · go_simp
          go_at_call 48
          refine ((HCt.out u2 (HG.out.below HB2.out))).mono ?_
          rintro e u3 ⟨rfl, hb⟩
          have HB3 := Lib.hid (nu_trans HB2.out hb)
          have HA10_3 := Lib.hid (Blk.below HA10_2.out hb (Blk.lt HA10_2.out))
          clear hb HB2 HA10_2
          go_wp2_with fail
          refine hK.out _ _ HB3.out (fun hHeld => ?_)
          clear hK K hHeld
          simp only [Act.put, List.setIfInBounds_toArray, List.set_cons_zero, List.set_cons_succ]
          refine wpAnyH_ready (rs := [11]) (by kernel_rfl) (by simp) ?_
          refine cons_l rfl (fun K hK => ?_) AllReadyH.nil
          have hal := nu_alloc (nu_refl u3) (.cells (z16n.map vb).toArray 44)
          have HA11_4 := Lib.hid (Blk.made u3 44 (z16n.map vb).toArray)
          have HB4 := Lib.hid (nu_trans HB3.out hal)
          have HL11 := Lib.hid (show w1.heap.size ≤ u3.heap.size from HB3.out.size)
          have HA10_4 := Lib.hid (Blk.below HA10_3.out hal (Blk.lt HA10_3.out))
          have HNe := Lib.hid (show G10 ≠ u3.heap.size from Nat.ne_of_lt (Blk.lt HA10_3.out))
          clear hal HB3 HA10_3
          go_simp
          go_wp2_with fail
          change K _ (u3.alloc (.cells (z16n.map vb).toArray 44))
          generalize u3.alloc (.cells (z16n.map vb).toArray 44) = u4 at *
          obtain ⟨G11, hG⟩ : ∃ G, G = u3.heap.size := ⟨_, rfl⟩
          rw [← hG] at HA11_4 HL11 HNe
          rw [← hG]
          clear hG
          refine hK.out _ _ HB4.out (fun hHeld => ?_)
          clear hK K hHeld
          simp only [Act.put, List.setIfInBounds_toArray, List.set_cons_zero, List.set_cons_succ]
          refine wpAnyH_ready (rs := [12]) (by kernel_rfl) (by simp) ?_
          refine cons_l rfl (fun K hK => ?_) AllReadyH.nil
          refine step_store_blk rfl 44 (.tmp 9) (.tmp 18) rfl G10 (D1.map vb) rfl rfl 44 (z16n.map vb).toArray HA10_4.out (by rw [List.length_map, HL1.out]; rfl) (by rw [List.length_map, HL1.out]; kernel_rfl) (vb_one _) ?_
          have HF := Lib.hid (Blk.fill HA10_4.out (D1.map vb) (by rw [List.length_map, HL1.out]; rfl))
          have HQ := Lib.hid (Blk.farCells HA11_4.out (D1.map vb) (Ne.symm HNe.out) 0)
          have HBf := Lib.hid (nu_fill (D1.map vb) (g := G10) HL10.out 0 _ HB4.out)
          clear HA10_4 HA11_4 HB4
          generalize u4.setCells G10 0 (D1.map vb) = x1 at *
          refine hK.out _ _ HBf.out (fun hHeld => ?_)
          clear hK K hHeld
          simp only [Act.put, List.setIfInBounds_toArray, List.set_cons_zero, List.set_cons_succ]
          refine wpAnyH_ready (rs := [13]) (by kernel_rfl) (by simp) ?_
          refine cons_l rfl (fun K hK => ?_) AllReadyH.nil
          refine step_store_blk rfl 44 (.tmp 10) (.tmp 21) rfl G11 (D2.map vb) rfl rfl 44 (z16n.map vb).toArray HQ.out (by rw [List.length_map, HL2.out]; rfl) (by rw [List.length_map, HL2.out]; kernel_rfl) (vb_one _) ?_
          have HF2 := Lib.hid (Blk.fill HQ.out (D2.map vb) (by rw [List.length_map, HL2.out]; rfl))
          have HF1 := Lib.hid (Blk.farCells HF.out (D2.map vb) HNe.out 0)
          have HBg := Lib.hid (nu_fill (D2.map vb) (g := G11) HL11.out 0 _ HBf.out)
          clear HF HQ HBf
          generalize x1.setCells G11 0 (D2.map vb) = x2 at *
          refine hK.out _ _ HBg.out (fun hHeld => ?_)
          clear hK K hHeld
          simp only [Act.put, List.setIfInBounds_toArray, List.set_cons_zero, List.set_cons_succ]
          refine wpAnyH_done (by kernel_rfl) ?_ _
          go_wp2_with fail
          go_meet
          exact ⟨G10, G11, rfl, rfl, HF1.out, HF2.out, HNe.out, HL10.out, HL11.out, HBg.out⟩
        · have hal := nu_alloc (nu_refl u2) (.cells (z16n.map vb).toArray 44)
          have HA11_3 := Lib.hid (Blk.made u2 44 (z16n.map vb).toArray)
          have HB3 := Lib.hid (nu_trans HB2.out hal)
          have HL11 := Lib.hid (show w1.heap.size ≤ u2.heap.size from HB2.out.size)
          have HA10_3 := Lib.hid (Blk.below HA10_2.out hal (Blk.lt HA10_2.out))
          have HNe := Lib.hid (show G10 ≠ u2.heap.size from Nat.ne_of_lt (Blk.lt HA10_2.out))
          clear hal HB2 HA10_2
          go_simp
          go_wp2_with fail
          change K _ (u2.alloc (.cells (z16n.map vb).toArray 44))
          generalize u2.alloc (.cells (z16n.map vb).toArray 44) = u3 at *
          obtain ⟨G11, hG⟩ : ∃ G, G = u2.heap.size := ⟨_, rfl⟩
          rw [← hG] at HA11_3 HL11 HNe
          rw [← hG]
          clear hG
          refine hK.out _ _ HB3.out (fun hHeld => ?_)
          clear hK K hHeld
          simp only [Act.put, List.setIfInBounds_toArray, List.set_cons_zero, List.set_cons_succ]
          refine wpAnyH_ready (rs := [9]) (by kernel_rfl) (by simp) ?_
          refine cons_l rfl (fun K hK => ?_) AllReadyH.nil
          go_simp
          go_at_call 48
          refine ((HCt.out u3 (HG.out.below HB3.out))).mono ?_
          rintro e u4 ⟨rfl, hb⟩
          have HB4 := Lib.hid (nu_trans HB3.out hb)
          have HA10_4 := Lib.hid (Blk.below HA10_3.out hb (Blk.lt HA10_3.out))
          have HA11_4 := Lib.hid (Blk.below HA11_3.out hb (Blk.lt HA11_3.out))
          clear hb HB3 HA10_3 HA11_3
          go_wp2_with fail
          refine hK.out _ _ HB4.out (fun hHeld => ?_)
          clear hK K hHeld
          simp only [Act.put, List.setIfInBounds_toArray, List.set_cons_zero, List.set_cons_succ]
          refine wpAnyH_ready (rs := [12]) (by kernel_rfl) (by simp) ?_
          refine cons_l rfl (fun K hK => ?_) AllReadyH.nil
          refine step_store_blk rfl 44 (.tmp 9) (.tmp 18) rfl G10 (D1.map vb) rfl rfl 44 (z16n.map vb).toArray HA10_4.out (by rw [List.length_map, HL1.out]; rfl) (by rw [List.length_map, HL1.out]; kernel_rfl) (vb_one _) ?_
          have HF := Lib.hid (Blk.fill HA10_4.out (D1.map vb) (by rw [List.length_map, HL1.out]; rfl))
          have HQ := Lib.hid (Blk.farCells HA11_4.out (D1.map vb) (Ne.symm HNe.out) 0)
          have HBf := Lib.hid (nu_fill (D1.map vb) (g := G10) HL10.out 0 _ HB4.out)
          clear HA10_4 HA11_4 HB4
          generalize u4.setCells G10 0 (D1.map vb) = x1 at *
          refine hK.out _ _ HBf.out (fun hHeld => ?_)
          clear hK K hHeld
          simp only [Act.put, List.setIfInBounds_toArray, List.set_cons_zero, List.set_cons_succ]
          refine wpAnyH_ready (rs := [13]) (by kernel_rfl) (by simp) ?_
          refine cons_l rfl (fun K hK => ?_) AllReadyH.nil
          refine step_store_blk rfl 44 (.tmp 10) (.tmp 21) rfl G11 (D2.map vb) rfl rfl 44 (z16n.map vb).toArray HQ.out (by rw [List.length_map, HL2.out]; rfl) (by rw [List.length_map, HL2.out]; kernel_rfl) (vb_one _) ?_
          have HF2 := Lib.hid (Blk.fill HQ.out (D2.map vb) (by rw [List.length_map, HL2.out]; rfl))
          have HF1 := Lib.hid (Blk.farCells HF.out (D2.map vb) HNe.out 0)
          have HBg := Lib.hid (nu_fill (D2.map vb) (g := G11) HL11.out 0 _ HBf.out)
          clear HF HQ HBf
          generalize x1.setCells G11 0 (D2.map vb) = x2 at *
          refine hK.out _ _ HBg.out (fun hHeld => ?_)
          clear hK K hHeld
          simp only [Act.put, List.setIfInBounds_toArray, List.set_cons_zero, List.set_cons_succ]
          refine wpAnyH_done (by kernel_rfl) ?_ _
          go_wp2_with fail
          go_meet
          exact ⟨G10, G11, rfl, rfl, HF1.out, HF2.out, HNe.out, HL10.out, HL11.out, HBg.out⟩
      · have hal := nu_alloc (nu_refl u1) (.cells (z16n.map vb).toArray 44)
        have HA11_2 := Lib.hid (Blk.made u1 44 (z16n.map vb).toArray)
        have HB2 := Lib.hid (nu_trans HB1.out hal)
        have HL11 := Lib.hid (show w1.heap.size ≤ u1.heap.size from HB1.out.size)
        clear hal HB1 
        go_simp
        go_wp2_with fail
        change K _ (u1.alloc (.cells (z16n.map vb).toArray 44))
        generalize u1.alloc (.cells (z16n.map vb).toArray 44) = u2 at *
        obtain ⟨G11, hG⟩ : ∃ G, G = u1.heap.size := ⟨_, rfl⟩
        rw [← hG] at HA11_2 HL11
        rw [← hG]
        clear hG
        refine hK.out _ _ HB2.out (fun hHeld => ?_)
        clear hK K hHeld
        simp only [Act.put, List.setIfInBounds_toArray, List.set_cons_zero, List.set_cons_succ]
        refine wpAnyH_ready (rs := [9, 10]) (by kernel_rfl) (by simp) ?_
        refine cons_l rfl (fun K hK => ?_) (cons_l rfl (fun K hK => ?_) AllReadyH.nil)
        · go_simp
          go_at_call 48
          refine ((HCt.out u2 (HG.out.below HB2.out))).mono ?_
          rintro e u3 ⟨rfl, hb⟩
          have HB3 := Lib.hid (nu_trans HB2.out hb)
          have HA11_3 := Lib.hid (Blk.below HA11_2.out hb (Blk.lt HA11_2.out))
          clear hb HB2 HA11_2
          go_wp2_with fail
          refine hK.out _ _ HB3.out (fun hHeld => ?_)
          clear hK K hHeld
          simp only [Act.put, List.setIfInBounds_toArray, List.set_cons_zero, List.set_cons_succ]
          refine wpAnyH_ready (rs := [10]) (by kernel_rfl) (by simp) ?_
          refine cons_l rfl (fun K hK => ?_) AllReadyH.nil
          have hal := nu_alloc (nu_refl u3) (.cells (z16n.map vb).toArray 44)
          have HA10_4 := Lib.hid (Blk.made u3 44 (z16n.map vb).toArray)
          have HB4 := Lib.hid (nu_trans HB3.out hal)
          have HL10 := Lib.hid (show w1.heap.size ≤ u3.heap.size from HB3.out.size)
          have HA11_4 := Lib.hid (Blk.below HA11_3.out hal (Blk.lt HA11_3.out))
          have HNe := Lib.hid (show G11 ≠ u3.heap.size from Nat.ne_of_lt (Blk.lt HA11_3.out))
          clear hal HB3 HA11_3
          go_simp
          go_wp2_with fail
          change K _ (u3.alloc (.cells (z16n.map vb).toArray 44))
          generalize u3.alloc (.cells (z16n.map vb).toArray 44) = u4 at *
          obtain ⟨G10, hG⟩ : ∃ G, G = u3.heap.size := ⟨_, rfl⟩
          rw [← hG] at HA10_4 HL10 HNe
          rw [← hG]
          clear hG
          refine hK.out _ _ HB4.out (fun hHeld => ?_)
          clear hK K hHeld
          simp only [Act.put, List.setIfInBounds_toArray, List.set_cons_zero, List.set_cons_succ]
          refine wpAnyH_ready (rs := [12]) (by kernel_rfl) (by simp) ?_
          refine cons_l rfl (fun K hK => ?_) AllReadyH.nil
          refine step_store_blk rfl 44 (.tmp 9) (.tmp 18) rfl G10 (D1.map vb) rfl rfl 44 (z16n.map vb).toArray HA10_4.out (by rw [List.length_map, HL1.out]; rfl) (by rw [List.length_map, HL1.out]; kernel_rfl) (vb_one _) ?_
          have HF := Lib.hid (Blk.fill HA10_4.out (D1.map vb) (by rw [List.length_map, HL1.out]; rfl))
          have HQ := Lib.hid (Blk.farCells HA11_4.out (D1.map vb) HNe.out 0)
          have HBf := Lib.hid (nu_fill (D1.map vb) (g := G10) HL10.out 0 _ HB4.out)
          clear HA10_4 HA11_4 HB4
          generalize u4.setCells G10 0 (D1.map vb) = x1 at *
          refine hK.out _ _ HBf.out (fun hHeld => ?_)
          clear hK K hHeld
          simp only [Act.put, List.setIfInBounds_toArray, List.set_cons_zero, List.set_cons_succ]
          refine wpAnyH_ready (rs := [13]) (by kernel_rfl) (by simp) ?_
          refine cons_l rfl (fun K hK => ?_) AllReadyH.nil
          refine step_store_blk rfl 44 (.tmp 10) (.tmp 21) rfl G11 (D2.map vb) rfl rfl 44 (z16n.map vb).toArray HQ.out (by rw [List.length_map, HL2.out]; rfl) (by rw [List.length_map, HL2.out]; kernel_rfl) (vb_one _) ?_
          have HF2 := Lib.hid (Blk.fill HQ.out (D2.map vb) (by rw [List.length_map, HL2.out]; rfl))
          have HF1 := Lib.hid (Blk.farCells HF.out (D2.map vb) (Ne.symm HNe.out) 0)
          have HBg := Lib.hid (nu_fill (D2.map vb) (g := G11) HL11.out 0 _ HBf.out)
          clear HF HQ HBf
          generalize x1.setCells G11 0 (D2.map vb) = x2 at *
          refine hK.out _ _ HBg.out (fun hHeld => ?_)
          clear hK K hHeld
          simp only [Act.put, List.setIfInBounds_toArray, List.set_cons_zero, List.set_cons_succ]
          refine wpAnyH_done (by kernel_rfl) ?_ _
          go_wp2_with fail
          go_meet
          exact ⟨G10, G11, rfl, rfl, HF1.out, HF2.out, (Ne.symm HNe.out), HL10.out, HL11.out, HBg.out⟩
        · have hal := nu_alloc (nu_refl u2) (.cells (z16n.map vb).toArray 44)
          have HA10_3 := Lib.hid (Blk.made u2 44 (z16n.map vb).toArray)
          have HB3 := Lib.hid (nu_trans HB2.out hal)
          have HL10 := Lib.hid (show w1.heap.size ≤ u2.heap.size from HB2.out.size)
          have HA11_3 := Lib.hid (Blk.below HA11_2.out hal (Blk.lt HA11_2.out))
          have HNe := Lib.hid (show G11 ≠ u2.heap.size from Nat.ne_of_lt (Blk.lt HA11_2.out))
          clear hal HB2 HA11_2
          go_simp
          go_wp2_with fail
          change K _ (u2.alloc (.cells (z16n.map vb).toArray 44))
          generalize u2.alloc (.cells (z16n.map vb).toArray 44) = u3 at *
          obtain ⟨G10, hG⟩ : ∃ G, G = u2.heap.size := ⟨_, rfl⟩
          rw [← hG] at HA10_3 HL10 HNe
          rw [← hG]
          clear hG
          refine hK.out _ _ HB3.out (fun hHeld => ?_)
          clear hK K hHeld
          simp only [Act.put, List.setIfInBounds_toArray, List.set_cons_zero, List.set_cons_succ]
          refine wpAnyH_ready (rs := [9]) (by kernel_rfl) (by simp) ?_
          refine cons_l rfl (fun K hK => ?_) AllReadyH.nil
          go_simp
          go_at_call 48
          refine ((HCt.out u3 (HG.out.below HB3.out))).mono ?_
          rintro e u4 ⟨rfl, hb⟩
          have HB4 := Lib.hid (nu_trans HB3.out hb)
          have HA10_4 := Lib.hid (Blk.below HA10_3.out hb (Blk.lt HA10_3.out))
          have HA11_4 := Lib.hid (Blk.below HA11_3.out hb (Blk.lt HA11_3.out))
          clear hb HB3 HA10_3 HA11_3
          go_wp2_with fail
          refine hK.out _ _ HB4.out (fun hHeld => ?_)
          clear hK K hHeld
          simp only [Act.put, List.setIfInBounds_toArray, List.set_cons_zero, List.set_cons_succ]
          refine wpAnyH_ready (rs := [12]) (by kernel_rfl) (by simp) ?_
          refine cons_l rfl (fun K hK => ?_) AllReadyH.nil
          refine step_store_blk rfl 44 (.tmp 9) (.tmp 18) rfl G10 (D1.map vb) rfl rfl 44 (z16n.map vb).toArray HA10_4.out (by rw [List.length_map, HL1.out]; rfl) (by rw [List.length_map, HL1.out]; kernel_rfl) (vb_one _) ?_
          have HF := Lib.hid (Blk.fill HA10_4.out (D1.map vb) (by rw [List.length_map, HL1.out]; rfl))
          have HQ := Lib.hid (Blk.farCells HA11_4.out (D1.map vb) HNe.out 0)
          have HBf := Lib.hid (nu_fill (D1.map vb) (g := G10) HL10.out 0 _ HB4.out)
          clear HA10_4 HA11_4 HB4
          generalize u4.setCells G10 0 (D1.map vb) = x1 at *
          refine hK.out _ _ HBf.out (fun hHeld => ?_)
          clear hK K hHeld
          simp only [Act.put, List.setIfInBounds_toArray, List.set_cons_zero, List.set_cons_succ]
          refine wpAnyH_ready (rs := [13]) (by kernel_rfl) (by simp) ?_
          refine cons_l rfl (fun K hK => ?_) AllReadyH.nil
          refine step_store_blk rfl 44 (.tmp 10) (.tmp 21) rfl G11 (D2.map vb) rfl rfl 44 (z16n.map vb).toArray HQ.out (by rw [List.length_map, HL2.out]; rfl) (by rw [List.length_map, HL2.out]; kernel_rfl) (vb_one _) ?_
          have HF2 := Lib.hid (Blk.fill HQ.out (D2.map vb) (by rw [List.length_map, HL2.out]; rfl))
          have HF1 := Lib.hid (Blk.farCells HF.out (D2.map vb) (Ne.symm HNe.out) 0)
          have HBg := Lib.hid (nu_fill (D2.map vb) (g := G11) HL11.out 0 _ HBf.out)
          clear HF HQ HBf
          generalize x1.setCells G11 0 (D2.map vb) = x2 at *
          refine hK.out _ _ HBg.out (fun hHeld => ?_)
          clear hK K hHeld
          simp only [Act.put, List.setIfInBounds_toArray, List.set_cons_zero, List.set_cons_succ]
          refine wpAnyH_done (by kernel_rfl) ?_ _
          go_wp2_with fail
          go_meet
          exact ⟨G10, G11, rfl, rfl, HF1.out, HF2.out, (Ne.symm HNe.out), HL10.out, HL11.out, HBg.out⟩
    · have hal := nu_alloc (nu_refl u0) (.cells (z16n.map vb).toArray 44)
      have HA10_1 := Lib.hid (Blk.made u0 44 (z16n.map vb).toArray)
      have HB1 := Lib.hid (nu_trans HB0.out hal)
      have HL10 := Lib.hid (show w1.heap.size ≤ u0.heap.size from HB0.out.size)
      clear hal HB0 
      go_simp
      go_wp2_with fail
      change K _ (u0.alloc (.cells (z16n.map vb).toArray 44))
      generalize u0.alloc (.cells (z16n.map vb).toArray 44) = u1 at *
      obtain ⟨G10, hG⟩ : ∃ G, G = u0.heap.size := ⟨_, rfl⟩
      rw [← hG] at HA10_1 HL10
      rw [← hG]
      clear hG
      refine hK.out _ _ HB1.out (fun hHeld => ?_)
      clear hK K hHeld
      simp only [Act.put, List.setIfInBounds_toArray, List.set_cons_zero, List.set_cons_succ]
      refine wpAnyH_ready (rs := [6, 11]) (by kernel_rfl) (by simp) ?_
      refine cons_l rfl (fun K hK => ?_) (cons_l rfl (fun K hK => ?_) AllReadyH.nil)
      · go_simp
        go_at_call 49
        refine (gh_sum_isg HD1.out (show KeyAt u1 g h from Blk.below HKA.out HB1.out (Blk.lt HKA.out)) Hh.out (Hx.out.keep HB1.out) (Hy.out.keep HB1.out) Hla.out Hlt.out Hac.out Htc.out).mono ?_
        rintro e u2 ⟨rfl, hb⟩
        have HB2 := Lib.hid (nu_trans HB1.out hb)
        have HA10_2 := Lib.hid (Blk.below HA10_1.out hb (Blk.lt HA10_1.out))
        clear hb HB1 HA10_1
        go_wp2_with fail
        refine hK.out _ _ HB2.out (fun hHeld => ?_)
        clear hK K hHeld
        simp only [Act.put, List.setIfInBounds_toArray, List.set_cons_zero, List.set_cons_succ]
        refine wpAnyH_ready (rs := [9, 11]) (by kernel_rfl) (by simp) ?_
        refine cons_l rfl (fun K hK => ?_) (cons_l rfl (fun K hK => ?_) AllReadyH.nil)
        · go_simp
          go_at_call 48
          refine ((HCt.out u2 (HG.out.below HB2.out))).mono ?_
          rintro e u3 ⟨rfl, hb⟩
          have HB3 := Lib.hid (nu_trans HB2.out hb)
          have HA10_3 := Lib.hid (Blk.below HA10_2.out hb (Blk.lt HA10_2.out))
          clear hb HB2 HA10_2
          go_wp2_with fail
          refine hK.out _ _ HB3.out (fun hHeld => ?_)
          clear hK K hHeld
          simp only [Act.put, List.setIfInBounds_toArray, List.set_cons_zero, List.set_cons_succ]
          refine wpAnyH_ready (rs := [11]) (by kernel_rfl) (by simp) ?_
          refine cons_l rfl (fun K hK => ?_) AllReadyH.nil
          have hal := nu_alloc (nu_refl u3) (.cells (z16n.map vb).toArray 44)
          have HA11_4 := Lib.hid (Blk.made u3 44 (z16n.map vb).toArray)
          have HB4 := Lib.hid (nu_trans HB3.out hal)
          have HL11 := Lib.hid (show w1.heap.size ≤ u3.heap.size from HB3.out.size)
          have HA10_4 := Lib.hid (Blk.below HA10_3.out hal (Blk.lt HA10_3.out))
          have HNe := Lib.hid (show G10 ≠ u3.heap.size from Nat.ne_of_lt (Blk.lt HA10_3.out))
          clear hal HB3 HA10_3
          go_simp
          go_wp2_with fail
          change K _ (u3.alloc (.cells (z16n.map vb).toArray 44))
          generalize u3.alloc (.cells (z16n.map vb).toArray 44) = u4 at *
          obtain ⟨G11, hG⟩ : ∃ G, G = u3.heap.size := ⟨_, rfl⟩
          rw [← hG] at HA11_4 HL11 HNe
          rw [← hG]
          clear hG
          refine hK.out _ _ HB4.out (fun hHeld => ?_)
          clear hK K hHeld
          simp only [Act.put, List.setIfInBounds_toArray, List.set_cons_zero, List.set_cons_succ]
          refine wpAnyH_ready (rs := [12]) (by kernel_rfl) (by simp) ?_
          refine cons_l rfl (fun K hK => ?_) AllReadyH.nil
          refine step_store_blk rfl 44 (.tmp 9) (.tmp 18) rfl G10 (D1.map vb) rfl rfl 44 (z16n.map vb).toArray HA10_4.out (by rw [List.length_map, HL1.out]; rfl) (by rw [List.length_map, HL1.out]; kernel_rfl) (vb_one _) ?_
          have HF := Lib.hid (Blk.fill HA10_4.out (D1.map vb) (by rw [List.length_map, HL1.out]; rfl))
          have HQ := Lib.hid (Blk.farCells HA11_4.out (D1.map vb) (Ne.symm HNe.out) 0)
          have HBf := Lib.hid (nu_fill (D1.map vb) (g := G10) HL10.out 0 _ HB4.out)
          clear HA10_4 HA11_4 HB4
          generalize u4.setCells G10 0 (D1.map vb) = x1 at *
          refine hK.out _ _ HBf.out (fun hHeld => ?_)
          clear hK K hHeld
          simp only [Act.put, List.setIfInBounds_toArray, List.set_cons_zero, List.set_cons_succ]
          refine wpAnyH_ready (rs := [13]) (by kernel_rfl) (by simp) ?_
          refine cons_l rfl (fun K hK => ?_) AllReadyH.nil
          refine step_store_blk rfl 44 (.tmp 10) (.tmp 21) rfl G11 (D2.map vb) rfl rfl 44 (z16n.map vb).toArray HQ.out (by rw [List.length_map, HL2.out]; rfl) (by rw [List.length_map, HL2.out]; kernel_rfl) (vb_one _) ?_
          have HF2 := Lib.hid (Blk.fill HQ.out (D2.map vb) (by rw [List.length_map, HL2.out]; rfl))
          have HF1 := Lib.hid (Blk.farCells HF.out (D2.map vb) HNe.out 0)
          have HBg := Lib.hid (nu_fill (D2.map vb) (g := G11) HL11.out 0 _ HBf.out)
          clear HF HQ HBf
          generalize x1.setCells G11 0 (D2.map vb) = x2 at *
          refine hK.out _ _ HBg.out (fun hHeld => ?_)
          clear hK K hHeld
          simp only [Act.put, List.setIfInBounds_toArray, List.set_cons_zero, List.set_cons_succ]
          refine wpAnyH_done (by kernel_rfl) ?_ _
          go_wp2_with fail
          go_meet
          exact ⟨G10, G11, rfl, rfl, HF1.out, HF2.out, HNe.out, HL10.out, HL11.out, HBg.out⟩
        · have hal := nu_alloc (nu_refl u2) (.cells (z16n.map vb).toArray 44)
          have HA11_3 := Lib.hid (Blk.made u2 44 (z16n.map vb).toArray)
          have HB3 := Lib.hid (nu_trans HB2.out hal)
          have HL11 := Lib.hid (show w1.heap.size ≤ u2.heap.size from HB2.out.size)
          have HA10_3 := Lib.hid (Blk.below HA10_2.out hal (Blk.lt HA10_2.out))
          have HNe := Lib.hid (show G10 ≠ u2.heap.size from Nat.ne_of_lt (Blk.lt HA10_2.out))
          clear hal HB2 HA10_2
          go_simp
          go_wp2_with fail
          change K _ (u2.alloc (.cells (z16n.map vb).toArray 44))
          generalize u2.alloc (.cells (z16n.map vb).toArray 44) = u3 at *
          obtain ⟨G11, hG⟩ : ∃ G, G = u2.heap.size := ⟨_, rfl⟩
          rw [← hG] at HA11_3 HL11 HNe
          rw [← hG]
          clear hG
          refine hK.out _ _ HB3.out (fun hHeld => ?_)
          clear hK K hHeld
          simp only [Act.put, List.setIfInBounds_toArray, List.set_cons_zero, List.set_cons_succ]
          refine wpAnyH_ready (rs := [9]) (by kernel_rfl) (by simp) ?_
          refine cons_l rfl (fun K hK => ?_) AllReadyH.nil
          go_simp
          go_at_call 48
          refine ((HCt.out u3 (HG.out.below HB3.out))).mono ?_
          rintro e u4 ⟨rfl, hb⟩
          have HB4 := Lib.hid (nu_trans HB3.out hb)
          have HA10_4 := Lib.hid (Blk.below HA10_3.out hb (Blk.lt HA10_3.out))
          have HA11_4 := Lib.hid (Blk.below HA11_3.out hb (Blk.lt HA11_3.out))
          clear hb HB3 HA10_3 HA11_3
          go_wp2_with fail
          refine hK.out _ _ HB4.out (fun hHeld => ?_)
          clear hK K hHeld
          simp only [Act.put, List.setIfInBounds_toArray, List.set_cons_zero, List.set_cons_succ]
          refine wpAnyH_ready (rs := [12]) (by kernel_rfl) (by simp) ?_
          refine cons_l rfl (fun K hK => ?_) AllReadyH.nil
          refine step_store_blk rfl 44 (.tmp 9) (.tmp 18) rfl G10 (D1.map vb) rfl rfl 44 (z16n.map vb).toArray HA10_4.out (by rw [List.length_map, HL1.out]; rfl) (by rw [List.length_map, HL1.out]; kernel_rfl) (vb_one _) ?_
          have HF := Lib.hid (Blk.fill HA10_4.out (D1.map vb) (by rw [List.length_map, HL1.out]; rfl))
          have HQ := Lib.hid (Blk.farCells HA11_4.out (D1.map vb) (Ne.symm HNe.out) 0)
          have HBf := Lib.hid (nu_fill (D1.map vb) (g := G10) HL10.out 0 _ HB4.out)
          clear HA10_4 HA11_4 HB4
          generalize u4.setCells G10 0 (D1.map vb) = x1 at *
          refine hK.out _ _ HBf.out (fun hHeld => ?_)
          clear hK K hHeld
          simp only [Act.put, List.setIfInBounds_toArray, List.set_cons_zero, List.set_cons_succ]
          refine wpAnyH_ready (rs := [13]) (by kernel_rfl) (by simp) ?_
          refine cons_l rfl (fun K hK => ?_) AllReadyH.nil
          refine step_store_blk rfl 44 (.tmp 10) (.tmp 21) rfl G11 (D2.map vb) rfl rfl 44 (z16n.map vb).toArray HQ.out (by rw [List.length_map, HL2.out]; rfl) (by rw [List.length_map, HL2.out]; kernel_rfl) (vb_one _) ?_
          have HF2 := Lib.hid (Blk.fill HQ.out (D2.map vb) (by rw [List.length_map, HL2.out]; rfl))
          have HF1 := Lib.hid (Blk.farCells HF.out (D2.map vb) HNe.out 0)
          have HBg := Lib.hid (nu_fill (D2.map vb) (g := G11) HL11.out 0 _ HBf.out)
          clear HF HQ HBf
          generalize x1.setCells G11 0 (D2.map vb) = x2 at *
          refine hK.out _ _ HBg.out (fun hHeld => ?_)
          clear hK K hHeld
          simp only [Act.put, List.setIfInBounds_toArray, List.set_cons_zero, List.set_cons_succ]
          refine wpAnyH_done (by kernel_rfl) ?_ _
          go_wp2_with fail
          go_meet
          exact ⟨G10, G11, rfl, rfl, HF1.out, HF2.out, HNe.out, HL10.out, HL11.out, HBg.out⟩
      · have hal := nu_alloc (nu_refl u1) (.cells (z16n.map vb).toArray 44)
        have HA11_2 := Lib.hid (Blk.made u1 44 (z16n.map vb).toArray)
        have HB2 := Lib.hid (nu_trans HB1.out hal)
        have HL11 := Lib.hid (show w1.heap.size ≤ u1.heap.size from HB1.out.size)
        have HA10_2 := Lib.hid (Blk.below HA10_1.out hal (Blk.lt HA10_1.out))
        have HNe := Lib.hid (show G10 ≠ u1.heap.size from Nat.ne_of_lt (Blk.lt HA10_1.out))
        clear hal HB1 HA10_1
        go_simp
        go_wp2_with fail
        change K _ (u1.alloc (.cells (z16n.map vb).toArray 44))
        generalize u1.alloc (.cells (z16n.map vb).toArray 44) = u2 at *
        obtain ⟨G11, hG⟩ : ∃ G, G = u1.heap.size := ⟨_, rfl⟩
        rw [← hG] at HA11_2 HL11 HNe
        rw [← hG]
        clear hG
        refine hK.out _ _ HB2.out (fun hHeld => ?_)
        clear hK K hHeld
        simp only [Act.put, List.setIfInBounds_toArray, List.set_cons_zero, List.set_cons_succ]
        refine wpAnyH_ready (rs := [6]) (by kernel_rfl) (by simp) ?_
        refine cons_l rfl (fun K hK => ?_) AllReadyH.nil
        go_simp
        go_at_call 49
        refine (gh_sum_isg HD1.out (show KeyAt u2 g h from Blk.below HKA.out HB2.out (Blk.lt HKA.out)) Hh.out (Hx.out.keep HB2.out) (Hy.out.keep HB2.out) Hla.out Hlt.out Hac.out Htc.out).mono ?_
        rintro e u3 ⟨rfl, hb⟩
        have HB3 := Lib.hid (nu_trans HB2.out hb)
        have HA10_3 := Lib.hid (Blk.below HA10_2.out hb (Blk.lt HA10_2.out))
        have HA11_3 := Lib.hid (Blk.below HA11_2.out hb (Blk.lt HA11_2.out))
        clear hb HB2 HA10_2 HA11_2
        go_wp2_with fail
        refine hK.out _ _ HB3.out (fun hHeld => ?_)
        clear hK K hHeld
        simp only [Act.put, List.setIfInBounds_toArray, List.set_cons_zero, List.set_cons_succ]
        refine wpAnyH_ready (rs := [9]) (by kernel_rfl) (by simp) ?_
        refine cons_l rfl (fun K hK => ?_) AllReadyH.nil
        go_simp
        go_at_call 48
        refine ((HCt.out u3 (HG.out.below HB3.out))).mono ?_
        rintro e u4 ⟨rfl, hb⟩
        have HB4 := Lib.hid (nu_trans HB3.out hb)
        have HA10_4 := Lib.hid (Blk.below HA10_3.out hb (Blk.lt HA10_3.out))
        have HA11_4 := Lib.hid (Blk.below HA11_3.out hb (Blk.lt HA11_3.out))
        clear hb HB3 HA10_3 HA11_3
        go_wp2_with fail
        refine hK.out _ _ HB4.out (fun hHeld => ?_)
        clear hK K hHeld
        simp only [Act.put, List.setIfInBounds_toArray, List.set_cons_zero, List.set_cons_succ]
        refine wpAnyH_ready (rs := [12]) (by kernel_rfl) (by simp) ?_
        refine cons_l rfl (fun K hK => ?_) AllReadyH.nil
        refine step_store_blk rfl 44 (.tmp 9) (.tmp 18) rfl G10 (D1.map vb) rfl rfl 44 (z16n.map vb).toArray HA10_4.out (by rw [List.length_map, HL1.out]; rfl) (by rw [List.length_map, HL1.out]; kernel_rfl) (vb_one _) ?_
        have HF := Lib.hid (Blk.fill HA10_4.out (D1.map vb) (by rw [List.length_map, HL1.out]; rfl))
        have HQ := Lib.hid (Blk.farCells HA11_4.out (D1.map vb) (Ne.symm HNe.out) 0)
        have HBf := Lib.hid (nu_fill (D1.map vb) (g := G10) HL10.out 0 _ HB4.out)
        clear HA10_4 HA11_4 HB4
        generalize u4.setCells G10 0 (D1.map vb) = x1 at *
        refine hK.out _ _ HBf.out (fun hHeld => ?_)
        clear hK K hHeld
        simp only [Act.put, List.setIfInBounds_toArray, List.set_cons_zero, List.set_cons_succ]
        refine wpAnyH_ready (rs := [13]) (by kernel_rfl) (by simp) ?_
        refine cons_l rfl (fun K hK => ?_) AllReadyH.nil
        refine step_store_blk rfl 44 (.tmp 10) (.tmp 21) rfl G11 (D2.map vb) rfl rfl 44 (z16n.map vb).toArray HQ.out (by rw [List.length_map, HL2.out]; rfl) (by rw [List.length_map, HL2.out]; kernel_rfl) (vb_one _) ?_
        have HF2 := Lib.hid (Blk.fill HQ.out (D2.map vb) (by rw [List.length_map, HL2.out]; rfl))
        have HF1 := Lib.hid (Blk.farCells HF.out (D2.map vb) HNe.out 0)
        have HBg := Lib.hid (nu_fill (D2.map vb) (g := G11) HL11.out 0 _ HBf.out)
        clear HF HQ HBf
        generalize x1.setCells G11 0 (D2.map vb) = x2 at *
        refine hK.out _ _ HBg.out (fun hHeld => ?_)
        clear hK K hHeld
        simp only [Act.put, List.setIfInBounds_toArray, List.set_cons_zero, List.set_cons_succ]
        refine wpAnyH_done (by kernel_rfl) ?_ _
        go_wp2_with fail
        go_meet
        exact ⟨G10, G11, rfl, rfl, HF1.out, HF2.out, HNe.out, HL10.out, HL11.out, HBg.out⟩
    · have hal := nu_alloc (nu_refl u0) (.cells (z16n.map vb).toArray 44)
      have HA11_1 := Lib.hid (Blk.made u0 44 (z16n.map vb).toArray)
      have HB1 := Lib.hid (nu_trans HB0.out hal)
      have HL11 := Lib.hid (show w1.heap.size ≤ u0.heap.size from HB0.out.size)
      clear hal HB0 
      go_simp
      go_wp2_with fail
      change K _ (u0.alloc (.cells (z16n.map vb).toArray 44))
      generalize u0.alloc (.cells (z16n.map vb).toArray 44) = u1 at *
      obtain ⟨G11, hG⟩ : ∃ G, G = u0.heap.size := ⟨_, rfl⟩
      rw [← hG] at HA11_1 HL11
      rw [← hG]
      clear hG
      refine hK.out _ _ HB1.out (fun hHeld => ?_)
      clear hK K hHeld
      simp only [Act.put, List.setIfInBounds_toArray, List.set_cons_zero, List.set_cons_succ]
      refine wpAnyH_ready (rs := [6, 10]) (by kernel_rfl) (by simp) ?_
      refine cons_l rfl (fun K hK => ?_) (cons_l rfl (fun K hK => ?_) AllReadyH.nil)
      · go_simp
        go_at_call 49
        refine (gh_sum_isg HD1.out (show KeyAt u1 g h from Blk.below HKA.out HB1.out (Blk.lt HKA.out)) Hh.out (Hx.out.keep HB1.out) (Hy.out.keep HB1.out) Hla.out Hlt.out Hac.out Htc.out).mono ?_
        rintro e u2 ⟨rfl, hb⟩
        have HB2 := Lib.hid (nu_trans HB1.out hb)
        have HA11_2 := Lib.hid (Blk.below HA11_1.out hb (Blk.lt HA11_1.out))
        clear hb HB1 HA11_1
        go_wp2_with fail
        refine hK.out _ _ HB2.out (fun hHeld => ?_)
        clear hK K hHeld
        simp only [Act.put, List.setIfInBounds_toArray, List.set_cons_zero, List.set_cons_succ]
        refine wpAnyH_ready (rs := [9, 10]) (by kernel_rfl) (by simp) ?_
        refine cons_l rfl (fun K hK => ?_) (cons_l rfl (fun K hK => ?_) AllReadyH.nil)
        · go_simp
          go_at_call 48
          refine ((HCt.out u2 (HG.out.below HB2.out))).mono ?_
          rintro e u3 ⟨rfl, hb⟩
          have HB3 := Lib.hid (nu_trans HB2.out hb)
          have HA11_3 := Lib.hid (Blk.below HA11_2.out hb (Blk.lt HA11_2.out))
          clear hb HB2 HA11_2
          go_wp2_with fail
          refine hK.out _ _ HB3.out (fun hHeld => ?_)
          clear hK K hHeld
          simp only [Act.put, List.setIfInBounds_toArray, List.set_cons_zero, List.set_cons_succ]
          refine wpAnyH_ready (rs := [10]) (by kernel_rfl) (by simp) ?_
          refine cons_l rfl (fun K hK => ?_) AllReadyH.nil
          have hal := nu_alloc (nu_refl u3) (.cells (z16n.map vb).toArray 44)
          have HA10_4 := Lib.hid (Blk.made u3 44 (z16n.map vb).toArray)
          have HB4 := Lib.hid (nu_trans HB3.out hal)
          have HL10 := Lib.hid (show w1.heap.size ≤ u3.heap.size from HB3.out.size)
          have HA11_4 := Lib.hid (Blk.below HA11_3.out hal (Blk.lt HA11_3.out))
          have HNe := Lib.hid (show G11 ≠ u3.heap.size from Nat.ne_of_lt (Blk.lt HA11_3.out))
          clear hal HB3 HA11_3
          go_simp
          go_wp2_with fail
          change K _ (u3.alloc (.cells (z16n.map vb).toArray 44))
          generalize u3.alloc (.cells (z16n.map vb).toArray 44) = u4 at *
          obtain ⟨G10, hG⟩ : ∃ G, G = u3.heap.size := ⟨_, rfl⟩
          rw [← hG] at HA10_4 HL10 HNe
          rw [← hG]
          clear hG
          refine hK.out _ _ HB4.out (fun hHeld => ?_)
          clear hK K hHeld
          simp only [Act.put, List.setIfInBounds_toArray, List.set_cons_zero, List.set_cons_succ]
          refine wpAnyH_ready (rs := [12]) (by kernel_rfl) (by simp) ?_
          refine cons_l rfl (fun K hK => ?_) AllReadyH.nil
          refine step_store_blk rfl 44 (.tmp 9) (.tmp 18) rfl G10 (D1.map vb) rfl rfl 44 (z16n.map vb).toArray HA10_4.out (by rw [List.length_map, HL1.out]; rfl) (by rw [List.length_map, HL1.out]; kernel_rfl) (vb_one _) ?_
          have HF := Lib.hid (Blk.fill HA10_4.out (D1.map vb) (by rw [List.length_map, HL1.out]; rfl))
          have HQ := Lib.hid (Blk.farCells HA11_4.out (D1.map vb) HNe.out 0)
          have HBf := Lib.hid (nu_fill (D1.map vb) (g := G10) HL10.out 0 _ HB4.out)
          clear HA10_4 HA11_4 HB4
          generalize u4.setCells G10 0 (D1.map vb) = x1 at *
          refine hK.out _ _ HBf.out (fun hHeld => ?_)
          clear hK K hHeld
          simp only [Act.put, List.setIfInBounds_toArray, List.set_cons_zero, List.set_cons_succ]
          refine wpAnyH_ready (rs := [13]) (by kernel_rfl) (by simp) ?_
          refine cons_l rfl (fun K hK => ?_) AllReadyH.nil
          refine step_store_blk rfl 44 (.tmp 10) (.tmp 21) rfl G11 (D2.map vb) rfl rfl 44 (z16n.map vb).toArray HQ.out (by rw [List.length_map, HL2.out]; rfl) (by rw [List.length_map, HL2.out]; kernel_rfl) (vb_one _) ?_
          have HF2 := Lib.hid (Blk.fill HQ.out (D2.map vb) (by rw [List.length_map, HL2.out]; rfl))
          have HF1 := Lib.hid (Blk.farCells HF.out (D2.map vb) (Ne.symm HNe.out) 0)
          have HBg := Lib.hid (nu_fill (D2.map vb) (g := G11) HL11.out 0 _ HBf.out)
          clear HF HQ HBf
          generalize x1.setCells G11 0 (D2.map vb) = x2 at *
          refine hK.out _ _ HBg.out (fun hHeld => ?_)
          clear hK K hHeld
          simp only [Act.put, List.setIfInBounds_toArray, List.set_cons_zero, List.set_cons_succ]
          refine wpAnyH_done (by kernel_rfl) ?_ _
          go_wp2_with fail
          go_meet
          exact ⟨G10, G11, rfl, rfl, HF1.out, HF2.out, (Ne.symm HNe.out), HL10.out, HL11.out, HBg.out⟩
        · have hal := nu_alloc (nu_refl u2) (.cells (z16n.map vb).toArray 44)
          have HA10_3 := Lib.hid (Blk.made u2 44 (z16n.map vb).toArray)
          have HB3 := Lib.hid (nu_trans HB2.out hal)
          have HL10 := Lib.hid (show w1.heap.size ≤ u2.heap.size from HB2.out.size)
          have HA11_3 := Lib.hid (Blk.below HA11_2.out hal (Blk.lt HA11_2.out))
          have HNe := Lib.hid (show G11 ≠ u2.heap.size from Nat.ne_of_lt (Blk.lt HA11_2.out))
          clear hal HB2 HA11_2
          go_simp
          go_wp2_with fail
          change K _ (u2.alloc (.cells (z16n.map vb).toArray 44))
          generalize u2.alloc (.cells (z16n.map vb).toArray 44) = u3 at *
          obtain ⟨G10, hG⟩ : ∃ G, G = u2.heap.size := ⟨_, rfl⟩
          rw [← hG] at HA10_3 HL10 HNe
          rw [← hG]
          clear hG
          refine hK.out _ _ HB3.out (fun hHeld => ?_)
          clear hK K hHeld
          simp only [Act.put, List.setIfInBounds_toArray, List.set_cons_zero, List.set_cons_succ]
          refine wpAnyH_ready (rs := [9]) (by kernel_rfl) (by simp) ?_
          refine cons_l rfl (fun K hK => ?_) AllReadyH.nil
          go_simp
          go_at_call 48
          refine ((HCt.out u3 (HG.out.below HB3.out))).mono ?_
          rintro e u4 ⟨rfl, hb⟩
          have HB4 := Lib.hid (nu_trans HB3.out hb)
          have HA10_4 := Lib.hid (Blk.below HA10_3.out hb (Blk.lt HA10_3.out))
          have HA11_4 := Lib.hid (Blk.below HA11_3.out hb (Blk.lt HA11_3.out))
          clear hb HB3 HA10_3 HA11_3
          go_wp2_with fail
          refine hK.out _ _ HB4.out (fun hHeld => ?_)
          clear hK K hHeld
          simp only [Act.put, List.setIfInBounds_toArray, List.set_cons_zero, List.set_cons_succ]
          refine wpAnyH_ready (rs := [12]) (by kernel_rfl) (by simp) ?_
          refine cons_l rfl (fun K hK => ?_) AllReadyH.nil
          refine step_store_blk rfl 44 (.tmp 9) (.tmp 18) rfl G10 (D1.map vb) rfl rfl 44 (z16n.map vb).toArray HA10_4.out (by rw [List.length_map, HL1.out]; rfl) (by rw [List.length_map, HL1.out]; kernel_rfl) (vb_one _) ?_
          have HF := Lib.hid (Blk.fill HA10_4.out (D1.map vb) (by rw [List.length_map, HL1.out]; rfl))
          have HQ := Lib.hid (Blk.farCells HA11_4.out (D1.map vb) HNe.out 0)
          have HBf := Lib.hid (nu_fill (D1.map vb) (g := G10) HL10.out 0 _ HB4.out)
          clear HA10_4 HA11_4 HB4
          generalize u4.setCells G10 0 (D1.map vb) = x1 at *
          refine hK.out _ _ HBf.out (fun hHeld => ?_)
          clear hK K hHeld
          simp only [Act.put, List.setIfInBounds_toArray, List.set_cons_zero, List.set_cons_succ]
          refine wpAnyH_ready (rs := [13]) (by kernel_rfl) (by simp) ?_
          refine cons_l rfl (fun K hK => ?_) AllReadyH.nil
          refine step_store_blk rfl 44 (.tmp 10) (.tmp 21) rfl G11 (D2.map vb) rfl rfl 44 (z16n.map vb).toArray HQ.out (by rw [List.length_map, HL2.out]; rfl) (by rw [List.length_map, HL2.out]; kernel_rfl) (vb_one _) ?_
          have HF2 := Lib.hid (Blk.fill HQ.out (D2.map vb) (by rw [List.length_map, HL2.out]; rfl))
          have HF1 := Lib.hid (Blk.farCells HF.out (D2.map vb) (Ne.symm HNe.out) 0)
          have HBg := Lib.hid (nu_fill (D2.map vb) (g := G11) HL11.out 0 _ HBf.out)
          clear HF HQ HBf
          generalize x1.setCells G11 0 (D2.map vb) = x2 at *
          refine hK.out _ _ HBg.out (fun hHeld => ?_)
          clear hK K hHeld
          simp only [Act.put, List.setIfInBounds_toArray, List.set_cons_zero, List.set_cons_succ]
          refine wpAnyH_done (by kernel_rfl) ?_ _
          go_wp2_with fail
          go_meet
          exact ⟨G10, G11, rfl, rfl, HF1.out, HF2.out, (Ne.symm HNe.out), HL10.out, HL11.out, HBg.out⟩
      · have hal := nu_alloc (nu_refl u1) (.cells (z16n.map vb).toArray 44)
        have HA10_2 := Lib.hid (Blk.made u1 44 (z16n.map vb).toArray)
        have HB2 := Lib.hid (nu_trans HB1.out hal)
        have HL10 := Lib.hid (show w1.heap.size ≤ u1.heap.size from HB1.out.size)
        have HA11_2 := Lib.hid (Blk.below HA11_1.out hal (Blk.lt HA11_1.out))
        have HNe := Lib.hid (show G11 ≠ u1.heap.size from Nat.ne_of_lt (Blk.lt HA11_1.out))
        clear hal HB1 HA11_1
        go_simp
        go_wp2_with fail
        change K _ (u1.alloc (.cells (z16n.map vb).toArray 44))
        generalize u1.alloc (.cells (z16n.map vb).toArray 44) = u2 at *
        obtain ⟨G10, hG⟩ : ∃ G, G = u1.heap.size := ⟨_, rfl⟩
        rw [← hG] at HA10_2 HL10 HNe
        rw [← hG]
        clear hG
        refine hK.out _ _ HB2.out (fun hHeld => ?_)
        clear hK K hHeld
        simp only [Act.put, List.setIfInBounds_toArray, List.set_cons_zero, List.set_cons_succ]
        refine wpAnyH_ready (rs := [6]) (by kernel_rfl) (by simp) ?_
        refine cons_l rfl (fun K hK => ?_) AllReadyH.nil
        go_simp
        go_at_call 49
        refine (gh_sum_isg HD1.out (show KeyAt u2 g h from Blk.below HKA.out HB2.out (Blk.lt HKA.out)) Hh.out (Hx.out.keep HB2.out) (Hy.out.keep HB2.out) Hla.out Hlt.out Hac.out Htc.out).mono ?_
        rintro e u3 ⟨rfl, hb⟩
        have HB3 := Lib.hid (nu_trans HB2.out hb)
        have HA10_3 := Lib.hid (Blk.below HA10_2.out hb (Blk.lt HA10_2.out))
        have HA11_3 := Lib.hid (Blk.below HA11_2.out hb (Blk.lt HA11_2.out))
        clear hb HB2 HA10_2 HA11_2
        go_wp2_with fail
        refine hK.out _ _ HB3.out (fun hHeld => ?_)
        clear hK K hHeld
        simp only [Act.put, List.setIfInBounds_toArray, List.set_cons_zero, List.set_cons_succ]
        refine wpAnyH_ready (rs := [9]) (by kernel_rfl) (by simp) ?_
        refine cons_l rfl (fun K hK => ?_) AllReadyH.nil
        go_simp
        go_at_call 48
        refine ((HCt.out u3 (HG.out.below HB3.out))).mono ?_
        rintro e u4 ⟨rfl, hb⟩
        have HB4 := Lib.hid (nu_trans HB3.out hb)
        have HA10_4 := Lib.hid (Blk.below HA10_3.out hb (Blk.lt HA10_3.out))
        have HA11_4 := Lib.hid (Blk.below HA11_3.out hb (Blk.lt HA11_3.out))
        clear hb HB3 HA10_3 HA11_3
        go_wp2_with fail
        refine hK.out _ _ HB4.out (fun hHeld => ?_)
        clear hK K hHeld
        simp only [Act.put, List.setIfInBounds_toArray, List.set_cons_zero, List.set_cons_succ]
        refine wpAnyH_ready (rs := [12]) (by kernel_rfl) (by simp) ?_
        refine cons_l rfl (fun K hK => ?_) AllReadyH.nil
        refine step_store_blk rfl 44 (.tmp 9) (.tmp 18) rfl G10 (D1.map vb) rfl rfl 44 (z16n.map vb).toArray HA10_4.out (by rw [List.length_map, HL1.out]; rfl) (by rw [List.length_map, HL1.out]; kernel_rfl) (vb_one _) ?_
        have HF := Lib.hid (Blk.fill HA10_4.out (D1.map vb) (by rw [List.length_map, HL1.out]; rfl))
        have HQ := Lib.hid (Blk.farCells HA11_4.out (D1.map vb) HNe.out 0)
        have HBf := Lib.hid (nu_fill (D1.map vb) (g := G10) HL10.out 0 _ HB4.out)
        clear HA10_4 HA11_4 HB4
        generalize u4.setCells G10 0 (D1.map vb) = x1 at *
        refine hK.out _ _ HBf.out (fun hHeld => ?_)
        clear hK K hHeld
        simp only [Act.put, List.setIfInBounds_toArray, List.set_cons_zero, List.set_cons_succ]
        refine wpAnyH_ready (rs := [13]) (by kernel_rfl) (by simp) ?_
        refine cons_l rfl (fun K hK => ?_) AllReadyH.nil
        refine step_store_blk rfl 44 (.tmp 10) (.tmp 21) rfl G11 (D2.map vb) rfl rfl 44 (z16n.map vb).toArray HQ.out (by rw [List.length_map, HL2.out]; rfl) (by rw [List.length_map, HL2.out]; kernel_rfl) (vb_one _) ?_
        have HF2 := Lib.hid (Blk.fill HQ.out (D2.map vb) (by rw [List.length_map, HL2.out]; rfl))
        have HF1 := Lib.hid (Blk.farCells HF.out (D2.map vb) (Ne.symm HNe.out) 0)
        have HBg := Lib.hid (nu_fill (D2.map vb) (g := G11) HL11.out 0 _ HBf.out)
        clear HF HQ HBf
        generalize x1.setCells G11 0 (D2.map vb) = x2 at *
        refine hK.out _ _ HBg.out (fun hHeld => ?_)
        clear hK K hHeld
        simp only [Act.put, List.setIfInBounds_toArray, List.set_cons_zero, List.set_cons_succ]
        refine wpAnyH_done (by kernel_rfl) ?_ _
        go_wp2_with fail
        go_meet
        exact ⟨G10, G11, rfl, rfl, HF1.out, HF2.out, (Ne.symm HNe.out), HL10.out, HL11.out, HBg.out⟩
  case rest =>
    obtain ⟨A, B, rfl, rfl, hA, hB, hAB, hlA, hlB, hb⟩ := hcut
    have HAw := Lib.hid (show w.heap.size ≤ A ∧ A ≠ B from ⟨Nat.le_trans HPw.out hlA, hAB⟩)
    have hn := nu_trans Hal.out hb
    have HA := Lib.hid (show Blk wc A 44 ((doneF Tg D1 0).map vb).toArray by rw [doneF_zero]; exact hA)
    have HB := Lib.hid hB
    clear hA hB hAB hlA hlB hb HP HG HX HXl HKA HK Hh Hx Hy Hla Hlt Hac Htc HD1 HCt Hal HPw
    go_wp2_with fail
    go_loopw [22] (fun i wr => ∃ k : Nat, k ≤ 16 ∧ i = .int .i64 k ∧ Blk wr A 44 ((doneF Tg D1 k).map vb).toArray ∧ Blk wr B 44 (D2.map vb).toArray ∧ Below w.heap.size w wr) (fun i _ => 16 - (intOf i).toNat)
    case atStart => exact ⟨0, by omega, rfl, HA.out, HB.out, hn⟩
    case round =>
      clear HA HB hn
      obtain ⟨i, hi16, rfl, hA, hB, hn⟩ := hrel
      by_cases hilt : i < 16
      · have hii : (i : Int) < 16 := by omega
        obtain ⟨x, hx⟩ : ∃ x, D1[i]? = some x := ⟨_, List.getElem?_eq_getElem (by rw [HL1.out]; exact hilt)⟩
        obtain ⟨y, hy⟩ : ∃ y, D2[i]? = some y := ⟨_, List.getElem?_eq_getElem (by rw [HL2.out]; exact hilt)⟩
        have hx8 := HS1.out x (List.mem_of_getElem? hx)
        have hy8 := HS2.out y (List.mem_of_getElem? hy)
        obtain ⟨z, hz⟩ : ∃ z, z = x ^^^ y := ⟨_, rfl⟩
        have hxx := u8_xor_nat x y hx8 hy8
        rw [← hz] at hxx
        have hT : Tg[i]? = some z := by rw [HTe.out, hz]; exact xorL_at hx hy
        have hold : (doneF Tg D1 i)[i]? = some x := by rw [doneF_old _ _ 16 i i HTl.out (Nat.le_refl _) hi16, hx]
        have cA : wr.cell? ⟨A, i, none⟩ = some (.int .u8 (x : Int)) := hA.at i _ (arrg_at vb _ i x hold)
        have cB : wr.cell? ⟨B, i, none⟩ = some (.int .u8 (y : Int)) := hB.at i _ (arrg_at vb _ i y hy)
        have hset := hA.drew.put i (vb z)
        rw [arrg_set, doneF_set _ _ 16 i z HTl.out HL1.out hilt hT] at hset
        have HA1 := Lib.hid hset
        have HB1 := Lib.hid (hB.drew.far (p := ⟨A, i, none⟩) (Ne.symm HAw.out.2) (vb z))
        have hn1 := nu_set hn.drew (p := ⟨A, i, none⟩) HAw.out.1 (vb z)
        have cA2 : wr.drew.cell? ⟨A, i, none⟩ = some (.int .u8 (x : Int)) := hA.drew.at i _ (arrg_at vb _ i x hold)
        have fA2 := hA.drew.free i
        simp only [vb] at HA1 HB1 hn1
        have HD := Lib.hid (And.intro cA2 fA2)
        clear hx hy hx8 hy8 hz hT hold hset cA2 fA2 hA hB hn
        go_upto_region 5 with fail
        go_still_tail 8, (by kernel_rfl)
        change wpList _ _ _ _ _ wr.drew
        clear cA cB hxx
        obtain ⟨cA2, fA2⟩ := HD.out
        clear HD
        generalize wr.drew = w6 at *
        go_wp2_with fail
        clear cA2 fA2
        generalize w6.setCell ⟨A, i, none⟩ (.int .u8 (z : Int)) = w7 at *
        go_roundw
        case rel => first | exact ⟨i + 1, by omega, by go_num, HA1.out, HB1.out, hn1⟩ | ((repeat apply Exists.intro); exact ⟨⟨i + 1, by omega, by go_num, HA1.out, HB1.out, hn1⟩, rfl⟩)
        case measure => simp [intOf]; omega
      · obtain rfl : i = 16 := by omega
        rw [doneF_all _ _ 16 HTl.out HL1.out] at hA
        have HA := Lib.hid hA
        have Hn := Lib.hid hn
        clear hA hB hn
        go_wp2_with fail
        go_ret
        exact ⟨A, rfl, HAw.out.1, HA.out, Hn.out⟩
end Go.Proofs.Ytpeibkdcglkimaa

namespace Go.Proofs.Ytpeibkdcglkimaa
open Go.ChangeShapes Go.WideShapes Go.ChangeAt Go.RowKit

theorem or_none (p x y : Nat) (xs ys : List Nat) (k : Nat) (hx : xs[k]? = some x) (hy : ys[k]? = some y) (h : p = 0 ↔ xs.take k = ys.take k) :
    p ||| (x ^^^ y) = 0 ↔ xs.take (k + 1) = ys.take (k + 1) := by
  have e : p ||| (x ^^^ y) = 0 ↔ p = 0 ∧ x = y := by
    constructor
    · intro h0
      have h1 : p = 0 := Nat.eq_zero_of_le_zero (h0 ▸ Nat.left_le_or)
      have h2 : x ^^^ y = 0 := Nat.eq_zero_of_le_zero (h0 ▸ Nat.right_le_or)
      refine ⟨h1, ?_⟩
      have h3 : (x ^^^ y) ^^^ y = 0 ^^^ y := by rw [h2]
      rw [Nat.xor_assoc, Nat.xor_self, Nat.xor_zero, Nat.zero_xor] at h3
      exact h3
    · rintro ⟨rfl, rfl⟩
      simp
  rw [e, h, List.take_add_one, List.take_add_one, hx, hy]
  constructor
  · rintro ⟨h1, rfl⟩
    rw [h1]
  · intro h1
    have h2 := List.append_inj' h1 rfl
    exact ⟨h2.1, by simpa using h2.2⟩

set_option maxRecDepth 100000 in
set_option maxHeartbeats 1000000 in
theorem macSame_len (a b : Option Addr) (la ca cb : Nat) (xs ys : List Nat) (w : World) (ha : IntsIn w .u8 a la xs) (hb : IntsIn w .u8 b la ys) (hla : la ≤ 9223372036854775807) :
    Calls Try.prog 32 #[.slice a la ca, .slice b la cb] w fun e w' => e = .returned (.bool (decide (xs = ys))) ∧ ∃ n, w' = w.drewN n := by
  go_enter Try.func32, Try.ntmps32
  go_wp2_with fail
  go_loopw [5, 14] (fun p i wr => ∃ k P : Nat, k ≤ la ∧ i = .int .i64 k ∧ p = .int .u8 P ∧ P < 256 ∧ (P = 0 ↔ xs.take k = ys.take k) ∧ ∃ n, wr = w.drewN n) (fun _ i _ => la - (intOf i).toNat)
  case atStart => exact ⟨0, 0, by omega, rfl, rfl, by omega, by simp, 0, rfl⟩
  case round =>
    obtain ⟨k, P, hk, rfl, rfl, hP, ht, n, rfl⟩ := hrel
    have Ht := Lib.hid ht
    clear ht
    by_cases hlt : k < la
    · obtain ⟨b1, o1, x, rfl, hb1, hx, hwx, hcx⟩ := ha.elem k hlt
      obtain ⟨b2, o2, y, rfl, hb2, hy, hwy, hcy⟩ := hb.elem k hlt
      have hx8 := wf_u8_lt hwx
      have hy8 := wf_u8_lt hwy
      have Hn := Lib.hid (or_none P x y xs ys k hx hy Ht.out)
      have Hl := Lib.hid (Nat.or_lt_two_pow (n := 8) hP (Nat.xor_lt_two_pow (n := 8) hx8 hy8))
      have e1 := u8_xor_nat x y hx8 hy8
      have e2 := u8_or_nat P (x ^^^ y) hP (Nat.xor_lt_two_pow (n := 8) hx8 hy8)
      clear hx hy hwx hwy Ht
      have hi : (k : Int) < (la : Int) := by omega
      generalize P ||| (x ^^^ y) = q at *
      generalize x ^^^ y = z at *
      go_wp2_with fail
      go_quiet (fail)
      go_wp2_with fail
      go_roundw
      case rel => exact ⟨k + 1, q, by omega, by go_num, rfl, Hl.out, Hn.out, _, rfl⟩
      case measure => simp [intOf]; omega
    · obtain rfl : k = la := by omega
      have He : P = 0 ↔ xs = ys := by
        have h := Ht.out
        rw [List.take_of_length_le (by rw [ha.1]; exact Nat.le_refl _), List.take_of_length_le (by rw [hb.1]; exact Nat.le_refl _)] at h
        exact h
      by_cases hP0 : P = 0
      · have He2 := Lib.hid (He.1 hP0)
        subst hP0
        clear He Ht
        go_wp2_with fail
        go_ret
        exact ⟨by rw [decide_eq_true He2.out]; rfl, _, rfl⟩
      · have He2 := Lib.hid (fun e => hP0 (He.2 e))
        have t : ((P : Int) == 0) = false := by rw [beq_eq_false_iff_ne]; omega
        clear He Ht hP0
        go_wp2_with fail
        go_ret
        exact ⟨by rw [decide_eq_false He2.out]; rfl, _, rfl⟩

theorem macSame_any (a b : Option Addr) (la lb ca cb : Nat) (xs ys : List Nat) (w : World) (ha : IntsIn w .u8 a la xs) (hb : IntsIn w .u8 b lb ys) (hla : la ≤ 9223372036854775807) (hlb : lb ≤ 9223372036854775807) :
    Calls Try.prog 32 #[.slice a la ca, .slice b lb cb] w fun e w' => e = .returned (.bool (decide (xs = ys))) ∧ ∃ n, w' = w.drewN n := by
  by_cases hl : la = lb
  · subst hl
    exact macSame_len a b la ca cb xs ys w ha hb hla
  · have Hne := Lib.hid (show xs ≠ ys from fun e => hl (by rw [← ha.1, ← hb.1, e]))
    have t : ((la : Int) != (lb : Int)) = true := by rw [bne_iff_ne]; omega
    clear hl
    go_enter Try.func32, Try.ntmps32
    go_wp2_with fail
    go_ret
    exact ⟨by rw [decide_eq_false Hne.out]; rfl, 0, rfl⟩
theorem macSame_is {a b : Option Addr} {la lb ca cb : Nat} {xs ys : List Nat} {w : World} (v : Bool) (hv : decide (xs = ys) = v) (ha : IntsIn w .u8 a la xs) (hb : IntsIn w .u8 b lb ys) (hla : la ≤ 9223372036854775807) (hlb : lb ≤ 9223372036854775807) :
    Calls Try.prog 32 #[.slice a la ca, .slice b lb cb] w fun e w' => e = .returned (.bool v) ∧ ∃ n, w' = w.drewN n := by
  rw [← hv]
  exact macSame_any a b la lb ca cb xs ys w ha hb hla hlb
end Go.Proofs.Ytpeibkdcglkimaa
