/-
  The walk of the document's add (law06).
-/
import Derived.Test.YtnojbjconiddoaaAesR1
import Derived.Deep.DeepCutAuto
namespace Go.Proofs.Ytnojbjconiddoaa
open Go.ChangeShapes Go.WideShapes Go.ChangeAt Go.RowKit Fld Aes
set_option linter.unusedSimpArgs false

theorem addK_lenx (W : List Nat) (r : Nat) (b : List Nat) : (addK W r b).length = 16 := by simp [addK]
theorem addK_ix (W : List Nat) (r : Nat) (b : List Nat) (i : Nat) (h : i < 16) : (addK W r b)[i]? = some (b.getD i 0 ^^^ wb (W.getD (4 * r + i / 4) 0) (i % 4)) := by
  unfold addK
  rw [List.getElem?_map, List.getElem?_range h]
  rfl
set_option maxRecDepth 100000 in
set_option maxHeartbeats 4000000 in
theorem refAdd_any {w : World} {v : Value} {W : List Nat} (hv : RowsAt w v W) (rd : Nat) (hr : 4 * rd + 4 ≤ W.length) (hr60 : rd ≤ 60) (b : List Nat) (hb : St16 b) :
    Calls Try.prog 55 #[.agg (keyL v).toArray, .agg (b.map vb).toArray, .int .i64 (rd : Int)] w fun e w' => e = .returned (.agg ((addK W rd b).map vb).toArray) ∧ Below w.heap.size w w' := by
  obtain ⟨m, c, cur, rfl, hm, htk, hlc, hcm⟩ := hv
  unfold maxLen at hcm
  have hml := hm.lt
  have Hm := Lib.hid hm
  have Ht := Lib.hid htk
  have Hb := Lib.hid hb
  obtain ⟨n, hn⟩ : ∃ n, n = W.length := ⟨_, rfl⟩
  have Hn := Lib.hid hn
  rw [← hn] at hlc hr ⊢
  obtain ⟨KL, hKL⟩ : ∃ KL, KL = (keyL (.slice (some ⟨m, 0, none⟩) n c)).toArray := ⟨_, rfl⟩
  have HK0 := Lib.hid (show KL[0]? = some (.slice (some ⟨m, 0, none⟩) n c) by rw [hKL]; exact keyL_0 _)
  rw [← hKL]
  have hal := nu_alloc (nu_alloc (nu_alloc (nu_refl w) (.cells KL 44)) (.cells (b.map vb).toArray 22)) (.cells (z16n.map vb).toArray 22)
  have HK := Lib.hid (((Blk.made w 44 KL).alloc (.cells (b.map vb).toArray 22)).alloc (.cells (z16n.map vb).toArray 22))
  have HB := Lib.hid ((Blk.made1 w (.cells KL 44) 22 (b.map vb).toArray).alloc (.cells (z16n.map vb).toArray 22))
  have HZ := Lib.hid (Blk.made2 w (.cells KL 44) (.cells (b.map vb).toArray 22) 22 (z16n.map vb).toArray)
  obtain ⟨A, hA⟩ : ∃ A, A = addK W rd b := ⟨_, rfl⟩
  have HAl := Lib.hid (show A.length = 16 by rw [hA]; exact addK_lenx W rd b)
  have HAa := Lib.hid (show ∀ i, i < 16 → A[i]? = some (b.getD i 0 ^^^ wb (W.getD (4 * rd + i / 4) 0) (i % 4)) by rw [hA]; exact addK_ix W rd b)
  rw [← hA]
  clear hm htk hb hn hKL hA
  go_enter Try.func55, Try.ntmps55
  go_upto_region 1 with fail
  change Code.wp _ _ _ _ (((w.alloc (.cells KL 44)).alloc (.cells (b.map vb).toArray 22)).alloc (.cells (z16n.map vb).toArray 22))
  generalize ((w.alloc (.cells KL 44)).alloc (.cells (b.map vb).toArray 22)).alloc (.cells (z16n.map vb).toArray 22) = w1 at *
  obtain ⟨B, hB⟩ : ∃ B, B = w.heap.size + 1 := ⟨_, rfl⟩
  obtain ⟨Z, hZ⟩ : ∃ Z, Z = w.heap.size + 1 + 1 := ⟨_, rfl⟩
  obtain ⟨K, hK⟩ : ∃ K, K = w.heap.size := ⟨_, rfl⟩
  rw [← hB] at HB
  rw [← hZ] at HZ
  rw [← hK] at HK
  rw [← hZ, ← hB, ← hK]
  have Hap := Lib.hid (show K ≠ B ∧ Z ≠ B ∧ w.heap.size ≤ B ∧ w.heap.size ≤ Z from ⟨by omega, by omega, by omega, by omega⟩)
  clear hZ hB hK
  go_wp2_with fail
  go_loopw [7] (fun i wr => ∃ k : Nat, k ≤ 16 ∧ i = .int .i64 k ∧ Blk wr K 44 KL ∧ Blk wr B 22 ((doneF A b k).map vb).toArray ∧ Blk wr Z 22 (z16n.map vb).toArray ∧ Below w.heap.size w wr) (fun i _ => 16 - (intOf i).toNat)
  case atStart => exact ⟨0, by omega, rfl, HK.out, HB.out, HZ.out, hal⟩
  case round =>
    clear HK HB HZ hal
    obtain ⟨i, hi16, rfl, hK, hB, hZ, hn⟩ := hrel
    have HK := Lib.hid hK
    have HB := Lib.hid hB
    have HZ := Lib.hid hZ
    clear hK hB hZ
    by_cases hilt : i < 16
    · have hii : (i : Int) < 16 := by omega
      obtain ⟨q, hq⟩ : ∃ q, q = i / 4 := ⟨_, rfl⟩
      obtain ⟨r, hr'⟩ : ∃ r, r = i % 4 := ⟨_, rfl⟩
      have ek : (i : Int) / 4 = (q : Int) := by omega
      have em : (i : Int) % 4 = (r : Int) := by omega
      have etq : Int.tdiv (i : Int) 4 = (q : Int) := by rw [Int.tdiv_eq_ediv_of_nonneg (by omega)]; omega
      have etr : Int.tmod (i : Int) 4 = (r : Int) := by rw [Int.tmod_eq_emod_of_nonneg (by omega)]; omega
      have wq : IntKind.i64.wrap (q : Int) = (q : Int) := by rw [IntKind.wrap_i64]; omega
      have wr0 : IntKind.i64.wrap (r : Int) = (r : Int) := by rw [IntKind.wrap_i64]; omega
      have hri : (r : Int) < 4 := by omega
      obtain ⟨d4, hd4⟩ : ∃ d4, d4 = 4 * rd := ⟨_, rfl⟩
      have w4 : IntKind.i64.wrap (4 * (rd : Int)) = (d4 : Int) := by rw [IntKind.wrap_i64]; omega
      obtain ⟨p, hp⟩ : ∃ p, p = d4 + q := ⟨_, rfl⟩
      have w5 : IntKind.i64.wrap ((d4 : Int) + (q : Int)) = (p : Int) := by rw [IntKind.wrap_i64]; omega
      have hpl : (p : Int) < (n : Int) := by omega
      obtain ⟨x, hx⟩ : ∃ x, x = b.getD i 0 := ⟨_, rfl⟩
      have hx8 : x < 256 := by rw [hx]; exact Hb.out.getD i
      have hxi : b[i]? = some x := by rw [hx, List.getD_eq_getElem?_getD, List.getElem?_eq_getElem (by rw [Hb.out.1]; exact hilt)]; rfl
      obtain ⟨y, hy⟩ : ∃ y, y = wb (W.getD p 0) r := ⟨_, rfl⟩
      have hy8 : y < 256 := by rw [hy]; exact wb_lt _ _
      obtain ⟨z, hz⟩ : ∃ z, z = x ^^^ y := ⟨_, rfl⟩
      have hxx := u8_xor_nat x y hx8 hy8
      rw [← hz] at hxx
      have hA := HAa.out i hilt
      rw [← hq, ← hr', ← hd4, ← hp, ← hx, ← hy, ← hz] at hA
      have hold : (doneF A b i)[i]? = some x := by rw [doneF_old _ _ 16 i i HAl.out (Nat.le_refl _) hi16, hxi]
      have cB : wr.cell? ⟨B, i, none⟩ = some (.int .u8 (x : Int)) := HB.out.at i _ (arrg_at vb _ i x hold)
      have cK : wr.cell? ⟨K, 0, none⟩ = some (.slice (some ⟨m, 0, none⟩) n c) := HK.out.at 0 _ HK0.out
      have cW : wr.cell? ⟨m, p * 4 + r, none⟩ = some (.int .u8 (y : Int)) := by
        rw [hn.cell (p := ⟨m, p * 4 + r, none⟩) hml, hy]
        exact rows_cell Hm.out Ht.out p r (by rw [← Hn.out]; omega) (by omega)
      have h1 := HB.out.drew.put i (vb z)
      rw [arrg_set, doneF_set _ _ 16 i z HAl.out Hb.out.1 hilt hA] at h1
      have HB1 := Lib.hid h1
      have HK1 := Lib.hid (HK.out.drew.far (p := ⟨B, i, none⟩) Hap.out.1 (vb z))
      have HZ1 := Lib.hid (HZ.out.drew.far (p := ⟨B, i, none⟩) Hap.out.2.1 (vb z))
      have hn1 := nu_set hn.drew (p := ⟨B, i, none⟩) Hap.out.2.2.1 (vb z)
      have cB2 : wr.drew.cell? ⟨B, i, none⟩ = some (.int .u8 (x : Int)) := HB.out.drew.at i _ (arrg_at vb _ i x hold)
      have fB2 := HB.out.drew.free i
      simp only [vb] at HB1 HK1 HZ1 hn1
      have HD := Lib.hid (And.intro cB2 fB2)
      clear hq hr' hd4 hp hx hy hz hA hold h1 HK HB HZ hn cB2 fB2 hxi hx8 hy8
      go_upto_region 4 with fail
      go_still_tail 18, (by kernel_rfl)
      change wpList _ _ _ _ _ wr.drew
      clear cB cK cW hxx ek em etq etr wq wr0 hri w4 w5 hpl
      obtain ⟨cB2, fB2⟩ := HD.out
      clear HD
      generalize wr.drew = w6 at *
      go_wp2_with fail
      clear cB2 fB2
      generalize w6.setCell ⟨B, i, none⟩ (.int .u8 (z : Int)) = w7 at *
      go_roundw
      case rel => first | exact ⟨i + 1, by omega, by go_num, HK1.out, HB1.out, HZ1.out, hn1⟩ | ((repeat apply Exists.intro); exact ⟨⟨i + 1, by omega, by go_num, HK1.out, HB1.out, HZ1.out, hn1⟩, rfl⟩)
      case measure => simp [intOf]; omega
    · obtain rfl : i = 16 := by omega
      have hB := HB.out
      rw [doneF_all _ _ 16 HAl.out Hb.out.1] at hB
      obtain ⟨D, hD⟩ : ∃ D, D = A.map vb := ⟨_, rfl⟩
      rw [← hD] at hB
      have HB2 := Lib.hid hB
      have HD16 := Lib.hid (show D.length = 16 by rw [hD, List.length_map, HAl.out])
      have HD1 := Lib.hid (show ∀ u ∈ D, u.oneCell' = true by rw [hD]; exact vb_one _)
      have HDe := Lib.hid hD
      have HF := Lib.hid (Blk.fill HZ.out D (by rw [HD16.out]; rfl))
      have Hnf := Lib.hid (nu_fill D (g := Z) Hap.out.2.2.2 0 _ hn)
      clear hB HB hD hn HK
      go_wp2_with (first | (refine wpList_load_blk rfl 22 (.tmp 4) rfl B rfl 22 D.toArray HB2.out Try.underlying22 (by rw [List.size_toArray, HD16.out]; kernel_rfl) ?_) | (refine wpList_store_blk rfl 22 (.tmp 6) (.tmp 30) rfl Z D rfl rfl 22 (z16n.map vb).toArray HZ.out (by rw [HD16.out]; rfl) (by rw [HD16.out]; kernel_rfl) HD1.out ?_))
      refine bodyPost_ret (results_blk rfl _ Z 22 D.toArray rfl HF.out Try.underlying22 (by rw [List.size_toArray, HD16.out]; kernel_rfl)) rfl ⟨by rw [HDe.out], Hnf.out⟩
end Go.Proofs.Ytnojbjconiddoaa
