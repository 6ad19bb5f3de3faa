/-
  The walk of the document's mixed (law06).
-/
import Derived.Test.YtnojbjconiddoaaAesR1
import Derived.Deep.DeepCutAuto
namespace Go.Proofs.Ytnojbjconiddoaa
open Go.ChangeShapes Go.WideShapes Go.ChangeAt Go.RowKit Fld Aes
set_option linter.unusedSimpArgs false

set_option maxRecDepth 100000 in
set_option maxHeartbeats 4000000 in
theorem refMixed_any {w : World} (f0 f1 f2 f3 : Nat) (h0 : f0 < 256) (h1 : f1 < 256) (h2 : f2 < 256) (h3 : f3 < 256) (b : List Nat) (hb : St16 b) :
    Calls Try.prog 56 #[.agg (b.map vb).toArray, .agg ([f0, f1, f2, f3].map vb).toArray] w fun e w' => e = .returned (.agg ((mix f0 f1 f2 f3 b).map vb).toArray) ∧ Below w.heap.size w w' := by
  have Hb := Lib.hid hb
  obtain ⟨f, hf⟩ : ∃ f, f = [f0, f1, f2, f3] := ⟨_, rfl⟩
  have Hf := Lib.hid (show ∀ x ∈ f, x < 256 by
    rw [hf]
    intro x hx
    simp only [List.mem_cons, List.not_mem_nil, or_false] at hx
    rcases hx with rfl | rfl | rfl | rfl <;> assumption)
  have Hfl := Lib.hid (show f.length = 4 by rw [hf]; rfl)
  obtain ⟨M, hM⟩ : ∃ M, M = mix f0 f1 f2 f3 b := ⟨_, rfl⟩
  have HMl := Lib.hid (show M.length = 16 by rw [hM]; exact (mix_st f0 f1 f2 f3 h0 h1 h2 h3 b).1)
  have HMa := Lib.hid (show ∀ c r, c < 4 → r < 4 → M[4 * c + r]? = some (mixJ f b c r 4) by rw [hM, hf]; exact mix_at4 f0 f1 f2 f3 b)
  rw [← hf, ← hM]
  have hal := nu_alloc (nu_alloc (nu_alloc (nu_alloc (nu_refl w) (.cells (b.map vb).toArray 22)) (.cells (f.map vb).toArray 51)) (.cells (z16n.map vb).toArray 22)) (.cells (z16n.map vb).toArray 22)
  have HB := Lib.hid ((((Blk.made w 22 (b.map vb).toArray).alloc (.cells (f.map vb).toArray 51)).alloc (.cells (z16n.map vb).toArray 22)).alloc (.cells (z16n.map vb).toArray 22))
  have HF := Lib.hid (((Blk.made1 w (.cells (b.map vb).toArray 22) 51 (f.map vb).toArray).alloc (.cells (z16n.map vb).toArray 22)).alloc (.cells (z16n.map vb).toArray 22))
  have HZ := Lib.hid ((Blk.made2 w (.cells (b.map vb).toArray 22) (.cells (f.map vb).toArray 51) 22 (z16n.map vb).toArray).alloc (.cells (z16n.map vb).toArray 22))
  have HT := Lib.hid (Blk.made3 w (.cells (b.map vb).toArray 22) (.cells (f.map vb).toArray 51) (.cells (z16n.map vb).toArray 22) 22 (z16n.map vb).toArray)
  clear hb hf hM h0 h1 h2 h3
  go_enter Try.func56, Try.ntmps56
  go_upto_region 2 with fail
  change Code.wp _ _ _ _ ((((w.alloc (.cells (b.map vb).toArray 22)).alloc (.cells (f.map vb).toArray 51)).alloc (.cells (z16n.map vb).toArray 22)).alloc (.cells (z16n.map vb).toArray 22))
  generalize (((w.alloc (.cells (b.map vb).toArray 22)).alloc (.cells (f.map vb).toArray 51)).alloc (.cells (z16n.map vb).toArray 22)).alloc (.cells (z16n.map vb).toArray 22) = w1 at *
  obtain ⟨T, hT⟩ : ∃ T, T = w.heap.size + 1 + 1 + 1 := ⟨_, rfl⟩
  obtain ⟨Z, hZ⟩ : ∃ Z, Z = w.heap.size + 1 + 1 := ⟨_, rfl⟩
  obtain ⟨F, hF⟩ : ∃ F, F = w.heap.size + 1 := ⟨_, rfl⟩
  obtain ⟨B, hB⟩ : ∃ B, B = w.heap.size := ⟨_, rfl⟩
  rw [← hT] at HT
  rw [← hZ] at HZ
  rw [← hF] at HF
  rw [← hB] at HB
  rw [← hT, ← hZ, ← hF, ← hB]
  have Hap := Lib.hid (show B ≠ T ∧ F ≠ T ∧ Z ≠ T ∧ w.heap.size ≤ T ∧ w.heap.size ≤ Z from ⟨by omega, by omega, by omega, by omega, by omega⟩)
  clear hT hZ hF hB
  go_wp2_with fail
  go_loopw [6] (fun i wr => ∃ k : Nat, k ≤ 4 ∧ i = .int .i64 k ∧ Blk wr B 22 (b.map vb).toArray ∧ Blk wr F 51 (f.map vb).toArray ∧ Blk wr T 22 ((doneF M z16n (4 * k)).map vb).toArray ∧ Blk wr Z 22 (z16n.map vb).toArray ∧ Below w.heap.size w wr) (fun i _ => 4 - (intOf i).toNat)
  case atStart => exact ⟨0, by omega, rfl, HB.out, HF.out, HT.out, HZ.out, hal⟩
  case round =>
    clear HB HF HT HZ hal
    obtain ⟨c, hc4, rfl, hB, hF, hT, hZ, hn⟩ := hrel
    by_cases hclt : c < 4
    · have hci : (c : Int) < 4 := by omega
      obtain ⟨wo, rfl⟩ : ∃ q : World, q = wr := ⟨_, rfl⟩
      go_wp2_with fail
      go_loopw [7] (fun i wr => ∃ k : Nat, k ≤ 4 ∧ i = .int .i64 k ∧ Blk wr B 22 (b.map vb).toArray ∧ Blk wr F 51 (f.map vb).toArray ∧ Blk wr T 22 ((doneF M z16n (4 * c + k)).map vb).toArray ∧ Blk wr Z 22 (z16n.map vb).toArray ∧ Below w.heap.size w wr) (fun i _ => 4 - (intOf i).toNat)
      case atStart => exact ⟨0, by omega, rfl, hB, hF, hT, hZ, hn⟩
      case round =>
        clear hB hF hT hZ hn
        obtain ⟨r, hr4, rfl, hB, hF, hT, hZ, hn⟩ := hrel
        by_cases hrlt : r < 4
        · have hri : (r : Int) < 4 := by omega
          obtain ⟨i, hi⟩ : ∃ i, i = 4 * c + r := ⟨_, rfl⟩
          have hilt : i < 16 := by omega
          have hii : (i : Int) < 16 := by omega
          rw [← hi] at hT
          have hold : (doneF M z16n i)[i]? = some 0 := by
            rw [doneF_old _ _ 16 i i HMl.out (Nat.le_refl _) (by omega)]
            exact z16_at i hilt
          have h0 : (doneF M z16n i) = (doneF M z16n i).set i (mixJ f b c r 0) := by
            apply List.ext_getElem?
            intro j
            rw [List.getElem?_set]
            by_cases e : i = j
            · subst e
              rw [if_pos rfl, if_pos (by rw [doneF_len M z16n 16 i HMl.out rfl (by omega)]; exact hilt), hold]; rfl
            · rw [if_neg e]
          rw [h0] at hT
          obtain ⟨wo, rfl⟩ : ∃ q : World, q = wr := ⟨_, rfl⟩
          have Hi := Lib.hid hi
          clear h0 hold hi
          go_wp2_with fail
          go_loopw [8] (fun q wr => ∃ k : Nat, k ≤ 4 ∧ q = .int .i64 k ∧ Blk wr B 22 (b.map vb).toArray ∧ Blk wr F 51 (f.map vb).toArray ∧ Blk wr T 22 (((doneF M z16n i).set i (mixJ f b c r k)).map vb).toArray ∧ Blk wr Z 22 (z16n.map vb).toArray ∧ Below w.heap.size w wr) (fun q _ => 4 - (intOf q).toNat)
          case atStart => exact ⟨0, by omega, rfl, hB, hF, hT, hZ, hn⟩
          case round =>
            clear hB hF hT hZ hn
            obtain ⟨j, hj4, rfl, hB, hF, hT, hZ, hn⟩ := hrel
            have HB := Lib.hid hB
            have HF := Lib.hid hF
            have HT := Lib.hid hT
            have HZ := Lib.hid hZ
            clear hB hF hT hZ
            by_cases hjlt : j < 4
            · have hji : (j : Int) < 4 := by omega
              have hi := Hi.out
              obtain ⟨c4, hc⟩ : ∃ c4, c4 = 4 * c := ⟨_, rfl⟩
              have wc : IntKind.i64.wrap (4 * (c : Int)) = (c4 : Int) := by rw [IntKind.wrap_i64]; omega
              have wi : IntKind.i64.wrap ((c4 : Int) + (r : Int)) = (i : Int) := by rw [IntKind.wrap_i64]; omega
              obtain ⟨p, hp⟩ : ∃ p, p = c4 + j := ⟨_, rfl⟩
              have wp : IntKind.i64.wrap ((c4 : Int) + (j : Int)) = (p : Int) := by rw [IntKind.wrap_i64]; omega
              have hpi : (p : Int) < 16 := by omega
              obtain ⟨jr, hjr⟩ : ∃ jr : Int, jr = (j : Int) - (r : Int) := ⟨_, rfl⟩
              have wjr : IntKind.i64.wrap ((j : Int) - (r : Int)) = jr := by rw [IntKind.wrap_i64]; omega
              obtain ⟨s, hs⟩ : ∃ s, s = j + 4 - r := ⟨_, rfl⟩
              have ws : IntKind.i64.wrap (jr + 4) = (s : Int) := by rw [IntKind.wrap_i64]; omega
              obtain ⟨g, hg⟩ : ∃ g, g = s % 4 := ⟨_, rfl⟩
              have eg : (s : Int) % 4 = (g : Int) := by omega
              have egt : Int.tmod (s : Int) 4 = (g : Int) := by rw [Int.tmod_eq_emod_of_nonneg (by omega)]; omega
              have hgi : (g : Int) < 4 := by omega
              have wg : IntKind.i64.wrap (g : Int) = (g : Int) := by rw [IntKind.wrap_i64]; omega
              obtain ⟨x, hx⟩ : ∃ x, x = f.getD g 0 := ⟨_, rfl⟩
              have hx8 : x < 256 := by rw [hx]; exact getD_lt Hf.out g
              have hxg : f[g]? = some x := by rw [hx, List.getD_eq_getElem?_getD, List.getElem?_eq_getElem (by rw [Hfl.out]; omega)]; rfl
              obtain ⟨y, hy⟩ : ∃ y, y = b.getD p 0 := ⟨_, rfl⟩
              have hy8 : y < 256 := by rw [hy]; exact Hb.out.getD p
              have hyp : b[p]? = some y := by rw [hy, List.getD_eq_getElem?_getD, List.getElem?_eq_getElem (by rw [Hb.out.1]; omega)]; rfl
              have cB : wr.cell? ⟨B, p, none⟩ = some (.int .u8 (y : Int)) := HB.out.at p _ (arrg_at vb _ p y hyp)
              have cF : wr.cell? ⟨F, g, none⟩ = some (.int .u8 (x : Int)) := HF.out.at g _ (arrg_at vb _ g x hxg)
              obtain ⟨v, hv⟩ : ∃ v, v = mixJ f b c r j := ⟨_, rfl⟩
              have hv8 : v < 256 := by rw [hv]; exact mixJ_lt f b Hf.out c r j
              have hself := doneF_self M z16n 16 i v HMl.out rfl hilt
              rw [← hv] at HT
              have cT : wr.cell? ⟨T, i, none⟩ = some (.int .u8 (v : Int)) := HT.out.at i _ (arrg_at vb _ i v hself)
              have hnext : mixJ f b c r (j + 1) = v ^^^ gm x y := by rw [mixJ, ← hv, ← hs, ← hg, ← hc, ← hp, ← hx, ← hy]
              obtain ⟨v2, hv2⟩ : ∃ v2, v2 = mixJ f b c r (j + 1) := ⟨_, rfl⟩
              obtain ⟨G, hG⟩ : ∃ G, G = gm x y := ⟨_, rfl⟩
              have hG8 : G < 256 := by rw [hG]; exact gm_lt _ _ hx8
              have hxx := u8_xor_nat v G hv8 hG8
              rw [← hG] at hnext
              rw [← hnext, ← hv2] at hxx
              have hset := HT.out.drew.put i (vb v2)
              rw [arrg_set, List.set_set, hv2] at hset
              have HT1 := Lib.hid hset
              rw [← hv2] at HT1
              have HB1 := Lib.hid (HB.out.drew.far (p := ⟨T, i, none⟩) Hap.out.1 (vb v2))
              have HF1 := Lib.hid (HF.out.drew.far (p := ⟨T, i, none⟩) Hap.out.2.1 (vb v2))
              have HZ1 := Lib.hid (HZ.out.drew.far (p := ⟨T, i, none⟩) Hap.out.2.2.1 (vb v2))
              have hn1 := nu_set hn.drew (p := ⟨T, i, none⟩) Hap.out.2.2.2.1 (vb v2)
              have cT2 : wr.drew.cell? ⟨T, i, none⟩ = some (.int .u8 (v : Int)) := HT.out.drew.at i _ (arrg_at vb _ i v hself)
              have fT2 := HT.out.drew.free i
              simp only [vb] at HT1 HB1 HF1 HZ1 hn1
              have Hj := Lib.hid hv2
              have HD := Lib.hid (And.intro cT2 fT2)
              have HTm := Lib.hid (show Calls Try.prog 66 #[.int .u8 (x : Int), .int .u8 (y : Int)] wr.drew fun e w' => e = .returned (.int .u8 ((G : Nat) : Int)) ∧ w' = wr.drew from by
                rw [hG]
                exact (refTimes_any x y hx8 hy8 wr.drew).mono fun _ _ h => ⟨h.1, h.2.symm⟩)
              clear hi hc hp hjr hs hg hx hx8 hxg hy hy8 hyp hv hv8 hself hnext hv2 hG hG8 hset HT HB HF HZ hn cT2 fT2
              go_upto_region 11 with fail
              go_still_tail 26, (by kernel_rfl)
              still_call HTm.out
              repeat still_step
              refine wpStill_nil ?_
              change wpList _ _ _ _ _ wr.drew
              clear cT cB cF HTm hxx hpi hgi wc wi wp wjr ws eg egt wg
              obtain ⟨cT2, fT2⟩ := HD.out
              clear HD
              generalize wr.drew = w6 at *
              go_wp2_with fail
              clear cT2 fT2
              generalize w6.setCell ⟨T, i, none⟩ (.int .u8 (v2 : Int)) = w7 at *
              go_roundw
              case rel =>
                have hT1 := HT1.out
                rw [Hj.out] at hT1
                first | exact ⟨j + 1, by omega, by go_num, HB1.out, HF1.out, hT1, HZ1.out, hn1⟩ | ((repeat apply Exists.intro); exact ⟨⟨j + 1, by omega, by go_num, HB1.out, HF1.out, hT1, HZ1.out, hn1⟩, rfl⟩)
              case measure => simp [intOf]; omega
            · obtain rfl : j = 4 := by omega
              have hT := HT.out
              have hMa := HMa.out c r hclt hrlt
              rw [← Hi.out] at hMa
              rw [doneF_set _ _ 16 i _ HMl.out rfl hilt hMa, Hi.out] at hT
              have HT2 := Lib.hid hT
              clear hT HT hMa
              go_wp2_with fail
              go_roundw
              case rel => first | exact ⟨r + 1, by omega, by go_num, HB.out, HF.out, HT2.out, HZ.out, hn⟩ | ((repeat apply Exists.intro); exact ⟨⟨r + 1, by omega, by go_num, HB.out, HF.out, HT2.out, HZ.out, hn⟩, rfl⟩)
              case measure => simp [intOf]; omega
        · obtain rfl : r = 4 := by omega
          have HT2 := Lib.hid (show Blk wr T 22 ((doneF M z16n (4 * (c + 1))).map vb).toArray from hT)
          clear hT
          go_wp2_with fail
          go_roundw
          case rel => first | exact ⟨c + 1, by omega, by go_num, hB, hF, HT2.out, hZ, hn⟩ | ((repeat apply Exists.intro); exact ⟨⟨c + 1, by omega, by go_num, hB, hF, HT2.out, hZ, hn⟩, rfl⟩)
          case measure => simp [intOf]; omega
    · obtain rfl : c = 4 := by omega
      rw [show 4 * 4 = 16 from rfl, doneF_all _ _ 16 HMl.out rfl] at hT
      obtain ⟨D, hD⟩ : ∃ D, D = M.map vb := ⟨_, rfl⟩
      rw [← hD] at hT
      have HT2 := Lib.hid hT
      have HZ := Lib.hid hZ
      have HD16 := Lib.hid (show D.length = 16 by rw [hD, List.length_map, HMl.out])
      have HD1 := Lib.hid (show ∀ u ∈ D, u.oneCell' = true by rw [hD]; exact vb_one _)
      have HDe := Lib.hid hD
      have HFf := Lib.hid (Blk.fill HZ.out D (by rw [HD16.out]; rfl))
      have Hnf := Lib.hid (nu_fill D (g := Z) Hap.out.2.2.2.2 0 _ hn)
      clear hT hD hn hB hF hZ
      go_wp2_with (first | (refine wpList_load_blk rfl 22 (.tmp 5) rfl T rfl 22 D.toArray HT2.out Try.underlying22 (by rw [List.size_toArray, HD16.out]; kernel_rfl) ?_) | (refine wpList_store_blk rfl 22 (.tmp 4) (.tmp 47) rfl Z D rfl rfl 22 (z16n.map vb).toArray HZ.out (by rw [HD16.out]; rfl) (by rw [HD16.out]; kernel_rfl) HD1.out ?_))
      refine bodyPost_ret (results_blk rfl _ Z 22 D.toArray rfl HFf.out Try.underlying22 (by rw [List.size_toArray, HD16.out]; kernel_rfl)) rfl ⟨by rw [HDe.out], Hnf.out⟩
end Go.Proofs.Ytnojbjconiddoaa
