/-
  The walk of the document's Encrypt (law06).
-/
import Derived.Test.YtnojbjconiddoaaAesR2
import Derived.Test.YtnojbjconiddoaaAesR3
import Derived.Deep.Cut
import Derived.Deep.CutRange
import Derived.Deep.DeepCutAuto
namespace Go.Proofs.Ytnojbjconiddoaa
open Go.ChangeShapes Go.WideShapes Go.ChangeAt Go.RowKit Fld Aes
set_option linter.unusedSimpArgs false

theorem eKey_load {o : Oper} {a : Act} {w : World} {g : Nat} {t : TypeId} {L : List Value} (hb : Blk w g t L.toArray) (h1 : L.length = 513) (x : Operand) (ho : o.op = .load 44 x) (hx : a.eval x = .pointer (some ⟨g, 0, none⟩)) :
    (execOp a.eval o).run Try.prog w = .ok (.value (.agg L.toArray)) w :=
  exec_load_mid (P := Try.prog) (w := w) 44 x g 0 L (.struct (Try.prog.fieldsOf 44)) ho hx (range_blk hb) (by kernel_rfl) rfl (by rw [h1]; kernel_rfl)
theorem refAdd_is {w : World} {v : Value} {W : List Nat} (hv : RowsAt w v W) {L : List Value} (hL : L = keyL v) (rd : Nat) (hr : 4 * rd + 4 ≤ W.length) (hr60 : rd ≤ 60) {b D : List Nat} (hb : St16 b) (hD : addK W rd b = D) :
    Calls Try.prog 55 #[.agg L.toArray, .agg (b.map vb).toArray, .int .i64 (rd : Int)] w fun e w' => e = .returned (.agg (D.map vb).toArray) ∧ Below w.heap.size w w' := by
  rw [hL, ← hD]
  exact refAdd_any hv rd hr hr60 b hb
/-- The state behind k rounds. -/
def encS (W : List Nat) (R k : Nat) (b : List Nat) : List Nat := if k = R then enc W R b else encF W k b
theorem encS_st {b : List Nat} (h : St16 b) (W : List Nat) (R k : Nat) : St16 (encS W R k b) := by
  unfold encS
  split
  · exact enc_st b W R
  · exact encF_st h W k
theorem encS_zero (W : List Nat) (R : Nat) (h : 0 < R) (b : List Nat) : encS W R 0 b = addK W 0 b := by
  unfold encS
  rw [if_neg (by omega)]
  rfl
theorem encS_succ (W : List Nat) (R k : Nat) (h : k < R) (b : List Nat) : encS W R (k + 1) b = addK W (k + 1) (if k + 1 < R then mix 2 3 1 1 (sub (encS W R k b)) else sub (encS W R k b)) := by
  unfold encS
  rw [if_neg (show ¬ k = R by omega)]
  by_cases e : k + 1 = R
  · rw [if_pos e, if_neg (by omega), ← e]
    rfl
  · rw [if_neg e, if_pos (by omega)]
    rfl
theorem sub_ix (b : List Nat) (i : Nat) (h : i < 16) : (sub b)[i]? = some (sb (b.getD (4 * ((i / 4 + i % 4) % 4) + i % 4) 0)) := by
  unfold sub
  rw [List.getElem?_map, List.getElem?_range h]
  rfl

set_option maxRecDepth 100000 in
set_option maxHeartbeats 8000000 in
theorem refEncrypt_any {w : World} {v : Value} {W : List Nat} {R : Nat} (hv : RowsAt w v W) (hK : Keyed W R) (b : List Nat) (hb : St16 b) :
    Calls Try.prog 30 #[.agg (keyL v).toArray, .agg (b.map vb).toArray] w fun e w' => e = .returned (.agg ((enc W R b).map vb).toArray) ∧ Below w.heap.size w w' := by
  have HV := Lib.hid hv
  obtain ⟨m, c, cur, rfl, hm, htk, hlc, hcm⟩ := hv
  unfold maxLen at hcm
  obtain ⟨L, hL⟩ : ∃ L, L = keyL (.slice (some ⟨m, 0, none⟩) W.length c) := ⟨_, rfl⟩
  have HL := Lib.hid hL
  have HLl := Lib.hid (show L.length = 513 by rw [hL]; exact keyL_len _)
  have HL0 := Lib.hid (show L.toArray[0]? = some (.slice (some ⟨m, 0, none⟩) W.length c) by rw [hL]; exact keyL_0 _)
  have HLb := Lib.hid (show ∀ i, i < 256 → L.toArray[1 + i]? = some (vb (sb i)) from fun i hi => by rw [hL]; exact keyL_box _ i hi)
  have Hb := Lib.hid hb
  have HKd := Lib.hid hK
  have HR14 := Lib.hid (show R ≤ 14 ∧ 0 < R from ⟨hK.few, hK.pos⟩)
  obtain ⟨n, hn⟩ : ∃ n, n = W.length := ⟨_, rfl⟩
  have hnR : n = 4 * (R + 1) := by rw [hn]; exact hK.len
  have Hn := Lib.hid hn
  have HnR := Lib.hid hnR
  rw [← hL]
  rw [← hn] at hlc HL0
  have hal := nu_alloc (nu_alloc (nu_alloc (nu_refl w) (.cells L.toArray 44)) (.cells (b.map vb).toArray 22)) (.cells (z16n.map vb).toArray 22)
  have HK := Lib.hid (((Blk.made w 44 L.toArray).alloc (.cells (b.map vb).toArray 22)).alloc (.cells (z16n.map vb).toArray 22))
  have HB := Lib.hid ((Blk.made1 w (.cells L.toArray 44) 22 (b.map vb).toArray).alloc (.cells (z16n.map vb).toArray 22))
  have HZ := Lib.hid (Blk.made2 w (.cells L.toArray 44) (.cells (b.map vb).toArray 22) 22 (z16n.map vb).toArray)
  clear hm htk hb hn hL hK
  go_enter Try.func30, Try.ntmps30
  go_upto_region 1 with fail
  change Code.wp _ _ _ _ (((w.alloc (.cells L.toArray 44)).alloc (.cells (b.map vb).toArray 22)).alloc (.cells (z16n.map vb).toArray 22))
  have Hal := Lib.hid hal
  clear hal
  generalize ((w.alloc (.cells L.toArray 44)).alloc (.cells (b.map vb).toArray 22)).alloc (.cells (z16n.map vb).toArray 22) = w1 at *
  obtain ⟨Z, hZ⟩ : ∃ Z, Z = w.heap.size + 1 + 1 := ⟨_, rfl⟩
  obtain ⟨B, hB⟩ : ∃ B, B = w.heap.size + 1 := ⟨_, rfl⟩
  obtain ⟨K, hK⟩ : ∃ K, K = w.heap.size := ⟨_, rfl⟩
  rw [← hZ] at HZ
  rw [← hB] at HB
  rw [← hK] at HK
  rw [← hZ, ← hB, ← hK]
  have Hap := Lib.hid (show K ≠ B ∧ Z ≠ B ∧ w.heap.size ≤ B ∧ w.heap.size ≤ Z from ⟨by omega, by omega, by omega, by omega⟩)
  clear hZ hB hK
  obtain ⟨R1, hR1⟩ : ∃ R1, R1 = R + 1 := ⟨_, rfl⟩
  have etq : Int.tdiv (n : Int) 4 = (R1 : Int) := by rw [Int.tdiv_eq_ediv_of_nonneg (by omega)]; omega
  have ekq : (n : Int) / 4 = (R1 : Int) := by omega
  have wq : IntKind.i64.wrap (R1 : Int) = (R1 : Int) := by rw [IntKind.wrap_i64]; have := HR14.out; omega
  have wq1 : IntKind.i64.wrap ((R1 : Int) - 1) = (R : Int) := by rw [IntKind.wrap_i64]; have := HR14.out; omega
  have wq2 : (R1 : Int) - 1 = (R : Int) := by omega
  have cK : w1.cell? ⟨K, 0, none⟩ = some (.slice (some ⟨m, 0, none⟩) n c) := HK.out.at 0 _ HL0.out
  clear hR1 hnR
  obtain ⟨b0, hb0⟩ : ∃ b0, b0 = addK W 0 b := ⟨_, rfl⟩
  have HAdd := Lib.hid (refAdd_is (HV.out.below Hal.out) HL.out 0 (by have := HnR.out; have := Hn.out; omega) (by omega) Hb.out hb0.symm)
  have Hb0 := Lib.hid (show St16 b0 by rw [hb0]; exact addK_st Hb.out W 0)
  have Hb0e := Lib.hid (show b0 = encS W R 0 b by rw [hb0, encS_zero W R HR14.out.2])
  clear hb0
  go_upto_region 2 with fail
  clear etq ekq wq wq1 wq2 cK
  have Hb16 := Lib.hid Hb.out
  have Hb016 := Lib.hid Hb0.out
  go_wp2_with (first | (refine wpList_run _ (by rfl) (eKey_load HK.out HLl.out (.tmp 2) rfl rfl) ?_) | (refine wpList_run _ (by rfl) (e16_load HB.out Hb.out.1 (.tmp 3) rfl rfl) ?_))
  refine HAdd.out.mono ?_
  rintro e w2 ⟨rfl, hb2⟩
  have HK2 := Lib.hid (HK.out.below hb2 HK.out.lt)
  have HB2 := Lib.hid (HB.out.below hb2 HB.out.lt)
  have HZ2 := Lib.hid (HZ.out.below hb2 HZ.out.lt)
  have HFB := Lib.hid (Blk.fill HB2.out (b0.map vb) (by rw [List.length_map, Hb0.out.1, List.size_toArray, List.length_map, Hb.out.1]))
  have HKf := Lib.hid (HK2.out.farCells (b0.map vb) Hap.out.1 0)
  have HZf := Lib.hid (HZ2.out.farCells (b0.map vb) Hap.out.2.1 0)
  have Hnf := Lib.hid (nu_fill (b0.map vb) (g := B) Hap.out.2.2.1 0 _ (nu_trans Hal.out hb2))
  clear hb2 HK HB HZ Hal HAdd HK2 HZ2
  go_upto_region 3 with (refine wpList_store_blk rfl 22 (.tmp 3) (.tmp 17) rfl B (b0.map vb) rfl rfl 22 (b.map vb).toArray HB2.out (by rw [List.length_map, Hb016.out.1, List.size_toArray, List.length_map, Hb16.out.1]) (by rw [List.length_map, Hb016.out.1]; kernel_rfl) (vb_one _) ?_)
  change Code.wp _ _ _ _ (w2.setCells B 0 (b0.map vb))
  clear HB2
  generalize w2.setCells B 0 (b0.map vb) = w3 at *
  rw [Hb0e.out] at HFB
  have Hnw := Lib.hid Hnf.out.size
  go_wp2_with fail
  go_loopw [6] (fun i wr => ∃ k : Nat, k ≤ R ∧ i = .int .i64 ((k + 1 : Nat) : Int) ∧ Blk wr K 44 L.toArray ∧ Blk wr B 22 ((encS W R k b).map vb).toArray ∧ Blk wr Z 22 (z16n.map vb).toArray ∧ Below w.heap.size w wr) (fun i _ => R + 1 - (intOf i).toNat)
  case atStart => exact ⟨0, by omega, rfl, HKf.out, HFB.out, HZf.out, Hnf.out⟩
  case round =>
    clear HKf HFB HZf Hnf Hb0 Hb0e Hb016
    obtain ⟨k, hkR, rfl, hK, hB, hZ, hn⟩ := hrel
    obtain ⟨st, hst⟩ : ∃ st, st = encS W R k b := ⟨_, rfl⟩
    have Hst16 := Lib.hid (show St16 st by rw [hst]; exact encS_st Hb.out W R k)
    rw [← hst] at hB
    have Hst := Lib.hid hst
    have HK := Lib.hid hK
    have HB := Lib.hid hB
    have HZ := Lib.hid hZ
    clear hK hB hZ hst
    obtain ⟨rd, hrd⟩ : ∃ rd, rd = k + 1 := ⟨_, rfl⟩
    rw [← hrd]
    by_cases hk : k < R
    · have hri : (rd : Int) ≤ (R : Int) := by omega
      have Hrd := Lib.hid hrd
      obtain ⟨s, hs⟩ : ∃ s, s = sub st := ⟨_, rfl⟩
      have Hs16 := Lib.hid (show St16 s by rw [hs]; exact sub_st st)
      have Hsa := Lib.hid (show ∀ i, i < 16 → s[i]? = some (sb (st.getD (4 * ((i / 4 + i % 4) % 4) + i % 4) 0)) by rw [hs]; exact sub_ix st)
      have Hs := Lib.hid hs
      have HTm := Lib.hid (Blk.made wr 22 (z16n.map vb).toArray)
      have hal := nu_alloc (nu_refl wr) (.cells (z16n.map vb).toArray 22)
      have HK1 := Lib.hid (HK.out.below hal HK.out.lt)
      have HB1 := Lib.hid (HB.out.below hal HB.out.lt)
      have HZ1 := Lib.hid (HZ.out.below hal HZ.out.lt)
      have hn1 := nu_trans hn hal
      have HapT := Lib.hid (show K ≠ wr.heap.size ∧ B ≠ wr.heap.size ∧ Z ≠ wr.heap.size ∧ w.heap.size ≤ wr.heap.size from ⟨Nat.ne_of_lt HK.out.lt, Nat.ne_of_lt HB.out.lt, Nat.ne_of_lt HZ.out.lt, hn.size⟩)
      clear hal HK HB HZ hn hs hrd
      go_upto_region 7 with fail
      change Code.wp _ _ _ _ (wr.alloc (.cells (z16n.map vb).toArray 22))
      generalize wr.alloc (.cells (z16n.map vb).toArray 22) = w4 at *
      obtain ⟨T, hT⟩ : ∃ T, T = wr.heap.size := ⟨_, rfl⟩
      rw [← hT] at HTm HapT
      rw [← hT]
      clear hT
      go_wp2_with fail
      go_loopw [8] (fun i wr => ∃ k : Nat, k ≤ 4 ∧ i = .int .i64 k ∧ Blk wr K 44 L.toArray ∧ Blk wr B 22 (st.map vb).toArray ∧ Blk wr Z 22 (z16n.map vb).toArray ∧ Blk wr T 22 ((doneF s z16n (4 * k)).map vb).toArray ∧ Below w.heap.size w wr) (fun i _ => 4 - (intOf i).toNat)
      case atStart => exact ⟨0, by omega, rfl, HK1.out, HB1.out, HZ1.out, HTm.out, hn1⟩
      case round =>
        clear HK1 HB1 HZ1 HTm hn1
        obtain ⟨c, hc4, rfl, hK, hB, hZ, hT, hn⟩ := hrel
        by_cases hclt : c < 4
        · have hci : (c : Int) < 4 := by omega
          obtain ⟨wo, rfl⟩ : ∃ q : World, q = wr := ⟨_, rfl⟩
          go_wp2_with fail
          go_loopw [9] (fun i wr => ∃ k : Nat, k ≤ 4 ∧ i = .int .i64 k ∧ Blk wr K 44 L.toArray ∧ Blk wr B 22 (st.map vb).toArray ∧ Blk wr Z 22 (z16n.map vb).toArray ∧ Blk wr T 22 ((doneF s z16n (4 * c + k)).map vb).toArray ∧ Below w.heap.size w wr) (fun i _ => 4 - (intOf i).toNat)
          case atStart => exact ⟨0, by omega, rfl, hK, hB, hZ, hT, hn⟩
          case round =>
            clear hK hB hZ hT hn
            obtain ⟨r, hr4, rfl, hK, hB, hZ, hT, hn⟩ := hrel
            have HK := Lib.hid hK
            have HB := Lib.hid hB
            have HZ := Lib.hid hZ
            by_cases hrlt : r < 4
            · have hri4 : (r : Int) < 4 := by omega
              obtain ⟨i, hi⟩ : ∃ i, i = 4 * c + r := ⟨_, rfl⟩
              rw [← hi] at hT
              have HT := Lib.hid hT
              clear hK hB hZ hT
              have hilt : i < 16 := by omega
              obtain ⟨c4, hc⟩ : ∃ c4, c4 = 4 * c := ⟨_, rfl⟩
              have wc : IntKind.i64.wrap (4 * (c : Int)) = (c4 : Int) := by rw [IntKind.wrap_i64]; omega
              have wi : IntKind.i64.wrap ((c4 : Int) + (r : Int)) = (i : Int) := by rw [IntKind.wrap_i64]; omega
              have hii : (i : Int) < 16 := by omega
              obtain ⟨cr, hcr⟩ : ∃ cr, cr = c + r := ⟨_, rfl⟩
              have wcr : IntKind.i64.wrap ((c : Int) + (r : Int)) = (cr : Int) := by rw [IntKind.wrap_i64]; omega
              obtain ⟨q, hq⟩ : ∃ q, q = cr % 4 := ⟨_, rfl⟩
              have eq4 : (cr : Int) % 4 = (q : Int) := by omega
              have eqt : Int.tmod (cr : Int) 4 = (q : Int) := by rw [Int.tmod_eq_emod_of_nonneg (by omega)]; omega
              have wq : IntKind.i64.wrap (q : Int) = (q : Int) := by rw [IntKind.wrap_i64]; omega
              obtain ⟨q4, hq4⟩ : ∃ q4, q4 = 4 * q := ⟨_, rfl⟩
              have wq4 : IntKind.i64.wrap (4 * (q : Int)) = (q4 : Int) := by rw [IntKind.wrap_i64]; omega
              obtain ⟨p, hp⟩ : ∃ p, p = q4 + r := ⟨_, rfl⟩
              have wp : IntKind.i64.wrap ((q4 : Int) + (r : Int)) = (p : Int) := by rw [IntKind.wrap_i64]; omega
              have hpi : (p : Int) < 16 := by omega
              obtain ⟨y, hy⟩ : ∃ y, y = st.getD p 0 := ⟨_, rfl⟩
              have hy8 : y < 256 := by rw [hy]; exact Hst16.out.getD p
              have hyi : (y : Int) < 256 := by omega
              have hyp : st[p]? = some y := by rw [hy, List.getD_eq_getElem?_getD, List.getElem?_eq_getElem (by rw [Hst16.out.1]; omega)]; rfl
              obtain ⟨z, hz⟩ : ∃ z, z = sb y := ⟨_, rfl⟩
              have cB : wr.cell? ⟨B, p, none⟩ = some (.int .u8 (y : Int)) := HB.out.at p _ (arrg_at vb _ p y hyp)
              have cK : wr.cell? ⟨K, 1 + y, none⟩ = some (.int .u8 (z : Int)) := by rw [hz]; exact HK.out.at (1 + y) _ (HLb.out y hy8)
              have hsi := Hsa.out i hilt
              rw [show 4 * ((i / 4 + i % 4) % 4) + i % 4 = p by omega, ← hy, ← hz] at hsi
              have hold : (doneF s z16n i)[i]? = some 0 := by
                rw [doneF_old _ _ 16 i i Hs16.out.1 (Nat.le_refl _) (by omega)]
                exact z16_at i hilt
              have cT : wr.cell? ⟨T, i, none⟩ = some (.int .u8 ((0 : Nat) : Int)) := HT.out.at i _ (arrg_at vb _ i 0 hold)
              have fT := HT.out.free i
              have hset := HT.out.put i (vb z)
              rw [arrg_set, doneF_set _ _ 16 i z Hs16.out.1 rfl hilt hsi, hi] at hset
              have HT1 := Lib.hid hset
              rw [← hi] at HT1
              have HK1 := Lib.hid (HK.out.far (p := ⟨T, i, none⟩) HapT.out.1 (vb z))
              have HB1 := Lib.hid (HB.out.far (p := ⟨T, i, none⟩) HapT.out.2.1 (vb z))
              have HZ1 := Lib.hid (HZ.out.far (p := ⟨T, i, none⟩) HapT.out.2.2.1 (vb z))
              have hn1 := nu_set hn (p := ⟨T, i, none⟩) HapT.out.2.2.2 (vb z)
              simp only [vb] at HT1 HK1 HB1 HZ1 hn1
              have Hi := Lib.hid hi
              clear hi hc hcr hq hq4 hp hy hy8 hyp hz hsi hold hset HK HB HZ HT hn
              go_wp2_with fail
              clear cB cK cT fT wc wi wcr eq4 eqt wq wq4 wp
              generalize wr.setCell ⟨T, i, none⟩ (.int .u8 (z : Int)) = w7 at *
              go_roundw
              case rel =>
                have hT1 := HT1.out
                rw [Hi.out] at hT1
                first | exact ⟨r + 1, by omega, by go_num, HK1.out, HB1.out, HZ1.out, hT1, hn1⟩ | ((repeat apply Exists.intro); exact ⟨⟨r + 1, by omega, by go_num, HK1.out, HB1.out, HZ1.out, hT1, hn1⟩, rfl⟩)
              case measure => simp [intOf]; omega
            · obtain rfl : r = 4 := by omega
              have HT2 := Lib.hid (show Blk wr T 22 ((doneF s z16n (4 * (c + 1))).map vb).toArray from hT)
              clear hT hK hB hZ
              go_wp2_with fail
              go_roundw
              case rel => first | exact ⟨c + 1, by omega, by go_num, HK.out, HB.out, HZ.out, HT2.out, hn⟩ | ((repeat apply Exists.intro); exact ⟨⟨c + 1, by omega, by go_num, HK.out, HB.out, HZ.out, HT2.out, hn⟩, rfl⟩)
              case measure => simp [intOf]; omega
        · obtain rfl : c = 4 := by omega
          rw [show 4 * 4 = 16 from rfl, doneF_all _ _ 16 Hs16.out.1 rfl] at hT
          have HK := Lib.hid hK
          have HB := Lib.hid hB
          have HZ := Lib.hid hZ
          have HT := Lib.hid hT
          clear hK hB hZ hT
          obtain ⟨g, hg⟩ : ∃ g, g = if rd < R then mix 2 3 1 1 s else s := ⟨_, rfl⟩
          have Hg16 := Lib.hid (show St16 g by
            rw [hg]
            split
            · exact mix_st 2 3 1 1 (by omega) (by omega) (by omega) (by omega) s
            · exact Hs16.out)
          have Hge := Lib.hid (show encS W R (k + 1) b = addK W rd g by rw [encS_succ W R k hk, hg, Hrd.out, Hs.out, Hst.out])
          go_upto_if 50 with fail
          go_cut [6] (fun s6 wx => s6 = .int .i64 (rd : Int) ∧ Blk wx K 44 L.toArray ∧ Blk wx B 22 (st.map vb).toArray ∧ Blk wx Z 22 (z16n.map vb).toArray ∧ Blk wx T 22 (g.map vb).toArray ∧ Below w.heap.size w wx)
          case first =>
            by_cases hlt : rd < R
            · have hli : (rd : Int) < (R : Int) := by omega
              rw [if_pos hlt] at hg
              have HM := Lib.hid (show Calls Try.prog 56 #[.agg (s.map vb).toArray, .agg #[.int .u8 2, .int .u8 3, .int .u8 1, .int .u8 1]] wr fun e w' => e = .returned (.agg (g.map vb).toArray) ∧ Below wr.heap.size wr w' from by
                rw [hg]
                exact refMixed_any (w := wr) 2 3 1 1 (by omega) (by omega) (by omega) (by omega) s Hs16.out)
              clear hg
              obtain ⟨wo, rfl⟩ : ∃ q : World, q = wr := ⟨_, rfl⟩
              go_wp2_with (refine wpList_run _ (by rfl) (e16_load HT.out Hs16.out.1 (.tmp 7) rfl rfl) ?_)
              refine HM.out.mono ?_
              rintro e w5 ⟨rfl, hb5⟩
              have HT5 := Lib.hid (HT.out.below hb5 HT.out.lt)
              have HF5 := Lib.hid (Blk.fill HT5.out (g.map vb) (by rw [List.length_map, Hg16.out.1, List.size_toArray, List.length_map, Hs16.out.1]))
              have HK5 := Lib.hid ((HK.out.below hb5 HK.out.lt).farCells (g.map vb) HapT.out.1 0)
              have HB5 := Lib.hid ((HB.out.below hb5 HB.out.lt).farCells (g.map vb) HapT.out.2.1 0)
              have HZ5 := Lib.hid ((HZ.out.below hb5 HZ.out.lt).farCells (g.map vb) HapT.out.2.2.1 0)
              have Hn5 := Lib.hid (nu_fill (g.map vb) (g := T) HapT.out.2.2.2 0 _ (nu_trans hn hb5))
              clear hb5 HK HB HZ HT hn
              go_wp2_with (refine wpList_store_blk rfl 22 (.tmp 7) (.tmp 53) rfl T (g.map vb) rfl rfl 22 (s.map vb).toArray HT5.out (by rw [List.length_map, Hg16.out.1, List.size_toArray, List.length_map, Hs16.out.1]) (by rw [List.length_map, Hg16.out.1]; kernel_rfl) (vb_one _) ?_)
              go_meet
              exact ⟨rfl, HK5.out, HB5.out, HZ5.out, HF5.out, Hn5.out⟩
            · have hli : ¬ (rd : Int) < (R : Int) := by omega
              rw [if_neg hlt] at hg
              go_wp2_with fail
              go_meet
              exact ⟨rfl, HK.out, HB.out, HZ.out, by rw [hg]; exact HT.out, hn⟩
          case rest =>
            obtain ⟨rfl, hK, hB, hZ, hT, hn4⟩ := hcut
            clear hg HK HB HZ HT hn
            have HK := Lib.hid hK
            have HB := Lib.hid hB
            have HZ := Lib.hid hZ
            have HT := Lib.hid hT
            clear hK hB hZ hT
            obtain ⟨D, hD⟩ : ∃ D, D = addK W rd g := ⟨_, rfl⟩
            have HD16 := Lib.hid (show St16 D by rw [hD]; exact addK_st Hg16.out W rd)
            have HA := Lib.hid (refAdd_is (HV.out.below hn4) HL.out rd (by have := HnR.out; have := Hn.out; omega) (by have := HR14.out; omega) Hg16.out hD.symm)
            have HDe := Lib.hid (show encS W R (k + 1) b = D by rw [hD, Hge.out])
            clear hD
            obtain ⟨wo, rfl⟩ : ∃ q : World, q = wc := ⟨_, rfl⟩
            go_wp2_with (first | (refine wpList_run _ (by rfl) (eKey_load HK.out HLl.out (.tmp 2) rfl rfl) ?_) | (refine wpList_run _ (by rfl) (e16_load HT.out Hg16.out.1 (.tmp 7) rfl rfl) ?_))
            refine HA.out.mono ?_
            rintro e w5 ⟨rfl, hb5⟩
            have HB5 := Lib.hid (HB.out.below hb5 HB.out.lt)
            have HF5 := Lib.hid (Blk.fill HB5.out (D.map vb) (by rw [List.length_map, HD16.out.1, List.size_toArray, List.length_map, Hst16.out.1]))
            have HK5 := Lib.hid ((HK.out.below hb5 HK.out.lt).farCells (D.map vb) Hap.out.1 0)
            have HZ5 := Lib.hid ((HZ.out.below hb5 HZ.out.lt).farCells (D.map vb) Hap.out.2.1 0)
            have Hn5 := Lib.hid (nu_fill (D.map vb) (g := B) Hap.out.2.2.1 0 _ (nu_trans hn4 hb5))
            clear hb5 HK HB HZ HT hn4 HA
            obtain ⟨rd2, hrd2⟩ : ∃ x, x = rd + 1 := ⟨_, rfl⟩
            have wrd : IntKind.i64.wrap ((rd : Int) + 1) = (rd2 : Int) := by rw [IntKind.wrap_i64]; have := HR14.out; omega
            have Hrd2 := Lib.hid hrd2
            clear hrd2
            go_wp2_with (refine wpList_store_blk rfl 22 (.tmp 3) (.tmp 57) rfl B (D.map vb) rfl rfl 22 (st.map vb).toArray HB5.out (by rw [List.length_map, HD16.out.1, List.size_toArray, List.length_map, Hst16.out.1]) (by rw [List.length_map, HD16.out.1]; kernel_rfl) (vb_one _) ?_)
            go_roundw
            case rel =>
              have hF : Blk (w5.setCells B 0 (D.map vb)) B 22 ((encS W R (k + 1) b).map vb).toArray := by rw [HDe.out]; exact HF5.out
              have hkr : k + 1 ≤ R := hk
              have hv : Value.int .i64 (rd2 : Int) = .int .i64 ((k + 1 + 1 : Nat) : Int) := by rw [Hrd2.out, Hrd.out]
              first | exact ⟨k + 1, hkr, hv, HK5.out, hF, HZ5.out, Hn5.out⟩ | ((repeat apply Exists.intro); exact ⟨⟨k + 1, hkr, hv, HK5.out, hF, HZ5.out, Hn5.out⟩, rfl⟩)
            case measure =>
              have := Hrd2.out
              simp [intOf]; omega
    · obtain rfl : k = R := by omega
      have hri : ¬ (rd : Int) ≤ (k : Int) := by omega
      obtain ⟨D, hD⟩ : ∃ D, D = st := ⟨_, rfl⟩
      have HD16 := Lib.hid (show St16 D by rw [hD]; exact Hst16.out)
      have HDe := Lib.hid (show D = enc W k b by rw [hD, Hst.out]; unfold encS; rw [if_pos rfl])
      rw [← hD] at HB
      have HF := Lib.hid (Blk.fill HZ.out (D.map vb) (by rw [List.length_map, HD16.out.1]; rfl))
      have Hnf := Lib.hid (nu_fill (D.map vb) (g := Z) Hap.out.2.2.2 0 _ hn)
      have Hz16n16 := Lib.hid (show St16 z16n from ⟨rfl, by decide⟩)
      clear hD hn HK hrd
      go_wp2_with (first | (refine wpList_run _ (by rfl) (e16_load HB.out HD16.out.1 (.tmp 3) rfl rfl) ?_) | (refine wpList_store_blk rfl 22 (.tmp 4) (.tmp 58) rfl Z (D.map vb) rfl rfl 22 (z16n.map vb).toArray HZ.out (by rw [List.length_map, HD16.out.1, List.size_toArray, List.length_map, Hz16n16.out.1]) (by rw [List.length_map, HD16.out.1]; kernel_rfl) (vb_one _) ?_))
      refine bodyPost_ret (results_blk rfl _ Z 22 (D.map vb).toArray rfl HF.out Try.underlying22 (by rw [List.size_toArray, List.length_map, HD16.out.1]; kernel_rfl)) rfl ⟨by rw [HDe.out], Hnf.out⟩
end Go.Proofs.Ytnojbjconiddoaa
