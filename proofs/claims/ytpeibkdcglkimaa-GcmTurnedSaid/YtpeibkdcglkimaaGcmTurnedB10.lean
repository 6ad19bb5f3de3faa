/-
  What the proof of GcmTurned rests on, part 10 of 10.
-/
import Derived.Test.YtpeibkdcglkimaaGcmTurnedB9
namespace Go.Proofs.Ytpeibkdcglkimaa
open Go.ChangeShapes Go.WideShapes Go.ChangeAt Go.RowKit Fld Aes Gcm
set_option linter.unusedSimpArgs false

structure G8 (w : World) (X KB P : Nat) (Ws : List Nat) (R h : Nat) (LK : List Value) (v : Value) (nonce : List Nat) : Prop where
  g : GBox w X Ws R h
  r : RowsAt w v Ws
  k : Blk w KB 31 LK.toArray
  p : Blk w P 23 (nonce.map vb).toArray
theorem G8.below {w w' : World} {X KB P : Nat} {Ws : List Nat} {R h : Nat} {LK : List Value} {v : Value} {nonce : List Nat} (H : G8 w X KB P Ws R h LK v nonce) (hb : Below w.heap.size w w') : G8 w' X KB P Ws R h LK v nonce :=
  ⟨H.g.below hb, H.r.below hb, H.k.below hb H.k.lt, H.p.below hb H.p.lt⟩
theorem ownB_bytes {w : World} {base l cap : Nat} {e : TypeId} {a : Option Addr} {xs : List Nat} (h : OwnB w base e (.slice a l cap) xs) (hl : xs.length = l) : BytesIn w a l cap xs := by
  obtain ⟨a', cap', he, _, _, hB⟩ := h.reads
  injection he with e1 e2 e3
  subst e1 e3
  rw [hl] at hB
  exact hB
set_option maxRecDepth 100000 in
set_option maxHeartbeats 8000000 in
theorem gcmSeals_walk (a : Option Addr) (len cap : Nat) (key : List Nat) (nonce : List Nat) (h12 : nonce.length = 12) (hx12 : ∀ x ∈ nonce, x < 256) (a1 a2 : Option Addr) (la ca lt ct : Nat) (xs ys : List Nat) (w : World) (hx : BytesIn w a len cap key) (h1 : BytesIn w a1 la ca xs) (h2 : BytesIn w a2 lt ct ys) (hac : la ≤ ca ∧ ca ≤ maxLen) (htc : lt ≤ ct ∧ ct ≤ maxLen) :
    Calls Try.prog 3 #[.slice a len cap, .agg (nonce.map vb).toArray, .slice a1 la ca, .slice a2 lt ct] w fun e w' => e = .returned (.bool true) ∧ Below w.heap.size w w' := by
  have hal := nu_alloc (nu_refl w) (.cells (nonce.map vb).toArray 23)
  have HP := Lib.hid (Blk.made w 23 (nonce.map vb).toArray)
  have H12 := Lib.hid h12
  have Hx12 := Lib.hid hx12
  have HX := Lib.hid (hx.keep hal)
  have H1 := Lib.hid (h1.keep hal)
  have H2 := Lib.hid (h2.keep hal)
  have Hac := Lib.hid hac
  have Htc := Lib.hid htc
  have Hal := Lib.hid hal
  have hkx : ∀ x ∈ key, x < 256 := fun x h => wf_u8_lt (hx.1.2.1 x h)
  have hkl : key.length = len := hx.1.1
  have H1x := Lib.hid (fun x h => wf_u8_lt (h1.1.2.1 x h))
  have H1l := Lib.hid (show xs.length = la from h1.1.1)
  have H2x := Lib.hid (fun x h => wf_u8_lt (h2.1.2.1 x h))
  have H2l := Lib.hid (show ys.length = lt from h2.1.1)
  obtain ⟨v, hv⟩ : ∃ v, decide (1000 < la ∨ 1000 < lt) = v := ⟨_, rfl⟩
  have Hv := Lib.hid hv
  clear h12 hx12 h1 h2 hac htc hal hv
  by_cases hL : len = 16 ∨ len = 32
  · obtain ⟨Ws, hWs⟩ : ∃ Ws, Ws = expand key := ⟨_, rfl⟩
    obtain ⟨R, hR⟩ : ∃ R, R = key.length / 4 + 6 := ⟨_, rfl⟩
    have HK := Lib.hid (show Keyed Ws R by rw [hWs, hR]; exact keyed_of hkx (by rw [hkl]; exact hL))
    obtain ⟨h, hh⟩ : ∃ h, h = polB (enc Ws R z16n) := ⟨_, rfl⟩
    have HhE := Lib.hid hh
    have Hh := Lib.hid (show h < 2 ^ 128 by rw [hh]; exact polB_lt _)
    have HW := Lib.hid (show ∀ (u : World) (X : Nat), GBox u X (expand key) (key.length / 4 + 6) (polB (enc (expand key) (key.length / 4 + 6) z16n)) → GBox u X Ws R h from fun u X hg => by rw [← hWs, ← hR, ← hh] at hg; exact hg)
    have HNw := Lib.hid (gcmNew_any hL HX.out)
    have HRn := Lib.hid (show ∀ u : World, Below w.heap.size w u → Calls Try.prog 10 #[.slice a len cap] u (RefMade u Ws) from fun u hu => by
      rw [hWs]
      exact refNew_any (len / 4) len (by omega) (by omega) a cap key u (hx.keep hu))
    clear hWs hR hh hkx hkl hL hx
    go_enter Try.func3, Try.ntmps3
    go_upto_region 1 with fail
    generalize w.alloc (.cells (nonce.map vb).toArray 23) = w1 at *
    obtain ⟨P, hP⟩ : ∃ P, P = w.heap.size := ⟨_, rfl⟩
    rw [← hP] at HP
    rw [← hP]
    clear hP
    go_wp2_with fail
    refine HNw.out.mono ?_
    rintro e w2 ⟨X, rfl, hG, hb2, _⟩
    have HG := Lib.hid (HW.out w2 X hG)
    have HP2 := Lib.hid (HP.out.below hb2 HP.out.lt)
    have H12' := Lib.hid (H1.out.keep hb2)
    have H22 := Lib.hid (H2.out.keep hb2)
    have Hn2 := Lib.hid (nu_trans Hal.out hb2)
    clear hG hb2 HP HX H1 H2 Hal HNw
    go_wp2_with fail
    refine (HRn.out w2 Hn2.out).mono ?_
    rintro e w3 ⟨vk, rfl, hrow, hbk⟩
    obtain ⟨LK, hLK⟩ : ∃ LK, LK = rkeyL vk := ⟨_, rfl⟩
    rw [← hLK]
    have HLK := Lib.hid hLK
    have HLl := Lib.hid (show LK.length = 513 by rw [hLK]; exact rkeyL_len vk)
    have HL1 := Lib.hid (show ∀ u ∈ LK, u.oneCell' = true by rw [hLK]; exact rkeyL_one vk hrow.one)
    have Hrow := Lib.hid hrow
    clear hLK hrow
    have HKm := Lib.hid (Blk.made w3 31 Try.zeroCells31)
    have HKf := Lib.hid (Blk.fill HKm.out LK (by rw [zero_key_size, HLl.out]))
    have Hbk := Lib.hid (nu_trans hbk (nu_fill (a := w3) LK (g := w3.heap.size) (Nat.le_refl _) 0 _ (nu_alloc (nu_refl w3) (.cells Try.zeroCells31 31))))
    have Hbk3 := Lib.hid (nu_fill (a := w3) LK (g := w3.heap.size) (Nat.le_refl _) 0 _ (nu_alloc (nu_refl w3) (.cells Try.zeroCells31 31)))
    clear hbk
    go_upto_region 3 with (refine wpList_store_in rfl 31 (.tmp 11) (.tmp 25) rfl w3.heap.size 0 LK rfl rfl 31 Try.zeroCells31 HKm.out (by rw [zero_key_size, HLl.out]; omega) (by rw [HLl.out]; kernel_rfl) HL1.out ?_)
    change Code.wp _ _ _ _ ((w3.alloc (.cells Try.zeroCells31 31)).setCells w3.heap.size 0 LK)
    clear HKm
    generalize (w3.alloc (.cells Try.zeroCells31 31)).setCells w3.heap.size 0 LK = w9 at *
    obtain ⟨KB, hKB⟩ : ∃ KB, KB = w3.heap.size := ⟨_, rfl⟩
    rw [← hKB] at HKf
    rw [← hKB]
    clear hKB
    have H8 := Lib.hid (show G8 w9 X KB P Ws R h LK vk nonce from ⟨HG.out.below Hbk.out, Hrow.out.below Hbk3.out, HKf.out, HP2.out.below Hbk.out HP2.out.lt⟩)
    have H1 := Lib.hid (H12'.out.keep Hbk.out)
    have H2 := Lib.hid (H22.out.keep Hbk.out)
    have Hn9 := Lib.hid (nu_trans Hn2.out Hbk.out)
    clear HG Hrow HKf HP2 H12' H22 Hn2 Hbk Hbk3 HRn HL1
    go_wp2_with fail
    refine (great_any a1 a2 la ca lt ct w9 v Hv.out).mono ?_
    rintro e w' ⟨rfl, rfl⟩
    cases v
    · have hgr := Hv.out
      rw [decide_eq_false_iff_not] at hgr
      have hla : la ≤ 1000 := by omega
      have hlt : lt ≤ 1000 := by omega
      clear hgr Hv
      have HQ1 := Lib.hid (lent_any a1 la ca xs w9 H1.out (by omega))
      go_wp2_with fail
      refine HQ1.out.mono ?_
      rintro e wa ⟨rfl, hI, hb⟩
      obtain ⟨I1, hI1⟩ : ∃ I1, I1 = w9.heap.size := ⟨_, rfl⟩
      rw [← hI1] at hI
      rw [← hI1]
      have HI1 := Lib.hid hI
      have Hba := Lib.hid hb
      have H2a := Lib.hid (H2.out.keep hb)
      clear hI hI1 hb HQ1
      have HQ2 := Lib.hid (lent_any a2 lt ct ys wa H2a.out (by omega))
      go_wp2_with fail
      refine HQ2.out.mono ?_
      rintro e w10 ⟨rfl, hI, hb⟩
      obtain ⟨I2, hI2⟩ : ∃ I2, I2 = wa.heap.size := ⟨_, rfl⟩
      rw [← hI2] at hI
      rw [← hI2]
      have HI2 := Lib.hid hI
      have HI1b := Lib.hid (HI1.out.below hb HI1.out.lt)
      have Hbb := Lib.hid (nu_trans Hba.out hb)
      clear hI hI2 hb HQ2 H2a Hba HI1
      have H8 := Lib.hid (H8.out.below Hbb.out)
      have H1 := Lib.hid (H1.out.keep Hbb.out)
      have H2 := Lib.hid (H2.out.keep Hbb.out)
      have Hn10 := Lib.hid (nu_trans Hn9.out Hbb.out)
      clear Hbb Hn9
      obtain ⟨S, hS⟩ : ∃ S, S = sealL Ws R nonce h xs ys := ⟨_, rfl⟩
      have HSl := Lib.hid (show S.length = lt + 16 by rw [hS, sealL_len, H2l.out])
      have HSe := Lib.hid (show ∀ u : World, Below w10.heap.size w10 u → Calls Try.prog 14 #[.pointer (some ⟨X, 0, none⟩), .agg (nonce.map vb).toArray, .slice (some ⟨I1, 0, none⟩) la (la + 3), .slice (some ⟨I2, 0, none⟩) lt (lt + 3)] u fun e w' => ∃ q, e = .returned q ∧ OwnB w' u.heap.size 5 q S ∧ Below u.heap.size u w' from fun u hu => by
        rw [hS]
        exact seal_any (H8.out.g.below hu) HK.out Hh.out nonce H12.out Hx12.out _ la (la + 3) xs (lent_bytes (HI1b.out.below hu HI1b.out.lt) H1l.out H1x.out) (by omega) (by unfold maxLen; omega) _ lt (lt + 3) ys (lent_bytes (HI2.out.below hu HI2.out.lt) H2l.out H2x.out) (by omega))
      have HRe := Lib.hid (show ∀ u : World, Below w10.heap.size w10 u → Calls Try.prog 15 #[.agg LK.toArray, .agg (nonce.map vb).toArray, .slice a1 la ca, .slice a2 lt ct] u fun e w' => ∃ q, e = .returned q ∧ OwnB w' u.heap.size 5 q S ∧ Below u.heap.size u w' from fun u hu => by
        rw [hS, HLK.out, HhE.out]
        exact refSeal_any (H8.out.r.below hu) HK.out nonce H12.out Hx12.out a1 la ca xs (H1.out.keep hu) a2 lt ct ys (H2.out.keep hu) (by omega) (by omega))
      clear hS
      go_wp2_with (first | (refine wpList_run _ (by rfl) (eKey_load H8.out.k HLl.out (.tmp 11) rfl rfl) ?_) | (refine wpList_run _ (by rfl) (e12_load H8.out.p H12.out (.tmp 5) rfl rfl) ?_))
      refine (HSe.out w10 (nu_refl w10)).mono ?_
      rintro e w11 ⟨q, rfl, hO, hb⟩
      obtain ⟨G, gc, rfl, hG, hGl, hgc⟩ := ownB_slice hO (by rw [HSl.out]; omega)
      rw [HSl.out] at hO hgc
      rw [HSl.out]
      have HO := Lib.hid hO
      have HGg := Lib.hid (And.intro hG hGl)
      have HB := Lib.hid hb
      have H8b := Lib.hid (H8.out.below hb)
      clear hO hG hGl hb
      go_wp2_with (first | (refine wpList_run _ (by rfl) (eKey_load H8b.out.k HLl.out (.tmp 11) rfl rfl) ?_) | (refine wpList_run _ (by rfl) (e12_load H8b.out.p H12.out (.tmp 5) rfl rfl) ?_))
      refine (HRe.out w11 HB.out).mono ?_
      rintro e w12 ⟨q, rfl, hO, hb⟩
      obtain ⟨Q, qc, rfl, hQ, hQl, hqc⟩ := ownB_slice hO (by rw [HSl.out]; omega)
      rw [HSl.out] at hO hqc
      rw [HSl.out]
      have HQo := Lib.hid hO
      have HO2 := Lib.hid (ownB_under HO.out hb)
      have HB2 := Lib.hid (nu_trans HB.out hb)
      clear hO hQ hQl hb HO HB H8b HRe
      have HSm := Lib.hid (same_is (w := w12) (ca := gc) (cb := qc) true (by simp) (ownB_bytes HO2.out HSl.out).1 (ownB_bytes HQo.out HSl.out).1 (by omega) (by omega))
      go_wp2_with fail
      refine HSm.out.mono ?_
      rintro e w13 ⟨rfl, n1, rfl⟩
      have hd := nu_drewN (nu_refl w12) n1
      have HO3 := Lib.hid (ownB_under HO2.out hd)
      have HQ3 := Lib.hid (ownB_under HQo.out hd)
      have HB3 := Lib.hid (nu_trans HB2.out hd)
      generalize w12.drewN n1 = w13 at *
      clear hd HSm HO2 HQo HB2
      have HKp := Lib.hid (kept_any I1 a1 la ca xs w13 (HI1b.out.below HB3.out HI1b.out.lt) (H1.out.keep HB3.out).1 (by omega))
      go_wp2_with fail
      refine HKp.out.mono ?_
      rintro e w14 ⟨rfl, n1, rfl⟩
      have hd := nu_drewN (nu_refl w13) n1
      have HO4 := Lib.hid (ownB_under HO3.out hd)
      have HQ4 := Lib.hid (ownB_under HQ3.out hd)
      have HB4 := Lib.hid (nu_trans HB3.out hd)
      generalize w13.drewN n1 = w14 at *
      clear hd HKp HO3 HQ3 HB3
      have HKp := Lib.hid (kept_any I2 a2 lt ct ys w14 (HI2.out.below HB4.out HI2.out.lt) (H2.out.keep HB4.out).1 (by omega))
      go_wp2_with fail
      refine HKp.out.mono ?_
      rintro e w15 ⟨rfl, n1, rfl⟩
      have hd := nu_drewN (nu_refl w14) n1
      have HO5 := Lib.hid (ownB_under HO4.out hd)
      have HQ5 := Lib.hid (ownB_under HQ4.out hd)
      have HB5 := Lib.hid (nu_trans HB4.out hd)
      generalize w14.drewN n1 = w15 at *
      clear hd HKp HO4 HQ4 HB4
      obtain ⟨y, hy⟩ : ∃ y, S[0]? = some y := ⟨_, List.getElem?_eq_getElem (by rw [HSl.out]; omega)⟩
      have cG : w15.cell? ⟨G, 0, none⟩ = some (.int .u8 (y : Int)) := HO5.out.cellAt HSl.out 0 y hy
      have fG := HO5.out.frozenAt HSl.out 0
      have hy8 : y < 256 := HO5.out.2 y (List.mem_of_getElem? hy)
      obtain ⟨z, hz⟩ : ∃ z, z = (y + 1) % 256 := ⟨_, rfl⟩
      have wz : IntKind.u8.wrap ((y : Int) + 1) = (z : Int) := by rw [IntKind.wrap_u8]; omega
      have hi0 : (0 : Int) < (lt : Int) + 16 := by omega
      have HB6 := Lib.hid (nu_set HB5.out (p := ⟨G, 0, none⟩) HGg.out.1 (vb z))
      have HQ6 := Lib.hid (HQ5.out.kept (gb_set (gb_refl w15 (some G)) (p := ⟨G, 0, none⟩) (.inl rfl) (vb z)) HGg.out.2)
      have H8b := Lib.hid (H8.out.below HB6.out)
      simp only [vb] at HB6 HQ6 H8b
      clear hy hy8 hz HO5 HQ5 HB5
      go_upto_region 13 with fail
      clear cG fG wz
      generalize w15.setCell ⟨G, 0, none⟩ (.int .u8 (z : Int)) = w16 at *
      go_wp2_with (first | (refine wpList_run _ (by rfl) (eKey_load H8b.out.k HLl.out (.tmp 11) rfl rfl) ?_) | (refine wpList_run _ (by rfl) (e12_load H8b.out.p H12.out (.tmp 5) rfl rfl) ?_))
      refine (HSe.out w16 HB6.out).mono ?_
      rintro e w17 ⟨q, rfl, hO, hb⟩
      obtain ⟨G2, gc2, rfl, hG2, hGl2, hgc2⟩ := ownB_slice hO (by rw [HSl.out]; omega)
      rw [HSl.out] at hO
      rw [HSl.out]
      have HQ7 := Lib.hid (ownB_under HQ6.out hb)
      have HB7 := Lib.hid (nu_trans HB6.out hb)
      have HSm := Lib.hid (same_is (w := w17) (ca := gc2) (cb := qc) true (by simp) (ownB_bytes hO HSl.out).1 (ownB_bytes HQ7.out HSl.out).1 (by omega) (by omega))
      clear hO hb HQ6 HB6 H8b HQ7 hG2 hGl2 hgc2
      go_wp2_with fail
      refine HSm.out.mono ?_
      rintro e w18 ⟨rfl, n1, rfl⟩
      have Hn9 := Lib.hid (nu_drewN (nu_trans Hn10.out HB7.out) n1)
      generalize w17.drewN n1 = w18 at *
      clear HSm HB7
      go_wp2_with fail
      refine (awake8 w18).mono ?_
      rintro e w4 ⟨rfl, hb⟩
      have hn := nu_trans Hn9.out hb
      go_wp2_with fail
      go_ret
      exact ⟨rfl, hn⟩
    · go_wp2_with fail
      refine (awake8 w9).mono ?_
      rintro e w4 ⟨rfl, hb⟩
      have hn := nu_trans Hn9.out hb
      go_wp2_with fail
      go_ret
      exact ⟨rfl, hn⟩
  · have HNw := Lib.hid (gcmNew_bad a len cap (w.alloc (.cells (nonce.map vb).toArray 23)) (by omega) (by omega))
    have HRw := Lib.hid (refNew_bad a len cap (w.alloc (.cells (nonce.map vb).toArray 23)) (by omega) (by omega))
    clear hL hkl hkx hx
    go_enter Try.func3, Try.ntmps3
    go_wp2_with fail
    refine HNw.out.mono ?_
    rintro e w3 ⟨rfl, rfl⟩
    go_wp2_with fail
    refine HRw.out.mono ?_
    rintro e w3 ⟨rfl, hbk⟩
    obtain ⟨LK, hLK⟩ : ∃ LK, LK = keyZ := ⟨_, rfl⟩
    rw [← hLK]
    have HLl := Lib.hid (show LK.length = 513 by rw [hLK]; exact keyZ_len)
    have HL1 := Lib.hid (show ∀ u ∈ LK, u.oneCell' = true by rw [hLK]; exact keyZ_one)
    clear hLK
    have HKm := Lib.hid (Blk.made w3 31 Try.zeroCells31)
    have HKf := Lib.hid (Blk.fill HKm.out LK (by rw [zero_key_size, HLl.out]))
    have Hbk := Lib.hid (nu_trans hbk (nu_fill (a := w3) LK (g := w3.heap.size) (Nat.le_refl _) 0 _ (nu_alloc (nu_refl w3) (.cells Try.zeroCells31 31))))
    have Hbk3 := Lib.hid (nu_fill (a := w3) LK (g := w3.heap.size) (Nat.le_refl _) 0 _ (nu_alloc (nu_refl w3) (.cells Try.zeroCells31 31)))
    clear hbk
    go_upto_region 3 with (refine wpList_store_in rfl 31 (.tmp 11) (.tmp 25) rfl w3.heap.size 0 LK rfl rfl 31 Try.zeroCells31 HKm.out (by rw [zero_key_size, HLl.out]; omega) (by rw [HLl.out]; kernel_rfl) HL1.out ?_)
    change Code.wp _ _ _ _ ((w3.alloc (.cells Try.zeroCells31 31)).setCells w3.heap.size 0 LK)
    clear HKm
    generalize (w3.alloc (.cells Try.zeroCells31 31)).setCells w3.heap.size 0 LK = w9 at *
    have Hn9 := Lib.hid (nu_trans Hal.out Hbk.out)
    clear HKf Hbk Hbk3
    go_wp2_with fail
    refine (awake8 w9).mono ?_
    rintro e w4 ⟨rfl, hb⟩
    have hn := nu_trans Hn9.out hb
    go_wp2_with fail
    go_ret
    exact ⟨rfl, hn⟩
set_option maxRecDepth 100000 in
set_option maxHeartbeats 8000000 in
theorem gcmOpens_walk (a : Option Addr) (len cap : Nat) (key : List Nat) (nonce : List Nat) (h12 : nonce.length = 12) (hx12 : ∀ x ∈ nonce, x < 256) (a1 a2 : Option Addr) (la ca lt ct : Nat) (xs ys : List Nat) (w : World) (hx : BytesIn w a len cap key) (h1 : BytesIn w a1 la ca xs) (h2 : BytesIn w a2 lt ct ys) (hac : la ≤ ca ∧ ca ≤ maxLen) (htc : lt ≤ ct ∧ ct ≤ maxLen) :
    Calls Try.prog 5 #[.slice a len cap, .agg (nonce.map vb).toArray, .slice a1 la ca, .slice a2 lt ct] w fun e w' => e = .returned (.bool true) ∧ Below w.heap.size w w' := by
  have hal := nu_alloc (nu_refl w) (.cells (nonce.map vb).toArray 23)
  have HP := Lib.hid (Blk.made w 23 (nonce.map vb).toArray)
  have H12 := Lib.hid h12
  have Hx12 := Lib.hid hx12
  have HX := Lib.hid (hx.keep hal)
  have H1 := Lib.hid (h1.keep hal)
  have H2 := Lib.hid (h2.keep hal)
  have Hac := Lib.hid hac
  have Htc := Lib.hid htc
  have Hal := Lib.hid hal
  have hkx : ∀ x ∈ key, x < 256 := fun x h => wf_u8_lt (hx.1.2.1 x h)
  have hkl : key.length = len := hx.1.1
  have H1x := Lib.hid (fun x h => wf_u8_lt (h1.1.2.1 x h))
  have H1l := Lib.hid (show xs.length = la from h1.1.1)
  have H2x := Lib.hid (fun x h => wf_u8_lt (h2.1.2.1 x h))
  have H2l := Lib.hid (show ys.length = lt from h2.1.1)
  obtain ⟨v, hv⟩ : ∃ v, decide (1000 < la ∨ 1000 < lt) = v := ⟨_, rfl⟩
  have Hv := Lib.hid hv
  clear h12 hx12 h1 h2 hac htc hal hv
  by_cases hL : len = 16 ∨ len = 32
  · obtain ⟨Ws, hWs⟩ : ∃ Ws, Ws = expand key := ⟨_, rfl⟩
    obtain ⟨R, hR⟩ : ∃ R, R = key.length / 4 + 6 := ⟨_, rfl⟩
    have HK := Lib.hid (show Keyed Ws R by rw [hWs, hR]; exact keyed_of hkx (by rw [hkl]; exact hL))
    obtain ⟨h, hh⟩ : ∃ h, h = polB (enc Ws R z16n) := ⟨_, rfl⟩
    have HhE := Lib.hid hh
    have Hh := Lib.hid (show h < 2 ^ 128 by rw [hh]; exact polB_lt _)
    have HW := Lib.hid (show ∀ (u : World) (X : Nat), GBox u X (expand key) (key.length / 4 + 6) (polB (enc (expand key) (key.length / 4 + 6) z16n)) → GBox u X Ws R h from fun u X hg => by rw [← hWs, ← hR, ← hh] at hg; exact hg)
    have HNw := Lib.hid (gcmNew_any hL HX.out)
    have HRn := Lib.hid (show ∀ u : World, Below w.heap.size w u → Calls Try.prog 10 #[.slice a len cap] u (RefMade u Ws) from fun u hu => by
      rw [hWs]
      exact refNew_any (len / 4) len (by omega) (by omega) a cap key u (hx.keep hu))
    clear hWs hR hh hkx hkl hL hx
    go_enter Try.func5, Try.ntmps5
    go_upto_region 1 with fail
    generalize w.alloc (.cells (nonce.map vb).toArray 23) = w1 at *
    obtain ⟨P, hP⟩ : ∃ P, P = w.heap.size := ⟨_, rfl⟩
    rw [← hP] at HP
    rw [← hP]
    clear hP
    go_wp2_with fail
    refine HNw.out.mono ?_
    rintro e w2 ⟨X, rfl, hG, hb2, _⟩
    have HG := Lib.hid (HW.out w2 X hG)
    have HP2 := Lib.hid (HP.out.below hb2 HP.out.lt)
    have H12' := Lib.hid (H1.out.keep hb2)
    have H22 := Lib.hid (H2.out.keep hb2)
    have Hn2 := Lib.hid (nu_trans Hal.out hb2)
    clear hG hb2 HP HX H1 H2 Hal HNw
    go_wp2_with fail
    refine (HRn.out w2 Hn2.out).mono ?_
    rintro e w3 ⟨vk, rfl, hrow, hbk⟩
    obtain ⟨LK, hLK⟩ : ∃ LK, LK = rkeyL vk := ⟨_, rfl⟩
    rw [← hLK]
    have HLK := Lib.hid hLK
    have HLl := Lib.hid (show LK.length = 513 by rw [hLK]; exact rkeyL_len vk)
    have HL1 := Lib.hid (show ∀ u ∈ LK, u.oneCell' = true by rw [hLK]; exact rkeyL_one vk hrow.one)
    have Hrow := Lib.hid hrow
    clear hLK hrow
    have HKm := Lib.hid (Blk.made w3 31 Try.zeroCells31)
    have HKf := Lib.hid (Blk.fill HKm.out LK (by rw [zero_key_size, HLl.out]))
    have Hbk := Lib.hid (nu_trans hbk (nu_fill (a := w3) LK (g := w3.heap.size) (Nat.le_refl _) 0 _ (nu_alloc (nu_refl w3) (.cells Try.zeroCells31 31))))
    have Hbk3 := Lib.hid (nu_fill (a := w3) LK (g := w3.heap.size) (Nat.le_refl _) 0 _ (nu_alloc (nu_refl w3) (.cells Try.zeroCells31 31)))
    clear hbk
    go_upto_region 3 with (refine wpList_store_in rfl 31 (.tmp 11) (.tmp 26) rfl w3.heap.size 0 LK rfl rfl 31 Try.zeroCells31 HKm.out (by rw [zero_key_size, HLl.out]; omega) (by rw [HLl.out]; kernel_rfl) HL1.out ?_)
    change Code.wp _ _ _ _ ((w3.alloc (.cells Try.zeroCells31 31)).setCells w3.heap.size 0 LK)
    clear HKm
    generalize (w3.alloc (.cells Try.zeroCells31 31)).setCells w3.heap.size 0 LK = w9 at *
    obtain ⟨KB, hKB⟩ : ∃ KB, KB = w3.heap.size := ⟨_, rfl⟩
    rw [← hKB] at HKf
    rw [← hKB]
    clear hKB
    have H8 := Lib.hid (show G8 w9 X KB P Ws R h LK vk nonce from ⟨HG.out.below Hbk.out, Hrow.out.below Hbk3.out, HKf.out, HP2.out.below Hbk.out HP2.out.lt⟩)
    have H1 := Lib.hid (H12'.out.keep Hbk.out)
    have H2 := Lib.hid (H22.out.keep Hbk.out)
    have Hn9 := Lib.hid (nu_trans Hn2.out Hbk.out)
    clear HG Hrow HKf HP2 H12' H22 Hn2 Hbk Hbk3 HRn HL1
    go_wp2_with fail
    refine (great_any a1 a2 la ca lt ct w9 v Hv.out).mono ?_
    rintro e w' ⟨rfl, rfl⟩
    cases v
    · have hgr := Hv.out
      rw [decide_eq_false_iff_not] at hgr
      have hla : la ≤ 1000 := by omega
      have hlt : lt ≤ 1000 := by omega
      clear hgr Hv
      have HQ1 := Lib.hid (lent_any a2 lt ct ys w9 H2.out (by omega))
      go_wp2_with fail
      refine HQ1.out.mono ?_
      rintro e w10 ⟨rfl, hI, hb⟩
      obtain ⟨I1, hI1⟩ : ∃ I1, I1 = w9.heap.size := ⟨_, rfl⟩
      rw [← hI1] at hI
      rw [← hI1]
      have HI1 := Lib.hid hI
      have H8 := Lib.hid (H8.out.below hb)
      have H1 := Lib.hid (H1.out.keep hb)
      have H2 := Lib.hid (H2.out.keep hb)
      have Hn10 := Lib.hid (nu_trans Hn9.out hb)
      clear hI hI1 hb HQ1 Hn9
      by_cases hcase : lt < 16
      · have HX1 := Lib.hid (open_short X (.agg (nonce.map vb).toArray) a1 (some ⟨I1, 0, none⟩) la ca lt (lt + 3) w10 _ rfl hcase)
        have HX2 := Lib.hid (fun u : World => refOpen_short (.agg LK.toArray) (.agg (nonce.map vb).toArray) a1 a2 la ca lt ct u _ _ rfl rfl hcase)
        go_wp2_with (first | (refine wpList_run _ (by rfl) (eKey_load H8.out.k HLl.out (.tmp 11) rfl rfl) ?_) | (refine wpList_run _ (by rfl) (e12_load H8.out.p H12.out (.tmp 5) rfl rfl) ?_))
        refine HX1.out.mono ?_
        rintro e w11 ⟨rfl, hb⟩
        have HB := Lib.hid hb
        have H8b := Lib.hid (H8.out.below hb)
        clear hb HX1
        go_wp2_with (first | (refine wpList_run _ (by rfl) (eKey_load H8b.out.k HLl.out (.tmp 11) rfl rfl) ?_) | (refine wpList_run _ (by rfl) (e12_load H8b.out.p H12.out (.tmp 5) rfl rfl) ?_))
        refine (HX2.out w11).mono ?_
        rintro e w12 ⟨rfl, hb⟩
        have HSm := Lib.hid (same_is (w := w12) (ca := 0) (cb := 0) true (by simp) (BytesIn.nil_ w12).1 (BytesIn.nil_ w12).1 (by omega) (by omega))
        have HB2 := Lib.hid (nu_trans HB.out hb)
        clear hb HB H8b HX2
        go_wp2_with fail
        refine HSm.out.mono ?_
        rintro e w13 ⟨rfl, n1, rfl⟩
        have HB3 := Lib.hid (nu_drewN HB2.out n1)
        generalize w12.drewN n1 = w13 at *
        clear HSm HB2
        have HKp := Lib.hid (kept_any I1 a2 lt ct ys w13 (HI1.out.below HB3.out HI1.out.lt) (H2.out.keep HB3.out).1 (by omega))
        go_wp2_with fail
        refine HKp.out.mono ?_
        rintro e w14 ⟨rfl, n1, rfl⟩
        have Hn9 := Lib.hid (nu_drewN (nu_trans Hn10.out HB3.out) n1)
        generalize w13.drewN n1 = w14 at *
        clear HKp HB3
        go_wp2_with fail
        refine (awake8 w14).mono ?_
        rintro e w4 ⟨rfl, hb⟩
        have hn := nu_trans Hn9.out hb
        go_wp2_with fail
        go_ret
        exact ⟨rfl, hn⟩
      · by_cases htag : tagL Ws R nonce h xs (ys.take (lt - 16)) = ys.drop (lt - 16)
        · obtain ⟨n, hn⟩ : ∃ n, lt = n + 16 := ⟨lt - 16, by omega⟩
          have Hnl := Lib.hid hn
          have hn2 : n ≤ 1000 := by omega
          have HT := Lib.hid (show tagL Ws R nonce h xs (ys.take n) = ys.drop n by rw [show n = lt - 16 by omega]; exact htag)
          have HX1 := Lib.hid (open_good H8.out.g HK.out Hh.out nonce H12.out Hx12.out a1 la ca xs H1.out (by omega) Hac.out (some ⟨I1, 0, none⟩) lt (lt + 3) n ys (lent_bytes HI1.out H2l.out H2x.out) hn (by omega) (by unfold maxLen; omega) HT.out)
          have HX2 := Lib.hid (show ∀ u : World, Below w10.heap.size w10 u → _ from fun u hu => refOpen_good (H8.out.r.below hu) HK.out nonce H12.out Hx12.out a1 la ca xs (H1.out.keep hu) a2 lt ct ys (H2.out.keep hu) (by omega) n hn (by omega) Htc.out (by rw [← HhE.out]; exact HT.out))
          rw [← HLK.out] at HX2
          clear hn htag
          go_wp2_with (first | (refine wpList_run _ (by rfl) (eKey_load H8.out.k HLl.out (.tmp 11) rfl rfl) ?_) | (refine wpList_run _ (by rfl) (e12_load H8.out.p H12.out (.tmp 5) rfl rfl) ?_))
          refine HX1.out.mono ?_
          rintro e w11 ⟨q, rfl, hO, hb⟩
          obtain ⟨pa, pc, hvp, hp1, hp2, hpB⟩ := hO.reads
          have hTl : (turned Ws R nonce (ys.take n)).length = n := by have := Hnl.out; rw [turned_len, List.length_take, H2l.out]; omega
          rw [hTl] at hvp hpB
          subst hvp
          have HpB := Lib.hid hpB
          clear hO hp1 hp2 hpB
          have HB := Lib.hid hb
          have H8b := Lib.hid (H8.out.below hb)
          clear hb HX1
          go_wp2_with (first | (refine wpList_run _ (by rfl) (eKey_load H8b.out.k HLl.out (.tmp 11) rfl rfl) ?_) | (refine wpList_run _ (by rfl) (e12_load H8b.out.p H12.out (.tmp 5) rfl rfl) ?_))
          refine (HX2.out w11 HB.out).mono ?_
          rintro e w12 ⟨q2, rfl, hO, hb⟩
          obtain ⟨qa, qc, hvp, hp1, hp2, hpB⟩ := hO.reads
          rw [hTl] at hvp hpB
          subst hvp
          have HSm := Lib.hid (same_is (w := w12) (ca := pc) (cb := qc) true (by simp) (HpB.out.keep hb).1 hpB.1 (by omega) (by omega))
          clear hO hp1 hp2 hpB hTl HpB
          have HB2 := Lib.hid (nu_trans HB.out hb)
          clear hb HB H8b HX2
          go_wp2_with fail
          refine HSm.out.mono ?_
          rintro e w13 ⟨rfl, n1, rfl⟩
          have HB3 := Lib.hid (nu_drewN HB2.out n1)
          generalize w12.drewN n1 = w13 at *
          clear HSm HB2
          have HKp := Lib.hid (kept_any I1 a2 lt ct ys w13 (HI1.out.below HB3.out HI1.out.lt) (H2.out.keep HB3.out).1 (by omega))
          go_wp2_with fail
          refine HKp.out.mono ?_
          rintro e w14 ⟨rfl, n1, rfl⟩
          have Hn9 := Lib.hid (nu_drewN (nu_trans Hn10.out HB3.out) n1)
          generalize w13.drewN n1 = w14 at *
          clear HKp HB3
          go_wp2_with fail
          refine (awake8 w14).mono ?_
          rintro e w4 ⟨rfl, hb⟩
          have hn := nu_trans Hn9.out hb
          go_wp2_with fail
          go_ret
          exact ⟨rfl, hn⟩
        · obtain ⟨n, hn⟩ : ∃ n, lt = n + 16 := ⟨lt - 16, by omega⟩
          have Hnl := Lib.hid hn
          have hn2 : n ≤ 1000 := by omega
          have HT := Lib.hid (show ¬ tagL Ws R nonce h xs (ys.take n) = ys.drop n by rw [show n = lt - 16 by omega]; exact htag)
          have HX1 := Lib.hid (open_bad H8.out.g HK.out Hh.out nonce H12.out Hx12.out a1 la ca xs H1.out (by omega) Hac.out (some ⟨I1, 0, none⟩) lt (lt + 3) n ys (lent_bytes HI1.out H2l.out H2x.out) hn (by omega) (by unfold maxLen; omega) HT.out)
          have HX2 := Lib.hid (show ∀ u : World, Below w10.heap.size w10 u → _ from fun u hu => refOpen_bad (H8.out.r.below hu) HK.out nonce H12.out Hx12.out a1 la ca xs (H1.out.keep hu) a2 lt ct ys (H2.out.keep hu) (by omega) n hn (by omega) Htc.out (by rw [← HhE.out]; exact HT.out))
          rw [← HLK.out] at HX2
          clear hn htag
          go_wp2_with (first | (refine wpList_run _ (by rfl) (eKey_load H8.out.k HLl.out (.tmp 11) rfl rfl) ?_) | (refine wpList_run _ (by rfl) (e12_load H8.out.p H12.out (.tmp 5) rfl rfl) ?_))
          refine HX1.out.mono ?_
          rintro e w11 ⟨rfl, hb⟩
          have HB := Lib.hid hb
          have H8b := Lib.hid (H8.out.below hb)
          clear hb HX1
          go_wp2_with (first | (refine wpList_run _ (by rfl) (eKey_load H8b.out.k HLl.out (.tmp 11) rfl rfl) ?_) | (refine wpList_run _ (by rfl) (e12_load H8b.out.p H12.out (.tmp 5) rfl rfl) ?_))
          refine (HX2.out w11 HB.out).mono ?_
          rintro e w12 ⟨rfl, hb⟩
          have HSm := Lib.hid (same_is (w := w12) (ca := 0) (cb := 0) true (by simp) (BytesIn.nil_ w12).1 (BytesIn.nil_ w12).1 (by omega) (by omega))
          have HB2 := Lib.hid (nu_trans HB.out hb)
          clear hb HB H8b HX2
          go_wp2_with fail
          refine HSm.out.mono ?_
          rintro e w13 ⟨rfl, n1, rfl⟩
          have HB3 := Lib.hid (nu_drewN HB2.out n1)
          generalize w12.drewN n1 = w13 at *
          clear HSm HB2
          have HKp := Lib.hid (kept_any I1 a2 lt ct ys w13 (HI1.out.below HB3.out HI1.out.lt) (H2.out.keep HB3.out).1 (by omega))
          go_wp2_with fail
          refine HKp.out.mono ?_
          rintro e w14 ⟨rfl, n1, rfl⟩
          have Hn9 := Lib.hid (nu_drewN (nu_trans Hn10.out HB3.out) n1)
          generalize w13.drewN n1 = w14 at *
          clear HKp HB3
          go_wp2_with fail
          refine (awake8 w14).mono ?_
          rintro e w4 ⟨rfl, hb⟩
          have hn := nu_trans Hn9.out hb
          go_wp2_with fail
          go_ret
          exact ⟨rfl, hn⟩
    · go_wp2_with fail
      refine (awake8 w9).mono ?_
      rintro e w4 ⟨rfl, hb⟩
      have hn := nu_trans Hn9.out hb
      go_wp2_with fail
      go_ret
      exact ⟨rfl, hn⟩
  · have HNw := Lib.hid (gcmNew_bad a len cap (w.alloc (.cells (nonce.map vb).toArray 23)) (by omega) (by omega))
    have HRw := Lib.hid (refNew_bad a len cap (w.alloc (.cells (nonce.map vb).toArray 23)) (by omega) (by omega))
    clear hL hkl hkx hx
    go_enter Try.func5, Try.ntmps5
    go_wp2_with fail
    refine HNw.out.mono ?_
    rintro e w3 ⟨rfl, rfl⟩
    go_wp2_with fail
    refine HRw.out.mono ?_
    rintro e w3 ⟨rfl, hbk⟩
    obtain ⟨LK, hLK⟩ : ∃ LK, LK = keyZ := ⟨_, rfl⟩
    rw [← hLK]
    have HLl := Lib.hid (show LK.length = 513 by rw [hLK]; exact keyZ_len)
    have HL1 := Lib.hid (show ∀ u ∈ LK, u.oneCell' = true by rw [hLK]; exact keyZ_one)
    clear hLK
    have HKm := Lib.hid (Blk.made w3 31 Try.zeroCells31)
    have HKf := Lib.hid (Blk.fill HKm.out LK (by rw [zero_key_size, HLl.out]))
    have Hbk := Lib.hid (nu_trans hbk (nu_fill (a := w3) LK (g := w3.heap.size) (Nat.le_refl _) 0 _ (nu_alloc (nu_refl w3) (.cells Try.zeroCells31 31))))
    have Hbk3 := Lib.hid (nu_fill (a := w3) LK (g := w3.heap.size) (Nat.le_refl _) 0 _ (nu_alloc (nu_refl w3) (.cells Try.zeroCells31 31)))
    clear hbk
    go_upto_region 3 with (refine wpList_store_in rfl 31 (.tmp 11) (.tmp 26) rfl w3.heap.size 0 LK rfl rfl 31 Try.zeroCells31 HKm.out (by rw [zero_key_size, HLl.out]; omega) (by rw [HLl.out]; kernel_rfl) HL1.out ?_)
    change Code.wp _ _ _ _ ((w3.alloc (.cells Try.zeroCells31 31)).setCells w3.heap.size 0 LK)
    clear HKm
    generalize (w3.alloc (.cells Try.zeroCells31 31)).setCells w3.heap.size 0 LK = w9 at *
    have Hn9 := Lib.hid (nu_trans Hal.out Hbk.out)
    clear HKf Hbk Hbk3
    go_wp2_with fail
    refine (awake8 w9).mono ?_
    rintro e w4 ⟨rfl, hb⟩
    have hn := nu_trans Hn9.out hb
    go_wp2_with fail
    go_ret
    exact ⟨rfl, hn⟩
end Go.Proofs.Ytpeibkdcglkimaa

namespace Go.Proofs.Ytpeibkdcglkimaa
open Go.ChangeShapes Go.WideShapes Go.ChangeAt Go.RowKit Fld Aes Gcm
set_option linter.unusedSimpArgs false

theorem ownB_cap {w : World} {base l cap : Nat} {e : TypeId} {a : Option Addr} {xs : List Nat} (h : OwnB w base e (.slice a l cap) xs) (hl : xs.length = l) : l ≤ cap ∧ cap ≤ maxLen := by
  obtain ⟨a', cap', he, h1, h2, _⟩ := h.reads
  injection he with e1 e2 e3
  subst e1 e3
  rw [hl] at h1
  exact ⟨h1, h2⟩
set_option maxRecDepth 100000 in
set_option maxHeartbeats 8000000 in
theorem gcmTurned_walk (a : Option Addr) (len cap : Nat) (key : List Nat) (nonce : List Nat) (h12 : nonce.length = 12) (hx12 : ∀ x ∈ nonce, x < 256) (a1 a2 : Option Addr) (la ca lt ct : Nat) (xs ys : List Nat) (at' : Int) (q : Nat) (hq : q < 256) (hb1 : -9223372036854775808 ≤ at') (hb2 : at' ≤ 9223372036854775807) (w : World) (hx : BytesIn w a len cap key) (h1 : BytesIn w a1 la ca xs) (h2 : BytesIn w a2 lt ct ys) (hac : la ≤ ca ∧ ca ≤ maxLen) (htc : lt ≤ ct ∧ ct ≤ maxLen) :
    Calls Try.prog 7 #[.slice a len cap, .agg (nonce.map vb).toArray, .slice a1 la ca, .slice a2 lt ct, .int .i64 at', .int .u8 (q : Int)] w fun e w' => e = .returned (.bool true) ∧ Below w.heap.size w w' := by
  have hal := nu_alloc (nu_refl w) (.cells (nonce.map vb).toArray 23)
  have HP := Lib.hid (Blk.made w 23 (nonce.map vb).toArray)
  have H12 := Lib.hid h12
  have Hx12 := Lib.hid hx12
  have HX := Lib.hid (hx.keep hal)
  have H1 := Lib.hid (h1.keep hal)
  have H2 := Lib.hid (h2.keep hal)
  have Hac := Lib.hid hac
  have Htc := Lib.hid htc
  have Hal := Lib.hid hal
  have hkx : ∀ x ∈ key, x < 256 := fun x h => wf_u8_lt (hx.1.2.1 x h)
  have hkl : key.length = len := hx.1.1
  have H1x := Lib.hid (fun x h => wf_u8_lt (h1.1.2.1 x h))
  have H1l := Lib.hid (show xs.length = la from h1.1.1)
  have H2x := Lib.hid (fun x h => wf_u8_lt (h2.1.2.1 x h))
  have H2l := Lib.hid (show ys.length = lt from h2.1.1)
  obtain ⟨v, hv⟩ : ∃ v, decide (1000 < la ∨ 1000 < lt) = v := ⟨_, rfl⟩
  have Hv := Lib.hid hv
  have Hat := Lib.hid (And.intro hb1 hb2)
  have Hq := Lib.hid hq
  clear hb1 hb2 hq
  clear h12 hx12 h1 h2 hac htc hal hv
  by_cases hL : len = 16 ∨ len = 32
  · obtain ⟨Ws, hWs⟩ : ∃ Ws, Ws = expand key := ⟨_, rfl⟩
    obtain ⟨R, hR⟩ : ∃ R, R = key.length / 4 + 6 := ⟨_, rfl⟩
    have HK := Lib.hid (show Keyed Ws R by rw [hWs, hR]; exact keyed_of hkx (by rw [hkl]; exact hL))
    obtain ⟨h, hh⟩ : ∃ h, h = polB (enc Ws R z16n) := ⟨_, rfl⟩
    have HhE := Lib.hid hh
    have Hh := Lib.hid (show h < 2 ^ 128 by rw [hh]; exact polB_lt _)
    have HW := Lib.hid (show ∀ (u : World) (X : Nat), GBox u X (expand key) (key.length / 4 + 6) (polB (enc (expand key) (key.length / 4 + 6) z16n)) → GBox u X Ws R h from fun u X hg => by rw [← hWs, ← hR, ← hh] at hg; exact hg)
    have HNw := Lib.hid (gcmNew_any hL HX.out)
    have HRn := Lib.hid (show ∀ u : World, Below w.heap.size w u → Calls Try.prog 10 #[.slice a len cap] u (RefMade u Ws) from fun u hu => by
      rw [hWs]
      exact refNew_any (len / 4) len (by omega) (by omega) a cap key u (hx.keep hu))
    clear hWs hR hh hkx hkl hL hx
    go_enter Try.func7, Try.ntmps7
    go_upto_region 1 with fail
    generalize w.alloc (.cells (nonce.map vb).toArray 23) = w1 at *
    obtain ⟨P, hP⟩ : ∃ P, P = w.heap.size := ⟨_, rfl⟩
    rw [← hP] at HP
    rw [← hP]
    clear hP
    go_wp2_with fail
    refine HNw.out.mono ?_
    rintro e w2 ⟨X, rfl, hG, hb2, _⟩
    have HG := Lib.hid (HW.out w2 X hG)
    have HP2 := Lib.hid (HP.out.below hb2 HP.out.lt)
    have H12' := Lib.hid (H1.out.keep hb2)
    have H22 := Lib.hid (H2.out.keep hb2)
    have Hn2 := Lib.hid (nu_trans Hal.out hb2)
    clear hG hb2 HP HX H1 H2 Hal HNw
    go_wp2_with fail
    refine (HRn.out w2 Hn2.out).mono ?_
    rintro e w3 ⟨vk, rfl, hrow, hbk⟩
    obtain ⟨LK, hLK⟩ : ∃ LK, LK = rkeyL vk := ⟨_, rfl⟩
    rw [← hLK]
    have HLK := Lib.hid hLK
    have HLl := Lib.hid (show LK.length = 513 by rw [hLK]; exact rkeyL_len vk)
    have HL1 := Lib.hid (show ∀ u ∈ LK, u.oneCell' = true by rw [hLK]; exact rkeyL_one vk hrow.one)
    have Hrow := Lib.hid hrow
    clear hLK hrow
    have HKm := Lib.hid (Blk.made w3 31 Try.zeroCells31)
    have HKf := Lib.hid (Blk.fill HKm.out LK (by rw [zero_key_size, HLl.out]))
    have Hbk := Lib.hid (nu_trans hbk (nu_fill (a := w3) LK (g := w3.heap.size) (Nat.le_refl _) 0 _ (nu_alloc (nu_refl w3) (.cells Try.zeroCells31 31))))
    have Hbk3 := Lib.hid (nu_fill (a := w3) LK (g := w3.heap.size) (Nat.le_refl _) 0 _ (nu_alloc (nu_refl w3) (.cells Try.zeroCells31 31)))
    clear hbk
    go_upto_region 3 with (refine wpList_store_in rfl 31 (.tmp 15) (.tmp 36) rfl w3.heap.size 0 LK rfl rfl 31 Try.zeroCells31 HKm.out (by rw [zero_key_size, HLl.out]; omega) (by rw [HLl.out]; kernel_rfl) HL1.out ?_)
    change Code.wp _ _ _ _ ((w3.alloc (.cells Try.zeroCells31 31)).setCells w3.heap.size 0 LK)
    clear HKm
    generalize (w3.alloc (.cells Try.zeroCells31 31)).setCells w3.heap.size 0 LK = w9 at *
    obtain ⟨KB, hKB⟩ : ∃ KB, KB = w3.heap.size := ⟨_, rfl⟩
    rw [← hKB] at HKf
    rw [← hKB]
    clear hKB
    have H8 := Lib.hid (show G8 w9 X KB P Ws R h LK vk nonce from ⟨HG.out.below Hbk.out, Hrow.out.below Hbk3.out, HKf.out, HP2.out.below Hbk.out HP2.out.lt⟩)
    have H1 := Lib.hid (H12'.out.keep Hbk.out)
    have H2 := Lib.hid (H22.out.keep Hbk.out)
    have Hn9 := Lib.hid (nu_trans Hn2.out Hbk.out)
    clear HG Hrow HKf HP2 H12' H22 Hn2 Hbk Hbk3 HRn HL1
    go_wp2_with fail
    refine (great_any a1 a2 la ca lt ct w9 v Hv.out).mono ?_
    rintro e w' ⟨rfl, rfl⟩
    cases v
    · have hgr := Hv.out
      rw [decide_eq_false_iff_not] at hgr
      have hla : la ≤ 1000 := by omega
      have hlt : lt ≤ 1000 := by omega
      clear hgr Hv
      by_cases hq0 : q = 0
      · have eq : ((q : Int) == 0) = true := by rw [hq0]; rfl
        go_wp2_with fail
        refine (awake8 w9).mono ?_
        rintro e w4 ⟨rfl, hb⟩
        have hn := nu_trans Hn9.out hb
        go_wp2_with fail
        go_ret
        exact ⟨rfl, hn⟩
      · have eq : ((q : Int) == 0) = false := by rw [beq_eq_false_iff_ne]; omega
        have HHs := Lib.hid (refHash_any H8.out.r HK.out)
        rw [← HLK.out] at HHs
        obtain ⟨Q, hQ⟩ : ∃ Q, Q = enc Ws R z16n := ⟨_, rfl⟩
        rw [← hQ] at HHs
        have HQs := Lib.hid (show St16 Q by rw [hQ]; exact enc_st z16n Ws R)
        have HhQ := Lib.hid (show h = polB Q by rw [hQ]; exact HhE.out)
        clear hQ
        obtain ⟨b, hb0⟩ : ∃ b, decide (Q = z16n) = b := ⟨_, rfl⟩
        have Hb0 := Lib.hid hb0
        clear hb0
        go_wp2_with (refine wpList_run _ (by rfl) (eKey_load H8.out.k HLl.out (.tmp 15) rfl rfl) ?_)
        refine HHs.out.mono ?_
        rintro e w10 ⟨rfl, hb⟩
        have H8 := Lib.hid (H8.out.below hb)
        have H1 := Lib.hid (H1.out.keep hb)
        have H2 := Lib.hid (H2.out.keep hb)
        have Hn10 := Lib.hid (nu_trans Hn9.out hb)
        clear hb HHs Hn9
        cases b
        · have Hh0 := Lib.hid (show h ≠ 0 from fun e => by
            have h1 := Hb0.out
            rw [decide_eq_false_iff_not] at h1
            rw [HhQ.out] at e
            exact h1 ((zero_iff Q HQs.out.1 HQs.out.2).2 e))
          go_upto_region 5 with (first | (refine wpList_run _ (by rfl) (exec_zb rfl) ?_) | (refine wpList_run _ (by rfl) (exec_eqlv_16 Q z16n false Hb0.out HQs.out.1 rfl (.tmp 55) (.tmp 56) rfl rfl rfl) ?_))
          obtain ⟨N, hN⟩ : ∃ N, N = lt + 16 := ⟨_, rfl⟩
          have HN := Lib.hid hN
          have eN : (lt : Int) + 16 = (N : Int) := by omega
          have hNb : N ≤ 1016 ∧ 16 ≤ N := by omega
          have wN : IntKind.i64.wrap (N : Int) = (N : Int) := by rw [IntKind.wrap_i64]; omega
          obtain ⟨S, hS⟩ : ∃ S, S = sealL Ws R nonce h xs ys := ⟨_, rfl⟩
          have HSl := Lib.hid (show S.length = N by rw [hS, sealL_len, H2l.out, hN])
          have HSe := Lib.hid hS
          have HSc := Lib.hid (seal_any H8.out.g HK.out Hh.out nonce H12.out Hx12.out a1 la ca xs H1.out (by omega) Hac.out a2 lt ct ys H2.out (by omega))
          rw [← hS] at HSc
          clear hS hN
          go_wp2_with (refine wpList_run _ (by rfl) (e12_load H8.out.p H12.out (.tmp 7) rfl rfl) ?_)
          refine HSc.out.mono ?_
          rintro e w11 ⟨s, rfl, hO, hb⟩
          obtain ⟨G, gc, rfl, hG, hGl, hgc⟩ := ownB_slice hO (by rw [HSl.out]; omega)
          rw [HSl.out] at hO hgc
          rw [HSl.out]
          have Hgc := Lib.hid (ownB_cap hO HSl.out)
          have HS := Lib.hid hO
          have H8 := Lib.hid (H8.out.below hb)
          have H1 := Lib.hid (H1.out.keep hb)
          have Hn11 := Lib.hid (nu_trans Hn10.out hb)
          have HCp := Lib.hid (copy_any (some ⟨G, 0, none⟩) N gc S w11 (ownB_bytes hO HSl.out) (by omega))
          clear hO hG hGl hb hgc HSc Hn10 H2
          go_wp2_with fail
          refine HCp.out.mono ?_
          rintro e w12 ⟨t, rfl, hO, hb⟩
          obtain ⟨G2, gc2, rfl, hG, hGl, hgc⟩ := ownB_slice hO (by rw [HSl.out]; omega)
          rw [HSl.out] at hO hgc
          rw [HSl.out]
          have HO2 := Lib.hid hO
          have HG2 := Lib.hid hG
          have HB12 := Lib.hid hb
          have Hgc2 := Lib.hid (ownB_cap hO HSl.out)
          clear hO hG hGl hb HCp hgc
          obtain ⟨i, hk⟩ : ∃ k : Nat, (k : Int) = at' % (N : Int) := ⟨(at' % (N : Int)).toNat, Int.toNat_of_nonneg (Int.emod_nonneg _ (by omega))⟩
          have hil : i < N := by have := Int.emod_lt_of_pos at' (show (0 : Int) < (N : Int) by omega); omega
          have HPk := Lib.hid (pick_any at' (N : Int) i w12 hk (by omega) (by omega) Hat.out.1 Hat.out.2)
          clear hk
          go_wp2_with fail
          refine HPk.out.mono ?_
          rintro e w' ⟨rfl, rfl⟩
          obtain ⟨x, hx⟩ : ∃ x, S[i]? = some x := ⟨_, List.getElem?_eq_getElem (by rw [HSl.out]; exact hil)⟩
          have hx8 := HS.out.2 x (List.mem_of_getElem? hx)
          obtain ⟨z, hz⟩ : ∃ z, z = x ^^^ q := ⟨_, rfl⟩
          have exz := u8_xor_nat x q hx8 Hq.out
          rw [← hz] at exz
          have hz8 : z < 256 := by rw [hz]; exact xor_lt8 hx8 Hq.out
          have hzn : z ≠ x := fun e => hq0 (by rw [e] at hz; exact (xcl x 0 q (by rw [Nat.xor_zero]; exact hz)).symm)
          have hii : (i : Int) < (N : Int) := by omega
          have cG := HO2.out.cellAt HSl.out i x hx
          have fG := HO2.out.frozenAt HSl.out i
          have HB13 := Lib.hid (nu_set HB12.out (p := ⟨G2, i, none⟩) HG2.out (vb z))
          have HO13 := Lib.hid (HO2.out.stored HSl.out i z hz8)
          have HT1 := Lib.hid (turned_bad Ws R nonce h Hh.out Hh0.out xs ys H2x.out i z x (by rw [← HSe.out]; exact hx) hzn hz8)
          simp only [vb] at HB13 HO13
          clear hx hx8 hz hz8 hzn HO2 HB12 HPk hil
          go_upto_region 11 with fail
          clear cG fG exz hii
          generalize w12.setCell ⟨G2, i, none⟩ (.int .u8 (z : Int)) = w13 at *
          have HOp := Lib.hid (open_bad (H8.out.below HB13.out).g HK.out Hh.out nonce H12.out Hx12.out a1 la ca xs (H1.out.keep HB13.out) (by omega) Hac.out (some ⟨G2, 0, none⟩) N gc2 lt (S.set i z) (ownB_bytes HO13.out (by rw [List.length_set, HSl.out])) HN.out (by omega) Hgc2.out (by rw [HSe.out, ← H2l.out]; exact HT1.out))
          have HPl := Lib.hid (H8.out.below HB13.out).p
          go_wp2_with (refine wpList_run _ (by rfl) (e12_load HPl.out H12.out (.tmp 7) rfl rfl) ?_)
          refine HOp.out.mono ?_
          rintro e w14 ⟨rfl, hb⟩
          have HB14 := Lib.hid (nu_trans HB13.out hb)
          have HPl := Lib.hid (HPl.out.below hb HPl.out.lt)
          clear hb HOp HB13 HO13 HT1
          have HOm := Lib.hid (Blk.made w14 23 (z12n.map vb).toArray)
          have hal := nu_alloc (nu_refl w14) (.cells (z12n.map vb).toArray 23)
          have HOf := Lib.hid (Blk.fill HOm.out (nonce.map vb) (by rw [List.length_map, H12.out]; rfl))
          have HB15 := Lib.hid (nu_trans HB14.out (nu_fill (nonce.map vb) (g := w14.heap.size) (Nat.le_refl _) 0 _ hal))
          have Hsz := Lib.hid HB14.out.size
          clear hal HB14
          go_upto_region 15 with (first | (refine wpList_run _ (by rfl) (e12_load HPl.out H12.out (.tmp 7) rfl rfl) ?_) | (refine wpList_store_blk rfl 23 (.tmp 22) (.tmp 101) rfl w14.heap.size (nonce.map vb) rfl rfl 23 (z12n.map vb).toArray HOm.out (by rw [List.length_map, H12.out]; rfl) (by rw [List.length_map, H12.out]; kernel_rfl) (vb_one _) ?_))
          change Code.wp _ _ _ _ ((w14.alloc (.cells (z12n.map vb).toArray 23)).setCells w14.heap.size 0 (nonce.map vb))
          clear HOm HPl
          generalize (w14.alloc (.cells (z12n.map vb).toArray 23)).setCells w14.heap.size 0 (nonce.map vb) = w15 at *
          obtain ⟨OB, hOB⟩ : ∃ OB, OB = w14.heap.size := ⟨_, rfl⟩
          rw [← hOB] at HOf Hsz
          rw [← hOB]
          clear hOB
          obtain ⟨j, hk⟩ : ∃ k : Nat, (k : Int) = at' % 12 := ⟨(at' % 12).toNat, Int.toNat_of_nonneg (Int.emod_nonneg _ (by omega))⟩
          have hjl : j < 12 := by have := Int.emod_lt_of_pos at' (show (0 : Int) < 12 by omega); omega
          have HPk := Lib.hid (pick_any at' 12 j w15 hk (by omega) (by omega) Hat.out.1 Hat.out.2)
          clear hk
          go_wp2_with fail
          refine HPk.out.mono ?_
          rintro e w' ⟨rfl, rfl⟩
          obtain ⟨x2, hx2⟩ : ∃ x, nonce[j]? = some x := ⟨_, List.getElem?_eq_getElem (by rw [H12.out]; exact hjl)⟩
          have hx28 := Hx12.out x2 (List.mem_of_getElem? hx2)
          obtain ⟨z2, hz2⟩ : ∃ z2, z2 = x2 ^^^ q := ⟨_, rfl⟩
          have exz2 := u8_xor_nat x2 q hx28 Hq.out
          rw [← hz2] at exz2
          have hz28 : z2 < 256 := by rw [hz2]; exact xor_lt8 hx28 Hq.out
          have hz2n : z2 ≠ x2 := fun e => hq0 (by rw [e] at hz2; exact (xcl x2 0 q (by rw [Nat.xor_zero]; exact hz2)).symm)
          have hji : (j : Int) < 12 := by omega
          have cG : w15.cell? ⟨OB, j, none⟩ = some (.int .u8 (x2 : Int)) := HOf.out.at j _ (arrg_at vb _ j x2 hx2)
          have fG := HOf.out.free j
          have HB16 := Lib.hid (nu_set HB15.out (p := ⟨OB, j, none⟩) Hsz.out (vb z2))
          have hset := HOf.out.put j (vb z2)
          rw [arrg_set] at hset
          obtain ⟨other, hot⟩ : ∃ o, o = nonce.set j z2 := ⟨_, rfl⟩
          rw [← hot] at hset
          have HO16 := Lib.hid hset
          have Ho12 := Lib.hid (show other.length = 12 by rw [hot, List.length_set, H12.out])
          have Hox := Lib.hid (show ∀ x ∈ other, x < 256 from fun x hx => by
            rw [hot] at hx
            rcases List.mem_or_eq_of_mem_set hx with hx | hx
            · exact Hx12.out x hx
            · rw [hx]; exact hz28)
          have HT2 := Lib.hid (other_bad Ws R HK.out.pos nonce other h xs ys H12.out Hx12.out Ho12.out Hox.out (by rw [hot]; exact Ne.symm (set_ne hx2 hz2n)))
          simp only [vb] at HB16 HO16
          clear hx2 hx28 hz2 hz28 hz2n hset hot HOf HB15 HPk hjl
          go_upto_region 16 with fail
          clear cG fG exz2 hji
          generalize w15.setCell ⟨OB, j, none⟩ (.int .u8 (z2 : Int)) = w16 at *
          have HOp := Lib.hid (open_bad (H8.out.below HB16.out).g HK.out Hh.out other Ho12.out Hox.out a1 la ca xs (H1.out.keep HB16.out) (by omega) Hac.out (some ⟨G, 0, none⟩) N gc lt S (ownB_bytes (ownB_under HS.out HB16.out) HSl.out) HN.out (by omega) Hgc.out (by rw [HSe.out, ← H2l.out]; exact HT2.out))
          go_wp2_with (refine wpList_run _ (by rfl) (e12_load HO16.out Ho12.out (.tmp 22) rfl rfl) ?_)
          refine HOp.out.mono ?_
          rintro e w17 ⟨rfl, hb⟩
          have HB17 := Lib.hid (nu_trans HB16.out hb)
          clear hb HOp HB16 HO16 HT2
          by_cases hl0 : la = 0
          · have eb : ((la : Int) == 0) = true := by rw [hl0]; rfl
            have Hn9 := Lib.hid (nu_trans Hn11.out HB17.out)
            clear HB17 H8 H1 HS
            go_wp2_with fail
            refine (awake8 w17).mono ?_
            rintro e w4 ⟨rfl, hb⟩
            have hn := nu_trans Hn9.out hb
            go_wp2_with fail
            go_ret
            exact ⟨rfl, hn⟩
          · have eb : ((la : Int) == 0) = false := by rw [beq_eq_false_iff_ne]; omega
            have HCp := Lib.hid (copy_any a1 la ca xs w17 (H1.out.keep HB17.out) (by omega))
            go_wp2_with fail
            refine HCp.out.mono ?_
            rintro e w18 ⟨c, rfl, hO, hb⟩
            obtain ⟨G3, gc3, rfl, hG, hGl, hgc⟩ := ownB_slice hO (by rw [H1l.out]; omega)
            rw [H1l.out] at hO hgc
            rw [H1l.out]
            have HO3 := Lib.hid hO
            have HG3 := Lib.hid (Nat.le_trans HB17.out.size hG)
            have HB18 := Lib.hid (nu_trans HB17.out hb)
            have Hgc3 := Lib.hid (ownB_cap hO H1l.out)
            clear hO hG hGl hb hgc HCp HB17
            obtain ⟨k, hk⟩ : ∃ k : Nat, (k : Int) = at' % (la : Int) := ⟨(at' % (la : Int)).toNat, Int.toNat_of_nonneg (Int.emod_nonneg _ (by omega))⟩
            have hkl : k < la := by have := Int.emod_lt_of_pos at' (show (0 : Int) < (la : Int) by omega); omega
            have HPk := Lib.hid (pick_any at' (la : Int) k w18 hk (by omega) (by omega) Hat.out.1 Hat.out.2)
            clear hk
            go_wp2_with fail
            refine HPk.out.mono ?_
            rintro e w' ⟨rfl, rfl⟩
            obtain ⟨x3, hx3⟩ : ∃ x, xs[k]? = some x := ⟨_, List.getElem?_eq_getElem (by rw [H1l.out]; exact hkl)⟩
            have hx38 := H1x.out x3 (List.mem_of_getElem? hx3)
            obtain ⟨z3, hz3⟩ : ∃ z3, z3 = x3 ^^^ q := ⟨_, rfl⟩
            have exz3 := u8_xor_nat x3 q hx38 Hq.out
            rw [← hz3] at exz3
            have hz38 : z3 < 256 := by rw [hz3]; exact xor_lt8 hx38 Hq.out
            have hz3n : z3 ≠ x3 := fun e => hq0 (by rw [e] at hz3; exact (xcl x3 0 q (by rw [Nat.xor_zero]; exact hz3)).symm)
            have hki : (k : Int) < (la : Int) := by omega
            have cG := HO3.out.cellAt H1l.out k x3 hx3
            have fG := HO3.out.frozenAt H1l.out k
            have HB19 := Lib.hid (nu_set HB18.out (p := ⟨G3, k, none⟩) HG3.out (vb z3))
            have HO19 := Lib.hid (HO3.out.stored H1l.out k z3 hz38)
            have HT3 := Lib.hid (aad_bad Ws R nonce h Hh.out Hh0.out xs ys k z3 x3 H1x.out hx3 hz3n hz38)
            simp only [vb] at HB19 HO19
            clear hx3 hx38 hz3 hz38 hz3n HO3 HB18 HPk hkl
            go_upto_region 23 with fail
            clear cG fG exz3 hki
            generalize w18.setCell ⟨G3, k, none⟩ (.int .u8 (z3 : Int)) = w19 at *
            have HOp := Lib.hid (open_bad (H8.out.below HB19.out).g HK.out Hh.out nonce H12.out Hx12.out (some ⟨G3, 0, none⟩) la gc3 (xs.set k z3) (ownB_bytes HO19.out (by rw [List.length_set, H1l.out])) (by omega) Hgc3.out (some ⟨G, 0, none⟩) N gc lt S (ownB_bytes (ownB_under HS.out HB19.out) HSl.out) HN.out (by omega) Hgc.out (by rw [HSe.out, ← H2l.out]; exact HT3.out))
            have HPl := Lib.hid (H8.out.below HB19.out).p
            go_wp2_with (refine wpList_run _ (by rfl) (e12_load HPl.out H12.out (.tmp 7) rfl rfl) ?_)
            refine HOp.out.mono ?_
            rintro e w20 ⟨rfl, hb⟩
            have Hn9 := Lib.hid (nu_trans Hn11.out (nu_trans HB19.out hb))
            clear hb HOp HB19 HPl HO19
            go_wp2_with fail
            refine (awake8 w20).mono ?_
            rintro e w4 ⟨rfl, hb⟩
            have hn := nu_trans Hn9.out hb
            go_wp2_with fail
            go_ret
            exact ⟨rfl, hn⟩
        · have Hn9 := Lib.hid Hn10.out
          go_wp2_with (first | (refine wpList_run _ (by rfl) (exec_zb rfl) ?_) | (refine wpList_run _ (by rfl) (exec_eqlv_16 Q z16n true Hb0.out HQs.out.1 rfl (.tmp 55) (.tmp 56) rfl rfl rfl) ?_))
          refine (awake8 w10).mono ?_
          rintro e w4 ⟨rfl, hb⟩
          have hn := nu_trans Hn9.out hb
          go_wp2_with fail
          go_ret
          exact ⟨rfl, hn⟩
    · go_wp2_with fail
      refine (awake8 w9).mono ?_
      rintro e w4 ⟨rfl, hb⟩
      have hn := nu_trans Hn9.out hb
      go_wp2_with fail
      go_ret
      exact ⟨rfl, hn⟩
  · have HNw := Lib.hid (gcmNew_bad a len cap (w.alloc (.cells (nonce.map vb).toArray 23)) (by omega) (by omega))
    have HRw := Lib.hid (refNew_bad a len cap (w.alloc (.cells (nonce.map vb).toArray 23)) (by omega) (by omega))
    clear hL hkl hkx hx
    go_enter Try.func7, Try.ntmps7
    go_wp2_with fail
    refine HNw.out.mono ?_
    rintro e w3 ⟨rfl, rfl⟩
    go_wp2_with fail
    refine HRw.out.mono ?_
    rintro e w3 ⟨rfl, hbk⟩
    obtain ⟨LK, hLK⟩ : ∃ LK, LK = keyZ := ⟨_, rfl⟩
    rw [← hLK]
    have HLl := Lib.hid (show LK.length = 513 by rw [hLK]; exact keyZ_len)
    have HL1 := Lib.hid (show ∀ u ∈ LK, u.oneCell' = true by rw [hLK]; exact keyZ_one)
    clear hLK
    have HKm := Lib.hid (Blk.made w3 31 Try.zeroCells31)
    have HKf := Lib.hid (Blk.fill HKm.out LK (by rw [zero_key_size, HLl.out]))
    have Hbk := Lib.hid (nu_trans hbk (nu_fill (a := w3) LK (g := w3.heap.size) (Nat.le_refl _) 0 _ (nu_alloc (nu_refl w3) (.cells Try.zeroCells31 31))))
    have Hbk3 := Lib.hid (nu_fill (a := w3) LK (g := w3.heap.size) (Nat.le_refl _) 0 _ (nu_alloc (nu_refl w3) (.cells Try.zeroCells31 31)))
    clear hbk
    go_upto_region 3 with (refine wpList_store_in rfl 31 (.tmp 15) (.tmp 36) rfl w3.heap.size 0 LK rfl rfl 31 Try.zeroCells31 HKm.out (by rw [zero_key_size, HLl.out]; omega) (by rw [HLl.out]; kernel_rfl) HL1.out ?_)
    change Code.wp _ _ _ _ ((w3.alloc (.cells Try.zeroCells31 31)).setCells w3.heap.size 0 LK)
    clear HKm
    generalize (w3.alloc (.cells Try.zeroCells31 31)).setCells w3.heap.size 0 LK = w9 at *
    have Hn9 := Lib.hid (nu_trans Hal.out Hbk.out)
    clear HKf Hbk Hbk3
    go_wp2_with fail
    refine (awake8 w9).mono ?_
    rintro e w4 ⟨rfl, hb⟩
    have hn := nu_trans Hn9.out hb
    go_wp2_with fail
    go_ret
    exact ⟨rfl, hn⟩
end Go.Proofs.Ytpeibkdcglkimaa
