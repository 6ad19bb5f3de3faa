/-
  The walk of MacKeys.
-/
import Derived.Test.YtlekepigndlbhaaDoorMacK
namespace Go.Proofs.YtlekepigndlbhaaDoor
open Go.ChangeShapes Go.WideShapes Go.ChangeAt Go.RowKit

set_option maxRecDepth 100000 in
set_option maxHeartbeats 2000000 in
theorem macKeys_walk (a : Option Addr) (len cap : Nat) (master : List Nat) (m : Nat) (wide : Bool) (w : World) (hx : BytesIn w a len cap master) (hlc : len ≤ cap ∧ cap ≤ 140737488355320) (hm : m < 4294967296) (hT : TabIn w) :
    Calls Tryd.prog 12 #[.slice a len cap, .int .u32 m, .bool wide] w fun e w' => e = .returned (.bool true) ∧ Below w.heap.size w w' := by
  have HT := Lib.hid hT
  have Hx := Lib.hid hx
  have Hxl := Lib.hid hx.1.1
  have Hxx := Lib.hid (fun x h => wf_u8_lt (hx.1.2.1 x h))
  clear hT hx
  go_enter Tryd.func12, Tryd.ntmps12
  by_cases hg : 20000 < len
  · have hi : (20000 : Int) < (len : Int) := by omega
    go_wp2_with fail
    refine (macAwake_any HT.out).mono ?_
    rintro e w1 ⟨rfl, hb1⟩
    go_wp2_with fail
    go_ret
    exact ⟨rfl, hb1⟩
  · have hi : ¬ (20000 : Int) < (len : Int) := by omega
    obtain ⟨K, hK⟩ : ∃ K, (hmac master (keyText m (keySize wide))).take (keySize wide) = K := ⟨_, rfl⟩
    have hks : 16 ≤ keySize wide ∧ keySize wide ≤ 32 := by cases wide <;> simp [keySize]
    have hKl : K.length = keySize wide := by rw [← hK, List.length_take, hmac_len]; omega
    have hKx : ∀ x ∈ K, x < 256 := fun x h => by rw [← hK] at h; exact hmac_lt _ _ x (List.mem_of_mem_take h)
    have Hkk := Lib.hid (fun (a : Option Addr) (len cap : Nat) (w : World) (h1 : BytesIn w a len cap master) (h2 : len ≤ cap ∧ cap ≤ maxLen ∧ len < 1152921504606846976) (h3 : TabIn w) => macKey_any a len cap master m wide w h1 h2 hm h3)
    have Hrk := Lib.hid (fun (a : Option Addr) (len cap : Nat) (w : World) (h1 : BytesIn w a len cap master) (h2 : len ≤ 1000000) => refKey_any a len cap master m wide w h1 h2 hm)
    rw [hK] at Hkk Hrk
    obtain ⟨L, hL⟩ : ∃ L, L = K.length := ⟨_, rfl⟩
    have hL16 : 16 ≤ L ∧ L ≤ 32 := by omega
    obtain ⟨y, hy⟩ : ∃ y, K[0]? = some y := ⟨_, List.getElem?_eq_getElem (by omega)⟩
    have hy8 : y < 256 := hKx y (List.mem_of_getElem? hy)
    have Hy := Lib.hid hy
    have HL := Lib.hid hL
    have Hcl := Lib.hid (show len ≤ len + 3 ∧ len + 3 ≤ maxLen ∧ len < 1152921504606846976 from ⟨by omega, by unfold maxLen; omega, by omega⟩)
    clear hK hks hKl hKx hL hy
    go_wp2_with fail
    refine (lent_any a len cap master w Hx.out (by omega)).mono ?_
    rintro e w1 ⟨rfl, hL1, hn1⟩
    have HL1 := Lib.hid hL1
    have Hgl := Lib.hid (Blk.lt hL1)
    have HB1 := Lib.hid (lent_bytes hL1 Hxl.out Hxx.out)
    have HW1 := Lib.hid (Hkk.out _ _ _ w1 HB1.out Hcl.out (HT.out.below hn1 HT.out.size))
    clear hL1
    go_wp2_with fail
    refine HW1.out.mono ?_
    rintro e w2 ⟨vk, rfl, hO2, hb2⟩
    have hn2 := nu_trans hn1 hb2
    have HL2 := Lib.hid (Blk.below HL1.out hb2 (Blk.lt HL1.out))
    obtain ⟨Bk, ck, cur, rfl, hBk, hBb, _, _, _, htk⟩ := hO2.form (by rw [← HL.out]; omega)
    rw [← HL.out] at htk ⊢
    have HBk := Lib.hid (show w1.heap.size ≤ Bk ∧ Bk < w2.heap.size from ⟨hBk, Blk.lt hBb⟩)
    have HK2 := Lib.hid (show Blk w2 Bk 5 cur from hBb)
    have Hc0 := Lib.hid (own_cell htk Hy.out)
    obtain ⟨ak, ck', e1, _, _, hbk⟩ := hO2.reads
    rw [← HL.out] at e1 hbk
    injection e1 with e1 e2 e3
    subst e1 e3
    have HR2 := Lib.hid hbk
    have HX2 := Lib.hid (Hx.out.keep hn2)
    have HW2 := Lib.hid (Hrk.out a len cap w2 HX2.out (by omega))
    clear hO2 hBb htk hbk HW1 hn1 hb2 HL1 HB1 hBk
    go_wp2_with fail
    refine HW2.out.mono ?_
    rintro e w3 ⟨vw, rfl, hO3, hb3⟩
    have hn3 := nu_trans hn2 hb3
    have HO3 := Lib.hid hO3
    obtain ⟨aw, cw, rfl, _, _, hbw⟩ := hO3.reads
    rw [← HL.out] at hbw ⊢
    have HL3 := Lib.hid (Blk.below HL2.out hb3 (Blk.lt HL2.out))
    have HK3 := Lib.hid (Blk.below HK2.out hb3 (Blk.lt HK2.out))
    have HR3 := Lib.hid (HR2.out.keep hb3)
    have HV3 := Lib.hid hbw
    clear hO3 hbw HW2 hn2 hb3 HL2 HK2 HR2 HX2
    go_wp2_with fail
    refine (same_is true (by simp) HR3.out.1 HV3.out.1 (by omega) (by omega)).mono ?_
    rintro e w4 ⟨rfl, n4, rfl⟩
    have hn4 := nu_drewN hn3 n4
    have hd4 := nu_drewN (nu_refl w3) n4
    have HL4 := Lib.hid (HL3.out.drewN n4)
    have HK4 := Lib.hid (HK3.out.drewN n4)
    have HO4 := Lib.hid (ownB_below HO3.out hd4)
    generalize w3.drewN n4 = w4 at *
    have HX4 := Lib.hid (Hx.out.keep hn4)
    clear hn3 hd4 HL3 HK3 HO3 HR3 HV3
    go_wp2_with fail
    refine (kept_any w.heap.size a len cap master w4 HL4.out HX4.out.1 (by omega)).mono ?_
    rintro e w5 ⟨rfl, n5, rfl⟩
    have hn5 := nu_drewN hn4 n5
    have hd5 := nu_drewN (nu_refl w4) n5
    have HL5 := Lib.hid (HL4.out.drewN n5)
    have HK5 := Lib.hid (HK4.out.drewN n5)
    have HO5 := Lib.hid (ownB_below HO4.out hd5)
    generalize w4.drewN n5 = w5 at *
    clear hn4 hd5 HL4 HK4 HO4 HX4
    have c0 : w5.cell? ⟨Bk, 0, none⟩ = some (.int .u8 (y : Int)) := HK5.out.at 0 _ Hc0.out
    have f0 := HK5.out.free 0
    have hL0 : (0 : Int) < (L : Int) := by omega
    have HL6 := Lib.hid (HL5.out.far (p := ⟨Bk, 0, none⟩) (show w.heap.size ≠ Bk by have h1 := HBk.out.1; have h2 := Hgl.out; omega) (.int .u8 (((y : Int) + 1) % 256)))
    have HO6 := Lib.hid (HO5.out.kept (gb_set (gb_refl w5 (some Bk)) (p := ⟨Bk, 0, none⟩) (.inl rfl) (.int .u8 (((y : Int) + 1) % 256))) HBk.out.2)
    have hn6 := nu_set hn5 (p := ⟨Bk, 0, none⟩) (show w.heap.size ≤ Bk by have h1 := HBk.out.1; have h2 := Hgl.out; omega) (.int .u8 (((y : Int) + 1) % 256))
    clear hn5 HL5 HK5 HO5
    go_upto_region 9 with fail
    generalize w5.setCell ⟨Bk, 0, none⟩ (.int .u8 (((y : Int) + 1) % 256)) = w6 at *
    clear c0 f0
    obtain ⟨aw', cw', e1, _, _, hbw⟩ := HO6.out.reads
    rw [← HL.out] at e1 hbw
    injection e1 with e1 e2 e3
    subst e1 e3
    have HV6 := Lib.hid hbw
    have HB6 := Lib.hid (lent_bytes HL6.out Hxl.out Hxx.out)
    have HW6 := Lib.hid (Hkk.out _ _ _ w6 HB6.out Hcl.out (HT.out.below hn6 HT.out.size))
    clear hbw
    go_wp2_with fail
    refine HW6.out.mono ?_
    rintro e w7 ⟨v7, rfl, hO7, hb7⟩
    have hn7 := nu_trans hn6 hb7
    have HV7 := Lib.hid (HV6.out.keep hb7)
    obtain ⟨a7, c7, rfl, _, _, hbk7⟩ := hO7.reads
    rw [← HL.out] at hbk7 ⊢
    have HR7 := Lib.hid hbk7
    clear hO7 hbk7 hn6 hb7 HW6 HV6 HB6 HL6 HO6
    go_wp2_with fail
    refine (same_is true (by simp) HR7.out.1 HV7.out.1 (by omega) (by omega)).mono ?_
    rintro e w8 ⟨rfl, n8, rfl⟩
    have hn8 := nu_drewN hn7 n8
    generalize w7.drewN n8 = w8 at *
    have HT8 := Lib.hid (HT.out.below hn8 HT.out.size)
    go_wp2_with fail
    refine (macAwake_any HT8.out).mono ?_
    rintro e w9 ⟨rfl, hb9⟩
    have hn9 := nu_trans hn8 hb9
    go_wp2_with fail
    go_ret
    exact ⟨rfl, hn9⟩
end Go.Proofs.YtlekepigndlbhaaDoor
