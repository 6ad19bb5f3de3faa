/-
  The walk of MacDigests.
-/
import Derived.Test.YtlekepigndlbhaaDoorMacQ
import Derived.Test.YtlekepigndlbhaaDoorMacA
import Derived.Test.YtlekepigndlbhaaDoorGreat4
namespace Go.Proofs.YtlekepigndlbhaaDoor
open Go.ChangeShapes Go.WideShapes Go.ChangeAt Go.RowKit

set_option maxRecDepth 100000 in
set_option maxHeartbeats 2000000 in
theorem macDigests_walk (ka a : Option Addr) (klen kcap len cap : Nat) (key : List Nat) (ps : List (List Nat)) (w : World) (hx : BytesIn w ka klen kcap key) (hkc : klen ≤ kcap ∧ kcap ≤ 140737488355320) (h : PartsIn w a len ps) (hm : len ≤ maxLen) (hT : TabIn w) :
    Calls Tryd.prog 8 #[.slice ka klen kcap, .slice a len cap] w fun e w' => e = .returned (.bool true) ∧ Below w.heap.size w w' := by
  obtain ⟨v, hv⟩ : ∃ v, decide (20000 < gsum ps ∨ 20000 < klen) = v := ⟨_, rfl⟩
  have Hv := Lib.hid hv
  have HT := Lib.hid hT
  have HP := Lib.hid h
  have Hm := Lib.hid hm
  have Hx := Lib.hid hx
  have Hxl := Lib.hid hx.1.1
  have Hxx := Lib.hid (fun x h => wf_u8_lt (hx.1.2.1 x h))
  clear hv h hT hm hx
  go_enter Tryd.func8, Tryd.ntmps8
  go_wp2_with fail
  refine (great4_any HP.out Hm.out (by unfold maxLen; omega) v Hv.out).mono ?_
  rintro e w1 ⟨rfl, rfl⟩
  cases v
  · have hno := of_decide_eq_false Hv.out
    obtain ⟨hs1, hs2, _⟩ := gsum_small ps (by omega)
    have hkl : klen ≤ 20000 := by omega
    obtain ⟨D, hD⟩ : ∃ D, hmac key ps.flatten = D := ⟨_, rfl⟩
    have HD := Lib.hid hD
    have HDl := Lib.hid (show D.length = 32 by rw [← hD, hmac_len])
    have HM := Lib.hid (show len ≤ maxLen ∧ ps.flatten.length + 64 < 1152921504606846976 from ⟨Hm.out, by omega⟩)
    have Hkm := Lib.hid (show klen ≤ klen + 3 ∧ klen + 3 ≤ maxLen ∧ klen < 1152921504606846976 from ⟨by omega, by unfold maxLen; omega, by omega⟩)
    have Hs2 := Lib.hid hs2
    clear hD Hv hno hs1 hs2
    go_wp2_with fail
    refine (lent_any ka klen kcap key w1 Hx.out (by omega)).mono ?_
    rintro e w2 ⟨rfl, hL2, hb2⟩
    have HL2 := Lib.hid hL2
    have HB2 := Lib.hid (lent_bytes hL2 Hxl.out Hxx.out)
    have HP2 := Lib.hid (HP.out.keep hb2)
    have HW := Lib.hid (macOf_is (pcap := cap) HD.out HB2.out Hkm.out HP2.out HM.out (HT.out.below hb2 HT.out.size))
    clear hL2
    go_wp2_with fail
    refine HW.out.mono ?_
    rintro e w3 ⟨rfl, hb3⟩
    have hn3 := nu_trans hb2 hb3
    have HL3 := Lib.hid (Blk.below HL2.out hb3 (Blk.lt HL2.out))
    have HP3 := Lib.hid (HP.out.keep hn3)
    have HW3 := Lib.hid (join_any (cap := cap) HP3.out Hm.out (by have := Hs2.out; omega))
    clear HW hb2 hb3 HL2 HB2
    go_wp2_with fail
    refine HW3.out.mono ?_
    rintro e w4 ⟨lv, rfl, hO, hb4⟩
    have hn4 := nu_trans hn3 hb4
    have HL4 := Lib.hid (Blk.below HL3.out hb4 (Blk.lt HL3.out))
    obtain ⟨a4, c4, rfl, _, _, hby⟩ := hO.reads
    obtain ⟨L, hL⟩ : ∃ L, L = ps.flatten.length := ⟨_, rfl⟩
    rw [← hL] at hby ⊢
    have hLb : L ≤ 1000000 := by rw [hL]; have := Hs2.out; omega
    have HX4 := Lib.hid (Hx.out.keep hn4)
    have HW4 := Lib.hid (ref4Of_is (kcap := kcap) HD.out HX4.out hby (by omega) hLb)
    clear hO hby hL HW3 hn3 hb4 HL3 HP3
    go_wp2_with fail
    refine HW4.out.mono ?_
    rintro e w5 ⟨rfl, hb5⟩
    have hn5 := nu_trans hn4 hb5
    have HL5 := Lib.hid (Blk.below HL4.out hb5 (Blk.lt HL4.out))
    have HX5 := Lib.hid (Hx.out.keep hn5)
    clear HW4 hn4 hb5 HL4 HX4
    go_wp2_with (refine wpList_run _ rfl (exec_same_32 D HDl.out (.tmp 14) (.tmp 18) rfl rfl rfl) ?_)
    refine (kept_any w1.heap.size ka klen kcap key w5 HL5.out HX5.out.1 (by omega)).mono ?_
    rintro e w6 ⟨rfl, n6, rfl⟩
    have hn6 := nu_drewN hn5 n6
    have HT6 := Lib.hid (HT.out.below hn6 HT.out.size)
    generalize w5.drewN n6 = w6 at *
    go_wp2_with fail
    refine (macAwake_any HT6.out).mono ?_
    rintro e w7 ⟨rfl, hb7⟩
    have hn7 := nu_trans hn6 hb7
    go_wp2_with fail
    go_ret
    exact ⟨rfl, hn7⟩
  · go_wp2_with fail
    refine (macAwake_any HT.out).mono ?_
    rintro e w2 ⟨rfl, hb⟩
    go_wp2_with fail
    go_ret
    exact ⟨rfl, hb⟩
end Go.Proofs.YtlekepigndlbhaaDoor
