/-
  The walk of ShaParts.
-/
import Derived.Test.YtlekepigndlbhaaDoorRefIs
import Derived.Test.YtlekepigndlbhaaDoorJoin
namespace Go.Proofs.YtlekepigndlbhaaDoor
open Go.ChangeShapes Go.WideShapes Go.ChangeAt Go.RowKit

set_option maxRecDepth 100000 in
set_option maxHeartbeats 2000000 in
theorem shaParts_walk (a : Option Addr) (len cap : Nat) (ps : List (List Nat)) (w : World) (h : PartsIn w a len ps) (hm : len ≤ maxLen) (hT : TabIn w) :
    Calls Tryd.prog 4 #[.slice a len cap] w fun e w' => e = .returned (.bool true) ∧ Below w.heap.size w w' := by
  obtain ⟨v, hv⟩ : ∃ v, decide (20000 < gsum ps) = v := ⟨_, rfl⟩
  have Hv := Lib.hid hv
  have HT := Lib.hid hT
  have HP := Lib.hid h
  have Hm := Lib.hid hm
  clear hv h hT hm
  go_enter Tryd.func4, Tryd.ntmps4
  go_wp2_with fail
  refine (great3_any HP.out Hm.out v Hv.out).mono ?_
  rintro e w1 ⟨rfl, rfl⟩
  cases v
  · obtain ⟨hs1, hs2, _⟩ := gsum_small ps (by have := of_decide_eq_false Hv.out; omega)
    obtain ⟨D, hD⟩ : ∃ D, digest ps.flatten = D := ⟨_, rfl⟩
    have HD := Lib.hid hD
    have HDl := Lib.hid (show D.length = 32 by rw [← hD, digest_len])
    have HDa := Lib.hid (show digest [ps.flatten].flatten = D by rw [← hD]; simp)
    have HM := Lib.hid (show len ≤ maxLen ∧ ps.flatten.length < 1152921504606846976 from ⟨Hm.out, by omega⟩)
    have HMa := Lib.hid (show 1 ≤ maxLen ∧ [ps.flatten].flatten.length < 1152921504606846976 from ⟨by unfold maxLen; omega, by rw [show [ps.flatten].flatten = ps.flatten by simp]; omega⟩)
    have HJ := Lib.hid (join_any (cap := cap) HP.out Hm.out (by omega))
    clear hD Hv
    go_wp2_with fail
    refine HJ.out.mono ?_
    rintro e w2 ⟨lv, rfl, hO, hn2⟩
    obtain ⟨a2, c2, rfl, hlc, hcm, hby⟩ := hO.reads
    have HB2 := Lib.hid hby
    have Hc := Lib.hid (And.intro hlc hcm)
    have HP2 := Lib.hid (HP.out.keep hn2)
    have HW := Lib.hid (of_is (cap := cap) HD.out HP2.out (HT.out.below hn2 HT.out.size) HM.out)
    clear hO hby hlc hcm HJ
    obtain ⟨L, hL⟩ : ∃ L, L = ps.flatten.length := ⟨_, rfl⟩
    rw [← hL] at HB2 Hc hs2 ⊢
    clear hL
    go_wp2_with fail
    refine HW.out.mono ?_
    rintro e w3 ⟨rfl, hb3⟩
    have hn3 := nu_trans hn2 hb3
    have HB3 := Lib.hid (HB2.out.keep hb3)
    have HW3 := Lib.hid (refOf_is HD.out HB3.out (by omega))
    clear HW hn2 hb3 HB2
    go_wp2_with fail
    refine HW3.out.mono ?_
    rintro e w4 ⟨rfl, hb4⟩
    have hn4 := nu_trans hn3 hb4
    have HB4 := Lib.hid (HB3.out.keep hb4)
    have hal4 := nu_alloc (nu_refl w4) (.cells #[.slice a2 L c2] 22)
    have HW4 := Lib.hid (of_is (cap := 1) HDa.out (PartsIn.one HB4.out Hc.out.1 Hc.out.2) (HT.out.below (hn4.trans (hal4.mono hn4.size)) HT.out.size) HMa.out)
    clear HW3 hn3 hb4 HB3
    go_wp2_with (refine wpList_run _ rfl (exec_same_32 D HDl.out (.tmp 10) (.tmp 12) rfl rfl rfl) ?_)
    refine HW4.out.mono ?_
    rintro e w5 ⟨rfl, hb5⟩
    have hn5 := hn4.trans ((nu_trans hal4 hb5).mono hn4.size)
    have HP5 := Lib.hid (HP.out.keep hn5)
    have HW5 := Lib.hid (of_is (cap := cap) HD.out HP5.out (HT.out.below hn5 HT.out.size) HM.out)
    clear HW4 hal4 hb5 hn4 HB4
    go_wp2_with fail
    refine HW5.out.mono ?_
    rintro e w6 ⟨rfl, hb6⟩
    have hn6 := nu_trans hn5 hb6
    have HT6 := Lib.hid (HT.out.below hn6 HT.out.size)
    clear HW5 hn5 hb6
    go_wp2_with (refine wpList_run _ rfl (exec_same_32 D HDl.out (.tmp 17) (.tmp 19) rfl rfl rfl) ?_)
    refine (shaAwake_any HT6.out).mono ?_
    rintro e w7 ⟨rfl, hb7⟩
    have hn7 := nu_trans hn6 hb7
    go_wp2_with fail
    go_ret
    exact ⟨rfl, hn7⟩
  · go_wp2_with fail
    refine (shaAwake_any HT.out).mono ?_
    rintro e w2 ⟨rfl, hb⟩
    go_wp2_with fail
    go_ret
    exact ⟨rfl, hb⟩
end Go.Proofs.YtlekepigndlbhaaDoor
