/-
  The walk of ShaDigests.
-/
import Derived.Test.YtlekepigndlbhaaDoorRefIs
import Derived.Test.YtlekepigndlbhaaDoorShaG
import Derived.Test.YtlekepigndlbhaaDoorLent
namespace Go.Proofs.YtlekepigndlbhaaDoor
open Go.ChangeShapes Go.WideShapes Go.ChangeAt Go.RowKit

set_option maxRecDepth 100000 in
set_option maxHeartbeats 4000000 in
theorem shaDigests_walk (a : Option Addr) (len cap : Nat) (xs : List Nat) (w : World) (hx : BytesIn w a len cap xs) (hlc : len ≤ cap) (hcm : cap ≤ maxLen) (hT : TabIn w) :
    Calls Tryd.prog 3 #[.slice a len cap] w fun e w' => e = .returned (.bool true) ∧ Below w.heap.size w w' := by
  have Hx := Lib.hid hx
  have HT0 := Lib.hid hT
  have Hwf := Lib.hid (fun x h => wf_u8_lt (hx.1.2.1 x h))
  have Hxl := Lib.hid hx.1.1
  have Hc := Lib.hid (And.intro hlc hcm)
  clear hx hT hlc hcm
  go_enter Tryd.func3, Tryd.ntmps3
  by_cases hg1 : 20000 < len
  · have hi : (20000 : Int) < (len : Int) := by omega
    go_wp2_with fail
    refine (shaAwake_any HT0.out).mono ?_
    rintro e w1 ⟨rfl, hb1⟩
    go_wp2_with fail
    go_ret
    exact ⟨rfl, hb1⟩
  · have hi : ¬ (20000 : Int) < (len : Int) := by omega
    obtain ⟨D, hD⟩ : ∃ D, digest xs = D := ⟨_, rfl⟩
    have HL := Lib.hid (show D.length = 32 by rw [← hD]; rfl)
    have HD := Lib.hid hD
    have HDa := Lib.hid (show digest [xs].flatten = D by rw [← hD]; congr 1; simp)
    have Hlen := Lib.hid (show 1 ≤ maxLen ∧ [xs].flatten.length < 1152921504606846976 from ⟨by unfold maxLen; omega, by simp [Hxl.out]; omega⟩)
    clear hD
    go_wp2_with fail
    refine (lent_any a len cap xs w Hx.out (by omega)).mono ?_
    rintro e w1 ⟨rfl, hL1, hb1⟩
    have HL1 := Lib.hid hL1
    have hT1 := HT0.out.below hb1 HT0.out.size
    have hal := nu_alloc (nu_refl w1) (.cells #[.slice (some ⟨w.heap.size, 0, none⟩) len (len + 3)] 22)
    have hT2 := hT1.below hal hT1.size
    have HW := Lib.hid (of_is (cap := 1) HDa.out (PartsIn.one (lent_bytes hL1 Hxl.out Hwf.out) (by omega) (by unfold maxLen; omega)) hT2 Hlen.out)
    have hn2 := nu_trans hb1 hal
    clear hL1 hT1 hT2 hb1
    go_wp2_with fail
    refine HW.out.mono ?_
    rintro e w3 ⟨rfl, hb3⟩
    have hn3 := nu_trans hn2 hb3
    have h13 := nu_trans hal hb3
    have HL3 := Lib.hid (Blk.below HL1.out h13 (Blk.lt HL1.out))
    have HW2 := Lib.hid (refOf_is HD.out (Hx.out.keep hn3) (by omega))
    clear HW hal hn2 hb3 h13 HL1
    go_wp2_with fail
    refine HW2.out.mono ?_
    rintro e w4 ⟨rfl, hb4⟩
    have hn4 := nu_trans hn3 hb4
    have HL4 := Lib.hid (Blk.below HL3.out hb4 (Blk.lt HL3.out))
    clear HW2 hn3 hb4 HL3
    go_wp2_with (refine wpList_run _ rfl (exec_same_32 D HL.out (.tmp 12) (.tmp 14) rfl rfl rfl) ?_)
    refine (kept_any w.heap.size a len cap xs w4 HL4.out (Hx.out.keep hn4).1 (by omega)).mono ?_
    rintro e w5 ⟨rfl, n5, rfl⟩
    have hn5 := nu_drewN hn4 n5
    have HT5 := Lib.hid (HT0.out.below hn5 HT0.out.size)
    generalize w4.drewN n5 = w5 at *
    go_wp2_with fail
    refine (shaAwake_any HT5.out).mono ?_
    rintro e w6 ⟨rfl, hb6⟩
    go_wp2_with fail
    go_ret
    exact ⟨rfl, nu_trans hn5 hb6⟩
end Go.Proofs.YtlekepigndlbhaaDoor
