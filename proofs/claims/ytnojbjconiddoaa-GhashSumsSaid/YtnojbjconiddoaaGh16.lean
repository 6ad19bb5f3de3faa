/-
  Sum of no key; the walk of GhashKnown.
-/
import Derived.Test.YtnojbjconiddoaaGh15
import Derived.Test.YtnojbjconiddoaaStepB
namespace Go.Proofs.Ytnojbjconiddoaa
open Go.ChangeShapes Go.WideShapes Go.ChangeAt Go.RowKit

set_option maxRecDepth 100000 in
set_option maxHeartbeats 1000000 in
theorem gh_nil (a t : Option Addr) (la ca lt ct : Nat) (w : World) :
    Calls Try.prog 22 #[.pointer none, .slice a la ca, .slice t lt ct] w fun e w' => e = .returned (.agg z16l.toArray) ∧ Below w.heap.size w w' := by
  have hn := nu_alloc (nu_alloc (nu_refl w) (.cells #[.pointer none] 29)) (.cells z16l.toArray 22)
  have HR := Lib.hid (Blk.made1 w (.cells #[.pointer none] 29) 22 z16l.toArray)
  go_enter Try.func22, Try.ntmps22
  go_upto_region 2 with fail
  have Hn := Lib.hid hn
  clear hn
  generalize (w.alloc (.cells #[.pointer none] 29)).alloc (.cells z16l.toArray 22) = w1 at *
  have HFl := Lib.hid (Blk.fill HR.out z16l rfl)
  have Hnf := Lib.hid (nu_fill z16l (g := w.heap.size + 1) (by omega) 0 _ Hn.out)
  go_wp2_with (refine wpList_store_blk rfl 22 (.tmp 6) (.tmp 13) rfl (w.heap.size + 1) z16l rfl rfl 22 z16l.toArray HR.out rfl (by kernel_rfl) (by decide) ?_)
  exact bodyPost_ret (results_blk rfl _ (w.heap.size + 1) 22 z16l.toArray rfl HFl.out Try.underlying22 (by kernel_rfl)) rfl ⟨rfl, Hnf.out⟩

abbrev kn_h : List Nat := [102, 233, 75, 212, 239, 138, 44, 59, 136, 76, 250, 89, 202, 52, 43, 46]
abbrev kn_c : List Nat := [3, 136, 218, 206, 96, 182, 163, 146, 243, 40, 194, 185, 113, 178, 254, 120]
abbrev kn_d : List Nat := [243, 140, 187, 26, 214, 146, 35, 220, 195, 69, 122, 229, 182, 176, 248, 133]
theorem kn_sum : gsumB (polB kn_h) [] kn_c = kn_d := by kernel_rfl
theorem kn_nilsum : gsumB (polB kn_h) [] [] = List.replicate 16 0 := by kernel_rfl

set_option maxRecDepth 100000 in
set_option maxHeartbeats 1000000 in
theorem ghashKnown_walk (w : World) : Calls Try.prog 8 #[] w fun e w' => e = .returned (.bool true) ∧ Below w.heap.size w w' := by
  have HN := Lib.hid (gh_new kn_h rfl (by decide))
  have HS := Lib.hid kn_sum
  have HZ := Lib.hid kn_nilsum
  have Hl := Lib.hid (polB_lt kn_h)
  generalize polB kn_h = h at *
  have HNw := Lib.hid (HN.out w)
  go_enter Try.func8, Try.ntmps8
  go_wp2_with fail
  refine HNw.out.mono ?_
  rintro e w2 ⟨g, rfl, _, hK, hb2⟩
  have hal := nu_alloc (nu_refl w2) (.cells (kn_c.map vb).toArray 5)
  have HSum := Lib.hid (gh_sum_is HS.out (show KeyAt _ g h from Blk.below hK hal (Blk.lt hK)) Hl.out (BytesIn.nil_ _) (bytes_new w2 kn_c (by decide) _ rfl) ⟨Nat.le_refl _, by decide⟩ ⟨Nat.le_refl _, by decide⟩)
  have HK := Lib.hid (show KeyAt _ g h from Blk.below hK hal (Blk.lt hK))
  have Hal := Lib.hid (nu_trans hb2 hal)
  clear hK hb2 hal HNw
  go_wp2_with fail
  refine HSum.out.mono ?_
  rintro e w3 ⟨rfl, hb3⟩
  have HK3 := Lib.hid (show KeyAt w3 g h from Blk.below HK.out hb3 (Blk.lt HK.out))
  have Hn3 := Lib.hid (nu_trans Hal.out hb3)
  clear HSum HK Hal hb3
  have HB3 := Lib.hid (Blk.made w3 22 z16l.toArray)
  have HgG := Lib.hid (show g < w3.heap.size from Blk.lt HK3.out)
  have HG0 := Lib.hid (show w.heap.size ≤ w3.heap.size from Hn3.out.size)
  have HFl := Lib.hid (Blk.fill HB3.out (kn_d.map vb) rfl)
  have hnf := nu_fill (a := w3) (kn_d.map vb) (g := w3.heap.size) (Nat.le_refl _) 0 _ (nu_alloc (nu_refl w3) (.cells z16l.toArray 22))
  have Hn4 := Lib.hid (nu_trans Hn3.out hnf)
  have HK4 := Lib.hid (show KeyAt _ g h from Blk.below HK3.out hnf (Blk.lt HK3.out))
  clear hnf HK3 Hn3
  go_upto_region 4 with (refine wpList_store_blk rfl 22 (.tmp 3) (.tmp 8) rfl w3.heap.size (kn_d.map vb) rfl rfl 22 z16l.toArray HB3.out rfl (by kernel_rfl) (vb_one kn_d) ?_)
  clear HB3
  generalize (w3.alloc (.cells z16l.toArray 22)).setCells w3.heap.size 0 (kn_d.map vb) = w4 at *
  obtain ⟨G, hG⟩ : ∃ G, G = w3.heap.size := ⟨_, rfl⟩
  rw [← hG] at HgG HG0 HFl ⊢
  clear hG
  have c0 : w4.cell? ⟨G, 0, none⟩ = some (.int .u8 243) := HFl.out.at 0 _ rfl
  have c1 : w4.cell? ⟨G, 1, none⟩ = some (.int .u8 140) := HFl.out.at 1 _ rfl
  have c15 : w4.cell? ⟨G, 15, none⟩ = some (.int .u8 133) := HFl.out.at 15 _ rfl
  have hal := nu_alloc (nu_alloc (nu_refl w4) (.cells #[.int .u8 1] 5)) (.cells #[.int .u8 2] 5)
  have HK5 := Lib.hid (show KeyAt _ g h from Blk.below HK4.out hal (Blk.lt HK4.out))
  have Hn5 := Lib.hid (nu_trans Hn4.out hal)
  have HNil := Lib.hid (gh_nil (some ⟨w4.heap.size, 0, none⟩) (some ⟨w4.heap.size + 1, 0, none⟩) 1 1 1 1 ((w4.alloc (.cells #[.int .u8 1] 5)).alloc (.cells #[.int .u8 2] 5)))
  clear hal HK4 Hn4
  go_wp2_with fail
  refine HNil.out.mono ?_
  rintro e w6 ⟨rfl, hb6⟩
  have HK6 := Lib.hid (show KeyAt _ g h from Blk.below HK5.out hb6 (Blk.lt HK5.out))
  have Hn6 := Lib.hid (nu_trans Hn5.out hb6)
  have HSum := Lib.hid (gh_sum_is HZ.out HK6.out Hl.out (BytesIn.nil_ _) (BytesIn.nil_ _) ⟨Nat.le_refl _, by decide⟩ ⟨Nat.le_refl _, by decide⟩)
  clear HK5 Hn5 hb6 HNil HFl
  go_wp2_with (refine wpList_run _ rfl (exec_same_16 (List.replicate 16 0) rfl (.tmp 26) (.tmp 27) rfl rfl rfl) ?_)
  refine HSum.out.mono ?_
  rintro e w7 ⟨rfl, hb7⟩
  have Hn7 := Lib.hid (nu_trans Hn6.out hb7)
  clear Hn6 hb7 HSum
  go_wp2_with (refine wpList_run _ rfl (exec_same_16 (List.replicate 16 0) rfl (.tmp 32) (.tmp 33) rfl rfl rfl) ?_)
  refine (awake7 w7).mono ?_
  rintro e w8 ⟨rfl, hb8⟩
  have Hn8 := Lib.hid (nu_trans Hn7.out hb8)
  clear Hn7 hb8
  go_wp2_with fail
  go_ret
  exact ⟨rfl, Hn8.out⟩
end Go.Proofs.Ytnojbjconiddoaa
