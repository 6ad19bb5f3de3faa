/-
  The walk of a key's Sum.
-/
import Derived.Test.YtnojbjconiddoaaGh13
namespace Go.Proofs.Ytnojbjconiddoaa
open Go.ChangeShapes Go.WideShapes Go.ChangeAt Go.RowKit

/-- The last block: the lengths in bits. -/
def lastB (n m : Nat) : List Nat := beL (8 * n) 8 8 ++ beL (8 * m) 8 8
def gsumB (h : Nat) (aad text : List Nat) : List Nat := bytB (gfold h 0 (blocks aad ++ blocks text ++ [lastB aad.length text.length]))
theorem lastB_len (n m : Nat) : (lastB n m).length = 16 := by unfold lastB; rw [List.length_append, beL_length, beL_length]
theorem lastB_lt (n m : Nat) : ∀ x ∈ lastB n m, x < 256 := by
  intro x hx
  rcases List.mem_append.1 hx with h | h
  · exact beL_lt _ _ _ x h
  · exact beL_lt _ _ _ x h
theorem blocks_one (xs : List Nat) (h : xs.length = 16) : blocks xs = [xs] := by
  rw [blocks_cons xs (fun e => by rw [e] at h; simp at h), List.take_of_length_le (by omega), List.drop_of_length_le (by omega), blocks_nil]
  unfold pad16
  rw [h]
  simp
theorem gfold_app (h y : Nat) (xs ys : List (List Nat)) : gfold h y (xs ++ ys) = gfold h (gfold h y xs) ys := List.foldl_append ..
theorem halfL_zero : halfL 0 = [.int .u64 0, .int .u64 0] := by unfold halfL; rw [Gh.hi_zero, Gh.lo_zero]; rfl

set_option maxRecDepth 100000 in
set_option maxHeartbeats 4000000 in
theorem gh_sum_g (g h : Nat) (a t : Option Addr) (la ca lt ct : Nat) (xs ys : List Nat) (w : World) (hK : KeyAt w g h) (hh : h < 2 ^ 128) (hx : BytesIn w a la ca xs) (hy : BytesIn w t lt ct ys) (hla : la ≤ 140737488355320) (hlt : lt ≤ 140737488355320) (hac : la ≤ ca ∧ ca ≤ maxLen) (htc : lt ≤ ct ∧ ct ≤ maxLen) :
    Calls Try.prog 22 #[.pointer (some ⟨g, 0, none⟩), .slice a la ca, .slice t lt ct] w fun e w' => e = .returned (.agg ((gsumB h xs ys).map vb).toArray) ∧ Below w.heap.size w w' := by
  have HX := Lib.hid hx
  have HY := Lib.hid hy
  have HK := Lib.hid hK
  have Hac := Lib.hid hac
  have Htc := Lib.hid htc
  have hal := nu_alloc (nu_alloc (nu_alloc (nu_refl w) (.cells #[.pointer (some ⟨g, 0, none⟩)] 29)) (.cells z16 22)) (.cells #[.int .u64 0, .int .u64 0] 58)
  have HV := Lib.hid (((Blk.made w 29 #[.pointer (some ⟨g, 0, none⟩)]).alloc (.cells z16 22)).alloc (.cells #[.int .u64 0, .int .u64 0] 58))
  have HR := Lib.hid ((Blk.made1 w (.cells #[.pointer (some ⟨g, 0, none⟩)] 29) 22 z16).alloc (.cells #[.int .u64 0, .int .u64 0] 58))
  have HZ := Lib.hid (Blk.made2 w (.cells #[.pointer (some ⟨g, 0, none⟩)] 29) (.cells z16 22) 58 #[.int .u64 0, .int .u64 0])
  clear hx hy hK
  go_enter Try.func22, Try.ntmps22
  go_upto_region 4 with fail
  generalize ((w.alloc (.cells #[.pointer (some ⟨g, 0, none⟩)] 29)).alloc (.cells z16 22)).alloc (.cells #[.int .u64 0, .int .u64 0] 58) = w1 at *
  obtain ⟨V, hV⟩ : ∃ V, V = w.heap.size := ⟨_, rfl⟩
  obtain ⟨R, hR⟩ : ∃ R, R = w.heap.size + 1 := ⟨_, rfl⟩
  obtain ⟨Y, hY⟩ : ∃ Y, Y = w.heap.size + 1 + 1 := ⟨_, rfl⟩
  rw [← hV] at HV
  rw [← hR] at HR
  rw [← hY] at HZ
  rw [← hY, ← hR, ← hV]
  have Hgl := Blk.lt HK.out
  have Hap := Lib.hid (show V ≠ Y ∧ g ≠ Y ∧ R ≠ Y ∧ w.heap.size ≤ R ∧ w.heap.size ≤ Y ∧ Y < w1.heap.size ∧ R < w1.heap.size from ⟨by omega, by omega, by omega, by omega, by omega, Blk.lt HZ.out, Blk.lt HR.out⟩)
  clear hV hR hY Hgl
  have hkc1 : w1.cell? ⟨V, 0, none⟩ = some (.pointer (some ⟨g, 0, none⟩)) := HV.out.at 0 _ rfl
  have hK1 : KeyAt w1 g h := Blk.below HK.out hal (Blk.lt HK.out)
  have hZ1 : Blk w1 Y 58 (halfL 0).toArray := by rw [halfL_zero]; exact HZ.out
  have far : ∀ {b : Option Addr} {l c : Nat} {zs : List Nat}, BytesIn w b l c zs → 0 < l → ∀ ad, b = some ad → ad.block ≠ Y := fun hb hp ad had => by
    have h1 := bytes_blk_lt hb hp ad had
    have h2 := Hap.out.2.2.2.2.1
    omega
  have Hfar := Lib.hid (And.intro (far HX.out) (far HY.out))
  have HW1 := Lib.hid (gh_take V Y g h a la ca xs 0 w1 hkc1 hK1 hh hZ1 (by decide) (HX.out.keep hal) Hac.out.1 Hac.out.2 Hfar.out.1 Hap.out.1 Hap.out.2.1)
  clear far hZ1 HZ HV
  go_wp2_with fail
  refine HW1.out.mono ?_
  rintro e w2 ⟨rfl, hY2, hg2⟩
  obtain ⟨y2, hy2⟩ : ∃ y2, y2 = gfold h 0 (blocks xs) := ⟨_, rfl⟩
  rw [← hy2] at hY2
  have hyl2 : y2 < 2 ^ 128 := by rw [hy2]; exact gfold_lt h 0 _ hh (by decide)
  have hn2 := nu_grown hal hg2 Hap.out.2.2.2.2.1
  have hV1l := World.block_lt_of_cell? _ _ hkc1
  have hkc2 : w2.cell? ⟨V, 0, none⟩ = some (.pointer (some ⟨g, 0, none⟩)) := (World.cell?_of_block (a := ⟨V, 0, none⟩) (hg2.block V hV1l (fun e => Hap.out.1 (by injection e)))).trans hkc1
  have hK2 : KeyAt w2 g h := Blk.grown hK1 hg2 (fun e => Hap.out.2.1 (by injection e))
  have HR2 := Lib.hid (Blk.grown HR.out hg2 (fun e => Hap.out.2.2.1 (by injection e)))
  have HW2 := Lib.hid (gh_take V Y g h t lt ct ys y2 w2 hkc2 hK2 hh hY2 hyl2 (HY.out.keep hn2) Htc.out.1 Htc.out.2 Hfar.out.2 Hap.out.1 Hap.out.2.1)
  clear HW1 hal hY2 hkc1 hK1 hg2 HR hV1l
  go_wp2_with fail
  refine HW2.out.mono ?_
  rintro e w3 ⟨rfl, hY3, hg3⟩
  obtain ⟨y3, hy3⟩ : ∃ y3, y3 = gfold h y2 (blocks ys) := ⟨_, rfl⟩
  rw [← hy3] at hY3
  have hyl3 : y3 < 2 ^ 128 := by rw [hy3]; exact gfold_lt h y2 _ hh hyl2
  have hn3 := nu_grown hn2 hg3 Hap.out.2.2.2.2.1
  have hV1l := World.block_lt_of_cell? _ _ hkc2
  have hkc3 : w3.cell? ⟨V, 0, none⟩ = some (.pointer (some ⟨g, 0, none⟩)) := (World.cell?_of_block (a := ⟨V, 0, none⟩) (hg3.block V hV1l (fun e => Hap.out.1 (by injection e)))).trans hkc2
  have hK3 : KeyAt w3 g h := Blk.grown hK2 hg3 (fun e => Hap.out.2.1 (by injection e))
  have HR3 := Lib.hid (Blk.grown HR2.out hg3 (fun e => Hap.out.2.2.1 (by injection e)))
  have HF := Lib.hid (show gsumB h xs ys = bytB (gfold h y3 (blocks (lastB la lt))) by
    rw [blocks_one _ (lastB_len _ _), gsumB, gfold_app, gfold_app, ← hy2, ← hy3, HX.out.1.1, HY.out.1.1])
  have Hall3 := Lib.hid (show Blk w3 Y 58 (halfL y3).toArray ∧ y3 < 2 ^ 128 ∧ w3.cell? ⟨V, 0, none⟩ = some (.pointer (some ⟨g, 0, none⟩)) ∧ KeyAt w3 g h from ⟨hY3, hyl3, hkc3, hK3⟩)
  have Hs3 := Lib.hid (show Y < w3.heap.size from Blk.lt hY3)
  clear HW2 hn2 hY3 hkc2 hK2 hg3 HR2 hV1l hy2 hy3 hyl2 hyl3 hkc3 hK3 y2
  have wa : IntKind.u64.wrap (la : Int) = (la : Int) := by rw [IntKind.wrap_u64]; omega
  have wt : IntKind.u64.wrap (lt : Int) = (lt : Int) := by rw [IntKind.wrap_u64]; omega
  go_wp2_with fail
  refine (put_at none 0 0 [] (8 * la) 8 (8 * (la : Int)) 8 w3 (BytesIn.nil_ w3) (by omega) (by unfold putOk; omega) (by omega) (by omega) rfl).mono ?_
  rintro e w4 ⟨v4, rfl, hO4, hb4⟩
  rw [List.nil_append] at hO4
  have hn4 := nu_trans hn3 hb4
  obtain ⟨a4, k4, rfl, _, _, hby4⟩ := hO4.reads
  rw [beL_length] at hby4 ⊢
  have HB4 := Lib.hid hby4
  have HR4 := Lib.hid (Blk.below HR3.out hb4 (Blk.lt HR3.out))
  have hb4' := hb4
  clear hO4 hby4 HR3 hn3
  go_wp2_with fail
  refine (put_at a4 8 k4 (beL (8 * la) 8 8) (8 * lt) 8 (8 * (lt : Int)) 8 w4 HB4.out (by omega) (by unfold putOk; omega) (by omega) (by omega) rfl).mono ?_
  rintro e w5 ⟨v5, rfl, hO5, hb5⟩
  have hn5 := nu_trans hn4 hb5
  have h35 := nu_trans hb4 hb5
  have hO5' : OwnB w5 w4.heap.size 5 v5 (lastB la lt) := hO5
  obtain ⟨a5, k5, rfl, hk5, hkm5, hby5, hlo5⟩ := hO5'.lies
  rw [lastB_len] at hk5 hby5 ⊢
  have HR5 := Lib.hid (Blk.below HR4.out hb5 (Blk.lt HR4.out))
  have hY5 := Blk.below Hall3.out.1 h35 (Blk.lt Hall3.out.1)
  have hkc5 : w5.cell? ⟨V, 0, none⟩ = some (.pointer (some ⟨g, 0, none⟩)) := (h35.cell (p := ⟨V, 0, none⟩) (World.block_lt_of_cell? _ _ Hall3.out.2.2.1)).trans Hall3.out.2.2.1
  have hK5 : KeyAt w5 g h := Blk.below Hall3.out.2.2.2 h35 (Blk.lt Hall3.out.2.2.2)
  have HW5 := Lib.hid (gh_take V Y g h a5 16 k5 (lastB la lt) y3 w5 hkc5 hK5 hh hY5 Hall3.out.2.1 hby5 hk5 hkm5 (fun _ ad had => by have h1 := (hlo5 ad had).1; have h2 := Hs3.out; have h3 := hb4.size; omega) Hap.out.1 Hap.out.2.1)
  have Hn5 := Lib.hid hn5
  clear hO5 hO5' hby5 hlo5 hY5 hkc5 hK5 hb4 hb4' hb5 h35 hn4 hn5 HB4 HR4
  go_wp2_with fail
  refine HW5.out.mono ?_
  rintro e w6 ⟨rfl, hY6, hg6⟩
  obtain ⟨y6, hy6⟩ : ∃ y6, y6 = gfold h y3 (blocks (lastB la lt)) := ⟨_, rfl⟩
  rw [← hy6] at hY6 HF
  have hn6 := nu_grown Hn5.out hg6 Hap.out.2.2.2.2.1
  have HR6 := Lib.hid (Blk.grown HR5.out hg6 (fun e => Hap.out.2.2.1 (by injection e)))
  obtain ⟨a0, ha0⟩ : ∃ a : Int, a = (Gh.hi y6 : Int) := ⟨_, rfl⟩
  obtain ⟨b0, hb0⟩ : ∃ b : Int, b = (Gh.lo y6 : Int) := ⟨_, rfl⟩
  have hh2 : halfL y6 = [.int .u64 a0, .int .u64 b0] := by unfold halfL; rw [ha0, hb0]
  have HBy := Lib.hid (gh_bytes y6 w6)
  rw [hh2] at hY6 HBy
  have c0 : w6.cell? ⟨Y, 0, none⟩ = some (.int .u64 a0) := hY6.at 0 _ rfl
  have c1 : w6.cell? ⟨Y, 1, none⟩ = some (.int .u64 b0) := hY6.at 1 _ rfl
  clear hy6 ha0 hb0 hh2 HW5 hg6 HR5 Hn5 hY6
  go_wp2_with fail
  refine HBy.out.mono ?_
  rintro e w7 ⟨rfl, hb7⟩
  have hn7 := nu_trans hn6 hb7
  have HR7 := Lib.hid (Blk.below HR6.out hb7 (Blk.lt HR6.out))
  obtain ⟨D, hD⟩ : ∃ D, D = (bytB y6).map vb := ⟨_, rfl⟩
  rw [← hD]
  have HDl := Lib.hid (show D.length = z16.size by rw [hD, List.length_map, bytB_len]; rfl)
  have HszD := Lib.hid (show (Try.prog.info? 22).map (·.size) = some D.toArray.size by rw [List.size_toArray, hD, List.length_map, bytB_len]; kernel_rfl)
  have H1 := Lib.hid (show ∀ u ∈ D, u.oneCell' = true by rw [hD]; exact vb_one _)
  have HDe := Lib.hid hD
  have HFl := Lib.hid (Blk.fill HR7.out D HDl.out)
  have Hnf := Lib.hid (nu_fill D (g := R) Hap.out.2.2.2.1 0 _ hn7)
  clear hD hn7 hn6 hb7 HBy c0 c1 HR6
  go_wp2_with (refine wpList_store_blk rfl 22 (.tmp 6) (.tmp 42) rfl R D rfl rfl 22 z16 HR7.out HDl.out (by have h := HszD.out; rwa [List.size_toArray] at h) H1.out ?_)
  refine bodyPost_ret (results_blk rfl _ R 22 D.toArray rfl HFl.out Try.underlying22 HszD.out) rfl ⟨by rw [HDe.out, HF.out], Hnf.out⟩
theorem gh_sum (g h : Nat) (a t : Option Addr) (la ca lt ct : Nat) (xs ys : List Nat) (w : World) (hK : KeyAt w g h) (hh : h < 2 ^ 128) (hx : BytesIn w a la ca xs) (hy : BytesIn w t lt ct ys) (hac : la ≤ ca ∧ ca ≤ 140737488355320) (htc : lt ≤ ct ∧ ct ≤ 140737488355320) :
    Calls Try.prog 22 #[.pointer (some ⟨g, 0, none⟩), .slice a la ca, .slice t lt ct] w fun e w' => e = .returned (.agg ((gsumB h xs ys).map vb).toArray) ∧ Below w.heap.size w w' :=
  gh_sum_g g h a t la ca lt ct xs ys w hK hh hx hy (by omega) (by omega) ⟨hac.1, by unfold maxLen; omega⟩ ⟨htc.1, by unfold maxLen; omega⟩
theorem gh_sum_isg {g h : Nat} {a t : Option Addr} {la ca lt ct : Nat} {xs ys D : List Nat} {w : World} (hD : gsumB h xs ys = D) (hK : KeyAt w g h) (hh : h < 2 ^ 128) (hx : BytesIn w a la ca xs) (hy : BytesIn w t lt ct ys) (hla : la ≤ 140737488355320) (hlt : lt ≤ 140737488355320) (hac : la ≤ ca ∧ ca ≤ maxLen) (htc : lt ≤ ct ∧ ct ≤ maxLen) :
    Calls Try.prog 22 #[.pointer (some ⟨g, 0, none⟩), .slice a la ca, .slice t lt ct] w fun e w' => e = .returned (.agg (D.map vb).toArray) ∧ Below w.heap.size w w' := by
  rw [← hD]
  exact gh_sum_g g h a t la ca lt ct xs ys w hK hh hx hy hla hlt hac htc
theorem gh_sum_is {g h : Nat} {a t : Option Addr} {la ca lt ct : Nat} {xs ys D : List Nat} {w : World} (hD : gsumB h xs ys = D) (hK : KeyAt w g h) (hh : h < 2 ^ 128) (hx : BytesIn w a la ca xs) (hy : BytesIn w t lt ct ys) (hac : la ≤ ca ∧ ca ≤ 140737488355320) (htc : lt ≤ ct ∧ ct ≤ 140737488355320) :
    Calls Try.prog 22 #[.pointer (some ⟨g, 0, none⟩), .slice a la ca, .slice t lt ct] w fun e w' => e = .returned (.agg (D.map vb).toArray) ∧ Below w.heap.size w w' := by
  rw [← hD]
  exact gh_sum g h a t la ca lt ct xs ys w hK hh hx hy hac htc
end Go.Proofs.Ytnojbjconiddoaa
