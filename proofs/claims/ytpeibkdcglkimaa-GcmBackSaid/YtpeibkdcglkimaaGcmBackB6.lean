/-
  What the proof of GcmBack rests on, part 6 of 8.
-/
import Derived.Test.YtpeibkdcglkimaaGcmBackB5
namespace Go.Proofs.Ytpeibkdcglkimaa
open Go.ChangeShapes Go.WideShapes Go.ChangeAt Go.RowKit

/-- The last block: the lengths in bits. -/
def lastB (n m : Nat) : List Nat := beL (8 * n) 8 8 ++ beL (8 * m) 8 8
def gsumB (h : Nat) (aad text : List Nat) : List Nat := bytB (gfold h 0 (blocks aad ++ blocks text ++ [lastB aad.length text.length]))
theorem lastB_len (n m : Nat) : (lastB n m).length = 16 := by unfold lastB; rw [List.length_append, beL_length, beL_length]
theorem lastB_lt (n m : Nat) : ∀ x ∈ lastB n m, x < 256 := by
  intro x hx
  rcases List.mem_append.1 hx with h | h
  · exact beL_lt _ _ _ x h
  · exact beL_lt _ _ _ x h
theorem blocks_one (xs : List Nat) (h : xs.length = 16) : blocks xs = [xs] := by
  rw [blocks_cons xs (fun e => by rw [e] at h; simp at h), List.take_of_length_le (by omega), List.drop_of_length_le (by omega), blocks_nil]
  unfold pad16
  rw [h]
  simp
theorem gfold_app (h y : Nat) (xs ys : List (List Nat)) : gfold h y (xs ++ ys) = gfold h (gfold h y xs) ys := List.foldl_append ..
theorem halfL_zero : halfL 0 = [.int .u64 0, .int .u64 0] := by unfold halfL; rw [Gh.hi_zero, Gh.lo_zero]; rfl

set_option maxRecDepth 100000 in
set_option maxHeartbeats 4000000 in
theorem gh_sum_g (g h : Nat) (a t : Option Addr) (la ca lt ct : Nat) (xs ys : List Nat) (w : World) (hK : KeyAt w g h) (hh : h < 2 ^ 128) (hx : BytesIn w a la ca xs) (hy : BytesIn w t lt ct ys) (hla : la ≤ 140737488355320) (hlt : lt ≤ 140737488355320) (hac : la ≤ ca ∧ ca ≤ maxLen) (htc : lt ≤ ct ∧ ct ≤ maxLen) :
    Calls Try.prog 49 #[.pointer (some ⟨g, 0, none⟩), .slice a la ca, .slice t lt ct] w fun e w' => e = .returned (.agg ((gsumB h xs ys).map vb).toArray) ∧ Below w.heap.size w w' := by
  have HX := Lib.hid hx
  have HY := Lib.hid hy
  have HK := Lib.hid hK
  have Hac := Lib.hid hac
  have Htc := Lib.hid htc
  have hal := nu_alloc (nu_alloc (nu_alloc (nu_refl w) (.cells #[.pointer (some ⟨g, 0, none⟩)] 51)) (.cells z16 44)) (.cells #[.int .u64 0, .int .u64 0] 79)
  have HV := Lib.hid (((Blk.made w 51 #[.pointer (some ⟨g, 0, none⟩)]).alloc (.cells z16 44)).alloc (.cells #[.int .u64 0, .int .u64 0] 79))
  have HR := Lib.hid ((Blk.made1 w (.cells #[.pointer (some ⟨g, 0, none⟩)] 51) 44 z16).alloc (.cells #[.int .u64 0, .int .u64 0] 79))
  have HZ := Lib.hid (Blk.made2 w (.cells #[.pointer (some ⟨g, 0, none⟩)] 51) (.cells z16 44) 79 #[.int .u64 0, .int .u64 0])
  clear hx hy hK
  go_enter Try.func49, Try.ntmps49
  go_upto_region 4 with fail
  generalize ((w.alloc (.cells #[.pointer (some ⟨g, 0, none⟩)] 51)).alloc (.cells z16 44)).alloc (.cells #[.int .u64 0, .int .u64 0] 79) = w1 at *
  obtain ⟨V, hV⟩ : ∃ V, V = w.heap.size := ⟨_, rfl⟩
  obtain ⟨R, hR⟩ : ∃ R, R = w.heap.size + 1 := ⟨_, rfl⟩
  obtain ⟨Y, hY⟩ : ∃ Y, Y = w.heap.size + 1 + 1 := ⟨_, rfl⟩
  rw [← hV] at HV
  rw [← hR] at HR
  rw [← hY] at HZ
  rw [← hY, ← hR, ← hV]
  have Hgl := Blk.lt HK.out
  have Hap := Lib.hid (show V ≠ Y ∧ g ≠ Y ∧ R ≠ Y ∧ w.heap.size ≤ R ∧ w.heap.size ≤ Y ∧ Y < w1.heap.size ∧ R < w1.heap.size from ⟨by omega, by omega, by omega, by omega, by omega, Blk.lt HZ.out, Blk.lt HR.out⟩)
  clear hV hR hY Hgl
  have hkc1 : w1.cell? ⟨V, 0, none⟩ = some (.pointer (some ⟨g, 0, none⟩)) := HV.out.at 0 _ rfl
  have hK1 : KeyAt w1 g h := Blk.below HK.out hal (Blk.lt HK.out)
  have hZ1 : Blk w1 Y 79 (halfL 0).toArray := by rw [halfL_zero]; exact HZ.out
  have far : ∀ {b : Option Addr} {l c : Nat} {zs : List Nat}, BytesIn w b l c zs → 0 < l → ∀ ad, b = some ad → ad.block ≠ Y := fun hb hp ad had => by
    have h1 := bytes_blk_lt hb hp ad had
    have h2 := Hap.out.2.2.2.2.1
    omega
  have Hfar := Lib.hid (And.intro (far HX.out) (far HY.out))
  have HW1 := Lib.hid (gh_take V Y g h a la ca xs 0 w1 hkc1 hK1 hh hZ1 (by decide) (HX.out.keep hal) Hac.out.1 Hac.out.2 Hfar.out.1 Hap.out.1 Hap.out.2.1)
  clear far hZ1 HZ HV
  go_wp2_with fail
  refine HW1.out.mono ?_
  rintro e w2 ⟨rfl, hY2, hg2⟩
  obtain ⟨y2, hy2⟩ : ∃ y2, y2 = gfold h 0 (blocks xs) := ⟨_, rfl⟩
  rw [← hy2] at hY2
  have hyl2 : y2 < 2 ^ 128 := by rw [hy2]; exact gfold_lt h 0 _ hh (by decide)
  have hn2 := nu_grown hal hg2 Hap.out.2.2.2.2.1
  have hV1l := World.block_lt_of_cell? _ _ hkc1
  have hkc2 : w2.cell? ⟨V, 0, none⟩ = some (.pointer (some ⟨g, 0, none⟩)) := (World.cell?_of_block (a := ⟨V, 0, none⟩) (hg2.block V hV1l (fun e => Hap.out.1 (by injection e)))).trans hkc1
  have hK2 : KeyAt w2 g h := Blk.grown hK1 hg2 (fun e => Hap.out.2.1 (by injection e))
  have HR2 := Lib.hid (Blk.grown HR.out hg2 (fun e => Hap.out.2.2.1 (by injection e)))
  have HW2 := Lib.hid (gh_take V Y g h t lt ct ys y2 w2 hkc2 hK2 hh hY2 hyl2 (HY.out.keep hn2) Htc.out.1 Htc.out.2 Hfar.out.2 Hap.out.1 Hap.out.2.1)
  clear HW1 hal hY2 hkc1 hK1 hg2 HR hV1l
  go_wp2_with fail
  refine HW2.out.mono ?_
  rintro e w3 ⟨rfl, hY3, hg3⟩
  obtain ⟨y3, hy3⟩ : ∃ y3, y3 = gfold h y2 (blocks ys) := ⟨_, rfl⟩
  rw [← hy3] at hY3
  have hyl3 : y3 < 2 ^ 128 := by rw [hy3]; exact gfold_lt h y2 _ hh hyl2
  have hn3 := nu_grown hn2 hg3 Hap.out.2.2.2.2.1
  have hV1l := World.block_lt_of_cell? _ _ hkc2
  have hkc3 : w3.cell? ⟨V, 0, none⟩ = some (.pointer (some ⟨g, 0, none⟩)) := (World.cell?_of_block (a := ⟨V, 0, none⟩) (hg3.block V hV1l (fun e => Hap.out.1 (by injection e)))).trans hkc2
  have hK3 : KeyAt w3 g h := Blk.grown hK2 hg3 (fun e => Hap.out.2.1 (by injection e))
  have HR3 := Lib.hid (Blk.grown HR2.out hg3 (fun e => Hap.out.2.2.1 (by injection e)))
  have HF := Lib.hid (show gsumB h xs ys = bytB (gfold h y3 (blocks (lastB la lt))) by
    rw [blocks_one _ (lastB_len _ _), gsumB, gfold_app, gfold_app, ← hy2, ← hy3, HX.out.1.1, HY.out.1.1])
  have Hall3 := Lib.hid (show Blk w3 Y 79 (halfL y3).toArray ∧ y3 < 2 ^ 128 ∧ w3.cell? ⟨V, 0, none⟩ = some (.pointer (some ⟨g, 0, none⟩)) ∧ KeyAt w3 g h from ⟨hY3, hyl3, hkc3, hK3⟩)
  have Hs3 := Lib.hid (show Y < w3.heap.size from Blk.lt hY3)
  clear HW2 hn2 hY3 hkc2 hK2 hg3 HR2 hV1l hy2 hy3 hyl2 hyl3 hkc3 hK3 y2
  have wa : IntKind.u64.wrap (la : Int) = (la : Int) := by rw [IntKind.wrap_u64]; omega
  have wt : IntKind.u64.wrap (lt : Int) = (lt : Int) := by rw [IntKind.wrap_u64]; omega
  go_wp2_with fail
  refine (put_at none 0 0 [] (8 * la) 8 (8 * (la : Int)) 8 w3 (BytesIn.nil_ w3) (by omega) (by unfold putOk; omega) (by omega) (by omega) rfl).mono ?_
  rintro e w4 ⟨v4, rfl, hO4, hb4⟩
  rw [List.nil_append] at hO4
  have hn4 := nu_trans hn3 hb4
  obtain ⟨a4, k4, rfl, _, _, hby4⟩ := hO4.reads
  rw [beL_length] at hby4 ⊢
  have HB4 := Lib.hid hby4
  have HR4 := Lib.hid (Blk.below HR3.out hb4 (Blk.lt HR3.out))
  have hb4' := hb4
  clear hO4 hby4 HR3 hn3
  go_wp2_with fail
  refine (put_at a4 8 k4 (beL (8 * la) 8 8) (8 * lt) 8 (8 * (lt : Int)) 8 w4 HB4.out (by omega) (by unfold putOk; omega) (by omega) (by omega) rfl).mono ?_
  rintro e w5 ⟨v5, rfl, hO5, hb5⟩
  have hn5 := nu_trans hn4 hb5
  have h35 := nu_trans hb4 hb5
  have hO5' : OwnB w5 w4.heap.size 5 v5 (lastB la lt) := hO5
  obtain ⟨a5, k5, rfl, hk5, hkm5, hby5, hlo5⟩ := hO5'.lies
  rw [lastB_len] at hk5 hby5 ⊢
  have HR5 := Lib.hid (Blk.below HR4.out hb5 (Blk.lt HR4.out))
  have hY5 := Blk.below Hall3.out.1 h35 (Blk.lt Hall3.out.1)
  have hkc5 : w5.cell? ⟨V, 0, none⟩ = some (.pointer (some ⟨g, 0, none⟩)) := (h35.cell (p := ⟨V, 0, none⟩) (World.block_lt_of_cell? _ _ Hall3.out.2.2.1)).trans Hall3.out.2.2.1
  have hK5 : KeyAt w5 g h := Blk.below Hall3.out.2.2.2 h35 (Blk.lt Hall3.out.2.2.2)
  have HW5 := Lib.hid (gh_take V Y g h a5 16 k5 (lastB la lt) y3 w5 hkc5 hK5 hh hY5 Hall3.out.2.1 hby5 hk5 hkm5 (fun _ ad had => by have h1 := (hlo5 ad had).1; have h2 := Hs3.out; have h3 := hb4.size; omega) Hap.out.1 Hap.out.2.1)
  have Hn5 := Lib.hid hn5
  clear hO5 hO5' hby5 hlo5 hY5 hkc5 hK5 hb4 hb4' hb5 h35 hn4 hn5 HB4 HR4
  go_wp2_with fail
  refine HW5.out.mono ?_
  rintro e w6 ⟨rfl, hY6, hg6⟩
  obtain ⟨y6, hy6⟩ : ∃ y6, y6 = gfold h y3 (blocks (lastB la lt)) := ⟨_, rfl⟩
  rw [← hy6] at hY6 HF
  have hn6 := nu_grown Hn5.out hg6 Hap.out.2.2.2.2.1
  have HR6 := Lib.hid (Blk.grown HR5.out hg6 (fun e => Hap.out.2.2.1 (by injection e)))
  obtain ⟨a0, ha0⟩ : ∃ a : Int, a = (Gh.hi y6 : Int) := ⟨_, rfl⟩
  obtain ⟨b0, hb0⟩ : ∃ b : Int, b = (Gh.lo y6 : Int) := ⟨_, rfl⟩
  have hh2 : halfL y6 = [.int .u64 a0, .int .u64 b0] := by unfold halfL; rw [ha0, hb0]
  have HBy := Lib.hid (gh_bytes y6 w6)
  rw [hh2] at hY6 HBy
  have c0 : w6.cell? ⟨Y, 0, none⟩ = some (.int .u64 a0) := hY6.at 0 _ rfl
  have c1 : w6.cell? ⟨Y, 1, none⟩ = some (.int .u64 b0) := hY6.at 1 _ rfl
  clear hy6 ha0 hb0 hh2 HW5 hg6 HR5 Hn5 hY6
  go_wp2_with fail
  refine HBy.out.mono ?_
  rintro e w7 ⟨rfl, hb7⟩
  have hn7 := nu_trans hn6 hb7
  have HR7 := Lib.hid (Blk.below HR6.out hb7 (Blk.lt HR6.out))
  obtain ⟨D, hD⟩ : ∃ D, D = (bytB y6).map vb := ⟨_, rfl⟩
  rw [← hD]
  have HDl := Lib.hid (show D.length = z16.size by rw [hD, List.length_map, bytB_len]; rfl)
  have HszD := Lib.hid (show (Try.prog.info? 44).map (·.size) = some D.toArray.size by rw [List.size_toArray, hD, List.length_map, bytB_len]; kernel_rfl)
  have H1 := Lib.hid (show ∀ u ∈ D, u.oneCell' = true by rw [hD]; exact vb_one _)
  have HDe := Lib.hid hD
  have HFl := Lib.hid (Blk.fill HR7.out D HDl.out)
  have Hnf := Lib.hid (nu_fill D (g := R) Hap.out.2.2.2.1 0 _ hn7)
  clear hD hn7 hn6 hb7 HBy c0 c1 HR6
  go_wp2_with (refine wpList_store_blk rfl 44 (.tmp 6) (.tmp 42) rfl R D rfl rfl 44 z16 HR7.out HDl.out (by have h := HszD.out; rwa [List.size_toArray] at h) H1.out ?_)
  refine bodyPost_ret (results_blk rfl _ R 44 D.toArray rfl HFl.out Try.underlying44 HszD.out) rfl ⟨by rw [HDe.out, HF.out], Hnf.out⟩
theorem gh_sum (g h : Nat) (a t : Option Addr) (la ca lt ct : Nat) (xs ys : List Nat) (w : World) (hK : KeyAt w g h) (hh : h < 2 ^ 128) (hx : BytesIn w a la ca xs) (hy : BytesIn w t lt ct ys) (hac : la ≤ ca ∧ ca ≤ 140737488355320) (htc : lt ≤ ct ∧ ct ≤ 140737488355320) :
    Calls Try.prog 49 #[.pointer (some ⟨g, 0, none⟩), .slice a la ca, .slice t lt ct] w fun e w' => e = .returned (.agg ((gsumB h xs ys).map vb).toArray) ∧ Below w.heap.size w w' :=
  gh_sum_g g h a t la ca lt ct xs ys w hK hh hx hy (by omega) (by omega) ⟨hac.1, by unfold maxLen; omega⟩ ⟨htc.1, by unfold maxLen; omega⟩
theorem gh_sum_isg {g h : Nat} {a t : Option Addr} {la ca lt ct : Nat} {xs ys D : List Nat} {w : World} (hD : gsumB h xs ys = D) (hK : KeyAt w g h) (hh : h < 2 ^ 128) (hx : BytesIn w a la ca xs) (hy : BytesIn w t lt ct ys) (hla : la ≤ 140737488355320) (hlt : lt ≤ 140737488355320) (hac : la ≤ ca ∧ ca ≤ maxLen) (htc : lt ≤ ct ∧ ct ≤ maxLen) :
    Calls Try.prog 49 #[.pointer (some ⟨g, 0, none⟩), .slice a la ca, .slice t lt ct] w fun e w' => e = .returned (.agg (D.map vb).toArray) ∧ Below w.heap.size w w' := by
  rw [← hD]
  exact gh_sum_g g h a t la ca lt ct xs ys w hK hh hx hy hla hlt hac htc
theorem gh_sum_is {g h : Nat} {a t : Option Addr} {la ca lt ct : Nat} {xs ys D : List Nat} {w : World} (hD : gsumB h xs ys = D) (hK : KeyAt w g h) (hh : h < 2 ^ 128) (hx : BytesIn w a la ca xs) (hy : BytesIn w t lt ct ys) (hac : la ≤ ca ∧ ca ≤ 140737488355320) (htc : lt ≤ ct ∧ ct ≤ 140737488355320) :
    Calls Try.prog 49 #[.pointer (some ⟨g, 0, none⟩), .slice a la ca, .slice t lt ct] w fun e w' => e = .returned (.agg (D.map vb).toArray) ∧ Below w.heap.size w w' := by
  rw [← hD]
  exact gh_sum g h a t la ca lt ct xs ys w hK hh hx hy hac htc
end Go.Proofs.Ytpeibkdcglkimaa

namespace Go.Proofs.Ytpeibkdcglkimaa
open Go.ChangeShapes Go.WideShapes Go.ChangeAt Go.RowKit

section
variable {o : Oper} {a : Act} {w : World}
theorem exec_eql_16 (xs ys : List Nat) (h1 : xs.length = 16) (h2 : ys.length = 16) (x y : Operand) (ho : o.op = .binOp .eql 44 x y 44) (hx : a.eval x = .agg (xs.map vb).toArray) (hy : a.eval y = .agg (ys.map vb).toArray) :
    (execOp a.eval o).run Try.prog w = .ok (.value (.bool (decide (xs = ys)))) w := by
  have he := run_equalIn_bytes' (P := Try.prog) w (t := 44) (e := 5) (n := 16) (i := (Try.prog.info? 5).get!) (k := .u8) 9998 (by kernel_rfl) (by kernel_rfl) (by kernel_rfl) (by kernel_rfl) (by kernel_rfl) xs ys h1 h2
  unfold execOp
  simp only [ho, hx, hy]
  simp [run_eqGuard_agg (P := Try.prog) w .eql 44 x y (xs.map vb).toArray (ys.map vb).toArray (by kernel_rfl), run_eql_struct, he]
theorem exec_neq_16 (xs ys : List Nat) (h1 : xs.length = 16) (h2 : ys.length = 16) (x y : Operand) (ho : o.op = .binOp .neq 44 x y 44) (hx : a.eval x = .agg (xs.map vb).toArray) (hy : a.eval y = .agg (ys.map vb).toArray) :
    (execOp a.eval o).run Try.prog w = .ok (.value (.bool (!decide (xs = ys)))) w := by
  have he := run_equalIn_bytes' (P := Try.prog) w (t := 44) (e := 5) (n := 16) (i := (Try.prog.info? 5).get!) (k := .u8) 9998 (by kernel_rfl) (by kernel_rfl) (by kernel_rfl) (by kernel_rfl) (by kernel_rfl) xs ys h1 h2
  unfold execOp
  simp only [ho, hx, hy]
  simp [run_eqGuard_agg (P := Try.prog) w .neq 44 x y (xs.map vb).toArray (ys.map vb).toArray (by kernel_rfl), run_neq_struct, he]
theorem exec_same_16 (xs : List Nat) (h1 : xs.length = 16) (x y : Operand) (ho : o.op = .binOp .eql 44 x y 44) (hx : a.eval x = .agg (xs.map vb).toArray) (hy : a.eval y = .agg (xs.map vb).toArray) :
    (execOp a.eval o).run Try.prog w = .ok (.value (.bool true)) w := by
  have h := exec_eql_16 (w := w) xs xs h1 h1 x y ho hx hy
  rw [decide_eq_true rfl] at h
  exact h
theorem exec_nsame_16 (xs : List Nat) (h1 : xs.length = 16) (x y : Operand) (ho : o.op = .binOp .neq 44 x y 44) (hx : a.eval x = .agg (xs.map vb).toArray) (hy : a.eval y = .agg (xs.map vb).toArray) :
    (execOp a.eval o).run Try.prog w = .ok (.value (.bool false)) w := by
  have h := exec_neq_16 (w := w) xs xs h1 h1 x y ho hx hy
  rw [decide_eq_true rfl] at h
  exact h
end
theorem awk_prod : bytB (Gh.mul (polB [5, 0, 0, 0, 0, 0, 0, 0, 0, 0, 0, 0, 0, 0, 0, 7]) (polB [128, 0, 0, 0, 0, 0, 0, 0, 0, 0, 0, 0, 0, 0, 0, 0])) = [5, 0, 0, 0, 0, 0, 0, 0, 0, 0, 0, 0, 0, 0, 0, 7] := by kernel_rfl
theorem awk_sum : gsumB (polB [128, 0, 0, 0, 0, 0, 0, 0, 0, 0, 0, 0, 0, 0, 0, 0]) [9] [] = [9, 0, 0, 0, 0, 0, 0, 8, 0, 0, 0, 0, 0, 0, 0, 0] := by kernel_rfl
theorem bytes_new (w : World) (xs : List Nat) (hx : ∀ x ∈ xs, x < 256) (cs : Array Value) (hc : cs = (xs.map vb).toArray) : BytesIn (w.alloc (.cells cs 5)) (some ⟨w.heap.size, 0, none⟩) xs.length xs.length xs := by
  subst hc
  exact blk_bytes (Blk.made w 5 _) rfl hx

end Go.Proofs.Ytpeibkdcglkimaa

namespace Go.Proofs.Ytpeibkdcglkimaa
open Go.ChangeShapes Go.WideShapes Go.ChangeAt Go.RowKit

set_option maxRecDepth 100000 in
set_option maxHeartbeats 1000000 in
theorem gh_nil (a t : Option Addr) (la ca lt ct : Nat) (w : World) :
    Calls Try.prog 49 #[.pointer none, .slice a la ca, .slice t lt ct] w fun e w' => e = .returned (.agg z16l.toArray) ∧ Below w.heap.size w w' := by
  have hn := nu_alloc (nu_alloc (nu_refl w) (.cells #[.pointer none] 51)) (.cells z16l.toArray 44)
  have HR := Lib.hid (Blk.made1 w (.cells #[.pointer none] 51) 44 z16l.toArray)
  go_enter Try.func49, Try.ntmps49
  go_upto_region 2 with fail
  have Hn := Lib.hid hn
  clear hn
  generalize (w.alloc (.cells #[.pointer none] 51)).alloc (.cells z16l.toArray 44) = w1 at *
  have HFl := Lib.hid (Blk.fill HR.out z16l rfl)
  have Hnf := Lib.hid (nu_fill z16l (g := w.heap.size + 1) (by omega) 0 _ Hn.out)
  go_wp2_with (refine wpList_store_blk rfl 44 (.tmp 6) (.tmp 13) rfl (w.heap.size + 1) z16l rfl rfl 44 z16l.toArray HR.out rfl (by kernel_rfl) (by decide) ?_)
  exact bodyPost_ret (results_blk rfl _ (w.heap.size + 1) 44 z16l.toArray rfl HFl.out Try.underlying44 (by kernel_rfl)) rfl ⟨rfl, Hnf.out⟩

abbrev kn_h : List Nat := [102, 233, 75, 212, 239, 138, 44, 59, 136, 76, 250, 89, 202, 52, 43, 46]
abbrev kn_c : List Nat := [3, 136, 218, 206, 96, 182, 163, 146, 243, 40, 194, 185, 113, 178, 254, 120]
abbrev kn_d : List Nat := [243, 140, 187, 26, 214, 146, 35, 220, 195, 69, 122, 229, 182, 176, 248, 133]
theorem kn_sum : gsumB (polB kn_h) [] kn_c = kn_d := by kernel_rfl
theorem kn_nilsum : gsumB (polB kn_h) [] [] = List.replicate 16 0 := by kernel_rfl

end Go.Proofs.Ytpeibkdcglkimaa

namespace Go.Proofs.Ytpeibkdcglkimaa

theorem xcl (a b c : Nat) (e : a ^^^ b = a ^^^ c) : b = c := by
  have h := congrArg (a ^^^ ·) e
  simp only [← Nat.xor_assoc, Nat.xor_self, Nat.zero_xor] at h
  exact h
theorem xcr (a b c : Nat) (e : b ^^^ a = c ^^^ a) : b = c := xcl a b c (by rw [Nat.xor_comm a b, e, Nat.xor_comm])
theorem gmul_inj (h u v : Nat) (hh : h < 2 ^ 128) (h0 : h ≠ 0) (hu : u < 2 ^ 128) (hv : v < 2 ^ 128) (e : Gh.mul h u = Gh.mul h v) : u = v := by
  have e1 : Gh.mul h (u ^^^ v) = 0 := by rw [Gh.mul_xor h u v hh, e, Nat.xor_self]
  rcases (Gh.no_zero h (u ^^^ v) hh (Nat.xor_lt_two_pow hu hv)).1 e1 with h1 | h1
  · exact absurd h1 h0
  · exact xcl u u v (by rw [Nat.xor_self, h1]) ▸ rfl
theorem gstep_y (h y y' : Nat) (b : List Nat) (hh : h < 2 ^ 128) (h0 : h ≠ 0) (hy : y < 2 ^ 128) (hy' : y' < 2 ^ 128) (e : gstep h y b = gstep h y' b) : y = y' := by
  have e1 := gmul_inj h _ _ hh h0 (Nat.xor_lt_two_pow hy (polB_lt b)) (Nat.xor_lt_two_pow hy' (polB_lt b)) e
  exact xcr _ _ _ e1
theorem gstep_b (h y : Nat) (b b' : List Nat) (hh : h < 2 ^ 128) (h0 : h ≠ 0) (hy : y < 2 ^ 128) (e : gstep h y b = gstep h y b') : polB b = polB b' := by
  have e1 := gmul_inj h _ _ hh h0 (Nat.xor_lt_two_pow hy (polB_lt b)) (Nat.xor_lt_two_pow hy (polB_lt b')) e
  exact xcl _ _ _ e1
theorem gfold_y (h : Nat) (hh : h < 2 ^ 128) (h0 : h ≠ 0) : ∀ (bs : List (List Nat)) (y y' : Nat), y < 2 ^ 128 → y' < 2 ^ 128 → gfold h y bs = gfold h y' bs → y = y' := by
  intro bs
  induction bs with
  | nil => intro y y' _ _ e; exact e
  | cons b bs ih =>
    intro y y' hy hy' e
    exact gstep_y h y y' b hh h0 hy hy' (ih _ _ (Gh.mul_lt _ _ hh) (Gh.mul_lt _ _ hh) e)
theorem gfold_set (h : Nat) (hh : h < 2 ^ 128) (h0 : h ≠ 0) (z : Nat) (hz : z < 256) (rest : List (List Nat)) : ∀ (n : Nat) (xs : List Nat) (i y : Nat), xs.length ≤ n → i < xs.length → (∀ x ∈ xs, x < 256) → y < 2 ^ 128 →
    gfold h y (blocks xs ++ rest) = gfold h y (blocks (xs.set i z) ++ rest) → xs = xs.set i z := by
  intro n
  induction n with
  | zero => intro xs i y h1 h2; omega
  | succ n ih =>
    intro xs i y hl hi hx hy e
    have hne : xs ≠ [] := fun e => by rw [e] at hi; exact absurd hi (Nat.not_lt_zero _)
    have hne' : xs.set i z ≠ [] := fun e => by have h1 := congrArg List.length e; rw [List.length_set] at h1; rw [List.length_nil] at h1; omega
    rw [blocks_cons xs hne, blocks_cons _ hne', List.cons_append, List.cons_append] at e
    have e2 : gfold h (gstep h y (pad16 (xs.take 16))) (blocks (xs.drop 16) ++ rest) = gfold h (gstep h y (pad16 ((xs.set i z).take 16))) (blocks ((xs.set i z).drop 16) ++ rest) := e
    have hx' : ∀ x ∈ xs.set i z, x < 256 := fun x h => by
      rcases List.mem_or_eq_of_mem_set h with h | h
      · exact hx x h
      · rw [h]; exact hz
    by_cases h16 : i < 16
    · have ed : (xs.set i z).drop 16 = xs.drop 16 := by rw [List.drop_set_of_lt h16]
      rw [ed] at e2
      have e3 := gfold_y h hh h0 _ _ _ (Gh.mul_lt _ _ hh) (Gh.mul_lt _ _ hh) e2
      have e4 := gstep_b h y _ _ hh h0 hy e3
      have e5 := polB_inj _ _ (pad16_len _ (by rw [List.length_take]; omega)) (pad16_lt _ (fun x h => hx x (List.mem_of_mem_take h))) (pad16_len _ (by rw [List.length_take]; omega)) (pad16_lt _ (fun x h => hx' x (List.mem_of_mem_take h))) e4
      unfold pad16 at e5
      have e6 := (List.append_inj e5 (by rw [List.length_take, List.length_take, List.length_set])).1
      rw [← List.take_append_drop 16 (xs.set i z), ← e6, ed, List.take_append_drop]
    · have et : (xs.set i z).take 16 = xs.take 16 := by rw [List.take_set_of_le (by omega)]
      have ed : (xs.set i z).drop 16 = (xs.drop 16).set (i - 16) z := by rw [List.drop_set, if_neg h16]
      rw [et, ed] at e2
      have e3 := ih (xs.drop 16) (i - 16) _ (by rw [List.length_drop]; omega) (by rw [List.length_drop]; omega) (fun x h => hx x (List.mem_of_mem_drop h)) (Gh.mul_lt _ _ hh) e2
      rw [← List.take_append_drop 16 (xs.set i z), et, ed, ← e3, List.take_append_drop]
theorem gfold_zero (y : Nat) (bs : List (List Nat)) (b : List Nat) : gfold 0 y (bs ++ [b]) = 0 := by
  rw [gfold_app]
  exact Gh.zero_mul _
theorem bytB_inj (p q : Nat) (hp : p < 2 ^ 128) (hq : q < 2 ^ 128) (e : bytB p = bytB q) : p = q := by rw [← polB_bytB p hp, e, polB_bytB q hq]
/-- The law: a turned byte is seen, but by a zero key. -/
theorem gapart (ks xs ys : List Nat) (i y q : Nat) (hkl : ks.length = 16) (hkx : ∀ x ∈ ks, x < 256) (hy : xs[i]? = some y) (hq : q < 256) (hx : ∀ x ∈ xs, x < 256) (hys : xs.set i (y ^^^ q) = ys) :
    decide (gsumB (polB ks) [] xs = gsumB (polB ks) [] ys) = decide (q = 0 ∨ ks = List.replicate 16 0) ∧ decide (gsumB (polB ks) xs [] = gsumB (polB ks) ys []) = decide (q = 0 ∨ ks = List.replicate 16 0) := by
  have hi : i < xs.length := (List.getElem?_eq_some_iff.1 hy).1
  have hg : xs[i] = y := (List.getElem?_eq_some_iff.1 hy).2
  have hyb : y < 256 := hx y (List.mem_of_getElem? hy)
  have hz : y ^^^ q < 256 := Nat.xor_lt_two_pow (n := 8) hyb hq
  have hh := polB_lt ks
  have hl : ys.length = xs.length := by rw [← hys, List.length_set]
  have hk0 : ks = List.replicate 16 0 ↔ polB ks = 0 := by
    have e0 : polB (List.replicate 16 0) = 0 := by kernel_rfl
    constructor
    · intro e; rw [e, e0]
    · intro e; exact polB_inj _ _ hkl hkx (by rfl) (fun x h => by rw [(List.mem_replicate.1 h).2]; omega) (by rw [e, e0])
  have hsame : q = 0 → xs = ys := fun e => by
    rw [← hys, e, Nat.xor_zero, ← hg, List.set_getElem_self]
  have hdiff : xs = ys → q = 0 := fun e => by
    have h1 : xs[i]? = ys[i]? := by rw [← e]
    rw [← hys, List.getElem?_set_self hi, hy] at h1
    injection h1 with h1
    have h2 : y ^^^ 0 = y ^^^ q := by rw [Nat.xor_zero]; exact h1
    exact (xcl _ _ _ h2).symm
  rw [decide_eq_decide, decide_eq_decide]
  refine ⟨⟨fun e => ?_, fun e => ?_⟩, ⟨fun e => ?_, fun e => ?_⟩⟩
  · by_cases h0 : polB ks = 0
    · exact Or.inr (hk0.2 h0)
    · left
      unfold gsumB at e
      rw [hl, blocks_nil, List.nil_append, List.nil_append] at e
      have e1 := bytB_inj _ _ (gfold_lt _ _ _ hh (by decide)) (gfold_lt _ _ _ hh (by decide)) e
      rw [← hys] at e1
      exact hdiff ((gfold_set _ hh h0 _ hz _ _ xs i 0 (Nat.le_refl _) hi hx (by decide) e1).trans hys)
  · rcases e with e | e
    · rw [hsame e]
    · unfold gsumB
      rw [hk0.1 e, gfold_zero, gfold_zero]
  · by_cases h0 : polB ks = 0
    · exact Or.inr (hk0.2 h0)
    · left
      unfold gsumB at e
      rw [hl, blocks_nil, List.append_nil, List.append_nil] at e
      have e1 := bytB_inj _ _ (gfold_lt _ _ _ hh (by decide)) (gfold_lt _ _ _ hh (by decide)) e
      rw [← hys] at e1
      exact hdiff ((gfold_set _ hh h0 _ hz _ _ xs i 0 (Nat.le_refl _) hi hx (by decide) e1).trans hys)
  · rcases e with e | e
    · rw [hsame e]
    · unfold gsumB
      rw [hk0.1 e, gfold_zero, gfold_zero]
end Go.Proofs.Ytpeibkdcglkimaa

namespace Go.Proofs.Ytpeibkdcglkimaa
open Go.ChangeShapes Go.WideShapes Go.ChangeAt Go.RowKit

set_option maxHeartbeats 1000000 in
theorem pick_any (x n : Int) (k : Nat) (w : World) (hk : (k : Int) = x % n) (hn : 1 ≤ n) (hn2 : n ≤ 4611686018427387904) (h1 : -9223372036854775808 ≤ x) (h2 : x ≤ 9223372036854775807) :
    Calls Try.prog 22 #[.int .i64 x, .int .i64 n] w fun e w' => e = .returned (.int .i64 k) ∧ w = w' := by
  have t1 : decide (n < 1) = false := by simp; omega
  by_cases hx : 0 ≤ x
  · have Hk := Lib.hid hk
    have h3 : 0 ≤ x % n := Int.emod_nonneg x (by omega)
    have t2 : ¬ x % n < 0 := by omega
    clear hk
    go_enter Try.func22, Try.ntmps22
    go_wp2_with fail
    go_ret
    exact ⟨by rw [Hk.out]; rfl, rfl⟩
  · have he : x.tmod n = - ((-x) % n) := by
      have := Int.neg_tmod (-x) n
      rw [Int.neg_neg] at this
      rw [this, Int.tmod_eq_emod_of_nonneg (by omega)]
    have h4 := Int.emod_nonneg (-x) (show n ≠ 0 by omega)
    have h5 := Int.emod_lt_of_pos (-x) (show 0 < n by omega)
    have hs : (x + -x) % n = 0 := by rw [Int.add_right_neg]; simp
    by_cases hz : (-x) % n = 0
    · have ez : x.tmod n = 0 := by omega
      have hxz : x % n = 0 := by
        rw [Int.emod_eq_zero_of_dvd]
        exact (Int.dvd_neg).1 (Int.dvd_of_emod_eq_zero hz)
      have Hk := Lib.hid (show (k : Int) = 0 by omega)
      clear hk he h4 h5 hs hz hxz
      have hneg : x < 0 := by omega
      go_enter Try.func22, Try.ntmps22
      go_wp2_with fail
      go_ret
      exact ⟨by rw [Hk.out]; rfl, rfl⟩
    · obtain ⟨m, hm⟩ : ∃ m, m = x.tmod n := ⟨_, rfl⟩
      have hm1 : m < 0 := by omega
      have hm2 : -n < m := by omega
      have hd : x % n = m + n := by
        have h6 := Int.mul_ediv_add_emod (-x) n
        obtain ⟨q, hq⟩ : ∃ q, q = (-x) / n := ⟨_, rfl⟩
        rw [← hq] at h6
        have e1 : x = (m + n) + n * (-q - 1) := by
          rw [Int.mul_sub, Int.mul_neg]
          omega
        rw [e1, Int.add_mul_emod_self_left]
        exact Int.emod_eq_of_lt (by omega) (by omega)
      have Hk := Lib.hid (show (k : Int) = m + n by omega)
      have em := hm.symm
      clear hk he h4 h5 hs hz hd hm
      have hneg : x < 0 := by omega
      go_enter Try.func22, Try.ntmps22
      go_wp2_with fail
      go_ret
      exact ⟨by rw [Hk.out]; rfl, rfl⟩
end Go.Proofs.Ytpeibkdcglkimaa

namespace Go.Proofs.Ytpeibkdcglkimaa
open Go.ChangeShapes Go.WideShapes Go.ChangeAt Go.RowKit

theorem lent_bytes {w : World} {g len : Nat} {xs : List Nat} (h : Blk w g 5 (lentCells xs)) (hl : xs.length = len) (hx : ∀ x ∈ xs, x < 256) : BytesIn w (some ⟨g, 0, none⟩) len (len + 3) xs := by
  refine ⟨⟨hl, fun y hy => wf_u8_of (hx y hy), fun _ => ⟨g, 0, rfl, Blk.lt h, fun j n hn => ?_⟩⟩, fun e => by cases e⟩
  rw [Nat.zero_add]
  refine h.at j _ ?_
  have hj : j < xs.length := (List.getElem?_eq_some_iff.1 hn).1
  exact arr_at (xs ++ [201, 202, 203]) j n (by rw [List.getElem?_append_left hj]; exact hn)
theorem same_is {a b : Option Addr} {la lb ca cb : Nat} {xs ys : List Nat} {w : World} (v : Bool) (hv : decide (xs = ys) = v) (ha : IntsIn w .u8 a la xs) (hb : IntsIn w .u8 b lb ys) (hla : la ≤ 9223372036854775807) (hlb : lb ≤ 9223372036854775807) :
    Calls Try.prog 16 #[.slice a la ca, .slice b lb cb] w fun e w' => e = .returned (.bool v) ∧ ∃ n, w' = w.drewN n := by
  rw [← hv]
  exact same_any a b la lb ca cb xs ys w ha hb hla hlb
end Go.Proofs.Ytpeibkdcglkimaa

namespace Go.Proofs.Ytpeibkdcglkimaa
open Go.ChangeShapes Go.WideShapes Go.ChangeAt Go.RowKit

theorem exec_eqlv_16 {o : Oper} {a : Act} {w : World} (xs ys : List Nat) (v : Bool) (hv : decide (xs = ys) = v) (h1 : xs.length = 16) (h2 : ys.length = 16) (x y : Operand) (ho : o.op = .binOp .eql 44 x y 44) (hx : a.eval x = .agg (xs.map vb).toArray) (hy : a.eval y = .agg (ys.map vb).toArray) :
    (execOp a.eval o).run Try.prog w = .ok (.value (.bool v)) w := by
  rw [← hv]
  exact exec_eql_16 xs ys h1 h2 x y ho hx hy

end Go.Proofs.Ytpeibkdcglkimaa

namespace Go.Proofs.Ytpeibkdcglkimaa
open Go.ChangeShapes Go.WideShapes Go.ChangeAt Go.RowKit

theorem array_open {H : Type} {enc : TypeId × Value → H} {P : Program} {w : World} {base : Nat} {spare : Nat → Bool} {held : Bool} {r : Reach} {base' : Nat} {t e : TypeId} {n : Nat} {v : Value} {d : DataW H} {p : List MemPlace}
    (ht : P.underlying t = some (.array n e)) (he : P.underlying e = some (.int .u8)) (ce : P.cellsOf e = 1) (ct : P.cellsOf t = n) (hval : Value.okWide P w r base' t v) (h : DataW.Trod enc P w base spare held t v d p) :
    ∃ xs : List Nat, v = .agg (xs.map vb).toArray ∧ xs.length = n ∧ ∀ x ∈ xs, x < 256 := by
  have hv : ∃ cs, v = .agg cs ∧ cs.size = P.cellsOf t := by
    simp only [Value.okWide, ht] at hval
    obtain ⟨cs, h1, h2, _⟩ := hval
    exact ⟨cs, h1, h2⟩
  obtain ⟨cs, rfl, hcs⟩ := hv
  rw [ct] at hcs
  obtain ⟨fuel, h⟩ := h
  obtain ⟨ys, m, _, _, _, hyl, hat⟩ := DataW.trod_array ht h
  rw [ce] at hat
  have each : ∀ i : Nat, ∃ x : Nat, i < n → cs[i]? = some (vb x) ∧ x < 256 := by
    intro i
    by_cases hi : i < n
    · have h1 := hat i hi
      have hc : cs[i]? = some (cs[i]'(by omega)) := Array.getElem?_eq_getElem (by omega)
      have hd : ((Value.cells (.agg cs)).toList.drop (i * 1)).take 1 = [cs[i]'(by omega)] := by
        have : (Value.cells (.agg cs)) = cs := rfl
        rw [this, Nat.mul_one, List.drop_eq_getElem_cons (by simpa using by omega)]
        simp
      have h2 : DataW.trod enc P w base spare held m e [cs[i]'(by omega)] = some (ys[i]'(by omega)) := by
        rw [← hd, ← List.getElem?_eq_getElem (by omega : i < ys.length)]
        exact h1
      obtain ⟨z, hz, _, hw⟩ := DataW.trod_int he h2
      simp only [List.cons.injEq, and_true] at hz
      obtain ⟨b1, b2⟩ := bounds_u8 hw
      refine ⟨z.toNat, fun _ => ⟨?_, by omega⟩⟩
      rw [hc, hz]
      unfold vb
      rw [Int.toNat_of_nonneg b1]
    · exact ⟨0, fun h => absurd h hi⟩
  obtain ⟨X, hX⟩ := Classical.axiomOfChoice each
  refine ⟨(List.range n).map X, ?_, by simp, fun x hx => ?_⟩
  · congr 1
    apply Array.ext_getElem?
    intro i
    by_cases hi : i < n
    · rw [(hX i hi).1]
      simp [hi]
    · rw [Array.getElem?_eq_none (by omega), Array.getElem?_eq_none (by simp; omega)]
  · obtain ⟨i, hi, rfl⟩ := List.mem_map.1 hx
    exact (hX i (List.mem_range.1 hi)).2
end Go.Proofs.Ytpeibkdcglkimaa

namespace Go.Proofs.Ytpeibkdcglkimaa
open Go.ChangeShapes Go.WideShapes Go.ChangeAt Go.RowKit

def Three (W : World) (A : Nat) (xa xb xc : List Nat) : Prop := Blk W A 44 (xa.map vb).toArray ∧ Blk W (A + 1) 44 (xb.map vb).toArray ∧ Blk W (A + 1 + 1) 44 (xc.map vb).toArray
section
variable {W W' : World} {A : Nat} {xa xb xc : List Nat}
theorem Three.a (h : Three W A xa xb xc) : Blk W A 44 (xa.map vb).toArray := h.1
theorem Three.b (h : Three W A xa xb xc) : Blk W (A + 1) 44 (xb.map vb).toArray := h.2.1
theorem Three.c (h : Three W A xa xb xc) : Blk W (A + 1 + 1) 44 (xc.map vb).toArray := h.2.2
theorem Three.drew (h : Three W A xa xb xc) : Three W.drew A xa xb xc := ⟨h.1.drew, h.2.1.drew, h.2.2.drew⟩
theorem Three.below (h : Three W A xa xb xc) (hb : Below W.heap.size W W') : Three W' A xa xb xc := ⟨Blk.below h.1 hb (Blk.lt h.1), Blk.below h.2.1 hb (Blk.lt h.2.1), Blk.below h.2.2 hb (Blk.lt h.2.2)⟩
end
theorem exec_b0 {o : Oper} {a : Act} {w : World} (ho : o.op = .build 44 #[]) : (execOp a.eval o).run Try.prog w = .ok (.value (.agg ((List.replicate 16 0).map vb).toArray)) w := by
  unfold execOp
  simp only [ho]
  kernel_rfl
abbrev one16 : List Nat := [128, 0, 0, 0, 0, 0, 0, 0, 0, 0, 0, 0, 0, 0, 0, 0]
theorem exec_b128 {o : Oper} {a : Act} {w : World} (ho : o.op = .build 44 #[(0, .const (.int .u8 128))]) : (execOp a.eval o).run Try.prog w = .ok (.value (.agg (one16.map vb).toArray)) w := by
  unfold execOp
  simp only [ho]
  kernel_rfl
theorem ref_add_is {xa xb D : List Nat} (hD : xorB xa xb = D) (hla : xa.length = 16) (hlb : xb.length = 16) (hxa : ∀ x ∈ xa, x < 256) (hxb : ∀ x ∈ xb, x < 256) (w : World) :
    Calls Try.prog 51 #[.agg (xa.map vb).toArray, .agg (xb.map vb).toArray] w fun e w' => e = .returned (.agg (D.map vb).toArray) ∧ Below w.heap.size w w' := by
  rw [← hD]
  exact ref_add xa xb hla hlb hxa hxb w
theorem polB_one : polB one16 = 1 := by kernel_rfl
theorem polB_zero : polB (List.replicate 16 0) = 0 := by kernel_rfl
theorem zero_iff (xs : List Nat) (hl : xs.length = 16) (hx : ∀ x ∈ xs, x < 256) : xs = List.replicate 16 0 ↔ polB xs = 0 :=
  ⟨fun e => by rw [e, polB_zero], fun e => polB_inj _ _ hl hx rfl (fun x h => by rw [(List.mem_replicate.1 h).2]; omega) (by rw [e, polB_zero])⟩

end Go.Proofs.Ytpeibkdcglkimaa

namespace Go.Proofs.Ytpeibkdcglkimaa

def xorL (xs ys : List Nat) : List Nat := List.zipWith (· ^^^ ·) xs ys
theorem xorL_len (xs ys : List Nat) (h : xs.length = ys.length) : (xorL xs ys).length = xs.length := by unfold xorL; rw [List.length_zipWith]; omega
theorem xorL_lt (xs ys : List Nat) (hx : ∀ x ∈ xs, x < 256) (hy : ∀ x ∈ ys, x < 256) : ∀ x ∈ xorL xs ys, x < 256 := by
  intro x h
  obtain ⟨i, hi⟩ := List.mem_iff_getElem?.1 h
  unfold xorL at hi
  rw [List.getElem?_zipWith_eq_some] at hi
  obtain ⟨a, b, ha, hb, rfl⟩ := hi
  exact Nat.xor_lt_two_pow (n := 8) (hx _ (List.mem_of_getElem? ha)) (hy _ (List.mem_of_getElem? hb))
theorem xorB_xorL (xs ys : List Nat) (hlx : xs.length = 16) (hly : ys.length = 16) (hx : ∀ x ∈ xs, x < 256) (hy : ∀ x ∈ ys, x < 256) : xorB xs ys = xorL xs ys := by
  refine List.ext_getElem (by rw [xorB_len, xorL_len _ _ (by omega), hlx]) (fun j h1 h2 => ?_)
  have hj : j < 16 := by rw [xorB_len] at h1; exact h1
  have e := numOf_xor xs ys 16 hlx hly hx hy j (xs[j]'(by omega)) (ys[j]'(by omega)) (List.getElem?_eq_getElem _) (List.getElem?_eq_getElem _) rfl
  rw [List.getElem?_eq_getElem h1] at e
  injection e with e
  have e2 : (xorL xs ys)[j]? = some ((xs[j]'(by omega)) ^^^ (ys[j]'(by omega))) := by
    unfold xorL
    rw [List.getElem?_zipWith, List.getElem?_eq_getElem (by omega), List.getElem?_eq_getElem (by omega)]
  rw [List.getElem?_eq_getElem h2] at e2
  injection e2 with e2
  rw [e, e2]
theorem polB_xorL (xs ys : List Nat) (hlx : xs.length = 16) (hly : ys.length = 16) (hx : ∀ x ∈ xs, x < 256) (hy : ∀ x ∈ ys, x < 256) : polB (xorL xs ys) = polB xs ^^^ polB ys := by
  rw [← xorB_xorL xs ys hlx hly hx hy]
  exact polB_bytB _ (Nat.xor_lt_two_pow (polB_lt _) (polB_lt _))
theorem pad16_xorL (xs ys : List Nat) (h : xs.length = ys.length) : pad16 (xorL xs ys) = xorL (pad16 xs) (pad16 ys) := by
  unfold pad16
  rw [xorL_len xs ys h, ← h]
  unfold xorL
  rw [List.zipWith_append h, List.zipWith_replicate, Nat.min_self]
  rfl
theorem gstep_two (h y1 y2 : Nat) (b1 b2 : List Nat) (hh : h < 2 ^ 128) : gstep h y1 b1 ^^^ gstep h y2 b2 = Gh.mul h ((y1 ^^^ y2) ^^^ (polB b1 ^^^ polB b2)) := by
  unfold gstep
  rw [← Gh.mul_xor h _ _ hh]
  congr 1
  rw [Nat.xor_assoc, Nat.xor_assoc]
  congr 1
  rw [← Nat.xor_assoc, Nat.xor_comm (polB b1) y2, Nat.xor_assoc]
theorem gfold_adds (h : Nat) (hh : h < 2 ^ 128) (l : List Nat) : ∀ (n : Nat) (xs ys : List Nat) (y1 y2 y3 y4 : Nat), xs.length ≤ n → ys.length = xs.length → (∀ x ∈ xs, x < 256) → (∀ x ∈ ys, x < 256) → y1 ^^^ y2 = y3 ^^^ y4 →
    gfold h y1 (blocks xs ++ [l]) ^^^ gfold h y2 (blocks ys ++ [l]) = gfold h y3 (blocks (xorL xs ys) ++ [l]) ^^^ gfold h y4 (blocks (List.replicate xs.length 0) ++ [l]) := by
  have base : ∀ y1 y2 y3 y4, y1 ^^^ y2 = y3 ^^^ y4 → gfold h y1 ([] ++ [l]) ^^^ gfold h y2 ([] ++ [l]) = gfold h y3 ([] ++ [l]) ^^^ gfold h y4 ([] ++ [l]) := by
    intro y1 y2 y3 y4 e
    show gstep h y1 l ^^^ gstep h y2 l = gstep h y3 l ^^^ gstep h y4 l
    rw [gstep_two _ _ _ _ _ hh, gstep_two _ _ _ _ _ hh, e]
  intro n
  induction n with
  | zero =>
    intro xs ys y1 y2 y3 y4 h1 h2 _ _ e
    obtain rfl : xs = [] := List.eq_nil_of_length_eq_zero (by omega)
    obtain rfl : ys = [] := List.eq_nil_of_length_eq_zero (by rw [h2]; rfl)
    exact base y1 y2 y3 y4 e
  | succ n ih =>
    intro xs ys y1 y2 y3 y4 h1 h2 hx hy e
    by_cases h0 : xs = []
    · subst h0
      obtain rfl : ys = [] := List.eq_nil_of_length_eq_zero (by rw [h2]; rfl)
      exact base y1 y2 y3 y4 e
    · have hp : 0 < xs.length := List.length_pos_iff.2 h0
      have h0' : ys ≠ [] := List.length_pos_iff.1 (by omega)
      have hl := xorL_len xs ys h2.symm
      have h0z : xorL xs ys ≠ [] := List.length_pos_iff.1 (by omega)
      have h0t : List.replicate xs.length 0 ≠ [] := List.length_pos_iff.1 (by rw [List.length_replicate]; omega)
      rw [blocks_cons xs h0, blocks_cons ys h0', blocks_cons _ h0z, blocks_cons _ h0t, List.cons_append, List.cons_append, List.cons_append, List.cons_append]
      have hz1 : (xorL xs ys).drop 16 = xorL (xs.drop 16) (ys.drop 16) := by unfold xorL; rw [List.drop_zipWith]
      have hz2 : (xorL xs ys).take 16 = xorL (xs.take 16) (ys.take 16) := by unfold xorL; rw [List.take_zipWith]
      have ht1 : (List.replicate xs.length 0).drop 16 = List.replicate (xs.drop 16).length 0 := by rw [List.drop_replicate, List.length_drop]
      have ht2 : pad16 ((List.replicate xs.length 0).take 16) = List.replicate 16 0 := by
        unfold pad16
        rw [List.take_replicate, List.length_replicate, List.replicate_append_replicate]
        congr 1
        omega
      have hlt : (xs.take 16).length = (ys.take 16).length := by rw [List.length_take, List.length_take]; omega
      have hbx : ∀ x ∈ xs.take 16, x < 256 := fun x h => hx x (List.mem_of_mem_take h)
      have hby : ∀ x ∈ ys.take 16, x < 256 := fun x h => hy x (List.mem_of_mem_take h)
      have hl1 : (xs.take 16).length ≤ 16 := by rw [List.length_take]; omega
      have hl2 : (ys.take 16).length ≤ 16 := by rw [List.length_take]; omega
      have hpz : polB (pad16 ((xorL xs ys).take 16)) = polB (pad16 (xs.take 16)) ^^^ polB (pad16 (ys.take 16)) := by
        rw [hz2, pad16_xorL _ _ hlt, polB_xorL _ _ (pad16_len _ hl1) (pad16_len _ hl2) (pad16_lt _ hbx) (pad16_lt _ hby)]
      have e2 : gstep h y1 (pad16 (xs.take 16)) ^^^ gstep h y2 (pad16 (ys.take 16)) = gstep h y3 (pad16 ((xorL xs ys).take 16)) ^^^ gstep h y4 (pad16 ((List.replicate xs.length 0).take 16)) := by
        rw [gstep_two _ _ _ _ _ hh, gstep_two _ _ _ _ _ hh, e, hpz, ht2, polB_zero, Nat.xor_zero]
      have e3 := ih (xs.drop 16) (ys.drop 16) _ _ _ _ (by rw [List.length_drop]; omega) (by rw [List.length_drop, List.length_drop, h2]) (fun x h => hx x (List.mem_of_mem_drop h)) (fun x h => hy x (List.mem_of_mem_drop h)) e2
      rw [← hz1, ← ht1] at e3
      exact e3
/-- The law: the two sums' sum is the sum's and the blank's. -/
theorem gadds (h : Nat) (hh : h < 2 ^ 128) (xs ys : List Nat) (hl : ys.length = xs.length) (hx : ∀ x ∈ xs, x < 256) (hy : ∀ x ∈ ys, x < 256) :
    xorB (gsumB h [] xs) (gsumB h [] ys) = xorB (gsumB h [] (xorL xs ys)) (gsumB h [] (List.replicate xs.length 0)) := by
  have e := gfold_adds h hh (lastB 0 xs.length) xs.length xs ys 0 0 0 0 (Nat.le_refl _) hl hx hy rfl
  have f : ∀ zs : List Nat, zs.length = xs.length → polB (gsumB h [] zs) = gfold h 0 (blocks zs ++ [lastB 0 xs.length]) := fun zs hz => by
    unfold gsumB
    rw [polB_bytB _ (gfold_lt _ _ _ hh (by decide)), hz, blocks_nil, List.nil_append]
    rfl
  unfold xorB
  rw [f xs rfl, f ys hl, f _ (xorL_len xs ys hl.symm), f _ (List.length_replicate ..), e]
theorem xorB_self (xs : List Nat) : xorB xs xs = List.replicate 16 0 := by
  unfold xorB
  rw [Nat.xor_self]
  kernel_rfl
end Go.Proofs.Ytpeibkdcglkimaa

namespace Gcm
open Fld Aes
/-- The counter's block. -/
def cb (nonce : List Nat) (n : Nat) : List Nat := nonce ++ [wb n 0, wb n 1, wb n 2, wb n 3]
theorem cb_st {nonce : List Nat} (h : nonce.length = 12) (hx : ∀ x ∈ nonce, x < 256) (n : Nat) : St16 (cb nonce n) := ⟨by rw [cb, List.length_append, h]; rfl, fun x hm => by
  rcases List.mem_append.1 hm with hm | hm
  · exact hx x hm
  · simp only [List.mem_cons, List.not_mem_nil, or_false] at hm
    rcases hm with rfl | rfl | rfl | rfl <;> exact wb_lt _ _⟩
def ctr (W : List Nat) (R : Nat) (nonce : List Nat) (n : Nat) : List Nat := enc W R (cb nonce n)
theorem ctr_st (W : List Nat) (R : Nat) (nonce : List Nat) (n : Nat) : St16 (ctr W R nonce n) := enc_st _ _ _
/-- The first k bytes of a text, xor the stream. -/
def trn (W : List Nat) (R : Nat) (nonce p : List Nat) : Nat → List Nat
  | 0 => []
  | k + 1 => trn W R nonce p k ++ [p.getD k 0 ^^^ (ctr W R nonce (k / 16 + 2)).getD (k % 16) 0]
section
variable (W : List Nat) (R : Nat) (nonce p : List Nat)
theorem trn_len (k : Nat) : (trn W R nonce p k).length = k := by
  induction k with
  | zero => rfl
  | succ k ih => rw [trn, List.length_append, ih]; rfl
theorem trn_lt (hp : ∀ x ∈ p, x < 256) (k : Nat) : ∀ x ∈ trn W R nonce p k, x < 256 := by
  induction k with
  | zero => intro x hx; cases hx
  | succ k ih =>
    intro x hx
    rcases List.mem_append.1 hx with hx | hx
    · exact ih x hx
    · rw [List.mem_singleton.1 hx]
      exact xor_lt8 (getD_lt hp k) ((ctr_st W R nonce _).getD _)
theorem trn_at (k i : Nat) (h : i < k) : (trn W R nonce p k)[i]? = some (p.getD i 0 ^^^ (ctr W R nonce (i / 16 + 2)).getD (i % 16) 0) := by
  induction k with
  | zero => omega
  | succ k ih =>
    rw [trn]
    by_cases e : i < k
    · rw [List.getElem?_append_left (by rw [trn_len]; exact e)]
      exact ih e
    · obtain rfl : i = k := by omega
      rw [List.getElem?_append_right (by rw [trn_len]; omega), trn_len, Nat.sub_self]
      rfl
/-- A text, xor the stream. -/
def turned : List Nat := trn W R nonce p p.length
theorem turned_len : (turned W R nonce p).length = p.length := trn_len W R nonce p _
theorem turned_lt (hp : ∀ x ∈ p, x < 256) : ∀ x ∈ turned W R nonce p, x < 256 := trn_lt W R nonce p hp _
theorem turned_at (i : Nat) (h : i < p.length) : (turned W R nonce p)[i]? = some (p.getD i 0 ^^^ (ctr W R nonce (i / 16 + 2)).getD (i % 16) 0) := trn_at W R nonce p _ i h
theorem turned_turned : turned W R nonce (turned W R nonce p) = p := by
  apply List.ext_getElem?
  intro i
  by_cases h : i < p.length
  · rw [turned_at _ _ _ _ i (by rw [turned_len]; exact h), List.getD_eq_getElem?_getD, turned_at W R nonce p i h]
    show some (_ ^^^ _ ^^^ _) = _
    rw [xor_back, List.getD_eq_getElem?_getD, List.getElem?_eq_getElem h]
    rfl
  · rw [List.getElem?_eq_none (by rw [turned_len, turned_len]; omega), List.getElem?_eq_none (by omega)]
end
end Gcm
namespace Go.Proofs.Ytpeibkdcglkimaa
open Go.ChangeShapes Go.WideShapes Go.ChangeAt Go.RowKit Fld Aes Gcm
def tagL (W : List Nat) (R : Nat) (nonce : List Nat) (h : Nat) (aad text : List Nat) : List Nat := xorL (gsumB h aad text) (ctr W R nonce 1)
theorem gsumB_st (h : Nat) (aad text : List Nat) : St16 (gsumB h aad text) := ⟨bytB_len _, bytB_lt _⟩
theorem tagL_st (W : List Nat) (R : Nat) (nonce : List Nat) (h : Nat) (aad text : List Nat) : St16 (tagL W R nonce h aad text) :=
  ⟨by rw [tagL, xorL_len _ _ (by rw [(gsumB_st h aad text).1, (ctr_st W R nonce 1).1]), (gsumB_st h aad text).1], xorL_lt _ _ (gsumB_st h aad text).2 (ctr_st W R nonce 1).2⟩
theorem xorL_at {a b : List Nat} {i x y : Nat} (h1 : a[i]? = some x) (h2 : b[i]? = some y) : (xorL a b)[i]? = some (x ^^^ y) := by
  unfold xorL
  rw [List.getElem?_zipWith, h1, h2]
def sealL (W : List Nat) (R : Nat) (nonce : List Nat) (h : Nat) (aad p : List Nat) : List Nat := turned W R nonce p ++ tagL W R nonce h aad (turned W R nonce p)
theorem sealL_len (W : List Nat) (R : Nat) (nonce : List Nat) (h : Nat) (aad p : List Nat) : (sealL W R nonce h aad p).length = p.length + 16 := by rw [sealL, List.length_append, turned_len, (tagL_st W R nonce h aad _).1]
theorem sealL_lt (W : List Nat) (R : Nat) (nonce : List Nat) (h : Nat) (aad p : List Nat) (hp : ∀ x ∈ p, x < 256) : ∀ x ∈ sealL W R nonce h aad p, x < 256 := fun x hx => by
  rcases List.mem_append.1 hx with hx | hx
  · exact turned_lt W R nonce p hp x hx
  · exact (tagL_st W R nonce h aad _).2 x hx
/-- The box: a cipher and the key of the great field. -/
def GBox (w : World) (X : Nat) (W : List Nat) (R h : Nat) : Prop := ∃ C g, Blk w X 55 #[.pointer (some ⟨C, 0, none⟩), .pointer (some ⟨g, 0, none⟩)] ∧ CiphAt w C W R ∧ KeyAt w g h
theorem GBox.below {w w' : World} {X R h : Nat} {W : List Nat} (H : GBox w X W R h) (hb : Below w.heap.size w w') : GBox w' X W R h := by
  obtain ⟨C, g, h1, h2, h3⟩ := H
  exact ⟨C, g, h1.below hb h1.lt, h2.below hb, Blk.below h3 hb (Blk.lt h3)⟩
theorem exec_zb {o : Oper} {a : Act} {w : World} (ho : o.op = .build 44 #[]) : (execOp a.eval o).run Try.prog w = .ok (.value (.agg (z16n.map vb).toArray)) w := by
  unfold execOp
  simp only [ho]
  kernel_rfl
theorem z16n_st : St16 z16n := ⟨rfl, by decide⟩
def GNew (w : World) (key : List Nat) (e : Ending) (w' : World) : Prop :=
  ∃ X, e = .returned (.tuple #[.pointer (some ⟨X, 0, none⟩), .int .i64 0]) ∧ GBox w' X (expand key) (key.length / 4 + 6) (polB (enc (expand key) (key.length / 4 + 6) z16n)) ∧ Below w.heap.size w w' ∧ w.heap.size ≤ X
set_option maxRecDepth 100000 in
set_option maxHeartbeats 2000000 in
theorem gcmNew_any {L : Nat} (hL : L = 16 ∨ L = 32) {a : Option Addr} {cap : Nat} {key : List Nat} {w : World} (hx : BytesIn w a L cap key) :
    Calls Try.prog 9 #[.slice a L cap] w (GNew w key) := by
  have hkx : ∀ x ∈ key, x < 256 := fun x h => wf_u8_lt (hx.1.2.1 x h)
  have hl : key.length = L := hx.1.1
  have HK := Lib.hid (keyed_of hkx (by rw [hl]; exact hL))
  have HN := Lib.hid (new_good hL hx)
  obtain ⟨E, hE⟩ : ∃ E, E = enc (expand key) (key.length / 4 + 6) z16n := ⟨_, rfl⟩
  have HE := Lib.hid hE.symm
  have HEs := Lib.hid (show St16 E by rw [hE]; exact enc_st _ _ _)
  clear hkx hl hE
  go_enter Try.func9, Try.ntmps9
  go_wp2_with fail
  refine HN.out.mono ?_
  rintro e w1 ⟨C, rfl, hC, hb1⟩
  have HC := Lib.hid hC
  have Hn := Lib.hid hb1
  clear hC hb1 HN
  go_wp2_with (refine wpList_run _ (by rfl) (exec_zb rfl) ?_)
  refine (enc_call HC.out HK.out z16n_st HE.out).mono ?_
  rintro e w2 ⟨rfl, hb2⟩
  have HC2 := Lib.hid (HC.out.below hb2)
  have Hn2 := Lib.hid (nu_trans Hn.out hb2)
  clear hb2 HC Hn
  go_wp2_with fail
  refine (gh_new E HEs.out.1 HEs.out.2 w2).mono ?_
  rintro e w3 ⟨g, rfl, hg, hK, hb3⟩
  have hal := nu_alloc (nu_refl w3) (.cells #[.pointer (some ⟨C, 0, none⟩), .pointer (some ⟨g, 0, none⟩)] 55)
  have HB := Lib.hid (show GBox (w3.alloc (.cells #[.pointer (some ⟨C, 0, none⟩), .pointer (some ⟨g, 0, none⟩)] 55)) w3.heap.size (expand key) (key.length / 4 + 6) (polB E) from ⟨C, g, Blk.made w3 _ _, (HC2.out.below hb3).below hal, Blk.below hK hal (Blk.lt hK)⟩)
  have Hn3 := Lib.hid (nu_trans (nu_trans Hn2.out hb3) hal)
  have Hs := Lib.hid (show w.heap.size ≤ w3.heap.size from Nat.le_trans Hn2.out.size hb3.size)
  rw [← HE.out] at HB
  clear hK hb3 HC2 Hn2 hal
  go_wp2_with fail
  go_ret2
  exact ⟨_, rfl, HB.out, Hn3.out, Hs.out⟩
set_option maxRecDepth 100000 in
set_option maxHeartbeats 1000000 in
theorem gcmNew_bad (a : Option Addr) (L cap : Nat) (w : World) (h1 : L ≠ 16) (h2 : L ≠ 32) :
    Calls Try.prog 9 #[.slice a L cap] w fun e w' => e = .returned (.tuple #[.pointer none, .int .i64 1]) ∧ w = w' := by
  have HN := Lib.hid (aesNew_bad a L cap w h1 h2)
  go_enter Try.func9, Try.ntmps9
  go_wp2_with fail
  refine HN.out.mono ?_
  rintro e w1 ⟨rfl, rfl⟩
  go_wp2_with fail
  go_ret2
  exact ⟨rfl, rfl⟩
end Go.Proofs.Ytpeibkdcglkimaa

namespace Go.Proofs.Ytpeibkdcglkimaa
open Go.ChangeShapes Go.WideShapes Go.ChangeAt Go.RowKit Fld Aes Gcm
set_option linter.unusedSimpArgs false

structure GC (w : World) (X C g : Nat) (W : List Nat) (R B : Nat) (b : List Nat) : Prop where
  x : Blk w X 55 #[.pointer (some ⟨C, 0, none⟩), .pointer (some ⟨g, 0, none⟩)]
  c : CiphAt w C W R
  b : Blk w B 44 (b.map vb).toArray
theorem GC.below {w w' : World} {X C g R B : Nat} {W b : List Nat} (h : GC w X C g W R B b) (hb : Below w.heap.size w w') : GC w' X C g W R B b := ⟨h.x.below hb h.x.lt, h.c.below hb, h.b.below hb h.b.lt⟩
theorem GC.drew {w : World} {X C g R B : Nat} {W b : List Nat} (h : GC w X C g W R B b) : GC w.drew X C g W R B b := h.below (nu_drew (nu_refl w))
theorem e_cipher {o : Oper} {a : Act} {w : World} {g i : Nat} {v : Option Addr} (hc : w.cell? ⟨g, i, none⟩ = some (.pointer v)) (x : Operand) (ho : o.op = .load 48 x) (hx : a.eval x = .pointer (some ⟨g, i, none⟩)) :
    (execOp a.eval o).run Try.prog w = .ok (.value (.pointer v)) w := by
  unfold execOp
  simp only [ho, hx]
  go_simp
/-- Only the block k has turned, and it is none of theirs. -/
theorem CiphAt.off {w w' : World} {C R k : Nat} {W : List Nat} {cs : Array Value} {t : TypeId} (h : CiphAt w C W R) (hI : Blk w k t cs) (h1 : t ≠ 67) (h2 : t ≠ 71) (h3 : t ≠ 98) (hg : w.grownBy w' (some k)) : CiphAt w' C W R := by
  obtain ⟨x, m, c, cur, a1, a2, a3, ⟨bs, b1, b2⟩, a5, a6⟩ := h
  exact ⟨x, m, c, cur, a1.grown hg (fun e => a1.apart hI (Ne.symm h1) (by injection e)), a2.grown hg (fun e => a2.apart hI (Ne.symm h2) (by injection e)), a3, ⟨bs, b1.grown hg (fun e => b1.apart hI (Ne.symm h3) (by injection e)), b2⟩, Nat.lt_of_lt_of_le a5 hg.size, a6⟩
theorem GC.farCells {w : World} {X C g R B Z : Nat} {W b : List Nat} (h : GC w X C g W R B b) (vs : List Value) (hZ : ∃ cs, Z ≠ X ∧ Z ≠ B ∧ Blk w Z 44 cs) (o : Nat) : GC (w.setCells Z o vs) X C g W R B b := by
  obtain ⟨cs, h1, h2, h3⟩ := hZ
  exact ⟨h.x.farCells vs (Ne.symm h1) o, h.c.off h3 (by decide) (by decide) (by decide) (gb_fill vs o w (gb_refl w (some Z))), h.b.farCells vs (Ne.symm h2) o⟩
def cbF (nonce : List Nat) (n k : Nat) : List Nat := doneF (cb nonce n) (nonce ++ z4) (12 + k)
theorem cb_len {nonce : List Nat} (h : nonce.length = 12) (n : Nat) : (cb nonce n).length = 16 := by rw [cb, List.length_append, h]; rfl
theorem cb_at {nonce : List Nat} (h : nonce.length = 12) (n i : Nat) (hi : i < 4) : (cb nonce n)[12 + i]? = some (wb n i) := by
  rw [cb, List.getElem?_append_right (by omega), h, show 12 + i - 12 = i by omega]
  have : i = 0 ∨ i = 1 ∨ i = 2 ∨ i = 3 := by omega
  rcases this with rfl | rfl | rfl | rfl <;> rfl
theorem cbF_zero {nonce : List Nat} (h : nonce.length = 12) (n : Nat) : cbF nonce n 0 = nonce ++ z4 := by
  unfold cbF doneF cb
  rw [List.take_left' h, List.drop_left' h]
theorem cbF_four {nonce : List Nat} (h : nonce.length = 12) (n : Nat) : cbF nonce n 4 = cb nonce n := doneF_all _ _ 16 (cb_len h n) (by rw [List.length_append, h]; rfl)
theorem nz_len {nonce : List Nat} (h : nonce.length = 12) : (nonce ++ z4).length = 16 := by rw [List.length_append, h]; rfl

set_option maxRecDepth 100000 in
set_option maxHeartbeats 4000000 in
theorem counter_any {w : World} {X R h : Nat} {Ws : List Nat} (hG : GBox w X Ws R h) (hK : Keyed Ws R) (nonce : List Nat) (h12 : nonce.length = 12) (hx : ∀ x ∈ nonce, x < 256) (n : Nat) (hn : n < 4294967296) :
    Calls Try.prog 48 #[.pointer (some ⟨X, 0, none⟩), .agg (nonce.map vb).toArray, .int .u32 (n : Int)] w fun e w' => e = .returned (.agg ((ctr Ws R nonce n).map vb).toArray) ∧ Below w.heap.size w w' := by
  obtain ⟨C, g, hX, hC, hKA⟩ := hG
  have hXl := hX.lt
  have Hnl := Lib.hid h12
  have Hcs := Lib.hid (cb_st h12 hx n)
  have HK := Lib.hid hK
  have HG0 := Lib.hid (And.intro hX hC)
  have hal := nu_alloc (nu_alloc (nu_alloc (nu_refl w) (.cells (nonce.map vb).toArray 23)) (.cells (z16n.map vb).toArray 44)) (.cells (z16n.map vb).toArray 44)
  have HP := Lib.hid (((Blk.made w 23 (nonce.map vb).toArray).alloc (.cells (z16n.map vb).toArray 44)).alloc (.cells (z16n.map vb).toArray 44))
  have HZ := Lib.hid ((Blk.made1 w (.cells (nonce.map vb).toArray 23) 44 (z16n.map vb).toArray).alloc (.cells (z16n.map vb).toArray 44))
  have HB := Lib.hid (Blk.made2 w (.cells (nonce.map vb).toArray 23) (.cells (z16n.map vb).toArray 44) 44 (z16n.map vb).toArray)
  clear hX hC hKA h12 hx hK
  go_enter Try.func48, Try.ntmps48
  go_upto_region 2 with fail
  change Code.wp _ _ _ _ (((w.alloc (.cells (nonce.map vb).toArray 23)).alloc (.cells (z16n.map vb).toArray 44)).alloc (.cells (z16n.map vb).toArray 44))
  generalize ((w.alloc (.cells (nonce.map vb).toArray 23)).alloc (.cells (z16n.map vb).toArray 44)).alloc (.cells (z16n.map vb).toArray 44) = w1 at *
  obtain ⟨B, hB⟩ : ∃ B, B = w.heap.size + 1 + 1 := ⟨_, rfl⟩
  obtain ⟨Z, hZ⟩ : ∃ Z, Z = w.heap.size + 1 := ⟨_, rfl⟩
  obtain ⟨P, hP⟩ : ∃ P, P = w.heap.size := ⟨_, rfl⟩
  rw [← hB] at HB
  rw [← hZ] at HZ
  rw [← hP] at HP
  rw [← hB, ← hZ, ← hP]
  have Hap := Lib.hid (show P ≠ B ∧ Z ≠ B ∧ w.heap.size ≤ B ∧ w.heap.size ≤ Z ∧ X ≠ Z ∧ X ≠ B from ⟨by omega, by omega, by omega, by omega, by omega, by omega⟩)
  clear hB hZ hP
  obtain ⟨N, hN⟩ : ∃ N, N = nonce.map vb := ⟨_, rfl⟩
  have HNl := Lib.hid (show N.length = 12 by rw [hN, List.length_map, Hnl.out])
  rw [← hN] at HP
  have HP1 := Lib.hid (show ∀ v ∈ N, v.oneCell' = true by rw [hN]; exact vb_one _)
  have HNe := Lib.hid hN
  clear hN
  go_still_tail 2, (by kernel_rfl)
  change wpList _ _ _ _ _ w1.drew
  have HB2 := Lib.hid HB.out.drew
  have HP2 := Lib.hid HP.out.drew
  have HZ2 := Lib.hid HZ.out.drew
  have hn2 := nu_drew hal
  clear HB HP HZ hal
  generalize w1.drew = w2 at *
  go_upto_region 3 with (refine wpList_copy_blk rfl (.tmp 9) (.tmp 10) 22 22 rfl 5 Try.underlying22 (by kernel_rfl) (some ⟨B, 0, none⟩) (some ⟨P, 0, none⟩) 16 16 12 12 rfl rfl B 0 (z16n.map vb) 44 HB2.out N (by rw [HNl.out]; rfl) (fun _ => ⟨rfl, _, rfl, fun j v hv => by rw [Addr.add_lit, Nat.zero_add]; exact HP2.out.at j v (by simpa using hv)⟩) (by rw [HNl.out]; decide) HP1.out ?_)
  intro w3 HB3 hg3
  have HB4 := Lib.hid (show Blk w3 B 44 ((cbF nonce n 0).map vb).toArray from by
    have h : Blk w3 B 44 (splice (z16n.map vb) 0 N).toArray := HB3.out
    rw [cbF_zero Hnl.out, List.map_append, ← HNe.out]
    have e : splice (z16n.map vb) 0 N = N ++ z4.map vb := by
      unfold splice
      rw [Nat.zero_add, HNl.out]
      rfl
    rw [e] at h
    exact h)
  have HZ3 := Lib.hid (HZ2.out.grown hg3 (fun e => Hap.out.2.1 (by injection e)))
  have hn3 := nu_grown hn2 hg3 Hap.out.2.2.1
  have HG3 := Lib.hid (show GC w3 X C g Ws R B (cbF nonce n 0) from ⟨HG0.out.1.below hn3 hXl, HG0.out.2.below hn3, HB4.out⟩)
  clear HB2 HP2 HZ2 hn2 HB3 hg3 HB4 HP1
  go_wp2_with fail
  go_loopw [12] (fun i wr => ∃ k : Nat, k ≤ 4 ∧ i = .int .i64 k ∧ (Blk wr X 55 #[.pointer (some ⟨C, 0, none⟩), .pointer (some ⟨g, 0, none⟩)] ∧ CiphAt wr C Ws R) ∧ Blk wr B 44 ((cbF nonce n k).map vb).toArray ∧ Blk wr Z 44 (z16n.map vb).toArray ∧ Below w.heap.size w wr) (fun i _ => 4 - (intOf i).toNat)
  case atStart => exact ⟨0, by omega, rfl, ⟨HG3.out.x, HG3.out.c⟩, HG3.out.b, HZ3.out, hn3⟩
  case round =>
    clear HG3 HZ3 hn3
    obtain ⟨i, hi4, rfl, hGc, hB, hZ, hn'⟩ := hrel
    by_cases hilt : i < 4
    · have hii : (i : Int) < 4 := by omega
      obtain ⟨v, hv⟩ : ∃ v, v = wb n i := ⟨_, rfl⟩
      have Hv := Lib.hid hv
      have hold : (cbF nonce n i)[12 + i]? = some 0 := by
        unfold cbF
        rw [doneF_old _ _ 16 (12 + i) (12 + i) (cb_len Hnl.out n) (Nat.le_refl _) (by omega), List.getElem?_append_right (by rw [Hnl.out]; omega), Hnl.out, show 12 + i - 12 = i by omega]
        have : i = 0 ∨ i = 1 ∨ i = 2 ∨ i = 3 := by omega
        rcases this with rfl | rfl | rfl | rfl <;> rfl
      have cB : wr.cell? ⟨B, 12 + i, none⟩ = some (.int .u8 ((0 : Nat) : Int)) := hB.at (12 + i) _ (arrg_at vb _ (12 + i) 0 hold)
      have fB := hB.free (12 + i)
      have hset := hB.put (12 + i) (vb v)
      rw [arrg_set, show (cbF nonce n i).set (12 + i) v = cbF nonce n (i + 1) from doneF_set _ _ 16 (12 + i) v (cb_len Hnl.out n) (nz_len Hnl.out) (by omega) (by rw [hv]; exact cb_at Hnl.out n i hilt)] at hset
      have HB1 := Lib.hid hset
      have HG1 := Lib.hid (And.intro (hGc.1.far (p := ⟨B, 12 + i, none⟩) Hap.out.2.2.2.2.2 (vb v)) (hGc.2.off hB (by decide) (by decide) (by decide) (gb_set (gb_refl wr (some B)) (p := ⟨B, 12 + i, none⟩) (.inl rfl) (vb v))))
      have HZ1 := Lib.hid (hZ.far (p := ⟨B, 12 + i, none⟩) Hap.out.2.1 (vb v))
      have hn1 := nu_set hn' (p := ⟨B, 12 + i, none⟩) Hap.out.2.2.1 (vb v)
      simp only [vb] at HB1 HG1 HZ1 hn1
      clear hGc hB hZ hn'
      have Hi := Lib.hid (show i = 0 ∨ i = 1 ∨ i = 2 ∨ i = 3 by omega)
      rcases Hi.out with rfl | rfl | rfl | rfl
      · have ea : (n : Int) / 16777216 = (v : Int) := by have h := Hv.out; simp only [wb] at h; omega
        have ez : IntKind.u8.wrap ((n : Int) / 16777216) = (v : Int) := by have h := Hv.out; simp only [wb] at h; rw [IntKind.wrap_u8]; omega
        clear hv hold hset hi4
        go_wp2_with fail
        clear cB fB
        try rw [ea]
        clear ea ez
        generalize wr.setCell ⟨B, 12, none⟩ (.int .u8 (v : Int)) = w7 at *
        go_roundw
        case rel => first | exact ⟨1, by omega, by first | rfl | go_num, HG1.out, HB1.out, HZ1.out, hn1⟩ | ((repeat apply Exists.intro); exact ⟨⟨1, by omega, by first | rfl | go_num, HG1.out, HB1.out, HZ1.out, hn1⟩, rfl⟩)
        case measure => simp [intOf]
      · have ea : (n : Int) / 65536 % 256 = (v : Int) := by have h := Hv.out; simp only [wb] at h; omega
        have ez : IntKind.u8.wrap ((n : Int) / 65536) = (v : Int) := by have h := Hv.out; simp only [wb] at h; rw [IntKind.wrap_u8]; omega
        clear hv hold hset hi4
        go_wp2_with fail
        clear cB fB
        try rw [ea]
        clear ea ez
        generalize wr.setCell ⟨B, 13, none⟩ (.int .u8 (v : Int)) = w7 at *
        go_roundw
        case rel => first | exact ⟨2, by omega, by first | rfl | go_num, HG1.out, HB1.out, HZ1.out, hn1⟩ | ((repeat apply Exists.intro); exact ⟨⟨2, by omega, by first | rfl | go_num, HG1.out, HB1.out, HZ1.out, hn1⟩, rfl⟩)
        case measure => simp [intOf]
      · have ea : (n : Int) / 256 % 256 = (v : Int) := by have h := Hv.out; simp only [wb] at h; omega
        have ez : IntKind.u8.wrap ((n : Int) / 256) = (v : Int) := by have h := Hv.out; simp only [wb] at h; rw [IntKind.wrap_u8]; omega
        clear hv hold hset hi4
        go_wp2_with fail
        clear cB fB
        try rw [ea]
        clear ea ez
        generalize wr.setCell ⟨B, 14, none⟩ (.int .u8 (v : Int)) = w7 at *
        go_roundw
        case rel => first | exact ⟨3, by omega, by first | rfl | go_num, HG1.out, HB1.out, HZ1.out, hn1⟩ | ((repeat apply Exists.intro); exact ⟨⟨3, by omega, by first | rfl | go_num, HG1.out, HB1.out, HZ1.out, hn1⟩, rfl⟩)
        case measure => simp [intOf]
      · have ea : (n : Int) % 256 = (v : Int) := by have h := Hv.out; simp only [wb] at h; omega
        have ez : IntKind.u8.wrap ((n : Int)) = (v : Int) := by have h := Hv.out; simp only [wb] at h; rw [IntKind.wrap_u8]; omega
        clear hv hold hset hi4
        go_wp2_with fail
        clear cB fB
        try rw [ea]
        clear ea ez
        generalize wr.setCell ⟨B, 15, none⟩ (.int .u8 (v : Int)) = w7 at *
        go_roundw
        case rel => first | exact ⟨4, by omega, by first | rfl | go_num, HG1.out, HB1.out, HZ1.out, hn1⟩ | ((repeat apply Exists.intro); exact ⟨⟨4, by omega, by first | rfl | go_num, HG1.out, HB1.out, HZ1.out, hn1⟩, rfl⟩)
        case measure => simp [intOf]
    · obtain rfl : i = 4 := by omega
      obtain ⟨b, hbe⟩ : ∃ b, b = cb nonce n := ⟨_, rfl⟩
      have hBb := hB
      rw [cbF_four Hnl.out, ← hbe] at hBb
      have HS := Lib.hid (show GC wr X C g Ws R B b from ⟨hGc.1, hGc.2, hBb⟩)
      have Hbs := Lib.hid (show St16 b by rw [hbe]; exact Hcs.out)
      have Hb16 := Lib.hid Hbs.out.1
      have Hbe := Lib.hid hbe
      have HZ := Lib.hid hZ
      have hn := hn'
      clear hGc hB hBb hZ hbe hn'
      obtain ⟨wo, rfl⟩ : ∃ q : World, q = wr := ⟨_, rfl⟩
      go_upto_region 8 with fail
      refine wp_region_held_drew (S := fun W => GC W X C g Ws R B b) (by kernel_rfl) (HS.out.drew) (fun hHeld => ?_)
      dsimp only [Array.replicate, List.replicate, List.size_toArray, List.length_cons, List.length_nil, Nat.reduceAdd] at hHeld ⊢
      have HS1 := Lib.hid hHeld
      have HZ1 := Lib.hid HZ.out.drew
      have hn1 := nu_drew hn
      clear HS HZ hn
      generalize wo.drew = w1 at *
      refine take_l (i := 0) (v := ?_) rfl (by kernel_rfl) (by kernel_rfl) (by kernel_rfl) (fun _ _ _ h => h) (Or.inl ⟨by rfl, ?_⟩) (by assumption) ?_
      case refine_2 => (intro _ _; go_simp; all_goals with_reducible rfl)
      simp only [Act.put, List.setIfInBounds_toArray, List.set_cons_zero, List.set_cons_succ]
      refine take_l (i := 1) (v := ?_) rfl (by kernel_rfl) (by kernel_rfl) (by kernel_rfl) (fun _ _ _ h => h) (Or.inl ⟨by rfl, ?_⟩) (by assumption) ?_
      case refine_2 => (intro _ _; go_simp; all_goals with_reducible rfl)
      simp only [Act.put, List.setIfInBounds_toArray, List.set_cons_zero, List.set_cons_succ]
      refine take_l (i := 2) (v := ?_) rfl (by kernel_rfl) (by kernel_rfl) (by kernel_rfl) (fun _ _ _ h => h) (Or.inl ⟨by rfl, ?_⟩) (by assumption) ?_
      case refine_2 => (intro _ _; go_simp; all_goals with_reducible rfl)
      simp only [Act.put, List.setIfInBounds_toArray, List.set_cons_zero, List.set_cons_succ]
      refine take_l (i := 3) rfl (by kernel_rfl) (by kernel_rfl) (by kernel_rfl) (fun _ _ _ h => h) (Or.inl ⟨by rfl, fun W hS => e_cipher (hS.x.at 0 _ rfl) (.tmp 27) rfl rfl⟩) (by assumption) ?_
      simp only [Act.put, List.setIfInBounds_toArray, List.set_cons_zero, List.set_cons_succ]
      refine take_l (i := 4) rfl (by kernel_rfl) (by kernel_rfl) (by kernel_rfl) (fun _ _ _ h => h) (Or.inl ⟨by rfl, fun W hS => e16_load hS.b Hb16.out (.tmp 7) rfl rfl⟩) (by assumption) ?_
      simp only [Act.put, List.setIfInBounds_toArray, List.set_cons_zero, List.set_cons_succ]
      clear hHeld
      refine wpAnyH_ready (rs := [5]) (by kernel_rfl) (by simp) ?_
      refine cons_l rfl (fun K hK => ?_) AllReadyH.nil
      go_simp
      go_at_call 25
      refine (enc_call HS1.out.c HK.out Hbs.out rfl).mono ?_
      rintro e w2 ⟨rfl, hb2⟩
      have HS2 := Lib.hid (HS1.out.below hb2)
      have HZ2 := Lib.hid (HZ1.out.below hb2 HZ1.out.lt)
      have hn2 := nu_trans hn1 hb2
      clear hb2 HS1 HZ1 hn1
      obtain ⟨D, hD⟩ : ∃ D, D = enc Ws R b := ⟨_, rfl⟩
      rw [← hD]
      have HD := Lib.hid hD
      have HD16 := Lib.hid (show D.length = 16 by rw [hD]; exact (enc_st b Ws R).1)
      clear hD
      go_wp2_with fail
      refine hK.out _ _ HS2.out (fun hHeld => ?_)
      clear hK K hHeld
      simp only [Act.put, List.setIfInBounds_toArray, List.set_cons_zero, List.set_cons_succ]
      refine wpAnyH_ready (rs := [6]) (by kernel_rfl) (by simp) ?_
      refine cons_l rfl (fun K hK => ?_) AllReadyH.nil
      refine step_store_blk rfl 44 (.tmp 6) (.tmp 30) rfl Z (D.map vb) rfl rfl 44 (z16n.map vb).toArray HZ2.out (by rw [List.length_map, HD16.out]; rfl) (by rw [List.length_map, HD16.out]; kernel_rfl) (vb_one _) ?_
      have HS3 := Lib.hid (HS2.out.farCells (D.map vb) ⟨_, Ne.symm Hap.out.2.2.2.2.1, Hap.out.2.1, HZ2.out⟩ 0)
      have HF := Lib.hid (Blk.fill HZ2.out (D.map vb) (by rw [List.length_map, HD16.out]; rfl))
      have Hnf := Lib.hid (nu_fill (D.map vb) (g := Z) Hap.out.2.2.2.1 0 _ hn2)
      refine hK.out _ _ HS3.out (fun hHeld => ?_)
      clear hK K hHeld
      simp only [Act.put, List.setIfInBounds_toArray, List.set_cons_zero, List.set_cons_succ]
      refine wpAnyH_done (by kernel_rfl) ?_ _
      go_wp2_with fail
      refine bodyPost_ret (results_blk rfl _ Z 44 (D.map vb).toArray rfl HF.out Try.underlying44 (by rw [List.size_toArray, List.length_map, HD16.out]; kernel_rfl)) rfl ⟨by rw [HD.out, Hbe.out]; rfl, Hnf.out⟩
end Go.Proofs.Ytpeibkdcglkimaa

namespace Go.Proofs.Ytpeibkdcglkimaa
open Go.ChangeShapes Go.WideShapes Go.ChangeAt Go.RowKit Fld Aes Gcm
set_option linter.unusedSimpArgs false

theorem own_ne {w : World} {base S : Nat} {e t : TypeId} {size n : Nat} {v : Value} {xs : List Value} {cs : Array Value} (h : w.ownsRow base e size v n xs) (hS : Blk w S t cs) (ht : t ≠ e) : v.ownBlock ≠ some S := by
  rcases h.2 with ⟨rfl, _⟩ | ⟨g, cap, cur, rfl, _, hg, _⟩
  · intro e; cases e
  · intro e
    injection e with e
    exact Blk.apart hg hS (Ne.symm ht) e
theorem OwnB.off {w w' : World} {base S : Nat} {e t : TypeId} {v : Value} {xs : List Nat} {cs : Array Value} (h : OwnB w base e v xs) (hS : Blk w S t cs) (ht : t ≠ e) (hg : w.grownBy w' (some S)) : OwnB w' base e v xs :=
  ⟨h.1.kept hg (.inr (own_ne h.1 hS ht)), h.2⟩
/-- One byte more; only the row itself turns. -/
theorem wpList_byte_own {ops : Array Oper} {rest : List Oper} {o : Oper} {a : Act} {Q : Exit → Act → World → Prop} (hgd : o.guard = none) (s x : Operand)
    (ho : o.op = .call { callee := .builtin .append, args := #[s, x], argTypes := #[22, 22] }) {w : World} {base : Nat} {v : Value} {xs : List Nat} (hown : OwnB w base 5 v xs) (hb : base ≤ w.heap.size) (hl : xs.length < 140737488355328)
    (y : Int) (n : Nat) (hn : n < 256) (hy : y = (n : Int)) (hs : a.eval s = v) (hx : a.eval x = .slice (some ⟨w.heap.size, 0, none⟩) 1 1)
    (h : ∀ v' w', OwnB w' base 5 v' (xs ++ [n]) → (w.alloc (.cells #[.int .u8 y] 5)).grownBy w' v.ownBlock → wpList Try.prog ops Q rest (a.put o.dst v') w') : wpList Try.prog ops Q (o :: rest) a (w.alloc (.cells #[.int .u8 y] 5)) := by
  subst hy
  obtain ⟨i0, hi, hz0, hz1, hz2⟩ := info_parts info_u8
  have hal := nu_alloc (nu_refl w) (.cells #[.int .u8 (n : Int)] 5)
  refine wpList_append_own _ hgd s x 22 ho base 5 i0 (.int .u8 0) 1 1 Try.underlying22 hi hz0 hz1 hz2 rfl (by decide) v xs.length (xs.map vb) hs (ownB_under hown hal).1 ⟨w.heap.size, 0, none⟩ 1 1 [.int .u8 (n : Int)] hx rfl (cell_one_new _ _ _)
    (by intro u hu; obtain rfl := List.mem_singleton.1 hu; rfl) (by unfold maxLen; omega) (by omega) (by simp; omega) ?_
  intro v' w' h1 h2 _
  refine h v' w' ⟨by rw [List.length_append, List.map_append]; exact h1, fun z hz => ?_⟩ h2
  rcases List.mem_append.1 hz with hz | hz
  · exact hown.2 z hz
  · simp at hz
    omega
theorem e12_load {o : Oper} {a : Act} {w : World} {g : Nat} {t : TypeId} {xs : List Nat} (hb : Blk w g t (xs.map vb).toArray) (h1 : xs.length = 12) (x : Operand) (ho : o.op = .load 23 x) (hx : a.eval x = .pointer (some ⟨g, 0, none⟩)) :
    (execOp a.eval o).run Try.prog w = .ok (.value (.agg (xs.map vb).toArray)) w :=
  exec_load_mid (P := Try.prog) (w := w) 23 x g 0 (xs.map vb) (.array 12 5) ho hx (range_blk hb) (by kernel_rfl) rfl (by rw [List.length_map, h1]; kernel_rfl)

set_option maxRecDepth 100000 in
set_option maxHeartbeats 8000000 in
theorem turned_any {w : World} {X R h : Nat} {Ws : List Nat} (hG : GBox w X Ws R h) (hK : Keyed Ws R) (nonce : List Nat) (h12 : nonce.length = 12) (hx12 : ∀ x ∈ nonce, x < 256) (a : Option Addr) (len cap : Nat) (xs : List Nat) (hx : BytesIn w a len cap xs) (hlen : len ≤ 2000) :
    Calls Try.prog 28 #[.pointer (some ⟨X, 0, none⟩), .agg (nonce.map vb).toArray, .slice a len cap] w fun e w' => ∃ v, e = .returned v ∧ OwnB w' w.heap.size 5 v (turned Ws R nonce xs) ∧ Below w.heap.size w w' := by
  obtain ⟨Zz, hZz, hmk⟩ := mk_bytes 0 (len + 16) 0 ((len : Int) + 16) rfl (by omega) (by omega) (by omega)
  have Hl := Lib.hid (show xs.length = len from hx.1.1)
  have Hxx := Lib.hid (fun x h => wf_u8_lt (hx.1.2.1 x h))
  have Hx := Lib.hid hx
  have HG := Lib.hid hG
  have HK := Lib.hid hK
  have H12 := Lib.hid h12
  have Hx12 := Lib.hid hx12
  have hal1 := nu_alloc (nu_refl w) (.cells (nonce.map vb).toArray 23)
  have hP1 := Blk.made w 23 (nonce.map vb).toArray
  have HO := Lib.hid (World.ownsRow_made (base := w.heap.size + 1) (e := 5) (size := 1) (w.alloc (.cells (nonce.map vb).toArray 23)) Zz.toArray (len + 16) (by simp) (by unfold maxLen; omega) (by simpa using hZz))
  have hsz : (w.alloc (.cells (nonce.map vb).toArray 23)).heap.size = w.heap.size + 1 := by simp
  rw [hsz] at HO
  have hal := nu_alloc (nu_alloc hal1 (.cells Zz.toArray 5)) (.cells (z16n.map vb).toArray 44)
  have HP := Lib.hid ((hP1.alloc (.cells Zz.toArray 5)).alloc (.cells (z16n.map vb).toArray 44))
  have HS := Lib.hid (Blk.made2 w (.cells (nonce.map vb).toArray 23) (.cells Zz.toArray 5) 44 (z16n.map vb).toArray)
  have HO2 := Lib.hid (show OwnB (((w.alloc (.cells (nonce.map vb).toArray 23)).alloc (.cells Zz.toArray 5)).alloc (.cells (z16n.map vb).toArray 44)) (w.heap.size + 1) 5 (.slice (some ⟨w.heap.size + 1, 0, none⟩) 0 (len + 16)) (trn Ws R nonce xs 0) from ⟨HO.out.alloc _, fun x hx => by cases hx⟩)
  have hbs : w.heap.size + 1 ≤ (((w.alloc (.cells (nonce.map vb).toArray 23)).alloc (.cells Zz.toArray 5)).alloc (.cells (z16n.map vb).toArray 44)).heap.size := by simp
  clear hx hG hK h12 hx12 hZz hal1 hP1 HO hsz
  go_enter Try.func28, Try.ntmps28
  go_upto_region 3 with fail
  change Code.wp _ _ _ _ (((w.alloc (.cells (nonce.map vb).toArray 23)).alloc (.cells Zz.toArray 5)).alloc (.cells (z16n.map vb).toArray 44))
  clear hmk
  generalize ((w.alloc (.cells (nonce.map vb).toArray 23)).alloc (.cells Zz.toArray 5)).alloc (.cells (z16n.map vb).toArray 44) = w1 at *
  obtain ⟨S, hS⟩ : ∃ S, S = w.heap.size + 1 + 1 := ⟨_, rfl⟩
  obtain ⟨B0, hB0⟩ : ∃ B0, B0 = w.heap.size + 1 := ⟨_, rfl⟩
  obtain ⟨P, hP⟩ : ∃ P, P = w.heap.size := ⟨_, rfl⟩
  rw [← hS] at HS
  rw [← hB0] at HO2 hbs
  rw [← hP] at HP
  rw [← hS, ← hB0, ← hP]
  have Hap := Lib.hid (show P ≠ S ∧ w.heap.size ≤ S ∧ P < B0 ∧ w.heap.size ≤ B0 from ⟨by omega, by omega, by omega, by omega⟩)
  have Hbs := Lib.hid hbs
  clear hS hB0 hP hbs
  go_wp2_with fail
  go_loopw [7, 17] (fun s7 i wr => ∃ (k : Nat) (sl : List Nat) (v : Value), k ≤ len ∧ i = .int .i64 k ∧ v = s7 ∧ OwnB wr B0 5 v (trn Ws R nonce xs k) ∧ Blk wr S 44 (sl.map vb).toArray ∧ sl.length = 16 ∧ (k % 16 ≠ 0 → sl = ctr Ws R nonce (k / 16 + 2)) ∧ Blk wr P 23 (nonce.map vb).toArray ∧ Below w.heap.size w wr ∧ B0 ≤ wr.heap.size) (fun _ i _ => len - (intOf i).toNat)
  case atStart => exact ⟨0, z16n, _, by omega, rfl, rfl, HO2.out, HS.out, rfl, fun h => absurd rfl h, HP.out, hal, Hbs.out⟩
  case round =>
    clear HO2 HS HP hal Hbs
    obtain ⟨k, sl, v, hk, rfl, rfl, hO, hS, hsl, hse, hP, hn, hbs⟩ := hrel
    by_cases hlt : k < len
    · have hki : (k : Int) < (len : Int) := by omega
      obtain ⟨b1, o1, x, ha, _, hxk, _, hcx⟩ := (Hx.out.keep hn).1.elem k hlt
      subst ha
      have hx8 : x < 256 := Hxx.out x (List.mem_of_getElem? hxk)
      obtain ⟨q, hq⟩ : ∃ q, q = k / 16 := ⟨_, rfl⟩
      obtain ⟨r, hr⟩ : ∃ r, r = k % 16 := ⟨_, rfl⟩
      have ek : (k : Int) / 16 = (q : Int) := by omega
      have em : (k : Int) % 16 = (r : Int) := by omega
      have etq : Int.tdiv (k : Int) 16 = (q : Int) := by rw [Int.tdiv_eq_ediv_of_nonneg (by omega)]; omega
      have etr : Int.tmod (k : Int) 16 = (r : Int) := by rw [Int.tmod_eq_emod_of_nonneg (by omega)]; omega
      have wq : IntKind.i64.wrap (q : Int) = (q : Int) := by rw [IntKind.wrap_i64]; omega
      have wqu : IntKind.u32.wrap (q : Int) = (q : Int) := by rw [IntKind.wrap_u32]; omega
      obtain ⟨q2, hq2⟩ : ∃ q2, q2 = q + 2 := ⟨_, rfl⟩
      have wq2 : IntKind.u32.wrap ((q : Int) + 2) = (q2 : Int) := by rw [IntKind.wrap_u32]; omega
      have hq232 : q2 < 4294967296 := by omega
      have hri : (r : Int) < 16 := by omega
      obtain ⟨D, hD⟩ : ∃ D, D = ctr Ws R nonce q2 := ⟨_, rfl⟩
      have HD := Lib.hid (show St16 D by rw [hD]; exact ctr_st _ _ _ _)
      have HDe := Lib.hid (show D = ctr Ws R nonce (k / 16 + 2) by rw [hD, hq2, hq])
      have Hkq := Lib.hid (show 16 * q + r = k by omega)
      have Hq2 := Lib.hid (show k / 16 + 2 = q2 by omega)
      have HO := Lib.hid hO
      have HS := Lib.hid hS
      have HP := Lib.hid hP
      have Hsl := Lib.hid hsl
      have Hse := Lib.hid hse
      have Hbs := Lib.hid hbs
      have Hxk := Lib.hid hxk
      have HGr := Lib.hid (HG.out.below hn)
      clear hO hS hP hsl hse hbs hxk hq hq2 hr hD
      go_upto_if 24 with fail
      clear hcx
      go_cut [7] (fun s7 wx => s7 = v ∧ OwnB wx B0 5 v (trn Ws R nonce xs k) ∧ Blk wx S 44 (D.map vb).toArray ∧ Blk wx P 23 (nonce.map vb).toArray ∧ Below w.heap.size w wx ∧ B0 ≤ wx.heap.size)
      case first =>
        by_cases hr0 : r = 0
        · have hb : ((r : Int) == 0) = true := by rw [hr0]; rfl
          have hCt := counter_any HGr.out HK.out nonce H12.out Hx12.out q2 hq232
          have HCt := Lib.hid (show Calls Try.prog 48 #[.pointer (some ⟨X, 0, none⟩), .agg (nonce.map vb).toArray, .int .u32 (q2 : Int)] wr fun e w' => e = .returned (.agg (D.map vb).toArray) ∧ Below wr.heap.size wr w' from by
            rw [HDe.out, Hq2.out]
            exact hCt)
          clear hCt hr0
          obtain ⟨wo, rfl⟩ : ∃ q : World, q = wr := ⟨_, rfl⟩
          go_wp2_with (refine wpList_run _ (by rfl) (e12_load HP.out H12.out (.tmp 4) rfl rfl) ?_)
          refine HCt.out.mono ?_
          rintro e w3 ⟨rfl, hb3⟩
          have HS3 := Lib.hid (HS.out.below hb3 HS.out.lt)
          have HSf := Lib.hid (Blk.fill HS3.out (D.map vb) (by rw [List.length_map, HD.out.1, List.size_toArray, List.length_map, Hsl.out]))
          have HOf := Lib.hid ((ownB_under HO.out hb3).off HS3.out (by decide) (gb_fill (D.map vb) 0 w3 (gb_refl w3 (some S))))
          have HPf := Lib.hid ((HP.out.below hb3 HP.out.lt).farCells (D.map vb) Hap.out.1 0)
          have Hnf := Lib.hid (nu_fill (D.map vb) (g := S) Hap.out.2.1 0 _ (nu_trans hn hb3))
          have Hbf := Lib.hid (show B0 ≤ (w3.setCells S 0 (D.map vb)).heap.size from Nat.le_trans Hbs.out (Nat.le_trans hb3.size (gb_fill (D.map vb) 0 w3 (gb_refl w3 (some S))).size))
          clear hb3 hn HO HS HP
          go_wp2_with (refine wpList_store_blk rfl 44 (.tmp 8) (.tmp 31) rfl S (D.map vb) rfl rfl 44 (sl.map vb).toArray HS3.out (by rw [List.length_map, HD.out.1, List.size_toArray, List.length_map, Hsl.out]) (by rw [List.length_map, HD.out.1]; kernel_rfl) (vb_one _) ?_)
          go_meet
          exact ⟨rfl, HOf.out, HSf.out, HPf.out, Hnf.out, Hbf.out⟩
        · have hb : ((r : Int) == 0) = false := by rw [beq_eq_false_iff_ne]; omega
          have Hsd := Lib.hid (show sl = D by rw [HDe.out]; exact Hse.out (by have := Hkq.out; omega))
          clear hr0
          go_wp2_with fail
          go_meet
          exact ⟨rfl, HO.out, by rw [← Hsd.out]; exact HS.out, HP.out, hn, Hbs.out⟩
      case rest =>
        obtain ⟨rfl, hO, hS, hP, hn2, hbs⟩ := hcut
        clear HO HS HP Hbs HGr Hse hn
        have HO := Lib.hid hO
        have HP := Lib.hid hP
        have Hbs := Lib.hid hbs
        obtain ⟨c, hc⟩ : ∃ c, c = D.getD r 0 := ⟨_, rfl⟩
        have hc8 : c < 256 := by rw [hc]; exact HD.out.getD r
        have hcr : D[r]? = some c := by rw [hc, List.getD_eq_getElem?_getD, List.getElem?_eq_getElem (by rw [HD.out.1]; omega)]; rfl
        have cS : wc.cell? ⟨S, r, none⟩ = some (.int .u8 (c : Int)) := hS.at r _ (arrg_at vb _ r c hcr)
        obtain ⟨z, hz⟩ : ∃ z, z = x ^^^ c := ⟨_, rfl⟩
        have hxx := u8_xor_nat x c hx8 hc8
        rw [← hz] at hxx
        have hz8 : z < 256 := by rw [hz]; exact xor_lt8 hx8 hc8
        have Hnx := Lib.hid (show trn Ws R nonce xs (k + 1) = trn Ws R nonce xs k ++ [z] by
          rw [trn, ← HDe.out, show k % 16 = r by have := Hkq.out; omega, ← hc, List.getD_eq_getElem?_getD, Hxk.out, hz]
          rfl)
        have Hln := Lib.hid (show (trn Ws R nonce xs k).length < 140737488355328 by rw [trn_len]; omega)
        have HS := Lib.hid hS
        have Hz8 := Lib.hid hz8
        clear hO hS hP hbs hc hc8 hcr hz hz8
        obtain ⟨wo, rfl⟩ : ∃ q : World, q = wc := ⟨_, rfl⟩
        go_wp2_with (at_builtin; refine wpList_byte_own rfl (.tmp 32) (.tmp 39) rfl HO.out Hbs.out Hln.out _ z Hz8.out (by first | rfl | assumption) rfl rfl ?_)
        intro v' w5 hown5 hg5
        have hal := nu_alloc (nu_refl wo) (.cells #[.int .u8 (z : Int)] 5)
        have HS5 := Lib.hid ((HS.out.below hal HS.out.lt).grown hg5 (fun e => own_ne HO.out.1 HS.out (by decide) e.symm))
        have HP5 := Lib.hid ((HP.out.below hal HP.out.lt).grown hg5 (fun e => own_ne HO.out.1 HP.out (by decide) e.symm))
        have HO5 := Lib.hid (show OwnB w5 B0 5 v' (trn Ws R nonce xs (k + 1)) by rw [Hnx.out]; exact hown5)
        have Hn5 := Lib.hid (show Below w.heap.size w w5 from (nu_trans hn2 hal).grown hg5 (Nat.le_trans Hap.out.2.2.2 (Nat.le_trans Hbs.out hal.size)) (fun j hj => Nat.le_trans Hap.out.2.2.2 (HO.out.1.lt j hj).1))
        have Hb5 := Lib.hid (show B0 ≤ w5.heap.size from Nat.le_trans Hbs.out (Nat.le_trans hal.size hg5.size))
        have Hs5 := Lib.hid (show (k + 1) % 16 ≠ 0 → D = ctr Ws R nonce ((k + 1) / 16 + 2) from fun h => by rw [HDe.out, show (k + 1) / 16 = k / 16 by omega])
        clear hown5 hg5 hal HO HS HP Hbs hn2 cS hxx
        go_wp2_with fail
        go_roundw
        case rel => first | exact ⟨k + 1, D, _, by omega, by go_num, rfl, HO5.out, HS5.out, HD.out.1, Hs5.out, HP5.out, Hn5.out, Hb5.out⟩ | ((repeat apply Exists.intro); exact ⟨⟨k + 1, D, _, by omega, by go_num, rfl, HO5.out, HS5.out, HD.out.1, Hs5.out, HP5.out, Hn5.out, Hb5.out⟩, rfl⟩)
        case measure => simp [intOf]; omega
    · obtain rfl : k = len := by omega
      have HF := Lib.hid (show OwnB wr w.heap.size 5 v (turned Ws R nonce xs) by
        rw [turned, Hl.out]
        exact own_mono hO Hap.out.2.2.2)
      clear hO hS hse hP hsl
      go_wp2_with fail
      go_ret
      exact ⟨_, rfl, HF.out, hn⟩
end Go.Proofs.Ytpeibkdcglkimaa
