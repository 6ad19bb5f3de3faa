/-
  What the proof of GcmTurned rests on, part 6 of 10.
-/
import Derived.Test.YtpeibkdcglkimaaGcmTurnedB5
namespace Go.Proofs.Ytpeibkdcglkimaa
open Go.ChangeShapes Go.WideShapes Go.ChangeAt Go.RowKit

/-- The last block: the lengths in bits. -/
def lastB (n m : Nat) : List Nat := beL (8 * n) 8 8 ++ beL (8 * m) 8 8
def gsumB (h : Nat) (aad text : List Nat) : List Nat := bytB (gfold h 0 (blocks aad ++ blocks text ++ [lastB aad.length text.length]))
theorem lastB_len (n m : Nat) : (lastB n m).length = 16 := by unfold lastB; rw [List.length_append, beL_length, beL_length]
theorem lastB_lt (n m : Nat) : ∀ x ∈ lastB n m, x < 256 := by
  intro x hx
  rcases List.mem_append.1 hx with h | h
  · exact beL_lt _ _ _ x h
  · exact beL_lt _ _ _ x h
theorem blocks_one (xs : List Nat) (h : xs.length = 16) : blocks xs = [xs] := by
  rw [blocks_cons xs (fun e => by rw [e] at h; simp at h), List.take_of_length_le (by omega), List.drop_of_length_le (by omega), blocks_nil]
  unfold pad16
  rw [h]
  simp
theorem gfold_app (h y : Nat) (xs ys : List (List Nat)) : gfold h y (xs ++ ys) = gfold h (gfold h y xs) ys := List.foldl_append ..
theorem halfL_zero : halfL 0 = [.int .u64 0, .int .u64 0] := by unfold halfL; rw [Gh.hi_zero, Gh.lo_zero]; rfl

set_option maxRecDepth 100000 in
set_option maxHeartbeats 4000000 in
theorem gh_sum_g (g h : Nat) (a t : Option Addr) (la ca lt ct : Nat) (xs ys : List Nat) (w : World) (hK : KeyAt w g h) (hh : h < 2 ^ 128) (hx : BytesIn w a la ca xs) (hy : BytesIn w t lt ct ys) (hla : la ≤ 140737488355320) (hlt : lt ≤ 140737488355320) (hac : la ≤ ca ∧ ca ≤ maxLen) (htc : lt ≤ ct ∧ ct ≤ maxLen) :
    Calls Try.prog 49 #[.pointer (some ⟨g, 0, none⟩), .slice a la ca, .slice t lt ct] w fun e w' => e = .returned (.agg ((gsumB h xs ys).map vb).toArray) ∧ Below w.heap.size w w' := by
  have HX := Lib.hid hx
  have HY := Lib.hid hy
  have HK := Lib.hid hK
  have Hac := Lib.hid hac
  have Htc := Lib.hid htc
  have hal := nu_alloc (nu_alloc (nu_alloc (nu_refl w) (.cells #[.pointer (some ⟨g, 0, none⟩)] 51)) (.cells z16 44)) (.cells #[.int .u64 0, .int .u64 0] 79)
  have HV := Lib.hid (((Blk.made w 51 #[.pointer (some ⟨g, 0, none⟩)]).alloc (.cells z16 44)).alloc (.cells #[.int .u64 0, .int .u64 0] 79))
  have HR := Lib.hid ((Blk.made1 w (.cells #[.pointer (some ⟨g, 0, none⟩)] 51) 44 z16).alloc (.cells #[.int .u64 0, .int .u64 0] 79))
  have HZ := Lib.hid (Blk.made2 w (.cells #[.pointer (some ⟨g, 0, none⟩)] 51) (.cells z16 44) 79 #[.int .u64 0, .int .u64 0])
  clear hx hy hK
  go_enter Try.func49, Try.ntmps49
  go_upto_region 4 with fail
  generalize ((w.alloc (.cells #[.pointer (some ⟨g, 0, none⟩)] 51)).alloc (.cells z16 44)).alloc (.cells #[.int .u64 0, .int .u64 0] 79) = w1 at *
  obtain ⟨V, hV⟩ : ∃ V, V = w.heap.size := ⟨_, rfl⟩
  obtain ⟨R, hR⟩ : ∃ R, R = w.heap.size + 1 := ⟨_, rfl⟩
  obtain ⟨Y, hY⟩ : ∃ Y, Y = w.heap.size + 1 + 1 := ⟨_, rfl⟩
  rw [← hV] at HV
  rw [← hR] at HR
  rw [← hY] at HZ
  rw [← hY, ← hR, ← hV]
  have Hgl := Blk.lt HK.out
  have Hap := Lib.hid (show V ≠ Y ∧ g ≠ Y ∧ R ≠ Y ∧ w.heap.size ≤ R ∧ w.heap.size ≤ Y ∧ Y < w1.heap.size ∧ R < w1.heap.size from ⟨by omega, by omega, by omega, by omega, by omega, Blk.lt HZ.out, Blk.lt HR.out⟩)
  clear hV hR hY Hgl
  have hkc1 : w1.cell? ⟨V, 0, none⟩ = some (.pointer (some ⟨g, 0, none⟩)) := HV.out.at 0 _ rfl
  have hK1 : KeyAt w1 g h := Blk.below HK.out hal (Blk.lt HK.out)
  have hZ1 : Blk w1 Y 79 (halfL 0).toArray := by rw [halfL_zero]; exact HZ.out
  have far : ∀ {b : Option Addr} {l c : Nat} {zs : List Nat}, BytesIn w b l c zs → 0 < l → ∀ ad, b = some ad → ad.block ≠ Y := fun hb hp ad had => by
    have h1 := bytes_blk_lt hb hp ad had
    have h2 := Hap.out.2.2.2.2.1
    omega
  have Hfar := Lib.hid (And.intro (far HX.out) (far HY.out))
  have HW1 := Lib.hid (gh_take V Y g h a la ca xs 0 w1 hkc1 hK1 hh hZ1 (by decide) (HX.out.keep hal) Hac.out.1 Hac.out.2 Hfar.out.1 Hap.out.1 Hap.out.2.1)
  clear far hZ1 HZ HV
  go_wp2_with fail
  refine HW1.out.mono ?_
  rintro e w2 ⟨rfl, hY2, hg2⟩
  obtain ⟨y2, hy2⟩ : ∃ y2, y2 = gfold h 0 (blocks xs) := ⟨_, rfl⟩
  rw [← hy2] at hY2
  have hyl2 : y2 < 2 ^ 128 := by rw [hy2]; exact gfold_lt h 0 _ hh (by decide)
  have hn2 := nu_grown hal hg2 Hap.out.2.2.2.2.1
  have hV1l := World.block_lt_of_cell? _ _ hkc1
  have hkc2 : w2.cell? ⟨V, 0, none⟩ = some (.pointer (some ⟨g, 0, none⟩)) := (World.cell?_of_block (a := ⟨V, 0, none⟩) (hg2.block V hV1l (fun e => Hap.out.1 (by injection e)))).trans hkc1
  have hK2 : KeyAt w2 g h := Blk.grown hK1 hg2 (fun e => Hap.out.2.1 (by injection e))
  have HR2 := Lib.hid (Blk.grown HR.out hg2 (fun e => Hap.out.2.2.1 (by injection e)))
  have HW2 := Lib.hid (gh_take V Y g h t lt ct ys y2 w2 hkc2 hK2 hh hY2 hyl2 (HY.out.keep hn2) Htc.out.1 Htc.out.2 Hfar.out.2 Hap.out.1 Hap.out.2.1)
  clear HW1 hal hY2 hkc1 hK1 hg2 HR hV1l
  go_wp2_with fail
  refine HW2.out.mono ?_
  rintro e w3 ⟨rfl, hY3, hg3⟩
  obtain ⟨y3, hy3⟩ : ∃ y3, y3 = gfold h y2 (blocks ys) := ⟨_, rfl⟩
  rw [← hy3] at hY3
  have hyl3 : y3 < 2 ^ 128 := by rw [hy3]; exact gfold_lt h y2 _ hh hyl2
  have hn3 := nu_grown hn2 hg3 Hap.out.2.2.2.2.1
  have hV1l := World.block_lt_of_cell? _ _ hkc2
  have hkc3 : w3.cell? ⟨V, 0, none⟩ = some (.pointer (some ⟨g, 0, none⟩)) := (World.cell?_of_block (a := ⟨V, 0, none⟩) (hg3.block V hV1l (fun e => Hap.out.1 (by injection e)))).trans hkc2
  have hK3 : KeyAt w3 g h := Blk.grown hK2 hg3 (fun e => Hap.out.2.1 (by injection e))
  have HR3 := Lib.hid (Blk.grown HR2.out hg3 (fun e => Hap.out.2.2.1 (by injection e)))
  have HF := Lib.hid (show gsumB h xs ys = bytB (gfold h y3 (blocks (lastB la lt))) by
    rw [blocks_one _ (lastB_len _ _), gsumB, gfold_app, gfold_app, ← hy2, ← hy3, HX.out.1.1, HY.out.1.1])
  have Hall3 := Lib.hid (show Blk w3 Y 79 (halfL y3).toArray ∧ y3 < 2 ^ 128 ∧ w3.cell? ⟨V, 0, none⟩ = some (.pointer (some ⟨g, 0, none⟩)) ∧ KeyAt w3 g h from ⟨hY3, hyl3, hkc3, hK3⟩)
  have Hs3 := Lib.hid (show Y < w3.heap.size from Blk.lt hY3)
  clear HW2 hn2 hY3 hkc2 hK2 hg3 HR2 hV1l hy2 hy3 hyl2 hyl3 hkc3 hK3 y2
  have wa : IntKind.u64.wrap (la : Int) = (la : Int) := by rw [IntKind.wrap_u64]; omega
  have wt : IntKind.u64.wrap (lt : Int) = (lt : Int) := by rw [IntKind.wrap_u64]; omega
  go_wp2_with fail
  refine (put_at none 0 0 [] (8 * la) 8 (8 * (la : Int)) 8 w3 (BytesIn.nil_ w3) (by omega) (by unfold putOk; omega) (by omega) (by omega) rfl).mono ?_
  rintro e w4 ⟨v4, rfl, hO4, hb4⟩
  rw [List.nil_append] at hO4
  have hn4 := nu_trans hn3 hb4
  obtain ⟨a4, k4, rfl, _, _, hby4⟩ := hO4.reads
  rw [beL_length] at hby4 ⊢
  have HB4 := Lib.hid hby4
  have HR4 := Lib.hid (Blk.below HR3.out hb4 (Blk.lt HR3.out))
  have hb4' := hb4
  clear hO4 hby4 HR3 hn3
  go_wp2_with fail
  refine (put_at a4 8 k4 (beL (8 * la) 8 8) (8 * lt) 8 (8 * (lt : Int)) 8 w4 HB4.out (by omega) (by unfold putOk; omega) (by omega) (by omega) rfl).mono ?_
  rintro e w5 ⟨v5, rfl, hO5, hb5⟩
  have hn5 := nu_trans hn4 hb5
  have h35 := nu_trans hb4 hb5
  have hO5' : OwnB w5 w4.heap.size 5 v5 (lastB la lt) := hO5
  obtain ⟨a5, k5, rfl, hk5, hkm5, hby5, hlo5⟩ := hO5'.lies
  rw [lastB_len] at hk5 hby5 ⊢
  have HR5 := Lib.hid (Blk.below HR4.out hb5 (Blk.lt HR4.out))
  have hY5 := Blk.below Hall3.out.1 h35 (Blk.lt Hall3.out.1)
  have hkc5 : w5.cell? ⟨V, 0, none⟩ = some (.pointer (some ⟨g, 0, none⟩)) := (h35.cell (p := ⟨V, 0, none⟩) (World.block_lt_of_cell? _ _ Hall3.out.2.2.1)).trans Hall3.out.2.2.1
  have hK5 : KeyAt w5 g h := Blk.below Hall3.out.2.2.2 h35 (Blk.lt Hall3.out.2.2.2)
  have HW5 := Lib.hid (gh_take V Y g h a5 16 k5 (lastB la lt) y3 w5 hkc5 hK5 hh hY5 Hall3.out.2.1 hby5 hk5 hkm5 (fun _ ad had => by have h1 := (hlo5 ad had).1; have h2 := Hs3.out; have h3 := hb4.size; omega) Hap.out.1 Hap.out.2.1)
  have Hn5 := Lib.hid hn5
  clear hO5 hO5' hby5 hlo5 hY5 hkc5 hK5 hb4 hb4' hb5 h35 hn4 hn5 HB4 HR4
  go_wp2_with fail
  refine HW5.out.mono ?_
  rintro e w6 ⟨rfl, hY6, hg6⟩
  obtain ⟨y6, hy6⟩ : ∃ y6, y6 = gfold h y3 (blocks (lastB la lt)) := ⟨_, rfl⟩
  rw [← hy6] at hY6 HF
  have hn6 := nu_grown Hn5.out hg6 Hap.out.2.2.2.2.1
  have HR6 := Lib.hid (Blk.grown HR5.out hg6 (fun e => Hap.out.2.2.1 (by injection e)))
  obtain ⟨a0, ha0⟩ : ∃ a : Int, a = (Gh.hi y6 : Int) := ⟨_, rfl⟩
  obtain ⟨b0, hb0⟩ : ∃ b : Int, b = (Gh.lo y6 : Int) := ⟨_, rfl⟩
  have hh2 : halfL y6 = [.int .u64 a0, .int .u64 b0] := by unfold halfL; rw [ha0, hb0]
  have HBy := Lib.hid (gh_bytes y6 w6)
  rw [hh2] at hY6 HBy
  have c0 : w6.cell? ⟨Y, 0, none⟩ = some (.int .u64 a0) := hY6.at 0 _ rfl
  have c1 : w6.cell? ⟨Y, 1, none⟩ = some (.int .u64 b0) := hY6.at 1 _ rfl
  clear hy6 ha0 hb0 hh2 HW5 hg6 HR5 Hn5 hY6
  go_wp2_with fail
  refine HBy.out.mono ?_
  rintro e w7 ⟨rfl, hb7⟩
  have hn7 := nu_trans hn6 hb7
  have HR7 := Lib.hid (Blk.below HR6.out hb7 (Blk.lt HR6.out))
  obtain ⟨D, hD⟩ : ∃ D, D = (bytB y6).map vb := ⟨_, rfl⟩
  rw [← hD]
  have HDl := Lib.hid (show D.length = z16.size by rw [hD, List.length_map, bytB_len]; rfl)
  have HszD := Lib.hid (show (Try.prog.info? 44).map (·.size) = some D.toArray.size by rw [List.size_toArray, hD, List.length_map, bytB_len]; kernel_rfl)
  have H1 := Lib.hid (show ∀ u ∈ D, u.oneCell' = true by rw [hD]; exact vb_one _)
  have HDe := Lib.hid hD
  have HFl := Lib.hid (Blk.fill HR7.out D HDl.out)
  have Hnf := Lib.hid (nu_fill D (g := R) Hap.out.2.2.2.1 0 _ hn7)
  clear hD hn7 hn6 hb7 HBy c0 c1 HR6
  go_wp2_with (refine wpList_store_blk rfl 44 (.tmp 6) (.tmp 42) rfl R D rfl rfl 44 z16 HR7.out HDl.out (by have h := HszD.out; rwa [List.size_toArray] at h) H1.out ?_)
  refine bodyPost_ret (results_blk rfl _ R 44 D.toArray rfl HFl.out Try.underlying44 HszD.out) rfl ⟨by rw [HDe.out, HF.out], Hnf.out⟩
theorem gh_sum (g h : Nat) (a t : Option Addr) (la ca lt ct : Nat) (xs ys : List Nat) (w : World) (hK : KeyAt w g h) (hh : h < 2 ^ 128) (hx : BytesIn w a la ca xs) (hy : BytesIn w t lt ct ys) (hac : la ≤ ca ∧ ca ≤ 140737488355320) (htc : lt ≤ ct ∧ ct ≤ 140737488355320) :
    Calls Try.prog 49 #[.pointer (some ⟨g, 0, none⟩), .slice a la ca, .slice t lt ct] w fun e w' => e = .returned (.agg ((gsumB h xs ys).map vb).toArray) ∧ Below w.heap.size w w' :=
  gh_sum_g g h a t la ca lt ct xs ys w hK hh hx hy (by omega) (by omega) ⟨hac.1, by unfold maxLen; omega⟩ ⟨htc.1, by unfold maxLen; omega⟩
theorem gh_sum_isg {g h : Nat} {a t : Option Addr} {la ca lt ct : Nat} {xs ys D : List Nat} {w : World} (hD : gsumB h xs ys = D) (hK : KeyAt w g h) (hh : h < 2 ^ 128) (hx : BytesIn w a la ca xs) (hy : BytesIn w t lt ct ys) (hla : la ≤ 140737488355320) (hlt : lt ≤ 140737488355320) (hac : la ≤ ca ∧ ca ≤ maxLen) (htc : lt ≤ ct ∧ ct ≤ maxLen) :
    Calls Try.prog 49 #[.pointer (some ⟨g, 0, none⟩), .slice a la ca, .slice t lt ct] w fun e w' => e = .returned (.agg (D.map vb).toArray) ∧ Below w.heap.size w w' := by
  rw [← hD]
  exact gh_sum_g g h a t la ca lt ct xs ys w hK hh hx hy hla hlt hac htc
theorem gh_sum_is {g h : Nat} {a t : Option Addr} {la ca lt ct : Nat} {xs ys D : List Nat} {w : World} (hD : gsumB h xs ys = D) (hK : KeyAt w g h) (hh : h < 2 ^ 128) (hx : BytesIn w a la ca xs) (hy : BytesIn w t lt ct ys) (hac : la ≤ ca ∧ ca ≤ 140737488355320) (htc : lt ≤ ct ∧ ct ≤ 140737488355320) :
    Calls Try.prog 49 #[.pointer (some ⟨g, 0, none⟩), .slice a la ca, .slice t lt ct] w fun e w' => e = .returned (.agg (D.map vb).toArray) ∧ Below w.heap.size w w' := by
  rw [← hD]
  exact gh_sum g h a t la ca lt ct xs ys w hK hh hx hy hac htc
end Go.Proofs.Ytpeibkdcglkimaa

namespace Go.Proofs.Ytpeibkdcglkimaa
open Go.ChangeShapes Go.WideShapes Go.ChangeAt Go.RowKit

section
variable {o : Oper} {a : Act} {w : World}
theorem exec_eql_16 (xs ys : List Nat) (h1 : xs.length = 16) (h2 : ys.length = 16) (x y : Operand) (ho : o.op = .binOp .eql 44 x y 44) (hx : a.eval x = .agg (xs.map vb).toArray) (hy : a.eval y = .agg (ys.map vb).toArray) :
    (execOp a.eval o).run Try.prog w = .ok (.value (.bool (decide (xs = ys)))) w := by
  have he := run_equalIn_bytes' (P := Try.prog) w (t := 44) (e := 5) (n := 16) (i := (Try.prog.info? 5).get!) (k := .u8) 9998 (by kernel_rfl) (by kernel_rfl) (by kernel_rfl) (by kernel_rfl) (by kernel_rfl) xs ys h1 h2
  unfold execOp
  simp only [ho, hx, hy]
  simp [run_eqGuard_agg (P := Try.prog) w .eql 44 x y (xs.map vb).toArray (ys.map vb).toArray (by kernel_rfl), run_eql_struct, he]
theorem exec_neq_16 (xs ys : List Nat) (h1 : xs.length = 16) (h2 : ys.length = 16) (x y : Operand) (ho : o.op = .binOp .neq 44 x y 44) (hx : a.eval x = .agg (xs.map vb).toArray) (hy : a.eval y = .agg (ys.map vb).toArray) :
    (execOp a.eval o).run Try.prog w = .ok (.value (.bool (!decide (xs = ys)))) w := by
  have he := run_equalIn_bytes' (P := Try.prog) w (t := 44) (e := 5) (n := 16) (i := (Try.prog.info? 5).get!) (k := .u8) 9998 (by kernel_rfl) (by kernel_rfl) (by kernel_rfl) (by kernel_rfl) (by kernel_rfl) xs ys h1 h2
  unfold execOp
  simp only [ho, hx, hy]
  simp [run_eqGuard_agg (P := Try.prog) w .neq 44 x y (xs.map vb).toArray (ys.map vb).toArray (by kernel_rfl), run_neq_struct, he]
theorem exec_same_16 (xs : List Nat) (h1 : xs.length = 16) (x y : Operand) (ho : o.op = .binOp .eql 44 x y 44) (hx : a.eval x = .agg (xs.map vb).toArray) (hy : a.eval y = .agg (xs.map vb).toArray) :
    (execOp a.eval o).run Try.prog w = .ok (.value (.bool true)) w := by
  have h := exec_eql_16 (w := w) xs xs h1 h1 x y ho hx hy
  rw [decide_eq_true rfl] at h
  exact h
theorem exec_nsame_16 (xs : List Nat) (h1 : xs.length = 16) (x y : Operand) (ho : o.op = .binOp .neq 44 x y 44) (hx : a.eval x = .agg (xs.map vb).toArray) (hy : a.eval y = .agg (xs.map vb).toArray) :
    (execOp a.eval o).run Try.prog w = .ok (.value (.bool false)) w := by
  have h := exec_neq_16 (w := w) xs xs h1 h1 x y ho hx hy
  rw [decide_eq_true rfl] at h
  exact h
end
theorem awk_prod : bytB (Gh.mul (polB [5, 0, 0, 0, 0, 0, 0, 0, 0, 0, 0, 0, 0, 0, 0, 7]) (polB [128, 0, 0, 0, 0, 0, 0, 0, 0, 0, 0, 0, 0, 0, 0, 0])) = [5, 0, 0, 0, 0, 0, 0, 0, 0, 0, 0, 0, 0, 0, 0, 7] := by kernel_rfl
theorem awk_sum : gsumB (polB [128, 0, 0, 0, 0, 0, 0, 0, 0, 0, 0, 0, 0, 0, 0, 0]) [9] [] = [9, 0, 0, 0, 0, 0, 0, 8, 0, 0, 0, 0, 0, 0, 0, 0] := by kernel_rfl
theorem bytes_new (w : World) (xs : List Nat) (hx : ∀ x ∈ xs, x < 256) (cs : Array Value) (hc : cs = (xs.map vb).toArray) : BytesIn (w.alloc (.cells cs 5)) (some ⟨w.heap.size, 0, none⟩) xs.length xs.length xs := by
  subst hc
  exact blk_bytes (Blk.made w 5 _) rfl hx

end Go.Proofs.Ytpeibkdcglkimaa

namespace Go.Proofs.Ytpeibkdcglkimaa
open Go.ChangeShapes Go.WideShapes Go.ChangeAt Go.RowKit

set_option maxRecDepth 100000 in
set_option maxHeartbeats 1000000 in
theorem gh_nil (a t : Option Addr) (la ca lt ct : Nat) (w : World) :
    Calls Try.prog 49 #[.pointer none, .slice a la ca, .slice t lt ct] w fun e w' => e = .returned (.agg z16l.toArray) ∧ Below w.heap.size w w' := by
  have hn := nu_alloc (nu_alloc (nu_refl w) (.cells #[.pointer none] 51)) (.cells z16l.toArray 44)
  have HR := Lib.hid (Blk.made1 w (.cells #[.pointer none] 51) 44 z16l.toArray)
  go_enter Try.func49, Try.ntmps49
  go_upto_region 2 with fail
  have Hn := Lib.hid hn
  clear hn
  generalize (w.alloc (.cells #[.pointer none] 51)).alloc (.cells z16l.toArray 44) = w1 at *
  have HFl := Lib.hid (Blk.fill HR.out z16l rfl)
  have Hnf := Lib.hid (nu_fill z16l (g := w.heap.size + 1) (by omega) 0 _ Hn.out)
  go_wp2_with (refine wpList_store_blk rfl 44 (.tmp 6) (.tmp 13) rfl (w.heap.size + 1) z16l rfl rfl 44 z16l.toArray HR.out rfl (by kernel_rfl) (by decide) ?_)
  exact bodyPost_ret (results_blk rfl _ (w.heap.size + 1) 44 z16l.toArray rfl HFl.out Try.underlying44 (by kernel_rfl)) rfl ⟨rfl, Hnf.out⟩

abbrev kn_h : List Nat := [102, 233, 75, 212, 239, 138, 44, 59, 136, 76, 250, 89, 202, 52, 43, 46]
abbrev kn_c : List Nat := [3, 136, 218, 206, 96, 182, 163, 146, 243, 40, 194, 185, 113, 178, 254, 120]
abbrev kn_d : List Nat := [243, 140, 187, 26, 214, 146, 35, 220, 195, 69, 122, 229, 182, 176, 248, 133]
theorem kn_sum : gsumB (polB kn_h) [] kn_c = kn_d := by kernel_rfl
theorem kn_nilsum : gsumB (polB kn_h) [] [] = List.replicate 16 0 := by kernel_rfl

end Go.Proofs.Ytpeibkdcglkimaa

namespace Go.Proofs.Ytpeibkdcglkimaa

theorem xcl (a b c : Nat) (e : a ^^^ b = a ^^^ c) : b = c := by
  have h := congrArg (a ^^^ ·) e
  simp only [← Nat.xor_assoc, Nat.xor_self, Nat.zero_xor] at h
  exact h
theorem xcr (a b c : Nat) (e : b ^^^ a = c ^^^ a) : b = c := xcl a b c (by rw [Nat.xor_comm a b, e, Nat.xor_comm])
theorem gmul_inj (h u v : Nat) (hh : h < 2 ^ 128) (h0 : h ≠ 0) (hu : u < 2 ^ 128) (hv : v < 2 ^ 128) (e : Gh.mul h u = Gh.mul h v) : u = v := by
  have e1 : Gh.mul h (u ^^^ v) = 0 := by rw [Gh.mul_xor h u v hh, e, Nat.xor_self]
  rcases (Gh.no_zero h (u ^^^ v) hh (Nat.xor_lt_two_pow hu hv)).1 e1 with h1 | h1
  · exact absurd h1 h0
  · exact xcl u u v (by rw [Nat.xor_self, h1]) ▸ rfl
theorem gstep_y (h y y' : Nat) (b : List Nat) (hh : h < 2 ^ 128) (h0 : h ≠ 0) (hy : y < 2 ^ 128) (hy' : y' < 2 ^ 128) (e : gstep h y b = gstep h y' b) : y = y' := by
  have e1 := gmul_inj h _ _ hh h0 (Nat.xor_lt_two_pow hy (polB_lt b)) (Nat.xor_lt_two_pow hy' (polB_lt b)) e
  exact xcr _ _ _ e1
theorem gstep_b (h y : Nat) (b b' : List Nat) (hh : h < 2 ^ 128) (h0 : h ≠ 0) (hy : y < 2 ^ 128) (e : gstep h y b = gstep h y b') : polB b = polB b' := by
  have e1 := gmul_inj h _ _ hh h0 (Nat.xor_lt_two_pow hy (polB_lt b)) (Nat.xor_lt_two_pow hy (polB_lt b')) e
  exact xcl _ _ _ e1
theorem gfold_y (h : Nat) (hh : h < 2 ^ 128) (h0 : h ≠ 0) : ∀ (bs : List (List Nat)) (y y' : Nat), y < 2 ^ 128 → y' < 2 ^ 128 → gfold h y bs = gfold h y' bs → y = y' := by
  intro bs
  induction bs with
  | nil => intro y y' _ _ e; exact e
  | cons b bs ih =>
    intro y y' hy hy' e
    exact gstep_y h y y' b hh h0 hy hy' (ih _ _ (Gh.mul_lt _ _ hh) (Gh.mul_lt _ _ hh) e)
theorem gfold_set (h : Nat) (hh : h < 2 ^ 128) (h0 : h ≠ 0) (z : Nat) (hz : z < 256) (rest : List (List Nat)) : ∀ (n : Nat) (xs : List Nat) (i y : Nat), xs.length ≤ n → i < xs.length → (∀ x ∈ xs, x < 256) → y < 2 ^ 128 →
    gfold h y (blocks xs ++ rest) = gfold h y (blocks (xs.set i z) ++ rest) → xs = xs.set i z := by
  intro n
  induction n with
  | zero => intro xs i y h1 h2; omega
  | succ n ih =>
    intro xs i y hl hi hx hy e
    have hne : xs ≠ [] := fun e => by rw [e] at hi; exact absurd hi (Nat.not_lt_zero _)
    have hne' : xs.set i z ≠ [] := fun e => by have h1 := congrArg List.length e; rw [List.length_set] at h1; rw [List.length_nil] at h1; omega
    rw [blocks_cons xs hne, blocks_cons _ hne', List.cons_append, List.cons_append] at e
    have e2 : gfold h (gstep h y (pad16 (xs.take 16))) (blocks (xs.drop 16) ++ rest) = gfold h (gstep h y (pad16 ((xs.set i z).take 16))) (blocks ((xs.set i z).drop 16) ++ rest) := e
    have hx' : ∀ x ∈ xs.set i z, x < 256 := fun x h => by
      rcases List.mem_or_eq_of_mem_set h with h | h
      · exact hx x h
      · rw [h]; exact hz
    by_cases h16 : i < 16
    · have ed : (xs.set i z).drop 16 = xs.drop 16 := by rw [List.drop_set_of_lt h16]
      rw [ed] at e2
      have e3 := gfold_y h hh h0 _ _ _ (Gh.mul_lt _ _ hh) (Gh.mul_lt _ _ hh) e2
      have e4 := gstep_b h y _ _ hh h0 hy e3
      have e5 := polB_inj _ _ (pad16_len _ (by rw [List.length_take]; omega)) (pad16_lt _ (fun x h => hx x (List.mem_of_mem_take h))) (pad16_len _ (by rw [List.length_take]; omega)) (pad16_lt _ (fun x h => hx' x (List.mem_of_mem_take h))) e4
      unfold pad16 at e5
      have e6 := (List.append_inj e5 (by rw [List.length_take, List.length_take, List.length_set])).1
      rw [← List.take_append_drop 16 (xs.set i z), ← e6, ed, List.take_append_drop]
    · have et : (xs.set i z).take 16 = xs.take 16 := by rw [List.take_set_of_le (by omega)]
      have ed : (xs.set i z).drop 16 = (xs.drop 16).set (i - 16) z := by rw [List.drop_set, if_neg h16]
      rw [et, ed] at e2
      have e3 := ih (xs.drop 16) (i - 16) _ (by rw [List.length_drop]; omega) (by rw [List.length_drop]; omega) (fun x h => hx x (List.mem_of_mem_drop h)) (Gh.mul_lt _ _ hh) e2
      rw [← List.take_append_drop 16 (xs.set i z), et, ed, ← e3, List.take_append_drop]
theorem gfold_zero (y : Nat) (bs : List (List Nat)) (b : List Nat) : gfold 0 y (bs ++ [b]) = 0 := by
  rw [gfold_app]
  exact Gh.zero_mul _
theorem bytB_inj (p q : Nat) (hp : p < 2 ^ 128) (hq : q < 2 ^ 128) (e : bytB p = bytB q) : p = q := by rw [← polB_bytB p hp, e, polB_bytB q hq]
/-- The law: a turned byte is seen, but by a zero key. -/
theorem gapart (ks xs ys : List Nat) (i y q : Nat) (hkl : ks.length = 16) (hkx : ∀ x ∈ ks, x < 256) (hy : xs[i]? = some y) (hq : q < 256) (hx : ∀ x ∈ xs, x < 256) (hys : xs.set i (y ^^^ q) = ys) :
    decide (gsumB (polB ks) [] xs = gsumB (polB ks) [] ys) = decide (q = 0 ∨ ks = List.replicate 16 0) ∧ decide (gsumB (polB ks) xs [] = gsumB (polB ks) ys []) = decide (q = 0 ∨ ks = List.replicate 16 0) := by
  have hi : i < xs.length := (List.getElem?_eq_some_iff.1 hy).1
  have hg : xs[i] = y := (List.getElem?_eq_some_iff.1 hy).2
  have hyb : y < 256 := hx y (List.mem_of_getElem? hy)
  have hz : y ^^^ q < 256 := Nat.xor_lt_two_pow (n := 8) hyb hq
  have hh := polB_lt ks
  have hl : ys.length = xs.length := by rw [← hys, List.length_set]
  have hk0 : ks = List.replicate 16 0 ↔ polB ks = 0 := by
    have e0 : polB (List.replicate 16 0) = 0 := by kernel_rfl
    constructor
    · intro e; rw [e, e0]
    · intro e; exact polB_inj _ _ hkl hkx (by rfl) (fun x h => by rw [(List.mem_replicate.1 h).2]; omega) (by rw [e, e0])
  have hsame : q = 0 → xs = ys := fun e => by
    rw [← hys, e, Nat.xor_zero, ← hg, List.set_getElem_self]
  have hdiff : xs = ys → q = 0 := fun e => by
    have h1 : xs[i]? = ys[i]? := by rw [← e]
    rw [← hys, List.getElem?_set_self hi, hy] at h1
    injection h1 with h1
    have h2 : y ^^^ 0 = y ^^^ q := by rw [Nat.xor_zero]; exact h1
    exact (xcl _ _ _ h2).symm
  rw [decide_eq_decide, decide_eq_decide]
  refine ⟨⟨fun e => ?_, fun e => ?_⟩, ⟨fun e => ?_, fun e => ?_⟩⟩
  · by_cases h0 : polB ks = 0
    · exact Or.inr (hk0.2 h0)
    · left
      unfold gsumB at e
      rw [hl, blocks_nil, List.nil_append, List.nil_append] at e
      have e1 := bytB_inj _ _ (gfold_lt _ _ _ hh (by decide)) (gfold_lt _ _ _ hh (by decide)) e
      rw [← hys] at e1
      exact hdiff ((gfold_set _ hh h0 _ hz _ _ xs i 0 (Nat.le_refl _) hi hx (by decide) e1).trans hys)
  · rcases e with e | e
    · rw [hsame e]
    · unfold gsumB
      rw [hk0.1 e, gfold_zero, gfold_zero]
  · by_cases h0 : polB ks = 0
    · exact Or.inr (hk0.2 h0)
    · left
      unfold gsumB at e
      rw [hl, blocks_nil, List.append_nil, List.append_nil] at e
      have e1 := bytB_inj _ _ (gfold_lt _ _ _ hh (by decide)) (gfold_lt _ _ _ hh (by decide)) e
      rw [← hys] at e1
      exact hdiff ((gfold_set _ hh h0 _ hz _ _ xs i 0 (Nat.le_refl _) hi hx (by decide) e1).trans hys)
  · rcases e with e | e
    · rw [hsame e]
    · unfold gsumB
      rw [hk0.1 e, gfold_zero, gfold_zero]
end Go.Proofs.Ytpeibkdcglkimaa

namespace Go.Proofs.Ytpeibkdcglkimaa
open Go.ChangeShapes Go.WideShapes Go.ChangeAt Go.RowKit

set_option maxHeartbeats 1000000 in
theorem pick_any (x n : Int) (k : Nat) (w : World) (hk : (k : Int) = x % n) (hn : 1 ≤ n) (hn2 : n ≤ 4611686018427387904) (h1 : -9223372036854775808 ≤ x) (h2 : x ≤ 9223372036854775807) :
    Calls Try.prog 22 #[.int .i64 x, .int .i64 n] w fun e w' => e = .returned (.int .i64 k) ∧ w = w' := by
  have t1 : decide (n < 1) = false := by simp; omega
  by_cases hx : 0 ≤ x
  · have Hk := Lib.hid hk
    have h3 : 0 ≤ x % n := Int.emod_nonneg x (by omega)
    have t2 : ¬ x % n < 0 := by omega
    clear hk
    go_enter Try.func22, Try.ntmps22
    go_wp2_with fail
    go_ret
    exact ⟨by rw [Hk.out]; rfl, rfl⟩
  · have he : x.tmod n = - ((-x) % n) := by
      have := Int.neg_tmod (-x) n
      rw [Int.neg_neg] at this
      rw [this, Int.tmod_eq_emod_of_nonneg (by omega)]
    have h4 := Int.emod_nonneg (-x) (show n ≠ 0 by omega)
    have h5 := Int.emod_lt_of_pos (-x) (show 0 < n by omega)
    have hs : (x + -x) % n = 0 := by rw [Int.add_right_neg]; simp
    by_cases hz : (-x) % n = 0
    · have ez : x.tmod n = 0 := by omega
      have hxz : x % n = 0 := by
        rw [Int.emod_eq_zero_of_dvd]
        exact (Int.dvd_neg).1 (Int.dvd_of_emod_eq_zero hz)
      have Hk := Lib.hid (show (k : Int) = 0 by omega)
      clear hk he h4 h5 hs hz hxz
      have hneg : x < 0 := by omega
      go_enter Try.func22, Try.ntmps22
      go_wp2_with fail
      go_ret
      exact ⟨by rw [Hk.out]; rfl, rfl⟩
    · obtain ⟨m, hm⟩ : ∃ m, m = x.tmod n := ⟨_, rfl⟩
      have hm1 : m < 0 := by omega
      have hm2 : -n < m := by omega
      have hd : x % n = m + n := by
        have h6 := Int.mul_ediv_add_emod (-x) n
        obtain ⟨q, hq⟩ : ∃ q, q = (-x) / n := ⟨_, rfl⟩
        rw [← hq] at h6
        have e1 : x = (m + n) + n * (-q - 1) := by
          rw [Int.mul_sub, Int.mul_neg]
          omega
        rw [e1, Int.add_mul_emod_self_left]
        exact Int.emod_eq_of_lt (by omega) (by omega)
      have Hk := Lib.hid (show (k : Int) = m + n by omega)
      have em := hm.symm
      clear hk he h4 h5 hs hz hd hm
      have hneg : x < 0 := by omega
      go_enter Try.func22, Try.ntmps22
      go_wp2_with fail
      go_ret
      exact ⟨by rw [Hk.out]; rfl, rfl⟩
end Go.Proofs.Ytpeibkdcglkimaa

namespace Go.Proofs.Ytpeibkdcglkimaa
open Go.ChangeShapes Go.WideShapes Go.ChangeAt Go.RowKit

theorem lent_bytes {w : World} {g len : Nat} {xs : List Nat} (h : Blk w g 5 (lentCells xs)) (hl : xs.length = len) (hx : ∀ x ∈ xs, x < 256) : BytesIn w (some ⟨g, 0, none⟩) len (len + 3) xs := by
  refine ⟨⟨hl, fun y hy => wf_u8_of (hx y hy), fun _ => ⟨g, 0, rfl, Blk.lt h, fun j n hn => ?_⟩⟩, fun e => by cases e⟩
  rw [Nat.zero_add]
  refine h.at j _ ?_
  have hj : j < xs.length := (List.getElem?_eq_some_iff.1 hn).1
  exact arr_at (xs ++ [201, 202, 203]) j n (by rw [List.getElem?_append_left hj]; exact hn)
theorem same_is {a b : Option Addr} {la lb ca cb : Nat} {xs ys : List Nat} {w : World} (v : Bool) (hv : decide (xs = ys) = v) (ha : IntsIn w .u8 a la xs) (hb : IntsIn w .u8 b lb ys) (hla : la ≤ 9223372036854775807) (hlb : lb ≤ 9223372036854775807) :
    Calls Try.prog 16 #[.slice a la ca, .slice b lb cb] w fun e w' => e = .returned (.bool v) ∧ ∃ n, w' = w.drewN n := by
  rw [← hv]
  exact same_any a b la lb ca cb xs ys w ha hb hla hlb
end Go.Proofs.Ytpeibkdcglkimaa

namespace Go.Proofs.Ytpeibkdcglkimaa
open Go.ChangeShapes Go.WideShapes Go.ChangeAt Go.RowKit

theorem exec_eqlv_16 {o : Oper} {a : Act} {w : World} (xs ys : List Nat) (v : Bool) (hv : decide (xs = ys) = v) (h1 : xs.length = 16) (h2 : ys.length = 16) (x y : Operand) (ho : o.op = .binOp .eql 44 x y 44) (hx : a.eval x = .agg (xs.map vb).toArray) (hy : a.eval y = .agg (ys.map vb).toArray) :
    (execOp a.eval o).run Try.prog w = .ok (.value (.bool v)) w := by
  rw [← hv]
  exact exec_eql_16 xs ys h1 h2 x y ho hx hy

end Go.Proofs.Ytpeibkdcglkimaa

namespace Go.Proofs.Ytpeibkdcglkimaa
open Go.ChangeShapes Go.WideShapes Go.ChangeAt Go.RowKit

theorem array_open {H : Type} {enc : TypeId × Value → H} {P : Program} {w : World} {base : Nat} {spare : Nat → Bool} {held : Bool} {r : Reach} {base' : Nat} {t e : TypeId} {n : Nat} {v : Value} {d : DataW H} {p : List MemPlace}
    (ht : P.underlying t = some (.array n e)) (he : P.underlying e = some (.int .u8)) (ce : P.cellsOf e = 1) (ct : P.cellsOf t = n) (hval : Value.okWide P w r base' t v) (h : DataW.Trod enc P w base spare held t v d p) :
    ∃ xs : List Nat, v = .agg (xs.map vb).toArray ∧ xs.length = n ∧ ∀ x ∈ xs, x < 256 := by
  have hv : ∃ cs, v = .agg cs ∧ cs.size = P.cellsOf t := by
    simp only [Value.okWide, ht] at hval
    obtain ⟨cs, h1, h2, _⟩ := hval
    exact ⟨cs, h1, h2⟩
  obtain ⟨cs, rfl, hcs⟩ := hv
  rw [ct] at hcs
  obtain ⟨fuel, h⟩ := h
  obtain ⟨ys, m, _, _, _, hyl, hat⟩ := DataW.trod_array ht h
  rw [ce] at hat
  have each : ∀ i : Nat, ∃ x : Nat, i < n → cs[i]? = some (vb x) ∧ x < 256 := by
    intro i
    by_cases hi : i < n
    · have h1 := hat i hi
      have hc : cs[i]? = some (cs[i]'(by omega)) := Array.getElem?_eq_getElem (by omega)
      have hd : ((Value.cells (.agg cs)).toList.drop (i * 1)).take 1 = [cs[i]'(by omega)] := by
        have : (Value.cells (.agg cs)) = cs := rfl
        rw [this, Nat.mul_one, List.drop_eq_getElem_cons (by simpa using by omega)]
        simp
      have h2 : DataW.trod enc P w base spare held m e [cs[i]'(by omega)] = some (ys[i]'(by omega)) := by
        rw [← hd, ← List.getElem?_eq_getElem (by omega : i < ys.length)]
        exact h1
      obtain ⟨z, hz, _, hw⟩ := DataW.trod_int he h2
      simp only [List.cons.injEq, and_true] at hz
      obtain ⟨b1, b2⟩ := bounds_u8 hw
      refine ⟨z.toNat, fun _ => ⟨?_, by omega⟩⟩
      rw [hc, hz]
      unfold vb
      rw [Int.toNat_of_nonneg b1]
    · exact ⟨0, fun h => absurd h hi⟩
  obtain ⟨X, hX⟩ := Classical.axiomOfChoice each
  refine ⟨(List.range n).map X, ?_, by simp, fun x hx => ?_⟩
  · congr 1
    apply Array.ext_getElem?
    intro i
    by_cases hi : i < n
    · rw [(hX i hi).1]
      simp [hi]
    · rw [Array.getElem?_eq_none (by omega), Array.getElem?_eq_none (by simp; omega)]
  · obtain ⟨i, hi, rfl⟩ := List.mem_map.1 hx
    exact (hX i (List.mem_range.1 hi)).2
end Go.Proofs.Ytpeibkdcglkimaa

namespace Go.Proofs.Ytpeibkdcglkimaa
open Go.ChangeShapes Go.WideShapes Go.ChangeAt Go.RowKit

def Three (W : World) (A : Nat) (xa xb xc : List Nat) : Prop := Blk W A 44 (xa.map vb).toArray ∧ Blk W (A + 1) 44 (xb.map vb).toArray ∧ Blk W (A + 1 + 1) 44 (xc.map vb).toArray
section
variable {W W' : World} {A : Nat} {xa xb xc : List Nat}
theorem Three.a (h : Three W A xa xb xc) : Blk W A 44 (xa.map vb).toArray := h.1
theorem Three.b (h : Three W A xa xb xc) : Blk W (A + 1) 44 (xb.map vb).toArray := h.2.1
theorem Three.c (h : Three W A xa xb xc) : Blk W (A + 1 + 1) 44 (xc.map vb).toArray := h.2.2
theorem Three.drew (h : Three W A xa xb xc) : Three W.drew A xa xb xc := ⟨h.1.drew, h.2.1.drew, h.2.2.drew⟩
theorem Three.below (h : Three W A xa xb xc) (hb : Below W.heap.size W W') : Three W' A xa xb xc := ⟨Blk.below h.1 hb (Blk.lt h.1), Blk.below h.2.1 hb (Blk.lt h.2.1), Blk.below h.2.2 hb (Blk.lt h.2.2)⟩
end
theorem exec_b0 {o : Oper} {a : Act} {w : World} (ho : o.op = .build 44 #[]) : (execOp a.eval o).run Try.prog w = .ok (.value (.agg ((List.replicate 16 0).map vb).toArray)) w := by
  unfold execOp
  simp only [ho]
  kernel_rfl
abbrev one16 : List Nat := [128, 0, 0, 0, 0, 0, 0, 0, 0, 0, 0, 0, 0, 0, 0, 0]
theorem exec_b128 {o : Oper} {a : Act} {w : World} (ho : o.op = .build 44 #[(0, .const (.int .u8 128))]) : (execOp a.eval o).run Try.prog w = .ok (.value (.agg (one16.map vb).toArray)) w := by
  unfold execOp
  simp only [ho]
  kernel_rfl
theorem ref_add_is {xa xb D : List Nat} (hD : xorB xa xb = D) (hla : xa.length = 16) (hlb : xb.length = 16) (hxa : ∀ x ∈ xa, x < 256) (hxb : ∀ x ∈ xb, x < 256) (w : World) :
    Calls Try.prog 51 #[.agg (xa.map vb).toArray, .agg (xb.map vb).toArray] w fun e w' => e = .returned (.agg (D.map vb).toArray) ∧ Below w.heap.size w w' := by
  rw [← hD]
  exact ref_add xa xb hla hlb hxa hxb w
theorem polB_one : polB one16 = 1 := by kernel_rfl
theorem polB_zero : polB (List.replicate 16 0) = 0 := by kernel_rfl
theorem zero_iff (xs : List Nat) (hl : xs.length = 16) (hx : ∀ x ∈ xs, x < 256) : xs = List.replicate 16 0 ↔ polB xs = 0 :=
  ⟨fun e => by rw [e, polB_zero], fun e => polB_inj _ _ hl hx rfl (fun x h => by rw [(List.mem_replicate.1 h).2]; omega) (by rw [e, polB_zero])⟩

end Go.Proofs.Ytpeibkdcglkimaa

namespace Go.Proofs.Ytpeibkdcglkimaa

def xorL (xs ys : List Nat) : List Nat := List.zipWith (· ^^^ ·) xs ys
theorem xorL_len (xs ys : List Nat) (h : xs.length = ys.length) : (xorL xs ys).length = xs.length := by unfold xorL; rw [List.length_zipWith]; omega
theorem xorL_lt (xs ys : List Nat) (hx : ∀ x ∈ xs, x < 256) (hy : ∀ x ∈ ys, x < 256) : ∀ x ∈ xorL xs ys, x < 256 := by
  intro x h
  obtain ⟨i, hi⟩ := List.mem_iff_getElem?.1 h
  unfold xorL at hi
  rw [List.getElem?_zipWith_eq_some] at hi
  obtain ⟨a, b, ha, hb, rfl⟩ := hi
  exact Nat.xor_lt_two_pow (n := 8) (hx _ (List.mem_of_getElem? ha)) (hy _ (List.mem_of_getElem? hb))
theorem xorB_xorL (xs ys : List Nat) (hlx : xs.length = 16) (hly : ys.length = 16) (hx : ∀ x ∈ xs, x < 256) (hy : ∀ x ∈ ys, x < 256) : xorB xs ys = xorL xs ys := by
  refine List.ext_getElem (by rw [xorB_len, xorL_len _ _ (by omega), hlx]) (fun j h1 h2 => ?_)
  have hj : j < 16 := by rw [xorB_len] at h1; exact h1
  have e := numOf_xor xs ys 16 hlx hly hx hy j (xs[j]'(by omega)) (ys[j]'(by omega)) (List.getElem?_eq_getElem _) (List.getElem?_eq_getElem _) rfl
  rw [List.getElem?_eq_getElem h1] at e
  injection e with e
  have e2 : (xorL xs ys)[j]? = some ((xs[j]'(by omega)) ^^^ (ys[j]'(by omega))) := by
    unfold xorL
    rw [List.getElem?_zipWith, List.getElem?_eq_getElem (by omega), List.getElem?_eq_getElem (by omega)]
  rw [List.getElem?_eq_getElem h2] at e2
  injection e2 with e2
  rw [e, e2]
theorem polB_xorL (xs ys : List Nat) (hlx : xs.length = 16) (hly : ys.length = 16) (hx : ∀ x ∈ xs, x < 256) (hy : ∀ x ∈ ys, x < 256) : polB (xorL xs ys) = polB xs ^^^ polB ys := by
  rw [← xorB_xorL xs ys hlx hly hx hy]
  exact polB_bytB _ (Nat.xor_lt_two_pow (polB_lt _) (polB_lt _))
theorem pad16_xorL (xs ys : List Nat) (h : xs.length = ys.length) : pad16 (xorL xs ys) = xorL (pad16 xs) (pad16 ys) := by
  unfold pad16
  rw [xorL_len xs ys h, ← h]
  unfold xorL
  rw [List.zipWith_append h, List.zipWith_replicate, Nat.min_self]
  rfl
theorem gstep_two (h y1 y2 : Nat) (b1 b2 : List Nat) (hh : h < 2 ^ 128) : gstep h y1 b1 ^^^ gstep h y2 b2 = Gh.mul h ((y1 ^^^ y2) ^^^ (polB b1 ^^^ polB b2)) := by
  unfold gstep
  rw [← Gh.mul_xor h _ _ hh]
  congr 1
  rw [Nat.xor_assoc, Nat.xor_assoc]
  congr 1
  rw [← Nat.xor_assoc, Nat.xor_comm (polB b1) y2, Nat.xor_assoc]
theorem gfold_adds (h : Nat) (hh : h < 2 ^ 128) (l : List Nat) : ∀ (n : Nat) (xs ys : List Nat) (y1 y2 y3 y4 : Nat), xs.length ≤ n → ys.length = xs.length → (∀ x ∈ xs, x < 256) → (∀ x ∈ ys, x < 256) → y1 ^^^ y2 = y3 ^^^ y4 →
    gfold h y1 (blocks xs ++ [l]) ^^^ gfold h y2 (blocks ys ++ [l]) = gfold h y3 (blocks (xorL xs ys) ++ [l]) ^^^ gfold h y4 (blocks (List.replicate xs.length 0) ++ [l]) := by
  have base : ∀ y1 y2 y3 y4, y1 ^^^ y2 = y3 ^^^ y4 → gfold h y1 ([] ++ [l]) ^^^ gfold h y2 ([] ++ [l]) = gfold h y3 ([] ++ [l]) ^^^ gfold h y4 ([] ++ [l]) := by
    intro y1 y2 y3 y4 e
    show gstep h y1 l ^^^ gstep h y2 l = gstep h y3 l ^^^ gstep h y4 l
    rw [gstep_two _ _ _ _ _ hh, gstep_two _ _ _ _ _ hh, e]
  intro n
  induction n with
  | zero =>
    intro xs ys y1 y2 y3 y4 h1 h2 _ _ e
    obtain rfl : xs = [] := List.eq_nil_of_length_eq_zero (by omega)
    obtain rfl : ys = [] := List.eq_nil_of_length_eq_zero (by rw [h2]; rfl)
    exact base y1 y2 y3 y4 e
  | succ n ih =>
    intro xs ys y1 y2 y3 y4 h1 h2 hx hy e
    by_cases h0 : xs = []
    · subst h0
      obtain rfl : ys = [] := List.eq_nil_of_length_eq_zero (by rw [h2]; rfl)
      exact base y1 y2 y3 y4 e
    · have hp : 0 < xs.length := List.length_pos_iff.2 h0
      have h0' : ys ≠ [] := List.length_pos_iff.1 (by omega)
      have hl := xorL_len xs ys h2.symm
      have h0z : xorL xs ys ≠ [] := List.length_pos_iff.1 (by omega)
      have h0t : List.replicate xs.length 0 ≠ [] := List.length_pos_iff.1 (by rw [List.length_replicate]; omega)
      rw [blocks_cons xs h0, blocks_cons ys h0', blocks_cons _ h0z, blocks_cons _ h0t, List.cons_append, List.cons_append, List.cons_append, List.cons_append]
      have hz1 : (xorL xs ys).drop 16 = xorL (xs.drop 16) (ys.drop 16) := by unfold xorL; rw [List.drop_zipWith]
      have hz2 : (xorL xs ys).take 16 = xorL (xs.take 16) (ys.take 16) := by unfold xorL; rw [List.take_zipWith]
      have ht1 : (List.replicate xs.length 0).drop 16 = List.replicate (xs.drop 16).length 0 := by rw [List.drop_replicate, List.length_drop]
      have ht2 : pad16 ((List.replicate xs.length 0).take 16) = List.replicate 16 0 := by
        unfold pad16
        rw [List.take_replicate, List.length_replicate, List.replicate_append_replicate]
        congr 1
        omega
      have hlt : (xs.take 16).length = (ys.take 16).length := by rw [List.length_take, List.length_take]; omega
      have hbx : ∀ x ∈ xs.take 16, x < 256 := fun x h => hx x (List.mem_of_mem_take h)
      have hby : ∀ x ∈ ys.take 16, x < 256 := fun x h => hy x (List.mem_of_mem_take h)
      have hl1 : (xs.take 16).length ≤ 16 := by rw [List.length_take]; omega
      have hl2 : (ys.take 16).length ≤ 16 := by rw [List.length_take]; omega
      have hpz : polB (pad16 ((xorL xs ys).take 16)) = polB (pad16 (xs.take 16)) ^^^ polB (pad16 (ys.take 16)) := by
        rw [hz2, pad16_xorL _ _ hlt, polB_xorL _ _ (pad16_len _ hl1) (pad16_len _ hl2) (pad16_lt _ hbx) (pad16_lt _ hby)]
      have e2 : gstep h y1 (pad16 (xs.take 16)) ^^^ gstep h y2 (pad16 (ys.take 16)) = gstep h y3 (pad16 ((xorL xs ys).take 16)) ^^^ gstep h y4 (pad16 ((List.replicate xs.length 0).take 16)) := by
        rw [gstep_two _ _ _ _ _ hh, gstep_two _ _ _ _ _ hh, e, hpz, ht2, polB_zero, Nat.xor_zero]
      have e3 := ih (xs.drop 16) (ys.drop 16) _ _ _ _ (by rw [List.length_drop]; omega) (by rw [List.length_drop, List.length_drop, h2]) (fun x h => hx x (List.mem_of_mem_drop h)) (fun x h => hy x (List.mem_of_mem_drop h)) e2
      rw [← hz1, ← ht1] at e3
      exact e3
/-- The law: the two sums' sum is the sum's and the blank's. -/
theorem gadds (h : Nat) (hh : h < 2 ^ 128) (xs ys : List Nat) (hl : ys.length = xs.length) (hx : ∀ x ∈ xs, x < 256) (hy : ∀ x ∈ ys, x < 256) :
    xorB (gsumB h [] xs) (gsumB h [] ys) = xorB (gsumB h [] (xorL xs ys)) (gsumB h [] (List.replicate xs.length 0)) := by
  have e := gfold_adds h hh (lastB 0 xs.length) xs.length xs ys 0 0 0 0 (Nat.le_refl _) hl hx hy rfl
  have f : ∀ zs : List Nat, zs.length = xs.length → polB (gsumB h [] zs) = gfold h 0 (blocks zs ++ [lastB 0 xs.length]) := fun zs hz => by
    unfold gsumB
    rw [polB_bytB _ (gfold_lt _ _ _ hh (by decide)), hz, blocks_nil, List.nil_append]
    rfl
  unfold xorB
  rw [f xs rfl, f ys hl, f _ (xorL_len xs ys hl.symm), f _ (List.length_replicate ..), e]
theorem xorB_self (xs : List Nat) : xorB xs xs = List.replicate 16 0 := by
  unfold xorB
  rw [Nat.xor_self]
  kernel_rfl
end Go.Proofs.Ytpeibkdcglkimaa

namespace Gcm
open Fld Aes
/-- The counter's block. -/
def cb (nonce : List Nat) (n : Nat) : List Nat := nonce ++ [wb n 0, wb n 1, wb n 2, wb n 3]
theorem cb_st {nonce : List Nat} (h : nonce.length = 12) (hx : ∀ x ∈ nonce, x < 256) (n : Nat) : St16 (cb nonce n) := ⟨by rw [cb, List.length_append, h]; rfl, fun x hm => by
  rcases List.mem_append.1 hm with hm | hm
  · exact hx x hm
  · simp only [List.mem_cons, List.not_mem_nil, or_false] at hm
    rcases hm with rfl | rfl | rfl | rfl <;> exact wb_lt _ _⟩
def ctr (W : List Nat) (R : Nat) (nonce : List Nat) (n : Nat) : List Nat := enc W R (cb nonce n)
theorem ctr_st (W : List Nat) (R : Nat) (nonce : List Nat) (n : Nat) : St16 (ctr W R nonce n) := enc_st _ _ _
/-- The first k bytes of a text, xor the stream. -/
def trn (W : List Nat) (R : Nat) (nonce p : List Nat) : Nat → List Nat
  | 0 => []
  | k + 1 => trn W R nonce p k ++ [p.getD k 0 ^^^ (ctr W R nonce (k / 16 + 2)).getD (k % 16) 0]
section
variable (W : List Nat) (R : Nat) (nonce p : List Nat)
theorem trn_len (k : Nat) : (trn W R nonce p k).length = k := by
  induction k with
  | zero => rfl
  | succ k ih => rw [trn, List.length_append, ih]; rfl
theorem trn_lt (hp : ∀ x ∈ p, x < 256) (k : Nat) : ∀ x ∈ trn W R nonce p k, x < 256 := by
  induction k with
  | zero => intro x hx; cases hx
  | succ k ih =>
    intro x hx
    rcases List.mem_append.1 hx with hx | hx
    · exact ih x hx
    · rw [List.mem_singleton.1 hx]
      exact xor_lt8 (getD_lt hp k) ((ctr_st W R nonce _).getD _)
theorem trn_at (k i : Nat) (h : i < k) : (trn W R nonce p k)[i]? = some (p.getD i 0 ^^^ (ctr W R nonce (i / 16 + 2)).getD (i % 16) 0) := by
  induction k with
  | zero => omega
  | succ k ih =>
    rw [trn]
    by_cases e : i < k
    · rw [List.getElem?_append_left (by rw [trn_len]; exact e)]
      exact ih e
    · obtain rfl : i = k := by omega
      rw [List.getElem?_append_right (by rw [trn_len]; omega), trn_len, Nat.sub_self]
      rfl
/-- A text, xor the stream. -/
def turned : List Nat := trn W R nonce p p.length
theorem turned_len : (turned W R nonce p).length = p.length := trn_len W R nonce p _
theorem turned_lt (hp : ∀ x ∈ p, x < 256) : ∀ x ∈ turned W R nonce p, x < 256 := trn_lt W R nonce p hp _
theorem turned_at (i : Nat) (h : i < p.length) : (turned W R nonce p)[i]? = some (p.getD i 0 ^^^ (ctr W R nonce (i / 16 + 2)).getD (i % 16) 0) := trn_at W R nonce p _ i h
theorem turned_turned : turned W R nonce (turned W R nonce p) = p := by
  apply List.ext_getElem?
  intro i
  by_cases h : i < p.length
  · rw [turned_at _ _ _ _ i (by rw [turned_len]; exact h), List.getD_eq_getElem?_getD, turned_at W R nonce p i h]
    show some (_ ^^^ _ ^^^ _) = _
    rw [xor_back, List.getD_eq_getElem?_getD, List.getElem?_eq_getElem h]
    rfl
  · rw [List.getElem?_eq_none (by rw [turned_len, turned_len]; omega), List.getElem?_eq_none (by omega)]
end
end Gcm
namespace Go.Proofs.Ytpeibkdcglkimaa
open Go.ChangeShapes Go.WideShapes Go.ChangeAt Go.RowKit Fld Aes Gcm
def tagL (W : List Nat) (R : Nat) (nonce : List Nat) (h : Nat) (aad text : List Nat) : List Nat := xorL (gsumB h aad text) (ctr W R nonce 1)
theorem gsumB_st (h : Nat) (aad text : List Nat) : St16 (gsumB h aad text) := ⟨bytB_len _, bytB_lt _⟩
theorem tagL_st (W : List Nat) (R : Nat) (nonce : List Nat) (h : Nat) (aad text : List Nat) : St16 (tagL W R nonce h aad text) :=
  ⟨by rw [tagL, xorL_len _ _ (by rw [(gsumB_st h aad text).1, (ctr_st W R nonce 1).1]), (gsumB_st h aad text).1], xorL_lt _ _ (gsumB_st h aad text).2 (ctr_st W R nonce 1).2⟩
theorem xorL_at {a b : List Nat} {i x y : Nat} (h1 : a[i]? = some x) (h2 : b[i]? = some y) : (xorL a b)[i]? = some (x ^^^ y) := by
  unfold xorL
  rw [List.getElem?_zipWith, h1, h2]
def sealL (W : List Nat) (R : Nat) (nonce : List Nat) (h : Nat) (aad p : List Nat) : List Nat := turned W R nonce p ++ tagL W R nonce h aad (turned W R nonce p)
theorem sealL_len (W : List Nat) (R : Nat) (nonce : List Nat) (h : Nat) (aad p : List Nat) : (sealL W R nonce h aad p).length = p.length + 16 := by rw [sealL, List.length_append, turned_len, (tagL_st W R nonce h aad _).1]
theorem sealL_lt (W : List Nat) (R : Nat) (nonce : List Nat) (h : Nat) (aad p : List Nat) (hp : ∀ x ∈ p, x < 256) : ∀ x ∈ sealL W R nonce h aad p, x < 256 := fun x hx => by
  rcases List.mem_append.1 hx with hx | hx
  · exact turned_lt W R nonce p hp x hx
  · exact (tagL_st W R nonce h aad _).2 x hx
/-- The box: a cipher and the key of the great field. -/
def GBox (w : World) (X : Nat) (W : List Nat) (R h : Nat) : Prop := ∃ C g, Blk w X 55 #[.pointer (some ⟨C, 0, none⟩), .pointer (some ⟨g, 0, none⟩)] ∧ CiphAt w C W R ∧ KeyAt w g h
theorem GBox.below {w w' : World} {X R h : Nat} {W : List Nat} (H : GBox w X W R h) (hb : Below w.heap.size w w') : GBox w' X W R h := by
  obtain ⟨C, g, h1, h2, h3⟩ := H
  exact ⟨C, g, h1.below hb h1.lt, h2.below hb, Blk.below h3 hb (Blk.lt h3)⟩
theorem exec_zb {o : Oper} {a : Act} {w : World} (ho : o.op = .build 44 #[]) : (execOp a.eval o).run Try.prog w = .ok (.value (.agg (z16n.map vb).toArray)) w := by
  unfold execOp
  simp only [ho]
  kernel_rfl
theorem z16n_st : St16 z16n := ⟨rfl, by decide⟩
def GNew (w : World) (key : List Nat) (e : Ending) (w' : World) : Prop :=
  ∃ X, e = .returned (.tuple #[.pointer (some ⟨X, 0, none⟩), .int .i64 0]) ∧ GBox w' X (expand key) (key.length / 4 + 6) (polB (enc (expand key) (key.length / 4 + 6) z16n)) ∧ Below w.heap.size w w' ∧ w.heap.size ≤ X
set_option maxRecDepth 100000 in
set_option maxHeartbeats 2000000 in
theorem gcmNew_any {L : Nat} (hL : L = 16 ∨ L = 32) {a : Option Addr} {cap : Nat} {key : List Nat} {w : World} (hx : BytesIn w a L cap key) :
    Calls Try.prog 9 #[.slice a L cap] w (GNew w key) := by
  have hkx : ∀ x ∈ key, x < 256 := fun x h => wf_u8_lt (hx.1.2.1 x h)
  have hl : key.length = L := hx.1.1
  have HK := Lib.hid (keyed_of hkx (by rw [hl]; exact hL))
  have HN := Lib.hid (new_good hL hx)
  obtain ⟨E, hE⟩ : ∃ E, E = enc (expand key) (key.length / 4 + 6) z16n := ⟨_, rfl⟩
  have HE := Lib.hid hE.symm
  have HEs := Lib.hid (show St16 E by rw [hE]; exact enc_st _ _ _)
  clear hkx hl hE
  go_enter Try.func9, Try.ntmps9
  go_wp2_with fail
  refine HN.out.mono ?_
  rintro e w1 ⟨C, rfl, hC, hb1⟩
  have HC := Lib.hid hC
  have Hn := Lib.hid hb1
  clear hC hb1 HN
  go_wp2_with (refine wpList_run _ (by rfl) (exec_zb rfl) ?_)
  refine (enc_call HC.out HK.out z16n_st HE.out).mono ?_
  rintro e w2 ⟨rfl, hb2⟩
  have HC2 := Lib.hid (HC.out.below hb2)
  have Hn2 := Lib.hid (nu_trans Hn.out hb2)
  clear hb2 HC Hn
  go_wp2_with fail
  refine (gh_new E HEs.out.1 HEs.out.2 w2).mono ?_
  rintro e w3 ⟨g, rfl, hg, hK, hb3⟩
  have hal := nu_alloc (nu_refl w3) (.cells #[.pointer (some ⟨C, 0, none⟩), .pointer (some ⟨g, 0, none⟩)] 55)
  have HB := Lib.hid (show GBox (w3.alloc (.cells #[.pointer (some ⟨C, 0, none⟩), .pointer (some ⟨g, 0, none⟩)] 55)) w3.heap.size (expand key) (key.length / 4 + 6) (polB E) from ⟨C, g, Blk.made w3 _ _, (HC2.out.below hb3).below hal, Blk.below hK hal (Blk.lt hK)⟩)
  have Hn3 := Lib.hid (nu_trans (nu_trans Hn2.out hb3) hal)
  have Hs := Lib.hid (show w.heap.size ≤ w3.heap.size from Nat.le_trans Hn2.out.size hb3.size)
  rw [← HE.out] at HB
  clear hK hb3 HC2 Hn2 hal
  go_wp2_with fail
  go_ret2
  exact ⟨_, rfl, HB.out, Hn3.out, Hs.out⟩
set_option maxRecDepth 100000 in
set_option maxHeartbeats 1000000 in
theorem gcmNew_bad (a : Option Addr) (L cap : Nat) (w : World) (h1 : L ≠ 16) (h2 : L ≠ 32) :
    Calls Try.prog 9 #[.slice a L cap] w fun e w' => e = .returned (.tuple #[.pointer none, .int .i64 1]) ∧ w = w' := by
  have HN := Lib.hid (aesNew_bad a L cap w h1 h2)
  go_enter Try.func9, Try.ntmps9
  go_wp2_with fail
  refine HN.out.mono ?_
  rintro e w1 ⟨rfl, rfl⟩
  go_wp2_with fail
  go_ret2
  exact ⟨rfl, rfl⟩
end Go.Proofs.Ytpeibkdcglkimaa

namespace Go.Proofs.Ytpeibkdcglkimaa
open Go.ChangeShapes Go.WideShapes Go.ChangeAt Go.RowKit Fld Aes Gcm
set_option linter.unusedSimpArgs false

structure GC (w : World) (X C g : Nat) (W : List Nat) (R B : Nat) (b : List Nat) : Prop where
  x : Blk w X 55 #[.pointer (some ⟨C, 0, none⟩), .pointer (some ⟨g, 0, none⟩)]
  c : CiphAt w C W R
  b : Blk w B 44 (b.map vb).toArray
theorem GC.below {w w' : World} {X C g R B : Nat} {W b : List Nat} (h : GC w X C g W R B b) (hb : Below w.heap.size w w') : GC w' X C g W R B b := ⟨h.x.below hb h.x.lt, h.c.below hb, h.b.below hb h.b.lt⟩
theorem GC.drew {w : World} {X C g R B : Nat} {W b : List Nat} (h : GC w X C g W R B b) : GC w.drew X C g W R B b := h.below (nu_drew (nu_refl w))
theorem e_cipher {o : Oper} {a : Act} {w : World} {g i : Nat} {v : Option Addr} (hc : w.cell? ⟨g, i, none⟩ = some (.pointer v)) (x : Operand) (ho : o.op = .load 48 x) (hx : a.eval x = .pointer (some ⟨g, i, none⟩)) :
    (execOp a.eval o).run Try.prog w = .ok (.value (.pointer v)) w := by
  unfold execOp
  simp only [ho, hx]
  go_simp
/-- Only the block k has turned, and it is none of theirs. -/
theorem CiphAt.off {w w' : World} {C R k : Nat} {W : List Nat} {cs : Array Value} {t : TypeId} (h : CiphAt w C W R) (hI : Blk w k t cs) (h1 : t ≠ 67) (h2 : t ≠ 71) (h3 : t ≠ 98) (hg : w.grownBy w' (some k)) : CiphAt w' C W R := by
  obtain ⟨x, m, c, cur, a1, a2, a3, ⟨bs, b1, b2⟩, a5, a6⟩ := h
  exact ⟨x, m, c, cur, a1.grown hg (fun e => a1.apart hI (Ne.symm h1) (by injection e)), a2.grown hg (fun e => a2.apart hI (Ne.symm h2) (by injection e)), a3, ⟨bs, b1.grown hg (fun e => b1.apart hI (Ne.symm h3) (by injection e)), b2⟩, Nat.lt_of_lt_of_le a5 hg.size, a6⟩
theorem GC.farCells {w : World} {X C g R B Z : Nat} {W b : List Nat} (h : GC w X C g W R B b) (vs : List Value) (hZ : ∃ cs, Z ≠ X ∧ Z ≠ B ∧ Blk w Z 44 cs) (o : Nat) : GC (w.setCells Z o vs) X C g W R B b := by
  obtain ⟨cs, h1, h2, h3⟩ := hZ
  exact ⟨h.x.farCells vs (Ne.symm h1) o, h.c.off h3 (by decide) (by decide) (by decide) (gb_fill vs o w (gb_refl w (some Z))), h.b.farCells vs (Ne.symm h2) o⟩
def cbF (nonce : List Nat) (n k : Nat) : List Nat := doneF (cb nonce n) (nonce ++ z4) (12 + k)
theorem cb_len {nonce : List Nat} (h : nonce.length = 12) (n : Nat) : (cb nonce n).length = 16 := by rw [cb, List.length_append, h]; rfl
theorem cb_at {nonce : List Nat} (h : nonce.length = 12) (n i : Nat) (hi : i < 4) : (cb nonce n)[12 + i]? = some (wb n i) := by
  rw [cb, List.getElem?_append_right (by omega), h, show 12 + i - 12 = i by omega]
  have : i = 0 ∨ i = 1 ∨ i = 2 ∨ i = 3 := by omega
  rcases this with rfl | rfl | rfl | rfl <;> rfl
theorem cbF_zero {nonce : List Nat} (h : nonce.length = 12) (n : Nat) : cbF nonce n 0 = nonce ++ z4 := by
  unfold cbF doneF cb
  rw [List.take_left' h, List.drop_left' h]
theorem cbF_four {nonce : List Nat} (h : nonce.length = 12) (n : Nat) : cbF nonce n 4 = cb nonce n := doneF_all _ _ 16 (cb_len h n) (by rw [List.length_append, h]; rfl)
theorem nz_len {nonce : List Nat} (h : nonce.length = 12) : (nonce ++ z4).length = 16 := by rw [List.length_append, h]; rfl

set_option maxRecDepth 100000 in
set_option maxHeartbeats 4000000 in
theorem counter_any {w : World} {X R h : Nat} {Ws : List Nat} (hG : GBox w X Ws R h) (hK : Keyed Ws R) (nonce : List Nat) (h12 : nonce.length = 12) (hx : ∀ x ∈ nonce, x < 256) (n : Nat) (hn : n < 4294967296) :
    Calls Try.prog 48 #[.pointer (some ⟨X, 0, none⟩), .agg (nonce.map vb).toArray, .int .u32 (n : Int)] w fun e w' => e = .returned (.agg ((ctr Ws R nonce n).map vb).toArray) ∧ Below w.heap.size w w' := by
  obtain ⟨C, g, hX, hC, hKA⟩ := hG
  have hXl := hX.lt
  have Hnl := Lib.hid h12
  have Hcs := Lib.hid (cb_st h12 hx n)
  have HK := Lib.hid hK
  have HG0 := Lib.hid (And.intro hX hC)
  have hal := nu_alloc (nu_alloc (nu_alloc (nu_refl w) (.cells (nonce.map vb).toArray 23)) (.cells (z16n.map vb).toArray 44)) (.cells (z16n.map vb).toArray 44)
  have HP := Lib.hid (((Blk.made w 23 (nonce.map vb).toArray).alloc (.cells (z16n.map vb).toArray 44)).alloc (.cells (z16n.map vb).toArray 44))
  have HZ := Lib.hid ((Blk.made1 w (.cells (nonce.map vb).toArray 23) 44 (z16n.map vb).toArray).alloc (.cells (z16n.map vb).toArray 44))
  have HB := Lib.hid (Blk.made2 w (.cells (nonce.map vb).toArray 23) (.cells (z16n.map vb).toArray 44) 44 (z16n.map vb).toArray)
  clear hX hC hKA h12 hx hK
  go_enter Try.func48, Try.ntmps48
  go_upto_region 2 with fail
  change Code.wp _ _ _ _ (((w.alloc (.cells (nonce.map vb).toArray 23)).alloc (.cells (z16n.map vb).toArray 44)).alloc (.cells (z16n.map vb).toArray 44))
  generalize ((w.alloc (.cells (nonce.map vb).toArray 23)).alloc (.cells (z16n.map vb).toArray 44)).alloc (.cells (z16n.map vb).toArray 44) = w1 at *
  obtain ⟨B, hB⟩ : ∃ B, B = w.heap.size + 1 + 1 := ⟨_, rfl⟩
  obtain ⟨Z, hZ⟩ : ∃ Z, Z = w.heap.size + 1 := ⟨_, rfl⟩
  obtain ⟨P, hP⟩ : ∃ P, P = w.heap.size := ⟨_, rfl⟩
  rw [← hB] at HB
  rw [← hZ] at HZ
  rw [← hP] at HP
  rw [← hB, ← hZ, ← hP]
  have Hap := Lib.hid (show P ≠ B ∧ Z ≠ B ∧ w.heap.size ≤ B ∧ w.heap.size ≤ Z ∧ X ≠ Z ∧ X ≠ B from ⟨by omega, by omega, by omega, by omega, by omega, by omega⟩)
  clear hB hZ hP
  obtain ⟨N, hN⟩ : ∃ N, N = nonce.map vb := ⟨_, rfl⟩
  have HNl := Lib.hid (show N.length = 12 by rw [hN, List.length_map, Hnl.out])
  rw [← hN] at HP
  have HP1 := Lib.hid (show ∀ v ∈ N, v.oneCell' = true by rw [hN]; exact vb_one _)
  have HNe := Lib.hid hN
  clear hN
  go_still_tail 2, (by kernel_rfl)
  change wpList _ _ _ _ _ w1.drew
  have HB2 := Lib.hid HB.out.drew
  have HP2 := Lib.hid HP.out.drew
  have HZ2 := Lib.hid HZ.out.drew
  have hn2 := nu_drew hal
  clear HB HP HZ hal
  generalize w1.drew = w2 at *
  go_upto_region 3 with (refine wpList_copy_blk rfl (.tmp 9) (.tmp 10) 22 22 rfl 5 Try.underlying22 (by kernel_rfl) (some ⟨B, 0, none⟩) (some ⟨P, 0, none⟩) 16 16 12 12 rfl rfl B 0 (z16n.map vb) 44 HB2.out N (by rw [HNl.out]; rfl) (fun _ => ⟨rfl, _, rfl, fun j v hv => by rw [Addr.add_lit, Nat.zero_add]; exact HP2.out.at j v (by simpa using hv)⟩) (by rw [HNl.out]; decide) HP1.out ?_)
  intro w3 HB3 hg3
  have HB4 := Lib.hid (show Blk w3 B 44 ((cbF nonce n 0).map vb).toArray from by
    have h : Blk w3 B 44 (splice (z16n.map vb) 0 N).toArray := HB3.out
    rw [cbF_zero Hnl.out, List.map_append, ← HNe.out]
    have e : splice (z16n.map vb) 0 N = N ++ z4.map vb := by
      unfold splice
      rw [Nat.zero_add, HNl.out]
      rfl
    rw [e] at h
    exact h)
  have HZ3 := Lib.hid (HZ2.out.grown hg3 (fun e => Hap.out.2.1 (by injection e)))
  have hn3 := nu_grown hn2 hg3 Hap.out.2.2.1
  have HG3 := Lib.hid (show GC w3 X C g Ws R B (cbF nonce n 0) from ⟨HG0.out.1.below hn3 hXl, HG0.out.2.below hn3, HB4.out⟩)
  clear HB2 HP2 HZ2 hn2 HB3 hg3 HB4 HP1
  go_wp2_with fail
  go_loopw [12] (fun i wr => ∃ k : Nat, k ≤ 4 ∧ i = .int .i64 k ∧ (Blk wr X 55 #[.pointer (some ⟨C, 0, none⟩), .pointer (some ⟨g, 0, none⟩)] ∧ CiphAt wr C Ws R) ∧ Blk wr B 44 ((cbF nonce n k).map vb).toArray ∧ Blk wr Z 44 (z16n.map vb).toArray ∧ Below w.heap.size w wr) (fun i _ => 4 - (intOf i).toNat)
  case atStart => exact ⟨0, by omega, rfl, ⟨HG3.out.x, HG3.out.c⟩, HG3.out.b, HZ3.out, hn3⟩
  case round =>
    clear HG3 HZ3 hn3
    obtain ⟨i, hi4, rfl, hGc, hB, hZ, hn'⟩ := hrel
    by_cases hilt : i < 4
    · have hii : (i : Int) < 4 := by omega
      obtain ⟨v, hv⟩ : ∃ v, v = wb n i := ⟨_, rfl⟩
      have Hv := Lib.hid hv
      have hold : (cbF nonce n i)[12 + i]? = some 0 := by
        unfold cbF
        rw [doneF_old _ _ 16 (12 + i) (12 + i) (cb_len Hnl.out n) (Nat.le_refl _) (by omega), List.getElem?_append_right (by rw [Hnl.out]; omega), Hnl.out, show 12 + i - 12 = i by omega]
        have : i = 0 ∨ i = 1 ∨ i = 2 ∨ i = 3 := by omega
        rcases this with rfl | rfl | rfl | rfl <;> rfl
      have cB : wr.cell? ⟨B, 12 + i, none⟩ = some (.int .u8 ((0 : Nat) : Int)) := hB.at (12 + i) _ (arrg_at vb _ (12 + i) 0 hold)
      have fB := hB.free (12 + i)
      have hset := hB.put (12 + i) (vb v)
      rw [arrg_set, show (cbF nonce n i).set (12 + i) v = cbF nonce n (i + 1) from doneF_set _ _ 16 (12 + i) v (cb_len Hnl.out n) (nz_len Hnl.out) (by omega) (by rw [hv]; exact cb_at Hnl.out n i hilt)] at hset
      have HB1 := Lib.hid hset
      have HG1 := Lib.hid (And.intro (hGc.1.far (p := ⟨B, 12 + i, none⟩) Hap.out.2.2.2.2.2 (vb v)) (hGc.2.off hB (by decide) (by decide) (by decide) (gb_set (gb_refl wr (some B)) (p := ⟨B, 12 + i, none⟩) (.inl rfl) (vb v))))
      have HZ1 := Lib.hid (hZ.far (p := ⟨B, 12 + i, none⟩) Hap.out.2.1 (vb v))
      have hn1 := nu_set hn' (p := ⟨B, 12 + i, none⟩) Hap.out.2.2.1 (vb v)
      simp only [vb] at HB1 HG1 HZ1 hn1
      clear hGc hB hZ hn'
      have Hi := Lib.hid (show i = 0 ∨ i = 1 ∨ i = 2 ∨ i = 3 by omega)
      rcases Hi.out with rfl | rfl | rfl | rfl
      · have ea : (n : Int) / 16777216 = (v : Int) := by have h := Hv.out; simp only [wb] at h; omega
        have ez : IntKind.u8.wrap ((n : Int) / 16777216) = (v : Int) := by have h := Hv.out; simp only [wb] at h; rw [IntKind.wrap_u8]; omega
        clear hv hold hset hi4
        go_wp2_with fail
        clear cB fB
        try rw [ea]
        clear ea ez
        generalize wr.setCell ⟨B, 12, none⟩ (.int .u8 (v : Int)) = w7 at *
        go_roundw
        case rel => first | exact ⟨1, by omega, by first | rfl | go_num, HG1.out, HB1.out, HZ1.out, hn1⟩ | ((repeat apply Exists.intro); exact ⟨⟨1, by omega, by first | rfl | go_num, HG1.out, HB1.out, HZ1.out, hn1⟩, rfl⟩)
        case measure => simp [intOf]
      · have ea : (n : Int) / 65536 % 256 = (v : Int) := by have h := Hv.out; simp only [wb] at h; omega
        have ez : IntKind.u8.wrap ((n : Int) / 65536) = (v : Int) := by have h := Hv.out; simp only [wb] at h; rw [IntKind.wrap_u8]; omega
        clear hv hold hset hi4
        go_wp2_with fail
        clear cB fB
        try rw [ea]
        clear ea ez
        generalize wr.setCell ⟨B, 13, none⟩ (.int .u8 (v : Int)) = w7 at *
        go_roundw
        case rel => first | exact ⟨2, by omega, by first | rfl | go_num, HG1.out, HB1.out, HZ1.out, hn1⟩ | ((repeat apply Exists.intro); exact ⟨⟨2, by omega, by first | rfl | go_num, HG1.out, HB1.out, HZ1.out, hn1⟩, rfl⟩)
        case measure => simp [intOf]
      · have ea : (n : Int) / 256 % 256 = (v : Int) := by have h := Hv.out; simp only [wb] at h; omega
        have ez : IntKind.u8.wrap ((n : Int) / 256) = (v : Int) := by have h := Hv.out; simp only [wb] at h; rw [IntKind.wrap_u8]; omega
        clear hv hold hset hi4
        go_wp2_with fail
        clear cB fB
        try rw [ea]
        clear ea ez
        generalize wr.setCell ⟨B, 14, none⟩ (.int .u8 (v : Int)) = w7 at *
        go_roundw
        case rel => first | exact ⟨3, by omega, by first | rfl | go_num, HG1.out, HB1.out, HZ1.out, hn1⟩ | ((repeat apply Exists.intro); exact ⟨⟨3, by omega, by first | rfl | go_num, HG1.out, HB1.out, HZ1.out, hn1⟩, rfl⟩)
        case measure => simp [intOf]
      · have ea : (n : Int) % 256 = (v : Int) := by have h := Hv.out; simp only [wb] at h; omega
        have ez : IntKind.u8.wrap ((n : Int)) = (v : Int) := by have h := Hv.out; simp only [wb] at h; rw [IntKind.wrap_u8]; omega
        clear hv hold hset hi4
        go_wp2_with fail
        clear cB fB
        try rw [ea]
        clear ea ez
        generalize wr.setCell ⟨B, 15, none⟩ (.int .u8 (v : Int)) = w7 at *
        go_roundw
        case rel => first | exact ⟨4, by omega, by first | rfl | go_num, HG1.out, HB1.out, HZ1.out, hn1⟩ | ((repeat apply Exists.intro); exact ⟨⟨4, by omega, by first | rfl | go_num, HG1.out, HB1.out, HZ1.out, hn1⟩, rfl⟩)
        case measure => simp [intOf]
    · obtain rfl : i = 4 := by omega
      obtain ⟨b, hbe⟩ : ∃ b, b = cb nonce n := ⟨_, rfl⟩
      have hBb := hB
      rw [cbF_four Hnl.out, ← hbe] at hBb
      have HS := Lib.hid (show GC wr X C g Ws R B b from ⟨hGc.1, hGc.2, hBb⟩)
      have Hbs := Lib.hid (show St16 b by rw [hbe]; exact Hcs.out)
      have Hb16 := Lib.hid Hbs.out.1
      have Hbe := Lib.hid hbe
      have HZ := Lib.hid hZ
      have hn := hn'
      clear hGc hB hBb hZ hbe hn'
      obtain ⟨wo, rfl⟩ : ∃ q : World, q = wr := ⟨_, rfl⟩
      go_upto_region 8 with fail
      refine wp_region_held_drew (S := fun W => GC W X C g Ws R B b) (by kernel_rfl) (HS.out.drew) (fun hHeld => ?_)
      dsimp only [Array.replicate, List.replicate, List.size_toArray, List.length_cons, List.length_nil, Nat.reduceAdd] at hHeld ⊢
      have HS1 := Lib.hid hHeld
      have HZ1 := Lib.hid HZ.out.drew
      have hn1 := nu_drew hn
      clear HS HZ hn
      generalize wo.drew = w1 at *
      refine take_l (i := 0) (v := ?_) rfl (by kernel_rfl) (by kernel_rfl) (by kernel_rfl) (fun _ _ _ h => h) (Or.inl ⟨by rfl, ?_⟩) (by assumption) ?_
      case refine_2 => (intro _ _; go_simp; all_goals with_reducible rfl)
      simp only [Act.put, List.setIfInBounds_toArray, List.set_cons_zero, List.set_cons_succ]
      refine take_l (i := 1) (v := ?_) rfl (by kernel_rfl) (by kernel_rfl) (by kernel_rfl) (fun _ _ _ h => h) (Or.inl ⟨by rfl, ?_⟩) (by assumption) ?_
      case refine_2 => (intro _ _; go_simp; all_goals with_reducible rfl)
      simp only [Act.put, List.setIfInBounds_toArray, List.set_cons_zero, List.set_cons_succ]
      refine take_l (i := 2) (v := ?_) rfl (by kernel_rfl) (by kernel_rfl) (by kernel_rfl) (fun _ _ _ h => h) (Or.inl ⟨by rfl, ?_⟩) (by assumption) ?_
      case refine_2 => (intro _ _; go_simp; all_goals with_reducible rfl)
      simp only [Act.put, List.setIfInBounds_toArray, List.set_cons_zero, List.set_cons_succ]
      refine take_l (i := 3) rfl (by kernel_rfl) (by kernel_rfl) (by kernel_rfl) (fun _ _ _ h => h) (Or.inl ⟨by rfl, fun W hS => e_cipher (hS.x.at 0 _ rfl) (.tmp 27) rfl rfl⟩) (by assumption) ?_
      simp only [Act.put, List.setIfInBounds_toArray, List.set_cons_zero, List.set_cons_succ]
      refine take_l (i := 4) rfl (by kernel_rfl) (by kernel_rfl) (by kernel_rfl) (fun _ _ _ h => h) (Or.inl ⟨by rfl, fun W hS => e16_load hS.b Hb16.out (.tmp 7) rfl rfl⟩) (by assumption) ?_
      simp only [Act.put, List.setIfInBounds_toArray, List.set_cons_zero, List.set_cons_succ]
      clear hHeld
      refine wpAnyH_ready (rs := [5]) (by kernel_rfl) (by simp) ?_
      refine cons_l rfl (fun K hK => ?_) AllReadyH.nil
      go_simp
      go_at_call 25
      refine (enc_call HS1.out.c HK.out Hbs.out rfl).mono ?_
      rintro e w2 ⟨rfl, hb2⟩
      have HS2 := Lib.hid (HS1.out.below hb2)
      have HZ2 := Lib.hid (HZ1.out.below hb2 HZ1.out.lt)
      have hn2 := nu_trans hn1 hb2
      clear hb2 HS1 HZ1 hn1
      obtain ⟨D, hD⟩ : ∃ D, D = enc Ws R b := ⟨_, rfl⟩
      rw [← hD]
      have HD := Lib.hid hD
      have HD16 := Lib.hid (show D.length = 16 by rw [hD]; exact (enc_st b Ws R).1)
      clear hD
      go_wp2_with fail
      refine hK.out _ _ HS2.out (fun hHeld => ?_)
      clear hK K hHeld
      simp only [Act.put, List.setIfInBounds_toArray, List.set_cons_zero, List.set_cons_succ]
      refine wpAnyH_ready (rs := [6]) (by kernel_rfl) (by simp) ?_
      refine cons_l rfl (fun K hK => ?_) AllReadyH.nil
      refine step_store_blk rfl 44 (.tmp 6) (.tmp 30) rfl Z (D.map vb) rfl rfl 44 (z16n.map vb).toArray HZ2.out (by rw [List.length_map, HD16.out]; rfl) (by rw [List.length_map, HD16.out]; kernel_rfl) (vb_one _) ?_
      have HS3 := Lib.hid (HS2.out.farCells (D.map vb) ⟨_, Ne.symm Hap.out.2.2.2.2.1, Hap.out.2.1, HZ2.out⟩ 0)
      have HF := Lib.hid (Blk.fill HZ2.out (D.map vb) (by rw [List.length_map, HD16.out]; rfl))
      have Hnf := Lib.hid (nu_fill (D.map vb) (g := Z) Hap.out.2.2.2.1 0 _ hn2)
      refine hK.out _ _ HS3.out (fun hHeld => ?_)
      clear hK K hHeld
      simp only [Act.put, List.setIfInBounds_toArray, List.set_cons_zero, List.set_cons_succ]
      refine wpAnyH_done (by kernel_rfl) ?_ _
      go_wp2_with fail
      refine bodyPost_ret (results_blk rfl _ Z 44 (D.map vb).toArray rfl HF.out Try.underlying44 (by rw [List.size_toArray, List.length_map, HD16.out]; kernel_rfl)) rfl ⟨by rw [HD.out, Hbe.out]; rfl, Hnf.out⟩
end Go.Proofs.Ytpeibkdcglkimaa

namespace Aes
open Fld
def boxL : List Nat := (List.range 256).map sb
def backL : List Nat := (List.range 256).map bs
theorem boxL_len : boxL.length = 256 := by simp [boxL]
theorem backL_len : backL.length = 256 := by simp [backL]
theorem boxL_at (i : Nat) (h : i < 256) : boxL[i]? = some (sb i) := by simp [boxL, h]
theorem backL_at (i : Nat) (h : i < 256) : backL[i]? = some (bs i) := by simp [backL, h]
/-- The back box as it grows. -/
def backF : Nat → List Nat
  | 0 => List.replicate 256 0
  | k + 1 => (backF k).set (sb k) k
theorem backF_len (k : Nat) : (backF k).length = 256 := by
  induction k with
  | zero => exact List.length_replicate
  | succ k ih => rw [backF, List.length_set, ih]
theorem backF_at (k : Nat) (hk : k ≤ 256) (s : Nat) (hs : s < 256) : (backF k)[s]? = some (if bs s < k then bs s else 0) := by
  induction k with
  | zero => rw [backF, List.getElem?_replicate, if_pos hs, if_neg (Nat.not_lt_zero _)]
  | succ k ih =>
    rw [backF, List.getElem?_set]
    by_cases e : sb k = s
    · rw [if_pos e, if_pos (by rw [backF_len, e]; exact hs), ← e, bs_sb k (by omega), if_pos (by omega)]
    · rw [if_neg e, ih (by omega)]
      have hne : bs s ≠ k := fun h => e (by rw [← h]; exact sb_bs s hs)
      by_cases h : bs s < k
      · rw [if_pos h, if_pos (by omega)]
      · rw [if_neg h, if_neg (by omega)]
theorem backF_all : backF 256 = backL := by
  apply List.ext_getElem?
  intro i
  by_cases h : i < 256
  · rw [backF_at 256 (Nat.le_refl _) i h, backL_at i h, if_pos (bs_lt i)]
  · rw [List.getElem?_eq_none (by rw [backF_len]; omega), List.getElem?_eq_none (by rw [backL_len]; omega)]
/-- The sum of a column's products, so far. -/
def mixJ (f b : List Nat) (c r : Nat) : Nat → Nat
  | 0 => 0
  | j + 1 => mixJ f b c r j ^^^ gm (f.getD ((j + 4 - r) % 4) 0) (b.getD (4 * c + j) 0)
theorem mixJ_lt (f b : List Nat) (hf : ∀ x ∈ f, x < 256) (c r j : Nat) : mixJ f b c r j < 256 := by
  induction j with
  | zero => show (0 : Nat) < 256; omega
  | succ j ih => exact xor_lt8 ih (gm_lt _ _ (getD_lt hf _))
theorem mixJ_four (f0 f1 f2 f3 : Nat) (b : List Nat) (c r : Nat) (hc : c < 4) (hr : r < 4) : mixJ [f0, f1, f2, f3] b c r 4 = mixAt f0 f1 f2 f3 b (4 * c + r) := by
  have h : (4 * c + r) / 4 * 4 = 4 * c := by omega
  have h0 : (4 * c + r) % 4 = r := by omega
  have h1 : (4 * c + r + 1) % 4 = (r + 1) % 4 := by omega
  have h2 : (4 * c + r + 2) % 4 = (r + 2) % 4 := by omega
  have h3 : (4 * c + r + 3) % 4 = (r + 3) % 4 := by omega
  unfold mixAt
  rw [h, h0, h1, h2, h3]
  have hr4 : r = 0 ∨ r = 1 ∨ r = 2 ∨ r = 3 := by omega
  rcases hr4 with rfl | rfl | rfl | rfl
  · show 0 ^^^ gm f0 (b.getD (4 * c + 0) 0) ^^^ gm f1 (b.getD (4 * c + 1) 0) ^^^ gm f2 (b.getD (4 * c + 2) 0) ^^^ gm f3 (b.getD (4 * c + 3) 0) = gm f0 (b.getD (4 * c + 0) 0) ^^^ gm f1 (b.getD (4 * c + 1) 0) ^^^ gm f2 (b.getD (4 * c + 2) 0) ^^^ gm f3 (b.getD (4 * c + 3) 0)
    rw [Nat.zero_xor]
  · show 0 ^^^ gm f3 (b.getD (4 * c + 0) 0) ^^^ gm f0 (b.getD (4 * c + 1) 0) ^^^ gm f1 (b.getD (4 * c + 2) 0) ^^^ gm f2 (b.getD (4 * c + 3) 0) = gm f0 (b.getD (4 * c + 1) 0) ^^^ gm f1 (b.getD (4 * c + 2) 0) ^^^ gm f2 (b.getD (4 * c + 3) 0) ^^^ gm f3 (b.getD (4 * c + 0) 0)
    rw [Nat.zero_xor]
    ac_rfl
  · show 0 ^^^ gm f2 (b.getD (4 * c + 0) 0) ^^^ gm f3 (b.getD (4 * c + 1) 0) ^^^ gm f0 (b.getD (4 * c + 2) 0) ^^^ gm f1 (b.getD (4 * c + 3) 0) = gm f0 (b.getD (4 * c + 2) 0) ^^^ gm f1 (b.getD (4 * c + 3) 0) ^^^ gm f2 (b.getD (4 * c + 0) 0) ^^^ gm f3 (b.getD (4 * c + 1) 0)
    rw [Nat.zero_xor]
    ac_rfl
  · show 0 ^^^ gm f1 (b.getD (4 * c + 0) 0) ^^^ gm f2 (b.getD (4 * c + 1) 0) ^^^ gm f3 (b.getD (4 * c + 2) 0) ^^^ gm f0 (b.getD (4 * c + 3) 0) = gm f0 (b.getD (4 * c + 3) 0) ^^^ gm f1 (b.getD (4 * c + 0) 0) ^^^ gm f2 (b.getD (4 * c + 1) 0) ^^^ gm f3 (b.getD (4 * c + 2) 0)
    rw [Nat.zero_xor]
    ac_rfl
theorem mix_at4 (f0 f1 f2 f3 : Nat) (b : List Nat) (c r : Nat) (hc : c < 4) (hr : r < 4) : (mix f0 f1 f2 f3 b)[4 * c + r]? = some (mixJ [f0, f1, f2, f3] b c r 4) := by
  rw [mixJ_four f0 f1 f2 f3 b c r hc hr]
  unfold mix
  rw [List.getElem?_map, List.getElem?_range (by omega)]
  rfl
end Aes
namespace Go.Proofs.Ytpeibkdcglkimaa
open Go.ChangeShapes Go.WideShapes Go.ChangeAt Go.RowKit Fld Aes
/-- The cells of a document's key: its rows, its box, its back box. -/
def rkeyL (v : Value) : List Value := v :: (boxL.map vb ++ backL.map vb)
theorem rkeyL_len (v : Value) : (rkeyL v).length = 513 := by rw [rkeyL, List.length_cons, List.length_append, List.length_map, List.length_map, boxL_len, backL_len]
theorem rkeyL_0 (v : Value) : (rkeyL v).toArray[0]? = some v := by rw [List.getElem?_toArray, rkeyL, List.getElem?_cons_zero]
theorem rkeyL_box (v : Value) (i : Nat) (h : i < 256) : (rkeyL v).toArray[1 + i]? = some (vb (sb i)) := by
  rw [List.getElem?_toArray, Nat.add_comm, rkeyL, List.getElem?_cons_succ, List.getElem?_append_left (by rw [List.length_map, boxL_len]; exact h), List.getElem?_map, boxL_at i h]
  rfl
theorem rkeyL_back (v : Value) (i : Nat) (h : i < 256) : (rkeyL v).toArray[257 + i]? = some (vb (bs i)) := by
  rw [List.getElem?_toArray, show 257 + i = (256 + i) + 1 by omega, rkeyL, List.getElem?_cons_succ, List.getElem?_append_right (by rw [List.length_map, boxL_len]; omega), List.length_map, boxL_len, show 256 + i - 256 = i by omega, List.getElem?_map, backL_at i h]
  rfl
/-- Rows of four bytes that can be read. -/
def RowsAt (w : World) (v : Value) (W : List Nat) : Prop := ∃ m c cur, v = .slice (some ⟨m, 0, none⟩) W.length c ∧ Blk w m 58 cur ∧ cur.toList.take (W.length * 4) = (flat W).map vb ∧ W.length ≤ c ∧ c ≤ maxLen
theorem RowsAt.below {w w' : World} {v : Value} {W : List Nat} (h : RowsAt w v W) (hb : Below w.heap.size w w') : RowsAt w' v W := by
  obtain ⟨m, c, cur, h1, h2, h3⟩ := h
  exact ⟨m, c, cur, h1, h2.below hb h2.lt, h3⟩
theorem rows_cell {w : World} {m : Nat} {cur : Array Value} {W : List Nat} (hm : Blk w m 58 cur) (ht : cur.toList.take (W.length * 4) = (flat W).map vb) (i j : Nat) (hi : i < W.length) (hj : j < 4) :
    w.cell? ⟨m, i * 4 + j, none⟩ = some (.int .u8 ((wb (W.getD i 0) j : Nat) : Int)) := by
  refine hm.at (i * 4 + j) _ ?_
  have e1 : (cur.toList.take (W.length * 4))[i * 4 + j]? = some (vb (wb (W.getD i 0) j)) := by
    rw [ht, List.getElem?_map, show i * 4 + j = 4 * i + j by omega, flat_at W i j hi hj]
    rfl
  rw [List.getElem?_take, if_pos (by omega)] at e1
  rw [← Array.getElem?_toList]
  exact e1
end Go.Proofs.Ytpeibkdcglkimaa

namespace Go.Proofs.Ytpeibkdcglkimaa
open Go.ChangeShapes Go.WideShapes Go.ChangeAt Go.RowKit Fld Aes
set_option linter.unusedSimpArgs false

theorem addK_lenx (W : List Nat) (r : Nat) (b : List Nat) : (addK W r b).length = 16 := by simp [addK]
theorem addK_ix (W : List Nat) (r : Nat) (b : List Nat) (i : Nat) (h : i < 16) : (addK W r b)[i]? = some (b.getD i 0 ^^^ wb (W.getD (4 * r + i / 4) 0) (i % 4)) := by
  unfold addK
  rw [List.getElem?_map, List.getElem?_range h]
  rfl
set_option maxRecDepth 100000 in
set_option maxHeartbeats 4000000 in
theorem refAdd_any {w : World} {v : Value} {W : List Nat} (hv : RowsAt w v W) (rd : Nat) (hr : 4 * rd + 4 ≤ W.length) (hr60 : rd ≤ 60) (b : List Nat) (hb : St16 b) :
    Calls Try.prog 53 #[.agg (rkeyL v).toArray, .agg (b.map vb).toArray, .int .i64 (rd : Int)] w fun e w' => e = .returned (.agg ((addK W rd b).map vb).toArray) ∧ Below w.heap.size w w' := by
  obtain ⟨m, c, cur, rfl, hm, htk, hlc, hcm⟩ := hv
  unfold maxLen at hcm
  have hml := hm.lt
  have Hm := Lib.hid hm
  have Ht := Lib.hid htk
  have Hb := Lib.hid hb
  obtain ⟨n, hn⟩ : ∃ n, n = W.length := ⟨_, rfl⟩
  have Hn := Lib.hid hn
  rw [← hn] at hlc hr ⊢
  obtain ⟨KL, hKL⟩ : ∃ KL, KL = (rkeyL (.slice (some ⟨m, 0, none⟩) n c)).toArray := ⟨_, rfl⟩
  have HK0 := Lib.hid (show KL[0]? = some (.slice (some ⟨m, 0, none⟩) n c) by rw [hKL]; exact rkeyL_0 _)
  rw [← hKL]
  have hal := nu_alloc (nu_alloc (nu_alloc (nu_refl w) (.cells KL 31)) (.cells (b.map vb).toArray 44)) (.cells (z16n.map vb).toArray 44)
  have HK := Lib.hid (((Blk.made w 31 KL).alloc (.cells (b.map vb).toArray 44)).alloc (.cells (z16n.map vb).toArray 44))
  have HB := Lib.hid ((Blk.made1 w (.cells KL 31) 44 (b.map vb).toArray).alloc (.cells (z16n.map vb).toArray 44))
  have HZ := Lib.hid (Blk.made2 w (.cells KL 31) (.cells (b.map vb).toArray 44) 44 (z16n.map vb).toArray)
  obtain ⟨A, hA⟩ : ∃ A, A = addK W rd b := ⟨_, rfl⟩
  have HAl := Lib.hid (show A.length = 16 by rw [hA]; exact addK_lenx W rd b)
  have HAa := Lib.hid (show ∀ i, i < 16 → A[i]? = some (b.getD i 0 ^^^ wb (W.getD (4 * rd + i / 4) 0) (i % 4)) by rw [hA]; exact addK_ix W rd b)
  rw [← hA]
  clear hm htk hb hn hKL hA
  go_enter Try.func53, Try.ntmps53
  go_upto_region 1 with fail
  change Code.wp _ _ _ _ (((w.alloc (.cells KL 31)).alloc (.cells (b.map vb).toArray 44)).alloc (.cells (z16n.map vb).toArray 44))
  generalize ((w.alloc (.cells KL 31)).alloc (.cells (b.map vb).toArray 44)).alloc (.cells (z16n.map vb).toArray 44) = w1 at *
  obtain ⟨B, hB⟩ : ∃ B, B = w.heap.size + 1 := ⟨_, rfl⟩
  obtain ⟨Z, hZ⟩ : ∃ Z, Z = w.heap.size + 1 + 1 := ⟨_, rfl⟩
  obtain ⟨K, hK⟩ : ∃ K, K = w.heap.size := ⟨_, rfl⟩
  rw [← hB] at HB
  rw [← hZ] at HZ
  rw [← hK] at HK
  rw [← hZ, ← hB, ← hK]
  have Hap := Lib.hid (show K ≠ B ∧ Z ≠ B ∧ w.heap.size ≤ B ∧ w.heap.size ≤ Z from ⟨by omega, by omega, by omega, by omega⟩)
  clear hZ hB hK
  go_wp2_with fail
  go_loopw [7] (fun i wr => ∃ k : Nat, k ≤ 16 ∧ i = .int .i64 k ∧ Blk wr K 31 KL ∧ Blk wr B 44 ((doneF A b k).map vb).toArray ∧ Blk wr Z 44 (z16n.map vb).toArray ∧ Below w.heap.size w wr) (fun i _ => 16 - (intOf i).toNat)
  case atStart => exact ⟨0, by omega, rfl, HK.out, HB.out, HZ.out, hal⟩
  case round =>
    clear HK HB HZ hal
    obtain ⟨i, hi16, rfl, hK, hB, hZ, hn⟩ := hrel
    have HK := Lib.hid hK
    have HB := Lib.hid hB
    have HZ := Lib.hid hZ
    clear hK hB hZ
    by_cases hilt : i < 16
    · have hii : (i : Int) < 16 := by omega
      obtain ⟨q, hq⟩ : ∃ q, q = i / 4 := ⟨_, rfl⟩
      obtain ⟨r, hr'⟩ : ∃ r, r = i % 4 := ⟨_, rfl⟩
      have ek : (i : Int) / 4 = (q : Int) := by omega
      have em : (i : Int) % 4 = (r : Int) := by omega
      have etq : Int.tdiv (i : Int) 4 = (q : Int) := by rw [Int.tdiv_eq_ediv_of_nonneg (by omega)]; omega
      have etr : Int.tmod (i : Int) 4 = (r : Int) := by rw [Int.tmod_eq_emod_of_nonneg (by omega)]; omega
      have wq : IntKind.i64.wrap (q : Int) = (q : Int) := by rw [IntKind.wrap_i64]; omega
      have wr0 : IntKind.i64.wrap (r : Int) = (r : Int) := by rw [IntKind.wrap_i64]; omega
      have hri : (r : Int) < 4 := by omega
      obtain ⟨d4, hd4⟩ : ∃ d4, d4 = 4 * rd := ⟨_, rfl⟩
      have w4 : IntKind.i64.wrap (4 * (rd : Int)) = (d4 : Int) := by rw [IntKind.wrap_i64]; omega
      obtain ⟨p, hp⟩ : ∃ p, p = d4 + q := ⟨_, rfl⟩
      have w5 : IntKind.i64.wrap ((d4 : Int) + (q : Int)) = (p : Int) := by rw [IntKind.wrap_i64]; omega
      have hpl : (p : Int) < (n : Int) := by omega
      obtain ⟨x, hx⟩ : ∃ x, x = b.getD i 0 := ⟨_, rfl⟩
      have hx8 : x < 256 := by rw [hx]; exact Hb.out.getD i
      have hxi : b[i]? = some x := by rw [hx, List.getD_eq_getElem?_getD, List.getElem?_eq_getElem (by rw [Hb.out.1]; exact hilt)]; rfl
      obtain ⟨y, hy⟩ : ∃ y, y = wb (W.getD p 0) r := ⟨_, rfl⟩
      have hy8 : y < 256 := by rw [hy]; exact wb_lt _ _
      obtain ⟨z, hz⟩ : ∃ z, z = x ^^^ y := ⟨_, rfl⟩
      have hxx := u8_xor_nat x y hx8 hy8
      rw [← hz] at hxx
      have hA := HAa.out i hilt
      rw [← hq, ← hr', ← hd4, ← hp, ← hx, ← hy, ← hz] at hA
      have hold : (doneF A b i)[i]? = some x := by rw [doneF_old _ _ 16 i i HAl.out (Nat.le_refl _) hi16, hxi]
      have cB : wr.cell? ⟨B, i, none⟩ = some (.int .u8 (x : Int)) := HB.out.at i _ (arrg_at vb _ i x hold)
      have cK : wr.cell? ⟨K, 0, none⟩ = some (.slice (some ⟨m, 0, none⟩) n c) := HK.out.at 0 _ HK0.out
      have cW : wr.cell? ⟨m, p * 4 + r, none⟩ = some (.int .u8 (y : Int)) := by
        rw [hn.cell (p := ⟨m, p * 4 + r, none⟩) hml, hy]
        exact rows_cell Hm.out Ht.out p r (by rw [← Hn.out]; omega) (by omega)
      have h1 := HB.out.drew.put i (vb z)
      rw [arrg_set, doneF_set _ _ 16 i z HAl.out Hb.out.1 hilt hA] at h1
      have HB1 := Lib.hid h1
      have HK1 := Lib.hid (HK.out.drew.far (p := ⟨B, i, none⟩) Hap.out.1 (vb z))
      have HZ1 := Lib.hid (HZ.out.drew.far (p := ⟨B, i, none⟩) Hap.out.2.1 (vb z))
      have hn1 := nu_set hn.drew (p := ⟨B, i, none⟩) Hap.out.2.2.1 (vb z)
      have cB2 : wr.drew.cell? ⟨B, i, none⟩ = some (.int .u8 (x : Int)) := HB.out.drew.at i _ (arrg_at vb _ i x hold)
      have fB2 := HB.out.drew.free i
      simp only [vb] at HB1 HK1 HZ1 hn1
      have HD := Lib.hid (And.intro cB2 fB2)
      clear hq hr' hd4 hp hx hy hz hA hold h1 HK HB HZ hn cB2 fB2 hxi hx8 hy8
      go_upto_region 4 with fail
      go_still_tail 18, (by kernel_rfl)
      change wpList _ _ _ _ _ wr.drew
      clear cB cK cW hxx ek em etq etr wq wr0 hri w4 w5 hpl
      obtain ⟨cB2, fB2⟩ := HD.out
      clear HD
      generalize wr.drew = w6 at *
      go_wp2_with fail
      clear cB2 fB2
      generalize w6.setCell ⟨B, i, none⟩ (.int .u8 (z : Int)) = w7 at *
      go_roundw
      case rel => first | exact ⟨i + 1, by omega, by go_num, HK1.out, HB1.out, HZ1.out, hn1⟩ | ((repeat apply Exists.intro); exact ⟨⟨i + 1, by omega, by go_num, HK1.out, HB1.out, HZ1.out, hn1⟩, rfl⟩)
      case measure => simp [intOf]; omega
    · obtain rfl : i = 16 := by omega
      have hB := HB.out
      rw [doneF_all _ _ 16 HAl.out Hb.out.1] at hB
      obtain ⟨D, hD⟩ : ∃ D, D = A.map vb := ⟨_, rfl⟩
      rw [← hD] at hB
      have HB2 := Lib.hid hB
      have HD16 := Lib.hid (show D.length = 16 by rw [hD, List.length_map, HAl.out])
      have HD1 := Lib.hid (show ∀ u ∈ D, u.oneCell' = true by rw [hD]; exact vb_one _)
      have HDe := Lib.hid hD
      have HF := Lib.hid (Blk.fill HZ.out D (by rw [HD16.out]; rfl))
      have Hnf := Lib.hid (nu_fill D (g := Z) Hap.out.2.2.2 0 _ hn)
      clear hB HB hD hn HK
      go_wp2_with (first | (refine wpList_load_blk rfl 44 (.tmp 4) rfl B rfl 44 D.toArray HB2.out Try.underlying44 (by rw [List.size_toArray, HD16.out]; kernel_rfl) ?_) | (refine wpList_store_blk rfl 44 (.tmp 6) (.tmp 30) rfl Z D rfl rfl 44 (z16n.map vb).toArray HZ.out (by rw [HD16.out]; rfl) (by rw [HD16.out]; kernel_rfl) HD1.out ?_))
      refine bodyPost_ret (results_blk rfl _ Z 44 D.toArray rfl HF.out Try.underlying44 (by rw [List.size_toArray, HD16.out]; kernel_rfl)) rfl ⟨by rw [HDe.out], Hnf.out⟩
end Go.Proofs.Ytpeibkdcglkimaa

namespace Go.Proofs.Ytpeibkdcglkimaa
open Go.ChangeShapes Go.WideShapes Go.ChangeAt Go.RowKit Fld Aes
set_option linter.unusedSimpArgs false

set_option maxRecDepth 100000 in
set_option maxHeartbeats 4000000 in
theorem refMixed_any {w : World} (f0 f1 f2 f3 : Nat) (h0 : f0 < 256) (h1 : f1 < 256) (h2 : f2 < 256) (h3 : f3 < 256) (b : List Nat) (hb : St16 b) :
    Calls Try.prog 54 #[.agg (b.map vb).toArray, .agg ([f0, f1, f2, f3].map vb).toArray] w fun e w' => e = .returned (.agg ((mix f0 f1 f2 f3 b).map vb).toArray) ∧ Below w.heap.size w w' := by
  have Hb := Lib.hid hb
  obtain ⟨f, hf⟩ : ∃ f, f = [f0, f1, f2, f3] := ⟨_, rfl⟩
  have Hf := Lib.hid (show ∀ x ∈ f, x < 256 by
    rw [hf]
    intro x hx
    simp only [List.mem_cons, List.not_mem_nil, or_false] at hx
    rcases hx with rfl | rfl | rfl | rfl <;> assumption)
  have Hfl := Lib.hid (show f.length = 4 by rw [hf]; rfl)
  obtain ⟨M, hM⟩ : ∃ M, M = mix f0 f1 f2 f3 b := ⟨_, rfl⟩
  have HMl := Lib.hid (show M.length = 16 by rw [hM]; exact (mix_st f0 f1 f2 f3 h0 h1 h2 h3 b).1)
  have HMa := Lib.hid (show ∀ c r, c < 4 → r < 4 → M[4 * c + r]? = some (mixJ f b c r 4) by rw [hM, hf]; exact mix_at4 f0 f1 f2 f3 b)
  rw [← hf, ← hM]
  have hal := nu_alloc (nu_alloc (nu_alloc (nu_alloc (nu_refl w) (.cells (b.map vb).toArray 44)) (.cells (f.map vb).toArray 58)) (.cells (z16n.map vb).toArray 44)) (.cells (z16n.map vb).toArray 44)
  have HB := Lib.hid ((((Blk.made w 44 (b.map vb).toArray).alloc (.cells (f.map vb).toArray 58)).alloc (.cells (z16n.map vb).toArray 44)).alloc (.cells (z16n.map vb).toArray 44))
  have HF := Lib.hid (((Blk.made1 w (.cells (b.map vb).toArray 44) 58 (f.map vb).toArray).alloc (.cells (z16n.map vb).toArray 44)).alloc (.cells (z16n.map vb).toArray 44))
  have HZ := Lib.hid ((Blk.made2 w (.cells (b.map vb).toArray 44) (.cells (f.map vb).toArray 58) 44 (z16n.map vb).toArray).alloc (.cells (z16n.map vb).toArray 44))
  have HT := Lib.hid (Blk.made3 w (.cells (b.map vb).toArray 44) (.cells (f.map vb).toArray 58) (.cells (z16n.map vb).toArray 44) 44 (z16n.map vb).toArray)
  clear hb hf hM h0 h1 h2 h3
  go_enter Try.func54, Try.ntmps54
  go_upto_region 2 with fail
  change Code.wp _ _ _ _ ((((w.alloc (.cells (b.map vb).toArray 44)).alloc (.cells (f.map vb).toArray 58)).alloc (.cells (z16n.map vb).toArray 44)).alloc (.cells (z16n.map vb).toArray 44))
  generalize (((w.alloc (.cells (b.map vb).toArray 44)).alloc (.cells (f.map vb).toArray 58)).alloc (.cells (z16n.map vb).toArray 44)).alloc (.cells (z16n.map vb).toArray 44) = w1 at *
  obtain ⟨T, hT⟩ : ∃ T, T = w.heap.size + 1 + 1 + 1 := ⟨_, rfl⟩
  obtain ⟨Z, hZ⟩ : ∃ Z, Z = w.heap.size + 1 + 1 := ⟨_, rfl⟩
  obtain ⟨F, hF⟩ : ∃ F, F = w.heap.size + 1 := ⟨_, rfl⟩
  obtain ⟨B, hB⟩ : ∃ B, B = w.heap.size := ⟨_, rfl⟩
  rw [← hT] at HT
  rw [← hZ] at HZ
  rw [← hF] at HF
  rw [← hB] at HB
  rw [← hT, ← hZ, ← hF, ← hB]
  have Hap := Lib.hid (show B ≠ T ∧ F ≠ T ∧ Z ≠ T ∧ w.heap.size ≤ T ∧ w.heap.size ≤ Z from ⟨by omega, by omega, by omega, by omega, by omega⟩)
  clear hT hZ hF hB
  go_wp2_with fail
  go_loopw [6] (fun i wr => ∃ k : Nat, k ≤ 4 ∧ i = .int .i64 k ∧ Blk wr B 44 (b.map vb).toArray ∧ Blk wr F 58 (f.map vb).toArray ∧ Blk wr T 44 ((doneF M z16n (4 * k)).map vb).toArray ∧ Blk wr Z 44 (z16n.map vb).toArray ∧ Below w.heap.size w wr) (fun i _ => 4 - (intOf i).toNat)
  case atStart => exact ⟨0, by omega, rfl, HB.out, HF.out, HT.out, HZ.out, hal⟩
  case round =>
    clear HB HF HT HZ hal
    obtain ⟨c, hc4, rfl, hB, hF, hT, hZ, hn⟩ := hrel
    by_cases hclt : c < 4
    · have hci : (c : Int) < 4 := by omega
      obtain ⟨wo, rfl⟩ : ∃ q : World, q = wr := ⟨_, rfl⟩
      go_wp2_with fail
      go_loopw [7] (fun i wr => ∃ k : Nat, k ≤ 4 ∧ i = .int .i64 k ∧ Blk wr B 44 (b.map vb).toArray ∧ Blk wr F 58 (f.map vb).toArray ∧ Blk wr T 44 ((doneF M z16n (4 * c + k)).map vb).toArray ∧ Blk wr Z 44 (z16n.map vb).toArray ∧ Below w.heap.size w wr) (fun i _ => 4 - (intOf i).toNat)
      case atStart => exact ⟨0, by omega, rfl, hB, hF, hT, hZ, hn⟩
      case round =>
        clear hB hF hT hZ hn
        obtain ⟨r, hr4, rfl, hB, hF, hT, hZ, hn⟩ := hrel
        by_cases hrlt : r < 4
        · have hri : (r : Int) < 4 := by omega
          obtain ⟨i, hi⟩ : ∃ i, i = 4 * c + r := ⟨_, rfl⟩
          have hilt : i < 16 := by omega
          have hii : (i : Int) < 16 := by omega
          rw [← hi] at hT
          have hold : (doneF M z16n i)[i]? = some 0 := by
            rw [doneF_old _ _ 16 i i HMl.out (Nat.le_refl _) (by omega)]
            exact z16_at i hilt
          have h0 : (doneF M z16n i) = (doneF M z16n i).set i (mixJ f b c r 0) := by
            apply List.ext_getElem?
            intro j
            rw [List.getElem?_set]
            by_cases e : i = j
            · subst e
              rw [if_pos rfl, if_pos (by rw [doneF_len M z16n 16 i HMl.out rfl (by omega)]; exact hilt), hold]; rfl
            · rw [if_neg e]
          rw [h0] at hT
          obtain ⟨wo, rfl⟩ : ∃ q : World, q = wr := ⟨_, rfl⟩
          have Hi := Lib.hid hi
          clear h0 hold hi
          go_wp2_with fail
          go_loopw [8] (fun q wr => ∃ k : Nat, k ≤ 4 ∧ q = .int .i64 k ∧ Blk wr B 44 (b.map vb).toArray ∧ Blk wr F 58 (f.map vb).toArray ∧ Blk wr T 44 (((doneF M z16n i).set i (mixJ f b c r k)).map vb).toArray ∧ Blk wr Z 44 (z16n.map vb).toArray ∧ Below w.heap.size w wr) (fun q _ => 4 - (intOf q).toNat)
          case atStart => exact ⟨0, by omega, rfl, hB, hF, hT, hZ, hn⟩
          case round =>
            clear hB hF hT hZ hn
            obtain ⟨j, hj4, rfl, hB, hF, hT, hZ, hn⟩ := hrel
            have HB := Lib.hid hB
            have HF := Lib.hid hF
            have HT := Lib.hid hT
            have HZ := Lib.hid hZ
            clear hB hF hT hZ
            by_cases hjlt : j < 4
            · have hji : (j : Int) < 4 := by omega
              have hi := Hi.out
              obtain ⟨c4, hc⟩ : ∃ c4, c4 = 4 * c := ⟨_, rfl⟩
              have wc : IntKind.i64.wrap (4 * (c : Int)) = (c4 : Int) := by rw [IntKind.wrap_i64]; omega
              have wi : IntKind.i64.wrap ((c4 : Int) + (r : Int)) = (i : Int) := by rw [IntKind.wrap_i64]; omega
              obtain ⟨p, hp⟩ : ∃ p, p = c4 + j := ⟨_, rfl⟩
              have wp : IntKind.i64.wrap ((c4 : Int) + (j : Int)) = (p : Int) := by rw [IntKind.wrap_i64]; omega
              have hpi : (p : Int) < 16 := by omega
              obtain ⟨jr, hjr⟩ : ∃ jr : Int, jr = (j : Int) - (r : Int) := ⟨_, rfl⟩
              have wjr : IntKind.i64.wrap ((j : Int) - (r : Int)) = jr := by rw [IntKind.wrap_i64]; omega
              obtain ⟨s, hs⟩ : ∃ s, s = j + 4 - r := ⟨_, rfl⟩
              have ws : IntKind.i64.wrap (jr + 4) = (s : Int) := by rw [IntKind.wrap_i64]; omega
              obtain ⟨g, hg⟩ : ∃ g, g = s % 4 := ⟨_, rfl⟩
              have eg : (s : Int) % 4 = (g : Int) := by omega
              have egt : Int.tmod (s : Int) 4 = (g : Int) := by rw [Int.tmod_eq_emod_of_nonneg (by omega)]; omega
              have hgi : (g : Int) < 4 := by omega
              have wg : IntKind.i64.wrap (g : Int) = (g : Int) := by rw [IntKind.wrap_i64]; omega
              obtain ⟨x, hx⟩ : ∃ x, x = f.getD g 0 := ⟨_, rfl⟩
              have hx8 : x < 256 := by rw [hx]; exact getD_lt Hf.out g
              have hxg : f[g]? = some x := by rw [hx, List.getD_eq_getElem?_getD, List.getElem?_eq_getElem (by rw [Hfl.out]; omega)]; rfl
              obtain ⟨y, hy⟩ : ∃ y, y = b.getD p 0 := ⟨_, rfl⟩
              have hy8 : y < 256 := by rw [hy]; exact Hb.out.getD p
              have hyp : b[p]? = some y := by rw [hy, List.getD_eq_getElem?_getD, List.getElem?_eq_getElem (by rw [Hb.out.1]; omega)]; rfl
              have cB : wr.cell? ⟨B, p, none⟩ = some (.int .u8 (y : Int)) := HB.out.at p _ (arrg_at vb _ p y hyp)
              have cF : wr.cell? ⟨F, g, none⟩ = some (.int .u8 (x : Int)) := HF.out.at g _ (arrg_at vb _ g x hxg)
              obtain ⟨v, hv⟩ : ∃ v, v = mixJ f b c r j := ⟨_, rfl⟩
              have hv8 : v < 256 := by rw [hv]; exact mixJ_lt f b Hf.out c r j
              have hself := doneF_self M z16n 16 i v HMl.out rfl hilt
              rw [← hv] at HT
              have cT : wr.cell? ⟨T, i, none⟩ = some (.int .u8 (v : Int)) := HT.out.at i _ (arrg_at vb _ i v hself)
              have hnext : mixJ f b c r (j + 1) = v ^^^ gm x y := by rw [mixJ, ← hv, ← hs, ← hg, ← hc, ← hp, ← hx, ← hy]
              obtain ⟨v2, hv2⟩ : ∃ v2, v2 = mixJ f b c r (j + 1) := ⟨_, rfl⟩
              obtain ⟨G, hG⟩ : ∃ G, G = gm x y := ⟨_, rfl⟩
              have hG8 : G < 256 := by rw [hG]; exact gm_lt _ _ hx8
              have hxx := u8_xor_nat v G hv8 hG8
              rw [← hG] at hnext
              rw [← hnext, ← hv2] at hxx
              have hset := HT.out.drew.put i (vb v2)
              rw [arrg_set, List.set_set, hv2] at hset
              have HT1 := Lib.hid hset
              rw [← hv2] at HT1
              have HB1 := Lib.hid (HB.out.drew.far (p := ⟨T, i, none⟩) Hap.out.1 (vb v2))
              have HF1 := Lib.hid (HF.out.drew.far (p := ⟨T, i, none⟩) Hap.out.2.1 (vb v2))
              have HZ1 := Lib.hid (HZ.out.drew.far (p := ⟨T, i, none⟩) Hap.out.2.2.1 (vb v2))
              have hn1 := nu_set hn.drew (p := ⟨T, i, none⟩) Hap.out.2.2.2.1 (vb v2)
              have cT2 : wr.drew.cell? ⟨T, i, none⟩ = some (.int .u8 (v : Int)) := HT.out.drew.at i _ (arrg_at vb _ i v hself)
              have fT2 := HT.out.drew.free i
              simp only [vb] at HT1 HB1 HF1 HZ1 hn1
              have Hj := Lib.hid hv2
              have HD := Lib.hid (And.intro cT2 fT2)
              have HTm := Lib.hid (show Calls Try.prog 47 #[.int .u8 (x : Int), .int .u8 (y : Int)] wr.drew fun e w' => e = .returned (.int .u8 ((G : Nat) : Int)) ∧ w' = wr.drew from by
                rw [hG]
                exact (refTimes_any x y hx8 hy8 wr.drew).mono fun _ _ h => ⟨h.1, h.2.symm⟩)
              clear hi hc hp hjr hs hg hx hx8 hxg hy hy8 hyp hv hv8 hself hnext hv2 hG hG8 hset HT HB HF HZ hn cT2 fT2
              go_upto_region 11 with fail
              go_still_tail 26, (by kernel_rfl)
              still_call HTm.out
              repeat still_step
              refine wpStill_nil ?_
              change wpList _ _ _ _ _ wr.drew
              clear cT cB cF HTm hxx hpi hgi wc wi wp wjr ws eg egt wg
              obtain ⟨cT2, fT2⟩ := HD.out
              clear HD
              generalize wr.drew = w6 at *
              go_wp2_with fail
              clear cT2 fT2
              generalize w6.setCell ⟨T, i, none⟩ (.int .u8 (v2 : Int)) = w7 at *
              go_roundw
              case rel =>
                have hT1 := HT1.out
                rw [Hj.out] at hT1
                first | exact ⟨j + 1, by omega, by go_num, HB1.out, HF1.out, hT1, HZ1.out, hn1⟩ | ((repeat apply Exists.intro); exact ⟨⟨j + 1, by omega, by go_num, HB1.out, HF1.out, hT1, HZ1.out, hn1⟩, rfl⟩)
              case measure => simp [intOf]; omega
            · obtain rfl : j = 4 := by omega
              have hT := HT.out
              have hMa := HMa.out c r hclt hrlt
              rw [← Hi.out] at hMa
              rw [doneF_set _ _ 16 i _ HMl.out rfl hilt hMa, Hi.out] at hT
              have HT2 := Lib.hid hT
              clear hT HT hMa
              go_wp2_with fail
              go_roundw
              case rel => first | exact ⟨r + 1, by omega, by go_num, HB.out, HF.out, HT2.out, HZ.out, hn⟩ | ((repeat apply Exists.intro); exact ⟨⟨r + 1, by omega, by go_num, HB.out, HF.out, HT2.out, HZ.out, hn⟩, rfl⟩)
              case measure => simp [intOf]; omega
        · obtain rfl : r = 4 := by omega
          have HT2 := Lib.hid (show Blk wr T 44 ((doneF M z16n (4 * (c + 1))).map vb).toArray from hT)
          clear hT
          go_wp2_with fail
          go_roundw
          case rel => first | exact ⟨c + 1, by omega, by go_num, hB, hF, HT2.out, hZ, hn⟩ | ((repeat apply Exists.intro); exact ⟨⟨c + 1, by omega, by go_num, hB, hF, HT2.out, hZ, hn⟩, rfl⟩)
          case measure => simp [intOf]; omega
    · obtain rfl : c = 4 := by omega
      rw [show 4 * 4 = 16 from rfl, doneF_all _ _ 16 HMl.out rfl] at hT
      obtain ⟨D, hD⟩ : ∃ D, D = M.map vb := ⟨_, rfl⟩
      rw [← hD] at hT
      have HT2 := Lib.hid hT
      have HZ := Lib.hid hZ
      have HD16 := Lib.hid (show D.length = 16 by rw [hD, List.length_map, HMl.out])
      have HD1 := Lib.hid (show ∀ u ∈ D, u.oneCell' = true by rw [hD]; exact vb_one _)
      have HDe := Lib.hid hD
      have HFf := Lib.hid (Blk.fill HZ.out D (by rw [HD16.out]; rfl))
      have Hnf := Lib.hid (nu_fill D (g := Z) Hap.out.2.2.2.2 0 _ hn)
      clear hT hD hn hB hF hZ
      go_wp2_with (first | (refine wpList_load_blk rfl 44 (.tmp 5) rfl T rfl 44 D.toArray HT2.out Try.underlying44 (by rw [List.size_toArray, HD16.out]; kernel_rfl) ?_) | (refine wpList_store_blk rfl 44 (.tmp 4) (.tmp 47) rfl Z D rfl rfl 44 (z16n.map vb).toArray HZ.out (by rw [HD16.out]; rfl) (by rw [HD16.out]; kernel_rfl) HD1.out ?_))
      refine bodyPost_ret (results_blk rfl _ Z 44 D.toArray rfl HFf.out Try.underlying44 (by rw [List.size_toArray, HD16.out]; kernel_rfl)) rfl ⟨by rw [HDe.out], Hnf.out⟩
end Go.Proofs.Ytpeibkdcglkimaa

namespace Go.Proofs.Ytpeibkdcglkimaa
open Go.ChangeShapes Go.WideShapes Go.ChangeAt Go.RowKit Fld Aes
set_option linter.unusedSimpArgs false

theorem eKey_load {o : Oper} {a : Act} {w : World} {g : Nat} {t : TypeId} {L : List Value} (hb : Blk w g t L.toArray) (h1 : L.length = 513) (x : Operand) (ho : o.op = .load 31 x) (hx : a.eval x = .pointer (some ⟨g, 0, none⟩)) :
    (execOp a.eval o).run Try.prog w = .ok (.value (.agg L.toArray)) w :=
  exec_load_mid (P := Try.prog) (w := w) 31 x g 0 L (.struct (Try.prog.fieldsOf 31)) ho hx (range_blk hb) (by kernel_rfl) rfl (by rw [h1]; kernel_rfl)
theorem refAdd_is {w : World} {v : Value} {W : List Nat} (hv : RowsAt w v W) {L : List Value} (hL : L = rkeyL v) (rd : Nat) (hr : 4 * rd + 4 ≤ W.length) (hr60 : rd ≤ 60) {b D : List Nat} (hb : St16 b) (hD : addK W rd b = D) :
    Calls Try.prog 53 #[.agg L.toArray, .agg (b.map vb).toArray, .int .i64 (rd : Int)] w fun e w' => e = .returned (.agg (D.map vb).toArray) ∧ Below w.heap.size w w' := by
  rw [hL, ← hD]
  exact refAdd_any hv rd hr hr60 b hb
/-- The state behind k rounds. -/
def encS (W : List Nat) (R k : Nat) (b : List Nat) : List Nat := if k = R then enc W R b else encF W k b
theorem encS_st {b : List Nat} (h : St16 b) (W : List Nat) (R k : Nat) : St16 (encS W R k b) := by
  unfold encS
  split
  · exact enc_st b W R
  · exact encF_st h W k
theorem encS_zero (W : List Nat) (R : Nat) (h : 0 < R) (b : List Nat) : encS W R 0 b = addK W 0 b := by
  unfold encS
  rw [if_neg (by omega)]
  rfl
theorem encS_succ (W : List Nat) (R k : Nat) (h : k < R) (b : List Nat) : encS W R (k + 1) b = addK W (k + 1) (if k + 1 < R then mix 2 3 1 1 (sub (encS W R k b)) else sub (encS W R k b)) := by
  unfold encS
  rw [if_neg (show ¬ k = R by omega)]
  by_cases e : k + 1 = R
  · rw [if_pos e, if_neg (by omega), ← e]
    rfl
  · rw [if_neg e, if_pos (by omega)]
    rfl
theorem sub_ix (b : List Nat) (i : Nat) (h : i < 16) : (sub b)[i]? = some (sb (b.getD (4 * ((i / 4 + i % 4) % 4) + i % 4) 0)) := by
  unfold sub
  rw [List.getElem?_map, List.getElem?_range h]
  rfl

set_option maxRecDepth 100000 in
set_option maxHeartbeats 8000000 in
theorem refEncrypt_any {w : World} {v : Value} {W : List Nat} {R : Nat} (hv : RowsAt w v W) (hK : Keyed W R) (b : List Nat) (hb : St16 b) :
    Calls Try.prog 33 #[.agg (rkeyL v).toArray, .agg (b.map vb).toArray] w fun e w' => e = .returned (.agg ((enc W R b).map vb).toArray) ∧ Below w.heap.size w w' := by
  have HV := Lib.hid hv
  obtain ⟨m, c, cur, rfl, hm, htk, hlc, hcm⟩ := hv
  unfold maxLen at hcm
  obtain ⟨L, hL⟩ : ∃ L, L = rkeyL (.slice (some ⟨m, 0, none⟩) W.length c) := ⟨_, rfl⟩
  have HL := Lib.hid hL
  have HLl := Lib.hid (show L.length = 513 by rw [hL]; exact rkeyL_len _)
  have HL0 := Lib.hid (show L.toArray[0]? = some (.slice (some ⟨m, 0, none⟩) W.length c) by rw [hL]; exact rkeyL_0 _)
  have HLb := Lib.hid (show ∀ i, i < 256 → L.toArray[1 + i]? = some (vb (sb i)) from fun i hi => by rw [hL]; exact rkeyL_box _ i hi)
  have Hb := Lib.hid hb
  have HKd := Lib.hid hK
  have HR14 := Lib.hid (show R ≤ 14 ∧ 0 < R from ⟨hK.few, hK.pos⟩)
  obtain ⟨n, hn⟩ : ∃ n, n = W.length := ⟨_, rfl⟩
  have hnR : n = 4 * (R + 1) := by rw [hn]; exact hK.len
  have Hn := Lib.hid hn
  have HnR := Lib.hid hnR
  rw [← hL]
  rw [← hn] at hlc HL0
  have hal := nu_alloc (nu_alloc (nu_alloc (nu_refl w) (.cells L.toArray 31)) (.cells (b.map vb).toArray 44)) (.cells (z16n.map vb).toArray 44)
  have HK := Lib.hid (((Blk.made w 31 L.toArray).alloc (.cells (b.map vb).toArray 44)).alloc (.cells (z16n.map vb).toArray 44))
  have HB := Lib.hid ((Blk.made1 w (.cells L.toArray 31) 44 (b.map vb).toArray).alloc (.cells (z16n.map vb).toArray 44))
  have HZ := Lib.hid (Blk.made2 w (.cells L.toArray 31) (.cells (b.map vb).toArray 44) 44 (z16n.map vb).toArray)
  clear hm htk hb hn hL hK
  go_enter Try.func33, Try.ntmps33
  go_upto_region 1 with fail
  change Code.wp _ _ _ _ (((w.alloc (.cells L.toArray 31)).alloc (.cells (b.map vb).toArray 44)).alloc (.cells (z16n.map vb).toArray 44))
  have Hal := Lib.hid hal
  clear hal
  generalize ((w.alloc (.cells L.toArray 31)).alloc (.cells (b.map vb).toArray 44)).alloc (.cells (z16n.map vb).toArray 44) = w1 at *
  obtain ⟨Z, hZ⟩ : ∃ Z, Z = w.heap.size + 1 + 1 := ⟨_, rfl⟩
  obtain ⟨B, hB⟩ : ∃ B, B = w.heap.size + 1 := ⟨_, rfl⟩
  obtain ⟨K, hK⟩ : ∃ K, K = w.heap.size := ⟨_, rfl⟩
  rw [← hZ] at HZ
  rw [← hB] at HB
  rw [← hK] at HK
  rw [← hZ, ← hB, ← hK]
  have Hap := Lib.hid (show K ≠ B ∧ Z ≠ B ∧ w.heap.size ≤ B ∧ w.heap.size ≤ Z from ⟨by omega, by omega, by omega, by omega⟩)
  clear hZ hB hK
  obtain ⟨R1, hR1⟩ : ∃ R1, R1 = R + 1 := ⟨_, rfl⟩
  have etq : Int.tdiv (n : Int) 4 = (R1 : Int) := by rw [Int.tdiv_eq_ediv_of_nonneg (by omega)]; omega
  have ekq : (n : Int) / 4 = (R1 : Int) := by omega
  have wq : IntKind.i64.wrap (R1 : Int) = (R1 : Int) := by rw [IntKind.wrap_i64]; have := HR14.out; omega
  have wq1 : IntKind.i64.wrap ((R1 : Int) - 1) = (R : Int) := by rw [IntKind.wrap_i64]; have := HR14.out; omega
  have wq2 : (R1 : Int) - 1 = (R : Int) := by omega
  have cK : w1.cell? ⟨K, 0, none⟩ = some (.slice (some ⟨m, 0, none⟩) n c) := HK.out.at 0 _ HL0.out
  clear hR1 hnR
  obtain ⟨b0, hb0⟩ : ∃ b0, b0 = addK W 0 b := ⟨_, rfl⟩
  have HAdd := Lib.hid (refAdd_is (HV.out.below Hal.out) HL.out 0 (by have := HnR.out; have := Hn.out; omega) (by omega) Hb.out hb0.symm)
  have Hb0 := Lib.hid (show St16 b0 by rw [hb0]; exact addK_st Hb.out W 0)
  have Hb0e := Lib.hid (show b0 = encS W R 0 b by rw [hb0, encS_zero W R HR14.out.2])
  clear hb0
  go_upto_region 2 with fail
  clear etq ekq wq wq1 wq2 cK
  have Hb16 := Lib.hid Hb.out
  have Hb016 := Lib.hid Hb0.out
  go_wp2_with (first | (refine wpList_run _ (by rfl) (eKey_load HK.out HLl.out (.tmp 2) rfl rfl) ?_) | (refine wpList_run _ (by rfl) (e16_load HB.out Hb.out.1 (.tmp 3) rfl rfl) ?_))
  refine HAdd.out.mono ?_
  rintro e w2 ⟨rfl, hb2⟩
  have HK2 := Lib.hid (HK.out.below hb2 HK.out.lt)
  have HB2 := Lib.hid (HB.out.below hb2 HB.out.lt)
  have HZ2 := Lib.hid (HZ.out.below hb2 HZ.out.lt)
  have HFB := Lib.hid (Blk.fill HB2.out (b0.map vb) (by rw [List.length_map, Hb0.out.1, List.size_toArray, List.length_map, Hb.out.1]))
  have HKf := Lib.hid (HK2.out.farCells (b0.map vb) Hap.out.1 0)
  have HZf := Lib.hid (HZ2.out.farCells (b0.map vb) Hap.out.2.1 0)
  have Hnf := Lib.hid (nu_fill (b0.map vb) (g := B) Hap.out.2.2.1 0 _ (nu_trans Hal.out hb2))
  clear hb2 HK HB HZ Hal HAdd HK2 HZ2
  go_upto_region 3 with (refine wpList_store_blk rfl 44 (.tmp 3) (.tmp 17) rfl B (b0.map vb) rfl rfl 44 (b.map vb).toArray HB2.out (by rw [List.length_map, Hb016.out.1, List.size_toArray, List.length_map, Hb16.out.1]) (by rw [List.length_map, Hb016.out.1]; kernel_rfl) (vb_one _) ?_)
  change Code.wp _ _ _ _ (w2.setCells B 0 (b0.map vb))
  clear HB2
  generalize w2.setCells B 0 (b0.map vb) = w3 at *
  rw [Hb0e.out] at HFB
  have Hnw := Lib.hid Hnf.out.size
  go_wp2_with fail
  go_loopw [6] (fun i wr => ∃ k : Nat, k ≤ R ∧ i = .int .i64 ((k + 1 : Nat) : Int) ∧ Blk wr K 31 L.toArray ∧ Blk wr B 44 ((encS W R k b).map vb).toArray ∧ Blk wr Z 44 (z16n.map vb).toArray ∧ Below w.heap.size w wr) (fun i _ => R + 1 - (intOf i).toNat)
  case atStart => exact ⟨0, by omega, rfl, HKf.out, HFB.out, HZf.out, Hnf.out⟩
  case round =>
    clear HKf HFB HZf Hnf Hb0 Hb0e Hb016
    obtain ⟨k, hkR, rfl, hK, hB, hZ, hn⟩ := hrel
    obtain ⟨st, hst⟩ : ∃ st, st = encS W R k b := ⟨_, rfl⟩
    have Hst16 := Lib.hid (show St16 st by rw [hst]; exact encS_st Hb.out W R k)
    rw [← hst] at hB
    have Hst := Lib.hid hst
    have HK := Lib.hid hK
    have HB := Lib.hid hB
    have HZ := Lib.hid hZ
    clear hK hB hZ hst
    obtain ⟨rd, hrd⟩ : ∃ rd, rd = k + 1 := ⟨_, rfl⟩
    rw [← hrd]
    by_cases hk : k < R
    · have hri : (rd : Int) ≤ (R : Int) := by omega
      have Hrd := Lib.hid hrd
      obtain ⟨s, hs⟩ : ∃ s, s = sub st := ⟨_, rfl⟩
      have Hs16 := Lib.hid (show St16 s by rw [hs]; exact sub_st st)
      have Hsa := Lib.hid (show ∀ i, i < 16 → s[i]? = some (sb (st.getD (4 * ((i / 4 + i % 4) % 4) + i % 4) 0)) by rw [hs]; exact sub_ix st)
      have Hs := Lib.hid hs
      have HTm := Lib.hid (Blk.made wr 44 (z16n.map vb).toArray)
      have hal := nu_alloc (nu_refl wr) (.cells (z16n.map vb).toArray 44)
      have HK1 := Lib.hid (HK.out.below hal HK.out.lt)
      have HB1 := Lib.hid (HB.out.below hal HB.out.lt)
      have HZ1 := Lib.hid (HZ.out.below hal HZ.out.lt)
      have hn1 := nu_trans hn hal
      have HapT := Lib.hid (show K ≠ wr.heap.size ∧ B ≠ wr.heap.size ∧ Z ≠ wr.heap.size ∧ w.heap.size ≤ wr.heap.size from ⟨Nat.ne_of_lt HK.out.lt, Nat.ne_of_lt HB.out.lt, Nat.ne_of_lt HZ.out.lt, hn.size⟩)
      clear hal HK HB HZ hn hs hrd
      go_upto_region 7 with fail
      change Code.wp _ _ _ _ (wr.alloc (.cells (z16n.map vb).toArray 44))
      generalize wr.alloc (.cells (z16n.map vb).toArray 44) = w4 at *
      obtain ⟨T, hT⟩ : ∃ T, T = wr.heap.size := ⟨_, rfl⟩
      rw [← hT] at HTm HapT
      rw [← hT]
      clear hT
      go_wp2_with fail
      go_loopw [8] (fun i wr => ∃ k : Nat, k ≤ 4 ∧ i = .int .i64 k ∧ Blk wr K 31 L.toArray ∧ Blk wr B 44 (st.map vb).toArray ∧ Blk wr Z 44 (z16n.map vb).toArray ∧ Blk wr T 44 ((doneF s z16n (4 * k)).map vb).toArray ∧ Below w.heap.size w wr) (fun i _ => 4 - (intOf i).toNat)
      case atStart => exact ⟨0, by omega, rfl, HK1.out, HB1.out, HZ1.out, HTm.out, hn1⟩
      case round =>
        clear HK1 HB1 HZ1 HTm hn1
        obtain ⟨c, hc4, rfl, hK, hB, hZ, hT, hn⟩ := hrel
        by_cases hclt : c < 4
        · have hci : (c : Int) < 4 := by omega
          obtain ⟨wo, rfl⟩ : ∃ q : World, q = wr := ⟨_, rfl⟩
          go_wp2_with fail
          go_loopw [9] (fun i wr => ∃ k : Nat, k ≤ 4 ∧ i = .int .i64 k ∧ Blk wr K 31 L.toArray ∧ Blk wr B 44 (st.map vb).toArray ∧ Blk wr Z 44 (z16n.map vb).toArray ∧ Blk wr T 44 ((doneF s z16n (4 * c + k)).map vb).toArray ∧ Below w.heap.size w wr) (fun i _ => 4 - (intOf i).toNat)
          case atStart => exact ⟨0, by omega, rfl, hK, hB, hZ, hT, hn⟩
          case round =>
            clear hK hB hZ hT hn
            obtain ⟨r, hr4, rfl, hK, hB, hZ, hT, hn⟩ := hrel
            have HK := Lib.hid hK
            have HB := Lib.hid hB
            have HZ := Lib.hid hZ
            by_cases hrlt : r < 4
            · have hri4 : (r : Int) < 4 := by omega
              obtain ⟨i, hi⟩ : ∃ i, i = 4 * c + r := ⟨_, rfl⟩
              rw [← hi] at hT
              have HT := Lib.hid hT
              clear hK hB hZ hT
              have hilt : i < 16 := by omega
              obtain ⟨c4, hc⟩ : ∃ c4, c4 = 4 * c := ⟨_, rfl⟩
              have wc : IntKind.i64.wrap (4 * (c : Int)) = (c4 : Int) := by rw [IntKind.wrap_i64]; omega
              have wi : IntKind.i64.wrap ((c4 : Int) + (r : Int)) = (i : Int) := by rw [IntKind.wrap_i64]; omega
              have hii : (i : Int) < 16 := by omega
              obtain ⟨cr, hcr⟩ : ∃ cr, cr = c + r := ⟨_, rfl⟩
              have wcr : IntKind.i64.wrap ((c : Int) + (r : Int)) = (cr : Int) := by rw [IntKind.wrap_i64]; omega
              obtain ⟨q, hq⟩ : ∃ q, q = cr % 4 := ⟨_, rfl⟩
              have eq4 : (cr : Int) % 4 = (q : Int) := by omega
              have eqt : Int.tmod (cr : Int) 4 = (q : Int) := by rw [Int.tmod_eq_emod_of_nonneg (by omega)]; omega
              have wq : IntKind.i64.wrap (q : Int) = (q : Int) := by rw [IntKind.wrap_i64]; omega
              obtain ⟨q4, hq4⟩ : ∃ q4, q4 = 4 * q := ⟨_, rfl⟩
              have wq4 : IntKind.i64.wrap (4 * (q : Int)) = (q4 : Int) := by rw [IntKind.wrap_i64]; omega
              obtain ⟨p, hp⟩ : ∃ p, p = q4 + r := ⟨_, rfl⟩
              have wp : IntKind.i64.wrap ((q4 : Int) + (r : Int)) = (p : Int) := by rw [IntKind.wrap_i64]; omega
              have hpi : (p : Int) < 16 := by omega
              obtain ⟨y, hy⟩ : ∃ y, y = st.getD p 0 := ⟨_, rfl⟩
              have hy8 : y < 256 := by rw [hy]; exact Hst16.out.getD p
              have hyi : (y : Int) < 256 := by omega
              have hyp : st[p]? = some y := by rw [hy, List.getD_eq_getElem?_getD, List.getElem?_eq_getElem (by rw [Hst16.out.1]; omega)]; rfl
              obtain ⟨z, hz⟩ : ∃ z, z = sb y := ⟨_, rfl⟩
              have cB : wr.cell? ⟨B, p, none⟩ = some (.int .u8 (y : Int)) := HB.out.at p _ (arrg_at vb _ p y hyp)
              have cK : wr.cell? ⟨K, 1 + y, none⟩ = some (.int .u8 (z : Int)) := by rw [hz]; exact HK.out.at (1 + y) _ (HLb.out y hy8)
              have hsi := Hsa.out i hilt
              rw [show 4 * ((i / 4 + i % 4) % 4) + i % 4 = p by omega, ← hy, ← hz] at hsi
              have hold : (doneF s z16n i)[i]? = some 0 := by
                rw [doneF_old _ _ 16 i i Hs16.out.1 (Nat.le_refl _) (by omega)]
                exact z16_at i hilt
              have cT : wr.cell? ⟨T, i, none⟩ = some (.int .u8 ((0 : Nat) : Int)) := HT.out.at i _ (arrg_at vb _ i 0 hold)
              have fT := HT.out.free i
              have hset := HT.out.put i (vb z)
              rw [arrg_set, doneF_set _ _ 16 i z Hs16.out.1 rfl hilt hsi, hi] at hset
              have HT1 := Lib.hid hset
              rw [← hi] at HT1
              have HK1 := Lib.hid (HK.out.far (p := ⟨T, i, none⟩) HapT.out.1 (vb z))
              have HB1 := Lib.hid (HB.out.far (p := ⟨T, i, none⟩) HapT.out.2.1 (vb z))
              have HZ1 := Lib.hid (HZ.out.far (p := ⟨T, i, none⟩) HapT.out.2.2.1 (vb z))
              have hn1 := nu_set hn (p := ⟨T, i, none⟩) HapT.out.2.2.2 (vb z)
              simp only [vb] at HT1 HK1 HB1 HZ1 hn1
              have Hi := Lib.hid hi
              clear hi hc hcr hq hq4 hp hy hy8 hyp hz hsi hold hset HK HB HZ HT hn
              go_wp2_with fail
              clear cB cK cT fT wc wi wcr eq4 eqt wq wq4 wp
              generalize wr.setCell ⟨T, i, none⟩ (.int .u8 (z : Int)) = w7 at *
              go_roundw
              case rel =>
                have hT1 := HT1.out
                rw [Hi.out] at hT1
                first | exact ⟨r + 1, by omega, by go_num, HK1.out, HB1.out, HZ1.out, hT1, hn1⟩ | ((repeat apply Exists.intro); exact ⟨⟨r + 1, by omega, by go_num, HK1.out, HB1.out, HZ1.out, hT1, hn1⟩, rfl⟩)
              case measure => simp [intOf]; omega
            · obtain rfl : r = 4 := by omega
              have HT2 := Lib.hid (show Blk wr T 44 ((doneF s z16n (4 * (c + 1))).map vb).toArray from hT)
              clear hT hK hB hZ
              go_wp2_with fail
              go_roundw
              case rel => first | exact ⟨c + 1, by omega, by go_num, HK.out, HB.out, HZ.out, HT2.out, hn⟩ | ((repeat apply Exists.intro); exact ⟨⟨c + 1, by omega, by go_num, HK.out, HB.out, HZ.out, HT2.out, hn⟩, rfl⟩)
              case measure => simp [intOf]; omega
        · obtain rfl : c = 4 := by omega
          rw [show 4 * 4 = 16 from rfl, doneF_all _ _ 16 Hs16.out.1 rfl] at hT
          have HK := Lib.hid hK
          have HB := Lib.hid hB
          have HZ := Lib.hid hZ
          have HT := Lib.hid hT
          clear hK hB hZ hT
          obtain ⟨g, hg⟩ : ∃ g, g = if rd < R then mix 2 3 1 1 s else s := ⟨_, rfl⟩
          have Hg16 := Lib.hid (show St16 g by
            rw [hg]
            split
            · exact mix_st 2 3 1 1 (by omega) (by omega) (by omega) (by omega) s
            · exact Hs16.out)
          have Hge := Lib.hid (show encS W R (k + 1) b = addK W rd g by rw [encS_succ W R k hk, hg, Hrd.out, Hs.out, Hst.out])
          go_upto_if 50 with fail
          go_cut [6] (fun s6 wx => s6 = .int .i64 (rd : Int) ∧ Blk wx K 31 L.toArray ∧ Blk wx B 44 (st.map vb).toArray ∧ Blk wx Z 44 (z16n.map vb).toArray ∧ Blk wx T 44 (g.map vb).toArray ∧ Below w.heap.size w wx)
          case first =>
            by_cases hlt : rd < R
            · have hli : (rd : Int) < (R : Int) := by omega
              rw [if_pos hlt] at hg
              have HM := Lib.hid (show Calls Try.prog 54 #[.agg (s.map vb).toArray, .agg #[.int .u8 2, .int .u8 3, .int .u8 1, .int .u8 1]] wr fun e w' => e = .returned (.agg (g.map vb).toArray) ∧ Below wr.heap.size wr w' from by
                rw [hg]
                exact refMixed_any (w := wr) 2 3 1 1 (by omega) (by omega) (by omega) (by omega) s Hs16.out)
              clear hg
              obtain ⟨wo, rfl⟩ : ∃ q : World, q = wr := ⟨_, rfl⟩
              go_wp2_with (refine wpList_run _ (by rfl) (e16_load HT.out Hs16.out.1 (.tmp 7) rfl rfl) ?_)
              refine HM.out.mono ?_
              rintro e w5 ⟨rfl, hb5⟩
              have HT5 := Lib.hid (HT.out.below hb5 HT.out.lt)
              have HF5 := Lib.hid (Blk.fill HT5.out (g.map vb) (by rw [List.length_map, Hg16.out.1, List.size_toArray, List.length_map, Hs16.out.1]))
              have HK5 := Lib.hid ((HK.out.below hb5 HK.out.lt).farCells (g.map vb) HapT.out.1 0)
              have HB5 := Lib.hid ((HB.out.below hb5 HB.out.lt).farCells (g.map vb) HapT.out.2.1 0)
              have HZ5 := Lib.hid ((HZ.out.below hb5 HZ.out.lt).farCells (g.map vb) HapT.out.2.2.1 0)
              have Hn5 := Lib.hid (nu_fill (g.map vb) (g := T) HapT.out.2.2.2 0 _ (nu_trans hn hb5))
              clear hb5 HK HB HZ HT hn
              go_wp2_with (refine wpList_store_blk rfl 44 (.tmp 7) (.tmp 53) rfl T (g.map vb) rfl rfl 44 (s.map vb).toArray HT5.out (by rw [List.length_map, Hg16.out.1, List.size_toArray, List.length_map, Hs16.out.1]) (by rw [List.length_map, Hg16.out.1]; kernel_rfl) (vb_one _) ?_)
              go_meet
              exact ⟨rfl, HK5.out, HB5.out, HZ5.out, HF5.out, Hn5.out⟩
            · have hli : ¬ (rd : Int) < (R : Int) := by omega
              rw [if_neg hlt] at hg
              go_wp2_with fail
              go_meet
              exact ⟨rfl, HK.out, HB.out, HZ.out, by rw [hg]; exact HT.out, hn⟩
          case rest =>
            obtain ⟨rfl, hK, hB, hZ, hT, hn4⟩ := hcut
            clear hg HK HB HZ HT hn
            have HK := Lib.hid hK
            have HB := Lib.hid hB
            have HZ := Lib.hid hZ
            have HT := Lib.hid hT
            clear hK hB hZ hT
            obtain ⟨D, hD⟩ : ∃ D, D = addK W rd g := ⟨_, rfl⟩
            have HD16 := Lib.hid (show St16 D by rw [hD]; exact addK_st Hg16.out W rd)
            have HA := Lib.hid (refAdd_is (HV.out.below hn4) HL.out rd (by have := HnR.out; have := Hn.out; omega) (by have := HR14.out; omega) Hg16.out hD.symm)
            have HDe := Lib.hid (show encS W R (k + 1) b = D by rw [hD, Hge.out])
            clear hD
            obtain ⟨wo, rfl⟩ : ∃ q : World, q = wc := ⟨_, rfl⟩
            go_wp2_with (first | (refine wpList_run _ (by rfl) (eKey_load HK.out HLl.out (.tmp 2) rfl rfl) ?_) | (refine wpList_run _ (by rfl) (e16_load HT.out Hg16.out.1 (.tmp 7) rfl rfl) ?_))
            refine HA.out.mono ?_
            rintro e w5 ⟨rfl, hb5⟩
            have HB5 := Lib.hid (HB.out.below hb5 HB.out.lt)
            have HF5 := Lib.hid (Blk.fill HB5.out (D.map vb) (by rw [List.length_map, HD16.out.1, List.size_toArray, List.length_map, Hst16.out.1]))
            have HK5 := Lib.hid ((HK.out.below hb5 HK.out.lt).farCells (D.map vb) Hap.out.1 0)
            have HZ5 := Lib.hid ((HZ.out.below hb5 HZ.out.lt).farCells (D.map vb) Hap.out.2.1 0)
            have Hn5 := Lib.hid (nu_fill (D.map vb) (g := B) Hap.out.2.2.1 0 _ (nu_trans hn4 hb5))
            clear hb5 HK HB HZ HT hn4 HA
            obtain ⟨rd2, hrd2⟩ : ∃ x, x = rd + 1 := ⟨_, rfl⟩
            have wrd : IntKind.i64.wrap ((rd : Int) + 1) = (rd2 : Int) := by rw [IntKind.wrap_i64]; have := HR14.out; omega
            have Hrd2 := Lib.hid hrd2
            clear hrd2
            go_wp2_with (refine wpList_store_blk rfl 44 (.tmp 3) (.tmp 57) rfl B (D.map vb) rfl rfl 44 (st.map vb).toArray HB5.out (by rw [List.length_map, HD16.out.1, List.size_toArray, List.length_map, Hst16.out.1]) (by rw [List.length_map, HD16.out.1]; kernel_rfl) (vb_one _) ?_)
            go_roundw
            case rel =>
              have hF : Blk (w5.setCells B 0 (D.map vb)) B 44 ((encS W R (k + 1) b).map vb).toArray := by rw [HDe.out]; exact HF5.out
              have hkr : k + 1 ≤ R := hk
              have hv : Value.int .i64 (rd2 : Int) = .int .i64 ((k + 1 + 1 : Nat) : Int) := by rw [Hrd2.out, Hrd.out]
              first | exact ⟨k + 1, hkr, hv, HK5.out, hF, HZ5.out, Hn5.out⟩ | ((repeat apply Exists.intro); exact ⟨⟨k + 1, hkr, hv, HK5.out, hF, HZ5.out, Hn5.out⟩, rfl⟩)
            case measure =>
              have := Hrd2.out
              simp [intOf]; omega
    · obtain rfl : k = R := by omega
      have hri : ¬ (rd : Int) ≤ (k : Int) := by omega
      obtain ⟨D, hD⟩ : ∃ D, D = st := ⟨_, rfl⟩
      have HD16 := Lib.hid (show St16 D by rw [hD]; exact Hst16.out)
      have HDe := Lib.hid (show D = enc W k b by rw [hD, Hst.out]; unfold encS; rw [if_pos rfl])
      rw [← hD] at HB
      have HF := Lib.hid (Blk.fill HZ.out (D.map vb) (by rw [List.length_map, HD16.out.1]; rfl))
      have Hnf := Lib.hid (nu_fill (D.map vb) (g := Z) Hap.out.2.2.2 0 _ hn)
      have Hz16n16 := Lib.hid (show St16 z16n from ⟨rfl, by decide⟩)
      clear hD hn HK hrd
      go_wp2_with (first | (refine wpList_run _ (by rfl) (e16_load HB.out HD16.out.1 (.tmp 3) rfl rfl) ?_) | (refine wpList_store_blk rfl 44 (.tmp 4) (.tmp 58) rfl Z (D.map vb) rfl rfl 44 (z16n.map vb).toArray HZ.out (by rw [List.length_map, HD16.out.1, List.size_toArray, List.length_map, Hz16n16.out.1]) (by rw [List.length_map, HD16.out.1]; kernel_rfl) (vb_one _) ?_))
      refine bodyPost_ret (results_blk rfl _ Z 44 (D.map vb).toArray rfl HF.out Try.underlying44 (by rw [List.size_toArray, List.length_map, HD16.out.1]; kernel_rfl)) rfl ⟨by rw [HDe.out], Hnf.out⟩
end Go.Proofs.Ytpeibkdcglkimaa
