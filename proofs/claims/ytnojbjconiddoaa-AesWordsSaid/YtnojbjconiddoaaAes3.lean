/-
  A cipher that is made; the walk of aes' load.
-/
import Derived.Test.YtnojbjconiddoaaAes2
import Derived.Test.YtnojbjconiddoaaFill
import Derived.Test.YtnojbjconiddoaaRun
import Derived.StillTailTactics
namespace Go.Proofs.Ytnojbjconiddoaa
open Go.ChangeShapes Go.WideShapes Go.ChangeAt Go.RowKit Fld Aes
set_option linter.unusedSimpArgs false

theorem arrg_set (f : Nat → Value) (l : List Nat) (j x : Nat) : ((l.map f).toArray).setIfInBounds j (f x) = ((l.set j x).map f).toArray := by
  rw [List.setIfInBounds_toArray, List.map_set]
theorem arrg_at (f : Nat → Value) (l : List Nat) (j x : Nat) (hx : l[j]? = some x) : ((l.map f).toArray)[j]? = some (f x) := by
  rw [List.getElem?_toArray, List.getElem?_map, hx]; rfl

/-- A cipher of the words W and R rounds. -/
def CiphAt (w : World) (C : Nat) (W : List Nat) (R : Nat) : Prop :=
  ∃ x m c cur, Blk w C 75 (ciph (.slice (some ⟨m, 0, none⟩) W.length c) R x) ∧ Blk w m 52 cur ∧ cur.toList.take W.length = W.map uv ∧ BoxAt w x ∧ x < w.heap.size ∧ W.length ≤ c ∧ c ≤ maxLen
theorem CiphAt.below {w w' : World} {C : Nat} {W : List Nat} {R : Nat} (h : CiphAt w C W R) (hb : Below w.heap.size w w') : CiphAt w' C W R := by
  obtain ⟨x, m, c, cur, h1, h2, h3, h4, h5, h6⟩ := h
  exact ⟨x, m, c, cur, h1.below hb h1.lt, h2.below hb h2.lt, h3, h4.below hb h5, Nat.lt_of_lt_of_le h5 hb.size, h6⟩
theorem ciphAt_new {w u : World} {C x B0 R : Nat} {W : List Nat} {v : Value} (h : NewAt w C x B0 R W v u) (hW : 0 < W.length) : CiphAt u C W R := by
  rcases h.own.2 with ⟨_, h0⟩ | ⟨m, c, cur, rfl, hb, hm, hc1, hc2, _, htk⟩
  · omega
  · exact ⟨x, m, c, cur, h.c, hm, by rw [Nat.mul_one] at htk; exact htk, h.box, by have := h.c.lt; have := h.ord; omega, hc1, hc2⟩
theorem word_at {w : World} {m : Nat} {cur : Array Value} {W : List Nat} (hm : Blk w m 52 cur) (ht : cur.toList.take W.length = W.map uv) (i : Nat) (hi : i < W.length) : w.cell? ⟨m, i, none⟩ = some (.int .u32 ((W.getD i 0 : Nat) : Int)) := by
  have hx : W[i]? = some (W.getD i 0) := by rw [List.getD_eq_getElem?_getD, List.getElem?_eq_getElem hi]; rfl
  refine hm.at i _ ?_
  have e1 : (cur.toList.take W.length)[i]? = some (uv (W.getD i 0)) := by rw [ht, List.getElem?_map, hx]; rfl
  rw [List.getElem?_take, if_pos hi] at e1
  rw [← Array.getElem?_toList]
  exact e1

theorem or_word (x0 x1 x2 x3 : Nat) (h0 : x0 < 256) (h1 : x1 < 256) (h2 : x2 < 256) (h3 : x3 < 256) :
    bits .or .u32 (bits .or .u32 (bits .or .u32 (IntKind.u32.wrap ((x0 : Int) * 16777216)) (IntKind.u32.wrap ((x1 : Int) * 65536))) (IntKind.u32.wrap ((x2 : Int) * 256))) (x3 : Int) = ((wN x0 x1 x2 x3 : Nat) : Int) := by
  rw [show IntKind.u32.wrap ((x0 : Int) * 16777216) = (x0 : Int) * 16777216 by rw [IntKind.wrap_u32]; omega, show IntKind.u32.wrap ((x1 : Int) * 65536) = (x1 : Int) * 65536 by rw [IntKind.wrap_u32]; omega, show IntKind.u32.wrap ((x2 : Int) * 256) = (x2 : Int) * 256 by rw [IntKind.wrap_u32]; omega]
  exact wN_or x0 x1 x2 x3 h0 h1 h2 h3

/-- A state's columns, xored with a round's words. -/
def colOf (b : List Nat) (i : Nat) : Nat := wN (b.getD (4 * i) 0) (b.getD (4 * i + 1) 0) (b.getD (4 * i + 2) 0) (b.getD (4 * i + 3) 0)
theorem colOf_lt {b : List Nat} (h : St16 b) (i : Nat) : colOf b i < 4294967296 := wN_lt _ _ _ _ (h.getD _) (h.getD _) (h.getD _) (h.getD _)
def loadL (W : List Nat) (r : Nat) (b : List Nat) : List Nat := (List.range 4).map fun i => colOf b i ^^^ W.getD (4 * r + i) 0
theorem loadL_len (W : List Nat) (r : Nat) (b : List Nat) : (loadL W r b).length = 4 := by simp [loadL]
theorem loadL_at (W : List Nat) (r : Nat) (b : List Nat) (i : Nat) (hi : i < 4) : (loadL W r b)[i]? = some (colOf b i ^^^ W.getD (4 * r + i) 0) := by
  simp [loadL, hi]
/-- The first k are done, the others are as they were. -/
def doneF (L l : List Nat) (k : Nat) : List Nat := L.take k ++ l.drop k
theorem doneF_zero (L l : List Nat) : doneF L l 0 = l := by simp [doneF]
theorem doneF_all (L l : List Nat) (n : Nat) (h1 : L.length = n) (h2 : l.length = n) : doneF L l n = L := by
  unfold doneF
  rw [List.take_of_length_le (by omega), List.drop_of_length_le (by omega), List.append_nil]
theorem doneF_len (L l : List Nat) (n k : Nat) (h1 : L.length = n) (h2 : l.length = n) (hk : k ≤ n) : (doneF L l k).length = n := by simp [doneF]; omega
theorem doneF_old (L l : List Nat) (n k i : Nat) (h1 : L.length = n) (hk : k ≤ i) (hi : k ≤ n) : (doneF L l k)[i]? = l[i]? := by
  unfold doneF
  rw [List.getElem?_append_right (by simp; omega), List.length_take, List.getElem?_drop]
  congr 1; omega
theorem doneF_new (L l : List Nat) (n k i : Nat) (h1 : L.length = n) (hk : i < k) (hi : k ≤ n) : (doneF L l k)[i]? = L[i]? := by
  unfold doneF
  rw [List.getElem?_append_left (by simp; omega), List.getElem?_take, if_pos hk]
theorem doneF_set (L l : List Nat) (n k x : Nat) (h1 : L.length = n) (h2 : l.length = n) (hk : k < n) (hx : L[k]? = some x) : (doneF L l k).set k x = doneF L l (k + 1) := by
  apply List.ext_getElem?
  intro i
  rw [List.getElem?_set]
  by_cases e : k = i
  · subst e
    rw [if_pos rfl, if_pos (by rw [doneF_len L l n k h1 h2 (by omega)]; exact hk), doneF_new L l n (k + 1) k h1 (by omega) (by omega), hx]
  · rw [if_neg e]
    by_cases h : i < k
    · rw [doneF_new L l n k i h1 h (by omega), doneF_new L l n (k + 1) i h1 (by omega) (by omega)]
    · rw [doneF_old L l n k i h1 (by omega) (by omega), doneF_old L l n (k + 1) i h1 (by omega) (by omega)]
abbrev z4 : List Nat := [0, 0, 0, 0]

set_option maxRecDepth 100000 in
set_option maxHeartbeats 2000000 in
theorem load_any {w : World} {C R : Nat} {W : List Nat} (hC : CiphAt w C W R) (hW : Small W) (r : Nat) (hr : 4 * r + 4 ≤ W.length) (hr60 : r ≤ 60) (b : List Nat) (hb : St16 b) :
    Calls Try.prog 52 #[.pointer (some ⟨C, 0, none⟩), .agg (b.map vb).toArray, .int .i64 (r : Int)] w fun e w' => e = .returned (.agg ((loadL W r b).map uv).toArray) ∧ Below w.heap.size w w' := by
  obtain ⟨x, m, c, cur, hc, hm, htk, _, _, hlc, hcm⟩ := hC
  have HC0 := Lib.hid (Blk.at hc 0 _ rfl)
  have hCl := hc.lt
  have hml := hm.lt
  have Hm := Lib.hid hm
  have Ht := Lib.hid htk
  have Hb := Lib.hid hb
  have hal := nu_alloc (nu_alloc (nu_alloc (nu_refl w) (.cells (b.map vb).toArray 22)) (.cells (z4.map uv).toArray 86)) (.cells (z4.map uv).toArray 86)
  have HB := Lib.hid (((Blk.made w 22 (b.map vb).toArray).alloc (.cells (z4.map uv).toArray 86)).alloc (.cells (z4.map uv).toArray 86))
  have HZ := Lib.hid ((Blk.made1 w (.cells (b.map vb).toArray 22) 86 (z4.map uv).toArray).alloc (.cells (z4.map uv).toArray 86))
  have HS := Lib.hid (Blk.made2 w (.cells (b.map vb).toArray 22) (.cells (z4.map uv).toArray 86) 86 (z4.map uv).toArray)
  unfold maxLen at hcm
  clear hc hm htk hb
  go_enter Try.func52, Try.ntmps52
  go_upto_region 2 with fail
  change Code.wp _ _ _ _ (((w.alloc (.cells (b.map vb).toArray 22)).alloc (.cells (z4.map uv).toArray 86)).alloc (.cells (z4.map uv).toArray 86))
  generalize ((w.alloc (.cells (b.map vb).toArray 22)).alloc (.cells (z4.map uv).toArray 86)).alloc (.cells (z4.map uv).toArray 86) = w1 at *
  obtain ⟨Z, hZ⟩ : ∃ Z, Z = w.heap.size + 1 := ⟨_, rfl⟩
  obtain ⟨S, hS⟩ : ∃ S, S = w.heap.size + 1 + 1 := ⟨_, rfl⟩
  rw [← hZ] at HZ
  rw [← hS] at HS
  rw [← hS, ← hZ]
  have Hap := Lib.hid (show Z ≠ S ∧ w.heap.size ≠ S ∧ w.heap.size ≤ S ∧ w.heap.size ≤ Z from ⟨by omega, by omega, by omega, by omega⟩)
  clear hZ hS
  go_wp2_with fail
  go_loopw [9] (fun i wr => ∃ k : Nat, k ≤ 4 ∧ i = .int .i64 k ∧ Blk wr w.heap.size 22 (b.map vb).toArray ∧ Blk wr Z 86 (z4.map uv).toArray ∧ Blk wr S 86 ((doneF (loadL W r b) z4 k).map uv).toArray ∧ Below w.heap.size w wr) (fun i _ => 4 - (intOf i).toNat)
  case atStart => exact ⟨0, by omega, rfl, HB.out, HZ.out, HS.out, hal⟩
  case round =>
    clear HB HZ HS hal
    obtain ⟨k, hk, rfl, hB, hZ, hS, hn⟩ := hrel
    have HB := Lib.hid hB
    have HZ := Lib.hid hZ
    have HS := Lib.hid hS
    clear hB hZ hS
    by_cases hlt : k < 4
    · have hki : (k : Int) < 4 := by omega
      have e0 : ∀ j, j < 4 → ∃ x : Nat, x < 256 ∧ b[4 * k + j]? = some x ∧ b.getD (4 * k + j) 0 = x := fun j hj => by
        have hlt : 4 * k + j < b.length := by rw [Hb.out.1]; omega
        have h1 := List.getElem?_eq_getElem hlt
        exact ⟨b[4 * k + j], Hb.out.2 _ (List.getElem_mem hlt), h1, by rw [List.getD_eq_getElem?_getD, h1]; rfl⟩
      obtain ⟨x0, hx0, ex0, ey0⟩ := e0 0 (by omega)
      obtain ⟨x1, hx1, ex1, ey1⟩ := e0 1 (by omega)
      obtain ⟨x2, hx2, ex2, ey2⟩ := e0 2 (by omega)
      obtain ⟨x3, hx3, ex3, ey3⟩ := e0 3 (by omega)
      have hcol : colOf b k = wN x0 x1 x2 x3 := by unfold colOf; rw [show 4 * k = 4 * k + 0 from rfl, ey0, ey1, ey2, ey3]
      have hc32 := colOf_lt Hb.out k
      rw [hcol] at hc32
      obtain ⟨n, hn4⟩ : ∃ n, n = 4 * k := ⟨_, rfl⟩
      have wp0 : IntKind.i64.wrap (4 * (k : Int)) = (n : Int) := by rw [IntKind.wrap_i64]; omega
      have hi0 : (n : Int) < 16 := by omega
      obtain ⟨n1, hn1⟩ : ∃ q, q = n + 1 := ⟨_, rfl⟩
      have wp1 : IntKind.i64.wrap ((n : Int) + 1) = (n1 : Int) := by rw [IntKind.wrap_i64]; omega
      have hi1 : (n1 : Int) < 16 := by omega
      obtain ⟨n2, hn2⟩ : ∃ q, q = n + 2 := ⟨_, rfl⟩
      have wp2 : IntKind.i64.wrap ((n : Int) + 2) = (n2 : Int) := by rw [IntKind.wrap_i64]; omega
      have hi2 : (n2 : Int) < 16 := by omega
      obtain ⟨n3, hn3⟩ : ∃ q, q = n + 3 := ⟨_, rfl⟩
      have wp3 : IntKind.i64.wrap ((n : Int) + 3) = (n3 : Int) := by rw [IntKind.wrap_i64]; omega
      have hi3 : (n3 : Int) < 16 := by omega
      have q0 : IntKind.u32.wrap (x0 : Int) = (x0 : Int) := by rw [IntKind.wrap_u32]; omega
      have c0 : wr.cell? ⟨w.heap.size, n, none⟩ = some (.int .u8 (x0 : Int)) := HB.out.at n _ (arr_at b n x0 (by rw [hn4]; exact ex0))
      have q1 : IntKind.u32.wrap (x1 : Int) = (x1 : Int) := by rw [IntKind.wrap_u32]; omega
      have c1 : wr.cell? ⟨w.heap.size, n1, none⟩ = some (.int .u8 (x1 : Int)) := HB.out.at n1 _ (arr_at b n1 x1 (by rw [hn1, hn4]; exact ex1))
      have q2 : IntKind.u32.wrap (x2 : Int) = (x2 : Int) := by rw [IntKind.wrap_u32]; omega
      have c2 : wr.cell? ⟨w.heap.size, n2, none⟩ = some (.int .u8 (x2 : Int)) := HB.out.at n2 _ (arr_at b n2 x2 (by rw [hn2, hn4]; exact ex2))
      have q3 : IntKind.u32.wrap (x3 : Int) = (x3 : Int) := by rw [IntKind.wrap_u32]; omega
      have c3 : wr.cell? ⟨w.heap.size, n3, none⟩ = some (.int .u8 (x3 : Int)) := HB.out.at n3 _ (arr_at b n3 x3 (by rw [hn3, hn4]; exact ex3))
      have Hv := Lib.hid (or_word x0 x1 x2 x3 hx0 hx1 hx2 hx3)
      clear e0 hn4 hn1 hn2 hn3 ex0 ex1 ex2 ex3 ey0 ey1 ey2 ey3
      go_upto_region 5 with fail
      go_still_tail 31, (by kernel_rfl)
      change wpList _ _ _ _ _ wr.drew
      have HB1 := Lib.hid HB.out.drew
      have HZ1 := Lib.hid HZ.out.drew
      have HS1 := Lib.hid HS.out.drew
      have hold : (doneF (loadL W r b) z4 k)[k]? = some 0 := by
        rw [doneF_old _ _ 4 k k (loadL_len _ _ _) (Nat.le_refl _) hk]
        rcases (show k = 0 ∨ k = 1 ∨ k = 2 ∨ k = 3 by omega) with rfl | rfl | rfl | rfl <;> rfl
      have hd := hn.drew
      have Hold := Lib.hid hold
      clear HB HZ HS hn c0 c1 c2 c3 hi0 hi1 hi2 hi3 wp0 wp1 wp2 wp3 hold
      generalize wr.drew = w2 at *
      rw [Hv.out]
      have Hcol := Lib.hid hcol
      clear Hv hcol q0 q1 q2 q3
      generalize wN x0 x1 x2 x3 = y at *
      have f1 := HS1.out.free k
      have o1 : w2.cell? ⟨S, k, none⟩ = some (.int .u32 0) := HS1.out.at k _ (arrg_at uv _ k 0 Hold.out)
      have h3 := HS1.out.put k (uv y)
      rw [arrg_set] at h3
      have HS3 := Lib.hid h3
      have HB3 := Lib.hid (HB1.out.far (p := ⟨S, k, none⟩) Hap.out.2.1 (uv y))
      have HZ3 := Lib.hid (HZ1.out.far (p := ⟨S, k, none⟩) Hap.out.1 (uv y))
      have hd3 := nu_set hd (p := ⟨S, k, none⟩) Hap.out.2.2.1 (uv y)
      simp only [uv] at HB3 HZ3 HS3 hd3
      clear HB1 HZ1 HS1 hd h3
      go_upto_region 6 with fail
      generalize w2.setCell ⟨S, k, none⟩ (.int .u32 (y : Int)) = w3 at *
      clear f1 o1
      obtain ⟨p, hp⟩ : ∃ p, p = 4 * r + k := ⟨_, rfl⟩
      have wq0 : IntKind.i64.wrap (4 * (r : Int)) = ((4 * r : Nat) : Int) := by rw [IntKind.wrap_i64]; omega
      have wq1 : IntKind.i64.wrap (((4 * r : Nat) : Int) + (k : Int)) = (p : Int) := by rw [IntKind.wrap_i64]; omega
      have hpl : (p : Int) < (W.length : Int) := by omega
      have cC : w3.cell? ⟨C, 0, none⟩ = some (.slice (some ⟨m, 0, none⟩) W.length c) := (hd3.cell (p := ⟨C, 0, none⟩) hCl).trans HC0.out
      have cW : w3.cell? ⟨m, p, none⟩ = some (.int .u32 ((W.getD p 0 : Nat) : Int)) := (hd3.cell (p := ⟨m, p, none⟩) hml).trans (word_at Hm.out Ht.out p (by omega))
      have hy3 : ((doneF (loadL W r b) z4 k).set k y)[k]? = some y := by rw [List.getElem?_set_self (by rw [doneF_len _ _ 4 k (loadL_len _ _ _) rfl hk]; exact hlt)]
      have cS : w3.cell? ⟨S, k, none⟩ = some (.int .u32 (y : Int)) := HS3.out.at k _ (arrg_at uv _ k y hy3)
      have hx := u32_xor_nat y (W.getD p 0) hc32 (hW.getD p)
      have HX := Lib.hid (show (loadL W r b)[k]? = some (y ^^^ W.getD p 0) by rw [loadL_at W r b k hlt, Hcol.out, hp])
      generalize W.getD p 0 = z at *
      generalize y ^^^ z = t at *
      obtain ⟨r4, hr4⟩ : ∃ r4, r4 = 4 * r := ⟨_, rfl⟩
      rw [← hr4] at wq0 wq1
      have Hy3 := Lib.hid hy3
      clear hp hy3 hr4
      go_still_tail 15, (by kernel_rfl)
      change wpList _ _ _ _ _ w3.drew
      have HB4 := Lib.hid HB3.out.drew
      have HZ4 := Lib.hid HZ3.out.drew
      have HS4 := Lib.hid HS3.out.drew
      have hd4 := hd3.drew
      clear HB3 HZ3 HS3 hd3 cC cW cS wq0 wq1 hpl
      generalize w3.drew = w4 at *
      have f4 := HS4.out.free k
      have o4 : w4.cell? ⟨S, k, none⟩ = some (.int .u32 (y : Int)) := HS4.out.at k _ (arrg_at uv _ k y Hy3.out)
      have h5 := HS4.out.put k (uv t)
      rw [arrg_set, List.set_set, doneF_set _ _ 4 k t (loadL_len _ _ _) rfl hlt HX.out] at h5
      have HS5 := Lib.hid h5
      have HB5 := Lib.hid (HB4.out.far (p := ⟨S, k, none⟩) Hap.out.2.1 (uv t))
      have HZ5 := Lib.hid (HZ4.out.far (p := ⟨S, k, none⟩) Hap.out.1 (uv t))
      have hd5 := nu_set hd4 (p := ⟨S, k, none⟩) Hap.out.2.2.1 (uv t)
      simp only [uv] at HB5 HZ5 HS5 hd5
      clear HB4 HZ4 HS4 hd4 h5 Hy3 HX
      go_wp2_with fail
      generalize w4.setCell ⟨S, k, none⟩ (.int .u32 (t : Int)) = w5 at *
      go_roundw
      case rel => first | exact ⟨k + 1, by omega, by go_num, HB5.out, HZ5.out, HS5.out, hd5⟩ | ((repeat apply Exists.intro); exact ⟨⟨k + 1, by omega, by go_num, HB5.out, HZ5.out, HS5.out, hd5⟩, rfl⟩)
      case measure => simp [intOf]; omega
    · obtain rfl : k = 4 := by omega
      have hS := HS.out
      rw [doneF_all _ _ 4 (loadL_len W r b) rfl] at hS
      obtain ⟨D, hD⟩ : ∃ D, D = (loadL W r b).map uv := ⟨_, rfl⟩
      rw [← hD] at hS
      have HS2 := Lib.hid hS
      have HDl := Lib.hid (show D.length = (z4.map uv).toArray.size by rw [hD, List.length_map, loadL_len]; rfl)
      have Hsz := Lib.hid (show (Try.prog.info? 86).map (·.size) = some D.toArray.size by rw [List.size_toArray, hD, List.length_map, loadL_len]; kernel_rfl)
      have H1 := Lib.hid (show ∀ u ∈ D, u.oneCell' = true by rw [hD]; exact uv_one _)
      have HDe := Lib.hid hD
      have HF := Lib.hid (Blk.fill HZ.out D HDl.out)
      have Hnf := Lib.hid (nu_fill D (g := Z) Hap.out.2.2.2 0 _ hn)
      clear hS HS hD hn hlt hk HB
      go_wp2_with (first | (refine wpList_load_blk rfl 86 (.tmp 7) rfl S rfl 86 D.toArray HS2.out Try.underlying86 Hsz.out ?_) | (refine wpList_store_blk rfl 86 (.tmp 6) (.tmp 59) rfl Z D rfl rfl 86 (z4.map uv).toArray HZ.out HDl.out (by have h := Hsz.out; rwa [List.size_toArray] at h) H1.out ?_))
      refine bodyPost_ret (results_blk rfl _ Z 86 D.toArray rfl HF.out Try.underlying86 Hsz.out) rfl ⟨by rw [HDe.out], Hnf.out⟩
end Go.Proofs.Ytnojbjconiddoaa
