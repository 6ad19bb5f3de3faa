/-
  The walks of the document's bit and Add.
-/
import Derived.Test.YtnojbjconiddoaaGh10
import Derived.Test.YtnojbjconiddoaaGh9
import Derived.Test.YtnojbjconiddoaaBits
namespace Go.Proofs.Ytnojbjconiddoaa
open Go.ChangeShapes Go.WideShapes Go.ChangeAt Go.RowKit

set_option maxRecDepth 100000 in
set_option maxHeartbeats 1000000 in
theorem ref_bit (xs : List Nat) (hl : xs.length = 16) (hx : ∀ x ∈ xs, x < 256) (i : Nat) (hi : i < 128) (w : World) :
    Calls Try.prog 37 #[.agg (xs.map vb).toArray, .int .i64 i] w fun e w' => e = .returned (.int .u8 ((Gh.b01 ((polB xs).testBit i) : Nat) : Int)) ∧ Below w.heap.size w w' := by
  obtain ⟨y, hy⟩ : ∃ y, xs[i / 8]? = some y := ⟨_, List.getElem?_eq_getElem (by omega)⟩
  have hb := polB_bit xs hl hx i y hi hy
  have hy8 := hx y (List.mem_of_getElem? hy)
  obtain ⟨v, hv⟩ : ∃ v, v = Gh.b01 ((polB xs).testBit i) := ⟨_, rfl⟩
  rw [← hv] at hb ⊢
  obtain ⟨j, hj⟩ : ∃ j, j = i / 8 := ⟨_, rfl⟩
  obtain ⟨r, hr⟩ : ∃ r, r = i % 8 := ⟨_, rfl⟩
  rw [← hj] at hy
  rw [← hr] at hb
  have ej : (i : Int) / 8 = (j : Int) := by omega
  have er : (i : Int) % 8 = (r : Int) := by omega
  have hj16 : (j : Int) < 16 := by omega
  have hr7 : r ≤ 7 := by omega
  have wr1 : IntKind.u64.wrap (r : Int) = (r : Int) := by rw [IntKind.wrap_u64]; omega
  have eB : bits .and .u8 ((y : Int) / 2 ^ (7 - r)) 1 = (v : Int) := by
    have e : (y : Int) / 2 ^ (7 - r) = ((y / 2 ^ (7 - r) : Nat) : Int) := by simp
    have hl : y / 2 ^ (7 - r) < 256 := Nat.lt_of_le_of_lt (Nat.div_le_self _ _) hy8
    have h := u8_and_nat (y / 2 ^ (7 - r)) 1 hl (by omega)
    rw [Nat.and_one_is_mod, hb] at h
    rw [e]
    exact h
  have hB := Blk.made w 22 (xs.map vb).toArray
  have c0 : (w.alloc (.cells (xs.map vb).toArray 22)).cell? ⟨w.heap.size, j, none⟩ = some (.int .u8 (y : Int)) := hB.at j _ (arr_at xs j y hy)
  have hal := nu_alloc (nu_refl w) (.cells (xs.map vb).toArray 22)
  clear hv hb hj hr hB hy hl hx
  go_enter Try.func37, Try.ntmps37
  go_upto_region 1 with fail
  generalize w.alloc (.cells (xs.map vb).toArray 22) = w1 at *
  go_wp2_with fail
  go_ret
  exact ⟨rfl, hal⟩

/-- Two blocks, held against each other. -/
def xorB (xs ys : List Nat) : List Nat := bytB (polB xs ^^^ polB ys)
theorem numOf_xor (xs ys : List Nat) (n : Nat) (hx : xs.length = n) (hy : ys.length = n) (hx8 : ∀ x ∈ xs, x < 256) (hy8 : ∀ x ∈ ys, x < 256) (j x y : Nat) (h1 : xs[j]? = some x) (h2 : ys[j]? = some y) (h16 : n = 16) : (xorB xs ys)[j]? = some (x ^^^ y) := by
  subst h16
  have hj : j < 16 := by rw [← hx]; exact (List.getElem?_eq_some_iff.1 h1).1
  have e1 : (xorB xs ys)[j]? = some ((xorB xs ys).getD j 0) := by
    rw [List.getD_eq_getElem?_getD, List.getElem?_eq_getElem (by unfold xorB; rw [bytB_len]; exact hj)]; rfl
  rw [e1]
  refine congrArg some ?_
  have hx8' := hx8 x (List.mem_of_getElem? h1)
  have hy8' := hy8 y (List.mem_of_getElem? h2)
  apply Nat.eq_of_testBit_eq
  intro t
  rw [Nat.testBit_xor]
  unfold xorB
  by_cases ht : t < 8
  · have a1 := bytB_bit (polB xs) j t hj ht
    have a2 := bytB_bit (polB ys) j t hj ht
    rw [bytB_polB xs hx hx8, List.getD_eq_getElem?_getD, h1, Option.getD_some] at a1
    rw [bytB_polB ys hy hy8, List.getD_eq_getElem?_getD, h2, Option.getD_some] at a2
    rw [bytB_bit _ j t hj ht, Nat.testBit_xor, a1, a2]
  · rw [bytB_high _ j t (by omega), Nat.testBit_lt_two_pow (Nat.lt_of_lt_of_le (m := 2 ^ 8) hx8' (Nat.pow_le_pow_right (n := 2) (by omega) (by omega))), Nat.testBit_lt_two_pow (Nat.lt_of_lt_of_le (m := 2 ^ 8) hy8' (Nat.pow_le_pow_right (n := 2) (by omega) (by omega)))]
    rfl
theorem xorB_len (xs ys : List Nat) : (xorB xs ys).length = 16 := bytB_len _
theorem xorB_lt (xs ys : List Nat) : ∀ x ∈ xorB xs ys, x < 256 := bytB_lt _
/-- The first k are turned. -/
def addF (xs ys : List Nat) (k : Nat) : List Nat := (xorB xs ys).take k ++ xs.drop k
theorem addF_zero (xs ys : List Nat) : addF xs ys 0 = xs := by simp [addF]
theorem addF_all (xs ys : List Nat) (hx : xs.length = 16) : addF xs ys 16 = xorB xs ys := by
  unfold addF
  rw [List.take_of_length_le (by rw [xorB_len]; omega), List.drop_of_length_le (by omega), List.append_nil]
theorem addF_step (xs ys : List Nat) (k x z : Nat) (hx : xs.length = 16) (hk : k < 16) (h1 : xs[k]? = some x) (hz : (xorB xs ys)[k]? = some z) : (addF xs ys k)[k]? = some x ∧ (addF xs ys k).set k z = addF xs ys (k + 1) := by
  have hl : ((xorB xs ys).take k).length = k := by rw [List.length_take, xorB_len]; omega
  unfold addF
  constructor
  · rw [List.getElem?_append_right (by omega), hl, Nat.sub_self, List.getElem?_drop, Nat.add_zero]
    exact h1
  · have hd : xs.drop k = x :: xs.drop (k + 1) := by
      rw [List.drop_eq_getElem_cons (by omega)]
      congr 1
      rw [List.getElem?_eq_getElem (by omega)] at h1
      injection h1
    rw [List.set_append_right _ _ (by omega), hl, Nat.sub_self, hd, List.set_cons_zero, List.take_add_one, hz, List.append_assoc]
    rfl

set_option maxRecDepth 100000 in
set_option maxHeartbeats 1000000 in
theorem ref_add (xs ys : List Nat) (hlx : xs.length = 16) (hly : ys.length = 16) (hx : ∀ x ∈ xs, x < 256) (hy : ∀ x ∈ ys, x < 256) (w : World) :
    Calls Try.prog 18 #[.agg (xs.map vb).toArray, .agg (ys.map vb).toArray] w fun e w' => e = .returned (.agg ((xorB xs ys).map vb).toArray) ∧ Below w.heap.size w w' := by
  have Hx := Lib.hid hx
  have Hy := Lib.hid hy
  have Hlx := Lib.hid hlx
  have Hly := Lib.hid hly
  have hal := nu_alloc (nu_alloc (nu_alloc (nu_refl w) (.cells (xs.map vb).toArray 22)) (.cells (ys.map vb).toArray 22)) (.cells z16 22)
  have HA := Lib.hid (((Blk.made w 22 (xs.map vb).toArray).alloc (.cells (ys.map vb).toArray 22)).alloc (.cells z16 22))
  have HB := Lib.hid ((Blk.made1 w (.cells (xs.map vb).toArray 22) 22 (ys.map vb).toArray).alloc (.cells z16 22))
  have HR := Lib.hid (Blk.made2 w (.cells (xs.map vb).toArray 22) (.cells (ys.map vb).toArray 22) 22 z16)
  clear hx hy hlx hly
  go_enter Try.func18, Try.ntmps18
  go_upto_region 1 with fail
  generalize ((w.alloc (.cells (xs.map vb).toArray 22)).alloc (.cells (ys.map vb).toArray 22)).alloc (.cells z16 22) = w1 at *
  obtain ⟨B, hB⟩ : ∃ B, B = w.heap.size + 1 := ⟨_, rfl⟩
  obtain ⟨R, hR⟩ : ∃ R, R = w.heap.size + 1 + 1 := ⟨_, rfl⟩
  rw [← hB] at HB
  rw [← hR] at HR
  rw [← hR, ← hB]
  have Hap := Lib.hid (show B ≠ w.heap.size ∧ R ≠ w.heap.size ∧ w.heap.size ≤ R from ⟨by omega, by omega, by omega⟩)
  clear hB hR
  go_wp2_with fail
  go_loopw [5] (fun i wr => ∃ k : Nat, k ≤ 16 ∧ i = .int .i64 k ∧ Blk wr w.heap.size 22 ((addF xs ys k).map vb).toArray ∧ Blk wr B 22 (ys.map vb).toArray ∧ Blk wr R 22 z16 ∧ Below w.heap.size w wr) (fun i _ => 16 - (intOf i).toNat)
  case atStart => exact ⟨0, by omega, rfl, by rw [addF_zero]; exact HA.out, HB.out, HR.out, hal⟩
  case round =>
    clear HA HB HR hal
    obtain ⟨k, hk, rfl, hA, hB, hR, hn⟩ := hrel
    have HA := Lib.hid hA
    have HB := Lib.hid hB
    have HR := Lib.hid hR
    clear hA hB hR
    by_cases hlt : k < 16
    · have hki : (k : Int) < 16 := by omega
      obtain ⟨x, hx⟩ : ∃ x, xs[k]? = some x := ⟨_, List.getElem?_eq_getElem (by rw [Hlx.out]; exact hlt)⟩
      obtain ⟨y, hy⟩ : ∃ y, ys[k]? = some y := ⟨_, List.getElem?_eq_getElem (by rw [Hly.out]; exact hlt)⟩
      have hz := numOf_xor xs ys 16 Hlx.out Hly.out Hx.out Hy.out k x y hx hy rfl
      obtain ⟨hax, hset⟩ := addF_step xs ys k x (x ^^^ y) Hlx.out hlt hx hz
      have e1 := u8_xor_nat x y (Hx.out x (List.mem_of_getElem? hx)) (Hy.out y (List.mem_of_getElem? hy))
      have c0 : wr.cell? ⟨w.heap.size, k, none⟩ = some (.int .u8 (x : Int)) := HA.out.at k _ (arr_at _ k x hax)
      have c1 : wr.cell? ⟨B, k, none⟩ = some (.int .u8 (y : Int)) := HB.out.at k _ (arr_at _ k y hy)
      have Hset := Lib.hid hset
      have Hax := Lib.hid hax
      clear hx hy hz hax hset
      generalize x ^^^ y = z at *
      go_upto_region 4 with fail
      go_still_tail 9, (by kernel_rfl)
      change wpList _ _ _ _ _ wr.drew
      have HA2 := Lib.hid HA.out.drew
      have HB2 := Lib.hid HB.out.drew
      have HR2 := Lib.hid HR.out.drew
      have hn2 := hn.drew
      clear hn HA HB HR c0 c1
      generalize wr.drew = w2 at *
      have d0 : w2.cell? ⟨w.heap.size, k, none⟩ = some (.int .u8 (x : Int)) := HA2.out.at k _ (arr_at _ k x Hax.out)
      have f0 := HA2.out.free k
      have h := HA2.out.put k (vb z)
      rw [arr_set, Hset.out] at h
      have HA3 := Lib.hid h
      have HB3 := Lib.hid (HB2.out.far (p := ⟨w.heap.size, k, none⟩) Hap.out.1 (vb z))
      have HR3 := Lib.hid (HR2.out.far (p := ⟨w.heap.size, k, none⟩) Hap.out.2.1 (vb z))
      have Hn3 := Lib.hid (nu_set hn2 (p := ⟨w.heap.size, k, none⟩) (Nat.le_refl _) (vb z))
      simp only [vb] at HA3 HB3 HR3 Hn3
      clear h hn2
      go_wp2_with fail
      go_roundw
      case rel => first | exact ⟨k + 1, by omega, by go_num, HA3.out, HB3.out, HR3.out, Hn3.out⟩ | ((repeat apply Exists.intro); exact ⟨⟨k + 1, by omega, by go_num, HA3.out, HB3.out, HR3.out, Hn3.out⟩, rfl⟩)
      case measure => simp [intOf]; omega
    · obtain rfl : k = 16 := by omega
      have hA := HA.out
      rw [addF_all xs ys Hlx.out] at hA
      obtain ⟨D, hD⟩ : ∃ D, D = (xorB xs ys).map vb := ⟨_, rfl⟩
      rw [← hD] at hA
      have HA2 := Lib.hid hA
      have HDl := Lib.hid (show D.length = z16.size by rw [hD, List.length_map, xorB_len]; rfl)
      have Hsz := Lib.hid (show (Try.prog.info? 22).map (·.size) = some D.toArray.size by rw [List.size_toArray, hD, List.length_map, xorB_len]; kernel_rfl)
      have H1 := Lib.hid (show ∀ u ∈ D, u.oneCell' = true by rw [hD]; exact vb_one _)
      have HDe := Lib.hid hD
      have HF := Lib.hid (Blk.fill HR.out D HDl.out)
      have Hnf := Lib.hid (nu_fill D (g := R) Hap.out.2.2 0 _ hn)
      clear hA HA hD hn hlt hk
      go_wp2_with (first | (refine wpList_load_blk rfl 22 (.tmp 2) rfl w.heap.size rfl 22 D.toArray HA2.out Try.underlying22 Hsz.out ?_) | (refine wpList_store_blk rfl 22 (.tmp 4) (.tmp 19) rfl R D rfl rfl 22 z16 HR.out HDl.out (by have h := Hsz.out; rwa [List.size_toArray] at h) H1.out ?_))
      refine bodyPost_ret (results_blk rfl _ R 22 D.toArray rfl HF.out Try.underlying22 Hsz.out) rfl ⟨by rw [HDe.out], Hnf.out⟩
end Go.Proofs.Ytnojbjconiddoaa
