/-
  The walks of ghash: load, bytes, next.
-/
import Derived.Test.YtnojbjconiddoaaGh2
import Derived.Test.YtnojbjconiddoaaReaderQ
import Derived.Test.YtnojbjconiddoaaArr
import Derived.Test.YtnojbjconiddoaaBB
import Derived.Laws.BitsAllLaws
namespace Go.Proofs.Ytnojbjconiddoaa
open Go.ChangeShapes Go.WideShapes Go.ChangeAt Go.RowKit

/-- A half, as the program has it. -/
def halfL (p : Nat) : List Value := [.int .u64 (Gh.hi p : Int), .int .u64 (Gh.lo p : Int)]
/-- The number of a block. -/
def polB (xs : List Nat) : Nat := Gh.join (numOf (xs.take 8)) (numOf (xs.drop 8))
/-- The block of a number. -/
def bytB (p : Nat) : List Nat := beL (Gh.hi p) 8 8 ++ beL (Gh.lo p) 8 8
theorem polB_lt (xs : List Nat) : polB xs < 2 ^ 128 := Gh.join_lt _ _
theorem bytB_len (p : Nat) : (bytB p).length = 16 := by unfold bytB; rw [List.length_append, beL_length, beL_length]
theorem bytB_lt (p : Nat) : ∀ x ∈ bytB p, x < 256 := by
  intro x hx
  rcases List.mem_append.1 hx with h | h
  · exact beL_lt _ _ _ x h
  · exact beL_lt _ _ _ x h
theorem polB_bytB (p : Nat) (hp : p < 2 ^ 128) : polB (bytB p) = p := by
  have h1 : (bytB p).take 8 = beL (Gh.hi p) 8 8 := by unfold bytB; rw [List.take_left' (beL_length _ _ _)]
  have h2 : (bytB p).drop 8 = beL (Gh.lo p) 8 8 := by unfold bytB; rw [List.drop_left' (beL_length _ _ _)]
  unfold polB
  rw [h1, h2, numOf_be _ 8 (by have := Gh.hi_lt p; omega), numOf_be _ 8 (by have := Gh.lo_lt p; omega), Gh.join_hi_lo p hp]
theorem numOf8_lt (l : List Nat) (h : ∀ y ∈ l, y < 256) (hl : l.length = 8) : numOf l < 18446744073709551616 := by
  have := numOf_lt l h
  rw [hl] at this
  omega
theorem hi_polB (xs : List Nat) (hl : xs.length = 16) (h : ∀ x ∈ xs, x < 256) : Gh.hi (polB xs) = numOf (xs.take 8) ∧ Gh.lo (polB xs) = numOf (xs.drop 8) := by
  have h1 := numOf8_lt (xs.take 8) (fun y hy => h y (List.mem_of_mem_take hy)) (by rw [List.length_take]; omega)
  have h2 := numOf8_lt (xs.drop 8) (fun y hy => h y (List.mem_of_mem_drop hy)) (by rw [List.length_drop]; omega)
  exact ⟨Gh.hi_join _ _ h1 h2, Gh.lo_join _ _ h1 h2⟩
theorem beL_numOf (l : List Nat) (h : ∀ y ∈ l, y < 256) : beL (numOf l) l.length l.length = l := by
  have key : ∀ n (l : List Nat), l.length = n → (∀ y ∈ l, y < 256) → beL (numOf l) n n = l := by
    intro n
    induction n with
    | zero => intro l hl _; rw [List.eq_nil_of_length_eq_zero hl]; rfl
    | succ n ih =>
      intro l hl hx
      obtain ⟨init, x, rfl⟩ : ∃ init x, l = init ++ [x] := by
        refine ⟨l.dropLast, l.getLast (fun e => by rw [e] at hl; simp at hl), (List.dropLast_concat_getLast _).symm⟩
      rw [List.length_append] at hl
      simp at hl
      have hx8 : x < 256 := hx x (by simp)
      have h1 := ih init hl (fun y hy => hx y (List.mem_append_left _ hy))
      rw [numOf_snoc]
      unfold beL at h1 ⊢
      rw [List.range_succ, List.map_append]
      congr 1
      · conv => rhs; rw [← h1]
        apply List.map_congr_left
        intro t ht
        have htn : t < n := List.mem_range.1 ht
        rw [show 8 * (n + 1 - 1 - t) = 8 + 8 * (n - 1 - t) by omega, Nat.pow_add, ← Nat.div_div_eq_div_mul, show (2 : Nat) ^ 8 = 256 by decide]
        congr 2
        omega
      · simp
        omega
  exact key l.length l rfl h
theorem bytB_polB (xs : List Nat) (hl : xs.length = 16) (h : ∀ x ∈ xs, x < 256) : bytB (polB xs) = xs := by
  obtain ⟨e1, e2⟩ := hi_polB xs hl h
  unfold bytB
  rw [e1, e2]
  have h1 := beL_numOf (xs.take 8) (fun y hy => h y (List.mem_of_mem_take hy))
  have h2 := beL_numOf (xs.drop 8) (fun y hy => h y (List.mem_of_mem_drop hy))
  rw [show (xs.take 8).length = 8 by rw [List.length_take]; omega] at h1
  rw [show (xs.drop 8).length = 8 by rw [List.length_drop]; omega] at h2
  rw [h1, h2, List.take_append_drop]
theorem polB_inj (xs ys : List Nat) (hl : xs.length = 16) (h : ∀ x ∈ xs, x < 256) (hl' : ys.length = 16) (h' : ∀ x ∈ ys, x < 256) (e : polB xs = polB ys) : xs = ys := by
  rw [← bytB_polB xs hl h, e, bytB_polB ys hl' h']

theorem num8 {B g : Nat} {xs : List Nat} {w : World} (hr : RdAt w B g xs 0) (h : 8 ≤ xs.length) :
    Calls Try.prog 46 #[.pointer (some ⟨g, 0, none⟩), .int .i64 8] w fun e w' => e = .returned (.int .u64 ((numOf (xs.take 8) : Nat) : Int)) ∧ RdAt w' B g (xs.drop 8) 0 ∧ w.grownBy w' (some g) := by
  have h1 := num_any B g xs 0 8 w hr
  rw [show numRight 8 = true from rfl, show (8 : Int) = ((8 : Nat) : Int) from rfl, rdStep_ok h] at h1
  exact h1

set_option maxRecDepth 100000 in
set_option maxHeartbeats 1000000 in
theorem load_any (xs : List Nat) (hl : xs.length = 16) (hx : ∀ x ∈ xs, x < 256) (w : World) :
    Calls Try.prog 35 #[.agg (xs.map vb).toArray] w fun e w' => e = .returned (.agg (halfL (polB xs)).toArray) ∧ Below w.heap.size w w' := by
  obtain ⟨e1, e2⟩ := hi_polB xs hl hx
  have HE := Lib.hid (show halfL (polB xs) = [.int .u64 ((numOf (xs.take 8) : Nat) : Int), .int .u64 ((numOf (xs.drop 8) : Nat) : Int)] by unfold halfL; rw [e1, e2])
  have Hl := Lib.hid hl
  have Hx := Lib.hid hx
  have hal := nu_alloc (nu_alloc (nu_refl w) (.cells (xs.map vb).toArray 22)) (.cells #[.int .u64 0, .int .u64 0] 58)
  have HB := Lib.hid ((Blk.made w 22 (xs.map vb).toArray).alloc (.cells #[.int .u64 0, .int .u64 0] 58))
  have HO := Lib.hid (Blk.made1 w (.cells (xs.map vb).toArray 22) 58 #[.int .u64 0, .int .u64 0])
  have Hal := Lib.hid hal
  clear hl hx e1 e2 hal
  go_enter Try.func35, Try.ntmps35
  go_wp2_with fail
  generalize (w.alloc (.cells (xs.map vb).toArray 22)).alloc (.cells #[.int .u64 0, .int .u64 0] 58) = w1 at *
  refine (newReader_any (some ⟨w.heap.size, 0, none⟩) 16 16 xs w1 (blk_bytes HB.out Hl.out Hx.out) (by omega)).mono ?_
  rintro e w2 ⟨g, rfl, hR2, hb2⟩
  have hn2 := nu_trans Hal.out hb2
  have HO2 := Lib.hid (Blk.below HO.out hb2 (Blk.lt HO.out))
  have HR2 := Lib.hid hR2
  have Hg := Lib.hid (show w.heap.size + 1 < g ∧ w.heap.size ≤ g by have h1 := hR2.low; have h2 := Blk.lt HO.out; omega)
  clear hR2 hb2 Hal HB HO
  go_wp2_with fail
  refine (num8 HR2.out (by rw [Hl.out]; omega)).mono ?_
  rintro e w3 ⟨rfl, hR3, hg3⟩
  have hn3 := nu_grown hn2 hg3 Hg.out.2
  have HO3 := Lib.hid (Blk.grown HO2.out hg3 (fun e => by injection e with e; have := Hg.out.1; omega))
  have HR3 := Lib.hid hR3
  clear hR3 hg3 hn2 HO2 HR2
  go_wp2_with fail
  refine (num8 HR3.out (by rw [List.length_drop, Hl.out]; omega)).mono ?_
  rintro e w4 ⟨rfl, _, hg4⟩
  have hn4 := nu_grown hn3 hg4 Hg.out.2
  have HO4 := Lib.hid (Blk.grown HO3.out hg4 (fun e => by injection e with e; have := Hg.out.1; omega))
  have Hd := Lib.hid (show (xs.drop 8).take 8 = xs.drop 8 from List.take_of_length_le (by rw [List.length_drop, Hl.out]; omega))
  rw [Hd.out]
  clear hg4 hn3 HO3 HR3
  obtain ⟨a, ha⟩ : ∃ a, a = numOf (xs.take 8) := ⟨_, rfl⟩
  obtain ⟨b, hb⟩ : ∃ b, b = numOf (xs.drop 8) := ⟨_, rfl⟩
  rw [← ha, ← hb]
  rw [← ha, ← hb] at HE
  clear ha hb
  have HF := Lib.hid (Blk.fill HO4.out [.int .u64 (a : Int), .int .u64 (b : Int)] rfl)
  have Hnf := Lib.hid (nu_fill [.int .u64 (a : Int), .int .u64 (b : Int)] (g := w.heap.size + 1) (by omega) 0 _ hn4)
  clear hn4
  go_wp2_with (refine wpList_store_blk rfl 58 (.tmp 2) (.tmp 10) rfl (w.heap.size + 1) [.int .u64 (a : Int), .int .u64 (b : Int)] rfl rfl 58 #[.int .u64 0, .int .u64 0] HO4.out rfl (by kernel_rfl) (by simp [Value.oneCell']) ?_)
  refine bodyPost_ret (results_blkS rfl _ (w.heap.size + 1) 58 _ rfl HF.out Try.underlying58 (by kernel_rfl)) rfl ⟨by rw [HE.out], Hnf.out⟩
end Go.Proofs.Ytnojbjconiddoaa
