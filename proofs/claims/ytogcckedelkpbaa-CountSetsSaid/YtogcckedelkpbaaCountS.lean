/-
  The walks of count.Get and count.Set.
-/
import Derived.Test.YtogcckedelkpbaaCountOW
import Derived.Test.YtogcckedelkpbaaCountL
import Derived.Laws.CopyOwn
import Derived.IntWalk
import Derived.StillTailTactics
namespace Go.Proofs.Ytogcckedelkpbaa
open Go.ChangeShapes Go.WideShapes Go.ChangeAt Go.RowKit

/-- What is wrong with a block, and a number. -/
def faultOf (len : Nat) (i : Int) : Int := if len < 256 then 2 else if 256 < len then 4 else if i < 0 ∨ 15 < i then 1 else 0
theorem faultOf_len {len : Nat} (h : len ≠ 256) (i : Int) : faultOf len i = (if len < 256 then 2 else 4) := by
  unfold faultOf
  by_cases h1 : len < 256
  · rw [if_pos h1, if_pos h1]
  · rw [if_neg h1, if_neg h1, if_pos (by omega)]
theorem faultOf_ok {i : Int} (h0 : 0 ≤ i) (h1 : i < 16) : faultOf 256 i = 0 := by
  unfold faultOf
  rw [if_neg (by omega), if_neg (by omega), if_neg (by omega)]
theorem faultOf_out {i : Int} (h : i < 0 ∨ 15 < i) : faultOf 256 i = 1 := by
  unfold faultOf
  rw [if_neg (by omega), if_neg (by omega), if_pos h]
theorem entSize : (Try.prog.info? 35).map (·.size) = some 3 := by kernel_rfl

set_option maxRecDepth 100000 in
set_option maxHeartbeats 1000000 in
theorem get_len (a : Option Addr) (len cap : Nat) (i : Int) (w : World) (hm : len ≤ 9223372036854775807) (hl : len ≠ 256) :
    Calls Try.prog 39 #[.slice a len cap, .int .i64 i] w fun e w' => e = .returned (.tuple #[.agg (entV (0, 0, 0)).toArray, .int .i64 (faultOf len i)]) ∧ Below w.heap.size w w' := by
  obtain ⟨f, hf⟩ : ∃ f : Int, f = (if len < 256 then 2 else 4) := ⟨_, rfl⟩
  have hf0 : f ≠ 0 := by rw [hf]; split <;> omega
  have Hop := Lib.hid (fun W => open_bad a len cap W hm hl)
  rw [← hf] at Hop
  have HF := Lib.hid (show faultOf len i = f by rw [faultOf_len hl, hf])
  have t : (f == 0) = false := by rw [beq_eq_false_iff_ne]; exact hf0
  have t' : (f != 0) = true := by rw [bne_iff_ne]; exact hf0
  have hn0 := nu_alloc (nu_refl w) (.cells #[.int .u32 0, .int .u32 0, .int .u64 0] 35)
  have HR := Lib.hid (Blk.made w 35 #[.int .u32 0, .int .u32 0, .int .u64 0])
  clear hf hf0 hl
  go_enter Try.func39, Try.ntmps39
  go_wp2_with fail
  refine (Hop.out _).mono ?_
  rintro e w1 ⟨rfl, rfl⟩
  go_wp2_with fail
  refine bodyPost_ret (results_blkS2 rfl _ w.heap.size 35 _ rfl HR.out Try.underlying35 (by kernel_rfl)) rfl ⟨?_, hn0⟩
  rw [HF.out]
  rfl

set_option maxRecDepth 100000 in
set_option maxHeartbeats 1000000 in
theorem get_out (a : Option Addr) (cap : Nat) (xs : List Nat) (i : Int) (w : World) (hx : BytesIn w a 256 cap xs) (hi : i < 0 ∨ 15 < i) :
    Calls Try.prog 39 #[.slice a 256 cap, .int .i64 i] w fun e w' => e = .returned (.tuple #[.agg (entV (0, 0, 0)).toArray, .int .i64 1]) ∧ Below w.heap.size w w' := by
  have Hop := Lib.hid (fun W h => open_ok a cap xs W h)
  have hn0 := nu_alloc (nu_refl w) (.cells #[.int .u32 0, .int .u32 0, .int .u64 0] 35)
  have hx0 := hx.keep hn0
  have HR := Lib.hid (Blk.made w 35 #[.int .u32 0, .int .u32 0, .int .u64 0])
  have tt : decide (i < 0) = true ∨ (decide (i < 0) = false ∧ decide (16 ≤ i) = true) := by
    by_cases h : i < 0
    · exact .inl (by simpa using h)
    · exact .inr ⟨by simp; omega, by simp; omega⟩
  clear hi hx
  rcases tt with t | ⟨t, t'⟩
  all_goals
    go_enter Try.func39, Try.ntmps39
    go_wp2_with fail
    refine (Hop.out _ hx0).mono ?_
    rintro e w1 ⟨v, rfl, _, hb1⟩
    have hn1 := nu_trans hn0 hb1
    have HR1 := Lib.hid (HR.out.below hb1 HR.out.lt)
    have c0 := HR1.out.at 0 _ rfl
    have c1 := HR1.out.at 1 _ rfl
    have c2 := HR1.out.at 2 _ rfl
    have f0 := HR1.out.free 0
    have f1 := HR1.out.free 1
    have f2 := HR1.out.free 2
    go_wp2_with fail
    refine bodyPost_ret (results_blkS2 rfl _ w.heap.size 35 _ rfl (((HR1.out.put 0 (.int .u32 0)).put 1 (.int .u32 0)).put 2 (.int .u64 0)) Try.underlying35 (by kernel_rfl)) rfl ⟨rfl, ?_⟩
    exact nu_set (nu_set (nu_set hn1 (p := ⟨w.heap.size, 0, none⟩) (Nat.le_refl _) _) (p := ⟨w.heap.size, 1, none⟩) (Nat.le_refl _) _) (p := ⟨w.heap.size, 2, none⟩) (Nat.le_refl _) _

set_option maxRecDepth 100000 in
set_option maxHeartbeats 1000000 in
theorem get_ok (a : Option Addr) (cap : Nat) (xs : List Nat) (i : Nat) (w : World) (hx : BytesIn w a 256 cap xs) (hi : i < 16) :
    Calls Try.prog 39 #[.slice a 256 cap, .int .i64 i] w fun e w' => e = .returned (.tuple #[.agg (entV (entAt xs i)).toArray, .int .i64 0]) ∧ Below w.heap.size w w' := by
  have Hop := Lib.hid (fun W h => open_ok a cap xs W h)
  have hn0 := nu_alloc (nu_refl w) (.cells #[.int .u32 0, .int .u32 0, .int .u64 0] 35)
  have hx0 := hx.keep hn0
  have HR := Lib.hid (Blk.made w 35 #[.int .u32 0, .int .u32 0, .int .u64 0])
  have t : decide ((i : Int) < 0) = false := by simp
  have t' : decide (16 ≤ (i : Int)) = false := by simp; omega
  have i1 : (i : Int) < 16 := by omega
  clear hx
  go_enter Try.func39, Try.ntmps39
  go_wp2_with fail
  refine (Hop.out _ hx0).mono ?_
  rintro e w1 ⟨v, rfl, ho1, hb1⟩
  have hn1 := nu_trans hn0 hb1
  obtain ⟨g, cg, rfl, hgc, hgm, hgb, hgs, hce⟩ := ents_form ho1 (by omega) (entsTo_length _ 16)
  unfold maxLen at hgm
  have HR1 := Lib.hid (HR.out.below hb1 HR.out.lt)
  have c0 := HR1.out.at 0 _ rfl
  have c1 := HR1.out.at 1 _ rfl
  have c2 := HR1.out.at 2 _ rfl
  have f0 := HR1.out.free 0
  have f1 := HR1.out.free 1
  have f2 := HR1.out.free 2
  obtain ⟨d0, d1, d2⟩ := hce i _ (entsTo_get xs 16 i hi)
  obtain ⟨⟨e0, e1, e2⟩, he⟩ : ∃ e, entAt xs i = e := ⟨_, rfl⟩
  rw [he] at d0 d1 d2
  have HE := Lib.hid he
  simp only [] at d0 d1 d2
  have hgne : g ≠ w.heap.size := by simp at hgb; omega
  clear ho1 hce he hb1
  go_wp2_with fail
  refine bodyPost_ret (results_blkS2 rfl _ w.heap.size 35 _ rfl (((HR1.out.put 0 (.int .u32 (e0 : Int))).put 1 (.int .u32 (e1 : Int))).put 2 (.int .u64 (e2 : Int))) Try.underlying35 (by kernel_rfl)) rfl ⟨by rw [HE.out]; rfl, ?_⟩
  exact nu_set (nu_set (nu_set hn1 (p := ⟨w.heap.size, 0, none⟩) (Nat.le_refl _) _) (p := ⟨w.heap.size, 1, none⟩) (Nat.le_refl _) _) (p := ⟨w.heap.size, 2, none⟩) (Nat.le_refl _) _

/-- Get, whatever it is asked. -/
theorem get_any (a : Option Addr) (len cap : Nat) (xs : List Nat) (i : Int) (w : World) (hx : BytesIn w a len cap xs) (hm : len ≤ 9223372036854775807) :
    Calls Try.prog 39 #[.slice a len cap, .int .i64 i] w fun e w' => e = .returned (.tuple #[.agg (entV (if faultOf len i = 0 then entAt xs i.toNat else (0, 0, 0))).toArray, .int .i64 (faultOf len i)]) ∧ Below w.heap.size w w' := by
  by_cases hl : len = 256
  · subst hl
    by_cases hi : i < 0 ∨ 15 < i
    · rw [faultOf_out hi, if_neg (by omega)]
      exact get_out a cap xs i w hx hi
    · obtain ⟨n, rfl⟩ := Int.eq_ofNat_of_zero_le (show 0 ≤ i by omega)
      rw [faultOf_ok (by omega) (by omega), if_pos rfl, Int.toNat_natCast]
      exact get_ok a cap xs n w hx (by omega)
  · have h0 : ¬ faultOf len i = 0 := by
      rw [faultOf_len hl]
      split <;> omega
    rw [if_neg h0]
    exact get_len a len cap i w hm hl
end Go.Proofs.Ytogcckedelkpbaa
