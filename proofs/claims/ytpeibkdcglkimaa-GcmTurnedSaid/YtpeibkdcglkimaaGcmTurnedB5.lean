/-
  What the proof of GcmTurned rests on, part 5 of 10.
-/
import Derived.Test.YtpeibkdcglkimaaGcmTurnedB4
namespace Gh
open Go.Proofs.Ytpeibkdcglkimaa

def b01 (b : Bool) : Nat := if b then 1 else 0
theorem b01_le (b : Bool) : b01 b ≤ 1 := by cases b <;> decide
def bitsL (N n : Nat) : List Nat := (List.range n).map fun j => b01 (N.testBit j)
theorem bitsL_len (N n : Nat) : (bitsL N n).length = n := by simp [bitsL]
theorem bitsL_at (N n j : Nat) (h : j < n) : (bitsL N n)[j]? = some (b01 (N.testBit j)) := by
  unfold bitsL
  rw [List.getElem?_map, List.getElem?_range h]
  rfl
theorem bitsL_zero (n : Nat) : bitsL 0 n = List.replicate n 0 := by
  apply List.ext_getElem?
  intro j
  by_cases h : j < n
  · rw [bitsL_at 0 n j h, List.getElem?_replicate, if_pos h, Nat.zero_testBit]; rfl
  · rw [List.getElem?_eq_none (by rw [bitsL_len]; omega), List.getElem?_eq_none (by simp; omega)]
theorem bit_mul_pow (c j i : Nat) (hc : c ≤ 1) : (c * 2 ^ j).testBit i = (decide (i = j) && decide (c = 1)) := by
  rcases (show c = 0 ∨ c = 1 by omega) with rfl | rfl
  · simp
  · rw [Nat.one_mul]
    by_cases h : i = j
    · subst h; simp
    · rw [Nat.testBit_two_pow_of_ne (fun e => h e.symm)]; simp [h]
theorem bitsL_xor (N n j c : Nat) (h : j < n) (hc : c ≤ 1) : (bitsL N n).set j (b01 (N.testBit j) ^^^ c) = bitsL (N ^^^ c * 2 ^ j) n := by
  apply List.ext_getElem?
  intro i
  rw [List.getElem?_set]
  by_cases hi : i < n
  · rw [bitsL_at (N ^^^ c * 2 ^ j) n i hi, Nat.testBit_xor, bit_mul_pow c j i hc]
    by_cases hij : j = i
    · subst hij
      rw [if_pos rfl, if_pos (by rw [bitsL_len]; exact h)]
      refine congrArg some ?_
      rcases (show c = 0 ∨ c = 1 by omega) with rfl | rfl <;> cases N.testBit j <;> simp [b01]
    · rw [if_neg hij, bitsL_at N n i hi]
      have : ¬ i = j := fun e => hij e.symm
      simp [this]
  · rw [if_neg (by omega), List.getElem?_eq_none (by rw [bitsL_len]; omega), List.getElem?_eq_none (by rw [bitsL_len]; omega)]
theorem mod_succ (B k : Nat) : B % 2 ^ (k + 1) = B % 2 ^ k ^^^ b01 (B.testBit k) * 2 ^ k := by
  apply Nat.eq_of_testBit_eq
  intro i
  rw [Nat.testBit_xor, Nat.testBit_mod_two_pow, Nat.testBit_mod_two_pow, bit_mul_pow _ _ _ (b01_le _)]
  by_cases h1 : i < k
  · have h2 : i < k + 1 := by omega
    have h3 : ¬ i = k := by omega
    simp [h1, h2, h3]
  · by_cases h3 : i = k
    · subst h3
      cases B.testBit i <;> simp [b01]
    · have h2 : ¬ i < k + 1 := by omega
      simp [h1, h2, h3]
theorem xor_shl (a b i : Nat) : (a ^^^ b) * 2 ^ i = a * 2 ^ i ^^^ b * 2 ^ i := by
  have := Nat.shiftLeft_xor_distrib (a := a) (b := b) (i := i)
  simpa [Nat.shiftLeft_eq] using this
/-- One more bit of the second. -/
theorem inner_step (N B i k : Nat) : N ^^^ (B % 2 ^ k) * 2 ^ i ^^^ b01 (B.testBit k) * 2 ^ (i + k) = N ^^^ (B % 2 ^ (k + 1)) * 2 ^ i := by
  rw [mod_succ, xor_shl, ← Nat.xor_assoc, Nat.mul_assoc, ← Nat.pow_add, Nat.add_comm k i]
def clG (A B : Nat) : Nat → Nat
  | 0 => 0
  | i + 1 => clG A B i ^^^ (if A.testBit i then B * 2 ^ i else 0)
def rdStepG (N k : Nat) : Nat := if N.testBit (k + 128) then N ^^^ 340282366920938463463374607431768211591 * 2 ^ k else N
def rdG : Nat → Nat → Nat
  | 0, N => N
  | k + 1, N => rdG k (rdStepG N k)
theorem rdStep_xor (a b k : Nat) : rdStepG (a ^^^ b) k = rdStepG a k ^^^ rdStepG b k := by
  unfold rdStepG
  rw [Nat.testBit_xor]
  cases a.testBit (k + 128) <;> cases b.testBit (k + 128) <;> simp
  · rw [Nat.xor_assoc]
  · rw [Nat.xor_assoc, Nat.xor_assoc, Nat.xor_comm (340282366920938463463374607431768211591 * 2 ^ k)]
  · rw [Gal.xor4]; simp
theorem rdG_xor (k : Nat) : ∀ a b, rdG k (a ^^^ b) = rdG k a ^^^ rdG k b := by
  induction k with
  | zero => intro a b; rfl
  | succ k ih => intro a b; simp only [rdG]; rw [rdStep_xor, ih]
theorem rdG_zero (k : Nat) : rdG k 0 = 0 := by
  induction k with
  | zero => rfl
  | succ k ih => simp only [rdG]; rw [show rdStepG 0 k = 0 by simp [rdStepG], ih]
theorem rd_pows : ∀ m, m < 255 → rdG 128 (2 ^ m) = Gal.iter T m 1 := by decide +kernel
theorem rd_shl (B i : Nat) (hB : B < 2 ^ 128) (hi : i < 128) : rdG 128 (B * 2 ^ i) = Gal.iter T i B := by
  refine Gal.ext_pows (fun B => rdG 128 (B * 2 ^ i)) (fun B => Gal.iter T i B) ?_ ((lin.iter i).zero) 128 (fun x y _ _ => ?_) (fun x y hx hy => (lin.iter i).xor x y hx hy) (fun j hj => ?_) B hB
  · show rdG 128 (0 * 2 ^ i) = 0
    rw [Nat.zero_mul, rdG_zero]
  · show rdG 128 ((x ^^^ y) * 2 ^ i) = _
    rw [xor_shl, rdG_xor]
  · show rdG 128 (2 ^ j * 2 ^ i) = Gal.iter T i (2 ^ j)
    rw [← Nat.pow_add, rd_pows (j + i) (by omega), ← base j hj, Gal.iter_add, Nat.add_comm]
theorem rd_cl (A B : Nat) (hB : B < 2 ^ 128) : ∀ i, i ≤ 128 → rdG 128 (clG A B i) = Gal.mul T i B A := by
  intro i
  induction i with
  | zero => intro _; simp only [clG, Gal.mul]; exact rdG_zero 128
  | succ i ih =>
    intro h
    simp only [clG]
    rw [rdG_xor, ih (by omega), gmul_snoc i B A hB]
    congr 1
    split
    · exact rd_shl B i hB (by omega)
    · exact rdG_zero 128
theorem ref_mul (A B : Nat) (hB : B < 2 ^ 128) : rdG 128 (clG A B 128) = mul B A := rd_cl A B hB 128 (by omega)
end Gh
namespace Go.Proofs.Ytpeibkdcglkimaa
/-- The bits of a block's bytes. -/
theorem beL_bit (n j t : Nat) (hj : j < 8) (ht : t < 8) : ((beL n 8 8).getD j 0).testBit t = n.testBit (8 * (7 - j) + t) := by
  unfold beL
  rw [List.getD_eq_getElem?_getD, List.getElem?_map, List.getElem?_range hj]
  simp only [Option.map_some, Option.getD_some]
  rw [show (256 : Nat) = 2 ^ 8 by decide, Nat.testBit_mod_two_pow, ← Nat.shiftRight_eq_div_pow, Nat.testBit_shiftRight]
  simp [ht]
theorem bytB_bit (N j t : Nat) (hj : j < 16) (ht : t < 8) : ((bytB N).getD j 0).testBit t = N.testBit (8 * j + (7 - t)) := by
  unfold bytB
  have hl := beL_length (Gh.hi N) 8 8
  by_cases h : j < 8
  · rw [List.getD_eq_getElem?_getD, List.getElem?_append_left (by omega), ← List.getD_eq_getElem?_getD, beL_bit _ _ _ h ht]
    unfold Gh.hi
    rw [Gh.two64, ← Nat.shiftRight_eq_div_pow, Nat.testBit_shiftRight, Gh.rv_bit]
    have h1 : 64 + (8 * (7 - j) + t) < 128 := by omega
    have h2 : 128 - 1 - (64 + (8 * (7 - j) + t)) = 8 * j + (7 - t) := by omega
    rw [h2]
    simp [h1]
  · rw [List.getD_eq_getElem?_getD, List.getElem?_append_right (by omega), ← List.getD_eq_getElem?_getD, hl, beL_bit _ _ _ (by omega) ht]
    unfold Gh.lo
    rw [Gh.two64, Nat.testBit_mod_two_pow, Gh.rv_bit]
    have h0 : 8 * (7 - (j - 8)) + t < 64 := by omega
    have h1 : 8 * (7 - (j - 8)) + t < 128 := by omega
    have h2 : 128 - 1 - (8 * (7 - (j - 8)) + t) = 8 * j + (7 - t) := by omega
    rw [h2]
    simp only [h0, h1, decide_true, Bool.true_and]
theorem div_bit (x t : Nat) : x / 2 ^ t % 2 = Gh.b01 (x.testBit t) := by
  have e : (x / 2 ^ t).testBit 0 = x.testBit t := by rw [← Nat.shiftRight_eq_div_pow, Nat.testBit_shiftRight, Nat.add_zero]
  rw [Nat.testBit_zero] at e
  rw [← e]
  rcases Nat.mod_two_eq_zero_or_one (x / 2 ^ t) with h | h <;> simp [h, Gh.b01]
theorem polB_bit (xs : List Nat) (hl : xs.length = 16) (hx : ∀ x ∈ xs, x < 256) (i y : Nat) (hi : i < 128) (hy : xs[i / 8]? = some y) : y / 2 ^ (7 - i % 8) % 2 = Gh.b01 ((polB xs).testBit i) := by
  rw [div_bit]
  have h := bytB_bit (polB xs) (i / 8) (7 - i % 8) (by omega) (by omega)
  rw [bytB_polB xs hl hx, List.getD_eq_getElem?_getD, hy, Option.getD_some] at h
  rw [h, show 8 * (i / 8) + (7 - (7 - i % 8)) = i by omega]
theorem bytB_high (N j t : Nat) (ht : 8 ≤ t) : ((bytB N).getD j 0).testBit t = false := by
  refine Nat.testBit_lt_two_pow (Nat.lt_of_lt_of_le (m := 2 ^ 8) ?_ (Nat.pow_le_pow_right (n := 2) (by omega) ht))
  rw [List.getD_eq_getElem?_getD]
  cases h : (bytB N)[j]? with
  | none => exact (by decide : 0 < 2 ^ 8)
  | some y => exact bytB_lt N y (List.mem_of_getElem? h)
/-- One more bit is laid into the bytes. -/
theorem lay_bit (M i c : Nat) (hM : M < 2 ^ i) (hi : i < 128) (hc : c ≤ 1) : ∃ y, (bytB M)[i / 8]? = some y ∧ (bytB M).set (i / 8) (y ||| c * 2 ^ (7 - i % 8)) = bytB (M ^^^ c * 2 ^ i) := by
  have hlen := bytB_len M
  have hlt : i / 8 < (bytB M).length := by omega
  obtain ⟨y, hy⟩ : ∃ y, (bytB M)[i / 8]? = some y := ⟨_, List.getElem?_eq_getElem hlt⟩
  have hyd : y = (bytB M).getD (i / 8) 0 := by rw [List.getD_eq_getElem?_getD, hy]; rfl
  refine ⟨y, hy, ?_⟩
  apply List.ext_getElem?
  intro j
  rw [List.getElem?_set]
  by_cases hj : j < 16
  · have e1 : ∀ N, (bytB N)[j]? = some ((bytB N).getD j 0) := fun N => by
      rw [List.getD_eq_getElem?_getD, List.getElem?_eq_getElem (by rw [bytB_len]; exact hj)]; rfl
    rw [e1 (M ^^^ c * 2 ^ i)]
    by_cases hij : i / 8 = j
    · rw [if_pos hij, if_pos hlt, hyd, hij]
      refine congrArg some ?_
      apply Nat.eq_of_testBit_eq
      intro t
      rw [Nat.testBit_or, Gh.bit_mul_pow c _ _ hc]
      by_cases ht : t < 8
      · rw [bytB_bit M _ t hj ht, bytB_bit (M ^^^ c * 2 ^ i) _ t hj ht, Nat.testBit_xor, Gh.bit_mul_pow c _ _ hc]
        by_cases h1 : 8 * j + (7 - t) = i
        · have h2 : t = 7 - i % 8 := by omega
          rw [h1, Nat.testBit_lt_two_pow hM]
          simp [h2]
        · have h2 : ¬ t = 7 - i % 8 := by omega
          simp [h1, h2]
      · have h3 : ¬ t = 7 - i % 8 := by omega
        rw [bytB_high M j t (by omega), bytB_high (M ^^^ c * 2 ^ i) j t (by omega)]
        simp [h3]
    · rw [if_neg hij, e1 M]
      refine congrArg some ?_
      apply Nat.eq_of_testBit_eq
      intro t
      by_cases ht : t < 8
      · rw [bytB_bit M j t hj ht, bytB_bit (M ^^^ c * 2 ^ i) j t hj ht, Nat.testBit_xor, Gh.bit_mul_pow c _ _ hc]
        have h1 : ¬ 8 * j + (7 - t) = i := by omega
        simp [h1]
      · rw [bytB_high M j t (by omega), bytB_high (M ^^^ c * 2 ^ i) j t (by omega)]
  · rw [if_neg (by omega), List.getElem?_eq_none (by rw [bytB_len]; omega), List.getElem?_eq_none (by rw [bytB_len]; omega)]
end Go.Proofs.Ytpeibkdcglkimaa

namespace Go.Proofs.Ytpeibkdcglkimaa
open Go.ChangeShapes Go.WideShapes Go.ChangeAt Go.RowKit

set_option maxRecDepth 100000 in
set_option maxHeartbeats 1000000 in
theorem gh_next (p : Nat) (hp : p < 2 ^ 128) (w : World) :
    Calls Try.prog 42 #[.agg (halfL p).toArray] w fun e w' => e = .returned (.agg (halfL (Gh.T p)).toArray) ∧ Below w.heap.size w w' := by
  obtain ⟨h, hh⟩ : ∃ h, h = Gh.hi p := ⟨_, rfl⟩
  obtain ⟨l, hl⟩ : ∃ l, l = Gh.lo p := ⟨_, rfl⟩
  have hh8 : h < 18446744073709551616 := by rw [hh]; exact Gh.hi_lt p
  have hl8 : l < 18446744073709551616 := by rw [hl]; exact Gh.lo_lt p
  obtain ⟨e1, e2⟩ := Gh.step_eq p hp
  rw [← hh, ← hl] at e1 e2
  have HE := Lib.hid (show halfL (Gh.T p) = [.int .u64 ((Gh.stepH h l : Nat) : Int), .int .u64 ((Gh.stepL h l : Nat) : Int)] by unfold halfL; rw [e1, e2])
  have e0 : (halfL p).toArray = #[.int .u64 (h : Int), .int .u64 (l : Int)] := by unfold halfL; rw [← hh, ← hl]
  rw [e0]
  have e3 : bits .and .u64 (l : Int) 1 = ((l % 2 : Nat) : Int) := by
    have := u64_and_nat l 1 hl8 (by omega)
    rw [Nat.and_one_is_mod] at this
    exact this
  obtain ⟨sl, hsl⟩ : ∃ sl, sl = Gh.stepL h l := ⟨_, rfl⟩
  obtain ⟨sh, hsh⟩ : ∃ sh, sh = Gh.stepH h l := ⟨_, rfl⟩
  rw [← hsl, ← hsh] at HE
  have e4 : bits .or .u64 ((l : Int) / 2) (IntKind.u64.wrap ((h : Int) * 9223372036854775808)) = (sl : Int) := by
    have h1 : IntKind.u64.wrap ((h : Int) * 9223372036854775808) = ((h * 9223372036854775808 % 18446744073709551616 : Nat) : Int) := by rw [IntKind.wrap_u64]; omega
    have h2 : (l : Int) / 2 = ((l / 2 : Nat) : Int) := by omega
    rw [h1, h2, u64_or_nat _ _ (by omega) (by omega), hsl]
    rfl
  clear e0 e1 e2 hh hl hsl
  rcases Nat.mod_two_eq_zero_or_one l with hm | hm
  · rw [hm] at e3
    have e5 : (h : Int) / 2 = (sh : Int) := by
      have h1 : sh = h / 2 := by rw [hsh]; unfold Gh.stepH; rw [if_neg (by omega), Nat.xor_zero]
      omega
    clear hsh hm
    go_enter Try.func42, Try.ntmps42
    go_wp2_with fail
    exact bodyPost_ret (results_blkS rfl _ (w.heap.size + 1) 79 _ rfl ((Blk.made1 w _ 79 #[.int .u64 (sh : Int), .int .u64 (sl : Int)]).alloc _) Try.underlying79 (by kernel_rfl)) rfl ⟨by rw [HE.out], nu_alloc (nu_alloc (nu_alloc (nu_refl w) _) _) _⟩
  · rw [hm] at e3
    have e5 : bits .xor .u64 ((h : Int) / 2) 16212958658533785600 = (sh : Int) := by
      have h1 : (h : Int) / 2 = ((h / 2 : Nat) : Int) := by omega
      have h2 := u64_xor_nat (h / 2) 16212958658533785600 (by omega) (by omega)
      have h3 : sh = h / 2 ^^^ 16212958658533785600 := by rw [hsh]; unfold Gh.stepH; rw [if_pos hm]
      rw [h3, h1]
      exact h2
    clear hsh hm
    go_enter Try.func42, Try.ntmps42
    go_wp2_with fail
    exact bodyPost_ret (results_blkS rfl _ (w.heap.size + 1) 79 _ rfl ((Blk.made1 w _ 79 #[.int .u64 (sh : Int), .int .u64 (sl : Int)]).alloc _) Try.underlying79 (by kernel_rfl)) rfl ⟨by rw [HE.out], nu_alloc (nu_alloc (nu_alloc (nu_refl w) _) _) _⟩
end Go.Proofs.Ytpeibkdcglkimaa

namespace Go.Proofs.Ytpeibkdcglkimaa
open Go.ChangeShapes Go.WideShapes Go.ChangeAt Go.RowKit

abbrev z16 : Array Value := #[.int .u8 0, .int .u8 0, .int .u8 0, .int .u8 0, .int .u8 0, .int .u8 0, .int .u8 0, .int .u8 0, .int .u8 0, .int .u8 0, .int .u8 0, .int .u8 0, .int .u8 0, .int .u8 0, .int .u8 0, .int .u8 0]
set_option maxRecDepth 100000 in
set_option maxHeartbeats 1000000 in
theorem gh_bytes (p : Nat) (w : World) :
    Calls Try.prog 64 #[.agg (halfL p).toArray] w fun e w' => e = .returned (.agg ((bytB p).map vb).toArray) ∧ Below w.heap.size w w' := by
  obtain ⟨h, hh⟩ : ∃ h, h = Gh.hi p := ⟨_, rfl⟩
  obtain ⟨l, hl⟩ : ∃ l, l = Gh.lo p := ⟨_, rfl⟩
  have hh8 : h < 18446744073709551616 := by rw [hh]; exact Gh.hi_lt p
  have hl8 : l < 18446744073709551616 := by rw [hl]; exact Gh.lo_lt p
  have e0 : (halfL p).toArray = #[.int .u64 (h : Int), .int .u64 (l : Int)] := by unfold halfL; rw [← hh, ← hl]
  rw [e0]
  have HX := Lib.hid (show bytB p = beL h 8 8 ++ beL l 8 8 by unfold bytB; rw [hh, hl])
  have hal := nu_alloc (nu_alloc (nu_refl w) (.cells #[.int .u64 (h : Int), .int .u64 (l : Int)] 79)) (.cells z16 44)
  have HP := Lib.hid ((Blk.made w 79 #[.int .u64 (h : Int), .int .u64 (l : Int)]).alloc (.cells z16 44))
  have HO := Lib.hid (Blk.made1 w (.cells #[.int .u64 (h : Int), .int .u64 (l : Int)] 79) 44 z16)
  have Hal := Lib.hid hal
  have Hxl := Lib.hid (bytB_len p)
  have Hxx := Lib.hid (bytB_lt p)
  clear e0 hh hl hal
  obtain ⟨xs, hxs⟩ : ∃ xs, xs = bytB p := ⟨_, rfl⟩
  rw [← hxs] at HX Hxl Hxx
  have Hxs := Lib.hid hxs
  clear hxs
  go_enter Try.func64, Try.ntmps64
  go_upto_region 1 with fail
  generalize (w.alloc (.cells #[.int .u64 (h : Int), .int .u64 (l : Int)] 79)).alloc (.cells z16 44) = w1 at *
  have c0 : w1.cell? ⟨w.heap.size, 0, none⟩ = some (.int .u64 (h : Int)) := HP.out.at 0 _ rfl
  go_wp2_with fail
  refine (put_at none 0 0 [] h 8 (h : Int) 8 w1 (BytesIn.nil_ w1) (by omega) (by unfold putOk; omega) hh8 rfl rfl).mono ?_
  rintro e w2 ⟨v2, rfl, hO2, hb2⟩
  rw [List.nil_append] at hO2
  have hn2 := nu_trans Hal.out hb2
  obtain ⟨a2, k2, rfl, _, _, hby2⟩ := hO2.reads
  rw [beL_length] at hby2 ⊢
  have HO2 := Lib.hid (Blk.below HO.out hb2 (Blk.lt HO.out))
  have c1 : w2.cell? ⟨w.heap.size, 1, none⟩ = some (.int .u64 (l : Int)) := (Blk.below HP.out hb2 (Blk.lt HP.out)).at 1 _ rfl
  have Hs1 := Lib.hid (show w.heap.size + 1 < w1.heap.size from Blk.lt HO.out)
  clear c0 HO HP Hal
  go_wp2_with fail
  refine (put_at a2 8 k2 (beL h 8 8) l 8 (l : Int) 8 w2 hby2 (by omega) (by unfold putOk; omega) hl8 rfl rfl).mono ?_
  rintro e w3 ⟨v3, rfl, hO3, hb3⟩
  rw [← HX.out] at hO3
  have hn3 := nu_trans hn2 hb3
  have HO3 := Lib.hid (Blk.below HO2.out hb3 (Blk.lt HO2.out))
  obtain ⟨B, k3, cur, rfl, hBw, hB, hk3, _, hcs, htk⟩ := hO3.form (by rw [Hxl.out]; omega)
  rw [Hxl.out] at htk hk3 ⊢
  have HB := Lib.hid hB
  have Hr := Lib.hid (show w3.rangeAt B 0 (xs.map vb) from range_mid hB (l := []) (r := cur.toList.drop 16) (by rw [← htk]; exact (List.take_append_drop 16 cur.toList).symm) rfl)
  clear hO3 hO2 hby2 c1 HO2 hb2 hb3 hn2 hB
  have hAr : ∀ W, (Instr.arrayAt 44 (.slice (some ⟨B, 0, none⟩) 16 k3)).run Try.prog W = .ok (.pointer (some ⟨B, 0, none⟩)) W := fun _ => by kernel_rfl
  have HLd := Lib.hid (fun (o : Oper) (a : Act) (x : Operand) (ho : o.op = .load 44 x) (hx : a.eval x = .pointer (some ⟨B, 0, none⟩)) =>
    exec_load_mid (P := Try.prog) (o := o) (a := a) (w := w3) 44 x B 0 (xs.map vb) (.array 16 5) ho hx Hr.out (by kernel_rfl) rfl (by rw [List.length_map, Hxl.out]; kernel_rfl))
  have Hl := Lib.hid (show (xs.map vb).length = z16.size by rw [List.length_map, Hxl.out]; rfl)
  have Hsz := Lib.hid (show (Try.prog.info? 44).map (·.size) = some (xs.map vb).toArray.size by rw [List.size_toArray, List.length_map, Hxl.out]; kernel_rfl)
  have HF := Lib.hid (Blk.fill HO3.out (xs.map vb) Hl.out)
  have Hnf := Lib.hid (nu_fill (xs.map vb) (g := w.heap.size + 1) (by omega) 0 _ hn3)
  have H1 := Lib.hid (vb_one xs)
  clear hn3 htk hcs hBw HB Hr
  generalize hD : xs.map vb = D at *
  have HD := Lib.hid hD
  clear hD
  go_wp2_with (first | (refine wpList_run _ rfl (HLd.out _ _ (.tmp 19) rfl rfl) ?_) | (refine wpList_store_blk rfl 44 (.tmp 2) (.tmp 20) rfl (w.heap.size + 1) D rfl rfl 44 z16 HO3.out Hl.out (by have h := Hsz.out; rwa [List.size_toArray] at h) H1.out ?_))
  refine bodyPost_ret (results_blk rfl _ (w.heap.size + 1) 44 D.toArray rfl HF.out Try.underlying44 Hsz.out) rfl ⟨by rw [← Hxs.out, HD.out], Hnf.out⟩
end Go.Proofs.Ytpeibkdcglkimaa

namespace Go.Proofs.Ytpeibkdcglkimaa
open Go.ChangeShapes Go.WideShapes Go.ChangeAt Go.RowKit

theorem wpList_store_part {P : Program} {ops : Array Oper} {rest : List Oper} {o : Oper} {a : Act} {w : World} {Q : Exit → Act → World → Prop} (hgd : o.guard = none) (ty : TypeId) (x y : Operand) (ho : o.op = .store ty x y)
    (g k : Nat) (vs : List Value) (hx : a.eval x = .pointer (some ⟨g, k, none⟩)) (hy : a.eval y = .agg vs.toArray) (t : TypeId) (cs : Array Value) (hb : Blk w g t cs) (hl : k + vs.length ≤ cs.size)
    (hi : (P.info? ty).map (·.size) = some vs.length) (h1 : ∀ v ∈ vs, v.oneCell' = true)
    (h : wpList P ops Q rest (a.put o.dst undef) (w.setCells g k vs)) : wpList P ops Q (o :: rest) a w := by
  refine wpList_plain hgd fun K hK => ?_
  refine wp_store_mid ty x y ho g k vs.toArray hx hy (hb.there k _ (by simp; omega)) (by simpa using hi) (all_oneCell_toArray h1) ?_
  exact hK _ _ h
theorem Blk.part {w : World} {g : Nat} {t : TypeId} {cs : Array Value} (h : Blk w g t cs) (k : Nat) (vs : List Value) (hl : k + vs.length ≤ cs.size) :
    Blk (w.setCells g k vs) g t (cs.toList.take k ++ vs ++ cs.toList.drop (k + vs.length)).toArray := by
  have h1 := blk_setCells vs k w cs h
  have h2 := fold_set vs k cs hl
  rw [← h2]
  simpa using h1

/-- Rows of pairs. -/
def pairs (f : Nat → List Value) (k : Nat) : List Value := (List.range k).flatMap f
theorem pairs_succ (f : Nat → List Value) (k : Nat) : pairs f (k + 1) = pairs f k ++ f k := by
  unfold pairs
  rw [List.range_succ, List.flatMap_append]
  simp
theorem pairs_len (f : Nat → List Value) (hf : ∀ i, (f i).length = 2) (k : Nat) : (pairs f k).length = 2 * k := by
  induction k with
  | zero => rfl
  | succ k ih => rw [pairs_succ, List.length_append, ih, hf]; omega
theorem pairs_at (f : Nat → List Value) (hf : ∀ i, (f i).length = 2) (i : Nat) : ∀ k, i < k → ((pairs f k).drop (2 * i)).take 2 = f i := by
  intro k
  induction k with
  | zero => intro h; omega
  | succ k ih =>
    intro h
    rw [pairs_succ]
    by_cases hi : i = k
    · subst hi
      rw [List.drop_append_of_le_length (by rw [pairs_len f hf]; omega), List.drop_of_length_le (by rw [pairs_len f hf]; omega), List.nil_append]
      exact List.take_of_length_le (by rw [hf]; omega)
    · have hik : i < k := by omega
      rw [List.drop_append_of_le_length (by rw [pairs_len f hf]; omega), List.take_append_of_le_length (by rw [List.length_drop, pairs_len f hf]; omega)]
      exact ih hik
/-- The first k multiples, the rest as it was made. -/
def keyF (p k : Nat) : List Value := pairs (fun i => halfL (Gal.iter Gh.T i p)) k ++ List.replicate (256 - 2 * k) (.int .u64 0)
def keyL (p : Nat) : List Value := pairs (fun i => halfL (Gal.iter Gh.T i p)) 128
theorem halfL_len (p : Nat) : (halfL p).length = 2 := rfl
theorem keyF_len (p k : Nat) (h : k ≤ 128) : (keyF p k).length = 256 := by
  unfold keyF
  rw [List.length_append, pairs_len _ (fun i => halfL_len _), List.length_replicate]
  omega
theorem keyL_len (p : Nat) : (keyL p).length = 256 := pairs_len _ (fun i => halfL_len _) 128
theorem keyF_all (p : Nat) : keyF p 128 = keyL p := by simp [keyF, keyL]
theorem keyF_step (p k : Nat) (h : k < 128) : (keyF p k).take (2 * k) ++ halfL (Gal.iter Gh.T k p) ++ (keyF p k).drop (2 * k + 2) = keyF p (k + 1) := by
  have hl := pairs_len (fun i => halfL (Gal.iter Gh.T i p)) (fun i => halfL_len _) k
  unfold keyF
  rw [pairs_succ, List.take_append_of_le_length (by omega), List.take_of_length_le (by omega), List.drop_append, List.drop_of_length_le (by omega), List.nil_append, hl, List.drop_replicate]
  rw [show 256 - 2 * k - (2 * k + 2 - 2 * k) = 256 - 2 * (k + 1) by omega]
theorem keyL_at (p i : Nat) (h : i < 128) : ((keyL p).drop (2 * i)).take 2 = halfL (Gal.iter Gh.T i p) := pairs_at _ (fun i => halfL_len _) i 128 h
theorem halfL_one (p : Nat) : ∀ u ∈ halfL p, u.oneCell' = true := by
  intro u hu
  simp only [halfL, List.mem_cons, List.not_mem_nil, or_false] at hu
  rcases hu with rfl | rfl <;> rfl

/-- An element of a row of halves that lies in a value. -/
theorem exec_index_key {o : Oper} {a : Act} {w : World} (p i : Nat) (hi : i < 128) (x y : Operand) (ho : o.op = .index 80 x y) (hx : a.eval x = .agg (keyL p).toArray) (hy : a.eval y = .int .i64 (i : Int)) :
    (execOp a.eval o).run Try.prog w = .ok (.value (.agg (halfL (Gal.iter Gh.T i p)).toArray)) w := by
  have hp : ∀ w, (part 79 (keyL p).toArray (i * 2)).run Try.prog w = .ok (.agg ((keyL p).toArray.extract (i * 2) (i * 2 + 2))) w := by
    intro w
    have h1 : (isAgg 79).run Try.prog w = .ok true w := by kernel_rfl
    have h2 : (sizeOf 79).run Try.prog w = .ok 2 w := by kernel_rfl
    simp [part, h1, h2, Sem.run_bind, Result.andThen]
  have h2 : (sizeOf 79).run Try.prog w = .ok 2 w := by kernel_rfl
  have e : List.take 2 (List.drop (i * 2) (keyL p)) = halfL (Gal.iter Gh.T i p) := by rw [Nat.mul_comm]; exact keyL_at p i hi
  have hi2 : (0 : Int) ≤ (i : Int) ∧ (i : Int) < 128 := by omega
  unfold execOp
  simp only [ho, hx, hy]
  simp [Instr.index, run_underlying Try.underlying80, asIntOf, hi, hi2, h2, hp, e, go_sem]
end Go.Proofs.Ytpeibkdcglkimaa

namespace Go.Proofs.Ytpeibkdcglkimaa
open Go.ChangeShapes Go.WideShapes Go.ChangeAt Go.RowKit

theorem exec_key0 {o : Oper} {a : Act} {w : World} (Z : List Value) (hZ : Z = List.replicate 256 (Value.int .u64 0)) (ho : o.op = .build 82 #[]) : (execOp a.eval o).run Try.prog w = .ok (.value (.agg Z.toArray)) w := by
  subst hZ
  unfold execOp
  simp only [ho]
  kernel_rfl
theorem keyF_zero (p : Nat) : keyF p 0 = List.replicate 256 (Value.int .u64 0) := rfl
def KeyAt (w : World) (g p : Nat) : Prop := Blk w g 82 (keyL p).toArray
theorem iter_lt (p i : Nat) (hp : p < 2 ^ 128) : Gal.iter Gh.T i p < 2 ^ 128 := (Gh.lin.iter i).lt p hp

set_option maxRecDepth 100000 in
set_option maxHeartbeats 1000000 in
theorem gh_new (xs : List Nat) (hl : xs.length = 16) (hx : ∀ x ∈ xs, x < 256) (w : World) :
    Calls Try.prog 24 #[.agg (xs.map vb).toArray] w fun e w' => ∃ g, e = .returned (.pointer (some ⟨g, 0, none⟩)) ∧ w.heap.size ≤ g ∧ KeyAt w' g (polB xs) ∧ Below w.heap.size w w' := by
  have HL := Lib.hid (load_any xs hl hx)
  have hp := polB_lt xs
  obtain ⟨p, hpe⟩ : ∃ p, p = polB xs := ⟨_, rfl⟩
  rw [← hpe] at HL hp ⊢
  obtain ⟨Z, hZ⟩ : ∃ Z, Z = List.replicate 256 (Value.int .u64 0) := ⟨_, rfl⟩
  have HZ := Lib.hid hZ
  clear hZ
  have HB := Lib.hid ((Blk.made w 44 (xs.map vb).toArray).alloc (.cells Z.toArray 82))
  have HK := Lib.hid (Blk.made1 w (.cells (xs.map vb).toArray 44) 82 Z.toArray)
  have Hsz := Lib.hid (show (Try.prog.info? 44).map (·.size) = some (xs.map vb).toArray.size by rw [List.size_toArray, List.length_map, hl]; kernel_rfl)
  have hn := nu_alloc (nu_alloc (nu_refl w) (.cells (xs.map vb).toArray 44)) (.cells Z.toArray 82)
  clear hpe hl hx
  go_enter Try.func24, Try.ntmps24
  go_upto_region 2 with (refine wpList_run _ rfl (exec_key0 Z HZ.out rfl) ?_)
  generalize (w.alloc (.cells (xs.map vb).toArray 44)).alloc (.cells Z.toArray 82) = w1 at *
  obtain ⟨X, hX⟩ : ∃ X, X = xs.map vb := ⟨_, rfl⟩
  rw [← hX] at HB Hsz HL
  rw [← hX]
  clear hX
  obtain ⟨G, hG⟩ : ∃ G, G = w.heap.size + 1 := ⟨_, rfl⟩
  rw [← hG] at HK
  rw [← hG]
  have HG := Lib.hid (show w.heap.size ≤ G by omega)
  clear hG
  obtain ⟨H, hH⟩ : ∃ H, H = halfL p := ⟨_, rfl⟩
  rw [← hH] at HL
  have H2 := Lib.hid (show H.length = 2 by rw [hH]; rfl)
  have H1 := Lib.hid (show ∀ u ∈ H, u.oneCell' = true by rw [hH]; exact halfL_one p)
  have HH := Lib.hid hH
  clear hH
  have HW := Lib.hid (HL.out w1)
  go_wp2_with (refine wpList_load_blk rfl 44 (.tmp 1) rfl w.heap.size rfl 44 X.toArray HB.out Try.underlying44 Hsz.out ?_)
  refine HW.out.mono ?_
  rintro e w2 ⟨rfl, hb2⟩
  have hn2 := nu_trans hn hb2
  have HK2 := Lib.hid (Blk.below HK.out hb2 (Blk.lt HK.out))
  have HY := Lib.hid (Blk.made w2 79 #[.int .u64 0, .int .u64 0])
  have HF := Lib.hid (Blk.fill HY.out H (by rw [H2.out]; rfl))
  have hf := nu_fill H (g := w2.heap.size) (Nat.le_refl _) 0 _ (nu_alloc (nu_refl w2) (.cells #[.int .u64 0, .int .u64 0] 79))
  have HGY := Lib.hid (Blk.lt HK2.out)
  clear hn hb2 HK HB Hsz HL HW
  go_upto_region 3 with (refine wpList_store_blk rfl 79 (.tmp 4) (.tmp 9) rfl w2.heap.size H rfl rfl 79 #[.int .u64 0, .int .u64 0] HY.out (by rw [H2.out]; rfl) (by rw [H2.out]; kernel_rfl) H1.out ?_)
  have HK3 := Lib.hid (Blk.below HK2.out hf HGY.out)
  have hn3 := nu_trans hn2 hf
  generalize (w2.alloc (.cells #[.int .u64 0, .int .u64 0] 79)).setCells w2.heap.size 0 H = w3 at *
  have HYG := Lib.hid (show w.heap.size ≤ w2.heap.size from hn2.size)
  generalize w2.heap.size = Y at *
  clear HK2 hf hn2
  go_wp2_with fail
  go_loopw [10] (fun i wr => ∃ k : Nat, k ≤ 128 ∧ i = .int .i64 k ∧ Blk wr G 82 (keyF p k).toArray ∧ Blk wr Y 79 (halfL (Gal.iter Gh.T k p)).toArray ∧ Below w.heap.size w wr) (fun i _ => 128 - (intOf i).toNat)
  case atStart => exact ⟨0, by omega, rfl, by rw [keyF_zero, ← HZ.out]; exact HK3.out, by rw [show Gal.iter Gh.T 0 p = p from rfl, ← HH.out]; exact HF.out, hn3⟩
  case round =>
    clear HK3 HF hn3 HY
    obtain ⟨k, hk, rfl, hK, hY, hn⟩ := hrel
    have HK := Lib.hid hK
    have HY := Lib.hid hY
    clear hK hY
    by_cases hlt : k < 128
    · have hki : (k : Int) < 128 := by omega
      have hq := iter_lt p k hp
      have Hstep := Lib.hid (keyF_step p k hlt)
      have Hkl := Lib.hid (keyF_len p k hk)
      have Hit := Lib.hid (show Gh.T (Gal.iter Gh.T k p) = Gal.iter Gh.T (k + 1) p from rfl)
      obtain ⟨q', hq'⟩ : ∃ q', q' = Gal.iter Gh.T (k + 1) p := ⟨_, rfl⟩
      rw [← hq'] at Hit
      have Hq' := Lib.hid hq'
      clear hq'
      generalize Gal.iter Gh.T k p = q at *
      obtain ⟨a, ha⟩ : ∃ a : Int, a = (Gh.hi q : Int) := ⟨_, rfl⟩
      obtain ⟨b, hb⟩ : ∃ b : Int, b = (Gh.lo q : Int) := ⟨_, rfl⟩
      have hq2 : halfL q = [.int .u64 a, .int .u64 b] := by unfold halfL; rw [ha, hb]
      rw [hq2] at HY Hstep
      obtain ⟨N, hN⟩ : ∃ N, N = halfL q' := ⟨_, rfl⟩
      have HN2 := Lib.hid (show N.length = 2 by rw [hN]; rfl)
      have HN1 := Lib.hid (show ∀ u ∈ N, u.oneCell' = true by rw [hN]; exact halfL_one q')
      have HNx := Lib.hid (show ∀ w : World, Calls Try.prog 42 #[.agg #[.int .u64 a, .int .u64 b]] w fun e w' => e = .returned (.agg N.toArray) ∧ Below w.heap.size w w' from fun w => by
        have h := gh_next q hq w
        rw [Hit.out, ← hN, hq2] at h
        exact h)
      have HNe := Lib.hid hN
      clear ha hb hq2 hN hq Hit
      have d0 : wr.cell? ⟨Y, 0, none⟩ = some (.int .u64 a) := HY.out.at 0 _ rfl
      have d1 : wr.cell? ⟨Y, 1, none⟩ = some (.int .u64 b) := HY.out.at 1 _ rfl
      go_upto_region 6 with fail
      go_still_tail 6, (by kernel_rfl)
      change wpList _ _ _ _ _ wr.drew
      have HK4 := Lib.hid HK.out.drew
      have HY4 := Lib.hid HY.out.drew
      have hn4 := hn.drew
      clear hn HK HY d0 d1
      generalize wr.drew = w4 at *
      have hlen : k * 2 + [Value.int .u64 a, .int .u64 b].length ≤ (keyF p k).toArray.size := by rw [List.size_toArray, Hkl.out]; simp; omega
      have HK5 := Lib.hid (HK4.out.part (k * 2) [.int .u64 a, .int .u64 b] hlen)
      have HY5 := Lib.hid (HY4.out.farCells [.int .u64 a, .int .u64 b] (k := G) (Nat.ne_of_gt HGY.out) (k * 2))
      have Hn5 := Lib.hid (nu_fill [.int .u64 a, .int .u64 b] (g := G) HG.out (k * 2) w4 hn4)
      have Hlen := Lib.hid hlen
      clear hlen hn4 HY4
      go_upto_region 7 with (refine wpList_store_part rfl 79 (.tmp 18) (.tmp 15) rfl G (k * 2) [.int .u64 a, .int .u64 b] rfl rfl 82 _ HK4.out Hlen.out (show _ = some 2 by kernel_rfl) (by simp [Value.oneCell']) ?_)
      generalize w4.setCells G (k * 2) [.int .u64 a, .int .u64 b] = w5 at *
      have hK5 := HK5.out
      rw [show (keyF p k).toArray.toList = keyF p k from rfl, show k * 2 + [Value.int .u64 a, .int .u64 b].length = 2 * k + 2 by simp; omega, Nat.mul_comm k 2, Hstep.out] at hK5
      have HK6 := Lib.hid hK5
      have d0 : w5.cell? ⟨Y, 0, none⟩ = some (.int .u64 a) := HY5.out.at 0 _ rfl
      have d1 : w5.cell? ⟨Y, 1, none⟩ = some (.int .u64 b) := HY5.out.at 1 _ rfl
      clear hK5 HK5 HK4
      go_wp2_with fail
      refine (HNx.out w5).mono ?_
      rintro e w6 ⟨rfl, hb6⟩
      have HK7 := Lib.hid (Blk.below HK6.out hb6 (Blk.lt HK6.out))
      have HY7 := Lib.hid (Blk.below HY5.out hb6 (Blk.lt HY5.out))
      have hn7 := nu_trans Hn5.out hb6
      have HF := Lib.hid (Blk.fill HY7.out N (by rw [HN2.out]; rfl))
      have HK8 := Lib.hid (HK7.out.farCells N (k := Y) (Nat.ne_of_lt HGY.out) 0)
      have Hn8 := Lib.hid (nu_fill N (g := Y) HYG.out 0 w6 hn7)
      clear d0 d1 hb6 HK6 HY5 hn7 Hn5
      go_upto_region 8 with (refine wpList_store_blk rfl 79 (.tmp 4) (.tmp 20) rfl Y N rfl rfl 79 #[.int .u64 a, .int .u64 b] HY7.out (by rw [HN2.out]; rfl) (by rw [HN2.out]; kernel_rfl) HN1.out ?_)
      generalize w6.setCells Y 0 N = w7 at *
      go_wp2_with fail
      go_roundw
      case rel => first | exact ⟨k + 1, by omega, by go_num, HK8.out, by rw [← Hq'.out, ← HNe.out]; exact HF.out, Hn8.out⟩ | ((repeat apply Exists.intro); exact ⟨⟨k + 1, by omega, by go_num, HK8.out, by rw [← Hq'.out, ← HNe.out]; exact HF.out, Hn8.out⟩, rfl⟩)
      case measure => simp [intOf]; omega
    · obtain rfl : k = 128 := by omega
      have hK := HK.out
      rw [keyF_all] at hK
      have HK2 := Lib.hid hK
      clear hK HK HY hlt hk
      go_wp2_with fail
      go_ret
      exact ⟨_, rfl, HG.out, HK2.out, hn⟩
end Go.Proofs.Ytpeibkdcglkimaa

namespace Go.Proofs.Ytpeibkdcglkimaa
open Go.ChangeShapes Go.WideShapes Go.ChangeAt Go.RowKit

theorem halfL_at (p : Nat) (a b : Int) (h : halfL p = [.int .u64 a, .int .u64 b]) : a = (Gh.hi p : Int) ∧ b = (Gh.lo p : Int) := by
  unfold halfL at h
  injection h with h1 h2
  injection h2 with h2 _
  injection h1 with _ h1
  injection h2 with _ h2
  exact ⟨h1.symm, h2.symm⟩

/-- One bit, as the program reads it off a number. -/
theorem bit_read (x m : Nat) (hx : x < 18446744073709551616) (v : Nat) (hv : x / 2 ^ m % 2 = v) : bits .and .u64 ((x : Int) / 2 ^ m) 1 = (v : Int) := by
  have e : (x : Int) / 2 ^ m = ((x / 2 ^ m : Nat) : Int) := by simp
  have hl : x / 2 ^ m < 18446744073709551616 := Nat.lt_of_le_of_lt (Nat.div_le_self _ _) hx
  have h := u64_and_nat (x / 2 ^ m) 1 hl (by omega)
  rw [Nat.and_one_is_mod, hv] at h
  rw [e]
  exact h
theorem mask0 (x y : Nat) (hx : x < 18446744073709551616) (hy : y < 18446744073709551616) : bits .xor .u64 (x : Int) (bits .and .u64 (y : Int) 0) = (x : Int) := by
  have h1 := u64_and_nat y 0 hy (by omega)
  have h2 := u64_xor_nat x 0 hx (by omega)
  rw [Nat.and_zero] at h1
  rw [Nat.xor_zero] at h2
  rw [show bits .and .u64 (y : Int) 0 = 0 from h1]
  exact h2
theorem mask1 (x y : Nat) (hx : x < 18446744073709551616) (hy : y < 18446744073709551616) : bits .xor .u64 (x : Int) (bits .and .u64 (y : Int) (IntKind.u64.wrap (-1))) = ((x ^^^ y : Nat) : Int) := by
  have h1 := u64_and_nat y 18446744073709551615 hy (by omega)
  rw [show (18446744073709551615 : Nat) = 2 ^ 64 - 1 by decide, Nat.and_two_pow_sub_one_eq_mod, Nat.mod_eq_of_lt (by omega)] at h1
  rw [show IntKind.u64.wrap (-1) = ((2 ^ 64 - 1 : Nat) : Int) by rw [IntKind.wrap_u64]; decide, h1]
  exact u64_xor_nat x y hx hy
set_option maxRecDepth 100000 in
set_option maxHeartbeats 2000000 in
theorem gh_times (g p q : Nat) (hp : p < 2 ^ 128) (w : World) (hk : KeyAt w g p) :
    Calls Try.prog 62 #[.pointer (some ⟨g, 0, none⟩), .agg (halfL q).toArray] w fun e w' => e = .returned (.agg (halfL (Gh.mul p q)).toArray) ∧ Below w.heap.size w w' := by
  obtain ⟨a, ha⟩ : ∃ a : Int, a = (Gh.hi q : Int) := ⟨_, rfl⟩
  obtain ⟨b, hb⟩ : ∃ b : Int, b = (Gh.lo q : Int) := ⟨_, rfl⟩
  have e0 : halfL q = [.int .u64 a, .int .u64 b] := by unfold halfL; rw [ha, hb]
  rw [e0]
  have Hab := Lib.hid (And.intro ha hb)
  have Hg := Lib.hid (Blk.lt hk)
  have hal := nu_alloc (nu_alloc (nu_alloc (nu_refl w) (.cells #[.int .u64 a, .int .u64 b] 79)) (.cells #[.int .u64 0, .int .u64 0] 79)) (.cells #[.int .u64 0, .int .u64 0] 79)
  have HX := Lib.hid (((Blk.made w 79 #[.int .u64 a, .int .u64 b]).alloc (.cells #[.int .u64 0, .int .u64 0] 79)).alloc (.cells #[.int .u64 0, .int .u64 0] 79))
  have HR := Lib.hid ((Blk.made1 w (.cells #[.int .u64 a, .int .u64 b] 79) 79 #[.int .u64 0, .int .u64 0]).alloc (.cells #[.int .u64 0, .int .u64 0] 79))
  have HO := Lib.hid (Blk.made2 w (.cells #[.int .u64 a, .int .u64 b] 79) (.cells #[.int .u64 0, .int .u64 0] 79) 79 #[.int .u64 0, .int .u64 0])
  have HK := Lib.hid (Blk.below hk hal (Blk.lt hk))
  clear ha hb e0 hk
  go_enter Try.func62, Try.ntmps62
  go_upto_region 2 with fail
  generalize ((w.alloc (.cells #[.int .u64 a, .int .u64 b] 79)).alloc (.cells #[.int .u64 0, .int .u64 0] 79)).alloc (.cells #[.int .u64 0, .int .u64 0] 79) = w1 at *
  obtain ⟨L, hL⟩ : ∃ L, L = keyL p := ⟨_, rfl⟩
  have HK1 : Hid (Blk w1 g 82 L.toArray) := by rw [hL]; exact HK.out
  have HLl := Lib.hid (show L.length = 256 by rw [hL, keyL_len])
  have HLd := Lib.hid (fun (o : Oper) (a : Act) (x : Operand) (ho : o.op = .load 80 x) (hx : a.eval x = .pointer (some ⟨g, 0, none⟩)) =>
    exec_load_mid (P := Try.prog) (o := o) (a := a) (w := w1) 80 x g 0 L (.array 128 79) ho hx (range_mid HK1.out (l := []) (r := []) (by simp) rfl) (by kernel_rfl) rfl (by rw [HLl.out]; kernel_rfl))
  have HIx := Lib.hid (fun (o : Oper) (a : Act) (w : World) (i : Nat) (hi : i < 128) (x y : Operand) (ho : o.op = .index 80 x y) (hx : a.eval x = .agg L.toArray) (hy : a.eval y = .int .i64 (i : Int)) =>
    exec_index_key (o := o) (a := a) (w := w) p i hi x y ho (by rw [hx, hL]) hy)
  clear hL HK HLl
  obtain ⟨O, hO⟩ : ∃ O, O = w.heap.size + 1 + 1 := ⟨_, rfl⟩
  rw [← hO] at HO
  obtain ⟨R, hR⟩ : ∃ R, R = w.heap.size + 1 := ⟨_, rfl⟩
  rw [← hR] at HR
  rw [← hO, ← hR]
  have Hap := Lib.hid (show w.heap.size ≠ O ∧ R ≠ O ∧ w.heap.size ≤ O ∧ w.heap.size ≤ R from ⟨by omega, by omega, by omega, by omega⟩)
  clear hO hR
  go_upto_region 3 with (refine wpList_run _ rfl (HLd.out _ _ (.tmp 11) rfl rfl) ?_)
  go_wp2_with fail
  go_loopw [13] (fun i wr => ∃ k : Nat, k ≤ 128 ∧ i = .int .i64 k ∧ Blk wr O 79 (halfL (Gal.mul Gh.T k p q)).toArray ∧ Blk wr w.heap.size 79 #[.int .u64 a, .int .u64 b] ∧ Blk wr R 79 #[.int .u64 0, .int .u64 0] ∧ Below w.heap.size w wr) (fun i _ => 128 - (intOf i).toNat)
  case atStart =>
    refine ⟨0, by omega, rfl, ?_, HX.out, HR.out, hal⟩
    have h : halfL (Gal.mul Gh.T 0 p q) = [.int .u64 0, .int .u64 0] := by
      unfold halfL
      rw [show Gal.mul Gh.T 0 p q = 0 from rfl, Gh.hi_zero, Gh.lo_zero]
      rfl
    rw [h]
    exact HO.out
  case round =>
    clear HO HX HR hal
    obtain ⟨k, hk, rfl, hO, hX, hR, hn⟩ := hrel
    by_cases hlt : k < 128
    · have hki : (k : Int) < 128 := by omega
      obtain ⟨c, hc⟩ : ∃ c : Int, c = (Gh.hi (Gal.iter Gh.T k p) : Int) := ⟨_, rfl⟩
      obtain ⟨d, hd⟩ : ∃ d : Int, d = (Gh.lo (Gal.iter Gh.T k p) : Int) := ⟨_, rfl⟩
      obtain ⟨oh, hoh⟩ : ∃ oh : Int, oh = (Gh.hi (Gal.mul Gh.T k p q) : Int) := ⟨_, rfl⟩
      obtain ⟨ol, hol⟩ : ∃ ol : Int, ol = (Gh.lo (Gal.mul Gh.T k p q) : Int) := ⟨_, rfl⟩
      have e1 : halfL (Gal.iter Gh.T k p) = [.int .u64 c, .int .u64 d] := by unfold halfL; rw [hc, hd]
      have e2 : halfL (Gal.mul Gh.T k p q) = [.int .u64 oh, .int .u64 ol] := by unfold halfL; rw [hoh, hol]
      have HI := Lib.hid (fun (o : Oper) (a : Act) (w : World) (x y : Operand) (ho : o.op = .index 80 x y) (hx : a.eval x = .agg L.toArray) (hy : a.eval y = .int .i64 (k : Int)) =>
        HIx.out o a w k hlt x y ho hx hy)
      rw [e1] at HI
      rw [e2] at hO
      have hal := nu_alloc (nu_refl wr) (.cells #[.int .u64 c, .int .u64 d] 79)
      have HO2 := Lib.hid (hO.alloc (.cells #[.int .u64 c, .int .u64 d] 79))
      have HX2 := Lib.hid (hX.alloc (.cells #[.int .u64 c, .int .u64 d] 79))
      have HR2 := Lib.hid (hR.alloc (.cells #[.int .u64 c, .int .u64 d] 79))
      have HM2 := Lib.hid (Blk.made wr 79 #[.int .u64 c, .int .u64 d])
      have Hn2 := Lib.hid (hn.trans (hal.mono hn.size))
      have HMO := Lib.hid (show O < wr.heap.size from Blk.lt hO)
      have HE := Lib.hid (show c = (Gh.hi (Gal.iter Gh.T k p) : Int) ∧ d = (Gh.lo (Gal.iter Gh.T k p) : Int) ∧ oh = (Gh.hi (Gal.mul Gh.T k p q) : Int) ∧ ol = (Gh.lo (Gal.mul Gh.T k p q) : Int) from ⟨hc, hd, hoh, hol⟩)
      clear hc hd hoh hol e1 e2 hO hX hR hn hal
      go_upto_region 5 with (refine wpList_run _ rfl (HI.out _ _ _ (.tmp 12) (.tmp 13) rfl rfl rfl) ?_)
      generalize wr.alloc (.cells #[.int .u64 c, .int .u64 d] 79) = w2 at *
      generalize wr.heap.size = M at *
      have hsn := Gh.gmul_snoc k p q hp
      obtain ⟨v, hv, hv01⟩ : ∃ v : Nat, v = (if q.testBit k then 1 else 0) ∧ (v = 0 ∨ v = 1) := ⟨_, rfl, by split <;> simp⟩
      obtain ⟨ph, hph⟩ : ∃ ph : Int, ph = (Gh.hi (Gal.mul Gh.T (k + 1) p q) : Int) := ⟨_, rfl⟩
      obtain ⟨pl, hpl⟩ : ∃ pl : Int, pl = (Gh.lo (Gal.mul Gh.T (k + 1) p q) : Int) := ⟨_, rfl⟩
      have HS := Lib.hid (show halfL (Gal.mul Gh.T (k + 1) p q) = [.int .u64 ph, .int .u64 pl] by unfold halfL; rw [hph, hpl])
      have hvv : (v = 0 ∧ bits .xor .u64 oh (bits .and .u64 c 0) = ph ∧ bits .xor .u64 ol (bits .and .u64 d 0) = pl) ∨ (v = 1 ∧ bits .xor .u64 oh (bits .and .u64 c (IntKind.u64.wrap (-1))) = ph ∧ bits .xor .u64 ol (bits .and .u64 d (IntKind.u64.wrap (-1))) = pl) := by
        obtain ⟨hc, hd, hoh, hol⟩ := HE.out
        rw [hc, hd, hoh, hol, hph, hpl, hsn]
        rcases hv01 with h | h
        · have hb : q.testBit k = false := by
            cases hb : q.testBit k with
            | false => rfl
            | true => rw [hv, hb] at h; simp at h
          refine .inl ⟨h, ?_, ?_⟩
          · rw [mask0 _ _ (Gh.hi_lt _) (Gh.hi_lt _), hb]; simp
          · rw [mask0 _ _ (Gh.lo_lt _) (Gh.lo_lt _), hb]; simp
        · have hb : q.testBit k = true := by
            cases hb : q.testBit k with
            | true => rfl
            | false => rw [hv, hb] at h; simp at h
          refine .inr ⟨h, ?_, ?_⟩
          · rw [mask1 _ _ (Gh.hi_lt _) (Gh.hi_lt _), hb, if_pos rfl, Gh.hi_xor]
          · rw [mask1 _ _ (Gh.lo_lt _) (Gh.lo_lt _), hb, if_pos rfl, Gh.lo_xor]
      have HF := Lib.hid (show Blk ((w2.setCell ⟨O, 0, none⟩ (.int .u64 ph)).setCell ⟨O, 1, none⟩ (.int .u64 pl)) O 79 #[.int .u64 ph, .int .u64 pl] from (HO2.out.put 0 (.int .u64 ph)).put 1 (.int .u64 pl))
      have HX3 := Lib.hid ((HX2.out.far (p := ⟨O, 0, none⟩) Hap.out.1 (.int .u64 ph)).far (p := ⟨O, 1, none⟩) Hap.out.1 (.int .u64 pl))
      have HR3 := Lib.hid ((HR2.out.far (p := ⟨O, 0, none⟩) Hap.out.2.1 (.int .u64 ph)).far (p := ⟨O, 1, none⟩) Hap.out.2.1 (.int .u64 pl))
      have Hn3 := Lib.hid (nu_set (nu_set Hn2.out (p := ⟨O, 0, none⟩) Hap.out.2.2.1 (.int .u64 ph)) (p := ⟨O, 1, none⟩) Hap.out.2.2.1 (.int .u64 pl))
      clear hsn hph hpl hv01
      by_cases h64 : k < 64
      · have hk64 : (k : Int) < 64 := by omega
        have cx0 : w2.cell? ⟨w.heap.size, 0, none⟩ = some (.int .u64 a) := HX2.out.at 0 _ rfl
        have eA : bits .and .i64 (k : Int) 63 = (k : Int) := by
          have h := i64_and k 63 (by omega) (by omega)
          rw [show k &&& 63 = k from by rw [show (63 : Nat) = 2 ^ 6 - 1 by decide, Nat.and_two_pow_sub_one_eq_mod]; exact Nat.mod_eq_of_lt (by omega)] at h
          exact h
        have eB : bits .and .u64 (a / 2 ^ (63 - k)) 1 = (v : Int) := by
          rw [Hab.out.1]
          exact bit_read _ _ (Gh.hi_lt q) v (by rw [Gh.bit_hi q k h64, hv])
        clear hv
        have co0 : w2.cell? ⟨O, 0, none⟩ = some (.int .u64 oh) := HO2.out.at 0 _ rfl
        have co1 : w2.cell? ⟨O, 1, none⟩ = some (.int .u64 ol) := HO2.out.at 1 _ rfl
        have cm0 : w2.cell? ⟨M, 0, none⟩ = some (.int .u64 c) := HM2.out.at 0 _ rfl
        have cm1 : w2.cell? ⟨M, 1, none⟩ = some (.int .u64 d) := HM2.out.at 1 _ rfl
        have hne : O ≠ M := Nat.ne_of_lt HMO.out
        have fo0 := HO2.out.free 0
        have fo1 := HO2.out.free 1
        rcases hvv with ⟨rfl, eH, eL⟩ | ⟨rfl, eH, eL⟩
        all_goals
          go_wp2_with fail
          go_roundw
          case rel => first | exact ⟨k + 1, by omega, by go_num, by rw [HS.out]; exact HF.out, HX3.out, HR3.out, Hn3.out⟩ | ((repeat apply Exists.intro); exact ⟨⟨k + 1, by omega, by go_num, by rw [HS.out]; exact HF.out, HX3.out, HR3.out, Hn3.out⟩, rfl⟩)
          case measure => simp [intOf]; omega
      · have hk64 : ¬ (k : Int) < 64 := by omega
        have hk64' : (64 : Int) ≤ (k : Int) := by omega
        have cx0 : w2.cell? ⟨w.heap.size, 0, none⟩ = some (.int .u64 a) := HX2.out.at 0 _ rfl
        have cx1 : w2.cell? ⟨w.heap.size, 1, none⟩ = some (.int .u64 b) := HX2.out.at 1 _ rfl
        obtain ⟨m, hm⟩ : ∃ m, m = k - 64 := ⟨_, rfl⟩
        have hm63 : m ≤ 63 := by omega
        have eA : bits .and .i64 (k : Int) 63 = (m : Int) := by
          have h := i64_and k 63 (by omega) (by omega)
          rw [show k &&& 63 = m from by rw [show (63 : Nat) = 2 ^ 6 - 1 by decide, Nat.and_two_pow_sub_one_eq_mod, hm]; omega] at h
          exact h
        have eB : bits .and .u64 (b / 2 ^ (127 - k)) 1 = (v : Int) := by
          rw [Hab.out.2]
          exact bit_read _ _ (Gh.lo_lt q) v (by rw [Gh.bit_lo q k (by omega) hlt, hv])
        clear hv hm
        have co0 : w2.cell? ⟨O, 0, none⟩ = some (.int .u64 oh) := HO2.out.at 0 _ rfl
        have co1 : w2.cell? ⟨O, 1, none⟩ = some (.int .u64 ol) := HO2.out.at 1 _ rfl
        have cm0 : w2.cell? ⟨M, 0, none⟩ = some (.int .u64 c) := HM2.out.at 0 _ rfl
        have cm1 : w2.cell? ⟨M, 1, none⟩ = some (.int .u64 d) := HM2.out.at 1 _ rfl
        have hne : O ≠ M := Nat.ne_of_lt HMO.out
        have fo0 := HO2.out.free 0
        have fo1 := HO2.out.free 1
        rcases hvv with ⟨rfl, eH, eL⟩ | ⟨rfl, eH, eL⟩
        all_goals
          go_wp2_with fail
          go_roundw
          case rel => first | exact ⟨k + 1, by omega, by go_num, by rw [HS.out]; exact HF.out, HX3.out, HR3.out, Hn3.out⟩ | ((repeat apply Exists.intro); exact ⟨⟨k + 1, by omega, by go_num, by rw [HS.out]; exact HF.out, HX3.out, HR3.out, Hn3.out⟩, rfl⟩)
          case measure => simp [intOf]; omega
    · obtain rfl : k = 128 := by omega
      obtain ⟨oh, hoh⟩ : ∃ oh : Int, oh = (Gh.hi (Gal.mul Gh.T 128 p q) : Int) := ⟨_, rfl⟩
      obtain ⟨ol, hol⟩ : ∃ ol : Int, ol = (Gh.lo (Gal.mul Gh.T 128 p q) : Int) := ⟨_, rfl⟩
      have e2 : halfL (Gal.mul Gh.T 128 p q) = [.int .u64 oh, .int .u64 ol] := by unfold halfL; rw [hoh, hol]
      rw [e2] at hO
      have He := Lib.hid (show halfL (Gh.mul p q) = [.int .u64 oh, .int .u64 ol] from e2)
      have HF := Lib.hid (Blk.fill hR [.int .u64 oh, .int .u64 ol] rfl)
      have Hnf := Lib.hid (nu_fill [.int .u64 oh, .int .u64 ol] (g := R) Hap.out.2.2.2 0 _ hn)
      have HO2 := Lib.hid hO
      have HR2 := Lib.hid hR
      have co0 : wr.cell? ⟨O, 0, none⟩ = some (.int .u64 oh) := HO2.out.at 0 _ rfl
      have co1 : wr.cell? ⟨O, 1, none⟩ = some (.int .u64 ol) := HO2.out.at 1 _ rfl
      clear hoh hol e2 hO hR hX hn hlt hk
      go_wp2_with (refine wpList_store_blk rfl 79 (.tmp 4) (.tmp 51) rfl R [.int .u64 oh, .int .u64 ol] rfl rfl 79 #[.int .u64 0, .int .u64 0] HR2.out rfl (show _ = some 2 by kernel_rfl) (by simp [Value.oneCell']) ?_)
      refine bodyPost_ret (results_blkS rfl _ R 79 _ rfl HF.out Try.underlying79 (show _ = some 2 by kernel_rfl)) rfl ⟨by rw [He.out], Hnf.out⟩
end Go.Proofs.Ytpeibkdcglkimaa

namespace Go.Proofs.Ytpeibkdcglkimaa
open Go.ChangeShapes Go.WideShapes Go.ChangeAt Go.RowKit

theorem step_store_blk {P : Program} {ops : Array Oper} {o : Oper} {a : Act} {w : World} {K : Act → World → Prop} {Q : Exit → Act → World → Prop} {G : Prop} (hgd : o.guard = none) (ty : TypeId) (x y : Operand) (ho : o.op = .store ty x y) (g : Nat) (vs : List Value) (hx : a.eval x = .pointer (some ⟨g, 0, none⟩)) (hy : a.eval y = .agg vs.toArray)
    (t : TypeId) (cs : Array Value) (hb : Blk w g t cs) (hl : vs.length = cs.size) (hi : (P.info? ty).map (·.size) = some vs.length) (h1 : ∀ v ∈ vs, v.oneCell' = true)
    (h : K (a.put o.dst undef) (w.setCells g 0 vs)) : if Region.wanted o (yielded ops a.tmps) = true then Oper.wp P o a w K Q else G := by
  have hw : Region.wanted o (yielded ops a.tmps) = true := by simp [Region.wanted, hgd]
  rw [if_pos hw]
  exact wp_store_mid ty x y ho g 0 vs.toArray hx hy (hb.there 0 _ (by simp; omega)) (by simpa using hi) (all_oneCell_toArray h1) (by simpa using h)
end Go.Proofs.Ytpeibkdcglkimaa

namespace Go.Proofs.Ytpeibkdcglkimaa
open Go.ChangeShapes Go.WideShapes Go.ChangeAt Go.RowKit

end Go.Proofs.Ytpeibkdcglkimaa

namespace Go.Proofs.Ytpeibkdcglkimaa
open Go.ChangeShapes Go.WideShapes Go.ChangeAt Go.RowKit

set_option maxRecDepth 100000 in
set_option maxHeartbeats 1000000 in
theorem ref_bit (xs : List Nat) (hl : xs.length = 16) (hx : ∀ x ∈ xs, x < 256) (i : Nat) (hi : i < 128) (w : World) :
    Calls Try.prog 69 #[.agg (xs.map vb).toArray, .int .i64 i] w fun e w' => e = .returned (.int .u8 ((Gh.b01 ((polB xs).testBit i) : Nat) : Int)) ∧ Below w.heap.size w w' := by
  obtain ⟨y, hy⟩ : ∃ y, xs[i / 8]? = some y := ⟨_, List.getElem?_eq_getElem (by omega)⟩
  have hb := polB_bit xs hl hx i y hi hy
  have hy8 := hx y (List.mem_of_getElem? hy)
  obtain ⟨v, hv⟩ : ∃ v, v = Gh.b01 ((polB xs).testBit i) := ⟨_, rfl⟩
  rw [← hv] at hb ⊢
  obtain ⟨j, hj⟩ : ∃ j, j = i / 8 := ⟨_, rfl⟩
  obtain ⟨r, hr⟩ : ∃ r, r = i % 8 := ⟨_, rfl⟩
  rw [← hj] at hy
  rw [← hr] at hb
  have ej : (i : Int) / 8 = (j : Int) := by omega
  have er : (i : Int) % 8 = (r : Int) := by omega
  have hj16 : (j : Int) < 16 := by omega
  have hr7 : r ≤ 7 := by omega
  have wr1 : IntKind.u64.wrap (r : Int) = (r : Int) := by rw [IntKind.wrap_u64]; omega
  have eB : bits .and .u8 ((y : Int) / 2 ^ (7 - r)) 1 = (v : Int) := by
    have e : (y : Int) / 2 ^ (7 - r) = ((y / 2 ^ (7 - r) : Nat) : Int) := by simp
    have hl : y / 2 ^ (7 - r) < 256 := Nat.lt_of_le_of_lt (Nat.div_le_self _ _) hy8
    have h := u8_and_nat (y / 2 ^ (7 - r)) 1 hl (by omega)
    rw [Nat.and_one_is_mod, hb] at h
    rw [e]
    exact h
  have hB := Blk.made w 44 (xs.map vb).toArray
  have c0 : (w.alloc (.cells (xs.map vb).toArray 44)).cell? ⟨w.heap.size, j, none⟩ = some (.int .u8 (y : Int)) := hB.at j _ (arr_at xs j y hy)
  have hal := nu_alloc (nu_refl w) (.cells (xs.map vb).toArray 44)
  clear hv hb hj hr hB hy hl hx
  go_enter Try.func69, Try.ntmps69
  go_upto_region 1 with fail
  generalize w.alloc (.cells (xs.map vb).toArray 44) = w1 at *
  go_wp2_with fail
  go_ret
  exact ⟨rfl, hal⟩

/-- Two blocks, held against each other. -/
def xorB (xs ys : List Nat) : List Nat := bytB (polB xs ^^^ polB ys)
theorem numOf_xor (xs ys : List Nat) (n : Nat) (hx : xs.length = n) (hy : ys.length = n) (hx8 : ∀ x ∈ xs, x < 256) (hy8 : ∀ x ∈ ys, x < 256) (j x y : Nat) (h1 : xs[j]? = some x) (h2 : ys[j]? = some y) (h16 : n = 16) : (xorB xs ys)[j]? = some (x ^^^ y) := by
  subst h16
  have hj : j < 16 := by rw [← hx]; exact (List.getElem?_eq_some_iff.1 h1).1
  have e1 : (xorB xs ys)[j]? = some ((xorB xs ys).getD j 0) := by
    rw [List.getD_eq_getElem?_getD, List.getElem?_eq_getElem (by unfold xorB; rw [bytB_len]; exact hj)]; rfl
  rw [e1]
  refine congrArg some ?_
  have hx8' := hx8 x (List.mem_of_getElem? h1)
  have hy8' := hy8 y (List.mem_of_getElem? h2)
  apply Nat.eq_of_testBit_eq
  intro t
  rw [Nat.testBit_xor]
  unfold xorB
  by_cases ht : t < 8
  · have a1 := bytB_bit (polB xs) j t hj ht
    have a2 := bytB_bit (polB ys) j t hj ht
    rw [bytB_polB xs hx hx8, List.getD_eq_getElem?_getD, h1, Option.getD_some] at a1
    rw [bytB_polB ys hy hy8, List.getD_eq_getElem?_getD, h2, Option.getD_some] at a2
    rw [bytB_bit _ j t hj ht, Nat.testBit_xor, a1, a2]
  · rw [bytB_high _ j t (by omega), Nat.testBit_lt_two_pow (Nat.lt_of_lt_of_le (m := 2 ^ 8) hx8' (Nat.pow_le_pow_right (n := 2) (by omega) (by omega))), Nat.testBit_lt_two_pow (Nat.lt_of_lt_of_le (m := 2 ^ 8) hy8' (Nat.pow_le_pow_right (n := 2) (by omega) (by omega)))]
    rfl
theorem xorB_len (xs ys : List Nat) : (xorB xs ys).length = 16 := bytB_len _
theorem xorB_lt (xs ys : List Nat) : ∀ x ∈ xorB xs ys, x < 256 := bytB_lt _
/-- The first k are turned. -/
def addF (xs ys : List Nat) (k : Nat) : List Nat := (xorB xs ys).take k ++ xs.drop k
theorem addF_zero (xs ys : List Nat) : addF xs ys 0 = xs := by simp [addF]
theorem addF_all (xs ys : List Nat) (hx : xs.length = 16) : addF xs ys 16 = xorB xs ys := by
  unfold addF
  rw [List.take_of_length_le (by rw [xorB_len]; omega), List.drop_of_length_le (by omega), List.append_nil]
theorem addF_step (xs ys : List Nat) (k x z : Nat) (hx : xs.length = 16) (hk : k < 16) (h1 : xs[k]? = some x) (hz : (xorB xs ys)[k]? = some z) : (addF xs ys k)[k]? = some x ∧ (addF xs ys k).set k z = addF xs ys (k + 1) := by
  have hl : ((xorB xs ys).take k).length = k := by rw [List.length_take, xorB_len]; omega
  unfold addF
  constructor
  · rw [List.getElem?_append_right (by omega), hl, Nat.sub_self, List.getElem?_drop, Nat.add_zero]
    exact h1
  · have hd : xs.drop k = x :: xs.drop (k + 1) := by
      rw [List.drop_eq_getElem_cons (by omega)]
      congr 1
      rw [List.getElem?_eq_getElem (by omega)] at h1
      injection h1
    rw [List.set_append_right _ _ (by omega), hl, Nat.sub_self, hd, List.set_cons_zero, List.take_add_one, hz, List.append_assoc]
    rfl

set_option maxRecDepth 100000 in
set_option maxHeartbeats 1000000 in
theorem ref_add (xs ys : List Nat) (hlx : xs.length = 16) (hly : ys.length = 16) (hx : ∀ x ∈ xs, x < 256) (hy : ∀ x ∈ ys, x < 256) (w : World) :
    Calls Try.prog 51 #[.agg (xs.map vb).toArray, .agg (ys.map vb).toArray] w fun e w' => e = .returned (.agg ((xorB xs ys).map vb).toArray) ∧ Below w.heap.size w w' := by
  have Hx := Lib.hid hx
  have Hy := Lib.hid hy
  have Hlx := Lib.hid hlx
  have Hly := Lib.hid hly
  have hal := nu_alloc (nu_alloc (nu_alloc (nu_refl w) (.cells (xs.map vb).toArray 44)) (.cells (ys.map vb).toArray 44)) (.cells z16 44)
  have HA := Lib.hid (((Blk.made w 44 (xs.map vb).toArray).alloc (.cells (ys.map vb).toArray 44)).alloc (.cells z16 44))
  have HB := Lib.hid ((Blk.made1 w (.cells (xs.map vb).toArray 44) 44 (ys.map vb).toArray).alloc (.cells z16 44))
  have HR := Lib.hid (Blk.made2 w (.cells (xs.map vb).toArray 44) (.cells (ys.map vb).toArray 44) 44 z16)
  clear hx hy hlx hly
  go_enter Try.func51, Try.ntmps51
  go_upto_region 1 with fail
  generalize ((w.alloc (.cells (xs.map vb).toArray 44)).alloc (.cells (ys.map vb).toArray 44)).alloc (.cells z16 44) = w1 at *
  obtain ⟨B, hB⟩ : ∃ B, B = w.heap.size + 1 := ⟨_, rfl⟩
  obtain ⟨R, hR⟩ : ∃ R, R = w.heap.size + 1 + 1 := ⟨_, rfl⟩
  rw [← hB] at HB
  rw [← hR] at HR
  rw [← hR, ← hB]
  have Hap := Lib.hid (show B ≠ w.heap.size ∧ R ≠ w.heap.size ∧ w.heap.size ≤ R from ⟨by omega, by omega, by omega⟩)
  clear hB hR
  go_wp2_with fail
  go_loopw [5] (fun i wr => ∃ k : Nat, k ≤ 16 ∧ i = .int .i64 k ∧ Blk wr w.heap.size 44 ((addF xs ys k).map vb).toArray ∧ Blk wr B 44 (ys.map vb).toArray ∧ Blk wr R 44 z16 ∧ Below w.heap.size w wr) (fun i _ => 16 - (intOf i).toNat)
  case atStart => exact ⟨0, by omega, rfl, by rw [addF_zero]; exact HA.out, HB.out, HR.out, hal⟩
  case round =>
    clear HA HB HR hal
    obtain ⟨k, hk, rfl, hA, hB, hR, hn⟩ := hrel
    have HA := Lib.hid hA
    have HB := Lib.hid hB
    have HR := Lib.hid hR
    clear hA hB hR
    by_cases hlt : k < 16
    · have hki : (k : Int) < 16 := by omega
      obtain ⟨x, hx⟩ : ∃ x, xs[k]? = some x := ⟨_, List.getElem?_eq_getElem (by rw [Hlx.out]; exact hlt)⟩
      obtain ⟨y, hy⟩ : ∃ y, ys[k]? = some y := ⟨_, List.getElem?_eq_getElem (by rw [Hly.out]; exact hlt)⟩
      have hz := numOf_xor xs ys 16 Hlx.out Hly.out Hx.out Hy.out k x y hx hy rfl
      obtain ⟨hax, hset⟩ := addF_step xs ys k x (x ^^^ y) Hlx.out hlt hx hz
      have e1 := u8_xor_nat x y (Hx.out x (List.mem_of_getElem? hx)) (Hy.out y (List.mem_of_getElem? hy))
      have c0 : wr.cell? ⟨w.heap.size, k, none⟩ = some (.int .u8 (x : Int)) := HA.out.at k _ (arr_at _ k x hax)
      have c1 : wr.cell? ⟨B, k, none⟩ = some (.int .u8 (y : Int)) := HB.out.at k _ (arr_at _ k y hy)
      have Hset := Lib.hid hset
      have Hax := Lib.hid hax
      clear hx hy hz hax hset
      generalize x ^^^ y = z at *
      go_upto_region 4 with fail
      go_still_tail 9, (by kernel_rfl)
      change wpList _ _ _ _ _ wr.drew
      have HA2 := Lib.hid HA.out.drew
      have HB2 := Lib.hid HB.out.drew
      have HR2 := Lib.hid HR.out.drew
      have hn2 := hn.drew
      clear hn HA HB HR c0 c1
      generalize wr.drew = w2 at *
      have d0 : w2.cell? ⟨w.heap.size, k, none⟩ = some (.int .u8 (x : Int)) := HA2.out.at k _ (arr_at _ k x Hax.out)
      have f0 := HA2.out.free k
      have h := HA2.out.put k (vb z)
      rw [arr_set, Hset.out] at h
      have HA3 := Lib.hid h
      have HB3 := Lib.hid (HB2.out.far (p := ⟨w.heap.size, k, none⟩) Hap.out.1 (vb z))
      have HR3 := Lib.hid (HR2.out.far (p := ⟨w.heap.size, k, none⟩) Hap.out.2.1 (vb z))
      have Hn3 := Lib.hid (nu_set hn2 (p := ⟨w.heap.size, k, none⟩) (Nat.le_refl _) (vb z))
      simp only [vb] at HA3 HB3 HR3 Hn3
      clear h hn2
      go_wp2_with fail
      go_roundw
      case rel => first | exact ⟨k + 1, by omega, by go_num, HA3.out, HB3.out, HR3.out, Hn3.out⟩ | ((repeat apply Exists.intro); exact ⟨⟨k + 1, by omega, by go_num, HA3.out, HB3.out, HR3.out, Hn3.out⟩, rfl⟩)
      case measure => simp [intOf]; omega
    · obtain rfl : k = 16 := by omega
      have hA := HA.out
      rw [addF_all xs ys Hlx.out] at hA
      obtain ⟨D, hD⟩ : ∃ D, D = (xorB xs ys).map vb := ⟨_, rfl⟩
      rw [← hD] at hA
      have HA2 := Lib.hid hA
      have HDl := Lib.hid (show D.length = z16.size by rw [hD, List.length_map, xorB_len]; rfl)
      have Hsz := Lib.hid (show (Try.prog.info? 44).map (·.size) = some D.toArray.size by rw [List.size_toArray, hD, List.length_map, xorB_len]; kernel_rfl)
      have H1 := Lib.hid (show ∀ u ∈ D, u.oneCell' = true by rw [hD]; exact vb_one _)
      have HDe := Lib.hid hD
      have HF := Lib.hid (Blk.fill HR.out D HDl.out)
      have Hnf := Lib.hid (nu_fill D (g := R) Hap.out.2.2 0 _ hn)
      clear hA HA hD hn hlt hk
      go_wp2_with (first | (refine wpList_load_blk rfl 44 (.tmp 2) rfl w.heap.size rfl 44 D.toArray HA2.out Try.underlying44 Hsz.out ?_) | (refine wpList_store_blk rfl 44 (.tmp 4) (.tmp 19) rfl R D rfl rfl 44 z16 HR.out HDl.out (by have h := Hsz.out; rwa [List.size_toArray] at h) H1.out ?_))
      refine bodyPost_ret (results_blk rfl _ R 44 D.toArray rfl HF.out Try.underlying44 Hsz.out) rfl ⟨by rw [HDe.out], Hnf.out⟩
end Go.Proofs.Ytpeibkdcglkimaa

namespace Go.Proofs.Ytpeibkdcglkimaa
open Go.ChangeShapes Go.WideShapes Go.ChangeAt Go.RowKit

def z256 : Array Value := Array.replicate 256 (.int .u8 0)
theorem zero_256 (w : World) : (zeroValue 29).run Try.prog w = .ok (.agg z256) w := by kernel_rfl
theorem z256_bits : z256 = ((Gh.bitsL 0 256).map vb).toArray := by
  rw [Gh.bitsL_zero, List.map_replicate]
  unfold z256
  rw [← List.toArray_replicate]
  rfl
/-- One bit of the row is turned by c. -/
theorem bits_put (N j c : Nat) (h : j < 256) (hc : c ≤ 1) (y : Nat) (hy : y = Gh.b01 (N.testBit j) ^^^ c) : (((Gh.bitsL N 256).map vb).toArray).setIfInBounds j (vb y) = ((Gh.bitsL (N ^^^ c * 2 ^ j) 256).map vb).toArray := by
  rw [arr_set, hy, Gh.bitsL_xor N 256 j c h hc]
theorem b01_xor_lt (b : Bool) (c : Nat) (hc : c ≤ 1) : Gh.b01 b ^^^ c ≤ 1 := by
  rcases (show c = 0 ∨ c = 1 by omega) with rfl | rfl <;> cases b <;> decide

theorem bit_step (N k : Nat) : N ^^^ 340282366920938463463374607431768211591 * 2 ^ k = ((((N ^^^ 1 * 2 ^ (k + 128)) ^^^ 1 * 2 ^ k) ^^^ 1 * 2 ^ (k + 1)) ^^^ 1 * 2 ^ (k + 2)) ^^^ 1 * 2 ^ (k + 7) := by
  have e : (340282366920938463463374607431768211591 : Nat) = (((2 ^ 128 ^^^ 2 ^ 0) ^^^ 2 ^ 1) ^^^ 2 ^ 2) ^^^ 2 ^ 7 := by decide
  rw [e]
  simp only [Gh.xor_shl, Nat.one_mul, ← Nat.pow_add, ← Nat.xor_assoc]
  rw [show 128 + k = k + 128 by omega, show 0 + k = k by omega, show 1 + k = k + 1 by omega, show 2 + k = k + 2 by omega, show 7 + k = k + 7 by omega]
set_option maxRecDepth 100000 in
set_option maxHeartbeats 4000000 in
theorem ref_times (xa xb : List Nat) (hla : xa.length = 16) (hlb : xb.length = 16) (hxa : ∀ x ∈ xa, x < 256) (hxb : ∀ x ∈ xb, x < 256) (w : World) :
    Calls Try.prog 66 #[.agg (xa.map vb).toArray, .agg (xb.map vb).toArray] w fun e w' => e = .returned (.agg ((bytB (Gh.mul (polB xb) (polB xa))).map vb).toArray) ∧ Below w.heap.size w w' := by
  have HbA := Lib.hid (ref_bit xa hla hxa)
  have HbB := Lib.hid (ref_bit xb hlb hxb)
  have Hsz := Lib.hid (show (Try.prog.info? 44).map (·.size) = some (xa.map vb).toArray.size ∧ (Try.prog.info? 44).map (·.size) = some (xb.map vb).toArray.size from ⟨by rw [List.size_toArray, List.length_map, hla]; kernel_rfl, by rw [List.size_toArray, List.length_map, hlb]; kernel_rfl⟩)
  have hBl := polB_lt xb
  obtain ⟨A, hA⟩ : ∃ A, A = polB xa := ⟨_, rfl⟩
  obtain ⟨B, hB⟩ : ∃ B, B = polB xb := ⟨_, rfl⟩
  rw [← hA] at HbA
  rw [← hB] at HbB hBl
  rw [← hA, ← hB]
  obtain ⟨XA, hXA⟩ : ∃ XA, XA = xa.map vb := ⟨_, rfl⟩
  obtain ⟨XB, hXB⟩ : ∃ XB, XB = xb.map vb := ⟨_, rfl⟩
  rw [← hXA, ← hXB] at Hsz
  rw [← hXA] at HbA
  rw [← hXB] at HbB
  rw [← hXA, ← hXB]
  clear hA hB hXA hXB hxa hxb hla hlb
  have hz := zero_256
  have hal := nu_alloc (nu_alloc (nu_alloc (nu_alloc (nu_refl w) (.cells XA.toArray 44)) (.cells XB.toArray 44)) (.cells z16 44)) (.cells z256 29)
  have HA := Lib.hid ((((Blk.made w 44 XA.toArray).alloc (.cells XB.toArray 44)).alloc (.cells z16 44)).alloc (.cells z256 29))
  have HB := Lib.hid (((Blk.made1 w (.cells XA.toArray 44) 44 XB.toArray).alloc (.cells z16 44)).alloc (.cells z256 29))
  have HR := Lib.hid ((Blk.made2 w (.cells XA.toArray 44) (.cells XB.toArray 44) 44 z16).alloc (.cells z256 29))
  have HP := Lib.hid (Blk.made3 w (.cells XA.toArray 44) (.cells XB.toArray 44) (.cells z16 44) 29 z256)
  go_enter Try.func66, Try.ntmps66
  go_upto_region 2 with fail
  clear hz
  generalize (((w.alloc (.cells XA.toArray 44)).alloc (.cells XB.toArray 44)).alloc (.cells z16 44)).alloc (.cells z256 29) = w1 at *
  obtain ⟨a0, ha0⟩ : ∃ a0, a0 = w.heap.size := ⟨_, rfl⟩
  obtain ⟨b0, hb0⟩ : ∃ b0, b0 = w.heap.size + 1 := ⟨_, rfl⟩
  obtain ⟨R, hR⟩ : ∃ R, R = w.heap.size + 1 + 1 := ⟨_, rfl⟩
  obtain ⟨P, hP⟩ : ∃ P, P = w.heap.size + 1 + 1 + 1 := ⟨_, rfl⟩
  rw [← ha0] at HA
  rw [← hb0] at HB
  rw [← hR] at HR
  rw [← hP, z256_bits] at HP
  rw [← hP, ← hR, ← hb0, ← ha0]
  have Hap := Lib.hid (show a0 ≠ P ∧ b0 ≠ P ∧ R ≠ P ∧ w.heap.size ≤ P ∧ w.heap.size ≤ R from ⟨by omega, by omega, by omega, by omega, by omega⟩)
  clear ha0 hb0 hR hP
  go_wp2_with fail
  go_loopw [6] (fun i wr => ∃ k : Nat, k ≤ 128 ∧ i = .int .i64 k ∧ Blk wr P 29 ((Gh.bitsL (Gh.clG A B k) 256).map vb).toArray ∧ Blk wr a0 44 XA.toArray ∧ Blk wr b0 44 XB.toArray ∧ Blk wr R 44 z16 ∧ Below w.heap.size w wr) (fun i _ => 128 - (intOf i).toNat)
  case atStart => exact ⟨0, by omega, rfl, HP.out, HA.out, HB.out, HR.out, hal⟩
  case round =>
    clear HP HA HB HR hal
    obtain ⟨k, hk, rfl, hP, hA, hB, hR, hn⟩ := hrel
    have HP := Lib.hid hP
    have HA := Lib.hid hA
    have HB := Lib.hid hB
    have HR := Lib.hid hR
    clear hP hA hB hR
    by_cases hlt : k < 128
    · have hki : (k : Int) < 128 := by omega
      have HW := Lib.hid (HbA.out k hlt wr)
      go_wp2_with (refine wpList_load_blk rfl 44 (.tmp 2) rfl a0 rfl 44 XA.toArray HA.out Try.underlying44 Hsz.out.1 ?_)
      refine HW.out.mono ?_
      rintro e w2 ⟨rfl, hb2⟩
      have HP2 := Lib.hid (Blk.below HP.out hb2 (Blk.lt HP.out))
      have HA2 := Lib.hid (Blk.below HA.out hb2 (Blk.lt HA.out))
      have HB2 := Lib.hid (Blk.below HB.out hb2 (Blk.lt HB.out))
      have HR2 := Lib.hid (Blk.below HR.out hb2 (Blk.lt HR.out))
      have hn2 := hn.trans (hb2.mono hn.size)
      clear HW HP HA HB HR hn hb2
      cases hb : A.testBit k
      · have HC := Lib.hid (show Gh.clG A B (k + 1) = Gh.clG A B k by simp [Gh.clG, hb])
        clear hb
        go_wp2_with fail
        go_roundw
        case rel => first | exact ⟨k + 1, by omega, by go_num, by rw [HC.out]; exact HP2.out, HA2.out, HB2.out, HR2.out, hn2⟩ | ((repeat apply Exists.intro); exact ⟨⟨k + 1, by omega, by go_num, by rw [HC.out]; exact HP2.out, HA2.out, HB2.out, HR2.out, hn2⟩, rfl⟩)
        case measure => simp [intOf]; omega
      · have HC := Lib.hid (show Gh.clG A B (k + 1) = Gh.clG A B k ^^^ B * 2 ^ k by simp [Gh.clG, hb])
        clear hb
        obtain ⟨N, hN⟩ : ∃ N, N = Gh.clG A B k := ⟨_, rfl⟩
        rw [← hN] at HC HP2
        clear hN
        obtain ⟨wo, rfl⟩ : ∃ x : World, x = w2 := ⟨_, rfl⟩
        go_wp2_with fail
        go_loopw [7] (fun j wq => ∃ m : Nat, m ≤ 128 ∧ j = .int .i64 m ∧ Blk wq P 29 ((Gh.bitsL (N ^^^ (B % 2 ^ m) * 2 ^ k) 256).map vb).toArray ∧ Blk wq a0 44 XA.toArray ∧ Blk wq b0 44 XB.toArray ∧ Blk wq R 44 z16 ∧ Below w.heap.size w wq) (fun j _ => 128 - (intOf j).toNat)
        case atStart => exact ⟨0, by omega, rfl, by rw [Nat.pow_zero, Nat.mod_one, Nat.zero_mul, Nat.xor_zero]; exact HP2.out, HA2.out, HB2.out, HR2.out, hn2⟩
        case round =>
          clear HP2 HA2 HB2 HR2 hn2
          obtain ⟨m, hm, rfl, hP, hA, hB, hR, hn⟩ := hrel
          have HP := Lib.hid hP
          have HA := Lib.hid hA
          have HB := Lib.hid hB
          have HR := Lib.hid hR
          clear hP hA hB hR
          by_cases hlm : m < 128
          · have hmi : (m : Int) < 128 := by omega
            go_upto_region 9 with fail
            obtain ⟨n, hn2⟩ : ∃ n, n = k + m := ⟨_, rfl⟩
            have hnI : (n : Int) < 256 := by omega
            have wkm : IntKind.i64.wrap ((k : Int) + (m : Int)) = (n : Int) := by rw [IntKind.wrap_i64]; omega
            have wkn : (k : Int) + (m : Int) = (n : Int) := by omega
            have hnI0 : (0 : Int) ≤ (n : Int) := by omega
            have wn : IntKind.i64.wrap (n : Int) = (n : Int) := by rw [IntKind.wrap_i64]; omega
            have hnn : n < 256 := by omega
            obtain ⟨y, hy⟩ : ∃ y, y = Gh.b01 ((N ^^^ (B % 2 ^ m) * 2 ^ k).testBit n) := ⟨_, rfl⟩
            obtain ⟨c, hc⟩ : ∃ c, c = Gh.b01 (B.testBit m) := ⟨_, rfl⟩
            have hc1 : c ≤ 1 := by rw [hc]; exact Gh.b01_le _
            have hy1 : y ≤ 1 := by rw [hy]; exact Gh.b01_le _
            obtain ⟨z, hz⟩ : ∃ z, z = y ^^^ c := ⟨_, rfl⟩
            have eX : bits .xor .u8 (y : Int) (c : Int) = (z : Int) := by rw [hz]; exact u8_xor_nat y c (by omega) (by omega)
            have HPut := Lib.hid (bits_put (N ^^^ (B % 2 ^ m) * 2 ^ k) n c (by omega) hc1 z (by rw [hz, hy]))
            have HSt := Lib.hid (Gh.inner_step N B k m)
            rw [← hn2, ← hc] at HSt
            have Hcell := Lib.hid (arr_at _ n y (by rw [hy]; exact Gh.bitsL_at (N ^^^ (B % 2 ^ m) * 2 ^ k) 256 n (by omega)))
            have HbB2 := Lib.hid (HbB.out m hlm)
            rw [← hc] at HbB2
            obtain ⟨Q, hQ⟩ : ∃ Q, Q = ((Gh.bitsL (N ^^^ (B % 2 ^ m) * 2 ^ k) 256).map vb).toArray := ⟨_, rfl⟩
            rw [← hQ] at HP HPut Hcell
            clear hQ hy hc hz hc1 hy1 hn2
            refine wp_region_held_drew (S := fun W => Blk W b0 44 XB.toArray) (by kernel_rfl) (HB.out.drew) (fun hHeld => ?_)
            dsimp only [Array.replicate, List.replicate, List.size_toArray, List.length_cons, List.length_nil, Nat.reduceAdd] at hHeld ⊢
            have HP3 := Lib.hid HP.out.drew
            have HA3 := Lib.hid HA.out.drew
            have HB3 := Lib.hid HB.out.drew
            have HR3 := Lib.hid HR.out.drew
            have hn3 := hn.drew
            clear HP HA HB HR hn
            generalize wr.drew = w3 at *
            refine take_l (i := 0) (v := ?_) rfl (by kernel_rfl) (by kernel_rfl) (by kernel_rfl) (fun _ _ _ h => h) (Or.inl ⟨by rfl, ?_⟩) (by assumption) ?_
            case refine_2 => (intro _ _; go_simp; all_goals with_reducible rfl)
            simp only [Act.put, List.setIfInBounds_toArray, List.set_cons_zero, List.set_cons_succ]
            refine take_l (i := 1) (v := ?_) rfl (by kernel_rfl) (by kernel_rfl) (by kernel_rfl) (fun _ _ _ h => h) (Or.inl ⟨by rfl, ?_⟩) (by assumption) ?_
            case refine_2 => (intro _ _; go_simp; all_goals with_reducible rfl)
            simp only [Act.put, List.setIfInBounds_toArray, List.set_cons_zero, List.set_cons_succ]
            refine take_l (i := 2) (v := ?_) rfl (by kernel_rfl) (by kernel_rfl) (by kernel_rfl) (fun _ _ _ h => h) (Or.inl ⟨by rfl, ?_⟩) (by assumption) ?_
            case refine_2 => (intro _ _; go_simp; all_goals with_reducible rfl)
            simp only [Act.put, List.setIfInBounds_toArray, List.set_cons_zero, List.set_cons_succ]
            refine take_l (i := 3) (v := ?_) rfl (by kernel_rfl) (by kernel_rfl) (by kernel_rfl) (fun _ _ _ h => h) (Or.inl ⟨by rfl, ?_⟩) (by assumption) ?_
            case refine_2 => (intro _ _; go_simp; all_goals with_reducible rfl)
            simp only [Act.put, List.setIfInBounds_toArray, List.set_cons_zero, List.set_cons_succ]
            refine take_l (i := 4) (v := ?_) rfl (by kernel_rfl) (by kernel_rfl) (by kernel_rfl) (fun _ _ _ h => h) (Or.inl ⟨by rfl, ?_⟩) (by assumption) ?_
            case refine_2 => (intro _ _; go_simp; all_goals with_reducible rfl)
            simp only [Act.put, List.setIfInBounds_toArray, List.set_cons_zero, List.set_cons_succ]
            refine take_l (i := 5) (v := ?_) rfl (by kernel_rfl) (by kernel_rfl) (by kernel_rfl) (fun _ _ _ h => h) (Or.inl ⟨by rfl, ?_⟩) (by assumption) ?_
            case refine_2 => (intro _ _; go_simp; all_goals with_reducible rfl)
            simp only [Act.put, List.setIfInBounds_toArray, List.set_cons_zero, List.set_cons_succ]
            refine take_l (i := 6) (v := ?_) rfl (by kernel_rfl) (by kernel_rfl) (by kernel_rfl) (fun _ _ _ h => h) (Or.inl ⟨by rfl, ?_⟩) (by assumption) ?_
            case refine_2 => (intro _ _; go_simp; all_goals with_reducible rfl)
            simp only [Act.put, List.setIfInBounds_toArray, List.set_cons_zero, List.set_cons_succ]
            refine take_l (i := 8) rfl (by kernel_rfl) (by kernel_rfl) (by kernel_rfl) (fun _ _ _ h => h) (Or.inl ⟨by rfl, fun W hS => exec_load_mid (P := Try.prog) (w := W) 44 (.tmp 3) b0 0 XB (.array 16 5) rfl rfl (range_mid hS (l := []) (r := []) (by simp) rfl) (by kernel_rfl) rfl (by have h := Hsz.out.2; rwa [List.size_toArray] at h)⟩) (by assumption) ?_
            simp only [Act.put, List.setIfInBounds_toArray, List.set_cons_zero, List.set_cons_succ]
            refine take_l (i := 9) (v := ?_) rfl (by kernel_rfl) (by kernel_rfl) (by kernel_rfl) (fun _ _ _ h => h) (Or.inl ⟨by rfl, ?_⟩) (by assumption) ?_
            case refine_2 => (intro _ _; go_simp; all_goals with_reducible rfl)
            simp only [Act.put, List.setIfInBounds_toArray, List.set_cons_zero, List.set_cons_succ]
            clear hHeld
            refine wpAnyH_ready (rs := [7, 10]) (by kernel_rfl) (by simp) ?_
            refine cons_l rfl (fun K hK => ?_) ?_
            · have c0 : w3.cell? ⟨P, n, none⟩ = some (.int .u8 (y : Int)) := HP3.out.at n _ Hcell.out
              go_simp
              go_wp2_with fail
              refine hK.out _ _ HB3.out (fun hHeld => ?_)
              clear hK K hHeld c0
              simp only [Act.put, List.setIfInBounds_toArray, List.set_cons_zero, List.set_cons_succ]
              refine wpAnyH_ready (rs := [10]) (by kernel_rfl) (by simp) ?_
              refine cons_l rfl (fun K hK => ?_) AllReadyH.nil
              go_simp
              go_at_call 69
              refine (HbB2.out w3).mono ?_
              rintro e w4 ⟨rfl, hb4⟩
              have HP4 := Lib.hid (Blk.below HP3.out hb4 (Blk.lt HP3.out))
              have HA4 := Lib.hid (Blk.below HA3.out hb4 (Blk.lt HA3.out))
              have HB4 := Lib.hid (Blk.below HB3.out hb4 (Blk.lt HB3.out))
              have HR4 := Lib.hid (Blk.below HR3.out hb4 (Blk.lt HR3.out))
              have hn4 := hn3.trans (hb4.mono hn3.size)
              clear HP3 HA3 HB3 HR3 hn3 hb4
              go_wp2_with fail
              refine hK.out _ _ HB4.out (fun hHeld => ?_)
              clear hK K
              simp only [Act.put, List.setIfInBounds_toArray, List.set_cons_zero, List.set_cons_succ]
              clear hHeld
              refine take_l (i := 11) (v := ?_) rfl (by kernel_rfl) (by kernel_rfl) (by kernel_rfl) (fun _ _ _ h => h) (Or.inl ⟨by rfl, ?_⟩) (by assumption) ?_
              case refine_2 => (intro _ _; go_simp; all_goals with_reducible rfl)
              simp only [Act.put, List.setIfInBounds_toArray, List.set_cons_zero, List.set_cons_succ]
              refine take_l (i := 12) (v := ?_) rfl (by kernel_rfl) (by kernel_rfl) (by kernel_rfl) (fun _ _ _ h => h) (Or.inl ⟨by rfl, ?_⟩) (by assumption) ?_
              case refine_2 => (intro _ _; go_simp; all_goals with_reducible rfl)
              simp only [Act.put, List.setIfInBounds_toArray, List.set_cons_zero, List.set_cons_succ]
              refine wpAnyH_ready (rs := [13]) (by kernel_rfl) (by simp) ?_
              refine cons_l rfl (fun K hK => ?_) AllReadyH.nil
              have f0 := HP4.out.free n
              have d0 : w4.cell? ⟨P, n, none⟩ = some (.int .u8 (y : Int)) := HP4.out.at n _ Hcell.out
              go_simp
              go_wp2_with fail
              have hP5 := HP4.out.put n (vb z)
              rw [HPut.out, HSt.out] at hP5
              have HP5 := Lib.hid hP5
              have HA5 := Lib.hid (HA4.out.far (p := ⟨P, n, none⟩) Hap.out.1 (vb z))
              have HB5 := Lib.hid (HB4.out.far (p := ⟨P, n, none⟩) Hap.out.2.1 (vb z))
              have HR5 := Lib.hid (HR4.out.far (p := ⟨P, n, none⟩) Hap.out.2.2.1 (vb z))
              have Hn5 := Lib.hid (nu_set hn4 (p := ⟨P, n, none⟩) Hap.out.2.2.2.1 (vb z))
              simp only [vb] at HP5 HA5 HB5 HR5 Hn5
              clear hP5
              refine hK.out _ _ HB5.out (fun hHeld => ?_)
              clear hK K hHeld
              simp only [Act.put, List.setIfInBounds_toArray, List.set_cons_zero, List.set_cons_succ]
              refine wpAnyH_done (by kernel_rfl) ?_ _
              clear f0 d0 HP4 HA4 HB4 HR4 hn4
              generalize w4.setCell ⟨P, n, none⟩ (.int .u8 (z : Int)) = w5 at *
              go_wp2_with fail
              go_roundw
              case rel => first | exact ⟨m + 1, by omega, by go_num, HP5.out, HA5.out, HB5.out, HR5.out, Hn5.out⟩ | ((repeat apply Exists.intro); exact ⟨⟨m + 1, by omega, by go_num, HP5.out, HA5.out, HB5.out, HR5.out, Hn5.out⟩, rfl⟩)
              case measure => simp [intOf]; omega
            · refine cons_l rfl (fun K hK => ?_) AllReadyH.nil
              go_simp
              go_at_call 69
              refine (HbB2.out w3).mono ?_
              rintro e w4 ⟨rfl, hb4⟩
              have HP4 := Lib.hid (Blk.below HP3.out hb4 (Blk.lt HP3.out))
              have HA4 := Lib.hid (Blk.below HA3.out hb4 (Blk.lt HA3.out))
              have HB4 := Lib.hid (Blk.below HB3.out hb4 (Blk.lt HB3.out))
              have HR4 := Lib.hid (Blk.below HR3.out hb4 (Blk.lt HR3.out))
              have hn4 := hn3.trans (hb4.mono hn3.size)
              clear HP3 HA3 HB3 HR3 hn3 hb4
              go_wp2_with fail
              refine hK.out _ _ HB4.out (fun hHeld => ?_)
              clear hK K
              simp only [Act.put, List.setIfInBounds_toArray, List.set_cons_zero, List.set_cons_succ]
              clear hHeld
              refine wpAnyH_ready (rs := [7]) (by kernel_rfl) (by simp) ?_
              refine cons_l rfl (fun K hK => ?_) AllReadyH.nil
              have c0 : w4.cell? ⟨P, n, none⟩ = some (.int .u8 (y : Int)) := HP4.out.at n _ Hcell.out
              go_simp
              go_wp2_with fail
              refine hK.out _ _ HB4.out (fun hHeld => ?_)
              clear hK K hHeld c0
              simp only [Act.put, List.setIfInBounds_toArray, List.set_cons_zero, List.set_cons_succ]
              refine take_l (i := 11) (v := ?_) rfl (by kernel_rfl) (by kernel_rfl) (by kernel_rfl) (fun _ _ _ h => h) (Or.inl ⟨by rfl, ?_⟩) (by assumption) ?_
              case refine_2 => (intro _ _; go_simp; all_goals with_reducible rfl)
              simp only [Act.put, List.setIfInBounds_toArray, List.set_cons_zero, List.set_cons_succ]
              refine take_l (i := 12) (v := ?_) rfl (by kernel_rfl) (by kernel_rfl) (by kernel_rfl) (fun _ _ _ h => h) (Or.inl ⟨by rfl, ?_⟩) (by assumption) ?_
              case refine_2 => (intro _ _; go_simp; all_goals with_reducible rfl)
              simp only [Act.put, List.setIfInBounds_toArray, List.set_cons_zero, List.set_cons_succ]
              refine wpAnyH_ready (rs := [13]) (by kernel_rfl) (by simp) ?_
              refine cons_l rfl (fun K hK => ?_) AllReadyH.nil
              have f0 := HP4.out.free n
              have d0 : w4.cell? ⟨P, n, none⟩ = some (.int .u8 (y : Int)) := HP4.out.at n _ Hcell.out
              go_simp
              go_wp2_with fail
              have hP5 := HP4.out.put n (vb z)
              rw [HPut.out, HSt.out] at hP5
              have HP5 := Lib.hid hP5
              have HA5 := Lib.hid (HA4.out.far (p := ⟨P, n, none⟩) Hap.out.1 (vb z))
              have HB5 := Lib.hid (HB4.out.far (p := ⟨P, n, none⟩) Hap.out.2.1 (vb z))
              have HR5 := Lib.hid (HR4.out.far (p := ⟨P, n, none⟩) Hap.out.2.2.1 (vb z))
              have Hn5 := Lib.hid (nu_set hn4 (p := ⟨P, n, none⟩) Hap.out.2.2.2.1 (vb z))
              simp only [vb] at HP5 HA5 HB5 HR5 Hn5
              clear hP5
              refine hK.out _ _ HB5.out (fun hHeld => ?_)
              clear hK K hHeld
              simp only [Act.put, List.setIfInBounds_toArray, List.set_cons_zero, List.set_cons_succ]
              refine wpAnyH_done (by kernel_rfl) ?_ _
              clear f0 d0 HP4 HA4 HB4 HR4 hn4
              generalize w4.setCell ⟨P, n, none⟩ (.int .u8 (z : Int)) = w5 at *
              go_wp2_with fail
              go_roundw
              case rel => first | exact ⟨m + 1, by omega, by go_num, HP5.out, HA5.out, HB5.out, HR5.out, Hn5.out⟩ | ((repeat apply Exists.intro); exact ⟨⟨m + 1, by omega, by go_num, HP5.out, HA5.out, HB5.out, HR5.out, Hn5.out⟩, rfl⟩)
              case measure => simp [intOf]; omega
          · obtain rfl : m = 128 := by omega
            have hP := HP.out
            rw [Nat.mod_eq_of_lt hBl, ← HC.out] at hP
            have HP3 := Lib.hid hP
            clear hP HP hlm hm
            go_wp2_with fail
            go_roundw
            case rel => first | exact ⟨k + 1, by omega, by go_num, HP3.out, HA.out, HB.out, HR.out, hn⟩ | ((repeat apply Exists.intro); exact ⟨⟨k + 1, by omega, by go_num, HP3.out, HA.out, HB.out, HR.out, hn⟩, rfl⟩)
            case measure => simp [intOf]; omega
    · obtain rfl : k = 128 := by omega
      obtain ⟨F, hF⟩ : ∃ F, F = Gh.mul B A := ⟨_, rfl⟩
      have HFr := Lib.hid (show Gh.rdG 128 (Gh.clG A B 128) = F by rw [hF]; exact Gh.ref_mul A B hBl)
      have HFl := Lib.hid (show F < 2 ^ 128 by rw [hF]; exact Gh.mul_lt B A hBl)
      have HFe := Lib.hid hF
      clear hF hlt hk
      obtain ⟨wo, rfl⟩ : ∃ x : World, x = wr := ⟨_, rfl⟩
      go_wp2_with fail
      go_loopw [8] (fun i wr => ∃ m N : Nat, m ≤ 128 ∧ i = .int .i64 ((127 + m : Nat) : Int) ∧ Gh.rdG m N = F ∧ Blk wr P 29 ((Gh.bitsL N 256).map vb).toArray ∧ Blk wr R 44 z16 ∧ Below w.heap.size w wr) (fun i _ => (intOf i - 127).toNat)
      case atStart => exact ⟨128, _, by omega, rfl, HFr.out, HP.out, HR.out, hn⟩
      case round =>
        clear HP HA HB HR hn HFr
        obtain ⟨m, N, hm, rfl, hr, hP, hR, hn⟩ := hrel
        have HP := Lib.hid hP
        have HR := Lib.hid hR
        have Hr := Lib.hid hr
        clear hP hR hr
        obtain ⟨I, hI⟩ : ∃ I, I = 127 + m := ⟨_, rfl⟩
        rw [← hI]
        by_cases hm0 : m = 0
        · subst hm0
          have hr := Hr.out
          simp only [Gh.rdG] at hr
          subst hr
          have hI1 : I ≤ 127 := by omega
          have hIi : ¬ (128 : Int) ≤ (I : Int) := by omega
          have hal := nu_alloc (nu_refl wr) (.cells z16 44)
          have HP1 := Lib.hid (Blk.below HP.out hal (Blk.lt HP.out))
          have HR1 := Lib.hid (Blk.below HR.out hal (Blk.lt HR.out))
          have HQ1 := Lib.hid (Blk.made wr 44 z16)
          have hn1 := hn.trans (hal.mono hn.size)
          have HQap := Lib.hid (show P < wr.heap.size ∧ R < wr.heap.size ∧ w.heap.size ≤ wr.heap.size from ⟨Blk.lt HP.out, Blk.lt HR.out, hn.size⟩)
          clear hal HP HR hn hm hI Hr
          go_upto_region 20 with fail
          generalize wr.alloc (.cells z16 44) = w5 at *
          generalize wr.heap.size = Q at *
          go_wp2_with fail
          go_loopw [10] (fun i wr => ∃ k : Nat, k ≤ 128 ∧ i = .int .i64 k ∧ Blk wr Q 44 ((bytB (N % 2 ^ k)).map vb).toArray ∧ Blk wr P 29 ((Gh.bitsL N 256).map vb).toArray ∧ Blk wr R 44 z16 ∧ Below w.heap.size w wr) (fun i _ => 128 - (intOf i).toNat)
          case atStart => exact ⟨0, by omega, rfl, by rw [Nat.pow_zero, Nat.mod_one, show ((bytB 0).map vb).toArray = z16 by kernel_rfl]; exact HQ1.out, HP1.out, HR1.out, hn1⟩
          case round =>
            clear HQ1 HP1 HR1 hn1
            obtain ⟨k, hk, rfl, hQ, hP, hR, hn⟩ := hrel
            have HQ := Lib.hid hQ
            have HP := Lib.hid hP
            have HR := Lib.hid hR
            clear hQ hP hR
            by_cases hlt : k < 128
            · have hki : (k : Int) < 128 := by omega
              obtain ⟨c, hc⟩ : ∃ c, c = Gh.b01 (N.testBit k) := ⟨_, rfl⟩
              have hc1 : c ≤ 1 := by rw [hc]; exact Gh.b01_le _
              obtain ⟨y, hy, hset⟩ := lay_bit (N % 2 ^ k) k c (Nat.mod_lt _ (Nat.two_pow_pos k)) hlt hc1
              rw [hc, ← Gh.mod_succ, ← hc] at hset
              have hy8 := bytB_lt _ y (List.mem_of_getElem? hy)
              have hcP := arr_at _ k c (by rw [hc]; exact Gh.bitsL_at N 256 k (by omega))
              obtain ⟨j, hj⟩ : ∃ j, j = k / 8 := ⟨_, rfl⟩
              obtain ⟨r, hr⟩ : ∃ r, r = k % 8 := ⟨_, rfl⟩
              rw [← hj] at hy hset
              rw [← hr] at hset
              have ej : (k : Int) / 8 = (j : Int) := by omega
              have er : (k : Int) % 8 = (r : Int) := by omega
              have hj16 : (j : Int) < 16 := by omega
              have hr7 : r ≤ 7 := by omega
              have hk256 : (k : Int) < 256 := by omega
              have wr1 : IntKind.u64.wrap (r : Int) = (r : Int) := by rw [IntKind.wrap_u64]; omega
              have ej2 : (k : Int).tdiv 8 = (j : Int) := by rw [Int.tdiv_eq_ediv_of_nonneg (by omega)]; exact ej
              have er2 : (k : Int).tmod 8 = (r : Int) := by rw [Int.tmod_eq_emod_of_nonneg (by omega)]; exact er
              have wj : IntKind.i64.wrap (j : Int) = (j : Int) := by rw [IntKind.wrap_i64]; omega
              have wr2 : IntKind.i64.wrap (r : Int) = (r : Int) := by rw [IntKind.wrap_i64]; omega
              obtain ⟨s, hs⟩ : ∃ s, s = 7 - r := ⟨_, rfl⟩
              have es : (7 : Int) - (r : Int) = (s : Int) := by omega
              have ws : IntKind.u64.wrap (s : Int) = (s : Int) := by rw [IntKind.wrap_u64]; omega
              rw [← hs] at hset
              obtain ⟨q, hq⟩ : ∃ q, q = c * 2 ^ s := ⟨_, rfl⟩
              have hps : 2 ^ s ≤ 2 ^ 7 := Nat.pow_le_pow_right (by omega) (by omega)
              have hq8 : q < 256 := by
                rw [hq]
                rcases (show c = 0 ∨ c = 1 by omega) with h | h <;> rw [h] <;> omega
              rw [← hq] at hset
              have eq0 : (c : Int) * 2 ^ s = (q : Int) := by rw [hq]; simp
              have wq : IntKind.u8.wrap (q : Int) = (q : Int) := by rw [IntKind.wrap_u8']; omega
              obtain ⟨z, hz⟩ : ∃ z, z = y ||| q := ⟨_, rfl⟩
              have ez : bits .or .u8 (y : Int) (q : Int) = (z : Int) := by rw [hz]; exact u8_or_nat y q hy8 hq8
              rw [← hz] at hset
              have Hset := Lib.hid hset
              have hs7 : (0 : Int) ≤ (s : Int) := by omega
              have Hcy := Lib.hid (arr_at _ j y hy)
              have HcP := Lib.hid hcP
              clear hj hr hs hps hq8 hq hz hset hy hcP hc hc1
              have cQ : wr.cell? ⟨Q, j, none⟩ = some (.int .u8 (y : Int)) := HQ.out.at j _ Hcy.out
              have cP : wr.cell? ⟨P, k, none⟩ = some (.int .u8 (c : Int)) := HP.out.at k _ HcP.out
              go_upto_region 23 with fail
              go_still_tail 16, (by kernel_rfl)
              change wpList _ _ _ _ _ wr.drew
              have HQ2 := Lib.hid HQ.out.drew
              have HP2 := Lib.hid HP.out.drew
              have HR2 := Lib.hid HR.out.drew
              have hn2 := hn.drew
              clear hn HQ HP HR cQ cP
              generalize wr.drew = w6 at *
              have d0 : w6.cell? ⟨Q, j, none⟩ = some (.int .u8 (y : Int)) := HQ2.out.at j _ Hcy.out
              have f0 := HQ2.out.free j
              have hQ3 := HQ2.out.put j (vb z)
              rw [arr_set, Hset.out] at hQ3
              have HQ3 := Lib.hid hQ3
              have HP3 := Lib.hid (HP2.out.far (p := ⟨Q, j, none⟩) (Nat.ne_of_lt HQap.out.1) (vb z))
              have HR3 := Lib.hid (HR2.out.far (p := ⟨Q, j, none⟩) (Nat.ne_of_lt HQap.out.2.1) (vb z))
              have Hn3 := Lib.hid (nu_set hn2 (p := ⟨Q, j, none⟩) HQap.out.2.2 (vb z))
              simp only [vb] at HQ3 HP3 HR3 Hn3
              clear hQ3 hn2 ej er wr1 ej2 er2 wj wr2 es ws eq0 wq ez
              go_wp2_with fail
              go_roundw
              case rel => first | exact ⟨k + 1, by omega, by go_num, HQ3.out, HP3.out, HR3.out, Hn3.out⟩ | ((repeat apply Exists.intro); exact ⟨⟨k + 1, by omega, by go_num, HQ3.out, HP3.out, HR3.out, Hn3.out⟩, rfl⟩)
              case measure => simp [intOf]; omega
            · obtain rfl : k = 128 := by omega
              have hQ := HQ.out
              rw [Nat.mod_eq_of_lt HFl.out] at hQ
              obtain ⟨D, hD⟩ : ∃ D, D = (bytB N).map vb := ⟨_, rfl⟩
              rw [← hD] at hQ
              have HQ2 := Lib.hid hQ
              have HDl := Lib.hid (show D.length = z16.size by rw [hD, List.length_map, bytB_len]; rfl)
              have HszD := Lib.hid (show (Try.prog.info? 44).map (·.size) = some D.toArray.size by rw [List.size_toArray, hD, List.length_map, bytB_len]; kernel_rfl)
              have H1 := Lib.hid (show ∀ u ∈ D, u.oneCell' = true by rw [hD]; exact vb_one _)
              have HDe := Lib.hid hD
              have HF := Lib.hid (Blk.fill HR.out D HDl.out)
              have Hnf := Lib.hid (nu_fill D (g := R) Hap.out.2.2.2.2 0 _ hn)
              clear hQ HQ hD hn hlt hk
              go_wp2_with (first | (refine wpList_load_blk rfl 44 (.tmp 9) rfl Q rfl 44 D.toArray HQ2.out Try.underlying44 HszD.out ?_) | (refine wpList_store_blk rfl 44 (.tmp 4) (.tmp 98) rfl R D rfl rfl 44 z16 HR.out HDl.out (by have h := HszD.out; rwa [List.size_toArray] at h) H1.out ?_))
              refine bodyPost_ret (results_blk rfl _ R 44 D.toArray rfl HF.out Try.underlying44 HszD.out) rfl ⟨by rw [HDe.out, HFe.out], Hnf.out⟩
        · obtain ⟨k, hkm⟩ : ∃ k, m = k + 1 := ⟨m - 1, by omega⟩
          subst hkm
          have hIi : (128 : Int) ≤ (I : Int) := by omega
          have hI256 : (I : Int) < 256 := by omega
          have hIk : I = k + 128 := by omega
          have hr := Hr.out
          simp only [Gh.rdG] at hr
          cases hb : N.testBit (k + 128)
          · have Hr2 := Lib.hid (show Gh.rdG k N = F by rw [← hr, Gh.rdStepG, hb]; rfl)
            have c0 : wr.cell? ⟨P, I, none⟩ = some (.int .u8 0) := HP.out.at I _ (arr_at _ I 0 (by rw [Gh.bitsL_at N 256 I (by omega), hIk, hb]; rfl))
            have HI := Lib.hid hI
            clear hr hb Hr hIk hI
            go_wp2_with fail
            go_roundw
            case rel =>
              have e : Value.int .i64 ((I : Int) - 1) = .int .i64 ((127 + k : Nat) : Int) := by congr 1; have := HI.out; omega
              first | exact ⟨k, N, by omega, e, Hr2.out, HP.out, HR.out, hn⟩ | ((repeat apply Exists.intro); exact ⟨⟨k, N, by omega, e, Hr2.out, HP.out, HR.out, hn⟩, rfl⟩)
            case measure => simp [intOf]; omega
          · have Hr2 := Lib.hid (show Gh.rdG k (N ^^^ 340282366920938463463374607431768211591 * 2 ^ k) = F by rw [← hr, Gh.rdStepG, hb]; rfl)
            rw [bit_step, ← hIk] at Hr2
            have c0 : wr.cell? ⟨P, I, none⟩ = some (.int .u8 1) := HP.out.at I _ (arr_at _ I 1 (by rw [Gh.bitsL_at N 256 I (by omega), hIk, hb]; rfl))
            have f0 := HP.out.free I
            have hP1 := HP.out.put I (vb 0)
            rw [bits_put N I 1 (by omega) (by omega) 0 (by rw [hIk, hb]; rfl)] at hP1
            obtain ⟨N0, hN0⟩ : ∃ N0, N0 = N ^^^ 1 * 2 ^ I := ⟨_, rfl⟩
            rw [← hN0] at hP1 Hr2
            have HP1 := Lib.hid hP1
            have HR1 := Lib.hid (HR.out.far (p := ⟨P, I, none⟩) Hap.out.2.2.1 (vb 0))
            have hn1 := nu_set hn (p := ⟨P, I, none⟩) Hap.out.2.2.2.1 (vb 0)
            simp only [vb] at HP1 HR1 hn1
            obtain ⟨n1, hn1e⟩ : ∃ n, n = k := ⟨_, rfl⟩
            obtain ⟨n2, hn2e⟩ : ∃ n, n = k + 1 := ⟨_, rfl⟩
            obtain ⟨n3, hn3e⟩ : ∃ n, n = k + 2 := ⟨_, rfl⟩
            obtain ⟨n4, hn4e⟩ : ∃ n, n = k + 7 := ⟨_, rfl⟩
            have es1 : (I : Int) - 128 = (n1 : Int) := by omega
            have es2 : (I : Int) - 127 = (n2 : Int) := by omega
            have es3 : (I : Int) - 126 = (n3 : Int) := by omega
            have es4 : (I : Int) - 121 = (n4 : Int) := by omega
            have hb1 : n1 < 256 := by omega
            have hb2 : n2 < 256 := by omega
            have hb3 : n3 < 256 := by omega
            have hb4 : n4 < 256 := by omega
            rw [← hn2e, ← hn3e, ← hn4e] at Hr2
            rw [show (1 : Nat) * 2 ^ k = 1 * 2 ^ n1 by rw [hn1e]] at Hr2
            have HI := Lib.hid hI
            clear hr hb Hr hP1 hN0 hn hI hIk hn1e hn2e hn3e hn4e
            go_upto_region 15 with fail
            generalize wr.setCell ⟨P, I, none⟩ (.int .u8 ((0 : Nat) : Int)) = wq0 at *
            clear c0 f0
            obtain ⟨y1, hy1⟩ : ∃ y, y = Gh.b01 (N0.testBit n1) := ⟨_, rfl⟩
            have hyl1 : y1 ≤ 1 := by rw [hy1]; exact Gh.b01_le _
            obtain ⟨z1, hz1⟩ : ∃ z, z = y1 ^^^ 1 := ⟨_, rfl⟩
            have ex1 : bits .xor .u8 (y1 : Int) 1 = (z1 : Int) := by rw [hz1]; exact u8_xor_nat y1 1 (by omega) (by omega)
            have c1 : wq0.cell? ⟨P, n1, none⟩ = some (.int .u8 (y1 : Int)) := HP1.out.at n1 _ (arr_at _ n1 y1 (by rw [hy1]; exact Gh.bitsL_at N0 256 n1 hb1))
            have f1 := HP1.out.free n1
            have hPn1 := HP1.out.put n1 (vb z1)
            rw [bits_put N0 n1 1 hb1 (by omega) z1 (by rw [hz1, hy1])] at hPn1
            obtain ⟨N1, hN1⟩ : ∃ N, N = N0 ^^^ 1 * 2 ^ n1 := ⟨_, rfl⟩
            rw [← hN1] at hPn1 Hr2
            have HP2 := Lib.hid hPn1
            have HR2 := Lib.hid (HR1.out.far (p := ⟨P, n1, none⟩) Hap.out.2.2.1 (vb z1))
            have hn2 := nu_set hn1 (p := ⟨P, n1, none⟩) Hap.out.2.2.2.1 (vb z1)
            simp only [vb] at HP2 HR2 hn2
            clear hPn1 hN1 hy1 hz1 hyl1 HP1 HR1 hn1
            go_upto_region 16 with fail
            generalize wq0.setCell ⟨P, n1, none⟩ (.int .u8 (z1 : Int)) = wq1 at *
            clear c1 f1 ex1
            obtain ⟨y2, hy2⟩ : ∃ y, y = Gh.b01 (N1.testBit n2) := ⟨_, rfl⟩
            have hyl2 : y2 ≤ 1 := by rw [hy2]; exact Gh.b01_le _
            obtain ⟨z2, hz2⟩ : ∃ z, z = y2 ^^^ 1 := ⟨_, rfl⟩
            have ex2 : bits .xor .u8 (y2 : Int) 1 = (z2 : Int) := by rw [hz2]; exact u8_xor_nat y2 1 (by omega) (by omega)
            have c2 : wq1.cell? ⟨P, n2, none⟩ = some (.int .u8 (y2 : Int)) := HP2.out.at n2 _ (arr_at _ n2 y2 (by rw [hy2]; exact Gh.bitsL_at N1 256 n2 hb2))
            have f2 := HP2.out.free n2
            have hPn2 := HP2.out.put n2 (vb z2)
            rw [bits_put N1 n2 1 hb2 (by omega) z2 (by rw [hz2, hy2])] at hPn2
            obtain ⟨N2, hN2⟩ : ∃ N, N = N1 ^^^ 1 * 2 ^ n2 := ⟨_, rfl⟩
            rw [← hN2] at hPn2 Hr2
            have HP3 := Lib.hid hPn2
            have HR3 := Lib.hid (HR2.out.far (p := ⟨P, n2, none⟩) Hap.out.2.2.1 (vb z2))
            have hn3 := nu_set hn2 (p := ⟨P, n2, none⟩) Hap.out.2.2.2.1 (vb z2)
            simp only [vb] at HP3 HR3 hn3
            clear hPn2 hN2 hy2 hz2 hyl2 HP2 HR2 hn2
            go_upto_region 17 with fail
            generalize wq1.setCell ⟨P, n2, none⟩ (.int .u8 (z2 : Int)) = wq2 at *
            clear c2 f2 ex2
            obtain ⟨y3, hy3⟩ : ∃ y, y = Gh.b01 (N2.testBit n3) := ⟨_, rfl⟩
            have hyl3 : y3 ≤ 1 := by rw [hy3]; exact Gh.b01_le _
            obtain ⟨z3, hz3⟩ : ∃ z, z = y3 ^^^ 1 := ⟨_, rfl⟩
            have ex3 : bits .xor .u8 (y3 : Int) 1 = (z3 : Int) := by rw [hz3]; exact u8_xor_nat y3 1 (by omega) (by omega)
            have c3 : wq2.cell? ⟨P, n3, none⟩ = some (.int .u8 (y3 : Int)) := HP3.out.at n3 _ (arr_at _ n3 y3 (by rw [hy3]; exact Gh.bitsL_at N2 256 n3 hb3))
            have f3 := HP3.out.free n3
            have hPn3 := HP3.out.put n3 (vb z3)
            rw [bits_put N2 n3 1 hb3 (by omega) z3 (by rw [hz3, hy3])] at hPn3
            obtain ⟨N3, hN3⟩ : ∃ N, N = N2 ^^^ 1 * 2 ^ n3 := ⟨_, rfl⟩
            rw [← hN3] at hPn3 Hr2
            have HP4 := Lib.hid hPn3
            have HR4 := Lib.hid (HR3.out.far (p := ⟨P, n3, none⟩) Hap.out.2.2.1 (vb z3))
            have hn4 := nu_set hn3 (p := ⟨P, n3, none⟩) Hap.out.2.2.2.1 (vb z3)
            simp only [vb] at HP4 HR4 hn4
            clear hPn3 hN3 hy3 hz3 hyl3 HP3 HR3 hn3
            go_upto_region 18 with fail
            generalize wq2.setCell ⟨P, n3, none⟩ (.int .u8 (z3 : Int)) = wq3 at *
            clear c3 f3 ex3
            obtain ⟨y4, hy4⟩ : ∃ y, y = Gh.b01 (N3.testBit n4) := ⟨_, rfl⟩
            have hyl4 : y4 ≤ 1 := by rw [hy4]; exact Gh.b01_le _
            obtain ⟨z4, hz4⟩ : ∃ z, z = y4 ^^^ 1 := ⟨_, rfl⟩
            have ex4 : bits .xor .u8 (y4 : Int) 1 = (z4 : Int) := by rw [hz4]; exact u8_xor_nat y4 1 (by omega) (by omega)
            have c4 : wq3.cell? ⟨P, n4, none⟩ = some (.int .u8 (y4 : Int)) := HP4.out.at n4 _ (arr_at _ n4 y4 (by rw [hy4]; exact Gh.bitsL_at N3 256 n4 hb4))
            have f4 := HP4.out.free n4
            have hPn4 := HP4.out.put n4 (vb z4)
            rw [bits_put N3 n4 1 hb4 (by omega) z4 (by rw [hz4, hy4])] at hPn4
            obtain ⟨N4, hN4⟩ : ∃ N, N = N3 ^^^ 1 * 2 ^ n4 := ⟨_, rfl⟩
            rw [← hN4] at hPn4 Hr2
            have HP5 := Lib.hid hPn4
            have HR5 := Lib.hid (HR4.out.far (p := ⟨P, n4, none⟩) Hap.out.2.2.1 (vb z4))
            have hn5 := nu_set hn4 (p := ⟨P, n4, none⟩) Hap.out.2.2.2.1 (vb z4)
            simp only [vb] at HP5 HR5 hn5
            clear hPn4 hN4 hy4 hz4 hyl4 HP4 HR4 hn4
            have Hn5 := Lib.hid hn5
            clear hn5
            go_wp2_with fail
            go_roundw
            case rel =>
              have e : Value.int .i64 ((I : Int) - 1) = .int .i64 ((127 + k : Nat) : Int) := by congr 1; have := HI.out; omega
              first | exact ⟨k, N4, by omega, e, Hr2.out, HP5.out, HR5.out, Hn5.out⟩ | ((repeat apply Exists.intro); exact ⟨⟨k, N4, by omega, e, Hr2.out, HP5.out, HR5.out, Hn5.out⟩, rfl⟩)
            case measure => simp [intOf]; omega
end Go.Proofs.Ytpeibkdcglkimaa

namespace Go.Proofs.Ytpeibkdcglkimaa
open Go.ChangeShapes Go.WideShapes Go.ChangeAt Go.RowKit

theorem gb_setRow (w : World) (g : Nat) (cs : Array Value) : w.grownBy (w.setRow g cs) (some g) :=
  ⟨rfl, rfl, rfl, by simp [World.setRow], fun k _ hne => setRow_other w g k cs (fun e => hne (by rw [e]))⟩
theorem wpList_copy_blk {P : Program} {w : World} {ops : Array Oper} {rest : List Oper} {o : Oper} {a : Act} {Q : Exit → Act → World → Prop} (hgd : o.guard = none) (d s : Operand) (dT sT : TypeId)
    (ho : o.op = .call { callee := .builtin .copy, args := #[d, s], argTypes := #[dT, sT] }) (elem : TypeId) (hu : P.underlying dT = some (.slice elem)) (hsz : (P.info? elem).map (·.size) = some 1)
    (dp sp : Option Addr) (dLen dCap sLen sCap : Nat) (hd : a.eval d = .slice dp dLen dCap) (hs : a.eval s = .slice sp sLen sCap)
    (g off : Nat) (cur : List Value) (t : TypeId) (hg : Blk w g t cur.toArray) (cs : List Value) (hn : cs.length = Nat.min sLen dLen)
    (hpos : 0 < cs.length → dp = some ⟨g, off, none⟩ ∧ ∃ ad, sp = some ad ∧ ∀ j v, cs[j]? = some v → w.cell? (ad.add j) = some v)
    (hfit : off + cs.length ≤ cur.length) (h1 : ∀ v ∈ cs, v.oneCell' = true)
    (h : ∀ w', Hid (Blk w' g t (splice cur off cs).toArray) → w.grownBy w' (some g) → wpList P ops Q rest (a.put o.dst (goInt cs.length)) w') :
    wpList P ops Q (o :: rest) a w := by
  by_cases h0 : cs.length = 0
  · obtain rfl : cs = [] := List.eq_nil_of_length_eq_zero h0
    refine wpList_copy_nothing hgd d s dT sT ho elem hu hsz dp sp dLen dCap sLen sCap hd hs (by simpa using hn.symm) ?_
    exact h w (show _ = _ by simpa [splice, Blk] using hg) ⟨rfl, rfl, rfl, Nat.le_refl _, fun _ _ _ => rfl⟩
  · obtain ⟨rfl, ad, rfl, hsrc⟩ := hpos (by omega)
    refine wpList_copy_own hgd d s dT sT ho elem hu hsz g off dLen dCap ad sLen sCap hd hs cur.toArray t hg cs hn hsrc (by simpa using hfit) h1 ?_
    exact h _ (show _ = _ by simpa [splice] using setRow_heap w g _ _ t _ hg) (gb_setRow w g _)
end Go.Proofs.Ytpeibkdcglkimaa

namespace Go.Proofs.Ytpeibkdcglkimaa
open Go.ChangeShapes Go.WideShapes Go.ChangeAt Go.RowKit

def pad16 (ys : List Nat) : List Nat := ys ++ List.replicate (16 - ys.length) 0
def blocksF : Nat → List Nat → List (List Nat)
  | 0, _ => []
  | n + 1, zs => if zs = [] then [] else pad16 (zs.take 16) :: blocksF n (zs.drop 16)
def blocks (zs : List Nat) : List (List Nat) := blocksF zs.length zs
theorem blocksF_any : ∀ (n m : Nat) (zs : List Nat), zs.length ≤ n → zs.length ≤ m → blocksF n zs = blocksF m zs := by
  intro n
  induction n with
  | zero =>
    intro m zs h _
    obtain rfl : zs = [] := List.eq_nil_of_length_eq_zero (by omega)
    cases m <;> simp [blocksF]
  | succ n ih =>
    intro m zs h1 h2
    by_cases hz : zs = []
    · subst hz
      cases m <;> simp [blocksF]
    · have hp : 0 < zs.length := List.length_pos_iff.2 hz
      cases m with
      | zero => omega
      | succ m =>
        simp only [blocksF, if_neg hz]
        rw [ih m (zs.drop 16) (by rw [List.length_drop]; omega) (by rw [List.length_drop]; omega)]
theorem blocks_nil : blocks [] = [] := rfl
theorem blocks_cons (zs : List Nat) (h : zs ≠ []) : blocks zs = pad16 (zs.take 16) :: blocks (zs.drop 16) := by
  have hp : 0 < zs.length := List.length_pos_iff.2 h
  obtain ⟨n, hn⟩ : ∃ n, zs.length = n + 1 := ⟨zs.length - 1, by omega⟩
  have e : blocks zs = blocksF (n + 1) zs := by unfold blocks; rw [hn]
  rw [e]
  simp only [blocksF, if_neg h]
  congr 1
  exact blocksF_any n _ _ (by rw [List.length_drop]; omega) (Nat.le_refl _)
theorem pad16_len (ys : List Nat) (h : ys.length ≤ 16) : (pad16 ys).length = 16 := by unfold pad16; rw [List.length_append, List.length_replicate]; omega
theorem pad16_lt (ys : List Nat) (h : ∀ x ∈ ys, x < 256) : ∀ x ∈ pad16 ys, x < 256 := by
  intro x hx
  rcases List.mem_append.1 hx with hx | hx
  · exact h x hx
  · rw [(List.mem_replicate.1 hx).2]; omega
/-- One block more. -/
def gstep (h y : Nat) (b : List Nat) : Nat := Gh.mul h (y ^^^ polB b)
def gfold (h y : Nat) (bs : List (List Nat)) : Nat := bs.foldl (gstep h) y
theorem gfold_lt (h y : Nat) (bs : List (List Nat)) (hh : h < 2 ^ 128) (hy : y < 2 ^ 128) : gfold h y bs < 2 ^ 128 := by
  unfold gfold
  induction bs generalizing y with
  | nil => exact hy
  | cons b bs ih => exact ih _ (Gh.mul_lt _ _ hh)
abbrev z16l : List Value := [.int .u8 0, .int .u8 0, .int .u8 0, .int .u8 0, .int .u8 0, .int .u8 0, .int .u8 0, .int .u8 0, .int .u8 0, .int .u8 0, .int .u8 0, .int .u8 0, .int .u8 0, .int .u8 0, .int .u8 0, .int .u8 0]
theorem splice_16 (l : List Nat) (h : l.length ≤ 16) : splice z16l 0 (l.map vb) = (pad16 l).map vb := by
  have e : z16l = (List.replicate 16 0).map vb := rfl
  rw [splice, e, List.take_zero, List.nil_append, Nat.zero_add, List.length_map, ← List.map_drop, ← List.map_append, List.drop_replicate]
  rfl

theorem bytes_blk_lt {w : World} {a : Option Addr} {len cap : Nat} {xs : List Nat} (h : BytesIn w a len cap xs) (hp : 0 < len) : ∀ ad, a = some ad → ad.block < w.heap.size := by
  obtain ⟨b, off, rfl, hlt, _⟩ := h.1.2.2 hp
  intro ad had
  injection had with had
  subst had
  exact hlt
/-- Two blocks turned, the second of which is newer than all. -/
theorem gb_other {a w w' : World} {g k : Nat} (h : a.grownBy w (some g)) (h2 : w.grownBy w' (some k)) (hk : a.heap.size ≤ k) : a.grownBy w' (some g) :=
  ⟨h2.os.trans h.os, h2.tape.trans h.tape, h2.output.trans h.output, Nat.le_trans h.size h2.size, fun i hi hne => by
    rw [h2.block i (Nat.lt_of_lt_of_le hi h.size) (fun e => by injection e with e; omega)]
    exact h.block i hi hne⟩
set_option maxRecDepth 100000 in
set_option maxHeartbeats 4000000 in
theorem gh_take (Kb Y g h : Nat) (x : Option Addr) (l c : Nat) (zs : List Nat) (yv : Nat) (w : World) (hkc : w.cell? ⟨Kb, 0, none⟩ = some (.pointer (some ⟨g, 0, none⟩))) (hK : KeyAt w g h) (hh : h < 2 ^ 128) (hY : Blk w Y 79 (halfL yv).toArray) (hyv : yv < 2 ^ 128)
    (hz : BytesIn w x l c zs) (hlc : l ≤ c) (hcm : c ≤ maxLen) (hne : 0 < l → ∀ ad, x = some ad → ad.block ≠ Y) (h1 : Kb ≠ Y) (h2 : g ≠ Y) :
    Calls Try.prog 61 #[.slice x l c, .pointer (some ⟨Kb, 0, none⟩), .pointer (some ⟨Y, 0, none⟩)] w fun e w' => e = .returned (.tuple #[]) ∧ Blk w' Y 79 (halfL (gfold h yv (blocks zs))).toArray ∧ w.grownBy w' (some Y) := by
  have Hap := Lib.hid (And.intro h1 h2)
  have HKc := Lib.hid hkc
  have HK := Lib.hid hK
  have HY := Lib.hid hY
  have Hz := Lib.hid hz
  have Hlc := Lib.hid (And.intro hlc hcm)
  have Hne := Lib.hid hne
  have HKl := Lib.hid (show Kb < w.heap.size from World.block_lt_of_cell? _ _ hkc)
  have hYl := Blk.lt hY
  clear hkc hK hY hz hlc hcm hne h1 h2
  go_enter Try.func61, Try.ntmps61
  go_wp2_with fail
  obtain ⟨F, hF⟩ : ∃ F, F = gfold h yv (blocks zs) := ⟨_, rfl⟩
  have HF := Lib.hid hF
  go_loopw [0] (fun p wr => ∃ (x' : Option Addr) (l' c' : Nat) (zs' : List Nat) (y' : Nat), p = .slice x' l' c' ∧ l' ≤ c' ∧ c' ≤ maxLen ∧ BytesIn wr x' l' c' zs' ∧ (0 < l' → ∀ ad, x' = some ad → ad.block ≠ Y) ∧ Blk wr Y 79 (halfL y').toArray ∧ y' < 2 ^ 128 ∧ gfold h y' (blocks zs') = F ∧ w.grownBy wr (some Y)) (fun p _ => match p with | .slice _ n _ => n | _ => 0)
  case atStart => exact ⟨x, l, c, zs, yv, rfl, Hlc.out.1, Hlc.out.2, Hz.out, Hne.out, HY.out, hyv, hF.symm, gb_refl _ _⟩
  case round =>
    clear HY hyv hF Hz Hlc Hne
    obtain ⟨x', l', c', zs', y', rfl, hlc, hcm, hz, hne, hY, hy, hf, hg⟩ := hrel
    by_cases hl0 : l' = 0
    · subst hl0
      have hz0 : zs' = [] := List.eq_nil_of_length_eq_zero hz.1.1
      have hyF : y' = F := by rw [← hf, hz0]; rfl
      have HYF := Lib.hid (show Blk wr Y 79 (halfL F).toArray by rw [← hyF]; exact hY)
      clear hz hz0 hyF hY hf hne
      go_wp2_with fail
      exact bodyPost_end (results_none rfl _ _ _) rfl ⟨rfl, by rw [← HF.out]; exact HYF.out, hg⟩
    · have hl1 : (0 : Int) < (l' : Int) := by omega
      have hl63 : l' ≤ 9223372036854775807 := by unfold maxLen at hcm; omega
      have hzl := hz.1.1
      have hzx : ∀ y ∈ zs', y < 256 := fun y h => wf_u8_lt (hz.1.2.1 y h)
      obtain ⟨kk, hkk⟩ : ∃ kk, kk = Nat.min l' 16 := ⟨_, rfl⟩
      have hkl : kk ≤ l' ∧ kk ≤ 16 ∧ 1 ≤ kk ∧ (kk = l' ∨ kk = 16) := by
        rw [hkk]
        show min l' 16 ≤ l' ∧ min l' 16 ≤ 16 ∧ 1 ≤ min l' 16 ∧ (min l' 16 = l' ∨ min l' 16 = 16)
        omega
      have hdrop : zs'.drop kk = zs'.drop 16 := by
        rcases hkl.2.2.2 with h | h
        · rw [List.drop_of_length_le (by omega), List.drop_of_length_le (by omega)]
        · rw [h]
      obtain ⟨T, hT⟩ : ∃ T, T = zs'.take 16 := ⟨_, rfl⟩
      have hTl : T.length = kk := by rw [hT, List.length_take, hzl, hkk, Nat.min_comm]
      have hTx : ∀ y ∈ T, y < 256 := fun y h => hzx y (by rw [hT] at h; exact List.mem_of_mem_take h)
      have hblk : blocks zs' = pad16 T :: blocks (zs'.drop kk) := by rw [hT, hdrop]; exact blocks_cons zs' (fun e => by rw [e] at hzl; simp at hzl; omega)
      obtain ⟨Pd, hPd⟩ : ∃ Pd, Pd = pad16 T := ⟨_, rfl⟩
      have hPl : Pd.length = 16 := by rw [hPd]; exact pad16_len T (by omega)
      have hPx : ∀ y ∈ Pd, y < 256 := by rw [hPd]; exact pad16_lt T hTx
      rw [← hPd] at hblk
      obtain ⟨yn, hyn⟩ : ∃ yn, yn = gstep h y' Pd := ⟨_, rfl⟩
      have Hfn := Lib.hid (show gfold h yn (blocks (zs'.drop kk)) = F by rw [← hf, hblk, hyn]; rfl)
      have Hyn := Lib.hid (show yn < 2 ^ 128 by rw [hyn]; exact Gh.mul_lt _ _ hh)
      have Hyne := Lib.hid (show Gh.mul h (y' ^^^ polB Pd) = yn by rw [hyn]; rfl)
      obtain ⟨C, hC⟩ : ∃ C, C = T.map vb := ⟨_, rfl⟩
      have ekk : C.length = kk := by rw [hC, List.length_map, hTl]
      have Hcn := Lib.hid (show C.length = Nat.min l' 16 by rw [ekk, hkk])
      have Hcf := Lib.hid (show 0 + C.length ≤ z16l.length by rw [ekk, show z16l.length = 16 from rfl]; omega)
      have H1 := Lib.hid (show ∀ v ∈ C, v.oneCell' = true by rw [hC]; exact vb_one T)
      have Hspl := Lib.hid (show splice z16l 0 C = Pd.map vb by rw [hC, splice_16 T (by omega), hPd])
      have hal := nu_alloc (nu_refl wr) (.cells z16l.toArray 44)
      have hgal := gb_alloc hg (.cells z16l.toArray 44)
      have HB2 := Lib.hid (Blk.made wr 44 z16l.toArray)
      have HY2 := Lib.hid (Blk.below hY hal (Blk.lt hY))
      have hz2 := hz.keep hal
      have Hp2 := Lib.hid (show 0 < C.length → (some (⟨wr.heap.size, 0, none⟩ : Addr) = some ⟨wr.heap.size, 0, none⟩) ∧ ∃ ad, x' = some ad ∧ ∀ (j : Nat) (v : Value), C[j]? = some v → (wr.alloc (.cells z16l.toArray 44)).cell? (ad.add j) = some v from fun _ => by
        obtain ⟨b, off, hx, _⟩ := hz2.1.2.2 (by omega)
        refine ⟨rfl, _, hx, fun j v hv => hz2.src _ hx j v ?_⟩
        rw [hC, hT] at hv
        rw [List.map_take, List.getElem?_take] at hv
        split at hv
        · exact hv
        · cases hv)
      have Hz2 := Lib.hid hz2
      have Hbz := Lib.hid (show Y < wr.heap.size ∧ ∀ ad, x' = some ad → ad.block < wr.heap.size from ⟨Blk.lt hY, bytes_blk_lt hz (by omega)⟩)
      have Hg2 := Lib.hid hgal
      have Hg0 := Lib.hid hg.size
      have HLl := Lib.hid (load_any Pd hPl hPx)
      have Hne0 := Lib.hid (hne (by omega))
      have HL0 := Lib.hid (show x' = none → l' = 0 from fun e => (hz.2 e).1)
      have HLs := Lib.hid (show ∀ ad, x' = some ad → some ad = some ⟨ad.block, ad.off, none⟩ from fun ad had => by
        obtain ⟨b, off, e, _⟩ := hz.1.2.2 (by omega)
        rw [had] at e
        injection e with e
        rw [e])
      have HPsz := Lib.hid (show (Try.prog.info? 44).map (·.size) = some (Pd.map vb).toArray.size by rw [List.size_toArray, List.length_map, hPl]; kernel_rfl)
      clear hz hz2 hal hgal hg hf hblk hT hTl hTx hPd hPl hPx hdrop hkk hyn hC hY hne hzl hzx
      go_upto_region 2 with fail
      generalize wr.alloc (.cells z16l.toArray 44) = w2 at *
      generalize wr.heap.size = Bk at *
      go_upto_region 3 with (refine wpList_copy_blk rfl (.tmp 10) (.tmp 11) 22 22 rfl 5 Try.underlying22 (by kernel_rfl) _ _ _ _ _ _ rfl rfl Bk 0 z16l 44 HB2.out C Hcn.out Hp2.out Hcf.out H1.out ?_)
      intro w3 HB3 hg3
      obtain ⟨XP, hXP⟩ : ∃ XP, XP = Pd.map vb := ⟨_, rfl⟩
      rw [← hXP] at HPsz HLl Hspl
      have HB3' := Lib.hid (show Blk w3 Bk 44 XP.toArray by rw [← Hspl.out]; exact HB3.out)
      have HY3 := Lib.hid (Blk.grown HY2.out hg3 (fun e => by injection e with e; have := Hbz.out.1; omega))
      have Hz3 := Lib.hid (Hz2.out.far hg3 (fun _ ad had => by have := Hbz.out.2 ad had; omega))
      have Hg3 := Lib.hid (show w.grownBy w3 (some Y) from gb_other Hg2.out hg3 (Nat.le_trans Hg0.out (Nat.le_refl _)))
      have HW := Lib.hid (HLl.out w3)
      clear hXP HB3 hg3 HB2 HY2 Hz2 Hg2 Hp2 Hcn Hcf H1 Hspl HLl
      go_wp2_with (refine wpList_load_blk rfl 44 (.tmp 4) rfl Bk rfl 44 XP.toArray HB3'.out Try.underlying44 HPsz.out ?_)
      refine HW.out.mono ?_
      rintro e w4 ⟨rfl, hb4⟩
      obtain ⟨q, hq⟩ : ∃ q, q = polB Pd := ⟨_, rfl⟩
      rw [← hq] at Hyne
      rw [← hq]
      have Hql := Lib.hid (show q < 2 ^ 128 by rw [hq]; exact polB_lt Pd)
      obtain ⟨c0, hc0⟩ : ∃ c : Int, c = (Gh.hi q : Int) := ⟨_, rfl⟩
      obtain ⟨d0, hd0⟩ : ∃ d : Int, d = (Gh.lo q : Int) := ⟨_, rfl⟩
      obtain ⟨a0, ha0⟩ : ∃ a : Int, a = (Gh.hi y' : Int) := ⟨_, rfl⟩
      obtain ⟨b0, hb0⟩ : ∃ b : Int, b = (Gh.lo y' : Int) := ⟨_, rfl⟩
      obtain ⟨e0, he0⟩ : ∃ e : Int, e = (Gh.hi (y' ^^^ q) : Int) := ⟨_, rfl⟩
      obtain ⟨f0, hf0⟩ : ∃ f : Int, f = (Gh.lo (y' ^^^ q) : Int) := ⟨_, rfl⟩
      have hq2 : halfL q = [.int .u64 c0, .int .u64 d0] := by unfold halfL; rw [hc0, hd0]
      have hy2 : halfL y' = [.int .u64 a0, .int .u64 b0] := by unfold halfL; rw [ha0, hb0]
      have hx2 : halfL (y' ^^^ q) = [.int .u64 e0, .int .u64 f0] := by unfold halfL; rw [he0, hf0]
      have hX1 : bits .xor .u64 a0 c0 = e0 := by rw [ha0, hc0, he0, u64_xor_nat _ _ (Gh.hi_lt _) (Gh.hi_lt _), Gh.hi_xor]
      have hX2 : bits .xor .u64 b0 d0 = f0 := by rw [hb0, hd0, hf0, u64_xor_nat _ _ (Gh.lo_lt _) (Gh.lo_lt _), Gh.lo_xor]
      have HT := Lib.hid (fun (w : World) (hk : KeyAt w g h) => gh_times g h (y' ^^^ q) hh w hk)
      rw [hx2, Hyne.out] at HT
      obtain ⟨N, hN⟩ : ∃ N, N = halfL yn := ⟨_, rfl⟩
      rw [← hN] at HT
      have HN2 := Lib.hid (show N.length = 2 by rw [hN]; rfl)
      have HN1 := Lib.hid (show ∀ u ∈ N, u.oneCell' = true by rw [hN]; exact halfL_one yn)
      have HNe := Lib.hid hN
      have HY3b : Hid (Blk w3 Y 79 [.int .u64 a0, .int .u64 b0].toArray) := by rw [← hy2]; exact HY3.out
      rw [hq2]
      clear hq hc0 hd0 ha0 hb0 he0 hf0 hq2 hy2 hx2 hN HY3 HW
      have hn4 := nu_alloc hb4 (.cells #[.int .u64 0, .int .u64 0] 79)
      have HD4 := Lib.hid (Blk.made w4 79 #[.int .u64 0, .int .u64 0])
      have HD5 := Lib.hid (Blk.fill HD4.out [.int .u64 c0, .int .u64 d0] rfl)
      have hn5 := nu_fill [.int .u64 c0, .int .u64 d0] (g := w4.heap.size) hb4.size 0 _ hn4
      have HY5 := Lib.hid (Blk.below HY3b.out hn5 (Blk.lt HY3b.out))
      have Hz5 := Lib.hid (Hz3.out.keep hn5)
      have Hg5 := Lib.hid (gb_trans Hg3.out (gb_of_below hn5 (some Y)))
      have HYD := Lib.hid (show Y < w4.heap.size by have h1 := Blk.lt HY3b.out; have h2 := hb4.size; omega)
      clear hb4 hn4 hn5 HY3b Hz3 Hg3
      go_upto_region 4 with (refine wpList_store_blk rfl 79 (.tmp 6) (.tmp 14) rfl w4.heap.size [.int .u64 c0, .int .u64 d0] rfl rfl 79 #[.int .u64 0, .int .u64 0] HD4.out rfl (show _ = some 2 by kernel_rfl) (by simp [Value.oneCell']) ?_)
      generalize (w4.alloc (.cells #[.int .u64 0, .int .u64 0] 79)).setCells w4.heap.size 0 [.int .u64 c0, .int .u64 d0] = w5 at *
      generalize w4.heap.size = Dk at *
      have k0 : w5.cell? ⟨Kb, 0, none⟩ = some (.pointer (some ⟨g, 0, none⟩)) := (World.cell?_of_block (a := ⟨Kb, 0, none⟩) (Hg5.out.block Kb HKl.out (fun e => Hap.out.1 (by injection e)))).trans HKc.out
      have y0 : w5.cell? ⟨Y, 0, none⟩ = some (.int .u64 a0) := HY5.out.at 0 _ rfl
      have y1 : w5.cell? ⟨Y, 1, none⟩ = some (.int .u64 b0) := HY5.out.at 1 _ rfl
      have x0 : w5.cell? ⟨Dk, 0, none⟩ = some (.int .u64 c0) := HD5.out.at 0 _ rfl
      have x1 : w5.cell? ⟨Dk, 1, none⟩ = some (.int .u64 d0) := HD5.out.at 1 _ rfl
      have HW := Lib.hid (HT.out w5 (Blk.grown HK.out Hg5.out (fun e => Hap.out.2 (by injection e))))
      go_wp2_with fail
      refine HW.out.mono ?_
      rintro e w6 ⟨rfl, hb6⟩
      have HY6 := Lib.hid (Blk.below HY5.out hb6 (Blk.lt HY5.out))
      have Hz6 := Lib.hid (Hz5.out.keep hb6)
      have hg6 := gb_trans Hg5.out (gb_of_below hb6 (some Y))
      have HY9 := Lib.hid (show Blk (w6.setCells Y 0 N) Y 79 (halfL yn).toArray by rw [← HNe.out]; exact Blk.fill HY6.out N (by rw [HN2.out]; rfl))
      have hgf := gb_fill (g := Y) N 0 w6 (gb_refl w6 (some Y))
      have Hg9 := Lib.hid (gb_trans hg6 hgf)
      have Hz9 := Lib.hid (Hz6.out.far hgf (fun hp ad had => Hne0.out ad had))
      have HL9 := Lib.hid (Hz9.out.left hkl.1 hlc)
      have Hne9 := Lib.hid (show 0 < l' - kk → ∀ ad, leftAt x' c' kk = some ad → ad.block ≠ Y from fun _ ad had => by
        obtain ⟨ad0, h1, h2⟩ := leftAt_block had
        rw [h2]
        exact Hne0.out ad0 h1)
      clear HW hb6 HY5 Hz5 Hg5 k0 y0 y1 x0 x1 hX1 hX2 hg6 hgf Hz6 Hz9
      go_upto_region 5 with (refine wpList_store_blk rfl 79 (.tmp 2) (.tmp 27) rfl Y N rfl rfl 79 [.int .u64 a0, .int .u64 b0].toArray HY6.out (by rw [HN2.out]; rfl) (by rw [HN2.out]; kernel_rfl) HN1.out ?_)
      generalize w6.setCells Y 0 N = w7 at *
      have i0_ : (0 : Int) ≤ (kk : Int) := by omega
      have il_ : (kk : Int) ≤ (l' : Int) := by omega
      have ic_ : (kk : Int) ≤ (c' : Int) := by omega
      have hc63 : c' ≤ 9223372036854775807 := by unfold maxLen at hcm; omega
      obtain ⟨xb, xo, hxx⟩ : ∃ b off, x' = some ⟨b, off, none⟩ := by
        rcases hkl.2.2.2 with _ | _
        all_goals
          cases hx' : x' with
          | none => exact absurd (HL0.out hx') (by omega)
          | some ad => exact ⟨ad.block, ad.off, by rw [HLs.out ad hx']⟩
      subst hxx
      by_cases hck : c' = kk
      · have HLe := Lib.hid (show leftAt (some ⟨xb, xo, none⟩) c' kk = some ⟨xb, xo, none⟩ by simp [leftAt, hck])
        have hlk : l' = kk := by omega
        have HLz := Lib.hid (show BytesIn w7 (some ⟨xb, xo, none⟩) 0 0 (zs'.drop kk) by
          have h := HL9.out
          rw [HLe.out, show l' - kk = 0 by omega, show c' - kk = 0 by omega] at h
          exact h)
        subst hck
        subst hlk
        go_wp2_with fail
        go_roundw
        case rel => first | exact ⟨_, 0, 0, _, yn, rfl, by omega, by omega, HLz.out, fun h => absurd h (by omega), HY9.out, Hyn.out, Hfn.out, Hg9.out⟩ | ((repeat apply Exists.intro); exact ⟨⟨_, 0, 0, _, yn, rfl, by omega, by omega, HLz.out, fun h => absurd h (by omega), HY9.out, Hyn.out, Hfn.out, Hg9.out⟩, rfl⟩)
        case measure => simp; omega
      · have HLe := Lib.hid (show leftAt (some ⟨xb, xo, none⟩) c' kk = some ⟨xb, xo + kk, none⟩ by simp [leftAt, hck, Go.WideShapes.add_plain])
        have HLz := Lib.hid (show BytesIn w7 (some ⟨xb, xo + kk, none⟩) (l' - kk) (c' - kk) (zs'.drop kk) by rw [← HLe.out]; exact HL9.out)
        have Hnz := Lib.hid (show 0 < l' - kk → ∀ ad, some (⟨xb, xo + kk, none⟩ : Addr) = some ad → ad.block ≠ Y by rw [← HLe.out]; exact Hne9.out)
        go_wp2_with fail
        go_roundw
        case rel => first | exact ⟨_, l' - kk, c' - kk, _, yn, rfl, by omega, by omega, HLz.out, Hnz.out, HY9.out, Hyn.out, Hfn.out, Hg9.out⟩ | ((repeat apply Exists.intro); exact ⟨⟨_, l' - kk, c' - kk, _, yn, rfl, by omega, by omega, HLz.out, Hnz.out, HY9.out, Hyn.out, Hfn.out, Hg9.out⟩, rfl⟩)
        case measure => simp; omega
end Go.Proofs.Ytpeibkdcglkimaa
