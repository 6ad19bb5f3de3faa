/-
  The walks of MacSame and MacTurned.
-/
import Derived.Test.YtlekepigndlbhaaDoorMacA
import Derived.Test.YtlekepigndlbhaaDoorLent
import Derived.Test.YtlekepigndlbhaaDoorPick
import Derived.Deep.DeepCutAuto
namespace Go.Proofs.YtlekepigndlbhaaDoor
open Go.ChangeShapes Go.WideShapes Go.ChangeAt Go.RowKit

set_option maxRecDepth 100000 in
set_option maxHeartbeats 2000000 in
theorem macSame_walk (a b : Option Addr) (la lb ca cb : Nat) (xs ys : List Nat) (w : World) (hx : BytesIn w a la ca xs) (hy : BytesIn w b lb cb ys) (hla : la ≤ 140737488355320) (hlb : lb ≤ 140737488355320) (hT : TabIn w) :
    Calls Tryd.prog 10 #[.slice a la ca, .slice b lb cb] w fun e w' => e = .returned (.bool true) ∧ Below w.heap.size w w' := by
  obtain ⟨v, hv⟩ : ∃ v, decide (xs = ys) = v := ⟨_, rfl⟩
  have HT := Lib.hid hT
  have Hv := Lib.hid hv
  have Hx := Lib.hid hx
  have Hy := Lib.hid hy
  have Hxx := Lib.hid (fun x h => wf_u8_lt (hx.1.2.1 x h))
  have Hyx := Lib.hid (fun x h => wf_u8_lt (hy.1.2.1 x h))
  clear hv hx hy hT
  go_enter Tryd.func10, Tryd.ntmps10
  go_wp2_with fail
  refine (lent_any a la ca xs w Hx.out hla).mono ?_
  rintro e w1 ⟨rfl, hL1, hb1⟩
  have HL1 := Lib.hid hL1
  have HY1 := Lib.hid (Hy.out.keep hb1)
  clear hL1
  go_wp2_with fail
  refine (lent_any b lb cb ys w1 HY1.out hlb).mono ?_
  rintro e w2 ⟨rfl, hL2, hb2⟩
  have hn2 := nu_trans hb1 hb2
  have HL2 := Lib.hid hL2
  have HL1b := Lib.hid (Blk.below HL1.out hb2 (Blk.lt HL1.out))
  have HI1 := Lib.hid (lent_bytes HL1b.out Hx.out.1.1 Hxx.out)
  have HI2 := Lib.hid (lent_bytes HL2.out Hy.out.1.1 Hyx.out)
  generalize w1.heap.size = g2 at *
  clear hL2 hb2 hb1
  go_wp2_with fail
  refine (macSame_is v Hv.out HI1.out.1 HI2.out.1 (by omega) (by omega)).mono ?_
  rintro e w3 ⟨rfl, n3, rfl⟩
  have HL1 := Lib.hid (HL1b.out.drewN n3)
  have HL2 := Lib.hid (HL2.out.drewN n3)
  have HI1 := Lib.hid (HI1.out.drewN n3)
  have hn3 := hn2.trans (below_drewN (Below.refl w.heap.size w2) n3)
  generalize w2.drewN n3 = w3 at *
  have HX3 := Lib.hid (Hx.out.keep hn3)
  have HY3 := Lib.hid (Hy.out.keep hn3)
  clear HL1b hn2
  go_wp2_with fail
  refine (same_is v Hv.out HX3.out.1 HY3.out.1 (by omega) (by omega)).mono ?_
  rintro e w4 ⟨rfl, n4, rfl⟩
  have HL1 := Lib.hid (HL1.out.drewN n4)
  have HL2 := Lib.hid (HL2.out.drewN n4)
  have HI1 := Lib.hid (HI1.out.drewN n4)
  have hn4 := hn3.trans (below_drewN (Below.refl w.heap.size w3) n4)
  generalize w3.drewN n4 = w4 at *
  clear HX3 HY3 hn3
  cases v
  all_goals
    go_wp2_with fail
    refine (macSame_is true (by simp) HI1.out.1 HI1.out.1 (by omega) (by omega)).mono ?_
    rintro e w5 ⟨rfl, n5, rfl⟩
    have HL1 := Lib.hid (HL1.out.drewN n5)
    have HL2 := Lib.hid (HL2.out.drewN n5)
    have hn5 := hn4.trans (below_drewN (Below.refl w.heap.size w4) n5)
    generalize w4.drewN n5 = w5 at *
    have HX5 := Lib.hid (Hx.out.keep hn5)
    have HY5 := Lib.hid (Hy.out.keep hn5)
    clear HI1 hn4
    go_wp2_with fail
    refine (kept_any _ a la ca xs w5 HL1.out HX5.out.1 hla).mono ?_
    rintro e w6 ⟨rfl, n6, rfl⟩
    have HL2 := Lib.hid (HL2.out.drewN n6)
    have hn6 := hn5.trans (below_drewN (Below.refl w.heap.size w5) n6)
    generalize w5.drewN n6 = w6 at *
    have HY6 := Lib.hid (Hy.out.keep hn6)
    clear HL1 hn5 HX5 HY5
    go_wp2_with fail
    refine (kept_any _ b lb cb ys w6 HL2.out HY6.out.1 hlb).mono ?_
    rintro e w7 ⟨rfl, n7, rfl⟩
    have hn7 := hn6.trans (below_drewN (Below.refl w.heap.size w6) n7)
    generalize w6.drewN n7 = w7 at *
    have hT7 := Lib.hid (HT.out.below hn7 HT.out.size)
    clear HL2 hn6 HY6
    go_wp2_with fail
    refine (macAwake_any hT7.out).mono ?_
    rintro e w8 ⟨rfl, hb8⟩
    have hn8 := nu_trans hn7 hb8
    go_wp2_with fail
    go_ret
    exact ⟨rfl, hn8⟩

/-- Bytes of which one bit is turned. -/
def turnBit (xs : List Nat) (i p : Nat) : List Nat := xs.set i (xs.getD i 0 ^^^ p)
theorem turnBit_ne (xs : List Nat) (i p : Nat) (hi : i < xs.length) (hp : p ≠ 0) : xs ≠ turnBit xs i p := by
  intro h
  have h1 : xs[i]? = (turnBit xs i p)[i]? := congrArg (·[i]?) h
  unfold turnBit at h1
  rw [List.getElem?_set_self hi, List.getD_eq_getElem?_getD, List.getElem?_eq_getElem hi] at h1
  simp only [Option.getD_some, Option.some.injEq] at h1
  have h2 : xs[i] ^^^ xs[i] = xs[i] ^^^ (xs[i] ^^^ p) := congrArg (xs[i] ^^^ ·) h1
  rw [← Nat.xor_assoc, Nat.xor_self, Nat.zero_xor] at h2
  exact hp h2.symm
theorem pow8_lt (r : Nat) (hr : r < 8) : 2 ^ r < 256 ∧ 2 ^ r ≠ 0 := by
  rcases (show r = 0 ∨ r = 1 ∨ r = 2 ∨ r = 3 ∨ r = 4 ∨ r = 5 ∨ r = 6 ∨ r = 7 by omega) with rfl | rfl | rfl | rfl | rfl | rfl | rfl | rfl <;> decide

set_option maxRecDepth 100000 in
set_option maxHeartbeats 2000000 in
theorem macTurned_walk (a : Option Addr) (len cap : Nat) (xs : List Nat) (bit : Int) (w : World) (hx : BytesIn w a len cap xs) (hlc : len ≤ cap) (hlen : len ≤ 140737488355320) (hb1 : -9223372036854775808 ≤ bit) (hb2 : bit ≤ 9223372036854775807) (hT : TabIn w) :
    Calls Tryd.prog 11 #[.slice a len cap, .int .i64 bit] w fun e w' => e = .returned (.bool true) ∧ Below w.heap.size w w' := by
  by_cases h0 : len = 0
  · subst h0
    have Hx := Lib.hid hx
    have HT := Lib.hid hT
    have hal := nu_alloc (nu_refl w) (.cells #[.int .u8 0] 5)
    have Hal := Lib.hid hal
    have Hx1 := Lib.hid (hx.keep hal)
    have hxs : xs = [] := List.eq_nil_of_length_eq_zero hx.1.1
    have Hxs := Lib.hid (show decide (xs = [0]) = false by rw [hxs]; rfl)
    have HB := Lib.hid (bytes_made w [0] (by decide) #[.int .u8 0] rfl)
    clear hx hT hal hxs
    go_enter Tryd.func11, Tryd.ntmps11
    go_wp2_with fail
    refine (macSame_is (lb := 1) false Hxs.out Hx1.out.1 HB.out.1 (by omega) (by omega)).mono ?_
    rintro e w1 ⟨rfl, n, rfl⟩
    have hn1 := nu_drewN Hal.out n
    generalize (w.alloc (.cells #[.int .u8 0] 5)).drewN n = w1 at *
    have hT1 := Lib.hid (HT.out.below hn1 HT.out.size)
    go_wp2_with fail
    refine (macAwake_any hT1.out).mono ?_
    rintro e w2 ⟨rfl, hb⟩
    have hn2 := nu_trans hn1 hb
    go_wp2_with fail
    go_ret
    exact ⟨rfl, hn2⟩
  · have t0 : ((len : Int) == 0) = false := by rw [beq_eq_false_iff_ne]; omega
    have HT := Lib.hid hT
    by_cases hg : 1048576 < len
    · have hi : (1048576 : Int) < (len : Int) := by omega
      clear hx hT
      go_enter Tryd.func11, Tryd.ntmps11
      go_wp2_with fail
      refine (macAwake_any HT.out).mono ?_
      rintro e w2 ⟨rfl, hb⟩
      go_wp2_with fail
      go_ret
      exact ⟨rfl, hb⟩
    · have hi : ¬ (1048576 : Int) < (len : Int) := by omega
      have Hx := Lib.hid hx
      have Hl := Lib.hid hx.1.1
      have Hxx := Lib.hid (fun x h => wf_u8_lt (hx.1.2.1 x h))
      obtain ⟨k, hk⟩ : ∃ k : Nat, (k : Int) = bit % (8 * (len : Int)) := ⟨(bit % (8 * (len : Int))).toNat, Int.toNat_of_nonneg (Int.emod_nonneg _ (by omega))⟩
      have hkl : k < 8 * len := by have := Int.emod_lt_of_pos bit (show (0 : Int) < 8 * (len : Int) by omega); omega
      have Hk := Lib.hid hk
      have hcopy := Lib.hid (copy_any a len cap xs w hx hlen)
      clear hx hT hk
      go_enter Tryd.func11, Tryd.ntmps11
      go_wp2_with fail
      refine hcopy.out.mono ?_
      rintro e w1 ⟨v, rfl, hO, hn1⟩
      obtain ⟨B, pc, cur, rfl, hBw, hB, hlp, hpm, hcs, htk⟩ := hO.form (by rw [Hl.out]; omega)
      rw [Hl.out] at hlp htk
      rw [Hl.out]
      have HB := Lib.hid hB
      have Htk := Lib.hid htk
      have HBw := Lib.hid hBw
      have HBne := Lib.hid (show ∀ ad, a = some ad → ad.block ≠ B from fun ad had e => by
        have h1 := bytes_block Hx.out (by omega) ad had
        omega)
      clear hO hB hcs htk hcopy
      go_wp2_with fail
      refine (pick_any bit (8 * (len : Int)) k w1 Hk.out (by omega) (by omega) hb1 hb2).mono ?_
      rintro e w' ⟨rfl, rfl⟩
      obtain ⟨i, r, hi8, hr8, hkq⟩ : ∃ i r, i < len ∧ r < 8 ∧ k = 8 * i + r := ⟨k / 8, k % 8, by omega, by omega, by omega⟩
      have ei : (k : Int) / 8 = (i : Int) := by omega
      have er : (k : Int) % 8 = (r : Int) := by omega
      obtain ⟨y, hy⟩ : ∃ y, xs[i]? = some y := ⟨_, List.getElem?_eq_getElem (by rw [Hl.out]; exact hi8)⟩
      have c0 : w1.cell? ⟨B, i, none⟩ = some (.int .u8 (y : Int)) := HB.out.at i _ (own_cell Htk.out hy)
      have f0 := HB.out.free i
      have hil : (i : Int) < (len : Int) := by omega
      clear hi8 hkl hkq
      have hy8 := Hxx.out y (List.mem_of_getElem? hy)
      obtain ⟨q, hq⟩ : ∃ q, q = 2 ^ r := ⟨_, rfl⟩
      obtain ⟨hq1, hq2⟩ := pow8_lt r hr8
      rw [← hq] at hq1 hq2
      have ep : (2 : Int) ^ r % 256 = (q : Int) := by
        have h1 : ((2 ^ r : Nat) : Int) = (2 : Int) ^ r := by simp
        rw [← h1, ← hq]
        omega
      have ex := u8_xor_nat y q hy8 hq1
      have hgd : xs.getD i 0 = y := by rw [List.getD_eq_getElem?_getD, hy]; rfl
      obtain ⟨ys, hys⟩ : ∃ ys, turnBit xs i q = ys := ⟨_, rfl⟩
      have hys2 : xs.set i (y ^^^ q) = ys := by rw [← hys, turnBit, hgd]
      have Hne := Lib.hid (show xs ≠ ys by rw [← hys]; exact turnBit_ne xs i q (List.getElem?_eq_some_iff.1 hy).1 hq2)
      have hz8 : y ^^^ q < 256 := Nat.xor_lt_two_pow (n := 8) hy8 hq1
      generalize y ^^^ q = z at *
      have HYl := Lib.hid (show ys.length = len by rw [← hys2, List.length_set, Hl.out])
      have HYx := Lib.hid (show ∀ x ∈ ys, x < 256 from fun x hx => by
        rw [← hys2] at hx
        rcases List.mem_or_eq_of_mem_set hx with h | h
        · exact Hxx.out x h
        · rw [h]; exact hz8)
      have HB2 := Lib.hid (HB.out.put i (vb z))
      have HY := Lib.hid (show BytesIn (w1.setCell ⟨B, i, none⟩ (vb z)) (some ⟨B, 0, none⟩) len pc ys from
        ⟨⟨HYl.out, fun x h => wf_u8_of (HYx.out x h), fun _ => ⟨B, 0, rfl, Blk.lt HB2.out, fun j n hn => by
          rw [Nat.zero_add]
          refine HB2.out.at j _ ?_
          rw [Array.getElem?_setIfInBounds]
          rw [← hys2, List.getElem?_set] at hn
          by_cases hij : i = j
          · subst hij
            have hcur := own_cell Htk.out hy
            rw [if_pos rfl, if_pos (List.getElem?_eq_some_iff.1 hy).1] at hn
            injection hn with hn
            subst hn
            rw [if_pos rfl, if_pos (by have := (Array.getElem?_eq_some_iff.1 hcur).1; exact this)]
            rfl
          · rw [if_neg hij] at hn
            rw [if_neg hij]
            exact own_cell Htk.out hn⟩⟩, fun e => by cases e⟩)
      have hn2 := nu_set hn1 (p := ⟨B, i, none⟩) HBw.out (vb z)
      simp only [vb] at HY hn2
      clear hq hq1 hq2 hr8 hy8 hgd hys hys2 hz8 HB2 hn1 hy
      go_upto_region 8 with fail
      generalize w1.setCell ⟨B, i, none⟩ (.int .u8 (z : Int)) = w2 at *
      have HX2 := Lib.hid (Hx.out.keep hn2)
      clear c0 f0 ei er hil ep ex HB Htk
      go_wp2_with fail
      refine (macSame_is false (decide_eq_false Hne.out) HX2.out.1 HY.out.1 (by omega) (by omega)).mono ?_
      rintro e w3 ⟨rfl, n3, rfl⟩
      have HX3 := Lib.hid (HX2.out.drewN n3)
      have HY3 := Lib.hid (HY.out.drewN n3)
      have hn3 := nu_drewN hn2 n3
      generalize w2.drewN n3 = w3 at *
      clear HX2 HY hn2
      go_wp2_with fail
      refine (macSame_is false (decide_eq_false (Ne.symm Hne.out)) HY3.out.1 HX3.out.1 (by omega) (by omega)).mono ?_
      rintro e w4 ⟨rfl, n4, rfl⟩
      have HX4 := Lib.hid (HX3.out.drewN n4)
      have hn4 := nu_drewN hn3 n4
      generalize w3.drewN n4 = w4 at *
      clear HX3 HY3 hn3
      have HX5 := Lib.hid (HX4.out.first (n := len - 1) (by omega))
      have Hne2 := Lib.hid (show decide (xs = xs.take (len - 1)) = false from decide_eq_false (fun e => by have h := congrArg List.length e; rw [List.length_take, Hl.out] at h; omega))
      obtain ⟨m, hm⟩ : ∃ m, m = len - 1 := ⟨_, rfl⟩
      rw [← hm] at HX5 Hne2
      have em : (len : Int) - 1 = (m : Int) := by omega
      have hm0 : (0 : Int) ≤ (m : Int) := by omega
      have hm1 : (m : Int) ≤ (cap : Int) := by omega
      have hmb : m ≤ 9223372036854775807 := by omega
      clear hm
      go_wp2_with fail
      refine (macSame_is false Hne2.out HX4.out.1 HX5.out.1 (by omega) hmb).mono ?_
      rintro e w5 ⟨rfl, n5, rfl⟩
      have hn5 := nu_drewN hn4 n5
      generalize w4.drewN n5 = w5 at *
      have hT5 := Lib.hid (HT.out.below hn5 HT.out.size)
      go_wp2_with fail
      refine (macAwake_any hT5.out).mono ?_
      rintro e w6 ⟨rfl, hb6⟩
      have hn6 := nu_trans hn5 hb6
      go_wp2_with fail
      go_ret
      exact ⟨rfl, hn6⟩
end Go.Proofs.YtlekepigndlbhaaDoor
