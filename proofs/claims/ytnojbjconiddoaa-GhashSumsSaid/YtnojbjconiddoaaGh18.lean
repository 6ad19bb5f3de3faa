/-
  The walk of GhashApart.
-/
import Derived.Test.YtnojbjconiddoaaGh17
import Derived.Test.YtnojbjconiddoaaPick
import Derived.Test.YtnojbjconiddoaaLent
import Derived.Deep.DeepCutAuto
namespace Go.Proofs.Ytnojbjconiddoaa
open Go.ChangeShapes Go.WideShapes Go.ChangeAt Go.RowKit

theorem exec_eqlv_16 {o : Oper} {a : Act} {w : World} (xs ys : List Nat) (v : Bool) (hv : decide (xs = ys) = v) (h1 : xs.length = 16) (h2 : ys.length = 16) (x y : Operand) (ho : o.op = .binOp .eql 22 x y 22) (hx : a.eval x = .agg (xs.map vb).toArray) (hy : a.eval y = .agg (ys.map vb).toArray) :
    (execOp a.eval o).run Try.prog w = .ok (.value (.bool v)) w := by
  rw [← hv]
  exact exec_eql_16 xs ys h1 h2 x y ho hx hy

set_option maxRecDepth 100000 in
set_option maxHeartbeats 2000000 in
theorem ghashApart_walk (ks : List Nat) (hkl : ks.length = 16) (hkx : ∀ x ∈ ks, x < 256) (a : Option Addr) (len cap : Nat) (xs : List Nat) (at' : Int) (q : Nat) (hq : q < 256) (w : World) (hx : BytesIn w a len cap xs) (hlc : len ≤ cap) (hcap : cap ≤ 140737488355320) (hb1 : -9223372036854775808 ≤ at') (hb2 : at' ≤ 9223372036854775807) :
    Calls Try.prog 7 #[.agg (ks.map vb).toArray, .slice a len cap, .int .i64 at', .int .u8 (q : Int)] w fun e w' => e = .returned (.bool true) ∧ Below w.heap.size w w' := by
  have Hal := Lib.hid (nu_alloc (nu_refl w) (.cells (ks.map vb).toArray 22))
  have HK1 := Lib.hid (Blk.made w 22 (ks.map vb).toArray)
  by_cases h0 : len = 0 ∨ 2000 < len
  · have hg : (((len : Int) == 0) || decide ((2000 : Int) < (len : Int))) = true := by simp; omega
    have Hg := Lib.hid h0
    clear hx
    go_enter Try.func7, Try.ntmps7
    rcases Hg.out with h1 | h1
    · subst h1
      go_wp2_with fail
      refine (awake7 _).mono ?_
      rintro e w2 ⟨rfl, hb⟩
      have hn2 := nu_trans Hal.out hb
      go_wp2_with fail
      go_ret
      exact ⟨rfl, hn2⟩
    · have t0 : ((len : Int) == 0) = false := by rw [beq_eq_false_iff_ne]; omega
      have hi : (2000 : Int) < (len : Int) := by omega
      go_wp2_with fail
      refine (awake7 _).mono ?_
      rintro e w2 ⟨rfl, hb⟩
      have hn2 := nu_trans Hal.out hb
      go_wp2_with fail
      go_ret
      exact ⟨rfl, hn2⟩
  · have t0 : ((len : Int) == 0) = false := by rw [beq_eq_false_iff_ne]; omega
    have hi : ¬ (2000 : Int) < (len : Int) := by omega
    have Hl := Lib.hid hx.1.1
    have Hxx := Lib.hid (fun x h => wf_u8_lt (hx.1.2.1 x h))
    obtain ⟨i, hk⟩ : ∃ i : Nat, (i : Int) = at' % (len : Int) := ⟨(at' % (len : Int)).toNat, Int.toNat_of_nonneg (Int.emod_nonneg _ (by omega))⟩
    have hi8 : i < len := by have := Int.emod_lt_of_pos at' (show (0 : Int) < (len : Int) by omega); omega
    have Hk := Lib.hid hk
    have HX1 := Lib.hid (hx.keep Hal.out)
    have Hsz := Lib.hid (show (Try.prog.info? 22).map (·.size) = some (ks.map vb).toArray.size by rw [List.size_toArray, List.length_map, hkl]; kernel_rfl)
    have HN := Lib.hid (gh_new ks hkl hkx)
    have Hkl := Lib.hid hkl
    have Hkx := Lib.hid hkx
    have Hhh := Lib.hid (polB_lt ks)
    have hwk : w.heap.size < w.heap.size + 1 := by omega
    clear hx hk hkl hkx
    go_enter Try.func7, Try.ntmps7
    go_upto_region 3 with fail
    generalize w.alloc (.cells (ks.map vb).toArray 22) = w1 at *
    obtain ⟨B0, hB0⟩ : ∃ B0, B0 = w.heap.size := ⟨_, rfl⟩
    rw [← hB0] at HK1
    rw [← hB0]
    clear hB0
    have HNw := Lib.hid (HN.out w1)
    go_wp2_with (refine wpList_load_blk rfl 22 (.tmp 4) rfl B0 rfl 22 (ks.map vb).toArray HK1.out Try.underlying22 Hsz.out ?_)
    refine HNw.out.mono ?_
    rintro e w2 ⟨g, rfl, hg0, hKA, hb2⟩
    have HKA := Lib.hid hKA
    have HK2 := Lib.hid (Blk.below HK1.out hb2 (Blk.lt HK1.out))
    have HX2 := Lib.hid (HX1.out.keep hb2)
    have Hn2 := Lib.hid (nu_trans Hal.out hb2)
    have hcopy := Lib.hid (copy_any a len cap xs w2 HX2.out (by omega))
    have Hbl := Lib.hid (show ∀ ad, a = some ad → ad.block < w2.heap.size from fun ad had => bytes_blk_lt HX2.out (by omega) ad had)
    clear hKA hb2 HX1 HK1 HNw hg0
    go_wp2_with fail
    refine hcopy.out.mono ?_
    rintro e w3 ⟨v, rfl, hO, hn1⟩
    obtain ⟨B, pc, cur, rfl, hBw, hB, hlp, hpm, hcs, htk⟩ := hO.form (by rw [Hl.out]; omega)
    rw [Hl.out] at hlp htk
    rw [Hl.out]
    have HB := Lib.hid hB
    have Htk := Lib.hid htk
    have HBw := Lib.hid hBw
    have Hpm := Lib.hid hpm
    have Hlp := Lib.hid hlp
    have Hn3 := Lib.hid (nu_trans Hn2.out hn1)
    have HKA3 := Lib.hid (show KeyAt w3 g (polB ks) from Blk.below HKA.out hn1 (Blk.lt HKA.out))
    have HK3 := Lib.hid (Blk.below HK2.out hn1 (Blk.lt HK2.out))
    have HX3 := Lib.hid (HX2.out.keep hn1)
    have Hgl := Lib.hid (show g ≠ B from by have := Blk.lt HKA.out; omega)
    have Hb0 := Lib.hid (show B0 ≠ B from by have := Blk.lt HK2.out; omega)
    have Hnm := Lib.hid hn1
    have HwB := Lib.hid (show w.heap.size ≤ B from by have := Hn2.out.size; omega)
    have HBne := Lib.hid (show ∀ ad, a = some ad → ad.block ≠ B from fun ad had e => by
      have h1 := Hbl.out ad had
      omega)
    clear hO hB hcs htk hcopy hn1 hlp hpm hBw HKA HK2 Hn2 Hbl
    go_wp2_with fail
    refine (pick_any at' (len : Int) i w3 Hk.out (by omega) (by omega) hb1 hb2).mono ?_
    rintro e w' ⟨rfl, rfl⟩
    obtain ⟨y, hy⟩ : ∃ y, xs[i]? = some y := ⟨_, List.getElem?_eq_getElem (by rw [Hl.out]; exact hi8)⟩
    have c0 : w3.cell? ⟨B, i, none⟩ = some (.int .u8 (y : Int)) := HB.out.at i _ (own_cell Htk.out hy)
    have f0 := HB.out.free i
    have hil : (i : Int) < (len : Int) := by omega
    have hy8 := Hxx.out y (List.mem_of_getElem? hy)
    have ex := u8_xor_nat y q hy8 hq
    obtain ⟨ys, hys⟩ : ∃ ys, xs.set i (y ^^^ q) = ys := ⟨_, rfl⟩
    have hz8 : y ^^^ q < 256 := Nat.xor_lt_two_pow (n := 8) hy8 hq
    have hap := gapart ks xs ys i y q Hkl.out Hkx.out hy hq Hxx.out hys
    obtain ⟨v, hv⟩ : ∃ v, v = decide (q = 0 ∨ ks = List.replicate 16 0) := ⟨_, rfl⟩
    rw [← hv] at hap
    obtain ⟨D1, hD1⟩ : ∃ D, gsumB (polB ks) [] xs = D := ⟨_, rfl⟩
    obtain ⟨D2, hD2⟩ : ∃ D, gsumB (polB ks) [] ys = D := ⟨_, rfl⟩
    obtain ⟨D3, hD3⟩ : ∃ D, gsumB (polB ks) xs [] = D := ⟨_, rfl⟩
    obtain ⟨D4, hD4⟩ : ∃ D, gsumB (polB ks) ys [] = D := ⟨_, rfl⟩
    rw [hD1, hD2, hD3, hD4] at hap
    have Hap := Lib.hid hap
    have Hv := Lib.hid hv
    have HD1 := Lib.hid hD1
    have HD2 := Lib.hid hD2
    have HD3 := Lib.hid hD3
    have HD4 := Lib.hid hD4
    have HL1 := Lib.hid (show D1.length = 16 by rw [← hD1]; exact bytB_len _)
    have HL2 := Lib.hid (show D2.length = 16 by rw [← hD2]; exact bytB_len _)
    have HL3 := Lib.hid (show D3.length = 16 by rw [← hD3]; exact bytB_len _)
    have HL4 := Lib.hid (show D4.length = 16 by rw [← hD4]; exact bytB_len _)
    have Hyi := Lib.hid hy
    clear hap hv hD1 hD2 hD3 hD4 hi8
    generalize y ^^^ q = z at *
    have HYl := Lib.hid (show ys.length = len by rw [← hys, List.length_set, Hl.out])
    have HYx := Lib.hid (show ∀ x ∈ ys, x < 256 from fun x hx => by
      rw [← hys] at hx
      rcases List.mem_or_eq_of_mem_set hx with h | h
      · exact Hxx.out x h
      · rw [h]; exact hz8)
    have HB2 := Lib.hid (HB.out.put i (vb z))
    have HY := Lib.hid (show BytesIn (w3.setCell ⟨B, i, none⟩ (vb z)) (some ⟨B, 0, none⟩) len pc ys from
      ⟨⟨HYl.out, fun x h => wf_u8_of (HYx.out x h), fun _ => ⟨B, 0, rfl, Blk.lt HB2.out, fun j n hn => by
        rw [Nat.zero_add]
        refine HB2.out.at j _ ?_
        rw [Array.getElem?_setIfInBounds]
        rw [← hys, List.getElem?_set] at hn
        by_cases hij : i = j
        · subst hij
          have hcur := own_cell Htk.out hy
          rw [if_pos rfl, if_pos (List.getElem?_eq_some_iff.1 hy).1] at hn
          injection hn with hn
          subst hn
          rw [if_pos rfl, if_pos (by have := (Array.getElem?_eq_some_iff.1 hcur).1; exact this)]
          rfl
        · rw [if_neg hij] at hn
          rw [if_neg hij]
          exact own_cell Htk.out hn⟩⟩, fun e => by cases e⟩)
    have HKA4 := Lib.hid (HKA3.out.far (p := ⟨B, i, none⟩) Hgl.out (vb z))
    have HK4 := Lib.hid (HK3.out.far (p := ⟨B, i, none⟩) Hb0.out (vb z))
    have HX4 := Lib.hid (HX2.out.keep (nu_set Hnm.out (p := ⟨B, i, none⟩) HBw.out (vb z)))
    have Hn4 := Lib.hid (nu_set Hn3.out (p := ⟨B, i, none⟩) HwB.out (vb z))
    simp only [vb] at HY HKA4 HK4 HX4 Hn4
    clear hy hys hy8 hz8 HB2 HKA3 HK3 HX3 Hn3
    go_upto_region 7 with fail
    have HS1 := Lib.hid (gh_sum_is HD1.out HKA4.out Hhh.out (BytesIn.nil_ _) HX4.out ⟨Nat.le_refl _, by decide⟩ ⟨hlc, hcap⟩)
    generalize w3.setCell ⟨B, i, none⟩ (.int .u8 (z : Int)) = w4 at *
    clear c0 f0 hil ex HB Htk HX2 Hnm
    go_wp2_with fail
    refine HS1.out.mono ?_
    rintro e w5 ⟨rfl, hb⟩
    have HKA5 := Lib.hid (show KeyAt w5 g (polB ks) from Blk.below HKA4.out hb (Blk.lt HKA4.out))
    have HK5 := Lib.hid (Blk.below HK4.out hb (Blk.lt HK4.out))
    have HX5 := Lib.hid (HX4.out.keep hb)
    have HY5 := Lib.hid (HY.out.keep hb)
    have Hn5 := Lib.hid (nu_trans Hn4.out hb)
    have HS2 := Lib.hid (gh_sum_isg HD2.out HKA5.out Hhh.out (BytesIn.nil_ _) HY5.out (by decide) (by omega) ⟨Nat.le_refl _, by decide⟩ ⟨Hlp.out, Hpm.out⟩)
    clear hb HKA4 HK4 HX4 HY Hn4 HS1
    go_wp2_with fail
    refine HS2.out.mono ?_
    rintro e w6 ⟨rfl, hb⟩
    have HKA6 := Lib.hid (show KeyAt w6 g (polB ks) from Blk.below HKA5.out hb (Blk.lt HKA5.out))
    have HK6 := Lib.hid (Blk.below HK5.out hb (Blk.lt HK5.out))
    have HX6 := Lib.hid (HX5.out.keep hb)
    have HY6 := Lib.hid (HY5.out.keep hb)
    have Hn6 := Lib.hid (nu_trans Hn5.out hb)
    have HS3 := Lib.hid (gh_sum_is HD3.out HKA6.out Hhh.out HX6.out (BytesIn.nil_ _) ⟨hlc, hcap⟩ ⟨Nat.le_refl _, by decide⟩)
    clear hb HKA5 HK5 HX5 HY5 Hn5 HS2
    go_wp2_with (refine wpList_run _ rfl (exec_eqlv_16 D1 D2 v Hap.out.1 HL1.out HL2.out (.tmp 43) (.tmp 46) rfl rfl rfl) ?_)
    refine HS3.out.mono ?_
    rintro e w7 ⟨rfl, hb⟩
    have HKA7 := Lib.hid (show KeyAt w7 g (polB ks) from Blk.below HKA6.out hb (Blk.lt HKA6.out))
    have HK7 := Lib.hid (Blk.below HK6.out hb (Blk.lt HK6.out))
    have HY7 := Lib.hid (HY6.out.keep hb)
    have Hn7 := Lib.hid (nu_trans Hn6.out hb)
    have HS4 := Lib.hid (gh_sum_isg HD4.out HKA7.out Hhh.out HY7.out (BytesIn.nil_ _) (by omega) (by decide) ⟨Hlp.out, Hpm.out⟩ ⟨Nat.le_refl _, by decide⟩)
    clear hb HKA6 HK6 HX6 HY6 Hn6 HS3
    go_wp2_with fail
    refine HS4.out.mono ?_
    rintro e w8 ⟨rfl, hb⟩
    have HK8 := Lib.hid (Blk.below HK7.out hb (Blk.lt HK7.out))
    have Hn8 := Lib.hid (nu_trans Hn7.out hb)
    clear hb HKA7 HK7 HY7 Hn7 HS4
    go_upto_region 9 with (refine wpList_run _ rfl (exec_eqlv_16 D3 D4 v Hap.out.2 HL3.out HL4.out (.tmp 50) (.tmp 53) rfl rfl rfl) ?_)
    have HA := Lib.hid (awake7 w8)
    by_cases hq0 : q = 0
    · obtain rfl : v = true := by rw [Hv.out, hq0]; simp
      subst hq0
      go_wp2_with fail
      refine HA.out.mono ?_
      rintro e w9 ⟨rfl, hb⟩
      have Hn9 := Lib.hid (nu_trans Hn8.out hb)
      go_wp2_with fail
      go_ret
      exact ⟨rfl, Hn9.out⟩
    · have tq : ((q : Int) == 0) = false := by rw [beq_eq_false_iff_ne]; omega
      have He := Lib.hid (show decide (ks = List.replicate 16 0) = v by rw [Hv.out, decide_eq_decide]; exact ⟨Or.inr, fun h => h.resolve_left hq0⟩)
      clear hq0
      cases v
      all_goals
        go_wp2_with (first | (refine wpList_run _ rfl (exec_load_mid (P := Try.prog) (w := w8) 22 (.tmp 4) B0 0 (ks.map vb) (.array 16 5) rfl rfl (range_mid HK8.out (l := []) (r := []) (by simp) rfl) (by kernel_rfl) rfl (by rw [List.length_map, Hkl.out]; kernel_rfl)) ?_) | (refine wpList_run _ rfl (exec_eqlv_16 ks (List.replicate 16 0) _ He.out Hkl.out rfl (.tmp 58) (.tmp 59) rfl rfl rfl) ?_))
        refine HA.out.mono ?_
        rintro e w9 ⟨rfl, hb⟩
        have Hn9 := Lib.hid (nu_trans Hn8.out hb)
        go_wp2_with fail
        go_ret
        exact ⟨rfl, Hn9.out⟩
end Go.Proofs.Ytnojbjconiddoaa
