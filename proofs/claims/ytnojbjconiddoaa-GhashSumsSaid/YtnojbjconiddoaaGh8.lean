/-
  The walk of ghash's times.
-/
import Derived.Test.YtnojbjconiddoaaGh7
import Derived.Test.YtnojbjconiddoaaBits
namespace Go.Proofs.Ytnojbjconiddoaa
open Go.ChangeShapes Go.WideShapes Go.ChangeAt Go.RowKit

theorem halfL_at (p : Nat) (a b : Int) (h : halfL p = [.int .u64 a, .int .u64 b]) : a = (Gh.hi p : Int) ∧ b = (Gh.lo p : Int) := by
  unfold halfL at h
  injection h with h1 h2
  injection h2 with h2 _
  injection h1 with _ h1
  injection h2 with _ h2
  exact ⟨h1.symm, h2.symm⟩

/-- One bit, as the program reads it off a number. -/
theorem bit_read (x m : Nat) (hx : x < 18446744073709551616) (v : Nat) (hv : x / 2 ^ m % 2 = v) : bits .and .u64 ((x : Int) / 2 ^ m) 1 = (v : Int) := by
  have e : (x : Int) / 2 ^ m = ((x / 2 ^ m : Nat) : Int) := by simp
  have hl : x / 2 ^ m < 18446744073709551616 := Nat.lt_of_le_of_lt (Nat.div_le_self _ _) hx
  have h := u64_and_nat (x / 2 ^ m) 1 hl (by omega)
  rw [Nat.and_one_is_mod, hv] at h
  rw [e]
  exact h
theorem mask0 (x y : Nat) (hx : x < 18446744073709551616) (hy : y < 18446744073709551616) : bits .xor .u64 (x : Int) (bits .and .u64 (y : Int) 0) = (x : Int) := by
  have h1 := u64_and_nat y 0 hy (by omega)
  have h2 := u64_xor_nat x 0 hx (by omega)
  rw [Nat.and_zero] at h1
  rw [Nat.xor_zero] at h2
  rw [show bits .and .u64 (y : Int) 0 = 0 from h1]
  exact h2
theorem mask1 (x y : Nat) (hx : x < 18446744073709551616) (hy : y < 18446744073709551616) : bits .xor .u64 (x : Int) (bits .and .u64 (y : Int) (IntKind.u64.wrap (-1))) = ((x ^^^ y : Nat) : Int) := by
  have h1 := u64_and_nat y 18446744073709551615 hy (by omega)
  rw [show (18446744073709551615 : Nat) = 2 ^ 64 - 1 by decide, Nat.and_two_pow_sub_one_eq_mod, Nat.mod_eq_of_lt (by omega)] at h1
  rw [show IntKind.u64.wrap (-1) = ((2 ^ 64 - 1 : Nat) : Int) by rw [IntKind.wrap_u64]; decide, h1]
  exact u64_xor_nat x y hx hy
set_option maxRecDepth 100000 in
set_option maxHeartbeats 2000000 in
theorem gh_times (g p q : Nat) (hp : p < 2 ^ 128) (w : World) (hk : KeyAt w g p) :
    Calls Try.prog 34 #[.pointer (some ⟨g, 0, none⟩), .agg (halfL q).toArray] w fun e w' => e = .returned (.agg (halfL (Gh.mul p q)).toArray) ∧ Below w.heap.size w w' := by
  obtain ⟨a, ha⟩ : ∃ a : Int, a = (Gh.hi q : Int) := ⟨_, rfl⟩
  obtain ⟨b, hb⟩ : ∃ b : Int, b = (Gh.lo q : Int) := ⟨_, rfl⟩
  have e0 : halfL q = [.int .u64 a, .int .u64 b] := by unfold halfL; rw [ha, hb]
  rw [e0]
  have Hab := Lib.hid (And.intro ha hb)
  have Hg := Lib.hid (Blk.lt hk)
  have hal := nu_alloc (nu_alloc (nu_alloc (nu_refl w) (.cells #[.int .u64 a, .int .u64 b] 58)) (.cells #[.int .u64 0, .int .u64 0] 58)) (.cells #[.int .u64 0, .int .u64 0] 58)
  have HX := Lib.hid (((Blk.made w 58 #[.int .u64 a, .int .u64 b]).alloc (.cells #[.int .u64 0, .int .u64 0] 58)).alloc (.cells #[.int .u64 0, .int .u64 0] 58))
  have HR := Lib.hid ((Blk.made1 w (.cells #[.int .u64 a, .int .u64 b] 58) 58 #[.int .u64 0, .int .u64 0]).alloc (.cells #[.int .u64 0, .int .u64 0] 58))
  have HO := Lib.hid (Blk.made2 w (.cells #[.int .u64 a, .int .u64 b] 58) (.cells #[.int .u64 0, .int .u64 0] 58) 58 #[.int .u64 0, .int .u64 0])
  have HK := Lib.hid (Blk.below hk hal (Blk.lt hk))
  clear ha hb e0 hk
  go_enter Try.func34, Try.ntmps34
  go_upto_region 2 with fail
  generalize ((w.alloc (.cells #[.int .u64 a, .int .u64 b] 58)).alloc (.cells #[.int .u64 0, .int .u64 0] 58)).alloc (.cells #[.int .u64 0, .int .u64 0] 58) = w1 at *
  obtain ⟨L, hL⟩ : ∃ L, L = keyL p := ⟨_, rfl⟩
  have HK1 : Hid (Blk w1 g 65 L.toArray) := by rw [hL]; exact HK.out
  have HLl := Lib.hid (show L.length = 256 by rw [hL, keyL_len])
  have HLd := Lib.hid (fun (o : Oper) (a : Act) (x : Operand) (ho : o.op = .load 63 x) (hx : a.eval x = .pointer (some ⟨g, 0, none⟩)) =>
    exec_load_mid (P := Try.prog) (o := o) (a := a) (w := w1) 63 x g 0 L (.array 128 58) ho hx (range_mid HK1.out (l := []) (r := []) (by simp) rfl) (by kernel_rfl) rfl (by rw [HLl.out]; kernel_rfl))
  have HIx := Lib.hid (fun (o : Oper) (a : Act) (w : World) (i : Nat) (hi : i < 128) (x y : Operand) (ho : o.op = .index 63 x y) (hx : a.eval x = .agg L.toArray) (hy : a.eval y = .int .i64 (i : Int)) =>
    exec_index_key (o := o) (a := a) (w := w) p i hi x y ho (by rw [hx, hL]) hy)
  clear hL HK HLl
  obtain ⟨O, hO⟩ : ∃ O, O = w.heap.size + 1 + 1 := ⟨_, rfl⟩
  rw [← hO] at HO
  obtain ⟨R, hR⟩ : ∃ R, R = w.heap.size + 1 := ⟨_, rfl⟩
  rw [← hR] at HR
  rw [← hO, ← hR]
  have Hap := Lib.hid (show w.heap.size ≠ O ∧ R ≠ O ∧ w.heap.size ≤ O ∧ w.heap.size ≤ R from ⟨by omega, by omega, by omega, by omega⟩)
  clear hO hR
  go_upto_region 3 with (refine wpList_run _ rfl (HLd.out _ _ (.tmp 11) rfl rfl) ?_)
  go_wp2_with fail
  go_loopw [13] (fun i wr => ∃ k : Nat, k ≤ 128 ∧ i = .int .i64 k ∧ Blk wr O 58 (halfL (Gal.mul Gh.T k p q)).toArray ∧ Blk wr w.heap.size 58 #[.int .u64 a, .int .u64 b] ∧ Blk wr R 58 #[.int .u64 0, .int .u64 0] ∧ Below w.heap.size w wr) (fun i _ => 128 - (intOf i).toNat)
  case atStart =>
    refine ⟨0, by omega, rfl, ?_, HX.out, HR.out, hal⟩
    have h : halfL (Gal.mul Gh.T 0 p q) = [.int .u64 0, .int .u64 0] := by
      unfold halfL
      rw [show Gal.mul Gh.T 0 p q = 0 from rfl, Gh.hi_zero, Gh.lo_zero]
      rfl
    rw [h]
    exact HO.out
  case round =>
    clear HO HX HR hal
    obtain ⟨k, hk, rfl, hO, hX, hR, hn⟩ := hrel
    by_cases hlt : k < 128
    · have hki : (k : Int) < 128 := by omega
      obtain ⟨c, hc⟩ : ∃ c : Int, c = (Gh.hi (Gal.iter Gh.T k p) : Int) := ⟨_, rfl⟩
      obtain ⟨d, hd⟩ : ∃ d : Int, d = (Gh.lo (Gal.iter Gh.T k p) : Int) := ⟨_, rfl⟩
      obtain ⟨oh, hoh⟩ : ∃ oh : Int, oh = (Gh.hi (Gal.mul Gh.T k p q) : Int) := ⟨_, rfl⟩
      obtain ⟨ol, hol⟩ : ∃ ol : Int, ol = (Gh.lo (Gal.mul Gh.T k p q) : Int) := ⟨_, rfl⟩
      have e1 : halfL (Gal.iter Gh.T k p) = [.int .u64 c, .int .u64 d] := by unfold halfL; rw [hc, hd]
      have e2 : halfL (Gal.mul Gh.T k p q) = [.int .u64 oh, .int .u64 ol] := by unfold halfL; rw [hoh, hol]
      have HI := Lib.hid (fun (o : Oper) (a : Act) (w : World) (x y : Operand) (ho : o.op = .index 63 x y) (hx : a.eval x = .agg L.toArray) (hy : a.eval y = .int .i64 (k : Int)) =>
        HIx.out o a w k hlt x y ho hx hy)
      rw [e1] at HI
      rw [e2] at hO
      have hal := nu_alloc (nu_refl wr) (.cells #[.int .u64 c, .int .u64 d] 58)
      have HO2 := Lib.hid (hO.alloc (.cells #[.int .u64 c, .int .u64 d] 58))
      have HX2 := Lib.hid (hX.alloc (.cells #[.int .u64 c, .int .u64 d] 58))
      have HR2 := Lib.hid (hR.alloc (.cells #[.int .u64 c, .int .u64 d] 58))
      have HM2 := Lib.hid (Blk.made wr 58 #[.int .u64 c, .int .u64 d])
      have Hn2 := Lib.hid (hn.trans (hal.mono hn.size))
      have HMO := Lib.hid (show O < wr.heap.size from Blk.lt hO)
      have HE := Lib.hid (show c = (Gh.hi (Gal.iter Gh.T k p) : Int) ∧ d = (Gh.lo (Gal.iter Gh.T k p) : Int) ∧ oh = (Gh.hi (Gal.mul Gh.T k p q) : Int) ∧ ol = (Gh.lo (Gal.mul Gh.T k p q) : Int) from ⟨hc, hd, hoh, hol⟩)
      clear hc hd hoh hol e1 e2 hO hX hR hn hal
      go_upto_region 5 with (refine wpList_run _ rfl (HI.out _ _ _ (.tmp 12) (.tmp 13) rfl rfl rfl) ?_)
      generalize wr.alloc (.cells #[.int .u64 c, .int .u64 d] 58) = w2 at *
      generalize wr.heap.size = M at *
      have hsn := Gh.gmul_snoc k p q hp
      obtain ⟨v, hv, hv01⟩ : ∃ v : Nat, v = (if q.testBit k then 1 else 0) ∧ (v = 0 ∨ v = 1) := ⟨_, rfl, by split <;> simp⟩
      obtain ⟨ph, hph⟩ : ∃ ph : Int, ph = (Gh.hi (Gal.mul Gh.T (k + 1) p q) : Int) := ⟨_, rfl⟩
      obtain ⟨pl, hpl⟩ : ∃ pl : Int, pl = (Gh.lo (Gal.mul Gh.T (k + 1) p q) : Int) := ⟨_, rfl⟩
      have HS := Lib.hid (show halfL (Gal.mul Gh.T (k + 1) p q) = [.int .u64 ph, .int .u64 pl] by unfold halfL; rw [hph, hpl])
      have hvv : (v = 0 ∧ bits .xor .u64 oh (bits .and .u64 c 0) = ph ∧ bits .xor .u64 ol (bits .and .u64 d 0) = pl) ∨ (v = 1 ∧ bits .xor .u64 oh (bits .and .u64 c (IntKind.u64.wrap (-1))) = ph ∧ bits .xor .u64 ol (bits .and .u64 d (IntKind.u64.wrap (-1))) = pl) := by
        obtain ⟨hc, hd, hoh, hol⟩ := HE.out
        rw [hc, hd, hoh, hol, hph, hpl, hsn]
        rcases hv01 with h | h
        · have hb : q.testBit k = false := by
            cases hb : q.testBit k with
            | false => rfl
            | true => rw [hv, hb] at h; simp at h
          refine .inl ⟨h, ?_, ?_⟩
          · rw [mask0 _ _ (Gh.hi_lt _) (Gh.hi_lt _), hb]; simp
          · rw [mask0 _ _ (Gh.lo_lt _) (Gh.lo_lt _), hb]; simp
        · have hb : q.testBit k = true := by
            cases hb : q.testBit k with
            | true => rfl
            | false => rw [hv, hb] at h; simp at h
          refine .inr ⟨h, ?_, ?_⟩
          · rw [mask1 _ _ (Gh.hi_lt _) (Gh.hi_lt _), hb, if_pos rfl, Gh.hi_xor]
          · rw [mask1 _ _ (Gh.lo_lt _) (Gh.lo_lt _), hb, if_pos rfl, Gh.lo_xor]
      have HF := Lib.hid (show Blk ((w2.setCell ⟨O, 0, none⟩ (.int .u64 ph)).setCell ⟨O, 1, none⟩ (.int .u64 pl)) O 58 #[.int .u64 ph, .int .u64 pl] from (HO2.out.put 0 (.int .u64 ph)).put 1 (.int .u64 pl))
      have HX3 := Lib.hid ((HX2.out.far (p := ⟨O, 0, none⟩) Hap.out.1 (.int .u64 ph)).far (p := ⟨O, 1, none⟩) Hap.out.1 (.int .u64 pl))
      have HR3 := Lib.hid ((HR2.out.far (p := ⟨O, 0, none⟩) Hap.out.2.1 (.int .u64 ph)).far (p := ⟨O, 1, none⟩) Hap.out.2.1 (.int .u64 pl))
      have Hn3 := Lib.hid (nu_set (nu_set Hn2.out (p := ⟨O, 0, none⟩) Hap.out.2.2.1 (.int .u64 ph)) (p := ⟨O, 1, none⟩) Hap.out.2.2.1 (.int .u64 pl))
      clear hsn hph hpl hv01
      by_cases h64 : k < 64
      · have hk64 : (k : Int) < 64 := by omega
        have cx0 : w2.cell? ⟨w.heap.size, 0, none⟩ = some (.int .u64 a) := HX2.out.at 0 _ rfl
        have eA : bits .and .i64 (k : Int) 63 = (k : Int) := by
          have h := i64_and k 63 (by omega) (by omega)
          rw [show k &&& 63 = k from by rw [show (63 : Nat) = 2 ^ 6 - 1 by decide, Nat.and_two_pow_sub_one_eq_mod]; exact Nat.mod_eq_of_lt (by omega)] at h
          exact h
        have eB : bits .and .u64 (a / 2 ^ (63 - k)) 1 = (v : Int) := by
          rw [Hab.out.1]
          exact bit_read _ _ (Gh.hi_lt q) v (by rw [Gh.bit_hi q k h64, hv])
        clear hv
        have co0 : w2.cell? ⟨O, 0, none⟩ = some (.int .u64 oh) := HO2.out.at 0 _ rfl
        have co1 : w2.cell? ⟨O, 1, none⟩ = some (.int .u64 ol) := HO2.out.at 1 _ rfl
        have cm0 : w2.cell? ⟨M, 0, none⟩ = some (.int .u64 c) := HM2.out.at 0 _ rfl
        have cm1 : w2.cell? ⟨M, 1, none⟩ = some (.int .u64 d) := HM2.out.at 1 _ rfl
        have hne : O ≠ M := Nat.ne_of_lt HMO.out
        have fo0 := HO2.out.free 0
        have fo1 := HO2.out.free 1
        rcases hvv with ⟨rfl, eH, eL⟩ | ⟨rfl, eH, eL⟩
        all_goals
          go_wp2_with fail
          go_roundw
          case rel => first | exact ⟨k + 1, by omega, by go_num, by rw [HS.out]; exact HF.out, HX3.out, HR3.out, Hn3.out⟩ | ((repeat apply Exists.intro); exact ⟨⟨k + 1, by omega, by go_num, by rw [HS.out]; exact HF.out, HX3.out, HR3.out, Hn3.out⟩, rfl⟩)
          case measure => simp [intOf]; omega
      · have hk64 : ¬ (k : Int) < 64 := by omega
        have hk64' : (64 : Int) ≤ (k : Int) := by omega
        have cx0 : w2.cell? ⟨w.heap.size, 0, none⟩ = some (.int .u64 a) := HX2.out.at 0 _ rfl
        have cx1 : w2.cell? ⟨w.heap.size, 1, none⟩ = some (.int .u64 b) := HX2.out.at 1 _ rfl
        obtain ⟨m, hm⟩ : ∃ m, m = k - 64 := ⟨_, rfl⟩
        have hm63 : m ≤ 63 := by omega
        have eA : bits .and .i64 (k : Int) 63 = (m : Int) := by
          have h := i64_and k 63 (by omega) (by omega)
          rw [show k &&& 63 = m from by rw [show (63 : Nat) = 2 ^ 6 - 1 by decide, Nat.and_two_pow_sub_one_eq_mod, hm]; omega] at h
          exact h
        have eB : bits .and .u64 (b / 2 ^ (127 - k)) 1 = (v : Int) := by
          rw [Hab.out.2]
          exact bit_read _ _ (Gh.lo_lt q) v (by rw [Gh.bit_lo q k (by omega) hlt, hv])
        clear hv hm
        have co0 : w2.cell? ⟨O, 0, none⟩ = some (.int .u64 oh) := HO2.out.at 0 _ rfl
        have co1 : w2.cell? ⟨O, 1, none⟩ = some (.int .u64 ol) := HO2.out.at 1 _ rfl
        have cm0 : w2.cell? ⟨M, 0, none⟩ = some (.int .u64 c) := HM2.out.at 0 _ rfl
        have cm1 : w2.cell? ⟨M, 1, none⟩ = some (.int .u64 d) := HM2.out.at 1 _ rfl
        have hne : O ≠ M := Nat.ne_of_lt HMO.out
        have fo0 := HO2.out.free 0
        have fo1 := HO2.out.free 1
        rcases hvv with ⟨rfl, eH, eL⟩ | ⟨rfl, eH, eL⟩
        all_goals
          go_wp2_with fail
          go_roundw
          case rel => first | exact ⟨k + 1, by omega, by go_num, by rw [HS.out]; exact HF.out, HX3.out, HR3.out, Hn3.out⟩ | ((repeat apply Exists.intro); exact ⟨⟨k + 1, by omega, by go_num, by rw [HS.out]; exact HF.out, HX3.out, HR3.out, Hn3.out⟩, rfl⟩)
          case measure => simp [intOf]; omega
    · obtain rfl : k = 128 := by omega
      obtain ⟨oh, hoh⟩ : ∃ oh : Int, oh = (Gh.hi (Gal.mul Gh.T 128 p q) : Int) := ⟨_, rfl⟩
      obtain ⟨ol, hol⟩ : ∃ ol : Int, ol = (Gh.lo (Gal.mul Gh.T 128 p q) : Int) := ⟨_, rfl⟩
      have e2 : halfL (Gal.mul Gh.T 128 p q) = [.int .u64 oh, .int .u64 ol] := by unfold halfL; rw [hoh, hol]
      rw [e2] at hO
      have He := Lib.hid (show halfL (Gh.mul p q) = [.int .u64 oh, .int .u64 ol] from e2)
      have HF := Lib.hid (Blk.fill hR [.int .u64 oh, .int .u64 ol] rfl)
      have Hnf := Lib.hid (nu_fill [.int .u64 oh, .int .u64 ol] (g := R) Hap.out.2.2.2 0 _ hn)
      have HO2 := Lib.hid hO
      have HR2 := Lib.hid hR
      have co0 : wr.cell? ⟨O, 0, none⟩ = some (.int .u64 oh) := HO2.out.at 0 _ rfl
      have co1 : wr.cell? ⟨O, 1, none⟩ = some (.int .u64 ol) := HO2.out.at 1 _ rfl
      clear hoh hol e2 hO hR hX hn hlt hk
      go_wp2_with (refine wpList_store_blk rfl 58 (.tmp 4) (.tmp 51) rfl R [.int .u64 oh, .int .u64 ol] rfl rfl 58 #[.int .u64 0, .int .u64 0] HR2.out rfl (show _ = some 2 by kernel_rfl) (by simp [Value.oneCell']) ?_)
      refine bodyPost_ret (results_blkS rfl _ R 58 _ rfl HF.out Try.underlying58 (show _ = some 2 by kernel_rfl)) rfl ⟨by rw [He.out], Hnf.out⟩
end Go.Proofs.Ytnojbjconiddoaa
