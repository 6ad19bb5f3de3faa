/-
  The walk of the document's Times of law07.
-/
import Derived.Test.YtnojbjconiddoaaGh11
namespace Go.Proofs.Ytnojbjconiddoaa
open Go.ChangeShapes Go.WideShapes Go.ChangeAt Go.RowKit

def z256 : Array Value := Array.replicate 256 (.int .u8 0)
theorem zero_256 (w : World) : (zeroValue 42).run Try.prog w = .ok (.agg z256) w := by kernel_rfl
theorem z256_bits : z256 = ((Gh.bitsL 0 256).map vb).toArray := by
  rw [Gh.bitsL_zero, List.map_replicate]
  unfold z256
  rw [← List.toArray_replicate]
  rfl
/-- One bit of the row is turned by c. -/
theorem bits_put (N j c : Nat) (h : j < 256) (hc : c ≤ 1) (y : Nat) (hy : y = Gh.b01 (N.testBit j) ^^^ c) : (((Gh.bitsL N 256).map vb).toArray).setIfInBounds j (vb y) = ((Gh.bitsL (N ^^^ c * 2 ^ j) 256).map vb).toArray := by
  rw [arr_set, hy, Gh.bitsL_xor N 256 j c h hc]
theorem b01_xor_lt (b : Bool) (c : Nat) (hc : c ≤ 1) : Gh.b01 b ^^^ c ≤ 1 := by
  rcases (show c = 0 ∨ c = 1 by omega) with rfl | rfl <;> cases b <;> decide

theorem bit_step (N k : Nat) : N ^^^ 340282366920938463463374607431768211591 * 2 ^ k = ((((N ^^^ 1 * 2 ^ (k + 128)) ^^^ 1 * 2 ^ k) ^^^ 1 * 2 ^ (k + 1)) ^^^ 1 * 2 ^ (k + 2)) ^^^ 1 * 2 ^ (k + 7) := by
  have e : (340282366920938463463374607431768211591 : Nat) = (((2 ^ 128 ^^^ 2 ^ 0) ^^^ 2 ^ 1) ^^^ 2 ^ 2) ^^^ 2 ^ 7 := by decide
  rw [e]
  simp only [Gh.xor_shl, Nat.one_mul, ← Nat.pow_add, ← Nat.xor_assoc]
  rw [show 128 + k = k + 128 by omega, show 0 + k = k by omega, show 1 + k = k + 1 by omega, show 2 + k = k + 2 by omega, show 7 + k = k + 7 by omega]
set_option maxRecDepth 100000 in
set_option maxHeartbeats 4000000 in
theorem ref_times (xa xb : List Nat) (hla : xa.length = 16) (hlb : xb.length = 16) (hxa : ∀ x ∈ xa, x < 256) (hxb : ∀ x ∈ xb, x < 256) (w : World) :
    Calls Try.prog 16 #[.agg (xa.map vb).toArray, .agg (xb.map vb).toArray] w fun e w' => e = .returned (.agg ((bytB (Gh.mul (polB xb) (polB xa))).map vb).toArray) ∧ Below w.heap.size w w' := by
  have HbA := Lib.hid (ref_bit xa hla hxa)
  have HbB := Lib.hid (ref_bit xb hlb hxb)
  have Hsz := Lib.hid (show (Try.prog.info? 22).map (·.size) = some (xa.map vb).toArray.size ∧ (Try.prog.info? 22).map (·.size) = some (xb.map vb).toArray.size from ⟨by rw [List.size_toArray, List.length_map, hla]; kernel_rfl, by rw [List.size_toArray, List.length_map, hlb]; kernel_rfl⟩)
  have hBl := polB_lt xb
  obtain ⟨A, hA⟩ : ∃ A, A = polB xa := ⟨_, rfl⟩
  obtain ⟨B, hB⟩ : ∃ B, B = polB xb := ⟨_, rfl⟩
  rw [← hA] at HbA
  rw [← hB] at HbB hBl
  rw [← hA, ← hB]
  obtain ⟨XA, hXA⟩ : ∃ XA, XA = xa.map vb := ⟨_, rfl⟩
  obtain ⟨XB, hXB⟩ : ∃ XB, XB = xb.map vb := ⟨_, rfl⟩
  rw [← hXA, ← hXB] at Hsz
  rw [← hXA] at HbA
  rw [← hXB] at HbB
  rw [← hXA, ← hXB]
  clear hA hB hXA hXB hxa hxb hla hlb
  have hz := zero_256
  have hal := nu_alloc (nu_alloc (nu_alloc (nu_alloc (nu_refl w) (.cells XA.toArray 22)) (.cells XB.toArray 22)) (.cells z16 22)) (.cells z256 42)
  have HA := Lib.hid ((((Blk.made w 22 XA.toArray).alloc (.cells XB.toArray 22)).alloc (.cells z16 22)).alloc (.cells z256 42))
  have HB := Lib.hid (((Blk.made1 w (.cells XA.toArray 22) 22 XB.toArray).alloc (.cells z16 22)).alloc (.cells z256 42))
  have HR := Lib.hid ((Blk.made2 w (.cells XA.toArray 22) (.cells XB.toArray 22) 22 z16).alloc (.cells z256 42))
  have HP := Lib.hid (Blk.made3 w (.cells XA.toArray 22) (.cells XB.toArray 22) (.cells z16 22) 42 z256)
  go_enter Try.func16, Try.ntmps16
  go_upto_region 2 with fail
  clear hz
  generalize (((w.alloc (.cells XA.toArray 22)).alloc (.cells XB.toArray 22)).alloc (.cells z16 22)).alloc (.cells z256 42) = w1 at *
  obtain ⟨a0, ha0⟩ : ∃ a0, a0 = w.heap.size := ⟨_, rfl⟩
  obtain ⟨b0, hb0⟩ : ∃ b0, b0 = w.heap.size + 1 := ⟨_, rfl⟩
  obtain ⟨R, hR⟩ : ∃ R, R = w.heap.size + 1 + 1 := ⟨_, rfl⟩
  obtain ⟨P, hP⟩ : ∃ P, P = w.heap.size + 1 + 1 + 1 := ⟨_, rfl⟩
  rw [← ha0] at HA
  rw [← hb0] at HB
  rw [← hR] at HR
  rw [← hP, z256_bits] at HP
  rw [← hP, ← hR, ← hb0, ← ha0]
  have Hap := Lib.hid (show a0 ≠ P ∧ b0 ≠ P ∧ R ≠ P ∧ w.heap.size ≤ P ∧ w.heap.size ≤ R from ⟨by omega, by omega, by omega, by omega, by omega⟩)
  clear ha0 hb0 hR hP
  go_wp2_with fail
  go_loopw [6] (fun i wr => ∃ k : Nat, k ≤ 128 ∧ i = .int .i64 k ∧ Blk wr P 42 ((Gh.bitsL (Gh.clG A B k) 256).map vb).toArray ∧ Blk wr a0 22 XA.toArray ∧ Blk wr b0 22 XB.toArray ∧ Blk wr R 22 z16 ∧ Below w.heap.size w wr) (fun i _ => 128 - (intOf i).toNat)
  case atStart => exact ⟨0, by omega, rfl, HP.out, HA.out, HB.out, HR.out, hal⟩
  case round =>
    clear HP HA HB HR hal
    obtain ⟨k, hk, rfl, hP, hA, hB, hR, hn⟩ := hrel
    have HP := Lib.hid hP
    have HA := Lib.hid hA
    have HB := Lib.hid hB
    have HR := Lib.hid hR
    clear hP hA hB hR
    by_cases hlt : k < 128
    · have hki : (k : Int) < 128 := by omega
      have HW := Lib.hid (HbA.out k hlt wr)
      go_wp2_with (refine wpList_load_blk rfl 22 (.tmp 2) rfl a0 rfl 22 XA.toArray HA.out Try.underlying22 Hsz.out.1 ?_)
      refine HW.out.mono ?_
      rintro e w2 ⟨rfl, hb2⟩
      have HP2 := Lib.hid (Blk.below HP.out hb2 (Blk.lt HP.out))
      have HA2 := Lib.hid (Blk.below HA.out hb2 (Blk.lt HA.out))
      have HB2 := Lib.hid (Blk.below HB.out hb2 (Blk.lt HB.out))
      have HR2 := Lib.hid (Blk.below HR.out hb2 (Blk.lt HR.out))
      have hn2 := hn.trans (hb2.mono hn.size)
      clear HW HP HA HB HR hn hb2
      cases hb : A.testBit k
      · have HC := Lib.hid (show Gh.clG A B (k + 1) = Gh.clG A B k by simp [Gh.clG, hb])
        clear hb
        go_wp2_with fail
        go_roundw
        case rel => first | exact ⟨k + 1, by omega, by go_num, by rw [HC.out]; exact HP2.out, HA2.out, HB2.out, HR2.out, hn2⟩ | ((repeat apply Exists.intro); exact ⟨⟨k + 1, by omega, by go_num, by rw [HC.out]; exact HP2.out, HA2.out, HB2.out, HR2.out, hn2⟩, rfl⟩)
        case measure => simp [intOf]; omega
      · have HC := Lib.hid (show Gh.clG A B (k + 1) = Gh.clG A B k ^^^ B * 2 ^ k by simp [Gh.clG, hb])
        clear hb
        obtain ⟨N, hN⟩ : ∃ N, N = Gh.clG A B k := ⟨_, rfl⟩
        rw [← hN] at HC HP2
        clear hN
        obtain ⟨wo, rfl⟩ : ∃ x : World, x = w2 := ⟨_, rfl⟩
        go_wp2_with fail
        go_loopw [7] (fun j wq => ∃ m : Nat, m ≤ 128 ∧ j = .int .i64 m ∧ Blk wq P 42 ((Gh.bitsL (N ^^^ (B % 2 ^ m) * 2 ^ k) 256).map vb).toArray ∧ Blk wq a0 22 XA.toArray ∧ Blk wq b0 22 XB.toArray ∧ Blk wq R 22 z16 ∧ Below w.heap.size w wq) (fun j _ => 128 - (intOf j).toNat)
        case atStart => exact ⟨0, by omega, rfl, by rw [Nat.pow_zero, Nat.mod_one, Nat.zero_mul, Nat.xor_zero]; exact HP2.out, HA2.out, HB2.out, HR2.out, hn2⟩
        case round =>
          clear HP2 HA2 HB2 HR2 hn2
          obtain ⟨m, hm, rfl, hP, hA, hB, hR, hn⟩ := hrel
          have HP := Lib.hid hP
          have HA := Lib.hid hA
          have HB := Lib.hid hB
          have HR := Lib.hid hR
          clear hP hA hB hR
          by_cases hlm : m < 128
          · have hmi : (m : Int) < 128 := by omega
            go_upto_region 9 with fail
            obtain ⟨n, hn2⟩ : ∃ n, n = k + m := ⟨_, rfl⟩
            have hnI : (n : Int) < 256 := by omega
            have wkm : IntKind.i64.wrap ((k : Int) + (m : Int)) = (n : Int) := by rw [IntKind.wrap_i64]; omega
            have wkn : (k : Int) + (m : Int) = (n : Int) := by omega
            have hnI0 : (0 : Int) ≤ (n : Int) := by omega
            have wn : IntKind.i64.wrap (n : Int) = (n : Int) := by rw [IntKind.wrap_i64]; omega
            have hnn : n < 256 := by omega
            obtain ⟨y, hy⟩ : ∃ y, y = Gh.b01 ((N ^^^ (B % 2 ^ m) * 2 ^ k).testBit n) := ⟨_, rfl⟩
            obtain ⟨c, hc⟩ : ∃ c, c = Gh.b01 (B.testBit m) := ⟨_, rfl⟩
            have hc1 : c ≤ 1 := by rw [hc]; exact Gh.b01_le _
            have hy1 : y ≤ 1 := by rw [hy]; exact Gh.b01_le _
            obtain ⟨z, hz⟩ : ∃ z, z = y ^^^ c := ⟨_, rfl⟩
            have eX : bits .xor .u8 (y : Int) (c : Int) = (z : Int) := by rw [hz]; exact u8_xor_nat y c (by omega) (by omega)
            have HPut := Lib.hid (bits_put (N ^^^ (B % 2 ^ m) * 2 ^ k) n c (by omega) hc1 z (by rw [hz, hy]))
            have HSt := Lib.hid (Gh.inner_step N B k m)
            rw [← hn2, ← hc] at HSt
            have Hcell := Lib.hid (arr_at _ n y (by rw [hy]; exact Gh.bitsL_at (N ^^^ (B % 2 ^ m) * 2 ^ k) 256 n (by omega)))
            have HbB2 := Lib.hid (HbB.out m hlm)
            rw [← hc] at HbB2
            obtain ⟨Q, hQ⟩ : ∃ Q, Q = ((Gh.bitsL (N ^^^ (B % 2 ^ m) * 2 ^ k) 256).map vb).toArray := ⟨_, rfl⟩
            rw [← hQ] at HP HPut Hcell
            clear hQ hy hc hz hc1 hy1 hn2
            refine wp_region_held_drew (S := fun W => Blk W b0 22 XB.toArray) (by kernel_rfl) (HB.out.drew) (fun hHeld => ?_)
            dsimp only [Array.replicate, List.replicate, List.size_toArray, List.length_cons, List.length_nil, Nat.reduceAdd] at hHeld ⊢
            have HP3 := Lib.hid HP.out.drew
            have HA3 := Lib.hid HA.out.drew
            have HB3 := Lib.hid HB.out.drew
            have HR3 := Lib.hid HR.out.drew
            have hn3 := hn.drew
            clear HP HA HB HR hn
            generalize wr.drew = w3 at *
            refine take_l (i := 0) (v := ?_) rfl (by kernel_rfl) (by kernel_rfl) (by kernel_rfl) (fun _ _ _ h => h) (Or.inl ⟨by rfl, ?_⟩) (by assumption) ?_
            case refine_2 => (intro _ _; go_simp; all_goals with_reducible rfl)
            simp only [Act.put, List.setIfInBounds_toArray, List.set_cons_zero, List.set_cons_succ]
            refine take_l (i := 1) (v := ?_) rfl (by kernel_rfl) (by kernel_rfl) (by kernel_rfl) (fun _ _ _ h => h) (Or.inl ⟨by rfl, ?_⟩) (by assumption) ?_
            case refine_2 => (intro _ _; go_simp; all_goals with_reducible rfl)
            simp only [Act.put, List.setIfInBounds_toArray, List.set_cons_zero, List.set_cons_succ]
            refine take_l (i := 2) (v := ?_) rfl (by kernel_rfl) (by kernel_rfl) (by kernel_rfl) (fun _ _ _ h => h) (Or.inl ⟨by rfl, ?_⟩) (by assumption) ?_
            case refine_2 => (intro _ _; go_simp; all_goals with_reducible rfl)
            simp only [Act.put, List.setIfInBounds_toArray, List.set_cons_zero, List.set_cons_succ]
            refine take_l (i := 3) (v := ?_) rfl (by kernel_rfl) (by kernel_rfl) (by kernel_rfl) (fun _ _ _ h => h) (Or.inl ⟨by rfl, ?_⟩) (by assumption) ?_
            case refine_2 => (intro _ _; go_simp; all_goals with_reducible rfl)
            simp only [Act.put, List.setIfInBounds_toArray, List.set_cons_zero, List.set_cons_succ]
            refine take_l (i := 4) (v := ?_) rfl (by kernel_rfl) (by kernel_rfl) (by kernel_rfl) (fun _ _ _ h => h) (Or.inl ⟨by rfl, ?_⟩) (by assumption) ?_
            case refine_2 => (intro _ _; go_simp; all_goals with_reducible rfl)
            simp only [Act.put, List.setIfInBounds_toArray, List.set_cons_zero, List.set_cons_succ]
            refine take_l (i := 5) (v := ?_) rfl (by kernel_rfl) (by kernel_rfl) (by kernel_rfl) (fun _ _ _ h => h) (Or.inl ⟨by rfl, ?_⟩) (by assumption) ?_
            case refine_2 => (intro _ _; go_simp; all_goals with_reducible rfl)
            simp only [Act.put, List.setIfInBounds_toArray, List.set_cons_zero, List.set_cons_succ]
            refine take_l (i := 6) (v := ?_) rfl (by kernel_rfl) (by kernel_rfl) (by kernel_rfl) (fun _ _ _ h => h) (Or.inl ⟨by rfl, ?_⟩) (by assumption) ?_
            case refine_2 => (intro _ _; go_simp; all_goals with_reducible rfl)
            simp only [Act.put, List.setIfInBounds_toArray, List.set_cons_zero, List.set_cons_succ]
            refine take_l (i := 8) rfl (by kernel_rfl) (by kernel_rfl) (by kernel_rfl) (fun _ _ _ h => h) (Or.inl ⟨by rfl, fun W hS => exec_load_mid (P := Try.prog) (w := W) 22 (.tmp 3) b0 0 XB (.array 16 5) rfl rfl (range_mid hS (l := []) (r := []) (by simp) rfl) (by kernel_rfl) rfl (by have h := Hsz.out.2; rwa [List.size_toArray] at h)⟩) (by assumption) ?_
            simp only [Act.put, List.setIfInBounds_toArray, List.set_cons_zero, List.set_cons_succ]
            refine take_l (i := 9) (v := ?_) rfl (by kernel_rfl) (by kernel_rfl) (by kernel_rfl) (fun _ _ _ h => h) (Or.inl ⟨by rfl, ?_⟩) (by assumption) ?_
            case refine_2 => (intro _ _; go_simp; all_goals with_reducible rfl)
            simp only [Act.put, List.setIfInBounds_toArray, List.set_cons_zero, List.set_cons_succ]
            clear hHeld
            refine wpAnyH_ready (rs := [7, 10]) (by kernel_rfl) (by simp) ?_
            refine cons_l rfl (fun K hK => ?_) ?_
            · have c0 : w3.cell? ⟨P, n, none⟩ = some (.int .u8 (y : Int)) := HP3.out.at n _ Hcell.out
              go_simp
              go_wp2_with fail
              refine hK.out _ _ HB3.out (fun hHeld => ?_)
              clear hK K hHeld c0
              simp only [Act.put, List.setIfInBounds_toArray, List.set_cons_zero, List.set_cons_succ]
              refine wpAnyH_ready (rs := [10]) (by kernel_rfl) (by simp) ?_
              refine cons_l rfl (fun K hK => ?_) AllReadyH.nil
              go_simp
              go_at_call 37
              refine (HbB2.out w3).mono ?_
              rintro e w4 ⟨rfl, hb4⟩
              have HP4 := Lib.hid (Blk.below HP3.out hb4 (Blk.lt HP3.out))
              have HA4 := Lib.hid (Blk.below HA3.out hb4 (Blk.lt HA3.out))
              have HB4 := Lib.hid (Blk.below HB3.out hb4 (Blk.lt HB3.out))
              have HR4 := Lib.hid (Blk.below HR3.out hb4 (Blk.lt HR3.out))
              have hn4 := hn3.trans (hb4.mono hn3.size)
              clear HP3 HA3 HB3 HR3 hn3 hb4
              go_wp2_with fail
              refine hK.out _ _ HB4.out (fun hHeld => ?_)
              clear hK K
              simp only [Act.put, List.setIfInBounds_toArray, List.set_cons_zero, List.set_cons_succ]
              clear hHeld
              refine take_l (i := 11) (v := ?_) rfl (by kernel_rfl) (by kernel_rfl) (by kernel_rfl) (fun _ _ _ h => h) (Or.inl ⟨by rfl, ?_⟩) (by assumption) ?_
              case refine_2 => (intro _ _; go_simp; all_goals with_reducible rfl)
              simp only [Act.put, List.setIfInBounds_toArray, List.set_cons_zero, List.set_cons_succ]
              refine take_l (i := 12) (v := ?_) rfl (by kernel_rfl) (by kernel_rfl) (by kernel_rfl) (fun _ _ _ h => h) (Or.inl ⟨by rfl, ?_⟩) (by assumption) ?_
              case refine_2 => (intro _ _; go_simp; all_goals with_reducible rfl)
              simp only [Act.put, List.setIfInBounds_toArray, List.set_cons_zero, List.set_cons_succ]
              refine wpAnyH_ready (rs := [13]) (by kernel_rfl) (by simp) ?_
              refine cons_l rfl (fun K hK => ?_) AllReadyH.nil
              have f0 := HP4.out.free n
              have d0 : w4.cell? ⟨P, n, none⟩ = some (.int .u8 (y : Int)) := HP4.out.at n _ Hcell.out
              go_simp
              go_wp2_with fail
              have hP5 := HP4.out.put n (vb z)
              rw [HPut.out, HSt.out] at hP5
              have HP5 := Lib.hid hP5
              have HA5 := Lib.hid (HA4.out.far (p := ⟨P, n, none⟩) Hap.out.1 (vb z))
              have HB5 := Lib.hid (HB4.out.far (p := ⟨P, n, none⟩) Hap.out.2.1 (vb z))
              have HR5 := Lib.hid (HR4.out.far (p := ⟨P, n, none⟩) Hap.out.2.2.1 (vb z))
              have Hn5 := Lib.hid (nu_set hn4 (p := ⟨P, n, none⟩) Hap.out.2.2.2.1 (vb z))
              simp only [vb] at HP5 HA5 HB5 HR5 Hn5
              clear hP5
              refine hK.out _ _ HB5.out (fun hHeld => ?_)
              clear hK K hHeld
              simp only [Act.put, List.setIfInBounds_toArray, List.set_cons_zero, List.set_cons_succ]
              refine wpAnyH_done (by kernel_rfl) ?_ _
              clear f0 d0 HP4 HA4 HB4 HR4 hn4
              generalize w4.setCell ⟨P, n, none⟩ (.int .u8 (z : Int)) = w5 at *
              go_wp2_with fail
              go_roundw
              case rel => first | exact ⟨m + 1, by omega, by go_num, HP5.out, HA5.out, HB5.out, HR5.out, Hn5.out⟩ | ((repeat apply Exists.intro); exact ⟨⟨m + 1, by omega, by go_num, HP5.out, HA5.out, HB5.out, HR5.out, Hn5.out⟩, rfl⟩)
              case measure => simp [intOf]; omega
            · refine cons_l rfl (fun K hK => ?_) AllReadyH.nil
              go_simp
              go_at_call 37
              refine (HbB2.out w3).mono ?_
              rintro e w4 ⟨rfl, hb4⟩
              have HP4 := Lib.hid (Blk.below HP3.out hb4 (Blk.lt HP3.out))
              have HA4 := Lib.hid (Blk.below HA3.out hb4 (Blk.lt HA3.out))
              have HB4 := Lib.hid (Blk.below HB3.out hb4 (Blk.lt HB3.out))
              have HR4 := Lib.hid (Blk.below HR3.out hb4 (Blk.lt HR3.out))
              have hn4 := hn3.trans (hb4.mono hn3.size)
              clear HP3 HA3 HB3 HR3 hn3 hb4
              go_wp2_with fail
              refine hK.out _ _ HB4.out (fun hHeld => ?_)
              clear hK K
              simp only [Act.put, List.setIfInBounds_toArray, List.set_cons_zero, List.set_cons_succ]
              clear hHeld
              refine wpAnyH_ready (rs := [7]) (by kernel_rfl) (by simp) ?_
              refine cons_l rfl (fun K hK => ?_) AllReadyH.nil
              have c0 : w4.cell? ⟨P, n, none⟩ = some (.int .u8 (y : Int)) := HP4.out.at n _ Hcell.out
              go_simp
              go_wp2_with fail
              refine hK.out _ _ HB4.out (fun hHeld => ?_)
              clear hK K hHeld c0
              simp only [Act.put, List.setIfInBounds_toArray, List.set_cons_zero, List.set_cons_succ]
              refine take_l (i := 11) (v := ?_) rfl (by kernel_rfl) (by kernel_rfl) (by kernel_rfl) (fun _ _ _ h => h) (Or.inl ⟨by rfl, ?_⟩) (by assumption) ?_
              case refine_2 => (intro _ _; go_simp; all_goals with_reducible rfl)
              simp only [Act.put, List.setIfInBounds_toArray, List.set_cons_zero, List.set_cons_succ]
              refine take_l (i := 12) (v := ?_) rfl (by kernel_rfl) (by kernel_rfl) (by kernel_rfl) (fun _ _ _ h => h) (Or.inl ⟨by rfl, ?_⟩) (by assumption) ?_
              case refine_2 => (intro _ _; go_simp; all_goals with_reducible rfl)
              simp only [Act.put, List.setIfInBounds_toArray, List.set_cons_zero, List.set_cons_succ]
              refine wpAnyH_ready (rs := [13]) (by kernel_rfl) (by simp) ?_
              refine cons_l rfl (fun K hK => ?_) AllReadyH.nil
              have f0 := HP4.out.free n
              have d0 : w4.cell? ⟨P, n, none⟩ = some (.int .u8 (y : Int)) := HP4.out.at n _ Hcell.out
              go_simp
              go_wp2_with fail
              have hP5 := HP4.out.put n (vb z)
              rw [HPut.out, HSt.out] at hP5
              have HP5 := Lib.hid hP5
              have HA5 := Lib.hid (HA4.out.far (p := ⟨P, n, none⟩) Hap.out.1 (vb z))
              have HB5 := Lib.hid (HB4.out.far (p := ⟨P, n, none⟩) Hap.out.2.1 (vb z))
              have HR5 := Lib.hid (HR4.out.far (p := ⟨P, n, none⟩) Hap.out.2.2.1 (vb z))
              have Hn5 := Lib.hid (nu_set hn4 (p := ⟨P, n, none⟩) Hap.out.2.2.2.1 (vb z))
              simp only [vb] at HP5 HA5 HB5 HR5 Hn5
              clear hP5
              refine hK.out _ _ HB5.out (fun hHeld => ?_)
              clear hK K hHeld
              simp only [Act.put, List.setIfInBounds_toArray, List.set_cons_zero, List.set_cons_succ]
              refine wpAnyH_done (by kernel_rfl) ?_ _
              clear f0 d0 HP4 HA4 HB4 HR4 hn4
              generalize w4.setCell ⟨P, n, none⟩ (.int .u8 (z : Int)) = w5 at *
              go_wp2_with fail
              go_roundw
              case rel => first | exact ⟨m + 1, by omega, by go_num, HP5.out, HA5.out, HB5.out, HR5.out, Hn5.out⟩ | ((repeat apply Exists.intro); exact ⟨⟨m + 1, by omega, by go_num, HP5.out, HA5.out, HB5.out, HR5.out, Hn5.out⟩, rfl⟩)
              case measure => simp [intOf]; omega
          · obtain rfl : m = 128 := by omega
            have hP := HP.out
            rw [Nat.mod_eq_of_lt hBl, ← HC.out] at hP
            have HP3 := Lib.hid hP
            clear hP HP hlm hm
            go_wp2_with fail
            go_roundw
            case rel => first | exact ⟨k + 1, by omega, by go_num, HP3.out, HA.out, HB.out, HR.out, hn⟩ | ((repeat apply Exists.intro); exact ⟨⟨k + 1, by omega, by go_num, HP3.out, HA.out, HB.out, HR.out, hn⟩, rfl⟩)
            case measure => simp [intOf]; omega
    · obtain rfl : k = 128 := by omega
      obtain ⟨F, hF⟩ : ∃ F, F = Gh.mul B A := ⟨_, rfl⟩
      have HFr := Lib.hid (show Gh.rdG 128 (Gh.clG A B 128) = F by rw [hF]; exact Gh.ref_mul A B hBl)
      have HFl := Lib.hid (show F < 2 ^ 128 by rw [hF]; exact Gh.mul_lt B A hBl)
      have HFe := Lib.hid hF
      clear hF hlt hk
      obtain ⟨wo, rfl⟩ : ∃ x : World, x = wr := ⟨_, rfl⟩
      go_wp2_with fail
      go_loopw [8] (fun i wr => ∃ m N : Nat, m ≤ 128 ∧ i = .int .i64 ((127 + m : Nat) : Int) ∧ Gh.rdG m N = F ∧ Blk wr P 42 ((Gh.bitsL N 256).map vb).toArray ∧ Blk wr R 22 z16 ∧ Below w.heap.size w wr) (fun i _ => (intOf i - 127).toNat)
      case atStart => exact ⟨128, _, by omega, rfl, HFr.out, HP.out, HR.out, hn⟩
      case round =>
        clear HP HA HB HR hn HFr
        obtain ⟨m, N, hm, rfl, hr, hP, hR, hn⟩ := hrel
        have HP := Lib.hid hP
        have HR := Lib.hid hR
        have Hr := Lib.hid hr
        clear hP hR hr
        obtain ⟨I, hI⟩ : ∃ I, I = 127 + m := ⟨_, rfl⟩
        rw [← hI]
        by_cases hm0 : m = 0
        · subst hm0
          have hr := Hr.out
          simp only [Gh.rdG] at hr
          subst hr
          have hI1 : I ≤ 127 := by omega
          have hIi : ¬ (128 : Int) ≤ (I : Int) := by omega
          have hal := nu_alloc (nu_refl wr) (.cells z16 22)
          have HP1 := Lib.hid (Blk.below HP.out hal (Blk.lt HP.out))
          have HR1 := Lib.hid (Blk.below HR.out hal (Blk.lt HR.out))
          have HQ1 := Lib.hid (Blk.made wr 22 z16)
          have hn1 := hn.trans (hal.mono hn.size)
          have HQap := Lib.hid (show P < wr.heap.size ∧ R < wr.heap.size ∧ w.heap.size ≤ wr.heap.size from ⟨Blk.lt HP.out, Blk.lt HR.out, hn.size⟩)
          clear hal HP HR hn hm hI Hr
          go_upto_region 20 with fail
          generalize wr.alloc (.cells z16 22) = w5 at *
          generalize wr.heap.size = Q at *
          go_wp2_with fail
          go_loopw [10] (fun i wr => ∃ k : Nat, k ≤ 128 ∧ i = .int .i64 k ∧ Blk wr Q 22 ((bytB (N % 2 ^ k)).map vb).toArray ∧ Blk wr P 42 ((Gh.bitsL N 256).map vb).toArray ∧ Blk wr R 22 z16 ∧ Below w.heap.size w wr) (fun i _ => 128 - (intOf i).toNat)
          case atStart => exact ⟨0, by omega, rfl, by rw [Nat.pow_zero, Nat.mod_one, show ((bytB 0).map vb).toArray = z16 by kernel_rfl]; exact HQ1.out, HP1.out, HR1.out, hn1⟩
          case round =>
            clear HQ1 HP1 HR1 hn1
            obtain ⟨k, hk, rfl, hQ, hP, hR, hn⟩ := hrel
            have HQ := Lib.hid hQ
            have HP := Lib.hid hP
            have HR := Lib.hid hR
            clear hQ hP hR
            by_cases hlt : k < 128
            · have hki : (k : Int) < 128 := by omega
              obtain ⟨c, hc⟩ : ∃ c, c = Gh.b01 (N.testBit k) := ⟨_, rfl⟩
              have hc1 : c ≤ 1 := by rw [hc]; exact Gh.b01_le _
              obtain ⟨y, hy, hset⟩ := lay_bit (N % 2 ^ k) k c (Nat.mod_lt _ (Nat.two_pow_pos k)) hlt hc1
              rw [hc, ← Gh.mod_succ, ← hc] at hset
              have hy8 := bytB_lt _ y (List.mem_of_getElem? hy)
              have hcP := arr_at _ k c (by rw [hc]; exact Gh.bitsL_at N 256 k (by omega))
              obtain ⟨j, hj⟩ : ∃ j, j = k / 8 := ⟨_, rfl⟩
              obtain ⟨r, hr⟩ : ∃ r, r = k % 8 := ⟨_, rfl⟩
              rw [← hj] at hy hset
              rw [← hr] at hset
              have ej : (k : Int) / 8 = (j : Int) := by omega
              have er : (k : Int) % 8 = (r : Int) := by omega
              have hj16 : (j : Int) < 16 := by omega
              have hr7 : r ≤ 7 := by omega
              have hk256 : (k : Int) < 256 := by omega
              have wr1 : IntKind.u64.wrap (r : Int) = (r : Int) := by rw [IntKind.wrap_u64]; omega
              have ej2 : (k : Int).tdiv 8 = (j : Int) := by rw [Int.tdiv_eq_ediv_of_nonneg (by omega)]; exact ej
              have er2 : (k : Int).tmod 8 = (r : Int) := by rw [Int.tmod_eq_emod_of_nonneg (by omega)]; exact er
              have wj : IntKind.i64.wrap (j : Int) = (j : Int) := by rw [IntKind.wrap_i64]; omega
              have wr2 : IntKind.i64.wrap (r : Int) = (r : Int) := by rw [IntKind.wrap_i64]; omega
              obtain ⟨s, hs⟩ : ∃ s, s = 7 - r := ⟨_, rfl⟩
              have es : (7 : Int) - (r : Int) = (s : Int) := by omega
              have ws : IntKind.u64.wrap (s : Int) = (s : Int) := by rw [IntKind.wrap_u64]; omega
              rw [← hs] at hset
              obtain ⟨q, hq⟩ : ∃ q, q = c * 2 ^ s := ⟨_, rfl⟩
              have hps : 2 ^ s ≤ 2 ^ 7 := Nat.pow_le_pow_right (by omega) (by omega)
              have hq8 : q < 256 := by
                rw [hq]
                rcases (show c = 0 ∨ c = 1 by omega) with h | h <;> rw [h] <;> omega
              rw [← hq] at hset
              have eq0 : (c : Int) * 2 ^ s = (q : Int) := by rw [hq]; simp
              have wq : IntKind.u8.wrap (q : Int) = (q : Int) := by rw [IntKind.wrap_u8']; omega
              obtain ⟨z, hz⟩ : ∃ z, z = y ||| q := ⟨_, rfl⟩
              have ez : bits .or .u8 (y : Int) (q : Int) = (z : Int) := by rw [hz]; exact u8_or_nat y q hy8 hq8
              rw [← hz] at hset
              have Hset := Lib.hid hset
              have hs7 : (0 : Int) ≤ (s : Int) := by omega
              have Hcy := Lib.hid (arr_at _ j y hy)
              have HcP := Lib.hid hcP
              clear hj hr hs hps hq8 hq hz hset hy hcP hc hc1
              have cQ : wr.cell? ⟨Q, j, none⟩ = some (.int .u8 (y : Int)) := HQ.out.at j _ Hcy.out
              have cP : wr.cell? ⟨P, k, none⟩ = some (.int .u8 (c : Int)) := HP.out.at k _ HcP.out
              go_upto_region 23 with fail
              go_still_tail 16, (by kernel_rfl)
              change wpList _ _ _ _ _ wr.drew
              have HQ2 := Lib.hid HQ.out.drew
              have HP2 := Lib.hid HP.out.drew
              have HR2 := Lib.hid HR.out.drew
              have hn2 := hn.drew
              clear hn HQ HP HR cQ cP
              generalize wr.drew = w6 at *
              have d0 : w6.cell? ⟨Q, j, none⟩ = some (.int .u8 (y : Int)) := HQ2.out.at j _ Hcy.out
              have f0 := HQ2.out.free j
              have hQ3 := HQ2.out.put j (vb z)
              rw [arr_set, Hset.out] at hQ3
              have HQ3 := Lib.hid hQ3
              have HP3 := Lib.hid (HP2.out.far (p := ⟨Q, j, none⟩) (Nat.ne_of_lt HQap.out.1) (vb z))
              have HR3 := Lib.hid (HR2.out.far (p := ⟨Q, j, none⟩) (Nat.ne_of_lt HQap.out.2.1) (vb z))
              have Hn3 := Lib.hid (nu_set hn2 (p := ⟨Q, j, none⟩) HQap.out.2.2 (vb z))
              simp only [vb] at HQ3 HP3 HR3 Hn3
              clear hQ3 hn2 ej er wr1 ej2 er2 wj wr2 es ws eq0 wq ez
              go_wp2_with fail
              go_roundw
              case rel => first | exact ⟨k + 1, by omega, by go_num, HQ3.out, HP3.out, HR3.out, Hn3.out⟩ | ((repeat apply Exists.intro); exact ⟨⟨k + 1, by omega, by go_num, HQ3.out, HP3.out, HR3.out, Hn3.out⟩, rfl⟩)
              case measure => simp [intOf]; omega
            · obtain rfl : k = 128 := by omega
              have hQ := HQ.out
              rw [Nat.mod_eq_of_lt HFl.out] at hQ
              obtain ⟨D, hD⟩ : ∃ D, D = (bytB N).map vb := ⟨_, rfl⟩
              rw [← hD] at hQ
              have HQ2 := Lib.hid hQ
              have HDl := Lib.hid (show D.length = z16.size by rw [hD, List.length_map, bytB_len]; rfl)
              have HszD := Lib.hid (show (Try.prog.info? 22).map (·.size) = some D.toArray.size by rw [List.size_toArray, hD, List.length_map, bytB_len]; kernel_rfl)
              have H1 := Lib.hid (show ∀ u ∈ D, u.oneCell' = true by rw [hD]; exact vb_one _)
              have HDe := Lib.hid hD
              have HF := Lib.hid (Blk.fill HR.out D HDl.out)
              have Hnf := Lib.hid (nu_fill D (g := R) Hap.out.2.2.2.2 0 _ hn)
              clear hQ HQ hD hn hlt hk
              go_wp2_with (first | (refine wpList_load_blk rfl 22 (.tmp 9) rfl Q rfl 22 D.toArray HQ2.out Try.underlying22 HszD.out ?_) | (refine wpList_store_blk rfl 22 (.tmp 4) (.tmp 98) rfl R D rfl rfl 22 z16 HR.out HDl.out (by have h := HszD.out; rwa [List.size_toArray] at h) H1.out ?_))
              refine bodyPost_ret (results_blk rfl _ R 22 D.toArray rfl HF.out Try.underlying22 HszD.out) rfl ⟨by rw [HDe.out, HFe.out], Hnf.out⟩
        · obtain ⟨k, hkm⟩ : ∃ k, m = k + 1 := ⟨m - 1, by omega⟩
          subst hkm
          have hIi : (128 : Int) ≤ (I : Int) := by omega
          have hI256 : (I : Int) < 256 := by omega
          have hIk : I = k + 128 := by omega
          have hr := Hr.out
          simp only [Gh.rdG] at hr
          cases hb : N.testBit (k + 128)
          · have Hr2 := Lib.hid (show Gh.rdG k N = F by rw [← hr, Gh.rdStepG, hb]; rfl)
            have c0 : wr.cell? ⟨P, I, none⟩ = some (.int .u8 0) := HP.out.at I _ (arr_at _ I 0 (by rw [Gh.bitsL_at N 256 I (by omega), hIk, hb]; rfl))
            have HI := Lib.hid hI
            clear hr hb Hr hIk hI
            go_wp2_with fail
            go_roundw
            case rel =>
              have e : Value.int .i64 ((I : Int) - 1) = .int .i64 ((127 + k : Nat) : Int) := by congr 1; have := HI.out; omega
              first | exact ⟨k, N, by omega, e, Hr2.out, HP.out, HR.out, hn⟩ | ((repeat apply Exists.intro); exact ⟨⟨k, N, by omega, e, Hr2.out, HP.out, HR.out, hn⟩, rfl⟩)
            case measure => simp [intOf]; omega
          · have Hr2 := Lib.hid (show Gh.rdG k (N ^^^ 340282366920938463463374607431768211591 * 2 ^ k) = F by rw [← hr, Gh.rdStepG, hb]; rfl)
            rw [bit_step, ← hIk] at Hr2
            have c0 : wr.cell? ⟨P, I, none⟩ = some (.int .u8 1) := HP.out.at I _ (arr_at _ I 1 (by rw [Gh.bitsL_at N 256 I (by omega), hIk, hb]; rfl))
            have f0 := HP.out.free I
            have hP1 := HP.out.put I (vb 0)
            rw [bits_put N I 1 (by omega) (by omega) 0 (by rw [hIk, hb]; rfl)] at hP1
            obtain ⟨N0, hN0⟩ : ∃ N0, N0 = N ^^^ 1 * 2 ^ I := ⟨_, rfl⟩
            rw [← hN0] at hP1 Hr2
            have HP1 := Lib.hid hP1
            have HR1 := Lib.hid (HR.out.far (p := ⟨P, I, none⟩) Hap.out.2.2.1 (vb 0))
            have hn1 := nu_set hn (p := ⟨P, I, none⟩) Hap.out.2.2.2.1 (vb 0)
            simp only [vb] at HP1 HR1 hn1
            obtain ⟨n1, hn1e⟩ : ∃ n, n = k := ⟨_, rfl⟩
            obtain ⟨n2, hn2e⟩ : ∃ n, n = k + 1 := ⟨_, rfl⟩
            obtain ⟨n3, hn3e⟩ : ∃ n, n = k + 2 := ⟨_, rfl⟩
            obtain ⟨n4, hn4e⟩ : ∃ n, n = k + 7 := ⟨_, rfl⟩
            have es1 : (I : Int) - 128 = (n1 : Int) := by omega
            have es2 : (I : Int) - 127 = (n2 : Int) := by omega
            have es3 : (I : Int) - 126 = (n3 : Int) := by omega
            have es4 : (I : Int) - 121 = (n4 : Int) := by omega
            have hb1 : n1 < 256 := by omega
            have hb2 : n2 < 256 := by omega
            have hb3 : n3 < 256 := by omega
            have hb4 : n4 < 256 := by omega
            rw [← hn2e, ← hn3e, ← hn4e] at Hr2
            rw [show (1 : Nat) * 2 ^ k = 1 * 2 ^ n1 by rw [hn1e]] at Hr2
            have HI := Lib.hid hI
            clear hr hb Hr hP1 hN0 hn hI hIk hn1e hn2e hn3e hn4e
            go_upto_region 15 with fail
            generalize wr.setCell ⟨P, I, none⟩ (.int .u8 ((0 : Nat) : Int)) = wq0 at *
            clear c0 f0
            obtain ⟨y1, hy1⟩ : ∃ y, y = Gh.b01 (N0.testBit n1) := ⟨_, rfl⟩
            have hyl1 : y1 ≤ 1 := by rw [hy1]; exact Gh.b01_le _
            obtain ⟨z1, hz1⟩ : ∃ z, z = y1 ^^^ 1 := ⟨_, rfl⟩
            have ex1 : bits .xor .u8 (y1 : Int) 1 = (z1 : Int) := by rw [hz1]; exact u8_xor_nat y1 1 (by omega) (by omega)
            have c1 : wq0.cell? ⟨P, n1, none⟩ = some (.int .u8 (y1 : Int)) := HP1.out.at n1 _ (arr_at _ n1 y1 (by rw [hy1]; exact Gh.bitsL_at N0 256 n1 hb1))
            have f1 := HP1.out.free n1
            have hPn1 := HP1.out.put n1 (vb z1)
            rw [bits_put N0 n1 1 hb1 (by omega) z1 (by rw [hz1, hy1])] at hPn1
            obtain ⟨N1, hN1⟩ : ∃ N, N = N0 ^^^ 1 * 2 ^ n1 := ⟨_, rfl⟩
            rw [← hN1] at hPn1 Hr2
            have HP2 := Lib.hid hPn1
            have HR2 := Lib.hid (HR1.out.far (p := ⟨P, n1, none⟩) Hap.out.2.2.1 (vb z1))
            have hn2 := nu_set hn1 (p := ⟨P, n1, none⟩) Hap.out.2.2.2.1 (vb z1)
            simp only [vb] at HP2 HR2 hn2
            clear hPn1 hN1 hy1 hz1 hyl1 HP1 HR1 hn1
            go_upto_region 16 with fail
            generalize wq0.setCell ⟨P, n1, none⟩ (.int .u8 (z1 : Int)) = wq1 at *
            clear c1 f1 ex1
            obtain ⟨y2, hy2⟩ : ∃ y, y = Gh.b01 (N1.testBit n2) := ⟨_, rfl⟩
            have hyl2 : y2 ≤ 1 := by rw [hy2]; exact Gh.b01_le _
            obtain ⟨z2, hz2⟩ : ∃ z, z = y2 ^^^ 1 := ⟨_, rfl⟩
            have ex2 : bits .xor .u8 (y2 : Int) 1 = (z2 : Int) := by rw [hz2]; exact u8_xor_nat y2 1 (by omega) (by omega)
            have c2 : wq1.cell? ⟨P, n2, none⟩ = some (.int .u8 (y2 : Int)) := HP2.out.at n2 _ (arr_at _ n2 y2 (by rw [hy2]; exact Gh.bitsL_at N1 256 n2 hb2))
            have f2 := HP2.out.free n2
            have hPn2 := HP2.out.put n2 (vb z2)
            rw [bits_put N1 n2 1 hb2 (by omega) z2 (by rw [hz2, hy2])] at hPn2
            obtain ⟨N2, hN2⟩ : ∃ N, N = N1 ^^^ 1 * 2 ^ n2 := ⟨_, rfl⟩
            rw [← hN2] at hPn2 Hr2
            have HP3 := Lib.hid hPn2
            have HR3 := Lib.hid (HR2.out.far (p := ⟨P, n2, none⟩) Hap.out.2.2.1 (vb z2))
            have hn3 := nu_set hn2 (p := ⟨P, n2, none⟩) Hap.out.2.2.2.1 (vb z2)
            simp only [vb] at HP3 HR3 hn3
            clear hPn2 hN2 hy2 hz2 hyl2 HP2 HR2 hn2
            go_upto_region 17 with fail
            generalize wq1.setCell ⟨P, n2, none⟩ (.int .u8 (z2 : Int)) = wq2 at *
            clear c2 f2 ex2
            obtain ⟨y3, hy3⟩ : ∃ y, y = Gh.b01 (N2.testBit n3) := ⟨_, rfl⟩
            have hyl3 : y3 ≤ 1 := by rw [hy3]; exact Gh.b01_le _
            obtain ⟨z3, hz3⟩ : ∃ z, z = y3 ^^^ 1 := ⟨_, rfl⟩
            have ex3 : bits .xor .u8 (y3 : Int) 1 = (z3 : Int) := by rw [hz3]; exact u8_xor_nat y3 1 (by omega) (by omega)
            have c3 : wq2.cell? ⟨P, n3, none⟩ = some (.int .u8 (y3 : Int)) := HP3.out.at n3 _ (arr_at _ n3 y3 (by rw [hy3]; exact Gh.bitsL_at N2 256 n3 hb3))
            have f3 := HP3.out.free n3
            have hPn3 := HP3.out.put n3 (vb z3)
            rw [bits_put N2 n3 1 hb3 (by omega) z3 (by rw [hz3, hy3])] at hPn3
            obtain ⟨N3, hN3⟩ : ∃ N, N = N2 ^^^ 1 * 2 ^ n3 := ⟨_, rfl⟩
            rw [← hN3] at hPn3 Hr2
            have HP4 := Lib.hid hPn3
            have HR4 := Lib.hid (HR3.out.far (p := ⟨P, n3, none⟩) Hap.out.2.2.1 (vb z3))
            have hn4 := nu_set hn3 (p := ⟨P, n3, none⟩) Hap.out.2.2.2.1 (vb z3)
            simp only [vb] at HP4 HR4 hn4
            clear hPn3 hN3 hy3 hz3 hyl3 HP3 HR3 hn3
            go_upto_region 18 with fail
            generalize wq2.setCell ⟨P, n3, none⟩ (.int .u8 (z3 : Int)) = wq3 at *
            clear c3 f3 ex3
            obtain ⟨y4, hy4⟩ : ∃ y, y = Gh.b01 (N3.testBit n4) := ⟨_, rfl⟩
            have hyl4 : y4 ≤ 1 := by rw [hy4]; exact Gh.b01_le _
            obtain ⟨z4, hz4⟩ : ∃ z, z = y4 ^^^ 1 := ⟨_, rfl⟩
            have ex4 : bits .xor .u8 (y4 : Int) 1 = (z4 : Int) := by rw [hz4]; exact u8_xor_nat y4 1 (by omega) (by omega)
            have c4 : wq3.cell? ⟨P, n4, none⟩ = some (.int .u8 (y4 : Int)) := HP4.out.at n4 _ (arr_at _ n4 y4 (by rw [hy4]; exact Gh.bitsL_at N3 256 n4 hb4))
            have f4 := HP4.out.free n4
            have hPn4 := HP4.out.put n4 (vb z4)
            rw [bits_put N3 n4 1 hb4 (by omega) z4 (by rw [hz4, hy4])] at hPn4
            obtain ⟨N4, hN4⟩ : ∃ N, N = N3 ^^^ 1 * 2 ^ n4 := ⟨_, rfl⟩
            rw [← hN4] at hPn4 Hr2
            have HP5 := Lib.hid hPn4
            have HR5 := Lib.hid (HR4.out.far (p := ⟨P, n4, none⟩) Hap.out.2.2.1 (vb z4))
            have hn5 := nu_set hn4 (p := ⟨P, n4, none⟩) Hap.out.2.2.2.1 (vb z4)
            simp only [vb] at HP5 HR5 hn5
            clear hPn4 hN4 hy4 hz4 hyl4 HP4 HR4 hn4
            have Hn5 := Lib.hid hn5
            clear hn5
            go_wp2_with fail
            go_roundw
            case rel =>
              have e : Value.int .i64 ((I : Int) - 1) = .int .i64 ((127 + k : Nat) : Int) := by congr 1; have := HI.out; omega
              first | exact ⟨k, N4, by omega, e, Hr2.out, HP5.out, HR5.out, Hn5.out⟩ | ((repeat apply Exists.intro); exact ⟨⟨k, N4, by omega, e, Hr2.out, HP5.out, HR5.out, Hn5.out⟩, rfl⟩)
            case measure => simp [intOf]; omega
end Go.Proofs.Ytnojbjconiddoaa
