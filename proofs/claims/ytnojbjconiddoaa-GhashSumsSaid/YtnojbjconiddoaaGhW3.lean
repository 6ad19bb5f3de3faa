/-
  The walk of GhashAdds.
-/
import Derived.Test.YtnojbjconiddoaaGh19
import Derived.Test.YtnojbjconiddoaaFill
import Derived.Test.YtnojbjconiddoaaTouch
import Derived.Test.YtnojbjconiddoaaStepB
import Derived.Deep.DeepCutAuto
import Derived.Deep.LoopGhost
namespace Go.Proofs.Ytnojbjconiddoaa
open Go.ChangeShapes Go.WideShapes Go.ChangeAt Go.RowKit
set_option linter.unusedSimpArgs false

theorem mk_zeros (n : Nat) (hb : n ≤ 281474976710656) (W : World) :
    (Instr.makeSlice 27 (.int .i64 (n : Int)) (.int .i64 (n : Int))).run Try.prog W = .ok (.slice (some ⟨W.heap.size, 0, none⟩) n n) (W.alloc (.cells ((List.replicate n 0).map vb).toArray 5)) := by
  obtain ⟨i0, hi, hz0, hz1, hz2⟩ := info_parts info_u8
  have := run_make (P := Try.prog) W 27 5 i0 (.int .u8 0) Try.underlying27 hi hz0 .i64 .i64 (n : Int) (n : Int) (by omega) (by omega) (by rw [hz2]; omega) (by omega)
  rw [this]
  simp only [Int.toNat_natCast, hz1, Nat.mul_one]
  have e : madeCells (Value.int .u8 0).cells n = ((List.replicate n 0).map vb).toArray := by
    apply Array.toList_inj.1
    rw [show (Value.int .u8 0).cells = #[Value.int .u8 0] from rfl, toList_madeCells_one]
    simp [vb]
  rw [e]
theorem min3_any (l m : Nat) : ∃ n : Nat, n ≤ l ∧ n ≤ m ∧ n ≤ 2000 ∧ ∀ (W : World) (ts : Array TypeId) (t : TypeId), (Builtin.min_ ts t #[.int .i64 (l : Int), .int .i64 (m : Int), .int .i64 2000]).run Try.prog W = .ok (.int .i64 (n : Int)) W := by
  by_cases h1 : (m : Int) < (l : Int)
  · by_cases h2 : (2000 : Int) < (m : Int)
    · exact ⟨2000, by omega, by omega, by omega, fun W ts t => by simp [Builtin.min_, Builtin.min2, h1, h2]⟩
    · exact ⟨m, by omega, by omega, by omega, fun W ts t => by simp [Builtin.min_, Builtin.min2, h1, h2]⟩
  · by_cases h2 : (2000 : Int) < (l : Int)
    · exact ⟨2000, by omega, by omega, by omega, fun W ts t => by simp [Builtin.min_, Builtin.min2, h1, h2]⟩
    · exact ⟨l, by omega, by omega, by omega, fun W ts t => by simp [Builtin.min_, Builtin.min2, h1, h2]⟩
structure AddsAt (w : World) (g h : Nat) (a : Option Addr) (n la : Nat) (xs : List Nat) (b : Option Addr) (lb : Nat) (ys : List Nat) (X : Nat) (U : List Nat) (W : World) : Prop where
  key : KeyAt W g h
  one : BytesIn W a n la xs
  two : BytesIn W b n lb ys
  row : Blk W X 5 (U.map vb).toArray
  nu : Below w.heap.size w W
theorem AddsAt.below {w : World} {g h : Nat} {a : Option Addr} {n la : Nat} {xs : List Nat} {b : Option Addr} {lb : Nat} {ys : List Nat} {X : Nat} {U : List Nat} {W W' : World} (H : AddsAt w g h a n la xs b lb ys X U W) (hb : Below W.heap.size W W') : AddsAt w g h a n la xs b lb ys X U W' :=
  ⟨Blk.below H.key hb (Blk.lt H.key), H.one.keep hb, H.two.keep hb, Blk.below H.row hb (Blk.lt H.row), nu_trans H.nu hb⟩

set_option maxRecDepth 100000 in
set_option maxHeartbeats 4000000 in
theorem ghashAdds_walk (ks : List Nat) (hkl : ks.length = 16) (hkx : ∀ x ∈ ks, x < 256) (a b : Option Addr) (la ca lb cb : Nat) (xs ys : List Nat) (w : World) (hx : BytesIn w a la ca xs) (hy : BytesIn w b lb cb ys) (hac : la ≤ ca) (hbc : lb ≤ cb) (hca : ca ≤ 140737488355320) (hcb : cb ≤ 140737488355320) :
    Calls Try.prog 6 #[.agg (ks.map vb).toArray, .slice a la ca, .slice b lb cb] w fun e w' => e = .returned (.bool true) ∧ Below w.heap.size w w' := by
  have Hal := Lib.hid (nu_alloc (nu_refl w) (.cells (ks.map vb).toArray 22))
  have HK1 := Lib.hid (Blk.made w 22 (ks.map vb).toArray)
  obtain ⟨n, hn1, hn2, hn3, hmin⟩ := min3_any la lb
  have hmk := mk_zeros n (by omega)
  obtain ⟨xn, hxn⟩ : ∃ l, l = xs.take n := ⟨_, rfl⟩
  obtain ⟨yn, hyn⟩ : ∃ l, l = ys.take n := ⟨_, rfl⟩
  have hX1 := (hx.keep Hal.out).first hn1
  have hY1 := (hy.keep Hal.out).first hn2
  rw [← hxn] at hX1
  rw [← hyn] at hY1
  have HX1 := Lib.hid hX1
  have HY1 := Lib.hid hY1
  have Hxl := Lib.hid hX1.1.1
  have Hyl := Lib.hid hY1.1.1
  have Hxx := Lib.hid (fun x h => wf_u8_lt (hX1.1.2.1 x h))
  have Hyx := Lib.hid (fun x h => wf_u8_lt (hY1.1.2.1 x h))
  obtain ⟨U, hU⟩ : ∃ U, U = xorL xn yn := ⟨_, rfl⟩
  have HUl := Lib.hid (show U.length = n by rw [hU, xorL_len _ _ (by rw [Hxl.out, Hyl.out]), Hxl.out])
  have HUe := Lib.hid hU
  have HUx := Lib.hid (show ∀ x ∈ U, x < 256 by rw [hU]; exact xorL_lt _ _ Hxx.out Hyx.out)
  have hadd := gadds (polB ks) (polB_lt ks) xn yn (by rw [Hxl.out, Hyl.out]) Hxx.out Hyx.out
  rw [← hU, Hxl.out] at hadd
  obtain ⟨D1, hD1⟩ : ∃ D, gsumB (polB ks) [] xn = D := ⟨_, rfl⟩
  obtain ⟨D2, hD2⟩ : ∃ D, gsumB (polB ks) [] yn = D := ⟨_, rfl⟩
  obtain ⟨D3, hD3⟩ : ∃ D, gsumB (polB ks) [] U = D := ⟨_, rfl⟩
  obtain ⟨Z, hZ⟩ : ∃ Z : List Nat, Z = List.replicate n 0 := ⟨_, rfl⟩
  rw [← hZ] at hmk hadd
  obtain ⟨D4, hD4⟩ : ∃ D, gsumB (polB ks) [] Z = D := ⟨_, rfl⟩
  obtain ⟨R, hR⟩ : ∃ R, xorB D1 D2 = R := ⟨_, rfl⟩
  rw [hD1, hD2, hD3, hD4, hR] at hadd
  have HD1 := Lib.hid hD1
  have HD2 := Lib.hid hD2
  have HD3 := Lib.hid hD3
  have HD4 := Lib.hid hD4
  have HZ := Lib.hid hZ
  have HZx := Lib.hid (show ∀ x ∈ Z, x < 256 from fun x h => by rw [hZ] at h; rw [(List.mem_replicate.1 h).2]; omega)
  have HZl := Lib.hid (show Z.length = n by rw [hZ, List.length_replicate])
  have HR1 := Lib.hid hR
  have HR2 := Lib.hid hadd.symm
  have HL : ∀ D zs, gsumB (polB ks) [] zs = D → D.length = 16 ∧ ∀ x ∈ D, x < 256 := fun D zs e => ⟨by rw [← e]; exact bytB_len _, by rw [← e]; exact bytB_lt _⟩
  have HL1 := Lib.hid (HL _ _ hD1)
  have HL2 := Lib.hid (HL _ _ hD2)
  have HL3 := Lib.hid (HL _ _ hD3)
  have HL4 := Lib.hid (HL _ _ hD4)
  have HRl := Lib.hid (show R.length = 16 by rw [← hR]; exact xorB_len _ _)
  have HRx := Lib.hid (show ∀ x ∈ R, x < 256 by rw [← hR]; exact xorB_lt _ _)
  have Hsz := Lib.hid (show (Try.prog.info? 22).map (·.size) = some (ks.map vb).toArray.size by rw [List.size_toArray, List.length_map, hkl]; kernel_rfl)
  have HN := Lib.hid (gh_new ks hkl hkx)
  have Hkl := Lib.hid hkl
  have Hkx := Lib.hid hkx
  have Hhh := Lib.hid (polB_lt ks)
  have hni0 : (0 : Int) ≤ (n : Int) := by omega
  have hnia : (n : Int) ≤ (ca : Int) := by omega
  have hnib : (n : Int) ≤ (cb : Int) := by omega
  clear hx hy hX1 hY1 hkl hkx hxn hyn hU hadd hD1 hD2 hD3 hD4 hR HL hZ
  go_enter Try.func6, Try.ntmps6
  go_upto_region 2 with fail
  generalize w.alloc (.cells (ks.map vb).toArray 22) = w1 at *
  obtain ⟨B0, hB0⟩ : ∃ B0, B0 = w.heap.size := ⟨_, rfl⟩
  rw [← hB0] at HK1
  rw [← hB0]
  clear hB0
  have HNw := Lib.hid (HN.out w1)
  go_wp2_with (refine wpList_run _ rfl (exec_load_mid (P := Try.prog) (w := w1) 22 (.tmp 3) B0 0 (ks.map vb) (.array 16 5) rfl rfl (range_mid HK1.out (l := []) (r := []) (by simp) rfl) (by kernel_rfl) rfl (by rw [List.length_map, Hkl.out]; kernel_rfl)) ?_)
  refine HNw.out.mono ?_
  rintro e w2 ⟨g, rfl, hg0, hKA, hb2⟩
  have HKA := Lib.hid hKA
  have HX2 := Lib.hid (HX1.out.keep hb2)
  have HY2 := Lib.hid (HY1.out.keep hb2)
  have Hn2 := Lib.hid (nu_trans Hal.out hb2)
  clear hKA hb2 HX1 HY1 HK1 HNw hg0 HN
  go_wp2_with fail
  have hal := nu_alloc (nu_refl w2) (.cells (Z.map vb).toArray 5)
  have HZ0 := Lib.hid (Blk.made w2 5 (Z.map vb).toArray)
  obtain ⟨X, hX⟩ : ∃ X, X = w2.heap.size := ⟨_, rfl⟩
  have HXw := Lib.hid (show w2.heap.size ≤ X by omega)
  rw [← hX] at HZ0
  rw [← hX]
  clear hX
  go_loopw [10] (fun i wr => ∃ k : Nat, k ≤ n ∧ i = .int .i64 k ∧ Blk wr X 5 ((fillTo U n k).map vb).toArray ∧ Below w2.heap.size w2 wr) (fun i _ => n - (intOf i).toNat)
  case atStart => exact ⟨0, by omega, rfl, by rw [fillTo_zero, ← HZ.out]; exact HZ0.out, hal⟩
  case round =>
    clear HZ0 hal
    obtain ⟨k, hk, rfl, hB, hn⟩ := hrel
    have HB := Lib.hid hB
    clear hB
    by_cases hlt : k < n
    · have hki : (k : Int) < (n : Int) := by omega
      have hka : (k : Int) < (la : Int) := by omega
      have hkb : (k : Int) < (lb : Int) := by omega
      obtain ⟨b1, o1, x, ha, _, hxk, hwx, hcx⟩ := (HX2.out.keep hn).1.elem k hlt
      obtain ⟨b2, o2, y, hb, _, hyk, hwy, hcy⟩ := (HY2.out.keep hn).1.elem k hlt
      have e1 := u8_xor_nat x y (wf_u8_lt hwx) (wf_u8_lt hwy)
      have hUk : U[k]? = some (x ^^^ y) := by rw [HUe.out, xorL, List.getElem?_zipWith, hxk, hyk]
      have hset := fillTo_succ U n k (x ^^^ y) HUl.out hlt hUk
      have Hat := Lib.hid (fillTo_at U n k HUl.out hlt)
      have Hset := Lib.hid hset
      clear hset hUk hxk hyk hwx hwy
      generalize x ^^^ y = z at *
      subst ha
      subst hb
      go_upto_region 7 with fail
      go_still_tail 11, (by kernel_rfl)
      change wpList _ _ _ _ _ wr.drew
      have HB2 := Lib.hid HB.out.drew
      have hn2 := hn.drew
      clear hn HB hcx hcy
      generalize wr.drew = w3 at *
      have d0 : w3.cell? ⟨X, k, none⟩ = some (.int .u8 0) := HB2.out.at k _ (arr_at _ k 0 Hat.out)
      have f0 := HB2.out.free k
      have h := HB2.out.put k (vb z)
      rw [arr_set, Hset.out] at h
      have HB3 := Lib.hid h
      have Hn3 := Lib.hid (nu_set hn2 (p := ⟨X, k, none⟩) HXw.out (vb z))
      simp only [vb] at HB3 Hn3
      clear h hn2
      go_wp2_with fail
      go_roundw
      case rel => first | exact ⟨k + 1, by omega, by go_num, HB3.out, Hn3.out⟩ | ((repeat apply Exists.intro); exact ⟨⟨k + 1, by omega, by go_num, HB3.out, Hn3.out⟩, rfl⟩)
      case measure => simp [intOf]; omega
    · obtain rfl : k = n := by omega
      have hB := HB.out
      rw [fillTo_all U k HUl.out] at hB
      have HA1 := Lib.hid (show AddsAt w g (polB ks) a k ca xn b cb yn X U wr from ⟨Blk.below HKA.out hn (Blk.lt HKA.out), HX2.out.keep hn, HY2.out.keep hn, hB, nu_trans Hn2.out hn⟩)
      clear hn HB hB HKA HX2 HY2 Hn2 HXw hlt hk
      go_upto_region 8 with fail
      go_cut [11] (fun s wx => ∃ E2, s = .pointer (some ⟨E2, 0, none⟩) ∧ AddsAt w g (polB ks) a k ca xn b cb yn X U wx ∧ Blk wx E2 22 (R.map vb).toArray)
      case first =>
        refine wp_region_held_drew (S := fun _ => True) (by kernel_rfl) (trivial) (fun hHeld => ?_)
        dsimp only [Array.replicate, List.replicate, List.size_toArray, List.length_cons, List.length_nil, Nat.reduceAdd] at hHeld ⊢
        have HA2 := Lib.hid (HA1.out.below (nu_drew (nu_refl _)))
        clear HA1
        generalize wr.drew = u2 at *
        refine take_l (i := 0) (v := ?_) rfl (by kernel_rfl) (by kernel_rfl) (by kernel_rfl) (fun _ _ _ h => h) (Or.inl ⟨by rfl, ?_⟩) (by assumption) ?_
        case refine_2 => (intro _ _; go_simp; all_goals with_reducible rfl)
        simp only [Act.put, List.setIfInBounds_toArray, List.set_cons_zero, List.set_cons_succ]
        refine take_l (i := 1) (v := ?_) rfl (by kernel_rfl) (by kernel_rfl) (by kernel_rfl) (fun _ _ _ h => h) (Or.inl ⟨by rfl, ?_⟩) (by assumption) ?_
        case refine_2 => (intro _ _; go_simp; all_goals with_reducible rfl)
        simp only [Act.put, List.setIfInBounds_toArray, List.set_cons_zero, List.set_cons_succ]
        refine take_l (i := 2) (v := ?_) rfl (by kernel_rfl) (by kernel_rfl) (by kernel_rfl) (fun _ _ _ h => h) (Or.inl ⟨by rfl, ?_⟩) (by assumption) ?_
        case refine_2 => (intro _ _; go_simp; all_goals with_reducible rfl)
        simp only [Act.put, List.setIfInBounds_toArray, List.set_cons_zero, List.set_cons_succ]
        refine take_l (i := 3) (v := ?_) rfl (by kernel_rfl) (by kernel_rfl) (by kernel_rfl) (fun _ _ _ h => h) (Or.inl ⟨by rfl, ?_⟩) (by assumption) ?_
        case refine_2 => (intro _ _; go_simp; all_goals with_reducible rfl)
        simp only [Act.put, List.setIfInBounds_toArray, List.set_cons_zero, List.set_cons_succ]
        refine take_l (i := 5) (v := ?_) rfl (by kernel_rfl) (by kernel_rfl) (by kernel_rfl) (fun _ _ _ h => h) (Or.inl ⟨by rfl, ?_⟩) (by assumption) ?_
        case refine_2 => (intro _ _; go_simp; all_goals with_reducible rfl)
        simp only [Act.put, List.setIfInBounds_toArray, List.set_cons_zero, List.set_cons_succ]
        refine take_l (i := 6) (v := ?_) rfl (by kernel_rfl) (by kernel_rfl) (by kernel_rfl) (fun _ _ _ h => h) (Or.inl ⟨by rfl, ?_⟩) (by assumption) ?_
        case refine_2 => (intro _ _; go_simp; all_goals with_reducible rfl)
        simp only [Act.put, List.setIfInBounds_toArray, List.set_cons_zero, List.set_cons_succ]
        refine take_l (i := 7) (v := ?_) rfl (by kernel_rfl) (by kernel_rfl) (by kernel_rfl) (fun _ _ _ h => h) (Or.inl ⟨by rfl, ?_⟩) (by assumption) ?_
        case refine_2 => (intro _ _; go_simp; all_goals with_reducible rfl)
        simp only [Act.put, List.setIfInBounds_toArray, List.set_cons_zero, List.set_cons_succ]
        refine take_l (i := 8) (v := ?_) rfl (by kernel_rfl) (by kernel_rfl) (by kernel_rfl) (fun _ _ _ h => h) (Or.inl ⟨by rfl, ?_⟩) (by assumption) ?_
        case refine_2 => (intro _ _; go_simp; all_goals with_reducible rfl)
        simp only [Act.put, List.setIfInBounds_toArray, List.set_cons_zero, List.set_cons_succ]
        clear hHeld
        refine wpAnyH_ready (rs := [4, 11]) (by kernel_rfl) (by simp) ?_
        refine cons_l rfl (fun K hK => ?_) (cons_l rfl (fun K hK => ?_) AllReadyH.nil)
        · go_simp
          go_at_call 22
          refine (gh_sum_is HD1.out HA2.out.key Hhh.out (BytesIn.nil_ _) HA2.out.one ⟨Nat.le_refl _, by decide⟩ ⟨by omega, hca⟩).mono ?_
          rintro e u3 ⟨rfl, hb⟩
          have HA3 := Lib.hid (HA2.out.below hb)
          clear hb HA2 
          go_wp2_with fail
          refine hK.out _ _ trivial (fun hHeld => ?_)
          clear hK K hHeld
          simp only [Act.put, List.setIfInBounds_toArray, List.set_cons_zero, List.set_cons_succ]
          refine wpAnyH_ready (rs := [9, 11]) (by kernel_rfl) (by simp) ?_
          refine cons_l rfl (fun K hK => ?_) (cons_l rfl (fun K hK => ?_) AllReadyH.nil)
          · go_simp
            go_at_call 22
            refine (gh_sum_is HD2.out HA3.out.key Hhh.out (BytesIn.nil_ _) HA3.out.two ⟨Nat.le_refl _, by decide⟩ ⟨by omega, hcb⟩).mono ?_
            rintro e u4 ⟨rfl, hb⟩
            have HA4 := Lib.hid (HA3.out.below hb)
            clear hb HA3 
            go_wp2_with fail
            refine hK.out _ _ trivial (fun hHeld => ?_)
            clear hK K hHeld
            simp only [Act.put, List.setIfInBounds_toArray, List.set_cons_zero, List.set_cons_succ]
            refine wpAnyH_ready (rs := [10, 11]) (by kernel_rfl) (by simp) ?_
            refine cons_l rfl (fun K hK => ?_) (cons_l rfl (fun K hK => ?_) AllReadyH.nil)
            · go_simp
              go_at_call 18
              refine (ref_add_is HR1.out HL1.out.1 HL2.out.1 HL1.out.2 HL2.out.2 u4).mono ?_
              rintro e u5 ⟨rfl, hb⟩
              have HA5 := Lib.hid (HA4.out.below hb)
              clear hb HA4 
              go_wp2_with fail
              refine hK.out _ _ trivial (fun hHeld => ?_)
              clear hK K hHeld
              simp only [Act.put, List.setIfInBounds_toArray, List.set_cons_zero, List.set_cons_succ]
              refine wpAnyH_ready (rs := [11]) (by kernel_rfl) (by simp) ?_
              refine cons_l rfl (fun K hK => ?_) AllReadyH.nil
              have hb := nu_alloc (nu_refl u5) (.cells z16l.toArray 22)
              have HF6 := Lib.hid (Blk.made u5 22 z16l.toArray)
              have HA6 := Lib.hid (HA5.out.below hb)
              have HP := Lib.hid HA5.out
              have HB6 := Lib.hid hb
              have HEw := Lib.hid (Nat.le_refl u5.heap.size)
              go_simp
              go_wp2_with fail
              clear hb HA5 
              generalize u5.alloc (.cells z16l.toArray 22) = u6 at *
              obtain ⟨E2, hE2⟩ : ∃ E2, E2 = u5.heap.size := ⟨_, rfl⟩
              have HEw := Lib.hid (show u5.heap.size ≤ E2 by omega)
              rw [← hE2] at HF6
              rw [← hE2]
              clear hE2
              refine hK.out _ _ trivial (fun hHeld => ?_)
              clear hK K hHeld
              simp only [Act.put, List.setIfInBounds_toArray, List.set_cons_zero, List.set_cons_succ]
              refine wpAnyH_ready (rs := [12]) (by kernel_rfl) (by simp) ?_
              refine cons_l rfl (fun K hK => ?_) AllReadyH.nil
              refine step_store_blk rfl 22 (.tmp 11) (.tmp 49) rfl E2 (R.map vb) rfl rfl 22 z16l.toArray HF6.out (by rw [List.length_map, HRl.out]; rfl) (by rw [List.length_map, HRl.out]; kernel_rfl) (vb_one R) ?_
              have hnf := nu_fill (R.map vb) HEw.out 0 u6 HB6.out
              have HAf := Lib.hid (HP.out.below hnf)
              have HFf := Lib.hid (Blk.fill HF6.out (R.map vb) (by rw [List.length_map, HRl.out]; rfl))
              refine hK.out _ _ trivial (fun hHeld => ?_)
              clear hK K hHeld
              simp only [Act.put, List.setIfInBounds_toArray, List.set_cons_zero, List.set_cons_succ]
              refine wpAnyH_done (by kernel_rfl) ?_ _
              clear hnf
              generalize u6.setCells E2 0 (R.map vb) = uf at *
              go_wp2_with fail
              go_meet
              exact ⟨E2, rfl, HAf.out, HFf.out⟩
            · have hb := nu_alloc (nu_refl u4) (.cells z16l.toArray 22)
              have HF5 := Lib.hid (Blk.made u4 22 z16l.toArray)
              have HA5 := Lib.hid (HA4.out.below hb)
              have HP := Lib.hid HA4.out
              have HB5 := Lib.hid hb
              have HEw := Lib.hid (Nat.le_refl u4.heap.size)
              go_simp
              go_wp2_with fail
              clear hb HA4 
              generalize u4.alloc (.cells z16l.toArray 22) = u5 at *
              obtain ⟨E2, hE2⟩ : ∃ E2, E2 = u4.heap.size := ⟨_, rfl⟩
              have HEw := Lib.hid (show u4.heap.size ≤ E2 by omega)
              rw [← hE2] at HF5
              rw [← hE2]
              clear hE2
              refine hK.out _ _ trivial (fun hHeld => ?_)
              clear hK K hHeld
              simp only [Act.put, List.setIfInBounds_toArray, List.set_cons_zero, List.set_cons_succ]
              refine wpAnyH_ready (rs := [10]) (by kernel_rfl) (by simp) ?_
              refine cons_l rfl (fun K hK => ?_) AllReadyH.nil
              go_simp
              go_at_call 18
              refine (ref_add_is HR1.out HL1.out.1 HL2.out.1 HL1.out.2 HL2.out.2 u5).mono ?_
              rintro e u6 ⟨rfl, hb⟩
              have HA6 := Lib.hid (HA5.out.below hb)
              have HF6 := Lib.hid (Blk.below HF5.out hb (Blk.lt HF5.out))
              have HB6 := Lib.hid (nu_trans HB5.out hb)
              clear hb HA5 HF5 HB5
              go_wp2_with fail
              refine hK.out _ _ trivial (fun hHeld => ?_)
              clear hK K hHeld
              simp only [Act.put, List.setIfInBounds_toArray, List.set_cons_zero, List.set_cons_succ]
              refine wpAnyH_ready (rs := [12]) (by kernel_rfl) (by simp) ?_
              refine cons_l rfl (fun K hK => ?_) AllReadyH.nil
              refine step_store_blk rfl 22 (.tmp 11) (.tmp 49) rfl E2 (R.map vb) rfl rfl 22 z16l.toArray HF6.out (by rw [List.length_map, HRl.out]; rfl) (by rw [List.length_map, HRl.out]; kernel_rfl) (vb_one R) ?_
              have hnf := nu_fill (R.map vb) HEw.out 0 u6 HB6.out
              have HAf := Lib.hid (HP.out.below hnf)
              have HFf := Lib.hid (Blk.fill HF6.out (R.map vb) (by rw [List.length_map, HRl.out]; rfl))
              refine hK.out _ _ trivial (fun hHeld => ?_)
              clear hK K hHeld
              simp only [Act.put, List.setIfInBounds_toArray, List.set_cons_zero, List.set_cons_succ]
              refine wpAnyH_done (by kernel_rfl) ?_ _
              clear hnf
              generalize u6.setCells E2 0 (R.map vb) = uf at *
              go_wp2_with fail
              go_meet
              exact ⟨E2, rfl, HAf.out, HFf.out⟩
          · have hb := nu_alloc (nu_refl u3) (.cells z16l.toArray 22)
            have HF4 := Lib.hid (Blk.made u3 22 z16l.toArray)
            have HA4 := Lib.hid (HA3.out.below hb)
            have HP := Lib.hid HA3.out
            have HB4 := Lib.hid hb
            have HEw := Lib.hid (Nat.le_refl u3.heap.size)
            go_simp
            go_wp2_with fail
            clear hb HA3 
            generalize u3.alloc (.cells z16l.toArray 22) = u4 at *
            obtain ⟨E2, hE2⟩ : ∃ E2, E2 = u3.heap.size := ⟨_, rfl⟩
            have HEw := Lib.hid (show u3.heap.size ≤ E2 by omega)
            rw [← hE2] at HF4
            rw [← hE2]
            clear hE2
            refine hK.out _ _ trivial (fun hHeld => ?_)
            clear hK K hHeld
            simp only [Act.put, List.setIfInBounds_toArray, List.set_cons_zero, List.set_cons_succ]
            refine wpAnyH_ready (rs := [9]) (by kernel_rfl) (by simp) ?_
            refine cons_l rfl (fun K hK => ?_) AllReadyH.nil
            go_simp
            go_at_call 22
            refine (gh_sum_is HD2.out HA4.out.key Hhh.out (BytesIn.nil_ _) HA4.out.two ⟨Nat.le_refl _, by decide⟩ ⟨by omega, hcb⟩).mono ?_
            rintro e u5 ⟨rfl, hb⟩
            have HA5 := Lib.hid (HA4.out.below hb)
            have HF5 := Lib.hid (Blk.below HF4.out hb (Blk.lt HF4.out))
            have HB5 := Lib.hid (nu_trans HB4.out hb)
            clear hb HA4 HF4 HB4
            go_wp2_with fail
            refine hK.out _ _ trivial (fun hHeld => ?_)
            clear hK K hHeld
            simp only [Act.put, List.setIfInBounds_toArray, List.set_cons_zero, List.set_cons_succ]
            refine wpAnyH_ready (rs := [10]) (by kernel_rfl) (by simp) ?_
            refine cons_l rfl (fun K hK => ?_) AllReadyH.nil
            go_simp
            go_at_call 18
            refine (ref_add_is HR1.out HL1.out.1 HL2.out.1 HL1.out.2 HL2.out.2 u5).mono ?_
            rintro e u6 ⟨rfl, hb⟩
            have HA6 := Lib.hid (HA5.out.below hb)
            have HF6 := Lib.hid (Blk.below HF5.out hb (Blk.lt HF5.out))
            have HB6 := Lib.hid (nu_trans HB5.out hb)
            clear hb HA5 HF5 HB5
            go_wp2_with fail
            refine hK.out _ _ trivial (fun hHeld => ?_)
            clear hK K hHeld
            simp only [Act.put, List.setIfInBounds_toArray, List.set_cons_zero, List.set_cons_succ]
            refine wpAnyH_ready (rs := [12]) (by kernel_rfl) (by simp) ?_
            refine cons_l rfl (fun K hK => ?_) AllReadyH.nil
            refine step_store_blk rfl 22 (.tmp 11) (.tmp 49) rfl E2 (R.map vb) rfl rfl 22 z16l.toArray HF6.out (by rw [List.length_map, HRl.out]; rfl) (by rw [List.length_map, HRl.out]; kernel_rfl) (vb_one R) ?_
            have hnf := nu_fill (R.map vb) HEw.out 0 u6 HB6.out
            have HAf := Lib.hid (HP.out.below hnf)
            have HFf := Lib.hid (Blk.fill HF6.out (R.map vb) (by rw [List.length_map, HRl.out]; rfl))
            refine hK.out _ _ trivial (fun hHeld => ?_)
            clear hK K hHeld
            simp only [Act.put, List.setIfInBounds_toArray, List.set_cons_zero, List.set_cons_succ]
            refine wpAnyH_done (by kernel_rfl) ?_ _
            clear hnf
            generalize u6.setCells E2 0 (R.map vb) = uf at *
            go_wp2_with fail
            go_meet
            exact ⟨E2, rfl, HAf.out, HFf.out⟩
        · have hb := nu_alloc (nu_refl u2) (.cells z16l.toArray 22)
          have HF3 := Lib.hid (Blk.made u2 22 z16l.toArray)
          have HA3 := Lib.hid (HA2.out.below hb)
          have HP := Lib.hid HA2.out
          have HB3 := Lib.hid hb
          have HEw := Lib.hid (Nat.le_refl u2.heap.size)
          go_simp
          go_wp2_with fail
          clear hb HA2 
          generalize u2.alloc (.cells z16l.toArray 22) = u3 at *
          obtain ⟨E2, hE2⟩ : ∃ E2, E2 = u2.heap.size := ⟨_, rfl⟩
          have HEw := Lib.hid (show u2.heap.size ≤ E2 by omega)
          rw [← hE2] at HF3
          rw [← hE2]
          clear hE2
          refine hK.out _ _ trivial (fun hHeld => ?_)
          clear hK K hHeld
          simp only [Act.put, List.setIfInBounds_toArray, List.set_cons_zero, List.set_cons_succ]
          refine wpAnyH_ready (rs := [4]) (by kernel_rfl) (by simp) ?_
          refine cons_l rfl (fun K hK => ?_) AllReadyH.nil
          go_simp
          go_at_call 22
          refine (gh_sum_is HD1.out HA3.out.key Hhh.out (BytesIn.nil_ _) HA3.out.one ⟨Nat.le_refl _, by decide⟩ ⟨by omega, hca⟩).mono ?_
          rintro e u4 ⟨rfl, hb⟩
          have HA4 := Lib.hid (HA3.out.below hb)
          have HF4 := Lib.hid (Blk.below HF3.out hb (Blk.lt HF3.out))
          have HB4 := Lib.hid (nu_trans HB3.out hb)
          clear hb HA3 HF3 HB3
          go_wp2_with fail
          refine hK.out _ _ trivial (fun hHeld => ?_)
          clear hK K hHeld
          simp only [Act.put, List.setIfInBounds_toArray, List.set_cons_zero, List.set_cons_succ]
          refine wpAnyH_ready (rs := [9]) (by kernel_rfl) (by simp) ?_
          refine cons_l rfl (fun K hK => ?_) AllReadyH.nil
          go_simp
          go_at_call 22
          refine (gh_sum_is HD2.out HA4.out.key Hhh.out (BytesIn.nil_ _) HA4.out.two ⟨Nat.le_refl _, by decide⟩ ⟨by omega, hcb⟩).mono ?_
          rintro e u5 ⟨rfl, hb⟩
          have HA5 := Lib.hid (HA4.out.below hb)
          have HF5 := Lib.hid (Blk.below HF4.out hb (Blk.lt HF4.out))
          have HB5 := Lib.hid (nu_trans HB4.out hb)
          clear hb HA4 HF4 HB4
          go_wp2_with fail
          refine hK.out _ _ trivial (fun hHeld => ?_)
          clear hK K hHeld
          simp only [Act.put, List.setIfInBounds_toArray, List.set_cons_zero, List.set_cons_succ]
          refine wpAnyH_ready (rs := [10]) (by kernel_rfl) (by simp) ?_
          refine cons_l rfl (fun K hK => ?_) AllReadyH.nil
          go_simp
          go_at_call 18
          refine (ref_add_is HR1.out HL1.out.1 HL2.out.1 HL1.out.2 HL2.out.2 u5).mono ?_
          rintro e u6 ⟨rfl, hb⟩
          have HA6 := Lib.hid (HA5.out.below hb)
          have HF6 := Lib.hid (Blk.below HF5.out hb (Blk.lt HF5.out))
          have HB6 := Lib.hid (nu_trans HB5.out hb)
          clear hb HA5 HF5 HB5
          go_wp2_with fail
          refine hK.out _ _ trivial (fun hHeld => ?_)
          clear hK K hHeld
          simp only [Act.put, List.setIfInBounds_toArray, List.set_cons_zero, List.set_cons_succ]
          refine wpAnyH_ready (rs := [12]) (by kernel_rfl) (by simp) ?_
          refine cons_l rfl (fun K hK => ?_) AllReadyH.nil
          refine step_store_blk rfl 22 (.tmp 11) (.tmp 49) rfl E2 (R.map vb) rfl rfl 22 z16l.toArray HF6.out (by rw [List.length_map, HRl.out]; rfl) (by rw [List.length_map, HRl.out]; kernel_rfl) (vb_one R) ?_
          have hnf := nu_fill (R.map vb) HEw.out 0 u6 HB6.out
          have HAf := Lib.hid (HP.out.below hnf)
          have HFf := Lib.hid (Blk.fill HF6.out (R.map vb) (by rw [List.length_map, HRl.out]; rfl))
          refine hK.out _ _ trivial (fun hHeld => ?_)
          clear hK K hHeld
          simp only [Act.put, List.setIfInBounds_toArray, List.set_cons_zero, List.set_cons_succ]
          refine wpAnyH_done (by kernel_rfl) ?_ _
          clear hnf
          generalize u6.setCells E2 0 (R.map vb) = uf at *
          go_wp2_with fail
          go_meet
          exact ⟨E2, rfl, HAf.out, HFf.out⟩
      case rest =>
        obtain ⟨E, rfl, hA, hE⟩ := hcut
        have HA1 := Lib.hid hA
        have HE1 := Lib.hid hE
        clear hA hE
        go_upto_region 9 with fail
        go_cut [12] (fun s wx => ∃ E2, s = .pointer (some ⟨E2, 0, none⟩) ∧ Blk wx E 22 (R.map vb).toArray ∧ Blk wx E2 22 (R.map vb).toArray ∧ Below w.heap.size w wx)
        case first =>
          refine wp_region_held_drew (S := fun _ => True) (by kernel_rfl) (trivial) (fun hHeld => ?_)
          dsimp only [Array.replicate, List.replicate, List.size_toArray, List.length_cons, List.length_nil, Nat.reduceAdd] at hHeld ⊢
          have HA2 := Lib.hid (HA1.out.below (nu_drew (nu_refl _)))
          have HE2 := Lib.hid HE1.out.drew
          clear HA1 HE1
          generalize wc.drew = u2 at *
          refine take_l (i := 0) (v := ?_) rfl (by kernel_rfl) (by kernel_rfl) (by kernel_rfl) (fun _ _ _ h => h) (Or.inl ⟨by rfl, ?_⟩) (by assumption) ?_
          case refine_2 => (intro _ _; go_simp; all_goals with_reducible rfl)
          simp only [Act.put, List.setIfInBounds_toArray, List.set_cons_zero, List.set_cons_succ]
          refine take_l (i := 1) (v := ?_) rfl (by kernel_rfl) (by kernel_rfl) (by kernel_rfl) (fun _ _ _ h => h) (Or.inl ⟨by rfl, ?_⟩) (by assumption) ?_
          case refine_2 => (intro _ _; go_simp; all_goals with_reducible rfl)
          simp only [Act.put, List.setIfInBounds_toArray, List.set_cons_zero, List.set_cons_succ]
          refine take_l (i := 3) (v := ?_) rfl (by kernel_rfl) (by kernel_rfl) (by kernel_rfl) (fun _ _ _ h => h) (Or.inl ⟨by rfl, ?_⟩) (by assumption) ?_
          case refine_2 => (intro _ _; go_simp; all_goals with_reducible rfl)
          simp only [Act.put, List.setIfInBounds_toArray, List.set_cons_zero, List.set_cons_succ]
          refine take_l (i := 4) (v := ?_) rfl (by kernel_rfl) (by kernel_rfl) (by kernel_rfl) (fun _ _ _ h => h) (Or.inl ⟨by rfl, ?_⟩) (by assumption) ?_
          case refine_2 => (intro _ _; go_simp; all_goals with_reducible rfl)
          simp only [Act.put, List.setIfInBounds_toArray, List.set_cons_zero, List.set_cons_succ]
          clear hHeld
          refine wpAnyH_ready (rs := [2, 5, 8]) (by kernel_rfl) (by simp) ?_
          refine cons_l rfl (fun K hK => ?_) (cons_l rfl (fun K hK => ?_) (cons_l rfl (fun K hK => ?_) AllReadyH.nil))
          · go_simp
            go_at_call 22
            refine (gh_sum_is HD3.out HA2.out.key Hhh.out (BytesIn.nil_ _) (blk_bytes HA2.out.row HUl.out HUx.out) ⟨Nat.le_refl _, by decide⟩ ⟨Nat.le_refl _, by omega⟩).mono ?_
            rintro e u3 ⟨rfl, hb⟩
            have HA3 := Lib.hid (HA2.out.below hb)
            have HE3 := Lib.hid (Blk.below HE2.out hb (Blk.lt HE2.out))
            clear hb HA2 HE2
            go_wp2_with fail
            refine hK.out _ _ trivial (fun hHeld => ?_)
            clear hK K hHeld
            simp only [Act.put, List.setIfInBounds_toArray, List.set_cons_zero, List.set_cons_succ]
            refine wpAnyH_ready (rs := [5, 8]) (by kernel_rfl) (by simp) ?_
            refine cons_l rfl (fun K hK => ?_) (cons_l rfl (fun K hK => ?_) AllReadyH.nil)
            · have hb := nu_alloc (nu_refl u3) (.cells (Z.map vb).toArray 5)
              have HM4 := Lib.hid (Blk.made u3 5 (Z.map vb).toArray)
              have HA4 := Lib.hid (HA3.out.below hb)
              have HE4 := Lib.hid (Blk.below HE3.out hb (Blk.lt HE3.out))
              go_simp
              go_wp2_with fail
              clear hb HA3 HE3
              generalize u3.alloc (.cells (Z.map vb).toArray 5) = u4 at *
              obtain ⟨M, hM⟩ : ∃ M, M = u3.heap.size := ⟨_, rfl⟩
              rw [← hM] at HM4
              rw [← hM]
              clear hM
              refine hK.out _ _ trivial (fun hHeld => ?_)
              clear hK K hHeld
              simp only [Act.put, List.setIfInBounds_toArray, List.set_cons_zero, List.set_cons_succ]
              refine wpAnyH_ready (rs := [6, 8]) (by kernel_rfl) (by simp) ?_
              refine cons_l rfl (fun K hK => ?_) (cons_l rfl (fun K hK => ?_) AllReadyH.nil)
              · go_simp
                go_at_call 22
                refine (gh_sum_is HD4.out HA4.out.key Hhh.out (BytesIn.nil_ _) (blk_bytes HM4.out HZl.out HZx.out) ⟨Nat.le_refl _, by decide⟩ ⟨Nat.le_refl _, by omega⟩).mono ?_
                rintro e u5 ⟨rfl, hb⟩
                have HA5 := Lib.hid (HA4.out.below hb)
                have HE5 := Lib.hid (Blk.below HE4.out hb (Blk.lt HE4.out))
                have HM5 := Lib.hid (Blk.below HM4.out hb (Blk.lt HM4.out))
                clear hb HA4 HE4 HM4
                go_wp2_with fail
                refine hK.out _ _ trivial (fun hHeld => ?_)
                clear hK K hHeld
                simp only [Act.put, List.setIfInBounds_toArray, List.set_cons_zero, List.set_cons_succ]
                refine wpAnyH_ready (rs := [7, 8]) (by kernel_rfl) (by simp) ?_
                refine cons_l rfl (fun K hK => ?_) (cons_l rfl (fun K hK => ?_) AllReadyH.nil)
                · go_simp
                  go_at_call 18
                  refine (ref_add_is HR2.out HL3.out.1 HL4.out.1 HL3.out.2 HL4.out.2 u5).mono ?_
                  rintro e u6 ⟨rfl, hb⟩
                  have HA6 := Lib.hid (HA5.out.below hb)
                  have HE6 := Lib.hid (Blk.below HE5.out hb (Blk.lt HE5.out))
                  have HM6 := Lib.hid (Blk.below HM5.out hb (Blk.lt HM5.out))
                  clear hb HA5 HE5 HM5
                  go_wp2_with fail
                  refine hK.out _ _ trivial (fun hHeld => ?_)
                  clear hK K hHeld
                  simp only [Act.put, List.setIfInBounds_toArray, List.set_cons_zero, List.set_cons_succ]
                  refine wpAnyH_ready (rs := [8]) (by kernel_rfl) (by simp) ?_
                  refine cons_l rfl (fun K hK => ?_) AllReadyH.nil
                  have hb := nu_alloc (nu_refl u6) (.cells z16l.toArray 22)
                  have HF7 := Lib.hid (Blk.made u6 22 z16l.toArray)
                  have HA7 := Lib.hid (HA6.out.below hb)
                  have HE7 := Lib.hid (Blk.below HE6.out hb (Blk.lt HE6.out))
                  have HM7 := Lib.hid (Blk.below HM6.out hb (Blk.lt HM6.out))
                  have HP := Lib.hid HA6.out
                  have HQ := Lib.hid HE6.out
                  have HB7 := Lib.hid hb
                  have HEw := Lib.hid (Nat.le_refl u6.heap.size)
                  go_simp
                  go_wp2_with fail
                  clear hb HA6 HE6 HM6
                  generalize u6.alloc (.cells z16l.toArray 22) = u7 at *
                  obtain ⟨E2, hE2⟩ : ∃ E2, E2 = u6.heap.size := ⟨_, rfl⟩
                  have HEw := Lib.hid (show u6.heap.size ≤ E2 by omega)
                  rw [← hE2] at HF7
                  rw [← hE2]
                  clear hE2
                  refine hK.out _ _ trivial (fun hHeld => ?_)
                  clear hK K hHeld
                  simp only [Act.put, List.setIfInBounds_toArray, List.set_cons_zero, List.set_cons_succ]
                  refine wpAnyH_ready (rs := [9]) (by kernel_rfl) (by simp) ?_
                  refine cons_l rfl (fun K hK => ?_) AllReadyH.nil
                  refine step_store_blk rfl 22 (.tmp 12) (.tmp 57) rfl E2 (R.map vb) rfl rfl 22 z16l.toArray HF7.out (by rw [List.length_map, HRl.out]; rfl) (by rw [List.length_map, HRl.out]; kernel_rfl) (vb_one R) ?_
                  have hnf := nu_fill (R.map vb) HEw.out 0 u7 HB7.out
                  have HAf := Lib.hid (HP.out.below hnf)
                  have HFf := Lib.hid (Blk.fill HF7.out (R.map vb) (by rw [List.length_map, HRl.out]; rfl))
                  have HEf := Lib.hid (Blk.below HQ.out hnf (Blk.lt HQ.out))
                  refine hK.out _ _ trivial (fun hHeld => ?_)
                  clear hK K hHeld
                  simp only [Act.put, List.setIfInBounds_toArray, List.set_cons_zero, List.set_cons_succ]
                  refine wpAnyH_done (by kernel_rfl) ?_ _
                  clear hnf
                  generalize u7.setCells E2 0 (R.map vb) = uf at *
                  go_wp2_with fail
                  go_meet
                  exact ⟨E2, rfl, HEf.out, HFf.out, HAf.out.nu⟩
                · have hb := nu_alloc (nu_refl u5) (.cells z16l.toArray 22)
                  have HF6 := Lib.hid (Blk.made u5 22 z16l.toArray)
                  have HA6 := Lib.hid (HA5.out.below hb)
                  have HE6 := Lib.hid (Blk.below HE5.out hb (Blk.lt HE5.out))
                  have HM6 := Lib.hid (Blk.below HM5.out hb (Blk.lt HM5.out))
                  have HP := Lib.hid HA5.out
                  have HQ := Lib.hid HE5.out
                  have HB6 := Lib.hid hb
                  have HEw := Lib.hid (Nat.le_refl u5.heap.size)
                  go_simp
                  go_wp2_with fail
                  clear hb HA5 HE5 HM5
                  generalize u5.alloc (.cells z16l.toArray 22) = u6 at *
                  obtain ⟨E2, hE2⟩ : ∃ E2, E2 = u5.heap.size := ⟨_, rfl⟩
                  have HEw := Lib.hid (show u5.heap.size ≤ E2 by omega)
                  rw [← hE2] at HF6
                  rw [← hE2]
                  clear hE2
                  refine hK.out _ _ trivial (fun hHeld => ?_)
                  clear hK K hHeld
                  simp only [Act.put, List.setIfInBounds_toArray, List.set_cons_zero, List.set_cons_succ]
                  refine wpAnyH_ready (rs := [7]) (by kernel_rfl) (by simp) ?_
                  refine cons_l rfl (fun K hK => ?_) AllReadyH.nil
                  go_simp
                  go_at_call 18
                  refine (ref_add_is HR2.out HL3.out.1 HL4.out.1 HL3.out.2 HL4.out.2 u6).mono ?_
                  rintro e u7 ⟨rfl, hb⟩
                  have HA7 := Lib.hid (HA6.out.below hb)
                  have HE7 := Lib.hid (Blk.below HE6.out hb (Blk.lt HE6.out))
                  have HM7 := Lib.hid (Blk.below HM6.out hb (Blk.lt HM6.out))
                  have HF7 := Lib.hid (Blk.below HF6.out hb (Blk.lt HF6.out))
                  have HB7 := Lib.hid (nu_trans HB6.out hb)
                  clear hb HA6 HE6 HM6 HF6 HB6
                  go_wp2_with fail
                  refine hK.out _ _ trivial (fun hHeld => ?_)
                  clear hK K hHeld
                  simp only [Act.put, List.setIfInBounds_toArray, List.set_cons_zero, List.set_cons_succ]
                  refine wpAnyH_ready (rs := [9]) (by kernel_rfl) (by simp) ?_
                  refine cons_l rfl (fun K hK => ?_) AllReadyH.nil
                  refine step_store_blk rfl 22 (.tmp 12) (.tmp 57) rfl E2 (R.map vb) rfl rfl 22 z16l.toArray HF7.out (by rw [List.length_map, HRl.out]; rfl) (by rw [List.length_map, HRl.out]; kernel_rfl) (vb_one R) ?_
                  have hnf := nu_fill (R.map vb) HEw.out 0 u7 HB7.out
                  have HAf := Lib.hid (HP.out.below hnf)
                  have HFf := Lib.hid (Blk.fill HF7.out (R.map vb) (by rw [List.length_map, HRl.out]; rfl))
                  have HEf := Lib.hid (Blk.below HQ.out hnf (Blk.lt HQ.out))
                  refine hK.out _ _ trivial (fun hHeld => ?_)
                  clear hK K hHeld
                  simp only [Act.put, List.setIfInBounds_toArray, List.set_cons_zero, List.set_cons_succ]
                  refine wpAnyH_done (by kernel_rfl) ?_ _
                  clear hnf
                  generalize u7.setCells E2 0 (R.map vb) = uf at *
                  go_wp2_with fail
                  go_meet
                  exact ⟨E2, rfl, HEf.out, HFf.out, HAf.out.nu⟩
              · have hb := nu_alloc (nu_refl u4) (.cells z16l.toArray 22)
                have HF5 := Lib.hid (Blk.made u4 22 z16l.toArray)
                have HA5 := Lib.hid (HA4.out.below hb)
                have HE5 := Lib.hid (Blk.below HE4.out hb (Blk.lt HE4.out))
                have HM5 := Lib.hid (Blk.below HM4.out hb (Blk.lt HM4.out))
                have HP := Lib.hid HA4.out
                have HQ := Lib.hid HE4.out
                have HB5 := Lib.hid hb
                have HEw := Lib.hid (Nat.le_refl u4.heap.size)
                go_simp
                go_wp2_with fail
                clear hb HA4 HE4 HM4
                generalize u4.alloc (.cells z16l.toArray 22) = u5 at *
                obtain ⟨E2, hE2⟩ : ∃ E2, E2 = u4.heap.size := ⟨_, rfl⟩
                have HEw := Lib.hid (show u4.heap.size ≤ E2 by omega)
                rw [← hE2] at HF5
                rw [← hE2]
                clear hE2
                refine hK.out _ _ trivial (fun hHeld => ?_)
                clear hK K hHeld
                simp only [Act.put, List.setIfInBounds_toArray, List.set_cons_zero, List.set_cons_succ]
                refine wpAnyH_ready (rs := [6]) (by kernel_rfl) (by simp) ?_
                refine cons_l rfl (fun K hK => ?_) AllReadyH.nil
                go_simp
                go_at_call 22
                refine (gh_sum_is HD4.out HA5.out.key Hhh.out (BytesIn.nil_ _) (blk_bytes HM5.out HZl.out HZx.out) ⟨Nat.le_refl _, by decide⟩ ⟨Nat.le_refl _, by omega⟩).mono ?_
                rintro e u6 ⟨rfl, hb⟩
                have HA6 := Lib.hid (HA5.out.below hb)
                have HE6 := Lib.hid (Blk.below HE5.out hb (Blk.lt HE5.out))
                have HM6 := Lib.hid (Blk.below HM5.out hb (Blk.lt HM5.out))
                have HF6 := Lib.hid (Blk.below HF5.out hb (Blk.lt HF5.out))
                have HB6 := Lib.hid (nu_trans HB5.out hb)
                clear hb HA5 HE5 HM5 HF5 HB5
                go_wp2_with fail
                refine hK.out _ _ trivial (fun hHeld => ?_)
                clear hK K hHeld
                simp only [Act.put, List.setIfInBounds_toArray, List.set_cons_zero, List.set_cons_succ]
                refine wpAnyH_ready (rs := [7]) (by kernel_rfl) (by simp) ?_
                refine cons_l rfl (fun K hK => ?_) AllReadyH.nil
                go_simp
                go_at_call 18
                refine (ref_add_is HR2.out HL3.out.1 HL4.out.1 HL3.out.2 HL4.out.2 u6).mono ?_
                rintro e u7 ⟨rfl, hb⟩
                have HA7 := Lib.hid (HA6.out.below hb)
                have HE7 := Lib.hid (Blk.below HE6.out hb (Blk.lt HE6.out))
                have HM7 := Lib.hid (Blk.below HM6.out hb (Blk.lt HM6.out))
                have HF7 := Lib.hid (Blk.below HF6.out hb (Blk.lt HF6.out))
                have HB7 := Lib.hid (nu_trans HB6.out hb)
                clear hb HA6 HE6 HM6 HF6 HB6
                go_wp2_with fail
                refine hK.out _ _ trivial (fun hHeld => ?_)
                clear hK K hHeld
                simp only [Act.put, List.setIfInBounds_toArray, List.set_cons_zero, List.set_cons_succ]
                refine wpAnyH_ready (rs := [9]) (by kernel_rfl) (by simp) ?_
                refine cons_l rfl (fun K hK => ?_) AllReadyH.nil
                refine step_store_blk rfl 22 (.tmp 12) (.tmp 57) rfl E2 (R.map vb) rfl rfl 22 z16l.toArray HF7.out (by rw [List.length_map, HRl.out]; rfl) (by rw [List.length_map, HRl.out]; kernel_rfl) (vb_one R) ?_
                have hnf := nu_fill (R.map vb) HEw.out 0 u7 HB7.out
                have HAf := Lib.hid (HP.out.below hnf)
                have HFf := Lib.hid (Blk.fill HF7.out (R.map vb) (by rw [List.length_map, HRl.out]; rfl))
                have HEf := Lib.hid (Blk.below HQ.out hnf (Blk.lt HQ.out))
                refine hK.out _ _ trivial (fun hHeld => ?_)
                clear hK K hHeld
                simp only [Act.put, List.setIfInBounds_toArray, List.set_cons_zero, List.set_cons_succ]
                refine wpAnyH_done (by kernel_rfl) ?_ _
                clear hnf
                generalize u7.setCells E2 0 (R.map vb) = uf at *
                go_wp2_with fail
                go_meet
                exact ⟨E2, rfl, HEf.out, HFf.out, HAf.out.nu⟩
            · have hb := nu_alloc (nu_refl u3) (.cells z16l.toArray 22)
              have HF4 := Lib.hid (Blk.made u3 22 z16l.toArray)
              have HA4 := Lib.hid (HA3.out.below hb)
              have HE4 := Lib.hid (Blk.below HE3.out hb (Blk.lt HE3.out))
              have HP := Lib.hid HA3.out
              have HQ := Lib.hid HE3.out
              have HB4 := Lib.hid hb
              have HEw := Lib.hid (Nat.le_refl u3.heap.size)
              go_simp
              go_wp2_with fail
              clear hb HA3 HE3
              generalize u3.alloc (.cells z16l.toArray 22) = u4 at *
              obtain ⟨E2, hE2⟩ : ∃ E2, E2 = u3.heap.size := ⟨_, rfl⟩
              have HEw := Lib.hid (show u3.heap.size ≤ E2 by omega)
              rw [← hE2] at HF4
              rw [← hE2]
              clear hE2
              refine hK.out _ _ trivial (fun hHeld => ?_)
              clear hK K hHeld
              simp only [Act.put, List.setIfInBounds_toArray, List.set_cons_zero, List.set_cons_succ]
              refine wpAnyH_ready (rs := [5]) (by kernel_rfl) (by simp) ?_
              refine cons_l rfl (fun K hK => ?_) AllReadyH.nil
              have hb := nu_alloc (nu_refl u4) (.cells (Z.map vb).toArray 5)
              have HM5 := Lib.hid (Blk.made u4 5 (Z.map vb).toArray)
              have HA5 := Lib.hid (HA4.out.below hb)
              have HE5 := Lib.hid (Blk.below HE4.out hb (Blk.lt HE4.out))
              have HF5 := Lib.hid (Blk.below HF4.out hb (Blk.lt HF4.out))
              have HB5 := Lib.hid (nu_trans HB4.out hb)
              go_simp
              go_wp2_with fail
              clear hb HA4 HE4 HF4 HB4
              generalize u4.alloc (.cells (Z.map vb).toArray 5) = u5 at *
              obtain ⟨M, hM⟩ : ∃ M, M = u4.heap.size := ⟨_, rfl⟩
              rw [← hM] at HM5
              rw [← hM]
              clear hM
              refine hK.out _ _ trivial (fun hHeld => ?_)
              clear hK K hHeld
              simp only [Act.put, List.setIfInBounds_toArray, List.set_cons_zero, List.set_cons_succ]
              refine wpAnyH_ready (rs := [6]) (by kernel_rfl) (by simp) ?_
              refine cons_l rfl (fun K hK => ?_) AllReadyH.nil
              go_simp
              go_at_call 22
              refine (gh_sum_is HD4.out HA5.out.key Hhh.out (BytesIn.nil_ _) (blk_bytes HM5.out HZl.out HZx.out) ⟨Nat.le_refl _, by decide⟩ ⟨Nat.le_refl _, by omega⟩).mono ?_
              rintro e u6 ⟨rfl, hb⟩
              have HA6 := Lib.hid (HA5.out.below hb)
              have HE6 := Lib.hid (Blk.below HE5.out hb (Blk.lt HE5.out))
              have HM6 := Lib.hid (Blk.below HM5.out hb (Blk.lt HM5.out))
              have HF6 := Lib.hid (Blk.below HF5.out hb (Blk.lt HF5.out))
              have HB6 := Lib.hid (nu_trans HB5.out hb)
              clear hb HA5 HE5 HM5 HF5 HB5
              go_wp2_with fail
              refine hK.out _ _ trivial (fun hHeld => ?_)
              clear hK K hHeld
              simp only [Act.put, List.setIfInBounds_toArray, List.set_cons_zero, List.set_cons_succ]
              refine wpAnyH_ready (rs := [7]) (by kernel_rfl) (by simp) ?_
              refine cons_l rfl (fun K hK => ?_) AllReadyH.nil
              go_simp
              go_at_call 18
              refine (ref_add_is HR2.out HL3.out.1 HL4.out.1 HL3.out.2 HL4.out.2 u6).mono ?_
              rintro e u7 ⟨rfl, hb⟩
              have HA7 := Lib.hid (HA6.out.below hb)
              have HE7 := Lib.hid (Blk.below HE6.out hb (Blk.lt HE6.out))
              have HM7 := Lib.hid (Blk.below HM6.out hb (Blk.lt HM6.out))
              have HF7 := Lib.hid (Blk.below HF6.out hb (Blk.lt HF6.out))
              have HB7 := Lib.hid (nu_trans HB6.out hb)
              clear hb HA6 HE6 HM6 HF6 HB6
              go_wp2_with fail
              refine hK.out _ _ trivial (fun hHeld => ?_)
              clear hK K hHeld
              simp only [Act.put, List.setIfInBounds_toArray, List.set_cons_zero, List.set_cons_succ]
              refine wpAnyH_ready (rs := [9]) (by kernel_rfl) (by simp) ?_
              refine cons_l rfl (fun K hK => ?_) AllReadyH.nil
              refine step_store_blk rfl 22 (.tmp 12) (.tmp 57) rfl E2 (R.map vb) rfl rfl 22 z16l.toArray HF7.out (by rw [List.length_map, HRl.out]; rfl) (by rw [List.length_map, HRl.out]; kernel_rfl) (vb_one R) ?_
              have hnf := nu_fill (R.map vb) HEw.out 0 u7 HB7.out
              have HAf := Lib.hid (HP.out.below hnf)
              have HFf := Lib.hid (Blk.fill HF7.out (R.map vb) (by rw [List.length_map, HRl.out]; rfl))
              have HEf := Lib.hid (Blk.below HQ.out hnf (Blk.lt HQ.out))
              refine hK.out _ _ trivial (fun hHeld => ?_)
              clear hK K hHeld
              simp only [Act.put, List.setIfInBounds_toArray, List.set_cons_zero, List.set_cons_succ]
              refine wpAnyH_done (by kernel_rfl) ?_ _
              clear hnf
              generalize u7.setCells E2 0 (R.map vb) = uf at *
              go_wp2_with fail
              go_meet
              exact ⟨E2, rfl, HEf.out, HFf.out, HAf.out.nu⟩
          · have hb := nu_alloc (nu_refl u2) (.cells (Z.map vb).toArray 5)
            have HM3 := Lib.hid (Blk.made u2 5 (Z.map vb).toArray)
            have HA3 := Lib.hid (HA2.out.below hb)
            have HE3 := Lib.hid (Blk.below HE2.out hb (Blk.lt HE2.out))
            go_simp
            go_wp2_with fail
            clear hb HA2 HE2
            generalize u2.alloc (.cells (Z.map vb).toArray 5) = u3 at *
            obtain ⟨M, hM⟩ : ∃ M, M = u2.heap.size := ⟨_, rfl⟩
            rw [← hM] at HM3
            rw [← hM]
            clear hM
            refine hK.out _ _ trivial (fun hHeld => ?_)
            clear hK K hHeld
            simp only [Act.put, List.setIfInBounds_toArray, List.set_cons_zero, List.set_cons_succ]
            refine wpAnyH_ready (rs := [2, 8]) (by kernel_rfl) (by simp) ?_
            refine cons_l rfl (fun K hK => ?_) (cons_l rfl (fun K hK => ?_) AllReadyH.nil)
            · go_simp
              go_at_call 22
              refine (gh_sum_is HD3.out HA3.out.key Hhh.out (BytesIn.nil_ _) (blk_bytes HA3.out.row HUl.out HUx.out) ⟨Nat.le_refl _, by decide⟩ ⟨Nat.le_refl _, by omega⟩).mono ?_
              rintro e u4 ⟨rfl, hb⟩
              have HA4 := Lib.hid (HA3.out.below hb)
              have HE4 := Lib.hid (Blk.below HE3.out hb (Blk.lt HE3.out))
              have HM4 := Lib.hid (Blk.below HM3.out hb (Blk.lt HM3.out))
              clear hb HA3 HE3 HM3
              go_wp2_with fail
              refine hK.out _ _ trivial (fun hHeld => ?_)
              clear hK K hHeld
              simp only [Act.put, List.setIfInBounds_toArray, List.set_cons_zero, List.set_cons_succ]
              refine wpAnyH_ready (rs := [6, 8]) (by kernel_rfl) (by simp) ?_
              refine cons_l rfl (fun K hK => ?_) (cons_l rfl (fun K hK => ?_) AllReadyH.nil)
              · go_simp
                go_at_call 22
                refine (gh_sum_is HD4.out HA4.out.key Hhh.out (BytesIn.nil_ _) (blk_bytes HM4.out HZl.out HZx.out) ⟨Nat.le_refl _, by decide⟩ ⟨Nat.le_refl _, by omega⟩).mono ?_
                rintro e u5 ⟨rfl, hb⟩
                have HA5 := Lib.hid (HA4.out.below hb)
                have HE5 := Lib.hid (Blk.below HE4.out hb (Blk.lt HE4.out))
                have HM5 := Lib.hid (Blk.below HM4.out hb (Blk.lt HM4.out))
                clear hb HA4 HE4 HM4
                go_wp2_with fail
                refine hK.out _ _ trivial (fun hHeld => ?_)
                clear hK K hHeld
                simp only [Act.put, List.setIfInBounds_toArray, List.set_cons_zero, List.set_cons_succ]
                refine wpAnyH_ready (rs := [7, 8]) (by kernel_rfl) (by simp) ?_
                refine cons_l rfl (fun K hK => ?_) (cons_l rfl (fun K hK => ?_) AllReadyH.nil)
                · go_simp
                  go_at_call 18
                  refine (ref_add_is HR2.out HL3.out.1 HL4.out.1 HL3.out.2 HL4.out.2 u5).mono ?_
                  rintro e u6 ⟨rfl, hb⟩
                  have HA6 := Lib.hid (HA5.out.below hb)
                  have HE6 := Lib.hid (Blk.below HE5.out hb (Blk.lt HE5.out))
                  have HM6 := Lib.hid (Blk.below HM5.out hb (Blk.lt HM5.out))
                  clear hb HA5 HE5 HM5
                  go_wp2_with fail
                  refine hK.out _ _ trivial (fun hHeld => ?_)
                  clear hK K hHeld
                  simp only [Act.put, List.setIfInBounds_toArray, List.set_cons_zero, List.set_cons_succ]
                  refine wpAnyH_ready (rs := [8]) (by kernel_rfl) (by simp) ?_
                  refine cons_l rfl (fun K hK => ?_) AllReadyH.nil
                  have hb := nu_alloc (nu_refl u6) (.cells z16l.toArray 22)
                  have HF7 := Lib.hid (Blk.made u6 22 z16l.toArray)
                  have HA7 := Lib.hid (HA6.out.below hb)
                  have HE7 := Lib.hid (Blk.below HE6.out hb (Blk.lt HE6.out))
                  have HM7 := Lib.hid (Blk.below HM6.out hb (Blk.lt HM6.out))
                  have HP := Lib.hid HA6.out
                  have HQ := Lib.hid HE6.out
                  have HB7 := Lib.hid hb
                  have HEw := Lib.hid (Nat.le_refl u6.heap.size)
                  go_simp
                  go_wp2_with fail
                  clear hb HA6 HE6 HM6
                  generalize u6.alloc (.cells z16l.toArray 22) = u7 at *
                  obtain ⟨E2, hE2⟩ : ∃ E2, E2 = u6.heap.size := ⟨_, rfl⟩
                  have HEw := Lib.hid (show u6.heap.size ≤ E2 by omega)
                  rw [← hE2] at HF7
                  rw [← hE2]
                  clear hE2
                  refine hK.out _ _ trivial (fun hHeld => ?_)
                  clear hK K hHeld
                  simp only [Act.put, List.setIfInBounds_toArray, List.set_cons_zero, List.set_cons_succ]
                  refine wpAnyH_ready (rs := [9]) (by kernel_rfl) (by simp) ?_
                  refine cons_l rfl (fun K hK => ?_) AllReadyH.nil
                  refine step_store_blk rfl 22 (.tmp 12) (.tmp 57) rfl E2 (R.map vb) rfl rfl 22 z16l.toArray HF7.out (by rw [List.length_map, HRl.out]; rfl) (by rw [List.length_map, HRl.out]; kernel_rfl) (vb_one R) ?_
                  have hnf := nu_fill (R.map vb) HEw.out 0 u7 HB7.out
                  have HAf := Lib.hid (HP.out.below hnf)
                  have HFf := Lib.hid (Blk.fill HF7.out (R.map vb) (by rw [List.length_map, HRl.out]; rfl))
                  have HEf := Lib.hid (Blk.below HQ.out hnf (Blk.lt HQ.out))
                  refine hK.out _ _ trivial (fun hHeld => ?_)
                  clear hK K hHeld
                  simp only [Act.put, List.setIfInBounds_toArray, List.set_cons_zero, List.set_cons_succ]
                  refine wpAnyH_done (by kernel_rfl) ?_ _
                  clear hnf
                  generalize u7.setCells E2 0 (R.map vb) = uf at *
                  go_wp2_with fail
                  go_meet
                  exact ⟨E2, rfl, HEf.out, HFf.out, HAf.out.nu⟩
                · have hb := nu_alloc (nu_refl u5) (.cells z16l.toArray 22)
                  have HF6 := Lib.hid (Blk.made u5 22 z16l.toArray)
                  have HA6 := Lib.hid (HA5.out.below hb)
                  have HE6 := Lib.hid (Blk.below HE5.out hb (Blk.lt HE5.out))
                  have HM6 := Lib.hid (Blk.below HM5.out hb (Blk.lt HM5.out))
                  have HP := Lib.hid HA5.out
                  have HQ := Lib.hid HE5.out
                  have HB6 := Lib.hid hb
                  have HEw := Lib.hid (Nat.le_refl u5.heap.size)
                  go_simp
                  go_wp2_with fail
                  clear hb HA5 HE5 HM5
                  generalize u5.alloc (.cells z16l.toArray 22) = u6 at *
                  obtain ⟨E2, hE2⟩ : ∃ E2, E2 = u5.heap.size := ⟨_, rfl⟩
                  have HEw := Lib.hid (show u5.heap.size ≤ E2 by omega)
                  rw [← hE2] at HF6
                  rw [← hE2]
                  clear hE2
                  refine hK.out _ _ trivial (fun hHeld => ?_)
                  clear hK K hHeld
                  simp only [Act.put, List.setIfInBounds_toArray, List.set_cons_zero, List.set_cons_succ]
                  refine wpAnyH_ready (rs := [7]) (by kernel_rfl) (by simp) ?_
                  refine cons_l rfl (fun K hK => ?_) AllReadyH.nil
                  go_simp
                  go_at_call 18
                  refine (ref_add_is HR2.out HL3.out.1 HL4.out.1 HL3.out.2 HL4.out.2 u6).mono ?_
                  rintro e u7 ⟨rfl, hb⟩
                  have HA7 := Lib.hid (HA6.out.below hb)
                  have HE7 := Lib.hid (Blk.below HE6.out hb (Blk.lt HE6.out))
                  have HM7 := Lib.hid (Blk.below HM6.out hb (Blk.lt HM6.out))
                  have HF7 := Lib.hid (Blk.below HF6.out hb (Blk.lt HF6.out))
                  have HB7 := Lib.hid (nu_trans HB6.out hb)
                  clear hb HA6 HE6 HM6 HF6 HB6
                  go_wp2_with fail
                  refine hK.out _ _ trivial (fun hHeld => ?_)
                  clear hK K hHeld
                  simp only [Act.put, List.setIfInBounds_toArray, List.set_cons_zero, List.set_cons_succ]
                  refine wpAnyH_ready (rs := [9]) (by kernel_rfl) (by simp) ?_
                  refine cons_l rfl (fun K hK => ?_) AllReadyH.nil
                  refine step_store_blk rfl 22 (.tmp 12) (.tmp 57) rfl E2 (R.map vb) rfl rfl 22 z16l.toArray HF7.out (by rw [List.length_map, HRl.out]; rfl) (by rw [List.length_map, HRl.out]; kernel_rfl) (vb_one R) ?_
                  have hnf := nu_fill (R.map vb) HEw.out 0 u7 HB7.out
                  have HAf := Lib.hid (HP.out.below hnf)
                  have HFf := Lib.hid (Blk.fill HF7.out (R.map vb) (by rw [List.length_map, HRl.out]; rfl))
                  have HEf := Lib.hid (Blk.below HQ.out hnf (Blk.lt HQ.out))
                  refine hK.out _ _ trivial (fun hHeld => ?_)
                  clear hK K hHeld
                  simp only [Act.put, List.setIfInBounds_toArray, List.set_cons_zero, List.set_cons_succ]
                  refine wpAnyH_done (by kernel_rfl) ?_ _
                  clear hnf
                  generalize u7.setCells E2 0 (R.map vb) = uf at *
                  go_wp2_with fail
                  go_meet
                  exact ⟨E2, rfl, HEf.out, HFf.out, HAf.out.nu⟩
              · have hb := nu_alloc (nu_refl u4) (.cells z16l.toArray 22)
                have HF5 := Lib.hid (Blk.made u4 22 z16l.toArray)
                have HA5 := Lib.hid (HA4.out.below hb)
                have HE5 := Lib.hid (Blk.below HE4.out hb (Blk.lt HE4.out))
                have HM5 := Lib.hid (Blk.below HM4.out hb (Blk.lt HM4.out))
                have HP := Lib.hid HA4.out
                have HQ := Lib.hid HE4.out
                have HB5 := Lib.hid hb
                have HEw := Lib.hid (Nat.le_refl u4.heap.size)
                go_simp
                go_wp2_with fail
                clear hb HA4 HE4 HM4
                generalize u4.alloc (.cells z16l.toArray 22) = u5 at *
                obtain ⟨E2, hE2⟩ : ∃ E2, E2 = u4.heap.size := ⟨_, rfl⟩
                have HEw := Lib.hid (show u4.heap.size ≤ E2 by omega)
                rw [← hE2] at HF5
                rw [← hE2]
                clear hE2
                refine hK.out _ _ trivial (fun hHeld => ?_)
                clear hK K hHeld
                simp only [Act.put, List.setIfInBounds_toArray, List.set_cons_zero, List.set_cons_succ]
                refine wpAnyH_ready (rs := [6]) (by kernel_rfl) (by simp) ?_
                refine cons_l rfl (fun K hK => ?_) AllReadyH.nil
                go_simp
                go_at_call 22
                refine (gh_sum_is HD4.out HA5.out.key Hhh.out (BytesIn.nil_ _) (blk_bytes HM5.out HZl.out HZx.out) ⟨Nat.le_refl _, by decide⟩ ⟨Nat.le_refl _, by omega⟩).mono ?_
                rintro e u6 ⟨rfl, hb⟩
                have HA6 := Lib.hid (HA5.out.below hb)
                have HE6 := Lib.hid (Blk.below HE5.out hb (Blk.lt HE5.out))
                have HM6 := Lib.hid (Blk.below HM5.out hb (Blk.lt HM5.out))
                have HF6 := Lib.hid (Blk.below HF5.out hb (Blk.lt HF5.out))
                have HB6 := Lib.hid (nu_trans HB5.out hb)
                clear hb HA5 HE5 HM5 HF5 HB5
                go_wp2_with fail
                refine hK.out _ _ trivial (fun hHeld => ?_)
                clear hK K hHeld
                simp only [Act.put, List.setIfInBounds_toArray, List.set_cons_zero, List.set_cons_succ]
                refine wpAnyH_ready (rs := [7]) (by kernel_rfl) (by simp) ?_
                refine cons_l rfl (fun K hK => ?_) AllReadyH.nil
                go_simp
                go_at_call 18
                refine (ref_add_is HR2.out HL3.out.1 HL4.out.1 HL3.out.2 HL4.out.2 u6).mono ?_
                rintro e u7 ⟨rfl, hb⟩
                have HA7 := Lib.hid (HA6.out.below hb)
                have HE7 := Lib.hid (Blk.below HE6.out hb (Blk.lt HE6.out))
                have HM7 := Lib.hid (Blk.below HM6.out hb (Blk.lt HM6.out))
                have HF7 := Lib.hid (Blk.below HF6.out hb (Blk.lt HF6.out))
                have HB7 := Lib.hid (nu_trans HB6.out hb)
                clear hb HA6 HE6 HM6 HF6 HB6
                go_wp2_with fail
                refine hK.out _ _ trivial (fun hHeld => ?_)
                clear hK K hHeld
                simp only [Act.put, List.setIfInBounds_toArray, List.set_cons_zero, List.set_cons_succ]
                refine wpAnyH_ready (rs := [9]) (by kernel_rfl) (by simp) ?_
                refine cons_l rfl (fun K hK => ?_) AllReadyH.nil
                refine step_store_blk rfl 22 (.tmp 12) (.tmp 57) rfl E2 (R.map vb) rfl rfl 22 z16l.toArray HF7.out (by rw [List.length_map, HRl.out]; rfl) (by rw [List.length_map, HRl.out]; kernel_rfl) (vb_one R) ?_
                have hnf := nu_fill (R.map vb) HEw.out 0 u7 HB7.out
                have HAf := Lib.hid (HP.out.below hnf)
                have HFf := Lib.hid (Blk.fill HF7.out (R.map vb) (by rw [List.length_map, HRl.out]; rfl))
                have HEf := Lib.hid (Blk.below HQ.out hnf (Blk.lt HQ.out))
                refine hK.out _ _ trivial (fun hHeld => ?_)
                clear hK K hHeld
                simp only [Act.put, List.setIfInBounds_toArray, List.set_cons_zero, List.set_cons_succ]
                refine wpAnyH_done (by kernel_rfl) ?_ _
                clear hnf
                generalize u7.setCells E2 0 (R.map vb) = uf at *
                go_wp2_with fail
                go_meet
                exact ⟨E2, rfl, HEf.out, HFf.out, HAf.out.nu⟩
            · have hb := nu_alloc (nu_refl u3) (.cells z16l.toArray 22)
              have HF4 := Lib.hid (Blk.made u3 22 z16l.toArray)
              have HA4 := Lib.hid (HA3.out.below hb)
              have HE4 := Lib.hid (Blk.below HE3.out hb (Blk.lt HE3.out))
              have HM4 := Lib.hid (Blk.below HM3.out hb (Blk.lt HM3.out))
              have HP := Lib.hid HA3.out
              have HQ := Lib.hid HE3.out
              have HB4 := Lib.hid hb
              have HEw := Lib.hid (Nat.le_refl u3.heap.size)
              go_simp
              go_wp2_with fail
              clear hb HA3 HE3 HM3
              generalize u3.alloc (.cells z16l.toArray 22) = u4 at *
              obtain ⟨E2, hE2⟩ : ∃ E2, E2 = u3.heap.size := ⟨_, rfl⟩
              have HEw := Lib.hid (show u3.heap.size ≤ E2 by omega)
              rw [← hE2] at HF4
              rw [← hE2]
              clear hE2
              refine hK.out _ _ trivial (fun hHeld => ?_)
              clear hK K hHeld
              simp only [Act.put, List.setIfInBounds_toArray, List.set_cons_zero, List.set_cons_succ]
              refine wpAnyH_ready (rs := [2]) (by kernel_rfl) (by simp) ?_
              refine cons_l rfl (fun K hK => ?_) AllReadyH.nil
              go_simp
              go_at_call 22
              refine (gh_sum_is HD3.out HA4.out.key Hhh.out (BytesIn.nil_ _) (blk_bytes HA4.out.row HUl.out HUx.out) ⟨Nat.le_refl _, by decide⟩ ⟨Nat.le_refl _, by omega⟩).mono ?_
              rintro e u5 ⟨rfl, hb⟩
              have HA5 := Lib.hid (HA4.out.below hb)
              have HE5 := Lib.hid (Blk.below HE4.out hb (Blk.lt HE4.out))
              have HM5 := Lib.hid (Blk.below HM4.out hb (Blk.lt HM4.out))
              have HF5 := Lib.hid (Blk.below HF4.out hb (Blk.lt HF4.out))
              have HB5 := Lib.hid (nu_trans HB4.out hb)
              clear hb HA4 HE4 HM4 HF4 HB4
              go_wp2_with fail
              refine hK.out _ _ trivial (fun hHeld => ?_)
              clear hK K hHeld
              simp only [Act.put, List.setIfInBounds_toArray, List.set_cons_zero, List.set_cons_succ]
              refine wpAnyH_ready (rs := [6]) (by kernel_rfl) (by simp) ?_
              refine cons_l rfl (fun K hK => ?_) AllReadyH.nil
              go_simp
              go_at_call 22
              refine (gh_sum_is HD4.out HA5.out.key Hhh.out (BytesIn.nil_ _) (blk_bytes HM5.out HZl.out HZx.out) ⟨Nat.le_refl _, by decide⟩ ⟨Nat.le_refl _, by omega⟩).mono ?_
              rintro e u6 ⟨rfl, hb⟩
              have HA6 := Lib.hid (HA5.out.below hb)
              have HE6 := Lib.hid (Blk.below HE5.out hb (Blk.lt HE5.out))
              have HM6 := Lib.hid (Blk.below HM5.out hb (Blk.lt HM5.out))
              have HF6 := Lib.hid (Blk.below HF5.out hb (Blk.lt HF5.out))
              have HB6 := Lib.hid (nu_trans HB5.out hb)
              clear hb HA5 HE5 HM5 HF5 HB5
              go_wp2_with fail
              refine hK.out _ _ trivial (fun hHeld => ?_)
              clear hK K hHeld
              simp only [Act.put, List.setIfInBounds_toArray, List.set_cons_zero, List.set_cons_succ]
              refine wpAnyH_ready (rs := [7]) (by kernel_rfl) (by simp) ?_
              refine cons_l rfl (fun K hK => ?_) AllReadyH.nil
              go_simp
              go_at_call 18
              refine (ref_add_is HR2.out HL3.out.1 HL4.out.1 HL3.out.2 HL4.out.2 u6).mono ?_
              rintro e u7 ⟨rfl, hb⟩
              have HA7 := Lib.hid (HA6.out.below hb)
              have HE7 := Lib.hid (Blk.below HE6.out hb (Blk.lt HE6.out))
              have HM7 := Lib.hid (Blk.below HM6.out hb (Blk.lt HM6.out))
              have HF7 := Lib.hid (Blk.below HF6.out hb (Blk.lt HF6.out))
              have HB7 := Lib.hid (nu_trans HB6.out hb)
              clear hb HA6 HE6 HM6 HF6 HB6
              go_wp2_with fail
              refine hK.out _ _ trivial (fun hHeld => ?_)
              clear hK K hHeld
              simp only [Act.put, List.setIfInBounds_toArray, List.set_cons_zero, List.set_cons_succ]
              refine wpAnyH_ready (rs := [9]) (by kernel_rfl) (by simp) ?_
              refine cons_l rfl (fun K hK => ?_) AllReadyH.nil
              refine step_store_blk rfl 22 (.tmp 12) (.tmp 57) rfl E2 (R.map vb) rfl rfl 22 z16l.toArray HF7.out (by rw [List.length_map, HRl.out]; rfl) (by rw [List.length_map, HRl.out]; kernel_rfl) (vb_one R) ?_
              have hnf := nu_fill (R.map vb) HEw.out 0 u7 HB7.out
              have HAf := Lib.hid (HP.out.below hnf)
              have HFf := Lib.hid (Blk.fill HF7.out (R.map vb) (by rw [List.length_map, HRl.out]; rfl))
              have HEf := Lib.hid (Blk.below HQ.out hnf (Blk.lt HQ.out))
              refine hK.out _ _ trivial (fun hHeld => ?_)
              clear hK K hHeld
              simp only [Act.put, List.setIfInBounds_toArray, List.set_cons_zero, List.set_cons_succ]
              refine wpAnyH_done (by kernel_rfl) ?_ _
              clear hnf
              generalize u7.setCells E2 0 (R.map vb) = uf at *
              go_wp2_with fail
              go_meet
              exact ⟨E2, rfl, HEf.out, HFf.out, HAf.out.nu⟩
          · have hb := nu_alloc (nu_refl u2) (.cells z16l.toArray 22)
            have HF3 := Lib.hid (Blk.made u2 22 z16l.toArray)
            have HA3 := Lib.hid (HA2.out.below hb)
            have HE3 := Lib.hid (Blk.below HE2.out hb (Blk.lt HE2.out))
            have HP := Lib.hid HA2.out
            have HQ := Lib.hid HE2.out
            have HB3 := Lib.hid hb
            have HEw := Lib.hid (Nat.le_refl u2.heap.size)
            go_simp
            go_wp2_with fail
            clear hb HA2 HE2
            generalize u2.alloc (.cells z16l.toArray 22) = u3 at *
            obtain ⟨E2, hE2⟩ : ∃ E2, E2 = u2.heap.size := ⟨_, rfl⟩
            have HEw := Lib.hid (show u2.heap.size ≤ E2 by omega)
            rw [← hE2] at HF3
            rw [← hE2]
            clear hE2
            refine hK.out _ _ trivial (fun hHeld => ?_)
            clear hK K hHeld
            simp only [Act.put, List.setIfInBounds_toArray, List.set_cons_zero, List.set_cons_succ]
            refine wpAnyH_ready (rs := [2, 5]) (by kernel_rfl) (by simp) ?_
            refine cons_l rfl (fun K hK => ?_) (cons_l rfl (fun K hK => ?_) AllReadyH.nil)
            · go_simp
              go_at_call 22
              refine (gh_sum_is HD3.out HA3.out.key Hhh.out (BytesIn.nil_ _) (blk_bytes HA3.out.row HUl.out HUx.out) ⟨Nat.le_refl _, by decide⟩ ⟨Nat.le_refl _, by omega⟩).mono ?_
              rintro e u4 ⟨rfl, hb⟩
              have HA4 := Lib.hid (HA3.out.below hb)
              have HE4 := Lib.hid (Blk.below HE3.out hb (Blk.lt HE3.out))
              have HF4 := Lib.hid (Blk.below HF3.out hb (Blk.lt HF3.out))
              have HB4 := Lib.hid (nu_trans HB3.out hb)
              clear hb HA3 HE3 HF3 HB3
              go_wp2_with fail
              refine hK.out _ _ trivial (fun hHeld => ?_)
              clear hK K hHeld
              simp only [Act.put, List.setIfInBounds_toArray, List.set_cons_zero, List.set_cons_succ]
              refine wpAnyH_ready (rs := [5]) (by kernel_rfl) (by simp) ?_
              refine cons_l rfl (fun K hK => ?_) AllReadyH.nil
              have hb := nu_alloc (nu_refl u4) (.cells (Z.map vb).toArray 5)
              have HM5 := Lib.hid (Blk.made u4 5 (Z.map vb).toArray)
              have HA5 := Lib.hid (HA4.out.below hb)
              have HE5 := Lib.hid (Blk.below HE4.out hb (Blk.lt HE4.out))
              have HF5 := Lib.hid (Blk.below HF4.out hb (Blk.lt HF4.out))
              have HB5 := Lib.hid (nu_trans HB4.out hb)
              go_simp
              go_wp2_with fail
              clear hb HA4 HE4 HF4 HB4
              generalize u4.alloc (.cells (Z.map vb).toArray 5) = u5 at *
              obtain ⟨M, hM⟩ : ∃ M, M = u4.heap.size := ⟨_, rfl⟩
              rw [← hM] at HM5
              rw [← hM]
              clear hM
              refine hK.out _ _ trivial (fun hHeld => ?_)
              clear hK K hHeld
              simp only [Act.put, List.setIfInBounds_toArray, List.set_cons_zero, List.set_cons_succ]
              refine wpAnyH_ready (rs := [6]) (by kernel_rfl) (by simp) ?_
              refine cons_l rfl (fun K hK => ?_) AllReadyH.nil
              go_simp
              go_at_call 22
              refine (gh_sum_is HD4.out HA5.out.key Hhh.out (BytesIn.nil_ _) (blk_bytes HM5.out HZl.out HZx.out) ⟨Nat.le_refl _, by decide⟩ ⟨Nat.le_refl _, by omega⟩).mono ?_
              rintro e u6 ⟨rfl, hb⟩
              have HA6 := Lib.hid (HA5.out.below hb)
              have HE6 := Lib.hid (Blk.below HE5.out hb (Blk.lt HE5.out))
              have HM6 := Lib.hid (Blk.below HM5.out hb (Blk.lt HM5.out))
              have HF6 := Lib.hid (Blk.below HF5.out hb (Blk.lt HF5.out))
              have HB6 := Lib.hid (nu_trans HB5.out hb)
              clear hb HA5 HE5 HM5 HF5 HB5
              go_wp2_with fail
              refine hK.out _ _ trivial (fun hHeld => ?_)
              clear hK K hHeld
              simp only [Act.put, List.setIfInBounds_toArray, List.set_cons_zero, List.set_cons_succ]
              refine wpAnyH_ready (rs := [7]) (by kernel_rfl) (by simp) ?_
              refine cons_l rfl (fun K hK => ?_) AllReadyH.nil
              go_simp
              go_at_call 18
              refine (ref_add_is HR2.out HL3.out.1 HL4.out.1 HL3.out.2 HL4.out.2 u6).mono ?_
              rintro e u7 ⟨rfl, hb⟩
              have HA7 := Lib.hid (HA6.out.below hb)
              have HE7 := Lib.hid (Blk.below HE6.out hb (Blk.lt HE6.out))
              have HM7 := Lib.hid (Blk.below HM6.out hb (Blk.lt HM6.out))
              have HF7 := Lib.hid (Blk.below HF6.out hb (Blk.lt HF6.out))
              have HB7 := Lib.hid (nu_trans HB6.out hb)
              clear hb HA6 HE6 HM6 HF6 HB6
              go_wp2_with fail
              refine hK.out _ _ trivial (fun hHeld => ?_)
              clear hK K hHeld
              simp only [Act.put, List.setIfInBounds_toArray, List.set_cons_zero, List.set_cons_succ]
              refine wpAnyH_ready (rs := [9]) (by kernel_rfl) (by simp) ?_
              refine cons_l rfl (fun K hK => ?_) AllReadyH.nil
              refine step_store_blk rfl 22 (.tmp 12) (.tmp 57) rfl E2 (R.map vb) rfl rfl 22 z16l.toArray HF7.out (by rw [List.length_map, HRl.out]; rfl) (by rw [List.length_map, HRl.out]; kernel_rfl) (vb_one R) ?_
              have hnf := nu_fill (R.map vb) HEw.out 0 u7 HB7.out
              have HAf := Lib.hid (HP.out.below hnf)
              have HFf := Lib.hid (Blk.fill HF7.out (R.map vb) (by rw [List.length_map, HRl.out]; rfl))
              have HEf := Lib.hid (Blk.below HQ.out hnf (Blk.lt HQ.out))
              refine hK.out _ _ trivial (fun hHeld => ?_)
              clear hK K hHeld
              simp only [Act.put, List.setIfInBounds_toArray, List.set_cons_zero, List.set_cons_succ]
              refine wpAnyH_done (by kernel_rfl) ?_ _
              clear hnf
              generalize u7.setCells E2 0 (R.map vb) = uf at *
              go_wp2_with fail
              go_meet
              exact ⟨E2, rfl, HEf.out, HFf.out, HAf.out.nu⟩
            · have hb := nu_alloc (nu_refl u3) (.cells (Z.map vb).toArray 5)
              have HM4 := Lib.hid (Blk.made u3 5 (Z.map vb).toArray)
              have HA4 := Lib.hid (HA3.out.below hb)
              have HE4 := Lib.hid (Blk.below HE3.out hb (Blk.lt HE3.out))
              have HF4 := Lib.hid (Blk.below HF3.out hb (Blk.lt HF3.out))
              have HB4 := Lib.hid (nu_trans HB3.out hb)
              go_simp
              go_wp2_with fail
              clear hb HA3 HE3 HF3 HB3
              generalize u3.alloc (.cells (Z.map vb).toArray 5) = u4 at *
              obtain ⟨M, hM⟩ : ∃ M, M = u3.heap.size := ⟨_, rfl⟩
              rw [← hM] at HM4
              rw [← hM]
              clear hM
              refine hK.out _ _ trivial (fun hHeld => ?_)
              clear hK K hHeld
              simp only [Act.put, List.setIfInBounds_toArray, List.set_cons_zero, List.set_cons_succ]
              refine wpAnyH_ready (rs := [2]) (by kernel_rfl) (by simp) ?_
              refine cons_l rfl (fun K hK => ?_) AllReadyH.nil
              go_simp
              go_at_call 22
              refine (gh_sum_is HD3.out HA4.out.key Hhh.out (BytesIn.nil_ _) (blk_bytes HA4.out.row HUl.out HUx.out) ⟨Nat.le_refl _, by decide⟩ ⟨Nat.le_refl _, by omega⟩).mono ?_
              rintro e u5 ⟨rfl, hb⟩
              have HA5 := Lib.hid (HA4.out.below hb)
              have HE5 := Lib.hid (Blk.below HE4.out hb (Blk.lt HE4.out))
              have HM5 := Lib.hid (Blk.below HM4.out hb (Blk.lt HM4.out))
              have HF5 := Lib.hid (Blk.below HF4.out hb (Blk.lt HF4.out))
              have HB5 := Lib.hid (nu_trans HB4.out hb)
              clear hb HA4 HE4 HM4 HF4 HB4
              go_wp2_with fail
              refine hK.out _ _ trivial (fun hHeld => ?_)
              clear hK K hHeld
              simp only [Act.put, List.setIfInBounds_toArray, List.set_cons_zero, List.set_cons_succ]
              refine wpAnyH_ready (rs := [6]) (by kernel_rfl) (by simp) ?_
              refine cons_l rfl (fun K hK => ?_) AllReadyH.nil
              go_simp
              go_at_call 22
              refine (gh_sum_is HD4.out HA5.out.key Hhh.out (BytesIn.nil_ _) (blk_bytes HM5.out HZl.out HZx.out) ⟨Nat.le_refl _, by decide⟩ ⟨Nat.le_refl _, by omega⟩).mono ?_
              rintro e u6 ⟨rfl, hb⟩
              have HA6 := Lib.hid (HA5.out.below hb)
              have HE6 := Lib.hid (Blk.below HE5.out hb (Blk.lt HE5.out))
              have HM6 := Lib.hid (Blk.below HM5.out hb (Blk.lt HM5.out))
              have HF6 := Lib.hid (Blk.below HF5.out hb (Blk.lt HF5.out))
              have HB6 := Lib.hid (nu_trans HB5.out hb)
              clear hb HA5 HE5 HM5 HF5 HB5
              go_wp2_with fail
              refine hK.out _ _ trivial (fun hHeld => ?_)
              clear hK K hHeld
              simp only [Act.put, List.setIfInBounds_toArray, List.set_cons_zero, List.set_cons_succ]
              refine wpAnyH_ready (rs := [7]) (by kernel_rfl) (by simp) ?_
              refine cons_l rfl (fun K hK => ?_) AllReadyH.nil
              go_simp
              go_at_call 18
              refine (ref_add_is HR2.out HL3.out.1 HL4.out.1 HL3.out.2 HL4.out.2 u6).mono ?_
              rintro e u7 ⟨rfl, hb⟩
              have HA7 := Lib.hid (HA6.out.below hb)
              have HE7 := Lib.hid (Blk.below HE6.out hb (Blk.lt HE6.out))
              have HM7 := Lib.hid (Blk.below HM6.out hb (Blk.lt HM6.out))
              have HF7 := Lib.hid (Blk.below HF6.out hb (Blk.lt HF6.out))
              have HB7 := Lib.hid (nu_trans HB6.out hb)
              clear hb HA6 HE6 HM6 HF6 HB6
              go_wp2_with fail
              refine hK.out _ _ trivial (fun hHeld => ?_)
              clear hK K hHeld
              simp only [Act.put, List.setIfInBounds_toArray, List.set_cons_zero, List.set_cons_succ]
              refine wpAnyH_ready (rs := [9]) (by kernel_rfl) (by simp) ?_
              refine cons_l rfl (fun K hK => ?_) AllReadyH.nil
              refine step_store_blk rfl 22 (.tmp 12) (.tmp 57) rfl E2 (R.map vb) rfl rfl 22 z16l.toArray HF7.out (by rw [List.length_map, HRl.out]; rfl) (by rw [List.length_map, HRl.out]; kernel_rfl) (vb_one R) ?_
              have hnf := nu_fill (R.map vb) HEw.out 0 u7 HB7.out
              have HAf := Lib.hid (HP.out.below hnf)
              have HFf := Lib.hid (Blk.fill HF7.out (R.map vb) (by rw [List.length_map, HRl.out]; rfl))
              have HEf := Lib.hid (Blk.below HQ.out hnf (Blk.lt HQ.out))
              refine hK.out _ _ trivial (fun hHeld => ?_)
              clear hK K hHeld
              simp only [Act.put, List.setIfInBounds_toArray, List.set_cons_zero, List.set_cons_succ]
              refine wpAnyH_done (by kernel_rfl) ?_ _
              clear hnf
              generalize u7.setCells E2 0 (R.map vb) = uf at *
              go_wp2_with fail
              go_meet
              exact ⟨E2, rfl, HEf.out, HFf.out, HAf.out.nu⟩
        case rest =>
          obtain ⟨E2, rfl, hE, hF, hn⟩ := hcut
          have HE := Lib.hid hE
          have HF := Lib.hid hF
          have HN := Lib.hid hn
          have HXS := Lib.hid (xorB_self R)
          clear hE hF hn HA1 HE1
          generalize wc = wd at *
          go_wp2_with (first | (refine wpList_run _ rfl (exec_load_mid (P := Try.prog) (w := wd) 22 (.tmp 11) E 0 (R.map vb) (.array 16 5) rfl rfl (range_mid HE.out (l := []) (r := []) (by simp) rfl) (by kernel_rfl) rfl (by rw [List.length_map, HRl.out]; kernel_rfl)) ?_) | (refine wpList_run _ rfl (exec_load_mid (P := Try.prog) (w := wd) 22 (.tmp 12) E2 0 (R.map vb) (.array 16 5) rfl rfl (range_mid HF.out (l := []) (r := []) (by simp) rfl) (by kernel_rfl) rfl (by rw [List.length_map, HRl.out]; kernel_rfl)) ?_))
          refine (ref_add_is HXS.out HRl.out HRl.out HRx.out HRx.out wd).mono ?_
          rintro e w8 ⟨rfl, hb8⟩
          have HN8 := Lib.hid (nu_trans HN.out hb8)
          clear hb8 HN
          go_wp2_with (refine wpList_run _ rfl (exec_same_16 (List.replicate 16 0) rfl (.tmp 60) (.tmp 61) rfl rfl rfl) ?_)
          refine (awake7 w8).mono ?_
          rintro e w9 ⟨rfl, hb9⟩
          have HN9 := Lib.hid (nu_trans HN8.out hb9)
          clear hb9
          go_wp2_with fail
          go_ret
          exact ⟨rfl, HN9.out⟩
end Go.Proofs.Ytnojbjconiddoaa
