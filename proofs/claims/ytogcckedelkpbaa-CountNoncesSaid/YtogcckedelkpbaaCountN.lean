/-
  The walks of the document's Nonce and of CountNonces.
-/
import Derived.Test.YtogcckedelkpbaaCountR
import Derived.Test.YtogcckedelkpbaaNonceF
import Derived.Test.YtogcckedelkpbaaArrEq
import Derived.Test.YtogcckedelkpbaaFill
import Derived.Test.YtogcckedelkpbaaNum
import Derived.Deep.RegionHeld3
namespace Go.Proofs.Ytogcckedelkpbaa
open Go.ChangeShapes Go.WideShapes Go.ChangeAt Go.RowKit

theorem size12 : (Try.prog.info? 36).map (·.size) = some 12 := by kernel_rfl
theorem nonceL_len (b s : Nat) : (nonceL b s).length = 12 := by simp [nonceL, beL_length]
theorem entL_nonce (e0 e1 e2 j : Nat) : (entL (e0, e1, e2))[4 + j]? = (nonceL e1 e2)[j]? := by
  unfold entL nonceL
  rw [List.append_assoc, List.getElem?_append_right (by rw [beL_length]; omega), beL_length, show 4 + j - 4 = j by omega]
theorem zero12_fill (l : List Nat) : zero12 = ((fillTo l 12 0).map vb).toArray := by rw [fillTo_zero]; rfl

set_option maxRecDepth 100000 in
set_option maxHeartbeats 1000000 in
theorem refNonce_any (e0 e1 e2 : Nat) (w : World) (b0 : e0 < 4294967296) (b1 : e1 < 4294967296) (b2 : e2 < 18446744073709551616) :
    Calls Try.prog 19 #[.agg #[.int .u32 (e0 : Int), .int .u32 (e1 : Int), .int .u64 (e2 : Int)]] w fun e w' => e = .returned (.agg (nonceV e1 e2)) ∧ Below w.heap.size w w' := by
  have Hb2 := Lib.hid b2
  obtain ⟨l, hl⟩ : ∃ l, l = nonceL e1 e2 := ⟨_, rfl⟩
  have hll : l.length = 12 := by rw [hl, nonceL_len]
  have HV := Lib.hid (show nonceV e1 e2 = (l.map vb).toArray by rw [hl]; rfl)
  have HE := Lib.hid (show ∀ j, (entL (e0, e1, e2))[4 + j]? = l[j]? from fun j => by rw [hl]; exact entL_nonce e0 e1 e2 j)
  have Hll := Lib.hid hll
  have hn0 := nu_alloc (nu_alloc (nu_alloc (nu_refl w) (.cells #[.int .u32 (e0 : Int), .int .u32 (e1 : Int), .int .u64 (e2 : Int)] 35)) (.cells zero12 36)) (.cells zero12 36)
  have HR := Lib.hid ((Blk.made1 w (.cells #[.int .u32 (e0 : Int), .int .u32 (e1 : Int), .int .u64 (e2 : Int)] 35) 36 zero12).alloc (.cells zero12 36))
  have HO := Lib.hid (Blk.made2 w (.cells #[.int .u32 (e0 : Int), .int .u32 (e1 : Int), .int .u64 (e2 : Int)] 35) (.cells zero12 36) 36 zero12)
  clear b2 hl hll
  go_enter Try.func19, Try.ntmps19
  go_wp2_with fail
  refine (refBytes_any e0 e1 e2 _ b0 b1 Hb2.out).mono ?_
  rintro e u1 ⟨v1, rfl, ho1, hb1⟩
  have hn1 := nu_trans hn0 hb1
  have HR1 := Lib.hid (HR.out.below hb1 HR.out.lt)
  have HO1 := Lib.hid (HO.out.below hb1 HO.out.lt)
  obtain ⟨k, c, cur, hv, hk1, hk2, hk3, hk4, _, hk6⟩ := ho1.form (by rw [entL_length]; omega)
  subst hv
  rw [entL_length] at hk3 hk6 ⊢
  have hkO : w.heap.size + 1 + 1 < k := by simp at hk1; omega
  have Hk := Lib.hid hk2
  have Hk6 := Lib.hid hk6
  unfold maxLen at hk4
  clear ho1 hb1 hn0 hk2 hk6 HR HO hk1
  go_wp2_with fail
  go_loopw [5] (fun i wr => ∃ j : Nat, j ≤ 12 ∧ i = .int .i64 j ∧ u1.grownBy wr (some (w.heap.size + 1 + 1)) ∧ Blk wr (w.heap.size + 1 + 1) 36 ((fillTo l 12 j).map vb).toArray) (fun i _ => 12 - (intOf i).toNat)
  case atStart => exact ⟨0, by omega, rfl, gb_refl _ _, by rw [← zero12_fill]; exact HO1.out⟩
  case round =>
    obtain ⟨j, hj, rfl, hg, hO⟩ := hrel
    have HOj := Lib.hid hO
    have Hg := Lib.hid hg
    by_cases hlt : j < 12
    · obtain ⟨x, hx⟩ : ∃ x, l[j]? = some x := ⟨_, List.getElem?_eq_getElem (by rw [Hll.out]; exact hlt)⟩
      have hi : (j : Int) < 12 := by omega
      have cO := hO.at j _ (arr_at _ j 0 (fillTo_at l 12 j Hll.out hlt))
      have fO := hO.free j
      have cb : wr.cell? ⟨k, 4 + j, none⟩ = some (.int .u8 (x : Int)) := (Hk.out.grown hg (fun e => by injection e; omega)).at (4 + j) _ (own_cell Hk6.out (by rw [HE.out, hx]))
      unfold vb at cO
      have Hx := Lib.hid hx
      clear hO hg hx
      go_wp2_with fail
      go_roundw
      case rel => exact ⟨j + 1, by omega, by go_num, gb_set Hg.out (p := ⟨w.heap.size + 1 + 1, j, none⟩) (.inl rfl) _, by rw [← fillTo_succ l 12 j x Hll.out hlt Hx.out, ← arr_set]; exact HOj.out.put j _⟩
      case measure => simp [intOf]; omega
    · obtain rfl : j = 12 := by omega
      rw [fillTo_all l 12 Hll.out] at HOj
      have HRj := Lib.hid (HR1.out.grown hg (fun e => by injection e; omega))
      have hs12 : (Try.prog.info? 36).map (·.size) = some ((l.map vb).toArray).size := by rw [arr_size, Hll.out]; exact size12
      have hs12' : (Try.prog.info? 36).map (·.size) = some (l.map vb).length := by rw [List.length_map, Hll.out]; exact size12
      have Hs := Lib.hid hs12
      have Hs' := Lib.hid hs12'
      have Hz := Lib.hid (show (l.map vb).length = zero12.size by rw [List.length_map, Hll.out]; rfl)
      have hnr := nu_grown hn1 hg (by omega)
      clear hO hg hs12 hs12'
      go_wp2_with (first | (refine wpList_load_blk rfl 36 (.tmp 3) rfl (w.heap.size + 1 + 1) rfl 36 _ HOj.out Try.underlying36 Hs.out ?_) | (refine wpList_store_blk rfl 36 (.tmp 2) (.tmp 19) rfl (w.heap.size + 1) (l.map vb) rfl rfl 36 zero12 HRj.out Hz.out Hs'.out (vb_one l) ?_))
      have HF := HRj.out.fill (l.map vb) Hz.out
      refine bodyPost_ret (results_blk rfl _ (w.heap.size + 1) _ _ rfl HF Try.underlying36 Hs.out) rfl ⟨by rw [HV.out], nu_fill (l.map vb) (by omega) 0 wr hnr⟩

/-- A call that makes memory alone, beside the two entries' boxes. -/
theorem call_S {f : FuncId} {args : Array Value} {v : Value} {w W : World} {X Y : Nat} {x0 x1 x2 y0 y1 y2 : Value} (h : ∀ W, Calls Try.prog f args W fun e w' => e = .returned v ∧ Below W.heap.size W w')
    (hS : W.cell? ⟨X, 0, none⟩ = some x0 ∧ W.cell? ⟨X, 1, none⟩ = some x1 ∧ W.cell? ⟨X, 2, none⟩ = some x2 ∧ W.cell? ⟨Y, 0, none⟩ = some y0 ∧ W.cell? ⟨Y, 1, none⟩ = some y1 ∧ W.cell? ⟨Y, 2, none⟩ = some y2) (hn : Below w.heap.size w W) :
    Calls Try.prog f args W fun e w' => e = .returned v ∧ (w'.cell? ⟨X, 0, none⟩ = some x0 ∧ w'.cell? ⟨X, 1, none⟩ = some x1 ∧ w'.cell? ⟨X, 2, none⟩ = some x2 ∧ w'.cell? ⟨Y, 0, none⟩ = some y0 ∧ w'.cell? ⟨Y, 1, none⟩ = some y1 ∧ w'.cell? ⟨Y, 2, none⟩ = some y2) ∧ Below w.heap.size w w' := by
  refine (h W).mono ?_
  rintro e w' ⟨he, hb⟩
  obtain ⟨h1, h2, h3, h4, h5, h6⟩ := hS
  have k : ∀ (p : Addr) (v : Value), W.cell? p = some v → w'.cell? p = some v := fun p v hp => (hb.cell (World.block_lt_of_cell? _ _ hp)).trans hp
  exact ⟨he, ⟨k _ _ h1, k _ _ h2, k _ _ h3, k _ _ h4, k _ _ h5, k _ _ h6⟩, nu_trans hn hb⟩

set_option maxRecDepth 100000 in
set_option maxHeartbeats 2000000 in
theorem countNonces_case (e0 e1 e2 f0 f1 f2 : Nat) (w : World) (b0 : e0 < 4294967296) (b1 : e1 < 4294967296) (b2 : e2 < 18446744073709551616) (d1 : f1 < 4294967296) (d2 : f2 < 18446744073709551616) (s : Bool)
    (tt : (((e1 : Int) == (f1 : Int)) = true ∧ ((e2 : Int) == (f2 : Int)) = s) ∨ (((e1 : Int) == (f1 : Int)) = false ∧ s = false)) (hA : ∀ W : World, (Op.equalIn 10000 36 (.agg (nonceV e1 e2)) (.agg (nonceV e1 e2))).run Try.prog W = .ok true W)
    (hB : ∀ W : World, (Op.equalIn 10000 36 (.agg (nonceV e1 e2)) (.agg (nonceV f1 f2))).run Try.prog W = .ok s W) :
    Calls Try.prog 4 #[.agg #[.int .u32 (e0 : Int), .int .u32 (e1 : Int), .int .u64 (e2 : Int)], .agg #[.int .u32 (f0 : Int), .int .u32 (f1 : Int), .int .u64 (f2 : Int)]] w fun e w' => e = .returned (.bool true) ∧ Below w.heap.size w w' := by
  have Hc1 := Lib.hid (fun W => nonce_any e0 e1 e2 W b1 b2)
  have Hc2 := Lib.hid (fun W => refNonce_any e0 e1 e2 W b0 b1 b2)
  have Hc3 := Lib.hid (fun W => nonce_any f0 f1 f2 W d1 d2)
  have Hc4 := Lib.hid (fun W : World => countAwake_any W)
  have Hn0 := Lib.hid (nu_alloc (nu_alloc (nu_refl w) (.cells #[.int .u32 (e0 : Int), .int .u32 (e1 : Int), .int .u64 (e2 : Int)] 35)) (.cells #[.int .u32 (f0 : Int), .int .u32 (f1 : Int), .int .u64 (f2 : Int)] 35))
  have hX := (Blk.made w 35 #[.int .u32 (e0 : Int), .int .u32 (e1 : Int), .int .u64 (e2 : Int)]).alloc (.cells #[.int .u32 (f0 : Int), .int .u32 (f1 : Int), .int .u64 (f2 : Int)] 35)
  have hY := Blk.made1 w (.cells #[.int .u32 (e0 : Int), .int .u32 (e1 : Int), .int .u64 (e2 : Int)] 35) 35 #[.int .u32 (f0 : Int), .int .u32 (f1 : Int), .int .u64 (f2 : Int)]
  have HX := Lib.hid hX
  have HY := Lib.hid hY
  clear b0 b1 b2 d1 d2 hX hY
  rcases tt with ⟨t1, t2⟩ | ⟨t1, rfl⟩
  all_goals
    go_enter Try.func4, Try.ntmps4
    go_wp2_with fail
    have x0 := HX.out.at 0 (.int .u32 (e0 : Int)) rfl
    have x1 := HX.out.at 1 (.int .u32 (e1 : Int)) rfl
    have x2 := HX.out.at 2 (.int .u64 (e2 : Int)) rfl
    have y0 := HY.out.at 0 (.int .u32 (f0 : Int)) rfl
    have y1 := HY.out.at 1 (.int .u32 (f1 : Int)) rfl
    have y2 := HY.out.at 2 (.int .u64 (f2 : Int)) rfl
    have hn0 := Hn0.out
    generalize (w.alloc (.cells #[.int .u32 (e0 : Int), .int .u32 (e1 : Int), .int .u64 (e2 : Int)] 35)).alloc (.cells #[.int .u32 (f0 : Int), .int .u32 (f1 : Int), .int .u64 (f2 : Int)] 35) = u0 at x0 x1 x2 y0 y1 y2 hn0 ⊢
    have hn1 := nu_drew hn0
    go_region_held3 (fun w' => w'.cell? ⟨w.heap.size, 0, none⟩ = some (.int .u32 (e0 : Int)) ∧ w'.cell? ⟨w.heap.size, 1, none⟩ = some (.int .u32 (e1 : Int)) ∧ w'.cell? ⟨w.heap.size, 2, none⟩ = some (.int .u64 (e2 : Int)) ∧ w'.cell? ⟨w.heap.size + 1, 0, none⟩ = some (.int .u32 (f0 : Int)) ∧ w'.cell? ⟨w.heap.size + 1, 1, none⟩ = some (.int .u32 (f1 : Int)) ∧ w'.cell? ⟨w.heap.size + 1, 2, none⟩ = some (.int .u64 (f2 : Int)))
      (first | exact hS | go_keep)
      (first | (go_at_call 18; (with_reducible refine (call_S (w := w) (X := w.heap.size) (Y := w.heap.size + 1) (x0 := .int .u32 (e0 : Int)) (x1 := .int .u32 (e1 : Int)) (x2 := .int .u64 (e2 : Int)) (y0 := .int .u32 (f0 : Int)) (y1 := .int .u32 (f1 : Int)) (y2 := .int .u64 (f2 : Int)) Hc1.out ?_ ?_).mono ?_); (first | assumption | exact ⟨by assumption, by assumption, by assumption, by assumption, by assumption, by assumption⟩); assumption; rintro e u1 ⟨rfl, hS, hn⟩) | (go_at_call 18; (with_reducible refine (call_S (w := w) (X := w.heap.size) (Y := w.heap.size + 1) (x0 := .int .u32 (e0 : Int)) (x1 := .int .u32 (e1 : Int)) (x2 := .int .u64 (e2 : Int)) (y0 := .int .u32 (f0 : Int)) (y1 := .int .u32 (f1 : Int)) (y2 := .int .u64 (f2 : Int)) Hc3.out ?_ ?_).mono ?_); (first | assumption | exact ⟨by assumption, by assumption, by assumption, by assumption, by assumption, by assumption⟩); assumption; rintro e u1 ⟨rfl, hS, hn⟩) | (go_at_call 19; (with_reducible refine (call_S (w := w) (X := w.heap.size) (Y := w.heap.size + 1) (x0 := .int .u32 (e0 : Int)) (x1 := .int .u32 (e1 : Int)) (x2 := .int .u64 (e2 : Int)) (y0 := .int .u32 (f0 : Int)) (y1 := .int .u32 (f1 : Int)) (y2 := .int .u64 (f2 : Int)) Hc2.out ?_ ?_).mono ?_); (first | assumption | exact ⟨by assumption, by assumption, by assumption, by assumption, by assumption, by assumption⟩); assumption; rintro e u1 ⟨rfl, hS, hn⟩) | (go_at_call 17; (with_reducible refine (call_S (w := w) (X := w.heap.size) (Y := w.heap.size + 1) (x0 := .int .u32 (e0 : Int)) (x1 := .int .u32 (e1 : Int)) (x2 := .int .u64 (e2 : Int)) (y0 := .int .u32 (f0 : Int)) (y1 := .int .u32 (f1 : Int)) (y2 := .int .u64 (f2 : Int)) Hc4.out ?_ ?_).mono ?_); (first | assumption | exact ⟨by assumption, by assumption, by assumption, by assumption, by assumption, by assumption⟩); assumption; rintro e u1 ⟨rfl, hS, hn⟩))
    go_wp2_with fail
    go_ret
    exact ⟨rfl, by assumption⟩

theorem nonceL_inj2 {a b c d : Nat} (ha : a < 4294967296) (hb : b < 18446744073709551616) (hc : c < 4294967296) (hd : d < 18446744073709551616) (h : nonceL a b = nonceL c d) : a = c ∧ b = d := by
  unfold nonceL at h
  obtain ⟨h1, h2⟩ := List.append_inj h (by simp [beL_length])
  exact ⟨beL_inj (size := 4) (by omega) (by omega) h1, beL_inj (size := 8) (by omega) (by omega) h2⟩

theorem nonce_eq (a b c d : Nat) (W : World) : (Op.equalIn 10000 36 (.agg (nonceV a b)) (.agg (nonceV c d))).run Try.prog W = .ok (decide (nonceL a b = nonceL c d)) W := by
  obtain ⟨i0, hi, _⟩ := info_parts info_u8
  exact run_equalIn_bytes W Try.underlying36 hi Try.underlying5 (by kernel_rfl) (by kernel_rfl) (nonceL a b) (nonceL c d) (nonceL_len a b) (nonceL_len c d)

theorem countNonces_walk (e0 e1 e2 f0 f1 f2 : Int) (w : World) (w0 : (Lit.int .u32 e0).wf = true) (w1 : (Lit.int .u32 e1).wf = true) (w2 : (Lit.int .u64 e2).wf = true) (z0 : (Lit.int .u32 f0).wf = true) (z1 : (Lit.int .u32 f1).wf = true) (z2 : (Lit.int .u64 f2).wf = true) :
    Calls Try.prog 4 #[.agg #[.int .u32 e0, .int .u32 e1, .int .u64 e2], .agg #[.int .u32 f0, .int .u32 f1, .int .u64 f2]] w fun e w' => e = .returned (.bool true) ∧ Below w.heap.size w w' := by
  have b0 := bounds_u32 w0
  have b1 := bounds_u32 w1
  have b2 := bounds_u64 w2
  have d0 := bounds_u32 z0
  have d1 := bounds_u32 z1
  have d2 := bounds_u64 z2
  obtain ⟨e0, rfl⟩ := Int.eq_ofNat_of_zero_le b0.1
  obtain ⟨e1, rfl⟩ := Int.eq_ofNat_of_zero_le b1.1
  obtain ⟨e2, rfl⟩ := Int.eq_ofNat_of_zero_le b2.1
  obtain ⟨f0, rfl⟩ := Int.eq_ofNat_of_zero_le d0.1
  obtain ⟨f1, rfl⟩ := Int.eq_ofNat_of_zero_le d1.1
  obtain ⟨f2, rfl⟩ := Int.eq_ofNat_of_zero_le d2.1
  have hA : ∀ W : World, (Op.equalIn 10000 36 (.agg (nonceV e1 e2)) (.agg (nonceV e1 e2))).run Try.prog W = .ok true W := fun W => by rw [nonce_eq]; simp
  have hB : ∀ W : World, (Op.equalIn 10000 36 (.agg (nonceV e1 e2)) (.agg (nonceV f1 f2))).run Try.prog W = .ok (decide (e1 = f1 ∧ e2 = f2)) W := fun W => by
    rw [nonce_eq]
    have h : (nonceL e1 e2 = nonceL f1 f2) ↔ (e1 = f1 ∧ e2 = f2) := ⟨fun h => nonceL_inj2 (by omega) (by omega) (by omega) (by omega) h, by rintro ⟨rfl, rfl⟩; rfl⟩
    simp only [h]
  refine countNonces_case e0 e1 e2 f0 f1 f2 w (by omega) (by omega) (by omega) (by omega) (by omega) _ ?_ hA hB
  by_cases h : e1 = f1
  · refine .inl ⟨by rw [beq_iff_eq]; omega, ?_⟩
    rw [Bool.eq_iff_iff, beq_iff_eq, decide_eq_true_iff]
    omega
  · refine .inr ⟨by rw [beq_eq_false_iff_ne]; omega, ?_⟩
    rw [decide_eq_false_iff_not]
    exact fun h' => h h'.1
end Go.Proofs.Ytogcckedelkpbaa
