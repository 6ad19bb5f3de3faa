/-
  What the proof of DevBack rests on, part 7 of 9.
-/
import Derived.Test.YtjmghpoknlffiaaDevBackB6
namespace Go.Proofs.Ytjmghpoknlffiaa
open Go.ChangeShapes Go.WideShapes Go.ChangeAt Go.RowKit
set_option linter.unusedSimpArgs false

theorem calls_back {P : Program} {f : FuncId} {args : Array Value} {w : World} {v : Value} (h : Calls P f args w fun e w' => e = .returned v ∧ w = w') : Calls P f args w fun e w' => e = .returned v ∧ w' = w := h.mono fun _ _ h => ⟨h.1, h.2.symm⟩
set_option maxRecDepth 100000 in
set_option maxHeartbeats 4000000 in
theorem begun_any (n : Nat) (h1 : 1 ≤ n) (h2 : n ≤ 65536) (w : World) : Calls Try.prog 25 #[.int .i64 (n : Int)] w fun e w' =>
    ∃ d x, e = .returned (.agg #[.pointer (some ⟨d, 0, none⟩), .pointer (some ⟨x, 0, none⟩)]) ∧ ∃ U, Pair2 w' d x (Dv.new n) (Dv.new n) U ∧ (∀ k, U k → w.heap.size ≤ k) ∧ Below w.heap.size w w' := by
  have HD := Lib.hid (fun u => devNew_any n h1 h2 u)
  have HX := Lib.hid (fun u => xNew_any n h1 h2 u)
  have HR := Lib.hid (Blk.made w 45 #[.pointer none, .pointer none])
  have Hb1 := Lib.hid (nu_alloc (nu_refl w) (.cells #[.pointer none, .pointer none] 45))
  clear h1 h2
  go_enter Try.func25, Try.ntmps25
  go_upto_region 1 with fail
  change Code.wp _ _ _ _ (w.alloc (.cells #[.pointer none, .pointer none] 45))
  generalize w.alloc (.cells #[.pointer none, .pointer none] 45) = w1 at *
  obtain ⟨R, hR⟩ : ∃ R, R = w.heap.size := ⟨_, rfl⟩
  have HRw := Lib.hid (show w.heap.size ≤ R from Nat.le_of_eq hR.symm)
  rw [← hR] at HR
  rw [← hR]
  clear hR
  go_wp2_with fail
  refine (HD.out w1).mono ?_
  rintro e w2 ⟨d, rfl, F, hD, hF, hb2⟩
  have HDd := Lib.hid hD
  have HF := Lib.hid hF
  have Hb2 := Lib.hid hb2
  clear hD hF hb2 HD
  go_wp2_with fail
  refine (HX.out w2).mono ?_
  rintro e w3 ⟨x, rfl, G, hX, hG, hb3⟩
  have hR3 := HR.out.below (nu_trans Hb2.out hb3) HR.out.lt
  have HR4 := Lib.hid (Blk.fill hR3 [.pointer (some ⟨d, 0, none⟩), .pointer (some ⟨x, 0, none⟩)] rfl)
  have HR3 := Lib.hid hR3
  have hm : Mods (fun k => k = R) w3 (w3.setCells R 0 [.pointer (some ⟨d, 0, none⟩), .pointer (some ⟨x, 0, none⟩)]) := (Mods.refl _ w3).grown (row := some R) (gb_set (gb_set (gb_refl w3 (some R)) (p := ⟨R, 0, none⟩) (.inl rfl) _) (p := ⟨R, 1, none⟩) (.inl rfl) _) (fun k hk => .inl (by injection hk with hk; exact hk.symm))
  have hd3 := HDd.out.below hb3
  have hlt1 := HR.out.lt
  have HP := Lib.hid (show Pair2 (w3.setCells R 0 [.pointer (some ⟨d, 0, none⟩), .pointer (some ⟨x, 0, none⟩)]) d x (Dv.new n) (Dv.new n) (fun k => F k ∨ G k) from
    ⟨F, G, hd3.mods hm (fun k hk e => by have h1 := HF.out k hk; omega), hX.mods hm (fun k hk e => by have h1 := hG k hk; have h2 := Hb2.out.size; omega), fun k hk hg => by have h1 := HDd.out.2.1 k hk; have h2 := hG k hg; omega, fun k hk => .inl hk, fun k hk => .inr hk, fun k hk => by
      rcases hk with hk | hk
      · exact Nat.lt_of_lt_of_le (hd3.2.1 k hk) hm.size
      · exact Nat.lt_of_lt_of_le (hX.2.1 k hk) hm.size⟩)
  have HU := Lib.hid (show ∀ k, F k ∨ G k → w.heap.size ≤ k from fun k hk => by
    have h0 := Hb1.out.size
    rcases hk with hk | hk
    · have h1 := HF.out k hk; omega
    · have h1 := hG k hk
      have h2 := Hb2.out.size
      omega)
  have Hb4 := Lib.hid (show Below w.heap.size w (w3.setCells R 0 [.pointer (some ⟨d, 0, none⟩), .pointer (some ⟨x, 0, none⟩)]) from nu_fill _ HRw.out 0 _ (nu_trans Hb1.out (nu_trans Hb2.out hb3)))
  clear hX hG hb3 hR3 hm hd3 hlt1 HX HDd HF Hb2 Hb1 HR
  go_wp2_with (refine wpList_store_in rfl 45 (.tmp 2) (.tmp 13) rfl R 0 [.pointer (some ⟨d, 0, none⟩), .pointer (some ⟨x, 0, none⟩)] rfl rfl 45 _ HR3.out (by simp) (by kernel_rfl) (fun u hu => by simp only [List.mem_cons, List.not_mem_nil, or_false] at hu; rcases hu with rfl | rfl <;> rfl) ?_)
  refine bodyPost_ret (results_blkS rfl _ R 45 #[.pointer (some ⟨d, 0, none⟩), .pointer (some ⟨x, 0, none⟩)] rfl HR4.out Try.underlying45 (by kernel_rfl)) rfl ⟨d, x, rfl, _, HP.out, HU.out, Hb4.out⟩
section
variable {w : World} {d x : Nat} {s : Dv} {U : Nat → Prop}
set_option maxRecDepth 100000 in
set_option maxHeartbeats 8000000 in
theorem alike_any (H : Pair2 w d x s s U) (hwl : s.wa.length ≤ 1000000000) : Calls Try.prog 31 #[.agg #[.pointer (some ⟨d, 0, none⟩), .pointer (some ⟨x, 0, none⟩)]] w fun e w' => e = .returned (.bool true) ∧ Below w.heap.size w w' := by
  have hal := nu_alloc (nu_refl w) (.cells #[.pointer (some ⟨d, 0, none⟩), .pointer (some ⟨x, 0, none⟩)] 45)
  have hpm := Blk.made w 45 #[.pointer (some ⟨d, 0, none⟩), .pointer (some ⟨x, 0, none⟩)]
  have HP := Lib.hid hpm
  obtain ⟨F, G, hD0, hX0, _⟩ := H
  have HD := Lib.hid (hD0.below hal)
  have HX := Lib.hid (hX0.below hal)
  have Hb1 := Lib.hid hal
  have Hwl := Lib.hid hwl
  clear hal hpm hwl hD0 hX0
  go_enter Try.func31, Try.ntmps31
  go_upto_region 1 with fail
  change Code.wp _ _ _ _ (w.alloc (.cells #[.pointer (some ⟨d, 0, none⟩), .pointer (some ⟨x, 0, none⟩)] 45))
  generalize w.alloc (.cells #[.pointer (some ⟨d, 0, none⟩), .pointer (some ⟨x, 0, none⟩)] 45) = w1 at *
  obtain ⟨P, hP⟩ : ∃ P, P = w.heap.size := ⟨_, rfl⟩
  rw [← hP] at HP
  rw [← hP]
  clear hP
  have hdr := nu_drew (nu_refl w1)
  have hDd := HD.out.below hdr
  have HWt := Lib.hid (calls_back (waits_any hDd))
  have HCo := Lib.hid (calls_back (count_any hDd))
  have HUp := Lib.hid (calls_back (upD_any hDd))
  have HBl := Lib.hid (calls_back (blocks_any hDd))
  obtain ⟨st, wa, cp, wv, bs, ws, rs, cv, Fz, M⟩ := HX.out.state
  obtain ⟨g, cap, rfl, _⟩ := M.st.slot HX.out.1.n1 HX.out.1.st
  obtain ⟨ao, ac, rfl⟩ := own_len M.wa.1
  obtain ⟨c0, c1, c2, _, c4, _⟩ := RefAt.cells M.dv
  have cP0 : w1.cell? ⟨P, 0, none⟩ = some (.pointer (some ⟨d, 0, none⟩)) := HP.out.at 0 _ rfl
  have cP1 : w1.cell? ⟨P, 1, none⟩ = some (.pointer (some ⟨x, 0, none⟩)) := HP.out.at 1 _ rfl
  obtain ⟨n, hn⟩ : ∃ n, n = s.st.length := ⟨_, rfl⟩
  have Hn := Lib.hid hn
  have hn2 : n ≤ 65536 := by rw [hn]; exact HX.out.1.n2
  rw [← hn] at c0 HBl
  obtain ⟨m, hm⟩ : ∃ m, m = s.wa.length := ⟨_, rfl⟩
  rw [← hm] at c1 HWt
  obtain ⟨co, hco⟩ : ∃ co, co = s.co := ⟨_, rfl⟩
  rw [← hco] at c4 HCo
  obtain ⟨off, hoff⟩ : ∃ off, off = s.off := ⟨_, rfl⟩
  have Hoff := Lib.hid hoff
  rw [← hoff] at c2 HUp
  have hne : ((!off) == off) = false := by cases off <;> rfl
  have Hc0 := Lib.hid c0
  have Hc2 := Lib.hid c2
  clear M hn hm hco hoff hDd
  refine wp_region_still_lit (by kernel_rfl) (by kernel_rfl) ?_
  repeat (first | still_step | still_call HWt.out | still_call HCo.out | still_call HUp.out | still_call HBl.out)
  refine wpStill_nil ?_
  change Exit.then _ _ _ _ w1.drew
  have hb2 := nu_drew (nu_refl w1)
  have HDw := Lib.hid (HD.out.below hb2)
  have HXw := Lib.hid (HX.out.below hb2)
  have HPw := Lib.hid (HP.out.below hb2 HP.out.lt)
  have Hb2 := Lib.hid (nu_trans Hb1.out hb2)
  have Hc02 := Lib.hid (cell_below hb2 Hc0.out)
  have Hc22 := Lib.hid (cell_below hb2 Hc2.out)
  clear hb2 HD HX HP Hb1 Hc0 Hc2 c0 c1 c2 c4 cP0 cP1 hdr HWt HCo HUp HBl
  generalize w1.drew = w2 at *
  go_wp2_with fail
  go_loopw [3] (fun iv wx => ∃ k : Nat, k ≤ n ∧ iv = .int .i64 k ∧ Below w2.heap.size w2 wx) (fun iv _ => n - (intOf iv).toNat)
  case atStart => exact ⟨0, by omega, rfl, nu_refl w2⟩
  case round =>
    obtain ⟨k, hk, rfl, hb⟩ := hrel
    have cP0 : wr.cell? ⟨P, 0, none⟩ = some (.pointer (some ⟨d, 0, none⟩)) := (HPw.out.below hb HPw.out.lt).at 0 _ rfl
    have cP1 : wr.cell? ⟨P, 1, none⟩ = some (.pointer (some ⟨x, 0, none⟩)) := (HPw.out.below hb HPw.out.lt).at 1 _ rfl
    have c0 := cell_below hb Hc02.out
    have c2 := cell_below hb Hc22.out
    have Hb := Lib.hid hb
    by_cases hlt : k < n
    · have hki : (k : Int) < (n : Int) := by omega
      cases off with
      | true =>
        have HE := Lib.hid (nu_trans Hb2.out hb)
        clear hb
        go_wp2_with fail
        go_ret
        exact ⟨rfl, HE.out⟩
      | false =>
        obtain ⟨D, hD⟩ : ∃ D, D = s.now k := ⟨_, rfl⟩
        have hks : k < s.st.length := by rw [← Hn.out]; exact hlt
        have HDb := Lib.hid (show Bl D by rw [hD]; exact HDw.out.1.now hks)
        have HRd := Lib.hid (show Calls Try.prog 15 #[.pointer (some ⟨d, 0, none⟩), .int .i64 (k : Int)] wr fun e w' => ∃ G, e = .returned (.tuple #[.slice (some ⟨G, 0, none⟩) 256 256, .int .i64 0]) ∧ wr.heap.size ≤ G ∧ Blk w' G 73 (D.map vb).toArray ∧ Below wr.heap.size wr w' from by
          rw [hD]
          exact readD_good (HDw.out.below hb) k hks Hoff.out.symm Hwl.out)
        have HNw := Lib.hid (show ∀ u, Below wr.heap.size wr u → Calls Try.prog 53 #[.pointer (some ⟨x, 0, none⟩), .int .i64 (k : Int)] u fun e w' => ∃ C cc, e = .returned (.slice (some ⟨C, 0, none⟩) 256 cc) ∧ OwnB w' u.heap.size 5 (.slice (some ⟨C, 0, none⟩) 256 cc) D ∧ Below u.heap.size u w' from fun u hu => xNow_any (HXw.out.below (nu_trans hb hu)) k hks D hD.symm Hwl.out)
        clear hb hD hks
        go_wp2_with fail
        refine HRd.out.mono ?_
        rintro e w3 ⟨G, rfl, _, hB, hb3⟩
        have HB := Lib.hid hB
        have Hb3 := Lib.hid hb3
        clear cP0
        have cP1 := cell_below hb3 cP1
        clear hB hb3 HRd c0 c2
        go_wp2_with fail
        refine (HNw.out w3 Hb3.out).mono ?_
        rintro e w4 ⟨C, cc, rfl, hO, hb4⟩
        have HO4 := Lib.hid hO
        have HB4 := Lib.hid (HB.out.below hb4 HB.out.lt)
        have Hb4 := Lib.hid (nu_trans Hb3.out hb4)
        clear hO hb4 HB Hb3 HNw cP1
        go_wp2_with fail
        refine (same_is (xs := D) (ys := D) true (decide_eq_true rfl) (bytes_256 HB4.out HDb.out).1 (ownB_bytes HO4.out HDb.out.1).1 (by omega) (by omega)).mono ?_
        rintro e w5 ⟨rfl, nn, rfl⟩
        have Hb5 := Lib.hid (nu_trans Hb.out (nu_trans Hb4.out (nu_drewN (nu_refl w4) nn)))
        clear HB4 HO4 Hb4 HDb Hb
        generalize w4.drewN nn = w5 at *
        go_wp2_with fail
        go_roundw
        case rel => first | exact ⟨k + 1, by omega, by go_num, Hb5.out⟩ | ((repeat apply Exists.intro); exact ⟨⟨k + 1, by omega, by go_num, Hb5.out⟩, rfl⟩)
        case measure => simp [intOf]; omega
    · obtain rfl : k = n := by omega
      have hki : ¬ (k : Int) < (k : Int) := by omega
      have HE := Lib.hid (nu_trans Hb2.out hb)
      clear hb Hb
      go_wp2_with fail
      go_ret
      exact ⟨rfl, HE.out⟩
end
end Go.Proofs.Ytjmghpoknlffiaa

namespace Go.Proofs.Ytjmghpoknlffiaa
open Go.ChangeShapes Go.WideShapes Go.ChangeAt Go.RowKit
set_option linter.unusedSimpArgs false

theorem WrRow.zero {w : World} {base : Nat} {v : Value} {wr : List (Nat × List Nat)} {ws : List Value} (h : WrRow w base v wr ws) : WrRow w 0 v wr ws := ⟨own_zero h.1, h.2.1, fun i u p h1 h2 => own_mono (h.2.2 i u p h1 h2) (Nat.zero_le _)⟩
set_option maxRecDepth 100000 in
set_option maxHeartbeats 8000000 in
theorem sameW_any {w : World} {v1 v2 : Value} {l : List (Nat × List Nat)} {ws1 ws2 : List Value} (h1 : WrRow w 0 v1 l ws1) (h2 : WrRow w 0 v2 l ws2) (hb : ∀ p ∈ l, Bl p.2) (hl : l.length ≤ 1000000000) :
    Calls Try.prog 32 #[v1, v2] w fun e w' => e = .returned (.bool true) ∧ Below w.heap.size w w' := by
  obtain ⟨a1, c1, rfl⟩ := own_len h1.1
  obtain ⟨a2, c2, rfl⟩ := own_len h2.1
  obtain ⟨m, hm⟩ : ∃ m, m = l.length := ⟨_, rfl⟩
  have Hm := Lib.hid hm
  rw [← hm] at h1 h2 hl
  rw [← hm]
  have H1 := Lib.hid h1
  have H2 := Lib.hid h2
  have Hbl := Lib.hid hb
  clear h1 h2 hb hm
  go_enter Try.func32, Try.ntmps32
  go_wp2_with fail
  go_loopw [5] (fun iv wx => ∃ k : Nat, k ≤ m ∧ iv = .int .i64 k ∧ Below w.heap.size w wx) (fun iv _ => m - (intOf iv).toNat)
  case atStart => exact ⟨0, by omega, rfl, nu_refl w⟩
  case round =>
    obtain ⟨k, hk, rfl, hb⟩ := hrel
    by_cases hlt : k < m
    · have hki : (k : Int) < (m : Int) := by omega
      obtain ⟨p, hp⟩ : ∃ p, l[k]? = some p := ⟨_, List.getElem?_eq_getElem (by rw [← Hm.out]; exact hlt)⟩
      have hpb := Hbl.out p (List.mem_of_getElem? hp)
      obtain ⟨g1, cap1, e1, hs1⟩ := (H1.out.below hb).slot (by rw [← Hm.out]; omega) Hbl.out
      rw [← Hm.out] at e1
      injection e1 with e1 _ e3
      subst e1
      obtain ⟨C1, d1, k1, k3, hO1, _⟩ := hs1 k p hp
      obtain ⟨g2, cap2, e1, hs2⟩ := (H2.out.below hb).slot (by rw [← Hm.out]; omega) Hbl.out
      rw [← Hm.out] at e1
      injection e1 with e1 _ e4
      subst e1
      clear e3 e4
      obtain ⟨C2, d2, k2, k4, hO2, _⟩ := hs2 k p hp
      have k1 := Lib.hid k1
      have k2 := Lib.hid k2
      have k3 := Lib.hid k3
      have k4 := Lib.hid k4
      have HSm := Lib.hid (show ∀ u, Below wr.heap.size wr u → Calls Try.prog 19 #[.slice (some ⟨C1, 0, none⟩) 256 d1, .slice (some ⟨C2, 0, none⟩) 256 d2] u fun e w' => e = .returned (.bool true) ∧ ∃ n, w' = u.drewN n from fun u hu => same_is true (decide_eq_true rfl) (ownB_bytes (ownB_under hO1 hu) hpb.1).1 (ownB_bytes (ownB_under hO2 hu) hpb.1).1 (by omega) (by omega))
      have Hb := Lib.hid hb
      clear hp hpb hs1 hs2 hO1 hO2 hb
      go_upto_region 6 with fail
      refine wp_region_held_drew (S := fun w' => Below wr.heap.size wr w') (by kernel_rfl) (nu_drew (nu_refl _)) (fun hHeld => ?_)
      dsimp only [Array.replicate, List.replicate, List.size_toArray, List.length_cons, List.length_nil, Nat.reduceAdd] at hHeld ⊢
      have Hb0 := Lib.hid (nu_drew (nu_refl wr))
      generalize wr.drew = u0 at *
      refine take_l (i := 0) (v := ?_) rfl (by kernel_rfl) (by kernel_rfl) (by kernel_rfl) (fun _ _ _ h => h) (Or.inl ⟨by rfl, ?_⟩) (by assumption) ?_
      case refine_2 => (intro _ _; go_simp; all_goals with_reducible rfl)
      simp only [Act.put, List.setIfInBounds_toArray, List.set_cons_zero, List.set_cons_succ]
      refine take_l (i := 1) (v := ?_) rfl (by kernel_rfl) (by kernel_rfl) (by kernel_rfl) (fun _ _ _ h => h) (Or.inl ⟨by rfl, ?_⟩) (by assumption) ?_
      case refine_2 => (intro _ _; go_simp; all_goals with_reducible rfl)
      simp only [Act.put, List.setIfInBounds_toArray, List.set_cons_zero, List.set_cons_succ]
      refine take_l (i := 2) (v := ?_) rfl (by kernel_rfl) (by kernel_rfl) (by kernel_rfl) (fun _ _ _ h => h) (Or.inl ⟨by rfl, ?_⟩) (by assumption) ?_
      case refine_2 => (intro _ _; go_simp; all_goals with_reducible rfl)
      simp only [Act.put, List.setIfInBounds_toArray, List.set_cons_zero, List.set_cons_succ]
      refine take_l (i := 3) (v := ?_) rfl (by kernel_rfl) (by kernel_rfl) (by kernel_rfl) (fun _ _ _ h => h) (Or.inl ⟨by rfl, ?_⟩) (by assumption) ?_
      case refine_2 => (intro _ _; go_simp; all_goals with_reducible rfl)
      simp only [Act.put, List.setIfInBounds_toArray, List.set_cons_zero, List.set_cons_succ]
      refine take_l (i := 4) rfl (by kernel_rfl) (by kernel_rfl) (by kernel_rfl) (fun _ _ _ h => h) (Or.inl ⟨by rfl, fun W hS => e_int (cell_below hS k1.out) (.tmp 20) rfl rfl⟩) (by assumption) ?_
      simp only [Act.put, List.setIfInBounds_toArray, List.set_cons_zero, List.set_cons_succ]
      refine take_l (i := 5) (v := ?_) rfl (by kernel_rfl) (by kernel_rfl) (by kernel_rfl) (fun _ _ _ h => h) (Or.inl ⟨by rfl, ?_⟩) (by assumption) ?_
      case refine_2 => (intro _ _; go_simp; all_goals with_reducible rfl)
      simp only [Act.put, List.setIfInBounds_toArray, List.set_cons_zero, List.set_cons_succ]
      refine take_l (i := 6) (v := ?_) rfl (by kernel_rfl) (by kernel_rfl) (by kernel_rfl) (fun _ _ _ h => h) (Or.inl ⟨by rfl, ?_⟩) (by assumption) ?_
      case refine_2 => (intro _ _; go_simp; all_goals with_reducible rfl)
      simp only [Act.put, List.setIfInBounds_toArray, List.set_cons_zero, List.set_cons_succ]
      refine take_l (i := 7) (v := ?_) rfl (by kernel_rfl) (by kernel_rfl) (by kernel_rfl) (fun _ _ _ h => h) (Or.inl ⟨by rfl, ?_⟩) (by assumption) ?_
      case refine_2 => (intro _ _; go_simp; all_goals with_reducible rfl)
      simp only [Act.put, List.setIfInBounds_toArray, List.set_cons_zero, List.set_cons_succ]
      refine take_l (i := 8) (v := ?_) rfl (by kernel_rfl) (by kernel_rfl) (by kernel_rfl) (fun _ _ _ h => h) (Or.inl ⟨by rfl, ?_⟩) (by assumption) ?_
      case refine_2 => (intro _ _; go_simp; all_goals with_reducible rfl)
      simp only [Act.put, List.setIfInBounds_toArray, List.set_cons_zero, List.set_cons_succ]
      refine take_l (i := 9) rfl (by kernel_rfl) (by kernel_rfl) (by kernel_rfl) (fun _ _ _ h => h) (Or.inl ⟨by rfl, fun W hS => e_int (cell_below hS k2.out) (.tmp 25) rfl rfl⟩) (by assumption) ?_
      simp only [Act.put, List.setIfInBounds_toArray, List.set_cons_zero, List.set_cons_succ]
      refine take_l (i := 10) (v := ?_) rfl (by kernel_rfl) (by kernel_rfl) (by kernel_rfl) (fun _ _ _ h => h) (Or.inl ⟨by rfl, ?_⟩) (by assumption) ?_
      case refine_2 => (intro _ _; go_simp; all_goals with_reducible rfl)
      simp only [Act.put, List.setIfInBounds_toArray, List.set_cons_zero, List.set_cons_succ]
      refine take_l (i := 11) (v := ?_) rfl (by kernel_rfl) (by kernel_rfl) (by kernel_rfl) (fun _ _ _ h => h) (Or.inl ⟨by rfl, ?_⟩) (by assumption) ?_
      case refine_2 => (intro _ _; go_simp; all_goals with_reducible rfl)
      simp only [Act.put, List.setIfInBounds_toArray, List.set_cons_zero, List.set_cons_succ]
      refine take_l (i := 12) (v := ?_) rfl (by kernel_rfl) (by kernel_rfl) (by kernel_rfl) (fun _ _ _ h => h) (Or.inl ⟨by rfl, ?_⟩) (by assumption) ?_
      case refine_2 => (intro _ _; go_simp; all_goals with_reducible rfl)
      simp only [Act.put, List.setIfInBounds_toArray, List.set_cons_zero, List.set_cons_succ]
      refine take_l (i := 13) (v := ?_) rfl (by kernel_rfl) (by kernel_rfl) (by kernel_rfl) (fun _ _ _ h => h) (Or.inl ⟨by rfl, ?_⟩) (by assumption) ?_
      case refine_2 => (intro _ _; go_simp; all_goals with_reducible rfl)
      simp only [Act.put, List.setIfInBounds_toArray, List.set_cons_zero, List.set_cons_succ]
      refine take_l (i := 14) (v := ?_) rfl (by kernel_rfl) (by kernel_rfl) (by kernel_rfl) (fun _ _ _ h => h) (Or.inl ⟨by rfl, ?_⟩) (by assumption) ?_
      case refine_2 => (intro _ _; go_simp; all_goals with_reducible rfl)
      simp only [Act.put, List.setIfInBounds_toArray, List.set_cons_zero, List.set_cons_succ]
      refine take_l (i := 15) (v := ?_) rfl (by kernel_rfl) (by kernel_rfl) (by kernel_rfl) (fun _ _ _ h => h) (Or.inl ⟨by rfl, ?_⟩) (by assumption) ?_
      case refine_2 => (intro _ _; go_simp; all_goals with_reducible rfl)
      simp only [Act.put, List.setIfInBounds_toArray, List.set_cons_zero, List.set_cons_succ]
      refine take_l (i := 16) rfl (by kernel_rfl) (by kernel_rfl) (by kernel_rfl) (fun _ _ _ h => h) (Or.inl ⟨by rfl, fun W hS => e_sl22 (cell_below hS k3.out) (.tmp 32) rfl rfl⟩) (by assumption) ?_
      simp only [Act.put, List.setIfInBounds_toArray, List.set_cons_zero, List.set_cons_succ]
      refine take_l (i := 17) (v := ?_) rfl (by kernel_rfl) (by kernel_rfl) (by kernel_rfl) (fun _ _ _ h => h) (Or.inl ⟨by rfl, ?_⟩) (by assumption) ?_
      case refine_2 => (intro _ _; go_simp; all_goals with_reducible rfl)
      simp only [Act.put, List.setIfInBounds_toArray, List.set_cons_zero, List.set_cons_succ]
      refine take_l (i := 18) (v := ?_) rfl (by kernel_rfl) (by kernel_rfl) (by kernel_rfl) (fun _ _ _ h => h) (Or.inl ⟨by rfl, ?_⟩) (by assumption) ?_
      case refine_2 => (intro _ _; go_simp; all_goals with_reducible rfl)
      simp only [Act.put, List.setIfInBounds_toArray, List.set_cons_zero, List.set_cons_succ]
      refine take_l (i := 19) (v := ?_) rfl (by kernel_rfl) (by kernel_rfl) (by kernel_rfl) (fun _ _ _ h => h) (Or.inl ⟨by rfl, ?_⟩) (by assumption) ?_
      case refine_2 => (intro _ _; go_simp; all_goals with_reducible rfl)
      simp only [Act.put, List.setIfInBounds_toArray, List.set_cons_zero, List.set_cons_succ]
      refine take_l (i := 20) (v := ?_) rfl (by kernel_rfl) (by kernel_rfl) (by kernel_rfl) (fun _ _ _ h => h) (Or.inl ⟨by rfl, ?_⟩) (by assumption) ?_
      case refine_2 => (intro _ _; go_simp; all_goals with_reducible rfl)
      simp only [Act.put, List.setIfInBounds_toArray, List.set_cons_zero, List.set_cons_succ]
      refine take_l (i := 21) rfl (by kernel_rfl) (by kernel_rfl) (by kernel_rfl) (fun _ _ _ h => h) (Or.inl ⟨by rfl, fun W hS => e_sl22 (cell_below hS k4.out) (.tmp 37) rfl rfl⟩) (by assumption) ?_
      simp only [Act.put, List.setIfInBounds_toArray, List.set_cons_zero, List.set_cons_succ]
      clear hHeld
      refine wpAnyH_ready (rs := [22]) (by kernel_rfl) (by simp) ?_
      refine cons_l rfl (fun K hK => ?_) AllReadyH.nil
      go_simp
      go_at_call 19
      refine (HSm.out u0 Hb0.out).mono ?_
      rintro e u1 ⟨rfl, nn, rfl⟩
      have Hb1 := Lib.hid (nu_trans Hb0.out (nu_drewN (nu_refl u0) nn))
      clear Hb0
      generalize u0.drewN nn = u1 at *
      go_wp2_with fail
      refine hK.out _ _ Hb1.out (fun hHeld => ?_)
      clear hK K
      simp only [Act.put, List.setIfInBounds_toArray, List.set_cons_zero, List.set_cons_succ]
      refine take_l (i := 23) (v := ?_) rfl (by kernel_rfl) (by kernel_rfl) (by kernel_rfl) (fun _ _ _ h => h) (Or.inl ⟨by rfl, ?_⟩) (by assumption) ?_
      case refine_2 => (intro _ _; go_simp; all_goals with_reducible rfl)
      simp only [Act.put, List.setIfInBounds_toArray, List.set_cons_zero, List.set_cons_succ]
      refine take_l (i := 24) (v := ?_) rfl (by kernel_rfl) (by kernel_rfl) (by kernel_rfl) (fun _ _ _ h => h) (Or.inl ⟨by rfl, ?_⟩) (by assumption) ?_
      case refine_2 => (intro _ _; go_simp; all_goals with_reducible rfl)
      simp only [Act.put, List.setIfInBounds_toArray, List.set_cons_zero, List.set_cons_succ]
      refine wpAnyH_done (by kernel_rfl) ?_ _
      clear hHeld
      have Hbe := Lib.hid (nu_trans Hb.out Hb1.out)
      clear Hb1
      go_wp2_with fail
      go_roundw
      case rel => first | exact ⟨k + 1, by omega, by go_num, Hbe.out⟩ | ((repeat apply Exists.intro); exact ⟨⟨k + 1, by omega, by go_num, Hbe.out⟩, rfl⟩)
      case measure => simp [intOf]; omega
    · obtain rfl : k = m := by omega
      have hki : ¬ (k : Int) < (k : Int) := by omega
      have Hb := Lib.hid hb
      clear hb
      go_wp2_with fail
      go_ret
      exact ⟨rfl, Hb.out⟩
end Go.Proofs.Ytjmghpoknlffiaa

namespace Go.Proofs.Ytjmghpoknlffiaa
open Go.ChangeShapes Go.WideShapes Go.ChangeAt Go.RowKit
set_option linter.unusedSimpArgs false

theorem below_mods {B : Nat} {w0 wB u : World} {U : Nat → Prop} (hb : Below B w0 wB) (hm : Mods U wB u) (hB : B ≤ wB.heap.size) (hU : ∀ k, U k → B ≤ k) : Below B w0 u :=
  ⟨hm.os.trans hb.os, hm.tape.trans hb.tape, hm.output.trans hb.output, Nat.le_trans hb.size hm.size, fun k hk => (hm.block k (Nat.lt_of_lt_of_le hk hB) (fun hu => by have := hU k hu; omega)).trans (hb.block k hk)⟩
theorem nu_trans0 {w0 a b : World} (h : Below w0.heap.size w0 a) (h' : Below a.heap.size a b) : Below w0.heap.size w0 b := nu_trans h h'
theorem e_pair {o : Oper} {a : Act} {w : World} {g d x : Nat} (hB : Blk w g 45 #[.pointer (some ⟨d, 0, none⟩), .pointer (some ⟨x, 0, none⟩)]) (y : Operand) (ho : o.op = .load 45 y) (hx : a.eval y = .pointer (some ⟨g, 0, none⟩)) :
    (execOp a.eval o).run Try.prog w = .ok (.value (.agg #[.pointer (some ⟨d, 0, none⟩), .pointer (some ⟨x, 0, none⟩)])) w := by
  have c0 : w.cell? ⟨g, 0, none⟩ = some (.pointer (some ⟨d, 0, none⟩)) := hB.at 0 _ rfl
  have c1 : w.cell? ⟨g, 1, none⟩ = some (.pointer (some ⟨x, 0, none⟩)) := hB.at 1 _ rfl
  unfold execOp
  simp only [ho, hx]
  go_simp
theorem e_act {o : Oper} {a : Act} {w : World} {g k : Nat} {kd av bv : Int} {da fa : Option Addr} {dl dc fl fc : Nat} (hB : w.rangeAt g k [.int .i64 kd, .int .i64 av, .int .i64 bv, .slice da dl dc, .slice fa fl fc]) (y : Operand) (ho : o.op = .load 49 y) (hx : a.eval y = .pointer (some ⟨g, k, none⟩)) :
    (execOp a.eval o).run Try.prog w = .ok (.value (.agg #[.int .i64 kd, .int .i64 av, .int .i64 bv, .slice da dl dc, .slice fa fl fc])) w := by
  have c0 : w.cell? ⟨g, k, none⟩ = some (.int .i64 kd) := hB 0 _ rfl
  have c1 : w.cell? ⟨g, k + 1, none⟩ = some (.int .i64 av) := hB 1 _ rfl
  have c2 : w.cell? ⟨g, k + 2, none⟩ = some (.int .i64 bv) := hB 2 _ rfl
  have c3 : w.cell? ⟨g, k + 3, none⟩ = some (.slice da dl dc) := hB 3 _ rfl
  have c4 : w.cell? ⟨g, k + 4, none⟩ = some (.slice fa fl fc) := hB 4 _ rfl
  unfold execOp
  simp only [ho, hx]
  go_simp
theorem ActAt.range {w u : World} {b off : Nat} {kd av bv : Int} {da fa : Option Addr} {dl dc fl fc : Nat} {ys : List Nat} {fs : List Int} (h : ActAt w b off kd av bv da dl dc fa fl fc ys fs) (hb : Below w.heap.size w u) : u.rangeAt b off [.int .i64 kd, .int .i64 av, .int .i64 bv, .slice da dl dc, .slice fa fl fc] := fun j v hv => by
  have hj : j < 5 := (List.getElem?_eq_some_iff.1 hv).1
  rcases (show j = 0 ∨ j = 1 ∨ j = 2 ∨ j = 3 ∨ j = 4 by omega) with rfl | rfl | rfl | rfl | rfl
  · injection hv with hv; subst hv; exact cell_below hb h.c0
  · injection hv with hv; subst hv; exact cell_below hb h.c1
  · injection hv with hv; subst hv; exact cell_below hb h.c2
  · injection hv with hv; subst hv; exact cell_below hb h.c3
  · injection hv with hv; subst hv; exact cell_below hb h.c4
section
variable {w0 wB u : World} {d x : Nat} {s : Dv} {U : Nat → Prop}
theorem do_step (HU : ∀ k, U k → w0.heap.size ≤ k) (hB0 : Below w0.heap.size w0 wB) (N : PairTo U wB u d x s s) {b off : Nat} {kd av bv : Int} {da fa : Option Addr} {dl dc fl fc : Nat} {ys : List Nat} {fs : List Int} (hA : ActAt w0 b off kd av bv da dl dc fa fl fc ys fs) (hd : dl ≤ 1000) (hf : fl ≤ 1000) (hwl : s.wa.length ≤ 1000) (hrl : s.wr.length ≤ 1000) :
    Calls Try.prog 26 #[.agg #[.pointer (some ⟨d, 0, none⟩), .pointer (some ⟨x, 0, none⟩)], .agg #[.int .i64 kd, .int .i64 av, .int .i64 bv, .slice da dl dc, .slice fa fl fc]] u fun e w' => e = .returned (.bool true) ∧ ∃ s', Step s s' ∧ PairTo U wB w' d x s' s' := by
  have hb : Below w0.heap.size w0 u := below_mods hB0 N.2 hB0.size HU
  have hG : ∀ k, Grown U wB u k → w0.heap.size ≤ k := fun k hk => hk.elim (HU k) (fun h => Nat.le_trans hB0.size h.1)
  refine (do_all N.1 hA.k0 hA.k1 hA.k2 ys (hA.ys.keep hb) (bytes_far hA.ys hb.size hG) fs (hA.fs.below hb) (nums_far hA.fs hb.size hG) hd hf hwl hrl).mono ?_
  rintro e w' ⟨h1, s', h2, h3⟩
  exact ⟨h1, s', h2, N.trans h3⟩
end
set_option maxRecDepth 100000 in
set_option maxHeartbeats 8000000 in
theorem devPlays_walk (nb : Int) (hnb : -9223372036854775808 ≤ nb ∧ nb ≤ 9223372036854775807) (a : Option Addr) (len cap : Nat) (w : World) (h : Acts5 w a len) (hlen : len ≤ 9223372036854775807) :
    Calls Try.prog 7 #[.int .i64 nb, .slice a len cap] w fun e w' => e = .returned (.bool true) ∧ Below w.heap.size w w' := by
  have HAs := Lib.hid h
  have HGr := Lib.hid (great_any a len cap hlen w h)
  obtain ⟨q, hq⟩ : ∃ q : Nat, (q : Int) = nb % 20 := ⟨(nb % 20).toNat, Int.toNat_of_nonneg (Int.emod_nonneg _ (by omega))⟩
  have HPk := Lib.hid (show ∀ u, Calls Try.prog 18 #[.int .i64 nb, .int .i64 20] u fun e w' => e = .returned (.int .i64 (q : Int)) ∧ u = w' from fun u => pick_any nb 20 q u hq (by omega) (by omega) hnb.1 hnb.2)
  have hq20 : q < 20 := by omega
  obtain ⟨n, hn⟩ : ∃ n, n = 1 + q := ⟨_, rfl⟩
  have en : (1 : Int) + (q : Int) = (n : Int) := by omega
  have wn : IntKind.i64.wrap (n : Int) = (n : Int) := by rw [IntKind.wrap_i64]; omega
  have HBg := Lib.hid (fun u => begun_any n (by omega) (by omega) u)
  clear h hnb hq hn hq20
  go_enter Try.func7, Try.ntmps7
  go_wp2_with fail
  refine HGr.out.mono ?_
  rintro e w1 ⟨v, rfl, rfl, hsm⟩
  have Hsm := Lib.hid hsm
  clear hsm HGr
  cases v with
  | true =>
    go_wp2_with fail
    refine (awake10 w).mono ?_
    rintro e w2 ⟨rfl, hb⟩
    have Hb := Lib.hid hb
    clear hb
    go_wp2_with fail
    go_ret
    exact ⟨rfl, Hb.out⟩
  | false =>
    have HS := Lib.hid (Hsm.out rfl)
    clear Hsm
    go_wp2_with fail
    refine (HPk.out w).mono ?_
    rintro e w1 ⟨rfl, rfl⟩
    go_wp2_with fail
    refine (HBg.out w).mono ?_
    rintro e w2 ⟨d, x, rfl, U, hP, hU, hb2⟩
    have hal := nu_alloc (nu_refl w2) (.cells #[.pointer none, .pointer none] 45)
    have HBm := Lib.hid (Blk.made w2 45 #[.pointer none, .pointer none])
    have HBf := Lib.hid (Blk.fill HBm.out [.pointer (some ⟨d, 0, none⟩), .pointer (some ⟨x, 0, none⟩)] rfl)
    have hfl := nu_fill (a := w2) [.pointer (some ⟨d, 0, none⟩), .pointer (some ⟨x, 0, none⟩)] (g := w2.heap.size) (Nat.le_refl _) 0 _ hal
    have HP3 := Lib.hid (hP.below hfl)
    have HwB := Lib.hid (nu_trans hb2 hfl)
    have HU := Lib.hid hU
    have HBn := Lib.hid (show ¬ U w2.heap.size from fun hu => Nat.lt_irrefl _ (hP.lt _ hu))
    clear hal hfl hP hU hb2 HPk HBg
    go_upto_region 4 with (refine wpList_store_in rfl 45 (.tmp 5) (.tmp 13) rfl w2.heap.size 0 [.pointer (some ⟨d, 0, none⟩), .pointer (some ⟨x, 0, none⟩)] rfl rfl 45 _ HBm.out (by simp) (by kernel_rfl) (fun u hu => by simp only [List.mem_cons, List.not_mem_nil, or_false] at hu; rcases hu with rfl | rfl <;> rfl) ?_)
    change Code.wp _ _ _ _ ((w2.alloc (.cells #[.pointer none, .pointer none] 45)).setCells w2.heap.size 0 [.pointer (some ⟨d, 0, none⟩), .pointer (some ⟨x, 0, none⟩)])
    clear HBm
    generalize (w2.alloc (.cells #[.pointer none, .pointer none] 45)).setCells w2.heap.size 0 [.pointer (some ⟨d, 0, none⟩), .pointer (some ⟨x, 0, none⟩)] = wB at *
    obtain ⟨B, hB⟩ : ∃ B, B = w2.heap.size := ⟨_, rfl⟩
    rw [← hB] at HBf HBn
    rw [← hB]
    clear hB
    have HB := Lib.hid (show Blk wB B 45 #[.pointer (some ⟨d, 0, none⟩), .pointer (some ⟨x, 0, none⟩)] from HBf.out)
    clear HBf
    go_wp2_with fail
    go_loopw [6] (fun iv wx => ∃ (k : Nat) (s : Dv), k ≤ len ∧ k ≤ 200 ∧ iv = .int .i64 k ∧ PairTo U wB wx d x s s ∧ s.wa.length ≤ k ∧ s.wr.length ≤ k) (fun iv _ => len - (intOf iv).toNat)
    case atStart => exact ⟨0, _, by omega, by omega, rfl, PairTo.refl HP3.out, Nat.le_refl _, Nat.le_refl _⟩
    case round =>
      clear HP3
      obtain ⟨k, s, hk, hk2, rfl, hN, hcs⟩ := hrel
      have HN := Lib.hid hN
      have Hcs := Lib.hid hcs
      have HBk := Lib.hid (blk_mods HB.out hN.2 HBn.out)
      have Hbw := Lib.hid (below_mods HwB.out hN.2 HwB.out.size HU.out)
      clear hN hcs
      by_cases hmore : k < len ∧ k < 200
      · obtain ⟨hlt, hl2⟩ := hmore
        have hki : (k : Int) < (len : Int) := by omega
        have hki2 : (k : Int) < 200 := by omega
        obtain ⟨b0, off, rfl, hbl, hc⟩ := HAs.out (by omega)
        obtain ⟨kd, av, bv, da, dl, dc, fa, fl, fc, ys, fs, hA⟩ := hc k hlt
        have HA := Lib.hid hA
        obtain ⟨hd, hf⟩ := HS.out b0 off rfl k hlt hl2 da dl dc fa fl fc hA.c3 hA.c4
        have Hd := Lib.hid hd
        have Hf := Lib.hid hf
        have HAr := Lib.hid (show ∀ u, Below wr.heap.size wr u → u.rangeAt b0 (off + k * 5) [.int .i64 kd, .int .i64 av, .int .i64 bv, .slice da dl dc, .slice fa fl fc] from fun u hu => hA.range (nu_trans0 Hbw.out hu))
        have HAw := Lib.hid (show ∀ u, Mods U wB u → u.rangeAt b0 (off + k * 5) [.int .i64 kd, .int .i64 av, .int .i64 bv, .slice da dl dc, .slice fa fl fc] from fun u hu => hA.range (below_mods HwB.out hu HwB.out.size HU.out))
        clear hc hA hd hf
        go_upto_region 7 with fail
        refine wp_region_held_drew (S := fun W => Blk W B 45 #[.pointer (some ⟨d, 0, none⟩), .pointer (some ⟨x, 0, none⟩)] ∧ W.rangeAt b0 (off + k * 5) [.int .i64 kd, .int .i64 av, .int .i64 bv, .slice da dl dc, .slice fa fl fc]) (by kernel_rfl) (⟨HBk.out.drew, HAr.out _ (nu_drew (nu_refl wr))⟩) (fun hHeld => ?_)
        dsimp only [Array.replicate, List.replicate, List.size_toArray, List.length_cons, List.length_nil, Nat.reduceAdd] at hHeld ⊢
        have HN0 := Lib.hid (HN.out.then_below (nu_drew (nu_refl wr)))
        have Hb0 := Lib.hid (nu_drew (nu_refl wr))
        clear HN
        generalize wr.drew = u0 at *
        refine take_l (i := 0) rfl (by kernel_rfl) (by kernel_rfl) (by kernel_rfl) (fun _ _ _ h => h) (Or.inl ⟨by rfl, fun W hS => e_pair hS.1 (.tmp 5) rfl rfl⟩) (by assumption) ?_
        simp only [Act.put, List.setIfInBounds_toArray, List.set_cons_zero, List.set_cons_succ]
        refine take_l (i := 1) (v := ?_) rfl (by kernel_rfl) (by kernel_rfl) (by kernel_rfl) (fun _ _ _ h => h) (Or.inl ⟨by rfl, ?_⟩) (by assumption) ?_
        case refine_2 => (intro _ _; go_simp; all_goals with_reducible rfl)
        simp only [Act.put, List.setIfInBounds_toArray, List.set_cons_zero, List.set_cons_succ]
        refine take_l (i := 2) (v := ?_) rfl (by kernel_rfl) (by kernel_rfl) (by kernel_rfl) (fun _ _ _ h => h) (Or.inl ⟨by rfl, ?_⟩) (by assumption) ?_
        case refine_2 => (intro _ _; go_simp; all_goals with_reducible rfl)
        simp only [Act.put, List.setIfInBounds_toArray, List.set_cons_zero, List.set_cons_succ]
        refine take_l (i := 3) (v := ?_) rfl (by kernel_rfl) (by kernel_rfl) (by kernel_rfl) (fun _ _ _ h => h) (Or.inl ⟨by rfl, ?_⟩) (by assumption) ?_
        case refine_2 => (intro _ _; go_simp; all_goals with_reducible rfl)
        simp only [Act.put, List.setIfInBounds_toArray, List.set_cons_zero, List.set_cons_succ]
        refine take_l (i := 4) rfl (by kernel_rfl) (by kernel_rfl) (by kernel_rfl) (fun _ _ _ h => h) (Or.inl ⟨by rfl, fun W hS => e_act hS.2 (.tmp 27) rfl rfl⟩) (by assumption) ?_
        simp only [Act.put, List.setIfInBounds_toArray, List.set_cons_zero, List.set_cons_succ]
        clear hHeld
        refine wpAnyH_ready (rs := [5]) (by kernel_rfl) (by simp) ?_
        refine cons_l rfl (fun K hK => ?_) AllReadyH.nil
        go_simp
        go_at_call 26
        refine (do_step HU.out HwB.out HN0.out HA.out Hd.out Hf.out (by have := Hcs.out; omega) (by have := Hcs.out; omega)).mono ?_
        rintro e u1 ⟨rfl, s1, hst, hn⟩
        have HN1 := Lib.hid hn
        have Hcs1 := Lib.hid (show s1.wa.length ≤ k + 1 ∧ s1.wr.length ≤ k + 1 from by have h1 := hst.2.1; have h2 := hst.2.2.1; have h3 := Hcs.out; omega)
        have hbk1 := blk_mods HB.out hn.2 HBn.out
        have HBk1 := Lib.hid hbk1
        have HAr1 := Lib.hid (HAw.out _ hn.2)
        clear hst hn hbk1 HN0
        go_wp2_with fail
        refine hK.out _ _ ⟨HBk1.out, HAr1.out⟩ (fun hHeld => ?_)
        clear hK K
        simp only [Act.put, List.setIfInBounds_toArray, List.set_cons_zero, List.set_cons_succ]
        refine take_l (i := 6) (v := ?_) rfl (by kernel_rfl) (by kernel_rfl) (by kernel_rfl) (fun _ _ _ h => h) (Or.inl ⟨by rfl, ?_⟩) (by assumption) ?_
        case refine_2 => (intro _ _; go_simp; all_goals with_reducible rfl)
        simp only [Act.put, List.setIfInBounds_toArray, List.set_cons_zero, List.set_cons_succ]
        refine take_l (i := 7) (v := ?_) rfl (by kernel_rfl) (by kernel_rfl) (by kernel_rfl) (fun _ _ _ h => h) (Or.inl ⟨by rfl, ?_⟩) (by assumption) ?_
        case refine_2 => (intro _ _; go_simp; all_goals with_reducible rfl)
        simp only [Act.put, List.setIfInBounds_toArray, List.set_cons_zero, List.set_cons_succ]
        refine take_l (i := 8) rfl (by kernel_rfl) (by kernel_rfl) (by kernel_rfl) (fun _ _ _ h => h) (Or.inl ⟨by rfl, fun W hS => e_pair hS.1 (.tmp 5) rfl rfl⟩) (by assumption) ?_
        simp only [Act.put, List.setIfInBounds_toArray, List.set_cons_zero, List.set_cons_succ]
        clear hHeld
        refine wpAnyH_ready (rs := [9]) (by kernel_rfl) (by simp) ?_
        refine cons_l rfl (fun K hK => ?_) AllReadyH.nil
        go_simp
        go_at_call 31
        refine (alike_any HN1.out.1 (by have := Hcs1.out; omega)).mono ?_
        rintro e u2 ⟨rfl, hb2⟩
        have HN2 := Lib.hid (HN1.out.then_below hb2)
        have HBk2 := Lib.hid (HBk1.out.below hb2 HBk1.out.lt)
        have HAr2 := Lib.hid (HAw.out _ HN2.out.2)
        clear hb2 HN1
        go_wp2_with fail
        refine hK.out _ _ ⟨HBk2.out, HAr2.out⟩ (fun hHeld => ?_)
        clear hK K
        simp only [Act.put, List.setIfInBounds_toArray, List.set_cons_zero, List.set_cons_succ]
        refine take_l (i := 10) (v := ?_) rfl (by kernel_rfl) (by kernel_rfl) (by kernel_rfl) (fun _ _ _ h => h) (Or.inl ⟨by rfl, ?_⟩) (by assumption) ?_
        case refine_2 => (intro _ _; go_simp; all_goals with_reducible rfl)
        simp only [Act.put, List.setIfInBounds_toArray, List.set_cons_zero, List.set_cons_succ]
        refine take_l (i := 11) (v := ?_) rfl (by kernel_rfl) (by kernel_rfl) (by kernel_rfl) (fun _ _ _ h => h) (Or.inl ⟨by rfl, ?_⟩) (by assumption) ?_
        case refine_2 => (intro _ _; go_simp; all_goals with_reducible rfl)
        simp only [Act.put, List.setIfInBounds_toArray, List.set_cons_zero, List.set_cons_succ]
        refine wpAnyH_done (by kernel_rfl) ?_ _
        clear hHeld
        go_wp2_with fail
        go_roundw
        case rel => first | exact ⟨k + 1, s1, by omega, by omega, by go_num, HN2.out, Hcs1.out⟩ | ((repeat apply Exists.intro); exact ⟨⟨k + 1, s1, by omega, by omega, by go_num, HN2.out, Hcs1.out⟩, rfl⟩)
        case measure => simp [intOf]; omega
      · have HM0 := HN.out
        obtain ⟨⟨F, G, hD, hX, _⟩, _⟩ := HM0
        obtain ⟨st, wa, cp, wv, bs, ws, rs, cv, Fz, M⟩ := hX.state
        obtain ⟨xa, xc, rfl⟩ := own_len M.wr.1
        have HD := Lib.hid hD
        have HM := Lib.hid M
        have Hc6 := Lib.hid (RefAt.cells M.dv).2.2.2.2.2.2
        have Hbl := Lib.hid (show ∀ p ∈ s.wr, Bl p.2 from fun p hp => (hD.1.wr p hp).2)
        have Hwr := Lib.hid (show s.wr.length ≤ 1000000000 by have := Hcs.out; omega)
        clear hD hX M HN
        by_cases hlt : k < len
        · have hki : (k : Int) < (len : Int) := by omega
          have hki2 : ¬ (k : Int) < 200 := by omega
          clear hmore
          go_upto_region 9 with fail
          refine wp_region_held_drew (S := fun W => Blk W B 45 #[.pointer (some ⟨d, 0, none⟩), .pointer (some ⟨x, 0, none⟩)] ∧ W.cell? ⟨x, 6, none⟩ = some (.slice xa s.wr.length xc)) (by kernel_rfl) (⟨HBk.out.drew, cell_below (nu_drew (nu_refl wr)) Hc6.out⟩) (fun hHeld => ?_)
          dsimp only [Array.replicate, List.replicate, List.size_toArray, List.length_cons, List.length_nil, Nat.reduceAdd] at hHeld ⊢
          have hdr := nu_drew (nu_refl wr)
          have HDd := Lib.hid (HD.out.below hdr)
          have HMd := Lib.hid (HM.out.below hdr)
          have HBkd := Lib.hid HBk.out.drew
          have Hc6d := Lib.hid (cell_below hdr Hc6.out)
          have Hbd := Lib.hid (nu_trans0 Hbw.out hdr)
          clear hdr HD HM HBk Hc6 Hbw
          generalize wr.drew = u0 at *
          refine take_l (i := 0) (v := ?_) rfl (by kernel_rfl) (by kernel_rfl) (by kernel_rfl) (fun _ _ _ h => h) (Or.inl ⟨by rfl, ?_⟩) (by assumption) ?_
          case refine_2 => (intro _ _; go_simp; all_goals with_reducible rfl)
          simp only [Act.put, List.setIfInBounds_toArray, List.set_cons_zero, List.set_cons_succ]
          refine take_l (i := 1) rfl (by kernel_rfl) (by kernel_rfl) (by kernel_rfl) (fun _ _ _ h => h) (Or.inl ⟨by rfl, fun W hS => e_pd (hS.1.at 0 _ rfl) (.tmp 36) rfl rfl⟩) (by assumption) ?_
          simp only [Act.put, List.setIfInBounds_toArray, List.set_cons_zero, List.set_cons_succ]
          refine take_l (i := 3) (v := ?_) rfl (by kernel_rfl) (by kernel_rfl) (by kernel_rfl) (fun _ _ _ h => h) (Or.inl ⟨by rfl, ?_⟩) (by assumption) ?_
          case refine_2 => (intro _ _; go_simp; all_goals with_reducible rfl)
          simp only [Act.put, List.setIfInBounds_toArray, List.set_cons_zero, List.set_cons_succ]
          refine take_l (i := 4) rfl (by kernel_rfl) (by kernel_rfl) (by kernel_rfl) (fun _ _ _ h => h) (Or.inl ⟨by rfl, fun W hS => e_px (hS.1.at 1 _ rfl) (.tmp 39) rfl rfl⟩) (by assumption) ?_
          simp only [Act.put, List.setIfInBounds_toArray, List.set_cons_zero, List.set_cons_succ]
          refine take_l (i := 5) (v := ?_) rfl (by kernel_rfl) (by kernel_rfl) (by kernel_rfl) (fun _ _ _ h => h) (Or.inl ⟨by rfl, ?_⟩) (by assumption) ?_
          case refine_2 => (intro _ _; go_simp; all_goals with_reducible rfl)
          simp only [Act.put, List.setIfInBounds_toArray, List.set_cons_zero, List.set_cons_succ]
          refine take_l (i := 6) (v := ?_) rfl (by kernel_rfl) (by kernel_rfl) (by kernel_rfl) (fun _ _ _ h => h) (Or.inl ⟨by rfl, ?_⟩) (by assumption) ?_
          case refine_2 => (intro _ _; go_simp; all_goals with_reducible rfl)
          simp only [Act.put, List.setIfInBounds_toArray, List.set_cons_zero, List.set_cons_succ]
          refine take_l (i := 7) rfl (by kernel_rfl) (by kernel_rfl) (by kernel_rfl) (fun _ _ _ h => h) (Or.inl ⟨by rfl, fun W hS => e_sl57 hS.2 (.tmp 42) rfl rfl⟩) (by assumption) ?_
          simp only [Act.put, List.setIfInBounds_toArray, List.set_cons_zero, List.set_cons_succ]
          clear hHeld
          refine wpAnyH_ready (rs := [2]) (by kernel_rfl) (by simp) ?_
          refine cons_l rfl (fun K hK => ?_) AllReadyH.nil
          go_simp
          go_at_call 33
          refine (writtenD HDd.out Hwr.out).mono ?_
          rintro e u1 ⟨v, rfl, ⟨ws2, hw⟩, hb⟩
          have HW1 := Lib.hid hw.zero
          have HM1 := Lib.hid (HMd.out.below hb)
          have HBk1 := Lib.hid (HBkd.out.below hb HBkd.out.lt)
          have Hc61 := Lib.hid (cell_below hb Hc6d.out)
          have Hb1 := Lib.hid (nu_trans0 Hbd.out hb)
          clear hw hb HMd HBkd Hc6d Hbd HDd
          go_wp2_with fail
          refine hK.out _ _ ⟨HBk1.out, Hc61.out⟩ (fun hHeld => ?_)
          clear hK K hHeld
          simp only [Act.put, List.setIfInBounds_toArray, List.set_cons_zero, List.set_cons_succ]
          refine wpAnyH_ready (rs := [8]) (by kernel_rfl) (by simp) ?_
          refine cons_l rfl (fun K hK => ?_) AllReadyH.nil
          go_simp
          go_at_call 32
          refine (sameW_any HW1.out HM1.out.wr Hbl.out Hwr.out).mono ?_
          rintro e u2 ⟨rfl, hb⟩
          have HBk2 := Lib.hid (HBk1.out.below hb HBk1.out.lt)
          have Hc62 := Lib.hid (cell_below hb Hc61.out)
          have Hb2 := Lib.hid (nu_trans0 Hb1.out hb)
          clear hb HBk1 Hc61 Hb1 HM1 HW1
          go_wp2_with fail
          refine hK.out _ _ ⟨HBk2.out, Hc62.out⟩ (fun hHeld => ?_)
          clear hK K
          simp only [Act.put, List.setIfInBounds_toArray, List.set_cons_zero, List.set_cons_succ]
          refine take_l (i := 9) (v := ?_) rfl (by kernel_rfl) (by kernel_rfl) (by kernel_rfl) (fun _ _ _ h => h) (Or.inl ⟨by rfl, ?_⟩) (by assumption) ?_
          case refine_2 => (intro _ _; go_simp; all_goals with_reducible rfl)
          simp only [Act.put, List.setIfInBounds_toArray, List.set_cons_zero, List.set_cons_succ]
          clear hHeld
          refine wpAnyH_ready (rs := [10]) (by kernel_rfl) (by simp) ?_
          refine cons_l rfl (fun K hK => ?_) AllReadyH.nil
          go_simp
          go_at_call 20
          refine (awake10 u2).mono ?_
          rintro e u3 ⟨rfl, hb⟩
          have HBk3 := Lib.hid (HBk2.out.below hb HBk2.out.lt)
          have Hc63 := Lib.hid (cell_below hb Hc62.out)
          have Hb3 := Lib.hid (nu_trans0 Hb2.out hb)
          clear hb HBk2 Hc62 Hb2
          go_wp2_with fail
          refine hK.out _ _ ⟨HBk3.out, Hc63.out⟩ (fun hHeld => ?_)
          clear hK K
          simp only [Act.put, List.setIfInBounds_toArray, List.set_cons_zero, List.set_cons_succ]
          refine take_l (i := 11) (v := ?_) rfl (by kernel_rfl) (by kernel_rfl) (by kernel_rfl) (fun _ _ _ h => h) (Or.inl ⟨by rfl, ?_⟩) (by assumption) ?_
          case refine_2 => (intro _ _; go_simp; all_goals with_reducible rfl)
          simp only [Act.put, List.setIfInBounds_toArray, List.set_cons_zero, List.set_cons_succ]
          refine take_l (i := 12) (v := ?_) rfl (by kernel_rfl) (by kernel_rfl) (by kernel_rfl) (fun _ _ _ h => h) (Or.inl ⟨by rfl, ?_⟩) (by assumption) ?_
          case refine_2 => (intro _ _; go_simp; all_goals with_reducible rfl)
          simp only [Act.put, List.setIfInBounds_toArray, List.set_cons_zero, List.set_cons_succ]
          refine wpAnyH_done (by kernel_rfl) ?_ _
          clear hHeld
          go_wp2_with fail
          go_ret
          exact ⟨rfl, Hb3.out⟩
        · have hki : ¬ (k : Int) < (len : Int) := by omega
          clear hmore
          go_upto_region 9 with fail
          refine wp_region_held_drew (S := fun W => Blk W B 45 #[.pointer (some ⟨d, 0, none⟩), .pointer (some ⟨x, 0, none⟩)] ∧ W.cell? ⟨x, 6, none⟩ = some (.slice xa s.wr.length xc)) (by kernel_rfl) (⟨HBk.out.drew, cell_below (nu_drew (nu_refl wr)) Hc6.out⟩) (fun hHeld => ?_)
          dsimp only [Array.replicate, List.replicate, List.size_toArray, List.length_cons, List.length_nil, Nat.reduceAdd] at hHeld ⊢
          have hdr := nu_drew (nu_refl wr)
          have HDd := Lib.hid (HD.out.below hdr)
          have HMd := Lib.hid (HM.out.below hdr)
          have HBkd := Lib.hid HBk.out.drew
          have Hc6d := Lib.hid (cell_below hdr Hc6.out)
          have Hbd := Lib.hid (nu_trans0 Hbw.out hdr)
          clear hdr HD HM HBk Hc6 Hbw
          generalize wr.drew = u0 at *
          refine take_l (i := 0) (v := ?_) rfl (by kernel_rfl) (by kernel_rfl) (by kernel_rfl) (fun _ _ _ h => h) (Or.inl ⟨by rfl, ?_⟩) (by assumption) ?_
          case refine_2 => (intro _ _; go_simp; all_goals with_reducible rfl)
          simp only [Act.put, List.setIfInBounds_toArray, List.set_cons_zero, List.set_cons_succ]
          refine take_l (i := 1) rfl (by kernel_rfl) (by kernel_rfl) (by kernel_rfl) (fun _ _ _ h => h) (Or.inl ⟨by rfl, fun W hS => e_pd (hS.1.at 0 _ rfl) (.tmp 36) rfl rfl⟩) (by assumption) ?_
          simp only [Act.put, List.setIfInBounds_toArray, List.set_cons_zero, List.set_cons_succ]
          refine take_l (i := 3) (v := ?_) rfl (by kernel_rfl) (by kernel_rfl) (by kernel_rfl) (fun _ _ _ h => h) (Or.inl ⟨by rfl, ?_⟩) (by assumption) ?_
          case refine_2 => (intro _ _; go_simp; all_goals with_reducible rfl)
          simp only [Act.put, List.setIfInBounds_toArray, List.set_cons_zero, List.set_cons_succ]
          refine take_l (i := 4) rfl (by kernel_rfl) (by kernel_rfl) (by kernel_rfl) (fun _ _ _ h => h) (Or.inl ⟨by rfl, fun W hS => e_px (hS.1.at 1 _ rfl) (.tmp 39) rfl rfl⟩) (by assumption) ?_
          simp only [Act.put, List.setIfInBounds_toArray, List.set_cons_zero, List.set_cons_succ]
          refine take_l (i := 5) (v := ?_) rfl (by kernel_rfl) (by kernel_rfl) (by kernel_rfl) (fun _ _ _ h => h) (Or.inl ⟨by rfl, ?_⟩) (by assumption) ?_
          case refine_2 => (intro _ _; go_simp; all_goals with_reducible rfl)
          simp only [Act.put, List.setIfInBounds_toArray, List.set_cons_zero, List.set_cons_succ]
          refine take_l (i := 6) (v := ?_) rfl (by kernel_rfl) (by kernel_rfl) (by kernel_rfl) (fun _ _ _ h => h) (Or.inl ⟨by rfl, ?_⟩) (by assumption) ?_
          case refine_2 => (intro _ _; go_simp; all_goals with_reducible rfl)
          simp only [Act.put, List.setIfInBounds_toArray, List.set_cons_zero, List.set_cons_succ]
          refine take_l (i := 7) rfl (by kernel_rfl) (by kernel_rfl) (by kernel_rfl) (fun _ _ _ h => h) (Or.inl ⟨by rfl, fun W hS => e_sl57 hS.2 (.tmp 42) rfl rfl⟩) (by assumption) ?_
          simp only [Act.put, List.setIfInBounds_toArray, List.set_cons_zero, List.set_cons_succ]
          clear hHeld
          refine wpAnyH_ready (rs := [2]) (by kernel_rfl) (by simp) ?_
          refine cons_l rfl (fun K hK => ?_) AllReadyH.nil
          go_simp
          go_at_call 33
          refine (writtenD HDd.out Hwr.out).mono ?_
          rintro e u1 ⟨v, rfl, ⟨ws2, hw⟩, hb⟩
          have HW1 := Lib.hid hw.zero
          have HM1 := Lib.hid (HMd.out.below hb)
          have HBk1 := Lib.hid (HBkd.out.below hb HBkd.out.lt)
          have Hc61 := Lib.hid (cell_below hb Hc6d.out)
          have Hb1 := Lib.hid (nu_trans0 Hbd.out hb)
          clear hw hb HMd HBkd Hc6d Hbd HDd
          go_wp2_with fail
          refine hK.out _ _ ⟨HBk1.out, Hc61.out⟩ (fun hHeld => ?_)
          clear hK K hHeld
          simp only [Act.put, List.setIfInBounds_toArray, List.set_cons_zero, List.set_cons_succ]
          refine wpAnyH_ready (rs := [8]) (by kernel_rfl) (by simp) ?_
          refine cons_l rfl (fun K hK => ?_) AllReadyH.nil
          go_simp
          go_at_call 32
          refine (sameW_any HW1.out HM1.out.wr Hbl.out Hwr.out).mono ?_
          rintro e u2 ⟨rfl, hb⟩
          have HBk2 := Lib.hid (HBk1.out.below hb HBk1.out.lt)
          have Hc62 := Lib.hid (cell_below hb Hc61.out)
          have Hb2 := Lib.hid (nu_trans0 Hb1.out hb)
          clear hb HBk1 Hc61 Hb1 HM1 HW1
          go_wp2_with fail
          refine hK.out _ _ ⟨HBk2.out, Hc62.out⟩ (fun hHeld => ?_)
          clear hK K
          simp only [Act.put, List.setIfInBounds_toArray, List.set_cons_zero, List.set_cons_succ]
          refine take_l (i := 9) (v := ?_) rfl (by kernel_rfl) (by kernel_rfl) (by kernel_rfl) (fun _ _ _ h => h) (Or.inl ⟨by rfl, ?_⟩) (by assumption) ?_
          case refine_2 => (intro _ _; go_simp; all_goals with_reducible rfl)
          simp only [Act.put, List.setIfInBounds_toArray, List.set_cons_zero, List.set_cons_succ]
          clear hHeld
          refine wpAnyH_ready (rs := [10]) (by kernel_rfl) (by simp) ?_
          refine cons_l rfl (fun K hK => ?_) AllReadyH.nil
          go_simp
          go_at_call 20
          refine (awake10 u2).mono ?_
          rintro e u3 ⟨rfl, hb⟩
          have HBk3 := Lib.hid (HBk2.out.below hb HBk2.out.lt)
          have Hc63 := Lib.hid (cell_below hb Hc62.out)
          have Hb3 := Lib.hid (nu_trans0 Hb2.out hb)
          clear hb HBk2 Hc62 Hb2
          go_wp2_with fail
          refine hK.out _ _ ⟨HBk3.out, Hc63.out⟩ (fun hHeld => ?_)
          clear hK K
          simp only [Act.put, List.setIfInBounds_toArray, List.set_cons_zero, List.set_cons_succ]
          refine take_l (i := 11) (v := ?_) rfl (by kernel_rfl) (by kernel_rfl) (by kernel_rfl) (fun _ _ _ h => h) (Or.inl ⟨by rfl, ?_⟩) (by assumption) ?_
          case refine_2 => (intro _ _; go_simp; all_goals with_reducible rfl)
          simp only [Act.put, List.setIfInBounds_toArray, List.set_cons_zero, List.set_cons_succ]
          refine take_l (i := 12) (v := ?_) rfl (by kernel_rfl) (by kernel_rfl) (by kernel_rfl) (fun _ _ _ h => h) (Or.inl ⟨by rfl, ?_⟩) (by assumption) ?_
          case refine_2 => (intro _ _; go_simp; all_goals with_reducible rfl)
          simp only [Act.put, List.setIfInBounds_toArray, List.set_cons_zero, List.set_cons_succ]
          refine wpAnyH_done (by kernel_rfl) ?_ _
          clear hHeld
          go_wp2_with fail
          go_ret
          exact ⟨rfl, Hb3.out⟩
end Go.Proofs.Ytjmghpoknlffiaa

namespace Go.Proofs.Ytjmghpoknlffiaa
open Go.ChangeShapes Go.WideShapes Go.ChangeAt Go.RowKit
set_option linter.unusedSimpArgs false

/-- What the blocks read, kept by the caller. -/
def WasIs (w : World) (base : Nat) (es : List Value) (s : Dv) : Prop := ∀ (j : Nat) (u : Value), es[j]? = some u → ∃ G, u = .slice (some ⟨G, 0, none⟩) 256 256 ∧ base ≤ G ∧ Blk w G 73 ((s.now j).map vb).toArray
section
variable {w w' : World} {base : Nat} {es : List Value} {s : Dv}
theorem WasIs.below (h : WasIs w base es s) (hb : Below w.heap.size w w') : WasIs w' base es s := fun j u hu => by
  obtain ⟨G, h1, h2, h3⟩ := h j u hu
  exact ⟨G, h1, h2, h3.below hb h3.lt⟩
theorem WasIs.keep {row : Option Nat} (h : WasIs w base es s) (hr : ∀ k, row = some k → ∃ cs, Blk w k 22 cs) (hg : w.grownBy w' row) : WasIs w' base es s := fun j u hu => by
  obtain ⟨G, h1, h2, h3⟩ := h j u hu
  exact ⟨G, h1, h2, blk_keep hr hg h3 (by decide)⟩
theorem WasIs.mods {V : Nat → Prop} (h : WasIs w base es s) (hm : Mods V w w') (hV : ∀ k, V k → k < base) : WasIs w' base es s := fun j u hu => by
  obtain ⟨G, h1, h2, h3⟩ := h j u hu
  exact ⟨G, h1, h2, blk_mods h3 hm (fun hv => by have := hV G hv; omega)⟩
theorem WasIs.snoc {G k : Nat} (h : WasIs w base es s) (hl : es.length = k) (hG : base ≤ G) (hB : Blk w G 73 ((s.now k).map vb).toArray) : WasIs w base (es ++ [.slice (some ⟨G, 0, none⟩) 256 256]) s := fun j u hu => by
  by_cases hj : j < es.length
  · rw [List.getElem?_append_left hj] at hu
    exact h j u hu
  · rw [List.getElem?_append_right (by omega)] at hu
    obtain ⟨l, hl2⟩ : ∃ l, l = j - es.length := ⟨_, rfl⟩
    rw [← hl2] at hu
    cases l with
    | zero =>
      injection hu with hu
      have he : j = k := by omega
      subst he
      exact ⟨G, hu.symm, hG, hB⟩
    | succ l => cases hu
end
set_option maxRecDepth 100000 in
set_option maxHeartbeats 8000000 in
theorem devSafe_walk (nb : Int) (hnb : -9223372036854775808 ≤ nb ∧ nb ≤ 9223372036854775807) (a : Option Addr) (len cap : Nat) (w : World) (h : Acts5 w a len) (hlen : len ≤ 9223372036854775807) (fa0 : Option Addr) (fl0 fc0 : Nat) (fs0 : List Int) (hf0 : NumsIn w fa0 fl0 fs0) (hfl0 : fl0 ≤ 9223372036854775807) :
    Calls Try.prog 5 #[.int .i64 nb, .slice a len cap, .slice fa0 fl0 fc0] w fun e w' => e = .returned (.bool true) ∧ Below w.heap.size w w' := by
  have HAs := Lib.hid h
  have HGr := Lib.hid (great_any a len cap hlen w h)
  obtain ⟨q, hq⟩ : ∃ q : Nat, (q : Int) = nb % 20 := ⟨(nb % 20).toNat, Int.toNat_of_nonneg (Int.emod_nonneg _ (by omega))⟩
  have HPk := Lib.hid (show ∀ u, Calls Try.prog 18 #[.int .i64 nb, .int .i64 20] u fun e w' => e = .returned (.int .i64 (q : Int)) ∧ u = w' from fun u => pick_any nb 20 q u hq (by omega) (by omega) hnb.1 hnb.2)
  have hq20 : q < 20 := by omega
  obtain ⟨n, hn⟩ : ∃ n, n = 1 + q := ⟨_, rfl⟩
  have en : (1 : Int) + (q : Int) = (n : Int) := by omega
  have wn : IntKind.i64.wrap (n : Int) = (n : Int) := by rw [IntKind.wrap_i64]; omega
  have HBg := Lib.hid (fun u => begun_any n (by omega) (by omega) u)
  have HF0 := Lib.hid hf0
  have Hfl0 := Lib.hid hfl0
  clear h hnb hq hn hq20 hf0
  go_enter Try.func5, Try.ntmps5
  go_wp2_with fail
  refine HGr.out.mono ?_
  rintro e w1 ⟨v, rfl, rfl, hsm⟩
  have Hsm := Lib.hid hsm
  clear hsm HGr
  cases v with
  | true =>
    go_wp2_with fail
    refine (awake10 w).mono ?_
    rintro e w2 ⟨rfl, hb⟩
    have Hb := Lib.hid hb
    clear hb
    go_wp2_with fail
    go_ret
    exact ⟨rfl, Hb.out⟩
  | false =>
    have HS := Lib.hid (Hsm.out rfl)
    clear Hsm
    by_cases hfg : 1000 < fl0
    · have hfgi : (1000 : Int) < (fl0 : Int) := by omega
      go_wp2_with fail
      refine (awake10 w).mono ?_
      rintro e w2 ⟨rfl, hb⟩
      have Hb := Lib.hid hb
      clear hb
      go_wp2_with fail
      go_ret
      exact ⟨rfl, Hb.out⟩
    have hfgi : ¬ (1000 : Int) < (fl0 : Int) := by omega
    go_wp2_with fail
    refine (HPk.out w).mono ?_
    rintro e w1 ⟨rfl, rfl⟩
    go_wp2_with fail
    refine (HBg.out w).mono ?_
    rintro e w2 ⟨d, x, rfl, U, hP, hU, hb2⟩
    have hal := nu_alloc (nu_refl w2) (.cells #[.pointer none, .pointer none] 45)
    have HBm := Lib.hid (Blk.made w2 45 #[.pointer none, .pointer none])
    have HBf := Lib.hid (Blk.fill HBm.out [.pointer (some ⟨d, 0, none⟩), .pointer (some ⟨x, 0, none⟩)] rfl)
    have hfl := nu_fill (a := w2) [.pointer (some ⟨d, 0, none⟩), .pointer (some ⟨x, 0, none⟩)] (g := w2.heap.size) (Nat.le_refl _) 0 _ hal
    have HP3 := Lib.hid (hP.below hfl)
    have HwB := Lib.hid (nu_trans hb2 hfl)
    have HU := Lib.hid hU
    have HBn := Lib.hid (show ¬ U w2.heap.size from fun hu => Nat.lt_irrefl _ (hP.lt _ hu))
    clear hal hfl hP hU hb2 HPk HBg
    go_upto_region 4 with (refine wpList_store_in rfl 45 (.tmp 7) (.tmp 27) rfl w2.heap.size 0 [.pointer (some ⟨d, 0, none⟩), .pointer (some ⟨x, 0, none⟩)] rfl rfl 45 _ HBm.out (by simp) (by kernel_rfl) (fun u hu => by simp only [List.mem_cons, List.not_mem_nil, or_false] at hu; rcases hu with rfl | rfl <;> rfl) ?_)
    change Code.wp _ _ _ _ ((w2.alloc (.cells #[.pointer none, .pointer none] 45)).setCells w2.heap.size 0 [.pointer (some ⟨d, 0, none⟩), .pointer (some ⟨x, 0, none⟩)])
    clear HBm
    generalize (w2.alloc (.cells #[.pointer none, .pointer none] 45)).setCells w2.heap.size 0 [.pointer (some ⟨d, 0, none⟩), .pointer (some ⟨x, 0, none⟩)] = wB at *
    obtain ⟨B, hB⟩ : ∃ B, B = w2.heap.size := ⟨_, rfl⟩
    rw [← hB] at HBf HBn
    rw [← hB]
    clear hB
    have HB := Lib.hid (show Blk wB B 45 #[.pointer (some ⟨d, 0, none⟩), .pointer (some ⟨x, 0, none⟩)] from HBf.out)
    clear HBf
    go_wp2_with fail
    go_loopw [8] (fun iv wx => ∃ (k : Nat) (s : Dv), k ≤ len ∧ k ≤ 200 ∧ iv = .int .i64 k ∧ PairTo U wB wx d x s s ∧ s.wa.length ≤ k ∧ s.wr.length ≤ k) (fun iv _ => len - (intOf iv).toNat)
    case atStart => exact ⟨0, _, by omega, by omega, rfl, PairTo.refl HP3.out, Nat.le_refl _, Nat.le_refl _⟩
    case round =>
      clear HP3
      obtain ⟨k, s, hk, hk2, rfl, hN, hcs⟩ := hrel
      have HN := Lib.hid hN
      have Hcs := Lib.hid hcs
      have HBk := Lib.hid (blk_mods HB.out hN.2 HBn.out)
      have Hbw := Lib.hid (below_mods HwB.out hN.2 HwB.out.size HU.out)
      clear hN hcs
      by_cases hmore : k < len ∧ k < 200
      · obtain ⟨hlt, hl2⟩ := hmore
        have hki : (k : Int) < (len : Int) := by omega
        have hki2 : (k : Int) < 200 := by omega
        obtain ⟨b0, off, rfl, hbl, hc⟩ := HAs.out (by omega)
        obtain ⟨kd, av, bv, da, dl, dc, fa, fl, fc, ys, fs, hA⟩ := hc k hlt
        have HA := Lib.hid hA
        obtain ⟨hd, hf⟩ := HS.out b0 off rfl k hlt hl2 da dl dc fa fl fc hA.c3 hA.c4
        have Hd := Lib.hid hd
        have Hf := Lib.hid hf
        have HAr := Lib.hid (show ∀ u, Below wr.heap.size wr u → u.rangeAt b0 (off + k * 5) [.int .i64 kd, .int .i64 av, .int .i64 bv, .slice da dl dc, .slice fa fl fc] from fun u hu => hA.range (nu_trans0 Hbw.out hu))
        have HAw := Lib.hid (show ∀ u, Mods U wB u → u.rangeAt b0 (off + k * 5) [.int .i64 kd, .int .i64 av, .int .i64 bv, .slice da dl dc, .slice fa fl fc] from fun u hu => hA.range (below_mods HwB.out hu HwB.out.size HU.out))
        clear hc hA hd hf
        go_upto_region 7 with fail
        refine wp_region_held_drew (S := fun W => Blk W B 45 #[.pointer (some ⟨d, 0, none⟩), .pointer (some ⟨x, 0, none⟩)] ∧ W.rangeAt b0 (off + k * 5) [.int .i64 kd, .int .i64 av, .int .i64 bv, .slice da dl dc, .slice fa fl fc]) (by kernel_rfl) (⟨HBk.out.drew, HAr.out _ (nu_drew (nu_refl wr))⟩) (fun hHeld => ?_)
        dsimp only [Array.replicate, List.replicate, List.size_toArray, List.length_cons, List.length_nil, Nat.reduceAdd] at hHeld ⊢
        have HN0 := Lib.hid (HN.out.then_below (nu_drew (nu_refl wr)))
        clear HN
        generalize wr.drew = u0 at *
        refine take_l (i := 0) rfl (by kernel_rfl) (by kernel_rfl) (by kernel_rfl) (fun _ _ _ h => h) (Or.inl ⟨by rfl, fun W hS => e_pair hS.1 (.tmp 7) rfl rfl⟩) (by assumption) ?_
        simp only [Act.put, List.setIfInBounds_toArray, List.set_cons_zero, List.set_cons_succ]
        refine take_l (i := 1) (v := ?_) rfl (by kernel_rfl) (by kernel_rfl) (by kernel_rfl) (fun _ _ _ h => h) (Or.inl ⟨by rfl, ?_⟩) (by assumption) ?_
        case refine_2 => (intro _ _; go_simp; all_goals with_reducible rfl)
        simp only [Act.put, List.setIfInBounds_toArray, List.set_cons_zero, List.set_cons_succ]
        refine take_l (i := 2) (v := ?_) rfl (by kernel_rfl) (by kernel_rfl) (by kernel_rfl) (fun _ _ _ h => h) (Or.inl ⟨by rfl, ?_⟩) (by assumption) ?_
        case refine_2 => (intro _ _; go_simp; all_goals with_reducible rfl)
        simp only [Act.put, List.setIfInBounds_toArray, List.set_cons_zero, List.set_cons_succ]
        refine take_l (i := 3) (v := ?_) rfl (by kernel_rfl) (by kernel_rfl) (by kernel_rfl) (fun _ _ _ h => h) (Or.inl ⟨by rfl, ?_⟩) (by assumption) ?_
        case refine_2 => (intro _ _; go_simp; all_goals with_reducible rfl)
        simp only [Act.put, List.setIfInBounds_toArray, List.set_cons_zero, List.set_cons_succ]
        refine take_l (i := 4) rfl (by kernel_rfl) (by kernel_rfl) (by kernel_rfl) (fun _ _ _ h => h) (Or.inl ⟨by rfl, fun W hS => e_act hS.2 (.tmp 41) rfl rfl⟩) (by assumption) ?_
        simp only [Act.put, List.setIfInBounds_toArray, List.set_cons_zero, List.set_cons_succ]
        clear hHeld
        refine wpAnyH_ready (rs := [5]) (by kernel_rfl) (by simp) ?_
        refine cons_l rfl (fun K hK => ?_) AllReadyH.nil
        go_simp
        go_at_call 26
        refine (do_step HU.out HwB.out HN0.out HA.out Hd.out Hf.out (by have := Hcs.out; omega) (by have := Hcs.out; omega)).mono ?_
        rintro e u1 ⟨rfl, s1, hst, hn⟩
        have HN1 := Lib.hid hn
        have Hst := Lib.hid hst
        have Hcs1 := Lib.hid (show s1.wa.length ≤ k + 1 ∧ s1.wr.length ≤ k + 1 from by have h1 := hst.2.1; have h2 := hst.2.2.1; have h3 := Hcs.out; omega)
        have hbk1 := blk_mods HB.out hn.2 HBn.out
        have HBk1 := Lib.hid hbk1
        have HAr1 := Lib.hid (HAw.out _ hn.2)
        clear hst hn hbk1 HN0
        go_wp2_with fail
        refine hK.out _ _ ⟨HBk1.out, HAr1.out⟩ (fun hHeld => ?_)
        clear hK K hHeld
        simp only [Act.put, List.setIfInBounds_toArray, List.set_cons_zero, List.set_cons_succ]
        refine wpAnyH_done (by kernel_rfl) ?_ _
        go_wp2_with fail
        go_roundw
        case rel => first | exact ⟨k + 1, s1, by omega, by omega, by go_num, HN1.out, Hcs1.out⟩ | ((repeat apply Exists.intro); exact ⟨⟨k + 1, s1, by omega, by omega, by go_num, HN1.out, Hcs1.out⟩, rfl⟩)
        case measure => simp [intOf]; omega
      · by_cases hlt : k < len
        · have hki : (k : Int) < (len : Int) := by omega
          have hki2 : ¬ (k : Int) < 200 := by omega
          clear hmore
          have Hwl := Lib.hid (show s.wa.length ≤ 1000000000 by have := Hcs.out; omega)
          have cP : wr.cell? ⟨B, 0, none⟩ = some (.pointer (some ⟨d, 0, none⟩)) := HBk.out.at 0 _ rfl
          go_wp2_with fail
          refine (HN.out.dev (P := fun e _ => e = .returned (.tuple #[])) (fun V hV hU => onD_all hV none 0 0 [] (NumsIn.nil _) (fun h => absurd h (by omega)) (by omega) Hwl.out)).mono ?_
          rintro e w3 ⟨rfl, hn⟩
          have HN3 := Lib.hid hn
          clear hn HN cP HBk Hbw
          have cP : w3.cell? ⟨B, 0, none⟩ = some (.pointer (some ⟨d, 0, none⟩)) := (blk_mods HB.out HN3.out.2 HBn.out).at 0 _ rfl
          go_wp2_with fail
          refine (HN3.out.dev (P := fun e _ => e = .returned (.tuple #[])) (fun V hV hU => armD hV 0 (by omega))).mono ?_
          rintro e w4 ⟨rfl, hn⟩
          have HN4 := Lib.hid hn
          clear hn HN3 cP
          obtain ⟨s2, hs2⟩ : ∃ s2, s2 = (s.on []).arm 0 := ⟨_, rfl⟩
          rw [← hs2] at HN4
          have hwl2 : s2.wa.length ≤ 1000000000 := by
            have h1 := Hwl.out
            have h2 : (s.on []).wa.length ≤ s.wa.length := by
              unfold Dv.on
              split
              · exact Nat.zero_le _
              · exact Nat.le_refl _
            have h3 : ((s.on []).arm 0).wa = (s.on []).wa := by unfold Dv.arm; split <;> rfl
            rw [hs2, h3]
            omega
          have hoff2 : s2.off = false ∧ s2.ar = 0 := by
            have h1 : (s.on []).off = false := by
              unfold Dv.on
              split
              · rfl
              · rename_i h; simpa using h
            rw [hs2, Dv.arm, if_neg (by rw [h1]; decide)]
            exact ⟨h1, rfl⟩
          have hc : s2.flushC = 0 := by unfold Dv.flushC; rw [hoff2.1, if_neg (by decide), hoff2.2]; rfl
          obtain ⟨s3, hs3⟩ : ∃ s3, s3 = s2.flushS := ⟨_, rfl⟩
          have hoff3 : s3.off = false ∧ s3.wa = [] := by
            rw [hs3]
            unfold Dv.flushS
            rw [hoff2.1, if_neg (by decide), hoff2.2, if_neg (by decide)]
            exact ⟨by show spentOff s2.ar = false; rw [hoff2.2]; rfl, rfl⟩
          have Hoff3 := Lib.hid hoff3
          have HFl := Lib.hid (fun (V : Nat → Prop) (hV : DevRep w4 d s2 V) => flushD_all hV hwl2)
          rw [hc, ← hs3] at HFl
          clear hs2 hs3 hwl2 hoff2 hoff3 hc
          have cP : w4.cell? ⟨B, 0, none⟩ = some (.pointer (some ⟨d, 0, none⟩)) := (blk_mods HB.out HN4.out.2 HBn.out).at 0 _ rfl
          go_wp2_with fail
          refine (HN4.out.dev (P := fun e _ => e = .returned (.int .i64 0)) (fun V hV hU => HFl.out V hV)).mono ?_
          rintro e w5 ⟨rfl, hn⟩
          have HN5 := Lib.hid hn
          clear hn HN4 HFl cP
          have HB5 := Lib.hid (blk_mods HB.out HN5.out.2 HBn.out)
          have Hw5 := Lib.hid (below_mods HwB.out HN5.out.2 HwB.out.size HU.out)
          obtain ⟨V, hV⟩ : ∃ V, V = Grown U wB w5 := ⟨_, rfl⟩
          have hP5 := HN5.out.1
          rw [← hV] at hP5
          have HP5 := Lib.hid hP5
          have HVB := Lib.hid (show ∀ k, V k → k < w5.heap.size ∧ w.heap.size ≤ k from fun k hk => ⟨HP5.out.lt k hk, by
            rw [hV] at hk
            rcases hk with hk | hk
            · exact HU.out k hk
            · exact Nat.le_trans HwB.out.size hk.1⟩)
          have HVn := Lib.hid (show ¬ V B from fun h => by
            rw [hV] at h
            rcases h with h | h
            · exact HBn.out h
            · have := HB.out.lt; omega)
          obtain ⟨F, G0, hD5, _⟩ := hP5
          have HD5 := Lib.hid hD5
          clear hV hD5 HN5
          obtain ⟨n, hn⟩ : ∃ n, n = s3.st.length := ⟨_, rfl⟩
          have Hn := Lib.hid hn
          have hnb : n ≤ 65536 := by rw [hn]; exact HD5.out.1.n2
          clear hn
          have HBl := Lib.hid (show ∀ u, Below w5.heap.size w5 u → Calls Try.prog 27 #[.pointer (some ⟨d, 0, none⟩)] u fun e w' => e = .returned (.int .i64 (n : Int)) ∧ u = w' from fun u hu => Hn.out ▸ blocks_any (HD5.out.below hu))
          obtain ⟨i1, hi1, hi1a, hi1b, hi1c⟩ := info_parts info_b1
          have Hi1 := Lib.hid (And.intro hi1 (And.intro hi1a (And.intro hi1b hi1c)))
          clear hi1 hi1a hi1b hi1c
          go_wp2_with fail
          go_loopw [9, 10] (fun y9 jv wx => ∃ (j : Nat) (v : Value) (es : List Value), j ≤ n ∧ jv = .int .i64 j ∧ v = y9 ∧ Below w5.heap.size w5 wx ∧ wx.ownsRow w5.heap.size 22 1 v j es ∧ WasIs wx w5.heap.size es s3) (fun _ jv _ => n - (intOf jv).toNat)
          case atStart => exact ⟨0, _, [], by omega, rfl, rfl, nu_refl w5, World.ownsRow_nil _ _ _ _, (fun j u h => by cases h)⟩
          case round =>
            obtain ⟨j, v9, es, hj, rfl, rfl, hb, hown, hes⟩ := hrel
            have cP : wr.cell? ⟨B, 0, none⟩ = some (.pointer (some ⟨d, 0, none⟩)) := (HB5.out.below hb HB5.out.lt).at 0 _ rfl
            have Hb := Lib.hid hb
            have Hown := Lib.hid hown
            have Hes := Lib.hid hes
            have HBr := Lib.hid (HBl.out wr hb)
            clear hb hown hes
            by_cases hlt : j < n
            · have hji : (j : Int) < (n : Int) := by omega
              have HRd := Lib.hid (readD_good (HD5.out.below Hb.out) j (by rw [← Hn.out]; exact hlt) Hoff3.out.1 (by rw [Hoff3.out.2]; exact Nat.zero_le _))
              have Hbl := Lib.hid (HD5.out.1.now (i := j) (by rw [← Hn.out]; exact hlt))
              go_wp2_with fail
              refine HBr.out.mono ?_
              rintro e w6 ⟨rfl, rfl⟩
              go_wp2_with fail
              refine HRd.out.mono ?_
              rintro e w6 ⟨G, rfl, hG, hB, hb6⟩
              have hal := nu_alloc (nu_refl w6) (.cells #[.slice (some ⟨G, 0, none⟩) 256 256] 22)
              have hb7 := nu_trans hb6 hal
              have HA := Lib.hid (Blk.made w6 22 #[.slice (some ⟨G, 0, none⟩) 256 256])
              have HOw := Lib.hid (own_eq Hown.out (fun q hq => hb7.block q (Hown.out.lt q hq).2))
              have HBG := Lib.hid (hB.below hal hB.lt)
              have HGw := Lib.hid (show w5.heap.size ≤ G from Nat.le_trans Hb.out.size hG)
              have Hes7 := Lib.hid (Hes.out.below hb7)
              have Hb7 := Lib.hid (nu_trans0 Hb.out hb7)
              have Hel := Lib.hid (show es.length = j from by have := Hown.out.1; omega)
              clear hG hB hb6 hal hb7 HRd HBr cP Hown Hes Hb
              go_upto_region 15 with (first | (refine wpList_runW _ _ rfl (exec_slice1 (.tmp 69) 50 22 i1 (.slice none 0 0) 1 Try.underlying50 Hi1.out.1 Hi1.out.2.1 Hi1.out.2.2.1 (by omega) (by omega) (.slice (some ⟨G, 0, none⟩) 256 256) rfl rfl rfl) ?_) | (at_builtin; refine wpList_append_own _ rfl (.tmp 68) (.tmp 70) 50 rfl w5.heap.size 22 i1 (.slice none 0 0) 1 24 Try.underlying50 Hi1.out.1 Hi1.out.2.1 Hi1.out.2.2.1 Hi1.out.2.2.2 rfl (by omega) _ j es rfl HOw.out ⟨w6.heap.size, 0, none⟩ 1 1 [.slice (some ⟨G, 0, none⟩) 256 256] rfl rfl (fun j u hu => by rw [Addr.add_lit, Nat.zero_add]; exact HA.out.at j u (by simpa using hu)) (fun u hu => by rw [List.mem_singleton.1 hu]; rfl) (by unfold maxLen; omega) (by omega) Hb7.out.size ?_))
              intro v' w8 hown hg _
              have HR := Lib.hid (show Below w5.heap.size w5 w8 ∧ w8.ownsRow w5.heap.size 22 1 v' (j + 1) (es ++ [.slice (some ⟨G, 0, none⟩) 256 256]) ∧ WasIs w8 w5.heap.size (es ++ [.slice (some ⟨G, 0, none⟩) 256 256]) s3 from
                ⟨Hb7.out.grown hg Hb7.out.size (fun q hq => (HOw.out.lt q hq).1), hown, (Hes7.out.snoc Hel.out HGw.out HBG.out).keep (own_typed HOw.out) hg⟩)
              clear hown hg HA HOw HBG HGw Hes7 Hb7 Hel
              go_wp2_with fail
              go_roundw
              case rel => first | exact ⟨j + 1, v', _, by omega, by go_num, rfl, HR.out⟩ | ((repeat apply Exists.intro); exact ⟨⟨j + 1, v', _, by omega, by go_num, rfl, HR.out⟩, rfl⟩)
              case measure => simp [intOf]; omega
            · obtain rfl : j = n := by omega
              have hji : ¬ (j : Int) < (j : Int) := by omega
              obtain ⟨va, vc, rfl⟩ := own_len Hown.out
              go_wp2_with fail
              refine HBr.out.mono ?_
              rintro e w6 ⟨rfl, rfl⟩
              have HPr := Lib.hid (PairTo.refl (HP5.out.below Hb.out))
              have Hwr := Lib.hid (nu_trans0 Hw5.out Hb.out)
              have HBr2 := Lib.hid (HB5.out.below Hb.out HB5.out.lt)
              clear HBr
              go_wp2_with fail
              refine (HPr.out.dev (P := fun e _ => e = .returned (.tuple #[])) (fun X hX hU => crashD hX)).mono ?_
              rintro e w6 ⟨rfl, hn⟩
              have HN6 := Lib.hid hn
              clear hn HPr cP
              have cP : w6.cell? ⟨B, 0, none⟩ = some (.pointer (some ⟨d, 0, none⟩)) := (blk_mods HBr2.out HN6.out.2 HVn.out).at 0 _ rfl
              have HF6 := Lib.hid (HF0.out.below (below_mods Hwr.out HN6.out.2 Hwr.out.size (fun k hk => (HVB.out k hk).2)))
              have HFar := Lib.hid (nums_far (U := V) HF0.out Hwr.out.size (fun k hk => (HVB.out k hk).2))
              go_wp2_with fail
              refine (HN6.out.dev (P := fun e _ => e = .returned (.tuple #[])) (fun X hX hU => onD_all hX fa0 fl0 fc0 fs0 HF6.out (Far.out HFar.out hU) Hfl0.out (by show s3.wa.length ≤ _; rw [Hoff3.out.2]; exact Nat.zero_le _))).mono ?_
              rintro e w7 ⟨rfl, hn⟩
              obtain ⟨s5, hs5⟩ : ∃ s5, s5 = s3.crash.on fs0 := ⟨_, rfl⟩
              rw [← hs5] at hn
              have h5 : s5.off = false ∧ s5.wa = [] ∧ s5.st = s3.st := by
                rw [hs5, Dv.on, if_pos (show s3.crash.off = true from rfl)]
                refine ⟨rfl, rfl, ?_⟩
                show onL s3.st s3.wa fs0 s3.wa.length = s3.st
                rw [Hoff3.out.2]
                rfl
              have Hnow := Lib.hid (show ∀ j, s5.now j = s3.now j from fun j => by rw [Dv.now, Dv.now, h5.2.1, h5.2.2, Hoff3.out.2])
              have H5 := Lib.hid h5
              have HB7 := Lib.hid (blk_mods HBr2.out hn.2 HVn.out)
              have Hw7 := Lib.hid (below_mods Hwr.out hn.2 Hwr.out.size (fun k hk => (HVB.out k hk).2))
              have HOw7 := Lib.hid (own_eq Hown.out (fun k hk => hn.2.block k (Hown.out.lt k hk).2 (fun hv => by
                have h1 := (HVB.out k hv).1
                have h2 := (Hown.out.lt k hk).1
                omega)))
              have Hes7 := Lib.hid (Hes.out.mods hn.2 (fun k hk => (HVB.out k hk).1))
              obtain ⟨⟨F7, G7, hD7, _⟩, _⟩ := hn
              have HD7 := Lib.hid hD7
              have Hn5 := Lib.hid (show j = s5.st.length by rw [h5.2.2]; exact Hn.out)
              clear hs5 h5 hD7 HN6 cP HF6 HFar Hown Hes Hb HBr2 Hwr HBl HP5 HD5 HB5 Hw5
              go_wp2_with fail
              go_loopw [13] (fun qv wx => ∃ q : Nat, q ≤ j ∧ qv = .int .i64 q ∧ Below w7.heap.size w7 wx) (fun qv _ => j - (intOf qv).toNat)
              case atStart => exact ⟨0, by omega, rfl, nu_refl w7⟩
              case round =>
                obtain ⟨q, hq, rfl, hb⟩ := hrel
                have cP : wr.cell? ⟨B, 0, none⟩ = some (.pointer (some ⟨d, 0, none⟩)) := (HB7.out.below hb HB7.out.lt).at 0 _ rfl
                have Hb := Lib.hid hb
                clear hb
                by_cases hlt : q < j
                · have hqi : (q : Int) < (j : Int) := by omega
                  have hqs : q < s5.st.length := by rw [← Hn5.out]; exact hlt
                  have HRd := Lib.hid (readD_good (HD7.out.below Hb.out) q hqs H5.out.1 (by rw [H5.out.2.1]; exact Nat.zero_le _))
                  have Hbl := Lib.hid (HD7.out.1.now hqs)
                  have HOq := Lib.hid (own_eq HOw7.out (fun k hk => Hb.out.block k (HOw7.out.lt k hk).2))
                  obtain ⟨u, hu⟩ : ∃ u, es[q]? = some u := ⟨_, List.getElem?_eq_getElem (by have := HOw7.out.1; omega)⟩
                  obtain ⟨G, rfl, _, hGB⟩ := Hes7.out.below Hb.out q u hu
                  obtain ⟨gw, hgw⟩ : ∃ gw, va = some ⟨gw, 0, none⟩ := by
                    rcases HOq.out.2 with ⟨_, h0⟩ | ⟨gw, cap, cur, h1, _⟩
                    · omega
                    · injection h1 with h1
                      exact ⟨gw, h1⟩
                  subst hgw
                  have cW : wr.cell? ⟨gw, q, none⟩ = some (.slice (some ⟨G, 0, none⟩) 256 256) := by rw [HOq.out.cellAt q (by omega)]; exact hu
                  have HGB := Lib.hid hGB
                  obtain ⟨D, hD⟩ : ∃ D, D = s5.now q := ⟨_, rfl⟩
                  rw [← Hnow.out q, ← hD] at HGB
                  rw [← hD] at HRd Hbl
                  clear hu hGB hD hqs HOq
                  go_wp2_with fail
                  refine HRd.out.mono ?_
                  rintro e w8 ⟨G2, rfl, _, hB2, hb8⟩
                  have cW := cell_below hb8 cW
                  have HGB8 := Lib.hid (HGB.out.below hb8 HGB.out.lt)
                  have HB8 := Lib.hid hB2
                  have Hb8 := Lib.hid (nu_trans0 Hb.out hb8)
                  clear hB2 hb8 HGB HRd cP Hb
                  go_wp2_with fail
                  refine (same_is (xs := D) (ys := D) true (decide_eq_true rfl) (bytes_256 HB8.out Hbl.out).1 (bytes_256 HGB8.out Hbl.out).1 (by omega) (by omega)).mono ?_
                  rintro e w9 ⟨rfl, nn, rfl⟩
                  have Hb9 := Lib.hid (nu_trans0 Hb8.out (nu_drewN (nu_refl w8) nn))
                  clear HB8 HGB8 Hb8 cW Hbl
                  generalize w8.drewN nn = w9 at *
                  go_wp2_with fail
                  go_roundw
                  case rel => first | exact ⟨q + 1, by omega, by go_num, Hb9.out⟩ | ((repeat apply Exists.intro); exact ⟨⟨q + 1, by omega, by go_num, Hb9.out⟩, rfl⟩)
                  case measure => simp [intOf]; omega
                · obtain rfl : q = j := by omega
                  have hqi : ¬ (q : Int) < (q : Int) := by omega
                  have hw0 := waits_any (HD7.out.below Hb.out)
                  rw [H5.out.2.1] at hw0
                  have HWt := Lib.hid (show Calls Try.prog 28 #[.pointer (some ⟨d, 0, none⟩)] wr fun e w' => e = .returned (.int .i64 0) ∧ wr = w' from hw0)
                  clear hw0
                  go_wp2_with fail
                  refine HWt.out.mono ?_
                  rintro e w8 ⟨rfl, rfl⟩
                  go_wp2_with fail
                  refine (awake10 wr).mono ?_
                  rintro e w8 ⟨rfl, hb8⟩
                  have HE := Lib.hid (nu_trans0 (nu_trans0 Hw7.out Hb.out) hb8)
                  clear hb8
                  go_wp2_with fail
                  go_ret
                  exact ⟨rfl, HE.out⟩
        · have hki : ¬ (k : Int) < (len : Int) := by omega
          clear hmore
          have Hwl := Lib.hid (show s.wa.length ≤ 1000000000 by have := Hcs.out; omega)
          have cP : wr.cell? ⟨B, 0, none⟩ = some (.pointer (some ⟨d, 0, none⟩)) := HBk.out.at 0 _ rfl
          go_wp2_with fail
          refine (HN.out.dev (P := fun e _ => e = .returned (.tuple #[])) (fun V hV hU => onD_all hV none 0 0 [] (NumsIn.nil _) (fun h => absurd h (by omega)) (by omega) Hwl.out)).mono ?_
          rintro e w3 ⟨rfl, hn⟩
          have HN3 := Lib.hid hn
          clear hn HN cP HBk Hbw
          have cP : w3.cell? ⟨B, 0, none⟩ = some (.pointer (some ⟨d, 0, none⟩)) := (blk_mods HB.out HN3.out.2 HBn.out).at 0 _ rfl
          go_wp2_with fail
          refine (HN3.out.dev (P := fun e _ => e = .returned (.tuple #[])) (fun V hV hU => armD hV 0 (by omega))).mono ?_
          rintro e w4 ⟨rfl, hn⟩
          have HN4 := Lib.hid hn
          clear hn HN3 cP
          obtain ⟨s2, hs2⟩ : ∃ s2, s2 = (s.on []).arm 0 := ⟨_, rfl⟩
          rw [← hs2] at HN4
          have hwl2 : s2.wa.length ≤ 1000000000 := by
            have h1 := Hwl.out
            have h2 : (s.on []).wa.length ≤ s.wa.length := by
              unfold Dv.on
              split
              · exact Nat.zero_le _
              · exact Nat.le_refl _
            have h3 : ((s.on []).arm 0).wa = (s.on []).wa := by unfold Dv.arm; split <;> rfl
            rw [hs2, h3]
            omega
          have hoff2 : s2.off = false ∧ s2.ar = 0 := by
            have h1 : (s.on []).off = false := by
              unfold Dv.on
              split
              · rfl
              · rename_i h; simpa using h
            rw [hs2, Dv.arm, if_neg (by rw [h1]; decide)]
            exact ⟨h1, rfl⟩
          have hc : s2.flushC = 0 := by unfold Dv.flushC; rw [hoff2.1, if_neg (by decide), hoff2.2]; rfl
          obtain ⟨s3, hs3⟩ : ∃ s3, s3 = s2.flushS := ⟨_, rfl⟩
          have hoff3 : s3.off = false ∧ s3.wa = [] := by
            rw [hs3]
            unfold Dv.flushS
            rw [hoff2.1, if_neg (by decide), hoff2.2, if_neg (by decide)]
            exact ⟨by show spentOff s2.ar = false; rw [hoff2.2]; rfl, rfl⟩
          have Hoff3 := Lib.hid hoff3
          have HFl := Lib.hid (fun (V : Nat → Prop) (hV : DevRep w4 d s2 V) => flushD_all hV hwl2)
          rw [hc, ← hs3] at HFl
          clear hs2 hs3 hwl2 hoff2 hoff3 hc
          have cP : w4.cell? ⟨B, 0, none⟩ = some (.pointer (some ⟨d, 0, none⟩)) := (blk_mods HB.out HN4.out.2 HBn.out).at 0 _ rfl
          go_wp2_with fail
          refine (HN4.out.dev (P := fun e _ => e = .returned (.int .i64 0)) (fun V hV hU => HFl.out V hV)).mono ?_
          rintro e w5 ⟨rfl, hn⟩
          have HN5 := Lib.hid hn
          clear hn HN4 HFl cP
          have HB5 := Lib.hid (blk_mods HB.out HN5.out.2 HBn.out)
          have Hw5 := Lib.hid (below_mods HwB.out HN5.out.2 HwB.out.size HU.out)
          obtain ⟨V, hV⟩ : ∃ V, V = Grown U wB w5 := ⟨_, rfl⟩
          have hP5 := HN5.out.1
          rw [← hV] at hP5
          have HP5 := Lib.hid hP5
          have HVB := Lib.hid (show ∀ k, V k → k < w5.heap.size ∧ w.heap.size ≤ k from fun k hk => ⟨HP5.out.lt k hk, by
            rw [hV] at hk
            rcases hk with hk | hk
            · exact HU.out k hk
            · exact Nat.le_trans HwB.out.size hk.1⟩)
          have HVn := Lib.hid (show ¬ V B from fun h => by
            rw [hV] at h
            rcases h with h | h
            · exact HBn.out h
            · have := HB.out.lt; omega)
          obtain ⟨F, G0, hD5, _⟩ := hP5
          have HD5 := Lib.hid hD5
          clear hV hD5 HN5
          obtain ⟨n, hn⟩ : ∃ n, n = s3.st.length := ⟨_, rfl⟩
          have Hn := Lib.hid hn
          have hnb : n ≤ 65536 := by rw [hn]; exact HD5.out.1.n2
          clear hn
          have HBl := Lib.hid (show ∀ u, Below w5.heap.size w5 u → Calls Try.prog 27 #[.pointer (some ⟨d, 0, none⟩)] u fun e w' => e = .returned (.int .i64 (n : Int)) ∧ u = w' from fun u hu => Hn.out ▸ blocks_any (HD5.out.below hu))
          obtain ⟨i1, hi1, hi1a, hi1b, hi1c⟩ := info_parts info_b1
          have Hi1 := Lib.hid (And.intro hi1 (And.intro hi1a (And.intro hi1b hi1c)))
          clear hi1 hi1a hi1b hi1c
          go_wp2_with fail
          go_loopw [9, 10] (fun y9 jv wx => ∃ (j : Nat) (v : Value) (es : List Value), j ≤ n ∧ jv = .int .i64 j ∧ v = y9 ∧ Below w5.heap.size w5 wx ∧ wx.ownsRow w5.heap.size 22 1 v j es ∧ WasIs wx w5.heap.size es s3) (fun _ jv _ => n - (intOf jv).toNat)
          case atStart => exact ⟨0, _, [], by omega, rfl, rfl, nu_refl w5, World.ownsRow_nil _ _ _ _, (fun j u h => by cases h)⟩
          case round =>
            obtain ⟨j, v9, es, hj, rfl, rfl, hb, hown, hes⟩ := hrel
            have cP : wr.cell? ⟨B, 0, none⟩ = some (.pointer (some ⟨d, 0, none⟩)) := (HB5.out.below hb HB5.out.lt).at 0 _ rfl
            have Hb := Lib.hid hb
            have Hown := Lib.hid hown
            have Hes := Lib.hid hes
            have HBr := Lib.hid (HBl.out wr hb)
            clear hb hown hes
            by_cases hlt : j < n
            · have hji : (j : Int) < (n : Int) := by omega
              have HRd := Lib.hid (readD_good (HD5.out.below Hb.out) j (by rw [← Hn.out]; exact hlt) Hoff3.out.1 (by rw [Hoff3.out.2]; exact Nat.zero_le _))
              have Hbl := Lib.hid (HD5.out.1.now (i := j) (by rw [← Hn.out]; exact hlt))
              go_wp2_with fail
              refine HBr.out.mono ?_
              rintro e w6 ⟨rfl, rfl⟩
              go_wp2_with fail
              refine HRd.out.mono ?_
              rintro e w6 ⟨G, rfl, hG, hB, hb6⟩
              have hal := nu_alloc (nu_refl w6) (.cells #[.slice (some ⟨G, 0, none⟩) 256 256] 22)
              have hb7 := nu_trans hb6 hal
              have HA := Lib.hid (Blk.made w6 22 #[.slice (some ⟨G, 0, none⟩) 256 256])
              have HOw := Lib.hid (own_eq Hown.out (fun q hq => hb7.block q (Hown.out.lt q hq).2))
              have HBG := Lib.hid (hB.below hal hB.lt)
              have HGw := Lib.hid (show w5.heap.size ≤ G from Nat.le_trans Hb.out.size hG)
              have Hes7 := Lib.hid (Hes.out.below hb7)
              have Hb7 := Lib.hid (nu_trans0 Hb.out hb7)
              have Hel := Lib.hid (show es.length = j from by have := Hown.out.1; omega)
              clear hG hB hb6 hal hb7 HRd HBr cP Hown Hes Hb
              go_upto_region 15 with (first | (refine wpList_runW _ _ rfl (exec_slice1 (.tmp 69) 50 22 i1 (.slice none 0 0) 1 Try.underlying50 Hi1.out.1 Hi1.out.2.1 Hi1.out.2.2.1 (by omega) (by omega) (.slice (some ⟨G, 0, none⟩) 256 256) rfl rfl rfl) ?_) | (at_builtin; refine wpList_append_own _ rfl (.tmp 68) (.tmp 70) 50 rfl w5.heap.size 22 i1 (.slice none 0 0) 1 24 Try.underlying50 Hi1.out.1 Hi1.out.2.1 Hi1.out.2.2.1 Hi1.out.2.2.2 rfl (by omega) _ j es rfl HOw.out ⟨w6.heap.size, 0, none⟩ 1 1 [.slice (some ⟨G, 0, none⟩) 256 256] rfl rfl (fun j u hu => by rw [Addr.add_lit, Nat.zero_add]; exact HA.out.at j u (by simpa using hu)) (fun u hu => by rw [List.mem_singleton.1 hu]; rfl) (by unfold maxLen; omega) (by omega) Hb7.out.size ?_))
              intro v' w8 hown hg _
              have HR := Lib.hid (show Below w5.heap.size w5 w8 ∧ w8.ownsRow w5.heap.size 22 1 v' (j + 1) (es ++ [.slice (some ⟨G, 0, none⟩) 256 256]) ∧ WasIs w8 w5.heap.size (es ++ [.slice (some ⟨G, 0, none⟩) 256 256]) s3 from
                ⟨Hb7.out.grown hg Hb7.out.size (fun q hq => (HOw.out.lt q hq).1), hown, (Hes7.out.snoc Hel.out HGw.out HBG.out).keep (own_typed HOw.out) hg⟩)
              clear hown hg HA HOw HBG HGw Hes7 Hb7 Hel
              go_wp2_with fail
              go_roundw
              case rel => first | exact ⟨j + 1, v', _, by omega, by go_num, rfl, HR.out⟩ | ((repeat apply Exists.intro); exact ⟨⟨j + 1, v', _, by omega, by go_num, rfl, HR.out⟩, rfl⟩)
              case measure => simp [intOf]; omega
            · obtain rfl : j = n := by omega
              have hji : ¬ (j : Int) < (j : Int) := by omega
              obtain ⟨va, vc, rfl⟩ := own_len Hown.out
              go_wp2_with fail
              refine HBr.out.mono ?_
              rintro e w6 ⟨rfl, rfl⟩
              have HPr := Lib.hid (PairTo.refl (HP5.out.below Hb.out))
              have Hwr := Lib.hid (nu_trans0 Hw5.out Hb.out)
              have HBr2 := Lib.hid (HB5.out.below Hb.out HB5.out.lt)
              clear HBr
              go_wp2_with fail
              refine (HPr.out.dev (P := fun e _ => e = .returned (.tuple #[])) (fun X hX hU => crashD hX)).mono ?_
              rintro e w6 ⟨rfl, hn⟩
              have HN6 := Lib.hid hn
              clear hn HPr cP
              have cP : w6.cell? ⟨B, 0, none⟩ = some (.pointer (some ⟨d, 0, none⟩)) := (blk_mods HBr2.out HN6.out.2 HVn.out).at 0 _ rfl
              have HF6 := Lib.hid (HF0.out.below (below_mods Hwr.out HN6.out.2 Hwr.out.size (fun k hk => (HVB.out k hk).2)))
              have HFar := Lib.hid (nums_far (U := V) HF0.out Hwr.out.size (fun k hk => (HVB.out k hk).2))
              go_wp2_with fail
              refine (HN6.out.dev (P := fun e _ => e = .returned (.tuple #[])) (fun X hX hU => onD_all hX fa0 fl0 fc0 fs0 HF6.out (Far.out HFar.out hU) Hfl0.out (by show s3.wa.length ≤ _; rw [Hoff3.out.2]; exact Nat.zero_le _))).mono ?_
              rintro e w7 ⟨rfl, hn⟩
              obtain ⟨s5, hs5⟩ : ∃ s5, s5 = s3.crash.on fs0 := ⟨_, rfl⟩
              rw [← hs5] at hn
              have h5 : s5.off = false ∧ s5.wa = [] ∧ s5.st = s3.st := by
                rw [hs5, Dv.on, if_pos (show s3.crash.off = true from rfl)]
                refine ⟨rfl, rfl, ?_⟩
                show onL s3.st s3.wa fs0 s3.wa.length = s3.st
                rw [Hoff3.out.2]
                rfl
              have Hnow := Lib.hid (show ∀ j, s5.now j = s3.now j from fun j => by rw [Dv.now, Dv.now, h5.2.1, h5.2.2, Hoff3.out.2])
              have H5 := Lib.hid h5
              have HB7 := Lib.hid (blk_mods HBr2.out hn.2 HVn.out)
              have Hw7 := Lib.hid (below_mods Hwr.out hn.2 Hwr.out.size (fun k hk => (HVB.out k hk).2))
              have HOw7 := Lib.hid (own_eq Hown.out (fun k hk => hn.2.block k (Hown.out.lt k hk).2 (fun hv => by
                have h1 := (HVB.out k hv).1
                have h2 := (Hown.out.lt k hk).1
                omega)))
              have Hes7 := Lib.hid (Hes.out.mods hn.2 (fun k hk => (HVB.out k hk).1))
              obtain ⟨⟨F7, G7, hD7, _⟩, _⟩ := hn
              have HD7 := Lib.hid hD7
              have Hn5 := Lib.hid (show j = s5.st.length by rw [h5.2.2]; exact Hn.out)
              clear hs5 h5 hD7 HN6 cP HF6 HFar Hown Hes Hb HBr2 Hwr HBl HP5 HD5 HB5 Hw5
              go_wp2_with fail
              go_loopw [13] (fun qv wx => ∃ q : Nat, q ≤ j ∧ qv = .int .i64 q ∧ Below w7.heap.size w7 wx) (fun qv _ => j - (intOf qv).toNat)
              case atStart => exact ⟨0, by omega, rfl, nu_refl w7⟩
              case round =>
                obtain ⟨q, hq, rfl, hb⟩ := hrel
                have cP : wr.cell? ⟨B, 0, none⟩ = some (.pointer (some ⟨d, 0, none⟩)) := (HB7.out.below hb HB7.out.lt).at 0 _ rfl
                have Hb := Lib.hid hb
                clear hb
                by_cases hlt : q < j
                · have hqi : (q : Int) < (j : Int) := by omega
                  have hqs : q < s5.st.length := by rw [← Hn5.out]; exact hlt
                  have HRd := Lib.hid (readD_good (HD7.out.below Hb.out) q hqs H5.out.1 (by rw [H5.out.2.1]; exact Nat.zero_le _))
                  have Hbl := Lib.hid (HD7.out.1.now hqs)
                  have HOq := Lib.hid (own_eq HOw7.out (fun k hk => Hb.out.block k (HOw7.out.lt k hk).2))
                  obtain ⟨u, hu⟩ : ∃ u, es[q]? = some u := ⟨_, List.getElem?_eq_getElem (by have := HOw7.out.1; omega)⟩
                  obtain ⟨G, rfl, _, hGB⟩ := Hes7.out.below Hb.out q u hu
                  obtain ⟨gw, hgw⟩ : ∃ gw, va = some ⟨gw, 0, none⟩ := by
                    rcases HOq.out.2 with ⟨_, h0⟩ | ⟨gw, cap, cur, h1, _⟩
                    · omega
                    · injection h1 with h1
                      exact ⟨gw, h1⟩
                  subst hgw
                  have cW : wr.cell? ⟨gw, q, none⟩ = some (.slice (some ⟨G, 0, none⟩) 256 256) := by rw [HOq.out.cellAt q (by omega)]; exact hu
                  have HGB := Lib.hid hGB
                  obtain ⟨D, hD⟩ : ∃ D, D = s5.now q := ⟨_, rfl⟩
                  rw [← Hnow.out q, ← hD] at HGB
                  rw [← hD] at HRd Hbl
                  clear hu hGB hD hqs HOq
                  go_wp2_with fail
                  refine HRd.out.mono ?_
                  rintro e w8 ⟨G2, rfl, _, hB2, hb8⟩
                  have cW := cell_below hb8 cW
                  have HGB8 := Lib.hid (HGB.out.below hb8 HGB.out.lt)
                  have HB8 := Lib.hid hB2
                  have Hb8 := Lib.hid (nu_trans0 Hb.out hb8)
                  clear hB2 hb8 HGB HRd cP Hb
                  go_wp2_with fail
                  refine (same_is (xs := D) (ys := D) true (decide_eq_true rfl) (bytes_256 HB8.out Hbl.out).1 (bytes_256 HGB8.out Hbl.out).1 (by omega) (by omega)).mono ?_
                  rintro e w9 ⟨rfl, nn, rfl⟩
                  have Hb9 := Lib.hid (nu_trans0 Hb8.out (nu_drewN (nu_refl w8) nn))
                  clear HB8 HGB8 Hb8 cW Hbl
                  generalize w8.drewN nn = w9 at *
                  go_wp2_with fail
                  go_roundw
                  case rel => first | exact ⟨q + 1, by omega, by go_num, Hb9.out⟩ | ((repeat apply Exists.intro); exact ⟨⟨q + 1, by omega, by go_num, Hb9.out⟩, rfl⟩)
                  case measure => simp [intOf]; omega
                · obtain rfl : q = j := by omega
                  have hqi : ¬ (q : Int) < (q : Int) := by omega
                  have hw0 := waits_any (HD7.out.below Hb.out)
                  rw [H5.out.2.1] at hw0
                  have HWt := Lib.hid (show Calls Try.prog 28 #[.pointer (some ⟨d, 0, none⟩)] wr fun e w' => e = .returned (.int .i64 0) ∧ wr = w' from hw0)
                  clear hw0
                  go_wp2_with fail
                  refine HWt.out.mono ?_
                  rintro e w8 ⟨rfl, rfl⟩
                  go_wp2_with fail
                  refine (awake10 wr).mono ?_
                  rintro e w8 ⟨rfl, hb8⟩
                  have HE := Lib.hid (nu_trans0 (nu_trans0 Hw7.out Hb.out) hb8)
                  clear hb8
                  go_wp2_with fail
                  go_ret
                  exact ⟨rfl, HE.out⟩
end Go.Proofs.Ytjmghpoknlffiaa
