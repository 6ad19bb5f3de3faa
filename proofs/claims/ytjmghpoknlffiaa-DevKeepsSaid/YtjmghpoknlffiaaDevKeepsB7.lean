/-
  What the proof of DevKeeps rests on, part 7 of 7.
-/
import Derived.Test.YtjmghpoknlffiaaDevKeepsB6
namespace Go.Proofs.Ytjmghpoknlffiaa
open Go.ChangeShapes Go.WideShapes Go.ChangeAt Go.RowKit
set_option linter.unusedSimpArgs false

theorem calls_back {P : Program} {f : FuncId} {args : Array Value} {w : World} {v : Value} (h : Calls P f args w fun e w' => e = .returned v ∧ w = w') : Calls P f args w fun e w' => e = .returned v ∧ w' = w := h.mono fun _ _ h => ⟨h.1, h.2.symm⟩
set_option maxRecDepth 100000 in
set_option maxHeartbeats 4000000 in
theorem begun_any (n : Nat) (h1 : 1 ≤ n) (h2 : n ≤ 65536) (w : World) : Calls Try.prog 25 #[.int .i64 (n : Int)] w fun e w' =>
    ∃ d x, e = .returned (.agg #[.pointer (some ⟨d, 0, none⟩), .pointer (some ⟨x, 0, none⟩)]) ∧ ∃ U, Pair2 w' d x (Dv.new n) (Dv.new n) U ∧ (∀ k, U k → w.heap.size ≤ k) ∧ Below w.heap.size w w' := by
  have HD := Lib.hid (fun u => devNew_any n h1 h2 u)
  have HX := Lib.hid (fun u => xNew_any n h1 h2 u)
  have HR := Lib.hid (Blk.made w 45 #[.pointer none, .pointer none])
  have Hb1 := Lib.hid (nu_alloc (nu_refl w) (.cells #[.pointer none, .pointer none] 45))
  clear h1 h2
  go_enter Try.func25, Try.ntmps25
  go_upto_region 1 with fail
  change Code.wp _ _ _ _ (w.alloc (.cells #[.pointer none, .pointer none] 45))
  generalize w.alloc (.cells #[.pointer none, .pointer none] 45) = w1 at *
  obtain ⟨R, hR⟩ : ∃ R, R = w.heap.size := ⟨_, rfl⟩
  have HRw := Lib.hid (show w.heap.size ≤ R from Nat.le_of_eq hR.symm)
  rw [← hR] at HR
  rw [← hR]
  clear hR
  go_wp2_with fail
  refine (HD.out w1).mono ?_
  rintro e w2 ⟨d, rfl, F, hD, hF, hb2⟩
  have HDd := Lib.hid hD
  have HF := Lib.hid hF
  have Hb2 := Lib.hid hb2
  clear hD hF hb2 HD
  go_wp2_with fail
  refine (HX.out w2).mono ?_
  rintro e w3 ⟨x, rfl, G, hX, hG, hb3⟩
  have hR3 := HR.out.below (nu_trans Hb2.out hb3) HR.out.lt
  have HR4 := Lib.hid (Blk.fill hR3 [.pointer (some ⟨d, 0, none⟩), .pointer (some ⟨x, 0, none⟩)] rfl)
  have HR3 := Lib.hid hR3
  have hm : Mods (fun k => k = R) w3 (w3.setCells R 0 [.pointer (some ⟨d, 0, none⟩), .pointer (some ⟨x, 0, none⟩)]) := (Mods.refl _ w3).grown (row := some R) (gb_set (gb_set (gb_refl w3 (some R)) (p := ⟨R, 0, none⟩) (.inl rfl) _) (p := ⟨R, 1, none⟩) (.inl rfl) _) (fun k hk => .inl (by injection hk with hk; exact hk.symm))
  have hd3 := HDd.out.below hb3
  have hlt1 := HR.out.lt
  have HP := Lib.hid (show Pair2 (w3.setCells R 0 [.pointer (some ⟨d, 0, none⟩), .pointer (some ⟨x, 0, none⟩)]) d x (Dv.new n) (Dv.new n) (fun k => F k ∨ G k) from
    ⟨F, G, hd3.mods hm (fun k hk e => by have h1 := HF.out k hk; omega), hX.mods hm (fun k hk e => by have h1 := hG k hk; have h2 := Hb2.out.size; omega), fun k hk hg => by have h1 := HDd.out.2.1 k hk; have h2 := hG k hg; omega, fun k hk => .inl hk, fun k hk => .inr hk, fun k hk => by
      rcases hk with hk | hk
      · exact Nat.lt_of_lt_of_le (hd3.2.1 k hk) hm.size
      · exact Nat.lt_of_lt_of_le (hX.2.1 k hk) hm.size⟩)
  have HU := Lib.hid (show ∀ k, F k ∨ G k → w.heap.size ≤ k from fun k hk => by
    have h0 := Hb1.out.size
    rcases hk with hk | hk
    · have h1 := HF.out k hk; omega
    · have h1 := hG k hk
      have h2 := Hb2.out.size
      omega)
  have Hb4 := Lib.hid (show Below w.heap.size w (w3.setCells R 0 [.pointer (some ⟨d, 0, none⟩), .pointer (some ⟨x, 0, none⟩)]) from nu_fill _ HRw.out 0 _ (nu_trans Hb1.out (nu_trans Hb2.out hb3)))
  clear hX hG hb3 hR3 hm hd3 hlt1 HX HDd HF Hb2 Hb1 HR
  go_wp2_with (refine wpList_store_in rfl 45 (.tmp 2) (.tmp 13) rfl R 0 [.pointer (some ⟨d, 0, none⟩), .pointer (some ⟨x, 0, none⟩)] rfl rfl 45 _ HR3.out (by simp) (by kernel_rfl) (fun u hu => by simp only [List.mem_cons, List.not_mem_nil, or_false] at hu; rcases hu with rfl | rfl <;> rfl) ?_)
  refine bodyPost_ret (results_blkS rfl _ R 45 #[.pointer (some ⟨d, 0, none⟩), .pointer (some ⟨x, 0, none⟩)] rfl HR4.out Try.underlying45 (by kernel_rfl)) rfl ⟨d, x, rfl, _, HP.out, HU.out, Hb4.out⟩
section
variable {w : World} {d x : Nat} {s : Dv} {U : Nat → Prop}
set_option maxRecDepth 100000 in
set_option maxHeartbeats 8000000 in
theorem alike_any (H : Pair2 w d x s s U) (hwl : s.wa.length ≤ 1000000000) : Calls Try.prog 31 #[.agg #[.pointer (some ⟨d, 0, none⟩), .pointer (some ⟨x, 0, none⟩)]] w fun e w' => e = .returned (.bool true) ∧ Below w.heap.size w w' := by
  have hal := nu_alloc (nu_refl w) (.cells #[.pointer (some ⟨d, 0, none⟩), .pointer (some ⟨x, 0, none⟩)] 45)
  have hpm := Blk.made w 45 #[.pointer (some ⟨d, 0, none⟩), .pointer (some ⟨x, 0, none⟩)]
  have HP := Lib.hid hpm
  obtain ⟨F, G, hD0, hX0, _⟩ := H
  have HD := Lib.hid (hD0.below hal)
  have HX := Lib.hid (hX0.below hal)
  have Hb1 := Lib.hid hal
  have Hwl := Lib.hid hwl
  clear hal hpm hwl hD0 hX0
  go_enter Try.func31, Try.ntmps31
  go_upto_region 1 with fail
  change Code.wp _ _ _ _ (w.alloc (.cells #[.pointer (some ⟨d, 0, none⟩), .pointer (some ⟨x, 0, none⟩)] 45))
  generalize w.alloc (.cells #[.pointer (some ⟨d, 0, none⟩), .pointer (some ⟨x, 0, none⟩)] 45) = w1 at *
  obtain ⟨P, hP⟩ : ∃ P, P = w.heap.size := ⟨_, rfl⟩
  rw [← hP] at HP
  rw [← hP]
  clear hP
  have hdr := nu_drew (nu_refl w1)
  have hDd := HD.out.below hdr
  have HWt := Lib.hid (calls_back (waits_any hDd))
  have HCo := Lib.hid (calls_back (count_any hDd))
  have HUp := Lib.hid (calls_back (upD_any hDd))
  have HBl := Lib.hid (calls_back (blocks_any hDd))
  obtain ⟨st, wa, cp, wv, bs, ws, rs, cv, Fz, M⟩ := HX.out.state
  obtain ⟨g, cap, rfl, _⟩ := M.st.slot HX.out.1.n1 HX.out.1.st
  obtain ⟨ao, ac, rfl⟩ := own_len M.wa.1
  obtain ⟨c0, c1, c2, _, c4, _⟩ := RefAt.cells M.dv
  have cP0 : w1.cell? ⟨P, 0, none⟩ = some (.pointer (some ⟨d, 0, none⟩)) := HP.out.at 0 _ rfl
  have cP1 : w1.cell? ⟨P, 1, none⟩ = some (.pointer (some ⟨x, 0, none⟩)) := HP.out.at 1 _ rfl
  obtain ⟨n, hn⟩ : ∃ n, n = s.st.length := ⟨_, rfl⟩
  have Hn := Lib.hid hn
  have hn2 : n ≤ 65536 := by rw [hn]; exact HX.out.1.n2
  rw [← hn] at c0 HBl
  obtain ⟨m, hm⟩ : ∃ m, m = s.wa.length := ⟨_, rfl⟩
  rw [← hm] at c1 HWt
  obtain ⟨co, hco⟩ : ∃ co, co = s.co := ⟨_, rfl⟩
  rw [← hco] at c4 HCo
  obtain ⟨off, hoff⟩ : ∃ off, off = s.off := ⟨_, rfl⟩
  have Hoff := Lib.hid hoff
  rw [← hoff] at c2 HUp
  have hne : ((!off) == off) = false := by cases off <;> rfl
  have Hc0 := Lib.hid c0
  have Hc2 := Lib.hid c2
  clear M hn hm hco hoff hDd
  refine wp_region_still_lit (by kernel_rfl) (by kernel_rfl) ?_
  repeat (first | still_step | still_call HWt.out | still_call HCo.out | still_call HUp.out | still_call HBl.out)
  refine wpStill_nil ?_
  change Exit.then _ _ _ _ w1.drew
  have hb2 := nu_drew (nu_refl w1)
  have HDw := Lib.hid (HD.out.below hb2)
  have HXw := Lib.hid (HX.out.below hb2)
  have HPw := Lib.hid (HP.out.below hb2 HP.out.lt)
  have Hb2 := Lib.hid (nu_trans Hb1.out hb2)
  have Hc02 := Lib.hid (cell_below hb2 Hc0.out)
  have Hc22 := Lib.hid (cell_below hb2 Hc2.out)
  clear hb2 HD HX HP Hb1 Hc0 Hc2 c0 c1 c2 c4 cP0 cP1 hdr HWt HCo HUp HBl
  generalize w1.drew = w2 at *
  go_wp2_with fail
  go_loopw [3] (fun iv wx => ∃ k : Nat, k ≤ n ∧ iv = .int .i64 k ∧ Below w2.heap.size w2 wx) (fun iv _ => n - (intOf iv).toNat)
  case atStart => exact ⟨0, by omega, rfl, nu_refl w2⟩
  case round =>
    obtain ⟨k, hk, rfl, hb⟩ := hrel
    have cP0 : wr.cell? ⟨P, 0, none⟩ = some (.pointer (some ⟨d, 0, none⟩)) := (HPw.out.below hb HPw.out.lt).at 0 _ rfl
    have cP1 : wr.cell? ⟨P, 1, none⟩ = some (.pointer (some ⟨x, 0, none⟩)) := (HPw.out.below hb HPw.out.lt).at 1 _ rfl
    have c0 := cell_below hb Hc02.out
    have c2 := cell_below hb Hc22.out
    have Hb := Lib.hid hb
    by_cases hlt : k < n
    · have hki : (k : Int) < (n : Int) := by omega
      cases off with
      | true =>
        have HE := Lib.hid (nu_trans Hb2.out hb)
        clear hb
        go_wp2_with fail
        go_ret
        exact ⟨rfl, HE.out⟩
      | false =>
        obtain ⟨D, hD⟩ : ∃ D, D = s.now k := ⟨_, rfl⟩
        have hks : k < s.st.length := by rw [← Hn.out]; exact hlt
        have HDb := Lib.hid (show Bl D by rw [hD]; exact HDw.out.1.now hks)
        have HRd := Lib.hid (show Calls Try.prog 15 #[.pointer (some ⟨d, 0, none⟩), .int .i64 (k : Int)] wr fun e w' => ∃ G, e = .returned (.tuple #[.slice (some ⟨G, 0, none⟩) 256 256, .int .i64 0]) ∧ wr.heap.size ≤ G ∧ Blk w' G 73 (D.map vb).toArray ∧ Below wr.heap.size wr w' from by
          rw [hD]
          exact readD_good (HDw.out.below hb) k hks Hoff.out.symm Hwl.out)
        have HNw := Lib.hid (show ∀ u, Below wr.heap.size wr u → Calls Try.prog 53 #[.pointer (some ⟨x, 0, none⟩), .int .i64 (k : Int)] u fun e w' => ∃ C cc, e = .returned (.slice (some ⟨C, 0, none⟩) 256 cc) ∧ OwnB w' u.heap.size 5 (.slice (some ⟨C, 0, none⟩) 256 cc) D ∧ Below u.heap.size u w' from fun u hu => xNow_any (HXw.out.below (nu_trans hb hu)) k hks D hD.symm Hwl.out)
        clear hb hD hks
        go_wp2_with fail
        refine HRd.out.mono ?_
        rintro e w3 ⟨G, rfl, _, hB, hb3⟩
        have HB := Lib.hid hB
        have Hb3 := Lib.hid hb3
        clear cP0
        have cP1 := cell_below hb3 cP1
        clear hB hb3 HRd c0 c2
        go_wp2_with fail
        refine (HNw.out w3 Hb3.out).mono ?_
        rintro e w4 ⟨C, cc, rfl, hO, hb4⟩
        have HO4 := Lib.hid hO
        have HB4 := Lib.hid (HB.out.below hb4 HB.out.lt)
        have Hb4 := Lib.hid (nu_trans Hb3.out hb4)
        clear hO hb4 HB Hb3 HNw cP1
        go_wp2_with fail
        refine (same_is (xs := D) (ys := D) true (decide_eq_true rfl) (bytes_256 HB4.out HDb.out).1 (ownB_bytes HO4.out HDb.out.1).1 (by omega) (by omega)).mono ?_
        rintro e w5 ⟨rfl, nn, rfl⟩
        have Hb5 := Lib.hid (nu_trans Hb.out (nu_trans Hb4.out (nu_drewN (nu_refl w4) nn)))
        clear HB4 HO4 Hb4 HDb Hb
        generalize w4.drewN nn = w5 at *
        go_wp2_with fail
        go_roundw
        case rel => first | exact ⟨k + 1, by omega, by go_num, Hb5.out⟩ | ((repeat apply Exists.intro); exact ⟨⟨k + 1, by omega, by go_num, Hb5.out⟩, rfl⟩)
        case measure => simp [intOf]; omega
    · obtain rfl : k = n := by omega
      have hki : ¬ (k : Int) < (k : Int) := by omega
      have HE := Lib.hid (nu_trans Hb2.out hb)
      clear hb Hb
      go_wp2_with fail
      go_ret
      exact ⟨rfl, HE.out⟩
end
end Go.Proofs.Ytjmghpoknlffiaa

namespace Go.Proofs.Ytjmghpoknlffiaa
open Go.ChangeShapes Go.WideShapes Go.ChangeAt Go.RowKit
set_option linter.unusedSimpArgs false

theorem WrRow.zero {w : World} {base : Nat} {v : Value} {wr : List (Nat × List Nat)} {ws : List Value} (h : WrRow w base v wr ws) : WrRow w 0 v wr ws := ⟨own_zero h.1, h.2.1, fun i u p h1 h2 => own_mono (h.2.2 i u p h1 h2) (Nat.zero_le _)⟩
set_option maxRecDepth 100000 in
set_option maxHeartbeats 8000000 in
theorem sameW_any {w : World} {v1 v2 : Value} {l : List (Nat × List Nat)} {ws1 ws2 : List Value} (h1 : WrRow w 0 v1 l ws1) (h2 : WrRow w 0 v2 l ws2) (hb : ∀ p ∈ l, Bl p.2) (hl : l.length ≤ 1000000000) :
    Calls Try.prog 32 #[v1, v2] w fun e w' => e = .returned (.bool true) ∧ Below w.heap.size w w' := by
  obtain ⟨a1, c1, rfl⟩ := own_len h1.1
  obtain ⟨a2, c2, rfl⟩ := own_len h2.1
  obtain ⟨m, hm⟩ : ∃ m, m = l.length := ⟨_, rfl⟩
  have Hm := Lib.hid hm
  rw [← hm] at h1 h2 hl
  rw [← hm]
  have H1 := Lib.hid h1
  have H2 := Lib.hid h2
  have Hbl := Lib.hid hb
  clear h1 h2 hb hm
  go_enter Try.func32, Try.ntmps32
  go_wp2_with fail
  go_loopw [5] (fun iv wx => ∃ k : Nat, k ≤ m ∧ iv = .int .i64 k ∧ Below w.heap.size w wx) (fun iv _ => m - (intOf iv).toNat)
  case atStart => exact ⟨0, by omega, rfl, nu_refl w⟩
  case round =>
    obtain ⟨k, hk, rfl, hb⟩ := hrel
    by_cases hlt : k < m
    · have hki : (k : Int) < (m : Int) := by omega
      obtain ⟨p, hp⟩ : ∃ p, l[k]? = some p := ⟨_, List.getElem?_eq_getElem (by rw [← Hm.out]; exact hlt)⟩
      have hpb := Hbl.out p (List.mem_of_getElem? hp)
      obtain ⟨g1, cap1, e1, hs1⟩ := (H1.out.below hb).slot (by rw [← Hm.out]; omega) Hbl.out
      rw [← Hm.out] at e1
      injection e1 with e1 _ e3
      subst e1
      obtain ⟨C1, d1, k1, k3, hO1, _⟩ := hs1 k p hp
      obtain ⟨g2, cap2, e1, hs2⟩ := (H2.out.below hb).slot (by rw [← Hm.out]; omega) Hbl.out
      rw [← Hm.out] at e1
      injection e1 with e1 _ e4
      subst e1
      clear e3 e4
      obtain ⟨C2, d2, k2, k4, hO2, _⟩ := hs2 k p hp
      have k1 := Lib.hid k1
      have k2 := Lib.hid k2
      have k3 := Lib.hid k3
      have k4 := Lib.hid k4
      have HSm := Lib.hid (show ∀ u, Below wr.heap.size wr u → Calls Try.prog 19 #[.slice (some ⟨C1, 0, none⟩) 256 d1, .slice (some ⟨C2, 0, none⟩) 256 d2] u fun e w' => e = .returned (.bool true) ∧ ∃ n, w' = u.drewN n from fun u hu => same_is true (decide_eq_true rfl) (ownB_bytes (ownB_under hO1 hu) hpb.1).1 (ownB_bytes (ownB_under hO2 hu) hpb.1).1 (by omega) (by omega))
      have Hb := Lib.hid hb
      clear hp hpb hs1 hs2 hO1 hO2 hb
      go_upto_region 6 with fail
      refine wp_region_held_drew (S := fun w' => Below wr.heap.size wr w') (by kernel_rfl) (nu_drew (nu_refl _)) (fun hHeld => ?_)
      dsimp only [Array.replicate, List.replicate, List.size_toArray, List.length_cons, List.length_nil, Nat.reduceAdd] at hHeld ⊢
      have Hb0 := Lib.hid (nu_drew (nu_refl wr))
      generalize wr.drew = u0 at *
      refine take_l (i := 0) (v := ?_) rfl (by kernel_rfl) (by kernel_rfl) (by kernel_rfl) (fun _ _ _ h => h) (Or.inl ⟨by rfl, ?_⟩) (by assumption) ?_
      case refine_2 => (intro _ _; go_simp; all_goals with_reducible rfl)
      simp only [Act.put, List.setIfInBounds_toArray, List.set_cons_zero, List.set_cons_succ]
      refine take_l (i := 1) (v := ?_) rfl (by kernel_rfl) (by kernel_rfl) (by kernel_rfl) (fun _ _ _ h => h) (Or.inl ⟨by rfl, ?_⟩) (by assumption) ?_
      case refine_2 => (intro _ _; go_simp; all_goals with_reducible rfl)
      simp only [Act.put, List.setIfInBounds_toArray, List.set_cons_zero, List.set_cons_succ]
      refine take_l (i := 2) (v := ?_) rfl (by kernel_rfl) (by kernel_rfl) (by kernel_rfl) (fun _ _ _ h => h) (Or.inl ⟨by rfl, ?_⟩) (by assumption) ?_
      case refine_2 => (intro _ _; go_simp; all_goals with_reducible rfl)
      simp only [Act.put, List.setIfInBounds_toArray, List.set_cons_zero, List.set_cons_succ]
      refine take_l (i := 3) (v := ?_) rfl (by kernel_rfl) (by kernel_rfl) (by kernel_rfl) (fun _ _ _ h => h) (Or.inl ⟨by rfl, ?_⟩) (by assumption) ?_
      case refine_2 => (intro _ _; go_simp; all_goals with_reducible rfl)
      simp only [Act.put, List.setIfInBounds_toArray, List.set_cons_zero, List.set_cons_succ]
      refine take_l (i := 4) rfl (by kernel_rfl) (by kernel_rfl) (by kernel_rfl) (fun _ _ _ h => h) (Or.inl ⟨by rfl, fun W hS => e_int (cell_below hS k1.out) (.tmp 20) rfl rfl⟩) (by assumption) ?_
      simp only [Act.put, List.setIfInBounds_toArray, List.set_cons_zero, List.set_cons_succ]
      refine take_l (i := 5) (v := ?_) rfl (by kernel_rfl) (by kernel_rfl) (by kernel_rfl) (fun _ _ _ h => h) (Or.inl ⟨by rfl, ?_⟩) (by assumption) ?_
      case refine_2 => (intro _ _; go_simp; all_goals with_reducible rfl)
      simp only [Act.put, List.setIfInBounds_toArray, List.set_cons_zero, List.set_cons_succ]
      refine take_l (i := 6) (v := ?_) rfl (by kernel_rfl) (by kernel_rfl) (by kernel_rfl) (fun _ _ _ h => h) (Or.inl ⟨by rfl, ?_⟩) (by assumption) ?_
      case refine_2 => (intro _ _; go_simp; all_goals with_reducible rfl)
      simp only [Act.put, List.setIfInBounds_toArray, List.set_cons_zero, List.set_cons_succ]
      refine take_l (i := 7) (v := ?_) rfl (by kernel_rfl) (by kernel_rfl) (by kernel_rfl) (fun _ _ _ h => h) (Or.inl ⟨by rfl, ?_⟩) (by assumption) ?_
      case refine_2 => (intro _ _; go_simp; all_goals with_reducible rfl)
      simp only [Act.put, List.setIfInBounds_toArray, List.set_cons_zero, List.set_cons_succ]
      refine take_l (i := 8) (v := ?_) rfl (by kernel_rfl) (by kernel_rfl) (by kernel_rfl) (fun _ _ _ h => h) (Or.inl ⟨by rfl, ?_⟩) (by assumption) ?_
      case refine_2 => (intro _ _; go_simp; all_goals with_reducible rfl)
      simp only [Act.put, List.setIfInBounds_toArray, List.set_cons_zero, List.set_cons_succ]
      refine take_l (i := 9) rfl (by kernel_rfl) (by kernel_rfl) (by kernel_rfl) (fun _ _ _ h => h) (Or.inl ⟨by rfl, fun W hS => e_int (cell_below hS k2.out) (.tmp 25) rfl rfl⟩) (by assumption) ?_
      simp only [Act.put, List.setIfInBounds_toArray, List.set_cons_zero, List.set_cons_succ]
      refine take_l (i := 10) (v := ?_) rfl (by kernel_rfl) (by kernel_rfl) (by kernel_rfl) (fun _ _ _ h => h) (Or.inl ⟨by rfl, ?_⟩) (by assumption) ?_
      case refine_2 => (intro _ _; go_simp; all_goals with_reducible rfl)
      simp only [Act.put, List.setIfInBounds_toArray, List.set_cons_zero, List.set_cons_succ]
      refine take_l (i := 11) (v := ?_) rfl (by kernel_rfl) (by kernel_rfl) (by kernel_rfl) (fun _ _ _ h => h) (Or.inl ⟨by rfl, ?_⟩) (by assumption) ?_
      case refine_2 => (intro _ _; go_simp; all_goals with_reducible rfl)
      simp only [Act.put, List.setIfInBounds_toArray, List.set_cons_zero, List.set_cons_succ]
      refine take_l (i := 12) (v := ?_) rfl (by kernel_rfl) (by kernel_rfl) (by kernel_rfl) (fun _ _ _ h => h) (Or.inl ⟨by rfl, ?_⟩) (by assumption) ?_
      case refine_2 => (intro _ _; go_simp; all_goals with_reducible rfl)
      simp only [Act.put, List.setIfInBounds_toArray, List.set_cons_zero, List.set_cons_succ]
      refine take_l (i := 13) (v := ?_) rfl (by kernel_rfl) (by kernel_rfl) (by kernel_rfl) (fun _ _ _ h => h) (Or.inl ⟨by rfl, ?_⟩) (by assumption) ?_
      case refine_2 => (intro _ _; go_simp; all_goals with_reducible rfl)
      simp only [Act.put, List.setIfInBounds_toArray, List.set_cons_zero, List.set_cons_succ]
      refine take_l (i := 14) (v := ?_) rfl (by kernel_rfl) (by kernel_rfl) (by kernel_rfl) (fun _ _ _ h => h) (Or.inl ⟨by rfl, ?_⟩) (by assumption) ?_
      case refine_2 => (intro _ _; go_simp; all_goals with_reducible rfl)
      simp only [Act.put, List.setIfInBounds_toArray, List.set_cons_zero, List.set_cons_succ]
      refine take_l (i := 15) (v := ?_) rfl (by kernel_rfl) (by kernel_rfl) (by kernel_rfl) (fun _ _ _ h => h) (Or.inl ⟨by rfl, ?_⟩) (by assumption) ?_
      case refine_2 => (intro _ _; go_simp; all_goals with_reducible rfl)
      simp only [Act.put, List.setIfInBounds_toArray, List.set_cons_zero, List.set_cons_succ]
      refine take_l (i := 16) rfl (by kernel_rfl) (by kernel_rfl) (by kernel_rfl) (fun _ _ _ h => h) (Or.inl ⟨by rfl, fun W hS => e_sl22 (cell_below hS k3.out) (.tmp 32) rfl rfl⟩) (by assumption) ?_
      simp only [Act.put, List.setIfInBounds_toArray, List.set_cons_zero, List.set_cons_succ]
      refine take_l (i := 17) (v := ?_) rfl (by kernel_rfl) (by kernel_rfl) (by kernel_rfl) (fun _ _ _ h => h) (Or.inl ⟨by rfl, ?_⟩) (by assumption) ?_
      case refine_2 => (intro _ _; go_simp; all_goals with_reducible rfl)
      simp only [Act.put, List.setIfInBounds_toArray, List.set_cons_zero, List.set_cons_succ]
      refine take_l (i := 18) (v := ?_) rfl (by kernel_rfl) (by kernel_rfl) (by kernel_rfl) (fun _ _ _ h => h) (Or.inl ⟨by rfl, ?_⟩) (by assumption) ?_
      case refine_2 => (intro _ _; go_simp; all_goals with_reducible rfl)
      simp only [Act.put, List.setIfInBounds_toArray, List.set_cons_zero, List.set_cons_succ]
      refine take_l (i := 19) (v := ?_) rfl (by kernel_rfl) (by kernel_rfl) (by kernel_rfl) (fun _ _ _ h => h) (Or.inl ⟨by rfl, ?_⟩) (by assumption) ?_
      case refine_2 => (intro _ _; go_simp; all_goals with_reducible rfl)
      simp only [Act.put, List.setIfInBounds_toArray, List.set_cons_zero, List.set_cons_succ]
      refine take_l (i := 20) (v := ?_) rfl (by kernel_rfl) (by kernel_rfl) (by kernel_rfl) (fun _ _ _ h => h) (Or.inl ⟨by rfl, ?_⟩) (by assumption) ?_
      case refine_2 => (intro _ _; go_simp; all_goals with_reducible rfl)
      simp only [Act.put, List.setIfInBounds_toArray, List.set_cons_zero, List.set_cons_succ]
      refine take_l (i := 21) rfl (by kernel_rfl) (by kernel_rfl) (by kernel_rfl) (fun _ _ _ h => h) (Or.inl ⟨by rfl, fun W hS => e_sl22 (cell_below hS k4.out) (.tmp 37) rfl rfl⟩) (by assumption) ?_
      simp only [Act.put, List.setIfInBounds_toArray, List.set_cons_zero, List.set_cons_succ]
      clear hHeld
      refine wpAnyH_ready (rs := [22]) (by kernel_rfl) (by simp) ?_
      refine cons_l rfl (fun K hK => ?_) AllReadyH.nil
      go_simp
      go_at_call 19
      refine (HSm.out u0 Hb0.out).mono ?_
      rintro e u1 ⟨rfl, nn, rfl⟩
      have Hb1 := Lib.hid (nu_trans Hb0.out (nu_drewN (nu_refl u0) nn))
      clear Hb0
      generalize u0.drewN nn = u1 at *
      go_wp2_with fail
      refine hK.out _ _ Hb1.out (fun hHeld => ?_)
      clear hK K
      simp only [Act.put, List.setIfInBounds_toArray, List.set_cons_zero, List.set_cons_succ]
      refine take_l (i := 23) (v := ?_) rfl (by kernel_rfl) (by kernel_rfl) (by kernel_rfl) (fun _ _ _ h => h) (Or.inl ⟨by rfl, ?_⟩) (by assumption) ?_
      case refine_2 => (intro _ _; go_simp; all_goals with_reducible rfl)
      simp only [Act.put, List.setIfInBounds_toArray, List.set_cons_zero, List.set_cons_succ]
      refine take_l (i := 24) (v := ?_) rfl (by kernel_rfl) (by kernel_rfl) (by kernel_rfl) (fun _ _ _ h => h) (Or.inl ⟨by rfl, ?_⟩) (by assumption) ?_
      case refine_2 => (intro _ _; go_simp; all_goals with_reducible rfl)
      simp only [Act.put, List.setIfInBounds_toArray, List.set_cons_zero, List.set_cons_succ]
      refine wpAnyH_done (by kernel_rfl) ?_ _
      clear hHeld
      have Hbe := Lib.hid (nu_trans Hb.out Hb1.out)
      clear Hb1
      go_wp2_with fail
      go_roundw
      case rel => first | exact ⟨k + 1, by omega, by go_num, Hbe.out⟩ | ((repeat apply Exists.intro); exact ⟨⟨k + 1, by omega, by go_num, Hbe.out⟩, rfl⟩)
      case measure => simp [intOf]; omega
    · obtain rfl : k = m := by omega
      have hki : ¬ (k : Int) < (k : Int) := by omega
      have Hb := Lib.hid hb
      clear hb
      go_wp2_with fail
      go_ret
      exact ⟨rfl, Hb.out⟩
end Go.Proofs.Ytjmghpoknlffiaa

namespace Go.Proofs.Ytjmghpoknlffiaa
open Go.ChangeShapes Go.WideShapes Go.ChangeAt Go.RowKit
set_option linter.unusedSimpArgs false

theorem below_mods {B : Nat} {w0 wB u : World} {U : Nat → Prop} (hb : Below B w0 wB) (hm : Mods U wB u) (hB : B ≤ wB.heap.size) (hU : ∀ k, U k → B ≤ k) : Below B w0 u :=
  ⟨hm.os.trans hb.os, hm.tape.trans hb.tape, hm.output.trans hb.output, Nat.le_trans hb.size hm.size, fun k hk => (hm.block k (Nat.lt_of_lt_of_le hk hB) (fun hu => by have := hU k hu; omega)).trans (hb.block k hk)⟩
theorem nu_trans0 {w0 a b : World} (h : Below w0.heap.size w0 a) (h' : Below a.heap.size a b) : Below w0.heap.size w0 b := nu_trans h h'
theorem e_pair {o : Oper} {a : Act} {w : World} {g d x : Nat} (hB : Blk w g 45 #[.pointer (some ⟨d, 0, none⟩), .pointer (some ⟨x, 0, none⟩)]) (y : Operand) (ho : o.op = .load 45 y) (hx : a.eval y = .pointer (some ⟨g, 0, none⟩)) :
    (execOp a.eval o).run Try.prog w = .ok (.value (.agg #[.pointer (some ⟨d, 0, none⟩), .pointer (some ⟨x, 0, none⟩)])) w := by
  have c0 : w.cell? ⟨g, 0, none⟩ = some (.pointer (some ⟨d, 0, none⟩)) := hB.at 0 _ rfl
  have c1 : w.cell? ⟨g, 1, none⟩ = some (.pointer (some ⟨x, 0, none⟩)) := hB.at 1 _ rfl
  unfold execOp
  simp only [ho, hx]
  go_simp
theorem e_act {o : Oper} {a : Act} {w : World} {g k : Nat} {kd av bv : Int} {da fa : Option Addr} {dl dc fl fc : Nat} (hB : w.rangeAt g k [.int .i64 kd, .int .i64 av, .int .i64 bv, .slice da dl dc, .slice fa fl fc]) (y : Operand) (ho : o.op = .load 49 y) (hx : a.eval y = .pointer (some ⟨g, k, none⟩)) :
    (execOp a.eval o).run Try.prog w = .ok (.value (.agg #[.int .i64 kd, .int .i64 av, .int .i64 bv, .slice da dl dc, .slice fa fl fc])) w := by
  have c0 : w.cell? ⟨g, k, none⟩ = some (.int .i64 kd) := hB 0 _ rfl
  have c1 : w.cell? ⟨g, k + 1, none⟩ = some (.int .i64 av) := hB 1 _ rfl
  have c2 : w.cell? ⟨g, k + 2, none⟩ = some (.int .i64 bv) := hB 2 _ rfl
  have c3 : w.cell? ⟨g, k + 3, none⟩ = some (.slice da dl dc) := hB 3 _ rfl
  have c4 : w.cell? ⟨g, k + 4, none⟩ = some (.slice fa fl fc) := hB 4 _ rfl
  unfold execOp
  simp only [ho, hx]
  go_simp
theorem ActAt.range {w u : World} {b off : Nat} {kd av bv : Int} {da fa : Option Addr} {dl dc fl fc : Nat} {ys : List Nat} {fs : List Int} (h : ActAt w b off kd av bv da dl dc fa fl fc ys fs) (hb : Below w.heap.size w u) : u.rangeAt b off [.int .i64 kd, .int .i64 av, .int .i64 bv, .slice da dl dc, .slice fa fl fc] := fun j v hv => by
  have hj : j < 5 := (List.getElem?_eq_some_iff.1 hv).1
  rcases (show j = 0 ∨ j = 1 ∨ j = 2 ∨ j = 3 ∨ j = 4 by omega) with rfl | rfl | rfl | rfl | rfl
  · injection hv with hv; subst hv; exact cell_below hb h.c0
  · injection hv with hv; subst hv; exact cell_below hb h.c1
  · injection hv with hv; subst hv; exact cell_below hb h.c2
  · injection hv with hv; subst hv; exact cell_below hb h.c3
  · injection hv with hv; subst hv; exact cell_below hb h.c4
section
variable {w0 wB u : World} {d x : Nat} {s : Dv} {U : Nat → Prop}
theorem do_step (HU : ∀ k, U k → w0.heap.size ≤ k) (hB0 : Below w0.heap.size w0 wB) (N : PairTo U wB u d x s s) {b off : Nat} {kd av bv : Int} {da fa : Option Addr} {dl dc fl fc : Nat} {ys : List Nat} {fs : List Int} (hA : ActAt w0 b off kd av bv da dl dc fa fl fc ys fs) (hd : dl ≤ 1000) (hf : fl ≤ 1000) (hwl : s.wa.length ≤ 1000) (hrl : s.wr.length ≤ 1000) :
    Calls Try.prog 26 #[.agg #[.pointer (some ⟨d, 0, none⟩), .pointer (some ⟨x, 0, none⟩)], .agg #[.int .i64 kd, .int .i64 av, .int .i64 bv, .slice da dl dc, .slice fa fl fc]] u fun e w' => e = .returned (.bool true) ∧ ∃ s', Step s s' ∧ PairTo U wB w' d x s' s' := by
  have hb : Below w0.heap.size w0 u := below_mods hB0 N.2 hB0.size HU
  have hG : ∀ k, Grown U wB u k → w0.heap.size ≤ k := fun k hk => hk.elim (HU k) (fun h => Nat.le_trans hB0.size h.1)
  refine (do_all N.1 hA.k0 hA.k1 hA.k2 ys (hA.ys.keep hb) (bytes_far hA.ys hb.size hG) fs (hA.fs.below hb) (nums_far hA.fs hb.size hG) hd hf hwl hrl).mono ?_
  rintro e w' ⟨h1, s', h2, h3⟩
  exact ⟨h1, s', h2, N.trans h3⟩
end
set_option maxRecDepth 100000 in
set_option maxHeartbeats 8000000 in
theorem devPlays_walk (nb : Int) (hnb : -9223372036854775808 ≤ nb ∧ nb ≤ 9223372036854775807) (a : Option Addr) (len cap : Nat) (w : World) (h : Acts5 w a len) (hlen : len ≤ 9223372036854775807) :
    Calls Try.prog 7 #[.int .i64 nb, .slice a len cap] w fun e w' => e = .returned (.bool true) ∧ Below w.heap.size w w' := by
  have HAs := Lib.hid h
  have HGr := Lib.hid (great_any a len cap hlen w h)
  obtain ⟨q, hq⟩ : ∃ q : Nat, (q : Int) = nb % 20 := ⟨(nb % 20).toNat, Int.toNat_of_nonneg (Int.emod_nonneg _ (by omega))⟩
  have HPk := Lib.hid (show ∀ u, Calls Try.prog 18 #[.int .i64 nb, .int .i64 20] u fun e w' => e = .returned (.int .i64 (q : Int)) ∧ u = w' from fun u => pick_any nb 20 q u hq (by omega) (by omega) hnb.1 hnb.2)
  have hq20 : q < 20 := by omega
  obtain ⟨n, hn⟩ : ∃ n, n = 1 + q := ⟨_, rfl⟩
  have en : (1 : Int) + (q : Int) = (n : Int) := by omega
  have wn : IntKind.i64.wrap (n : Int) = (n : Int) := by rw [IntKind.wrap_i64]; omega
  have HBg := Lib.hid (fun u => begun_any n (by omega) (by omega) u)
  clear h hnb hq hn hq20
  go_enter Try.func7, Try.ntmps7
  go_wp2_with fail
  refine HGr.out.mono ?_
  rintro e w1 ⟨v, rfl, rfl, hsm⟩
  have Hsm := Lib.hid hsm
  clear hsm HGr
  cases v with
  | true =>
    go_wp2_with fail
    refine (awake10 w).mono ?_
    rintro e w2 ⟨rfl, hb⟩
    have Hb := Lib.hid hb
    clear hb
    go_wp2_with fail
    go_ret
    exact ⟨rfl, Hb.out⟩
  | false =>
    have HS := Lib.hid (Hsm.out rfl)
    clear Hsm
    go_wp2_with fail
    refine (HPk.out w).mono ?_
    rintro e w1 ⟨rfl, rfl⟩
    go_wp2_with fail
    refine (HBg.out w).mono ?_
    rintro e w2 ⟨d, x, rfl, U, hP, hU, hb2⟩
    have hal := nu_alloc (nu_refl w2) (.cells #[.pointer none, .pointer none] 45)
    have HBm := Lib.hid (Blk.made w2 45 #[.pointer none, .pointer none])
    have HBf := Lib.hid (Blk.fill HBm.out [.pointer (some ⟨d, 0, none⟩), .pointer (some ⟨x, 0, none⟩)] rfl)
    have hfl := nu_fill (a := w2) [.pointer (some ⟨d, 0, none⟩), .pointer (some ⟨x, 0, none⟩)] (g := w2.heap.size) (Nat.le_refl _) 0 _ hal
    have HP3 := Lib.hid (hP.below hfl)
    have HwB := Lib.hid (nu_trans hb2 hfl)
    have HU := Lib.hid hU
    have HBn := Lib.hid (show ¬ U w2.heap.size from fun hu => Nat.lt_irrefl _ (hP.lt _ hu))
    clear hal hfl hP hU hb2 HPk HBg
    go_upto_region 4 with (refine wpList_store_in rfl 45 (.tmp 5) (.tmp 13) rfl w2.heap.size 0 [.pointer (some ⟨d, 0, none⟩), .pointer (some ⟨x, 0, none⟩)] rfl rfl 45 _ HBm.out (by simp) (by kernel_rfl) (fun u hu => by simp only [List.mem_cons, List.not_mem_nil, or_false] at hu; rcases hu with rfl | rfl <;> rfl) ?_)
    change Code.wp _ _ _ _ ((w2.alloc (.cells #[.pointer none, .pointer none] 45)).setCells w2.heap.size 0 [.pointer (some ⟨d, 0, none⟩), .pointer (some ⟨x, 0, none⟩)])
    clear HBm
    generalize (w2.alloc (.cells #[.pointer none, .pointer none] 45)).setCells w2.heap.size 0 [.pointer (some ⟨d, 0, none⟩), .pointer (some ⟨x, 0, none⟩)] = wB at *
    obtain ⟨B, hB⟩ : ∃ B, B = w2.heap.size := ⟨_, rfl⟩
    rw [← hB] at HBf HBn
    rw [← hB]
    clear hB
    have HB := Lib.hid (show Blk wB B 45 #[.pointer (some ⟨d, 0, none⟩), .pointer (some ⟨x, 0, none⟩)] from HBf.out)
    clear HBf
    go_wp2_with fail
    go_loopw [6] (fun iv wx => ∃ (k : Nat) (s : Dv), k ≤ len ∧ k ≤ 200 ∧ iv = .int .i64 k ∧ PairTo U wB wx d x s s ∧ s.wa.length ≤ k ∧ s.wr.length ≤ k) (fun iv _ => len - (intOf iv).toNat)
    case atStart => exact ⟨0, _, by omega, by omega, rfl, PairTo.refl HP3.out, Nat.le_refl _, Nat.le_refl _⟩
    case round =>
      clear HP3
      obtain ⟨k, s, hk, hk2, rfl, hN, hcs⟩ := hrel
      have HN := Lib.hid hN
      have Hcs := Lib.hid hcs
      have HBk := Lib.hid (blk_mods HB.out hN.2 HBn.out)
      have Hbw := Lib.hid (below_mods HwB.out hN.2 HwB.out.size HU.out)
      clear hN hcs
      by_cases hmore : k < len ∧ k < 200
      · obtain ⟨hlt, hl2⟩ := hmore
        have hki : (k : Int) < (len : Int) := by omega
        have hki2 : (k : Int) < 200 := by omega
        obtain ⟨b0, off, rfl, hbl, hc⟩ := HAs.out (by omega)
        obtain ⟨kd, av, bv, da, dl, dc, fa, fl, fc, ys, fs, hA⟩ := hc k hlt
        have HA := Lib.hid hA
        obtain ⟨hd, hf⟩ := HS.out b0 off rfl k hlt hl2 da dl dc fa fl fc hA.c3 hA.c4
        have Hd := Lib.hid hd
        have Hf := Lib.hid hf
        have HAr := Lib.hid (show ∀ u, Below wr.heap.size wr u → u.rangeAt b0 (off + k * 5) [.int .i64 kd, .int .i64 av, .int .i64 bv, .slice da dl dc, .slice fa fl fc] from fun u hu => hA.range (nu_trans0 Hbw.out hu))
        have HAw := Lib.hid (show ∀ u, Mods U wB u → u.rangeAt b0 (off + k * 5) [.int .i64 kd, .int .i64 av, .int .i64 bv, .slice da dl dc, .slice fa fl fc] from fun u hu => hA.range (below_mods HwB.out hu HwB.out.size HU.out))
        clear hc hA hd hf
        go_upto_region 7 with fail
        refine wp_region_held_drew (S := fun W => Blk W B 45 #[.pointer (some ⟨d, 0, none⟩), .pointer (some ⟨x, 0, none⟩)] ∧ W.rangeAt b0 (off + k * 5) [.int .i64 kd, .int .i64 av, .int .i64 bv, .slice da dl dc, .slice fa fl fc]) (by kernel_rfl) (⟨HBk.out.drew, HAr.out _ (nu_drew (nu_refl wr))⟩) (fun hHeld => ?_)
        dsimp only [Array.replicate, List.replicate, List.size_toArray, List.length_cons, List.length_nil, Nat.reduceAdd] at hHeld ⊢
        have HN0 := Lib.hid (HN.out.then_below (nu_drew (nu_refl wr)))
        have Hb0 := Lib.hid (nu_drew (nu_refl wr))
        clear HN
        generalize wr.drew = u0 at *
        refine take_l (i := 0) rfl (by kernel_rfl) (by kernel_rfl) (by kernel_rfl) (fun _ _ _ h => h) (Or.inl ⟨by rfl, fun W hS => e_pair hS.1 (.tmp 5) rfl rfl⟩) (by assumption) ?_
        simp only [Act.put, List.setIfInBounds_toArray, List.set_cons_zero, List.set_cons_succ]
        refine take_l (i := 1) (v := ?_) rfl (by kernel_rfl) (by kernel_rfl) (by kernel_rfl) (fun _ _ _ h => h) (Or.inl ⟨by rfl, ?_⟩) (by assumption) ?_
        case refine_2 => (intro _ _; go_simp; all_goals with_reducible rfl)
        simp only [Act.put, List.setIfInBounds_toArray, List.set_cons_zero, List.set_cons_succ]
        refine take_l (i := 2) (v := ?_) rfl (by kernel_rfl) (by kernel_rfl) (by kernel_rfl) (fun _ _ _ h => h) (Or.inl ⟨by rfl, ?_⟩) (by assumption) ?_
        case refine_2 => (intro _ _; go_simp; all_goals with_reducible rfl)
        simp only [Act.put, List.setIfInBounds_toArray, List.set_cons_zero, List.set_cons_succ]
        refine take_l (i := 3) (v := ?_) rfl (by kernel_rfl) (by kernel_rfl) (by kernel_rfl) (fun _ _ _ h => h) (Or.inl ⟨by rfl, ?_⟩) (by assumption) ?_
        case refine_2 => (intro _ _; go_simp; all_goals with_reducible rfl)
        simp only [Act.put, List.setIfInBounds_toArray, List.set_cons_zero, List.set_cons_succ]
        refine take_l (i := 4) rfl (by kernel_rfl) (by kernel_rfl) (by kernel_rfl) (fun _ _ _ h => h) (Or.inl ⟨by rfl, fun W hS => e_act hS.2 (.tmp 27) rfl rfl⟩) (by assumption) ?_
        simp only [Act.put, List.setIfInBounds_toArray, List.set_cons_zero, List.set_cons_succ]
        clear hHeld
        refine wpAnyH_ready (rs := [5]) (by kernel_rfl) (by simp) ?_
        refine cons_l rfl (fun K hK => ?_) AllReadyH.nil
        go_simp
        go_at_call 26
        refine (do_step HU.out HwB.out HN0.out HA.out Hd.out Hf.out (by have := Hcs.out; omega) (by have := Hcs.out; omega)).mono ?_
        rintro e u1 ⟨rfl, s1, hst, hn⟩
        have HN1 := Lib.hid hn
        have Hcs1 := Lib.hid (show s1.wa.length ≤ k + 1 ∧ s1.wr.length ≤ k + 1 from by have h1 := hst.2.1; have h2 := hst.2.2.1; have h3 := Hcs.out; omega)
        have hbk1 := blk_mods HB.out hn.2 HBn.out
        have HBk1 := Lib.hid hbk1
        have HAr1 := Lib.hid (HAw.out _ hn.2)
        clear hst hn hbk1 HN0
        go_wp2_with fail
        refine hK.out _ _ ⟨HBk1.out, HAr1.out⟩ (fun hHeld => ?_)
        clear hK K
        simp only [Act.put, List.setIfInBounds_toArray, List.set_cons_zero, List.set_cons_succ]
        refine take_l (i := 6) (v := ?_) rfl (by kernel_rfl) (by kernel_rfl) (by kernel_rfl) (fun _ _ _ h => h) (Or.inl ⟨by rfl, ?_⟩) (by assumption) ?_
        case refine_2 => (intro _ _; go_simp; all_goals with_reducible rfl)
        simp only [Act.put, List.setIfInBounds_toArray, List.set_cons_zero, List.set_cons_succ]
        refine take_l (i := 7) (v := ?_) rfl (by kernel_rfl) (by kernel_rfl) (by kernel_rfl) (fun _ _ _ h => h) (Or.inl ⟨by rfl, ?_⟩) (by assumption) ?_
        case refine_2 => (intro _ _; go_simp; all_goals with_reducible rfl)
        simp only [Act.put, List.setIfInBounds_toArray, List.set_cons_zero, List.set_cons_succ]
        refine take_l (i := 8) rfl (by kernel_rfl) (by kernel_rfl) (by kernel_rfl) (fun _ _ _ h => h) (Or.inl ⟨by rfl, fun W hS => e_pair hS.1 (.tmp 5) rfl rfl⟩) (by assumption) ?_
        simp only [Act.put, List.setIfInBounds_toArray, List.set_cons_zero, List.set_cons_succ]
        clear hHeld
        refine wpAnyH_ready (rs := [9]) (by kernel_rfl) (by simp) ?_
        refine cons_l rfl (fun K hK => ?_) AllReadyH.nil
        go_simp
        go_at_call 31
        refine (alike_any HN1.out.1 (by have := Hcs1.out; omega)).mono ?_
        rintro e u2 ⟨rfl, hb2⟩
        have HN2 := Lib.hid (HN1.out.then_below hb2)
        have HBk2 := Lib.hid (HBk1.out.below hb2 HBk1.out.lt)
        have HAr2 := Lib.hid (HAw.out _ HN2.out.2)
        clear hb2 HN1
        go_wp2_with fail
        refine hK.out _ _ ⟨HBk2.out, HAr2.out⟩ (fun hHeld => ?_)
        clear hK K
        simp only [Act.put, List.setIfInBounds_toArray, List.set_cons_zero, List.set_cons_succ]
        refine take_l (i := 10) (v := ?_) rfl (by kernel_rfl) (by kernel_rfl) (by kernel_rfl) (fun _ _ _ h => h) (Or.inl ⟨by rfl, ?_⟩) (by assumption) ?_
        case refine_2 => (intro _ _; go_simp; all_goals with_reducible rfl)
        simp only [Act.put, List.setIfInBounds_toArray, List.set_cons_zero, List.set_cons_succ]
        refine take_l (i := 11) (v := ?_) rfl (by kernel_rfl) (by kernel_rfl) (by kernel_rfl) (fun _ _ _ h => h) (Or.inl ⟨by rfl, ?_⟩) (by assumption) ?_
        case refine_2 => (intro _ _; go_simp; all_goals with_reducible rfl)
        simp only [Act.put, List.setIfInBounds_toArray, List.set_cons_zero, List.set_cons_succ]
        refine wpAnyH_done (by kernel_rfl) ?_ _
        clear hHeld
        go_wp2_with fail
        go_roundw
        case rel => first | exact ⟨k + 1, s1, by omega, by omega, by go_num, HN2.out, Hcs1.out⟩ | ((repeat apply Exists.intro); exact ⟨⟨k + 1, s1, by omega, by omega, by go_num, HN2.out, Hcs1.out⟩, rfl⟩)
        case measure => simp [intOf]; omega
      · have HM0 := HN.out
        obtain ⟨⟨F, G, hD, hX, _⟩, _⟩ := HM0
        obtain ⟨st, wa, cp, wv, bs, ws, rs, cv, Fz, M⟩ := hX.state
        obtain ⟨xa, xc, rfl⟩ := own_len M.wr.1
        have HD := Lib.hid hD
        have HM := Lib.hid M
        have Hc6 := Lib.hid (RefAt.cells M.dv).2.2.2.2.2.2
        have Hbl := Lib.hid (show ∀ p ∈ s.wr, Bl p.2 from fun p hp => (hD.1.wr p hp).2)
        have Hwr := Lib.hid (show s.wr.length ≤ 1000000000 by have := Hcs.out; omega)
        clear hD hX M HN
        by_cases hlt : k < len
        · have hki : (k : Int) < (len : Int) := by omega
          have hki2 : ¬ (k : Int) < 200 := by omega
          clear hmore
          go_upto_region 9 with fail
          refine wp_region_held_drew (S := fun W => Blk W B 45 #[.pointer (some ⟨d, 0, none⟩), .pointer (some ⟨x, 0, none⟩)] ∧ W.cell? ⟨x, 6, none⟩ = some (.slice xa s.wr.length xc)) (by kernel_rfl) (⟨HBk.out.drew, cell_below (nu_drew (nu_refl wr)) Hc6.out⟩) (fun hHeld => ?_)
          dsimp only [Array.replicate, List.replicate, List.size_toArray, List.length_cons, List.length_nil, Nat.reduceAdd] at hHeld ⊢
          have hdr := nu_drew (nu_refl wr)
          have HDd := Lib.hid (HD.out.below hdr)
          have HMd := Lib.hid (HM.out.below hdr)
          have HBkd := Lib.hid HBk.out.drew
          have Hc6d := Lib.hid (cell_below hdr Hc6.out)
          have Hbd := Lib.hid (nu_trans0 Hbw.out hdr)
          clear hdr HD HM HBk Hc6 Hbw
          generalize wr.drew = u0 at *
          refine take_l (i := 0) (v := ?_) rfl (by kernel_rfl) (by kernel_rfl) (by kernel_rfl) (fun _ _ _ h => h) (Or.inl ⟨by rfl, ?_⟩) (by assumption) ?_
          case refine_2 => (intro _ _; go_simp; all_goals with_reducible rfl)
          simp only [Act.put, List.setIfInBounds_toArray, List.set_cons_zero, List.set_cons_succ]
          refine take_l (i := 1) rfl (by kernel_rfl) (by kernel_rfl) (by kernel_rfl) (fun _ _ _ h => h) (Or.inl ⟨by rfl, fun W hS => e_pd (hS.1.at 0 _ rfl) (.tmp 36) rfl rfl⟩) (by assumption) ?_
          simp only [Act.put, List.setIfInBounds_toArray, List.set_cons_zero, List.set_cons_succ]
          refine take_l (i := 3) (v := ?_) rfl (by kernel_rfl) (by kernel_rfl) (by kernel_rfl) (fun _ _ _ h => h) (Or.inl ⟨by rfl, ?_⟩) (by assumption) ?_
          case refine_2 => (intro _ _; go_simp; all_goals with_reducible rfl)
          simp only [Act.put, List.setIfInBounds_toArray, List.set_cons_zero, List.set_cons_succ]
          refine take_l (i := 4) rfl (by kernel_rfl) (by kernel_rfl) (by kernel_rfl) (fun _ _ _ h => h) (Or.inl ⟨by rfl, fun W hS => e_px (hS.1.at 1 _ rfl) (.tmp 39) rfl rfl⟩) (by assumption) ?_
          simp only [Act.put, List.setIfInBounds_toArray, List.set_cons_zero, List.set_cons_succ]
          refine take_l (i := 5) (v := ?_) rfl (by kernel_rfl) (by kernel_rfl) (by kernel_rfl) (fun _ _ _ h => h) (Or.inl ⟨by rfl, ?_⟩) (by assumption) ?_
          case refine_2 => (intro _ _; go_simp; all_goals with_reducible rfl)
          simp only [Act.put, List.setIfInBounds_toArray, List.set_cons_zero, List.set_cons_succ]
          refine take_l (i := 6) (v := ?_) rfl (by kernel_rfl) (by kernel_rfl) (by kernel_rfl) (fun _ _ _ h => h) (Or.inl ⟨by rfl, ?_⟩) (by assumption) ?_
          case refine_2 => (intro _ _; go_simp; all_goals with_reducible rfl)
          simp only [Act.put, List.setIfInBounds_toArray, List.set_cons_zero, List.set_cons_succ]
          refine take_l (i := 7) rfl (by kernel_rfl) (by kernel_rfl) (by kernel_rfl) (fun _ _ _ h => h) (Or.inl ⟨by rfl, fun W hS => e_sl57 hS.2 (.tmp 42) rfl rfl⟩) (by assumption) ?_
          simp only [Act.put, List.setIfInBounds_toArray, List.set_cons_zero, List.set_cons_succ]
          clear hHeld
          refine wpAnyH_ready (rs := [2]) (by kernel_rfl) (by simp) ?_
          refine cons_l rfl (fun K hK => ?_) AllReadyH.nil
          go_simp
          go_at_call 33
          refine (writtenD HDd.out Hwr.out).mono ?_
          rintro e u1 ⟨v, rfl, ⟨ws2, hw⟩, hb⟩
          have HW1 := Lib.hid hw.zero
          have HM1 := Lib.hid (HMd.out.below hb)
          have HBk1 := Lib.hid (HBkd.out.below hb HBkd.out.lt)
          have Hc61 := Lib.hid (cell_below hb Hc6d.out)
          have Hb1 := Lib.hid (nu_trans0 Hbd.out hb)
          clear hw hb HMd HBkd Hc6d Hbd HDd
          go_wp2_with fail
          refine hK.out _ _ ⟨HBk1.out, Hc61.out⟩ (fun hHeld => ?_)
          clear hK K hHeld
          simp only [Act.put, List.setIfInBounds_toArray, List.set_cons_zero, List.set_cons_succ]
          refine wpAnyH_ready (rs := [8]) (by kernel_rfl) (by simp) ?_
          refine cons_l rfl (fun K hK => ?_) AllReadyH.nil
          go_simp
          go_at_call 32
          refine (sameW_any HW1.out HM1.out.wr Hbl.out Hwr.out).mono ?_
          rintro e u2 ⟨rfl, hb⟩
          have HBk2 := Lib.hid (HBk1.out.below hb HBk1.out.lt)
          have Hc62 := Lib.hid (cell_below hb Hc61.out)
          have Hb2 := Lib.hid (nu_trans0 Hb1.out hb)
          clear hb HBk1 Hc61 Hb1 HM1 HW1
          go_wp2_with fail
          refine hK.out _ _ ⟨HBk2.out, Hc62.out⟩ (fun hHeld => ?_)
          clear hK K
          simp only [Act.put, List.setIfInBounds_toArray, List.set_cons_zero, List.set_cons_succ]
          refine take_l (i := 9) (v := ?_) rfl (by kernel_rfl) (by kernel_rfl) (by kernel_rfl) (fun _ _ _ h => h) (Or.inl ⟨by rfl, ?_⟩) (by assumption) ?_
          case refine_2 => (intro _ _; go_simp; all_goals with_reducible rfl)
          simp only [Act.put, List.setIfInBounds_toArray, List.set_cons_zero, List.set_cons_succ]
          clear hHeld
          refine wpAnyH_ready (rs := [10]) (by kernel_rfl) (by simp) ?_
          refine cons_l rfl (fun K hK => ?_) AllReadyH.nil
          go_simp
          go_at_call 20
          refine (awake10 u2).mono ?_
          rintro e u3 ⟨rfl, hb⟩
          have HBk3 := Lib.hid (HBk2.out.below hb HBk2.out.lt)
          have Hc63 := Lib.hid (cell_below hb Hc62.out)
          have Hb3 := Lib.hid (nu_trans0 Hb2.out hb)
          clear hb HBk2 Hc62 Hb2
          go_wp2_with fail
          refine hK.out _ _ ⟨HBk3.out, Hc63.out⟩ (fun hHeld => ?_)
          clear hK K
          simp only [Act.put, List.setIfInBounds_toArray, List.set_cons_zero, List.set_cons_succ]
          refine take_l (i := 11) (v := ?_) rfl (by kernel_rfl) (by kernel_rfl) (by kernel_rfl) (fun _ _ _ h => h) (Or.inl ⟨by rfl, ?_⟩) (by assumption) ?_
          case refine_2 => (intro _ _; go_simp; all_goals with_reducible rfl)
          simp only [Act.put, List.setIfInBounds_toArray, List.set_cons_zero, List.set_cons_succ]
          refine take_l (i := 12) (v := ?_) rfl (by kernel_rfl) (by kernel_rfl) (by kernel_rfl) (fun _ _ _ h => h) (Or.inl ⟨by rfl, ?_⟩) (by assumption) ?_
          case refine_2 => (intro _ _; go_simp; all_goals with_reducible rfl)
          simp only [Act.put, List.setIfInBounds_toArray, List.set_cons_zero, List.set_cons_succ]
          refine wpAnyH_done (by kernel_rfl) ?_ _
          clear hHeld
          go_wp2_with fail
          go_ret
          exact ⟨rfl, Hb3.out⟩
        · have hki : ¬ (k : Int) < (len : Int) := by omega
          clear hmore
          go_upto_region 9 with fail
          refine wp_region_held_drew (S := fun W => Blk W B 45 #[.pointer (some ⟨d, 0, none⟩), .pointer (some ⟨x, 0, none⟩)] ∧ W.cell? ⟨x, 6, none⟩ = some (.slice xa s.wr.length xc)) (by kernel_rfl) (⟨HBk.out.drew, cell_below (nu_drew (nu_refl wr)) Hc6.out⟩) (fun hHeld => ?_)
          dsimp only [Array.replicate, List.replicate, List.size_toArray, List.length_cons, List.length_nil, Nat.reduceAdd] at hHeld ⊢
          have hdr := nu_drew (nu_refl wr)
          have HDd := Lib.hid (HD.out.below hdr)
          have HMd := Lib.hid (HM.out.below hdr)
          have HBkd := Lib.hid HBk.out.drew
          have Hc6d := Lib.hid (cell_below hdr Hc6.out)
          have Hbd := Lib.hid (nu_trans0 Hbw.out hdr)
          clear hdr HD HM HBk Hc6 Hbw
          generalize wr.drew = u0 at *
          refine take_l (i := 0) (v := ?_) rfl (by kernel_rfl) (by kernel_rfl) (by kernel_rfl) (fun _ _ _ h => h) (Or.inl ⟨by rfl, ?_⟩) (by assumption) ?_
          case refine_2 => (intro _ _; go_simp; all_goals with_reducible rfl)
          simp only [Act.put, List.setIfInBounds_toArray, List.set_cons_zero, List.set_cons_succ]
          refine take_l (i := 1) rfl (by kernel_rfl) (by kernel_rfl) (by kernel_rfl) (fun _ _ _ h => h) (Or.inl ⟨by rfl, fun W hS => e_pd (hS.1.at 0 _ rfl) (.tmp 36) rfl rfl⟩) (by assumption) ?_
          simp only [Act.put, List.setIfInBounds_toArray, List.set_cons_zero, List.set_cons_succ]
          refine take_l (i := 3) (v := ?_) rfl (by kernel_rfl) (by kernel_rfl) (by kernel_rfl) (fun _ _ _ h => h) (Or.inl ⟨by rfl, ?_⟩) (by assumption) ?_
          case refine_2 => (intro _ _; go_simp; all_goals with_reducible rfl)
          simp only [Act.put, List.setIfInBounds_toArray, List.set_cons_zero, List.set_cons_succ]
          refine take_l (i := 4) rfl (by kernel_rfl) (by kernel_rfl) (by kernel_rfl) (fun _ _ _ h => h) (Or.inl ⟨by rfl, fun W hS => e_px (hS.1.at 1 _ rfl) (.tmp 39) rfl rfl⟩) (by assumption) ?_
          simp only [Act.put, List.setIfInBounds_toArray, List.set_cons_zero, List.set_cons_succ]
          refine take_l (i := 5) (v := ?_) rfl (by kernel_rfl) (by kernel_rfl) (by kernel_rfl) (fun _ _ _ h => h) (Or.inl ⟨by rfl, ?_⟩) (by assumption) ?_
          case refine_2 => (intro _ _; go_simp; all_goals with_reducible rfl)
          simp only [Act.put, List.setIfInBounds_toArray, List.set_cons_zero, List.set_cons_succ]
          refine take_l (i := 6) (v := ?_) rfl (by kernel_rfl) (by kernel_rfl) (by kernel_rfl) (fun _ _ _ h => h) (Or.inl ⟨by rfl, ?_⟩) (by assumption) ?_
          case refine_2 => (intro _ _; go_simp; all_goals with_reducible rfl)
          simp only [Act.put, List.setIfInBounds_toArray, List.set_cons_zero, List.set_cons_succ]
          refine take_l (i := 7) rfl (by kernel_rfl) (by kernel_rfl) (by kernel_rfl) (fun _ _ _ h => h) (Or.inl ⟨by rfl, fun W hS => e_sl57 hS.2 (.tmp 42) rfl rfl⟩) (by assumption) ?_
          simp only [Act.put, List.setIfInBounds_toArray, List.set_cons_zero, List.set_cons_succ]
          clear hHeld
          refine wpAnyH_ready (rs := [2]) (by kernel_rfl) (by simp) ?_
          refine cons_l rfl (fun K hK => ?_) AllReadyH.nil
          go_simp
          go_at_call 33
          refine (writtenD HDd.out Hwr.out).mono ?_
          rintro e u1 ⟨v, rfl, ⟨ws2, hw⟩, hb⟩
          have HW1 := Lib.hid hw.zero
          have HM1 := Lib.hid (HMd.out.below hb)
          have HBk1 := Lib.hid (HBkd.out.below hb HBkd.out.lt)
          have Hc61 := Lib.hid (cell_below hb Hc6d.out)
          have Hb1 := Lib.hid (nu_trans0 Hbd.out hb)
          clear hw hb HMd HBkd Hc6d Hbd HDd
          go_wp2_with fail
          refine hK.out _ _ ⟨HBk1.out, Hc61.out⟩ (fun hHeld => ?_)
          clear hK K hHeld
          simp only [Act.put, List.setIfInBounds_toArray, List.set_cons_zero, List.set_cons_succ]
          refine wpAnyH_ready (rs := [8]) (by kernel_rfl) (by simp) ?_
          refine cons_l rfl (fun K hK => ?_) AllReadyH.nil
          go_simp
          go_at_call 32
          refine (sameW_any HW1.out HM1.out.wr Hbl.out Hwr.out).mono ?_
          rintro e u2 ⟨rfl, hb⟩
          have HBk2 := Lib.hid (HBk1.out.below hb HBk1.out.lt)
          have Hc62 := Lib.hid (cell_below hb Hc61.out)
          have Hb2 := Lib.hid (nu_trans0 Hb1.out hb)
          clear hb HBk1 Hc61 Hb1 HM1 HW1
          go_wp2_with fail
          refine hK.out _ _ ⟨HBk2.out, Hc62.out⟩ (fun hHeld => ?_)
          clear hK K
          simp only [Act.put, List.setIfInBounds_toArray, List.set_cons_zero, List.set_cons_succ]
          refine take_l (i := 9) (v := ?_) rfl (by kernel_rfl) (by kernel_rfl) (by kernel_rfl) (fun _ _ _ h => h) (Or.inl ⟨by rfl, ?_⟩) (by assumption) ?_
          case refine_2 => (intro _ _; go_simp; all_goals with_reducible rfl)
          simp only [Act.put, List.setIfInBounds_toArray, List.set_cons_zero, List.set_cons_succ]
          clear hHeld
          refine wpAnyH_ready (rs := [10]) (by kernel_rfl) (by simp) ?_
          refine cons_l rfl (fun K hK => ?_) AllReadyH.nil
          go_simp
          go_at_call 20
          refine (awake10 u2).mono ?_
          rintro e u3 ⟨rfl, hb⟩
          have HBk3 := Lib.hid (HBk2.out.below hb HBk2.out.lt)
          have Hc63 := Lib.hid (cell_below hb Hc62.out)
          have Hb3 := Lib.hid (nu_trans0 Hb2.out hb)
          clear hb HBk2 Hc62 Hb2
          go_wp2_with fail
          refine hK.out _ _ ⟨HBk3.out, Hc63.out⟩ (fun hHeld => ?_)
          clear hK K
          simp only [Act.put, List.setIfInBounds_toArray, List.set_cons_zero, List.set_cons_succ]
          refine take_l (i := 11) (v := ?_) rfl (by kernel_rfl) (by kernel_rfl) (by kernel_rfl) (fun _ _ _ h => h) (Or.inl ⟨by rfl, ?_⟩) (by assumption) ?_
          case refine_2 => (intro _ _; go_simp; all_goals with_reducible rfl)
          simp only [Act.put, List.setIfInBounds_toArray, List.set_cons_zero, List.set_cons_succ]
          refine take_l (i := 12) (v := ?_) rfl (by kernel_rfl) (by kernel_rfl) (by kernel_rfl) (fun _ _ _ h => h) (Or.inl ⟨by rfl, ?_⟩) (by assumption) ?_
          case refine_2 => (intro _ _; go_simp; all_goals with_reducible rfl)
          simp only [Act.put, List.setIfInBounds_toArray, List.set_cons_zero, List.set_cons_succ]
          refine wpAnyH_done (by kernel_rfl) ?_ _
          clear hHeld
          go_wp2_with fail
          go_ret
          exact ⟨rfl, Hb3.out⟩
end Go.Proofs.Ytjmghpoknlffiaa

namespace Go.Proofs.Ytjmghpoknlffiaa
open Go.ChangeShapes Go.WideShapes Go.ChangeAt Go.RowKit
set_option linter.unusedSimpArgs false

/-- A row of writes whose bytes may have turned: what a store into the first byte of each wants. -/
def Wr0 (w : World) (base : Nat) (v : Value) (m : Nat) : Prop := 0 < m → ∃ g cap cur, v = .slice (some ⟨g, 0, none⟩) m cap ∧ Blk w g 64 cur ∧ ∀ j, j < m → ∃ (C cc : Nat) (cs : Array Value) (y : Nat), cur[j * 2 + 1]? = some (.slice (some ⟨C, 0, none⟩) 256 cc) ∧ base ≤ C ∧ Blk w C 5 cs ∧ cs[0]? = some (.int .u8 (y : Int)) ∧ y < 256
theorem wr0_of {w : World} {base : Nat} {v : Value} {l : List (Nat × List Nat)} {ws : List Value} (h : WrRow w base v l ws) (hl : ∀ p ∈ l, Bl p.2) : Wr0 w base v l.length := fun hp => by
  rcases h.1.2 with ⟨_, h0⟩ | ⟨g, cap, cur, hv, _, hb, _, _, _, ht⟩
  · omega
  · refine ⟨g, cap, cur, hv, hb, fun j hj => ?_⟩
    obtain ⟨p, hpj⟩ : ∃ p, l[j]? = some p := ⟨_, List.getElem?_eq_getElem hj⟩
    obtain ⟨u, hu⟩ : ∃ u, ws[j]? = some u := ⟨_, List.getElem?_eq_getElem (by rw [h.2.1]; exact hj)⟩
    have hO := h.2.2 j u p hu hpj
    have hbl := hl p (List.mem_of_getElem? hpj)
    have hat := flatR_at hpj hu (show 1 < 2 by omega)
    rcases hO.1.2 with ⟨_, h0⟩ | ⟨C, cc, cs, hv2, hbC, hbk, _, _, _, ht2⟩
    · rw [hbl.1] at h0; omega
    · obtain ⟨y, hy, hy8⟩ := hbl.at (show 0 < 256 by omega)
      refine ⟨C, cc, cs, y, ?_, hbC, hbk, ?_, hy8⟩
      · rw [hbl.1] at hv2
        rw [← hv2, ← Array.getElem?_toList]
        rw [← ht, List.getElem?_take] at hat
        split at hat
        · exact hat
        · cases hat
      · rw [← Array.getElem?_toList]
        have h3 : (p.2.map vb)[0]? = some (vb y) := by rw [List.getElem?_map, hy]; rfl
        rw [← ht2, List.getElem?_take] at h3
        split at h3
        · exact h3
        · cases h3
theorem Wr0.drew {w : World} {base : Nat} {v : Value} {m : Nat} (h : Wr0 w base v m) : Wr0 w.drew base v m := fun hp => by
  obtain ⟨g, cap, cur, h1, h2, h3⟩ := h hp
  refine ⟨g, cap, cur, h1, h2.drew, fun j hj => ?_⟩
  obtain ⟨C, cc, cs, y, k1, k2, k3, k4, k5⟩ := h3 j hj
  exact ⟨C, cc, cs, y, k1, k2, k3.drew, k4, k5⟩
theorem Wr0.store {w : World} {base : Nat} {v : Value} {m C z : Nat} {cs : Array Value} (h : Wr0 w base v m) (hC : Blk w C 5 cs) (hz : z < 256) : Wr0 (w.setCell ⟨C, 0, none⟩ (.int .u8 (z : Int))) base v m := fun hp => by
  obtain ⟨g, cap, cur, h1, h2, h3⟩ := h hp
  refine ⟨g, cap, cur, h1, h2.far (p := ⟨C, 0, none⟩) (Blk.apart h2 hC (by decide)) _, fun j hj => ?_⟩
  obtain ⟨C', cc, cs', y, k1, k2, k3, k4, k5⟩ := h3 j hj
  by_cases he : C' = C
  · subst he
    refine ⟨C', cc, _, z, k1, k2, k3.put 0 (.int .u8 (z : Int)), ?_, hz⟩
    have hs : 0 < cs'.size := (Array.getElem?_eq_some_iff.1 k4).1
    rw [Array.getElem?_setIfInBounds_self_of_lt hs]
  · exact ⟨C', cc, cs', y, k1, k2, k3.far (p := ⟨C, 0, none⟩) he _, k4, k5⟩
set_option maxRecDepth 100000 in
set_option maxHeartbeats 8000000 in
theorem devKeeps_walk (nb : Int) (hnb : -9223372036854775808 ≤ nb ∧ nb ≤ 9223372036854775807) (a : Option Addr) (len cap : Nat) (w : World) (h : Acts5 w a len) (hlen : len ≤ 9223372036854775807) :
    Calls Try.prog 8 #[.int .i64 nb, .slice a len cap] w fun e w' => e = .returned (.bool true) ∧ Below w.heap.size w w' := by
  have HAs := Lib.hid h
  have HGr := Lib.hid (great_any a len cap hlen w h)
  obtain ⟨q, hq⟩ : ∃ q : Nat, (q : Int) = nb % 20 := ⟨(nb % 20).toNat, Int.toNat_of_nonneg (Int.emod_nonneg _ (by omega))⟩
  have HPk := Lib.hid (show ∀ u, Calls Try.prog 18 #[.int .i64 nb, .int .i64 20] u fun e w' => e = .returned (.int .i64 (q : Int)) ∧ u = w' from fun u => pick_any nb 20 q u hq (by omega) (by omega) hnb.1 hnb.2)
  have hq20 : q < 20 := by omega
  obtain ⟨n, hn⟩ : ∃ n, n = 1 + q := ⟨_, rfl⟩
  have en : (1 : Int) + (q : Int) = (n : Int) := by omega
  have wn : IntKind.i64.wrap (n : Int) = (n : Int) := by rw [IntKind.wrap_i64]; omega
  have HBg := Lib.hid (fun u => begun_any n (by omega) (by omega) u)
  clear h hnb hq hn hq20
  go_enter Try.func8, Try.ntmps8
  go_wp2_with fail
  refine HGr.out.mono ?_
  rintro e w1 ⟨v, rfl, rfl, hsm⟩
  have Hsm := Lib.hid hsm
  clear hsm HGr
  cases v with
  | true =>
    go_wp2_with fail
    refine (awake10 w).mono ?_
    rintro e w2 ⟨rfl, hb⟩
    have Hb := Lib.hid hb
    clear hb
    go_wp2_with fail
    go_ret
    exact ⟨rfl, Hb.out⟩
  | false =>
    have HS := Lib.hid (Hsm.out rfl)
    clear Hsm
    go_wp2_with fail
    refine (HPk.out w).mono ?_
    rintro e w1 ⟨rfl, rfl⟩
    go_wp2_with fail
    refine (HBg.out w).mono ?_
    rintro e w2 ⟨d, x, rfl, U, hP, hU, hb2⟩
    have hal := nu_alloc (nu_refl w2) (.cells #[.pointer none, .pointer none] 45)
    have HBm := Lib.hid (Blk.made w2 45 #[.pointer none, .pointer none])
    have HBf := Lib.hid (Blk.fill HBm.out [.pointer (some ⟨d, 0, none⟩), .pointer (some ⟨x, 0, none⟩)] rfl)
    have hfl := nu_fill (a := w2) [.pointer (some ⟨d, 0, none⟩), .pointer (some ⟨x, 0, none⟩)] (g := w2.heap.size) (Nat.le_refl _) 0 _ hal
    have HP3 := Lib.hid (hP.below hfl)
    have HwB := Lib.hid (nu_trans hb2 hfl)
    have HU := Lib.hid hU
    have HBn := Lib.hid (show ¬ U w2.heap.size from fun hu => Nat.lt_irrefl _ (hP.lt _ hu))
    clear hal hfl hP hU hb2 HPk HBg
    go_upto_region 4 with (refine wpList_store_in rfl 45 (.tmp 5) (.tmp 18) rfl w2.heap.size 0 [.pointer (some ⟨d, 0, none⟩), .pointer (some ⟨x, 0, none⟩)] rfl rfl 45 _ HBm.out (by simp) (by kernel_rfl) (fun u hu => by simp only [List.mem_cons, List.not_mem_nil, or_false] at hu; rcases hu with rfl | rfl <;> rfl) ?_)
    change Code.wp _ _ _ _ ((w2.alloc (.cells #[.pointer none, .pointer none] 45)).setCells w2.heap.size 0 [.pointer (some ⟨d, 0, none⟩), .pointer (some ⟨x, 0, none⟩)])
    clear HBm
    generalize (w2.alloc (.cells #[.pointer none, .pointer none] 45)).setCells w2.heap.size 0 [.pointer (some ⟨d, 0, none⟩), .pointer (some ⟨x, 0, none⟩)] = wB at *
    obtain ⟨B, hB⟩ : ∃ B, B = w2.heap.size := ⟨_, rfl⟩
    rw [← hB] at HBf HBn
    rw [← hB]
    clear hB
    have HB := Lib.hid (show Blk wB B 45 #[.pointer (some ⟨d, 0, none⟩), .pointer (some ⟨x, 0, none⟩)] from HBf.out)
    clear HBf
    go_wp2_with fail
    go_loopw [6] (fun iv wx => ∃ (k : Nat) (s : Dv), k ≤ len ∧ k ≤ 100 ∧ iv = .int .i64 k ∧ PairTo U wB wx d x s s ∧ s.wa.length ≤ k ∧ s.wr.length ≤ k) (fun iv _ => len - (intOf iv).toNat)
    case atStart => exact ⟨0, _, by omega, by omega, rfl, PairTo.refl HP3.out, Nat.le_refl _, Nat.le_refl _⟩
    case round =>
      clear HP3
      obtain ⟨k, s, hk, hk2, rfl, hN, hcs⟩ := hrel
      have HN := Lib.hid hN
      have Hcs := Lib.hid hcs
      have HBk := Lib.hid (blk_mods HB.out hN.2 HBn.out)
      have Hbw := Lib.hid (below_mods HwB.out hN.2 HwB.out.size HU.out)
      clear hN hcs
      by_cases hmore : k < len ∧ k < 100
      · obtain ⟨hlt, hl2⟩ := hmore
        have hki : (k : Int) < (len : Int) := by omega
        have hki2 : (k : Int) < 100 := by omega
        obtain ⟨b0, off, rfl, hbl, hc⟩ := HAs.out (by omega)
        obtain ⟨kd, av, bv, da, dl, dc, fa, fl, fc, ys, fs, hA⟩ := hc k hlt
        have HA := Lib.hid hA
        obtain ⟨hd, hf⟩ := HS.out b0 off rfl k hlt (by omega) da dl dc fa fl fc hA.c3 hA.c4
        have Hd := Lib.hid hd
        have Hf := Lib.hid hf
        have HAr := Lib.hid (show ∀ u, Below wr.heap.size wr u → u.rangeAt b0 (off + k * 5) [.int .i64 kd, .int .i64 av, .int .i64 bv, .slice da dl dc, .slice fa fl fc] from fun u hu => hA.range (nu_trans0 Hbw.out hu))
        have HAw := Lib.hid (show ∀ u, Mods U wB u → u.rangeAt b0 (off + k * 5) [.int .i64 kd, .int .i64 av, .int .i64 bv, .slice da dl dc, .slice fa fl fc] from fun u hu => hA.range (below_mods HwB.out hu HwB.out.size HU.out))
        clear hc hA hd hf
        go_upto_region 7 with fail
        refine wp_region_held_drew (S := fun W => Blk W B 45 #[.pointer (some ⟨d, 0, none⟩), .pointer (some ⟨x, 0, none⟩)] ∧ W.rangeAt b0 (off + k * 5) [.int .i64 kd, .int .i64 av, .int .i64 bv, .slice da dl dc, .slice fa fl fc]) (by kernel_rfl) (⟨HBk.out.drew, HAr.out _ (nu_drew (nu_refl wr))⟩) (fun hHeld => ?_)
        dsimp only [Array.replicate, List.replicate, List.size_toArray, List.length_cons, List.length_nil, Nat.reduceAdd] at hHeld ⊢
        have HN0 := Lib.hid (HN.out.then_below (nu_drew (nu_refl wr)))
        clear HN
        generalize wr.drew = u0 at *
        refine take_l (i := 0) rfl (by kernel_rfl) (by kernel_rfl) (by kernel_rfl) (fun _ _ _ h => h) (Or.inl ⟨by rfl, fun W hS => e_pair hS.1 (.tmp 5) rfl rfl⟩) (by assumption) ?_
        simp only [Act.put, List.setIfInBounds_toArray, List.set_cons_zero, List.set_cons_succ]
        refine take_l (i := 1) (v := ?_) rfl (by kernel_rfl) (by kernel_rfl) (by kernel_rfl) (fun _ _ _ h => h) (Or.inl ⟨by rfl, ?_⟩) (by assumption) ?_
        case refine_2 => (intro _ _; go_simp; all_goals with_reducible rfl)
        simp only [Act.put, List.setIfInBounds_toArray, List.set_cons_zero, List.set_cons_succ]
        refine take_l (i := 2) (v := ?_) rfl (by kernel_rfl) (by kernel_rfl) (by kernel_rfl) (fun _ _ _ h => h) (Or.inl ⟨by rfl, ?_⟩) (by assumption) ?_
        case refine_2 => (intro _ _; go_simp; all_goals with_reducible rfl)
        simp only [Act.put, List.setIfInBounds_toArray, List.set_cons_zero, List.set_cons_succ]
        refine take_l (i := 3) (v := ?_) rfl (by kernel_rfl) (by kernel_rfl) (by kernel_rfl) (fun _ _ _ h => h) (Or.inl ⟨by rfl, ?_⟩) (by assumption) ?_
        case refine_2 => (intro _ _; go_simp; all_goals with_reducible rfl)
        simp only [Act.put, List.setIfInBounds_toArray, List.set_cons_zero, List.set_cons_succ]
        refine take_l (i := 4) rfl (by kernel_rfl) (by kernel_rfl) (by kernel_rfl) (fun _ _ _ h => h) (Or.inl ⟨by rfl, fun W hS => e_act hS.2 (.tmp 32) rfl rfl⟩) (by assumption) ?_
        simp only [Act.put, List.setIfInBounds_toArray, List.set_cons_zero, List.set_cons_succ]
        clear hHeld
        refine wpAnyH_ready (rs := [5]) (by kernel_rfl) (by simp) ?_
        refine cons_l rfl (fun K hK => ?_) AllReadyH.nil
        go_simp
        go_at_call 26
        refine (do_step HU.out HwB.out HN0.out HA.out Hd.out Hf.out (by have := Hcs.out; omega) (by have := Hcs.out; omega)).mono ?_
        rintro e u1 ⟨rfl, s1, hst, hn⟩
        have HN1 := Lib.hid hn
        have Hcs1 := Lib.hid (show s1.wa.length ≤ k + 1 ∧ s1.wr.length ≤ k + 1 from by have h1 := hst.2.1; have h2 := hst.2.2.1; have h3 := Hcs.out; omega)
        have hbk1 := blk_mods HB.out hn.2 HBn.out
        have HBk1 := Lib.hid hbk1
        have HAr1 := Lib.hid (HAw.out _ hn.2)
        clear hst hn hbk1 HN0
        go_wp2_with fail
        refine hK.out _ _ ⟨HBk1.out, HAr1.out⟩ (fun hHeld => ?_)
        clear hK K hHeld
        simp only [Act.put, List.setIfInBounds_toArray, List.set_cons_zero, List.set_cons_succ]
        refine wpAnyH_done (by kernel_rfl) ?_ _
        clear HAr HAr1 HAw HBk Hbw HA Hd Hf Hcs
        obtain ⟨F, G0, hD1, _⟩ := HN1.out.1
        have HD1 := Lib.hid hD1
        clear hD1
        have Hwr := Lib.hid (show s1.wr.length ≤ 1000000000 by have := Hcs1.out; omega)
        have Hwl := Lib.hid (show s1.wa.length ≤ 1000000000 by have := Hcs1.out; omega)
        have cP0 : u1.cell? ⟨B, 0, none⟩ = some (.pointer (some ⟨d, 0, none⟩)) := HBk1.out.at 0 _ rfl
        go_wp2_with fail
        refine (writtenD HD1.out Hwr.out).mono ?_
        rintro e u2 ⟨v, rfl, ⟨ws2, hw⟩, hb2⟩
        obtain ⟨va, vc, rfl⟩ := own_len hw.1
        have HW := Lib.hid (wr0_of hw (fun p hp => (HD1.out.1.wr p hp).2))
        have Hb2 := Lib.hid hb2
        obtain ⟨m, hm⟩ : ∃ m, m = s1.wr.length := ⟨_, rfl⟩
        have hm2 : m ≤ 1000000000 := by have := Hwr.out; omega
        rw [← hm] at HW
        rw [← hm]
        clear hw hb2 hm cP0
        go_wp2_with fail
        go_loopw [8] (fun jv wx => ∃ j : Nat, j ≤ m ∧ jv = .int .i64 j ∧ Below u1.heap.size u1 wx ∧ Wr0 wx u1.heap.size (.slice va m vc) m) (fun jv _ => m - (intOf jv).toNat)
        case atStart => exact ⟨0, by omega, rfl, Hb2.out, HW.out⟩
        case round =>
          clear Hb2 HW
          obtain ⟨j, hj, rfl, hb, hW⟩ := hrel
          by_cases hjm : j < m
          · have hji : (j : Int) < (m : Int) := by omega
            obtain ⟨g, cap, cur, hv, hg, hall⟩ := hW (by omega)
            injection hv with e1 _ e3
            subst e1
            clear e3
            obtain ⟨C, cc, cs, y, h1, h2, h3, h4, h5⟩ := hall j hjm
            obtain ⟨z, hz⟩ : ∃ z, z = (y + 1) % 256 := ⟨_, rfl⟩
            have ez : IntKind.u8.wrap ((y : Int) + 1) = (z : Int) := by rw [IntKind.wrap_u8]; omega
            have hz8 : z < 256 := by omega
            have k1 : wr.cell? ⟨g, j * 2 + 1, none⟩ = some (.slice (some ⟨C, 0, none⟩) 256 cc) := hg.at _ _ h1
            have k2 : wr.cell? ⟨C, 0, none⟩ = some (.int .u8 (y : Int)) := h3.at 0 _ h4
            have HW1 := Lib.hid ((hW.drew).store h3.drew hz8)
            have Hb1 := Lib.hid (nu_set hb.drew (p := ⟨C, 0, none⟩) h2 (.int .u8 (z : Int)))
            have HFz := Lib.hid (And.intro (h3.drew.at 0 _ h4) (h3.drew.free 0))
            clear hb hW hg hall h1 h2 h3 h4 h5 hz hz8
            go_upto_region 12 with fail
            go_still_tail 14, (by kernel_rfl)
            change wpList _ _ _ _ _ wr.drew
            clear k1 k2
            obtain ⟨cA2, fA2⟩ := HFz.out
            clear HFz
            generalize wr.drew = w6 at *
            go_wp2_with fail
            clear cA2 fA2
            generalize w6.setCell ⟨C, 0, none⟩ (.int .u8 (z : Int)) = w7 at *
            go_roundw
            case rel => first | exact ⟨j + 1, by omega, by go_num, Hb1.out, HW1.out⟩ | ((repeat apply Exists.intro); exact ⟨⟨j + 1, by omega, by go_num, Hb1.out, HW1.out⟩, rfl⟩)
            case measure => simp [intOf]; omega
          · obtain rfl : j = m := by omega
            have hji : ¬ (j : Int) < (j : Int) := by omega
            have cP0 : wr.cell? ⟨B, 0, none⟩ = some (.pointer (some ⟨d, 0, none⟩)) := (HBk1.out.below hb HBk1.out.lt).at 0 _ rfl
            have Hb3 := Lib.hid hb
            have HDr := Lib.hid (HD1.out.below hb)
            clear hW hb
            by_cases hr : s1.rdy 0 = 0
            · obtain ⟨ho, i, hi0, hi⟩ := rdy_zero hr
              have hi1 : i = 0 := by omega
              subst hi1
              have HRd := Lib.hid (readD_good HDr.out 0 hi ho Hwl.out)
              obtain ⟨D, hD⟩ : ∃ D, D = s1.now 0 := ⟨_, rfl⟩
              have HDb := Lib.hid (show Bl D by rw [hD]; exact HDr.out.1.now hi)
              rw [← hD] at HRd
              clear hr ho hi0 hi hD
              go_wp2_with fail
              refine HRd.out.mono ?_
              rintro e w3 ⟨G, rfl, hG, hB, hb⟩
              have HG := Lib.hid (show u1.heap.size ≤ G from Nat.le_trans Hb3.out.size hG)
              have HBb := Lib.hid hB
              have Hb4 := Lib.hid (nu_trans0 Hb3.out hb)
              clear hG hB hb HRd cP0 Hb3
              go_wp2_with fail
              go_loopw [11] (fun qv wx => ∃ (q : Nat) (ys2 : List Nat), q ≤ 256 ∧ qv = .int .i64 q ∧ Bl ys2 ∧ Blk wx G 73 (ys2.map vb).toArray ∧ Below u1.heap.size u1 wx) (fun qv _ => 256 - (intOf qv).toNat)
              case atStart => exact ⟨0, D, by omega, rfl, HDb.out, HBb.out, Hb4.out⟩
              case round =>
                clear HBb Hb4 HDb
                obtain ⟨q, ys2, hq, rfl, hys, hB, hb⟩ := hrel
                by_cases hlt : q < 256
                · have hji : (q : Int) < 256 := by omega
                  obtain ⟨y, hy, hy8⟩ := hys.at hlt
                  obtain ⟨z, hz⟩ : ∃ z, z = (y + 1) % 256 := ⟨_, rfl⟩
                  have ez : IntKind.u8.wrap ((y : Int) + 1) = (z : Int) := by rw [IntKind.wrap_u8]; omega
                  have hz8 : z < 256 := by omega
                  have c0 : wr.cell? ⟨G, q, none⟩ = some (.int .u8 (y : Int)) := hB.at q _ (arrg_at vb _ q y hy)
                  have hset := hB.put q (vb z)
                  rw [arrg_set vb ys2 q z] at hset
                  have HB1 := Lib.hid hset
                  have HY1 := Lib.hid (show Bl (ys2.set q z) from ⟨by rw [List.length_set]; exact hys.1, fun u hu => by
                    rcases List.mem_or_eq_of_mem_set hu with hu | hu
                    · exact hys.2 u hu
                    · rw [hu]; exact hz8⟩)
                  have Hb1 := Lib.hid (nu_set hb (p := ⟨G, q, none⟩) HG.out (vb z))
                  have f0 : wr.frozen? ⟨G, q, none⟩ = false := hB.free q
                  simp only [vb] at HB1 Hb1
                  clear hys hB hb hy hy8 hz hz8 hset
                  go_wp2_with fail
                  clear c0 f0
                  generalize wr.setCell ⟨G, q, none⟩ (.int .u8 (z : Int)) = w7 at *
                  go_roundw
                  case rel => first | exact ⟨q + 1, _, by omega, by go_num, HY1.out, HB1.out, Hb1.out⟩ | ((repeat apply Exists.intro); exact ⟨⟨q + 1, _, by omega, by go_num, HY1.out, HB1.out, Hb1.out⟩, rfl⟩)
                  case measure => simp [intOf]; omega
                · obtain rfl : q = 256 := by omega
                  have HN2 := Lib.hid (HN1.out.then_below hb)
                  clear hB hb hys
                  go_wp2_with fail
                  go_roundw
                  case rel => first | exact ⟨k + 1, s1, by omega, by omega, by go_num, HN2.out, Hcs1.out⟩ | ((repeat apply Exists.intro); exact ⟨⟨k + 1, s1, by omega, by omega, by go_num, HN2.out, Hcs1.out⟩, rfl⟩)
                  case measure => simp [intOf]; omega
            · have HRd := Lib.hid (readD_bad HDr.out 0 hr)
              obtain ⟨E, hE⟩ : ∃ E, E = s1.rdy 0 := ⟨_, rfl⟩
              rw [← hE] at HRd
              clear hr hE
              go_wp2_with fail
              refine HRd.out.mono ?_
              rintro e w3 ⟨rfl, rfl⟩
              clear HRd cP0
              go_wp2_with fail
              go_loopw [11] (fun qv wx => qv = .int .i64 0 ∧ wx = wr) (fun _ _ => 0)
              case atStart => exact ⟨rfl, rfl⟩
              case round =>
                obtain ⟨rfl, he⟩ := hrel
                have HN2 := Lib.hid (HN1.out.then_below Hb3.out)
                rw [← he] at HN2
                clear he
                go_wp2_with fail
                go_roundw
                case rel => first | exact ⟨k + 1, s1, by omega, by omega, by go_num, HN2.out, Hcs1.out⟩ | ((repeat apply Exists.intro); exact ⟨⟨k + 1, s1, by omega, by omega, by go_num, HN2.out, Hcs1.out⟩, rfl⟩)
                case measure => simp [intOf]; omega
      · have HM0 := HN.out
        obtain ⟨⟨F, G, hD, hX, _⟩, _⟩ := HM0
        obtain ⟨st, wa, cp, wv, bs, ws, rs, cv, Fz, M⟩ := hX.state
        obtain ⟨xa, xc, rfl⟩ := own_len M.wr.1
        have HD := Lib.hid hD
        have HM := Lib.hid M
        have Hc6 := Lib.hid (RefAt.cells M.dv).2.2.2.2.2.2
        have Hbl := Lib.hid (show ∀ p ∈ s.wr, Bl p.2 from fun p hp => (hD.1.wr p hp).2)
        have Hwr := Lib.hid (show s.wr.length ≤ 1000000000 by have := Hcs.out; omega)
        have Hwl := Lib.hid (show s.wa.length ≤ 1000000000 by have := Hcs.out; omega)
        clear hD hX M
        by_cases hlt : k < len
        · have hki : (k : Int) < (len : Int) := by omega
          have hki2 : ¬ (k : Int) < 100 := by omega
          clear hmore
          go_upto_region 18 with fail
          refine wp_region_held_drew (S := fun W => Blk W B 45 #[.pointer (some ⟨d, 0, none⟩), .pointer (some ⟨x, 0, none⟩)] ∧ W.cell? ⟨x, 6, none⟩ = some (.slice xa s.wr.length xc)) (by kernel_rfl) (⟨HBk.out.drew, cell_below (nu_drew (nu_refl wr)) Hc6.out⟩) (fun hHeld => ?_)
          dsimp only [Array.replicate, List.replicate, List.size_toArray, List.length_cons, List.length_nil, Nat.reduceAdd] at hHeld ⊢
          have hdr := nu_drew (nu_refl wr)
          have HNd := Lib.hid (HN.out.then_below hdr)
          have HDd := Lib.hid (HD.out.below hdr)
          have HMd := Lib.hid (HM.out.below hdr)
          have HBkd := Lib.hid HBk.out.drew
          have Hc6d := Lib.hid (cell_below hdr Hc6.out)
          have Hbd := Lib.hid (nu_trans0 Hbw.out hdr)
          clear hdr HD HM HBk Hc6 Hbw HN
          generalize wr.drew = u0 at *
          refine take_l (i := 0) rfl (by kernel_rfl) (by kernel_rfl) (by kernel_rfl) (fun _ _ _ h => h) (Or.inl ⟨by rfl, fun W hS => e_pair hS.1 (.tmp 5) rfl rfl⟩) (by assumption) ?_
          simp only [Act.put, List.setIfInBounds_toArray, List.set_cons_zero, List.set_cons_succ]
          clear hHeld
          refine wpAnyH_ready (rs := [1]) (by kernel_rfl) (by simp) ?_
          refine cons_l rfl (fun K hK => ?_) AllReadyH.nil
          go_simp
          go_at_call 31
          refine (alike_any HNd.out.1 Hwl.out).mono ?_
          rintro e v1 ⟨rfl, hb⟩
          have HDd1 := Lib.hid (HDd.out.below hb)
          have HMd1 := Lib.hid (HMd.out.below hb)
          have HBkd1 := Lib.hid (HBkd.out.below hb HBkd.out.lt)
          have Hc6d1 := Lib.hid (cell_below hb Hc6d.out)
          have Hbd1 := Lib.hid (nu_trans0 Hbd.out hb)
          clear hb HDd HMd HBkd Hc6d Hbd HNd
          go_wp2_with fail
          refine hK.out _ _ ⟨HBkd1.out, Hc6d1.out⟩ (fun hHeld => ?_)
          clear hK K
          simp only [Act.put, List.setIfInBounds_toArray, List.set_cons_zero, List.set_cons_succ]
          refine take_l (i := 2) (v := ?_) rfl (by kernel_rfl) (by kernel_rfl) (by kernel_rfl) (fun _ _ _ h => h) (Or.inl ⟨by rfl, ?_⟩) (by assumption) ?_
          case refine_2 => (intro _ _; go_simp; all_goals with_reducible rfl)
          simp only [Act.put, List.setIfInBounds_toArray, List.set_cons_zero, List.set_cons_succ]
          refine take_l (i := 3) (v := ?_) rfl (by kernel_rfl) (by kernel_rfl) (by kernel_rfl) (fun _ _ _ h => h) (Or.inl ⟨by rfl, ?_⟩) (by assumption) ?_
          case refine_2 => (intro _ _; go_simp; all_goals with_reducible rfl)
          simp only [Act.put, List.setIfInBounds_toArray, List.set_cons_zero, List.set_cons_succ]
          refine take_l (i := 4) rfl (by kernel_rfl) (by kernel_rfl) (by kernel_rfl) (fun _ _ _ h => h) (Or.inl ⟨by rfl, fun W hS => e_pd (hS.1.at 0 _ rfl) (.tmp 81) rfl rfl⟩) (by assumption) ?_
          simp only [Act.put, List.setIfInBounds_toArray, List.set_cons_zero, List.set_cons_succ]
          refine take_l (i := 6) (v := ?_) rfl (by kernel_rfl) (by kernel_rfl) (by kernel_rfl) (fun _ _ _ h => h) (Or.inl ⟨by rfl, ?_⟩) (by assumption) ?_
          case refine_2 => (intro _ _; go_simp; all_goals with_reducible rfl)
          simp only [Act.put, List.setIfInBounds_toArray, List.set_cons_zero, List.set_cons_succ]
          refine take_l (i := 7) rfl (by kernel_rfl) (by kernel_rfl) (by kernel_rfl) (fun _ _ _ h => h) (Or.inl ⟨by rfl, fun W hS => e_px (hS.1.at 1 _ rfl) (.tmp 84) rfl rfl⟩) (by assumption) ?_
          simp only [Act.put, List.setIfInBounds_toArray, List.set_cons_zero, List.set_cons_succ]
          refine take_l (i := 8) (v := ?_) rfl (by kernel_rfl) (by kernel_rfl) (by kernel_rfl) (fun _ _ _ h => h) (Or.inl ⟨by rfl, ?_⟩) (by assumption) ?_
          case refine_2 => (intro _ _; go_simp; all_goals with_reducible rfl)
          simp only [Act.put, List.setIfInBounds_toArray, List.set_cons_zero, List.set_cons_succ]
          refine take_l (i := 9) (v := ?_) rfl (by kernel_rfl) (by kernel_rfl) (by kernel_rfl) (fun _ _ _ h => h) (Or.inl ⟨by rfl, ?_⟩) (by assumption) ?_
          case refine_2 => (intro _ _; go_simp; all_goals with_reducible rfl)
          simp only [Act.put, List.setIfInBounds_toArray, List.set_cons_zero, List.set_cons_succ]
          refine take_l (i := 10) rfl (by kernel_rfl) (by kernel_rfl) (by kernel_rfl) (fun _ _ _ h => h) (Or.inl ⟨by rfl, fun W hS => e_sl57 hS.2 (.tmp 87) rfl rfl⟩) (by assumption) ?_
          simp only [Act.put, List.setIfInBounds_toArray, List.set_cons_zero, List.set_cons_succ]
          clear hHeld
          refine wpAnyH_ready (rs := [5]) (by kernel_rfl) (by simp) ?_
          refine cons_l rfl (fun K hK => ?_) AllReadyH.nil
          go_simp
          go_at_call 33
          refine (writtenD HDd1.out Hwr.out).mono ?_
          rintro e u1 ⟨v, rfl, ⟨ws2, hw⟩, hb⟩
          have HW1 := Lib.hid hw.zero
          have HM1 := Lib.hid (HMd1.out.below hb)
          have HBk1 := Lib.hid (HBkd1.out.below hb HBkd1.out.lt)
          have Hc61 := Lib.hid (cell_below hb Hc6d1.out)
          have Hb1 := Lib.hid (nu_trans0 Hbd1.out hb)
          clear hw hb HMd1 HBkd1 Hc6d1 Hbd1 HDd1
          go_wp2_with fail
          refine hK.out _ _ ⟨HBk1.out, Hc61.out⟩ (fun hHeld => ?_)
          clear hK K hHeld
          simp only [Act.put, List.setIfInBounds_toArray, List.set_cons_zero, List.set_cons_succ]
          refine wpAnyH_ready (rs := [11]) (by kernel_rfl) (by simp) ?_
          refine cons_l rfl (fun K hK => ?_) AllReadyH.nil
          go_simp
          go_at_call 32
          refine (sameW_any HW1.out HM1.out.wr Hbl.out Hwr.out).mono ?_
          rintro e u2 ⟨rfl, hb⟩
          have HBk2 := Lib.hid (HBk1.out.below hb HBk1.out.lt)
          have Hc62 := Lib.hid (cell_below hb Hc61.out)
          have Hb2 := Lib.hid (nu_trans0 Hb1.out hb)
          clear hb HBk1 Hc61 Hb1 HM1 HW1
          go_wp2_with fail
          refine hK.out _ _ ⟨HBk2.out, Hc62.out⟩ (fun hHeld => ?_)
          clear hK K
          simp only [Act.put, List.setIfInBounds_toArray, List.set_cons_zero, List.set_cons_succ]
          refine take_l (i := 12) (v := ?_) rfl (by kernel_rfl) (by kernel_rfl) (by kernel_rfl) (fun _ _ _ h => h) (Or.inl ⟨by rfl, ?_⟩) (by assumption) ?_
          case refine_2 => (intro _ _; go_simp; all_goals with_reducible rfl)
          simp only [Act.put, List.setIfInBounds_toArray, List.set_cons_zero, List.set_cons_succ]
          refine take_l (i := 13) (v := ?_) rfl (by kernel_rfl) (by kernel_rfl) (by kernel_rfl) (fun _ _ _ h => h) (Or.inl ⟨by rfl, ?_⟩) (by assumption) ?_
          case refine_2 => (intro _ _; go_simp; all_goals with_reducible rfl)
          simp only [Act.put, List.setIfInBounds_toArray, List.set_cons_zero, List.set_cons_succ]
          clear hHeld
          refine wpAnyH_ready (rs := [14]) (by kernel_rfl) (by simp) ?_
          refine cons_l rfl (fun K hK => ?_) AllReadyH.nil
          go_simp
          go_at_call 20
          refine (awake10 u2).mono ?_
          rintro e u3 ⟨rfl, hb⟩
          have HBk3 := Lib.hid (HBk2.out.below hb HBk2.out.lt)
          have Hc63 := Lib.hid (cell_below hb Hc62.out)
          have Hb3 := Lib.hid (nu_trans0 Hb2.out hb)
          clear hb HBk2 Hc62 Hb2
          go_wp2_with fail
          refine hK.out _ _ ⟨HBk3.out, Hc63.out⟩ (fun hHeld => ?_)
          clear hK K
          simp only [Act.put, List.setIfInBounds_toArray, List.set_cons_zero, List.set_cons_succ]
          refine take_l (i := 15) (v := ?_) rfl (by kernel_rfl) (by kernel_rfl) (by kernel_rfl) (fun _ _ _ h => h) (Or.inl ⟨by rfl, ?_⟩) (by assumption) ?_
          case refine_2 => (intro _ _; go_simp; all_goals with_reducible rfl)
          simp only [Act.put, List.setIfInBounds_toArray, List.set_cons_zero, List.set_cons_succ]
          refine take_l (i := 16) (v := ?_) rfl (by kernel_rfl) (by kernel_rfl) (by kernel_rfl) (fun _ _ _ h => h) (Or.inl ⟨by rfl, ?_⟩) (by assumption) ?_
          case refine_2 => (intro _ _; go_simp; all_goals with_reducible rfl)
          simp only [Act.put, List.setIfInBounds_toArray, List.set_cons_zero, List.set_cons_succ]
          refine wpAnyH_done (by kernel_rfl) ?_ _
          clear hHeld
          go_wp2_with fail
          go_ret
          exact ⟨rfl, Hb3.out⟩
        · have hki : ¬ (k : Int) < (len : Int) := by omega
          clear hmore
          go_upto_region 18 with fail
          refine wp_region_held_drew (S := fun W => Blk W B 45 #[.pointer (some ⟨d, 0, none⟩), .pointer (some ⟨x, 0, none⟩)] ∧ W.cell? ⟨x, 6, none⟩ = some (.slice xa s.wr.length xc)) (by kernel_rfl) (⟨HBk.out.drew, cell_below (nu_drew (nu_refl wr)) Hc6.out⟩) (fun hHeld => ?_)
          dsimp only [Array.replicate, List.replicate, List.size_toArray, List.length_cons, List.length_nil, Nat.reduceAdd] at hHeld ⊢
          have hdr := nu_drew (nu_refl wr)
          have HNd := Lib.hid (HN.out.then_below hdr)
          have HDd := Lib.hid (HD.out.below hdr)
          have HMd := Lib.hid (HM.out.below hdr)
          have HBkd := Lib.hid HBk.out.drew
          have Hc6d := Lib.hid (cell_below hdr Hc6.out)
          have Hbd := Lib.hid (nu_trans0 Hbw.out hdr)
          clear hdr HD HM HBk Hc6 Hbw HN
          generalize wr.drew = u0 at *
          refine take_l (i := 0) rfl (by kernel_rfl) (by kernel_rfl) (by kernel_rfl) (fun _ _ _ h => h) (Or.inl ⟨by rfl, fun W hS => e_pair hS.1 (.tmp 5) rfl rfl⟩) (by assumption) ?_
          simp only [Act.put, List.setIfInBounds_toArray, List.set_cons_zero, List.set_cons_succ]
          clear hHeld
          refine wpAnyH_ready (rs := [1]) (by kernel_rfl) (by simp) ?_
          refine cons_l rfl (fun K hK => ?_) AllReadyH.nil
          go_simp
          go_at_call 31
          refine (alike_any HNd.out.1 Hwl.out).mono ?_
          rintro e v1 ⟨rfl, hb⟩
          have HDd1 := Lib.hid (HDd.out.below hb)
          have HMd1 := Lib.hid (HMd.out.below hb)
          have HBkd1 := Lib.hid (HBkd.out.below hb HBkd.out.lt)
          have Hc6d1 := Lib.hid (cell_below hb Hc6d.out)
          have Hbd1 := Lib.hid (nu_trans0 Hbd.out hb)
          clear hb HDd HMd HBkd Hc6d Hbd HNd
          go_wp2_with fail
          refine hK.out _ _ ⟨HBkd1.out, Hc6d1.out⟩ (fun hHeld => ?_)
          clear hK K
          simp only [Act.put, List.setIfInBounds_toArray, List.set_cons_zero, List.set_cons_succ]
          refine take_l (i := 2) (v := ?_) rfl (by kernel_rfl) (by kernel_rfl) (by kernel_rfl) (fun _ _ _ h => h) (Or.inl ⟨by rfl, ?_⟩) (by assumption) ?_
          case refine_2 => (intro _ _; go_simp; all_goals with_reducible rfl)
          simp only [Act.put, List.setIfInBounds_toArray, List.set_cons_zero, List.set_cons_succ]
          refine take_l (i := 3) (v := ?_) rfl (by kernel_rfl) (by kernel_rfl) (by kernel_rfl) (fun _ _ _ h => h) (Or.inl ⟨by rfl, ?_⟩) (by assumption) ?_
          case refine_2 => (intro _ _; go_simp; all_goals with_reducible rfl)
          simp only [Act.put, List.setIfInBounds_toArray, List.set_cons_zero, List.set_cons_succ]
          refine take_l (i := 4) rfl (by kernel_rfl) (by kernel_rfl) (by kernel_rfl) (fun _ _ _ h => h) (Or.inl ⟨by rfl, fun W hS => e_pd (hS.1.at 0 _ rfl) (.tmp 81) rfl rfl⟩) (by assumption) ?_
          simp only [Act.put, List.setIfInBounds_toArray, List.set_cons_zero, List.set_cons_succ]
          refine take_l (i := 6) (v := ?_) rfl (by kernel_rfl) (by kernel_rfl) (by kernel_rfl) (fun _ _ _ h => h) (Or.inl ⟨by rfl, ?_⟩) (by assumption) ?_
          case refine_2 => (intro _ _; go_simp; all_goals with_reducible rfl)
          simp only [Act.put, List.setIfInBounds_toArray, List.set_cons_zero, List.set_cons_succ]
          refine take_l (i := 7) rfl (by kernel_rfl) (by kernel_rfl) (by kernel_rfl) (fun _ _ _ h => h) (Or.inl ⟨by rfl, fun W hS => e_px (hS.1.at 1 _ rfl) (.tmp 84) rfl rfl⟩) (by assumption) ?_
          simp only [Act.put, List.setIfInBounds_toArray, List.set_cons_zero, List.set_cons_succ]
          refine take_l (i := 8) (v := ?_) rfl (by kernel_rfl) (by kernel_rfl) (by kernel_rfl) (fun _ _ _ h => h) (Or.inl ⟨by rfl, ?_⟩) (by assumption) ?_
          case refine_2 => (intro _ _; go_simp; all_goals with_reducible rfl)
          simp only [Act.put, List.setIfInBounds_toArray, List.set_cons_zero, List.set_cons_succ]
          refine take_l (i := 9) (v := ?_) rfl (by kernel_rfl) (by kernel_rfl) (by kernel_rfl) (fun _ _ _ h => h) (Or.inl ⟨by rfl, ?_⟩) (by assumption) ?_
          case refine_2 => (intro _ _; go_simp; all_goals with_reducible rfl)
          simp only [Act.put, List.setIfInBounds_toArray, List.set_cons_zero, List.set_cons_succ]
          refine take_l (i := 10) rfl (by kernel_rfl) (by kernel_rfl) (by kernel_rfl) (fun _ _ _ h => h) (Or.inl ⟨by rfl, fun W hS => e_sl57 hS.2 (.tmp 87) rfl rfl⟩) (by assumption) ?_
          simp only [Act.put, List.setIfInBounds_toArray, List.set_cons_zero, List.set_cons_succ]
          clear hHeld
          refine wpAnyH_ready (rs := [5]) (by kernel_rfl) (by simp) ?_
          refine cons_l rfl (fun K hK => ?_) AllReadyH.nil
          go_simp
          go_at_call 33
          refine (writtenD HDd1.out Hwr.out).mono ?_
          rintro e u1 ⟨v, rfl, ⟨ws2, hw⟩, hb⟩
          have HW1 := Lib.hid hw.zero
          have HM1 := Lib.hid (HMd1.out.below hb)
          have HBk1 := Lib.hid (HBkd1.out.below hb HBkd1.out.lt)
          have Hc61 := Lib.hid (cell_below hb Hc6d1.out)
          have Hb1 := Lib.hid (nu_trans0 Hbd1.out hb)
          clear hw hb HMd1 HBkd1 Hc6d1 Hbd1 HDd1
          go_wp2_with fail
          refine hK.out _ _ ⟨HBk1.out, Hc61.out⟩ (fun hHeld => ?_)
          clear hK K hHeld
          simp only [Act.put, List.setIfInBounds_toArray, List.set_cons_zero, List.set_cons_succ]
          refine wpAnyH_ready (rs := [11]) (by kernel_rfl) (by simp) ?_
          refine cons_l rfl (fun K hK => ?_) AllReadyH.nil
          go_simp
          go_at_call 32
          refine (sameW_any HW1.out HM1.out.wr Hbl.out Hwr.out).mono ?_
          rintro e u2 ⟨rfl, hb⟩
          have HBk2 := Lib.hid (HBk1.out.below hb HBk1.out.lt)
          have Hc62 := Lib.hid (cell_below hb Hc61.out)
          have Hb2 := Lib.hid (nu_trans0 Hb1.out hb)
          clear hb HBk1 Hc61 Hb1 HM1 HW1
          go_wp2_with fail
          refine hK.out _ _ ⟨HBk2.out, Hc62.out⟩ (fun hHeld => ?_)
          clear hK K
          simp only [Act.put, List.setIfInBounds_toArray, List.set_cons_zero, List.set_cons_succ]
          refine take_l (i := 12) (v := ?_) rfl (by kernel_rfl) (by kernel_rfl) (by kernel_rfl) (fun _ _ _ h => h) (Or.inl ⟨by rfl, ?_⟩) (by assumption) ?_
          case refine_2 => (intro _ _; go_simp; all_goals with_reducible rfl)
          simp only [Act.put, List.setIfInBounds_toArray, List.set_cons_zero, List.set_cons_succ]
          refine take_l (i := 13) (v := ?_) rfl (by kernel_rfl) (by kernel_rfl) (by kernel_rfl) (fun _ _ _ h => h) (Or.inl ⟨by rfl, ?_⟩) (by assumption) ?_
          case refine_2 => (intro _ _; go_simp; all_goals with_reducible rfl)
          simp only [Act.put, List.setIfInBounds_toArray, List.set_cons_zero, List.set_cons_succ]
          clear hHeld
          refine wpAnyH_ready (rs := [14]) (by kernel_rfl) (by simp) ?_
          refine cons_l rfl (fun K hK => ?_) AllReadyH.nil
          go_simp
          go_at_call 20
          refine (awake10 u2).mono ?_
          rintro e u3 ⟨rfl, hb⟩
          have HBk3 := Lib.hid (HBk2.out.below hb HBk2.out.lt)
          have Hc63 := Lib.hid (cell_below hb Hc62.out)
          have Hb3 := Lib.hid (nu_trans0 Hb2.out hb)
          clear hb HBk2 Hc62 Hb2
          go_wp2_with fail
          refine hK.out _ _ ⟨HBk3.out, Hc63.out⟩ (fun hHeld => ?_)
          clear hK K
          simp only [Act.put, List.setIfInBounds_toArray, List.set_cons_zero, List.set_cons_succ]
          refine take_l (i := 15) (v := ?_) rfl (by kernel_rfl) (by kernel_rfl) (by kernel_rfl) (fun _ _ _ h => h) (Or.inl ⟨by rfl, ?_⟩) (by assumption) ?_
          case refine_2 => (intro _ _; go_simp; all_goals with_reducible rfl)
          simp only [Act.put, List.setIfInBounds_toArray, List.set_cons_zero, List.set_cons_succ]
          refine take_l (i := 16) (v := ?_) rfl (by kernel_rfl) (by kernel_rfl) (by kernel_rfl) (fun _ _ _ h => h) (Or.inl ⟨by rfl, ?_⟩) (by assumption) ?_
          case refine_2 => (intro _ _; go_simp; all_goals with_reducible rfl)
          simp only [Act.put, List.setIfInBounds_toArray, List.set_cons_zero, List.set_cons_succ]
          refine wpAnyH_done (by kernel_rfl) ?_ _
          clear hHeld
          go_wp2_with fail
          go_ret
          exact ⟨rfl, Hb3.out⟩
end Go.Proofs.Ytjmghpoknlffiaa
