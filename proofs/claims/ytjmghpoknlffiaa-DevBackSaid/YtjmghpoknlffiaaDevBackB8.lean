/-
  What the proof of DevBack rests on, part 8 of 9.
-/
import Derived.Test.YtjmghpoknlffiaaDevBackB7
namespace Go.Proofs.Ytjmghpoknlffiaa
open Go.ChangeShapes Go.WideShapes Go.ChangeAt Go.RowKit
set_option linter.unusedSimpArgs false

/-- What an act leaves of two devices that hold different things. -/
def DoP (U : Nat → Prop) (w : World) (d x : Nat) (s t : Dv) (e : Ending) (w' : World) : Prop := ∃ (v : Bool) (s' t' : Dv), e = .returned (.bool v) ∧ Step s s' ∧ Step t t' ∧ PairTo U w w' d x s' t'
section
variable {w : World} {d x : Nat} {s t : Dv} {U : Nat → Prop} {kd a b : Int} {da fa : Option Addr} {dl dc fl fc : Nat}
set_option maxRecDepth 100000 in
set_option maxHeartbeats 8000000 in
theorem doq_2 (H : Pair2 w d x s t U) (hk : kd % 11 = 2) (hkb : -9223372036854775808 ≤ kd ∧ kd ≤ 9223372036854775807) (ha : -9223372036854775808 ≤ a ∧ a ≤ 9223372036854775807) (hb : -9223372036854775808 ≤ b ∧ b ≤ 9223372036854775807) (ys : List Nat) (hx : BytesIn w da dl dc ys) (hxf : Far w U da dl) (fs : List Int) (hf : NumsIn w fa fl fs) (hff : Far w U fa fl) (hfl : fl ≤ 1000) (hwl : s.wa.length ≤ 1000) (hrl : s.wr.length ≤ 1000) (hwt : t.wa.length ≤ 1000) (hrt : t.wr.length ≤ 1000) :
    Calls Try.prog 26 #[.agg #[.pointer (some ⟨d, 0, none⟩), .pointer (some ⟨x, 0, none⟩)], .agg #[.int .i64 kd, .int .i64 a, .int .i64 b, .slice da dl dc, .slice fa fl fc]] w (DoP U w d x s t) := by
  have hal1 := nu_alloc (nu_refl w) (.cells #[.pointer (some ⟨d, 0, none⟩), .pointer (some ⟨x, 0, none⟩)] 45)
  have hal2 := nu_alloc (nu_refl (w.alloc (.cells #[.pointer (some ⟨d, 0, none⟩), .pointer (some ⟨x, 0, none⟩)] 45))) (.cells #[.int .i64 kd, .int .i64 a, .int .i64 b, .slice da dl dc, .slice fa fl fc] 49)
  have hpm := Blk.made w 45 #[.pointer (some ⟨d, 0, none⟩), .pointer (some ⟨x, 0, none⟩)]
  have HP := Lib.hid (hpm.below hal2 hpm.lt)
  have HAb := Lib.hid (Blk.made (w.alloc (.cells #[.pointer (some ⟨d, 0, none⟩), .pointer (some ⟨x, 0, none⟩)] 45)) 49 #[.int .i64 kd, .int .i64 a, .int .i64 b, .slice da dl dc, .slice fa fl fc])
  have Hb2 := Lib.hid (nu_trans hal1 hal2)
  have HH := Lib.hid (H.below Hb2.out)
  have Hlt := Lib.hid H.lt
  have Hok := Lib.hid H.okD
  have Hokt := Lib.hid H.okX
  have Hwt := Lib.hid (show t.wa.length ≤ 1000000000 by omega)
  have Hrt := Lib.hid (show t.wr.length ≤ 1000000000 by omega)
  have HPn := Lib.hid (show ¬ U w.heap.size from fun h => Nat.lt_irrefl _ (H.lt _ h))
  have HAn := Lib.hid (show ¬ U (w.alloc (.cells #[.pointer (some ⟨d, 0, none⟩), .pointer (some ⟨x, 0, none⟩)] 45)).heap.size from fun h => by have h1 := H.lt _ h; have h2 := hal1.size; omega)
  have HX := Lib.hid (hx.keep Hb2.out)
  have HXF := Lib.hid (hxf.below Hb2.out)
  have HF := Lib.hid (hf.below Hb2.out)
  have HFF := Lib.hid (hff.below Hb2.out)
  have HPk := Lib.hid (show ∀ u : World, Calls Try.prog 18 #[.int .i64 kd, .int .i64 11] u fun e w' => e = .returned (.int .i64 (2 : Int)) ∧ u = w' from fun u => pick_any kd 11 2 u (by rw [hk]; rfl) (by omega) (by omega) hkb.1 hkb.2)
  have Hwl := Lib.hid (show s.wa.length ≤ 1000000000 by omega)
  have Hrl := Lib.hid (show s.wr.length ≤ 1000000000 by omega)
  have Ha := Lib.hid ha
  have Hb := Lib.hid hb
  have Hfl := Lib.hid (show fl ≤ 9223372036854775807 by omega)
  clear H hk hkb ha hb hx hxf hf hff hfl hwl hrl hwt hrt hal1 hal2 hpm
  obtain ⟨E1, hE1⟩ : ∃ E : Int, E = s.flushC := ⟨_, rfl⟩
  have HE1 := Lib.hid hE1
  obtain ⟨E2, hE2⟩ : ∃ E : Int, E = t.flushC := ⟨_, rfl⟩
  have HE2 := Lib.hid hE2
  clear hE1 hE2
  go_enter Try.func26, Try.ntmps26
  go_upto_region 1 with fail
  change Code.wp _ _ _ _ ((w.alloc (.cells #[.pointer (some ⟨d, 0, none⟩), .pointer (some ⟨x, 0, none⟩)] 45)).alloc (.cells #[.int .i64 kd, .int .i64 a, .int .i64 b, .slice da dl dc, .slice fa fl fc] 49))
  generalize (w.alloc (.cells #[.pointer (some ⟨d, 0, none⟩), .pointer (some ⟨x, 0, none⟩)] 45)).alloc (.cells #[.int .i64 kd, .int .i64 a, .int .i64 b, .slice da dl dc, .slice fa fl fc] 49) = w2 at *
  obtain ⟨A, hA⟩ : ∃ A, A = (w.alloc (.cells #[.pointer (some ⟨d, 0, none⟩), .pointer (some ⟨x, 0, none⟩)] 45)).heap.size := ⟨_, rfl⟩
  have hA1 : (w.alloc (.cells #[.pointer (some ⟨d, 0, none⟩), .pointer (some ⟨x, 0, none⟩)] 45)).heap.size = w.heap.size + 1 := by simp
  rw [← hA] at HAb HAn
  rw [hA1] at hA
  clear hA1
  obtain ⟨P, hP⟩ : ∃ P, P = w.heap.size := ⟨_, rfl⟩
  rw [← hP] at HP HPn hA
  rw [← hP]
  try rw [← hA]
  clear hP hA
  have cA0 : w2.cell? ⟨A, 0, none⟩ = some (.int .i64 kd) := HAb.out.at 0 _ rfl
  go_wp2_with fail
  refine (HPk.out w2).mono ?_
  rintro e w3 ⟨rfl, rfl⟩
  go_upto_region 25 with fail
  clear cA0
  obtain ⟨wz, rfl⟩ : ∃ q : World, q = w2 := ⟨_, rfl⟩
  refine wp_region_held_drew (S := fun W => Blk W P 45 #[.pointer (some ⟨d, 0, none⟩), .pointer (some ⟨x, 0, none⟩)] ∧ Blk W A 49 #[.int .i64 kd, .int .i64 a, .int .i64 b, .slice da dl dc, .slice fa fl fc]) (by kernel_rfl) (⟨HP.out.drew, HAb.out.drew⟩) (fun hHeld => ?_)
  dsimp only [Array.replicate, List.replicate, List.size_toArray, List.length_cons, List.length_nil, Nat.reduceAdd] at hHeld ⊢
  have HN0 := Lib.hid (PairTo.of_below HH.out (nu_drew (nu_refl wz)))
  generalize wz.drew = u0 at *
  refine take_l (i := 0) (v := ?_) rfl (by kernel_rfl) (by kernel_rfl) (by kernel_rfl) (fun _ _ _ h => h) (Or.inl ⟨by rfl, ?_⟩) (by assumption) ?_
  case refine_2 => (intro _ _; go_simp; all_goals with_reducible rfl)
  simp only [Act.put, List.setIfInBounds_toArray, List.set_cons_zero, List.set_cons_succ]
  refine take_l (i := 1) rfl (by kernel_rfl) (by kernel_rfl) (by kernel_rfl) (fun _ _ _ h => h) (Or.inl ⟨by rfl, fun W hS => e_pd (hS.1.at 0 _ rfl) (.tmp 124) rfl rfl⟩) (by assumption) ?_
  simp only [Act.put, List.setIfInBounds_toArray, List.set_cons_zero, List.set_cons_succ]
  refine take_l (i := 3) (v := ?_) rfl (by kernel_rfl) (by kernel_rfl) (by kernel_rfl) (fun _ _ _ h => h) (Or.inl ⟨by rfl, ?_⟩) (by assumption) ?_
  case refine_2 => (intro _ _; go_simp; all_goals with_reducible rfl)
  simp only [Act.put, List.setIfInBounds_toArray, List.set_cons_zero, List.set_cons_succ]
  refine take_l (i := 4) rfl (by kernel_rfl) (by kernel_rfl) (by kernel_rfl) (fun _ _ _ h => h) (Or.inl ⟨by rfl, fun W hS => e_px (hS.1.at 1 _ rfl) (.tmp 127) rfl rfl⟩) (by assumption) ?_
  simp only [Act.put, List.setIfInBounds_toArray, List.set_cons_zero, List.set_cons_succ]
  clear hHeld
  refine wpAnyH_ready (rs := [2]) (by kernel_rfl) (by simp) ?_
  refine cons_l rfl (fun K hK => ?_) AllReadyH.nil
  go_simp
  go_at_call 13
  refine (HN0.out.dev (P := fun e _ => e = .returned (.int .i64 E1)) (fun V hV hU => HE1.out ▸ flushD_all hV Hwl.out)).mono ?_
  rintro e u1 ⟨rfl, hn⟩
  have HN1 := Lib.hid hn
  clear hn HN0
  go_wp2_with fail
  refine hK.out _ _ ⟨blk_mods HP.out HN1.out.2 HPn.out, blk_mods HAb.out HN1.out.2 HAn.out⟩ (fun hHeld => ?_)
  clear hK K
  simp only [Act.put, List.setIfInBounds_toArray, List.set_cons_zero, List.set_cons_succ]
  clear hHeld
  refine wpAnyH_ready (rs := [5]) (by kernel_rfl) (by simp) ?_
  refine cons_l rfl (fun K hK => ?_) AllReadyH.nil
  go_simp
  go_at_call 44
  refine (HN1.out.ref (P := fun e _ => e = .returned (.int .i64 E2)) (fun V hV hU => HE2.out ▸ flushX_all hV Hwt.out)).mono ?_
  rintro e u2 ⟨rfl, hn⟩
  have HN2 := Lib.hid hn
  clear hn HN1
  go_wp2_with fail
  refine hK.out _ _ ⟨blk_mods HP.out HN2.out.2 HPn.out, blk_mods HAb.out HN2.out.2 HAn.out⟩ (fun hHeld => ?_)
  clear hK K
  simp only [Act.put, List.setIfInBounds_toArray, List.set_cons_zero, List.set_cons_succ]
  refine take_l (i := 6) (v := ?_) rfl (by kernel_rfl) (by kernel_rfl) (by kernel_rfl) (fun _ _ _ h => h) (Or.inl ⟨by rfl, ?_⟩) (by assumption) ?_
  case refine_2 => (intro _ _; go_simp; all_goals with_reducible rfl)
  simp only [Act.put, List.setIfInBounds_toArray, List.set_cons_zero, List.set_cons_succ]
  refine take_l (i := 7) (v := ?_) rfl (by kernel_rfl) (by kernel_rfl) (by kernel_rfl) (fun _ _ _ h => h) (Or.inl ⟨by rfl, ?_⟩) (by assumption) ?_
  case refine_2 => (intro _ _; go_simp; all_goals with_reducible rfl)
  simp only [Act.put, List.setIfInBounds_toArray, List.set_cons_zero, List.set_cons_succ]
  refine wpAnyH_done (by kernel_rfl) ?_ _
  clear hHeld
  go_wp2_with fail
  go_ret
  exact ⟨_, _, _, rfl, step_flush s, step_flush t, PairTo.ahead Hb2.out Hlt.out HN2.out⟩
set_option maxRecDepth 100000 in
set_option maxHeartbeats 8000000 in
theorem doq_3 (H : Pair2 w d x s t U) (hk : kd % 11 = 3) (hkb : -9223372036854775808 ≤ kd ∧ kd ≤ 9223372036854775807) (ha : -9223372036854775808 ≤ a ∧ a ≤ 9223372036854775807) (hb : -9223372036854775808 ≤ b ∧ b ≤ 9223372036854775807) (ys : List Nat) (hx : BytesIn w da dl dc ys) (hxf : Far w U da dl) (fs : List Int) (hf : NumsIn w fa fl fs) (hff : Far w U fa fl) (hfl : fl ≤ 1000) (hwl : s.wa.length ≤ 1000) (hrl : s.wr.length ≤ 1000) (hwt : t.wa.length ≤ 1000) (hrt : t.wr.length ≤ 1000) :
    Calls Try.prog 26 #[.agg #[.pointer (some ⟨d, 0, none⟩), .pointer (some ⟨x, 0, none⟩)], .agg #[.int .i64 kd, .int .i64 a, .int .i64 b, .slice da dl dc, .slice fa fl fc]] w (DoP U w d x s t) := by
  have hal1 := nu_alloc (nu_refl w) (.cells #[.pointer (some ⟨d, 0, none⟩), .pointer (some ⟨x, 0, none⟩)] 45)
  have hal2 := nu_alloc (nu_refl (w.alloc (.cells #[.pointer (some ⟨d, 0, none⟩), .pointer (some ⟨x, 0, none⟩)] 45))) (.cells #[.int .i64 kd, .int .i64 a, .int .i64 b, .slice da dl dc, .slice fa fl fc] 49)
  have hpm := Blk.made w 45 #[.pointer (some ⟨d, 0, none⟩), .pointer (some ⟨x, 0, none⟩)]
  have HP := Lib.hid (hpm.below hal2 hpm.lt)
  have HAb := Lib.hid (Blk.made (w.alloc (.cells #[.pointer (some ⟨d, 0, none⟩), .pointer (some ⟨x, 0, none⟩)] 45)) 49 #[.int .i64 kd, .int .i64 a, .int .i64 b, .slice da dl dc, .slice fa fl fc])
  have Hb2 := Lib.hid (nu_trans hal1 hal2)
  have HH := Lib.hid (H.below Hb2.out)
  have Hlt := Lib.hid H.lt
  have Hok := Lib.hid H.okD
  have Hokt := Lib.hid H.okX
  have Hwt := Lib.hid (show t.wa.length ≤ 1000000000 by omega)
  have Hrt := Lib.hid (show t.wr.length ≤ 1000000000 by omega)
  have HPn := Lib.hid (show ¬ U w.heap.size from fun h => Nat.lt_irrefl _ (H.lt _ h))
  have HAn := Lib.hid (show ¬ U (w.alloc (.cells #[.pointer (some ⟨d, 0, none⟩), .pointer (some ⟨x, 0, none⟩)] 45)).heap.size from fun h => by have h1 := H.lt _ h; have h2 := hal1.size; omega)
  have HX := Lib.hid (hx.keep Hb2.out)
  have HXF := Lib.hid (hxf.below Hb2.out)
  have HF := Lib.hid (hf.below Hb2.out)
  have HFF := Lib.hid (hff.below Hb2.out)
  have HPk := Lib.hid (show ∀ u : World, Calls Try.prog 18 #[.int .i64 kd, .int .i64 11] u fun e w' => e = .returned (.int .i64 (3 : Int)) ∧ u = w' from fun u => pick_any kd 11 3 u (by rw [hk]; rfl) (by omega) (by omega) hkb.1 hkb.2)
  have Hwl := Lib.hid (show s.wa.length ≤ 1000000000 by omega)
  have Hrl := Lib.hid (show s.wr.length ≤ 1000000000 by omega)
  have Ha := Lib.hid ha
  have Hb := Lib.hid hb
  have Hfl := Lib.hid (show fl ≤ 9223372036854775807 by omega)
  clear H hk hkb ha hb hx hxf hf hff hfl hwl hrl hwt hrt hal1 hal2 hpm
  obtain ⟨E1, hE1⟩ : ∃ E : Bool, E = s.spendC := ⟨_, rfl⟩
  have HE1 := Lib.hid hE1
  obtain ⟨E2, hE2⟩ : ∃ E : Bool, E = t.spendC := ⟨_, rfl⟩
  have HE2 := Lib.hid hE2
  clear hE1 hE2
  go_enter Try.func26, Try.ntmps26
  go_upto_region 1 with fail
  change Code.wp _ _ _ _ ((w.alloc (.cells #[.pointer (some ⟨d, 0, none⟩), .pointer (some ⟨x, 0, none⟩)] 45)).alloc (.cells #[.int .i64 kd, .int .i64 a, .int .i64 b, .slice da dl dc, .slice fa fl fc] 49))
  generalize (w.alloc (.cells #[.pointer (some ⟨d, 0, none⟩), .pointer (some ⟨x, 0, none⟩)] 45)).alloc (.cells #[.int .i64 kd, .int .i64 a, .int .i64 b, .slice da dl dc, .slice fa fl fc] 49) = w2 at *
  obtain ⟨A, hA⟩ : ∃ A, A = (w.alloc (.cells #[.pointer (some ⟨d, 0, none⟩), .pointer (some ⟨x, 0, none⟩)] 45)).heap.size := ⟨_, rfl⟩
  have hA1 : (w.alloc (.cells #[.pointer (some ⟨d, 0, none⟩), .pointer (some ⟨x, 0, none⟩)] 45)).heap.size = w.heap.size + 1 := by simp
  rw [← hA] at HAb HAn
  rw [hA1] at hA
  clear hA1
  obtain ⟨P, hP⟩ : ∃ P, P = w.heap.size := ⟨_, rfl⟩
  rw [← hP] at HP HPn hA
  rw [← hP]
  try rw [← hA]
  clear hP hA
  have cA0 : w2.cell? ⟨A, 0, none⟩ = some (.int .i64 kd) := HAb.out.at 0 _ rfl
  go_wp2_with fail
  refine (HPk.out w2).mono ?_
  rintro e w3 ⟨rfl, rfl⟩
  go_upto_region 27 with fail
  clear cA0
  obtain ⟨wz, rfl⟩ : ∃ q : World, q = w2 := ⟨_, rfl⟩
  refine wp_region_held_drew (S := fun W => Blk W P 45 #[.pointer (some ⟨d, 0, none⟩), .pointer (some ⟨x, 0, none⟩)] ∧ Blk W A 49 #[.int .i64 kd, .int .i64 a, .int .i64 b, .slice da dl dc, .slice fa fl fc]) (by kernel_rfl) (⟨HP.out.drew, HAb.out.drew⟩) (fun hHeld => ?_)
  dsimp only [Array.replicate, List.replicate, List.size_toArray, List.length_cons, List.length_nil, Nat.reduceAdd] at hHeld ⊢
  have HN0 := Lib.hid (PairTo.of_below HH.out (nu_drew (nu_refl wz)))
  generalize wz.drew = u0 at *
  refine take_l (i := 0) (v := ?_) rfl (by kernel_rfl) (by kernel_rfl) (by kernel_rfl) (fun _ _ _ h => h) (Or.inl ⟨by rfl, ?_⟩) (by assumption) ?_
  case refine_2 => (intro _ _; go_simp; all_goals with_reducible rfl)
  simp only [Act.put, List.setIfInBounds_toArray, List.set_cons_zero, List.set_cons_succ]
  refine take_l (i := 1) rfl (by kernel_rfl) (by kernel_rfl) (by kernel_rfl) (fun _ _ _ h => h) (Or.inl ⟨by rfl, fun W hS => e_pd (hS.1.at 0 _ rfl) (.tmp 133) rfl rfl⟩) (by assumption) ?_
  simp only [Act.put, List.setIfInBounds_toArray, List.set_cons_zero, List.set_cons_succ]
  refine take_l (i := 3) (v := ?_) rfl (by kernel_rfl) (by kernel_rfl) (by kernel_rfl) (fun _ _ _ h => h) (Or.inl ⟨by rfl, ?_⟩) (by assumption) ?_
  case refine_2 => (intro _ _; go_simp; all_goals with_reducible rfl)
  simp only [Act.put, List.setIfInBounds_toArray, List.set_cons_zero, List.set_cons_succ]
  refine take_l (i := 4) rfl (by kernel_rfl) (by kernel_rfl) (by kernel_rfl) (fun _ _ _ h => h) (Or.inl ⟨by rfl, fun W hS => e_px (hS.1.at 1 _ rfl) (.tmp 136) rfl rfl⟩) (by assumption) ?_
  simp only [Act.put, List.setIfInBounds_toArray, List.set_cons_zero, List.set_cons_succ]
  clear hHeld
  refine wpAnyH_ready (rs := [2]) (by kernel_rfl) (by simp) ?_
  refine cons_l rfl (fun K hK => ?_) AllReadyH.nil
  go_simp
  go_at_call 16
  refine (HN0.out.dev (P := fun e _ => e = .returned (.bool E1)) (fun V hV hU => HE1.out ▸ spendD_all hV)).mono ?_
  rintro e u1 ⟨rfl, hn⟩
  have HN1 := Lib.hid hn
  clear hn HN0
  go_wp2_with fail
  refine hK.out _ _ ⟨blk_mods HP.out HN1.out.2 HPn.out, blk_mods HAb.out HN1.out.2 HAn.out⟩ (fun hHeld => ?_)
  clear hK K
  simp only [Act.put, List.setIfInBounds_toArray, List.set_cons_zero, List.set_cons_succ]
  clear hHeld
  refine wpAnyH_ready (rs := [5]) (by kernel_rfl) (by simp) ?_
  refine cons_l rfl (fun K hK => ?_) AllReadyH.nil
  go_simp
  go_at_call 45
  refine (HN1.out.ref (P := fun e _ => e = .returned (.bool E2)) (fun V hV hU => HE2.out ▸ spendX_all hV)).mono ?_
  rintro e u2 ⟨rfl, hn⟩
  have HN2 := Lib.hid hn
  clear hn HN1
  go_wp2_with fail
  refine hK.out _ _ ⟨blk_mods HP.out HN2.out.2 HPn.out, blk_mods HAb.out HN2.out.2 HAn.out⟩ (fun hHeld => ?_)
  clear hK K
  simp only [Act.put, List.setIfInBounds_toArray, List.set_cons_zero, List.set_cons_succ]
  refine take_l (i := 6) (v := ?_) rfl (by kernel_rfl) (by kernel_rfl) (by kernel_rfl) (fun _ _ _ h => h) (Or.inl ⟨by rfl, ?_⟩) (by assumption) ?_
  case refine_2 => (intro _ _; go_simp; all_goals with_reducible rfl)
  simp only [Act.put, List.setIfInBounds_toArray, List.set_cons_zero, List.set_cons_succ]
  refine take_l (i := 7) (v := ?_) rfl (by kernel_rfl) (by kernel_rfl) (by kernel_rfl) (fun _ _ _ h => h) (Or.inl ⟨by rfl, ?_⟩) (by assumption) ?_
  case refine_2 => (intro _ _; go_simp; all_goals with_reducible rfl)
  simp only [Act.put, List.setIfInBounds_toArray, List.set_cons_zero, List.set_cons_succ]
  refine wpAnyH_done (by kernel_rfl) ?_ _
  clear hHeld
  go_wp2_with fail
  go_ret
  exact ⟨_, _, _, rfl, step_spend s, step_spend t, PairTo.ahead Hb2.out Hlt.out HN2.out⟩
set_option maxRecDepth 100000 in
set_option maxHeartbeats 8000000 in
theorem doq_7 (H : Pair2 w d x s t U) (hk : kd % 11 = 7) (hkb : -9223372036854775808 ≤ kd ∧ kd ≤ 9223372036854775807) (ha : -9223372036854775808 ≤ a ∧ a ≤ 9223372036854775807) (hb : -9223372036854775808 ≤ b ∧ b ≤ 9223372036854775807) (ys : List Nat) (hx : BytesIn w da dl dc ys) (hxf : Far w U da dl) (fs : List Int) (hf : NumsIn w fa fl fs) (hff : Far w U fa fl) (hfl : fl ≤ 1000) (hwl : s.wa.length ≤ 1000) (hrl : s.wr.length ≤ 1000) (hwt : t.wa.length ≤ 1000) (hrt : t.wr.length ≤ 1000) :
    Calls Try.prog 26 #[.agg #[.pointer (some ⟨d, 0, none⟩), .pointer (some ⟨x, 0, none⟩)], .agg #[.int .i64 kd, .int .i64 a, .int .i64 b, .slice da dl dc, .slice fa fl fc]] w (DoP U w d x s t) := by
  have hal1 := nu_alloc (nu_refl w) (.cells #[.pointer (some ⟨d, 0, none⟩), .pointer (some ⟨x, 0, none⟩)] 45)
  have hal2 := nu_alloc (nu_refl (w.alloc (.cells #[.pointer (some ⟨d, 0, none⟩), .pointer (some ⟨x, 0, none⟩)] 45))) (.cells #[.int .i64 kd, .int .i64 a, .int .i64 b, .slice da dl dc, .slice fa fl fc] 49)
  have hpm := Blk.made w 45 #[.pointer (some ⟨d, 0, none⟩), .pointer (some ⟨x, 0, none⟩)]
  have HP := Lib.hid (hpm.below hal2 hpm.lt)
  have HAb := Lib.hid (Blk.made (w.alloc (.cells #[.pointer (some ⟨d, 0, none⟩), .pointer (some ⟨x, 0, none⟩)] 45)) 49 #[.int .i64 kd, .int .i64 a, .int .i64 b, .slice da dl dc, .slice fa fl fc])
  have Hb2 := Lib.hid (nu_trans hal1 hal2)
  have HH := Lib.hid (H.below Hb2.out)
  have Hlt := Lib.hid H.lt
  have Hok := Lib.hid H.okD
  have Hokt := Lib.hid H.okX
  have Hwt := Lib.hid (show t.wa.length ≤ 1000000000 by omega)
  have Hrt := Lib.hid (show t.wr.length ≤ 1000000000 by omega)
  have HPn := Lib.hid (show ¬ U w.heap.size from fun h => Nat.lt_irrefl _ (H.lt _ h))
  have HAn := Lib.hid (show ¬ U (w.alloc (.cells #[.pointer (some ⟨d, 0, none⟩), .pointer (some ⟨x, 0, none⟩)] 45)).heap.size from fun h => by have h1 := H.lt _ h; have h2 := hal1.size; omega)
  have HX := Lib.hid (hx.keep Hb2.out)
  have HXF := Lib.hid (hxf.below Hb2.out)
  have HF := Lib.hid (hf.below Hb2.out)
  have HFF := Lib.hid (hff.below Hb2.out)
  have HPk := Lib.hid (show ∀ u : World, Calls Try.prog 18 #[.int .i64 kd, .int .i64 11] u fun e w' => e = .returned (.int .i64 (7 : Int)) ∧ u = w' from fun u => pick_any kd 11 7 u (by rw [hk]; rfl) (by omega) (by omega) hkb.1 hkb.2)
  have Hwl := Lib.hid (show s.wa.length ≤ 1000000000 by omega)
  have Hrl := Lib.hid (show s.wr.length ≤ 1000000000 by omega)
  have Ha := Lib.hid ha
  have Hb := Lib.hid hb
  have Hfl := Lib.hid (show fl ≤ 9223372036854775807 by omega)
  clear H hk hkb ha hb hx hxf hf hff hfl hwl hrl hwt hrt hal1 hal2 hpm
  obtain ⟨E1, hE1⟩ : ∃ E : Int, E = s.pokeC a b dl := ⟨_, rfl⟩
  have HE1 := Lib.hid hE1
  obtain ⟨E2, hE2⟩ : ∃ E : Int, E = t.pokeC a b dl := ⟨_, rfl⟩
  have HE2 := Lib.hid hE2
  clear hE1 hE2
  go_enter Try.func26, Try.ntmps26
  go_upto_region 1 with fail
  change Code.wp _ _ _ _ ((w.alloc (.cells #[.pointer (some ⟨d, 0, none⟩), .pointer (some ⟨x, 0, none⟩)] 45)).alloc (.cells #[.int .i64 kd, .int .i64 a, .int .i64 b, .slice da dl dc, .slice fa fl fc] 49))
  generalize (w.alloc (.cells #[.pointer (some ⟨d, 0, none⟩), .pointer (some ⟨x, 0, none⟩)] 45)).alloc (.cells #[.int .i64 kd, .int .i64 a, .int .i64 b, .slice da dl dc, .slice fa fl fc] 49) = w2 at *
  obtain ⟨A, hA⟩ : ∃ A, A = (w.alloc (.cells #[.pointer (some ⟨d, 0, none⟩), .pointer (some ⟨x, 0, none⟩)] 45)).heap.size := ⟨_, rfl⟩
  have hA1 : (w.alloc (.cells #[.pointer (some ⟨d, 0, none⟩), .pointer (some ⟨x, 0, none⟩)] 45)).heap.size = w.heap.size + 1 := by simp
  rw [← hA] at HAb HAn
  rw [hA1] at hA
  clear hA1
  obtain ⟨P, hP⟩ : ∃ P, P = w.heap.size := ⟨_, rfl⟩
  rw [← hP] at HP HPn hA
  rw [← hP]
  try rw [← hA]
  clear hP hA
  have cA0 : w2.cell? ⟨A, 0, none⟩ = some (.int .i64 kd) := HAb.out.at 0 _ rfl
  go_wp2_with fail
  refine (HPk.out w2).mono ?_
  rintro e w3 ⟨rfl, rfl⟩
  go_upto_region 38 with fail
  clear cA0
  obtain ⟨wz, rfl⟩ : ∃ q : World, q = w2 := ⟨_, rfl⟩
  refine wp_region_held_drew (S := fun W => Blk W P 45 #[.pointer (some ⟨d, 0, none⟩), .pointer (some ⟨x, 0, none⟩)] ∧ Blk W A 49 #[.int .i64 kd, .int .i64 a, .int .i64 b, .slice da dl dc, .slice fa fl fc]) (by kernel_rfl) (⟨HP.out.drew, HAb.out.drew⟩) (fun hHeld => ?_)
  dsimp only [Array.replicate, List.replicate, List.size_toArray, List.length_cons, List.length_nil, Nat.reduceAdd] at hHeld ⊢
  have HN0 := Lib.hid (PairTo.of_below HH.out (nu_drew (nu_refl wz)))
  generalize wz.drew = u0 at *
  refine take_l (i := 0) (v := ?_) rfl (by kernel_rfl) (by kernel_rfl) (by kernel_rfl) (fun _ _ _ h => h) (Or.inl ⟨by rfl, ?_⟩) (by assumption) ?_
  case refine_2 => (intro _ _; go_simp; all_goals with_reducible rfl)
  simp only [Act.put, List.setIfInBounds_toArray, List.set_cons_zero, List.set_cons_succ]
  refine take_l (i := 1) rfl (by kernel_rfl) (by kernel_rfl) (by kernel_rfl) (fun _ _ _ h => h) (Or.inl ⟨by rfl, fun W hS => e_pd (hS.1.at 0 _ rfl) (.tmp 174) rfl rfl⟩) (by assumption) ?_
  simp only [Act.put, List.setIfInBounds_toArray, List.set_cons_zero, List.set_cons_succ]
  refine take_l (i := 2) (v := ?_) rfl (by kernel_rfl) (by kernel_rfl) (by kernel_rfl) (fun _ _ _ h => h) (Or.inl ⟨by rfl, ?_⟩) (by assumption) ?_
  case refine_2 => (intro _ _; go_simp; all_goals with_reducible rfl)
  simp only [Act.put, List.setIfInBounds_toArray, List.set_cons_zero, List.set_cons_succ]
  refine take_l (i := 3) rfl (by kernel_rfl) (by kernel_rfl) (by kernel_rfl) (fun _ _ _ h => h) (Or.inl ⟨by rfl, fun W hS => e_int (hS.2.at 1 _ rfl) (.tmp 176) rfl rfl⟩) (by assumption) ?_
  simp only [Act.put, List.setIfInBounds_toArray, List.set_cons_zero, List.set_cons_succ]
  refine take_l (i := 4) (v := ?_) rfl (by kernel_rfl) (by kernel_rfl) (by kernel_rfl) (fun _ _ _ h => h) (Or.inl ⟨by rfl, ?_⟩) (by assumption) ?_
  case refine_2 => (intro _ _; go_simp; all_goals with_reducible rfl)
  simp only [Act.put, List.setIfInBounds_toArray, List.set_cons_zero, List.set_cons_succ]
  refine take_l (i := 5) rfl (by kernel_rfl) (by kernel_rfl) (by kernel_rfl) (fun _ _ _ h => h) (Or.inl ⟨by rfl, fun W hS => e_int (hS.2.at 2 _ rfl) (.tmp 178) rfl rfl⟩) (by assumption) ?_
  simp only [Act.put, List.setIfInBounds_toArray, List.set_cons_zero, List.set_cons_succ]
  refine take_l (i := 6) (v := ?_) rfl (by kernel_rfl) (by kernel_rfl) (by kernel_rfl) (fun _ _ _ h => h) (Or.inl ⟨by rfl, ?_⟩) (by assumption) ?_
  case refine_2 => (intro _ _; go_simp; all_goals with_reducible rfl)
  simp only [Act.put, List.setIfInBounds_toArray, List.set_cons_zero, List.set_cons_succ]
  refine take_l (i := 7) rfl (by kernel_rfl) (by kernel_rfl) (by kernel_rfl) (fun _ _ _ h => h) (Or.inl ⟨by rfl, fun W hS => e_sl22 (hS.2.at 3 _ rfl) (.tmp 180) rfl rfl⟩) (by assumption) ?_
  simp only [Act.put, List.setIfInBounds_toArray, List.set_cons_zero, List.set_cons_succ]
  refine take_l (i := 9) (v := ?_) rfl (by kernel_rfl) (by kernel_rfl) (by kernel_rfl) (fun _ _ _ h => h) (Or.inl ⟨by rfl, ?_⟩) (by assumption) ?_
  case refine_2 => (intro _ _; go_simp; all_goals with_reducible rfl)
  simp only [Act.put, List.setIfInBounds_toArray, List.set_cons_zero, List.set_cons_succ]
  refine take_l (i := 10) rfl (by kernel_rfl) (by kernel_rfl) (by kernel_rfl) (fun _ _ _ h => h) (Or.inl ⟨by rfl, fun W hS => e_px (hS.1.at 1 _ rfl) (.tmp 183) rfl rfl⟩) (by assumption) ?_
  simp only [Act.put, List.setIfInBounds_toArray, List.set_cons_zero, List.set_cons_succ]
  refine take_l (i := 11) (v := ?_) rfl (by kernel_rfl) (by kernel_rfl) (by kernel_rfl) (fun _ _ _ h => h) (Or.inl ⟨by rfl, ?_⟩) (by assumption) ?_
  case refine_2 => (intro _ _; go_simp; all_goals with_reducible rfl)
  simp only [Act.put, List.setIfInBounds_toArray, List.set_cons_zero, List.set_cons_succ]
  refine take_l (i := 12) rfl (by kernel_rfl) (by kernel_rfl) (by kernel_rfl) (fun _ _ _ h => h) (Or.inl ⟨by rfl, fun W hS => e_int (hS.2.at 1 _ rfl) (.tmp 185) rfl rfl⟩) (by assumption) ?_
  simp only [Act.put, List.setIfInBounds_toArray, List.set_cons_zero, List.set_cons_succ]
  refine take_l (i := 13) (v := ?_) rfl (by kernel_rfl) (by kernel_rfl) (by kernel_rfl) (fun _ _ _ h => h) (Or.inl ⟨by rfl, ?_⟩) (by assumption) ?_
  case refine_2 => (intro _ _; go_simp; all_goals with_reducible rfl)
  simp only [Act.put, List.setIfInBounds_toArray, List.set_cons_zero, List.set_cons_succ]
  refine take_l (i := 14) rfl (by kernel_rfl) (by kernel_rfl) (by kernel_rfl) (fun _ _ _ h => h) (Or.inl ⟨by rfl, fun W hS => e_int (hS.2.at 2 _ rfl) (.tmp 187) rfl rfl⟩) (by assumption) ?_
  simp only [Act.put, List.setIfInBounds_toArray, List.set_cons_zero, List.set_cons_succ]
  refine take_l (i := 15) (v := ?_) rfl (by kernel_rfl) (by kernel_rfl) (by kernel_rfl) (fun _ _ _ h => h) (Or.inl ⟨by rfl, ?_⟩) (by assumption) ?_
  case refine_2 => (intro _ _; go_simp; all_goals with_reducible rfl)
  simp only [Act.put, List.setIfInBounds_toArray, List.set_cons_zero, List.set_cons_succ]
  refine take_l (i := 16) rfl (by kernel_rfl) (by kernel_rfl) (by kernel_rfl) (fun _ _ _ h => h) (Or.inl ⟨by rfl, fun W hS => e_sl22 (hS.2.at 3 _ rfl) (.tmp 189) rfl rfl⟩) (by assumption) ?_
  simp only [Act.put, List.setIfInBounds_toArray, List.set_cons_zero, List.set_cons_succ]
  clear hHeld
  refine wpAnyH_ready (rs := [8]) (by kernel_rfl) (by simp) ?_
  refine cons_l rfl (fun K hK => ?_) AllReadyH.nil
  go_simp
  go_at_call 34
  refine (HN0.out.dev (P := fun e _ => e = .returned (.int .i64 E1)) (fun V hV hU => HE1.out ▸ pokeD_all hV a b da dl dc ys (HX.out.mods0 HN0.out.2 (fun hp ad had => (HXF.out hp ad had).2)) Hb.out Hwl.out)).mono ?_
  rintro e u1 ⟨rfl, hn⟩
  have HN1 := Lib.hid hn
  clear hn HN0
  go_wp2_with fail
  refine hK.out _ _ ⟨blk_mods HP.out HN1.out.2 HPn.out, blk_mods HAb.out HN1.out.2 HAn.out⟩ (fun hHeld => ?_)
  clear hK K
  simp only [Act.put, List.setIfInBounds_toArray, List.set_cons_zero, List.set_cons_succ]
  clear hHeld
  refine wpAnyH_ready (rs := [17]) (by kernel_rfl) (by simp) ?_
  refine cons_l rfl (fun K hK => ?_) AllReadyH.nil
  go_simp
  go_at_call 49
  refine (HN1.out.ref (P := fun e _ => e = .returned (.int .i64 E2)) (fun V hV hU => HE2.out ▸ pokeX_all hV a b da dl dc ys (HX.out.mods0 HN1.out.2 (fun hp ad had => (HXF.out hp ad had).2)) Hb.out Hwt.out)).mono ?_
  rintro e u2 ⟨rfl, hn⟩
  have HN2 := Lib.hid hn
  clear hn HN1
  go_wp2_with fail
  refine hK.out _ _ ⟨blk_mods HP.out HN2.out.2 HPn.out, blk_mods HAb.out HN2.out.2 HAn.out⟩ (fun hHeld => ?_)
  clear hK K
  simp only [Act.put, List.setIfInBounds_toArray, List.set_cons_zero, List.set_cons_succ]
  refine take_l (i := 18) (v := ?_) rfl (by kernel_rfl) (by kernel_rfl) (by kernel_rfl) (fun _ _ _ h => h) (Or.inl ⟨by rfl, ?_⟩) (by assumption) ?_
  case refine_2 => (intro _ _; go_simp; all_goals with_reducible rfl)
  simp only [Act.put, List.setIfInBounds_toArray, List.set_cons_zero, List.set_cons_succ]
  refine take_l (i := 19) (v := ?_) rfl (by kernel_rfl) (by kernel_rfl) (by kernel_rfl) (fun _ _ _ h => h) (Or.inl ⟨by rfl, ?_⟩) (by assumption) ?_
  case refine_2 => (intro _ _; go_simp; all_goals with_reducible rfl)
  simp only [Act.put, List.setIfInBounds_toArray, List.set_cons_zero, List.set_cons_succ]
  refine wpAnyH_done (by kernel_rfl) ?_ _
  clear hHeld
  go_wp2_with fail
  go_ret
  exact ⟨_, _, _, rfl, step_poke s a b dl ys, step_poke t a b dl ys, PairTo.ahead Hb2.out Hlt.out HN2.out⟩
set_option maxRecDepth 100000 in
set_option maxHeartbeats 8000000 in
theorem doq_8 (H : Pair2 w d x s t U) (hk : kd % 11 = 8) (hkb : -9223372036854775808 ≤ kd ∧ kd ≤ 9223372036854775807) (ha : -9223372036854775808 ≤ a ∧ a ≤ 9223372036854775807) (hb : -9223372036854775808 ≤ b ∧ b ≤ 9223372036854775807) (ys : List Nat) (hx : BytesIn w da dl dc ys) (hxf : Far w U da dl) (fs : List Int) (hf : NumsIn w fa fl fs) (hff : Far w U fa fl) (hfl : fl ≤ 1000) (hwl : s.wa.length ≤ 1000) (hrl : s.wr.length ≤ 1000) (hwt : t.wa.length ≤ 1000) (hrt : t.wr.length ≤ 1000) :
    Calls Try.prog 26 #[.agg #[.pointer (some ⟨d, 0, none⟩), .pointer (some ⟨x, 0, none⟩)], .agg #[.int .i64 kd, .int .i64 a, .int .i64 b, .slice da dl dc, .slice fa fl fc]] w (DoP U w d x s t) := by
  have hal1 := nu_alloc (nu_refl w) (.cells #[.pointer (some ⟨d, 0, none⟩), .pointer (some ⟨x, 0, none⟩)] 45)
  have hal2 := nu_alloc (nu_refl (w.alloc (.cells #[.pointer (some ⟨d, 0, none⟩), .pointer (some ⟨x, 0, none⟩)] 45))) (.cells #[.int .i64 kd, .int .i64 a, .int .i64 b, .slice da dl dc, .slice fa fl fc] 49)
  have hpm := Blk.made w 45 #[.pointer (some ⟨d, 0, none⟩), .pointer (some ⟨x, 0, none⟩)]
  have HP := Lib.hid (hpm.below hal2 hpm.lt)
  have HAb := Lib.hid (Blk.made (w.alloc (.cells #[.pointer (some ⟨d, 0, none⟩), .pointer (some ⟨x, 0, none⟩)] 45)) 49 #[.int .i64 kd, .int .i64 a, .int .i64 b, .slice da dl dc, .slice fa fl fc])
  have Hb2 := Lib.hid (nu_trans hal1 hal2)
  have HH := Lib.hid (H.below Hb2.out)
  have Hlt := Lib.hid H.lt
  have Hok := Lib.hid H.okD
  have Hokt := Lib.hid H.okX
  have Hwt := Lib.hid (show t.wa.length ≤ 1000000000 by omega)
  have Hrt := Lib.hid (show t.wr.length ≤ 1000000000 by omega)
  have HPn := Lib.hid (show ¬ U w.heap.size from fun h => Nat.lt_irrefl _ (H.lt _ h))
  have HAn := Lib.hid (show ¬ U (w.alloc (.cells #[.pointer (some ⟨d, 0, none⟩), .pointer (some ⟨x, 0, none⟩)] 45)).heap.size from fun h => by have h1 := H.lt _ h; have h2 := hal1.size; omega)
  have HX := Lib.hid (hx.keep Hb2.out)
  have HXF := Lib.hid (hxf.below Hb2.out)
  have HF := Lib.hid (hf.below Hb2.out)
  have HFF := Lib.hid (hff.below Hb2.out)
  have HPk := Lib.hid (show ∀ u : World, Calls Try.prog 18 #[.int .i64 kd, .int .i64 11] u fun e w' => e = .returned (.int .i64 (8 : Int)) ∧ u = w' from fun u => pick_any kd 11 8 u (by rw [hk]; rfl) (by omega) (by omega) hkb.1 hkb.2)
  have Hwl := Lib.hid (show s.wa.length ≤ 1000000000 by omega)
  have Hrl := Lib.hid (show s.wr.length ≤ 1000000000 by omega)
  have Ha := Lib.hid ha
  have Hb := Lib.hid hb
  have Hfl := Lib.hid (show fl ≤ 9223372036854775807 by omega)
  clear H hk hkb ha hb hx hxf hf hff hfl hwl hrl hwt hrt hal1 hal2 hpm
  obtain ⟨E1, hE1⟩ : ∃ E : Int, E = s.copyC a b := ⟨_, rfl⟩
  have HE1 := Lib.hid hE1
  obtain ⟨E2, hE2⟩ : ∃ E : Int, E = t.copyC a b := ⟨_, rfl⟩
  have HE2 := Lib.hid hE2
  clear hE1 hE2
  go_enter Try.func26, Try.ntmps26
  go_upto_region 1 with fail
  change Code.wp _ _ _ _ ((w.alloc (.cells #[.pointer (some ⟨d, 0, none⟩), .pointer (some ⟨x, 0, none⟩)] 45)).alloc (.cells #[.int .i64 kd, .int .i64 a, .int .i64 b, .slice da dl dc, .slice fa fl fc] 49))
  generalize (w.alloc (.cells #[.pointer (some ⟨d, 0, none⟩), .pointer (some ⟨x, 0, none⟩)] 45)).alloc (.cells #[.int .i64 kd, .int .i64 a, .int .i64 b, .slice da dl dc, .slice fa fl fc] 49) = w2 at *
  obtain ⟨A, hA⟩ : ∃ A, A = (w.alloc (.cells #[.pointer (some ⟨d, 0, none⟩), .pointer (some ⟨x, 0, none⟩)] 45)).heap.size := ⟨_, rfl⟩
  have hA1 : (w.alloc (.cells #[.pointer (some ⟨d, 0, none⟩), .pointer (some ⟨x, 0, none⟩)] 45)).heap.size = w.heap.size + 1 := by simp
  rw [← hA] at HAb HAn
  rw [hA1] at hA
  clear hA1
  obtain ⟨P, hP⟩ : ∃ P, P = w.heap.size := ⟨_, rfl⟩
  rw [← hP] at HP HPn hA
  rw [← hP]
  try rw [← hA]
  clear hP hA
  have cA0 : w2.cell? ⟨A, 0, none⟩ = some (.int .i64 kd) := HAb.out.at 0 _ rfl
  go_wp2_with fail
  refine (HPk.out w2).mono ?_
  rintro e w3 ⟨rfl, rfl⟩
  go_upto_region 40 with fail
  clear cA0
  obtain ⟨wz, rfl⟩ : ∃ q : World, q = w2 := ⟨_, rfl⟩
  refine wp_region_held_drew (S := fun W => Blk W P 45 #[.pointer (some ⟨d, 0, none⟩), .pointer (some ⟨x, 0, none⟩)] ∧ Blk W A 49 #[.int .i64 kd, .int .i64 a, .int .i64 b, .slice da dl dc, .slice fa fl fc]) (by kernel_rfl) (⟨HP.out.drew, HAb.out.drew⟩) (fun hHeld => ?_)
  dsimp only [Array.replicate, List.replicate, List.size_toArray, List.length_cons, List.length_nil, Nat.reduceAdd] at hHeld ⊢
  have HN0 := Lib.hid (PairTo.of_below HH.out (nu_drew (nu_refl wz)))
  generalize wz.drew = u0 at *
  refine take_l (i := 0) (v := ?_) rfl (by kernel_rfl) (by kernel_rfl) (by kernel_rfl) (fun _ _ _ h => h) (Or.inl ⟨by rfl, ?_⟩) (by assumption) ?_
  case refine_2 => (intro _ _; go_simp; all_goals with_reducible rfl)
  simp only [Act.put, List.setIfInBounds_toArray, List.set_cons_zero, List.set_cons_succ]
  refine take_l (i := 1) rfl (by kernel_rfl) (by kernel_rfl) (by kernel_rfl) (fun _ _ _ h => h) (Or.inl ⟨by rfl, fun W hS => e_pd (hS.1.at 0 _ rfl) (.tmp 195) rfl rfl⟩) (by assumption) ?_
  simp only [Act.put, List.setIfInBounds_toArray, List.set_cons_zero, List.set_cons_succ]
  refine take_l (i := 2) (v := ?_) rfl (by kernel_rfl) (by kernel_rfl) (by kernel_rfl) (fun _ _ _ h => h) (Or.inl ⟨by rfl, ?_⟩) (by assumption) ?_
  case refine_2 => (intro _ _; go_simp; all_goals with_reducible rfl)
  simp only [Act.put, List.setIfInBounds_toArray, List.set_cons_zero, List.set_cons_succ]
  refine take_l (i := 3) rfl (by kernel_rfl) (by kernel_rfl) (by kernel_rfl) (fun _ _ _ h => h) (Or.inl ⟨by rfl, fun W hS => e_int (hS.2.at 1 _ rfl) (.tmp 197) rfl rfl⟩) (by assumption) ?_
  simp only [Act.put, List.setIfInBounds_toArray, List.set_cons_zero, List.set_cons_succ]
  refine take_l (i := 4) (v := ?_) rfl (by kernel_rfl) (by kernel_rfl) (by kernel_rfl) (fun _ _ _ h => h) (Or.inl ⟨by rfl, ?_⟩) (by assumption) ?_
  case refine_2 => (intro _ _; go_simp; all_goals with_reducible rfl)
  simp only [Act.put, List.setIfInBounds_toArray, List.set_cons_zero, List.set_cons_succ]
  refine take_l (i := 5) rfl (by kernel_rfl) (by kernel_rfl) (by kernel_rfl) (fun _ _ _ h => h) (Or.inl ⟨by rfl, fun W hS => e_int (hS.2.at 2 _ rfl) (.tmp 199) rfl rfl⟩) (by assumption) ?_
  simp only [Act.put, List.setIfInBounds_toArray, List.set_cons_zero, List.set_cons_succ]
  refine take_l (i := 7) (v := ?_) rfl (by kernel_rfl) (by kernel_rfl) (by kernel_rfl) (fun _ _ _ h => h) (Or.inl ⟨by rfl, ?_⟩) (by assumption) ?_
  case refine_2 => (intro _ _; go_simp; all_goals with_reducible rfl)
  simp only [Act.put, List.setIfInBounds_toArray, List.set_cons_zero, List.set_cons_succ]
  refine take_l (i := 8) rfl (by kernel_rfl) (by kernel_rfl) (by kernel_rfl) (fun _ _ _ h => h) (Or.inl ⟨by rfl, fun W hS => e_px (hS.1.at 1 _ rfl) (.tmp 202) rfl rfl⟩) (by assumption) ?_
  simp only [Act.put, List.setIfInBounds_toArray, List.set_cons_zero, List.set_cons_succ]
  refine take_l (i := 9) (v := ?_) rfl (by kernel_rfl) (by kernel_rfl) (by kernel_rfl) (fun _ _ _ h => h) (Or.inl ⟨by rfl, ?_⟩) (by assumption) ?_
  case refine_2 => (intro _ _; go_simp; all_goals with_reducible rfl)
  simp only [Act.put, List.setIfInBounds_toArray, List.set_cons_zero, List.set_cons_succ]
  refine take_l (i := 10) rfl (by kernel_rfl) (by kernel_rfl) (by kernel_rfl) (fun _ _ _ h => h) (Or.inl ⟨by rfl, fun W hS => e_int (hS.2.at 1 _ rfl) (.tmp 204) rfl rfl⟩) (by assumption) ?_
  simp only [Act.put, List.setIfInBounds_toArray, List.set_cons_zero, List.set_cons_succ]
  refine take_l (i := 11) (v := ?_) rfl (by kernel_rfl) (by kernel_rfl) (by kernel_rfl) (fun _ _ _ h => h) (Or.inl ⟨by rfl, ?_⟩) (by assumption) ?_
  case refine_2 => (intro _ _; go_simp; all_goals with_reducible rfl)
  simp only [Act.put, List.setIfInBounds_toArray, List.set_cons_zero, List.set_cons_succ]
  refine take_l (i := 12) rfl (by kernel_rfl) (by kernel_rfl) (by kernel_rfl) (fun _ _ _ h => h) (Or.inl ⟨by rfl, fun W hS => e_int (hS.2.at 2 _ rfl) (.tmp 206) rfl rfl⟩) (by assumption) ?_
  simp only [Act.put, List.setIfInBounds_toArray, List.set_cons_zero, List.set_cons_succ]
  clear hHeld
  refine wpAnyH_ready (rs := [6]) (by kernel_rfl) (by simp) ?_
  refine cons_l rfl (fun K hK => ?_) AllReadyH.nil
  go_simp
  go_at_call 35
  refine (HN0.out.dev (P := fun e _ => e = .returned (.int .i64 E1)) (fun V hV hU => HE1.out ▸ copyD_all hV a b Hwl.out)).mono ?_
  rintro e u1 ⟨rfl, hn⟩
  have HN1 := Lib.hid hn
  clear hn HN0
  go_wp2_with fail
  refine hK.out _ _ ⟨blk_mods HP.out HN1.out.2 HPn.out, blk_mods HAb.out HN1.out.2 HAn.out⟩ (fun hHeld => ?_)
  clear hK K
  simp only [Act.put, List.setIfInBounds_toArray, List.set_cons_zero, List.set_cons_succ]
  clear hHeld
  refine wpAnyH_ready (rs := [13]) (by kernel_rfl) (by simp) ?_
  refine cons_l rfl (fun K hK => ?_) AllReadyH.nil
  go_simp
  go_at_call 50
  refine (HN1.out.ref (P := fun e _ => e = .returned (.int .i64 E2)) (fun V hV hU => HE2.out ▸ copyX_all hV a b Hwt.out)).mono ?_
  rintro e u2 ⟨rfl, hn⟩
  have HN2 := Lib.hid hn
  clear hn HN1
  go_wp2_with fail
  refine hK.out _ _ ⟨blk_mods HP.out HN2.out.2 HPn.out, blk_mods HAb.out HN2.out.2 HAn.out⟩ (fun hHeld => ?_)
  clear hK K
  simp only [Act.put, List.setIfInBounds_toArray, List.set_cons_zero, List.set_cons_succ]
  refine take_l (i := 14) (v := ?_) rfl (by kernel_rfl) (by kernel_rfl) (by kernel_rfl) (fun _ _ _ h => h) (Or.inl ⟨by rfl, ?_⟩) (by assumption) ?_
  case refine_2 => (intro _ _; go_simp; all_goals with_reducible rfl)
  simp only [Act.put, List.setIfInBounds_toArray, List.set_cons_zero, List.set_cons_succ]
  refine take_l (i := 15) (v := ?_) rfl (by kernel_rfl) (by kernel_rfl) (by kernel_rfl) (fun _ _ _ h => h) (Or.inl ⟨by rfl, ?_⟩) (by assumption) ?_
  case refine_2 => (intro _ _; go_simp; all_goals with_reducible rfl)
  simp only [Act.put, List.setIfInBounds_toArray, List.set_cons_zero, List.set_cons_succ]
  refine wpAnyH_done (by kernel_rfl) ?_ _
  clear hHeld
  go_wp2_with fail
  go_ret
  exact ⟨_, _, _, rfl, step_copy s a b, step_copy t a b, PairTo.ahead Hb2.out Hlt.out HN2.out⟩
set_option maxRecDepth 100000 in
set_option maxHeartbeats 8000000 in
theorem doq_10 (H : Pair2 w d x s t U) (hk : kd % 11 = 10) (hkb : -9223372036854775808 ≤ kd ∧ kd ≤ 9223372036854775807) (ha : -9223372036854775808 ≤ a ∧ a ≤ 9223372036854775807) (hb : -9223372036854775808 ≤ b ∧ b ≤ 9223372036854775807) (ys : List Nat) (hx : BytesIn w da dl dc ys) (hxf : Far w U da dl) (fs : List Int) (hf : NumsIn w fa fl fs) (hff : Far w U fa fl) (hfl : fl ≤ 1000) (hwl : s.wa.length ≤ 1000) (hrl : s.wr.length ≤ 1000) (hwt : t.wa.length ≤ 1000) (hrt : t.wr.length ≤ 1000) :
    Calls Try.prog 26 #[.agg #[.pointer (some ⟨d, 0, none⟩), .pointer (some ⟨x, 0, none⟩)], .agg #[.int .i64 kd, .int .i64 a, .int .i64 b, .slice da dl dc, .slice fa fl fc]] w (DoP U w d x s t) := by
  have hal1 := nu_alloc (nu_refl w) (.cells #[.pointer (some ⟨d, 0, none⟩), .pointer (some ⟨x, 0, none⟩)] 45)
  have hal2 := nu_alloc (nu_refl (w.alloc (.cells #[.pointer (some ⟨d, 0, none⟩), .pointer (some ⟨x, 0, none⟩)] 45))) (.cells #[.int .i64 kd, .int .i64 a, .int .i64 b, .slice da dl dc, .slice fa fl fc] 49)
  have hpm := Blk.made w 45 #[.pointer (some ⟨d, 0, none⟩), .pointer (some ⟨x, 0, none⟩)]
  have HP := Lib.hid (hpm.below hal2 hpm.lt)
  have HAb := Lib.hid (Blk.made (w.alloc (.cells #[.pointer (some ⟨d, 0, none⟩), .pointer (some ⟨x, 0, none⟩)] 45)) 49 #[.int .i64 kd, .int .i64 a, .int .i64 b, .slice da dl dc, .slice fa fl fc])
  have Hb2 := Lib.hid (nu_trans hal1 hal2)
  have HH := Lib.hid (H.below Hb2.out)
  have Hlt := Lib.hid H.lt
  have Hok := Lib.hid H.okD
  have Hokt := Lib.hid H.okX
  have Hwt := Lib.hid (show t.wa.length ≤ 1000000000 by omega)
  have Hrt := Lib.hid (show t.wr.length ≤ 1000000000 by omega)
  have HPn := Lib.hid (show ¬ U w.heap.size from fun h => Nat.lt_irrefl _ (H.lt _ h))
  have HAn := Lib.hid (show ¬ U (w.alloc (.cells #[.pointer (some ⟨d, 0, none⟩), .pointer (some ⟨x, 0, none⟩)] 45)).heap.size from fun h => by have h1 := H.lt _ h; have h2 := hal1.size; omega)
  have HX := Lib.hid (hx.keep Hb2.out)
  have HXF := Lib.hid (hxf.below Hb2.out)
  have HF := Lib.hid (hf.below Hb2.out)
  have HFF := Lib.hid (hff.below Hb2.out)
  have HPk := Lib.hid (show ∀ u : World, Calls Try.prog 18 #[.int .i64 kd, .int .i64 11] u fun e w' => e = .returned (.int .i64 (10 : Int)) ∧ u = w' from fun u => pick_any kd 11 10 u (by rw [hk]; rfl) (by omega) (by omega) hkb.1 hkb.2)
  have Hwl := Lib.hid (show s.wa.length ≤ 1000000000 by omega)
  have Hrl := Lib.hid (show s.wr.length ≤ 1000000000 by omega)
  have Ha := Lib.hid ha
  have Hb := Lib.hid hb
  have Hfl := Lib.hid (show fl ≤ 9223372036854775807 by omega)
  clear H hk hkb ha hb hx hxf hf hff hfl hwl hrl hwt hrt hal1 hal2 hpm
  obtain ⟨E1, hE1⟩ : ∃ E : Int, E = s.backC a := ⟨_, rfl⟩
  have HE1 := Lib.hid hE1
  obtain ⟨E2, hE2⟩ : ∃ E : Int, E = t.backC a := ⟨_, rfl⟩
  have HE2 := Lib.hid hE2
  clear hE1 hE2
  go_enter Try.func26, Try.ntmps26
  go_upto_region 1 with fail
  change Code.wp _ _ _ _ ((w.alloc (.cells #[.pointer (some ⟨d, 0, none⟩), .pointer (some ⟨x, 0, none⟩)] 45)).alloc (.cells #[.int .i64 kd, .int .i64 a, .int .i64 b, .slice da dl dc, .slice fa fl fc] 49))
  generalize (w.alloc (.cells #[.pointer (some ⟨d, 0, none⟩), .pointer (some ⟨x, 0, none⟩)] 45)).alloc (.cells #[.int .i64 kd, .int .i64 a, .int .i64 b, .slice da dl dc, .slice fa fl fc] 49) = w2 at *
  obtain ⟨A, hA⟩ : ∃ A, A = (w.alloc (.cells #[.pointer (some ⟨d, 0, none⟩), .pointer (some ⟨x, 0, none⟩)] 45)).heap.size := ⟨_, rfl⟩
  have hA1 : (w.alloc (.cells #[.pointer (some ⟨d, 0, none⟩), .pointer (some ⟨x, 0, none⟩)] 45)).heap.size = w.heap.size + 1 := by simp
  rw [← hA] at HAb HAn
  rw [hA1] at hA
  clear hA1
  obtain ⟨P, hP⟩ : ∃ P, P = w.heap.size := ⟨_, rfl⟩
  rw [← hP] at HP HPn hA
  rw [← hP]
  try rw [← hA]
  clear hP hA
  have cA0 : w2.cell? ⟨A, 0, none⟩ = some (.int .i64 kd) := HAb.out.at 0 _ rfl
  go_wp2_with fail
  refine (HPk.out w2).mono ?_
  rintro e w3 ⟨rfl, rfl⟩
  go_upto_region 2 with fail
  clear cA0
  obtain ⟨wz, rfl⟩ : ∃ q : World, q = w2 := ⟨_, rfl⟩
  refine wp_region_held_drew (S := fun W => Blk W P 45 #[.pointer (some ⟨d, 0, none⟩), .pointer (some ⟨x, 0, none⟩)] ∧ Blk W A 49 #[.int .i64 kd, .int .i64 a, .int .i64 b, .slice da dl dc, .slice fa fl fc]) (by kernel_rfl) (⟨HP.out.drew, HAb.out.drew⟩) (fun hHeld => ?_)
  dsimp only [Array.replicate, List.replicate, List.size_toArray, List.length_cons, List.length_nil, Nat.reduceAdd] at hHeld ⊢
  have HN0 := Lib.hid (PairTo.of_below HH.out (nu_drew (nu_refl wz)))
  generalize wz.drew = u0 at *
  refine take_l (i := 0) (v := ?_) rfl (by kernel_rfl) (by kernel_rfl) (by kernel_rfl) (fun _ _ _ h => h) (Or.inl ⟨by rfl, ?_⟩) (by assumption) ?_
  case refine_2 => (intro _ _; go_simp; all_goals with_reducible rfl)
  simp only [Act.put, List.setIfInBounds_toArray, List.set_cons_zero, List.set_cons_succ]
  refine take_l (i := 1) rfl (by kernel_rfl) (by kernel_rfl) (by kernel_rfl) (fun _ _ _ h => h) (Or.inl ⟨by rfl, fun W hS => e_pd (hS.1.at 0 _ rfl) (.tmp 23) rfl rfl⟩) (by assumption) ?_
  simp only [Act.put, List.setIfInBounds_toArray, List.set_cons_zero, List.set_cons_succ]
  refine take_l (i := 2) (v := ?_) rfl (by kernel_rfl) (by kernel_rfl) (by kernel_rfl) (fun _ _ _ h => h) (Or.inl ⟨by rfl, ?_⟩) (by assumption) ?_
  case refine_2 => (intro _ _; go_simp; all_goals with_reducible rfl)
  simp only [Act.put, List.setIfInBounds_toArray, List.set_cons_zero, List.set_cons_succ]
  refine take_l (i := 3) rfl (by kernel_rfl) (by kernel_rfl) (by kernel_rfl) (fun _ _ _ h => h) (Or.inl ⟨by rfl, fun W hS => e_int (hS.2.at 1 _ rfl) (.tmp 25) rfl rfl⟩) (by assumption) ?_
  simp only [Act.put, List.setIfInBounds_toArray, List.set_cons_zero, List.set_cons_succ]
  refine take_l (i := 5) (v := ?_) rfl (by kernel_rfl) (by kernel_rfl) (by kernel_rfl) (fun _ _ _ h => h) (Or.inl ⟨by rfl, ?_⟩) (by assumption) ?_
  case refine_2 => (intro _ _; go_simp; all_goals with_reducible rfl)
  simp only [Act.put, List.setIfInBounds_toArray, List.set_cons_zero, List.set_cons_succ]
  refine take_l (i := 6) rfl (by kernel_rfl) (by kernel_rfl) (by kernel_rfl) (fun _ _ _ h => h) (Or.inl ⟨by rfl, fun W hS => e_px (hS.1.at 1 _ rfl) (.tmp 28) rfl rfl⟩) (by assumption) ?_
  simp only [Act.put, List.setIfInBounds_toArray, List.set_cons_zero, List.set_cons_succ]
  refine take_l (i := 7) (v := ?_) rfl (by kernel_rfl) (by kernel_rfl) (by kernel_rfl) (fun _ _ _ h => h) (Or.inl ⟨by rfl, ?_⟩) (by assumption) ?_
  case refine_2 => (intro _ _; go_simp; all_goals with_reducible rfl)
  simp only [Act.put, List.setIfInBounds_toArray, List.set_cons_zero, List.set_cons_succ]
  refine take_l (i := 8) rfl (by kernel_rfl) (by kernel_rfl) (by kernel_rfl) (fun _ _ _ h => h) (Or.inl ⟨by rfl, fun W hS => e_int (hS.2.at 1 _ rfl) (.tmp 30) rfl rfl⟩) (by assumption) ?_
  simp only [Act.put, List.setIfInBounds_toArray, List.set_cons_zero, List.set_cons_succ]
  clear hHeld
  refine wpAnyH_ready (rs := [4]) (by kernel_rfl) (by simp) ?_
  refine cons_l rfl (fun K hK => ?_) AllReadyH.nil
  go_simp
  go_at_call 30
  refine (HN0.out.dev (P := fun e _ => e = .returned (.int .i64 E1)) (fun V hV hU => HE1.out ▸ backD_all hV a)).mono ?_
  rintro e u1 ⟨rfl, hn⟩
  have HN1 := Lib.hid hn
  clear hn HN0
  go_wp2_with fail
  refine hK.out _ _ ⟨blk_mods HP.out HN1.out.2 HPn.out, blk_mods HAb.out HN1.out.2 HAn.out⟩ (fun hHeld => ?_)
  clear hK K
  simp only [Act.put, List.setIfInBounds_toArray, List.set_cons_zero, List.set_cons_succ]
  clear hHeld
  refine wpAnyH_ready (rs := [9]) (by kernel_rfl) (by simp) ?_
  refine cons_l rfl (fun K hK => ?_) AllReadyH.nil
  go_simp
  go_at_call 52
  refine (HN1.out.ref (P := fun e _ => e = .returned (.int .i64 E2)) (fun V hV hU => HE2.out ▸ backX_all hV a)).mono ?_
  rintro e u2 ⟨rfl, hn⟩
  have HN2 := Lib.hid hn
  clear hn HN1
  go_wp2_with fail
  refine hK.out _ _ ⟨blk_mods HP.out HN2.out.2 HPn.out, blk_mods HAb.out HN2.out.2 HAn.out⟩ (fun hHeld => ?_)
  clear hK K
  simp only [Act.put, List.setIfInBounds_toArray, List.set_cons_zero, List.set_cons_succ]
  refine take_l (i := 10) (v := ?_) rfl (by kernel_rfl) (by kernel_rfl) (by kernel_rfl) (fun _ _ _ h => h) (Or.inl ⟨by rfl, ?_⟩) (by assumption) ?_
  case refine_2 => (intro _ _; go_simp; all_goals with_reducible rfl)
  simp only [Act.put, List.setIfInBounds_toArray, List.set_cons_zero, List.set_cons_succ]
  refine take_l (i := 11) (v := ?_) rfl (by kernel_rfl) (by kernel_rfl) (by kernel_rfl) (fun _ _ _ h => h) (Or.inl ⟨by rfl, ?_⟩) (by assumption) ?_
  case refine_2 => (intro _ _; go_simp; all_goals with_reducible rfl)
  simp only [Act.put, List.setIfInBounds_toArray, List.set_cons_zero, List.set_cons_succ]
  refine wpAnyH_done (by kernel_rfl) ?_ _
  clear hHeld
  go_wp2_with fail
  go_ret
  exact ⟨_, _, _, rfl, step_back Hok.out a, step_back Hokt.out a, PairTo.ahead Hb2.out Hlt.out HN2.out⟩
set_option maxRecDepth 100000 in
set_option maxHeartbeats 8000000 in
theorem doq_4 (H : Pair2 w d x s t U) (hk : kd % 11 = 4) (hkb : -9223372036854775808 ≤ kd ∧ kd ≤ 9223372036854775807) (ha : -9223372036854775808 ≤ a ∧ a ≤ 9223372036854775807) (hb : -9223372036854775808 ≤ b ∧ b ≤ 9223372036854775807) (ys : List Nat) (hx : BytesIn w da dl dc ys) (hxf : Far w U da dl) (fs : List Int) (hf : NumsIn w fa fl fs) (hff : Far w U fa fl) (hfl : fl ≤ 1000) (hwl : s.wa.length ≤ 1000) (hrl : s.wr.length ≤ 1000) (hwt : t.wa.length ≤ 1000) (hrt : t.wr.length ≤ 1000) :
    Calls Try.prog 26 #[.agg #[.pointer (some ⟨d, 0, none⟩), .pointer (some ⟨x, 0, none⟩)], .agg #[.int .i64 kd, .int .i64 a, .int .i64 b, .slice da dl dc, .slice fa fl fc]] w (DoP U w d x s t) := by
  have hal1 := nu_alloc (nu_refl w) (.cells #[.pointer (some ⟨d, 0, none⟩), .pointer (some ⟨x, 0, none⟩)] 45)
  have hal2 := nu_alloc (nu_refl (w.alloc (.cells #[.pointer (some ⟨d, 0, none⟩), .pointer (some ⟨x, 0, none⟩)] 45))) (.cells #[.int .i64 kd, .int .i64 a, .int .i64 b, .slice da dl dc, .slice fa fl fc] 49)
  have hpm := Blk.made w 45 #[.pointer (some ⟨d, 0, none⟩), .pointer (some ⟨x, 0, none⟩)]
  have HP := Lib.hid (hpm.below hal2 hpm.lt)
  have HAb := Lib.hid (Blk.made (w.alloc (.cells #[.pointer (some ⟨d, 0, none⟩), .pointer (some ⟨x, 0, none⟩)] 45)) 49 #[.int .i64 kd, .int .i64 a, .int .i64 b, .slice da dl dc, .slice fa fl fc])
  have Hb2 := Lib.hid (nu_trans hal1 hal2)
  have HH := Lib.hid (H.below Hb2.out)
  have Hlt := Lib.hid H.lt
  have Hok := Lib.hid H.okD
  have Hokt := Lib.hid H.okX
  have Hwt := Lib.hid (show t.wa.length ≤ 1000000000 by omega)
  have Hrt := Lib.hid (show t.wr.length ≤ 1000000000 by omega)
  have HPn := Lib.hid (show ¬ U w.heap.size from fun h => Nat.lt_irrefl _ (H.lt _ h))
  have HAn := Lib.hid (show ¬ U (w.alloc (.cells #[.pointer (some ⟨d, 0, none⟩), .pointer (some ⟨x, 0, none⟩)] 45)).heap.size from fun h => by have h1 := H.lt _ h; have h2 := hal1.size; omega)
  have HX := Lib.hid (hx.keep Hb2.out)
  have HXF := Lib.hid (hxf.below Hb2.out)
  have HF := Lib.hid (hf.below Hb2.out)
  have HFF := Lib.hid (hff.below Hb2.out)
  have HPk := Lib.hid (show ∀ u : World, Calls Try.prog 18 #[.int .i64 kd, .int .i64 11] u fun e w' => e = .returned (.int .i64 (4 : Int)) ∧ u = w' from fun u => pick_any kd 11 4 u (by rw [hk]; rfl) (by omega) (by omega) hkb.1 hkb.2)
  have Hwl := Lib.hid (show s.wa.length ≤ 1000000000 by omega)
  have Hrl := Lib.hid (show s.wr.length ≤ 1000000000 by omega)
  have Ha := Lib.hid ha
  have Hb := Lib.hid hb
  have Hfl := Lib.hid (show fl ≤ 9223372036854775807 by omega)
  clear H hk hkb ha hb hx hxf hf hff hfl hwl hrl hwt hrt hal1 hal2 hpm
  go_enter Try.func26, Try.ntmps26
  go_upto_region 1 with fail
  change Code.wp _ _ _ _ ((w.alloc (.cells #[.pointer (some ⟨d, 0, none⟩), .pointer (some ⟨x, 0, none⟩)] 45)).alloc (.cells #[.int .i64 kd, .int .i64 a, .int .i64 b, .slice da dl dc, .slice fa fl fc] 49))
  generalize (w.alloc (.cells #[.pointer (some ⟨d, 0, none⟩), .pointer (some ⟨x, 0, none⟩)] 45)).alloc (.cells #[.int .i64 kd, .int .i64 a, .int .i64 b, .slice da dl dc, .slice fa fl fc] 49) = w2 at *
  obtain ⟨A, hA⟩ : ∃ A, A = (w.alloc (.cells #[.pointer (some ⟨d, 0, none⟩), .pointer (some ⟨x, 0, none⟩)] 45)).heap.size := ⟨_, rfl⟩
  have hA1 : (w.alloc (.cells #[.pointer (some ⟨d, 0, none⟩), .pointer (some ⟨x, 0, none⟩)] 45)).heap.size = w.heap.size + 1 := by simp
  rw [← hA] at HAb HAn
  rw [hA1] at hA
  clear hA1
  obtain ⟨P, hP⟩ : ∃ P, P = w.heap.size := ⟨_, rfl⟩
  rw [← hP] at HP HPn hA
  rw [← hP]
  try rw [← hA]
  clear hP hA
  have cA0 : w2.cell? ⟨A, 0, none⟩ = some (.int .i64 kd) := HAb.out.at 0 _ rfl
  have HPb2 := HP
  have HAc2 := HAb
  have HN0 := Lib.hid (PairTo.refl HH.out)
  have cP2 : w2.cell? ⟨P, 0, none⟩ = some (.pointer (some ⟨d, 0, none⟩)) := (HPb2.out).at 0 _ rfl
  have cB2 : w2.cell? ⟨A, 1, none⟩ = some (.int .i64 a) := (HAc2.out).at 1 _ rfl
  go_wp2_with fail
  refine (HPk.out w2).mono ?_
  rintro e w3 ⟨rfl, rfl⟩
  go_wp2_with fail
  refine (HN0.out.dev (P := fun e _ => e = .returned (.tuple #[])) (fun V hV hU => armD hV a Ha.out.2)).mono ?_
  rintro e w3 ⟨rfl, hn⟩
  have HN1 := Lib.hid hn
  have HPb3 := Lib.hid (blk_mods HP.out HN1.out.2 HPn.out)
  have HAc3 := Lib.hid (blk_mods HAb.out HN1.out.2 HAn.out)
  clear hn HN0 cA0 cP2 cB2
  have cP3 : w3.cell? ⟨P, 1, none⟩ = some (.pointer (some ⟨x, 0, none⟩)) := (HPb3.out).at 1 _ rfl
  have cB3 : w3.cell? ⟨A, 1, none⟩ = some (.int .i64 a) := (HAc3.out).at 1 _ rfl
  go_wp2_with fail
  refine (HN1.out.ref (P := fun e _ => e = .returned (.tuple #[])) (fun V hV hU => xArm hV a Ha.out.2)).mono ?_
  rintro e w4 ⟨rfl, hn⟩
  have HN2 := Lib.hid hn
  clear hn HN1 cP3 cB3
  go_wp2_with fail
  go_ret
  exact ⟨true, _, _, rfl, step_arm s a, step_arm t a, PairTo.ahead Hb2.out Hlt.out HN2.out⟩
set_option maxRecDepth 100000 in
set_option maxHeartbeats 8000000 in
theorem doq_5 (H : Pair2 w d x s t U) (hk : kd % 11 = 5) (hkb : -9223372036854775808 ≤ kd ∧ kd ≤ 9223372036854775807) (ha : -9223372036854775808 ≤ a ∧ a ≤ 9223372036854775807) (hb : -9223372036854775808 ≤ b ∧ b ≤ 9223372036854775807) (ys : List Nat) (hx : BytesIn w da dl dc ys) (hxf : Far w U da dl) (fs : List Int) (hf : NumsIn w fa fl fs) (hff : Far w U fa fl) (hfl : fl ≤ 1000) (hwl : s.wa.length ≤ 1000) (hrl : s.wr.length ≤ 1000) (hwt : t.wa.length ≤ 1000) (hrt : t.wr.length ≤ 1000) :
    Calls Try.prog 26 #[.agg #[.pointer (some ⟨d, 0, none⟩), .pointer (some ⟨x, 0, none⟩)], .agg #[.int .i64 kd, .int .i64 a, .int .i64 b, .slice da dl dc, .slice fa fl fc]] w (DoP U w d x s t) := by
  have hal1 := nu_alloc (nu_refl w) (.cells #[.pointer (some ⟨d, 0, none⟩), .pointer (some ⟨x, 0, none⟩)] 45)
  have hal2 := nu_alloc (nu_refl (w.alloc (.cells #[.pointer (some ⟨d, 0, none⟩), .pointer (some ⟨x, 0, none⟩)] 45))) (.cells #[.int .i64 kd, .int .i64 a, .int .i64 b, .slice da dl dc, .slice fa fl fc] 49)
  have hpm := Blk.made w 45 #[.pointer (some ⟨d, 0, none⟩), .pointer (some ⟨x, 0, none⟩)]
  have HP := Lib.hid (hpm.below hal2 hpm.lt)
  have HAb := Lib.hid (Blk.made (w.alloc (.cells #[.pointer (some ⟨d, 0, none⟩), .pointer (some ⟨x, 0, none⟩)] 45)) 49 #[.int .i64 kd, .int .i64 a, .int .i64 b, .slice da dl dc, .slice fa fl fc])
  have Hb2 := Lib.hid (nu_trans hal1 hal2)
  have HH := Lib.hid (H.below Hb2.out)
  have Hlt := Lib.hid H.lt
  have Hok := Lib.hid H.okD
  have Hokt := Lib.hid H.okX
  have Hwt := Lib.hid (show t.wa.length ≤ 1000000000 by omega)
  have Hrt := Lib.hid (show t.wr.length ≤ 1000000000 by omega)
  have HPn := Lib.hid (show ¬ U w.heap.size from fun h => Nat.lt_irrefl _ (H.lt _ h))
  have HAn := Lib.hid (show ¬ U (w.alloc (.cells #[.pointer (some ⟨d, 0, none⟩), .pointer (some ⟨x, 0, none⟩)] 45)).heap.size from fun h => by have h1 := H.lt _ h; have h2 := hal1.size; omega)
  have HX := Lib.hid (hx.keep Hb2.out)
  have HXF := Lib.hid (hxf.below Hb2.out)
  have HF := Lib.hid (hf.below Hb2.out)
  have HFF := Lib.hid (hff.below Hb2.out)
  have HPk := Lib.hid (show ∀ u : World, Calls Try.prog 18 #[.int .i64 kd, .int .i64 11] u fun e w' => e = .returned (.int .i64 (5 : Int)) ∧ u = w' from fun u => pick_any kd 11 5 u (by rw [hk]; rfl) (by omega) (by omega) hkb.1 hkb.2)
  have Hwl := Lib.hid (show s.wa.length ≤ 1000000000 by omega)
  have Hrl := Lib.hid (show s.wr.length ≤ 1000000000 by omega)
  have Ha := Lib.hid ha
  have Hb := Lib.hid hb
  have Hfl := Lib.hid (show fl ≤ 9223372036854775807 by omega)
  clear H hk hkb ha hb hx hxf hf hff hfl hwl hrl hwt hrt hal1 hal2 hpm
  go_enter Try.func26, Try.ntmps26
  go_upto_region 1 with fail
  change Code.wp _ _ _ _ ((w.alloc (.cells #[.pointer (some ⟨d, 0, none⟩), .pointer (some ⟨x, 0, none⟩)] 45)).alloc (.cells #[.int .i64 kd, .int .i64 a, .int .i64 b, .slice da dl dc, .slice fa fl fc] 49))
  generalize (w.alloc (.cells #[.pointer (some ⟨d, 0, none⟩), .pointer (some ⟨x, 0, none⟩)] 45)).alloc (.cells #[.int .i64 kd, .int .i64 a, .int .i64 b, .slice da dl dc, .slice fa fl fc] 49) = w2 at *
  obtain ⟨A, hA⟩ : ∃ A, A = (w.alloc (.cells #[.pointer (some ⟨d, 0, none⟩), .pointer (some ⟨x, 0, none⟩)] 45)).heap.size := ⟨_, rfl⟩
  have hA1 : (w.alloc (.cells #[.pointer (some ⟨d, 0, none⟩), .pointer (some ⟨x, 0, none⟩)] 45)).heap.size = w.heap.size + 1 := by simp
  rw [← hA] at HAb HAn
  rw [hA1] at hA
  clear hA1
  obtain ⟨P, hP⟩ : ∃ P, P = w.heap.size := ⟨_, rfl⟩
  rw [← hP] at HP HPn hA
  rw [← hP]
  try rw [← hA]
  clear hP hA
  have cA0 : w2.cell? ⟨A, 0, none⟩ = some (.int .i64 kd) := HAb.out.at 0 _ rfl
  have HPb2 := HP
  have HAc2 := HAb
  have HN0 := Lib.hid (PairTo.refl HH.out)
  have cP2 : w2.cell? ⟨P, 0, none⟩ = some (.pointer (some ⟨d, 0, none⟩)) := (HPb2.out).at 0 _ rfl
  go_wp2_with fail
  refine (HPk.out w2).mono ?_
  rintro e w3 ⟨rfl, rfl⟩
  go_wp2_with fail
  refine (HN0.out.dev (P := fun e _ => e = .returned (.tuple #[])) (fun V hV hU => crashD hV)).mono ?_
  rintro e w3 ⟨rfl, hn⟩
  have HN1 := Lib.hid hn
  have HPb3 := Lib.hid (blk_mods HP.out HN1.out.2 HPn.out)
  have HAc3 := Lib.hid (blk_mods HAb.out HN1.out.2 HAn.out)
  clear hn HN0 cA0 cP2
  have cP3 : w3.cell? ⟨P, 1, none⟩ = some (.pointer (some ⟨x, 0, none⟩)) := (HPb3.out).at 1 _ rfl
  go_wp2_with fail
  refine (HN1.out.ref (P := fun e _ => e = .returned (.tuple #[])) (fun V hV hU => xCrash hV)).mono ?_
  rintro e w4 ⟨rfl, hn⟩
  have HN2 := Lib.hid hn
  clear hn HN1 cP3
  go_wp2_with fail
  go_ret
  exact ⟨true, _, _, rfl, step_crash s, step_crash t, PairTo.ahead Hb2.out Hlt.out HN2.out⟩
set_option maxRecDepth 100000 in
set_option maxHeartbeats 8000000 in
theorem doq_6 (H : Pair2 w d x s t U) (hk : kd % 11 = 6) (hkb : -9223372036854775808 ≤ kd ∧ kd ≤ 9223372036854775807) (ha : -9223372036854775808 ≤ a ∧ a ≤ 9223372036854775807) (hb : -9223372036854775808 ≤ b ∧ b ≤ 9223372036854775807) (ys : List Nat) (hx : BytesIn w da dl dc ys) (hxf : Far w U da dl) (fs : List Int) (hf : NumsIn w fa fl fs) (hff : Far w U fa fl) (hfl : fl ≤ 1000) (hwl : s.wa.length ≤ 1000) (hrl : s.wr.length ≤ 1000) (hwt : t.wa.length ≤ 1000) (hrt : t.wr.length ≤ 1000) :
    Calls Try.prog 26 #[.agg #[.pointer (some ⟨d, 0, none⟩), .pointer (some ⟨x, 0, none⟩)], .agg #[.int .i64 kd, .int .i64 a, .int .i64 b, .slice da dl dc, .slice fa fl fc]] w (DoP U w d x s t) := by
  have hal1 := nu_alloc (nu_refl w) (.cells #[.pointer (some ⟨d, 0, none⟩), .pointer (some ⟨x, 0, none⟩)] 45)
  have hal2 := nu_alloc (nu_refl (w.alloc (.cells #[.pointer (some ⟨d, 0, none⟩), .pointer (some ⟨x, 0, none⟩)] 45))) (.cells #[.int .i64 kd, .int .i64 a, .int .i64 b, .slice da dl dc, .slice fa fl fc] 49)
  have hpm := Blk.made w 45 #[.pointer (some ⟨d, 0, none⟩), .pointer (some ⟨x, 0, none⟩)]
  have HP := Lib.hid (hpm.below hal2 hpm.lt)
  have HAb := Lib.hid (Blk.made (w.alloc (.cells #[.pointer (some ⟨d, 0, none⟩), .pointer (some ⟨x, 0, none⟩)] 45)) 49 #[.int .i64 kd, .int .i64 a, .int .i64 b, .slice da dl dc, .slice fa fl fc])
  have Hb2 := Lib.hid (nu_trans hal1 hal2)
  have HH := Lib.hid (H.below Hb2.out)
  have Hlt := Lib.hid H.lt
  have Hok := Lib.hid H.okD
  have Hokt := Lib.hid H.okX
  have Hwt := Lib.hid (show t.wa.length ≤ 1000000000 by omega)
  have Hrt := Lib.hid (show t.wr.length ≤ 1000000000 by omega)
  have HPn := Lib.hid (show ¬ U w.heap.size from fun h => Nat.lt_irrefl _ (H.lt _ h))
  have HAn := Lib.hid (show ¬ U (w.alloc (.cells #[.pointer (some ⟨d, 0, none⟩), .pointer (some ⟨x, 0, none⟩)] 45)).heap.size from fun h => by have h1 := H.lt _ h; have h2 := hal1.size; omega)
  have HX := Lib.hid (hx.keep Hb2.out)
  have HXF := Lib.hid (hxf.below Hb2.out)
  have HF := Lib.hid (hf.below Hb2.out)
  have HFF := Lib.hid (hff.below Hb2.out)
  have HPk := Lib.hid (show ∀ u : World, Calls Try.prog 18 #[.int .i64 kd, .int .i64 11] u fun e w' => e = .returned (.int .i64 (6 : Int)) ∧ u = w' from fun u => pick_any kd 11 6 u (by rw [hk]; rfl) (by omega) (by omega) hkb.1 hkb.2)
  have Hwl := Lib.hid (show s.wa.length ≤ 1000000000 by omega)
  have Hrl := Lib.hid (show s.wr.length ≤ 1000000000 by omega)
  have Ha := Lib.hid ha
  have Hb := Lib.hid hb
  have Hfl := Lib.hid (show fl ≤ 9223372036854775807 by omega)
  clear H hk hkb ha hb hx hxf hf hff hfl hwl hrl hwt hrt hal1 hal2 hpm
  go_enter Try.func26, Try.ntmps26
  go_upto_region 1 with fail
  change Code.wp _ _ _ _ ((w.alloc (.cells #[.pointer (some ⟨d, 0, none⟩), .pointer (some ⟨x, 0, none⟩)] 45)).alloc (.cells #[.int .i64 kd, .int .i64 a, .int .i64 b, .slice da dl dc, .slice fa fl fc] 49))
  generalize (w.alloc (.cells #[.pointer (some ⟨d, 0, none⟩), .pointer (some ⟨x, 0, none⟩)] 45)).alloc (.cells #[.int .i64 kd, .int .i64 a, .int .i64 b, .slice da dl dc, .slice fa fl fc] 49) = w2 at *
  obtain ⟨A, hA⟩ : ∃ A, A = (w.alloc (.cells #[.pointer (some ⟨d, 0, none⟩), .pointer (some ⟨x, 0, none⟩)] 45)).heap.size := ⟨_, rfl⟩
  have hA1 : (w.alloc (.cells #[.pointer (some ⟨d, 0, none⟩), .pointer (some ⟨x, 0, none⟩)] 45)).heap.size = w.heap.size + 1 := by simp
  rw [← hA] at HAb HAn
  rw [hA1] at hA
  clear hA1
  obtain ⟨P, hP⟩ : ∃ P, P = w.heap.size := ⟨_, rfl⟩
  rw [← hP] at HP HPn hA
  rw [← hP]
  try rw [← hA]
  clear hP hA
  have cA0 : w2.cell? ⟨A, 0, none⟩ = some (.int .i64 kd) := HAb.out.at 0 _ rfl
  have HPb2 := HP
  have HAc2 := HAb
  have HN0 := Lib.hid (PairTo.refl HH.out)
  have cP2 : w2.cell? ⟨P, 0, none⟩ = some (.pointer (some ⟨d, 0, none⟩)) := (HPb2.out).at 0 _ rfl
  have cB2 : w2.cell? ⟨A, 4, none⟩ = some (.slice fa fl fc) := (HAc2.out).at 4 _ rfl
  go_wp2_with fail
  refine (HPk.out w2).mono ?_
  rintro e w3 ⟨rfl, rfl⟩
  go_wp2_with fail
  refine (HN0.out.dev (P := fun e _ => e = .returned (.tuple #[])) (fun V hV hU => onD_all hV fa fl fc fs (HF.out.mods HN0.out.2 (fun hp ad had => (HFF.out hp ad had).2)) (Far.out HFF.out hU) Hfl.out Hwl.out)).mono ?_
  rintro e w3 ⟨rfl, hn⟩
  have HN1 := Lib.hid hn
  have HPb3 := Lib.hid (blk_mods HP.out HN1.out.2 HPn.out)
  have HAc3 := Lib.hid (blk_mods HAb.out HN1.out.2 HAn.out)
  clear hn HN0 cA0 cP2 cB2
  have cP3 : w3.cell? ⟨P, 1, none⟩ = some (.pointer (some ⟨x, 0, none⟩)) := (HPb3.out).at 1 _ rfl
  have cB3 : w3.cell? ⟨A, 4, none⟩ = some (.slice fa fl fc) := (HAc3.out).at 4 _ rfl
  go_wp2_with fail
  refine (HN1.out.ref (P := fun e _ => e = .returned (.tuple #[])) (fun V hV hU => onX_all hV fa fl fc fs (HF.out.mods HN1.out.2 (fun hp ad had => (HFF.out hp ad had).2)) (Far.out HFF.out hU) Hfl.out Hwt.out)).mono ?_
  rintro e w4 ⟨rfl, hn⟩
  have HN2 := Lib.hid hn
  clear hn HN1 cP3 cB3
  go_wp2_with fail
  go_ret
  exact ⟨true, _, _, rfl, step_on s fs, step_on t fs, PairTo.ahead Hb2.out Hlt.out HN2.out⟩
set_option maxRecDepth 100000 in
set_option maxHeartbeats 8000000 in
theorem doq_9 (H : Pair2 w d x s t U) (hk : kd % 11 = 9) (hkb : -9223372036854775808 ≤ kd ∧ kd ≤ 9223372036854775807) (ha : -9223372036854775808 ≤ a ∧ a ≤ 9223372036854775807) (hb : -9223372036854775808 ≤ b ∧ b ≤ 9223372036854775807) (ys : List Nat) (hx : BytesIn w da dl dc ys) (hxf : Far w U da dl) (fs : List Int) (hf : NumsIn w fa fl fs) (hff : Far w U fa fl) (hfl : fl ≤ 1000) (hwl : s.wa.length ≤ 1000) (hrl : s.wr.length ≤ 1000) (hwt : t.wa.length ≤ 1000) (hrt : t.wr.length ≤ 1000) :
    Calls Try.prog 26 #[.agg #[.pointer (some ⟨d, 0, none⟩), .pointer (some ⟨x, 0, none⟩)], .agg #[.int .i64 kd, .int .i64 a, .int .i64 b, .slice da dl dc, .slice fa fl fc]] w (DoP U w d x s t) := by
  have hal1 := nu_alloc (nu_refl w) (.cells #[.pointer (some ⟨d, 0, none⟩), .pointer (some ⟨x, 0, none⟩)] 45)
  have hal2 := nu_alloc (nu_refl (w.alloc (.cells #[.pointer (some ⟨d, 0, none⟩), .pointer (some ⟨x, 0, none⟩)] 45))) (.cells #[.int .i64 kd, .int .i64 a, .int .i64 b, .slice da dl dc, .slice fa fl fc] 49)
  have hpm := Blk.made w 45 #[.pointer (some ⟨d, 0, none⟩), .pointer (some ⟨x, 0, none⟩)]
  have HP := Lib.hid (hpm.below hal2 hpm.lt)
  have HAb := Lib.hid (Blk.made (w.alloc (.cells #[.pointer (some ⟨d, 0, none⟩), .pointer (some ⟨x, 0, none⟩)] 45)) 49 #[.int .i64 kd, .int .i64 a, .int .i64 b, .slice da dl dc, .slice fa fl fc])
  have Hb2 := Lib.hid (nu_trans hal1 hal2)
  have HH := Lib.hid (H.below Hb2.out)
  have Hlt := Lib.hid H.lt
  have Hok := Lib.hid H.okD
  have Hokt := Lib.hid H.okX
  have Hwt := Lib.hid (show t.wa.length ≤ 1000000000 by omega)
  have Hrt := Lib.hid (show t.wr.length ≤ 1000000000 by omega)
  have HPn := Lib.hid (show ¬ U w.heap.size from fun h => Nat.lt_irrefl _ (H.lt _ h))
  have HAn := Lib.hid (show ¬ U (w.alloc (.cells #[.pointer (some ⟨d, 0, none⟩), .pointer (some ⟨x, 0, none⟩)] 45)).heap.size from fun h => by have h1 := H.lt _ h; have h2 := hal1.size; omega)
  have HX := Lib.hid (hx.keep Hb2.out)
  have HXF := Lib.hid (hxf.below Hb2.out)
  have HF := Lib.hid (hf.below Hb2.out)
  have HFF := Lib.hid (hff.below Hb2.out)
  have HPk := Lib.hid (show ∀ u : World, Calls Try.prog 18 #[.int .i64 kd, .int .i64 11] u fun e w' => e = .returned (.int .i64 (9 : Int)) ∧ u = w' from fun u => pick_any kd 11 9 u (by rw [hk]; rfl) (by omega) (by omega) hkb.1 hkb.2)
  have Hwl := Lib.hid (show s.wa.length ≤ 1000000000 by omega)
  have Hrl := Lib.hid (show s.wr.length ≤ 1000000000 by omega)
  have Ha := Lib.hid ha
  have Hb := Lib.hid hb
  have Hfl := Lib.hid (show fl ≤ 9223372036854775807 by omega)
  clear H hk hkb ha hb hx hxf hf hff hfl hwl hrl hwt hrt hal1 hal2 hpm
  obtain ⟨E1, hE1⟩ : ∃ E : Int, E = s.snapN := ⟨_, rfl⟩
  have HE1 := Lib.hid hE1
  clear hE1
  obtain ⟨E2, hE2⟩ : ∃ E : Int, E = s.snapC := ⟨_, rfl⟩
  have HE2 := Lib.hid hE2
  clear hE2
  obtain ⟨E3, hE3⟩ : ∃ E : Int, E = t.snapN := ⟨_, rfl⟩
  have HE3 := Lib.hid hE3
  clear hE3
  obtain ⟨E4, hE4⟩ : ∃ E : Int, E = t.snapC := ⟨_, rfl⟩
  have HE4 := Lib.hid hE4
  clear hE4
  go_enter Try.func26, Try.ntmps26
  go_upto_region 1 with fail
  change Code.wp _ _ _ _ ((w.alloc (.cells #[.pointer (some ⟨d, 0, none⟩), .pointer (some ⟨x, 0, none⟩)] 45)).alloc (.cells #[.int .i64 kd, .int .i64 a, .int .i64 b, .slice da dl dc, .slice fa fl fc] 49))
  generalize (w.alloc (.cells #[.pointer (some ⟨d, 0, none⟩), .pointer (some ⟨x, 0, none⟩)] 45)).alloc (.cells #[.int .i64 kd, .int .i64 a, .int .i64 b, .slice da dl dc, .slice fa fl fc] 49) = w2 at *
  obtain ⟨A, hA⟩ : ∃ A, A = (w.alloc (.cells #[.pointer (some ⟨d, 0, none⟩), .pointer (some ⟨x, 0, none⟩)] 45)).heap.size := ⟨_, rfl⟩
  have hA1 : (w.alloc (.cells #[.pointer (some ⟨d, 0, none⟩), .pointer (some ⟨x, 0, none⟩)] 45)).heap.size = w.heap.size + 1 := by simp
  rw [← hA] at HAb HAn
  rw [hA1] at hA
  clear hA1
  obtain ⟨P, hP⟩ : ∃ P, P = w.heap.size := ⟨_, rfl⟩
  rw [← hP] at HP HPn hA
  rw [← hP]
  try rw [← hA]
  clear hP hA
  have cA0 : w2.cell? ⟨A, 0, none⟩ = some (.int .i64 kd) := HAb.out.at 0 _ rfl
  have HPb2 := HP
  have HAc2 := HAb
  have HN0 := Lib.hid (PairTo.refl HH.out)
  have cP2 : w2.cell? ⟨P, 0, none⟩ = some (.pointer (some ⟨d, 0, none⟩)) := (HPb2.out).at 0 _ rfl
  go_wp2_with fail
  refine (HPk.out w2).mono ?_
  rintro e w3 ⟨rfl, rfl⟩
  go_wp2_with fail
  refine (HN0.out.dev (P := fun e _ => e = .returned (.tuple #[.int .i64 E1, .int .i64 E2])) (fun V hV hU => HE2.out ▸ HE1.out ▸ snapD_all hV Hwl.out)).mono ?_
  rintro e w3 ⟨rfl, hn⟩
  have HN1 := Lib.hid hn
  have HPb3 := Lib.hid (blk_mods HP.out HN1.out.2 HPn.out)
  have HAc3 := Lib.hid (blk_mods HAb.out HN1.out.2 HAn.out)
  clear hn HN0 cA0 cP2
  have cP3 : w3.cell? ⟨P, 1, none⟩ = some (.pointer (some ⟨x, 0, none⟩)) := (HPb3.out).at 1 _ rfl
  go_wp2_with fail
  refine (HN1.out.ref (P := fun e _ => e = .returned (.tuple #[.int .i64 E3, .int .i64 E4])) (fun V hV hU => HE4.out ▸ HE3.out ▸ snapX_all hV Hwt.out)).mono ?_
  rintro e w4 ⟨rfl, hn⟩
  have HN2 := Lib.hid hn
  clear hn HN1 cP3
  by_cases he : E1 = E3
  · have hb1 : (E1 == E3) = true := by rw [beq_iff_eq]; exact he
    clear he
    go_wp2_with fail
    go_ret
    exact ⟨_, _, _, rfl, step_snap s, step_snap t, PairTo.ahead Hb2.out Hlt.out HN2.out⟩
  · have hb1 : (E1 == E3) = false := by rw [beq_eq_false_iff_ne]; exact he
    clear he
    go_wp2_with fail
    go_ret
    exact ⟨_, _, _, rfl, step_snap s, step_snap t, PairTo.ahead Hb2.out Hlt.out HN2.out⟩
end
end Go.Proofs.Ytjmghpoknlffiaa

namespace Go.Proofs.Ytjmghpoknlffiaa
open Go.ChangeShapes Go.WideShapes Go.ChangeAt Go.RowKit
set_option linter.unusedSimpArgs false

section
variable {w : World} {d x : Nat} {s t : Dv} {U : Nat → Prop} {kd a b : Int} {da fa : Option Addr} {dl dc fl fc : Nat}
set_option maxRecDepth 100000 in
set_option maxHeartbeats 8000000 in
theorem doq_0bb (H : Pair2 w d x s t U) (hrD : s.rdy a ≠ 0) (hrX : t.rdy a ≠ 0) (hk : kd % 11 = 0) (hkb : -9223372036854775808 ≤ kd ∧ kd ≤ 9223372036854775807) (ha : -9223372036854775808 ≤ a ∧ a ≤ 9223372036854775807) (hb : -9223372036854775808 ≤ b ∧ b ≤ 9223372036854775807) (ys : List Nat) (hx : BytesIn w da dl dc ys) (hxf : Far w U da dl) (fs : List Int) (hf : NumsIn w fa fl fs) (hff : Far w U fa fl) (hfl : fl ≤ 1000) (hwl : s.wa.length ≤ 1000) (hrl : s.wr.length ≤ 1000) (hwt : t.wa.length ≤ 1000) (hrt : t.wr.length ≤ 1000) :
    Calls Try.prog 26 #[.agg #[.pointer (some ⟨d, 0, none⟩), .pointer (some ⟨x, 0, none⟩)], .agg #[.int .i64 kd, .int .i64 a, .int .i64 b, .slice da dl dc, .slice fa fl fc]] w (DoP U w d x s t) := by
  have hal1 := nu_alloc (nu_refl w) (.cells #[.pointer (some ⟨d, 0, none⟩), .pointer (some ⟨x, 0, none⟩)] 45)
  have hal2 := nu_alloc (nu_refl (w.alloc (.cells #[.pointer (some ⟨d, 0, none⟩), .pointer (some ⟨x, 0, none⟩)] 45))) (.cells #[.int .i64 kd, .int .i64 a, .int .i64 b, .slice da dl dc, .slice fa fl fc] 49)
  have hpm := Blk.made w 45 #[.pointer (some ⟨d, 0, none⟩), .pointer (some ⟨x, 0, none⟩)]
  have HP := Lib.hid (hpm.below hal2 hpm.lt)
  have HAb := Lib.hid (Blk.made (w.alloc (.cells #[.pointer (some ⟨d, 0, none⟩), .pointer (some ⟨x, 0, none⟩)] 45)) 49 #[.int .i64 kd, .int .i64 a, .int .i64 b, .slice da dl dc, .slice fa fl fc])
  have Hb2 := Lib.hid (nu_trans hal1 hal2)
  have HH := Lib.hid (H.below Hb2.out)
  have Hlt := Lib.hid H.lt
  have Hok := Lib.hid H.okD
  have Hokt := Lib.hid H.okX
  have Hwt := Lib.hid (show t.wa.length ≤ 1000000000 by omega)
  have Hrt := Lib.hid (show t.wr.length ≤ 1000000000 by omega)
  have HPn := Lib.hid (show ¬ U w.heap.size from fun h => Nat.lt_irrefl _ (H.lt _ h))
  have HAn := Lib.hid (show ¬ U (w.alloc (.cells #[.pointer (some ⟨d, 0, none⟩), .pointer (some ⟨x, 0, none⟩)] 45)).heap.size from fun h => by have h1 := H.lt _ h; have h2 := hal1.size; omega)
  have HX := Lib.hid (hx.keep Hb2.out)
  have HXF := Lib.hid (hxf.below Hb2.out)
  have HF := Lib.hid (hf.below Hb2.out)
  have HFF := Lib.hid (hff.below Hb2.out)
  have HPk := Lib.hid (show ∀ u : World, Calls Try.prog 18 #[.int .i64 kd, .int .i64 11] u fun e w' => e = .returned (.int .i64 (0 : Int)) ∧ u = w' from fun u => pick_any kd 11 0 u (by rw [hk]; rfl) (by omega) (by omega) hkb.1 hkb.2)
  have Hwl := Lib.hid (show s.wa.length ≤ 1000000000 by omega)
  have Hrl := Lib.hid (show s.wr.length ≤ 1000000000 by omega)
  have Ha := Lib.hid ha
  have Hb := Lib.hid hb
  have Hfl := Lib.hid (show fl ≤ 9223372036854775807 by omega)
  clear H hk hkb ha hb hx hxf hf hff hfl hwl hrl hwt hrt hal1 hal2 hpm
  obtain ⟨E1, hE1⟩ : ∃ E : Int, E = s.rdy a := ⟨_, rfl⟩
  have HR1 := Lib.hid (show Calls Try.prog 15 #[.pointer (some ⟨d, 0, none⟩), .int .i64 a] _ fun e w' => e = .returned (.tuple #[.slice none 0 0, .int .i64 E1]) ∧ _ = w' from by
    obtain ⟨F, G0, h1, _⟩ := HH.out
    rw [hE1]
    exact readD_bad h1 a hrD)
  clear hE1 hrD
  obtain ⟨E2, hE2⟩ : ∃ E : Int, E = t.rdy a := ⟨_, rfl⟩
  have HR2 := Lib.hid (show ∀ u, Below _ _ u → Calls Try.prog 41 #[.pointer (some ⟨x, 0, none⟩), .int .i64 a] u fun e w' => e = .returned (.tuple #[.slice none 0 0, .int .i64 E2]) ∧ u = w' from fun u hu => by
    obtain ⟨F, G0, _, h1, _⟩ := HH.out
    rw [hE2]
    exact xRead_bad (h1.below hu) a hrX)
  clear hE2 hrX
  go_enter Try.func26, Try.ntmps26
  go_upto_region 1 with fail
  change Code.wp _ _ _ _ ((w.alloc (.cells #[.pointer (some ⟨d, 0, none⟩), .pointer (some ⟨x, 0, none⟩)] 45)).alloc (.cells #[.int .i64 kd, .int .i64 a, .int .i64 b, .slice da dl dc, .slice fa fl fc] 49))
  generalize (w.alloc (.cells #[.pointer (some ⟨d, 0, none⟩), .pointer (some ⟨x, 0, none⟩)] 45)).alloc (.cells #[.int .i64 kd, .int .i64 a, .int .i64 b, .slice da dl dc, .slice fa fl fc] 49) = w2 at *
  obtain ⟨A, hA⟩ : ∃ A, A = (w.alloc (.cells #[.pointer (some ⟨d, 0, none⟩), .pointer (some ⟨x, 0, none⟩)] 45)).heap.size := ⟨_, rfl⟩
  have hA1 : (w.alloc (.cells #[.pointer (some ⟨d, 0, none⟩), .pointer (some ⟨x, 0, none⟩)] 45)).heap.size = w.heap.size + 1 := by simp
  rw [← hA] at HAb HAn
  rw [hA1] at hA
  clear hA1
  obtain ⟨P, hP⟩ : ∃ P, P = w.heap.size := ⟨_, rfl⟩
  rw [← hP] at HP HPn hA
  rw [← hP]
  try rw [← hA]
  clear hP hA
  have cA0 : w2.cell? ⟨A, 0, none⟩ = some (.int .i64 kd) := HAb.out.at 0 _ rfl
  have cP0 : w2.cell? ⟨P, 0, none⟩ = some (.pointer (some ⟨d, 0, none⟩)) := HP.out.at 0 _ rfl
  have cA1 : w2.cell? ⟨A, 1, none⟩ = some (.int .i64 a) := HAb.out.at 1 _ rfl
  go_wp2_with fail
  refine (HPk.out w2).mono ?_
  rintro e w3 ⟨rfl, rfl⟩
  go_wp2_with fail
  refine HR1.out.mono ?_
  rintro e w3 ⟨rfl, rfl⟩
  obtain ⟨w3, rfl⟩ : ∃ q : World, q = w2 := ⟨_, rfl⟩
  have Hb3 := Lib.hid (nu_refl w3)
  clear cA0 cP0 cA1 HR1
  have cP1 : w3.cell? ⟨P, 1, none⟩ = some (.pointer (some ⟨x, 0, none⟩)) := (HP.out.below Hb3.out HP.out.lt).at 1 _ rfl
  have cA1 : w3.cell? ⟨A, 1, none⟩ = some (.int .i64 a) := (HAb.out.below Hb3.out HAb.out.lt).at 1 _ rfl
  go_wp2_with fail
  refine (HR2.out w3 Hb3.out).mono ?_
  rintro e w4 ⟨rfl, rfl⟩
  have Hb4 := Hb3
  clear Hb3 cP1 cA1 HR2
  go_wp2_with fail
  refine (same_is (la := 0) (lb := 0) (xs := []) (ys := []) true rfl ⟨rfl, (fun n h => by cases h), fun h => absurd h (by omega)⟩ ⟨rfl, (fun n h => by cases h), fun h => absurd h (by omega)⟩ (by omega) (by omega)).mono ?_
  rintro e w5 ⟨rfl, n, rfl⟩
  have hdn := nu_drewN (nu_refl w3) n
  have Hb5 := Lib.hid (nu_trans Hb4.out hdn)
  clear hdn Hb4
  generalize w3.drewN n = w5 at *
  go_wp2_with fail
  go_loopw [10] (fun j wx => j = .int .i64 0 ∧ wx = w5) (fun _ _ => 0)
  case atStart => exact ⟨rfl, rfl⟩
  case round =>
    obtain ⟨rfl, rfl⟩ := hrel
    have HN := Lib.hid (PairTo.of_below HH.out Hb5.out)
    clear Hb5
    go_wp2_with fail
    go_ret
    exact ⟨_, s, t, rfl, Step.refl s, Step.refl t, PairTo.ahead Hb2.out Hlt.out HN.out⟩
set_option maxRecDepth 100000 in
set_option maxHeartbeats 8000000 in
theorem doq_0gb (H : Pair2 w d x s t U) (hrD : s.rdy a = 0) (hrX : t.rdy a ≠ 0) (hk : kd % 11 = 0) (hkb : -9223372036854775808 ≤ kd ∧ kd ≤ 9223372036854775807) (ha : -9223372036854775808 ≤ a ∧ a ≤ 9223372036854775807) (hb : -9223372036854775808 ≤ b ∧ b ≤ 9223372036854775807) (ys : List Nat) (hx : BytesIn w da dl dc ys) (hxf : Far w U da dl) (fs : List Int) (hf : NumsIn w fa fl fs) (hff : Far w U fa fl) (hfl : fl ≤ 1000) (hwl : s.wa.length ≤ 1000) (hrl : s.wr.length ≤ 1000) (hwt : t.wa.length ≤ 1000) (hrt : t.wr.length ≤ 1000) :
    Calls Try.prog 26 #[.agg #[.pointer (some ⟨d, 0, none⟩), .pointer (some ⟨x, 0, none⟩)], .agg #[.int .i64 kd, .int .i64 a, .int .i64 b, .slice da dl dc, .slice fa fl fc]] w (DoP U w d x s t) := by
  have hal1 := nu_alloc (nu_refl w) (.cells #[.pointer (some ⟨d, 0, none⟩), .pointer (some ⟨x, 0, none⟩)] 45)
  have hal2 := nu_alloc (nu_refl (w.alloc (.cells #[.pointer (some ⟨d, 0, none⟩), .pointer (some ⟨x, 0, none⟩)] 45))) (.cells #[.int .i64 kd, .int .i64 a, .int .i64 b, .slice da dl dc, .slice fa fl fc] 49)
  have hpm := Blk.made w 45 #[.pointer (some ⟨d, 0, none⟩), .pointer (some ⟨x, 0, none⟩)]
  have HP := Lib.hid (hpm.below hal2 hpm.lt)
  have HAb := Lib.hid (Blk.made (w.alloc (.cells #[.pointer (some ⟨d, 0, none⟩), .pointer (some ⟨x, 0, none⟩)] 45)) 49 #[.int .i64 kd, .int .i64 a, .int .i64 b, .slice da dl dc, .slice fa fl fc])
  have Hb2 := Lib.hid (nu_trans hal1 hal2)
  have HH := Lib.hid (H.below Hb2.out)
  have Hlt := Lib.hid H.lt
  have Hok := Lib.hid H.okD
  have Hokt := Lib.hid H.okX
  have Hwt := Lib.hid (show t.wa.length ≤ 1000000000 by omega)
  have Hrt := Lib.hid (show t.wr.length ≤ 1000000000 by omega)
  have HPn := Lib.hid (show ¬ U w.heap.size from fun h => Nat.lt_irrefl _ (H.lt _ h))
  have HAn := Lib.hid (show ¬ U (w.alloc (.cells #[.pointer (some ⟨d, 0, none⟩), .pointer (some ⟨x, 0, none⟩)] 45)).heap.size from fun h => by have h1 := H.lt _ h; have h2 := hal1.size; omega)
  have HX := Lib.hid (hx.keep Hb2.out)
  have HXF := Lib.hid (hxf.below Hb2.out)
  have HF := Lib.hid (hf.below Hb2.out)
  have HFF := Lib.hid (hff.below Hb2.out)
  have HPk := Lib.hid (show ∀ u : World, Calls Try.prog 18 #[.int .i64 kd, .int .i64 11] u fun e w' => e = .returned (.int .i64 (0 : Int)) ∧ u = w' from fun u => pick_any kd 11 0 u (by rw [hk]; rfl) (by omega) (by omega) hkb.1 hkb.2)
  have Hwl := Lib.hid (show s.wa.length ≤ 1000000000 by omega)
  have Hrl := Lib.hid (show s.wr.length ≤ 1000000000 by omega)
  have Ha := Lib.hid ha
  have Hb := Lib.hid hb
  have Hfl := Lib.hid (show fl ≤ 9223372036854775807 by omega)
  clear H hk hkb ha hb hx hxf hf hff hfl hwl hrl hwt hrt hal1 hal2 hpm
  obtain ⟨ho, i, rfl, hi⟩ := rdy_zero hrD
  obtain ⟨D1, hD1⟩ : ∃ D, D = s.now i := ⟨_, rfl⟩
  have HD1 := Lib.hid (show Bl D1 by rw [hD1]; exact Hok.out.now hi)
  have HR1 := Lib.hid (show Calls Try.prog 15 #[.pointer (some ⟨d, 0, none⟩), .int .i64 (i : Int)] _ fun e w' => ∃ G, e = .returned (.tuple #[.slice (some ⟨G, 0, none⟩) 256 256, .int .i64 0]) ∧ _ ≤ G ∧ Blk w' G 73 (D1.map vb).toArray ∧ Below _ _ w' from by
    obtain ⟨F, G0, h1, _⟩ := HH.out
    rw [hD1]
    exact readD_good h1 i hi ho Hwl.out)
  clear hD1 ho hi hrD
  obtain ⟨E2, hE2⟩ : ∃ E : Int, E = t.rdy (i : Int) := ⟨_, rfl⟩
  have HR2 := Lib.hid (show ∀ u, Below _ _ u → Calls Try.prog 41 #[.pointer (some ⟨x, 0, none⟩), .int .i64 (i : Int)] u fun e w' => e = .returned (.tuple #[.slice none 0 0, .int .i64 E2]) ∧ u = w' from fun u hu => by
    obtain ⟨F, G0, _, h1, _⟩ := HH.out
    rw [hE2]
    exact xRead_bad (h1.below hu) (i : Int) hrX)
  clear hE2 hrX
  go_enter Try.func26, Try.ntmps26
  go_upto_region 1 with fail
  change Code.wp _ _ _ _ ((w.alloc (.cells #[.pointer (some ⟨d, 0, none⟩), .pointer (some ⟨x, 0, none⟩)] 45)).alloc (.cells #[.int .i64 kd, .int .i64 (i : Int), .int .i64 b, .slice da dl dc, .slice fa fl fc] 49))
  generalize (w.alloc (.cells #[.pointer (some ⟨d, 0, none⟩), .pointer (some ⟨x, 0, none⟩)] 45)).alloc (.cells #[.int .i64 kd, .int .i64 (i : Int), .int .i64 b, .slice da dl dc, .slice fa fl fc] 49) = w2 at *
  obtain ⟨A, hA⟩ : ∃ A, A = (w.alloc (.cells #[.pointer (some ⟨d, 0, none⟩), .pointer (some ⟨x, 0, none⟩)] 45)).heap.size := ⟨_, rfl⟩
  have hA1 : (w.alloc (.cells #[.pointer (some ⟨d, 0, none⟩), .pointer (some ⟨x, 0, none⟩)] 45)).heap.size = w.heap.size + 1 := by simp
  rw [← hA] at HAb HAn
  rw [hA1] at hA
  clear hA1
  obtain ⟨P, hP⟩ : ∃ P, P = w.heap.size := ⟨_, rfl⟩
  rw [← hP] at HP HPn hA
  rw [← hP]
  try rw [← hA]
  clear hP hA
  have cA0 : w2.cell? ⟨A, 0, none⟩ = some (.int .i64 kd) := HAb.out.at 0 _ rfl
  have cP0 : w2.cell? ⟨P, 0, none⟩ = some (.pointer (some ⟨d, 0, none⟩)) := HP.out.at 0 _ rfl
  have cA1 : w2.cell? ⟨A, 1, none⟩ = some (.int .i64 (i : Int)) := HAb.out.at 1 _ rfl
  go_wp2_with fail
  refine (HPk.out w2).mono ?_
  rintro e w3 ⟨rfl, rfl⟩
  go_wp2_with fail
  refine HR1.out.mono ?_
  rintro e w3 ⟨G, rfl, hG, hB, hb⟩
  have HG := Lib.hid hG
  have HB := Lib.hid hB
  have Hb3 := Lib.hid hb
  clear hG hB hb
  clear cA0 cP0 cA1 HR1
  have cP1 : w3.cell? ⟨P, 1, none⟩ = some (.pointer (some ⟨x, 0, none⟩)) := (HP.out.below Hb3.out HP.out.lt).at 1 _ rfl
  have cA1 : w3.cell? ⟨A, 1, none⟩ = some (.int .i64 (i : Int)) := (HAb.out.below Hb3.out HAb.out.lt).at 1 _ rfl
  go_wp2_with fail
  refine (HR2.out w3 Hb3.out).mono ?_
  rintro e w4 ⟨rfl, rfl⟩
  have Hb4 := Hb3
  have HB4 := HB
  clear Hb3 cP1 cA1 HR2 HB
  go_wp2_with fail
  refine (same_is (lb := 0) (xs := D1) (ys := []) false (decide_eq_false (fun e => by have h := HD1.out.1; rw [e] at h; cases h)) (bytes_256 HB4.out HD1.out).1 ⟨rfl, (fun n h => by cases h), fun h => absurd h (by omega)⟩ (by omega) (by omega)).mono ?_
  rintro e w5 ⟨rfl, n, rfl⟩
  have hdn := nu_drewN (nu_refl w3) n
  have HB5 := Lib.hid (HB4.out.below hdn HB4.out.lt)
  have Hb5 := Lib.hid (nu_trans Hb4.out hdn)
  clear hdn Hb4 HB4
  generalize w3.drewN n = w5 at *
  go_wp2_with fail
  go_loopw [10] (fun j wx => ∃ (k : Nat) (ys2 : List Nat), k ≤ 256 ∧ j = .int .i64 k ∧ Bl ys2 ∧ Blk wx G 73 (ys2.map vb).toArray ∧ Below w2.heap.size w2 wx) (fun j _ => 256 - (intOf j).toNat)
  case atStart => exact ⟨0, D1, by omega, rfl, HD1.out, HB5.out, Hb5.out⟩
  case round =>
    clear HB5 Hb5
    obtain ⟨k, ys2, hk, rfl, hys, hB, hb⟩ := hrel
    by_cases hlt : k < 256
    · have hji : (k : Int) < 256 := by omega
      obtain ⟨y, hy, hy8⟩ := hys.at hlt
      obtain ⟨z, hz⟩ : ∃ z, z = (y + 1) % 256 := ⟨_, rfl⟩
      have ez : IntKind.u8.wrap ((y : Int) + 1) = (z : Int) := by rw [IntKind.wrap_u8]; omega
      have hz8 : z < 256 := by omega
      have c0 : wr.cell? ⟨G, k, none⟩ = some (.int .u8 (y : Int)) := hB.at k _ (arrg_at vb _ k y hy)
      have hset := hB.put k (vb z)
      rw [arrg_set vb ys2 k z] at hset
      have HB1 := Lib.hid hset
      have HY1 := Lib.hid (show Bl (ys2.set k z) from ⟨by rw [List.length_set]; exact hys.1, fun u hu => by
        rcases List.mem_or_eq_of_mem_set hu with hu | hu
        · exact hys.2 u hu
        · rw [hu]; exact hz8⟩)
      have Hb1 := Lib.hid (nu_set hb (p := ⟨G, k, none⟩) HG.out (vb z))
      have f0 : wr.frozen? ⟨G, k, none⟩ = false := hB.free k
      simp only [vb] at HB1 Hb1
      clear hys hB hb hy hy8 hz hz8 hset
      go_wp2_with fail
      clear c0 f0
      generalize wr.setCell ⟨G, k, none⟩ (.int .u8 (z : Int)) = w7 at *
      go_roundw
      case rel => first | exact ⟨k + 1, _, by omega, by go_num, HY1.out, HB1.out, Hb1.out⟩ | ((repeat apply Exists.intro); exact ⟨⟨k + 1, _, by omega, by go_num, HY1.out, HB1.out, Hb1.out⟩, rfl⟩)
      case measure => simp [intOf]; omega
    · obtain rfl : k = 256 := by omega
      have HN := Lib.hid (PairTo.of_below HH.out hb)
      clear hB hb hys
      go_wp2_with fail
      go_ret
      exact ⟨_, s, t, rfl, Step.refl s, Step.refl t, PairTo.ahead Hb2.out Hlt.out HN.out⟩
set_option maxRecDepth 100000 in
set_option maxHeartbeats 8000000 in
theorem doq_0bg (H : Pair2 w d x s t U) (hrD : s.rdy a ≠ 0) (hrX : t.rdy a = 0) (hk : kd % 11 = 0) (hkb : -9223372036854775808 ≤ kd ∧ kd ≤ 9223372036854775807) (ha : -9223372036854775808 ≤ a ∧ a ≤ 9223372036854775807) (hb : -9223372036854775808 ≤ b ∧ b ≤ 9223372036854775807) (ys : List Nat) (hx : BytesIn w da dl dc ys) (hxf : Far w U da dl) (fs : List Int) (hf : NumsIn w fa fl fs) (hff : Far w U fa fl) (hfl : fl ≤ 1000) (hwl : s.wa.length ≤ 1000) (hrl : s.wr.length ≤ 1000) (hwt : t.wa.length ≤ 1000) (hrt : t.wr.length ≤ 1000) :
    Calls Try.prog 26 #[.agg #[.pointer (some ⟨d, 0, none⟩), .pointer (some ⟨x, 0, none⟩)], .agg #[.int .i64 kd, .int .i64 a, .int .i64 b, .slice da dl dc, .slice fa fl fc]] w (DoP U w d x s t) := by
  have hal1 := nu_alloc (nu_refl w) (.cells #[.pointer (some ⟨d, 0, none⟩), .pointer (some ⟨x, 0, none⟩)] 45)
  have hal2 := nu_alloc (nu_refl (w.alloc (.cells #[.pointer (some ⟨d, 0, none⟩), .pointer (some ⟨x, 0, none⟩)] 45))) (.cells #[.int .i64 kd, .int .i64 a, .int .i64 b, .slice da dl dc, .slice fa fl fc] 49)
  have hpm := Blk.made w 45 #[.pointer (some ⟨d, 0, none⟩), .pointer (some ⟨x, 0, none⟩)]
  have HP := Lib.hid (hpm.below hal2 hpm.lt)
  have HAb := Lib.hid (Blk.made (w.alloc (.cells #[.pointer (some ⟨d, 0, none⟩), .pointer (some ⟨x, 0, none⟩)] 45)) 49 #[.int .i64 kd, .int .i64 a, .int .i64 b, .slice da dl dc, .slice fa fl fc])
  have Hb2 := Lib.hid (nu_trans hal1 hal2)
  have HH := Lib.hid (H.below Hb2.out)
  have Hlt := Lib.hid H.lt
  have Hok := Lib.hid H.okD
  have Hokt := Lib.hid H.okX
  have Hwt := Lib.hid (show t.wa.length ≤ 1000000000 by omega)
  have Hrt := Lib.hid (show t.wr.length ≤ 1000000000 by omega)
  have HPn := Lib.hid (show ¬ U w.heap.size from fun h => Nat.lt_irrefl _ (H.lt _ h))
  have HAn := Lib.hid (show ¬ U (w.alloc (.cells #[.pointer (some ⟨d, 0, none⟩), .pointer (some ⟨x, 0, none⟩)] 45)).heap.size from fun h => by have h1 := H.lt _ h; have h2 := hal1.size; omega)
  have HX := Lib.hid (hx.keep Hb2.out)
  have HXF := Lib.hid (hxf.below Hb2.out)
  have HF := Lib.hid (hf.below Hb2.out)
  have HFF := Lib.hid (hff.below Hb2.out)
  have HPk := Lib.hid (show ∀ u : World, Calls Try.prog 18 #[.int .i64 kd, .int .i64 11] u fun e w' => e = .returned (.int .i64 (0 : Int)) ∧ u = w' from fun u => pick_any kd 11 0 u (by rw [hk]; rfl) (by omega) (by omega) hkb.1 hkb.2)
  have Hwl := Lib.hid (show s.wa.length ≤ 1000000000 by omega)
  have Hrl := Lib.hid (show s.wr.length ≤ 1000000000 by omega)
  have Ha := Lib.hid ha
  have Hb := Lib.hid hb
  have Hfl := Lib.hid (show fl ≤ 9223372036854775807 by omega)
  clear H hk hkb ha hb hx hxf hf hff hfl hwl hrl hwt hrt hal1 hal2 hpm
  obtain ⟨ho2, i, rfl, hi2⟩ := rdy_zero hrX
  obtain ⟨E1, hE1⟩ : ∃ E : Int, E = s.rdy (i : Int) := ⟨_, rfl⟩
  have HR1 := Lib.hid (show Calls Try.prog 15 #[.pointer (some ⟨d, 0, none⟩), .int .i64 (i : Int)] _ fun e w' => e = .returned (.tuple #[.slice none 0 0, .int .i64 E1]) ∧ _ = w' from by
    obtain ⟨F, G0, h1, _⟩ := HH.out
    rw [hE1]
    exact readD_bad h1 (i : Int) hrD)
  clear hE1 hrD
  obtain ⟨D2, hD2⟩ : ∃ D, D = t.now i := ⟨_, rfl⟩
  have HD2 := Lib.hid (show Bl D2 by rw [hD2]; exact Hokt.out.now hi2)
  have HR2 := Lib.hid (show ∀ u, Below _ _ u → Calls Try.prog 41 #[.pointer (some ⟨x, 0, none⟩), .int .i64 (i : Int)] u fun e w' => ∃ C cc, e = .returned (.tuple #[.slice (some ⟨C, 0, none⟩) 256 cc, .int .i64 0]) ∧ OwnB w' u.heap.size 5 (.slice (some ⟨C, 0, none⟩) 256 cc) D2 ∧ Below u.heap.size u w' from fun u hu => by
    obtain ⟨F, G0, _, h1, _⟩ := HH.out
    rw [hD2]
    exact xRead_good (h1.below hu) i hi2 ho2 Hwt.out)
  clear hD2 ho2 hi2 hrX
  go_enter Try.func26, Try.ntmps26
  go_upto_region 1 with fail
  change Code.wp _ _ _ _ ((w.alloc (.cells #[.pointer (some ⟨d, 0, none⟩), .pointer (some ⟨x, 0, none⟩)] 45)).alloc (.cells #[.int .i64 kd, .int .i64 (i : Int), .int .i64 b, .slice da dl dc, .slice fa fl fc] 49))
  generalize (w.alloc (.cells #[.pointer (some ⟨d, 0, none⟩), .pointer (some ⟨x, 0, none⟩)] 45)).alloc (.cells #[.int .i64 kd, .int .i64 (i : Int), .int .i64 b, .slice da dl dc, .slice fa fl fc] 49) = w2 at *
  obtain ⟨A, hA⟩ : ∃ A, A = (w.alloc (.cells #[.pointer (some ⟨d, 0, none⟩), .pointer (some ⟨x, 0, none⟩)] 45)).heap.size := ⟨_, rfl⟩
  have hA1 : (w.alloc (.cells #[.pointer (some ⟨d, 0, none⟩), .pointer (some ⟨x, 0, none⟩)] 45)).heap.size = w.heap.size + 1 := by simp
  rw [← hA] at HAb HAn
  rw [hA1] at hA
  clear hA1
  obtain ⟨P, hP⟩ : ∃ P, P = w.heap.size := ⟨_, rfl⟩
  rw [← hP] at HP HPn hA
  rw [← hP]
  try rw [← hA]
  clear hP hA
  have cA0 : w2.cell? ⟨A, 0, none⟩ = some (.int .i64 kd) := HAb.out.at 0 _ rfl
  have cP0 : w2.cell? ⟨P, 0, none⟩ = some (.pointer (some ⟨d, 0, none⟩)) := HP.out.at 0 _ rfl
  have cA1 : w2.cell? ⟨A, 1, none⟩ = some (.int .i64 (i : Int)) := HAb.out.at 1 _ rfl
  go_wp2_with fail
  refine (HPk.out w2).mono ?_
  rintro e w3 ⟨rfl, rfl⟩
  go_wp2_with fail
  refine HR1.out.mono ?_
  rintro e w3 ⟨rfl, rfl⟩
  obtain ⟨w3, rfl⟩ : ∃ q : World, q = w2 := ⟨_, rfl⟩
  have Hb3 := Lib.hid (nu_refl w3)
  clear cA0 cP0 cA1 HR1
  have cP1 : w3.cell? ⟨P, 1, none⟩ = some (.pointer (some ⟨x, 0, none⟩)) := (HP.out.below Hb3.out HP.out.lt).at 1 _ rfl
  have cA1 : w3.cell? ⟨A, 1, none⟩ = some (.int .i64 (i : Int)) := (HAb.out.below Hb3.out HAb.out.lt).at 1 _ rfl
  go_wp2_with fail
  refine (HR2.out w3 Hb3.out).mono ?_
  rintro e w4 ⟨C, cc, rfl, hO, hb⟩
  have HO4 := Lib.hid hO
  have Hb4 := Lib.hid (nu_trans Hb3.out hb)
  clear hO hb
  clear Hb3 cP1 cA1 HR2
  go_wp2_with fail
  refine (same_is (la := 0) (xs := []) (ys := D2) false (decide_eq_false (fun e => by have h := HD2.out.1; rw [← e] at h; cases h)) ⟨rfl, (fun n h => by cases h), fun h => absurd h (by omega)⟩ (ownB_bytes HO4.out HD2.out.1).1 (by omega) (by omega)).mono ?_
  rintro e w5 ⟨rfl, n, rfl⟩
  have hdn := nu_drewN (nu_refl w4) n
  have Hb5 := Lib.hid (nu_trans Hb4.out hdn)
  clear hdn Hb4 HO4
  generalize w4.drewN n = w5 at *
  go_wp2_with fail
  go_loopw [10] (fun j wx => j = .int .i64 0 ∧ wx = w5) (fun _ _ => 0)
  case atStart => exact ⟨rfl, rfl⟩
  case round =>
    obtain ⟨rfl, rfl⟩ := hrel
    have HN := Lib.hid (PairTo.of_below HH.out Hb5.out)
    clear Hb5
    go_wp2_with fail
    go_ret
    exact ⟨_, s, t, rfl, Step.refl s, Step.refl t, PairTo.ahead Hb2.out Hlt.out HN.out⟩
set_option maxRecDepth 100000 in
set_option maxHeartbeats 8000000 in
theorem doq_0gg (H : Pair2 w d x s t U) (hrD : s.rdy a = 0) (hrX : t.rdy a = 0) (hk : kd % 11 = 0) (hkb : -9223372036854775808 ≤ kd ∧ kd ≤ 9223372036854775807) (ha : -9223372036854775808 ≤ a ∧ a ≤ 9223372036854775807) (hb : -9223372036854775808 ≤ b ∧ b ≤ 9223372036854775807) (ys : List Nat) (hx : BytesIn w da dl dc ys) (hxf : Far w U da dl) (fs : List Int) (hf : NumsIn w fa fl fs) (hff : Far w U fa fl) (hfl : fl ≤ 1000) (hwl : s.wa.length ≤ 1000) (hrl : s.wr.length ≤ 1000) (hwt : t.wa.length ≤ 1000) (hrt : t.wr.length ≤ 1000) :
    Calls Try.prog 26 #[.agg #[.pointer (some ⟨d, 0, none⟩), .pointer (some ⟨x, 0, none⟩)], .agg #[.int .i64 kd, .int .i64 a, .int .i64 b, .slice da dl dc, .slice fa fl fc]] w (DoP U w d x s t) := by
  have hal1 := nu_alloc (nu_refl w) (.cells #[.pointer (some ⟨d, 0, none⟩), .pointer (some ⟨x, 0, none⟩)] 45)
  have hal2 := nu_alloc (nu_refl (w.alloc (.cells #[.pointer (some ⟨d, 0, none⟩), .pointer (some ⟨x, 0, none⟩)] 45))) (.cells #[.int .i64 kd, .int .i64 a, .int .i64 b, .slice da dl dc, .slice fa fl fc] 49)
  have hpm := Blk.made w 45 #[.pointer (some ⟨d, 0, none⟩), .pointer (some ⟨x, 0, none⟩)]
  have HP := Lib.hid (hpm.below hal2 hpm.lt)
  have HAb := Lib.hid (Blk.made (w.alloc (.cells #[.pointer (some ⟨d, 0, none⟩), .pointer (some ⟨x, 0, none⟩)] 45)) 49 #[.int .i64 kd, .int .i64 a, .int .i64 b, .slice da dl dc, .slice fa fl fc])
  have Hb2 := Lib.hid (nu_trans hal1 hal2)
  have HH := Lib.hid (H.below Hb2.out)
  have Hlt := Lib.hid H.lt
  have Hok := Lib.hid H.okD
  have Hokt := Lib.hid H.okX
  have Hwt := Lib.hid (show t.wa.length ≤ 1000000000 by omega)
  have Hrt := Lib.hid (show t.wr.length ≤ 1000000000 by omega)
  have HPn := Lib.hid (show ¬ U w.heap.size from fun h => Nat.lt_irrefl _ (H.lt _ h))
  have HAn := Lib.hid (show ¬ U (w.alloc (.cells #[.pointer (some ⟨d, 0, none⟩), .pointer (some ⟨x, 0, none⟩)] 45)).heap.size from fun h => by have h1 := H.lt _ h; have h2 := hal1.size; omega)
  have HX := Lib.hid (hx.keep Hb2.out)
  have HXF := Lib.hid (hxf.below Hb2.out)
  have HF := Lib.hid (hf.below Hb2.out)
  have HFF := Lib.hid (hff.below Hb2.out)
  have HPk := Lib.hid (show ∀ u : World, Calls Try.prog 18 #[.int .i64 kd, .int .i64 11] u fun e w' => e = .returned (.int .i64 (0 : Int)) ∧ u = w' from fun u => pick_any kd 11 0 u (by rw [hk]; rfl) (by omega) (by omega) hkb.1 hkb.2)
  have Hwl := Lib.hid (show s.wa.length ≤ 1000000000 by omega)
  have Hrl := Lib.hid (show s.wr.length ≤ 1000000000 by omega)
  have Ha := Lib.hid ha
  have Hb := Lib.hid hb
  have Hfl := Lib.hid (show fl ≤ 9223372036854775807 by omega)
  clear H hk hkb ha hb hx hxf hf hff hfl hwl hrl hwt hrt hal1 hal2 hpm
  obtain ⟨ho, i, rfl, hi⟩ := rdy_zero hrD
  obtain ⟨ho2, i2, hie, hi2⟩ := rdy_zero hrX
  obtain rfl : i = i2 := by omega
  clear hie
  obtain ⟨D1, hD1⟩ : ∃ D, D = s.now i := ⟨_, rfl⟩
  have HD1 := Lib.hid (show Bl D1 by rw [hD1]; exact Hok.out.now hi)
  have HR1 := Lib.hid (show Calls Try.prog 15 #[.pointer (some ⟨d, 0, none⟩), .int .i64 (i : Int)] _ fun e w' => ∃ G, e = .returned (.tuple #[.slice (some ⟨G, 0, none⟩) 256 256, .int .i64 0]) ∧ _ ≤ G ∧ Blk w' G 73 (D1.map vb).toArray ∧ Below _ _ w' from by
    obtain ⟨F, G0, h1, _⟩ := HH.out
    rw [hD1]
    exact readD_good h1 i hi ho Hwl.out)
  clear hD1 ho hi hrD
  obtain ⟨D2, hD2⟩ : ∃ D, D = t.now i := ⟨_, rfl⟩
  have HD2 := Lib.hid (show Bl D2 by rw [hD2]; exact Hokt.out.now hi2)
  have HR2 := Lib.hid (show ∀ u, Below _ _ u → Calls Try.prog 41 #[.pointer (some ⟨x, 0, none⟩), .int .i64 (i : Int)] u fun e w' => ∃ C cc, e = .returned (.tuple #[.slice (some ⟨C, 0, none⟩) 256 cc, .int .i64 0]) ∧ OwnB w' u.heap.size 5 (.slice (some ⟨C, 0, none⟩) 256 cc) D2 ∧ Below u.heap.size u w' from fun u hu => by
    obtain ⟨F, G0, _, h1, _⟩ := HH.out
    rw [hD2]
    exact xRead_good (h1.below hu) i hi2 ho2 Hwt.out)
  clear hD2 ho2 hi2 hrX
  go_enter Try.func26, Try.ntmps26
  go_upto_region 1 with fail
  change Code.wp _ _ _ _ ((w.alloc (.cells #[.pointer (some ⟨d, 0, none⟩), .pointer (some ⟨x, 0, none⟩)] 45)).alloc (.cells #[.int .i64 kd, .int .i64 (i : Int), .int .i64 b, .slice da dl dc, .slice fa fl fc] 49))
  generalize (w.alloc (.cells #[.pointer (some ⟨d, 0, none⟩), .pointer (some ⟨x, 0, none⟩)] 45)).alloc (.cells #[.int .i64 kd, .int .i64 (i : Int), .int .i64 b, .slice da dl dc, .slice fa fl fc] 49) = w2 at *
  obtain ⟨A, hA⟩ : ∃ A, A = (w.alloc (.cells #[.pointer (some ⟨d, 0, none⟩), .pointer (some ⟨x, 0, none⟩)] 45)).heap.size := ⟨_, rfl⟩
  have hA1 : (w.alloc (.cells #[.pointer (some ⟨d, 0, none⟩), .pointer (some ⟨x, 0, none⟩)] 45)).heap.size = w.heap.size + 1 := by simp
  rw [← hA] at HAb HAn
  rw [hA1] at hA
  clear hA1
  obtain ⟨P, hP⟩ : ∃ P, P = w.heap.size := ⟨_, rfl⟩
  rw [← hP] at HP HPn hA
  rw [← hP]
  try rw [← hA]
  clear hP hA
  have cA0 : w2.cell? ⟨A, 0, none⟩ = some (.int .i64 kd) := HAb.out.at 0 _ rfl
  have cP0 : w2.cell? ⟨P, 0, none⟩ = some (.pointer (some ⟨d, 0, none⟩)) := HP.out.at 0 _ rfl
  have cA1 : w2.cell? ⟨A, 1, none⟩ = some (.int .i64 (i : Int)) := HAb.out.at 1 _ rfl
  go_wp2_with fail
  refine (HPk.out w2).mono ?_
  rintro e w3 ⟨rfl, rfl⟩
  go_wp2_with fail
  refine HR1.out.mono ?_
  rintro e w3 ⟨G, rfl, hG, hB, hb⟩
  have HG := Lib.hid hG
  have HB := Lib.hid hB
  have Hb3 := Lib.hid hb
  clear hG hB hb
  clear cA0 cP0 cA1 HR1
  have cP1 : w3.cell? ⟨P, 1, none⟩ = some (.pointer (some ⟨x, 0, none⟩)) := (HP.out.below Hb3.out HP.out.lt).at 1 _ rfl
  have cA1 : w3.cell? ⟨A, 1, none⟩ = some (.int .i64 (i : Int)) := (HAb.out.below Hb3.out HAb.out.lt).at 1 _ rfl
  go_wp2_with fail
  refine (HR2.out w3 Hb3.out).mono ?_
  rintro e w4 ⟨C, cc, rfl, hO, hb⟩
  have HO4 := Lib.hid hO
  have HB4 := Lib.hid (HB.out.below hb HB.out.lt)
  have Hb4 := Lib.hid (nu_trans Hb3.out hb)
  clear hO hb
  clear Hb3 cP1 cA1 HR2 HB
  go_wp2_with fail
  obtain ⟨v, hv⟩ : ∃ v, decide (D1 = D2) = v := ⟨_, rfl⟩
  refine (same_is (xs := D1) (ys := D2) v hv (bytes_256 HB4.out HD1.out).1 (ownB_bytes HO4.out HD2.out.1).1 (by omega) (by omega)).mono ?_
  rintro e w5 ⟨rfl, n, rfl⟩
  have hdn := nu_drewN (nu_refl w4) n
  have HB5 := Lib.hid (HB4.out.below hdn HB4.out.lt)
  have Hb5 := Lib.hid (nu_trans Hb4.out hdn)
  clear hdn Hb4 HB4 HO4 hv
  generalize w4.drewN n = w5 at *
  cases v
  · go_wp2_with fail
    go_loopw [10] (fun j wx => ∃ (k : Nat) (ys2 : List Nat), k ≤ 256 ∧ j = .int .i64 k ∧ Bl ys2 ∧ Blk wx G 73 (ys2.map vb).toArray ∧ Below w2.heap.size w2 wx) (fun j _ => 256 - (intOf j).toNat)
    case atStart => exact ⟨0, D1, by omega, rfl, HD1.out, HB5.out, Hb5.out⟩
    case round =>
      clear HB5 Hb5
      obtain ⟨k, ys2, hk, rfl, hys, hB, hb⟩ := hrel
      by_cases hlt : k < 256
      · have hji : (k : Int) < 256 := by omega
        obtain ⟨y, hy, hy8⟩ := hys.at hlt
        obtain ⟨z, hz⟩ : ∃ z, z = (y + 1) % 256 := ⟨_, rfl⟩
        have ez : IntKind.u8.wrap ((y : Int) + 1) = (z : Int) := by rw [IntKind.wrap_u8]; omega
        have hz8 : z < 256 := by omega
        have c0 : wr.cell? ⟨G, k, none⟩ = some (.int .u8 (y : Int)) := hB.at k _ (arrg_at vb _ k y hy)
        have hset := hB.put k (vb z)
        rw [arrg_set vb ys2 k z] at hset
        have HB1 := Lib.hid hset
        have HY1 := Lib.hid (show Bl (ys2.set k z) from ⟨by rw [List.length_set]; exact hys.1, fun u hu => by
          rcases List.mem_or_eq_of_mem_set hu with hu | hu
          · exact hys.2 u hu
          · rw [hu]; exact hz8⟩)
        have Hb1 := Lib.hid (nu_set hb (p := ⟨G, k, none⟩) HG.out (vb z))
        have f0 : wr.frozen? ⟨G, k, none⟩ = false := hB.free k
        simp only [vb] at HB1 Hb1
        clear hys hB hb hy hy8 hz hz8 hset
        go_wp2_with fail
        clear c0 f0
        generalize wr.setCell ⟨G, k, none⟩ (.int .u8 (z : Int)) = w7 at *
        go_roundw
        case rel => first | exact ⟨k + 1, _, by omega, by go_num, HY1.out, HB1.out, Hb1.out⟩ | ((repeat apply Exists.intro); exact ⟨⟨k + 1, _, by omega, by go_num, HY1.out, HB1.out, Hb1.out⟩, rfl⟩)
        case measure => simp [intOf]; omega
      · obtain rfl : k = 256 := by omega
        have HN := Lib.hid (PairTo.of_below HH.out hb)
        clear hB hb hys
        go_wp2_with fail
        go_ret
        exact ⟨_, s, t, rfl, Step.refl s, Step.refl t, PairTo.ahead Hb2.out Hlt.out HN.out⟩
  · go_wp2_with fail
    go_loopw [10] (fun j wx => ∃ (k : Nat) (ys2 : List Nat), k ≤ 256 ∧ j = .int .i64 k ∧ Bl ys2 ∧ Blk wx G 73 (ys2.map vb).toArray ∧ Below w2.heap.size w2 wx) (fun j _ => 256 - (intOf j).toNat)
    case atStart => exact ⟨0, D1, by omega, rfl, HD1.out, HB5.out, Hb5.out⟩
    case round =>
      clear HB5 Hb5
      obtain ⟨k, ys2, hk, rfl, hys, hB, hb⟩ := hrel
      by_cases hlt : k < 256
      · have hji : (k : Int) < 256 := by omega
        obtain ⟨y, hy, hy8⟩ := hys.at hlt
        obtain ⟨z, hz⟩ : ∃ z, z = (y + 1) % 256 := ⟨_, rfl⟩
        have ez : IntKind.u8.wrap ((y : Int) + 1) = (z : Int) := by rw [IntKind.wrap_u8]; omega
        have hz8 : z < 256 := by omega
        have c0 : wr.cell? ⟨G, k, none⟩ = some (.int .u8 (y : Int)) := hB.at k _ (arrg_at vb _ k y hy)
        have hset := hB.put k (vb z)
        rw [arrg_set vb ys2 k z] at hset
        have HB1 := Lib.hid hset
        have HY1 := Lib.hid (show Bl (ys2.set k z) from ⟨by rw [List.length_set]; exact hys.1, fun u hu => by
          rcases List.mem_or_eq_of_mem_set hu with hu | hu
          · exact hys.2 u hu
          · rw [hu]; exact hz8⟩)
        have Hb1 := Lib.hid (nu_set hb (p := ⟨G, k, none⟩) HG.out (vb z))
        have f0 : wr.frozen? ⟨G, k, none⟩ = false := hB.free k
        simp only [vb] at HB1 Hb1
        clear hys hB hb hy hy8 hz hz8 hset
        go_wp2_with fail
        clear c0 f0
        generalize wr.setCell ⟨G, k, none⟩ (.int .u8 (z : Int)) = w7 at *
        go_roundw
        case rel => first | exact ⟨k + 1, _, by omega, by go_num, HY1.out, HB1.out, Hb1.out⟩ | ((repeat apply Exists.intro); exact ⟨⟨k + 1, _, by omega, by go_num, HY1.out, HB1.out, Hb1.out⟩, rfl⟩)
        case measure => simp [intOf]; omega
      · obtain rfl : k = 256 := by omega
        have HN := Lib.hid (PairTo.of_below HH.out hb)
        clear hB hb hys
        go_wp2_with fail
        go_ret
        exact ⟨_, s, t, rfl, Step.refl s, Step.refl t, PairTo.ahead Hb2.out Hlt.out HN.out⟩
set_option maxRecDepth 100000 in
set_option maxHeartbeats 8000000 in
theorem doq_1 (H : Pair2 w d x s t U) (hk : kd % 11 = 1) (hkb : -9223372036854775808 ≤ kd ∧ kd ≤ 9223372036854775807) (ha : -9223372036854775808 ≤ a ∧ a ≤ 9223372036854775807) (hb : -9223372036854775808 ≤ b ∧ b ≤ 9223372036854775807) (ys : List Nat) (hx : BytesIn w da dl dc ys) (hxf : Far w U da dl) (fs : List Int) (hf : NumsIn w fa fl fs) (hff : Far w U fa fl) (hfl : fl ≤ 1000) (hdl : dl ≤ 1000) (hwl : s.wa.length ≤ 1000) (hrl : s.wr.length ≤ 1000) (hwt : t.wa.length ≤ 1000) (hrt : t.wr.length ≤ 1000) :
    Calls Try.prog 26 #[.agg #[.pointer (some ⟨d, 0, none⟩), .pointer (some ⟨x, 0, none⟩)], .agg #[.int .i64 kd, .int .i64 a, .int .i64 b, .slice da dl dc, .slice fa fl fc]] w (DoP U w d x s t) := by
  have hal1 := nu_alloc (nu_refl w) (.cells #[.pointer (some ⟨d, 0, none⟩), .pointer (some ⟨x, 0, none⟩)] 45)
  have hal2 := nu_alloc (nu_refl (w.alloc (.cells #[.pointer (some ⟨d, 0, none⟩), .pointer (some ⟨x, 0, none⟩)] 45))) (.cells #[.int .i64 kd, .int .i64 a, .int .i64 b, .slice da dl dc, .slice fa fl fc] 49)
  have hpm := Blk.made w 45 #[.pointer (some ⟨d, 0, none⟩), .pointer (some ⟨x, 0, none⟩)]
  have HP := Lib.hid (hpm.below hal2 hpm.lt)
  have HAb := Lib.hid (Blk.made (w.alloc (.cells #[.pointer (some ⟨d, 0, none⟩), .pointer (some ⟨x, 0, none⟩)] 45)) 49 #[.int .i64 kd, .int .i64 a, .int .i64 b, .slice da dl dc, .slice fa fl fc])
  have Hb2 := Lib.hid (nu_trans hal1 hal2)
  have HH := Lib.hid (H.below Hb2.out)
  have Hlt := Lib.hid H.lt
  have Hok := Lib.hid H.okD
  have Hokt := Lib.hid H.okX
  have Hwt := Lib.hid (show t.wa.length ≤ 1000000000 by omega)
  have Hrt := Lib.hid (show t.wr.length ≤ 1000000000 by omega)
  have HPn := Lib.hid (show ¬ U w.heap.size from fun h => Nat.lt_irrefl _ (H.lt _ h))
  have HAn := Lib.hid (show ¬ U (w.alloc (.cells #[.pointer (some ⟨d, 0, none⟩), .pointer (some ⟨x, 0, none⟩)] 45)).heap.size from fun h => by have h1 := H.lt _ h; have h2 := hal1.size; omega)
  have HX := Lib.hid (hx.keep Hb2.out)
  have HXF := Lib.hid (hxf.below Hb2.out)
  have HF := Lib.hid (hf.below Hb2.out)
  have HFF := Lib.hid (hff.below Hb2.out)
  have HPk := Lib.hid (show ∀ u : World, Calls Try.prog 18 #[.int .i64 kd, .int .i64 11] u fun e w' => e = .returned (.int .i64 (1 : Int)) ∧ u = w' from fun u => pick_any kd 11 1 u (by rw [hk]; rfl) (by omega) (by omega) hkb.1 hkb.2)
  have Hwl := Lib.hid (show s.wa.length ≤ 1000000000 by omega)
  have Hrl := Lib.hid (show s.wr.length ≤ 1000000000 by omega)
  have Ha := Lib.hid ha
  have Hb := Lib.hid hb
  have Hfl := Lib.hid (show fl ≤ 9223372036854775807 by omega)
  have Hdl := Lib.hid hdl
  clear hdl H hk hkb ha hb hx hxf hf hff hfl hwl hrl hwt hrt hal1 hal2 hpm
  go_enter Try.func26, Try.ntmps26
  go_upto_region 1 with fail
  change Code.wp _ _ _ _ ((w.alloc (.cells #[.pointer (some ⟨d, 0, none⟩), .pointer (some ⟨x, 0, none⟩)] 45)).alloc (.cells #[.int .i64 kd, .int .i64 a, .int .i64 b, .slice da dl dc, .slice fa fl fc] 49))
  generalize (w.alloc (.cells #[.pointer (some ⟨d, 0, none⟩), .pointer (some ⟨x, 0, none⟩)] 45)).alloc (.cells #[.int .i64 kd, .int .i64 a, .int .i64 b, .slice da dl dc, .slice fa fl fc] 49) = w2 at *
  obtain ⟨A, hA⟩ : ∃ A, A = (w.alloc (.cells #[.pointer (some ⟨d, 0, none⟩), .pointer (some ⟨x, 0, none⟩)] 45)).heap.size := ⟨_, rfl⟩
  have hA1 : (w.alloc (.cells #[.pointer (some ⟨d, 0, none⟩), .pointer (some ⟨x, 0, none⟩)] 45)).heap.size = w.heap.size + 1 := by simp
  rw [← hA] at HAb HAn
  rw [hA1] at hA
  clear hA1
  obtain ⟨P, hP⟩ : ∃ P, P = w.heap.size := ⟨_, rfl⟩
  rw [← hP] at HP HPn hA
  rw [← hP]
  try rw [← hA]
  clear hP hA
  have cA0 : w2.cell? ⟨A, 0, none⟩ = some (.int .i64 kd) := HAb.out.at 0 _ rfl
  have cA3 : w2.cell? ⟨A, 3, none⟩ = some (.slice da dl dc) := HAb.out.at 3 _ rfl
  go_wp2_with fail
  refine (HPk.out w2).mono ?_
  rintro e w3 ⟨rfl, rfl⟩
  go_wp2_with fail
  refine (full_any da dl dc ys w2 HX.out (by have := Hdl.out; omega)).mono ?_
  rintro e w3 ⟨G, rfl, hG, hB, hb⟩
  have HG := Lib.hid hG
  have HB := Lib.hid hB
  have Hb3 := Lib.hid hb
  clear hG hB hb cA0 cA3
  have cA2 : w3.cell? ⟨A, 2, none⟩ = some (.int .i64 b) := (HAb.out.below Hb3.out HAb.out.lt).at 2 _ rfl
  have cA3 : w3.cell? ⟨A, 3, none⟩ = some (.slice da dl dc) := (HAb.out.below Hb3.out HAb.out.lt).at 3 _ rfl
  go_upto_region 14 with fail
  go_upto_if 82 with fail
  obtain ⟨w4, rfl⟩ : ∃ q : World, q = w3 := ⟨_, rfl⟩
  go_cut [11] (fun s11 wx => ∃ (ab : Option Addr) (lb cb : Nat) (bs : List Nat), s11 = .slice ab lb cb ∧ BytesIn wx ab lb cb bs ∧ (∀ ad, ab = some ad → w2.heap.size ≤ ad.block ∧ ad.block < wx.heap.size) ∧ lb ≤ 1000 ∧ Below w2.heap.size w2 wx)
  case first =>
    have HBl := Lib.hid (show Bl (fullL ys) from fullL_bl (fun y hy => wf_u8_lt (HX.out.1.2.1 y hy)))
    by_cases hb7 : b = 7
    · subst hb7
      have HX4 := Lib.hid (HX.out.keep Hb3.out)
      go_wp2_with fail
      refine (copy_any da dl dc ys w4 HX4.out (by have := Hdl.out; omega)).mono ?_
      rintro e w5 ⟨v, rfl, hO, hb⟩
      obtain ⟨av, cv, rfl, _, _, hBy, hbk⟩ := hO.lies
      have hyl : ys.length = dl := HX.out.1.1
      rw [hyl] at hBy
      rw [hyl]
      have HR := Lib.hid (show BytesIn w5 av dl cv ys ∧ (∀ ad, av = some ad → w2.heap.size ≤ ad.block ∧ ad.block < w5.heap.size) ∧ dl ≤ 1000 ∧ Below w2.heap.size w2 w5 from ⟨hBy, fun ad had => ⟨Nat.le_trans Hb3.out.size (hbk ad had).1, (hbk ad had).2⟩, Hdl.out, nu_trans Hb3.out hb⟩)
      clear hO hb hBy hbk hyl cA2 cA3
      go_wp2_with fail
      go_meet
      exact ⟨_, _, _, _, rfl, HR.out⟩
    · have hb7 : (b == 7) = false := by rw [beq_eq_false_iff_ne]; exact hb7
      have HR := Lib.hid (show BytesIn w4 (some ⟨G, 0, none⟩) 256 256 (fullL ys) ∧ (∀ ad, (some ⟨G, 0, none⟩ : Option Addr) = some ad → w2.heap.size ≤ ad.block ∧ ad.block < w4.heap.size) ∧ 256 ≤ 1000 ∧ Below w2.heap.size w2 w4 from ⟨bytes_256 HB.out HBl.out, fun ad had => by
        injection had with had
        rw [← had]
        exact ⟨HG.out, HB.out.lt⟩, by omega, Hb3.out⟩)
      go_wp2_with fail
      go_meet
      exact ⟨_, _, _, _, rfl, HR.out⟩
  case rest =>
    obtain ⟨ab, lb, cb, bs, rfl, hBy, hbk, hl, hb⟩ := hcut
    clear HG HB Hb3 cA2 cA3
    have HBy := Lib.hid hBy
    have Hbk := Lib.hid hbk
    have Hl := Lib.hid hl
    have Hbc := Lib.hid hb
    have Hbl := Lib.hid (show bs.length = lb from hBy.1.1)
    have hl1 : lb ≤ 140737488355320 := by omega
    clear hBy hbk hl hb
    go_wp2_with fail
    refine (copy_any ab lb cb bs wc HBy.out hl1).mono ?_
    rintro e w5 ⟨v, rfl, hO, hb5⟩
    obtain ⟨ai, ci, rfl, _, _, hBi, hbi⟩ := hO.lies
    rw [Hbl.out] at hO hBi
    rw [Hbl.out]
    have HOi := Lib.hid (own_mono hO (Nat.zero_le _))
    have HBi := Lib.hid hBi
    have Hbi := Lib.hid (show ∀ ad, ai = some ad → w2.heap.size ≤ ad.block ∧ ad.block < w5.heap.size from fun ad had => ⟨Nat.le_trans Hbc.out.size (hbi ad had).1, (hbi ad had).2⟩)
    have HBb := Lib.hid (HBy.out.keep hb5)
    have Hbb := Lib.hid (show ∀ ad, ab = some ad → w2.heap.size ≤ ad.block ∧ ad.block < w5.heap.size from fun ad had => ⟨(Hbk.out ad had).1, Nat.lt_of_lt_of_le (Hbk.out ad had).2 hb5.size⟩)
    have Hb5 := Lib.hid (nu_trans Hbc.out hb5)
    have HH5 := Lib.hid (HH.out.below Hb5.out)
    have Hlt2 := Lib.hid (show ∀ k, U k → k < w2.heap.size from fun k hk => HH.out.lt k hk)
    clear hO hBi hbi hb5 HBy Hbk Hbc
    obtain ⟨E1, hE1⟩ : ∃ E : Int, E = s.writeC a lb := ⟨_, rfl⟩
    have HE1 := Lib.hid hE1
    obtain ⟨E2, hE2⟩ : ∃ E : Int, E = t.writeC a lb := ⟨_, rfl⟩
    have HE2 := Lib.hid hE2
    clear hE1 hE2
    have HP5 := Lib.hid (HP.out.below Hb5.out HP.out.lt)
    have HA5 := Lib.hid (HAb.out.below Hb5.out HAb.out.lt)
    have cP0 : w5.cell? ⟨P, 0, none⟩ = some (.pointer (some ⟨d, 0, none⟩)) := HP5.out.at 0 _ rfl
    have cA1 : w5.cell? ⟨A, 1, none⟩ = some (.int .i64 a) := HA5.out.at 1 _ rfl
    go_wp2_with fail
    refine (HH5.out.dev (P := fun e _ => e = .returned (.int .i64 E1)) (fun V hV hU => HE1.out ▸ writeD_all hV a ai lb ci bs HBi.out (fun hp ad had hf => by
      have h1 := Hlt2.out _ (hU _ hf)
      have h2 := (Hbi.out ad had).1
      omega) Hwl.out Hrl.out)).mono ?_
    rintro e w6 ⟨rfl, hn⟩
    have HN6 := Lib.hid hn
    have HBi6 := Lib.hid (HBi.out.mods0 hn.2 (fun hp ad had hf => by
      have h1 := Hlt2.out _ hf
      have h2 := (Hbi.out ad had).1
      omega))
    have HBb6 := Lib.hid (HBb.out.mods0 hn.2 (fun hp ad had hf => by
      have h1 := Hlt2.out _ hf
      have h2 := (Hbb.out ad had).1
      omega))
    clear hn cP0 cA1
    go_wp2_with fail
    refine (same_is (xs := bs) (ys := bs) true (decide_eq_true rfl) HBi6.out.1 HBb6.out.1 (by omega) (by omega)).mono ?_
    rintro e w7 ⟨rfl, n, rfl⟩
    have hdn := nu_drewN (nu_refl w6) n
    have HN7 := Lib.hid (HN6.out.then_below hdn)
    have HBb7 := Lib.hid (HBb6.out.keep hdn)
    clear hdn HBi6 HBb6 HN6
    generalize w6.drewN n = w7 at *
    have cP1 : w7.cell? ⟨P, 1, none⟩ = some (.pointer (some ⟨x, 0, none⟩)) := (blk_mods HP5.out HN7.out.2 HPn.out).at 1 _ rfl
    have cA1 : w7.cell? ⟨A, 1, none⟩ = some (.int .i64 a) := (blk_mods HA5.out HN7.out.2 HAn.out).at 1 _ rfl
    go_wp2_with fail
    refine (HN7.out.ref (P := fun e _ => e = .returned (.int .i64 E2)) (fun V hV hU => HE2.out ▸ writeX_all hV a ab lb cb bs HBb7.out (fun hp ad had hf => by
      have h2 := Hbb.out ad had
      rcases hU _ hf with h1 | h1
      · have h1 := Hlt2.out _ h1
        omega
      · omega) Hwt.out Hrt.out)).mono ?_
    rintro e w8 ⟨rfl, hn⟩
    have HN8 := Lib.hid hn
    have HO8 := Lib.hid (ownB_eq HOi.out (fun k hk => hn.2.block k (HOi.out.1.lt k hk).2 (fun hu => by
      have h1 := Hlt2.out _ hu
      obtain ⟨ad, rfl⟩ : ∃ ad, ai = some ad := by
        cases ai with
        | none => cases hk
        | some ad => exact ⟨ad, rfl⟩
      injection hk with hk
      have h2 := (Hbi.out ad rfl).1
      omega)))
    clear hn cP1 cA1 HN7 HBb7
    go_wp2_with fail
    go_loopw [15] (fun j wx => ∃ (k : Nat) (xs : List Nat), k ≤ lb ∧ j = .int .i64 k ∧ xs.length = lb ∧ OwnB wx 0 5 (.slice ai lb ci) xs ∧ Mods (fun q => (Value.slice ai lb ci).ownBlock = some q) w8 wx) (fun j _ => lb - (intOf j).toNat)
    case atStart => exact ⟨0, bs, by omega, rfl, Hbl.out, HO8.out, Mods.refl _ _⟩
    case round =>
      clear HO8
      obtain ⟨k, xs, hk, rfl, hxl, hO, hm⟩ := hrel
      by_cases hlt : k < lb
      · have hji : (k : Int) < (lb : Int) := by omega
        obtain ⟨Q, pc, he, _, _, _⟩ := ownB_slice hO (by omega)
        injection he with e1 e2 e3
        subst e1
        subst e3
        clear e2
        obtain ⟨y, hy⟩ : ∃ y, xs[k]? = some y := ⟨_, List.getElem?_eq_getElem (by omega)⟩
        have hy8 := hO.2 y (List.mem_of_getElem? hy)
        obtain ⟨z, hz⟩ : ∃ z, z = (y + 1) % 256 := ⟨_, rfl⟩
        have ez : IntKind.u8.wrap ((y : Int) + 1) = (z : Int) := by rw [IntKind.wrap_u8]; omega
        have hz8 : z < 256 := by omega
        have c0 : wr.cell? ⟨Q, k, none⟩ = some (.int .u8 (y : Int)) := hO.cellAt hxl k y hy
        have HO1 := Lib.hid (hO.stored hxl k z hz8)
        have HM1 := Lib.hid (hm.grown (gb_set (gb_refl wr (some Q)) (p := ⟨Q, k, none⟩) (.inl rfl) (vb z)) (fun q hq => .inl hq))
        have f0 : wr.frozen? ⟨Q, k, none⟩ = false := hO.frozenAt hxl k
        have Hxl := Lib.hid (show (xs.set k z).length = lb by rw [List.length_set]; exact hxl)
        simp only [vb] at HO1 HM1
        clear hxl hO hm hy hy8 hz hz8
        go_wp2_with fail
        clear c0 f0
        generalize wr.setCell ⟨Q, k, none⟩ (.int .u8 (z : Int)) = w10 at *
        go_roundw
        case rel => first | exact ⟨k + 1, _, by omega, by go_num, Hxl.out, HO1.out, HM1.out⟩ | ((repeat apply Exists.intro); exact ⟨⟨k + 1, _, by omega, by go_num, Hxl.out, HO1.out, HM1.out⟩, rfl⟩)
        case measure => simp [intOf]; omega
      · obtain rfl : k = lb := by omega
        have hji : ¬ (k : Int) < (k : Int) := by omega
        have HR := Lib.hid (pair_end Hb5.out Hlt2.out HN8.out hm (fun q hq => by
          obtain ⟨ad, rfl⟩ : ∃ ad, ai = some ad := by
            cases ai with
            | none => cases hq
            | some ad => exact ⟨ad, rfl⟩
          injection hq with hq
          rw [← hq]
          exact Hbi.out ad rfl))
        clear hxl hO hm
        go_wp2_with fail
        go_ret
        exact ⟨_, _, _, rfl, step_write s a k bs, step_write t a k bs, PairTo.ahead Hb2.out Hlt.out HR.out⟩
theorem doq_all (H : Pair2 w d x s t U) (hkb : -9223372036854775808 ≤ kd ∧ kd ≤ 9223372036854775807) (ha : -9223372036854775808 ≤ a ∧ a ≤ 9223372036854775807) (hb : -9223372036854775808 ≤ b ∧ b ≤ 9223372036854775807) (ys : List Nat) (hx : BytesIn w da dl dc ys) (hxf : Far w U da dl) (fs : List Int) (hf : NumsIn w fa fl fs) (hff : Far w U fa fl) (hdl : dl ≤ 1000) (hfl : fl ≤ 1000) (hwl : s.wa.length ≤ 1000) (hrl : s.wr.length ≤ 1000) (hwt : t.wa.length ≤ 1000) (hrt : t.wr.length ≤ 1000) :
    Calls Try.prog 26 #[.agg #[.pointer (some ⟨d, 0, none⟩), .pointer (some ⟨x, 0, none⟩)], .agg #[.int .i64 kd, .int .i64 a, .int .i64 b, .slice da dl dc, .slice fa fl fc]] w (DoP U w d x s t) := by
  rcases (show kd % 11 = 0 ∨ kd % 11 = 1 ∨ kd % 11 = 2 ∨ kd % 11 = 3 ∨ kd % 11 = 4 ∨ kd % 11 = 5 ∨ kd % 11 = 6 ∨ kd % 11 = 7 ∨ kd % 11 = 8 ∨ kd % 11 = 9 ∨ kd % 11 = 10 by omega) with h | h | h | h | h | h | h | h | h | h | h
  · by_cases hrD : s.rdy a = 0
    · by_cases hrX : t.rdy a = 0
      · exact doq_0gg H hrD hrX h hkb ha hb ys hx hxf fs hf hff hfl hwl hrl hwt hrt
      · exact doq_0gb H hrD hrX h hkb ha hb ys hx hxf fs hf hff hfl hwl hrl hwt hrt
    · by_cases hrX : t.rdy a = 0
      · exact doq_0bg H hrD hrX h hkb ha hb ys hx hxf fs hf hff hfl hwl hrl hwt hrt
      · exact doq_0bb H hrD hrX h hkb ha hb ys hx hxf fs hf hff hfl hwl hrl hwt hrt
  · exact doq_1 H h hkb ha hb ys hx hxf fs hf hff hfl hdl hwl hrl hwt hrt
  · exact doq_2 H h hkb ha hb ys hx hxf fs hf hff hfl hwl hrl hwt hrt
  · exact doq_3 H h hkb ha hb ys hx hxf fs hf hff hfl hwl hrl hwt hrt
  · exact doq_4 H h hkb ha hb ys hx hxf fs hf hff hfl hwl hrl hwt hrt
  · exact doq_5 H h hkb ha hb ys hx hxf fs hf hff hfl hwl hrl hwt hrt
  · exact doq_6 H h hkb ha hb ys hx hxf fs hf hff hfl hwl hrl hwt hrt
  · exact doq_7 H h hkb ha hb ys hx hxf fs hf hff hfl hwl hrl hwt hrt
  · exact doq_8 H h hkb ha hb ys hx hxf fs hf hff hfl hwl hrl hwt hrt
  · exact doq_9 H h hkb ha hb ys hx hxf fs hf hff hfl hwl hrl hwt hrt
  · exact doq_10 H h hkb ha hb ys hx hxf fs hf hff hfl hwl hrl hwt hrt
end
end Go.Proofs.Ytjmghpoknlffiaa
