/-
  What the proof of DevBack rests on, part 6 of 9.
-/
import Derived.Test.YtjmghpoknlffiaaDevBackB5
namespace Go.Proofs.Ytjmghpoknlffiaa
open Go.ChangeShapes Go.WideShapes Go.ChangeAt Go.RowKit
set_option linter.unusedSimpArgs false

theorem e_pd {o : Oper} {a : Act} {w : World} {g i : Nat} {v : Option Addr} (hc : w.cell? ⟨g, i, none⟩ = some (.pointer v)) (x : Operand) (ho : o.op = .load 23 x) (hx : a.eval x = .pointer (some ⟨g, i, none⟩)) :
    (execOp a.eval o).run Try.prog w = .ok (.value (.pointer v)) w := by
  unfold execOp
  simp only [ho, hx]
  go_simp
theorem e_px {o : Oper} {a : Act} {w : World} {g i : Nat} {v : Option Addr} (hc : w.cell? ⟨g, i, none⟩ = some (.pointer v)) (x : Operand) (ho : o.op = .load 43 x) (hx : a.eval x = .pointer (some ⟨g, i, none⟩)) :
    (execOp a.eval o).run Try.prog w = .ok (.value (.pointer v)) w := by
  unfold execOp
  simp only [ho, hx]
  go_simp
theorem Far.below {w w' : World} {U : Nat → Prop} {a : Option Addr} {len : Nat} (h : Far w U a len) (hb : Below w.heap.size w w') : Far w' U a len := fun hp ad had => ⟨Nat.lt_of_lt_of_le (h hp ad had).1 hb.size, (h hp ad had).2⟩
section
variable {w : World} {d x : Nat} {s : Dv} {U : Nat → Prop} {kd a b : Int} {da fa : Option Addr} {dl dc fl fc : Nat}
set_option maxRecDepth 100000 in
set_option maxHeartbeats 8000000 in
theorem do_2 (H : Pair2 w d x s s U) (hk : kd % 11 = 2) (hkb : -9223372036854775808 ≤ kd ∧ kd ≤ 9223372036854775807) (ha : -9223372036854775808 ≤ a ∧ a ≤ 9223372036854775807) (hb : -9223372036854775808 ≤ b ∧ b ≤ 9223372036854775807) (ys : List Nat) (hx : BytesIn w da dl dc ys) (hxf : Far w U da dl) (fs : List Int) (hf : NumsIn w fa fl fs) (hff : Far w U fa fl) (hfl : fl ≤ 1000) (hwl : s.wa.length ≤ 1000) (hrl : s.wr.length ≤ 1000) :
    Calls Try.prog 26 #[.agg #[.pointer (some ⟨d, 0, none⟩), .pointer (some ⟨x, 0, none⟩)], .agg #[.int .i64 kd, .int .i64 a, .int .i64 b, .slice da dl dc, .slice fa fl fc]] w fun e w' => e = .returned (.bool true) ∧ ∃ s', Step s s' ∧ PairTo U w w' d x s' s' := by
  have hal1 := nu_alloc (nu_refl w) (.cells #[.pointer (some ⟨d, 0, none⟩), .pointer (some ⟨x, 0, none⟩)] 45)
  have hal2 := nu_alloc (nu_refl (w.alloc (.cells #[.pointer (some ⟨d, 0, none⟩), .pointer (some ⟨x, 0, none⟩)] 45))) (.cells #[.int .i64 kd, .int .i64 a, .int .i64 b, .slice da dl dc, .slice fa fl fc] 49)
  have hpm := Blk.made w 45 #[.pointer (some ⟨d, 0, none⟩), .pointer (some ⟨x, 0, none⟩)]
  have HP := Lib.hid (hpm.below hal2 hpm.lt)
  have HAb := Lib.hid (Blk.made (w.alloc (.cells #[.pointer (some ⟨d, 0, none⟩), .pointer (some ⟨x, 0, none⟩)] 45)) 49 #[.int .i64 kd, .int .i64 a, .int .i64 b, .slice da dl dc, .slice fa fl fc])
  have Hb2 := Lib.hid (nu_trans hal1 hal2)
  have HH := Lib.hid (H.below Hb2.out)
  have Hlt := Lib.hid H.lt
  have Hok := Lib.hid H.okD
  have HPn := Lib.hid (show ¬ U w.heap.size from fun h => Nat.lt_irrefl _ (H.lt _ h))
  have HAn := Lib.hid (show ¬ U (w.alloc (.cells #[.pointer (some ⟨d, 0, none⟩), .pointer (some ⟨x, 0, none⟩)] 45)).heap.size from fun h => by have h1 := H.lt _ h; have h2 := hal1.size; omega)
  have HX := Lib.hid (hx.keep Hb2.out)
  have HXF := Lib.hid (hxf.below Hb2.out)
  have HF := Lib.hid (hf.below Hb2.out)
  have HFF := Lib.hid (hff.below Hb2.out)
  have HPk := Lib.hid (show ∀ u : World, Calls Try.prog 18 #[.int .i64 kd, .int .i64 11] u fun e w' => e = .returned (.int .i64 (2 : Int)) ∧ u = w' from fun u => pick_any kd 11 2 u (by rw [hk]; rfl) (by omega) (by omega) hkb.1 hkb.2)
  have Hwl := Lib.hid (show s.wa.length ≤ 1000000000 by omega)
  have Hrl := Lib.hid (show s.wr.length ≤ 1000000000 by omega)
  have Ha := Lib.hid ha
  have Hb := Lib.hid hb
  have Hfl := Lib.hid (show fl ≤ 9223372036854775807 by omega)
  clear H hk hkb ha hb hx hxf hf hff hfl hwl hrl hal1 hal2 hpm
  obtain ⟨E, hE⟩ : ∃ E : Int, E = s.flushC := ⟨_, rfl⟩
  have HE := Lib.hid hE
  clear hE
  go_enter Try.func26, Try.ntmps26
  go_upto_region 1 with fail
  change Code.wp _ _ _ _ ((w.alloc (.cells #[.pointer (some ⟨d, 0, none⟩), .pointer (some ⟨x, 0, none⟩)] 45)).alloc (.cells #[.int .i64 kd, .int .i64 a, .int .i64 b, .slice da dl dc, .slice fa fl fc] 49))
  generalize (w.alloc (.cells #[.pointer (some ⟨d, 0, none⟩), .pointer (some ⟨x, 0, none⟩)] 45)).alloc (.cells #[.int .i64 kd, .int .i64 a, .int .i64 b, .slice da dl dc, .slice fa fl fc] 49) = w2 at *
  obtain ⟨A, hA⟩ : ∃ A, A = (w.alloc (.cells #[.pointer (some ⟨d, 0, none⟩), .pointer (some ⟨x, 0, none⟩)] 45)).heap.size := ⟨_, rfl⟩
  have hA1 : (w.alloc (.cells #[.pointer (some ⟨d, 0, none⟩), .pointer (some ⟨x, 0, none⟩)] 45)).heap.size = w.heap.size + 1 := by simp
  rw [← hA] at HAb HAn
  rw [hA1] at hA
  clear hA1
  obtain ⟨P, hP⟩ : ∃ P, P = w.heap.size := ⟨_, rfl⟩
  rw [← hP] at HP HPn hA
  rw [← hP]
  try rw [← hA]
  clear hP hA
  have cA0 : w2.cell? ⟨A, 0, none⟩ = some (.int .i64 kd) := HAb.out.at 0 _ rfl
  go_wp2_with fail
  refine (HPk.out w2).mono ?_
  rintro e w3 ⟨rfl, rfl⟩
  go_upto_region 25 with fail
  clear cA0
  obtain ⟨wz, rfl⟩ : ∃ q : World, q = w2 := ⟨_, rfl⟩
  refine wp_region_held_drew (S := fun W => Blk W P 45 #[.pointer (some ⟨d, 0, none⟩), .pointer (some ⟨x, 0, none⟩)] ∧ Blk W A 49 #[.int .i64 kd, .int .i64 a, .int .i64 b, .slice da dl dc, .slice fa fl fc]) (by kernel_rfl) (⟨HP.out.drew, HAb.out.drew⟩) (fun hHeld => ?_)
  dsimp only [Array.replicate, List.replicate, List.size_toArray, List.length_cons, List.length_nil, Nat.reduceAdd] at hHeld ⊢
  have HN0 := Lib.hid (PairTo.of_below HH.out (nu_drew (nu_refl wz)))
  generalize wz.drew = u0 at *
  refine take_l (i := 0) (v := ?_) rfl (by kernel_rfl) (by kernel_rfl) (by kernel_rfl) (fun _ _ _ h => h) (Or.inl ⟨by rfl, ?_⟩) (by assumption) ?_
  case refine_2 => (intro _ _; go_simp; all_goals with_reducible rfl)
  simp only [Act.put, List.setIfInBounds_toArray, List.set_cons_zero, List.set_cons_succ]
  refine take_l (i := 1) rfl (by kernel_rfl) (by kernel_rfl) (by kernel_rfl) (fun _ _ _ h => h) (Or.inl ⟨by rfl, fun W hS => e_pd (hS.1.at 0 _ rfl) (.tmp 124) rfl rfl⟩) (by assumption) ?_
  simp only [Act.put, List.setIfInBounds_toArray, List.set_cons_zero, List.set_cons_succ]
  refine take_l (i := 3) (v := ?_) rfl (by kernel_rfl) (by kernel_rfl) (by kernel_rfl) (fun _ _ _ h => h) (Or.inl ⟨by rfl, ?_⟩) (by assumption) ?_
  case refine_2 => (intro _ _; go_simp; all_goals with_reducible rfl)
  simp only [Act.put, List.setIfInBounds_toArray, List.set_cons_zero, List.set_cons_succ]
  refine take_l (i := 4) rfl (by kernel_rfl) (by kernel_rfl) (by kernel_rfl) (fun _ _ _ h => h) (Or.inl ⟨by rfl, fun W hS => e_px (hS.1.at 1 _ rfl) (.tmp 127) rfl rfl⟩) (by assumption) ?_
  simp only [Act.put, List.setIfInBounds_toArray, List.set_cons_zero, List.set_cons_succ]
  clear hHeld
  refine wpAnyH_ready (rs := [2]) (by kernel_rfl) (by simp) ?_
  refine cons_l rfl (fun K hK => ?_) AllReadyH.nil
  go_simp
  go_at_call 13
  refine (HN0.out.dev (P := fun e _ => e = .returned (.int .i64 E)) (fun V hV hU => HE.out ▸ flushD_all hV Hwl.out)).mono ?_
  rintro e u1 ⟨rfl, hn⟩
  have HN1 := Lib.hid hn
  clear hn HN0
  go_wp2_with fail
  refine hK.out _ _ ⟨blk_mods HP.out HN1.out.2 HPn.out, blk_mods HAb.out HN1.out.2 HAn.out⟩ (fun hHeld => ?_)
  clear hK K
  simp only [Act.put, List.setIfInBounds_toArray, List.set_cons_zero, List.set_cons_succ]
  clear hHeld
  refine wpAnyH_ready (rs := [5]) (by kernel_rfl) (by simp) ?_
  refine cons_l rfl (fun K hK => ?_) AllReadyH.nil
  go_simp
  go_at_call 44
  refine (HN1.out.ref (P := fun e _ => e = .returned (.int .i64 E)) (fun V hV hU => HE.out ▸ flushX_all hV Hwl.out)).mono ?_
  rintro e u2 ⟨rfl, hn⟩
  have HN2 := Lib.hid hn
  clear hn HN1
  go_wp2_with fail
  refine hK.out _ _ ⟨blk_mods HP.out HN2.out.2 HPn.out, blk_mods HAb.out HN2.out.2 HAn.out⟩ (fun hHeld => ?_)
  clear hK K
  simp only [Act.put, List.setIfInBounds_toArray, List.set_cons_zero, List.set_cons_succ]
  refine take_l (i := 6) (v := ?_) rfl (by kernel_rfl) (by kernel_rfl) (by kernel_rfl) (fun _ _ _ h => h) (Or.inl ⟨by rfl, ?_⟩) (by assumption) ?_
  case refine_2 => (intro _ _; go_simp; all_goals with_reducible rfl)
  simp only [Act.put, List.setIfInBounds_toArray, List.set_cons_zero, List.set_cons_succ]
  refine take_l (i := 7) (v := ?_) rfl (by kernel_rfl) (by kernel_rfl) (by kernel_rfl) (fun _ _ _ h => h) (Or.inl ⟨by rfl, ?_⟩) (by assumption) ?_
  case refine_2 => (intro _ _; go_simp; all_goals with_reducible rfl)
  simp only [Act.put, List.setIfInBounds_toArray, List.set_cons_zero, List.set_cons_succ]
  refine wpAnyH_done (by kernel_rfl) ?_ _
  clear hHeld
  go_wp2_with fail
  go_ret
  exact ⟨rfl, s.flushS, step_flush s, PairTo.ahead Hb2.out Hlt.out HN2.out⟩
set_option maxRecDepth 100000 in
set_option maxHeartbeats 8000000 in
theorem do_3 (H : Pair2 w d x s s U) (hk : kd % 11 = 3) (hkb : -9223372036854775808 ≤ kd ∧ kd ≤ 9223372036854775807) (ha : -9223372036854775808 ≤ a ∧ a ≤ 9223372036854775807) (hb : -9223372036854775808 ≤ b ∧ b ≤ 9223372036854775807) (ys : List Nat) (hx : BytesIn w da dl dc ys) (hxf : Far w U da dl) (fs : List Int) (hf : NumsIn w fa fl fs) (hff : Far w U fa fl) (hfl : fl ≤ 1000) (hwl : s.wa.length ≤ 1000) (hrl : s.wr.length ≤ 1000) :
    Calls Try.prog 26 #[.agg #[.pointer (some ⟨d, 0, none⟩), .pointer (some ⟨x, 0, none⟩)], .agg #[.int .i64 kd, .int .i64 a, .int .i64 b, .slice da dl dc, .slice fa fl fc]] w fun e w' => e = .returned (.bool true) ∧ ∃ s', Step s s' ∧ PairTo U w w' d x s' s' := by
  have hal1 := nu_alloc (nu_refl w) (.cells #[.pointer (some ⟨d, 0, none⟩), .pointer (some ⟨x, 0, none⟩)] 45)
  have hal2 := nu_alloc (nu_refl (w.alloc (.cells #[.pointer (some ⟨d, 0, none⟩), .pointer (some ⟨x, 0, none⟩)] 45))) (.cells #[.int .i64 kd, .int .i64 a, .int .i64 b, .slice da dl dc, .slice fa fl fc] 49)
  have hpm := Blk.made w 45 #[.pointer (some ⟨d, 0, none⟩), .pointer (some ⟨x, 0, none⟩)]
  have HP := Lib.hid (hpm.below hal2 hpm.lt)
  have HAb := Lib.hid (Blk.made (w.alloc (.cells #[.pointer (some ⟨d, 0, none⟩), .pointer (some ⟨x, 0, none⟩)] 45)) 49 #[.int .i64 kd, .int .i64 a, .int .i64 b, .slice da dl dc, .slice fa fl fc])
  have Hb2 := Lib.hid (nu_trans hal1 hal2)
  have HH := Lib.hid (H.below Hb2.out)
  have Hlt := Lib.hid H.lt
  have Hok := Lib.hid H.okD
  have HPn := Lib.hid (show ¬ U w.heap.size from fun h => Nat.lt_irrefl _ (H.lt _ h))
  have HAn := Lib.hid (show ¬ U (w.alloc (.cells #[.pointer (some ⟨d, 0, none⟩), .pointer (some ⟨x, 0, none⟩)] 45)).heap.size from fun h => by have h1 := H.lt _ h; have h2 := hal1.size; omega)
  have HX := Lib.hid (hx.keep Hb2.out)
  have HXF := Lib.hid (hxf.below Hb2.out)
  have HF := Lib.hid (hf.below Hb2.out)
  have HFF := Lib.hid (hff.below Hb2.out)
  have HPk := Lib.hid (show ∀ u : World, Calls Try.prog 18 #[.int .i64 kd, .int .i64 11] u fun e w' => e = .returned (.int .i64 (3 : Int)) ∧ u = w' from fun u => pick_any kd 11 3 u (by rw [hk]; rfl) (by omega) (by omega) hkb.1 hkb.2)
  have Hwl := Lib.hid (show s.wa.length ≤ 1000000000 by omega)
  have Hrl := Lib.hid (show s.wr.length ≤ 1000000000 by omega)
  have Ha := Lib.hid ha
  have Hb := Lib.hid hb
  have Hfl := Lib.hid (show fl ≤ 9223372036854775807 by omega)
  clear H hk hkb ha hb hx hxf hf hff hfl hwl hrl hal1 hal2 hpm
  obtain ⟨E, hE⟩ : ∃ E : Bool, E = s.spendC := ⟨_, rfl⟩
  have HE := Lib.hid hE
  clear hE
  go_enter Try.func26, Try.ntmps26
  go_upto_region 1 with fail
  change Code.wp _ _ _ _ ((w.alloc (.cells #[.pointer (some ⟨d, 0, none⟩), .pointer (some ⟨x, 0, none⟩)] 45)).alloc (.cells #[.int .i64 kd, .int .i64 a, .int .i64 b, .slice da dl dc, .slice fa fl fc] 49))
  generalize (w.alloc (.cells #[.pointer (some ⟨d, 0, none⟩), .pointer (some ⟨x, 0, none⟩)] 45)).alloc (.cells #[.int .i64 kd, .int .i64 a, .int .i64 b, .slice da dl dc, .slice fa fl fc] 49) = w2 at *
  obtain ⟨A, hA⟩ : ∃ A, A = (w.alloc (.cells #[.pointer (some ⟨d, 0, none⟩), .pointer (some ⟨x, 0, none⟩)] 45)).heap.size := ⟨_, rfl⟩
  have hA1 : (w.alloc (.cells #[.pointer (some ⟨d, 0, none⟩), .pointer (some ⟨x, 0, none⟩)] 45)).heap.size = w.heap.size + 1 := by simp
  rw [← hA] at HAb HAn
  rw [hA1] at hA
  clear hA1
  obtain ⟨P, hP⟩ : ∃ P, P = w.heap.size := ⟨_, rfl⟩
  rw [← hP] at HP HPn hA
  rw [← hP]
  try rw [← hA]
  clear hP hA
  have cA0 : w2.cell? ⟨A, 0, none⟩ = some (.int .i64 kd) := HAb.out.at 0 _ rfl
  go_wp2_with fail
  refine (HPk.out w2).mono ?_
  rintro e w3 ⟨rfl, rfl⟩
  go_upto_region 27 with fail
  clear cA0
  obtain ⟨wz, rfl⟩ : ∃ q : World, q = w2 := ⟨_, rfl⟩
  refine wp_region_held_drew (S := fun W => Blk W P 45 #[.pointer (some ⟨d, 0, none⟩), .pointer (some ⟨x, 0, none⟩)] ∧ Blk W A 49 #[.int .i64 kd, .int .i64 a, .int .i64 b, .slice da dl dc, .slice fa fl fc]) (by kernel_rfl) (⟨HP.out.drew, HAb.out.drew⟩) (fun hHeld => ?_)
  dsimp only [Array.replicate, List.replicate, List.size_toArray, List.length_cons, List.length_nil, Nat.reduceAdd] at hHeld ⊢
  have HN0 := Lib.hid (PairTo.of_below HH.out (nu_drew (nu_refl wz)))
  generalize wz.drew = u0 at *
  refine take_l (i := 0) (v := ?_) rfl (by kernel_rfl) (by kernel_rfl) (by kernel_rfl) (fun _ _ _ h => h) (Or.inl ⟨by rfl, ?_⟩) (by assumption) ?_
  case refine_2 => (intro _ _; go_simp; all_goals with_reducible rfl)
  simp only [Act.put, List.setIfInBounds_toArray, List.set_cons_zero, List.set_cons_succ]
  refine take_l (i := 1) rfl (by kernel_rfl) (by kernel_rfl) (by kernel_rfl) (fun _ _ _ h => h) (Or.inl ⟨by rfl, fun W hS => e_pd (hS.1.at 0 _ rfl) (.tmp 133) rfl rfl⟩) (by assumption) ?_
  simp only [Act.put, List.setIfInBounds_toArray, List.set_cons_zero, List.set_cons_succ]
  refine take_l (i := 3) (v := ?_) rfl (by kernel_rfl) (by kernel_rfl) (by kernel_rfl) (fun _ _ _ h => h) (Or.inl ⟨by rfl, ?_⟩) (by assumption) ?_
  case refine_2 => (intro _ _; go_simp; all_goals with_reducible rfl)
  simp only [Act.put, List.setIfInBounds_toArray, List.set_cons_zero, List.set_cons_succ]
  refine take_l (i := 4) rfl (by kernel_rfl) (by kernel_rfl) (by kernel_rfl) (fun _ _ _ h => h) (Or.inl ⟨by rfl, fun W hS => e_px (hS.1.at 1 _ rfl) (.tmp 136) rfl rfl⟩) (by assumption) ?_
  simp only [Act.put, List.setIfInBounds_toArray, List.set_cons_zero, List.set_cons_succ]
  clear hHeld
  refine wpAnyH_ready (rs := [2]) (by kernel_rfl) (by simp) ?_
  refine cons_l rfl (fun K hK => ?_) AllReadyH.nil
  go_simp
  go_at_call 16
  refine (HN0.out.dev (P := fun e _ => e = .returned (.bool E)) (fun V hV hU => HE.out ▸ spendD_all hV)).mono ?_
  rintro e u1 ⟨rfl, hn⟩
  have HN1 := Lib.hid hn
  clear hn HN0
  go_wp2_with fail
  refine hK.out _ _ ⟨blk_mods HP.out HN1.out.2 HPn.out, blk_mods HAb.out HN1.out.2 HAn.out⟩ (fun hHeld => ?_)
  clear hK K
  simp only [Act.put, List.setIfInBounds_toArray, List.set_cons_zero, List.set_cons_succ]
  clear hHeld
  refine wpAnyH_ready (rs := [5]) (by kernel_rfl) (by simp) ?_
  refine cons_l rfl (fun K hK => ?_) AllReadyH.nil
  go_simp
  go_at_call 45
  refine (HN1.out.ref (P := fun e _ => e = .returned (.bool E)) (fun V hV hU => HE.out ▸ spendX_all hV)).mono ?_
  rintro e u2 ⟨rfl, hn⟩
  have HN2 := Lib.hid hn
  clear hn HN1
  go_wp2_with fail
  refine hK.out _ _ ⟨blk_mods HP.out HN2.out.2 HPn.out, blk_mods HAb.out HN2.out.2 HAn.out⟩ (fun hHeld => ?_)
  clear hK K
  simp only [Act.put, List.setIfInBounds_toArray, List.set_cons_zero, List.set_cons_succ]
  refine take_l (i := 6) (v := ?_) rfl (by kernel_rfl) (by kernel_rfl) (by kernel_rfl) (fun _ _ _ h => h) (Or.inl ⟨by rfl, ?_⟩) (by assumption) ?_
  case refine_2 => (intro _ _; go_simp; all_goals with_reducible rfl)
  simp only [Act.put, List.setIfInBounds_toArray, List.set_cons_zero, List.set_cons_succ]
  refine take_l (i := 7) (v := ?_) rfl (by kernel_rfl) (by kernel_rfl) (by kernel_rfl) (fun _ _ _ h => h) (Or.inl ⟨by rfl, ?_⟩) (by assumption) ?_
  case refine_2 => (intro _ _; go_simp; all_goals with_reducible rfl)
  simp only [Act.put, List.setIfInBounds_toArray, List.set_cons_zero, List.set_cons_succ]
  refine wpAnyH_done (by kernel_rfl) ?_ _
  clear hHeld
  go_wp2_with fail
  go_ret
  exact ⟨rfl, s.spendS, step_spend s, PairTo.ahead Hb2.out Hlt.out HN2.out⟩
set_option maxRecDepth 100000 in
set_option maxHeartbeats 8000000 in
theorem do_7 (H : Pair2 w d x s s U) (hk : kd % 11 = 7) (hkb : -9223372036854775808 ≤ kd ∧ kd ≤ 9223372036854775807) (ha : -9223372036854775808 ≤ a ∧ a ≤ 9223372036854775807) (hb : -9223372036854775808 ≤ b ∧ b ≤ 9223372036854775807) (ys : List Nat) (hx : BytesIn w da dl dc ys) (hxf : Far w U da dl) (fs : List Int) (hf : NumsIn w fa fl fs) (hff : Far w U fa fl) (hfl : fl ≤ 1000) (hwl : s.wa.length ≤ 1000) (hrl : s.wr.length ≤ 1000) :
    Calls Try.prog 26 #[.agg #[.pointer (some ⟨d, 0, none⟩), .pointer (some ⟨x, 0, none⟩)], .agg #[.int .i64 kd, .int .i64 a, .int .i64 b, .slice da dl dc, .slice fa fl fc]] w fun e w' => e = .returned (.bool true) ∧ ∃ s', Step s s' ∧ PairTo U w w' d x s' s' := by
  have hal1 := nu_alloc (nu_refl w) (.cells #[.pointer (some ⟨d, 0, none⟩), .pointer (some ⟨x, 0, none⟩)] 45)
  have hal2 := nu_alloc (nu_refl (w.alloc (.cells #[.pointer (some ⟨d, 0, none⟩), .pointer (some ⟨x, 0, none⟩)] 45))) (.cells #[.int .i64 kd, .int .i64 a, .int .i64 b, .slice da dl dc, .slice fa fl fc] 49)
  have hpm := Blk.made w 45 #[.pointer (some ⟨d, 0, none⟩), .pointer (some ⟨x, 0, none⟩)]
  have HP := Lib.hid (hpm.below hal2 hpm.lt)
  have HAb := Lib.hid (Blk.made (w.alloc (.cells #[.pointer (some ⟨d, 0, none⟩), .pointer (some ⟨x, 0, none⟩)] 45)) 49 #[.int .i64 kd, .int .i64 a, .int .i64 b, .slice da dl dc, .slice fa fl fc])
  have Hb2 := Lib.hid (nu_trans hal1 hal2)
  have HH := Lib.hid (H.below Hb2.out)
  have Hlt := Lib.hid H.lt
  have Hok := Lib.hid H.okD
  have HPn := Lib.hid (show ¬ U w.heap.size from fun h => Nat.lt_irrefl _ (H.lt _ h))
  have HAn := Lib.hid (show ¬ U (w.alloc (.cells #[.pointer (some ⟨d, 0, none⟩), .pointer (some ⟨x, 0, none⟩)] 45)).heap.size from fun h => by have h1 := H.lt _ h; have h2 := hal1.size; omega)
  have HX := Lib.hid (hx.keep Hb2.out)
  have HXF := Lib.hid (hxf.below Hb2.out)
  have HF := Lib.hid (hf.below Hb2.out)
  have HFF := Lib.hid (hff.below Hb2.out)
  have HPk := Lib.hid (show ∀ u : World, Calls Try.prog 18 #[.int .i64 kd, .int .i64 11] u fun e w' => e = .returned (.int .i64 (7 : Int)) ∧ u = w' from fun u => pick_any kd 11 7 u (by rw [hk]; rfl) (by omega) (by omega) hkb.1 hkb.2)
  have Hwl := Lib.hid (show s.wa.length ≤ 1000000000 by omega)
  have Hrl := Lib.hid (show s.wr.length ≤ 1000000000 by omega)
  have Ha := Lib.hid ha
  have Hb := Lib.hid hb
  have Hfl := Lib.hid (show fl ≤ 9223372036854775807 by omega)
  clear H hk hkb ha hb hx hxf hf hff hfl hwl hrl hal1 hal2 hpm
  obtain ⟨E, hE⟩ : ∃ E : Int, E = s.pokeC a b dl := ⟨_, rfl⟩
  have HE := Lib.hid hE
  clear hE
  go_enter Try.func26, Try.ntmps26
  go_upto_region 1 with fail
  change Code.wp _ _ _ _ ((w.alloc (.cells #[.pointer (some ⟨d, 0, none⟩), .pointer (some ⟨x, 0, none⟩)] 45)).alloc (.cells #[.int .i64 kd, .int .i64 a, .int .i64 b, .slice da dl dc, .slice fa fl fc] 49))
  generalize (w.alloc (.cells #[.pointer (some ⟨d, 0, none⟩), .pointer (some ⟨x, 0, none⟩)] 45)).alloc (.cells #[.int .i64 kd, .int .i64 a, .int .i64 b, .slice da dl dc, .slice fa fl fc] 49) = w2 at *
  obtain ⟨A, hA⟩ : ∃ A, A = (w.alloc (.cells #[.pointer (some ⟨d, 0, none⟩), .pointer (some ⟨x, 0, none⟩)] 45)).heap.size := ⟨_, rfl⟩
  have hA1 : (w.alloc (.cells #[.pointer (some ⟨d, 0, none⟩), .pointer (some ⟨x, 0, none⟩)] 45)).heap.size = w.heap.size + 1 := by simp
  rw [← hA] at HAb HAn
  rw [hA1] at hA
  clear hA1
  obtain ⟨P, hP⟩ : ∃ P, P = w.heap.size := ⟨_, rfl⟩
  rw [← hP] at HP HPn hA
  rw [← hP]
  try rw [← hA]
  clear hP hA
  have cA0 : w2.cell? ⟨A, 0, none⟩ = some (.int .i64 kd) := HAb.out.at 0 _ rfl
  go_wp2_with fail
  refine (HPk.out w2).mono ?_
  rintro e w3 ⟨rfl, rfl⟩
  go_upto_region 38 with fail
  clear cA0
  obtain ⟨wz, rfl⟩ : ∃ q : World, q = w2 := ⟨_, rfl⟩
  refine wp_region_held_drew (S := fun W => Blk W P 45 #[.pointer (some ⟨d, 0, none⟩), .pointer (some ⟨x, 0, none⟩)] ∧ Blk W A 49 #[.int .i64 kd, .int .i64 a, .int .i64 b, .slice da dl dc, .slice fa fl fc]) (by kernel_rfl) (⟨HP.out.drew, HAb.out.drew⟩) (fun hHeld => ?_)
  dsimp only [Array.replicate, List.replicate, List.size_toArray, List.length_cons, List.length_nil, Nat.reduceAdd] at hHeld ⊢
  have HN0 := Lib.hid (PairTo.of_below HH.out (nu_drew (nu_refl wz)))
  generalize wz.drew = u0 at *
  refine take_l (i := 0) (v := ?_) rfl (by kernel_rfl) (by kernel_rfl) (by kernel_rfl) (fun _ _ _ h => h) (Or.inl ⟨by rfl, ?_⟩) (by assumption) ?_
  case refine_2 => (intro _ _; go_simp; all_goals with_reducible rfl)
  simp only [Act.put, List.setIfInBounds_toArray, List.set_cons_zero, List.set_cons_succ]
  refine take_l (i := 1) rfl (by kernel_rfl) (by kernel_rfl) (by kernel_rfl) (fun _ _ _ h => h) (Or.inl ⟨by rfl, fun W hS => e_pd (hS.1.at 0 _ rfl) (.tmp 174) rfl rfl⟩) (by assumption) ?_
  simp only [Act.put, List.setIfInBounds_toArray, List.set_cons_zero, List.set_cons_succ]
  refine take_l (i := 2) (v := ?_) rfl (by kernel_rfl) (by kernel_rfl) (by kernel_rfl) (fun _ _ _ h => h) (Or.inl ⟨by rfl, ?_⟩) (by assumption) ?_
  case refine_2 => (intro _ _; go_simp; all_goals with_reducible rfl)
  simp only [Act.put, List.setIfInBounds_toArray, List.set_cons_zero, List.set_cons_succ]
  refine take_l (i := 3) rfl (by kernel_rfl) (by kernel_rfl) (by kernel_rfl) (fun _ _ _ h => h) (Or.inl ⟨by rfl, fun W hS => e_int (hS.2.at 1 _ rfl) (.tmp 176) rfl rfl⟩) (by assumption) ?_
  simp only [Act.put, List.setIfInBounds_toArray, List.set_cons_zero, List.set_cons_succ]
  refine take_l (i := 4) (v := ?_) rfl (by kernel_rfl) (by kernel_rfl) (by kernel_rfl) (fun _ _ _ h => h) (Or.inl ⟨by rfl, ?_⟩) (by assumption) ?_
  case refine_2 => (intro _ _; go_simp; all_goals with_reducible rfl)
  simp only [Act.put, List.setIfInBounds_toArray, List.set_cons_zero, List.set_cons_succ]
  refine take_l (i := 5) rfl (by kernel_rfl) (by kernel_rfl) (by kernel_rfl) (fun _ _ _ h => h) (Or.inl ⟨by rfl, fun W hS => e_int (hS.2.at 2 _ rfl) (.tmp 178) rfl rfl⟩) (by assumption) ?_
  simp only [Act.put, List.setIfInBounds_toArray, List.set_cons_zero, List.set_cons_succ]
  refine take_l (i := 6) (v := ?_) rfl (by kernel_rfl) (by kernel_rfl) (by kernel_rfl) (fun _ _ _ h => h) (Or.inl ⟨by rfl, ?_⟩) (by assumption) ?_
  case refine_2 => (intro _ _; go_simp; all_goals with_reducible rfl)
  simp only [Act.put, List.setIfInBounds_toArray, List.set_cons_zero, List.set_cons_succ]
  refine take_l (i := 7) rfl (by kernel_rfl) (by kernel_rfl) (by kernel_rfl) (fun _ _ _ h => h) (Or.inl ⟨by rfl, fun W hS => e_sl22 (hS.2.at 3 _ rfl) (.tmp 180) rfl rfl⟩) (by assumption) ?_
  simp only [Act.put, List.setIfInBounds_toArray, List.set_cons_zero, List.set_cons_succ]
  refine take_l (i := 9) (v := ?_) rfl (by kernel_rfl) (by kernel_rfl) (by kernel_rfl) (fun _ _ _ h => h) (Or.inl ⟨by rfl, ?_⟩) (by assumption) ?_
  case refine_2 => (intro _ _; go_simp; all_goals with_reducible rfl)
  simp only [Act.put, List.setIfInBounds_toArray, List.set_cons_zero, List.set_cons_succ]
  refine take_l (i := 10) rfl (by kernel_rfl) (by kernel_rfl) (by kernel_rfl) (fun _ _ _ h => h) (Or.inl ⟨by rfl, fun W hS => e_px (hS.1.at 1 _ rfl) (.tmp 183) rfl rfl⟩) (by assumption) ?_
  simp only [Act.put, List.setIfInBounds_toArray, List.set_cons_zero, List.set_cons_succ]
  refine take_l (i := 11) (v := ?_) rfl (by kernel_rfl) (by kernel_rfl) (by kernel_rfl) (fun _ _ _ h => h) (Or.inl ⟨by rfl, ?_⟩) (by assumption) ?_
  case refine_2 => (intro _ _; go_simp; all_goals with_reducible rfl)
  simp only [Act.put, List.setIfInBounds_toArray, List.set_cons_zero, List.set_cons_succ]
  refine take_l (i := 12) rfl (by kernel_rfl) (by kernel_rfl) (by kernel_rfl) (fun _ _ _ h => h) (Or.inl ⟨by rfl, fun W hS => e_int (hS.2.at 1 _ rfl) (.tmp 185) rfl rfl⟩) (by assumption) ?_
  simp only [Act.put, List.setIfInBounds_toArray, List.set_cons_zero, List.set_cons_succ]
  refine take_l (i := 13) (v := ?_) rfl (by kernel_rfl) (by kernel_rfl) (by kernel_rfl) (fun _ _ _ h => h) (Or.inl ⟨by rfl, ?_⟩) (by assumption) ?_
  case refine_2 => (intro _ _; go_simp; all_goals with_reducible rfl)
  simp only [Act.put, List.setIfInBounds_toArray, List.set_cons_zero, List.set_cons_succ]
  refine take_l (i := 14) rfl (by kernel_rfl) (by kernel_rfl) (by kernel_rfl) (fun _ _ _ h => h) (Or.inl ⟨by rfl, fun W hS => e_int (hS.2.at 2 _ rfl) (.tmp 187) rfl rfl⟩) (by assumption) ?_
  simp only [Act.put, List.setIfInBounds_toArray, List.set_cons_zero, List.set_cons_succ]
  refine take_l (i := 15) (v := ?_) rfl (by kernel_rfl) (by kernel_rfl) (by kernel_rfl) (fun _ _ _ h => h) (Or.inl ⟨by rfl, ?_⟩) (by assumption) ?_
  case refine_2 => (intro _ _; go_simp; all_goals with_reducible rfl)
  simp only [Act.put, List.setIfInBounds_toArray, List.set_cons_zero, List.set_cons_succ]
  refine take_l (i := 16) rfl (by kernel_rfl) (by kernel_rfl) (by kernel_rfl) (fun _ _ _ h => h) (Or.inl ⟨by rfl, fun W hS => e_sl22 (hS.2.at 3 _ rfl) (.tmp 189) rfl rfl⟩) (by assumption) ?_
  simp only [Act.put, List.setIfInBounds_toArray, List.set_cons_zero, List.set_cons_succ]
  clear hHeld
  refine wpAnyH_ready (rs := [8]) (by kernel_rfl) (by simp) ?_
  refine cons_l rfl (fun K hK => ?_) AllReadyH.nil
  go_simp
  go_at_call 34
  refine (HN0.out.dev (P := fun e _ => e = .returned (.int .i64 E)) (fun V hV hU => HE.out ▸ pokeD_all hV a b da dl dc ys (HX.out.mods0 HN0.out.2 (fun hp ad had => (HXF.out hp ad had).2)) Hb.out Hwl.out)).mono ?_
  rintro e u1 ⟨rfl, hn⟩
  have HN1 := Lib.hid hn
  clear hn HN0
  go_wp2_with fail
  refine hK.out _ _ ⟨blk_mods HP.out HN1.out.2 HPn.out, blk_mods HAb.out HN1.out.2 HAn.out⟩ (fun hHeld => ?_)
  clear hK K
  simp only [Act.put, List.setIfInBounds_toArray, List.set_cons_zero, List.set_cons_succ]
  clear hHeld
  refine wpAnyH_ready (rs := [17]) (by kernel_rfl) (by simp) ?_
  refine cons_l rfl (fun K hK => ?_) AllReadyH.nil
  go_simp
  go_at_call 49
  refine (HN1.out.ref (P := fun e _ => e = .returned (.int .i64 E)) (fun V hV hU => HE.out ▸ pokeX_all hV a b da dl dc ys (HX.out.mods0 HN1.out.2 (fun hp ad had => (HXF.out hp ad had).2)) Hb.out Hwl.out)).mono ?_
  rintro e u2 ⟨rfl, hn⟩
  have HN2 := Lib.hid hn
  clear hn HN1
  go_wp2_with fail
  refine hK.out _ _ ⟨blk_mods HP.out HN2.out.2 HPn.out, blk_mods HAb.out HN2.out.2 HAn.out⟩ (fun hHeld => ?_)
  clear hK K
  simp only [Act.put, List.setIfInBounds_toArray, List.set_cons_zero, List.set_cons_succ]
  refine take_l (i := 18) (v := ?_) rfl (by kernel_rfl) (by kernel_rfl) (by kernel_rfl) (fun _ _ _ h => h) (Or.inl ⟨by rfl, ?_⟩) (by assumption) ?_
  case refine_2 => (intro _ _; go_simp; all_goals with_reducible rfl)
  simp only [Act.put, List.setIfInBounds_toArray, List.set_cons_zero, List.set_cons_succ]
  refine take_l (i := 19) (v := ?_) rfl (by kernel_rfl) (by kernel_rfl) (by kernel_rfl) (fun _ _ _ h => h) (Or.inl ⟨by rfl, ?_⟩) (by assumption) ?_
  case refine_2 => (intro _ _; go_simp; all_goals with_reducible rfl)
  simp only [Act.put, List.setIfInBounds_toArray, List.set_cons_zero, List.set_cons_succ]
  refine wpAnyH_done (by kernel_rfl) ?_ _
  clear hHeld
  go_wp2_with fail
  go_ret
  exact ⟨rfl, s.pokeS a b dl ys, step_poke s a b dl ys, PairTo.ahead Hb2.out Hlt.out HN2.out⟩
set_option maxRecDepth 100000 in
set_option maxHeartbeats 8000000 in
theorem do_8 (H : Pair2 w d x s s U) (hk : kd % 11 = 8) (hkb : -9223372036854775808 ≤ kd ∧ kd ≤ 9223372036854775807) (ha : -9223372036854775808 ≤ a ∧ a ≤ 9223372036854775807) (hb : -9223372036854775808 ≤ b ∧ b ≤ 9223372036854775807) (ys : List Nat) (hx : BytesIn w da dl dc ys) (hxf : Far w U da dl) (fs : List Int) (hf : NumsIn w fa fl fs) (hff : Far w U fa fl) (hfl : fl ≤ 1000) (hwl : s.wa.length ≤ 1000) (hrl : s.wr.length ≤ 1000) :
    Calls Try.prog 26 #[.agg #[.pointer (some ⟨d, 0, none⟩), .pointer (some ⟨x, 0, none⟩)], .agg #[.int .i64 kd, .int .i64 a, .int .i64 b, .slice da dl dc, .slice fa fl fc]] w fun e w' => e = .returned (.bool true) ∧ ∃ s', Step s s' ∧ PairTo U w w' d x s' s' := by
  have hal1 := nu_alloc (nu_refl w) (.cells #[.pointer (some ⟨d, 0, none⟩), .pointer (some ⟨x, 0, none⟩)] 45)
  have hal2 := nu_alloc (nu_refl (w.alloc (.cells #[.pointer (some ⟨d, 0, none⟩), .pointer (some ⟨x, 0, none⟩)] 45))) (.cells #[.int .i64 kd, .int .i64 a, .int .i64 b, .slice da dl dc, .slice fa fl fc] 49)
  have hpm := Blk.made w 45 #[.pointer (some ⟨d, 0, none⟩), .pointer (some ⟨x, 0, none⟩)]
  have HP := Lib.hid (hpm.below hal2 hpm.lt)
  have HAb := Lib.hid (Blk.made (w.alloc (.cells #[.pointer (some ⟨d, 0, none⟩), .pointer (some ⟨x, 0, none⟩)] 45)) 49 #[.int .i64 kd, .int .i64 a, .int .i64 b, .slice da dl dc, .slice fa fl fc])
  have Hb2 := Lib.hid (nu_trans hal1 hal2)
  have HH := Lib.hid (H.below Hb2.out)
  have Hlt := Lib.hid H.lt
  have Hok := Lib.hid H.okD
  have HPn := Lib.hid (show ¬ U w.heap.size from fun h => Nat.lt_irrefl _ (H.lt _ h))
  have HAn := Lib.hid (show ¬ U (w.alloc (.cells #[.pointer (some ⟨d, 0, none⟩), .pointer (some ⟨x, 0, none⟩)] 45)).heap.size from fun h => by have h1 := H.lt _ h; have h2 := hal1.size; omega)
  have HX := Lib.hid (hx.keep Hb2.out)
  have HXF := Lib.hid (hxf.below Hb2.out)
  have HF := Lib.hid (hf.below Hb2.out)
  have HFF := Lib.hid (hff.below Hb2.out)
  have HPk := Lib.hid (show ∀ u : World, Calls Try.prog 18 #[.int .i64 kd, .int .i64 11] u fun e w' => e = .returned (.int .i64 (8 : Int)) ∧ u = w' from fun u => pick_any kd 11 8 u (by rw [hk]; rfl) (by omega) (by omega) hkb.1 hkb.2)
  have Hwl := Lib.hid (show s.wa.length ≤ 1000000000 by omega)
  have Hrl := Lib.hid (show s.wr.length ≤ 1000000000 by omega)
  have Ha := Lib.hid ha
  have Hb := Lib.hid hb
  have Hfl := Lib.hid (show fl ≤ 9223372036854775807 by omega)
  clear H hk hkb ha hb hx hxf hf hff hfl hwl hrl hal1 hal2 hpm
  obtain ⟨E, hE⟩ : ∃ E : Int, E = s.copyC a b := ⟨_, rfl⟩
  have HE := Lib.hid hE
  clear hE
  go_enter Try.func26, Try.ntmps26
  go_upto_region 1 with fail
  change Code.wp _ _ _ _ ((w.alloc (.cells #[.pointer (some ⟨d, 0, none⟩), .pointer (some ⟨x, 0, none⟩)] 45)).alloc (.cells #[.int .i64 kd, .int .i64 a, .int .i64 b, .slice da dl dc, .slice fa fl fc] 49))
  generalize (w.alloc (.cells #[.pointer (some ⟨d, 0, none⟩), .pointer (some ⟨x, 0, none⟩)] 45)).alloc (.cells #[.int .i64 kd, .int .i64 a, .int .i64 b, .slice da dl dc, .slice fa fl fc] 49) = w2 at *
  obtain ⟨A, hA⟩ : ∃ A, A = (w.alloc (.cells #[.pointer (some ⟨d, 0, none⟩), .pointer (some ⟨x, 0, none⟩)] 45)).heap.size := ⟨_, rfl⟩
  have hA1 : (w.alloc (.cells #[.pointer (some ⟨d, 0, none⟩), .pointer (some ⟨x, 0, none⟩)] 45)).heap.size = w.heap.size + 1 := by simp
  rw [← hA] at HAb HAn
  rw [hA1] at hA
  clear hA1
  obtain ⟨P, hP⟩ : ∃ P, P = w.heap.size := ⟨_, rfl⟩
  rw [← hP] at HP HPn hA
  rw [← hP]
  try rw [← hA]
  clear hP hA
  have cA0 : w2.cell? ⟨A, 0, none⟩ = some (.int .i64 kd) := HAb.out.at 0 _ rfl
  go_wp2_with fail
  refine (HPk.out w2).mono ?_
  rintro e w3 ⟨rfl, rfl⟩
  go_upto_region 40 with fail
  clear cA0
  obtain ⟨wz, rfl⟩ : ∃ q : World, q = w2 := ⟨_, rfl⟩
  refine wp_region_held_drew (S := fun W => Blk W P 45 #[.pointer (some ⟨d, 0, none⟩), .pointer (some ⟨x, 0, none⟩)] ∧ Blk W A 49 #[.int .i64 kd, .int .i64 a, .int .i64 b, .slice da dl dc, .slice fa fl fc]) (by kernel_rfl) (⟨HP.out.drew, HAb.out.drew⟩) (fun hHeld => ?_)
  dsimp only [Array.replicate, List.replicate, List.size_toArray, List.length_cons, List.length_nil, Nat.reduceAdd] at hHeld ⊢
  have HN0 := Lib.hid (PairTo.of_below HH.out (nu_drew (nu_refl wz)))
  generalize wz.drew = u0 at *
  refine take_l (i := 0) (v := ?_) rfl (by kernel_rfl) (by kernel_rfl) (by kernel_rfl) (fun _ _ _ h => h) (Or.inl ⟨by rfl, ?_⟩) (by assumption) ?_
  case refine_2 => (intro _ _; go_simp; all_goals with_reducible rfl)
  simp only [Act.put, List.setIfInBounds_toArray, List.set_cons_zero, List.set_cons_succ]
  refine take_l (i := 1) rfl (by kernel_rfl) (by kernel_rfl) (by kernel_rfl) (fun _ _ _ h => h) (Or.inl ⟨by rfl, fun W hS => e_pd (hS.1.at 0 _ rfl) (.tmp 195) rfl rfl⟩) (by assumption) ?_
  simp only [Act.put, List.setIfInBounds_toArray, List.set_cons_zero, List.set_cons_succ]
  refine take_l (i := 2) (v := ?_) rfl (by kernel_rfl) (by kernel_rfl) (by kernel_rfl) (fun _ _ _ h => h) (Or.inl ⟨by rfl, ?_⟩) (by assumption) ?_
  case refine_2 => (intro _ _; go_simp; all_goals with_reducible rfl)
  simp only [Act.put, List.setIfInBounds_toArray, List.set_cons_zero, List.set_cons_succ]
  refine take_l (i := 3) rfl (by kernel_rfl) (by kernel_rfl) (by kernel_rfl) (fun _ _ _ h => h) (Or.inl ⟨by rfl, fun W hS => e_int (hS.2.at 1 _ rfl) (.tmp 197) rfl rfl⟩) (by assumption) ?_
  simp only [Act.put, List.setIfInBounds_toArray, List.set_cons_zero, List.set_cons_succ]
  refine take_l (i := 4) (v := ?_) rfl (by kernel_rfl) (by kernel_rfl) (by kernel_rfl) (fun _ _ _ h => h) (Or.inl ⟨by rfl, ?_⟩) (by assumption) ?_
  case refine_2 => (intro _ _; go_simp; all_goals with_reducible rfl)
  simp only [Act.put, List.setIfInBounds_toArray, List.set_cons_zero, List.set_cons_succ]
  refine take_l (i := 5) rfl (by kernel_rfl) (by kernel_rfl) (by kernel_rfl) (fun _ _ _ h => h) (Or.inl ⟨by rfl, fun W hS => e_int (hS.2.at 2 _ rfl) (.tmp 199) rfl rfl⟩) (by assumption) ?_
  simp only [Act.put, List.setIfInBounds_toArray, List.set_cons_zero, List.set_cons_succ]
  refine take_l (i := 7) (v := ?_) rfl (by kernel_rfl) (by kernel_rfl) (by kernel_rfl) (fun _ _ _ h => h) (Or.inl ⟨by rfl, ?_⟩) (by assumption) ?_
  case refine_2 => (intro _ _; go_simp; all_goals with_reducible rfl)
  simp only [Act.put, List.setIfInBounds_toArray, List.set_cons_zero, List.set_cons_succ]
  refine take_l (i := 8) rfl (by kernel_rfl) (by kernel_rfl) (by kernel_rfl) (fun _ _ _ h => h) (Or.inl ⟨by rfl, fun W hS => e_px (hS.1.at 1 _ rfl) (.tmp 202) rfl rfl⟩) (by assumption) ?_
  simp only [Act.put, List.setIfInBounds_toArray, List.set_cons_zero, List.set_cons_succ]
  refine take_l (i := 9) (v := ?_) rfl (by kernel_rfl) (by kernel_rfl) (by kernel_rfl) (fun _ _ _ h => h) (Or.inl ⟨by rfl, ?_⟩) (by assumption) ?_
  case refine_2 => (intro _ _; go_simp; all_goals with_reducible rfl)
  simp only [Act.put, List.setIfInBounds_toArray, List.set_cons_zero, List.set_cons_succ]
  refine take_l (i := 10) rfl (by kernel_rfl) (by kernel_rfl) (by kernel_rfl) (fun _ _ _ h => h) (Or.inl ⟨by rfl, fun W hS => e_int (hS.2.at 1 _ rfl) (.tmp 204) rfl rfl⟩) (by assumption) ?_
  simp only [Act.put, List.setIfInBounds_toArray, List.set_cons_zero, List.set_cons_succ]
  refine take_l (i := 11) (v := ?_) rfl (by kernel_rfl) (by kernel_rfl) (by kernel_rfl) (fun _ _ _ h => h) (Or.inl ⟨by rfl, ?_⟩) (by assumption) ?_
  case refine_2 => (intro _ _; go_simp; all_goals with_reducible rfl)
  simp only [Act.put, List.setIfInBounds_toArray, List.set_cons_zero, List.set_cons_succ]
  refine take_l (i := 12) rfl (by kernel_rfl) (by kernel_rfl) (by kernel_rfl) (fun _ _ _ h => h) (Or.inl ⟨by rfl, fun W hS => e_int (hS.2.at 2 _ rfl) (.tmp 206) rfl rfl⟩) (by assumption) ?_
  simp only [Act.put, List.setIfInBounds_toArray, List.set_cons_zero, List.set_cons_succ]
  clear hHeld
  refine wpAnyH_ready (rs := [6]) (by kernel_rfl) (by simp) ?_
  refine cons_l rfl (fun K hK => ?_) AllReadyH.nil
  go_simp
  go_at_call 35
  refine (HN0.out.dev (P := fun e _ => e = .returned (.int .i64 E)) (fun V hV hU => HE.out ▸ copyD_all hV a b Hwl.out)).mono ?_
  rintro e u1 ⟨rfl, hn⟩
  have HN1 := Lib.hid hn
  clear hn HN0
  go_wp2_with fail
  refine hK.out _ _ ⟨blk_mods HP.out HN1.out.2 HPn.out, blk_mods HAb.out HN1.out.2 HAn.out⟩ (fun hHeld => ?_)
  clear hK K
  simp only [Act.put, List.setIfInBounds_toArray, List.set_cons_zero, List.set_cons_succ]
  clear hHeld
  refine wpAnyH_ready (rs := [13]) (by kernel_rfl) (by simp) ?_
  refine cons_l rfl (fun K hK => ?_) AllReadyH.nil
  go_simp
  go_at_call 50
  refine (HN1.out.ref (P := fun e _ => e = .returned (.int .i64 E)) (fun V hV hU => HE.out ▸ copyX_all hV a b Hwl.out)).mono ?_
  rintro e u2 ⟨rfl, hn⟩
  have HN2 := Lib.hid hn
  clear hn HN1
  go_wp2_with fail
  refine hK.out _ _ ⟨blk_mods HP.out HN2.out.2 HPn.out, blk_mods HAb.out HN2.out.2 HAn.out⟩ (fun hHeld => ?_)
  clear hK K
  simp only [Act.put, List.setIfInBounds_toArray, List.set_cons_zero, List.set_cons_succ]
  refine take_l (i := 14) (v := ?_) rfl (by kernel_rfl) (by kernel_rfl) (by kernel_rfl) (fun _ _ _ h => h) (Or.inl ⟨by rfl, ?_⟩) (by assumption) ?_
  case refine_2 => (intro _ _; go_simp; all_goals with_reducible rfl)
  simp only [Act.put, List.setIfInBounds_toArray, List.set_cons_zero, List.set_cons_succ]
  refine take_l (i := 15) (v := ?_) rfl (by kernel_rfl) (by kernel_rfl) (by kernel_rfl) (fun _ _ _ h => h) (Or.inl ⟨by rfl, ?_⟩) (by assumption) ?_
  case refine_2 => (intro _ _; go_simp; all_goals with_reducible rfl)
  simp only [Act.put, List.setIfInBounds_toArray, List.set_cons_zero, List.set_cons_succ]
  refine wpAnyH_done (by kernel_rfl) ?_ _
  clear hHeld
  go_wp2_with fail
  go_ret
  exact ⟨rfl, s.copyS a b, step_copy s a b, PairTo.ahead Hb2.out Hlt.out HN2.out⟩
set_option maxRecDepth 100000 in
set_option maxHeartbeats 8000000 in
theorem do_10 (H : Pair2 w d x s s U) (hk : kd % 11 = 10) (hkb : -9223372036854775808 ≤ kd ∧ kd ≤ 9223372036854775807) (ha : -9223372036854775808 ≤ a ∧ a ≤ 9223372036854775807) (hb : -9223372036854775808 ≤ b ∧ b ≤ 9223372036854775807) (ys : List Nat) (hx : BytesIn w da dl dc ys) (hxf : Far w U da dl) (fs : List Int) (hf : NumsIn w fa fl fs) (hff : Far w U fa fl) (hfl : fl ≤ 1000) (hwl : s.wa.length ≤ 1000) (hrl : s.wr.length ≤ 1000) :
    Calls Try.prog 26 #[.agg #[.pointer (some ⟨d, 0, none⟩), .pointer (some ⟨x, 0, none⟩)], .agg #[.int .i64 kd, .int .i64 a, .int .i64 b, .slice da dl dc, .slice fa fl fc]] w fun e w' => e = .returned (.bool true) ∧ ∃ s', Step s s' ∧ PairTo U w w' d x s' s' := by
  have hal1 := nu_alloc (nu_refl w) (.cells #[.pointer (some ⟨d, 0, none⟩), .pointer (some ⟨x, 0, none⟩)] 45)
  have hal2 := nu_alloc (nu_refl (w.alloc (.cells #[.pointer (some ⟨d, 0, none⟩), .pointer (some ⟨x, 0, none⟩)] 45))) (.cells #[.int .i64 kd, .int .i64 a, .int .i64 b, .slice da dl dc, .slice fa fl fc] 49)
  have hpm := Blk.made w 45 #[.pointer (some ⟨d, 0, none⟩), .pointer (some ⟨x, 0, none⟩)]
  have HP := Lib.hid (hpm.below hal2 hpm.lt)
  have HAb := Lib.hid (Blk.made (w.alloc (.cells #[.pointer (some ⟨d, 0, none⟩), .pointer (some ⟨x, 0, none⟩)] 45)) 49 #[.int .i64 kd, .int .i64 a, .int .i64 b, .slice da dl dc, .slice fa fl fc])
  have Hb2 := Lib.hid (nu_trans hal1 hal2)
  have HH := Lib.hid (H.below Hb2.out)
  have Hlt := Lib.hid H.lt
  have Hok := Lib.hid H.okD
  have HPn := Lib.hid (show ¬ U w.heap.size from fun h => Nat.lt_irrefl _ (H.lt _ h))
  have HAn := Lib.hid (show ¬ U (w.alloc (.cells #[.pointer (some ⟨d, 0, none⟩), .pointer (some ⟨x, 0, none⟩)] 45)).heap.size from fun h => by have h1 := H.lt _ h; have h2 := hal1.size; omega)
  have HX := Lib.hid (hx.keep Hb2.out)
  have HXF := Lib.hid (hxf.below Hb2.out)
  have HF := Lib.hid (hf.below Hb2.out)
  have HFF := Lib.hid (hff.below Hb2.out)
  have HPk := Lib.hid (show ∀ u : World, Calls Try.prog 18 #[.int .i64 kd, .int .i64 11] u fun e w' => e = .returned (.int .i64 (10 : Int)) ∧ u = w' from fun u => pick_any kd 11 10 u (by rw [hk]; rfl) (by omega) (by omega) hkb.1 hkb.2)
  have Hwl := Lib.hid (show s.wa.length ≤ 1000000000 by omega)
  have Hrl := Lib.hid (show s.wr.length ≤ 1000000000 by omega)
  have Ha := Lib.hid ha
  have Hb := Lib.hid hb
  have Hfl := Lib.hid (show fl ≤ 9223372036854775807 by omega)
  clear H hk hkb ha hb hx hxf hf hff hfl hwl hrl hal1 hal2 hpm
  obtain ⟨E, hE⟩ : ∃ E : Int, E = s.backC a := ⟨_, rfl⟩
  have HE := Lib.hid hE
  clear hE
  go_enter Try.func26, Try.ntmps26
  go_upto_region 1 with fail
  change Code.wp _ _ _ _ ((w.alloc (.cells #[.pointer (some ⟨d, 0, none⟩), .pointer (some ⟨x, 0, none⟩)] 45)).alloc (.cells #[.int .i64 kd, .int .i64 a, .int .i64 b, .slice da dl dc, .slice fa fl fc] 49))
  generalize (w.alloc (.cells #[.pointer (some ⟨d, 0, none⟩), .pointer (some ⟨x, 0, none⟩)] 45)).alloc (.cells #[.int .i64 kd, .int .i64 a, .int .i64 b, .slice da dl dc, .slice fa fl fc] 49) = w2 at *
  obtain ⟨A, hA⟩ : ∃ A, A = (w.alloc (.cells #[.pointer (some ⟨d, 0, none⟩), .pointer (some ⟨x, 0, none⟩)] 45)).heap.size := ⟨_, rfl⟩
  have hA1 : (w.alloc (.cells #[.pointer (some ⟨d, 0, none⟩), .pointer (some ⟨x, 0, none⟩)] 45)).heap.size = w.heap.size + 1 := by simp
  rw [← hA] at HAb HAn
  rw [hA1] at hA
  clear hA1
  obtain ⟨P, hP⟩ : ∃ P, P = w.heap.size := ⟨_, rfl⟩
  rw [← hP] at HP HPn hA
  rw [← hP]
  try rw [← hA]
  clear hP hA
  have cA0 : w2.cell? ⟨A, 0, none⟩ = some (.int .i64 kd) := HAb.out.at 0 _ rfl
  go_wp2_with fail
  refine (HPk.out w2).mono ?_
  rintro e w3 ⟨rfl, rfl⟩
  go_upto_region 2 with fail
  clear cA0
  obtain ⟨wz, rfl⟩ : ∃ q : World, q = w2 := ⟨_, rfl⟩
  refine wp_region_held_drew (S := fun W => Blk W P 45 #[.pointer (some ⟨d, 0, none⟩), .pointer (some ⟨x, 0, none⟩)] ∧ Blk W A 49 #[.int .i64 kd, .int .i64 a, .int .i64 b, .slice da dl dc, .slice fa fl fc]) (by kernel_rfl) (⟨HP.out.drew, HAb.out.drew⟩) (fun hHeld => ?_)
  dsimp only [Array.replicate, List.replicate, List.size_toArray, List.length_cons, List.length_nil, Nat.reduceAdd] at hHeld ⊢
  have HN0 := Lib.hid (PairTo.of_below HH.out (nu_drew (nu_refl wz)))
  generalize wz.drew = u0 at *
  refine take_l (i := 0) (v := ?_) rfl (by kernel_rfl) (by kernel_rfl) (by kernel_rfl) (fun _ _ _ h => h) (Or.inl ⟨by rfl, ?_⟩) (by assumption) ?_
  case refine_2 => (intro _ _; go_simp; all_goals with_reducible rfl)
  simp only [Act.put, List.setIfInBounds_toArray, List.set_cons_zero, List.set_cons_succ]
  refine take_l (i := 1) rfl (by kernel_rfl) (by kernel_rfl) (by kernel_rfl) (fun _ _ _ h => h) (Or.inl ⟨by rfl, fun W hS => e_pd (hS.1.at 0 _ rfl) (.tmp 23) rfl rfl⟩) (by assumption) ?_
  simp only [Act.put, List.setIfInBounds_toArray, List.set_cons_zero, List.set_cons_succ]
  refine take_l (i := 2) (v := ?_) rfl (by kernel_rfl) (by kernel_rfl) (by kernel_rfl) (fun _ _ _ h => h) (Or.inl ⟨by rfl, ?_⟩) (by assumption) ?_
  case refine_2 => (intro _ _; go_simp; all_goals with_reducible rfl)
  simp only [Act.put, List.setIfInBounds_toArray, List.set_cons_zero, List.set_cons_succ]
  refine take_l (i := 3) rfl (by kernel_rfl) (by kernel_rfl) (by kernel_rfl) (fun _ _ _ h => h) (Or.inl ⟨by rfl, fun W hS => e_int (hS.2.at 1 _ rfl) (.tmp 25) rfl rfl⟩) (by assumption) ?_
  simp only [Act.put, List.setIfInBounds_toArray, List.set_cons_zero, List.set_cons_succ]
  refine take_l (i := 5) (v := ?_) rfl (by kernel_rfl) (by kernel_rfl) (by kernel_rfl) (fun _ _ _ h => h) (Or.inl ⟨by rfl, ?_⟩) (by assumption) ?_
  case refine_2 => (intro _ _; go_simp; all_goals with_reducible rfl)
  simp only [Act.put, List.setIfInBounds_toArray, List.set_cons_zero, List.set_cons_succ]
  refine take_l (i := 6) rfl (by kernel_rfl) (by kernel_rfl) (by kernel_rfl) (fun _ _ _ h => h) (Or.inl ⟨by rfl, fun W hS => e_px (hS.1.at 1 _ rfl) (.tmp 28) rfl rfl⟩) (by assumption) ?_
  simp only [Act.put, List.setIfInBounds_toArray, List.set_cons_zero, List.set_cons_succ]
  refine take_l (i := 7) (v := ?_) rfl (by kernel_rfl) (by kernel_rfl) (by kernel_rfl) (fun _ _ _ h => h) (Or.inl ⟨by rfl, ?_⟩) (by assumption) ?_
  case refine_2 => (intro _ _; go_simp; all_goals with_reducible rfl)
  simp only [Act.put, List.setIfInBounds_toArray, List.set_cons_zero, List.set_cons_succ]
  refine take_l (i := 8) rfl (by kernel_rfl) (by kernel_rfl) (by kernel_rfl) (fun _ _ _ h => h) (Or.inl ⟨by rfl, fun W hS => e_int (hS.2.at 1 _ rfl) (.tmp 30) rfl rfl⟩) (by assumption) ?_
  simp only [Act.put, List.setIfInBounds_toArray, List.set_cons_zero, List.set_cons_succ]
  clear hHeld
  refine wpAnyH_ready (rs := [4]) (by kernel_rfl) (by simp) ?_
  refine cons_l rfl (fun K hK => ?_) AllReadyH.nil
  go_simp
  go_at_call 30
  refine (HN0.out.dev (P := fun e _ => e = .returned (.int .i64 E)) (fun V hV hU => HE.out ▸ backD_all hV a)).mono ?_
  rintro e u1 ⟨rfl, hn⟩
  have HN1 := Lib.hid hn
  clear hn HN0
  go_wp2_with fail
  refine hK.out _ _ ⟨blk_mods HP.out HN1.out.2 HPn.out, blk_mods HAb.out HN1.out.2 HAn.out⟩ (fun hHeld => ?_)
  clear hK K
  simp only [Act.put, List.setIfInBounds_toArray, List.set_cons_zero, List.set_cons_succ]
  clear hHeld
  refine wpAnyH_ready (rs := [9]) (by kernel_rfl) (by simp) ?_
  refine cons_l rfl (fun K hK => ?_) AllReadyH.nil
  go_simp
  go_at_call 52
  refine (HN1.out.ref (P := fun e _ => e = .returned (.int .i64 E)) (fun V hV hU => HE.out ▸ backX_all hV a)).mono ?_
  rintro e u2 ⟨rfl, hn⟩
  have HN2 := Lib.hid hn
  clear hn HN1
  go_wp2_with fail
  refine hK.out _ _ ⟨blk_mods HP.out HN2.out.2 HPn.out, blk_mods HAb.out HN2.out.2 HAn.out⟩ (fun hHeld => ?_)
  clear hK K
  simp only [Act.put, List.setIfInBounds_toArray, List.set_cons_zero, List.set_cons_succ]
  refine take_l (i := 10) (v := ?_) rfl (by kernel_rfl) (by kernel_rfl) (by kernel_rfl) (fun _ _ _ h => h) (Or.inl ⟨by rfl, ?_⟩) (by assumption) ?_
  case refine_2 => (intro _ _; go_simp; all_goals with_reducible rfl)
  simp only [Act.put, List.setIfInBounds_toArray, List.set_cons_zero, List.set_cons_succ]
  refine take_l (i := 11) (v := ?_) rfl (by kernel_rfl) (by kernel_rfl) (by kernel_rfl) (fun _ _ _ h => h) (Or.inl ⟨by rfl, ?_⟩) (by assumption) ?_
  case refine_2 => (intro _ _; go_simp; all_goals with_reducible rfl)
  simp only [Act.put, List.setIfInBounds_toArray, List.set_cons_zero, List.set_cons_succ]
  refine wpAnyH_done (by kernel_rfl) ?_ _
  clear hHeld
  go_wp2_with fail
  go_ret
  exact ⟨rfl, s.backS a, step_back Hok.out a, PairTo.ahead Hb2.out Hlt.out HN2.out⟩
set_option maxRecDepth 100000 in
set_option maxHeartbeats 8000000 in
theorem do_4 (H : Pair2 w d x s s U) (hk : kd % 11 = 4) (hkb : -9223372036854775808 ≤ kd ∧ kd ≤ 9223372036854775807) (ha : -9223372036854775808 ≤ a ∧ a ≤ 9223372036854775807) (hb : -9223372036854775808 ≤ b ∧ b ≤ 9223372036854775807) (ys : List Nat) (hx : BytesIn w da dl dc ys) (hxf : Far w U da dl) (fs : List Int) (hf : NumsIn w fa fl fs) (hff : Far w U fa fl) (hfl : fl ≤ 1000) (hwl : s.wa.length ≤ 1000) (hrl : s.wr.length ≤ 1000) :
    Calls Try.prog 26 #[.agg #[.pointer (some ⟨d, 0, none⟩), .pointer (some ⟨x, 0, none⟩)], .agg #[.int .i64 kd, .int .i64 a, .int .i64 b, .slice da dl dc, .slice fa fl fc]] w fun e w' => e = .returned (.bool true) ∧ ∃ s', Step s s' ∧ PairTo U w w' d x s' s' := by
  have hal1 := nu_alloc (nu_refl w) (.cells #[.pointer (some ⟨d, 0, none⟩), .pointer (some ⟨x, 0, none⟩)] 45)
  have hal2 := nu_alloc (nu_refl (w.alloc (.cells #[.pointer (some ⟨d, 0, none⟩), .pointer (some ⟨x, 0, none⟩)] 45))) (.cells #[.int .i64 kd, .int .i64 a, .int .i64 b, .slice da dl dc, .slice fa fl fc] 49)
  have hpm := Blk.made w 45 #[.pointer (some ⟨d, 0, none⟩), .pointer (some ⟨x, 0, none⟩)]
  have HP := Lib.hid (hpm.below hal2 hpm.lt)
  have HAb := Lib.hid (Blk.made (w.alloc (.cells #[.pointer (some ⟨d, 0, none⟩), .pointer (some ⟨x, 0, none⟩)] 45)) 49 #[.int .i64 kd, .int .i64 a, .int .i64 b, .slice da dl dc, .slice fa fl fc])
  have Hb2 := Lib.hid (nu_trans hal1 hal2)
  have HH := Lib.hid (H.below Hb2.out)
  have Hlt := Lib.hid H.lt
  have Hok := Lib.hid H.okD
  have HPn := Lib.hid (show ¬ U w.heap.size from fun h => Nat.lt_irrefl _ (H.lt _ h))
  have HAn := Lib.hid (show ¬ U (w.alloc (.cells #[.pointer (some ⟨d, 0, none⟩), .pointer (some ⟨x, 0, none⟩)] 45)).heap.size from fun h => by have h1 := H.lt _ h; have h2 := hal1.size; omega)
  have HX := Lib.hid (hx.keep Hb2.out)
  have HXF := Lib.hid (hxf.below Hb2.out)
  have HF := Lib.hid (hf.below Hb2.out)
  have HFF := Lib.hid (hff.below Hb2.out)
  have HPk := Lib.hid (show ∀ u : World, Calls Try.prog 18 #[.int .i64 kd, .int .i64 11] u fun e w' => e = .returned (.int .i64 (4 : Int)) ∧ u = w' from fun u => pick_any kd 11 4 u (by rw [hk]; rfl) (by omega) (by omega) hkb.1 hkb.2)
  have Hwl := Lib.hid (show s.wa.length ≤ 1000000000 by omega)
  have Hrl := Lib.hid (show s.wr.length ≤ 1000000000 by omega)
  have Ha := Lib.hid ha
  have Hb := Lib.hid hb
  have Hfl := Lib.hid (show fl ≤ 9223372036854775807 by omega)
  clear H hk hkb ha hb hx hxf hf hff hfl hwl hrl hal1 hal2 hpm
  go_enter Try.func26, Try.ntmps26
  go_upto_region 1 with fail
  change Code.wp _ _ _ _ ((w.alloc (.cells #[.pointer (some ⟨d, 0, none⟩), .pointer (some ⟨x, 0, none⟩)] 45)).alloc (.cells #[.int .i64 kd, .int .i64 a, .int .i64 b, .slice da dl dc, .slice fa fl fc] 49))
  generalize (w.alloc (.cells #[.pointer (some ⟨d, 0, none⟩), .pointer (some ⟨x, 0, none⟩)] 45)).alloc (.cells #[.int .i64 kd, .int .i64 a, .int .i64 b, .slice da dl dc, .slice fa fl fc] 49) = w2 at *
  obtain ⟨A, hA⟩ : ∃ A, A = (w.alloc (.cells #[.pointer (some ⟨d, 0, none⟩), .pointer (some ⟨x, 0, none⟩)] 45)).heap.size := ⟨_, rfl⟩
  have hA1 : (w.alloc (.cells #[.pointer (some ⟨d, 0, none⟩), .pointer (some ⟨x, 0, none⟩)] 45)).heap.size = w.heap.size + 1 := by simp
  rw [← hA] at HAb HAn
  rw [hA1] at hA
  clear hA1
  obtain ⟨P, hP⟩ : ∃ P, P = w.heap.size := ⟨_, rfl⟩
  rw [← hP] at HP HPn hA
  rw [← hP]
  try rw [← hA]
  clear hP hA
  have cA0 : w2.cell? ⟨A, 0, none⟩ = some (.int .i64 kd) := HAb.out.at 0 _ rfl
  have HPb2 := HP
  have HAc2 := HAb
  have HN0 := Lib.hid (PairTo.refl HH.out)
  have cP2 : w2.cell? ⟨P, 0, none⟩ = some (.pointer (some ⟨d, 0, none⟩)) := (HPb2.out).at 0 _ rfl
  have cB2 : w2.cell? ⟨A, 1, none⟩ = some (.int .i64 a) := (HAc2.out).at 1 _ rfl
  go_wp2_with fail
  refine (HPk.out w2).mono ?_
  rintro e w3 ⟨rfl, rfl⟩
  go_wp2_with fail
  refine (HN0.out.dev (P := fun e _ => e = .returned (.tuple #[])) (fun V hV hU => armD hV a Ha.out.2)).mono ?_
  rintro e w3 ⟨rfl, hn⟩
  have HN1 := Lib.hid hn
  have HPb3 := Lib.hid (blk_mods HP.out HN1.out.2 HPn.out)
  have HAc3 := Lib.hid (blk_mods HAb.out HN1.out.2 HAn.out)
  clear hn HN0 cA0 cP2 cB2
  have cP3 : w3.cell? ⟨P, 1, none⟩ = some (.pointer (some ⟨x, 0, none⟩)) := (HPb3.out).at 1 _ rfl
  have cB3 : w3.cell? ⟨A, 1, none⟩ = some (.int .i64 a) := (HAc3.out).at 1 _ rfl
  go_wp2_with fail
  refine (HN1.out.ref (P := fun e _ => e = .returned (.tuple #[])) (fun V hV hU => xArm hV a Ha.out.2)).mono ?_
  rintro e w4 ⟨rfl, hn⟩
  have HN2 := Lib.hid hn
  clear hn HN1 cP3 cB3
  go_wp2_with fail
  go_ret
  exact ⟨rfl, s.arm a, step_arm s a, PairTo.ahead Hb2.out Hlt.out HN2.out⟩
set_option maxRecDepth 100000 in
set_option maxHeartbeats 8000000 in
theorem do_5 (H : Pair2 w d x s s U) (hk : kd % 11 = 5) (hkb : -9223372036854775808 ≤ kd ∧ kd ≤ 9223372036854775807) (ha : -9223372036854775808 ≤ a ∧ a ≤ 9223372036854775807) (hb : -9223372036854775808 ≤ b ∧ b ≤ 9223372036854775807) (ys : List Nat) (hx : BytesIn w da dl dc ys) (hxf : Far w U da dl) (fs : List Int) (hf : NumsIn w fa fl fs) (hff : Far w U fa fl) (hfl : fl ≤ 1000) (hwl : s.wa.length ≤ 1000) (hrl : s.wr.length ≤ 1000) :
    Calls Try.prog 26 #[.agg #[.pointer (some ⟨d, 0, none⟩), .pointer (some ⟨x, 0, none⟩)], .agg #[.int .i64 kd, .int .i64 a, .int .i64 b, .slice da dl dc, .slice fa fl fc]] w fun e w' => e = .returned (.bool true) ∧ ∃ s', Step s s' ∧ PairTo U w w' d x s' s' := by
  have hal1 := nu_alloc (nu_refl w) (.cells #[.pointer (some ⟨d, 0, none⟩), .pointer (some ⟨x, 0, none⟩)] 45)
  have hal2 := nu_alloc (nu_refl (w.alloc (.cells #[.pointer (some ⟨d, 0, none⟩), .pointer (some ⟨x, 0, none⟩)] 45))) (.cells #[.int .i64 kd, .int .i64 a, .int .i64 b, .slice da dl dc, .slice fa fl fc] 49)
  have hpm := Blk.made w 45 #[.pointer (some ⟨d, 0, none⟩), .pointer (some ⟨x, 0, none⟩)]
  have HP := Lib.hid (hpm.below hal2 hpm.lt)
  have HAb := Lib.hid (Blk.made (w.alloc (.cells #[.pointer (some ⟨d, 0, none⟩), .pointer (some ⟨x, 0, none⟩)] 45)) 49 #[.int .i64 kd, .int .i64 a, .int .i64 b, .slice da dl dc, .slice fa fl fc])
  have Hb2 := Lib.hid (nu_trans hal1 hal2)
  have HH := Lib.hid (H.below Hb2.out)
  have Hlt := Lib.hid H.lt
  have Hok := Lib.hid H.okD
  have HPn := Lib.hid (show ¬ U w.heap.size from fun h => Nat.lt_irrefl _ (H.lt _ h))
  have HAn := Lib.hid (show ¬ U (w.alloc (.cells #[.pointer (some ⟨d, 0, none⟩), .pointer (some ⟨x, 0, none⟩)] 45)).heap.size from fun h => by have h1 := H.lt _ h; have h2 := hal1.size; omega)
  have HX := Lib.hid (hx.keep Hb2.out)
  have HXF := Lib.hid (hxf.below Hb2.out)
  have HF := Lib.hid (hf.below Hb2.out)
  have HFF := Lib.hid (hff.below Hb2.out)
  have HPk := Lib.hid (show ∀ u : World, Calls Try.prog 18 #[.int .i64 kd, .int .i64 11] u fun e w' => e = .returned (.int .i64 (5 : Int)) ∧ u = w' from fun u => pick_any kd 11 5 u (by rw [hk]; rfl) (by omega) (by omega) hkb.1 hkb.2)
  have Hwl := Lib.hid (show s.wa.length ≤ 1000000000 by omega)
  have Hrl := Lib.hid (show s.wr.length ≤ 1000000000 by omega)
  have Ha := Lib.hid ha
  have Hb := Lib.hid hb
  have Hfl := Lib.hid (show fl ≤ 9223372036854775807 by omega)
  clear H hk hkb ha hb hx hxf hf hff hfl hwl hrl hal1 hal2 hpm
  go_enter Try.func26, Try.ntmps26
  go_upto_region 1 with fail
  change Code.wp _ _ _ _ ((w.alloc (.cells #[.pointer (some ⟨d, 0, none⟩), .pointer (some ⟨x, 0, none⟩)] 45)).alloc (.cells #[.int .i64 kd, .int .i64 a, .int .i64 b, .slice da dl dc, .slice fa fl fc] 49))
  generalize (w.alloc (.cells #[.pointer (some ⟨d, 0, none⟩), .pointer (some ⟨x, 0, none⟩)] 45)).alloc (.cells #[.int .i64 kd, .int .i64 a, .int .i64 b, .slice da dl dc, .slice fa fl fc] 49) = w2 at *
  obtain ⟨A, hA⟩ : ∃ A, A = (w.alloc (.cells #[.pointer (some ⟨d, 0, none⟩), .pointer (some ⟨x, 0, none⟩)] 45)).heap.size := ⟨_, rfl⟩
  have hA1 : (w.alloc (.cells #[.pointer (some ⟨d, 0, none⟩), .pointer (some ⟨x, 0, none⟩)] 45)).heap.size = w.heap.size + 1 := by simp
  rw [← hA] at HAb HAn
  rw [hA1] at hA
  clear hA1
  obtain ⟨P, hP⟩ : ∃ P, P = w.heap.size := ⟨_, rfl⟩
  rw [← hP] at HP HPn hA
  rw [← hP]
  try rw [← hA]
  clear hP hA
  have cA0 : w2.cell? ⟨A, 0, none⟩ = some (.int .i64 kd) := HAb.out.at 0 _ rfl
  have HPb2 := HP
  have HAc2 := HAb
  have HN0 := Lib.hid (PairTo.refl HH.out)
  have cP2 : w2.cell? ⟨P, 0, none⟩ = some (.pointer (some ⟨d, 0, none⟩)) := (HPb2.out).at 0 _ rfl
  go_wp2_with fail
  refine (HPk.out w2).mono ?_
  rintro e w3 ⟨rfl, rfl⟩
  go_wp2_with fail
  refine (HN0.out.dev (P := fun e _ => e = .returned (.tuple #[])) (fun V hV hU => crashD hV)).mono ?_
  rintro e w3 ⟨rfl, hn⟩
  have HN1 := Lib.hid hn
  have HPb3 := Lib.hid (blk_mods HP.out HN1.out.2 HPn.out)
  have HAc3 := Lib.hid (blk_mods HAb.out HN1.out.2 HAn.out)
  clear hn HN0 cA0 cP2
  have cP3 : w3.cell? ⟨P, 1, none⟩ = some (.pointer (some ⟨x, 0, none⟩)) := (HPb3.out).at 1 _ rfl
  go_wp2_with fail
  refine (HN1.out.ref (P := fun e _ => e = .returned (.tuple #[])) (fun V hV hU => xCrash hV)).mono ?_
  rintro e w4 ⟨rfl, hn⟩
  have HN2 := Lib.hid hn
  clear hn HN1 cP3
  go_wp2_with fail
  go_ret
  exact ⟨rfl, s.crash, step_crash s, PairTo.ahead Hb2.out Hlt.out HN2.out⟩
set_option maxRecDepth 100000 in
set_option maxHeartbeats 8000000 in
theorem do_6 (H : Pair2 w d x s s U) (hk : kd % 11 = 6) (hkb : -9223372036854775808 ≤ kd ∧ kd ≤ 9223372036854775807) (ha : -9223372036854775808 ≤ a ∧ a ≤ 9223372036854775807) (hb : -9223372036854775808 ≤ b ∧ b ≤ 9223372036854775807) (ys : List Nat) (hx : BytesIn w da dl dc ys) (hxf : Far w U da dl) (fs : List Int) (hf : NumsIn w fa fl fs) (hff : Far w U fa fl) (hfl : fl ≤ 1000) (hwl : s.wa.length ≤ 1000) (hrl : s.wr.length ≤ 1000) :
    Calls Try.prog 26 #[.agg #[.pointer (some ⟨d, 0, none⟩), .pointer (some ⟨x, 0, none⟩)], .agg #[.int .i64 kd, .int .i64 a, .int .i64 b, .slice da dl dc, .slice fa fl fc]] w fun e w' => e = .returned (.bool true) ∧ ∃ s', Step s s' ∧ PairTo U w w' d x s' s' := by
  have hal1 := nu_alloc (nu_refl w) (.cells #[.pointer (some ⟨d, 0, none⟩), .pointer (some ⟨x, 0, none⟩)] 45)
  have hal2 := nu_alloc (nu_refl (w.alloc (.cells #[.pointer (some ⟨d, 0, none⟩), .pointer (some ⟨x, 0, none⟩)] 45))) (.cells #[.int .i64 kd, .int .i64 a, .int .i64 b, .slice da dl dc, .slice fa fl fc] 49)
  have hpm := Blk.made w 45 #[.pointer (some ⟨d, 0, none⟩), .pointer (some ⟨x, 0, none⟩)]
  have HP := Lib.hid (hpm.below hal2 hpm.lt)
  have HAb := Lib.hid (Blk.made (w.alloc (.cells #[.pointer (some ⟨d, 0, none⟩), .pointer (some ⟨x, 0, none⟩)] 45)) 49 #[.int .i64 kd, .int .i64 a, .int .i64 b, .slice da dl dc, .slice fa fl fc])
  have Hb2 := Lib.hid (nu_trans hal1 hal2)
  have HH := Lib.hid (H.below Hb2.out)
  have Hlt := Lib.hid H.lt
  have Hok := Lib.hid H.okD
  have HPn := Lib.hid (show ¬ U w.heap.size from fun h => Nat.lt_irrefl _ (H.lt _ h))
  have HAn := Lib.hid (show ¬ U (w.alloc (.cells #[.pointer (some ⟨d, 0, none⟩), .pointer (some ⟨x, 0, none⟩)] 45)).heap.size from fun h => by have h1 := H.lt _ h; have h2 := hal1.size; omega)
  have HX := Lib.hid (hx.keep Hb2.out)
  have HXF := Lib.hid (hxf.below Hb2.out)
  have HF := Lib.hid (hf.below Hb2.out)
  have HFF := Lib.hid (hff.below Hb2.out)
  have HPk := Lib.hid (show ∀ u : World, Calls Try.prog 18 #[.int .i64 kd, .int .i64 11] u fun e w' => e = .returned (.int .i64 (6 : Int)) ∧ u = w' from fun u => pick_any kd 11 6 u (by rw [hk]; rfl) (by omega) (by omega) hkb.1 hkb.2)
  have Hwl := Lib.hid (show s.wa.length ≤ 1000000000 by omega)
  have Hrl := Lib.hid (show s.wr.length ≤ 1000000000 by omega)
  have Ha := Lib.hid ha
  have Hb := Lib.hid hb
  have Hfl := Lib.hid (show fl ≤ 9223372036854775807 by omega)
  clear H hk hkb ha hb hx hxf hf hff hfl hwl hrl hal1 hal2 hpm
  go_enter Try.func26, Try.ntmps26
  go_upto_region 1 with fail
  change Code.wp _ _ _ _ ((w.alloc (.cells #[.pointer (some ⟨d, 0, none⟩), .pointer (some ⟨x, 0, none⟩)] 45)).alloc (.cells #[.int .i64 kd, .int .i64 a, .int .i64 b, .slice da dl dc, .slice fa fl fc] 49))
  generalize (w.alloc (.cells #[.pointer (some ⟨d, 0, none⟩), .pointer (some ⟨x, 0, none⟩)] 45)).alloc (.cells #[.int .i64 kd, .int .i64 a, .int .i64 b, .slice da dl dc, .slice fa fl fc] 49) = w2 at *
  obtain ⟨A, hA⟩ : ∃ A, A = (w.alloc (.cells #[.pointer (some ⟨d, 0, none⟩), .pointer (some ⟨x, 0, none⟩)] 45)).heap.size := ⟨_, rfl⟩
  have hA1 : (w.alloc (.cells #[.pointer (some ⟨d, 0, none⟩), .pointer (some ⟨x, 0, none⟩)] 45)).heap.size = w.heap.size + 1 := by simp
  rw [← hA] at HAb HAn
  rw [hA1] at hA
  clear hA1
  obtain ⟨P, hP⟩ : ∃ P, P = w.heap.size := ⟨_, rfl⟩
  rw [← hP] at HP HPn hA
  rw [← hP]
  try rw [← hA]
  clear hP hA
  have cA0 : w2.cell? ⟨A, 0, none⟩ = some (.int .i64 kd) := HAb.out.at 0 _ rfl
  have HPb2 := HP
  have HAc2 := HAb
  have HN0 := Lib.hid (PairTo.refl HH.out)
  have cP2 : w2.cell? ⟨P, 0, none⟩ = some (.pointer (some ⟨d, 0, none⟩)) := (HPb2.out).at 0 _ rfl
  have cB2 : w2.cell? ⟨A, 4, none⟩ = some (.slice fa fl fc) := (HAc2.out).at 4 _ rfl
  go_wp2_with fail
  refine (HPk.out w2).mono ?_
  rintro e w3 ⟨rfl, rfl⟩
  go_wp2_with fail
  refine (HN0.out.dev (P := fun e _ => e = .returned (.tuple #[])) (fun V hV hU => onD_all hV fa fl fc fs (HF.out.mods HN0.out.2 (fun hp ad had => (HFF.out hp ad had).2)) (Far.out HFF.out hU) Hfl.out Hwl.out)).mono ?_
  rintro e w3 ⟨rfl, hn⟩
  have HN1 := Lib.hid hn
  have HPb3 := Lib.hid (blk_mods HP.out HN1.out.2 HPn.out)
  have HAc3 := Lib.hid (blk_mods HAb.out HN1.out.2 HAn.out)
  clear hn HN0 cA0 cP2 cB2
  have cP3 : w3.cell? ⟨P, 1, none⟩ = some (.pointer (some ⟨x, 0, none⟩)) := (HPb3.out).at 1 _ rfl
  have cB3 : w3.cell? ⟨A, 4, none⟩ = some (.slice fa fl fc) := (HAc3.out).at 4 _ rfl
  go_wp2_with fail
  refine (HN1.out.ref (P := fun e _ => e = .returned (.tuple #[])) (fun V hV hU => onX_all hV fa fl fc fs (HF.out.mods HN1.out.2 (fun hp ad had => (HFF.out hp ad had).2)) (Far.out HFF.out hU) Hfl.out Hwl.out)).mono ?_
  rintro e w4 ⟨rfl, hn⟩
  have HN2 := Lib.hid hn
  clear hn HN1 cP3 cB3
  go_wp2_with fail
  go_ret
  exact ⟨rfl, s.on fs, step_on s fs, PairTo.ahead Hb2.out Hlt.out HN2.out⟩
set_option maxRecDepth 100000 in
set_option maxHeartbeats 8000000 in
theorem do_9 (H : Pair2 w d x s s U) (hk : kd % 11 = 9) (hkb : -9223372036854775808 ≤ kd ∧ kd ≤ 9223372036854775807) (ha : -9223372036854775808 ≤ a ∧ a ≤ 9223372036854775807) (hb : -9223372036854775808 ≤ b ∧ b ≤ 9223372036854775807) (ys : List Nat) (hx : BytesIn w da dl dc ys) (hxf : Far w U da dl) (fs : List Int) (hf : NumsIn w fa fl fs) (hff : Far w U fa fl) (hfl : fl ≤ 1000) (hwl : s.wa.length ≤ 1000) (hrl : s.wr.length ≤ 1000) :
    Calls Try.prog 26 #[.agg #[.pointer (some ⟨d, 0, none⟩), .pointer (some ⟨x, 0, none⟩)], .agg #[.int .i64 kd, .int .i64 a, .int .i64 b, .slice da dl dc, .slice fa fl fc]] w fun e w' => e = .returned (.bool true) ∧ ∃ s', Step s s' ∧ PairTo U w w' d x s' s' := by
  have hal1 := nu_alloc (nu_refl w) (.cells #[.pointer (some ⟨d, 0, none⟩), .pointer (some ⟨x, 0, none⟩)] 45)
  have hal2 := nu_alloc (nu_refl (w.alloc (.cells #[.pointer (some ⟨d, 0, none⟩), .pointer (some ⟨x, 0, none⟩)] 45))) (.cells #[.int .i64 kd, .int .i64 a, .int .i64 b, .slice da dl dc, .slice fa fl fc] 49)
  have hpm := Blk.made w 45 #[.pointer (some ⟨d, 0, none⟩), .pointer (some ⟨x, 0, none⟩)]
  have HP := Lib.hid (hpm.below hal2 hpm.lt)
  have HAb := Lib.hid (Blk.made (w.alloc (.cells #[.pointer (some ⟨d, 0, none⟩), .pointer (some ⟨x, 0, none⟩)] 45)) 49 #[.int .i64 kd, .int .i64 a, .int .i64 b, .slice da dl dc, .slice fa fl fc])
  have Hb2 := Lib.hid (nu_trans hal1 hal2)
  have HH := Lib.hid (H.below Hb2.out)
  have Hlt := Lib.hid H.lt
  have Hok := Lib.hid H.okD
  have HPn := Lib.hid (show ¬ U w.heap.size from fun h => Nat.lt_irrefl _ (H.lt _ h))
  have HAn := Lib.hid (show ¬ U (w.alloc (.cells #[.pointer (some ⟨d, 0, none⟩), .pointer (some ⟨x, 0, none⟩)] 45)).heap.size from fun h => by have h1 := H.lt _ h; have h2 := hal1.size; omega)
  have HX := Lib.hid (hx.keep Hb2.out)
  have HXF := Lib.hid (hxf.below Hb2.out)
  have HF := Lib.hid (hf.below Hb2.out)
  have HFF := Lib.hid (hff.below Hb2.out)
  have HPk := Lib.hid (show ∀ u : World, Calls Try.prog 18 #[.int .i64 kd, .int .i64 11] u fun e w' => e = .returned (.int .i64 (9 : Int)) ∧ u = w' from fun u => pick_any kd 11 9 u (by rw [hk]; rfl) (by omega) (by omega) hkb.1 hkb.2)
  have Hwl := Lib.hid (show s.wa.length ≤ 1000000000 by omega)
  have Hrl := Lib.hid (show s.wr.length ≤ 1000000000 by omega)
  have Ha := Lib.hid ha
  have Hb := Lib.hid hb
  have Hfl := Lib.hid (show fl ≤ 9223372036854775807 by omega)
  clear H hk hkb ha hb hx hxf hf hff hfl hwl hrl hal1 hal2 hpm
  obtain ⟨E1, hE1⟩ : ∃ E : Int, E = s.snapN := ⟨_, rfl⟩
  have HE1 := Lib.hid hE1
  obtain ⟨E2, hE2⟩ : ∃ E : Int, E = s.snapC := ⟨_, rfl⟩
  have HE2 := Lib.hid hE2
  clear hE1 hE2
  go_enter Try.func26, Try.ntmps26
  go_upto_region 1 with fail
  change Code.wp _ _ _ _ ((w.alloc (.cells #[.pointer (some ⟨d, 0, none⟩), .pointer (some ⟨x, 0, none⟩)] 45)).alloc (.cells #[.int .i64 kd, .int .i64 a, .int .i64 b, .slice da dl dc, .slice fa fl fc] 49))
  generalize (w.alloc (.cells #[.pointer (some ⟨d, 0, none⟩), .pointer (some ⟨x, 0, none⟩)] 45)).alloc (.cells #[.int .i64 kd, .int .i64 a, .int .i64 b, .slice da dl dc, .slice fa fl fc] 49) = w2 at *
  obtain ⟨A, hA⟩ : ∃ A, A = (w.alloc (.cells #[.pointer (some ⟨d, 0, none⟩), .pointer (some ⟨x, 0, none⟩)] 45)).heap.size := ⟨_, rfl⟩
  have hA1 : (w.alloc (.cells #[.pointer (some ⟨d, 0, none⟩), .pointer (some ⟨x, 0, none⟩)] 45)).heap.size = w.heap.size + 1 := by simp
  rw [← hA] at HAb HAn
  rw [hA1] at hA
  clear hA1
  obtain ⟨P, hP⟩ : ∃ P, P = w.heap.size := ⟨_, rfl⟩
  rw [← hP] at HP HPn hA
  rw [← hP]
  try rw [← hA]
  clear hP hA
  have cA0 : w2.cell? ⟨A, 0, none⟩ = some (.int .i64 kd) := HAb.out.at 0 _ rfl
  have HPb2 := HP
  have HAc2 := HAb
  have HN0 := Lib.hid (PairTo.refl HH.out)
  have cP2 : w2.cell? ⟨P, 0, none⟩ = some (.pointer (some ⟨d, 0, none⟩)) := (HPb2.out).at 0 _ rfl
  go_wp2_with fail
  refine (HPk.out w2).mono ?_
  rintro e w3 ⟨rfl, rfl⟩
  go_wp2_with fail
  refine (HN0.out.dev (P := fun e _ => e = .returned (.tuple #[.int .i64 E1, .int .i64 E2])) (fun V hV hU => HE2.out ▸ HE1.out ▸ snapD_all hV Hwl.out)).mono ?_
  rintro e w3 ⟨rfl, hn⟩
  have HN1 := Lib.hid hn
  have HPb3 := Lib.hid (blk_mods HP.out HN1.out.2 HPn.out)
  have HAc3 := Lib.hid (blk_mods HAb.out HN1.out.2 HAn.out)
  clear hn HN0 cA0 cP2
  have cP3 : w3.cell? ⟨P, 1, none⟩ = some (.pointer (some ⟨x, 0, none⟩)) := (HPb3.out).at 1 _ rfl
  go_wp2_with fail
  refine (HN1.out.ref (P := fun e _ => e = .returned (.tuple #[.int .i64 E1, .int .i64 E2])) (fun V hV hU => HE2.out ▸ HE1.out ▸ snapX_all hV Hwl.out)).mono ?_
  rintro e w4 ⟨rfl, hn⟩
  have HN2 := Lib.hid hn
  clear hn HN1 cP3
  go_wp2_with fail
  go_ret
  exact ⟨rfl, s.snapS, step_snap s, PairTo.ahead Hb2.out Hlt.out HN2.out⟩
end
end Go.Proofs.Ytjmghpoknlffiaa

namespace Go.Proofs.Ytjmghpoknlffiaa
open Go.ChangeShapes Go.WideShapes Go.ChangeAt Go.RowKit
set_option linter.unusedSimpArgs false

/-- Behind the calls what the caller made has turned. -/
theorem pair_end {w w1 w2 w3 : World} {d x : Nat} {s1 s2 : Dv} {U Z : Nat → Prop} (hb : Below w.heap.size w w1) (hU : ∀ k, U k → k < w.heap.size) (N : PairTo U w1 w2 d x s1 s2) (hm : Mods Z w2 w3) (hz : ∀ k, Z k → w.heap.size ≤ k ∧ k < w1.heap.size) : PairTo U w w3 d x s1 s2 := by
  obtain ⟨⟨F, G, h1, h2, h3, h4, h5, h6⟩, hn⟩ := N
  have hout : ∀ k, Grown U w1 w2 k → ¬ Z k := fun k hk hzk => by
    have hh := hz k hzk
    rcases hk with hk | hk
    · have := hU k hk; omega
    · omega
  have hup : ∀ k, Grown U w1 w2 k → Grown U w w3 k := fun k hk => by
    rcases hk with hk | hk
    · exact .inl hk
    · exact .inr ⟨Nat.le_trans hb.size hk.1, Nat.lt_of_lt_of_le hk.2 hm.size⟩
  have hn0 : Mods U w w2 := ⟨hn.os.trans hb.os, hn.tape.trans hb.tape, hn.output.trans hb.output, Nat.le_trans hb.size hn.size, fun k hk hnk => (hn.block k (Nat.lt_of_lt_of_le hk hb.size) hnk).trans (hb.block k hk)⟩
  refine ⟨⟨F, G, h1.mods hm (fun k hk => hout k (h4 k hk)), h2.mods hm (fun k hk => hout k (h5 k hk)), h3, fun k hk => hup k (h4 k hk), fun k hk => hup k (h5 k hk), fun k hk => ?_⟩, hn0.trans hm (fun k hk => .inr (hz k hk).1)⟩
  rcases hk with hk | hk
  · exact Nat.lt_of_lt_of_le (hU k hk) (Nat.le_trans hb.size (Nat.le_trans hn.size hm.size))
  · exact hk.2
section
variable {w : World} {d x : Nat} {s : Dv} {U : Nat → Prop} {kd a b : Int} {da fa : Option Addr} {dl dc fl fc : Nat}
set_option maxRecDepth 100000 in
set_option maxHeartbeats 8000000 in
theorem do_0b (H : Pair2 w d x s s U) (hr : s.rdy a ≠ 0) (hk : kd % 11 = 0) (hkb : -9223372036854775808 ≤ kd ∧ kd ≤ 9223372036854775807) (ha : -9223372036854775808 ≤ a ∧ a ≤ 9223372036854775807) (hb : -9223372036854775808 ≤ b ∧ b ≤ 9223372036854775807) (ys : List Nat) (hx : BytesIn w da dl dc ys) (hxf : Far w U da dl) (fs : List Int) (hf : NumsIn w fa fl fs) (hff : Far w U fa fl) (hfl : fl ≤ 1000) (hwl : s.wa.length ≤ 1000) (hrl : s.wr.length ≤ 1000) :
    Calls Try.prog 26 #[.agg #[.pointer (some ⟨d, 0, none⟩), .pointer (some ⟨x, 0, none⟩)], .agg #[.int .i64 kd, .int .i64 a, .int .i64 b, .slice da dl dc, .slice fa fl fc]] w fun e w' => e = .returned (.bool true) ∧ ∃ s', Step s s' ∧ PairTo U w w' d x s' s' := by
  have hal1 := nu_alloc (nu_refl w) (.cells #[.pointer (some ⟨d, 0, none⟩), .pointer (some ⟨x, 0, none⟩)] 45)
  have hal2 := nu_alloc (nu_refl (w.alloc (.cells #[.pointer (some ⟨d, 0, none⟩), .pointer (some ⟨x, 0, none⟩)] 45))) (.cells #[.int .i64 kd, .int .i64 a, .int .i64 b, .slice da dl dc, .slice fa fl fc] 49)
  have hpm := Blk.made w 45 #[.pointer (some ⟨d, 0, none⟩), .pointer (some ⟨x, 0, none⟩)]
  have HP := Lib.hid (hpm.below hal2 hpm.lt)
  have HAb := Lib.hid (Blk.made (w.alloc (.cells #[.pointer (some ⟨d, 0, none⟩), .pointer (some ⟨x, 0, none⟩)] 45)) 49 #[.int .i64 kd, .int .i64 a, .int .i64 b, .slice da dl dc, .slice fa fl fc])
  have Hb2 := Lib.hid (nu_trans hal1 hal2)
  have HH := Lib.hid (H.below Hb2.out)
  have Hlt := Lib.hid H.lt
  have Hok := Lib.hid H.okD
  have HPn := Lib.hid (show ¬ U w.heap.size from fun h => Nat.lt_irrefl _ (H.lt _ h))
  have HAn := Lib.hid (show ¬ U (w.alloc (.cells #[.pointer (some ⟨d, 0, none⟩), .pointer (some ⟨x, 0, none⟩)] 45)).heap.size from fun h => by have h1 := H.lt _ h; have h2 := hal1.size; omega)
  have HX := Lib.hid (hx.keep Hb2.out)
  have HXF := Lib.hid (hxf.below Hb2.out)
  have HF := Lib.hid (hf.below Hb2.out)
  have HFF := Lib.hid (hff.below Hb2.out)
  have HPk := Lib.hid (show ∀ u : World, Calls Try.prog 18 #[.int .i64 kd, .int .i64 11] u fun e w' => e = .returned (.int .i64 (0 : Int)) ∧ u = w' from fun u => pick_any kd 11 0 u (by rw [hk]; rfl) (by omega) (by omega) hkb.1 hkb.2)
  have Hwl := Lib.hid (show s.wa.length ≤ 1000000000 by omega)
  have Hrl := Lib.hid (show s.wr.length ≤ 1000000000 by omega)
  have Ha := Lib.hid ha
  have Hb := Lib.hid hb
  have Hfl := Lib.hid (show fl ≤ 9223372036854775807 by omega)
  clear H hk hkb ha hb hx hxf hf hff hfl hwl hrl hal1 hal2 hpm
  obtain ⟨E, hE⟩ : ∃ E : Int, E = s.rdy a := ⟨_, rfl⟩
  have HR1 := Lib.hid (show Calls Try.prog 15 #[.pointer (some ⟨d, 0, none⟩), .int .i64 a] _ fun e w' => e = .returned (.tuple #[.slice none 0 0, .int .i64 E]) ∧ _ = w' from by
    obtain ⟨F, G0, hD, _⟩ := HH.out
    rw [hE]
    exact readD_bad hD a hr)
  have HR2 := Lib.hid (show Calls Try.prog 41 #[.pointer (some ⟨x, 0, none⟩), .int .i64 a] _ fun e w' => e = .returned (.tuple #[.slice none 0 0, .int .i64 E]) ∧ _ = w' from by
    obtain ⟨F, G0, _, hX, _⟩ := HH.out
    rw [hE]
    exact xRead_bad hX a hr)
  clear hE hr
  go_enter Try.func26, Try.ntmps26
  go_upto_region 1 with fail
  change Code.wp _ _ _ _ ((w.alloc (.cells #[.pointer (some ⟨d, 0, none⟩), .pointer (some ⟨x, 0, none⟩)] 45)).alloc (.cells #[.int .i64 kd, .int .i64 a, .int .i64 b, .slice da dl dc, .slice fa fl fc] 49))
  generalize (w.alloc (.cells #[.pointer (some ⟨d, 0, none⟩), .pointer (some ⟨x, 0, none⟩)] 45)).alloc (.cells #[.int .i64 kd, .int .i64 a, .int .i64 b, .slice da dl dc, .slice fa fl fc] 49) = w2 at *
  obtain ⟨A, hA⟩ : ∃ A, A = (w.alloc (.cells #[.pointer (some ⟨d, 0, none⟩), .pointer (some ⟨x, 0, none⟩)] 45)).heap.size := ⟨_, rfl⟩
  have hA1 : (w.alloc (.cells #[.pointer (some ⟨d, 0, none⟩), .pointer (some ⟨x, 0, none⟩)] 45)).heap.size = w.heap.size + 1 := by simp
  rw [← hA] at HAb HAn
  rw [hA1] at hA
  clear hA1
  obtain ⟨P, hP⟩ : ∃ P, P = w.heap.size := ⟨_, rfl⟩
  rw [← hP] at HP HPn hA
  rw [← hP]
  try rw [← hA]
  clear hP hA
  have cA0 : w2.cell? ⟨A, 0, none⟩ = some (.int .i64 kd) := HAb.out.at 0 _ rfl
  have cP0 : w2.cell? ⟨P, 0, none⟩ = some (.pointer (some ⟨d, 0, none⟩)) := HP.out.at 0 _ rfl
  have cP1 : w2.cell? ⟨P, 1, none⟩ = some (.pointer (some ⟨x, 0, none⟩)) := HP.out.at 1 _ rfl
  have cA1 : w2.cell? ⟨A, 1, none⟩ = some (.int .i64 a) := HAb.out.at 1 _ rfl
  go_wp2_with fail
  refine (HPk.out w2).mono ?_
  rintro e w3 ⟨rfl, rfl⟩
  go_wp2_with fail
  refine HR1.out.mono ?_
  rintro e w3 ⟨rfl, rfl⟩
  go_wp2_with fail
  refine HR2.out.mono ?_
  rintro e w3 ⟨rfl, rfl⟩
  go_wp2_with fail
  refine (same_is (la := 0) (lb := 0) (xs := []) (ys := []) true rfl ⟨rfl, (fun n h => by cases h), fun h => absurd h (by omega)⟩ ⟨rfl, (fun n h => by cases h), fun h => absurd h (by omega)⟩ (by omega) (by omega)).mono ?_
  rintro e w3 ⟨rfl, n, rfl⟩
  clear cA0 cP0 cP1 cA1 HR1 HR2
  have HN := Lib.hid (PairTo.of_below HH.out (nu_drewN (nu_refl w2) n))
  generalize w2.drewN n = w4 at *
  go_wp2_with fail
  go_loopw [10] (fun j wx => j = .int .i64 0 ∧ wx = w4) (fun _ _ => 0)
  case atStart => exact ⟨rfl, rfl⟩
  case round =>
    obtain ⟨rfl, rfl⟩ := hrel
    go_wp2_with fail
    go_ret
    exact ⟨rfl, s, Step.refl s, PairTo.ahead Hb2.out Hlt.out HN.out⟩
set_option maxRecDepth 100000 in
set_option maxHeartbeats 8000000 in
theorem do_0g (H : Pair2 w d x s s U) (hr : s.rdy a = 0) (hk : kd % 11 = 0) (hkb : -9223372036854775808 ≤ kd ∧ kd ≤ 9223372036854775807) (ha : -9223372036854775808 ≤ a ∧ a ≤ 9223372036854775807) (hb : -9223372036854775808 ≤ b ∧ b ≤ 9223372036854775807) (ys : List Nat) (hx : BytesIn w da dl dc ys) (hxf : Far w U da dl) (fs : List Int) (hf : NumsIn w fa fl fs) (hff : Far w U fa fl) (hfl : fl ≤ 1000) (hwl : s.wa.length ≤ 1000) (hrl : s.wr.length ≤ 1000) :
    Calls Try.prog 26 #[.agg #[.pointer (some ⟨d, 0, none⟩), .pointer (some ⟨x, 0, none⟩)], .agg #[.int .i64 kd, .int .i64 a, .int .i64 b, .slice da dl dc, .slice fa fl fc]] w fun e w' => e = .returned (.bool true) ∧ ∃ s', Step s s' ∧ PairTo U w w' d x s' s' := by
  have hal1 := nu_alloc (nu_refl w) (.cells #[.pointer (some ⟨d, 0, none⟩), .pointer (some ⟨x, 0, none⟩)] 45)
  have hal2 := nu_alloc (nu_refl (w.alloc (.cells #[.pointer (some ⟨d, 0, none⟩), .pointer (some ⟨x, 0, none⟩)] 45))) (.cells #[.int .i64 kd, .int .i64 a, .int .i64 b, .slice da dl dc, .slice fa fl fc] 49)
  have hpm := Blk.made w 45 #[.pointer (some ⟨d, 0, none⟩), .pointer (some ⟨x, 0, none⟩)]
  have HP := Lib.hid (hpm.below hal2 hpm.lt)
  have HAb := Lib.hid (Blk.made (w.alloc (.cells #[.pointer (some ⟨d, 0, none⟩), .pointer (some ⟨x, 0, none⟩)] 45)) 49 #[.int .i64 kd, .int .i64 a, .int .i64 b, .slice da dl dc, .slice fa fl fc])
  have Hb2 := Lib.hid (nu_trans hal1 hal2)
  have HH := Lib.hid (H.below Hb2.out)
  have Hlt := Lib.hid H.lt
  have Hok := Lib.hid H.okD
  have HPn := Lib.hid (show ¬ U w.heap.size from fun h => Nat.lt_irrefl _ (H.lt _ h))
  have HAn := Lib.hid (show ¬ U (w.alloc (.cells #[.pointer (some ⟨d, 0, none⟩), .pointer (some ⟨x, 0, none⟩)] 45)).heap.size from fun h => by have h1 := H.lt _ h; have h2 := hal1.size; omega)
  have HX := Lib.hid (hx.keep Hb2.out)
  have HXF := Lib.hid (hxf.below Hb2.out)
  have HF := Lib.hid (hf.below Hb2.out)
  have HFF := Lib.hid (hff.below Hb2.out)
  have HPk := Lib.hid (show ∀ u : World, Calls Try.prog 18 #[.int .i64 kd, .int .i64 11] u fun e w' => e = .returned (.int .i64 (0 : Int)) ∧ u = w' from fun u => pick_any kd 11 0 u (by rw [hk]; rfl) (by omega) (by omega) hkb.1 hkb.2)
  have Hwl := Lib.hid (show s.wa.length ≤ 1000000000 by omega)
  have Hrl := Lib.hid (show s.wr.length ≤ 1000000000 by omega)
  have Ha := Lib.hid ha
  have Hb := Lib.hid hb
  have Hfl := Lib.hid (show fl ≤ 9223372036854775807 by omega)
  clear H hk hkb ha hb hx hxf hf hff hfl hwl hrl hal1 hal2 hpm
  obtain ⟨ho, i, rfl, hi⟩ := rdy_zero hr
  obtain ⟨D, hD⟩ : ∃ D, D = s.now i := ⟨_, rfl⟩
  have HDb := Lib.hid (show Bl D by rw [hD]; exact Hok.out.now hi)
  have HR1 := Lib.hid (show Calls Try.prog 15 #[.pointer (some ⟨d, 0, none⟩), .int .i64 (i : Int)] _ fun e w' => ∃ G, e = .returned (.tuple #[.slice (some ⟨G, 0, none⟩) 256 256, .int .i64 0]) ∧ _ ≤ G ∧ Blk w' G 73 (D.map vb).toArray ∧ Below _ _ w' from by
    obtain ⟨F, G0, h1, _⟩ := HH.out
    rw [hD]
    exact readD_good h1 i hi ho Hwl.out)
  have HR2 := Lib.hid (show ∀ u, Below _ _ u → Calls Try.prog 41 #[.pointer (some ⟨x, 0, none⟩), .int .i64 (i : Int)] u fun e w' => ∃ C cc, e = .returned (.tuple #[.slice (some ⟨C, 0, none⟩) 256 cc, .int .i64 0]) ∧ OwnB w' u.heap.size 5 (.slice (some ⟨C, 0, none⟩) 256 cc) D ∧ Below u.heap.size u w' from fun u hu => by
    obtain ⟨F, G0, _, h1, _⟩ := HH.out
    rw [hD]
    exact xRead_good (h1.below hu) i hi ho Hwl.out)
  clear hD hr ho hi
  go_enter Try.func26, Try.ntmps26
  go_upto_region 1 with fail
  change Code.wp _ _ _ _ ((w.alloc (.cells #[.pointer (some ⟨d, 0, none⟩), .pointer (some ⟨x, 0, none⟩)] 45)).alloc (.cells #[.int .i64 kd, .int .i64 (i : Int), .int .i64 b, .slice da dl dc, .slice fa fl fc] 49))
  generalize (w.alloc (.cells #[.pointer (some ⟨d, 0, none⟩), .pointer (some ⟨x, 0, none⟩)] 45)).alloc (.cells #[.int .i64 kd, .int .i64 (i : Int), .int .i64 b, .slice da dl dc, .slice fa fl fc] 49) = w2 at *
  obtain ⟨A, hA⟩ : ∃ A, A = (w.alloc (.cells #[.pointer (some ⟨d, 0, none⟩), .pointer (some ⟨x, 0, none⟩)] 45)).heap.size := ⟨_, rfl⟩
  have hA1 : (w.alloc (.cells #[.pointer (some ⟨d, 0, none⟩), .pointer (some ⟨x, 0, none⟩)] 45)).heap.size = w.heap.size + 1 := by simp
  rw [← hA] at HAb HAn
  rw [hA1] at hA
  clear hA1
  obtain ⟨P, hP⟩ : ∃ P, P = w.heap.size := ⟨_, rfl⟩
  rw [← hP] at HP HPn hA
  rw [← hP]
  try rw [← hA]
  clear hP hA
  have cA0 : w2.cell? ⟨A, 0, none⟩ = some (.int .i64 kd) := HAb.out.at 0 _ rfl
  have cP0 : w2.cell? ⟨P, 0, none⟩ = some (.pointer (some ⟨d, 0, none⟩)) := HP.out.at 0 _ rfl
  have cA1 : w2.cell? ⟨A, 1, none⟩ = some (.int .i64 (i : Int)) := HAb.out.at 1 _ rfl
  go_wp2_with fail
  refine (HPk.out w2).mono ?_
  rintro e w3 ⟨rfl, rfl⟩
  go_wp2_with fail
  refine HR1.out.mono ?_
  rintro e w3 ⟨G, rfl, hG, hB, hb⟩
  have HG := Lib.hid hG
  have HB := Lib.hid hB
  have Hb3 := Lib.hid hb
  clear hG hB hb cA0 cP0 cA1 HR1
  have cP1 : w3.cell? ⟨P, 1, none⟩ = some (.pointer (some ⟨x, 0, none⟩)) := (HP.out.below Hb3.out HP.out.lt).at 1 _ rfl
  have cA1 : w3.cell? ⟨A, 1, none⟩ = some (.int .i64 (i : Int)) := (HAb.out.below Hb3.out HAb.out.lt).at 1 _ rfl
  go_wp2_with fail
  refine (HR2.out w3 Hb3.out).mono ?_
  rintro e w4 ⟨C, cc, rfl, hO, hb⟩
  have HB4 := Lib.hid (HB.out.below hb HB.out.lt)
  have HO4 := Lib.hid hO
  have Hb4 := Lib.hid (nu_trans Hb3.out hb)
  clear hO hb HB Hb3 cP1 cA1 HR2
  go_wp2_with fail
  refine (same_is (xs := D) (ys := D) true (decide_eq_true rfl) (bytes_256 HB4.out HDb.out).1 (ownB_bytes HO4.out HDb.out.1).1 (by omega) (by omega)).mono ?_
  rintro e w5 ⟨rfl, n, rfl⟩
  have hdn := nu_drewN (nu_refl w4) n
  have HB5 := Lib.hid (HB4.out.below hdn HB4.out.lt)
  have Hb5 := Lib.hid (nu_trans Hb4.out hdn)
  clear hdn HB4 HO4 Hb4
  generalize w4.drewN n = w5 at *
  go_wp2_with fail
  go_loopw [10] (fun j wx => ∃ (k : Nat) (ys2 : List Nat), k ≤ 256 ∧ j = .int .i64 k ∧ Bl ys2 ∧ Blk wx G 73 (ys2.map vb).toArray ∧ Below w2.heap.size w2 wx) (fun j _ => 256 - (intOf j).toNat)
  case atStart => exact ⟨0, D, by omega, rfl, HDb.out, HB5.out, Hb5.out⟩
  case round =>
    clear HB5 Hb5
    obtain ⟨k, ys2, hk, rfl, hys, hB, hb⟩ := hrel
    by_cases hlt : k < 256
    · have hji : (k : Int) < 256 := by omega
      obtain ⟨y, hy, hy8⟩ := hys.at hlt
      obtain ⟨z, hz⟩ : ∃ z, z = (y + 1) % 256 := ⟨_, rfl⟩
      have ez : IntKind.u8.wrap ((y : Int) + 1) = (z : Int) := by rw [IntKind.wrap_u8]; omega
      have hz8 : z < 256 := by omega
      have c0 : wr.cell? ⟨G, k, none⟩ = some (.int .u8 (y : Int)) := hB.at k _ (arrg_at vb _ k y hy)
      have hset := hB.put k (vb z)
      rw [arrg_set vb ys2 k z] at hset
      have HB1 := Lib.hid hset
      have HY1 := Lib.hid (show Bl (ys2.set k z) from ⟨by rw [List.length_set]; exact hys.1, fun u hu => by
        rcases List.mem_or_eq_of_mem_set hu with hu | hu
        · exact hys.2 u hu
        · rw [hu]; exact hz8⟩)
      have Hb1 := Lib.hid (nu_set hb (p := ⟨G, k, none⟩) HG.out (vb z))
      have f0 : wr.frozen? ⟨G, k, none⟩ = false := hB.free k
      simp only [vb] at HB1 Hb1
      clear hys hB hb hy hy8 hz hz8 hset
      go_wp2_with fail
      clear c0 f0
      generalize wr.setCell ⟨G, k, none⟩ (.int .u8 (z : Int)) = w7 at *
      go_roundw
      case rel => first | exact ⟨k + 1, _, by omega, by go_num, HY1.out, HB1.out, Hb1.out⟩ | ((repeat apply Exists.intro); exact ⟨⟨k + 1, _, by omega, by go_num, HY1.out, HB1.out, Hb1.out⟩, rfl⟩)
      case measure => simp [intOf]; omega
    · obtain rfl : k = 256 := by omega
      have HN := Lib.hid (PairTo.of_below HH.out hb)
      clear hB hb hys
      go_wp2_with fail
      go_ret
      exact ⟨rfl, s, Step.refl s, PairTo.ahead Hb2.out Hlt.out HN.out⟩
set_option maxRecDepth 100000 in
set_option maxHeartbeats 8000000 in
theorem do_1 (H : Pair2 w d x s s U) (hk : kd % 11 = 1) (hkb : -9223372036854775808 ≤ kd ∧ kd ≤ 9223372036854775807) (ha : -9223372036854775808 ≤ a ∧ a ≤ 9223372036854775807) (hb : -9223372036854775808 ≤ b ∧ b ≤ 9223372036854775807) (ys : List Nat) (hx : BytesIn w da dl dc ys) (hxf : Far w U da dl) (fs : List Int) (hf : NumsIn w fa fl fs) (hff : Far w U fa fl) (hfl : fl ≤ 1000) (hdl : dl ≤ 1000) (hwl : s.wa.length ≤ 1000) (hrl : s.wr.length ≤ 1000) :
    Calls Try.prog 26 #[.agg #[.pointer (some ⟨d, 0, none⟩), .pointer (some ⟨x, 0, none⟩)], .agg #[.int .i64 kd, .int .i64 a, .int .i64 b, .slice da dl dc, .slice fa fl fc]] w fun e w' => e = .returned (.bool true) ∧ ∃ s', Step s s' ∧ PairTo U w w' d x s' s' := by
  have hal1 := nu_alloc (nu_refl w) (.cells #[.pointer (some ⟨d, 0, none⟩), .pointer (some ⟨x, 0, none⟩)] 45)
  have hal2 := nu_alloc (nu_refl (w.alloc (.cells #[.pointer (some ⟨d, 0, none⟩), .pointer (some ⟨x, 0, none⟩)] 45))) (.cells #[.int .i64 kd, .int .i64 a, .int .i64 b, .slice da dl dc, .slice fa fl fc] 49)
  have hpm := Blk.made w 45 #[.pointer (some ⟨d, 0, none⟩), .pointer (some ⟨x, 0, none⟩)]
  have HP := Lib.hid (hpm.below hal2 hpm.lt)
  have HAb := Lib.hid (Blk.made (w.alloc (.cells #[.pointer (some ⟨d, 0, none⟩), .pointer (some ⟨x, 0, none⟩)] 45)) 49 #[.int .i64 kd, .int .i64 a, .int .i64 b, .slice da dl dc, .slice fa fl fc])
  have Hb2 := Lib.hid (nu_trans hal1 hal2)
  have HH := Lib.hid (H.below Hb2.out)
  have Hlt := Lib.hid H.lt
  have Hok := Lib.hid H.okD
  have HPn := Lib.hid (show ¬ U w.heap.size from fun h => Nat.lt_irrefl _ (H.lt _ h))
  have HAn := Lib.hid (show ¬ U (w.alloc (.cells #[.pointer (some ⟨d, 0, none⟩), .pointer (some ⟨x, 0, none⟩)] 45)).heap.size from fun h => by have h1 := H.lt _ h; have h2 := hal1.size; omega)
  have HX := Lib.hid (hx.keep Hb2.out)
  have HXF := Lib.hid (hxf.below Hb2.out)
  have HF := Lib.hid (hf.below Hb2.out)
  have HFF := Lib.hid (hff.below Hb2.out)
  have HPk := Lib.hid (show ∀ u : World, Calls Try.prog 18 #[.int .i64 kd, .int .i64 11] u fun e w' => e = .returned (.int .i64 (1 : Int)) ∧ u = w' from fun u => pick_any kd 11 1 u (by rw [hk]; rfl) (by omega) (by omega) hkb.1 hkb.2)
  have Hwl := Lib.hid (show s.wa.length ≤ 1000000000 by omega)
  have Hrl := Lib.hid (show s.wr.length ≤ 1000000000 by omega)
  have Ha := Lib.hid ha
  have Hb := Lib.hid hb
  have Hfl := Lib.hid (show fl ≤ 9223372036854775807 by omega)
  have Hdl := Lib.hid hdl
  clear hdl H hk hkb ha hb hx hxf hf hff hfl hwl hrl hal1 hal2 hpm
  go_enter Try.func26, Try.ntmps26
  go_upto_region 1 with fail
  change Code.wp _ _ _ _ ((w.alloc (.cells #[.pointer (some ⟨d, 0, none⟩), .pointer (some ⟨x, 0, none⟩)] 45)).alloc (.cells #[.int .i64 kd, .int .i64 a, .int .i64 b, .slice da dl dc, .slice fa fl fc] 49))
  generalize (w.alloc (.cells #[.pointer (some ⟨d, 0, none⟩), .pointer (some ⟨x, 0, none⟩)] 45)).alloc (.cells #[.int .i64 kd, .int .i64 a, .int .i64 b, .slice da dl dc, .slice fa fl fc] 49) = w2 at *
  obtain ⟨A, hA⟩ : ∃ A, A = (w.alloc (.cells #[.pointer (some ⟨d, 0, none⟩), .pointer (some ⟨x, 0, none⟩)] 45)).heap.size := ⟨_, rfl⟩
  have hA1 : (w.alloc (.cells #[.pointer (some ⟨d, 0, none⟩), .pointer (some ⟨x, 0, none⟩)] 45)).heap.size = w.heap.size + 1 := by simp
  rw [← hA] at HAb HAn
  rw [hA1] at hA
  clear hA1
  obtain ⟨P, hP⟩ : ∃ P, P = w.heap.size := ⟨_, rfl⟩
  rw [← hP] at HP HPn hA
  rw [← hP]
  try rw [← hA]
  clear hP hA
  have cA0 : w2.cell? ⟨A, 0, none⟩ = some (.int .i64 kd) := HAb.out.at 0 _ rfl
  have cA3 : w2.cell? ⟨A, 3, none⟩ = some (.slice da dl dc) := HAb.out.at 3 _ rfl
  go_wp2_with fail
  refine (HPk.out w2).mono ?_
  rintro e w3 ⟨rfl, rfl⟩
  go_wp2_with fail
  refine (full_any da dl dc ys w2 HX.out (by have := Hdl.out; omega)).mono ?_
  rintro e w3 ⟨G, rfl, hG, hB, hb⟩
  have HG := Lib.hid hG
  have HB := Lib.hid hB
  have Hb3 := Lib.hid hb
  clear hG hB hb cA0 cA3
  have cA2 : w3.cell? ⟨A, 2, none⟩ = some (.int .i64 b) := (HAb.out.below Hb3.out HAb.out.lt).at 2 _ rfl
  have cA3 : w3.cell? ⟨A, 3, none⟩ = some (.slice da dl dc) := (HAb.out.below Hb3.out HAb.out.lt).at 3 _ rfl
  go_upto_region 14 with fail
  go_upto_if 82 with fail
  obtain ⟨w4, rfl⟩ : ∃ q : World, q = w3 := ⟨_, rfl⟩
  go_cut [11] (fun s11 wx => ∃ (ab : Option Addr) (lb cb : Nat) (bs : List Nat), s11 = .slice ab lb cb ∧ BytesIn wx ab lb cb bs ∧ (∀ ad, ab = some ad → w2.heap.size ≤ ad.block ∧ ad.block < wx.heap.size) ∧ lb ≤ 1000 ∧ Below w2.heap.size w2 wx)
  case first =>
    have HBl := Lib.hid (show Bl (fullL ys) from fullL_bl (fun y hy => wf_u8_lt (HX.out.1.2.1 y hy)))
    by_cases hb7 : b = 7
    · subst hb7
      have HX4 := Lib.hid (HX.out.keep Hb3.out)
      go_wp2_with fail
      refine (copy_any da dl dc ys w4 HX4.out (by have := Hdl.out; omega)).mono ?_
      rintro e w5 ⟨v, rfl, hO, hb⟩
      obtain ⟨av, cv, rfl, _, _, hBy, hbk⟩ := hO.lies
      have hyl : ys.length = dl := HX.out.1.1
      rw [hyl] at hBy
      rw [hyl]
      have HR := Lib.hid (show BytesIn w5 av dl cv ys ∧ (∀ ad, av = some ad → w2.heap.size ≤ ad.block ∧ ad.block < w5.heap.size) ∧ dl ≤ 1000 ∧ Below w2.heap.size w2 w5 from ⟨hBy, fun ad had => ⟨Nat.le_trans Hb3.out.size (hbk ad had).1, (hbk ad had).2⟩, Hdl.out, nu_trans Hb3.out hb⟩)
      clear hO hb hBy hbk hyl cA2 cA3
      go_wp2_with fail
      go_meet
      exact ⟨_, _, _, _, rfl, HR.out⟩
    · have hb7 : (b == 7) = false := by rw [beq_eq_false_iff_ne]; exact hb7
      have HR := Lib.hid (show BytesIn w4 (some ⟨G, 0, none⟩) 256 256 (fullL ys) ∧ (∀ ad, (some ⟨G, 0, none⟩ : Option Addr) = some ad → w2.heap.size ≤ ad.block ∧ ad.block < w4.heap.size) ∧ 256 ≤ 1000 ∧ Below w2.heap.size w2 w4 from ⟨bytes_256 HB.out HBl.out, fun ad had => by
        injection had with had
        rw [← had]
        exact ⟨HG.out, HB.out.lt⟩, by omega, Hb3.out⟩)
      go_wp2_with fail
      go_meet
      exact ⟨_, _, _, _, rfl, HR.out⟩
  case rest =>
    obtain ⟨ab, lb, cb, bs, rfl, hBy, hbk, hl, hb⟩ := hcut
    clear HG HB Hb3 cA2 cA3
    have HBy := Lib.hid hBy
    have Hbk := Lib.hid hbk
    have Hl := Lib.hid hl
    have Hbc := Lib.hid hb
    have Hbl := Lib.hid (show bs.length = lb from hBy.1.1)
    have hl1 : lb ≤ 140737488355320 := by omega
    clear hBy hbk hl hb
    go_wp2_with fail
    refine (copy_any ab lb cb bs wc HBy.out hl1).mono ?_
    rintro e w5 ⟨v, rfl, hO, hb5⟩
    obtain ⟨ai, ci, rfl, _, _, hBi, hbi⟩ := hO.lies
    rw [Hbl.out] at hO hBi
    rw [Hbl.out]
    have HOi := Lib.hid (own_mono hO (Nat.zero_le _))
    have HBi := Lib.hid hBi
    have Hbi := Lib.hid (show ∀ ad, ai = some ad → w2.heap.size ≤ ad.block ∧ ad.block < w5.heap.size from fun ad had => ⟨Nat.le_trans Hbc.out.size (hbi ad had).1, (hbi ad had).2⟩)
    have HBb := Lib.hid (HBy.out.keep hb5)
    have Hbb := Lib.hid (show ∀ ad, ab = some ad → w2.heap.size ≤ ad.block ∧ ad.block < w5.heap.size from fun ad had => ⟨(Hbk.out ad had).1, Nat.lt_of_lt_of_le (Hbk.out ad had).2 hb5.size⟩)
    have Hb5 := Lib.hid (nu_trans Hbc.out hb5)
    have HH5 := Lib.hid (HH.out.below Hb5.out)
    have Hlt2 := Lib.hid (show ∀ k, U k → k < w2.heap.size from fun k hk => HH.out.lt k hk)
    clear hO hBi hbi hb5 HBy Hbk Hbc
    obtain ⟨E, hE⟩ : ∃ E : Int, E = s.writeC a lb := ⟨_, rfl⟩
    have HE := Lib.hid hE
    clear hE
    have HP5 := Lib.hid (HP.out.below Hb5.out HP.out.lt)
    have HA5 := Lib.hid (HAb.out.below Hb5.out HAb.out.lt)
    have cP0 : w5.cell? ⟨P, 0, none⟩ = some (.pointer (some ⟨d, 0, none⟩)) := HP5.out.at 0 _ rfl
    have cA1 : w5.cell? ⟨A, 1, none⟩ = some (.int .i64 a) := HA5.out.at 1 _ rfl
    go_wp2_with fail
    refine (HH5.out.dev (P := fun e _ => e = .returned (.int .i64 E)) (fun V hV hU => HE.out ▸ writeD_all hV a ai lb ci bs HBi.out (fun hp ad had hf => by
      have h1 := Hlt2.out _ (hU _ hf)
      have h2 := (Hbi.out ad had).1
      omega) Hwl.out Hrl.out)).mono ?_
    rintro e w6 ⟨rfl, hn⟩
    have HN6 := Lib.hid hn
    have HBi6 := Lib.hid (HBi.out.mods0 hn.2 (fun hp ad had hf => by
      have h1 := Hlt2.out _ hf
      have h2 := (Hbi.out ad had).1
      omega))
    have HBb6 := Lib.hid (HBb.out.mods0 hn.2 (fun hp ad had hf => by
      have h1 := Hlt2.out _ hf
      have h2 := (Hbb.out ad had).1
      omega))
    clear hn cP0 cA1
    go_wp2_with fail
    refine (same_is (xs := bs) (ys := bs) true (decide_eq_true rfl) HBi6.out.1 HBb6.out.1 (by omega) (by omega)).mono ?_
    rintro e w7 ⟨rfl, n, rfl⟩
    have hdn := nu_drewN (nu_refl w6) n
    have HN7 := Lib.hid (HN6.out.then_below hdn)
    have HBb7 := Lib.hid (HBb6.out.keep hdn)
    clear hdn HBi6 HBb6 HN6
    generalize w6.drewN n = w7 at *
    have cP1 : w7.cell? ⟨P, 1, none⟩ = some (.pointer (some ⟨x, 0, none⟩)) := (blk_mods HP5.out HN7.out.2 HPn.out).at 1 _ rfl
    have cA1 : w7.cell? ⟨A, 1, none⟩ = some (.int .i64 a) := (blk_mods HA5.out HN7.out.2 HAn.out).at 1 _ rfl
    go_wp2_with fail
    refine (HN7.out.ref (P := fun e _ => e = .returned (.int .i64 E)) (fun V hV hU => HE.out ▸ writeX_all hV a ab lb cb bs HBb7.out (fun hp ad had hf => by
      have h2 := Hbb.out ad had
      rcases hU _ hf with h1 | h1
      · have h1 := Hlt2.out _ h1
        omega
      · omega) Hwl.out Hrl.out)).mono ?_
    rintro e w8 ⟨rfl, hn⟩
    have HN8 := Lib.hid hn
    have HO8 := Lib.hid (ownB_eq HOi.out (fun k hk => hn.2.block k (HOi.out.1.lt k hk).2 (fun hu => by
      have h1 := Hlt2.out _ hu
      obtain ⟨ad, rfl⟩ : ∃ ad, ai = some ad := by
        cases ai with
        | none => cases hk
        | some ad => exact ⟨ad, rfl⟩
      injection hk with hk
      have h2 := (Hbi.out ad rfl).1
      omega)))
    clear hn cP1 cA1 HN7 HBb7
    go_wp2_with fail
    go_loopw [15] (fun j wx => ∃ (k : Nat) (xs : List Nat), k ≤ lb ∧ j = .int .i64 k ∧ xs.length = lb ∧ OwnB wx 0 5 (.slice ai lb ci) xs ∧ Mods (fun q => (Value.slice ai lb ci).ownBlock = some q) w8 wx) (fun j _ => lb - (intOf j).toNat)
    case atStart => exact ⟨0, bs, by omega, rfl, Hbl.out, HO8.out, Mods.refl _ _⟩
    case round =>
      clear HO8
      obtain ⟨k, xs, hk, rfl, hxl, hO, hm⟩ := hrel
      by_cases hlt : k < lb
      · have hji : (k : Int) < (lb : Int) := by omega
        obtain ⟨Q, pc, he, _, _, _⟩ := ownB_slice hO (by omega)
        injection he with e1 e2 e3
        subst e1
        subst e3
        clear e2
        obtain ⟨y, hy⟩ : ∃ y, xs[k]? = some y := ⟨_, List.getElem?_eq_getElem (by omega)⟩
        have hy8 := hO.2 y (List.mem_of_getElem? hy)
        obtain ⟨z, hz⟩ : ∃ z, z = (y + 1) % 256 := ⟨_, rfl⟩
        have ez : IntKind.u8.wrap ((y : Int) + 1) = (z : Int) := by rw [IntKind.wrap_u8]; omega
        have hz8 : z < 256 := by omega
        have c0 : wr.cell? ⟨Q, k, none⟩ = some (.int .u8 (y : Int)) := hO.cellAt hxl k y hy
        have HO1 := Lib.hid (hO.stored hxl k z hz8)
        have HM1 := Lib.hid (hm.grown (gb_set (gb_refl wr (some Q)) (p := ⟨Q, k, none⟩) (.inl rfl) (vb z)) (fun q hq => .inl hq))
        have f0 : wr.frozen? ⟨Q, k, none⟩ = false := hO.frozenAt hxl k
        have Hxl := Lib.hid (show (xs.set k z).length = lb by rw [List.length_set]; exact hxl)
        simp only [vb] at HO1 HM1
        clear hxl hO hm hy hy8 hz hz8
        go_wp2_with fail
        clear c0 f0
        generalize wr.setCell ⟨Q, k, none⟩ (.int .u8 (z : Int)) = w10 at *
        go_roundw
        case rel => first | exact ⟨k + 1, _, by omega, by go_num, Hxl.out, HO1.out, HM1.out⟩ | ((repeat apply Exists.intro); exact ⟨⟨k + 1, _, by omega, by go_num, Hxl.out, HO1.out, HM1.out⟩, rfl⟩)
        case measure => simp [intOf]; omega
      · obtain rfl : k = lb := by omega
        have hji : ¬ (k : Int) < (k : Int) := by omega
        have HR := Lib.hid (pair_end Hb5.out Hlt2.out HN8.out hm (fun q hq => by
          obtain ⟨ad, rfl⟩ : ∃ ad, ai = some ad := by
            cases ai with
            | none => cases hq
            | some ad => exact ⟨ad, rfl⟩
          injection hq with hq
          rw [← hq]
          exact Hbi.out ad rfl))
        clear hxl hO hm
        go_wp2_with fail
        go_ret
        exact ⟨rfl, _, step_write s a k bs, PairTo.ahead Hb2.out Hlt.out HR.out⟩
end
end Go.Proofs.Ytjmghpoknlffiaa

namespace Go.Proofs.Ytjmghpoknlffiaa
open Go.ChangeShapes Go.WideShapes Go.ChangeAt Go.RowKit

theorem numsIn_of_row {w : World} {a : Option Addr} {len cap : Nat} {zs : List Int} (h : RowSaid .i64 w a len cap zs) : len ≤ cap ∧ ∃ fs, NumsIn w a len fs := by
  rcases h with ⟨rfl, rfl, rfl, rfl⟩ | ⟨x, rfl, hlc, hcm, hl, hc, hw⟩
  · exact ⟨Nat.le_refl _, [], NumsIn.nil w⟩
  · refine ⟨hlc, zs.take len, by rw [List.length_take]; omega, fun x hx => bounds_i64 (hw x (List.mem_of_mem_take hx)), fun hpos => ?_⟩
    obtain ⟨b, off, rfl, hb⟩ := ints_at hc (by omega)
    refine ⟨b, off, rfl, World.block_lt_of_cell? _ _ (hb 0 (by omega)), fun j v hv => ?_⟩
    have hjl : j < (zs.take len).length := (List.getElem?_eq_some_iff.1 hv).1
    have hjz : j < zs.length := by
      rw [List.length_take] at hjl
      omega
    have h1 := hb j hjz
    rw [List.getElem?_take] at hv
    split at hv
    · rw [List.getD_eq_getElem?_getD, hv] at h1
      exact h1
    · cases hv
end Go.Proofs.Ytjmghpoknlffiaa

namespace Go.Proofs.Ytjmghpoknlffiaa
open Go.ChangeShapes Go.WideShapes Go.ChangeAt Go.RowKit Go.Deep

/-- The slice (a, len) of structs whose fields are integers of the kinds ks. -/
def RecsIn (w : World) (a : Option Addr) (len : Nat) (ks : List IntKind) : Prop :=
  0 < len → ∃ b off, a = some ⟨b, off, none⟩ ∧ b < w.heap.size ∧ ∀ i, i < len → ∀ (j : Nat) (k : IntKind), ks[j]? = some k → ∃ n : Int, w.cell? ⟨b, off + (i * ks.length + j), none⟩ = some (.int k n) ∧ (Lit.int k n).wf = true
theorem RecsIn.keep {w w' : World} {a : Option Addr} {len : Nat} {ks : List IntKind} (h : RecsIn w a len ks) (hb : Below w.heap.size w w') : RecsIn w' a len ks := by
  intro hp
  obtain ⟨b, off, rfl, hlt, hc⟩ := h hp
  refine ⟨b, off, rfl, Nat.lt_of_lt_of_le hlt hb.size, fun i hi j k hk => ?_⟩
  obtain ⟨n, h1, h2⟩ := hc i hi j k hk
  exact ⟨n, (hb.cell (p := ⟨b, off + (i * ks.length + j), none⟩) hlt).trans h1, h2⟩

section
variable {H : Type} {enc : TypeId × Value → H} {P : Program} {w : World} {base : Nat} {spare : Nat → Bool} {held : Bool}
/-- Whatever one-cell fields a slice's structs have: each field's cell, and its reading. -/
theorem slice_recs {t e : TypeId} {fs : Array Field} {a : Option Addr} {len cap : Nat} {d : DataW H} {p : List MemPlace} (ht : P.underlying t = some (.slice e)) (he : P.underlying e = some (.struct fs))
    (hone : oneCellFields P fs = true) (hC : P.cellsOf e = fs.size) (hsz : 0 < fs.size) (h : DataW.Trod enc P w base spare held t (.slice a len cap) d p) :
    (a = none ∧ len = 0 ∧ cap = 0) ∨ (len ≤ cap ∧ cap ≤ maxLen ∧ (0 < len → ∃ b off, a = some ⟨b, off, none⟩ ∧ b < w.heap.size ∧
      ∀ i, i < len → ∀ (j : Nat) (f : Field), fs[j]? = some f → ∃ (v : Value) (y : DataW H × List MemPlace) (n : Nat), w.cell? ⟨b, off + (i * fs.size + j), none⟩ = some v ∧ DataW.trod enc P w base spare held n f.type [v] = some y)) := by
  obtain ⟨fuel, h⟩ := h
  rcases open_slice ht h with ⟨hcs, _⟩ | ⟨a', len', cap', m, n, D, Pl, hcs, _, hl, hm, hmm, _, hi⟩
  · left
    simp [Value.cells] at hcs
    exact hcs
  · right
    simp [Value.cells] at hcs
    obtain ⟨rfl, rfl, rfl⟩ := hcs
    have hlm : len ≤ m := by rw [hmm]; split <;> omega
    have each : ∀ i, i < len → ∀ (j : Nat) (f : Field), fs[j]? = some f → ∃ (v : Value) (y : DataW H × List MemPlace) (n : Nat), w.cell? (a'.add (i * fs.size + j)) = some v ∧ DataW.trod enc P w base spare held n f.type [v] = some y := by
      intro i hil j f hj
      obtain ⟨cs', hc, ht'⟩ := hi i (by omega)
      rw [hC] at hc
      obtain ⟨xs, n', _, _, hlen, hxl, hf⟩ := DataW.trod_struct he ht'
      obtain ⟨_, hcl, hat⟩ := World.cells?_some hc
      have hjl : j < fs.size := (Array.getElem?_eq_some_iff.1 hj).1
      obtain ⟨ho, hk⟩ := hone_of hone j f hj
      have h1 := hf j f hj
      have hd : (cs'.drop f.offset).take (P.cellsOf f.type) = [cs'[j]'(by omega)] := by
        rw [ho, hk, List.drop_eq_getElem_cons (by omega)]
        rfl
      rw [hd] at h1
      have hx : xs[j]? = some (xs[j]'(by omega)) := List.getElem?_eq_getElem (by omega)
      refine ⟨cs'[j]'(by omega), xs[j]'(by omega), _, ?_, h1.trans hx⟩
      have h2 := hat j hjl
      rw [add_add] at h2
      exact h2.trans (List.getElem?_eq_getElem (by omega))
    refine ⟨hl, hm, fun hp => ?_⟩
    have hf0 : fs[0]? = some (fs[0]'hsz) := Array.getElem?_eq_getElem hsz
    obtain ⟨v0, _, _, hv0, _⟩ := each 0 hp 0 _ hf0
    obtain ⟨b, off, spot⟩ := a'
    have hspot : spot = none := by simpa [Addr.add] using World.cell?_spot hv0
    subst hspot
    refine ⟨b, off, rfl, ?_, fun i hil j f hj => ?_⟩
    · rw [add_plain] at hv0
      exact World.block_lt_of_cell? _ _ hv0
    · have := each i hil j f hj
      rw [add_plain] at this
      exact this
theorem recs_open {t e : TypeId} {fs : Array Field} {a : Option Addr} {len cap : Nat} {d : DataW H} {p : List MemPlace} (ks : List IntKind) (ht : P.underlying t = some (.slice e)) (he : P.underlying e = some (.struct fs))
    (hone : oneCellFields P fs = true) (hC : P.cellsOf e = fs.size) (hsz : 0 < fs.size) (hks : fs.toList.map (fun f => P.underlying f.type) = ks.map (fun k => some (.int k)))
    (h : DataW.Trod enc P w base spare held t (.slice a len cap) d p) : len ≤ cap ∧ cap ≤ maxLen ∧ RecsIn w a len ks := by
  have hl : ks.length = fs.size := by
    have := congrArg List.length hks
    simpa using this.symm
  rcases slice_recs ht he hone hC hsz h with ⟨_, rfl, rfl⟩ | ⟨h1, h2, h3⟩
  · exact ⟨Nat.le_refl _, Nat.zero_le _, fun hp => absurd hp (by omega)⟩
  · refine ⟨h1, h2, fun hp => ?_⟩
    obtain ⟨b, off, rfl, hlt, hc⟩ := h3 hp
    refine ⟨b, off, rfl, hlt, fun i hi j k hk => ?_⟩
    have hjl : j < fs.size := by rw [← hl]; exact (List.getElem?_eq_some_iff.1 hk).1
    have hj : fs[j]? = some (fs[j]'hjl) := Array.getElem?_eq_getElem hjl
    obtain ⟨v, y, n, hcell, hy⟩ := hc i hi j _ hj
    have hu : P.underlying (fs[j]'hjl).type = some (.int k) := by
      have h4 := congrArg (·[j]?) hks
      simp only [List.getElem?_map, hk, Option.map_some] at h4
      rw [Array.getElem?_toList, hj] at h4
      simpa using h4
    obtain ⟨z, hz, _, hw⟩ := DataW.trod_int hu hy
    simp only [List.cons.injEq, and_true] at hz
    subst hz
    rw [hl]
    exact ⟨z, hcell, hw⟩
end
end Go.Proofs.Ytjmghpoknlffiaa

namespace Go.Proofs.Ytjmghpoknlffiaa
open Go.ChangeShapes Go.WideShapes Go.ChangeAt Go.RowKit Go.Deep
set_option linter.unusedSimpArgs false

section
variable {w : World} {d x : Nat} {s : Dv} {U : Nat → Prop} {kd a b : Int} {da fa : Option Addr} {dl dc fl fc : Nat}
theorem do_all (H : Pair2 w d x s s U) (hkb : -9223372036854775808 ≤ kd ∧ kd ≤ 9223372036854775807) (ha : -9223372036854775808 ≤ a ∧ a ≤ 9223372036854775807) (hb : -9223372036854775808 ≤ b ∧ b ≤ 9223372036854775807) (ys : List Nat) (hx : BytesIn w da dl dc ys) (hxf : Far w U da dl) (fs : List Int) (hf : NumsIn w fa fl fs) (hff : Far w U fa fl) (hdl : dl ≤ 1000) (hfl : fl ≤ 1000) (hwl : s.wa.length ≤ 1000) (hrl : s.wr.length ≤ 1000) :
    Calls Try.prog 26 #[.agg #[.pointer (some ⟨d, 0, none⟩), .pointer (some ⟨x, 0, none⟩)], .agg #[.int .i64 kd, .int .i64 a, .int .i64 b, .slice da dl dc, .slice fa fl fc]] w fun e w' => e = .returned (.bool true) ∧ ∃ s', Step s s' ∧ PairTo U w w' d x s' s' := by
  rcases (show kd % 11 = 0 ∨ kd % 11 = 1 ∨ kd % 11 = 2 ∨ kd % 11 = 3 ∨ kd % 11 = 4 ∨ kd % 11 = 5 ∨ kd % 11 = 6 ∨ kd % 11 = 7 ∨ kd % 11 = 8 ∨ kd % 11 = 9 ∨ kd % 11 = 10 by omega) with h | h | h | h | h | h | h | h | h | h | h
  · by_cases hr : s.rdy a = 0
    · exact do_0g H hr h hkb ha hb ys hx hxf fs hf hff hfl hwl hrl
    · exact do_0b H hr h hkb ha hb ys hx hxf fs hf hff hfl hwl hrl
  · exact do_1 H h hkb ha hb ys hx hxf fs hf hff hfl hdl hwl hrl
  · exact do_2 H h hkb ha hb ys hx hxf fs hf hff hfl hwl hrl
  · exact do_3 H h hkb ha hb ys hx hxf fs hf hff hfl hwl hrl
  · exact do_4 H h hkb ha hb ys hx hxf fs hf hff hfl hwl hrl
  · exact do_5 H h hkb ha hb ys hx hxf fs hf hff hfl hwl hrl
  · exact do_6 H h hkb ha hb ys hx hxf fs hf hff hfl hwl hrl
  · exact do_7 H h hkb ha hb ys hx hxf fs hf hff hfl hwl hrl
  · exact do_8 H h hkb ha hb ys hx hxf fs hf hff hfl hwl hrl
  · exact do_9 H h hkb ha hb ys hx hxf fs hf hff hfl hwl hrl
  · exact do_10 H h hkb ha hb ys hx hxf fs hf hff hfl hwl hrl
end
/-- An act at a place. -/
structure ActAt (w : World) (b off : Nat) (kd av bv : Int) (da : Option Addr) (dl dc : Nat) (fa : Option Addr) (fl fc : Nat) (ys : List Nat) (fs : List Int) : Prop where
  c0 : w.cell? ⟨b, off + 0, none⟩ = some (.int .i64 kd)
  c1 : w.cell? ⟨b, off + 1, none⟩ = some (.int .i64 av)
  c2 : w.cell? ⟨b, off + 2, none⟩ = some (.int .i64 bv)
  c3 : w.cell? ⟨b, off + 3, none⟩ = some (.slice da dl dc)
  c4 : w.cell? ⟨b, off + 4, none⟩ = some (.slice fa fl fc)
  k0 : -9223372036854775808 ≤ kd ∧ kd ≤ 9223372036854775807
  k1 : -9223372036854775808 ≤ av ∧ av ≤ 9223372036854775807
  k2 : -9223372036854775808 ≤ bv ∧ bv ≤ 9223372036854775807
  dm : dl ≤ 9223372036854775807
  fm : fl ≤ 9223372036854775807
  ys : BytesIn w da dl dc ys
  fs : NumsIn w fa fl fs
/-- The slice (a, len) of acts. -/
def Acts5 (w : World) (a : Option Addr) (len : Nat) : Prop :=
  0 < len → ∃ b off, a = some ⟨b, off, none⟩ ∧ b < w.heap.size ∧ ∀ i, i < len → ∃ kd av bv da dl dc fa fl fc ys fs, ActAt w b (off + i * 5) kd av bv da dl dc fa fl fc ys fs
theorem bytes_far {w w' : World} {U : Nat → Prop} {a : Option Addr} {len cap : Nat} {xs : List Nat} (h : BytesIn w a len cap xs) (hw : w.heap.size ≤ w'.heap.size) (hU : ∀ k, U k → w.heap.size ≤ k) : Far w' U a len := fun hp ad had => by
  obtain ⟨b, off, rfl, hlt, _⟩ := h.1.2.2 hp
  injection had with had
  subst had
  exact ⟨Nat.lt_of_lt_of_le hlt hw, fun hu => by have h1 : w.heap.size ≤ b := hU _ hu; omega⟩
theorem nums_far {w w' : World} {U : Nat → Prop} {a : Option Addr} {len : Nat} {xs : List Int} (h : NumsIn w a len xs) (hw : w.heap.size ≤ w'.heap.size) (hU : ∀ k, U k → w.heap.size ≤ k) : Far w' U a len := fun hp ad had => by
  obtain ⟨b, off, rfl, hlt, _⟩ := h.2.2 hp
  injection had with had
  subst had
  exact ⟨Nat.lt_of_lt_of_le hlt hw, fun hu => by have h1 : w.heap.size ≤ b := hU _ hu; omega⟩
theorem acts5_any {H : Type} {enc : TypeId × Value → H} {P : Program} {w : World} {base : Nat} {spare : Nat → Bool} {held : Bool} {t e k8 k64 : TypeId} {fs : Array Field} {a : Option Addr} {len cap : Nat} {d : DataW H} {p : List MemPlace} (f0 f1 f2 f3 f4 : Field)
    (ht : P.underlying t = some (.slice e)) (he : P.underlying e = some (.struct fs)) (hone : oneCellFields P fs = true) (hC : P.cellsOf e = fs.size) (hfs : fs.size = 5)
    (hf0 : fs[0]? = some f0) (hf1 : fs[1]? = some f1) (hf2 : fs[2]? = some f2) (hf3 : fs[3]? = some f3) (hf4 : fs[4]? = some f4) (h0 : P.underlying f0.type = some (.int .i64)) (h1 : P.underlying f1.type = some (.int .i64)) (h2 : P.underlying f2.type = some (.int .i64))
    (h3 : P.underlying f3.type = some (.slice k8)) (h8 : P.underlying k8 = some (.int .u8)) (c8 : P.cellsOf k8 = 1) (h4 : P.underlying f4.type = some (.slice k64)) (h64 : P.underlying k64 = some (.int .i64)) (c64 : P.cellsOf k64 = 1)
    (hsp : ∀ x, spare x = true) (h : DataW.Trod enc P w base spare held t (.slice a len cap) d p) : len ≤ cap ∧ cap ≤ maxLen ∧ Acts5 w a len := by
  rcases slice_recs ht he hone hC (by omega) h with ⟨_, rfl, rfl⟩ | ⟨hl, hm, hc⟩
  · exact ⟨Nat.le_refl _, Nat.zero_le _, fun hp => absurd hp (by omega)⟩
  · refine ⟨hl, hm, fun hp => ?_⟩
    obtain ⟨b, off, rfl, hlt, hcell⟩ := hc hp
    rw [hfs] at hcell
    refine ⟨b, off, rfl, hlt, fun i hi => ?_⟩
    obtain ⟨v0, y0, n0, hv0, hy0⟩ := hcell i hi 0 f0 hf0
    obtain ⟨v1, y1, n1, hv1, hy1⟩ := hcell i hi 1 f1 hf1
    obtain ⟨v2, y2, n2, hv2, hy2⟩ := hcell i hi 2 f2 hf2
    obtain ⟨v3, y3, n3, hv3, hy3⟩ := hcell i hi 3 f3 hf3
    obtain ⟨v4, y4, n4, hv4, hy4⟩ := hcell i hi 4 f4 hf4
    obtain ⟨z0, hz0, _, w0⟩ := DataW.trod_int h0 hy0
    obtain ⟨z1, hz1, _, w1⟩ := DataW.trod_int h1 hy1
    obtain ⟨z2, hz2, _, w2⟩ := DataW.trod_int h2 hy2
    simp only [List.cons.injEq, and_true] at hz0 hz1 hz2
    subst hz0 hz1 hz2
    have hrow : ∃ ai li ci, v3 = .slice ai li ci ∧ li ≤ ci ∧ ci ≤ maxLen ∧ ∃ zs, RowSaid .u8 w ai li ci zs := by
      rcases open_ints h3 h8 c8 hy3 with ⟨hcs, _⟩ | ⟨x, l, c, zs, hcs, _, hl', hm', hz, hx, hcl, hwz⟩
      · simp only [List.cons.injEq, and_true] at hcs
        exact ⟨none, 0, 0, hcs, by omega, by unfold maxLen; omega, [], .inl ⟨rfl, rfl, rfl, rfl⟩⟩
      · simp only [List.cons.injEq, and_true] at hcs
        exact ⟨some x, l, c, hcs, hl', hm', zs, .inr ⟨x, rfl, hl', hm', by simpa [hsp] using hz, hcl, hwz⟩⟩
    have hrow4 : ∃ ai li ci, v4 = .slice ai li ci ∧ li ≤ ci ∧ ci ≤ maxLen ∧ ∃ zs, RowSaid .i64 w ai li ci zs := by
      rcases open_ints h4 h64 c64 hy4 with ⟨hcs, _⟩ | ⟨x, l, c, zs, hcs, _, hl', hm', hz, hx, hcl, hwz⟩
      · simp only [List.cons.injEq, and_true] at hcs
        exact ⟨none, 0, 0, hcs, by omega, by unfold maxLen; omega, [], .inl ⟨rfl, rfl, rfl, rfl⟩⟩
      · simp only [List.cons.injEq, and_true] at hcs
        exact ⟨some x, l, c, hcs, hl', hm', zs, .inr ⟨x, rfl, hl', hm', by simpa [hsp] using hz, hcl, hwz⟩⟩
    obtain ⟨da, dl, dc, rfl, g1, g2, zs, hr⟩ := hrow
    obtain ⟨_, ys, hy⟩ := bytesIn_of_row hr
    obtain ⟨fa, fl, fc, rfl, g3, g4, zs4, hr4⟩ := hrow4
    obtain ⟨_, qs, hq⟩ := numsIn_of_row hr4
    exact ⟨z0, z1, z2, da, dl, dc, fa, fl, fc, ys, qs, by simpa [Nat.add_assoc] using hv0, by simpa [Nat.add_assoc] using hv1, by simpa [Nat.add_assoc] using hv2, by simpa [Nat.add_assoc] using hv3, by simpa [Nat.add_assoc] using hv4, bounds_i64 w0, bounds_i64 w1, bounds_i64 w2, by unfold maxLen at g2; omega, by unfold maxLen at g4; omega, hy, hq⟩
set_option maxRecDepth 100000 in
theorem acts5_open {H : Type} {enc : TypeId × Value → H} {w : World} {base : Nat} {held : Bool} {a : Option Addr} {len cap : Nat} {d : DataW H} {p : List MemPlace} (h : DataW.Trod enc Try.prog w base (fun _ => true) held 41 (.slice a len cap) d p) : len ≤ cap ∧ cap ≤ maxLen ∧ Acts5 w a len :=
  acts5_any (e := 49) (k8 := 5) (k64 := 3) (fs := Try.prog.fieldsOf 49) _ _ _ _ _ (by kernel_rfl) (by kernel_rfl) (by kernel_rfl) (by kernel_rfl) (by kernel_rfl) rfl rfl rfl rfl rfl (by kernel_rfl) (by kernel_rfl) (by kernel_rfl) (by kernel_rfl) (by kernel_rfl) (by kernel_rfl) (by kernel_rfl) (by kernel_rfl) (by kernel_rfl) (fun _ => rfl) h

/-- No act of the first 200 is great. -/
def Small (w : World) (a : Option Addr) (len : Nat) : Prop := ∀ b off, a = some ⟨b, off, none⟩ → ∀ i, i < len → i < 200 → ∀ da dl dc fa fl fc, w.cell? ⟨b, off + i * 5 + 3, none⟩ = some (.slice da dl dc) → w.cell? ⟨b, off + i * 5 + 4, none⟩ = some (.slice fa fl fc) → dl ≤ 1000 ∧ fl ≤ 1000
def GreatP (w : World) (a : Option Addr) (len : Nat) (e : Ending) (w' : World) : Prop := ∃ v : Bool, e = .returned (.bool v) ∧ w = w' ∧ (v = false → Small w a len)
set_option maxRecDepth 100000 in
set_option maxHeartbeats 4000000 in
theorem great_any (a : Option Addr) (len cap : Nat) (hlen : len ≤ 9223372036854775807) (w : World) (h : Acts5 w a len) : Calls Try.prog 24 #[.slice a len cap] w (GreatP w a len) := by
  have HA := Lib.hid h
  clear h
  go_enter Try.func24, Try.ntmps24
  go_wp2_with fail
  go_loopw [3] (fun iv wx => ∃ k : Nat, k ≤ len ∧ k ≤ 200 ∧ iv = .int .i64 k ∧ wx = w ∧ Small w a k) (fun iv _ => len - (intOf iv).toNat)
  case atStart => exact ⟨0, by omega, by omega, rfl, rfl, fun b off _ i hi => absurd hi (by omega)⟩
  case round =>
    obtain ⟨k, hk, hk2, rfl, rfl, hs⟩ := hrel
    by_cases hlt : k < len
    · have hki : (k : Int) < (len : Int) := by omega
      by_cases hl2 : k < 200
      · have hki2 : (k : Int) < 200 := by omega
        obtain ⟨b, off, rfl, hbl, hc⟩ := HA.out (by omega)
        obtain ⟨kd, av, bv, da, dl, dc, fa, fl, fc, ys, fs, hA⟩ := hc k hlt
        have k3 := hA.c3
        have k4 := hA.c4
        by_cases hd : dl ≤ 1000
        · have hd2 : ¬ (1000 : Int) < (dl : Int) := by omega
          by_cases hf : fl ≤ 1000
          · have hf2 : ¬ (1000 : Int) < (fl : Int) := by omega
            have HS := Lib.hid (show Small wr (some ⟨b, off, none⟩) (k + 1) from fun b' off' e i hi hi2 da' dl' dc' fa' fl' fc' h3 h4 => by
              injection e with e
              injection e with e1 e2
              subst e1
              subst e2
              by_cases he : i = k
              · subst he
                rw [k3] at h3
                rw [k4] at h4
                injection h3 with h3
                injection h3 with _ h3 _
                injection h4 with h4
                injection h4 with _ h4 _
                omega
              · exact hs b off rfl i (by omega) hi2 da' dl' dc' fa' fl' fc' h3 h4)
            clear hc hA hs
            go_wp2_with fail
            go_roundw
            case rel => first | exact ⟨k + 1, by omega, by omega, by go_num, trivial, HS.out⟩ | ((repeat apply Exists.intro); exact ⟨⟨k + 1, by omega, by omega, by go_num, rfl, HS.out⟩, rfl⟩)
            case measure => simp [intOf]; omega
          · have hf2 : (1000 : Int) < (fl : Int) := by omega
            clear hc hA hs
            go_wp2_with fail
            go_ret
            exact ⟨true, rfl, rfl, fun h => by cases h⟩
        · have hd2 : (1000 : Int) < (dl : Int) := by omega
          clear hc hA hs
          go_wp2_with fail
          go_ret
          exact ⟨true, rfl, rfl, fun h => by cases h⟩
      · have hki2 : ¬ (k : Int) < 200 := by omega
        have HS := Lib.hid (show Small wr a len from fun b off e i hi hi2 => hs b off e i (by omega) hi2)
        clear hs
        go_wp2_with fail
        go_ret
        exact ⟨false, rfl, rfl, fun _ => HS.out⟩
    · obtain rfl : k = len := by omega
      have hki : ¬ (k : Int) < (k : Int) := by omega
      have HS := Lib.hid hs
      clear hs
      go_wp2_with fail
      go_ret
      exact ⟨false, rfl, rfl, fun _ => HS.out⟩
end Go.Proofs.Ytjmghpoknlffiaa
