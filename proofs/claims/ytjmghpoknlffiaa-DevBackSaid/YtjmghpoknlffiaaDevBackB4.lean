/-
  What the proof of DevBack rests on, part 4 of 9.
-/
import Derived.Test.YtjmghpoknlffiaaDevBackB3
namespace Go.Proofs.Ytjmghpoknlffiaa
open Go.ChangeShapes Go.WideShapes Go.ChangeAt Go.RowKit
set_option linter.unusedSimpArgs false

section
variable {w : World} {x : Nat} {s : Dv} {F : Nat → Prop}
theorem XM.st_lt {w0 : World} {st wa cp wr : Value} {bs ws rs cv : List Value} {Fz : Nat → Prop} (M : XM F w0 w x st wa cp wr bs ws rs cv Fz s) : ∀ v ∈ bs, ∀ k, v.ownBlock = some k → k < w.heap.size := fun v hv k hk => by
  obtain ⟨j, hj⟩ := List.mem_iff_getElem?.1 hv
  have hl : j < s.st.length := by rw [← M.st.len]; exact (List.getElem?_eq_some_iff.1 hj).1
  exact ((M.st.2 j v _ hj (List.getElem?_eq_getElem hl)).1.lt k hk).2
/-- New memory that never turns. -/
theorem XM.fresh {w0 w' : World} {st wa cp wr : Value} {bs ws rs cv : List Value} {Fz : Nat → Prop} {C : Nat} (M : XM F w0 w x st wa cp wr bs ws rs cv Fz s) (hb : Below w.heap.size w w') (hC : w.heap.size ≤ C) (hC2 : C < w'.heap.size) :
    XM F w0 w' x st wa cp wr bs ws rs cv (fun k => Fz k ∨ k = C) s :=
  (M.below hb).addFz (fun k => k = C) (fun k hk => by
    subst hk
    exact ⟨.inr ⟨Nat.le_trans M.md.size hC, hC2⟩, fun e => by have := (M.st.1.lt _ e).2; omega, fun v hv e => by have := M.st_lt v hv _ e; omega⟩)
set_option maxRecDepth 100000 in
set_option maxHeartbeats 8000000 in
theorem xWrite_good (H : RefRep w x s F) (i : Nat) (hi : i < s.st.length) (ho : s.off = false) (a : Option Addr) (cap : Nat) (b : List Nat) (hx : BytesIn w a 256 cap b) (hout : ∀ ad, a = some ad → ¬ F ad.block) (hwl : s.wa.length ≤ 1000000000) (hrl : s.wr.length ≤ 1000000000) :
    Calls Try.prog 43 #[.pointer (some ⟨x, 0, none⟩), .int .i64 (i : Int), .slice a 256 cap] w fun e w' => e = .returned (.int .i64 (if spentOff s.ar = true then 7 else 0)) ∧ RefNext F w w' x (s.put i b).spent := by
  obtain ⟨gb, ob, rfl, _, _⟩ := hx.1.2.2 (by omega)
  have hb8 : Bl b := ⟨hx.1.1, fun x h => wf_u8_lt (hx.1.2.1 x h)⟩
  have Hbl := Lib.hid hb8.1
  have HX := Lib.hid hx
  have Hout := Lib.hid hout
  have Hok := Lib.hid H.1
  have HFl := Lib.hid H.2.1
  have Hok2 := Lib.hid (H.1.put hi hb8)
  have Ho := Lib.hid ho
  have HH := Lib.hid (xHas_any H (i : Int) true (decide_eq_true ⟨by omega, by omega⟩))
  obtain ⟨st, wa, cp, wr, bs, ws, rs, cv, Fz, M⟩ := H.state
  have HD := Lib.hid M
  have c2 := (RefAt.cells M.dv).2.2.1
  rw [ho] at c2
  obtain ⟨iv, hiv, hv0, hv1, hv2⟩ := info_parts info_wrt
  have Hiv := Lib.hid (And.intro hiv (And.intro hv0 (And.intro hv1 hv2)))
  have Hm := Lib.hid (show s.wa.length + 1 ≤ maxLen ∧ (s.wa.length + 1) * 32 ≤ 140737488355328 from ⟨by unfold maxLen; omega, by omega⟩)
  have Hm2 := Lib.hid (show s.wr.length + 1 ≤ maxLen ∧ (s.wr.length + 1) * 32 ≤ 140737488355328 from ⟨by unfold maxLen; omega, by omega⟩)
  obtain ⟨so, hso⟩ : ∃ so, so = spentOff s.ar := ⟨_, rfl⟩
  have Hso := Lib.hid hso
  rw [← hso]
  clear hso
  clear H hi ho hx hout hb8 M hiv hv0 hv1 hv2 hwl hrl
  go_enter Try.func43, Try.ntmps43
  go_wp2_with fail
  refine HH.out.mono ?_
  rintro e w' ⟨rfl, rfl⟩
  clear HH
  go_upto_region 5 with fail
  clear c2
  go_cut [6] (fun s6 wx => s6 = .int .i64 0 ∧ ∃ wa' ws' Fz', XM F w wx x st wa' cp wr bs ws' rs cv Fz' { s with wa := s.wa ++ [(i, b)] })
  case first =>
    refine wp_region_held_drew (S := fun _ => True) (by kernel_rfl) (trivial) (fun hHeld => ?_)
    dsimp only [Array.replicate, List.replicate, List.size_toArray, List.length_cons, List.length_nil, Nat.reduceAdd] at hHeld ⊢
    have HD0 := Lib.hid (HD.out.below (nu_drew (nu_refl w)))
    generalize w.drew = u0 at *
    refine take_l (i := 0) (v := ?_) rfl (by kernel_rfl) (by kernel_rfl) (by kernel_rfl) (fun _ _ _ h => h) (Or.inl ⟨by rfl, ?_⟩) (by assumption) ?_
    case refine_2 => (intro _ _; go_simp; all_goals with_reducible rfl)
    simp only [Act.put, List.setIfInBounds_toArray, List.set_cons_zero, List.set_cons_succ]
    refine take_l (i := 1) (v := ?_) rfl (by kernel_rfl) (by kernel_rfl) (by kernel_rfl) (fun _ _ _ h => h) (Or.inl ⟨by rfl, ?_⟩) (by assumption) ?_
    case refine_2 => (intro _ _; go_simp; all_goals with_reducible rfl)
    simp only [Act.put, List.setIfInBounds_toArray, List.set_cons_zero, List.set_cons_succ]
    refine take_l (i := 2) (v := ?_) rfl (by kernel_rfl) (by kernel_rfl) (by kernel_rfl) (fun _ _ _ h => h) (Or.inl ⟨by rfl, ?_⟩) (by assumption) ?_
    case refine_2 => (intro _ _; go_simp; all_goals with_reducible rfl)
    simp only [Act.put, List.setIfInBounds_toArray, List.set_cons_zero, List.set_cons_succ]
    refine take_l (i := 3) (v := ?_) rfl (by kernel_rfl) (by kernel_rfl) (by kernel_rfl) (fun _ _ _ h => h) (Or.inl ⟨by rfl, ?_⟩) (by assumption) ?_
    case refine_2 => (intro _ _; go_simp; all_goals with_reducible rfl)
    simp only [Act.put, List.setIfInBounds_toArray, List.set_cons_zero, List.set_cons_succ]
    refine take_l (i := 5) (v := ?_) rfl (by kernel_rfl) (by kernel_rfl) (by kernel_rfl) (fun _ _ _ h => h) (Or.inl ⟨by rfl, ?_⟩) (by assumption) ?_
    case refine_2 => (intro _ _; go_simp; all_goals with_reducible rfl)
    simp only [Act.put, List.setIfInBounds_toArray, List.set_cons_zero, List.set_cons_succ]
    refine take_l (i := 6) (v := ?_) rfl (by kernel_rfl) (by kernel_rfl) (by kernel_rfl) (fun _ _ _ h => h) (Or.inl ⟨by rfl, ?_⟩) (by assumption) ?_
    case refine_2 => (intro _ _; go_simp; all_goals with_reducible rfl)
    simp only [Act.put, List.setIfInBounds_toArray, List.set_cons_zero, List.set_cons_succ]
    clear hHeld HD
    refine wpAnyH_ready (rs := [4, 7]) (by kernel_rfl) (by simp) ?_
    refine cons_l rfl (fun K hK => ?_) ?_
    · have c6 := (RefAt.cells HD0.out.dv).2.1
      go_simp
      go_wp2_with fail
      refine hK.out _ _ trivial (fun hHeld => ?_)
      clear hK K
      simp only [Act.put, List.setIfInBounds_toArray, List.set_cons_zero, List.set_cons_succ]
      clear c6 hHeld
      refine wpAnyH_ready (rs := [7]) (by kernel_rfl) (by simp) ?_
      refine cons_l rfl (fun K hK => ?_) AllReadyH.nil
      go_simp
      go_at_call 42
      refine (copy_any (some ⟨gb, ob, none⟩) 256 cap b u0 (HX.out.mods HD0.out.md Hout.out) (by omega)).mono ?_
      rintro e u1 ⟨v, rfl, hO, hb⟩
      obtain ⟨C, cc, rfl, hC, hCl, _⟩ := ownB_slice hO (by rw [Hbl.out]; omega)
      rw [Hbl.out] at hO
      rw [Hbl.out]
      have HO1 := Lib.hid (show OwnB u1 0 5 (.slice (some ⟨C, 0, none⟩) 256 cc) b from ⟨own_zero hO.1, hO.2⟩)
      have HD1 := Lib.hid (HD0.out.fresh hb hC hCl)
      clear HD0 hb hO hC hCl
      go_wp2_with fail
      refine hK.out _ _ trivial (fun hHeld => ?_)
      clear hK K
      simp only [Act.put, List.setIfInBounds_toArray, List.set_cons_zero, List.set_cons_succ]
      refine take_l (i := 8) (v := ?_) rfl (by kernel_rfl) (by kernel_rfl) (by kernel_rfl) (fun _ _ _ h => h) (Or.inl ⟨by rfl, ?_⟩) (by assumption) ?_
      case refine_2 => (intro _ _; go_simp; all_goals with_reducible rfl)
      simp only [Act.put, List.setIfInBounds_toArray, List.set_cons_zero, List.set_cons_succ]
      clear hHeld
      refine wpAnyH_ready (rs := [9]) (by kernel_rfl) (by simp) ?_
      refine cons_l rfl (fun K hK => ?_) AllReadyH.nil
      refine step_runW _ (exec_slice1 (.tmp 28) 57 64 iv (.agg #[.int .i64 0, .slice none 0 0]) 2 Try.underlying57 Hiv.out.1 Hiv.out.2.1 Hiv.out.2.2.1 (by omega) (by omega) (.agg #[.int .i64 (i : Int), .slice (some ⟨C, 0, none⟩) 256 cc]) rfl rfl rfl) rfl ?_
      change K _ (u1.alloc (.cells #[.int .i64 (i : Int), .slice (some ⟨C, 0, none⟩) 256 cc] 64))
      have HG := Lib.hid (Blk.made u1 64 #[.int .i64 (i : Int), .slice (some ⟨C, 0, none⟩) 256 cc])
      have hal := nu_alloc (nu_refl u1) (.cells #[.int .i64 (i : Int), .slice (some ⟨C, 0, none⟩) 256 cc] 64)
      have HD2 := Lib.hid (HD1.out.below hal)
      have HO2 := Lib.hid (ownB_under HO1.out hal)
      clear HD1 HO1 hal
      generalize u1.alloc (.cells #[.int .i64 (i : Int), .slice (some ⟨C, 0, none⟩) 256 cc] 64) = u2 at *
      obtain ⟨G, hG⟩ : ∃ G, G = u1.heap.size := ⟨_, rfl⟩
      rw [← hG] at HG
      rw [← hG]
      clear hG
      refine hK.out _ _ trivial (fun hHeld => ?_)
      clear hK K
      simp only [Act.put, List.setIfInBounds_toArray, List.set_cons_zero, List.set_cons_succ]
      clear hHeld
      refine wpAnyH_ready (rs := [10]) (by kernel_rfl) (by simp) ?_
      refine cons_l rfl (fun K hK => ?_) AllReadyH.nil
      refine step_append_own rfl (.tmp 24) (.tmp 29) 57 rfl 0 64 iv (.agg #[.int .i64 0, .slice none 0 0]) 2 32 Try.underlying57 Hiv.out.1 Hiv.out.2.1 Hiv.out.2.2.1 Hiv.out.2.2.2 rfl (by omega) _ _ _ rfl HD2.out.wa.1 (some ⟨G, 0, none⟩) 1 1 [.int .i64 (i : Int), .slice (some ⟨C, 0, none⟩) 256 cc] rfl (fun h => by cases h) rfl (fun ad had j u hu => by injection had with had; subst had; rw [Addr.add_lit, Nat.zero_add]; exact HG.out.at j u (by simpa using hu)) (fun u hu => by simp only [List.mem_cons, List.not_mem_nil, or_false] at hu; rcases hu with rfl | rfl <;> rfl) Hm.out.1 Hm.out.2 (Nat.zero_le _) ?_
      intro v' u3 hown hg hb
      obtain ⟨va, vc, rfl⟩ := own_len hown
      have Hw := Lib.hid (HD2.out.moreWait (wrRow_snoc (p := (i, b)) rfl HD2.out.wa HO2.out hown hg) hg hb (fun u hu k hk => by
          rcases List.mem_append.1 hu with hu | hu
          · exact HD2.out.z5 u hu k hk
          · rw [List.mem_singleton.1 hu] at hk
            injection hk with hk
            exact .inr hk.symm))
      clear hown hg hb HD2 HO2 HG
      refine hK.out _ _ trivial (fun hHeld => ?_)
      clear hK K
      simp only [Act.put, List.setIfInBounds_toArray, List.set_cons_zero, List.set_cons_succ]
      refine take_l (i := 11) (v := ?_) rfl (by kernel_rfl) (by kernel_rfl) (by kernel_rfl) (fun _ _ _ h => h) (Or.inl ⟨by rfl, ?_⟩) (by assumption) ?_
      case refine_2 => (intro _ _; go_simp; all_goals with_reducible rfl)
      simp only [Act.put, List.setIfInBounds_toArray, List.set_cons_zero, List.set_cons_succ]
      refine take_l (i := 12) (v := ?_) rfl (by kernel_rfl) (by kernel_rfl) (by kernel_rfl) (fun _ _ _ h => h) (Or.inl ⟨by rfl, ?_⟩) (by assumption) ?_
      case refine_2 => (intro _ _; go_simp; all_goals with_reducible rfl)
      simp only [Act.put, List.setIfInBounds_toArray, List.set_cons_zero, List.set_cons_succ]
      clear hHeld
      refine wpAnyH_ready (rs := [13]) (by kernel_rfl) (by simp) ?_
      refine cons_l rfl (fun K hK => ?_) AllReadyH.nil
      obtain ⟨_, c1, f1⟩ := Hw.out
      go_simp
      go_wp2_with fail
      refine hK.out _ _ trivial (fun hHeld => ?_)
      clear hK K
      simp only [Act.put, List.setIfInBounds_toArray, List.set_cons_zero, List.set_cons_succ]
      clear c1 f1 hHeld
      refine wpAnyH_done (by kernel_rfl) ?_ _
      go_wp2_with fail
      go_meet
      exact ⟨rfl, _, _, _, Hw.out.1⟩
    refine cons_l rfl (fun K hK => ?_) AllReadyH.nil
    go_simp
    go_at_call 42
    refine (copy_any (some ⟨gb, ob, none⟩) 256 cap b u0 (HX.out.mods HD0.out.md Hout.out) (by omega)).mono ?_
    rintro e u1 ⟨v, rfl, hO, hb⟩
    obtain ⟨C, cc, rfl, hC, hCl, _⟩ := ownB_slice hO (by rw [Hbl.out]; omega)
    rw [Hbl.out] at hO
    rw [Hbl.out]
    have HO1 := Lib.hid (show OwnB u1 0 5 (.slice (some ⟨C, 0, none⟩) 256 cc) b from ⟨own_zero hO.1, hO.2⟩)
    have HD1 := Lib.hid (HD0.out.fresh hb hC hCl)
    clear HD0 hb hO hC hCl
    go_wp2_with fail
    refine hK.out _ _ trivial (fun hHeld => ?_)
    clear hK K
    simp only [Act.put, List.setIfInBounds_toArray, List.set_cons_zero, List.set_cons_succ]
    refine take_l (i := 8) (v := ?_) rfl (by kernel_rfl) (by kernel_rfl) (by kernel_rfl) (fun _ _ _ h => h) (Or.inl ⟨by rfl, ?_⟩) (by assumption) ?_
    case refine_2 => (intro _ _; go_simp; all_goals with_reducible rfl)
    simp only [Act.put, List.setIfInBounds_toArray, List.set_cons_zero, List.set_cons_succ]
    clear hHeld
    refine wpAnyH_ready (rs := [4, 9]) (by kernel_rfl) (by simp) ?_
    refine cons_l rfl (fun K hK => ?_) ?_
    · have c6 := (RefAt.cells HD1.out.dv).2.1
      go_simp
      go_wp2_with fail
      refine hK.out _ _ trivial (fun hHeld => ?_)
      clear hK K
      simp only [Act.put, List.setIfInBounds_toArray, List.set_cons_zero, List.set_cons_succ]
      clear c6 hHeld
      refine wpAnyH_ready (rs := [9]) (by kernel_rfl) (by simp) ?_
      refine cons_l rfl (fun K hK => ?_) AllReadyH.nil
      refine step_runW _ (exec_slice1 (.tmp 28) 57 64 iv (.agg #[.int .i64 0, .slice none 0 0]) 2 Try.underlying57 Hiv.out.1 Hiv.out.2.1 Hiv.out.2.2.1 (by omega) (by omega) (.agg #[.int .i64 (i : Int), .slice (some ⟨C, 0, none⟩) 256 cc]) rfl rfl rfl) rfl ?_
      change K _ (u1.alloc (.cells #[.int .i64 (i : Int), .slice (some ⟨C, 0, none⟩) 256 cc] 64))
      have HG := Lib.hid (Blk.made u1 64 #[.int .i64 (i : Int), .slice (some ⟨C, 0, none⟩) 256 cc])
      have hal := nu_alloc (nu_refl u1) (.cells #[.int .i64 (i : Int), .slice (some ⟨C, 0, none⟩) 256 cc] 64)
      have HD2 := Lib.hid (HD1.out.below hal)
      have HO2 := Lib.hid (ownB_under HO1.out hal)
      clear HD1 HO1 hal
      generalize u1.alloc (.cells #[.int .i64 (i : Int), .slice (some ⟨C, 0, none⟩) 256 cc] 64) = u2 at *
      obtain ⟨G, hG⟩ : ∃ G, G = u1.heap.size := ⟨_, rfl⟩
      rw [← hG] at HG
      rw [← hG]
      clear hG
      refine hK.out _ _ trivial (fun hHeld => ?_)
      clear hK K
      simp only [Act.put, List.setIfInBounds_toArray, List.set_cons_zero, List.set_cons_succ]
      clear hHeld
      refine wpAnyH_ready (rs := [10]) (by kernel_rfl) (by simp) ?_
      refine cons_l rfl (fun K hK => ?_) AllReadyH.nil
      refine step_append_own rfl (.tmp 24) (.tmp 29) 57 rfl 0 64 iv (.agg #[.int .i64 0, .slice none 0 0]) 2 32 Try.underlying57 Hiv.out.1 Hiv.out.2.1 Hiv.out.2.2.1 Hiv.out.2.2.2 rfl (by omega) _ _ _ rfl HD2.out.wa.1 (some ⟨G, 0, none⟩) 1 1 [.int .i64 (i : Int), .slice (some ⟨C, 0, none⟩) 256 cc] rfl (fun h => by cases h) rfl (fun ad had j u hu => by injection had with had; subst had; rw [Addr.add_lit, Nat.zero_add]; exact HG.out.at j u (by simpa using hu)) (fun u hu => by simp only [List.mem_cons, List.not_mem_nil, or_false] at hu; rcases hu with rfl | rfl <;> rfl) Hm.out.1 Hm.out.2 (Nat.zero_le _) ?_
      intro v' u3 hown hg hb
      obtain ⟨va, vc, rfl⟩ := own_len hown
      have Hw := Lib.hid (HD2.out.moreWait (wrRow_snoc (p := (i, b)) rfl HD2.out.wa HO2.out hown hg) hg hb (fun u hu k hk => by
          rcases List.mem_append.1 hu with hu | hu
          · exact HD2.out.z5 u hu k hk
          · rw [List.mem_singleton.1 hu] at hk
            injection hk with hk
            exact .inr hk.symm))
      clear hown hg hb HD2 HO2 HG
      refine hK.out _ _ trivial (fun hHeld => ?_)
      clear hK K
      simp only [Act.put, List.setIfInBounds_toArray, List.set_cons_zero, List.set_cons_succ]
      refine take_l (i := 11) (v := ?_) rfl (by kernel_rfl) (by kernel_rfl) (by kernel_rfl) (fun _ _ _ h => h) (Or.inl ⟨by rfl, ?_⟩) (by assumption) ?_
      case refine_2 => (intro _ _; go_simp; all_goals with_reducible rfl)
      simp only [Act.put, List.setIfInBounds_toArray, List.set_cons_zero, List.set_cons_succ]
      refine take_l (i := 12) (v := ?_) rfl (by kernel_rfl) (by kernel_rfl) (by kernel_rfl) (fun _ _ _ h => h) (Or.inl ⟨by rfl, ?_⟩) (by assumption) ?_
      case refine_2 => (intro _ _; go_simp; all_goals with_reducible rfl)
      simp only [Act.put, List.setIfInBounds_toArray, List.set_cons_zero, List.set_cons_succ]
      clear hHeld
      refine wpAnyH_ready (rs := [13]) (by kernel_rfl) (by simp) ?_
      refine cons_l rfl (fun K hK => ?_) AllReadyH.nil
      obtain ⟨_, c1, f1⟩ := Hw.out
      go_simp
      go_wp2_with fail
      refine hK.out _ _ trivial (fun hHeld => ?_)
      clear hK K
      simp only [Act.put, List.setIfInBounds_toArray, List.set_cons_zero, List.set_cons_succ]
      clear c1 f1 hHeld
      refine wpAnyH_done (by kernel_rfl) ?_ _
      go_wp2_with fail
      go_meet
      exact ⟨rfl, _, _, _, Hw.out.1⟩
    refine cons_l rfl (fun K hK => ?_) AllReadyH.nil
    refine step_runW _ (exec_slice1 (.tmp 28) 57 64 iv (.agg #[.int .i64 0, .slice none 0 0]) 2 Try.underlying57 Hiv.out.1 Hiv.out.2.1 Hiv.out.2.2.1 (by omega) (by omega) (.agg #[.int .i64 (i : Int), .slice (some ⟨C, 0, none⟩) 256 cc]) rfl rfl rfl) rfl ?_
    change K _ (u1.alloc (.cells #[.int .i64 (i : Int), .slice (some ⟨C, 0, none⟩) 256 cc] 64))
    have HG := Lib.hid (Blk.made u1 64 #[.int .i64 (i : Int), .slice (some ⟨C, 0, none⟩) 256 cc])
    have hal := nu_alloc (nu_refl u1) (.cells #[.int .i64 (i : Int), .slice (some ⟨C, 0, none⟩) 256 cc] 64)
    have HD2 := Lib.hid (HD1.out.below hal)
    have HO2 := Lib.hid (ownB_under HO1.out hal)
    clear HD1 HO1 hal
    generalize u1.alloc (.cells #[.int .i64 (i : Int), .slice (some ⟨C, 0, none⟩) 256 cc] 64) = u2 at *
    obtain ⟨G, hG⟩ : ∃ G, G = u1.heap.size := ⟨_, rfl⟩
    rw [← hG] at HG
    rw [← hG]
    clear hG
    refine hK.out _ _ trivial (fun hHeld => ?_)
    clear hK K
    simp only [Act.put, List.setIfInBounds_toArray, List.set_cons_zero, List.set_cons_succ]
    clear hHeld
    refine wpAnyH_ready (rs := [4]) (by kernel_rfl) (by simp) ?_
    refine cons_l rfl (fun K hK => ?_) AllReadyH.nil
    have c6 := (RefAt.cells HD2.out.dv).2.1
    go_simp
    go_wp2_with fail
    refine hK.out _ _ trivial (fun hHeld => ?_)
    clear hK K
    simp only [Act.put, List.setIfInBounds_toArray, List.set_cons_zero, List.set_cons_succ]
    clear c6 hHeld
    refine wpAnyH_ready (rs := [10]) (by kernel_rfl) (by simp) ?_
    refine cons_l rfl (fun K hK => ?_) AllReadyH.nil
    refine step_append_own rfl (.tmp 24) (.tmp 29) 57 rfl 0 64 iv (.agg #[.int .i64 0, .slice none 0 0]) 2 32 Try.underlying57 Hiv.out.1 Hiv.out.2.1 Hiv.out.2.2.1 Hiv.out.2.2.2 rfl (by omega) _ _ _ rfl HD2.out.wa.1 (some ⟨G, 0, none⟩) 1 1 [.int .i64 (i : Int), .slice (some ⟨C, 0, none⟩) 256 cc] rfl (fun h => by cases h) rfl (fun ad had j u hu => by injection had with had; subst had; rw [Addr.add_lit, Nat.zero_add]; exact HG.out.at j u (by simpa using hu)) (fun u hu => by simp only [List.mem_cons, List.not_mem_nil, or_false] at hu; rcases hu with rfl | rfl <;> rfl) Hm.out.1 Hm.out.2 (Nat.zero_le _) ?_
    intro v' u3 hown hg hb
    obtain ⟨va, vc, rfl⟩ := own_len hown
    have Hw := Lib.hid (HD2.out.moreWait (wrRow_snoc (p := (i, b)) rfl HD2.out.wa HO2.out hown hg) hg hb (fun u hu k hk => by
        rcases List.mem_append.1 hu with hu | hu
        · exact HD2.out.z5 u hu k hk
        · rw [List.mem_singleton.1 hu] at hk
          injection hk with hk
          exact .inr hk.symm))
    clear hown hg hb HD2 HO2 HG
    refine hK.out _ _ trivial (fun hHeld => ?_)
    clear hK K
    simp only [Act.put, List.setIfInBounds_toArray, List.set_cons_zero, List.set_cons_succ]
    refine take_l (i := 11) (v := ?_) rfl (by kernel_rfl) (by kernel_rfl) (by kernel_rfl) (fun _ _ _ h => h) (Or.inl ⟨by rfl, ?_⟩) (by assumption) ?_
    case refine_2 => (intro _ _; go_simp; all_goals with_reducible rfl)
    simp only [Act.put, List.setIfInBounds_toArray, List.set_cons_zero, List.set_cons_succ]
    refine take_l (i := 12) (v := ?_) rfl (by kernel_rfl) (by kernel_rfl) (by kernel_rfl) (fun _ _ _ h => h) (Or.inl ⟨by rfl, ?_⟩) (by assumption) ?_
    case refine_2 => (intro _ _; go_simp; all_goals with_reducible rfl)
    simp only [Act.put, List.setIfInBounds_toArray, List.set_cons_zero, List.set_cons_succ]
    clear hHeld
    refine wpAnyH_ready (rs := [13]) (by kernel_rfl) (by simp) ?_
    refine cons_l rfl (fun K hK => ?_) AllReadyH.nil
    obtain ⟨_, c1, f1⟩ := Hw.out
    go_simp
    go_wp2_with fail
    refine hK.out _ _ trivial (fun hHeld => ?_)
    clear hK K
    simp only [Act.put, List.setIfInBounds_toArray, List.set_cons_zero, List.set_cons_succ]
    clear c1 f1 hHeld
    refine wpAnyH_done (by kernel_rfl) ?_ _
    go_wp2_with fail
    go_meet
    exact ⟨rfl, _, _, _, Hw.out.1⟩
  case rest =>
    obtain ⟨rfl, wa', ws', Fz', hD⟩ := hcut
    clear HD Hm
    have HD := Lib.hid hD
    have Hm := Hm2
    clear hD Hm2
    obtain ⟨s1, hs1⟩ : ∃ s1 : Dv, s1 = { s with wa := s.wa ++ [(i, b)] } := ⟨_, rfl⟩
    have Hs1 := Lib.hid hs1
    have Hs1w := Lib.hid (show s1.wr = s.wr by rw [hs1])
    rw [← hs1] at HD
    rw [← Hs1w.out] at Hm
    clear hs1 Hs1w
    obtain ⟨w1, rfl⟩ : ∃ q : World, q = wc := ⟨_, rfl⟩
    go_upto_region 6 with fail
    go_cut [6] (fun s6 wx => s6 = .int .i64 0 ∧ ∃ wr' rs' Fz2, XM F w wx x st wa' cp wr' bs ws' rs' cv Fz2 { s1 with wr := s1.wr ++ [(i, b)] })
    case first =>
      refine wp_region_held_drew (S := fun _ => True) (by kernel_rfl) (trivial) (fun hHeld => ?_)
      dsimp only [Array.replicate, List.replicate, List.size_toArray, List.length_cons, List.length_nil, Nat.reduceAdd] at hHeld ⊢
      have HD0 := Lib.hid (HD.out.below (nu_drew (nu_refl w1)))
      generalize w1.drew = u0 at *
      refine take_l (i := 0) (v := ?_) rfl (by kernel_rfl) (by kernel_rfl) (by kernel_rfl) (fun _ _ _ h => h) (Or.inl ⟨by rfl, ?_⟩) (by assumption) ?_
      case refine_2 => (intro _ _; go_simp; all_goals with_reducible rfl)
      simp only [Act.put, List.setIfInBounds_toArray, List.set_cons_zero, List.set_cons_succ]
      refine take_l (i := 1) (v := ?_) rfl (by kernel_rfl) (by kernel_rfl) (by kernel_rfl) (fun _ _ _ h => h) (Or.inl ⟨by rfl, ?_⟩) (by assumption) ?_
      case refine_2 => (intro _ _; go_simp; all_goals with_reducible rfl)
      simp only [Act.put, List.setIfInBounds_toArray, List.set_cons_zero, List.set_cons_succ]
      refine take_l (i := 2) (v := ?_) rfl (by kernel_rfl) (by kernel_rfl) (by kernel_rfl) (fun _ _ _ h => h) (Or.inl ⟨by rfl, ?_⟩) (by assumption) ?_
      case refine_2 => (intro _ _; go_simp; all_goals with_reducible rfl)
      simp only [Act.put, List.setIfInBounds_toArray, List.set_cons_zero, List.set_cons_succ]
      refine take_l (i := 3) (v := ?_) rfl (by kernel_rfl) (by kernel_rfl) (by kernel_rfl) (fun _ _ _ h => h) (Or.inl ⟨by rfl, ?_⟩) (by assumption) ?_
      case refine_2 => (intro _ _; go_simp; all_goals with_reducible rfl)
      simp only [Act.put, List.setIfInBounds_toArray, List.set_cons_zero, List.set_cons_succ]
      refine take_l (i := 5) (v := ?_) rfl (by kernel_rfl) (by kernel_rfl) (by kernel_rfl) (fun _ _ _ h => h) (Or.inl ⟨by rfl, ?_⟩) (by assumption) ?_
      case refine_2 => (intro _ _; go_simp; all_goals with_reducible rfl)
      simp only [Act.put, List.setIfInBounds_toArray, List.set_cons_zero, List.set_cons_succ]
      refine take_l (i := 6) (v := ?_) rfl (by kernel_rfl) (by kernel_rfl) (by kernel_rfl) (fun _ _ _ h => h) (Or.inl ⟨by rfl, ?_⟩) (by assumption) ?_
      case refine_2 => (intro _ _; go_simp; all_goals with_reducible rfl)
      simp only [Act.put, List.setIfInBounds_toArray, List.set_cons_zero, List.set_cons_succ]
      clear hHeld HD
      refine wpAnyH_ready (rs := [4, 7]) (by kernel_rfl) (by simp) ?_
      refine cons_l rfl (fun K hK => ?_) ?_
      · have c6 := (RefAt.cells HD0.out.dv).2.2.2.2.2.2
        go_simp
        go_wp2_with fail
        refine hK.out _ _ trivial (fun hHeld => ?_)
        clear hK K
        simp only [Act.put, List.setIfInBounds_toArray, List.set_cons_zero, List.set_cons_succ]
        clear c6 hHeld
        refine wpAnyH_ready (rs := [7]) (by kernel_rfl) (by simp) ?_
        refine cons_l rfl (fun K hK => ?_) AllReadyH.nil
        go_simp
        go_at_call 42
        refine (copy_any (some ⟨gb, ob, none⟩) 256 cap b u0 (HX.out.mods HD0.out.md Hout.out) (by omega)).mono ?_
        rintro e u1 ⟨v, rfl, hO, hb⟩
        obtain ⟨C, cc, rfl, hC, hCl, _⟩ := ownB_slice hO (by rw [Hbl.out]; omega)
        rw [Hbl.out] at hO
        rw [Hbl.out]
        have HO1 := Lib.hid (show OwnB u1 0 5 (.slice (some ⟨C, 0, none⟩) 256 cc) b from ⟨own_zero hO.1, hO.2⟩)
        have HD1 := Lib.hid (HD0.out.fresh hb hC hCl)
        clear HD0 hb hO hC hCl
        go_wp2_with fail
        refine hK.out _ _ trivial (fun hHeld => ?_)
        clear hK K
        simp only [Act.put, List.setIfInBounds_toArray, List.set_cons_zero, List.set_cons_succ]
        refine take_l (i := 8) (v := ?_) rfl (by kernel_rfl) (by kernel_rfl) (by kernel_rfl) (fun _ _ _ h => h) (Or.inl ⟨by rfl, ?_⟩) (by assumption) ?_
        case refine_2 => (intro _ _; go_simp; all_goals with_reducible rfl)
        simp only [Act.put, List.setIfInBounds_toArray, List.set_cons_zero, List.set_cons_succ]
        clear hHeld
        refine wpAnyH_ready (rs := [9]) (by kernel_rfl) (by simp) ?_
        refine cons_l rfl (fun K hK => ?_) AllReadyH.nil
        refine step_runW _ (exec_slice1 (.tmp 41) 57 64 iv (.agg #[.int .i64 0, .slice none 0 0]) 2 Try.underlying57 Hiv.out.1 Hiv.out.2.1 Hiv.out.2.2.1 (by omega) (by omega) (.agg #[.int .i64 (i : Int), .slice (some ⟨C, 0, none⟩) 256 cc]) rfl rfl rfl) rfl ?_
        change K _ (u1.alloc (.cells #[.int .i64 (i : Int), .slice (some ⟨C, 0, none⟩) 256 cc] 64))
        have HG := Lib.hid (Blk.made u1 64 #[.int .i64 (i : Int), .slice (some ⟨C, 0, none⟩) 256 cc])
        have hal := nu_alloc (nu_refl u1) (.cells #[.int .i64 (i : Int), .slice (some ⟨C, 0, none⟩) 256 cc] 64)
        have HD2 := Lib.hid (HD1.out.below hal)
        have HO2 := Lib.hid (ownB_under HO1.out hal)
        clear HD1 HO1 hal
        generalize u1.alloc (.cells #[.int .i64 (i : Int), .slice (some ⟨C, 0, none⟩) 256 cc] 64) = u2 at *
        obtain ⟨G, hG⟩ : ∃ G, G = u1.heap.size := ⟨_, rfl⟩
        rw [← hG] at HG
        rw [← hG]
        clear hG
        refine hK.out _ _ trivial (fun hHeld => ?_)
        clear hK K
        simp only [Act.put, List.setIfInBounds_toArray, List.set_cons_zero, List.set_cons_succ]
        clear hHeld
        refine wpAnyH_ready (rs := [10]) (by kernel_rfl) (by simp) ?_
        refine cons_l rfl (fun K hK => ?_) AllReadyH.nil
        refine step_append_own rfl (.tmp 37) (.tmp 42) 57 rfl 0 64 iv (.agg #[.int .i64 0, .slice none 0 0]) 2 32 Try.underlying57 Hiv.out.1 Hiv.out.2.1 Hiv.out.2.2.1 Hiv.out.2.2.2 rfl (by omega) _ _ _ rfl HD2.out.wr.1 (some ⟨G, 0, none⟩) 1 1 [.int .i64 (i : Int), .slice (some ⟨C, 0, none⟩) 256 cc] rfl (fun h => by cases h) rfl (fun ad had j u hu => by injection had with had; subst had; rw [Addr.add_lit, Nat.zero_add]; exact HG.out.at j u (by simpa using hu)) (fun u hu => by simp only [List.mem_cons, List.not_mem_nil, or_false] at hu; rcases hu with rfl | rfl <;> rfl) Hm.out.1 Hm.out.2 (Nat.zero_le _) ?_
        intro v' u3 hown hg hb
        obtain ⟨va, vc, rfl⟩ := own_len hown
        have Hw := Lib.hid (HD2.out.moreWrit (wrRow_snoc (p := (i, b)) rfl HD2.out.wr HO2.out hown hg) hg hb (fun u hu k hk => by
            rcases List.mem_append.1 hu with hu | hu
            · exact HD2.out.z6 u hu k hk
            · rw [List.mem_singleton.1 hu] at hk
              injection hk with hk
              exact .inr hk.symm))
        clear hown hg hb HD2 HO2 HG
        refine hK.out _ _ trivial (fun hHeld => ?_)
        clear hK K
        simp only [Act.put, List.setIfInBounds_toArray, List.set_cons_zero, List.set_cons_succ]
        refine take_l (i := 11) (v := ?_) rfl (by kernel_rfl) (by kernel_rfl) (by kernel_rfl) (fun _ _ _ h => h) (Or.inl ⟨by rfl, ?_⟩) (by assumption) ?_
        case refine_2 => (intro _ _; go_simp; all_goals with_reducible rfl)
        simp only [Act.put, List.setIfInBounds_toArray, List.set_cons_zero, List.set_cons_succ]
        refine take_l (i := 12) (v := ?_) rfl (by kernel_rfl) (by kernel_rfl) (by kernel_rfl) (fun _ _ _ h => h) (Or.inl ⟨by rfl, ?_⟩) (by assumption) ?_
        case refine_2 => (intro _ _; go_simp; all_goals with_reducible rfl)
        simp only [Act.put, List.setIfInBounds_toArray, List.set_cons_zero, List.set_cons_succ]
        clear hHeld
        refine wpAnyH_ready (rs := [13]) (by kernel_rfl) (by simp) ?_
        refine cons_l rfl (fun K hK => ?_) AllReadyH.nil
        obtain ⟨_, c1, f1⟩ := Hw.out
        go_simp
        go_wp2_with fail
        refine hK.out _ _ trivial (fun hHeld => ?_)
        clear hK K
        simp only [Act.put, List.setIfInBounds_toArray, List.set_cons_zero, List.set_cons_succ]
        clear c1 f1 hHeld
        refine wpAnyH_done (by kernel_rfl) ?_ _
        go_wp2_with fail
        go_meet
        exact ⟨rfl, _, _, _, Hw.out.1⟩
      refine cons_l rfl (fun K hK => ?_) AllReadyH.nil
      go_simp
      go_at_call 42
      refine (copy_any (some ⟨gb, ob, none⟩) 256 cap b u0 (HX.out.mods HD0.out.md Hout.out) (by omega)).mono ?_
      rintro e u1 ⟨v, rfl, hO, hb⟩
      obtain ⟨C, cc, rfl, hC, hCl, _⟩ := ownB_slice hO (by rw [Hbl.out]; omega)
      rw [Hbl.out] at hO
      rw [Hbl.out]
      have HO1 := Lib.hid (show OwnB u1 0 5 (.slice (some ⟨C, 0, none⟩) 256 cc) b from ⟨own_zero hO.1, hO.2⟩)
      have HD1 := Lib.hid (HD0.out.fresh hb hC hCl)
      clear HD0 hb hO hC hCl
      go_wp2_with fail
      refine hK.out _ _ trivial (fun hHeld => ?_)
      clear hK K
      simp only [Act.put, List.setIfInBounds_toArray, List.set_cons_zero, List.set_cons_succ]
      refine take_l (i := 8) (v := ?_) rfl (by kernel_rfl) (by kernel_rfl) (by kernel_rfl) (fun _ _ _ h => h) (Or.inl ⟨by rfl, ?_⟩) (by assumption) ?_
      case refine_2 => (intro _ _; go_simp; all_goals with_reducible rfl)
      simp only [Act.put, List.setIfInBounds_toArray, List.set_cons_zero, List.set_cons_succ]
      clear hHeld
      refine wpAnyH_ready (rs := [4, 9]) (by kernel_rfl) (by simp) ?_
      refine cons_l rfl (fun K hK => ?_) ?_
      · have c6 := (RefAt.cells HD1.out.dv).2.2.2.2.2.2
        go_simp
        go_wp2_with fail
        refine hK.out _ _ trivial (fun hHeld => ?_)
        clear hK K
        simp only [Act.put, List.setIfInBounds_toArray, List.set_cons_zero, List.set_cons_succ]
        clear c6 hHeld
        refine wpAnyH_ready (rs := [9]) (by kernel_rfl) (by simp) ?_
        refine cons_l rfl (fun K hK => ?_) AllReadyH.nil
        refine step_runW _ (exec_slice1 (.tmp 41) 57 64 iv (.agg #[.int .i64 0, .slice none 0 0]) 2 Try.underlying57 Hiv.out.1 Hiv.out.2.1 Hiv.out.2.2.1 (by omega) (by omega) (.agg #[.int .i64 (i : Int), .slice (some ⟨C, 0, none⟩) 256 cc]) rfl rfl rfl) rfl ?_
        change K _ (u1.alloc (.cells #[.int .i64 (i : Int), .slice (some ⟨C, 0, none⟩) 256 cc] 64))
        have HG := Lib.hid (Blk.made u1 64 #[.int .i64 (i : Int), .slice (some ⟨C, 0, none⟩) 256 cc])
        have hal := nu_alloc (nu_refl u1) (.cells #[.int .i64 (i : Int), .slice (some ⟨C, 0, none⟩) 256 cc] 64)
        have HD2 := Lib.hid (HD1.out.below hal)
        have HO2 := Lib.hid (ownB_under HO1.out hal)
        clear HD1 HO1 hal
        generalize u1.alloc (.cells #[.int .i64 (i : Int), .slice (some ⟨C, 0, none⟩) 256 cc] 64) = u2 at *
        obtain ⟨G, hG⟩ : ∃ G, G = u1.heap.size := ⟨_, rfl⟩
        rw [← hG] at HG
        rw [← hG]
        clear hG
        refine hK.out _ _ trivial (fun hHeld => ?_)
        clear hK K
        simp only [Act.put, List.setIfInBounds_toArray, List.set_cons_zero, List.set_cons_succ]
        clear hHeld
        refine wpAnyH_ready (rs := [10]) (by kernel_rfl) (by simp) ?_
        refine cons_l rfl (fun K hK => ?_) AllReadyH.nil
        refine step_append_own rfl (.tmp 37) (.tmp 42) 57 rfl 0 64 iv (.agg #[.int .i64 0, .slice none 0 0]) 2 32 Try.underlying57 Hiv.out.1 Hiv.out.2.1 Hiv.out.2.2.1 Hiv.out.2.2.2 rfl (by omega) _ _ _ rfl HD2.out.wr.1 (some ⟨G, 0, none⟩) 1 1 [.int .i64 (i : Int), .slice (some ⟨C, 0, none⟩) 256 cc] rfl (fun h => by cases h) rfl (fun ad had j u hu => by injection had with had; subst had; rw [Addr.add_lit, Nat.zero_add]; exact HG.out.at j u (by simpa using hu)) (fun u hu => by simp only [List.mem_cons, List.not_mem_nil, or_false] at hu; rcases hu with rfl | rfl <;> rfl) Hm.out.1 Hm.out.2 (Nat.zero_le _) ?_
        intro v' u3 hown hg hb
        obtain ⟨va, vc, rfl⟩ := own_len hown
        have Hw := Lib.hid (HD2.out.moreWrit (wrRow_snoc (p := (i, b)) rfl HD2.out.wr HO2.out hown hg) hg hb (fun u hu k hk => by
            rcases List.mem_append.1 hu with hu | hu
            · exact HD2.out.z6 u hu k hk
            · rw [List.mem_singleton.1 hu] at hk
              injection hk with hk
              exact .inr hk.symm))
        clear hown hg hb HD2 HO2 HG
        refine hK.out _ _ trivial (fun hHeld => ?_)
        clear hK K
        simp only [Act.put, List.setIfInBounds_toArray, List.set_cons_zero, List.set_cons_succ]
        refine take_l (i := 11) (v := ?_) rfl (by kernel_rfl) (by kernel_rfl) (by kernel_rfl) (fun _ _ _ h => h) (Or.inl ⟨by rfl, ?_⟩) (by assumption) ?_
        case refine_2 => (intro _ _; go_simp; all_goals with_reducible rfl)
        simp only [Act.put, List.setIfInBounds_toArray, List.set_cons_zero, List.set_cons_succ]
        refine take_l (i := 12) (v := ?_) rfl (by kernel_rfl) (by kernel_rfl) (by kernel_rfl) (fun _ _ _ h => h) (Or.inl ⟨by rfl, ?_⟩) (by assumption) ?_
        case refine_2 => (intro _ _; go_simp; all_goals with_reducible rfl)
        simp only [Act.put, List.setIfInBounds_toArray, List.set_cons_zero, List.set_cons_succ]
        clear hHeld
        refine wpAnyH_ready (rs := [13]) (by kernel_rfl) (by simp) ?_
        refine cons_l rfl (fun K hK => ?_) AllReadyH.nil
        obtain ⟨_, c1, f1⟩ := Hw.out
        go_simp
        go_wp2_with fail
        refine hK.out _ _ trivial (fun hHeld => ?_)
        clear hK K
        simp only [Act.put, List.setIfInBounds_toArray, List.set_cons_zero, List.set_cons_succ]
        clear c1 f1 hHeld
        refine wpAnyH_done (by kernel_rfl) ?_ _
        go_wp2_with fail
        go_meet
        exact ⟨rfl, _, _, _, Hw.out.1⟩
      refine cons_l rfl (fun K hK => ?_) AllReadyH.nil
      refine step_runW _ (exec_slice1 (.tmp 41) 57 64 iv (.agg #[.int .i64 0, .slice none 0 0]) 2 Try.underlying57 Hiv.out.1 Hiv.out.2.1 Hiv.out.2.2.1 (by omega) (by omega) (.agg #[.int .i64 (i : Int), .slice (some ⟨C, 0, none⟩) 256 cc]) rfl rfl rfl) rfl ?_
      change K _ (u1.alloc (.cells #[.int .i64 (i : Int), .slice (some ⟨C, 0, none⟩) 256 cc] 64))
      have HG := Lib.hid (Blk.made u1 64 #[.int .i64 (i : Int), .slice (some ⟨C, 0, none⟩) 256 cc])
      have hal := nu_alloc (nu_refl u1) (.cells #[.int .i64 (i : Int), .slice (some ⟨C, 0, none⟩) 256 cc] 64)
      have HD2 := Lib.hid (HD1.out.below hal)
      have HO2 := Lib.hid (ownB_under HO1.out hal)
      clear HD1 HO1 hal
      generalize u1.alloc (.cells #[.int .i64 (i : Int), .slice (some ⟨C, 0, none⟩) 256 cc] 64) = u2 at *
      obtain ⟨G, hG⟩ : ∃ G, G = u1.heap.size := ⟨_, rfl⟩
      rw [← hG] at HG
      rw [← hG]
      clear hG
      refine hK.out _ _ trivial (fun hHeld => ?_)
      clear hK K
      simp only [Act.put, List.setIfInBounds_toArray, List.set_cons_zero, List.set_cons_succ]
      clear hHeld
      refine wpAnyH_ready (rs := [4]) (by kernel_rfl) (by simp) ?_
      refine cons_l rfl (fun K hK => ?_) AllReadyH.nil
      have c6 := (RefAt.cells HD2.out.dv).2.2.2.2.2.2
      go_simp
      go_wp2_with fail
      refine hK.out _ _ trivial (fun hHeld => ?_)
      clear hK K
      simp only [Act.put, List.setIfInBounds_toArray, List.set_cons_zero, List.set_cons_succ]
      clear c6 hHeld
      refine wpAnyH_ready (rs := [10]) (by kernel_rfl) (by simp) ?_
      refine cons_l rfl (fun K hK => ?_) AllReadyH.nil
      refine step_append_own rfl (.tmp 37) (.tmp 42) 57 rfl 0 64 iv (.agg #[.int .i64 0, .slice none 0 0]) 2 32 Try.underlying57 Hiv.out.1 Hiv.out.2.1 Hiv.out.2.2.1 Hiv.out.2.2.2 rfl (by omega) _ _ _ rfl HD2.out.wr.1 (some ⟨G, 0, none⟩) 1 1 [.int .i64 (i : Int), .slice (some ⟨C, 0, none⟩) 256 cc] rfl (fun h => by cases h) rfl (fun ad had j u hu => by injection had with had; subst had; rw [Addr.add_lit, Nat.zero_add]; exact HG.out.at j u (by simpa using hu)) (fun u hu => by simp only [List.mem_cons, List.not_mem_nil, or_false] at hu; rcases hu with rfl | rfl <;> rfl) Hm.out.1 Hm.out.2 (Nat.zero_le _) ?_
      intro v' u3 hown hg hb
      obtain ⟨va, vc, rfl⟩ := own_len hown
      have Hw := Lib.hid (HD2.out.moreWrit (wrRow_snoc (p := (i, b)) rfl HD2.out.wr HO2.out hown hg) hg hb (fun u hu k hk => by
          rcases List.mem_append.1 hu with hu | hu
          · exact HD2.out.z6 u hu k hk
          · rw [List.mem_singleton.1 hu] at hk
            injection hk with hk
            exact .inr hk.symm))
      clear hown hg hb HD2 HO2 HG
      refine hK.out _ _ trivial (fun hHeld => ?_)
      clear hK K
      simp only [Act.put, List.setIfInBounds_toArray, List.set_cons_zero, List.set_cons_succ]
      refine take_l (i := 11) (v := ?_) rfl (by kernel_rfl) (by kernel_rfl) (by kernel_rfl) (fun _ _ _ h => h) (Or.inl ⟨by rfl, ?_⟩) (by assumption) ?_
      case refine_2 => (intro _ _; go_simp; all_goals with_reducible rfl)
      simp only [Act.put, List.setIfInBounds_toArray, List.set_cons_zero, List.set_cons_succ]
      refine take_l (i := 12) (v := ?_) rfl (by kernel_rfl) (by kernel_rfl) (by kernel_rfl) (fun _ _ _ h => h) (Or.inl ⟨by rfl, ?_⟩) (by assumption) ?_
      case refine_2 => (intro _ _; go_simp; all_goals with_reducible rfl)
      simp only [Act.put, List.setIfInBounds_toArray, List.set_cons_zero, List.set_cons_succ]
      clear hHeld
      refine wpAnyH_ready (rs := [13]) (by kernel_rfl) (by simp) ?_
      refine cons_l rfl (fun K hK => ?_) AllReadyH.nil
      obtain ⟨_, c1, f1⟩ := Hw.out
      go_simp
      go_wp2_with fail
      refine hK.out _ _ trivial (fun hHeld => ?_)
      clear hK K
      simp only [Act.put, List.setIfInBounds_toArray, List.set_cons_zero, List.set_cons_succ]
      clear c1 f1 hHeld
      refine wpAnyH_done (by kernel_rfl) ?_ _
      go_wp2_with fail
      go_meet
      exact ⟨rfl, _, _, _, Hw.out.1⟩
    case rest =>
      obtain ⟨rfl, wr', rs', Fz2, hD⟩ := hcut
      rw [Hs1.out] at hD
      have hN : RefNext F w wc x (s.put i b) := hD.next Hok2.out HFl.out
      have HS := Lib.hid (xAccess hN.1 (show (s.put i b).off = false from Ho.out))
      have HN := Lib.hid hN
      clear HD hD hN
      rw [show spentOff (s.put i b).ar = so from Hso.out.symm] at HS
      go_wp2_with fail
      refine HS.out.mono ?_
      rintro e w3 ⟨rfl, hn⟩
      have Hn := Lib.hid (HN.out.trans hn)
      clear hn HS HN
      cases so
      · go_wp2_with fail
        go_ret
        exact ⟨rfl, Hn.out⟩
      · go_wp2_with fail
        go_ret
        exact ⟨rfl, Hn.out⟩
set_option maxRecDepth 100000 in
theorem xWrite_bad (H : RefRep w x s F) (a : Int) (ad : Option Addr) (len cap : Nat) (h : s.rdy a ≠ 0 ∨ len ≠ 256) :
    Calls Try.prog 43 #[.pointer (some ⟨x, 0, none⟩), .int .i64 a, .slice ad len cap] w fun e w' => e = .returned (.int .i64 (if s.rdy a ≠ 0 then s.rdy a else 1)) ∧ w = w' := by
  by_cases ho : s.off = true
  · have he : s.rdy a = 7 := if_pos ho
    rw [he]
    obtain ⟨st, wa, cp, wr, bs, ws, rs, cv, Fz, M⟩ := H.state
    obtain ⟨_, _, c2, _⟩ := RefAt.cells M.dv
    rw [ho] at c2
    clear M H he ho h
    go_enter Try.func43, Try.ntmps43
    go_wp2_with fail
    go_ret
    exact ⟨rfl, rfl⟩
  · have hoff : s.off = false := by simpa using ho
    by_cases hn : 0 ≤ a ∧ a < (s.st.length : Int)
    · have he : s.rdy a = 0 := by unfold Dv.rdy; rw [if_neg ho, if_neg (by omega)]
      have hl : ((len : Int) != 256) = true := by rw [bne_iff_ne]; rcases h with h | h <;> omega
      rw [he, if_neg (by decide)]
      have HH := Lib.hid (xHas_any H a true (decide_eq_true hn))
      obtain ⟨st, wa, cp, wr, bs, ws, rs, cv, Fz, M⟩ := H.state
      obtain ⟨_, _, c2, _⟩ := RefAt.cells M.dv
      rw [hoff] at c2
      clear M H he ho h hn hoff
      go_enter Try.func43, Try.ntmps43
      go_wp2_with fail
      refine HH.out.mono ?_
      rintro e w' ⟨rfl, rfl⟩
      go_wp2_with fail
      go_ret
      exact ⟨rfl, rfl⟩
    · have he : s.rdy a = 1 := by unfold Dv.rdy; rw [if_neg ho, if_pos (by omega)]
      rw [he, if_pos (by decide)]
      have HH := Lib.hid (xHas_any H a false (decide_eq_false hn))
      obtain ⟨st, wa, cp, wr, bs, ws, rs, cv, Fz, M⟩ := H.state
      obtain ⟨_, _, c2, _⟩ := RefAt.cells M.dv
      rw [hoff] at c2
      clear M H he ho h hn hoff
      go_enter Try.func43, Try.ntmps43
      go_wp2_with fail
      refine HH.out.mono ?_
      rintro e w' ⟨rfl, rfl⟩
      go_wp2_with fail
      go_ret
      exact ⟨rfl, rfl⟩
end
end Go.Proofs.Ytjmghpoknlffiaa

namespace Go.Proofs.Ytjmghpoknlffiaa
open Go.ChangeShapes Go.WideShapes Go.ChangeAt Go.RowKit
set_option linter.unusedSimpArgs false

theorem e_sl50 {o : Oper} {a : Act} {w : World} {g i n c : Nat} {v : Option Addr} (hc : w.cell? ⟨g, i, none⟩ = some (.slice v n c)) (x : Operand) (ho : o.op = .load 50 x) (hx : a.eval x = .pointer (some ⟨g, i, none⟩)) :
    (execOp a.eval o).run Try.prog w = .ok (.value (.slice v n c)) w := by
  unfold execOp
  simp only [ho, hx]
  go_simp
theorem e_sl57 {o : Oper} {a : Act} {w : World} {g i n c : Nat} {v : Option Addr} (hc : w.cell? ⟨g, i, none⟩ = some (.slice v n c)) (x : Operand) (ho : o.op = .load 57 x) (hx : a.eval x = .pointer (some ⟨g, i, none⟩)) :
    (execOp a.eval o).run Try.prog w = .ok (.value (.slice v n c)) w := by
  unfold execOp
  simp only [ho, hx]
  go_simp
theorem cell_below {w w' : World} {a : Addr} {v : Value} (hb : Below w.heap.size w w') (h : w.cell? a = some v) : w'.cell? a = some v := (hb.cell (World.block_lt_of_cell? _ _ h)).trans h
theorem cell_off {w w' : World} {g k i : Nat} {v : Value} (hg : w.grownBy w' (some g)) (h : w.cell? ⟨k, i, none⟩ = some v) (hn : k ≠ g) : w'.cell? ⟨k, i, none⟩ = some v :=
  (World.cell?_of_block (a := ⟨k, i, none⟩) (hg.block k (World.block_lt_of_cell? w _ h) (fun e => hn (by injection e)))).trans h
section
variable {w : World} {x : Nat} {s : Dv} {F : Nat → Prop}
theorem XM.fz_lt {w0 : World} {st wa cp wr : Value} {bs ws rs cv : List Value} {Fz : Nat → Prop} (M : XM F w0 w x st wa cp wr bs ws rs cv Fz s) (hF : ∀ k, F k → k < w0.heap.size) : ∀ k, Fz k → k < w.heap.size := fun k hk => by
  rcases M.zb k hk with h | h
  · exact Nat.lt_of_lt_of_le (hF k h) M.md.size
  · exact h.2
theorem XM.dropWa {w0 : World} {st wa cp wr : Value} {bs ws rs cv : List Value} {Fz : Nat → Prop} (M : XM F w0 w x st wa cp wr bs ws rs cv Fz s) : XM F w0 (w.setCell ⟨x, 1, none⟩ (.slice none 0 0)) x st (.slice none 0 0) cp wr bs [] rs cv Fz { s with wa := [] } :=
  M.setWait (wl := []) ⟨World.ownsRow_nil _ 0 _ _, rfl, (fun i u p h => by cases h)⟩ (fun k hk => by cases hk) (fun k hk => by cases hk) (fun v hv => by cases hv)
set_option maxRecDepth 100000 in
set_option maxHeartbeats 8000000 in
theorem xFlush_go (H : RefRep w x s F) (ho : s.off = false) (ha : spentOff s.ar = false) (hwl : s.wa.length ≤ 1000000000) :
    Calls Try.prog 44 #[.pointer (some ⟨x, 0, none⟩)] w fun e w' => e = .returned (.int .i64 0) ∧ RefNext F w w' x s.spent.flush := by
  have Hok := Lib.hid H.1.spent
  have HFl := Lib.hid H.2.1
  have Hok2 := Lib.hid H.1.spent.flush
  obtain ⟨st, wa, cp, wv, bs0, ws, rs, cv, Fz, M⟩ := H.state
  have c2 := (RefAt.cells M.dv).2.2.1
  rw [ho] at c2
  have HSp := Lib.hid (M.access H.1.ar ho)
  rw [ha] at HSp
  obtain ⟨s2, hs2⟩ : ∃ s2, s2 = s.spent := ⟨_, rfl⟩
  have Hwl := Lib.hid (show s2.wa.length ≤ 1000000000 by rw [hs2]; exact hwl)
  rw [← hs2] at Hok Hok2 HSp
  rw [← hs2]
  clear H ho ha hwl hs2 M
  go_enter Try.func44, Try.ntmps44
  go_wp2_with fail
  refine HSp.out.mono ?_
  rintro e w1 ⟨rfl, hM⟩
  have HD := Lib.hid hM
  obtain ⟨ao, ac, rfl⟩ := own_len hM.wa.1
  obtain ⟨m, hm⟩ : ∃ m, m = s2.wa.length := ⟨_, rfl⟩
  have Hm := Lib.hid hm
  have c1 := (RefAt.cells hM.dv).2.1
  rw [← hm] at c1 HD
  have hmb : m ≤ 1000000000 := by rw [hm]; exact Hwl.out
  obtain ⟨g, cap, hst, _⟩ := hM.st.slot Hok.out.n1 Hok.out.st
  obtain ⟨n, hn⟩ : ∃ n, n = s2.st.length := ⟨_, rfl⟩
  have Hn := Lib.hid hn
  rw [← hn] at hst
  subst hst
  have hn2 : n ≤ 65536 := by rw [hn]; exact Hok.out.n2
  clear hM HSp hm hn c2
  go_wp2_with fail
  clear c1
  go_loopw [3] (fun i wx => ∃ (k : Nat) (bs : List Value), k ≤ m ∧ i = .int .i64 k ∧ XM F w wx x (.slice (some ⟨g, 0, none⟩) n cap) (.slice ao m ac) cp wv bs ws rs cv Fz { s2 with st := flushL s2.st (s2.wa.take k) }) (fun i _ => m - (intOf i).toNat)
  case atStart => exact ⟨0, bs0, by omega, rfl, HD.out⟩
  case round =>
    clear HD
    obtain ⟨k, bs, hk, rfl, hD⟩ := hrel
    by_cases hlt : k < m
    · have hki : (k : Int) < (m : Int) := by omega
      obtain ⟨p, hp⟩ : ∃ p, s2.wa[k]? = some p := ⟨_, List.getElem?_eq_getElem (by rw [← Hm.out]; exact hlt)⟩
      have hpw := Hok.out.wa p (List.mem_of_getElem? hp)
      have Hpb := Lib.hid hpw.2
      have ht : s2.wa.take (k + 1) = s2.wa.take k ++ [p] := by rw [List.take_add_one, hp]; rfl
      obtain ⟨s3, hs3⟩ : ∃ s3 : Dv, s3 = { s2 with st := flushL s2.st (s2.wa.take k) } := ⟨_, rfl⟩
      have hl3 : s3.st.length = s2.st.length := by rw [hs3]; exact flushL_len _ _
      have Hpi := Lib.hid (show p.1 < s3.st.length by rw [hl3]; exact hpw.1)
      have Hns := Lib.hid (show n = s3.st.length by rw [hl3]; exact Hn.out)
      have Hbl := Lib.hid (show ∀ b ∈ s3.st, Bl b by
        rw [hs3]
        exact flushL_bl _ _ Hok.out.st (fun p hp => (Hok.out.wa p (List.mem_of_mem_take hp)).2))
      have Hnx := Lib.hid (show { s3 with st := s3.st.set p.1 p.2 } = { s2 with st := flushL s2.st (s2.wa.take (k + 1)) } by rw [hs3, ht, flushL_snoc])
      have hwa3 : s3.wa = s2.wa := by rw [hs3]
      rw [← hs3] at hD
      have hpin : (p.1 : Int) < (n : Int) := by have := Hpi.out; have := Hns.out; omega
      have hWR := hD.wa
      rw [hwa3] at hWR
      obtain ⟨q, qc, hwa, hcell⟩ := hWR.slot (by rw [← Hm.out]; omega) (fun p hp => (Hok.out.wa p hp).2)
      rw [← Hm.out] at hwa
      injection hwa with e1 e2 e3
      subst e1 e3
      obtain ⟨C, cc, k1, k2, hO1, _⟩ := hcell k p hp
      have Hcs := Lib.hid (show ∀ W, Below wr.heap.size wr W → (fun W => W.cell? ⟨x, 0, none⟩ = some (.slice (some ⟨g, 0, none⟩) n cap) ∧ W.cell? ⟨x, 1, none⟩ = some (.slice (some ⟨q, 0, none⟩) m ac) ∧ W.cell? ⟨q, k * 2, none⟩ = some (.int .i64 (p.1 : Int)) ∧ W.cell? ⟨q, k * 2 + 1, none⟩ = some (.slice (some ⟨C, 0, none⟩) 256 cc)) W from fun W hW => ⟨cell_below hW (RefAt.cells hD.dv).1, cell_below hW (RefAt.cells hD.dv).2.1, cell_below hW k1, cell_below hW k2⟩)
      obtain ⟨_, hQ⟩ := own_typed hWR.1 q rfl
      obtain ⟨_, hG⟩ := own_typed hD.st.1 g rfl
      have Hxg := Lib.hid (show x ≠ g from Blk.apart hD.dv hG (by decide))
      have Hqg := Lib.hid (show q ≠ g from Blk.apart hQ hG (by decide))
      have HCp := Lib.hid (show ∀ u, Below wr.heap.size wr u → Calls Try.prog 42 #[.slice (some ⟨C, 0, none⟩) 256 cc] u fun e w' => ∃ v, e = .returned v ∧ OwnB w' u.heap.size 5 v p.2 ∧ Below u.heap.size u w' from
        fun u hu => copy_any _ 256 cc p.2 u (ownB_bytes (ownB_under hO1 hu) Hpb.out.1) (by omega))
      have Hck := Lib.hid (show ∀ (W : World) (bs : List Value), XM F w W x (.slice (some ⟨g, 0, none⟩) n cap) (.slice (some ⟨q, 0, none⟩) m ac) cp wv bs ws rs cv Fz s3 → ∃ Cz cz, W.cell? ⟨g, p.1, none⟩ = some (.slice (some ⟨Cz, 0, none⟩) 256 cz) ∧ True from fun W bs hM => by
        obtain ⟨g', c', e, h⟩ := hM.st.slot (by have := Hpi.out; omega) Hbl.out
        injection e with e1 e2 e3
        injection e1 with e1
        injection e1 with e1
        subst e1
        obtain ⟨Cz, cz, h1, _⟩ := h p.1 _ (List.getElem?_eq_getElem Hpi.out)
        exact ⟨Cz, cz, h1, trivial⟩)
      have Hfk := Lib.hid (show ∀ (W : World) (bs : List Value), XM F w W x (.slice (some ⟨g, 0, none⟩) n cap) (.slice (some ⟨q, 0, none⟩) m ac) cp wv bs ws rs cv Fz s3 → W.frozen? ⟨g, p.1, none⟩ = false from fun W bs hM => by
        obtain ⟨_, h⟩ := own_typed hM.st.1 g rfl
        exact h.free p.1)
      have Hmd := Lib.hid hD.md.size
      have c1 := (RefAt.cells hD.dv).2.1
      have HD := Lib.hid hD
      clear hD hWR hcell k1 k2 hO1 hQ hG hs3 hl3 hpw hp ht hwa3
      go_upto_region 6 with fail
      clear c1
      refine wp_region_held_drew (S := fun W => W.cell? ⟨x, 0, none⟩ = some (.slice (some ⟨g, 0, none⟩) n cap) ∧ W.cell? ⟨x, 1, none⟩ = some (.slice (some ⟨q, 0, none⟩) m ac) ∧ W.cell? ⟨q, k * 2, none⟩ = some (.int .i64 (p.1 : Int)) ∧ W.cell? ⟨q, k * 2 + 1, none⟩ = some (.slice (some ⟨C, 0, none⟩) 256 cc)) (by kernel_rfl) (Hcs.out _ (nu_drew (nu_refl wr))) (fun hHeld => ?_)
      dsimp only [Array.replicate, List.replicate, List.size_toArray, List.length_cons, List.length_nil, Nat.reduceAdd] at hHeld ⊢
      have HD0 := Lib.hid (HD.out.below (nu_drew (nu_refl wr)))
      have Hb0 := Lib.hid (nu_drew (nu_refl wr))
      clear HD
      generalize wr.drew = u0 at *
      refine take_l (i := 0) (v := ?_) rfl (by kernel_rfl) (by kernel_rfl) (by kernel_rfl) (fun _ _ _ h => h) (Or.inl ⟨by rfl, ?_⟩) (by assumption) ?_
      case refine_2 => (intro _ _; go_simp; all_goals with_reducible rfl)
      simp only [Act.put, List.setIfInBounds_toArray, List.set_cons_zero, List.set_cons_succ]
      refine take_l (i := 1) (v := ?_) rfl (by kernel_rfl) (by kernel_rfl) (by kernel_rfl) (fun _ _ _ h => h) (Or.inl ⟨by rfl, ?_⟩) (by assumption) ?_
      case refine_2 => (intro _ _; go_simp; all_goals with_reducible rfl)
      simp only [Act.put, List.setIfInBounds_toArray, List.set_cons_zero, List.set_cons_succ]
      refine take_l (i := 2) (v := ?_) rfl (by kernel_rfl) (by kernel_rfl) (by kernel_rfl) (fun _ _ _ h => h) (Or.inl ⟨by rfl, ?_⟩) (by assumption) ?_
      case refine_2 => (intro _ _; go_simp; all_goals with_reducible rfl)
      simp only [Act.put, List.setIfInBounds_toArray, List.set_cons_zero, List.set_cons_succ]
      refine take_l (i := 3) rfl (by kernel_rfl) (by kernel_rfl) (by kernel_rfl) (fun _ _ _ h => h) (Or.inl ⟨by rfl, fun W hS => e_sl50 hS.1 (.tmp 24) rfl rfl⟩) (by assumption) ?_
      simp only [Act.put, List.setIfInBounds_toArray, List.set_cons_zero, List.set_cons_succ]
      refine take_l (i := 4) (v := ?_) rfl (by kernel_rfl) (by kernel_rfl) (by kernel_rfl) (fun _ _ _ h => h) (Or.inl ⟨by rfl, ?_⟩) (by assumption) ?_
      case refine_2 => (intro _ _; go_simp; all_goals with_reducible rfl)
      simp only [Act.put, List.setIfInBounds_toArray, List.set_cons_zero, List.set_cons_succ]
      refine take_l (i := 5) (v := ?_) rfl (by kernel_rfl) (by kernel_rfl) (by kernel_rfl) (fun _ _ _ h => h) (Or.inl ⟨by rfl, ?_⟩) (by assumption) ?_
      case refine_2 => (intro _ _; go_simp; all_goals with_reducible rfl)
      simp only [Act.put, List.setIfInBounds_toArray, List.set_cons_zero, List.set_cons_succ]
      refine take_l (i := 6) (v := ?_) rfl (by kernel_rfl) (by kernel_rfl) (by kernel_rfl) (fun _ _ _ h => h) (Or.inl ⟨by rfl, ?_⟩) (by assumption) ?_
      case refine_2 => (intro _ _; go_simp; all_goals with_reducible rfl)
      simp only [Act.put, List.setIfInBounds_toArray, List.set_cons_zero, List.set_cons_succ]
      refine take_l (i := 7) rfl (by kernel_rfl) (by kernel_rfl) (by kernel_rfl) (fun _ _ _ h => h) (Or.inl ⟨by rfl, fun W hS => e_sl57 hS.2.1 (.tmp 28) rfl rfl⟩) (by assumption) ?_
      simp only [Act.put, List.setIfInBounds_toArray, List.set_cons_zero, List.set_cons_succ]
      refine take_l (i := 8) (v := ?_) rfl (by kernel_rfl) (by kernel_rfl) (by kernel_rfl) (fun _ _ _ h => h) (Or.inl ⟨by rfl, ?_⟩) (by assumption) ?_
      case refine_2 => (intro _ _; go_simp; all_goals with_reducible rfl)
      simp only [Act.put, List.setIfInBounds_toArray, List.set_cons_zero, List.set_cons_succ]
      refine take_l (i := 9) (v := ?_) rfl (by kernel_rfl) (by kernel_rfl) (by kernel_rfl) (fun _ _ _ h => h) (Or.inl ⟨by rfl, ?_⟩) (by assumption) ?_
      case refine_2 => (intro _ _; go_simp; all_goals with_reducible rfl)
      simp only [Act.put, List.setIfInBounds_toArray, List.set_cons_zero, List.set_cons_succ]
      refine take_l (i := 10) (v := ?_) rfl (by kernel_rfl) (by kernel_rfl) (by kernel_rfl) (fun _ _ _ h => h) (Or.inl ⟨by rfl, ?_⟩) (by assumption) ?_
      case refine_2 => (intro _ _; go_simp; all_goals with_reducible rfl)
      simp only [Act.put, List.setIfInBounds_toArray, List.set_cons_zero, List.set_cons_succ]
      refine take_l (i := 11) rfl (by kernel_rfl) (by kernel_rfl) (by kernel_rfl) (fun _ _ _ h => h) (Or.inl ⟨by rfl, fun W hS => e_int hS.2.2.1 (.tmp 32) rfl rfl⟩) (by assumption) ?_
      simp only [Act.put, List.setIfInBounds_toArray, List.set_cons_zero, List.set_cons_succ]
      refine take_l (i := 12) (v := ?_) rfl (by kernel_rfl) (by kernel_rfl) (by kernel_rfl) (fun _ _ _ h => h) (Or.inl ⟨by rfl, ?_⟩) (by assumption) ?_
      case refine_2 => (intro _ _; go_simp; all_goals with_reducible rfl)
      simp only [Act.put, List.setIfInBounds_toArray, List.set_cons_zero, List.set_cons_succ]
      refine take_l (i := 13) (v := ?_) rfl (by kernel_rfl) (by kernel_rfl) (by kernel_rfl) (fun _ _ _ h => h) (Or.inl ⟨by rfl, ?_⟩) (by assumption) ?_
      case refine_2 => (intro _ _; go_simp; all_goals with_reducible rfl)
      simp only [Act.put, List.setIfInBounds_toArray, List.set_cons_zero, List.set_cons_succ]
      refine take_l (i := 14) (v := ?_) rfl (by kernel_rfl) (by kernel_rfl) (by kernel_rfl) (fun _ _ _ h => h) (Or.inl ⟨by rfl, ?_⟩) (by assumption) ?_
      case refine_2 => (intro _ _; go_simp; all_goals with_reducible rfl)
      simp only [Act.put, List.setIfInBounds_toArray, List.set_cons_zero, List.set_cons_succ]
      refine take_l (i := 15) rfl (by kernel_rfl) (by kernel_rfl) (by kernel_rfl) (fun _ _ _ h => h) (Or.inl ⟨by rfl, fun W hS => e_sl57 hS.2.1 (.tmp 36) rfl rfl⟩) (by assumption) ?_
      simp only [Act.put, List.setIfInBounds_toArray, List.set_cons_zero, List.set_cons_succ]
      refine take_l (i := 16) (v := ?_) rfl (by kernel_rfl) (by kernel_rfl) (by kernel_rfl) (fun _ _ _ h => h) (Or.inl ⟨by rfl, ?_⟩) (by assumption) ?_
      case refine_2 => (intro _ _; go_simp; all_goals with_reducible rfl)
      simp only [Act.put, List.setIfInBounds_toArray, List.set_cons_zero, List.set_cons_succ]
      refine take_l (i := 17) (v := ?_) rfl (by kernel_rfl) (by kernel_rfl) (by kernel_rfl) (fun _ _ _ h => h) (Or.inl ⟨by rfl, ?_⟩) (by assumption) ?_
      case refine_2 => (intro _ _; go_simp; all_goals with_reducible rfl)
      simp only [Act.put, List.setIfInBounds_toArray, List.set_cons_zero, List.set_cons_succ]
      refine take_l (i := 18) (v := ?_) rfl (by kernel_rfl) (by kernel_rfl) (by kernel_rfl) (fun _ _ _ h => h) (Or.inl ⟨by rfl, ?_⟩) (by assumption) ?_
      case refine_2 => (intro _ _; go_simp; all_goals with_reducible rfl)
      simp only [Act.put, List.setIfInBounds_toArray, List.set_cons_zero, List.set_cons_succ]
      refine take_l (i := 19) rfl (by kernel_rfl) (by kernel_rfl) (by kernel_rfl) (fun _ _ _ h => h) (Or.inl ⟨by rfl, fun W hS => e_sl22 hS.2.2.2 (.tmp 40) rfl rfl⟩) (by assumption) ?_
      simp only [Act.put, List.setIfInBounds_toArray, List.set_cons_zero, List.set_cons_succ]
      clear hHeld
      refine wpAnyH_ready (rs := [20]) (by kernel_rfl) (by simp) ?_
      refine cons_l rfl (fun K hK => ?_) AllReadyH.nil
      go_simp
      go_at_call 42
      refine (HCp.out u0 Hb0.out).mono ?_
      rintro e u1 ⟨v, rfl, hO, hb⟩
      obtain ⟨C2, cc2, rfl, hC, hCl, _⟩ := ownB_slice hO (by rw [Hpb.out.1]; omega)
      rw [Hpb.out.1] at hO
      rw [Hpb.out.1]
      have HO1 := Lib.hid hO
      have HC := Lib.hid (show u0.heap.size ≤ C2 ∧ wr.heap.size ≤ C2 from ⟨hC, Nat.le_trans Hb0.out.size hC⟩)
      have HD1 := Lib.hid (HD0.out.below hb)
      have HS1 := Lib.hid (Hcs.out _ (nu_trans Hb0.out hb))
      have Hlt1 := Lib.hid (HD0.out.st_lt)
      have Hz1 := Lib.hid (HD0.out.fz_lt HFl.out)
      clear hO hC hCl hb HD0 Hb0
      go_wp2_with fail
      refine hK.out _ _ HS1.out (fun hHeld => ?_)
      clear hK K
      simp only [Act.put, List.setIfInBounds_toArray, List.set_cons_zero, List.set_cons_succ]
      refine take_l (i := 21) (v := ?_) rfl (by kernel_rfl) (by kernel_rfl) (by kernel_rfl) (fun _ _ _ h => h) (Or.inl ⟨by rfl, ?_⟩) (by assumption) ?_
      case refine_2 => (intro _ _; go_simp; all_goals with_reducible rfl)
      simp only [Act.put, List.setIfInBounds_toArray, List.set_cons_zero, List.set_cons_succ]
      clear hHeld
      refine wpAnyH_ready (rs := [22]) (by kernel_rfl) (by simp) ?_
      refine cons_l rfl (fun K hK => ?_) AllReadyH.nil
      have HN := Lib.hid (HD1.out.setSt (v := .slice (some ⟨C2, 0, none⟩) 256 cc2) (i := p.1) Hpi.out (by rw [Hns.out]) (own_mono HO1.out (Nat.zero_le _)) (fun j hj e => by
        injection hj with hj
        have hj : C2 = j := hj
        have := Hz1.out j e
        have := HC.out.1
        omega) (fun j hj u hu e => by
        injection hj with hj
        have hj : C2 = j := hj
        have := Hlt1.out u hu j e
        have := HC.out.1
        omega) (fun j hj => by
        injection hj with hj
        subst hj
        exact .inr ⟨Nat.le_trans Hmd.out HC.out.2, (HO1.out.1.lt C2 rfl).2⟩))
      have hgg : u1.grownBy (u1.setCell ⟨g, p.1, none⟩ (.slice (some ⟨C2, 0, none⟩) 256 cc2)) (some g) := gb_set (gb_refl u1 (some g)) (p := ⟨g, p.1, none⟩) (.inl rfl) _
      have HS2 := Lib.hid (show (fun W : World => W.cell? ⟨x, 0, none⟩ = some (.slice (some ⟨g, 0, none⟩) n cap) ∧ W.cell? ⟨x, 1, none⟩ = some (.slice (some ⟨q, 0, none⟩) m ac) ∧ W.cell? ⟨q, k * 2, none⟩ = some (.int .i64 (p.1 : Int)) ∧ W.cell? ⟨q, k * 2 + 1, none⟩ = some (.slice (some ⟨C, 0, none⟩) 256 cc)) (u1.setCell ⟨g, p.1, none⟩ (.slice (some ⟨C2, 0, none⟩) 256 cc2)) from ⟨cell_off hgg HS1.out.1 Hxg.out, cell_off hgg HS1.out.2.1 Hxg.out, cell_off hgg HS1.out.2.2.1 Hqg.out, cell_off hgg HS1.out.2.2.2 Hqg.out⟩)
      obtain ⟨Cz, cz, ck, _⟩ := Hck.out u1 _ HD1.out
      have fk : u1.frozen? ⟨g, p.1, none⟩ = false := Hfk.out u1 _ HD1.out
      clear HD1 HO1 HC Hlt1 Hz1 hgg HS1
      go_simp
      go_wp2_with fail
      refine hK.out _ _ HS2.out (fun hHeld => ?_)
      clear hK K hHeld HS2
      simp only [Act.put, List.setIfInBounds_toArray, List.set_cons_zero, List.set_cons_succ]
      refine wpAnyH_done (by kernel_rfl) ?_ _
      go_wp2_with fail
      rw [Hnx.out] at HN
      go_roundw
      case rel => first | exact ⟨k + 1, _, by omega, by go_num, HN.out⟩ | ((repeat apply Exists.intro); exact ⟨⟨k + 1, _, by omega, by go_num, HN.out⟩, rfl⟩)
      case measure => simp [intOf]; omega
    · obtain rfl : k = m := by omega
      have hki : ¬ (k : Int) < (k : Int) := by omega
      have HF := Lib.hid hD.dropWa
      have c1 := (RefAt.cells hD.dv).2.1
      have f1 : wr.frozen? ⟨x, 1, none⟩ = false := Blk.free hD.dv 1
      clear hD
      go_wp2_with fail
      go_ret
      refine ⟨rfl, ?_⟩
      have h := HF.out.next (by
        have e := Hok2.out
        unfold Dv.flush at e
        rw [Hm.out, List.take_length]
        exact e) HFl.out
      rw [Hm.out, List.take_length] at h
      exact h
set_option maxRecDepth 100000 in
theorem xFlush_gone (H : RefRep w x s F) (ho : s.off = false) (ha : spentOff s.ar = true) :
    Calls Try.prog 44 #[.pointer (some ⟨x, 0, none⟩)] w fun e w' => e = .returned (.int .i64 7) ∧ RefNext F w w' x s.spent := by
  have HSp := Lib.hid (xAccess H ho)
  rw [ha] at HSp
  obtain ⟨st, wa, cp, wv, bs0, ws, rs, cv, Fz, M⟩ := H.state
  have c2 := (RefAt.cells M.dv).2.2.1
  rw [ho] at c2
  clear H ho ha M
  go_enter Try.func44, Try.ntmps44
  go_wp2_with fail
  refine HSp.out.mono ?_
  rintro e w1 ⟨rfl, hN⟩
  have HN := Lib.hid hN
  clear hN HSp
  go_wp2_with fail
  go_ret
  exact ⟨rfl, HN.out⟩
set_option maxRecDepth 100000 in
theorem xFlush_off (H : RefRep w x s F) (ho : s.off = true) :
    Calls Try.prog 44 #[.pointer (some ⟨x, 0, none⟩)] w fun e w' => e = .returned (.int .i64 7) ∧ w = w' := by
  obtain ⟨st, wa, cp, wv, bs0, ws, rs, cv, Fz, M⟩ := H.state
  have c2 := (RefAt.cells M.dv).2.2.1
  rw [ho] at c2
  clear H ho M
  go_enter Try.func44, Try.ntmps44
  go_wp2_with fail
  go_ret
  exact ⟨rfl, rfl⟩
end
end Go.Proofs.Ytjmghpoknlffiaa

namespace Go.Proofs.Ytjmghpoknlffiaa
open Go.ChangeShapes Go.WideShapes Go.ChangeAt Go.RowKit

set_option maxHeartbeats 1000000 in
theorem pick_any (x n : Int) (k : Nat) (w : World) (hk : (k : Int) = x % n) (hn : 1 ≤ n) (hn2 : n ≤ 4611686018427387904) (h1 : -9223372036854775808 ≤ x) (h2 : x ≤ 9223372036854775807) :
    Calls Try.prog 18 #[.int .i64 x, .int .i64 n] w fun e w' => e = .returned (.int .i64 k) ∧ w = w' := by
  have t1 : decide (n < 1) = false := by simp; omega
  by_cases hx : 0 ≤ x
  · have Hk := Lib.hid hk
    have h3 : 0 ≤ x % n := Int.emod_nonneg x (by omega)
    have t2 : ¬ x % n < 0 := by omega
    clear hk
    go_enter Try.func18, Try.ntmps18
    go_wp2_with fail
    go_ret
    exact ⟨by rw [Hk.out]; rfl, rfl⟩
  · have he : x.tmod n = - ((-x) % n) := by
      have := Int.neg_tmod (-x) n
      rw [Int.neg_neg] at this
      rw [this, Int.tmod_eq_emod_of_nonneg (by omega)]
    have h4 := Int.emod_nonneg (-x) (show n ≠ 0 by omega)
    have h5 := Int.emod_lt_of_pos (-x) (show 0 < n by omega)
    have hs : (x + -x) % n = 0 := by rw [Int.add_right_neg]; simp
    by_cases hz : (-x) % n = 0
    · have ez : x.tmod n = 0 := by omega
      have hxz : x % n = 0 := by
        rw [Int.emod_eq_zero_of_dvd]
        exact (Int.dvd_neg).1 (Int.dvd_of_emod_eq_zero hz)
      have Hk := Lib.hid (show (k : Int) = 0 by omega)
      clear hk he h4 h5 hs hz hxz
      have hneg : x < 0 := by omega
      go_enter Try.func18, Try.ntmps18
      go_wp2_with fail
      go_ret
      exact ⟨by rw [Hk.out]; rfl, rfl⟩
    · obtain ⟨m, hm⟩ : ∃ m, m = x.tmod n := ⟨_, rfl⟩
      have hm1 : m < 0 := by omega
      have hm2 : -n < m := by omega
      have hd : x % n = m + n := by
        have h6 := Int.mul_ediv_add_emod (-x) n
        obtain ⟨q, hq⟩ : ∃ q, q = (-x) / n := ⟨_, rfl⟩
        rw [← hq] at h6
        have e1 : x = (m + n) + n * (-q - 1) := by
          rw [Int.mul_sub, Int.mul_neg]
          omega
        rw [e1, Int.add_mul_emod_self_left]
        exact Int.emod_eq_of_lt (by omega) (by omega)
      have Hk := Lib.hid (show (k : Int) = m + n by omega)
      have em := hm.symm
      clear hk he h4 h5 hs hz hd hm
      have hneg : x < 0 := by omega
      go_enter Try.func18, Try.ntmps18
      go_wp2_with fail
      go_ret
      exact ⟨by rw [Hk.out]; rfl, rfl⟩
end Go.Proofs.Ytjmghpoknlffiaa

namespace Go.Proofs.Ytjmghpoknlffiaa
open Go.ChangeShapes Go.WideShapes Go.ChangeAt Go.RowKit
set_option linter.unusedSimpArgs false

theorem tornX_zero (old fresh : List Nat) : torn old fresh 0 = old := rfl
theorem tornX_step {old fresh : List Nat} (h1 : Bl old) (h2 : Bl fresh) {j z : Nat} (hj : j < 256) (hz : fresh[j]? = some z) : (torn old fresh j).set j z = torn old fresh (j + 1) := by
  unfold torn
  have hl : (fresh.take j).length = j := by rw [List.length_take, h2.1]; omega
  rw [List.set_append_right _ _ (by omega), hl, Nat.sub_self, List.drop_eq_getElem_cons (by rw [h1.1]; exact hj), List.set_cons_zero, List.take_add_one, hz]
  simp
section
variable {w : World} {x : Nat} {s : Dv} {F : Nat → Prop}
/-- A byte of a stored block turns in its place. -/
theorem XM.byte {w0 : World} {st wa cp wr : Value} {bs ws rs cv : List Value} {Fz : Nat → Prop} (H : XM F w0 w x st wa cp wr bs ws rs cv Fz s) {i j z C cc : Nat} {b : List Nat} (hu : bs[i]? = some (.slice (some ⟨C, 0, none⟩) 256 cc)) (hb : s.st[i]? = some b) (hl : b.length = 256) (hz : z < 256) :
    XM F w0 (w.setCell ⟨C, j, none⟩ (vb z)) x st wa cp wr bs ws rs cv Fz { s with st := s.st.set i (b.set j z) } := by
  have hO := H.st.2 i _ b hu hb
  have hO2 := hO.stored hl j z hz
  have hg : w.grownBy (w.setCell ⟨C, j, none⟩ (vb z)) (some C) := gb_set (gb_refl w (some C)) (p := ⟨C, j, none⟩) (.inl rfl) (vb z)
  have hr : ∀ k, some C = some k → ∃ c, Blk w k 5 c := fun k e => own_typed hO.1 k (by injection e with e; rw [← e]; rfl)
  have gm := grown_mono (F := F) (w0 := w0) hg.size
  have hCz : ¬ Fz C := H.z2 _ (List.mem_of_getElem? hu) C rfl
  have hfz : ∀ k, Fz k → k < w.heap.size → (w.setCell ⟨C, j, none⟩ (vb z)).heap[k]? = w.heap[k]? := fun k hk hl => hg.block k hl (fun e => by injection e with e; exact hCz (e ▸ hk))
  refine ⟨blk_keep hr hg H.dv (by decide), ⟨by rw [List.length_set]; exact own_keep hr hg H.st.1 (by decide), fun l u e h1 h2 => ?_⟩, ⟨own_keep hr hg H.wa.1 (by decide), H.wa.2.1, fun l u p h1 h2 => ownB_eq (H.wa.2.2 l u p h1 h2) (fun k hk => hfz k (H.z5 u (List.mem_of_getElem? h1) k hk) ((H.wa.2.2 l u p h1 h2).1.lt k hk).2)⟩,
    ⟨own_keep hr hg H.wr.1 (by decide), H.wr.2.1, fun l u p h1 h2 => ownB_eq (H.wr.2.2 l u p h1 h2) (fun k hk => hfz k (H.z6 u (List.mem_of_getElem? h1) k hk) ((H.wr.2.2 l u p h1 h2).1.lt k hk).2)⟩, own_keep hr hg H.cp (by decide), fun l u e h1 h2 => (H.ci l u e h1 h2).off hg hCz,
    H.z1, H.z2, H.z3, H.z4, H.z5, H.z6, fun k hk => gm k (H.zb k hk), gm _ H.f0, fun k hk => gm k (H.f1 k hk), fun v hv k hk => gm k (H.f2 v hv k hk), fun k hk => gm k (H.f3 k hk), fun k hk => gm k (H.f4 k hk), fun k hk => gm k (H.f5 k hk),
    H.md.grown hg (fun k hk => by injection hk with hk; rw [← hk]; exact H.row (H.f2 _ (List.mem_of_getElem? hu) C rfl))⟩
  by_cases hij : i = l
  · subst hij
    rw [List.getElem?_set_self (List.getElem?_eq_some_iff.1 hb).1] at h2
    injection h2 with h2
    rw [hu] at h1
    injection h1 with h1
    rw [← h1, ← h2]
    exact hO2
  · rw [List.getElem?_set_ne hij] at h2
    exact ownB_eq (H.st.2 l u e h1 h2) (fun k hk => hg.block k ((H.st.2 l u e h1 h2).1.lt k hk).2 (fun e => by
      injection e with e
      exact H.z3 i l _ u hij hu h1 C rfl (e ▸ hk)))
theorem XM.back {w0 : World} {st wa cp wr : Value} {bs ws rs cv : List Value} {Fz : Nat → Prop} (H : XM F w0 w x st wa cp wr bs ws rs cv Fz s) :
    XM F w0 (((w.setCell ⟨x, 1, none⟩ (.slice none 0 0)).setCell ⟨x, 2, none⟩ (.bool false)).setCell ⟨x, 3, none⟩ (.int .i64 0)) x st (.slice none 0 0) cp wr bs [] rs cv Fz { s with wa := [], off := false, ar := 0 } :=
  H.dropWa.turn (off := false) (ar := 0) (co := s.co) (gb_set (gb_set (gb_refl _ (some x)) (p := ⟨x, 2, none⟩) (.inl rfl) _) (p := ⟨x, 3, none⟩) (.inl rfl) _) ((Blk.put H.dropWa.dv 2 (.bool false)).put 3 (.int .i64 0))
set_option maxRecDepth 100000 in
theorem xOn_up (H : RefRep w x s F) (ho : s.off = false) (a : Option Addr) (len cap : Nat) :
    Calls Try.prog 48 #[.pointer (some ⟨x, 0, none⟩), .slice a len cap] w fun e w' => e = .returned (.tuple #[]) ∧ w = w' := by
  obtain ⟨st, wa, cp, wr, bs, ws, rs, cv, Fz, M⟩ := H.state
  have c2 := (RefAt.cells M.dv).2.2.1
  rw [ho] at c2
  clear M H ho
  go_enter Try.func48, Try.ntmps48
  go_wp2_with fail
  all_goals first | (refine bodyPost_end (results_none rfl _ _ _) rfl ⟨rfl, rfl⟩) | (refine bodyPost_ret (results_none rfl _ _ _) rfl ⟨rfl, rfl⟩)
set_option maxRecDepth 100000 in
set_option maxHeartbeats 8000000 in
theorem xOn_down (H : RefRep w x s F) (ho : s.off = true) (a : Option Addr) (len cap : Nat) (fs : List Int) (hf : NumsIn w a len fs) (hout : 0 < len → ∀ ad, a = some ad → ¬ F ad.block) (hlen : len ≤ 9223372036854775807) (hwl : s.wa.length ≤ 1000000000) :
    Calls Try.prog 48 #[.pointer (some ⟨x, 0, none⟩), .slice a len cap] w fun e w' => e = .returned (.tuple #[]) ∧ RefNext F w w' x (s.on fs) := by
  have Hok := Lib.hid H.1
  have HFl := Lib.hid H.2.1
  have Hok2 := Lib.hid (H.1.on fs)
  have Hfs := Lib.hid hf
  have Hout := Lib.hid hout
  have Hlen := Lib.hid hlen
  have Ho := Lib.hid ho
  obtain ⟨st, wa, cp, wv, bs, ws, rs, cv, Fz, M⟩ := H.state
  obtain ⟨ao, ac, rfl⟩ := own_len M.wa.1
  obtain ⟨m, hm⟩ : ∃ m, m = s.wa.length := ⟨_, rfl⟩
  have Hm := Lib.hid hm
  rw [← hm] at M
  obtain ⟨g, cap2, hst, _⟩ := M.st.slot Hok.out.n1 Hok.out.st
  obtain ⟨n, hn⟩ : ∃ n, n = s.st.length := ⟨_, rfl⟩
  have Hn := Lib.hid hn
  rw [← hn] at hst
  subst hst
  have hn2 : n ≤ 65536 := by rw [hn]; exact Hok.out.n2
  have HD := Lib.hid M
  have c1 := (RefAt.cells M.dv).2.1
  have c2 := (RefAt.cells M.dv).2.2.1
  rw [ho] at c2
  have hmb : m ≤ 1000000000 := by omega
  clear H ho hf hout hlen hwl M hm hn
  go_enter Try.func48, Try.ntmps48
  go_wp2_with fail
  clear c1 c2
  go_loopw [4] (fun i wx => ∃ k : Nat, k ≤ m ∧ i = .int .i64 k ∧ XM F w wx x (.slice (some ⟨g, 0, none⟩) n cap2) (.slice ao m ac) cp wv bs ws rs cv Fz { s with st := onL s.st s.wa fs k }) (fun i _ => m - (intOf i).toNat)
  case atStart => exact ⟨0, by omega, rfl, HD.out⟩
  case round =>
    clear HD
    obtain ⟨k, hk, rfl, hD⟩ := hrel
    by_cases hlt : k < m
    · have hki : (k : Int) < (m : Int) := by omega
      obtain ⟨p, hp⟩ : ∃ p, s.wa[k]? = some p := ⟨_, List.getElem?_eq_getElem (by rw [← Hm.out]; exact hlt)⟩
      have hgd : s.wa.getD k (0, []) = p := by rw [List.getD_eq_getElem?_getD, hp]; rfl
      have hpw := Hok.out.wa p (List.mem_of_getElem? hp)
      have Hpb := Lib.hid hpw.2
      obtain ⟨s3, hs3⟩ : ∃ s3 : Dv, s3 = { s with st := onL s.st s.wa fs k } := ⟨_, rfl⟩
      have Hs3 := Lib.hid hs3
      have hl3 : s3.st.length = s.st.length := by rw [hs3]; exact onL_len _ _ _ _
      have Hpi := Lib.hid (show p.1 < s3.st.length by rw [hl3]; exact hpw.1)
      have Hns := Lib.hid (show n = s3.st.length by rw [hl3]; exact Hn.out)
      have Hst := Lib.hid (show ∀ b ∈ s3.st, Bl b by rw [hs3]; exact onL_bl fs Hok.out.st Hok.out.wa k (by rw [← Hm.out]; exact hk))
      have Hnx := Lib.hid (show { s3 with st := s3.st.set p.1 (torn (s3.st.getD p.1 []) p.2 (fate fs k)) } = { s with st := onL s.st s.wa fs (k + 1) } by rw [hs3, onL, hgd])
      have Hwa3 := Lib.hid (show s3.wa = s.wa by rw [hs3])
      have Hp := Lib.hid hp
      rw [← hs3] at hD
      have hpi3 : (p.1 : Int) < (n : Int) := by have := Hpi.out; have := Hns.out; omega
      have hWR := hD.wa
      rw [Hwa3.out] at hWR
      obtain ⟨q, qc, hwa, hcell⟩ := hWR.slot (by rw [← Hm.out]; omega) (fun p hp => (Hok.out.wa p hp).2)
      rw [← Hm.out] at hwa
      injection hwa with e1 e2 e3
      subst e1 e3
      obtain ⟨C, cc, k1, k2, hO1, hwsk⟩ := hcell k p hp
      have Hwsk := Lib.hid hwsk
      obtain ⟨o3, ho3⟩ : ∃ o3, s3.st[p.1]? = some o3 := ⟨_, List.getElem?_eq_getElem Hpi.out⟩
      have Ho3 := Lib.hid ho3
      have Ho3b := Lib.hid (Hst.out o3 (List.mem_of_getElem? ho3))
      have Hgd3 := Lib.hid (show s3.st.getD p.1 [] = o3 by rw [List.getD_eq_getElem?_getD, ho3]; rfl)
      rw [Hgd3.out] at Hnx
      obtain ⟨g', c', eg, hslot⟩ := hD.st.slot (by have := Hpi.out; omega) Hst.out
      obtain ⟨C1, cc1, _, _, hbs1⟩ := hslot p.1 o3 ho3
      have Hbs1 := Lib.hid hbs1
      have c1 := (RefAt.cells hD.dv).2.1
      have hal := nu_alloc (nu_refl wr) (.cells #[.int .i64 0, .slice none 0 0] 64)
      have HGm := Lib.hid (Blk.made wr 64 #[.int .i64 0, .slice none 0 0])
      have HGf := Lib.hid (Blk.fill HGm.out [.int .i64 (p.1 : Int), .slice (some ⟨C, 0, none⟩) 256 cc] rfl)
      have HD4 := Lib.hid (hD.below (nu_fill [.int .i64 (p.1 : Int), .slice (some ⟨C, 0, none⟩) 256 cc] (g := wr.heap.size) (Nat.le_refl _) 0 _ hal))
      obtain ⟨K, hK⟩ : ∃ K, K = fate fs k := ⟨_, rfl⟩
      have HK := Lib.hid hK
      have HK2 := Lib.hid (show K ≤ 256 by rw [hK]; exact fate_le fs k)
      rw [← hK] at Hnx
      have HFn := Lib.hid (Hfs.out.mods hD.md Hout.out)
      clear hK hD hWR hcell hO1 hwsk ho3 hslot hbs1 eg hs3 hl3 hpw hp hal hgd
      go_upto_region 5 with fail
      go_upto_if 24 with fail
      obtain ⟨w5, rfl⟩ : ∃ q : World, q = wr := ⟨_, rfl⟩
      go_cut [5] (fun s5 wx => s5 = .int .i64 (K : Int) ∧ wx = w5)
      case first =>
        clear HGf HD4 HGm c1 k1 k2
        by_cases h0 : len = 0
        · have hl0 : ¬ (0 : Int) < (len : Int) := by omega
          have hK0 : K = 0 := by
            rw [HK.out, fate, if_pos]
            exact List.eq_nil_of_length_eq_zero (by rw [Hfs.out.1]; exact h0)
          clear h0
          go_wp2_with fail
          go_meet
          exact ⟨by rw [hK0]; rfl, rfl⟩
        · have hl0 : (0 : Int) < (len : Int) := by omega
          have hlz : ((len : Int) == 0) = false := by rw [beq_eq_false_iff_ne]; omega
          obtain ⟨b, off, rfl, _, hc⟩ := HFn.out.2.2 (by omega)
          obtain ⟨j, hj⟩ : ∃ j, j = k % len := ⟨_, rfl⟩
          have hjl : j < len := by rw [hj]; exact Nat.mod_lt _ (by omega)
          obtain ⟨v, hv⟩ : ∃ v, fs[j]? = some v := ⟨_, List.getElem?_eq_getElem (by rw [Hfs.out.1]; exact hjl)⟩
          have hcv := hc j v hv
          have hvb := Hfs.out.2.1 v (List.mem_of_getElem? hv)
          have ej : Int.tmod (k : Int) (len : Int) = (j : Int) := by rw [Int.tmod_eq_emod_of_nonneg (by omega), hj]; rfl
          have ej2 : (k : Int) % (len : Int) = (j : Int) := by rw [hj]; rfl
          have wj : IntKind.i64.wrap (j : Int) = (j : Int) := by have := Hlen.out; rw [IntKind.wrap_i64]; omega
          have hjl2 : (j : Int) < (len : Int) := by omega
          have hKv : (K : Int) = v % 257 := by
            rw [HK.out, fate, if_neg (fun e => by rw [e] at hv; cases hv), Hfs.out.1, ← hj, List.getD_eq_getElem?_getD, hv]
            exact Int.toNat_of_nonneg (Int.emod_nonneg _ (by omega))
          have HPk := Lib.hid (pick_any v 257 K w5 hKv (by omega) (by omega) hvb.1 hvb.2)
          clear h0 hc hj hv hvb hKv HFn hjl
          go_wp2_with fail
          refine HPk.out.mono ?_
          rintro e w6 ⟨rfl, rfl⟩
          go_wp2_with fail
          go_meet
          exact ⟨rfl, rfl⟩
      case rest =>
        obtain ⟨rfl, rfl⟩ := hcut
        go_upto_region 8 with (refine wpList_store_in rfl 64 (.tmp 6) (.tmp 39) rfl wc.heap.size 0 [.int .i64 (p.1 : Int), .slice (some ⟨C, 0, none⟩) 256 cc] rfl rfl 64 _ HGm.out (by simp) (by kernel_rfl) (fun u hu => by simp only [List.mem_cons, List.not_mem_nil, or_false] at hu; rcases hu with rfl | rfl <;> rfl) ?_)
        change Code.wp _ _ _ _ ((wc.alloc (.cells #[.int .i64 0, .slice none 0 0] 64)).setCells wc.heap.size 0 [.int .i64 (p.1 : Int), .slice (some ⟨C, 0, none⟩) 256 cc])
        clear HGm k1 k2 c1 HFn
        generalize (wc.alloc (.cells #[.int .i64 0, .slice none 0 0] 64)).setCells wc.heap.size 0 [.int .i64 (p.1 : Int), .slice (some ⟨C, 0, none⟩) 256 cc] = w4 at *
        obtain ⟨G, hG⟩ : ∃ G, G = wc.heap.size := ⟨_, rfl⟩
        rw [← hG] at HGf
        rw [← hG]
        clear hG
        have HG := Lib.hid (show Blk w4 G 64 #[.int .i64 (p.1 : Int), .slice (some ⟨C, 0, none⟩) 256 cc] from HGf.out)
        clear HGf
        have hK6 : (K : Int) ≤ 256 := by have := HK2.out; omega
        go_wp2_with fail
        go_loopw [7] (fun jv wx => ∃ j : Nat, j ≤ K ∧ jv = .int .i64 j ∧ Blk wx G 64 #[.int .i64 (p.1 : Int), .slice (some ⟨C, 0, none⟩) 256 cc] ∧ XM F w wx x (.slice (some ⟨g, 0, none⟩) n cap2) (.slice (some ⟨q, 0, none⟩) m ac) cp wv bs ws rs cv Fz { s3 with st := s3.st.set p.1 (torn o3 p.2 j) }) (fun jv _ => K - (intOf jv).toNat)
        case atStart => exact ⟨0, by omega, rfl, HG.out, by
          have e : s3.st.set p.1 (torn o3 p.2 0) = s3.st := by
            rw [tornX_zero]
            exact List.ext_getElem? (fun l => by
              by_cases hl : p.1 = l
              · subst hl
                rw [List.getElem?_set_self Hpi.out, Ho3.out]
              · rw [List.getElem?_set_ne hl])
          rw [e]
          exact HD4.out⟩
        case round =>
          clear HG HD4
          obtain ⟨j, hj, rfl, hG, hD⟩ := hrel
          by_cases hjK : j < K
          · have hji : (j : Int) < (K : Int) := by omega
            have hj6 : j < 256 := by have := HK2.out; omega
            have hji6 : (j : Int) < 256 := by omega
            obtain ⟨s4, hs4⟩ : ∃ s4 : Dv, s4 = { s3 with st := s3.st.set p.1 (torn o3 p.2 j) } := ⟨_, rfl⟩
            have hl4 : s4.st.length = s3.st.length := by rw [hs4]; exact List.length_set ..
            have hw4 : s4.wa = s.wa := by rw [hs4]; exact Hwa3.out
            have hat : s4.st[p.1]? = some (torn o3 p.2 j) := by rw [hs4]; exact List.getElem?_set_self Hpi.out
            have htb : Bl (torn o3 p.2 j) := torn_bl Ho3b.out Hpb.out j
            have hb4 : ∀ b ∈ s4.st, Bl b := by rw [hs4]; exact set_bl Hst.out htb
            rw [← hs4] at hD
            obtain ⟨z, hz, hz8⟩ := Hpb.out.at hj6
            obtain ⟨o, hoo, _⟩ := htb.at hj6
            have hWR := hD.wa
            rw [hw4] at hWR
            obtain ⟨q', qc', hwa, hcell⟩ := hWR.slot (by rw [← Hm.out]; omega) (fun p hp => (Hok.out.wa p hp).2)
            obtain ⟨C', cc', k1, k2, hO1, hwsk⟩ := hcell k p Hp.out
            rw [Hwsk.out] at hwsk
            injection hwsk with e
            injection e with e1 e2 e3
            injection e1 with e1
            injection e1 with e1
            subst e1
            subst e3
            have kz : wr.cell? ⟨C, j, none⟩ = some (.int .u8 (z : Int)) := hO1.cellAt Hpb.out.1 j z hz
            have hO3 := hD.st.2 p.1 _ _ Hbs1.out hat
            have ko : wr.cell? ⟨C1, j, none⟩ = some (.int .u8 (o : Int)) := hO3.cellAt htb.1 j o hoo
            have kG0 : wr.cell? ⟨G, 0, none⟩ = some (.int .i64 (p.1 : Int)) := hG.at 0 _ rfl
            have kG1 : wr.cell? ⟨G, 1, none⟩ = some (.slice (some ⟨C, 0, none⟩) 256 cc) := hG.at 1 _ rfl
            have c0 := (RefAt.cells hD.dv).1
            obtain ⟨g', c', eg, hslot⟩ := hD.st.slot (by have := Hpi.out; omega) hb4
            injection eg with eg1 eg2 eg3
            clear eg2 eg3
            injection eg1 with eg1
            injection eg1 with eg1
            subst eg1
            obtain ⟨C2, cc2, ks, _, hbs2⟩ := hslot p.1 _ hat
            rw [Hbs1.out] at hbs2
            injection hbs2 with e
            injection e with e1 e2 e3
            injection e1 with e1
            injection e1 with e1
            subst e1
            subst e3
            obtain ⟨_, hC1⟩ := own_typed hO3.1 C1 rfl
            have hGC : G ≠ C1 := Blk.apart hG hC1 (by decide)
            have hD6 := hD.below (nu_drew (nu_refl wr))
            have HD7 := Lib.hid (hD6.byte (j := j) Hbs1.out hat htb.1 hz8)
            have HG7 := Lib.hid (hG.drew.far (p := ⟨C1, j, none⟩) hGC (vb z))
            have HF := Lib.hid (And.intro (cell_below (nu_drew (nu_refl wr)) ko) (hC1.drew.free j))
            have Hnj := Lib.hid (show { s4 with st := s4.st.set p.1 ((torn o3 p.2 j).set j z) } = { s3 with st := s3.st.set p.1 (torn o3 p.2 (j + 1)) } by rw [hs4, List.set_set, tornX_step Ho3b.out Hpb.out hj6 hz])
            rw [Hnj.out] at HD7
            simp only [vb] at HD7 HG7
            clear hG hD hs4 hl4 hw4 hat htb hb4 hz hz8 hoo hWR hcell hwa k1 k2 hO1 hO3 hslot hC1 hGC hD6 Hnj
            go_upto_region 11 with fail
            go_still_tail 15, (by kernel_rfl)
            change wpList _ _ _ _ _ wr.drew
            clear c0 kz ko kG0 kG1 ks
            obtain ⟨cA2, fA2⟩ := HF.out
            clear HF
            generalize wr.drew = w6 at *
            go_wp2_with fail
            clear cA2 fA2
            generalize w6.setCell ⟨C1, j, none⟩ (.int .u8 (z : Int)) = w7 at *
            go_roundw
            case rel => first | exact ⟨j + 1, by omega, by go_num, HG7.out, HD7.out⟩ | ((repeat apply Exists.intro); exact ⟨⟨j + 1, by omega, by go_num, HG7.out, HD7.out⟩, rfl⟩)
            case measure => simp [intOf]; omega
          · obtain rfl : j = K := by omega
            have hji : ¬ (j : Int) < (j : Int) := by omega
            rw [Hnx.out] at hD
            have HN := Lib.hid hD
            clear hG hD
            go_wp2_with fail
            go_roundw
            case rel => first | exact ⟨k + 1, by omega, by go_num, HN.out⟩ | ((repeat apply Exists.intro); exact ⟨⟨k + 1, by omega, by go_num, HN.out⟩, rfl⟩)
            case measure => simp [intOf]; omega
    · obtain rfl : k = m := by omega
      have hki : ¬ (k : Int) < (k : Int) := by omega
      have HF := Lib.hid hD.back
      have c1 := (RefAt.cells hD.dv).2.1
      have f1 : wr.frozen? ⟨x, 1, none⟩ = false := Blk.free hD.dv 1
      have c2 := (RefAt.cells hD.dv).2.2.1
      have f2 : wr.frozen? ⟨x, 2, none⟩ = false := Blk.free hD.dv 2
      have c3 := (RefAt.cells hD.dv).2.2.2.1
      have f3 : wr.frozen? ⟨x, 3, none⟩ = false := Blk.free hD.dv 3
      clear hD
      go_wp2_with fail
      refine bodyPost_end (results_none rfl _ _ _) rfl ⟨rfl, ?_⟩
      have e := Hok2.out
      unfold Dv.on at e ⊢
      rw [if_pos Ho.out] at e ⊢
      have h := HF.out.next (by rw [Hm.out]; exact e) HFl.out
      rw [Hm.out] at h
      exact h
end
end Go.Proofs.Ytjmghpoknlffiaa

namespace Go.Proofs.Ytjmghpoknlffiaa
open Go.ChangeShapes Go.WideShapes Go.ChangeAt Go.RowKit
set_option linter.unusedSimpArgs false

section
variable {w : World} {x : Nat} {s : Dv} {F : Nat → Prop}
set_option maxRecDepth 100000 in
set_option maxHeartbeats 8000000 in
theorem xLay {w0 : World} {st wa cp wv : Value} {bs ws rs cv : List Value} {Fz : Nat → Prop} (M : XM F w0 w x st wa cp wv bs ws rs cv Fz s) (hok : s.Ok) (hFl : ∀ k, F k → k < w0.heap.size) (i : Nat) (hi : i < s.st.length) (C cc : Nat) (b : List Nat) (hb : Bl b)
    (hO : OwnB w 0 5 (.slice (some ⟨C, 0, none⟩) 256 cc) b) (hC : w0.heap.size ≤ C) (hz : ¬ Fz C) (hn : ∀ u ∈ bs, u.ownBlock ≠ some C) (hwl : s.wa.length ≤ 1000000000) :
    Calls Try.prog 58 #[.pointer (some ⟨x, 0, none⟩), .int .i64 (i : Int), .slice (some ⟨C, 0, none⟩) 256 cc] w fun e w' => e = .returned (.tuple #[]) ∧ RefNext F w0 w' x (s.settle i b) := by
  have Hok := Lib.hid hok
  have HFl := Lib.hid hFl
  have Hok2 := Lib.hid (hok.settle (i := i) hb)
  have Hbb := Lib.hid hb
  have Hi := Lib.hid hi
  have HO := Lib.hid hO
  have HC := Lib.hid hC
  have Hz := Lib.hid hz
  have Hn := Lib.hid hn
  obtain ⟨iv, hiv, hv0, hv1, hv2⟩ := info_parts info_wrt
  have Hiv := Lib.hid (And.intro hiv (And.intro hv0 (And.intro hv1 hv2)))
  obtain ⟨ao, ac, rfl⟩ := own_len M.wa.1
  obtain ⟨m, hm⟩ : ∃ m, m = s.wa.length := ⟨_, rfl⟩
  have Hm := Lib.hid hm
  rw [← hm] at M
  have hmb : m ≤ 1000000000 := by omega
  obtain ⟨g, cap2, hst, _⟩ := M.st.slot hok.n1 hok.st
  obtain ⟨n, hnn⟩ : ∃ n, n = s.st.length := ⟨_, rfl⟩
  have Hnn := Lib.hid hnn
  rw [← hnn] at hst
  subst hst
  have hn2 : n ≤ 65536 := by rw [hnn]; exact hok.n2
  have hin : (i : Int) < (n : Int) := by omega
  have HD := Lib.hid M
  have c1 := (RefAt.cells M.dv).2.1
  clear hok hFl hb hi hO hC hz hn hwl M hm hnn hiv hv0 hv1 hv2
  go_enter Try.func58, Try.ntmps58
  go_wp2_with fail
  clear c1
  go_loopw [6, 7] (fun y6 jv wx => ∃ (k : Nat) (v : Value) (ws2 : List Value), k ≤ m ∧ jv = .int .i64 k ∧ v = y6 ∧ Below w.heap.size w wx ∧ wx.ownsRow w.heap.size 64 2 v (keptL s.wa i k).length (flatR (keptL s.wa i k) ws2) ∧ WrRow wx 0 v (keptL s.wa i k) ws2 ∧ ∀ u ∈ ws2, u ∈ ws) (fun _ jv _ => m - (intOf jv).toNat)
  case atStart => exact ⟨0, _, [], by omega, rfl, rfl, nu_refl w, World.ownsRow_nil _ _ _ _, ⟨World.ownsRow_nil _ _ _ _, rfl, (fun i u p h => by cases h)⟩, (fun u h => by cases h)⟩
  case round =>
    obtain ⟨k, v6, ws2, hk, rfl, rfl, hb, hown, hrow, hsub⟩ := hrel
    have hD := HD.out.below hb
    have c1 := (RefAt.cells hD.dv).2.1
    by_cases hlt : k < m
    · have hki : (k : Int) < (m : Int) := by omega
      obtain ⟨p, hp⟩ : ∃ p, s.wa[k]? = some p := ⟨_, List.getElem?_eq_getElem (by rw [← Hm.out]; exact hlt)⟩
      have Hpb := Lib.hid (Hok.out.wa p (List.mem_of_getElem? hp)).2
      obtain ⟨q, qc, hwa, hcell⟩ := hD.wa.slot (by rw [← Hm.out]; omega) (fun p hp => (Hok.out.wa p hp).2)
      rw [← Hm.out] at hwa
      injection hwa with e1 e2 e3
      subst e1 e3
      clear e2
      obtain ⟨C1, cc1, k1, k2, hO1, hws⟩ := hcell k p hp
      have Hsn := Lib.hid (keptL_snoc (i := i) hp)
      by_cases he : p.1 = i
      · have hb2 : ((p.1 : Int) != (i : Int)) = false := by rw [he]; simp
        have He := Lib.hid (show keptL s.wa i (k + 1) = keptL s.wa i k by rw [Hsn.out, if_pos he, List.append_nil])
        have HR := Lib.hid (show Below w.heap.size w wr ∧ wr.ownsRow w.heap.size 64 2 v6 (keptL s.wa i (k + 1)).length (flatR (keptL s.wa i (k + 1)) ws2) ∧ WrRow wr 0 v6 (keptL s.wa i (k + 1)) ws2 ∧ ∀ u ∈ ws2, u ∈ ws by rw [He.out]; exact ⟨hb, hown, hrow, hsub⟩)
        generalize (p.1 : Int) = P1 at *
        clear hD hcell hO1 hws hp he hb hown hrow hsub k2
        go_wp2_with fail
        go_roundw
        case rel => first | exact ⟨k + 1, v6, ws2, by omega, by go_num, rfl, HR.out⟩ | ((repeat apply Exists.intro); exact ⟨⟨k + 1, v6, ws2, by omega, by go_num, rfl, HR.out⟩, rfl⟩)
        case measure => simp [intOf]; omega
      · have hb2 : ((p.1 : Int) != (i : Int)) = true := by rw [bne_iff_ne]; omega
        have He := Lib.hid (show keptL s.wa i (k + 1) = keptL s.wa i k ++ [p] by rw [Hsn.out, if_neg he])
        have hal := nu_alloc (nu_refl wr) (.cells #[.int .i64 (p.1 : Int), .slice (some ⟨C1, 0, none⟩) 256 cc1] 64)
        have HA := Lib.hid (Blk.made wr 64 #[.int .i64 (p.1 : Int), .slice (some ⟨C1, 0, none⟩) 256 cc1])
        have HOw := Lib.hid (own_eq hown (fun q hq => hal.block q (hown.lt q hq).2))
        have HRw := Lib.hid (hrow.below hal)
        have HO1 := Lib.hid (ownB_under hO1 hal)
        have Hb6 := Lib.hid (nu_trans hb hal)
        have Hsub := Lib.hid (show ∀ u ∈ ws2 ++ [.slice (some ⟨C1, 0, none⟩) 256 cc1], u ∈ ws from fun u hu => by
          rcases List.mem_append.1 hu with hu | hu
          · exact hsub u hu
          · rw [List.mem_singleton.1 hu]
            exact List.mem_of_getElem? hws)
        have Hkm := Lib.hid (show (keptL s.wa i k).length ≤ 1000000000 from Nat.le_trans (List.length_filter_le ..) (by rw [List.length_take]; omega))
        clear hD hcell hO1 hws hp he hb hown hrow hsub hal
        go_upto_region 6 with (first | (refine wpList_runW _ _ rfl (exec_slice1 (.tmp 34) 57 64 iv (.agg #[.int .i64 0, .slice none 0 0]) 2 Try.underlying57 Hiv.out.1 Hiv.out.2.1 Hiv.out.2.2.1 (by omega) (by omega) (.agg #[.int .i64 (p.1 : Int), .slice (some ⟨C1, 0, none⟩) 256 cc1]) rfl rfl rfl) ?_) | (at_builtin; refine wpList_append_own _ rfl (.tmp 27) (.tmp 35) 57 rfl w.heap.size 64 iv (.agg #[.int .i64 0, .slice none 0 0]) 2 32 Try.underlying57 Hiv.out.1 Hiv.out.2.1 Hiv.out.2.2.1 Hiv.out.2.2.2 rfl (by omega) _ (keptL s.wa i k).length (flatR (keptL s.wa i k) ws2) rfl HOw.out ⟨wr.heap.size, 0, none⟩ 1 1 [.int .i64 (p.1 : Int), .slice (some ⟨C1, 0, none⟩) 256 cc1] rfl rfl (fun j u hu => by rw [Addr.add_lit, Nat.zero_add]; exact HA.out.at j u (by simpa using hu)) (fun u hu => by simp only [List.mem_cons, List.not_mem_nil, or_false] at hu; rcases hu with rfl | rfl <;> rfl) (by have := Hkm.out; unfold maxLen; omega) (by have := Hkm.out; omega) Hb6.out.size ?_))
        intro v' w5 hown hg _
        have HR := Lib.hid (show Below w.heap.size w w5 ∧ w5.ownsRow w.heap.size 64 2 v' (keptL s.wa i (k + 1)).length (flatR (keptL s.wa i (k + 1)) (ws2 ++ [.slice (some ⟨C1, 0, none⟩) 256 cc1])) ∧ WrRow w5 0 v' (keptL s.wa i (k + 1)) (ws2 ++ [.slice (some ⟨C1, 0, none⟩) 256 cc1]) ∧ ∀ u ∈ ws2 ++ [.slice (some ⟨C1, 0, none⟩) 256 cc1], u ∈ ws from by
          refine ⟨Hb6.out.grown hg Hb6.out.size (fun q hq => (HOw.out.lt q hq).1), ?_, wrRow_snoc He.out HRw.out HO1.out (own_zero hown) hg, Hsub.out⟩
          rw [He.out, List.length_append, flatR_snoc HRw.out.2.1]
          exact hown)
        clear hown hg HA Hb6 HOw HRw HO1 Hsub k1 k2
        go_wp2_with fail
        go_roundw
        case rel => first | exact ⟨k + 1, v', _, by omega, by go_num, rfl, HR.out⟩ | ((repeat apply Exists.intro); exact ⟨⟨k + 1, v', _, by omega, by go_num, rfl, HR.out⟩, rfl⟩)
        case measure => simp [intOf]; omega
    · obtain rfl : k = m := by omega
      have hki : ¬ (k : Int) < (k : Int) := by omega
      have hkl : keptL s.wa i k = s.wa.filter (fun p => !decide (p.1 = i)) := by rw [Hm.out, keptL, List.take_length]
      rw [hkl] at hown hrow
      obtain ⟨va, vc, rfl⟩ := own_len hown
      have h1 := hD.setWait hrow (fun q hq => .inr ⟨Nat.le_trans HD.out.md.size (hown.lt q hq).1, (hown.lt q hq).2⟩) (fun q hq e => by
        have h1 := (HD.out.wr.1.lt q e).2
        have h2 := (hown.lt q hq).1
        omega) (fun u hu q hq => hD.z5 u (hsub u hu) q hq)
      have hg1 : wr.grownBy (wr.setCell ⟨x, 1, none⟩ (.slice va (List.filter (fun p => !decide (p.1 = i)) s.wa).length vc)) (some x) := gb_set (gb_refl wr (some x)) (p := ⟨x, 1, none⟩) (.inl rfl) _
      have hO2 := ownB_keep (fun k e => by injection e with e; subst e; exact ⟨_, hD.dv⟩) hg1 (ownB_under HO.out hb) (show 5 ≠ 61 by decide)
      have h2 := h1.setSt (i := i) Hi.out (by rw [Hnn.out]) hO2 (fun q hq => by
        injection hq with hq
        rw [← hq]
        exact Hz.out) (fun q hq u hu => by
        injection hq with hq
        rw [← hq]
        exact Hn.out u hu) (fun q hq => by
        injection hq with hq
        rw [← hq]
        exact .inr ⟨HC.out, (hO2.1.lt C rfl).2⟩)
      have HN := Lib.hid (show RefNext F w0 _ x (s.settle i b) from h2.next Hok2.out HFl.out)
      have f1 : wr.frozen? ⟨x, 1, none⟩ = false := Blk.free hD.dv 1
      have Hc0 := Lib.hid (RefAt.cells h1.dv).1
      obtain ⟨g', c', eg, hslot⟩ := h1.st.slot Hok.out.n1 Hok.out.st
      injection eg with eg1 eg2 eg3
      injection eg1 with eg1
      injection eg1 with eg1
      subst eg1
      clear eg2 eg3
      obtain ⟨C2, cc2, ks, _, _⟩ := hslot i _ (List.getElem?_eq_getElem Hi.out)
      have Hks := Lib.hid ks
      obtain ⟨_, hG⟩ := own_typed h1.st.1 g rfl
      have Hfk := Lib.hid (hG.free i)
      clear hD hb hown hrow hsub h1 hg1 hO2 h2 hslot ks hG
      go_upto_region 7 with fail
      change Code.wp _ _ _ _ (wr.setCell ⟨x, 1, none⟩ (.slice va (List.filter (fun p => !decide (p.1 = i)) s.wa).length vc))
      clear c1 f1
      generalize wr.setCell ⟨x, 1, none⟩ (.slice va (List.filter (fun p => !decide (p.1 = i)) s.wa).length vc) = w5 at *
      have c0 := Hc0.out
      have ks := Hks.out
      have fk := Hfk.out
      clear Hc0 Hks Hfk
      go_wp2_with fail
      exact bodyPost_end (results_none rfl _ _ _) rfl ⟨rfl, HN.out⟩
end
end Go.Proofs.Ytjmghpoknlffiaa

namespace Go.Proofs.Ytjmghpoknlffiaa
open Go.ChangeShapes Go.WideShapes Go.ChangeAt Go.RowKit
set_option linter.unusedSimpArgs false

section
variable {w : World} {x : Nat} {s : Dv} {F : Nat → Prop}
/-- A block that is new lies outside of the device. -/
theorem xLay_new (H : RefRep w x s F) (i : Nat) (hi : i < s.st.length) (hwl : s.wa.length ≤ 1000000000) : ∀ (u : World) (C cc : Nat) (b : List Nat), Bl b → Below w.heap.size w u → w.heap.size ≤ C → OwnB u 0 5 (.slice (some ⟨C, 0, none⟩) 256 cc) b →
    Calls Try.prog 58 #[.pointer (some ⟨x, 0, none⟩), .int .i64 (i : Int), .slice (some ⟨C, 0, none⟩) 256 cc] u fun e w' => e = .returned (.tuple #[]) ∧ RefNext F w w' x (s.settle i b) := fun u C cc b hbb hb hC hO => by
  obtain ⟨st, wa, cp, wv, bs, ws, rs, cv, Fz, M⟩ := H.state
  exact xLay (M.below hb) H.1 H.2.1 i hi C cc b hbb hO hC (fun hz => by have := M.fz_lt H.2.1 C hz; omega) (fun v hv e => by have := M.st_lt v hv C e; omega) hwl
set_option maxRecDepth 100000 in
set_option maxHeartbeats 1000000 in
theorem xPoke_bad (H : RefRep w x s F) (a f : Int) (by0 : Option Addr) (len cap : Nat) (hf : -9223372036854775808 ≤ f ∧ f ≤ 9223372036854775807) (h : ¬ ((0 ≤ a ∧ a < (s.st.length : Int)) ∧ 0 ≤ f ∧ f ≤ 256 ∧ (len : Int) ≤ 256 - f)) :
    Calls Try.prog 49 #[.pointer (some ⟨x, 0, none⟩), .int .i64 a, .int .i64 f, .slice by0 len cap] w fun e w' => e = .returned (.int .i64 1) ∧ w = w' := by
  by_cases h1 : 0 ≤ a ∧ a < (s.st.length : Int)
  · have HH := Lib.hid (xHas_any H a true (decide_eq_true h1))
    clear H
    by_cases h2 : f < 0
    · clear h1 h
      go_enter Try.func49, Try.ntmps49
      go_wp2_with fail
      refine HH.out.mono ?_
      rintro e w' ⟨rfl, rfl⟩
      go_wp2_with fail
      go_ret
      exact ⟨rfl, rfl⟩
    · by_cases h3 : (256 : Int) < f
      · clear h1 h
        go_enter Try.func49, Try.ntmps49
        go_wp2_with fail
        refine HH.out.mono ?_
        rintro e w' ⟨rfl, rfl⟩
        go_wp2_with fail
        go_ret
        exact ⟨rfl, rfl⟩
      · obtain ⟨r, hr⟩ : ∃ r : Int, r = 256 - f := ⟨_, rfl⟩
        have e1 : 256 - f = r := hr.symm
        have wr1 : IntKind.i64.wrap r = r := by rw [IntKind.wrap_i64]; omega
        have h4 : r < (len : Int) := by omega
        clear h1 h hr
        go_enter Try.func49, Try.ntmps49
        go_wp2_with fail
        refine HH.out.mono ?_
        rintro e w' ⟨rfl, rfl⟩
        go_wp2_with fail
        go_ret
        exact ⟨rfl, rfl⟩
  · have HH := Lib.hid (xHas_any H a false (decide_eq_false h1))
    clear H h1 h
    go_enter Try.func49, Try.ntmps49
    go_wp2_with fail
    refine HH.out.mono ?_
    rintro e w' ⟨rfl, rfl⟩
    go_wp2_with fail
    go_ret
    exact ⟨rfl, rfl⟩
set_option maxRecDepth 100000 in
set_option maxHeartbeats 4000000 in
theorem xPoke_good (H : RefRep w x s F) (i : Nat) (hi : i < s.st.length) (f : Nat) (hf : f ≤ 256) (by0 : Option Addr) (len cap : Nat) (ys : List Nat) (hx : BytesIn w by0 len cap ys) (hlen : len ≤ 256 - f) (hwl : s.wa.length ≤ 1000000000) :
    Calls Try.prog 49 #[.pointer (some ⟨x, 0, none⟩), .int .i64 (i : Int), .int .i64 (f : Int), .slice by0 len cap] w fun e w' => e = .returned (.int .i64 0) ∧ RefNext F w w' x (s.settle i (pokeL (s.now i) f ys len)) := by
  have HH := Lib.hid (xHas_any H (i : Int) true (decide_eq_true ⟨by omega, by omega⟩))
  obtain ⟨D, hD⟩ : ∃ D, s.now i = D := ⟨_, rfl⟩
  have HNw := Lib.hid (xNow_any H i hi D hD hwl)
  have HDb := Lib.hid (show Bl D by rw [← hD]; exact H.1.now hi)
  have HX := Lib.hid hx
  have HP := Lib.hid (show ∀ k, Bl (pokeL D f ys k) from fun k => pokeL_bl HDb.out f (fun y hy => wf_u8_lt (hx.1.2.1 y hy)) k)
  have HSt := Lib.hid (xLay_new H i hi hwl)
  rw [hD]
  have hr1 : (256 : Int) - (f : Int) = ((256 - f : Nat) : Int) := by omega
  obtain ⟨r, hr⟩ : ∃ r : Nat, r = 256 - f := ⟨_, rfl⟩
  rw [← hr] at hr1
  have wr1 : IntKind.i64.wrap (r : Int) = (r : Int) := by rw [IntKind.wrap_i64]; omega
  have hlr : ¬ (r : Int) < (len : Int) := by omega
  have hfr : f + r = 256 := by omega
  have hlr2 : len ≤ r := by omega
  clear H hi hx hlen hwl hD hr
  go_enter Try.func49, Try.ntmps49
  go_wp2_with fail
  refine HH.out.mono ?_
  rintro e w' ⟨rfl, rfl⟩
  clear HH
  go_wp2_with fail
  refine HNw.out.mono ?_
  rintro e w2 ⟨C, cc, rfl, hO, hb⟩
  have HO := Lib.hid hO
  have Hb := Lib.hid hb
  have HC := Lib.hid (hO.1.lt C rfl)
  clear hO hb HNw
  go_wp2_with fail
  go_loopw [10] (fun y wx => ∃ k : Nat, k ≤ len ∧ y = .int .i64 k ∧ OwnB wx w.heap.size 5 (.slice (some ⟨C, 0, none⟩) 256 cc) (pokeL D f ys k) ∧ Below w.heap.size w wx) (fun y _ => len - (intOf y).toNat)
  case atStart => exact ⟨0, by omega, rfl, HO.out, Hb.out⟩
  case round =>
    clear HO Hb
    obtain ⟨k, hk, rfl, hO, hb⟩ := hrel
    by_cases hlt : k < len
    · have hki : (k : Int) < (len : Int) := by omega
      obtain ⟨b1, o1, y, hxe, _, hyk, _, hcy⟩ := (HX.out.keep hb).1.elem k hlt
      subst hxe
      have hy8 : y < 256 := wf_u8_lt (HX.out.1.2.1 y (List.mem_of_getElem? hyk))
      obtain ⟨X, hX⟩ : ∃ X, X = f + k := ⟨_, rfl⟩
      have eX : (f : Int) + (k : Int) = (X : Int) := by omega
      have wX : IntKind.i64.wrap (X : Int) = (X : Int) := by rw [IntKind.wrap_i64]; omega
      have hX6 : (X : Int) < 256 := by omega
      obtain ⟨o, ho, ho8⟩ := (HP.out k).at (j := X) (by omega)
      obtain ⟨z, hz⟩ : ∃ z, z = o ^^^ y := ⟨_, rfl⟩
      have hxx := u8_xor_nat o y ho8 hy8
      rw [← hz] at hxx
      have hz8 : z < 256 := by rw [hz]; exact Nat.xor_lt_two_pow (n := 8) ho8 hy8
      have hdl := (HP.out k).1
      have c0 : wr.cell? ⟨C, X, none⟩ = some (.int .u8 (o : Int)) := hO.cellAt hdl X o ho
      have hOd := ownB_under hO (nu_drew (nu_refl wr))
      have hset := hOd.stored hdl X z hz8
      have hnx : pokeL D f ys (k + 1) = (pokeL D f ys k).set X z := by
        rw [pokeL, ← hX, hz, List.getD_eq_getElem?_getD, ho, List.getD_eq_getElem?_getD, hyk]
        rfl
      rw [← hnx] at hset
      have HO1 := Lib.hid hset
      have Hb1 := Lib.hid (nu_set hb.drew (p := ⟨C, X, none⟩) HC.out.1 (vb z))
      have HF := Lib.hid (And.intro (hOd.cellAt hdl X o ho) (hOd.frozenAt hdl X))
      simp only [vb] at HO1 Hb1
      clear hO hb hset hnx ho ho8 hz hz8 hX hyk hy8 hdl hOd
      go_upto_region 7 with fail
      go_still_tail 16, (by kernel_rfl)
      change wpList _ _ _ _ _ wr.drew
      clear c0 hcy hxx
      obtain ⟨cA2, fA2⟩ := HF.out
      clear HF
      generalize wr.drew = w6 at *
      go_wp2_with fail
      clear cA2 fA2
      generalize w6.setCell ⟨C, X, none⟩ (.int .u8 (z : Int)) = w7 at *
      go_roundw
      case rel => first | exact ⟨k + 1, by omega, by go_num, HO1.out, Hb1.out⟩ | ((repeat apply Exists.intro); exact ⟨⟨k + 1, by omega, by go_num, HO1.out, Hb1.out⟩, rfl⟩)
      case measure => simp [intOf]; omega
    · obtain rfl : k = len := by omega
      have hki : ¬ (k : Int) < (k : Int) := by omega
      have HS := Lib.hid (HSt.out wr C cc _ (HP.out k) hb HC.out.1 (own_mono hO (Nat.zero_le _)))
      clear hO hb HSt
      go_wp2_with fail
      refine HS.out.mono ?_
      rintro e w5 ⟨rfl, hn⟩
      have Hn := Lib.hid hn
      clear hn HS
      go_wp2_with fail
      go_ret
      exact ⟨rfl, Hn.out⟩
set_option maxRecDepth 100000 in
set_option maxHeartbeats 1000000 in
theorem xCopy_bad (H : RefRep w x s F) (a b : Int) (h : ¬ ((0 ≤ a ∧ a < (s.st.length : Int)) ∧ (0 ≤ b ∧ b < (s.st.length : Int)))) :
    Calls Try.prog 50 #[.pointer (some ⟨x, 0, none⟩), .int .i64 a, .int .i64 b] w fun e w' => e = .returned (.int .i64 1) ∧ w = w' := by
  by_cases h1 : 0 ≤ a ∧ a < (s.st.length : Int)
  · have HH := Lib.hid (xHas_any H a true (decide_eq_true h1))
    have HB := Lib.hid (xHas_any H b false (decide_eq_false (fun h2 => h ⟨h1, h2⟩)))
    clear H h1 h
    go_enter Try.func50, Try.ntmps50
    go_wp2_with fail
    refine HH.out.mono ?_
    rintro e w' ⟨rfl, rfl⟩
    go_wp2_with fail
    refine HB.out.mono ?_
    rintro e w' ⟨rfl, rfl⟩
    go_wp2_with fail
    go_ret
    exact ⟨rfl, rfl⟩
  · have HH := Lib.hid (xHas_any H a false (decide_eq_false h1))
    clear H h1 h
    go_enter Try.func50, Try.ntmps50
    go_wp2_with fail
    refine HH.out.mono ?_
    rintro e w' ⟨rfl, rfl⟩
    go_wp2_with fail
    go_ret
    exact ⟨rfl, rfl⟩
set_option maxRecDepth 100000 in
set_option maxHeartbeats 1000000 in
theorem xCopy_good (H : RefRep w x s F) (i j : Nat) (hi : i < s.st.length) (hj : j < s.st.length) (hwl : s.wa.length ≤ 1000000000) :
    Calls Try.prog 50 #[.pointer (some ⟨x, 0, none⟩), .int .i64 (i : Int), .int .i64 (j : Int)] w fun e w' => e = .returned (.int .i64 0) ∧ RefNext F w w' x (s.settle j (s.now i)) := by
  have HH := Lib.hid (xHas_any H (i : Int) true (decide_eq_true ⟨by omega, by omega⟩))
  have HB := Lib.hid (xHas_any H (j : Int) true (decide_eq_true ⟨by omega, by omega⟩))
  obtain ⟨D, hD⟩ : ∃ D, s.now i = D := ⟨_, rfl⟩
  have HNw := Lib.hid (xNow_any H i hi D hD hwl)
  have HDb := Lib.hid (show Bl D by rw [← hD]; exact H.1.now hi)
  have HSt := Lib.hid (xLay_new H j hj hwl)
  rw [hD]
  clear H hi hj hwl hD
  go_enter Try.func50, Try.ntmps50
  go_wp2_with fail
  refine HH.out.mono ?_
  rintro e w' ⟨rfl, rfl⟩
  go_wp2_with fail
  refine HB.out.mono ?_
  rintro e w' ⟨rfl, rfl⟩
  go_wp2_with fail
  refine HNw.out.mono ?_
  rintro e w2 ⟨C, cc, rfl, hO, hb⟩
  have HS := Lib.hid (HSt.out w2 C cc D HDb.out hb (hO.1.lt C rfl).1 (own_mono hO (Nat.zero_le _)))
  clear hO hb HSt HNw HH HB
  go_wp2_with fail
  refine HS.out.mono ?_
  rintro e w5 ⟨rfl, hn⟩
  have Hn := Lib.hid hn
  clear hn HS
  go_wp2_with fail
  go_ret
  exact ⟨rfl, Hn.out⟩
end
end Go.Proofs.Ytjmghpoknlffiaa
