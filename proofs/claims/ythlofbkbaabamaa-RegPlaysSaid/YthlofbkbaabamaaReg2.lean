/-
  reg.Register.Write.
-/
import Derived.Test.YthlofbkbaabamaaReg1
namespace Go.Proofs.Ythlofbkbaabamaa
open Go.ChangeShapes Go.WideShapes Go.ChangeAt Go.RowKit

theorem blk_after {w : World} {g : Nat} {t : TypeId} {x : Value} {l : List Value} (h : Blk w g t (x :: l).toArray) (vs : List Value) (hl : vs.length = l.length) : Blk (w.setCells g 1 vs) g t (x :: vs).toArray := by
  have h1 := blk_setCells vs 1 w _ h
  have h2 := fold_set vs 1 (x :: l).toArray (by simp; omega)
  have h3 := congrArg List.toArray h2
  rw [Array.toArray_toList] at h3
  rw [h3] at h1
  have e : (List.take 1 (x :: l).toArray.toList ++ vs ++ List.drop (1 + vs.length) (x :: l).toArray.toList) = x :: vs := by
    rw [List.drop_of_length_le (by simp; omega)]
    simp
  rw [e] at h1
  exact h1
theorem touch_cells {w0 : World} {g d k : Nat} (vs : List Value) (hk : k = g ∨ k = d) : ∀ (o : Nat) (w : World), Touch g d w0 w → Touch g d w0 (w.setCells k o vs) := by
  induction vs with
  | nil => intro o w h; exact h
  | cons v r ih => intro o w h; exact ih (o + 1) _ (Touch.setCell h (p := ⟨k, o, none⟩) hk v)

set_option maxRecDepth 100000 in
set_option maxHeartbeats 1000000 in
theorem regWrite_down {w : World} {g d : Nat} {cur s : St} {st wa : Value} {ar co : Int} {cp wr : Value} (h : RegAt w g d cur) (hd : DevAt w d st wa true ar co cp wr) :
    Calls Try.prog 21 #[.pointer (some ⟨g, 0, none⟩), .agg (stA s)] w fun e w' => e = .returned (.int .i64 7) ∧ Below w.heap.size w w' := by
  have hn := nu_alloc (nu_refl w) (.cells (stA s) 26)
  have HU := Lib.hid (up_any (show DevAt (w.alloc (.cells (stA s) 26)) d st wa true ar co cp wr from Blk.alloc hd _))
  have c0 := RegAt.dev (show RegAt (w.alloc (.cells (stA s) 26)) g d cur from Blk.alloc h _)
  clear h hd
  generalize stA s = cs at *
  go_enter Try.func21, Try.ntmps21
  go_wp2_with fail
  refine HU.out.mono ?_
  rintro e w1 ⟨rfl, rfl⟩
  go_wp2_with fail
  go_ret
  exact ⟨rfl, hn⟩

set_option maxRecDepth 100000 in
set_option maxHeartbeats 1000000 in
theorem regWrite_up {w : World} {g d : Nat} {cur s : St} {st wa : Value} {ar co : Int} {cp wr : Value} (h : RegAt w g d cur) (hd : DevAt w d st wa false ar co cp wr) (hgd : g ≠ d) (hc : StOk cur) (hs : StOk s) (h0 : 0 ≤ ar) (h1 : ar ≤ 9223372036854775807) :
    Calls Try.prog 21 #[.pointer (some ⟨g, 0, none⟩), .agg (stA s)] w fun e w' =>
      (followsB cur s = false ∧ e = .returned (.int .i64 3) ∧ Below w.heap.size w w') ∨
      (followsB cur s = true ∧ spentOff ar = true ∧ e = .returned (.int .i64 7) ∧ RegAt w' g d cur ∧ DevAt w' d st wa true (spentAr ar) (IntKind.i64.wrap (co + 1)) cp wr ∧ Touch g d w w') ∨
      (followsB cur s = true ∧ spentOff ar = false ∧ e = .returned (.int .i64 0) ∧ RegAt w' g d s ∧ DevAt w' d st wa false (spentAr ar) (IntKind.i64.wrap (co + 1)) cp wr ∧ Touch g d w w') := by
  have hn := nu_alloc (nu_refl w) (.cells (stA s) 26)
  have HR := Lib.hid (show RegAt (w.alloc (.cells (stA s) 26)) g d cur from Blk.alloc h _)
  have HD := Lib.hid (show DevAt (w.alloc (.cells (stA s) 26)) d st wa false ar co cp wr from Blk.alloc hd _)
  have HB := Lib.hid (Blk.made w 26 (stA s))
  have HU := Lib.hid (up_any HD.out)
  have c0 := HR.out.dev
  have Hc := Lib.hid hc
  have Hs := Lib.hid hs
  have Hgl := Lib.hid (show g < w.heap.size from Blk.lt h)
  have Hdl := Lib.hid (show d < w.heap.size from Blk.lt hd)
  have H0 := Lib.hid (And.intro h0 h1)
  have Hgd := Lib.hid hgd
  have HF := Lib.hid (fun W => follows_any cur s hc hs W)
  obtain ⟨f, hf⟩ : ∃ f, followsB cur s = f := ⟨_, rfl⟩
  rw [hf]
  have Hf := Lib.hid hf
  clear h hd hc hs hf h0 h1 hgd
  go_enter Try.func21, Try.ntmps21
  go_wp2_with fail
  refine HU.out.mono ?_
  rintro e w1 ⟨rfl, rfl⟩
  go_upto_region 5 with fail
  generalize w.alloc (.cells (stA s) 26) = u0 at *
  have HLc := Lib.hid (fun (W : World) (hS : Below u0.heap.size u0 W) => RegAt.loads Hc.out (show RegAt W g d cur from Blk.below HR.out hS (Blk.lt HR.out)))
  have HLs := Lib.hid (fun (W : World) (hS : Below u0.heap.size u0 W) => loads_blk Hs.out (Blk.below HB.out hS (Blk.lt HB.out)))
  clear HU
  refine wp_region_held_drew (S := fun w' => Below u0.heap.size u0 w') (by kernel_rfl) (nu_drew (nu_refl _)) (fun hHeld => ?_)
  dsimp only [Array.replicate, List.replicate, List.size_toArray, List.length_cons, List.length_nil, Nat.reduceAdd] at hHeld ⊢
  refine take_l (i := 0) (v := ?_) rfl (by kernel_rfl) (by kernel_rfl) (by kernel_rfl) (fun _ _ _ h => h) (Or.inl ⟨by rfl, ?_⟩) (by assumption) ?_
  case refine_2 => (intro _ _; go_simp; all_goals with_reducible rfl)
  simp only [Act.put, List.setIfInBounds_toArray, List.set_cons_zero, List.set_cons_succ]
  refine take_l (i := 1) (v := ?_) rfl (by kernel_rfl) (by kernel_rfl) (by kernel_rfl) (fun _ _ _ h => h) (Or.inl ⟨by rfl, ?_⟩) (by assumption) ?_
  case refine_2 => (intro _ _; go_simp; all_goals with_reducible rfl)
  simp only [Act.put, List.setIfInBounds_toArray, List.set_cons_zero, List.set_cons_succ]
  refine take_l (i := 2) (v := ?_) rfl (by kernel_rfl) (by kernel_rfl) (by kernel_rfl) (fun _ _ _ h => h) (Or.inl ⟨by rfl, ?_⟩) (by assumption) ?_
  case refine_2 => (intro _ _; go_simp; all_goals with_reducible rfl)
  simp only [Act.put, List.setIfInBounds_toArray, List.set_cons_zero, List.set_cons_succ]
  refine take_l (i := 3) rfl (by kernel_rfl) (by kernel_rfl) (by kernel_rfl) (fun _ _ _ h => h) (Or.inl ⟨by rfl, fun W hS => (HLc.out W hS) _ _ (.tmp 18) rfl rfl⟩) (by assumption) ?_
  simp only [Act.put, List.setIfInBounds_toArray, List.set_cons_zero, List.set_cons_succ]
  refine take_l (i := 4) rfl (by kernel_rfl) (by kernel_rfl) (by kernel_rfl) (fun _ _ _ h => h) (Or.inl ⟨by rfl, fun W hS => (HLs.out W hS) _ _ (.tmp 3) rfl rfl⟩) (by assumption) ?_
  simp only [Act.put, List.setIfInBounds_toArray, List.set_cons_zero, List.set_cons_succ]
  refine wpAnyH_ready (rs := [5]) (by kernel_rfl) (by simp) ?_
  refine cons_l rfl (fun K hK => ?_) AllReadyH.nil
  go_simp
  go_at_call 17
  refine (HF.out _).mono ?_
  rintro e v1 ⟨rfl, hv1⟩
  rw [Hf.out]
  go_wp2_with fail
  refine hK.out _ _ (nu_trans (by assumption) hv1) (fun hHeld => ?_)
  clear hK K hv1
  simp only [Act.put, List.setIfInBounds_toArray, List.set_cons_zero, List.set_cons_succ]
  refine take_l (i := 6) (v := ?_) rfl (by kernel_rfl) (by kernel_rfl) (by kernel_rfl) (fun _ _ _ h => h) (Or.inl ⟨by rfl, ?_⟩) (by assumption) ?_
  case refine_2 => (intro _ _; go_simp; all_goals with_reducible rfl)
  simp only [Act.put, List.setIfInBounds_toArray, List.set_cons_zero, List.set_cons_succ]
  refine take_l (i := 7) (v := ?_) rfl (by kernel_rfl) (by kernel_rfl) (by kernel_rfl) (fun _ _ _ h => h) (Or.inl ⟨by rfl, ?_⟩) (by assumption) ?_
  case refine_2 => (intro _ _; go_simp; all_goals with_reducible rfl)
  simp only [Act.put, List.setIfInBounds_toArray, List.set_cons_zero, List.set_cons_succ]
  refine wpAnyH_done (by kernel_rfl) ?_ _
  have hn1 := nu_trans hn hHeld
  have HR1 := Lib.hid (show RegAt v1 g d cur from Blk.below HR.out hHeld (Blk.lt HR.out))
  have HD1 := Lib.hid (show DevAt v1 d st wa false ar co cp wr from Blk.below HD.out hHeld (Blk.lt HD.out))
  have HB1 := Lib.hid (Blk.below HB.out hHeld (Blk.lt HB.out))
  have c1 := HR1.out.dev
  have HS := Lib.hid (spend_on HD1.out H0.out.1 H0.out.2)
  clear hn hHeld HLc HLs c0 HR HD HB HF
  cases f
  · go_wp2_with fail
    go_ret
    exact ⟨rfl, hn1⟩
  · obtain ⟨so, hso⟩ : ∃ so, spentOff ar = so := ⟨_, rfl⟩
    rw [hso] at HS
    have Hso := Lib.hid hso
    clear hso
    go_wp2_with fail
    refine HS.out.mono ?_
    rintro e w2 ⟨rfl, hd2, hg2⟩
    have HD2 := Lib.hid hd2
    have HR2 := Lib.hid (show RegAt w2 g d cur from Blk.grown HR1.out hg2 (by intro e; injection e with e; exact Hgd.out e))
    have HB2 := Lib.hid (Blk.grown HB1.out hg2 (by intro e; injection e with e; have := Hdl.out; omega))
    have HL2 := Lib.hid (loads_blk Hs.out HB2.out)
    have HT2 := Lib.hid (Touch.trans (Touch.of_below (g := g) (h := d) hn1) (Touch.of_grown (g := g) hg2))
    clear hd2 hg2 hn1 HS
    cases so
    · have Ht := Lib.hid (show w2.there g 1 (stA s).size from Blk.there HR2.out 1 _ (by rw [st_size Hs.out, List.size_toArray]; unfold regL; rw [List.length_cons, st_len Hc.out]; omega))
      have Hi := Lib.hid (show (Try.prog.info? 26).map (·.size) = some (stA s).size by rw [st_size Hs.out, size_st])
      have Ho := Lib.hid (show (stA s).all (·.oneCell') = true from all_oneCell_toArray st_one)
      go_wp2_with (first | (refine wpList_run _ rfl (HL2.out _ _ (.tmp 3) rfl rfl) ?_) | (refine wpList_store_mid rfl 26 (.tmp 33) (.tmp 31) rfl g 1 (stA s) rfl rfl Ht.out Hi.out Ho.out ?_))
      go_ret
      refine .inr ⟨Hso.out, rfl, ?_, ?_, ?_⟩
      · exact blk_after HR2.out (stL s) (by rw [st_len Hs.out, st_len Hc.out])
      · exact Blk.farCells HD2.out (stL s) (fun e => Hgd.out e.symm) 1
      · exact touch_cells (stL s) (.inl rfl) 1 _ HT2.out
    · go_wp2_with fail
      go_ret
      exact .inl ⟨Hso.out, rfl, HR2.out, HD2.out, HT2.out⟩
end Go.Proofs.Ythlofbkbaabamaa
