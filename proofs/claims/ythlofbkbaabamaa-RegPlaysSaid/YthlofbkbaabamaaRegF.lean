/-
  The walks of the document's Blank, and of both Follows.
-/
import Derived.Test.YthlofbkbaabamaaRegL
import Derived.Test.YthlofbkbaabamaaRegA
namespace Go.Proofs.Ythlofbkbaabamaa
open Go.ChangeShapes Go.WideShapes Go.ChangeAt Go.RowKit

/-- May t follow s? -/
def followsB (s t : St) : Bool := rightB t && (decide (s = st0) || (decide (s.p = t.p ∧ s.b = t.b ∧ s.wi = t.wi) && decide (s.bo ≤ t.bo ∧ s.ve ≤ t.ve ∧ s.ep ≤ t.ep)))
theorem followsB_no {s t : St} (h : rightB t = false) : followsB s t = false := by unfold followsB; rw [h]; rfl
theorem followsB_first {s t : St} (h : rightB t = true) (h0 : s = st0) : followsB s t = true := by unfold followsB; rw [h, decide_eq_true h0]; rfl
/-- How a right state is judged behind one that isn't blank. -/
theorem follows_cases (s t : St) (hr : rightB t = true) (h0 : s ≠ st0) :
    followsB s t = false ∧ s.p ≠ t.p ∨ followsB s t = false ∧ s.p = t.p ∧ s.b ≠ t.b ∨ followsB s t = false ∧ s.p = t.p ∧ s.b = t.b ∧ s.wi ≠ t.wi ∨
      followsB s t = false ∧ s.p = t.p ∧ s.b = t.b ∧ s.wi = t.wi ∧ ¬ s.bo ≤ t.bo ∨ followsB s t = false ∧ s.p = t.p ∧ s.b = t.b ∧ s.wi = t.wi ∧ s.bo ≤ t.bo ∧ ¬ s.ve ≤ t.ve ∨
      followsB s t = false ∧ s.p = t.p ∧ s.b = t.b ∧ s.wi = t.wi ∧ s.bo ≤ t.bo ∧ s.ve ≤ t.ve ∧ ¬ s.ep ≤ t.ep ∨ followsB s t = true ∧ s.p = t.p ∧ s.b = t.b ∧ s.wi = t.wi ∧ s.bo ≤ t.bo ∧ s.ve ≤ t.ve ∧ s.ep ≤ t.ep := by
  have e : followsB s t = (decide (s.p = t.p ∧ s.b = t.b ∧ s.wi = t.wi) && decide (s.bo ≤ t.bo ∧ s.ve ≤ t.ve ∧ s.ep ≤ t.ep)) := by unfold followsB; rw [hr, decide_eq_false h0]; rfl
  have n1 : ¬ (s.p = t.p ∧ s.b = t.b ∧ s.wi = t.wi) → followsB s t = false := fun h => by rw [e, decide_eq_false h]; rfl
  have n2 : ¬ (s.bo ≤ t.bo ∧ s.ve ≤ t.ve ∧ s.ep ≤ t.ep) → followsB s t = false := fun h => by rw [e, decide_eq_false h, Bool.and_false]
  by_cases h1 : s.p = t.p
  case neg => exact .inl ⟨n1 (fun h => h1 h.1), h1⟩
  refine .inr ?_
  by_cases h2 : s.b = t.b
  case neg => exact .inl ⟨n1 (fun h => h2 h.2.1), h1, h2⟩
  refine .inr ?_
  by_cases h3 : s.wi = t.wi
  case neg => exact .inl ⟨n1 (fun h => h3 h.2.2), h1, h2, h3⟩
  refine .inr ?_
  by_cases h4 : s.bo ≤ t.bo
  case neg => exact .inl ⟨n2 (fun h => h4 h.1), h1, h2, h3, h4⟩
  refine .inr ?_
  by_cases h5 : s.ve ≤ t.ve
  case neg => exact .inl ⟨n2 (fun h => h5 h.2.1), h1, h2, h3, h4, h5⟩
  refine .inr ?_
  by_cases h6 : s.ep ≤ t.ep
  case neg => exact .inl ⟨n2 (fun h => h6 h.2.2), h1, h2, h3, h4, h5, h6⟩
  exact .inr ⟨by rw [e, decide_eq_true ⟨h1, h2, h3⟩, decide_eq_true ⟨h4, h5, h6⟩]; rfl, h1, h2, h3, h4, h5, h6⟩

/-- A load of a whole state, wherever it stands. -/
def LoadsSt (W : World) (b f : Nat) (s : St) : Prop := ∀ (o : Oper) (a : Act) (x : Operand), o.op = .load 26 x → a.eval x = .pointer (some ⟨b, f, none⟩) → (execOp a.eval o).run Try.prog W = .ok (.value (.agg (stA s))) W
theorem loads_blk {W : World} {g : Nat} {t : TypeId} {s : St} (hs : StOk s) (h : Blk W g t (stA s)) : LoadsSt W g 0 s := fun _ _ x ho hx => exec_load_st s hs x g 0 ho hx (by simpa [stA] using range_blk h)

set_option maxRecDepth 100000 in
set_option maxHeartbeats 2000000 in
theorem follows_any (s t : St) (hs : StOk s) (ht : StOk t) (w : World) :
    Calls Try.prog 17 #[.agg (stA s), .agg (stA t)] w fun e w' => e = .returned (.bool (followsB s t)) ∧ Below w.heap.size w w' := by
  have hn := nu_alloc (nu_alloc (nu_refl w) (.cells (stA s) 26)) (.cells (stA t) 26)
  have hbs := (Blk.made w 26 (stA s)).alloc (.cells (stA t) 26)
  have hbt := Blk.made1 w (.cells (stA s) 26) 26 (stA t)
  have HBs := Lib.hid hbs
  have HBt := Lib.hid hbt
  have Hs := Lib.hid hs
  have Ht := Lib.hid ht
  have HR := Lib.hid (right_any t)
  have HLt := Lib.hid (loads_blk ht hbt)
  have HE := Lib.hid (fun (W : World) (o : Oper) (a : Act) x y h1 h2 h3 => exec_eql_st (w := W) (o := o) (a := a) s st0 hs st0_ok x y h1 h2 h3)
  have HC := Lib.hid (follows_cases s t)
  have HN := Lib.hid (@followsB_no s t)
  have HF := Lib.hid (@followsB_first s t)
  clear hbs hbt hs ht
  obtain ⟨f, hf⟩ : ∃ f, followsB s t = f := ⟨_, rfl⟩
  rw [hf]
  go_enter Try.func17, Try.ntmps17
  go_wp2_with (refine wpList_run _ rfl (HLt.out _ _ (.tmp 3) rfl rfl) ?_)
  generalize (w.alloc (.cells (stA s) 26)).alloc (.cells (stA t) 26) = u0 at *
  refine (HR.out u0).mono ?_
  rintro e w1 ⟨rfl, hb1⟩
  have hn1 := nu_trans hn hb1
  have HBs1 := Lib.hid (HBs.out.below hb1 HBs.out.lt)
  have HBt1 := Lib.hid (HBt.out.below hb1 HBt.out.lt)
  have HLs1 := Lib.hid (loads_blk Hs.out HBs1.out)
  have HLt1 := Lib.hid (loads_blk Ht.out HBt1.out)
  clear hn hb1
  rcases hr : rightB t with _ | _
  · obtain rfl : f = false := by rw [← hf, HN.out hr]
    clear hf
    go_wp2_with (refine wpList_run _ rfl (HLt1.out _ _ (.tmp 3) rfl rfl) ?_)
    refine (HR.out w1).mono ?_
    rintro e w2 ⟨rfl, hb2⟩
    rw [hr]
    have hn2 := nu_trans hn1 hb2
    go_wp2_with fail
    go_ret
    exact ⟨rfl, hn2⟩
  · by_cases h0 : s = st0
    · obtain rfl : f = true := by rw [← hf, HF.out hr h0]
      have t0 : decide (s = st0) = true := decide_eq_true h0
      rw [t0] at HE
      clear hf h0 t0
      go_wp2_with (first | (refine wpList_run _ rfl (HLt1.out _ _ (.tmp 3) rfl rfl) ?_) | (refine wpList_run _ rfl (HLs1.out _ _ (.tmp 2) rfl rfl) ?_) | (refine wpList_run _ rfl (exec_zero_st rfl) ?_) | (refine wpList_run _ rfl (HE.out _ _ _ (.tmp 9) (.tmp 10) rfl rfl rfl) ?_))
      refine (HR.out w1).mono ?_
      rintro e w2 ⟨rfl, hb2⟩
      rw [hr]
      have hn2 := nu_trans hn1 hb2
      go_wp2_with fail
      go_ret
      exact ⟨rfl, hn2⟩
    · have t0 : decide (s = st0) = false := decide_eq_false h0
      rw [t0] at HE
      have hc := HC.out hr h0
      rw [hf] at hc
      obtain ⟨c0, c1, c2, c3, c4, c5, c6, c7⟩ := st_cells HBs1.out
      obtain ⟨d0, d1, d2, d3, d4, d5, d6, d7⟩ := st_cells HBt1.out
      clear hf h0 t0
      have e1 : s.p = t.p → (s.p != t.p) = false := fun h => by rw [h]; simp
      have e2 : s.b = t.b → (s.b != t.b) = false := fun h => by rw [h]; simp
      have e3 : s.wi = t.wi → (s.wi != t.wi) = false := fun h => by rw [h]; simp
      have n1 : s.p ≠ t.p → (s.p != t.p) = true := fun h => by rw [bne_iff_ne]; exact h
      have n2 : s.b ≠ t.b → (s.b != t.b) = true := fun h => by rw [bne_iff_ne]; exact h
      have n3 : s.wi ≠ t.wi → (s.wi != t.wi) = true := fun h => by rw [bne_iff_ne]; exact h
      rcases hc with ⟨rfl, h1⟩ | ⟨rfl, h1, h2⟩ | ⟨rfl, h1, h2, h3⟩ | ⟨rfl, h1, h2, h3, h4⟩ | ⟨rfl, h1, h2, h3, h4, h5⟩ | ⟨rfl, h1, h2, h3, h4, h5, h6⟩ | ⟨rfl, h1, h2, h3, h4, h5, h6⟩
      · replace h1 := n1 h1
        clear e1 e2 e3 n1 n2 n3
        (go_wp2_with (first | (refine wpList_run _ rfl (HLs1.out _ _ (.tmp 2) rfl rfl) ?_) | (refine wpList_run _ rfl (exec_zero_st rfl) ?_) | (refine wpList_run _ rfl (HE.out _ _ _ (.tmp 9) (.tmp 10) rfl rfl rfl) ?_)); go_ret; exact ⟨rfl, hn1⟩)
      · replace h1 := e1 h1
        replace h2 := n2 h2
        clear e1 e2 e3 n1 n2 n3
        (go_wp2_with (first | (refine wpList_run _ rfl (HLs1.out _ _ (.tmp 2) rfl rfl) ?_) | (refine wpList_run _ rfl (exec_zero_st rfl) ?_) | (refine wpList_run _ rfl (HE.out _ _ _ (.tmp 9) (.tmp 10) rfl rfl rfl) ?_)); go_ret; exact ⟨rfl, hn1⟩)
      · replace h1 := e1 h1
        replace h2 := e2 h2
        clear e1 e2 e3 n1 n2 n3
        cases hw : s.wi <;> cases hv : t.wi <;> rw [hw, hv] at h3 <;> rw [hw] at c2 <;> rw [hv] at d2 <;> clear hw hv HC
        case false.false => exact absurd rfl h3
        case true.true => exact absurd rfl h3
        all_goals clear h3
        all_goals (go_wp2_with (first | (refine wpList_run _ rfl (HLs1.out _ _ (.tmp 2) rfl rfl) ?_) | (refine wpList_run _ rfl (exec_zero_st rfl) ?_) | (refine wpList_run _ rfl (HE.out _ _ _ (.tmp 9) (.tmp 10) rfl rfl rfl) ?_)); go_ret; exact ⟨rfl, hn1⟩)
      all_goals (replace h1 := e1 h1; replace h2 := e2 h2; rw [h3] at c2; clear h3 e1 e2 e3 n1 n2 n3)
      all_goals (go_wp2_with (first | (refine wpList_run _ rfl (HLs1.out _ _ (.tmp 2) rfl rfl) ?_) | (refine wpList_run _ rfl (exec_zero_st rfl) ?_) | (refine wpList_run _ rfl (HE.out _ _ _ (.tmp 9) (.tmp 10) rfl rfl rfl) ?_)); go_ret; exact ⟨by first | rfl | (show Ending.returned (Value.bool (decide (s.ep ≤ t.ep))) = _; rw [decide_eq_false (show ¬ s.ep ≤ t.ep by omega)]) | (show Ending.returned (Value.bool (decide (s.ep ≤ t.ep))) = _; rw [decide_eq_true (show s.ep ≤ t.ep by omega)]), hn1⟩)
end Go.Proofs.Ythlofbkbaabamaa
