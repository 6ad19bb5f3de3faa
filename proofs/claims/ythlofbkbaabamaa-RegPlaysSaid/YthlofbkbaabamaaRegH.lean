/-
  The walk of the document's Follows.
-/
import Derived.Test.YthlofbkbaabamaaRegG
namespace Go.Proofs.Ythlofbkbaabamaa
open Go.ChangeShapes Go.WideShapes Go.ChangeAt Go.RowKit

set_option maxRecDepth 100000 in
set_option maxHeartbeats 2000000 in
theorem refFollows_any (s t : St) (hs : StOk s) (ht : StOk t) (w : World) :
    Calls Try.prog 18 #[.agg (stA s), .agg (stA t)] w fun e w' => e = .returned (.bool (followsB s t)) ∧ Below w.heap.size w w' := by
  have hn := nu_alloc (nu_alloc (nu_refl w) (.cells (stA s) 26)) (.cells (stA t) 26)
  have hbs := (Blk.made w 26 (stA s)).alloc (.cells (stA t) 26)
  have hbt := Blk.made1 w (.cells (stA s) 26) 26 (stA t)
  have HBs := Lib.hid hbs
  have HBt := Lib.hid hbt
  have Hs := Lib.hid hs
  have Ht := Lib.hid ht
  have HR := Lib.hid (refRight_any t ht.ep)
  have HK := Lib.hid (refBlank_any s hs)
  have HLt := Lib.hid (loads_blk ht hbt)
  have HC := Lib.hid (follows_cases s t)
  have HN := Lib.hid (@followsB_no s t)
  have HF := Lib.hid (@followsB_first s t)
  clear hbs hbt hs ht
  obtain ⟨f, hf⟩ : ∃ f, followsB s t = f := ⟨_, rfl⟩
  rw [hf]
  go_enter Try.func18, Try.ntmps18
  go_wp2_with (refine wpList_run _ rfl (HLt.out _ _ (.tmp 3) rfl rfl) ?_)
  generalize (w.alloc (.cells (stA s) 26)).alloc (.cells (stA t) 26) = u0 at *
  refine (HR.out u0).mono ?_
  rintro e w1 ⟨rfl, hb1⟩
  have hn1 := nu_trans hn hb1
  have HBs1 := Lib.hid (HBs.out.below hb1 HBs.out.lt)
  have HBt1 := Lib.hid (HBt.out.below hb1 HBt.out.lt)
  have HLs1 := Lib.hid (loads_blk Hs.out HBs1.out)
  clear hn hb1
  rcases hr : rightB t with _ | _
  · obtain rfl : f = false := by rw [← hf, HN.out hr]
    clear hf
    go_wp2_with fail
    go_ret
    exact ⟨rfl, hn1⟩
  · go_wp2_with (refine wpList_run _ rfl (HLs1.out _ _ (.tmp 2) rfl rfl) ?_)
    refine (HK.out w1).mono ?_
    rintro e w2 ⟨rfl, hb2⟩
    have hn2 := nu_trans hn1 hb2
    have HBs2 := Lib.hid (HBs1.out.below hb2 HBs1.out.lt)
    have HBt2 := Lib.hid (HBt1.out.below hb2 HBt1.out.lt)
    clear hn1 hb2
    by_cases h0 : s = st0
    · obtain rfl : f = true := by rw [← hf, HF.out hr h0]
      rw [decide_eq_true h0]
      clear hf h0
      go_wp2_with fail
      go_ret
      exact ⟨rfl, hn2⟩
    · rw [decide_eq_false h0]
      have hc := HC.out hr h0
      rw [hf] at hc
      obtain ⟨c0, c1, c2, c3, c4, c5, c6, c7⟩ := st_cells HBs2.out
      obtain ⟨d0, d1, d2, d3, d4, d5, d6, d7⟩ := st_cells HBt2.out
      clear hf h0
      have e1 : s.p = t.p → (s.p != t.p) = false := fun h => by rw [h]; simp
      have e2 : s.b = t.b → (s.b != t.b) = false := fun h => by rw [h]; simp
      have e3 : s.wi = t.wi → (s.wi != t.wi) = false := fun h => by rw [h]; simp
      have n1 : s.p ≠ t.p → (s.p != t.p) = true := fun h => by rw [bne_iff_ne]; exact h
      have n2 : s.b ≠ t.b → (s.b != t.b) = true := fun h => by rw [bne_iff_ne]; exact h
      have n3 : s.wi ≠ t.wi → (s.wi != t.wi) = true := fun h => by rw [bne_iff_ne]; exact h
      rcases hc with ⟨rfl, h1⟩ | ⟨rfl, h1, h2⟩ | ⟨rfl, h1, h2, h3⟩ | ⟨rfl, h1, h2, h3, h4⟩ | ⟨rfl, h1, h2, h3, h4, h5⟩ | ⟨rfl, h1, h2, h3, h4, h5, h6⟩ | ⟨rfl, h1, h2, h3, h4, h5, h6⟩
      · replace h1 := n1 h1
        clear e1 e2 e3 n1 n2 n3
        (go_wp2_with fail; go_ret; exact ⟨rfl, hn2⟩)
      · replace h1 := e1 h1
        replace h2 := n2 h2
        clear e1 e2 e3 n1 n2 n3
        (go_wp2_with fail; go_ret; exact ⟨rfl, hn2⟩)
      · replace h1 := e1 h1
        replace h2 := e2 h2
        clear e1 e2 e3 n1 n2 n3
        cases hw : s.wi <;> cases hv : t.wi <;> rw [hw, hv] at h3 <;> rw [hw] at c2 <;> rw [hv] at d2 <;> clear hw hv HC
        case false.false => exact absurd rfl h3
        case true.true => exact absurd rfl h3
        all_goals clear h3
        all_goals (go_wp2_with fail; go_ret; exact ⟨rfl, hn2⟩)
      all_goals (replace h1 := e1 h1; replace h2 := e2 h2; rw [h3] at c2; clear h3 e1 e2 e3 n1 n2 n3)
      all_goals (go_wp2_with fail; go_ret; exact ⟨by first | rfl | (show Ending.returned (Value.bool (decide (s.ep ≤ t.ep))) = _; rw [decide_eq_false (show ¬ s.ep ≤ t.ep by omega)]) | (show Ending.returned (Value.bool (decide (s.ep ≤ t.ep))) = _; rw [decide_eq_true (show s.ep ≤ t.ep by omega)]), hn2⟩)
end Go.Proofs.Ythlofbkbaabamaa
