/-
  The walks of a reader's Take.
-/
import Derived.Test.YtogcckedelkpbaaReaderQ
import Derived.StillTailTactics
namespace Go.Proofs.Ytogcckedelkpbaa
open Go.ChangeShapes Go.WideShapes Go.ChangeAt Go.RowKit

theorem take1_fault (br bs bn g : Nat) (a : Option Addr) (len cap : Nat) (f sz : Int) (w : World) (hr : w.cell? ⟨br, 0, none⟩ = some (.pointer (some ⟨g, 0, none⟩))) (hs : w.cell? ⟨bs, 0, none⟩ = some (.int .i64 sz)) (hg : Blk w g 74 (rdCells a len cap f)) (hf : f ≠ 0) :
    Calls Try.prog 46 #[.pointer (some ⟨br, 0, none⟩), .pointer (some ⟨bs, 0, none⟩), .pointer (some ⟨bn, 0, none⟩)] w fun e w' => e = .panicked [{ v := stopV f, recovered := false }] ∧ w = w' := by
  by_cases h1 : 0 ≤ sz
  all_goals
    go_enter Try.func46, Try.ntmps46
    go_wp2_with fail
    refine (need_fault g a len cap sz f _ _ hg hf).mono ?_
    rintro e w' ⟨rfl, rfl⟩
    go_wp2_with fail
    exact ⟨rfl, rfl, rfl⟩
theorem take1_wrong (br bs bn g : Nat) (a : Option Addr) (len cap : Nat) (sz : Int) (w : World) (hr : w.cell? ⟨br, 0, none⟩ = some (.pointer (some ⟨g, 0, none⟩))) (hs : w.cell? ⟨bs, 0, none⟩ = some (.int .i64 sz)) (hg : Blk w g 74 (rdCells a len cap 0)) (h : sz < 0) :
    Calls Try.prog 46 #[.pointer (some ⟨br, 0, none⟩), .pointer (some ⟨bs, 0, none⟩), .pointer (some ⟨bn, 0, none⟩)] w fun e w' => e = .panicked [{ v := stopV 1, recovered := false }] ∧ w = w' := by
  have t : decide (0 ≤ sz) = false := by simp; omega
  clear h
  go_enter Try.func46, Try.ntmps46
  go_wp2_with fail
  refine (need_wrong g a len cap sz _ hg).mono ?_
  rintro e w' ⟨rfl, rfl⟩
  go_wp2_with fail
  exact ⟨rfl, rfl, rfl⟩
theorem take1_short (br bs bn g : Nat) (a : Option Addr) (len cap : Nat) (sz : Int) (w : World) (hr : w.cell? ⟨br, 0, none⟩ = some (.pointer (some ⟨g, 0, none⟩))) (hs : w.cell? ⟨bs, 0, none⟩ = some (.int .i64 sz)) (hg : Blk w g 74 (rdCells a len cap 0)) (h1 : 0 ≤ sz) (hl : (len : Int) < sz) :
    Calls Try.prog 46 #[.pointer (some ⟨br, 0, none⟩), .pointer (some ⟨bs, 0, none⟩), .pointer (some ⟨bn, 0, none⟩)] w fun e w' => e = .panicked [{ v := stopV 2, recovered := false }] ∧ w = w' := by
  have t1 : decide (0 ≤ sz) = true := by simpa using h1
  go_enter Try.func46, Try.ntmps46
  go_wp2_with fail
  refine (need_short g a len cap sz _ hg hl).mono ?_
  rintro e w' ⟨rfl, rfl⟩
  go_wp2_with fail
  exact ⟨rfl, rfl, rfl⟩

set_option maxRecDepth 100000 in
set_option maxHeartbeats 1000000 in
theorem take1_ok (br bs bn g : Nat) (a : Option Addr) (len cap : Nat) (xs : List Nat) (sz : Nat) (w : World) (hr : w.cell? ⟨br, 0, none⟩ = some (.pointer (some ⟨g, 0, none⟩))) (hs : w.cell? ⟨bs, 0, none⟩ = some (.int .i64 (sz : Int)))
    (hn : Blk w bn 23 #[.slice none 0 0]) (hg : Blk w g 74 (rdCells a len cap 0)) (hx : BytesIn w a len cap xs) (hlc : len ≤ cap) (hcm : cap ≤ maxLen) (hlen : len ≤ 140737488355320)
    (hl : sz ≤ len) (hgn : g ≠ bn) (hrn : br ≠ bn) (hsn : bs ≠ bn) :
    Calls Try.prog 46 #[.pointer (some ⟨br, 0, none⟩), .pointer (some ⟨bs, 0, none⟩), .pointer (some ⟨bn, 0, none⟩)] w fun e w' =>
      e = .returned (.tuple #[]) ∧ Touch g bn w w' ∧ (∃ v, Blk w' bn 23 #[v] ∧ OwnB w' w.heap.size 5 v (xs.take sz)) ∧ Blk w' g 74 (rdCells (leftAt a cap sz) (len - sz) (cap - sz) 0) := by
  unfold maxLen at hcm
  have c0 := hg.at 0 (.slice a len cap) rfl
  have cn := hn.at 0 (.slice none 0 0) rfl
  have fn := hn.free 0
  have i0 : (0 : Int) ≤ (sz : Int) := by omega
  have il : (sz : Int) ≤ (len : Int) := by omega
  have ic : (sz : Int) ≤ (cap : Int) := by omega
  have hfirst := hx.first hl
  go_enter Try.func46, Try.ntmps46
  go_wp2_with fail
  refine (need_ok g _ len cap sz _ hg il).mono ?_
  rintro e w' ⟨rfl, rfl⟩
  go_wp2_with fail
  go_still_tail 6, (by kernel_rfl)
  change wpList _ _ _ _ _ w.drew
  go_wp2_with fail
  refine (clone_any a sz cap (xs.take sz) _ (by exact hfirst) (by omega)).mono ?_
  rintro e w1 ⟨v, rfl, hown, hb⟩
  obtain ⟨v, hve⟩ : ∃ v', v' = v := ⟨_, rfl⟩
  obtain ⟨av, cv, hv, _⟩ := hown.reads
  rw [show (xs.take sz).length = sz by rw [List.length_take, hx.1.1]; omega, ← hve] at hv
  subst hve
  subst hv
  obtain ⟨v, hve⟩ : ∃ v, v = Value.slice av sz cv := ⟨_, rfl⟩
  rw [← hve] at hown
  have hb1 : Below w.heap.size w w1 := (Below.refl w.heap.size w).drew.trans hb
  have cn1 := (hn.below hb1 hn.lt).at 0 _ rfl
  have fn1 := (hn.below hb1 hn.lt).free 0
  have hn2 := (hn.below hb1 hn.lt).put 0 v
  have hg1 := hg.below hb1 hg.lt
  have hg2 := hg1.far (p := ⟨bn, 0, none⟩) hgn v
  have c02 : (w1.setCell ⟨bn, 0, none⟩ v).cell? ⟨g, 0, none⟩ = some (.slice a len cap) := hg2.at 0 _ rfl
  have f02 : (w1.setCell ⟨bn, 0, none⟩ v).frozen? ⟨g, 0, none⟩ = false := hg2.free 0
  have cr2 : (w1.setCell ⟨bn, 0, none⟩ v).cell? ⟨br, 0, none⟩ = some (.pointer (some ⟨g, 0, none⟩)) := (World.cell?_setCell_other _ _ _ _ (fun e => by injection e with e; exact hrn e.symm)).trans ((hb1.cell (p := ⟨br, 0, none⟩) (World.block_lt_of_cell? _ _ hr)).trans hr)
  have cs2 : (w1.setCell ⟨bn, 0, none⟩ v).cell? ⟨bs, 0, none⟩ = some (.int .i64 (sz : Int)) := (World.cell?_setCell_other _ _ _ _ (fun e => by injection e with e; exact hsn e.symm)).trans ((hb1.cell (p := ⟨bs, 0, none⟩) (World.block_lt_of_cell? _ _ hs)).trans hs)
  have ht2 : Touch g bn w (w1.setCell ⟨bn, 0, none⟩ v) := (Touch.of_below hb1).setCell (g := g) (p := ⟨bn, 0, none⟩) (.inr rfl) v
  have hown2 : OwnB (w1.setCell ⟨bn, 0, none⟩ v) w.heap.size 5 v (xs.take sz) := hown.kept (gb_set (gb_refl w1 (some bn)) (p := ⟨bn, 0, none⟩) (.inl rfl) v) hn.lt
  have Hn2 := Lib.hid hn2
  have Hg2 := Lib.hid hg2
  have Ht2 := Lib.hid ht2
  have Hown2 := Lib.hid hown2
  have hglt := hg.lt
  have Hnone := Lib.hid (show a = none → cap = sz from fun e => by have := hx.2 e; omega)
  clear hn2 hg2 ht2 hown2 hown hb hb1 hg1 hn hg hx hfirst
  subst hve
  by_cases hck : cap = sz
  · have Hl := Lib.hid (show leftAt a cap sz = a by simp [leftAt, hck])
    have Hz := Lib.hid (show len - sz = 0 by omega)
    subst hck
    go_wp2_with fail
    go_region
    go_end0
    rw [Hl.out, Hz.out, Nat.sub_self]
    exact ⟨rfl, (Ht2.out.setCell (g := g) (p := ⟨g, 0, none⟩) (.inl rfl) _).drew, ⟨_, (Hn2.out.far (p := ⟨g, 0, none⟩) (Ne.symm hgn) _).drew, Hown2.out.kept (gb_drew (gb_set (gb_refl _ (some g)) (p := ⟨g, 0, none⟩) (.inl rfl) _)) hglt⟩, (Hg2.out.put 0 _).drew⟩
  · have Hl := Lib.hid (show leftAt a cap sz = a.map (·.add sz) by simp [leftAt, hck])
    go_wp2_with fail
    cases a with
    | none =>
      exact absurd (Hnone.out rfl) hck
    | some ad =>
      go_region
      go_end0
      rw [Hl.out]
      exact ⟨rfl, (Ht2.out.setCell (g := g) (p := ⟨g, 0, none⟩) (.inl rfl) _).drew, ⟨_, (Hn2.out.far (p := ⟨g, 0, none⟩) (Ne.symm hgn) _).drew, Hown2.out.kept (gb_drew (gb_set (gb_refl _ (some g)) (p := ⟨g, 0, none⟩) (.inl rfl) _)) hglt⟩, (Hg2.out.put 0 _).drew⟩

/-- safely of Take's closure. -/
theorem take_safe (B br bs bn g : Nat) (xs : List Nat) (f sz : Int) (w : World) (hr : RdAt w B g xs f) (cr : w.cell? ⟨br, 0, none⟩ = some (.pointer (some ⟨g, 0, none⟩))) (cs : w.cell? ⟨bs, 0, none⟩ = some (.int .i64 sz))
    (hl : xs.length ≤ 140737488355320) (hn : Blk w bn 23 #[.slice none 0 0]) (hgn : g ≠ bn) (hrn : br ≠ bn) (hsn : bs ≠ bn) :
    Calls Try.prog 43 #[.pointer (some ⟨g, 0, none⟩), .func (.func 46) #[] #[.pointer (some ⟨br, 0, none⟩), .pointer (some ⟨bs, 0, none⟩), .pointer (some ⟨bn, 0, none⟩)]] w fun e w' =>
      e = .returned (.tuple #[]) ∧ Touch g bn w w' ∧ (∃ v, Blk w' bn 23 #[v] ∧ OwnB w' w.heap.size 5 v (rdStep xs f sz (decide (0 ≤ sz))).1) ∧ RdAt w' B g (rdStep xs f sz (decide (0 ≤ sz))).2.1 (rdStep xs f sz (decide (0 ≤ sz))).2.2 := by
  obtain ⟨a, cap, hg, hx, hlc, hcm, hB, hA⟩ := hr
  have hF : ∀ W, (callFunc 46 #[.pointer (some ⟨br, 0, none⟩), .pointer (some ⟨bs, 0, none⟩), .pointer (some ⟨bn, 0, none⟩)]).run Try.prog W = .ok (.enter 46 #[.pointer (some ⟨br, 0, none⟩), .pointer (some ⟨bs, 0, none⟩), .pointer (some ⟨bn, 0, none⟩)]) W := fun W => by simp [go_sem]
  obtain ⟨o, ho⟩ : ∃ o, o = Obj.cells #[.pointer (some ⟨g, 0, none⟩)] 43 := ⟨_, rfl⟩
  have cr' : (w.alloc o).cell? ⟨br, 0, none⟩ = some (.pointer (some ⟨g, 0, none⟩)) := (World.cell?_alloc_lt w o _ (World.block_lt_of_cell? _ _ cr)).trans cr
  have cs' : (w.alloc o).cell? ⟨bs, 0, none⟩ = some (.int .i64 sz) := (World.cell?_alloc_lt w o _ (World.block_lt_of_cell? _ _ cs)).trans cs
  have hg' := hg.alloc o
  have hstop : ∀ f', Calls Try.prog 46 #[.pointer (some ⟨br, 0, none⟩), .pointer (some ⟨bs, 0, none⟩), .pointer (some ⟨bn, 0, none⟩)] (w.alloc o) (fun e w' => e = .panicked [{ v := stopV f', recovered := false }] ∧ w.alloc o = w') → rdStep xs f sz (decide (0 ≤ sz)) = ([], [], f') →
      Calls Try.prog 43 #[.pointer (some ⟨g, 0, none⟩), .func (.func 46) #[] #[.pointer (some ⟨br, 0, none⟩), .pointer (some ⟨bs, 0, none⟩), .pointer (some ⟨bn, 0, none⟩)]] w fun e w' =>
        e = .returned (.tuple #[]) ∧ Touch g bn w w' ∧ (∃ v, Blk w' bn 23 #[v] ∧ OwnB w' w.heap.size 5 v (rdStep xs f sz (decide (0 ≤ sz))).1) ∧ RdAt w' B g (rdStep xs f sz (decide (0 ≤ sz))).2.1 (rdStep xs f sz (decide (0 ≤ sz))).2.2 := by
    intro f' hc hs
    rw [hs]
    rw [ho] at hc
    refine (safely_stop g _ _ f' f a xs.length cap w hg hF hc).mono ?_
    rintro e w' ⟨he, h1, h2⟩
    exact ⟨he, Touch.of_grown' h1, ⟨_, hn.grown h1 (fun e => hgn (by injection e with e; exact e.symm)), ⟨by simp, .inl ⟨rfl, rfl⟩⟩, by simp⟩, rdAt_empty h2 hB⟩
  by_cases hf : f = 0
  · subst hf
    by_cases hright : decide (0 ≤ sz) = true
    · have h18 : 0 ≤ sz := by simpa using hright
      by_cases hs : (xs.length : Int) < sz
      · exact hstop 2 (take1_short br bs bn g a xs.length cap sz _ cr' cs' hg' h18 hs) (by rw [hright]; exact rdStep_short hs)
      · obtain ⟨n, rfl⟩ := Int.eq_ofNat_of_zero_le (show 0 ≤ sz by omega)
        have hnl : n ≤ xs.length := by omega
        have hdat : ∀ ad, 0 < xs.length → a = some ad → ad.block ≠ g ∧ ad.block ≠ bn := by
          rintro ad hp rfl
          obtain ⟨b, off, x, hb, hlt, _, _, hcx⟩ := hx.1.elem 0 hp
          injection hb with hb
          subst hb
          exact ⟨Nat.ne_of_lt (hA hp _ rfl).2, fun e => by have := hn.only hcx e rfl; cases this⟩
        rw [hright, rdStep_ok hnl]
        refine (safely_ok g _ _ (fun w' => Touch g bn w w' ∧ (∃ v, Blk w' bn 23 #[v] ∧ OwnB w' w.heap.size 5 v (xs.take n)) ∧ RdAt w' B g (xs.drop n) 0) w hF ?_).mono fun e w' ⟨he, hq⟩ => ⟨he, hq⟩
        rw [← ho]
        refine (take1_ok br bs bn g a xs.length cap xs n _ cr' cs' (hn.alloc o) hg' (hx.keep ((Below.refl _ _).alloc (Nat.le_refl _) _)) hlc hcm hl hnl hgn hrn hsn).mono ?_
        rintro e w' ⟨he, h1, ⟨v, h2, h2'⟩, h3⟩
        have ht : Touch g bn w w' := ((Touch.refl g bn w).alloc o).trans h1
        refine ⟨he, ht, ⟨v, h2, own_mono h2' (by simp)⟩, leftAt a cap n, cap - n, ?_, ?_, ?_, by unfold maxLen at *; omega, hB, ?_⟩
        · rw [List.length_drop]; exact h3
        · rw [List.length_drop]
          exact (hx.touch ht (fun hp ad had => hdat ad hp had)).left hnl hlc
        · rw [List.length_drop]; omega
        · intro hp ad had
          rw [List.length_drop] at hp
          obtain ⟨ad0, h4, h5⟩ := leftAt_block had
          rw [h5]
          exact hA (by omega) _ h4
    · have hwr : decide (0 ≤ sz) = false := by simpa using hright
      exact hstop 1 (take1_wrong br bs bn g a xs.length cap sz _ cr' cs' hg' (by simpa using hwr)) (by rw [hwr]; exact rdStep_wrong)
  · exact hstop f (take1_fault br bs bn g a xs.length cap f sz _ cr' cs' hg' hf) (rdStep_fault hf)

theorem take_any (B g : Nat) (xs : List Nat) (f sz : Int) (w : World) (hr : RdAt w B g xs f) (hl : xs.length ≤ 140737488355320) :
    Calls Try.prog 27 #[.pointer (some ⟨g, 0, none⟩), .int .i64 sz] w fun e w' =>
      (∃ v, e = .returned v ∧ OwnB w' w.heap.size 5 v (rdStep xs f sz (decide (0 ≤ sz))).1) ∧ RdAt w' B g (rdStep xs f sz (decide (0 ≤ sz))).2.1 (rdStep xs f sz (decide (0 ≤ sz))).2.2 ∧ w.grownBy w' (some g) := by
  have hmf : ∀ (fn : Fn) (first cap : Array Value) (w : World), (Instr.makeFunc fn first cap).run Try.prog w = .ok (.func fn first cap) w := fun _ _ _ _ => rfl
  have Hr := Lib.hid hr
  clear hr
  go_enter Try.func27, Try.ntmps27
  go_wp2_with fail
  have hb := (((Below.refl w.heap.size w).alloc (Nat.le_refl _) (.cells #[.pointer (some ⟨g, 0, none⟩)] 43)).alloc (by simp) (.cells #[.int .i64 sz] 3)).alloc (by simp; omega) (.cells #[.slice none 0 0] 23)
  refine (take_safe B w.heap.size (w.heap.size + 1) (w.heap.size + 1 + 1) g xs f sz _ (Hr.out.keep hb) ((((Blk.made w _ _).alloc _).alloc _).at 0 _ rfl) (((Blk.made1 w _ _ _).alloc _).at 0 _ rfl) hl (Blk.made2 w _ _ _ _) (by have := Hr.out.lt; omega) (by omega) (by omega)).mono ?_
  rintro e w1 ⟨rfl, h1, ⟨v, h2, h2'⟩, h3⟩
  obtain ⟨av, cv, rfl, _⟩ := h2'.reads
  have c5 := h2.at 0 _ rfl
  have H2 := Lib.hid (own_mono h2' (show w.heap.size ≤ _ by simp; omega))
  have H1 := Lib.hid (h1.grown (gb_of_below hb (some g)) (by omega))
  have H3 := Lib.hid h3
  clear h1 h2 h2' h3
  go_wp2_with fail
  go_ret
  exact ⟨⟨_, rfl, H2.out⟩, H3.out, H1.out⟩
theorem take_nil (sz : Int) (w : World) : Calls Try.prog 27 #[.pointer none, .int .i64 sz] w fun e w' => e = .returned (.slice none 0 0) ∧ Below w.heap.size w w' := by
  go_enter Try.func27, Try.ntmps27
  go_wp2_with fail
  go_ret
  exact ⟨rfl, (((Below.refl w.heap.size w).alloc (Nat.le_refl _) _).alloc (by simp) _)⟩
end Go.Proofs.Ytogcckedelkpbaa
