/-
  The walks of a reader's safely, Num and Take.
-/
import Derived.Test.YtnojbjconiddoaaReaderN
namespace Go.Proofs.Ytnojbjconiddoaa
open Go.ChangeShapes Go.WideShapes Go.ChangeAt Go.RowKit

theorem safely_ok (g F : Nat) (caps : Array Value) (Q : World → Prop) (w : World) (hF : ∀ W, (callFunc F caps).run Try.prog W = .ok (.enter F caps) W)
    (h : Calls Try.prog F caps (w.alloc (.cells #[.pointer (some ⟨g, 0, none⟩)] 76)) fun e w' => e = .returned (.tuple #[]) ∧ Q w') :
    Calls Try.prog 62 #[.pointer (some ⟨g, 0, none⟩), .func (.func F) #[] caps] w fun e w' => e = .returned (.tuple #[]) ∧ Q w' := by
  have hmf : ∀ (fn : Fn) (first cap : Array Value) (w : World), (Instr.makeFunc fn first cap).run Try.prog w = .ok (.func fn first cap) w := fun _ _ _ _ => rfl
  have H := Lib.hid h
  clear h
  go_enter_defers Try.func62, Try.ntmps62
  go_wp2_with fail
  refine H.out.mono ?_
  rintro e w1 ⟨rfl, hq⟩
  have Hq := Lib.hid hq
  clear hq
  go_wp2_with fail
  refine leaves_cons (f := 68) (args := #[.pointer (some ⟨w.heap.size, 0, none⟩)]) (by simp) (by simp [go_sem]) ?_
  refine (catch_idle w.heap.size _).mono ?_
  rintro e u' w2 ⟨rfl, rfl, rfl⟩
  simp [Leaves, settle, results, Try.results62, go_sem]
  exact Hq.out

theorem safely_stop (g F : Nat) (caps : Array Value) (f f9 : Int) (a : Option Addr) (len cap : Nat) (w : World) (hg : Blk w g 98 (rdCells a len cap f9)) (hF : ∀ W, (callFunc F caps).run Try.prog W = .ok (.enter F caps) W)
    (h : Calls Try.prog F caps (w.alloc (.cells #[.pointer (some ⟨g, 0, none⟩)] 76)) fun e w' => e = .panicked [{ v := stopV f, recovered := false }] ∧ w.alloc (.cells #[.pointer (some ⟨g, 0, none⟩)] 76) = w') :
    Calls Try.prog 62 #[.pointer (some ⟨g, 0, none⟩), .func (.func F) #[] caps] w fun e w' => e = .returned (.tuple #[]) ∧ w.grownBy w' (some g) ∧ Blk w' g 98 (rdCells none 0 0 f) := by
  have hmf : ∀ (fn : Fn) (first cap : Array Value) (w : World), (Instr.makeFunc fn first cap).run Try.prog w = .ok (.func fn first cap) w := fun _ _ _ _ => rfl
  have H := Lib.hid h
  clear h
  go_enter_defers Try.func62, Try.ntmps62
  go_wp2_with fail
  refine H.out.mono ?_
  rintro e w1 ⟨rfl, rfl⟩
  go_wp2_with fail
  refine leaves_cons (f := 68) (args := #[.pointer (some ⟨w.heap.size, 0, none⟩)]) (by simp) (by simp [go_sem]) ?_
  refine (catch_stop w.heap.size g f a len cap f9 [] _ ((Blk.made w _ _).at 0 _ rfl) (hg.alloc _)).mono ?_
  rintro e u' w2 ⟨rfl, rfl, h1, h2⟩
  have H1 := Lib.hid (gb_trans (gb_alloc (gb_refl w (some g)) _) h1)
  have H2 := Lib.hid h2
  clear h1 h2
  simp [Leaves, settle, results, Try.results62, go_sem]
  exact ⟨H1.out, H2.out⟩

/-! ### What a reader does -/
/-- A step of n bytes: what is told, what is left, the fault. -/
def rdStep (xs : List Nat) (f : Int) (n : Int) (right : Bool) : List Nat × List Nat × Int :=
  if f ≠ 0 then ([], [], f) else if right = false then ([], [], 1) else if (xs.length : Int) < n then ([], [], 2) else (xs.take n.toNat, xs.drop n.toNat, 0)
def numRight (n : Int) : Bool := decide (1 ≤ n) && decide (n ≤ 8)

theorem rdStep_fault {xs : List Nat} {f n : Int} {r : Bool} (h : f ≠ 0) : rdStep xs f n r = ([], [], f) := by simp [rdStep, h]
theorem rdStep_wrong {xs : List Nat} {n : Int} : rdStep xs 0 n false = ([], [], 1) := by simp [rdStep]
theorem rdStep_short {xs : List Nat} {n : Int} (h : (xs.length : Int) < n) : rdStep xs 0 n true = ([], [], 2) := by simp [rdStep, h]
theorem rdStep_ok {xs : List Nat} {n : Nat} (h : n ≤ xs.length) : rdStep xs 0 (n : Int) true = (xs.take n, xs.drop n, 0) := by
  have : ¬ (xs.length : Int) < (n : Int) := by omega
  simp [rdStep, this]

theorem rdAt_empty {w : World} {B g : Nat} {f : Int} (hg : Blk w g 98 (rdCells none 0 0 f)) (hB : B ≤ g) : RdAt w B g [] f :=
  ⟨none, 0, hg, BytesIn.nil_ w, Nat.le_refl _, Nat.zero_le _, hB, fun h => absurd h (by simp)⟩

/-- safely of Num's closure. -/
theorem num_safe (B br bs bn g : Nat) (xs : List Nat) (f sz : Int) (w : World) (hr : RdAt w B g xs f) (cr : w.cell? ⟨br, 0, none⟩ = some (.pointer (some ⟨g, 0, none⟩))) (cs : w.cell? ⟨bs, 0, none⟩ = some (.int .i64 sz))
    (hn : Blk w bn 56 #[.int .u64 0]) (hgn : g ≠ bn) (hrn : br ≠ bn) (hsn : bs ≠ bn) :
    Calls Try.prog 62 #[.pointer (some ⟨g, 0, none⟩), .func (.func 63) #[] #[.pointer (some ⟨br, 0, none⟩), .pointer (some ⟨bs, 0, none⟩), .pointer (some ⟨bn, 0, none⟩)]] w fun e w' =>
      e = .returned (.tuple #[]) ∧ Touch g bn w w' ∧ Blk w' bn 56 #[.int .u64 ((numOf (rdStep xs f sz (numRight sz)).1 : Nat) : Int)] ∧ RdAt w' B g (rdStep xs f sz (numRight sz)).2.1 (rdStep xs f sz (numRight sz)).2.2 := by
  obtain ⟨a, cap, hg, hx, hlc, hcm, hB, hA⟩ := hr
  have hF : ∀ W, (callFunc 63 #[.pointer (some ⟨br, 0, none⟩), .pointer (some ⟨bs, 0, none⟩), .pointer (some ⟨bn, 0, none⟩)]).run Try.prog W = .ok (.enter 63 #[.pointer (some ⟨br, 0, none⟩), .pointer (some ⟨bs, 0, none⟩), .pointer (some ⟨bn, 0, none⟩)]) W := fun W => by simp [go_sem]
  obtain ⟨o, ho⟩ : ∃ o, o = Obj.cells #[.pointer (some ⟨g, 0, none⟩)] 76 := ⟨_, rfl⟩
  have cr' : (w.alloc o).cell? ⟨br, 0, none⟩ = some (.pointer (some ⟨g, 0, none⟩)) := (World.cell?_alloc_lt w o _ (World.block_lt_of_cell? _ _ cr)).trans cr
  have cs' : (w.alloc o).cell? ⟨bs, 0, none⟩ = some (.int .i64 sz) := (World.cell?_alloc_lt w o _ (World.block_lt_of_cell? _ _ cs)).trans cs
  have hg' := hg.alloc o
  have hstop : ∀ f', Calls Try.prog 63 #[.pointer (some ⟨br, 0, none⟩), .pointer (some ⟨bs, 0, none⟩), .pointer (some ⟨bn, 0, none⟩)] (w.alloc o) (fun e w' => e = .panicked [{ v := stopV f', recovered := false }] ∧ w.alloc o = w') → rdStep xs f sz (numRight sz) = ([], [], f') →
      Calls Try.prog 62 #[.pointer (some ⟨g, 0, none⟩), .func (.func 63) #[] #[.pointer (some ⟨br, 0, none⟩), .pointer (some ⟨bs, 0, none⟩), .pointer (some ⟨bn, 0, none⟩)]] w fun e w' =>
        e = .returned (.tuple #[]) ∧ Touch g bn w w' ∧ Blk w' bn 56 #[.int .u64 ((numOf (rdStep xs f sz (numRight sz)).1 : Nat) : Int)] ∧ RdAt w' B g (rdStep xs f sz (numRight sz)).2.1 (rdStep xs f sz (numRight sz)).2.2 := by
    intro f' hc hs
    rw [hs]
    rw [ho] at hc
    refine (safely_stop g _ _ f' f a xs.length cap w hg hF hc).mono ?_
    rintro e w' ⟨he, h1, h2⟩
    exact ⟨he, Touch.of_grown' h1, hn.grown h1 (fun e => hgn (by injection e with e; exact e.symm)), rdAt_empty h2 hB⟩
  by_cases hf : f = 0
  · subst hf
    by_cases hright : numRight sz = true
    · have h18 : 1 ≤ sz ∧ sz ≤ 8 := by simpa [numRight] using hright
      by_cases hs : (xs.length : Int) < sz
      · exact hstop 2 (num1_short br bs bn g a xs.length cap sz _ cr' cs' hg' h18.1 h18.2 hs) (by rw [hright]; exact rdStep_short hs)
      · obtain ⟨n, rfl⟩ := Int.eq_ofNat_of_zero_le (show 0 ≤ sz by omega)
        have hnl : n ≤ xs.length := by omega
        obtain ⟨b, off, x, rfl, hlt, _, _, hcx⟩ := hx.1.elem 0 (by omega)
        have hbg := Nat.ne_of_lt (hA (by omega) _ rfl).2
        have hbn : b ≠ bn := fun e => by have := hn.only hcx e rfl; cases this
        rw [hright, rdStep_ok hnl]
        refine (safely_ok g _ _ (fun w' => Touch g bn w w' ∧ Blk w' bn 56 #[.int .u64 ((numOf (xs.take n) : Nat) : Int)] ∧ RdAt w' B g (xs.drop n) 0) w hF ?_).mono fun e w' ⟨he, hq⟩ => ⟨he, hq⟩
        rw [← ho]
        refine (num1_ok br bs bn g b off xs.length cap xs n _ cr' cs' (hn.alloc o) hg' (hx.keep ((Below.refl _ _).alloc (Nat.le_refl _) _)) hlc (by omega) (by omega) hnl hgn hrn hsn hbn).mono ?_
        rintro e w' ⟨he, h1, h2, h3⟩
        have ht : Touch g bn w w' := ((Touch.refl g bn w).alloc o).trans h1
        refine ⟨he, ht, h2, leftAt (some ⟨b, off, none⟩) cap n, cap - n, ?_, ?_, ?_, by unfold maxLen at *; omega, hB, ?_⟩
        · rw [List.length_drop]; exact h3
        · rw [List.length_drop]
          exact (hx.touch ht (fun _ ad had => by injection had with had; subst had; exact ⟨hbg, hbn⟩)).left hnl hlc
        · rw [List.length_drop]; omega
        · intro hp ad had
          obtain ⟨ad0, h4, h5⟩ := leftAt_block had
          rw [h5]
          exact hA (by omega) _ h4
    · have hwr : numRight sz = false := by simpa using hright
      exact hstop 1 (num1_wrong br bs bn g a xs.length cap sz _ cr' cs' hg' (by
        by_cases h1 : sz < 1
        · exact .inl h1
        · refine .inr ?_
          simp [numRight] at hwr
          have := hwr (by omega)
          omega)) (by rw [hwr]; exact rdStep_wrong)
  · exact hstop f (num1_fault br bs bn g a xs.length cap f sz _ cr' cs' hg' hf) (rdStep_fault hf)

theorem num_any (B g : Nat) (xs : List Nat) (f sz : Int) (w : World) (hr : RdAt w B g xs f) :
    Calls Try.prog 46 #[.pointer (some ⟨g, 0, none⟩), .int .i64 sz] w fun e w' =>
      e = .returned (.int .u64 ((numOf (rdStep xs f sz (numRight sz)).1 : Nat) : Int)) ∧ RdAt w' B g (rdStep xs f sz (numRight sz)).2.1 (rdStep xs f sz (numRight sz)).2.2 ∧ w.grownBy w' (some g) := by
  have hmf : ∀ (fn : Fn) (first cap : Array Value) (w : World), (Instr.makeFunc fn first cap).run Try.prog w = .ok (.func fn first cap) w := fun _ _ _ _ => rfl
  have Hr := Lib.hid hr
  clear hr
  go_enter Try.func46, Try.ntmps46
  go_wp2_with fail
  have hb := (((Below.refl w.heap.size w).alloc (Nat.le_refl _) (.cells #[.pointer (some ⟨g, 0, none⟩)] 76)).alloc (by simp) (.cells #[.int .i64 sz] 3)).alloc (by simp; omega) (.cells #[.int .u64 0] 56)
  refine (num_safe B w.heap.size (w.heap.size + 1) (w.heap.size + 1 + 1) g xs f sz _ (Hr.out.keep hb) ((((Blk.made w _ _).alloc _).alloc _).at 0 _ rfl) (((Blk.made1 w _ _ _).alloc _).at 0 _ rfl) (Blk.made2 w _ _ _ _) (by have := Hr.out.lt; omega) (by omega) (by omega)).mono ?_
  rintro e w1 ⟨rfl, h1, h2, h3⟩
  have c5 := h2.at 0 _ rfl
  have H1 := Lib.hid (h1.grown (gb_of_below hb (some g)) (by omega))
  have H3 := Lib.hid h3
  clear h1 h2 h3
  go_wp2_with fail
  go_ret
  exact ⟨rfl, H3.out, H1.out⟩
theorem num_nil (sz : Int) (w : World) : Calls Try.prog 46 #[.pointer none, .int .i64 sz] w fun e w' => e = .returned (.int .u64 0) ∧ Below w.heap.size w w' := by
  go_enter Try.func46, Try.ntmps46
  go_wp2_with fail
  go_ret
  exact ⟨rfl, (((Below.refl w.heap.size w).alloc (Nat.le_refl _) _).alloc (by simp) _)⟩
end Go.Proofs.Ytnojbjconiddoaa
