/-
  The walks of the document's reader: Take, Left, End; and of the document's Num.
-/
import Derived.Test.YtogcckedelkpbaaRowSticksW
import Derived.StillTailTactics
namespace Go.Proofs.Ytogcckedelkpbaa
open Go.ChangeShapes Go.WideShapes Go.ChangeAt Go.RowKit

/-- The document's reader at block x: the bytes b, of which the first at are read. -/
def RefAt (w : World) (x : Nat) (a : Option Addr) (cap : Nat) (xs : List Nat) (at_ : Nat) (f : Int) : Prop :=
  Blk w x 54 #[.slice a xs.length cap, .int .i64 (at_ : Int), .int .i64 f] ∧ at_ ≤ xs.length

/-- What is left of it. -/
def refLeft (xs : List Nat) (at_ : Nat) (f : Int) : List Nat := if f ≠ 0 then [] else xs.drop at_

theorem refLeft_any (x : Nat) (a : Option Addr) (cap : Nat) (xs : List Nat) (at_ : Nat) (f : Int) (w : World) (hr : RefAt w x a cap xs at_ f) (hl : xs.length ≤ 140737488355320) :
    Calls Try.prog 32 #[.pointer (some ⟨x, 0, none⟩)] w fun e w' => e = .returned (.int .i64 ((refLeft xs at_ f).length : Int)) ∧ ∃ n, w' = w.drewN n := by
  obtain ⟨hg, hat⟩ := hr
  have c0 := hg.at 0 (.slice a xs.length cap) rfl
  have c1 := hg.at 1 (.int .i64 (at_ : Int)) rfl
  have c2 := hg.at 2 (.int .i64 f) rfl
  by_cases hf : f = 0
  · subst hf
    have E := Lib.hid (show ((refLeft xs at_ 0).length : Int) = (xs.length : Int) - (at_ : Int) by simp [refLeft]; omega)
    go_enter Try.func32, Try.ntmps32
    go_wp2_with fail
    go_quiet (fail)
    go_wp2_with fail
    go_ret
    exact ⟨by rw [E.out]; rfl, _, rfl⟩
  · have E := Lib.hid (show (refLeft xs at_ f).length = 0 by simp [refLeft, hf])
    have t : (f != 0) = true := by rw [bne_iff_ne]; exact hf
    clear hf
    go_enter Try.func32, Try.ntmps32
    go_wp2_with fail
    go_ret
    exact ⟨by rw [E.out]; rfl, 0, rfl⟩

theorem refEnd_any (x : Nat) (a : Option Addr) (cap : Nat) (xs : List Nat) (at_ : Nat) (f : Int) (w : World) (hr : RefAt w x a cap xs at_ f) (hl : xs.length ≤ 140737488355320) :
    Calls Try.prog 34 #[.pointer (some ⟨x, 0, none⟩)] w fun e w' => e = .returned (.int .i64 (endOf (refLeft xs at_ f).length f)) ∧ ∃ n, w' = w.drewN n := by
  have Hr := Lib.hid hr
  obtain ⟨hg, hat⟩ := hr
  have c0 := hg.at 0 (.slice a xs.length cap) rfl
  have c2 := hg.at 2 (.int .i64 f) rfl
  by_cases hf : f = 0
  · subst hf
    obtain ⟨m, hm⟩ : ∃ m, m = (refLeft xs at_ 0).length := ⟨_, rfl⟩
    have Hm := Lib.hid hm
    clear hm
    rw [← Hm.out]
    by_cases hz : 0 < m
    · have E := Lib.hid (show endOf m 0 = 4 by simp [endOf, hz])
      go_enter Try.func34, Try.ntmps34
      go_wp2_with fail
      refine (refLeft_any x a cap xs at_ 0 _ Hr.out hl).mono ?_
      rintro e w1 ⟨rfl, n, rfl⟩
      rw [← Hm.out]
      go_wp2_with fail
      go_ret
      exact ⟨by rw [E.out]; rfl, _, rfl⟩
    · obtain rfl : m = 0 := by omega
      go_enter Try.func34, Try.ntmps34
      go_wp2_with fail
      refine (refLeft_any x a cap xs at_ 0 _ Hr.out hl).mono ?_
      rintro e w1 ⟨rfl, n, rfl⟩
      rw [← Hm.out]
      go_wp2_with fail
      go_ret
      exact ⟨rfl, _, rfl⟩
  · have E := Lib.hid (endOf_fault hf (refLeft xs at_ f).length)
    have t : (f == 0) = false := by rw [beq_eq_false_iff_ne]; exact hf
    clear hf
    go_enter Try.func34, Try.ntmps34
    go_wp2_with fail
    go_ret
    exact ⟨by rw [E.out]; rfl, 0, rfl⟩

theorem refNum_step (m x : Nat) (hm : m < 72057594037927936) (hx : x < 256) : IntKind.u64.wrap (256 * (m : Int)) = ((256 * m : Nat) : Int) := by
  rw [IntKind.wrap_u64]
  omega

set_option maxRecDepth 100000 in
set_option maxHeartbeats 1000000 in
theorem refNum_same (a : Option Addr) (len cap : Nat) (xs : List Nat) (w : World) (hx : BytesIn w a len cap xs) (hl : len ≤ 8) :
    Calls Try.prog 30 #[.slice a len cap] w fun e w' => e = .returned (.int .u64 ((numOf xs : Nat) : Int)) ∧ w = w' := by
  have hxb : ∀ y ∈ xs, y < 256 := fun y hy => wf_u8_lt (hx.1.2.1 y hy)
  have Hxb := Lib.hid hxb
  have Hxl := Lib.hid hx.1.1
  clear hxb
  go_enter Try.func30, Try.ntmps30
  go_wp2_with fail
  go_loop [3, 4] (fun n i => ∃ k : Nat, k ≤ len ∧ i = .int .i64 k ∧ n = .int .u64 ((numOf (xs.take k) : Nat) : Int)) (fun _ i => len - (intOf i).toNat)
  case atStart => exact ⟨0, by omega, rfl, rfl⟩
  case round =>
    obtain ⟨k, hk, rfl, rfl⟩ := hrel
    by_cases hlt : k < len
    · obtain ⟨b1, o1, x, rfl, hb1, hxx, hwx, hcx⟩ := hx.1.elem k hlt
      obtain ⟨m, hm⟩ : ∃ m, m = numOf (xs.take k) := ⟨_, rfl⟩
      have hm7 : m < 72057594037927936 := by rw [hm]; exact numOf_lt8 (fun y hy => Hxb.out y (List.mem_of_mem_take hy)) (by rw [List.length_take]; omega)
      have hx8 := Hxb.out x (List.mem_of_getElem? hxx)
      have Hnx := Lib.hid (show numOf (xs.take (k + 1)) = m * 256 + x by rw [List.take_add_one, hxx, hm]; exact numOf_snoc _ _)
      rw [← hm]
      have hi : (k : Int) < (len : Int) := by omega
      clear hxx hwx hm
      go_wp2_with fail
      go_round
      case rel => exact ⟨k + 1, by omega, by go_num, by rw [Hnx.out]; go_num⟩
      case measure => simp [intOf]; omega
    · obtain rfl : k = len := by omega
      have E := Lib.hid (show xs.take k = xs by rw [List.take_of_length_le]; rw [Hxl.out]; exact Nat.le_refl _)
      go_wp2_with fail
      go_ret
      exact ⟨by rw [E.out]; rfl, rfl⟩

theorem refNum_any (a : Option Addr) (len cap : Nat) (xs : List Nat) (w : World) (hx : BytesIn w a len cap xs) (hl : len ≤ 8) :
    Calls Try.prog 30 #[.slice a len cap] w fun e w' => e = .returned (.int .u64 ((numOf xs : Nat) : Int)) ∧ ∃ n, w' = w.drewN n :=
  (refNum_same a len cap xs w hx hl).mono fun _ _ ⟨he, hw⟩ => ⟨he, 0, hw.symm⟩

set_option maxRecDepth 100000 in
set_option maxHeartbeats 1000000 in
theorem refTake_fault (x : Nat) (a : Option Addr) (cap : Nat) (xs : List Nat) (at_ : Nat) (f n : Int) (r : Bool) (w : World) (hr : RefAt w x a cap xs at_ f) (hf : f ≠ 0) :
    Calls Try.prog 31 #[.pointer (some ⟨x, 0, none⟩), .int .i64 n, .bool r] w fun e w' => e = .returned (.slice none 0 0) ∧ ∃ n, w' = w.drewN n := by
  have c2 := hr.1.at 2 (.int .i64 f) rfl
  have t : (f == 0) = false := by rw [beq_eq_false_iff_ne]; exact hf
  have t' : (f != 0) = true := by rw [bne_iff_ne]; exact hf
  clear hf
  go_enter Try.func31, Try.ntmps31
  go_wp2_with fail
  go_quiet (fail)
  go_wp2_with fail
  go_ret
  exact ⟨rfl, _, rfl⟩

set_option maxRecDepth 100000 in
set_option maxHeartbeats 1000000 in
theorem refTake_wrong (x : Nat) (a : Option Addr) (cap : Nat) (xs : List Nat) (at_ : Nat) (n : Int) (w : World) (hr : RefAt w x a cap xs at_ 0) :
    Calls Try.prog 31 #[.pointer (some ⟨x, 0, none⟩), .int .i64 n, .bool false] w fun e w' => e = .returned (.slice none 0 0) ∧ RefAt w' x a cap xs at_ 1 ∧ w.grownBy w' (some x) := by
  have hg := hr.1
  have c2 := hg.at 2 (.int .i64 0) rfl
  have f2 := hg.free 2
  have Hg := Lib.hid (hg.put 2 (.int .i64 1))
  have Hr := Lib.hid hr
  clear hr hg
  go_enter Try.func31, Try.ntmps31
  go_wp2_with fail
  go_quiet (fail)
  go_wp2_with fail
  go_ret
  exact ⟨rfl, ⟨Hg.out.drewN _, Hr.out.2⟩, gb_drewN (gb_set (gb_refl w (some x)) (p := ⟨x, 2, none⟩) (.inl rfl) _) _⟩

set_option maxRecDepth 100000 in
set_option maxHeartbeats 1000000 in
theorem refTake_short (x : Nat) (a : Option Addr) (cap : Nat) (xs : List Nat) (at_ : Nat) (n : Int) (w : World) (hr : RefAt w x a cap xs at_ 0) (hl : xs.length ≤ 140737488355320) (hn : (xs.length : Int) - (at_ : Int) < n) :
    Calls Try.prog 31 #[.pointer (some ⟨x, 0, none⟩), .int .i64 n, .bool true] w fun e w' => e = .returned (.slice none 0 0) ∧ RefAt w' x a cap xs at_ 2 ∧ w.grownBy w' (some x) := by
  have hg := hr.1
  have hat := hr.2
  have c0 := hg.at 0 (.slice a xs.length cap) rfl
  have c1 := hg.at 1 (.int .i64 (at_ : Int)) rfl
  have c2 := hg.at 2 (.int .i64 0) rfl
  have f2 := hg.free 2
  have Hg := Lib.hid (hg.put 2 (.int .i64 2))
  have Hr := Lib.hid hr
  have t : decide ((xs.length : Int) - (at_ : Int) < n) = true := by simpa using hn
  have k1 : IntKind.i64.wrap ((xs.length : Int) - (at_ : Int)) = (xs.length : Int) - (at_ : Int) := IntWalk.i64_in _ (by omega)
  clear hr hg
  go_enter Try.func31, Try.ntmps31
  go_wp2_with fail
  go_quiet (fail)
  go_wp2_with fail
  go_ret
  exact ⟨rfl, ⟨(Hr.out.1.drewN _).put 2 (.int .i64 2), Hr.out.2⟩, gb_set (gb_drewN (gb_refl w (some x)) _) (p := ⟨x, 2, none⟩) (.inl rfl) _⟩

set_option maxRecDepth 100000 in
set_option maxHeartbeats 1000000 in
theorem refTake_ok (x : Nat) (a : Option Addr) (cap : Nat) (xs : List Nat) (at_ n : Nat) (w : World) (hr : RefAt w x a cap xs at_ 0) (hx : BytesIn w a xs.length cap xs) (hlc : xs.length ≤ cap) (hcm : cap ≤ maxLen) (hl : xs.length ≤ 140737488355320) (hn : n ≤ xs.length - at_) :
    Calls Try.prog 31 #[.pointer (some ⟨x, 0, none⟩), .int .i64 n, .bool true] w fun e w' => (∃ v, e = .returned v ∧ OwnB w' w.heap.size 5 v ((xs.drop at_).take n)) ∧ RefAt w' x a cap xs (at_ + n) 0 ∧ w.grownBy w' (some x) := by
  unfold maxLen at hcm
  have hg := hr.1
  have hat := hr.2
  have c0 := hg.at 0 (.slice a xs.length cap) rfl
  have c1 := hg.at 1 (.int .i64 (at_ : Int)) rfl
  have c2 := hg.at 2 (.int .i64 0) rfl
  have Hr := Lib.hid hr
  have Hx := Lib.hid hx
  have t : decide ((xs.length : Int) - (at_ : Int) < (n : Int)) = false := by simp; omega
  have k1 : IntKind.i64.wrap ((xs.length : Int) - (at_ : Int)) = (xs.length : Int) - (at_ : Int) := IntWalk.i64_in _ (by omega)
  have hsrc := (hx.left hat hlc).first hn
  have Hsrc := Lib.hid hsrc
  clear hr hg hx hsrc
  have k2 : IntKind.i64.wrap ((at_ : Int) + (n : Int)) = (at_ : Int) + (n : Int) := IntWalk.i64_in _ (by omega)
  have k3 : ((at_ : Int) + (n : Int)).toNat = at_ + n := by omega
  have k4 : (0 : Int) ≤ (at_ : Int) + (n : Int) := by omega
  have k5 : (at_ : Int) + (n : Int) ≤ (cap : Int) := by omega
  have k6 : (at_ : Int) ≤ (at_ : Int) + (n : Int) := by omega
  by_cases hca : cap = at_
  · have Hl := Lib.hid (show leftAt a cap at_ = a by simp [leftAt, hca])
    obtain rfl : n = 0 := by omega
    subst hca
    clear k2 k3 k4 k5 k6
    have k7 : IntKind.i64.wrap (cap : Int) = (cap : Int) := IntWalk.i64_in _ (by omega)
    have k8 : IntKind.i64.wrap ((cap : Int) + ((0 : Nat) : Int)) = (cap : Int) := IntWalk.i64_in _ (by omega)
    go_enter Try.func31, Try.ntmps31
    go_wp2_with fail
    go_quiet (fail)
    rename_i nq
    have hgr := gb_drewN (gb_refl w (some x)) nq
    have hr1 := Hr.out.1.drewN nq
    have hs1 := Hsrc.out.drewN nq
    have hle : w.heap.size ≤ (w.drewN nq).heap.size := Nat.le_refl _
    generalize w.drewN nq = W at hgr hr1 hs1 hle ⊢
    clear c0 c1 c2
    have c0 := hr1.at 0 (.slice a xs.length cap) rfl
    have c1 := hr1.at 1 (.int .i64 (cap : Int)) rfl
    have c2 := hr1.at 2 (.int .i64 0) rfl
    have Hs1 := Lib.hid hs1
    have Hr1 := Lib.hid hr1
    clear hr1 hs1
    go_wp2_with fail
    go_still_tail 15, (by kernel_rfl)
    change wpList _ _ _ _ _ W.drew
    go_wp2_with fail
    refine (copy_any _ 0 _ ((xs.drop cap).take 0) _ (by rw [← Hl.out]; rw [Nat.sub_self] at Hs1; exact Hs1.out) (by omega)).mono ?_
    rintro e w3 ⟨v, rfl, ho3, hb3⟩
    have hb4 : Below W.heap.size W w3 := nu_trans (nu_drew (nu_refl W)) hb3
    have hr3 := Hr1.out.below hb4 Hr1.out.lt
    have c1' := hr3.at 1 (.int .i64 (cap : Int)) rfl
    have f1' := hr3.free 1
    have hgr3 := gb_trans hgr (gb_of_below hb4 (some x))
    have Ho3 := Lib.hid (own_mono ho3 (show w.heap.size ≤ _ from hle))
    have Hgr3 := Lib.hid hgr3
    have Hr3 := Lib.hid hr3
    have hxw : x < w.heap.size := Hr.out.1.lt
    clear ho3 hgr3 hr3 hgr hb3 hb4
    go_wp2_with fail
    go_ret
    exact ⟨⟨v, rfl, Ho3.out.kept (gb_set (gb_refl w3 (some x)) (p := ⟨x, 1, none⟩) (.inl rfl) _) hxw⟩, ⟨by exact Hr3.out.put 1 _, by omega⟩, gb_set Hgr3.out (p := ⟨x, 1, none⟩) (.inl rfl) _⟩
  · have Hl := Lib.hid (show leftAt a cap at_ = a.map (·.add at_) by simp [leftAt, hca])
    go_enter Try.func31, Try.ntmps31
    go_wp2_with fail
    go_quiet (fail)
    rename_i nq
    have hgr := gb_drewN (gb_refl w (some x)) nq
    have hr1 := Hr.out.1.drewN nq
    have hs1 := Hsrc.out.drewN nq
    have hle : w.heap.size ≤ (w.drewN nq).heap.size := Nat.le_refl _
    generalize w.drewN nq = W at hgr hr1 hs1 hle ⊢
    clear c0 c1 c2
    have c0 := hr1.at 0 (.slice a xs.length cap) rfl
    have c1 := hr1.at 1 (.int .i64 (at_ : Int)) rfl
    have c2 := hr1.at 2 (.int .i64 0) rfl
    have Hs1 := Lib.hid hs1
    have Hr1 := Lib.hid hr1
    clear hr1 hs1
    go_wp2_with fail
    go_still_tail 15, (by kernel_rfl)
    change wpList _ _ _ _ _ W.drew
    go_wp2_with fail
    refine (copy_any _ n _ _ _ (by rw [← Hl.out]; exact Hs1.out) (by omega)).mono ?_
    rintro e w3 ⟨v, rfl, ho3, hb3⟩
    have hb4 : Below W.heap.size W w3 := nu_trans (nu_drew (nu_refl W)) hb3
    have hr3 := Hr1.out.below hb4 Hr1.out.lt
    have c1' := hr3.at 1 (.int .i64 (at_ : Int)) rfl
    have f1' := hr3.free 1
    have hgr3 := gb_trans hgr (gb_of_below hb4 (some x))
    have Ho3 := Lib.hid (own_mono ho3 (show w.heap.size ≤ _ from hle))
    have Hgr3 := Lib.hid hgr3
    have Hr3 := Lib.hid hr3
    have hxw : x < w.heap.size := Hr.out.1.lt
    clear ho3 hgr3 hr3 hgr hb3 hb4
    go_wp2_with fail
    go_ret
    exact ⟨⟨v, rfl, Ho3.out.kept (gb_set (gb_refl w3 (some x)) (p := ⟨x, 1, none⟩) (.inl rfl) _) hxw⟩, ⟨by rw [show ((at_ + n : Nat) : Int) = (at_ : Int) + (n : Int) by omega]; exact Hr3.out.put 1 _, by omega⟩, gb_set Hgr3.out (p := ⟨x, 1, none⟩) (.inl rfl) _⟩

/-- The document's Take, whatever it is asked. -/
theorem refTake_any (x : Nat) (a : Option Addr) (cap : Nat) (xs : List Nat) (at_ : Nat) (f n : Int) (r : Bool) (w : World) (hr : RefAt w x a cap xs at_ f) (hx : BytesIn w a xs.length cap xs) (hlc : xs.length ≤ cap) (hcm : cap ≤ maxLen) (hl : xs.length ≤ 140737488355320) (hn : r = true → 0 ≤ n) :
    Calls Try.prog 31 #[.pointer (some ⟨x, 0, none⟩), .int .i64 n, .bool r] w fun e w' => (∃ v, e = .returned v ∧ OwnB w' w.heap.size 5 v (rdStep (refLeft xs at_ f) f n r).1) ∧
      (∃ at', RefAt w' x a cap xs at' (rdStep (refLeft xs at_ f) f n r).2.2 ∧ refLeft xs at' (rdStep (refLeft xs at_ f) f n r).2.2 = (rdStep (refLeft xs at_ f) f n r).2.1) ∧ w.grownBy w' (some x) := by
  have hnil : ∀ W : World, OwnB W w.heap.size 5 (.slice none 0 0) [] := fun W => ⟨⟨by simp, .inl ⟨rfl, rfl⟩⟩, by simp⟩
  by_cases hf : f = 0
  · subst hf
    have hL : refLeft xs at_ 0 = xs.drop at_ := by simp [refLeft]
    rw [hL]
    cases r with
    | false =>
      rw [rdStep_wrong]
      exact (refTake_wrong x a cap xs at_ n w hr).mono fun e w' ⟨he, h1, h2⟩ => ⟨⟨_, he, hnil w'⟩, ⟨at_, h1, by simp [refLeft]⟩, h2⟩
    | true =>
      have hat := hr.2
      have hdl : (xs.drop at_).length = xs.length - at_ := List.length_drop ..
      by_cases hs : ((xs.drop at_).length : Int) < n
      · rw [rdStep_short hs]
        exact (refTake_short x a cap xs at_ n w hr hl (by omega)).mono fun e w' ⟨he, h1, h2⟩ => ⟨⟨_, he, hnil w'⟩, ⟨at_, h1, by simp [refLeft]⟩, h2⟩
      · obtain ⟨m, rfl⟩ := Int.eq_ofNat_of_zero_le (hn rfl)
        rw [rdStep_ok (by omega)]
        exact (refTake_ok x a cap xs at_ m w hr hx hlc hcm hl (by omega)).mono fun e w' ⟨he, h1, h2⟩ => ⟨he, ⟨at_ + m, h1, by simp [refLeft, List.drop_drop]⟩, h2⟩
  · rw [rdStep_fault hf]
    exact (refTake_fault x a cap xs at_ f n r w hr hf).mono fun e w' ⟨he, k, hk⟩ => ⟨⟨_, he, hnil w'⟩, ⟨at_, by rw [hk]; exact ⟨hr.1.drewN k, hr.2⟩, by simp [refLeft, hf]⟩, by rw [hk]; exact gb_drewN (gb_refl w _) k⟩
end Go.Proofs.Ytogcckedelkpbaa
