/-
  The walk of bytes.Clone.
-/
import Derived.Test.YtnojbjconiddoaaBytes
namespace Go.Proofs.Ytnojbjconiddoaa
open Go.ChangeShapes Go.WideShapes Go.ChangeAt Go.RowKit

set_option maxRecDepth 100000 in
set_option maxHeartbeats 400000 in
theorem clone_some (ad : Addr) (len cap : Nat) (xs : List Nat) (w : World) (hx : BytesIn w (some ad) len cap xs) (hlen : len ≤ 140737488355320) :
    Calls Try.prog 61 #[.slice (some ad) len cap] w fun e w' => ∃ v, e = .returned v ∧ OwnB w' w.heap.size 5 v xs ∧ Below w.heap.size w w' := by
  obtain ⟨i0, hi, hz0, hz1, hz2⟩ := info_parts info_u8
  have hnil := fun W : World => @Lib.run_eql_slice_nil Try.prog W
  have Hown := Lib.hid (World.ownsRow_made (base := w.heap.size) (e := 5) (size := 1) w #[] 0 (Nat.le_refl _) (by unfold maxLen; omega) rfl)
  have Hsrc := Lib.hid ((hx.keep ((Below.refl w.heap.size w).alloc (Nat.le_refl _) (.cells #[] 5))).src ad rfl)
  have Hl := Lib.hid (show (xs.map vb).length = len * 1 by rw [List.length_map, hx.1.1]; omega)
  have Hm := Lib.hid (show 0 + len ≤ maxLen by unfold maxLen; omega)
  have Hb := Lib.hid (show (0 + len) * 1 ≤ 140737488355328 by omega)
  have Hz := Lib.hid (show w.heap.size ≤ (w.alloc (.cells #[] 5)).heap.size by simp)
  go_enter Try.func61, Try.ntmps61
  go_wp2_with (at_builtin; refine wpList_append_own _ rfl (.tmp 5) (.tmp 6) 27 rfl w.heap.size 5 i0 (.int .u8 0) 1 1 Try.underlying27 hi hz0 hz1 hz2 rfl (by decide) _ 0 [] rfl Hown.out ad len cap (xs.map vb) rfl Hl.out Hsrc.out (vb_one xs) Hm.out Hb.out Hz.out ?_)
  intro v' w2 hown2 hg2 _
  have hb2 := ((Below.refl w.heap.size w).alloc (Nat.le_refl _) (.cells #[] 5)).grown hg2 (by simp) (fun k hk => by have hk2 : w.heap.size = k := Option.some.inj hk; omega)
  have Hfin := Lib.hid (show OwnB w2 w.heap.size 5 v' xs from ⟨by rw [hx.1.1]; simpa using hown2, fun x h => wf_u8_lt (hx.1.2.1 x h)⟩)
  clear hown2 hg2
  go_wp2_with fail
  go_ret
  exact ⟨_, rfl, Hfin.out, hb2⟩
theorem clone_nil (w : World) : Calls Try.prog 61 #[.slice none 0 0] w fun e w' => e = .returned (.slice none 0 0) ∧ w = w' := by
  have hnil := fun W : World => @Lib.run_eql_slice_nil Try.prog W
  go_enter Try.func61, Try.ntmps61
  go_wp2_with fail
  go_ret
  exact ⟨rfl, rfl⟩
theorem clone_any (a : Option Addr) (len cap : Nat) (xs : List Nat) (w : World) (hx : BytesIn w a len cap xs) (hlen : len ≤ 140737488355320) :
    Calls Try.prog 61 #[.slice a len cap] w fun e w' => ∃ v, e = .returned v ∧ OwnB w' w.heap.size 5 v xs ∧ Below w.heap.size w w' := by
  cases a with
  | some ad => exact clone_some ad len cap xs w hx hlen
  | none =>
    obtain ⟨rfl, rfl⟩ := hx.2 rfl
    have hnil : xs = [] := List.eq_nil_of_length_eq_zero hx.1.1
    subst hnil
    exact (clone_nil w).mono fun e w' ⟨he, hw⟩ => ⟨_, he, ⟨⟨by simp, .inl ⟨rfl, rfl⟩⟩, by simp⟩, by rw [← hw]; exact Below.refl _ _⟩
end Go.Proofs.Ytnojbjconiddoaa
