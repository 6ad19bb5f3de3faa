/-
  The walk of field.New, and of the three that ask the tables.
-/
import Derived.Test.YtnojbjconiddoaaFieldS
namespace Go.Proofs.Ytnojbjconiddoaa
open Go.RowKit
open Fld

def z768 : Array Value := Array.replicate 512 (.int .u8 0) ++ Array.replicate 256 (.int .u32 0)
theorem zero_boxes (w : World) : (zeroValue 95).run Try.prog w = .ok (.agg z768) w := by kernel_rfl
theorem z768_tabs : Tabs z768 (fun _ => False) := by
  refine ⟨by simp [z768], fun a ha => ⟨0, ?_, fun h => h.elim⟩, fun a ha => ⟨0, ?_, fun _ _ h => h.elim⟩, fun a ha => ⟨0, ?_, fun h => h.elim⟩⟩
  · unfold z768
    rw [Array.getElem?_append_left (by simp; omega), Array.getElem?_replicate, if_pos (by omega)]
    rfl
  · unfold z768
    rw [Array.getElem?_append_left (by simp; omega), Array.getElem?_replicate, if_pos (by omega)]
    rfl
  · unfold z768
    rw [Array.getElem?_append_right (by simp), Array.getElem?_replicate, if_pos (by simp; omega)]
    rfl
theorem Tabs.weaken {cs : Array Value} {P Q : Nat → Prop} (h : Tabs cs P) (hq : ∀ a, a < 256 → Q a → P a) : Tabs cs Q :=
  ⟨h.size, fun a ha => let ⟨v, h1, h2⟩ := h.box a ha; ⟨v, h1, fun q => h2 (hq a ha q)⟩, fun s hs => let ⟨v, h1, h2⟩ := h.back s hs; ⟨v, h1, fun a ha q => h2 a ha (hq a ha q)⟩, fun a ha => let ⟨v, h1, h2⟩ := h.mix a ha; ⟨v, h1, fun q => h2 (hq a ha q)⟩⟩

def metBy (k : Nat) (a : Nat) : Prop := ∃ j, j < k ∧ gpow 3 (j + 1) = a
theorem metBy_succ (k a : Nat) (h : metBy (k + 1) a) : metBy k a ∨ a = gpow 3 (k + 1) := by
  obtain ⟨j, hj, e⟩ := h
  by_cases h : j = k
  · subst h
    exact .inr e.symm
  · exact .inl ⟨j, by omega, e⟩

set_option maxRecDepth 100000 in
set_option maxHeartbeats 1000000 in
theorem newBoxes_any (w : World) :
    Calls Try.prog 43 #[] w fun e w' => e = .returned (.pointer (some ⟨w.heap.size, 0, none⟩)) ∧ Below w.heap.size w w' ∧ ∃ cs, Blk w' w.heap.size 95 cs ∧ Tabs cs (fun a => a < 256) := by
  have hz := zero_boxes
  have B0 := Blk.made w 95 z768
  have L0 : Below w.heap.size w (w.alloc (.cells z768 95)) := (Below.refl _ _).alloc (Nat.le_refl _) _
  go_enter Try.func43, Try.ntmps43
  go_wp2_with fail
  clear hz
  go_loopw [2, 3, 6] (fun p q i wr => ∃ k : Nat, k ≤ 255 ∧ i = .int .i64 k ∧ p = .int .u8 (gpow 3 k) ∧ q = .int .u8 (gpow 246 k) ∧ Below w.heap.size w wr ∧ ∃ cs, Blk wr w.heap.size 95 cs ∧ Tabs cs (metBy k)) (fun _ _ i _ => 255 - (intOf i).toNat)
  case atStart => exact ⟨0, by omega, rfl, rfl, rfl, L0, z768, B0, z768_tabs.weaken (fun a _ h => by obtain ⟨j, hj, _⟩ := h; omega)⟩
  case round =>
    obtain ⟨k, hk, rfl, rfl, rfl, hb, cs, hg, ht⟩ := hrel
    have h3 := gpow_lt 3 k
    have h6 := gpow_lt 246 k
    have hsz := hg.lt
    clear B0 L0
    by_cases hlt : k < 255
    · have h3' : gm (gpow 3 k) 3 < 256 := gm_lt _ _ h3
      have Hp := Lib.hid (show gm (gpow 246 k) 246 = inv (gm (gpow 3 k) 3) from (pow_pair (k + 1)).symm)
      go_wp2_with fail
      refine (times_any (gpow 3 k) 3 h3 (by omega) _).mono ?_
      rintro e w' ⟨rfl, rfl⟩
      go_wp2_with fail
      refine (times_any (gpow 246 k) 246 h6 (by omega) _).mono ?_
      rintro e w' ⟨rfl, rfl⟩
      go_wp2_with fail
      refine (set_any w.heap.size (gm (gpow 3 k) 3) (gm (gpow 246 k) 246) cs _ h3' Hp.out hg ht).mono ?_
      rintro e w2 ⟨rfl, g2, cs2, hg2, ht2⟩
      have hb2 := below_turned hb g2 (by omega) (Nat.le_refl _)
      clear g2 hg ht
      go_wp2_with fail
      go_roundw
      case rel => exact ⟨k + 1, by omega, by go_num, rfl, rfl, hb2, cs2, hg2, ht2.weaken (fun a _ h => metBy_succ k a h)⟩
      case measure => simp [intOf]; omega
    · obtain rfl : k = 255 := by omega
      go_wp2_with fail
      refine (set_any w.heap.size 0 0 cs _ (by omega) inv_zero.symm hg ht).mono ?_
      rintro e w2 ⟨rfl, g2, cs2, hg2, ht2⟩
      have hb2 := below_turned hb g2 (by omega) (Nat.le_refl _)
      have ht3 := ht2.weaken (Q := fun a => a < 256) (fun a ha _ => by
        by_cases h : a = 0
        · exact .inr h
        · exact .inl (met_every a ha h))
      clear g2 hg ht ht2
      go_wp2_with fail
      go_ret
      exact ⟨rfl, hb2, cs2, hg2, ht3⟩

theorem box_any (g a : Nat) (cs : Array Value) (w : World) (ha : a < 256) (hg : Blk w g 95 cs) (ht : Tabs cs (fun a => a < 256)) :
    Calls Try.prog 54 #[.pointer (some ⟨g, 0, none⟩), .int .u8 a] w fun e w' => e = .returned (.int .u8 (sb a)) ∧ w = w' := by
  obtain ⟨v, hv, hp⟩ := ht.box a ha
  have e := hp ha
  subst e
  have c := hg.at a _ hv
  have hia : (a : Int) < 256 := by omega
  go_enter Try.func54, Try.ntmps54
  go_wp2_with fail
  go_ret
  exact ⟨rfl, rfl⟩
theorem mix53 : mixOf (sb 83) = 3253595436 := by
  unfold sb
  rw [inv53]
  decide +kernel
theorem back_any (g s : Nat) (cs : Array Value) (w : World) (hs : s < 256) (hg : Blk w g 95 cs) (ht : Tabs cs (fun a => a < 256)) :
    Calls Try.prog 59 #[.pointer (some ⟨g, 0, none⟩), .int .u8 s] w fun e w' => e = .returned (.int .u8 (bs s)) ∧ w = w' := by
  obtain ⟨v, hv, hp⟩ := ht.back s hs
  have e := hp (bs s) (bs_lt s) (bs_lt s) (sb_bs s hs)
  subst e
  have c := hg.at _ _ hv
  have hia : (s : Int) < 256 := by omega
  go_enter Try.func59, Try.ntmps59
  go_wp2_with fail
  go_ret
  exact ⟨rfl, rfl⟩
theorem mix_any (g a : Nat) (cs : Array Value) (w : World) (ha : a < 256) (hg : Blk w g 95 cs) (ht : Tabs cs (fun a => a < 256)) :
    Calls Try.prog 53 #[.pointer (some ⟨g, 0, none⟩), .int .u8 a] w fun e w' => e = .returned (.int .u32 (mixOf (sb a))) ∧ w = w' := by
  obtain ⟨v, hv, hp⟩ := ht.mix a ha
  have e := hp ha
  subst e
  have c := hg.at _ _ hv
  have hia : (a : Int) < 256 := by omega
  go_enter Try.func53, Try.ntmps53
  go_wp2_with fail
  go_ret
  exact ⟨rfl, rfl⟩
theorem box_nil (a : Nat) (w : World) : Calls Try.prog 54 #[.pointer none, .int .u8 a] w fun e w' => e = .returned (.int .u8 0) ∧ w = w' := by
  go_enter Try.func54, Try.ntmps54
  go_wp2_with fail
  go_ret
  exact ⟨rfl, rfl⟩
theorem back_nil (a : Nat) (w : World) : Calls Try.prog 59 #[.pointer none, .int .u8 a] w fun e w' => e = .returned (.int .u8 0) ∧ w = w' := by
  go_enter Try.func59, Try.ntmps59
  go_wp2_with fail
  go_ret
  exact ⟨rfl, rfl⟩
theorem mix_nil (a : Nat) (w : World) : Calls Try.prog 53 #[.pointer none, .int .u8 a] w fun e w' => e = .returned (.int .u32 0) ∧ w = w' := by
  go_enter Try.func53, Try.ntmps53
  go_wp2_with fail
  go_ret
  exact ⟨rfl, rfl⟩
end Go.Proofs.Ytnojbjconiddoaa
