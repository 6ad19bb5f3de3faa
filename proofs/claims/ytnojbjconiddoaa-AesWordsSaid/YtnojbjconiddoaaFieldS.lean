/-
  The walks of the boxes themselves: set, New and the three that ask.
-/
import Derived.Test.YtnojbjconiddoaaFieldBW
import Derived.Test.YtnojbjconiddoaaMem
import Derived.RegionTactic
import Derived.BigRegion
import Derived.StillTailTactics
import Derived.Deep.QuietTactic
import Derived.BigQuiet
namespace Go.Proofs.Ytnojbjconiddoaa
open Go.RowKit
open Fld

def mixOf (s : Nat) : Nat := gm s 2 * 16777216 + s * 65536 + s * 256 + gm s 3
/-- What the tables hold where the bytes of P were met. -/
structure Tabs (cs : Array Value) (P : Nat → Prop) : Prop where
  size : cs.size = 768
  box : ∀ a, a < 256 → ∃ v : Nat, cs[a]? = some (.int .u8 (v : Int)) ∧ (P a → v = sb a)
  back : ∀ s, s < 256 → ∃ v : Nat, cs[256 + s]? = some (.int .u8 (v : Int)) ∧ (∀ a, a < 256 → P a → sb a = s → v = a)
  mix : ∀ a, a < 256 → ∃ v : Nat, cs[512 + a]? = some (.int .u32 (v : Int)) ∧ (P a → v = mixOf (sb a))

theorem Tabs.set {cs : Array Value} {P : Nat → Prop} (h : Tabs cs P) (a : Nat) (ha : a < 256) :
    Tabs (((cs.setIfInBounds a (.int .u8 ((sb a : Nat) : Int))).setIfInBounds (256 + sb a) (.int .u8 (a : Int))).setIfInBounds (512 + a) (.int .u32 ((mixOf (sb a) : Nat) : Int))) (fun x => P x ∨ x = a) := by
  have hs := sb_lt a
  have hz := h.size
  have get : ∀ i, (((cs.setIfInBounds a (.int .u8 ((sb a : Nat) : Int))).setIfInBounds (256 + sb a) (.int .u8 (a : Int))).setIfInBounds (512 + a) (.int .u32 ((mixOf (sb a) : Nat) : Int)))[i]? =
      if i = 512 + a then some (.int .u32 ((mixOf (sb a) : Nat) : Int)) else if i = 256 + sb a then some (.int .u8 (a : Int)) else if i = a then some (.int .u8 ((sb a : Nat) : Int)) else cs[i]? := by
    intro i
    simp only [Array.getElem?_setIfInBounds, Array.size_setIfInBounds, hz]
    by_cases h1 : i = 512 + a
    · subst h1
      simp
      omega
    · by_cases h2 : i = 256 + sb a
      · subst h2
        simp [h1, Ne.symm h1]
        omega
      · by_cases h3 : i = a
        · subst h3
          have h4 : ¬ 512 + i = i := by omega
          simp [h2, Ne.symm h2]
          omega
        · simp [h1, h2, h3, Ne.symm h1, Ne.symm h2, Ne.symm h3]
  refine ⟨by simp [hz], ?_, ?_, ?_⟩
  · intro x hx
    rw [get x, if_neg (by omega), if_neg (by omega)]
    by_cases e : x = a
    · subst e
      exact ⟨sb x, by rw [if_pos rfl], fun _ => rfl⟩
    · obtain ⟨v, hv, hp⟩ := h.box x hx
      exact ⟨v, by rw [if_neg e, hv], fun hq => hp (hq.resolve_right e)⟩
  · intro s hs2
    rw [get (256 + s), if_neg (by omega)]
    by_cases e : s = sb a
    · subst e
      refine ⟨a, by rw [if_pos rfl], fun x hx _ hxs => ?_⟩
      rw [← bs_sb a ha, ← hxs, bs_sb x hx]
    · obtain ⟨v, hv, hp⟩ := h.back s hs2
      refine ⟨v, by rw [if_neg (by omega), if_neg (by omega), hv], fun x hx hq hxs => ?_⟩
      rcases hq with hq | hq
      · exact hp x hx hq hxs
      · subst hq
        exact absurd hxs.symm e
  · intro x hx
    rw [get (512 + x)]
    by_cases e : x = a
    · subst e
      exact ⟨mixOf (sb x), by rw [if_pos rfl], fun _ => rfl⟩
    · obtain ⟨v, hv, hp⟩ := h.mix x hx
      exact ⟨v, by rw [if_neg (by omega), if_neg (by omega), if_neg (by omega), hv], fun hq => hp (hq.resolve_right e)⟩

theorem mix_val (s : Nat) (hs : s < 256) :
    bits .or .u32 (bits .or .u32 (bits .or .u32 ((gm s 2 : Nat) * 16777216 : Int) ((s : Int) * 65536)) ((s : Int) * 256)) ((gm s 3 : Nat) : Int) = ((mixOf s : Nat) : Int) := by
  have h2 := gm_lt s 2 hs
  have h3 := gm_lt s 3 hs
  have e1 := u32_or_nat (gm s 2 * 16777216) (s * 65536) (by omega) (by omega)
  rw [nat_join 24 _ _ (by omega) (by omega)] at e1
  have e2 := u32_or_nat (gm s 2 * 16777216 + s * 65536) (s * 256) (by omega) (by omega)
  rw [nat_join 16 _ _ (by omega) (by omega)] at e2
  have e3 := u32_or_nat (gm s 2 * 16777216 + s * 65536 + s * 256) (gm s 3) (by omega) (by omega)
  rw [nat_join 8 _ _ (by omega) (by omega)] at e3
  rw [show ((gm s 2 : Nat) : Int) * 16777216 = ((gm s 2 * 16777216 : Nat) : Int) by simp, show (s : Int) * 65536 = ((s * 65536 : Nat) : Int) by simp, show (s : Int) * 256 = ((s * 256 : Nat) : Int) by simp, e1, e2, e3]
  rfl
theorem idx5_0 (w : World) : (Instr.index 101 (.agg #[.int .i64 0, .int .i64 1, .int .i64 2, .int .i64 3, .int .i64 4]) (.int .i64 0)).run Try.prog w = .ok (.int .i64 0) w := by kernel_rfl
theorem idx5_1 (w : World) : (Instr.index 101 (.agg #[.int .i64 0, .int .i64 1, .int .i64 2, .int .i64 3, .int .i64 4]) (.int .i64 1)).run Try.prog w = .ok (.int .i64 1) w := by kernel_rfl
theorem idx5_2 (w : World) : (Instr.index 101 (.agg #[.int .i64 0, .int .i64 1, .int .i64 2, .int .i64 3, .int .i64 4]) (.int .i64 2)).run Try.prog w = .ok (.int .i64 2) w := by kernel_rfl
theorem idx5_3 (w : World) : (Instr.index 101 (.agg #[.int .i64 0, .int .i64 1, .int .i64 2, .int .i64 3, .int .i64 4]) (.int .i64 3)).run Try.prog w = .ok (.int .i64 3) w := by kernel_rfl
theorem idx5_4 (w : World) : (Instr.index 101 (.agg #[.int .i64 0, .int .i64 1, .int .i64 2, .int .i64 3, .int .i64 4]) (.int .i64 4)).run Try.prog w = .ok (.int .i64 4) w := by kernel_rfl
theorem idx5 (k : Nat) (hk : k < 5) (w : World) : (Instr.index 101 (.agg #[.int .i64 0, .int .i64 1, .int .i64 2, .int .i64 3, .int .i64 4]) (.int .i64 (k : Int))).run Try.prog w = .ok (.int .i64 (k : Int)) w :=
  match k, hk with
  | 0, _ => idx5_0 w
  | 1, _ => idx5_1 w
  | 2, _ => idx5_2 w
  | 3, _ => idx5_3 w
  | 4, _ => idx5_4 w

set_option maxRecDepth 100000 in
set_option maxHeartbeats 1000000 in
theorem set_any (g a b : Nat) (cs : Array Value) (w : World) (ha : a < 256) (hab : b = inv a) (hg : Blk w g 95 cs) {P : Nat → Prop} (ht : Tabs cs P) :
    Calls Try.prog 60 #[.pointer (some ⟨g, 0, none⟩), .int .u8 a, .int .u8 b] w fun e w' => e = .returned (.tuple #[]) ∧ w.grownBy w' (some g) ∧ ∃ cs', Blk w' g 95 cs' ∧ Tabs cs' (fun x => P x ∨ x = a) := by
  have hb : b < 256 := by rw [hab]; exact inv_lt a
  have Hs := Lib.hid (show affF b 5 = sb a by rw [hab]; rfl)
  clear hab
  go_enter Try.func60, Try.ntmps60
  go_wp2_with fail
  go_loop [6, 8, 10] (fun s _ i => ∃ k q : Nat, k ≤ 5 ∧ q < 256 ∧ i = .int .i64 k ∧ s = .int .u8 q ∧ q = affF b k) (fun _ _ i => 5 - (intOf i).toNat)
  case atStart => exact ⟨0, 99, by omega, by omega, rfl, rfl, rfl⟩
  case round =>
    obtain ⟨k, q, hk, hq, rfl, rfl, hr⟩ := hrel
    have Hr := Lib.hid hr
    clear hr
    by_cases hlt : k < 5
    · have hi := idx5 k hlt
      have hrl := rot_lt b k hb
      have E1 := Lib.hid (u8_xor_nat q (rot b k) hq hrl)
      have E2 := Lib.hid (show q ^^^ rot b k = affF b (k + 1) by rw [Hr.out]; rfl)
      have E3 := Lib.hid (Nat.xor_lt_two_pow (n := 8) hq hrl)
      go_wp2_with fail
      refine (rot_any b k hb hlt _).mono ?_
      rintro e w' ⟨rfl, rfl⟩
      go_wp2_with fail
      go_round
      case rel => exact ⟨k + 1, q ^^^ rot b k, by omega, E3.out, by go_num, by rw [← E1.out], E2.out⟩
      case measure => simp [intOf]; omega
    · obtain rfl : k = 5 := by omega
      have e : q = sb a := by rw [Hr.out, Hs.out]
      subst e
      have c1 : ∃ v, w.cell? ⟨g, a, none⟩ = some v := by obtain ⟨v, hv, _⟩ := ht.box a ha; exact ⟨_, hg.at a _ hv⟩
      have c2 : ∃ v, w.cell? ⟨g, 256 + sb a, none⟩ = some v := by obtain ⟨v, hv, _⟩ := ht.back _ hq; exact ⟨_, hg.at _ _ hv⟩
      have c3 : ∃ v, w.cell? ⟨g, 512 + a, none⟩ = some v := by obtain ⟨v, hv, _⟩ := ht.mix a ha; exact ⟨_, hg.at _ _ hv⟩
      obtain ⟨v1, c1⟩ := c1
      obtain ⟨v2, c2⟩ := c2
      obtain ⟨v3, c3⟩ := c3
      have f1 := hg.free a
      have f2 := hg.free (256 + sb a)
      have f3 := hg.free (512 + a)
      have hne : a ≠ 256 + sb a := by omega
      have hia : (a : Int) < 256 := by omega
      have his : ((sb a : Nat) : Int) < 256 := by omega
      go_wp2_with fail
      go_region
      have hg1 := ((hg.put a (.int .u8 ((sb a : Nat) : Int))).put (256 + sb a) (.int .u8 (a : Int))).drew
      have gb1 := gb_drew (gb_set (gb_set (gb_refl w (some g)) (p := ⟨g, a, none⟩) (.inl rfl) (.int .u8 ((sb a : Nat) : Int))) (p := ⟨g, 256 + sb a, none⟩) (.inl rfl) (.int .u8 (a : Int)))
      have c4 : ((w.setCell ⟨g, a, none⟩ (.int .u8 ((sb a : Nat) : Int))).setCell ⟨g, 256 + sb a, none⟩ (.int .u8 (a : Int))).drew.cell? ⟨g, 512 + a, none⟩ = some v3 := by
        refine (World.cell?_setCell_other _ _ _ _ (fun e => by injection e with _ e; omega)).trans ((World.cell?_setCell_other _ _ _ _ (fun e => by injection e with _ e; omega)).trans c3)
      generalize ((w.setCell ⟨g, a, none⟩ (.int .u8 ((sb a : Nat) : Int))).setCell ⟨g, 256 + sb a, none⟩ (.int .u8 (a : Int))).drew = w1 at hg1 gb1 c4 ⊢
      have f4 := hg1.free (512 + a)
      have m2 := gm_lt (sb a) 2 hq
      have m3 := gm_lt (sb a) 3 hq
      have Hmix := Lib.hid (mix_val (sb a) hq)
      have Htab := Lib.hid (ht.set a ha)
      clear c1 c2 c3 f1 f2 f3 hg ht
      go_wp2_with fail
      go_still_tail 21, (by kernel_rfl)
      still_call ((times_any (sb a) 2 hq (by omega) _).mono fun _ _ h => ⟨h.1, h.2.symm⟩)
      repeat still_step
      still_call ((times_any (sb a) 3 hq (by omega) _).mono fun _ _ h => ⟨h.1, h.2.symm⟩)
      repeat still_step
      refine wpStill_nil ?_
      change wpList _ _ _ _ _ w1.drew
      have hg2 := hg1.drew
      have gb2 := gb_drew gb1
      have c5 : w1.drew.cell? ⟨g, 512 + a, none⟩ = some v3 := c4
      have f5 : w1.drew.frozen? ⟨g, 512 + a, none⟩ = false := f4
      generalize w1.drew = w2 at hg2 gb2 c5 f5 ⊢
      clear hg1 gb1 c4 f4
      go_wp2_with fail
      go_end0
      rw [Hmix.out]
      exact ⟨rfl, gb_set gb2 (.inl rfl) _, _, hg2.put (512 + a) _, Htab.out⟩
end Go.Proofs.Ytnojbjconiddoaa
