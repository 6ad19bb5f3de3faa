/-
  The walk of NonceEnds: a source near its end, asked as often as it has numbers, and then again.
-/
import Derived.Test.YtdefdhmoleahnaaNonceL
namespace Go.Proofs.Ytdefdhmoleahnaa
open Go.ChangeShapes Go.WideShapes Go.ChangeAt Go.RowKit

set_option maxRecDepth 100000 in
set_option maxHeartbeats 1000000 in
theorem nonceEnds_walk (boot back more : Nat) (hback : back < 256) (hmore : more < 256) (w : World) :
    Calls Try.prog 6 #[.int .u32 boot, .int .u8 back, .int .u8 more] w fun e w' => e = .returned (.bool true) ∧ Below w.heap.size w w' := by
  obtain ⟨first, hfirst⟩ : ∃ first : Nat, first = 18446744073709551615 - back := ⟨_, rfl⟩
  have ef := Lib.hid (show (18446744073709551615 : Int) - (back : Int) = (first : Int) by omega)
  have Hf := Lib.hid (show first < 18446744073709551616 by omega)
  have Hb := Lib.hid (show first + back = 18446744073709551615 by omega)
  clear hfirst
  go_enter Try.func6, Try.ntmps6
  go_wp2_with fail
  rw [ef.out]
  refine (new_any boot first _).mono ?_
  rintro e w1 ⟨rfl, rfl⟩
  go_wp2_with fail
  go_loopw [8] (fun i wr => ∃ k : Nat, k ≤ back + 1 ∧ i = .int .i64 k ∧ Blk wr w.heap.size 54 (srcCells boot (nextOf first k) (overOf first k)) ∧ Below w.heap.size w wr) (fun i _ => 257 - (intOf i).toNat)
  case atStart => exact ⟨0, by omega, rfl, by rw [← state_zero boot first Hf.out]; exact Blk.made _ _ _, (Below.refl _ _).alloc (Nat.le_refl _) _⟩
  case round =>
    obtain ⟨k, hk1, rfl, hs, hb⟩ := hrel
    have hsz := hs.lt
    by_cases hlt : k ≤ back
    · have hn : first + k < 18446744073709551616 := by have := Hb.out; omega
      have ho : ¬ top ≤ first + k := by rw [top_eq]; omega
      rw [show overOf first k = false from decide_eq_false ho, show nextOf first k = first + k by unfold nextOf; rw [if_neg ho]] at hs
      have es := Lib.hid (state_step boot first k hn)
      clear ho hn
      go_wp2_with fail
      refine (next_more w.heap.size boot (first + k) 1 _ hs).mono ?_
      rintro e w2 ⟨rfl, g2, hs2⟩
      rw [es.out] at hs2
      have hz2 := g2.size
      have hb2 := below_turned hb g2 (by omega) (Nat.le_refl _)
      clear hs g2
      go_wp2_with fail
      go_roundw
      case rel => exact ⟨k + 1, by omega, by go_num, hs2.alloc _, hb2.alloc (by omega) _⟩
      case measure => simp [intOf]; omega
    · have ho : top ≤ first + k := by rw [top_eq]; have := Hb.out; omega
      rw [show overOf first k = true from decide_eq_true ho] at hs
      obtain ⟨n0, hn0⟩ : ∃ n0, n0 = nextOf first k := ⟨_, rfl⟩
      rw [← hn0] at hs
      obtain ⟨wo, rfl⟩ : ∃ wo : World, wo = wr := ⟨_, rfl⟩
      clear ho hn0
      go_wp2_with fail
      go_loopw [11] (fun i wr => ∃ k : Nat, k ≤ more + 1 ∧ i = .int .i64 k ∧ Blk wr w.heap.size 54 (srcCells boot n0 true) ∧ Below w.heap.size w wr) (fun i _ => 257 - (intOf i).toNat)
      case atStart => exact ⟨0, by omega, rfl, hs, hb⟩
      case round =>
        obtain ⟨j, hk2, rfl, hs3, hb3⟩ := hrel
        have hsz3 := hs3.lt
        by_cases hlt2 : j ≤ more
        · go_wp2_with fail
          refine (next_over w.heap.size boot n0 j _ hs3).mono ?_
          rintro e w2 ⟨rfl, b2⟩
          have hs4 := (hs3.below b2 hsz3)
          have hb4 := hb3.trans (b2.mono (by omega))
          have hz4 := b2.size
          go_wp2_with fail
          refine (left_over w.heap.size boot n0 _ (hs4.alloc _)).mono ?_
          rintro e w3 ⟨rfl, rfl⟩
          go_wp2_with fail
          go_roundw
          case rel => exact ⟨j + 1, by omega, by go_num, hs4.alloc _, hb4.alloc (by omega) _⟩
          case measure => simp [intOf]; omega
        · go_wp2_with fail
          refine (awake_any _).mono ?_
          rintro e w3 ⟨rfl, b3⟩
          go_wp2_with fail
          go_ret
          exact ⟨rfl, hb3.trans (b3.mono (by omega))⟩
end Go.Proofs.Ytdefdhmoleahnaa
