/-
  The walk of NonceRuns: a loop over the epochs that asks Left and Next in each round.
-/
import Derived.Test.YtdefdhmoleahnaaNonceA
import Derived.Test.YtdefdhmoleahnaaInts
namespace Go.Proofs.Ytdefdhmoleahnaa
open Go.ChangeShapes Go.WideShapes Go.ChangeAt Go.RowKit

/-- The greatest number of a source, and one. -/
def top : Nat := 18446744073709551616
theorem top_eq : top = 18446744073709551616 := rfl

/-- The reference's Left, as a number. -/
def refLeft (first told : Nat) : Nat :=
  if top ≤ first + told then 0 else if first + told = 0 then 18446744073709551615 else top - (first + told)

theorem left_a (told : Nat) (h : told < 1000) : 18446744073709551615 - (told : Int) + 1 = ((top - told : Nat) : Int) := by
  rw [top_eq]
  omega
theorem left_b (first told : Nat) (h1 : 1 ≤ first) (h : first + told ≤ 18446744073709551616) : 18446744073709551615 - (first : Int) + 1 - told = ((refLeft first told : Nat) : Int) := by
  unfold refLeft
  rw [top_eq]
  split
  · omega
  · rw [if_neg (by omega)]
    omega

theorem refLeft_any (first told : Nat) (h1 : first < 18446744073709551616) (h2 : told < 1000) (w : World) :
    Calls Try.prog 16 #[.int .u64 first, .int .u64 told] w fun e w' => e = .returned (.int .u64 (refLeft first told)) ∧ w = w' := by
  by_cases hf : first = 0
  · subst hf
    by_cases ht : told = 0
    · subst ht
      go_enter Try.func16, Try.ntmps16
      go_wp2
      go_ret
      exact ⟨rfl, rfl⟩
    · have t1 : ((told : Int) == 0) = false := by rw [beq_eq_false_iff_ne]; omega
      have e : refLeft 0 told = top - told := by
        unfold refLeft
        rw [if_neg (by rw [top_eq]; omega), if_neg (by omega)]
        simp
      have E := Lib.hid e
      have h0 : ¬ told = 0 := ht
      clear e ht
      go_enter Try.func16, Try.ntmps16
      go_wp2
      go_ret
      exact ⟨by rw [E.out]; exact congrArg _ (congrArg _ (left_a told h2)), rfl⟩
  · have t1 : ((first : Int) == 0) = false := by rw [beq_eq_false_iff_ne]; omega
    have hf1 : 1 ≤ first := by omega
    by_cases ht : 18446744073709551616 - first < told
    · have E := Lib.hid (show refLeft first told = 0 by unfold refLeft; rw [top_eq, if_pos (by omega)])
      have ht2 : 18446744073709551616 < first + told := by omega
      clear ht hf
      go_enter Try.func16, Try.ntmps16
      go_wp2
      go_ret
      exact ⟨by rw [E.out]; rfl, rfl⟩
    · have E := Lib.hid (left_b first told hf1 (by omega))
      have ht2 : first + told ≤ 18446744073709551616 := by omega
      clear ht hf
      go_enter Try.func16, Try.ntmps16
      go_wp2
      go_ret
      exact ⟨congrArg _ (congrArg _ E.out), rfl⟩

/-- The source's state behind so many calls. -/
def nextOf (first told : Nat) : Nat := if top ≤ first + told then 0 else first + told
def overOf (first told : Nat) : Bool := decide (top ≤ first + told)


theorem left_any (b boot first k : Nat) (w : World) (hs : Blk w b 54 (srcCells boot (nextOf first k) (overOf first k))) :
    Calls Try.prog 17 #[.pointer (some ⟨b, 0, none⟩)] w fun e w' => e = .returned (.int .u64 (refLeft first k)) ∧ w = w' := by
  by_cases h : top ≤ first + k
  · have e1 : overOf first k = true := decide_eq_true h
    have e2 : refLeft first k = 0 := by unfold refLeft; rw [if_pos h]
    rw [e1] at hs
    rw [e2]
    exact left_over b boot _ w hs
  · have e1 : overOf first k = false := decide_eq_false h
    have e2 : nextOf first k = first + k := by unfold nextOf; rw [if_neg h]
    rw [e1, e2] at hs
    rw [top_eq] at h
    by_cases h0 : first + k = 0
    · have e3 : refLeft first k = 18446744073709551615 := by unfold refLeft; rw [top_eq, if_neg h, if_pos h0]
      rw [h0] at hs
      rw [e3]
      exact left_zero b boot w hs
    · have e3 : refLeft first k = 18446744073709551616 - (first + k) := by unfold refLeft; rw [top_eq, if_neg h, if_neg h0]
      rw [e3]
      exact left_more b boot (first + k) w hs (by omega) (by omega)
theorem state_step (boot first k : Nat) (h : first + k < 18446744073709551616) :
    srcCells boot ((first + k + 1) % 18446744073709551616) ((first + k + 1) % 18446744073709551616 == 0) = srcCells boot (nextOf first (k + 1)) (overOf first (k + 1)) := by
  unfold nextOf overOf
  rw [top_eq]
  by_cases e : first + k + 1 = 18446744073709551616
  · rw [show first + (k + 1) = 18446744073709551616 by omega, e, if_pos (by omega), decide_eq_true (by omega)]
    rfl
  · rw [show (first + k + 1) % 18446744073709551616 = first + k + 1 by omega, if_neg (by omega), decide_eq_false (by omega), show first + (k + 1) = first + k + 1 by omega]
    rw [show (first + k + 1 == 0) = false by rw [beq_eq_false_iff_ne]; omega]
theorem state_over (boot first k : Nat) (h : top ≤ first + k) : srcCells boot (nextOf first k) (overOf first k) = srcCells boot (nextOf first (k + 1)) (overOf first (k + 1)) := by
  unfold nextOf overOf
  rw [if_pos h, if_pos (by omega), decide_eq_true h, decide_eq_true (by omega)]
theorem state_zero (boot first : Nat) (h : first < 18446744073709551616) : srcCells boot first false = srcCells boot (nextOf first 0) (overOf first 0) := by
  unfold nextOf overOf
  rw [if_neg (by rw [top_eq]; omega), decide_eq_false (by rw [top_eq]; omega)]
  rfl

set_option maxRecDepth 100000 in
set_option maxHeartbeats 1000000 in
theorem nonceRuns_walk (a0 : Int) (a1 : Int) (a2 : Option Addr) (len2 cap2 : Nat) (z2 : List Int) (w : World) (w0 : (Lit.int .u32 a0).wf = true) (w1 : (Lit.int .u64 a1).wf = true) (w2 : RowSaid .u32 w a2 len2 cap2 z2) :
    Calls Try.prog 5 #[.int .u32 a0, .int .u64 a1, .slice a2 len2 cap2] w fun e w' => e = .returned (.bool true) ∧ Below w.heap.size w w' := by
  have b0 := bounds_u32 w0
  have b1 := bounds_u64 w1
  obtain ⟨boot, rfl⟩ := Int.eq_ofNat_of_zero_le b0.1
  obtain ⟨first, rfl⟩ := Int.eq_ofNat_of_zero_le b1.1
  have hf : first < 18446744073709551616 := by omega
  obtain ⟨hm, _, xs, hx⟩ := intsIn_of_row u32_nonneg w2
  unfold maxLen at hm
  have Hf := Lib.hid hf
  clear w0 w1 b0 b1 w2 hf
  go_enter Try.func5, Try.ntmps5
  go_wp2_with fail
  refine (new_any boot first _).mono ?_
  rintro e w1 ⟨rfl, rfl⟩
  go_wp2_with fail
  go_loopw [8] (fun i wr => ∃ k : Nat, k ≤ len2 ∧ k ≤ 500 ∧ i = .int .i64 k ∧ Blk wr w.heap.size 54 (srcCells boot (nextOf first k) (overOf first k)) ∧ Below w.heap.size w wr) (fun i _ => len2 - (intOf i).toNat)
  case atStart => exact ⟨0, by omega, by omega, rfl, by rw [← state_zero boot first Hf.out]; exact Blk.made _ _ _, (Below.refl _ _).alloc (Nat.le_refl _) _⟩
  case round =>
    obtain ⟨k, hk1, hk2, rfl, hs, hb⟩ := hrel
    have hsz := hs.lt
    by_cases hlt : k < len2 ∧ k < 500
    · obtain ⟨hlt, h5⟩ := hlt
      obtain ⟨b, off, ep, rfl, hbl, _, hep, hc⟩ := hx.elem k hlt
      have hc1 : wr.cell? ⟨b, off + k, none⟩ = some (.int .u32 (ep : Int)) := (hb.cell hbl).trans hc
      clear hep hc
      by_cases ho : top ≤ first + k
      · have hs' := hs
        rw [show overOf first k = true from decide_eq_true ho] at hs'
        have e0 := Lib.hid (show refLeft first k = 0 by unfold refLeft; rw [if_pos ho])
        have es := Lib.hid (state_over boot first k ho)
        clear ho
        go_wp2_with fail
        refine (refLeft_any first k Hf.out (by omega) _).mono ?_
        rintro e w2 ⟨rfl, rfl⟩
        rw [e0.out]
        go_wp2_with fail
        refine (left_any w.heap.size boot first k _ hs).mono ?_
        rintro e w2 ⟨rfl, rfl⟩
        rw [e0.out]
        go_wp2_with fail
        refine (next_over w.heap.size boot _ ep _ hs').mono ?_
        rintro e w2 ⟨rfl, b2⟩
        have hs2 := (hs.below b2 hsz)
        have hb2 := hb.trans (b2.mono (by omega))
        have hz2 := b2.size
        clear hs hs' b2 hc1
        go_wp2_with fail
        go_roundw
        case rel => exact ⟨k + 1, by omega, by omega, by go_num, by rw [← es.out]; exact hs2.alloc _, hb2.alloc (by omega) _⟩
        case measure => simp [intOf]; omega
      · have hn : first + k < 18446744073709551616 := by rw [top_eq] at ho; omega
        have hs' := hs
        rw [show overOf first k = false from decide_eq_false ho, show nextOf first k = first + k by unfold nextOf; rw [if_neg ho]] at hs'
        have e0 : (((refLeft first k : Nat) : Int) == 0) = false := by
          rw [beq_eq_false_iff_ne]
          unfold refLeft
          rw [if_neg ho, top_eq]
          split <;> omega
        have es := Lib.hid (state_step boot first k hn)
        have hks : (k : Int) < (len2 : Int) := by omega
        clear ho
        go_wp2_with fail
        refine (refLeft_any first k Hf.out (by omega) _).mono ?_
        rintro e w2 ⟨rfl, rfl⟩
        go_wp2_with fail
        refine (left_any w.heap.size boot first k _ hs).mono ?_
        rintro e w2 ⟨rfl, rfl⟩
        go_wp2_with fail
        refine (next_more w.heap.size boot (first + k) ep _ hs').mono ?_
        rintro e w2 ⟨rfl, g2, hs2⟩
        rw [es.out] at hs2
        have hz2 := g2.size
        have hc2 : w2.cell? ⟨b, off + k, none⟩ = some (.int .u32 (ep : Int)) := g2.cell hc1 (fun h => by have h' : b = w.heap.size := Option.some.inj h; omega)
        have hb3 : b < w2.heap.size := by omega
        have hb2 := below_turned hb g2 (by omega) (Nat.le_refl _)
        clear hs hs' g2 hc1
        go_wp2_with fail
        go_quiet (fail)
        go_wp2_with fail
        go_roundw
        case rel => exact ⟨k + 1, by omega, by omega, by go_num, (hs2.alloc _).drewN _, below_drewN (hb2.alloc (by omega) _) _⟩
        case measure => simp [intOf]; omega
    · have hex : (len2 ≤ k) ∨ (k < len2 ∧ 500 ≤ k) := by omega
      clear hlt
      rcases hex with h | ⟨h, h'⟩
      all_goals
        go_wp2_with fail
        refine (awake_any _).mono ?_
        rintro e w3 ⟨rfl, b3⟩
        go_wp2_with fail
        go_ret
        exact ⟨rfl, hb.trans (b3.mono (by omega))⟩
end Go.Proofs.Ytdefdhmoleahnaa
