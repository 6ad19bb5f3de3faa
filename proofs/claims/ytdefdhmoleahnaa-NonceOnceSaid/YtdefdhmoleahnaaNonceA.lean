/-
  The example that each statement on sources asks: it answers true.
-/
import Derived.Test.YtdefdhmoleahnaaNonceW
namespace Go.Proofs.Ytdefdhmoleahnaa
open Go.RowKit

theorem awake_any (w : World) : Calls Try.prog 19 #[] w fun e w' => e = .returned (.bool true) ∧ Below w.heap.size w w' := by
  go_enter Try.func19, Try.ntmps19
  go_wp2_with fail
  refine (new_any 3 18446744073709551614 _).mono ?_
  rintro e w1 ⟨rfl, rfl⟩
  have s1 := Blk.made w 54 (srcCells 3 18446744073709551614 false)
  have b1 : Below w.heap.size w (w.alloc (.cells (srcCells 3 18446744073709551614 false) 54)) := (Below.refl _ _).alloc (Nat.le_refl _) _
  go_wp2_with fail
  refine (next_more w.heap.size 3 18446744073709551614 1 _ s1).mono ?_
  rintro e w2 ⟨rfl, g2, s2⟩
  have b2 := below_turned b1 g2 (by simp) (Nat.le_refl _)
  have l2 := s2.lt
  clear s1 b1 g2
  have X1 := Blk.made w2 33 #[.int .u32 1, .int .u32 3, .int .u64 18446744073709551614]
  go_wp2_with fail
  refine (next_more w.heap.size 3 18446744073709551615 2 _ (s2.alloc _)).mono ?_
  rintro e w3 ⟨rfl, g3, s3⟩
  have b3 := below_turned (b2.alloc (Nat.le_of_lt l2) _) g3 (by simp; omega) (Nat.le_refl _)
  have l3 := s3.lt
  have X1 := (Blk.made w2 33 #[.int .u32 1, .int .u32 3, .int .u64 18446744073709551614]).grown g3 (by intro h; injection h; omega)
  have X2 := Blk.made w3 33 #[.int .u32 2, .int .u32 3, .int .u64 18446744073709551615]
  clear s2 g3 l2
  go_wp2_with fail
  refine (next_over w.heap.size 3 0 2 _ (s3.alloc _)).mono ?_
  rintro e w4 ⟨rfl, b4⟩
  have Y1 := (((X1.alloc _).below b4 (by have := X1.lt; simp; omega)).alloc (.cells #[.int .u32 0, .int .u32 0, .int .u64 0] 33))
  have Y2 := ((X2.below b4 X2.lt).alloc (.cells #[.int .u32 0, .int .u32 0, .int .u64 0] 33))
  have b5 := (b3.alloc (Nat.le_of_lt l3) (.cells #[.int .u32 2, .int .u32 3, .int .u64 18446744073709551615] 33)).trans (b4.mono (by simp; omega))
  have l5 := b5.size
  have y0 := Y1.at 0 (.int .u32 1) rfl
  have y1 := Y1.at 1 (.int .u32 3) rfl
  have y2 := Y1.at 2 (.int .u64 18446744073709551614) rfl
  have z2 := Y2.at 2 (.int .u64 18446744073709551615) rfl
  clear X1 X2 Y1 Y2 b4 b3 b2 s3
  go_wp2_with fail
  go_ret
  exact ⟨rfl, b5.alloc (by omega) _⟩
end Go.Proofs.Ytdefdhmoleahnaa
