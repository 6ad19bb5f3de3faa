/-
  The walks of the sources of numbers (nonce.New, Next, Left) and of their reference.
-/
import Derived.Test.YtdefdhmoleahnaaRows
import Derived.Test.YtdefdhmoleahnaaMem
import Derived.WalkKit
import Derived.WalkSpells
import Derived.WalkLawsBesides
import Derived.Lib.Hide
import Derived.RegionTactic
import Derived.BigRegion
import Derived.Deep.QuietTactic
import Derived.BigQuiet
namespace Go.Proofs.Ytdefdhmoleahnaa
open Go.RowKit

/-- A source's cells. -/
def srcCells (boot n : Nat) (over : Bool) : Array Value := #[.int .u32 boot, .int .u64 n, .bool over]

theorem wrap_succ (n : Nat) : IntKind.u64.wrap ((n : Int) + 1) = (((n + 1) % 18446744073709551616 : Nat) : Int) := by
  rw [IntKind.wrap_u64]
  omega
theorem nat_beq_zero (n : Nat) : ((n : Int) == 0) = (n == 0) := by
  rw [Bool.eq_iff_iff]
  simp

theorem new_any (boot first : Nat) (w : World) :
    Calls Try.prog 15 #[.int .u32 boot, .int .u64 first] w fun e w' => e = .returned (.pointer (some ⟨w.heap.size, 0, none⟩)) ∧ w' = w.alloc (.cells (srcCells boot first false) 54) := by
  go_enter Try.func15, Try.ntmps15
  go_wp2
  go_ret
  exact ⟨rfl, rfl⟩

theorem next_nil (ep : Nat) (w : World) :
    Calls Try.prog 18 #[.pointer none, .int .u32 ep] w fun e w' => e = .returned (.tuple #[.agg #[.int .u32 0, .int .u32 0, .int .u64 0], .int .i64 5]) ∧ Below w.heap.size w w' := by
  go_enter Try.func18, Try.ntmps18
  go_wp2
  refine bodyPost_ret (v := .tuple #[.agg #[.int .u32 0, .int .u32 0, .int .u64 0], .int .i64 5]) (by simp [results, Try.results18, go_sem]) rfl ⟨rfl, (Below.refl _ _).alloc (Nat.le_refl _) _⟩

theorem next_over (b boot n ep : Nat) (w : World) (hs : Blk w b 54 (srcCells boot n true)) :
    Calls Try.prog 18 #[.pointer (some ⟨b, 0, none⟩), .int .u32 ep] w fun e w' => e = .returned (.tuple #[.agg #[.int .u32 0, .int .u32 0, .int .u64 0], .int .i64 13]) ∧ Below w.heap.size w w' := by
  have c2 := hs.at 2 (.bool true) rfl
  have hlt := hs.lt
  go_enter Try.func18, Try.ntmps18
  go_wp2
  refine bodyPost_ret (v := .tuple #[.agg #[.int .u32 0, .int .u32 0, .int .u64 0], .int .i64 13]) (by simp [results, Try.results18, go_sem]) rfl ⟨rfl, (Below.refl _ _).alloc (Nat.le_refl _) _⟩

theorem next_more (b boot n ep : Nat) (w : World) (hs : Blk w b 54 (srcCells boot n false)) :
    Calls Try.prog 18 #[.pointer (some ⟨b, 0, none⟩), .int .u32 ep] w fun e w' => e = .returned (.tuple #[.agg #[.int .u32 ep, .int .u32 boot, .int .u64 n], .int .i64 0]) ∧ w.grownBy w' (some b) ∧ Blk w' b 54 (srcCells boot ((n + 1) % 18446744073709551616) ((n + 1) % 18446744073709551616 == 0)) := by
  have c0 := hs.at 0 (.int .u32 boot) rfl
  have c1 := hs.at 1 (.int .u64 n) rfl
  have c2 := hs.at 2 (.bool false) rfl
  have f1 := hs.free 1
  have f2 := hs.free 2
  have hlt := hs.lt
  go_enter Try.func18, Try.ntmps18
  go_wp2
  go_region
  go_wp2
  refine bodyPost_ret (v := .tuple #[.agg #[.int .u32 ep, .int .u32 boot, .int .u64 n], .int .i64 0]) (by simp [results, Try.results18, go_sem]) rfl ⟨rfl, ?_, ?_⟩
  · exact gb_drew (gb_alloc (gb_alloc (gb_set (gb_set (gb_refl w (some b)) (.inl rfl) _) (.inl rfl) _) _) _)
  · have := ((((hs.put 1 (.int .u64 (IntKind.u64.wrap ((n : Int) + 1)))).put 2 (.bool (IntKind.u64.wrap ((n : Int) + 1) == 0))).alloc (.cells #[.int .u32 ep, .int .u32 boot, .int .u64 n] 33)).alloc (.cells #[.int .u32 ep, .int .u32 boot, .int .u64 n] 33)).drew
    unfold srcCells
    rw [← nat_beq_zero, ← wrap_succ]
    exact this

theorem left_over (b boot n : Nat) (w : World) (hs : Blk w b 54 (srcCells boot n true)) :
    Calls Try.prog 17 #[.pointer (some ⟨b, 0, none⟩)] w fun e w' => e = .returned (.int .u64 0) ∧ w = w' := by
  have c2 := hs.at 2 (.bool true) rfl
  go_enter Try.func17, Try.ntmps17
  go_wp2
  go_ret
  exact ⟨rfl, rfl⟩
theorem left_nil (w : World) :
    Calls Try.prog 17 #[.pointer none] w fun e w' => e = .returned (.int .u64 0) ∧ w = w' := by
  go_enter Try.func17, Try.ntmps17
  go_wp2
  go_ret
  exact ⟨rfl, rfl⟩
theorem left_zero (b boot : Nat) (w : World) (hs : Blk w b 54 (srcCells boot 0 false)) :
    Calls Try.prog 17 #[.pointer (some ⟨b, 0, none⟩)] w fun e w' => e = .returned (.int .u64 18446744073709551615) ∧ w = w' := by
  have c1 := hs.at 1 (.int .u64 0) rfl
  have c2 := hs.at 2 (.bool false) rfl
  go_enter Try.func17, Try.ntmps17
  go_wp2
  go_ret
  exact ⟨rfl, rfl⟩
theorem wrap_neg (n : Nat) (h1 : 1 ≤ n) (h : n < 18446744073709551616) : IntKind.u64.wrap (-(n : Int)) = ((18446744073709551616 - n : Nat) : Int) := by
  rw [IntKind.wrap_u64]
  omega
theorem left_more (b boot n : Nat) (w : World) (hs : Blk w b 54 (srcCells boot n false)) (h1 : 1 ≤ n) (h : n < 18446744073709551616) :
    Calls Try.prog 17 #[.pointer (some ⟨b, 0, none⟩)] w fun e w' => e = .returned (.int .u64 ((18446744073709551616 - n : Nat) : Int)) ∧ w = w' := by
  have c1 := hs.at 1 (.int .u64 n) rfl
  have c2 := hs.at 2 (.bool false) rfl
  have t : ((n : Int) == 0) = false := by rw [beq_eq_false_iff_ne]; omega
  have hn := Lib.hid (wrap_neg n h1 h)
  clear h h1
  go_enter Try.func17, Try.ntmps17
  go_wp2
  go_ret
  exact ⟨by rw [← hn.out]; rfl, rfl⟩
end Go.Proofs.Ytdefdhmoleahnaa
