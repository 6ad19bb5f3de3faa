/-
  The walks of a reader's Left, Fault and End.
-/
import Derived.Test.YtogcckedelkpbaaReaderD
namespace Go.Proofs.Ytogcckedelkpbaa
open Go.ChangeShapes Go.WideShapes Go.ChangeAt Go.RowKit

theorem left_any (g : Nat) (a : Option Addr) (len cap : Nat) (f : Int) (w : World) (hg : Blk w g 74 (rdCells a len cap f)) :
    Calls Try.prog 29 #[.pointer (some ⟨g, 0, none⟩)] w fun e w' => e = .returned (.int .i64 (len : Int)) ∧ w = w' := by
  have c0 := hg.at 0 (.slice a len cap) rfl
  go_enter Try.func29, Try.ntmps29
  go_wp2_with fail
  go_ret
  exact ⟨rfl, rfl⟩
theorem left_nil (w : World) : Calls Try.prog 29 #[.pointer none] w fun e w' => e = .returned (.int .i64 0) ∧ w = w' := by
  go_enter Try.func29, Try.ntmps29
  go_wp2_with fail
  go_ret
  exact ⟨rfl, rfl⟩
theorem fault_any (g : Nat) (a : Option Addr) (len cap : Nat) (f : Int) (w : World) (hg : Blk w g 74 (rdCells a len cap f)) :
    Calls Try.prog 33 #[.pointer (some ⟨g, 0, none⟩)] w fun e w' => e = .returned (.int .i64 f) ∧ w = w' := by
  have c1 := hg.at 1 (.int .i64 f) rfl
  go_enter Try.func33, Try.ntmps33
  go_wp2_with fail
  go_ret
  exact ⟨rfl, rfl⟩
theorem fault_nil (w : World) : Calls Try.prog 33 #[.pointer none] w fun e w' => e = .returned (.int .i64 5) ∧ w = w' := by
  go_enter Try.func33, Try.ntmps33
  go_wp2_with fail
  go_ret
  exact ⟨rfl, rfl⟩
/-- What End answers. -/
def endOf (len : Nat) (f : Int) : Int := if f ≠ 0 then f else if 0 < len then 4 else 0
theorem end_any (g : Nat) (a : Option Addr) (len cap : Nat) (f : Int) (w : World) (hg : Blk w g 74 (rdCells a len cap f)) :
    Calls Try.prog 28 #[.pointer (some ⟨g, 0, none⟩)] w fun e w' => e = .returned (.int .i64 (endOf len f)) ∧ w = w' := by
  have c0 := hg.at 0 (.slice a len cap) rfl
  by_cases hf : f = 0
  · subst hf
    by_cases hl : 0 < len
    · have E := Lib.hid (show endOf len 0 = 4 by simp [endOf, hl])
      go_enter Try.func28, Try.ntmps28
      go_wp2_with fail
      refine (fault_any g a len cap 0 _ hg).mono ?_
      rintro e w' ⟨rfl, rfl⟩
      go_wp2_with fail
      go_ret
      exact ⟨by rw [E.out]; rfl, rfl⟩
    · obtain rfl : len = 0 := by omega
      go_enter Try.func28, Try.ntmps28
      go_wp2_with fail
      refine (fault_any g a 0 cap 0 _ hg).mono ?_
      rintro e w' ⟨rfl, rfl⟩
      go_wp2_with fail
      go_ret
      exact ⟨rfl, rfl⟩
  · have E := Lib.hid (show endOf len f = f by simp [endOf, hf])
    have t : (f != 0) = true := by rw [bne_iff_ne]; exact hf
    clear hf
    go_enter Try.func28, Try.ntmps28
    go_wp2_with fail
    refine (fault_any g a len cap f _ hg).mono ?_
    rintro e w' ⟨rfl, rfl⟩
    go_wp2_with fail
    go_ret
    exact ⟨by rw [E.out]; rfl, rfl⟩
end Go.Proofs.Ytogcckedelkpbaa
