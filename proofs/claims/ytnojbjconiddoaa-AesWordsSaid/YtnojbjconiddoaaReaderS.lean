/-
  The walks of a reader's Left, Fault and End.
-/
import Derived.Test.YtnojbjconiddoaaReaderD
namespace Go.Proofs.Ytnojbjconiddoaa
open Go.ChangeShapes Go.WideShapes Go.ChangeAt Go.RowKit

theorem left_any (g : Nat) (a : Option Addr) (len cap : Nat) (f : Int) (w : World) (hg : Blk w g 98 (rdCells a len cap f)) :
    Calls Try.prog 45 #[.pointer (some ⟨g, 0, none⟩)] w fun e w' => e = .returned (.int .i64 (len : Int)) ∧ w = w' := by
  have c0 := hg.at 0 (.slice a len cap) rfl
  go_enter Try.func45, Try.ntmps45
  go_wp2_with fail
  go_ret
  exact ⟨rfl, rfl⟩
theorem left_nil (w : World) : Calls Try.prog 45 #[.pointer none] w fun e w' => e = .returned (.int .i64 0) ∧ w = w' := by
  go_enter Try.func45, Try.ntmps45
  go_wp2_with fail
  go_ret
  exact ⟨rfl, rfl⟩
/-- What End answers. -/
def endOf (len : Nat) (f : Int) : Int := if f ≠ 0 then f else if 0 < len then 4 else 0
end Go.Proofs.Ytnojbjconiddoaa
