/-
  The walks of row.Reader: need, which gives up by a panic of its own.
-/
import Derived.Test.YtnojbjconiddoaaPut
import Derived.Test.YtnojbjconiddoaaRef02
import Derived.Recover
import Derived.Defers
import Derived.RegionTactic
import Derived.BigRegion
namespace Go.Proofs.Ytnojbjconiddoaa
open Go.ChangeShapes Go.WideShapes Go.ChangeAt Go.RowKit

/-- A reader's cells. -/
def rdCells (a : Option Addr) (len cap : Nat) (fault : Int) : Array Value := #[.slice a len cap, .int .i64 fault]
/-- What a reader gives up with. -/
def stopV (why : Int) : Value := .iface 103 (.agg #[.int .i64 why])

theorem need_ok (g : Nat) (a : Option Addr) (len cap : Nat) (n : Int) (w : World) (hg : Blk w g 98 (rdCells a len cap 0)) (hn : n ≤ (len : Int)) :
    Calls Try.prog 64 #[.pointer (some ⟨g, 0, none⟩), .int .i64 n, .bool true] w fun e w' => e = .returned (.tuple #[]) ∧ w = w' := by
  have c0 := hg.at 0 (.slice a len cap) rfl
  have c1 := hg.at 1 (.int .i64 0) rfl
  go_enter Try.func64, Try.ntmps64
  go_wp2_with fail
  go_end0
  exact ⟨rfl, rfl⟩
theorem need_wrong (g : Nat) (a : Option Addr) (len cap : Nat) (n : Int) (w : World) (hg : Blk w g 98 (rdCells a len cap 0)) :
    Calls Try.prog 64 #[.pointer (some ⟨g, 0, none⟩), .int .i64 n, .bool false] w fun e w' => e = .panicked [{ v := stopV 1, recovered := false }] ∧ w = w' := by
  have c1 := hg.at 1 (.int .i64 0) rfl
  go_enter Try.func64, Try.ntmps64
  go_wp2_with fail
  exact ⟨rfl, rfl, rfl⟩
theorem need_short (g : Nat) (a : Option Addr) (len cap : Nat) (n : Int) (w : World) (hg : Blk w g 98 (rdCells a len cap 0)) (hn : (len : Int) < n) :
    Calls Try.prog 64 #[.pointer (some ⟨g, 0, none⟩), .int .i64 n, .bool true] w fun e w' => e = .panicked [{ v := stopV 2, recovered := false }] ∧ w = w' := by
  have c0 := hg.at 0 (.slice a len cap) rfl
  have c1 := hg.at 1 (.int .i64 0) rfl
  go_enter Try.func64, Try.ntmps64
  go_wp2_with fail
  exact ⟨rfl, rfl, rfl⟩
theorem need_fault (g : Nat) (a : Option Addr) (len cap : Nat) (n f : Int) (r : Bool) (w : World) (hg : Blk w g 98 (rdCells a len cap f)) (hf : f ≠ 0) :
    Calls Try.prog 64 #[.pointer (some ⟨g, 0, none⟩), .int .i64 n, .bool r] w fun e w' => e = .panicked [{ v := stopV f, recovered := false }] ∧ w = w' := by
  have c1 := hg.at 1 (.int .i64 f) rfl
  have t : (f != 0) = true := by rw [bne_iff_ne]; exact hf
  clear hf
  go_enter Try.func64, Try.ntmps64
  go_wp2_with fail
  exact ⟨rfl, rfl, rfl⟩
end Go.Proofs.Ytnojbjconiddoaa
