/-
  dev.Device: its block; Up, spend, Spend, Crash.
-/
import Derived.Test.YthlofbkbaabamaaTouch
import Derived.Test.YthlofbkbaabamaaBytes
import Derived.Lib.Hide
import Derived.WalkKit
import Derived.IntWalk
namespace Go.Proofs.Ythlofbkbaabamaa
open Go.ChangeShapes Go.WideShapes Go.ChangeAt Go.RowKit

/-- A device's block. -/
def DevAt (w : World) (d : Nat) (st wa : Value) (off : Bool) (ar co : Int) (cp wr : Value) : Prop := Blk w d 91 #[st, wa, .bool off, .int .i64 ar, .int .i64 co, cp, wr]
theorem DevAt.cells {w : World} {d : Nat} {st wa : Value} {off : Bool} {ar co : Int} {cp wr : Value} (h : DevAt w d st wa off ar co cp wr) :
    w.cell? ⟨d, 0, none⟩ = some st ∧ w.cell? ⟨d, 1, none⟩ = some wa ∧ w.cell? ⟨d, 2, none⟩ = some (.bool off) ∧ w.cell? ⟨d, 3, none⟩ = some (.int .i64 ar) ∧ w.cell? ⟨d, 4, none⟩ = some (.int .i64 co) ∧ w.cell? ⟨d, 5, none⟩ = some cp ∧ w.cell? ⟨d, 6, none⟩ = some wr :=
  ⟨h.at 0 _ rfl, h.at 1 _ rfl, h.at 2 _ rfl, h.at 3 _ rfl, h.at 4 _ rfl, h.at 5 _ rfl, h.at 6 _ rfl⟩

set_option maxRecDepth 100000 in
theorem up_any {w : World} {d : Nat} {st wa : Value} {off : Bool} {ar co : Int} {cp wr : Value} (h : DevAt w d st wa off ar co cp wr) :
    Calls Try.prog 29 #[.pointer (some ⟨d, 0, none⟩)] w fun e w' => e = .returned (.bool (!off)) ∧ w' = w := by
  obtain ⟨_, _, c2, _⟩ := h.cells
  go_enter Try.func29, Try.ntmps29
  go_wp2_with fail
  go_ret
  exact ⟨rfl, rfl⟩

set_option maxRecDepth 100000 in
theorem crash_any {w : World} {d : Nat} {st wa : Value} {off : Bool} {ar co : Int} {cp wr : Value} (h : DevAt w d st wa off ar co cp wr) :
    Calls Try.prog 26 #[.pointer (some ⟨d, 0, none⟩)] w fun e w' => e = .returned (.tuple #[]) ∧ DevAt w' d st wa true 0 co cp wr ∧ w.grownBy w' (some d) := by
  obtain ⟨_, _, c2, c3, _⟩ := h.cells
  have f2 := h.free 2
  have f3 := h.free 3
  have H := Lib.hid h
  go_enter Try.func26, Try.ntmps26
  go_wp2_with fail
  refine bodyPost_end (results_none rfl _ _ _) rfl ⟨rfl, ?_, ?_⟩
  · exact (H.out.put 2 (.bool true)).put 3 (.int .i64 0)
  · exact gb_set (gb_set (gb_refl w _) (p := ⟨d, 2, none⟩) (.inl rfl) _) (p := ⟨d, 3, none⟩) (.inl rfl) _

/-- What an access leaves: armed 1: the power goes. -/
def spentOff (ar : Int) : Bool := decide (ar = 1)
def spentAr (ar : Int) : Int := if 0 < ar then ar - 1 else ar
set_option maxRecDepth 100000 in
set_option maxHeartbeats 1000000 in
theorem spend_any {w : World} {d : Nat} {st wa : Value} {ar co : Int} {cp wr : Value} (h : DevAt w d st wa false ar co cp wr) (h0 : 0 ≤ ar) (h1 : ar ≤ 9223372036854775807) :
    Calls Try.prog 51 #[.pointer (some ⟨d, 0, none⟩)] w fun e w' => e = .returned (.bool (!spentOff ar)) ∧ DevAt w' d st wa (spentOff ar) (spentAr ar) (IntKind.i64.wrap (co + 1)) cp wr ∧ w.grownBy w' (some d) := by
  obtain ⟨_, _, c2, c3, c4, _⟩ := h.cells
  have f2 := h.free 2
  have f3 := h.free 3
  have f4 := h.free 4
  have H := Lib.hid h
  generalize hk : IntKind.i64.wrap (co + 1) = co'
  have H1 := Lib.hid (h.put 4 (.int .i64 co'))
  have G1 := Lib.hid (gb_set (gb_refl w (some d)) (p := ⟨d, 4, none⟩) (.inl rfl) (.int .i64 co'))
  have H2 := Lib.hid (H1.out.put 3 (.int .i64 (ar - 1)))
  have G2 := Lib.hid (gb_set G1.out (p := ⟨d, 3, none⟩) (.inl rfl) (.int .i64 (ar - 1)))
  rcases (show ar = 0 ∨ ar = 1 ∨ 1 < ar by omega) with rfl | rfl | hlt
  · rw [show (spentOff 0) = false from rfl, show spentAr 0 = 0 from rfl]
    go_enter Try.func51, Try.ntmps51
    go_wp2_with fail
    go_ret
    exact ⟨rfl, H1.out, G1.out⟩
  · rw [show (spentOff 1) = true from rfl, show spentAr 1 = 0 from rfl]
    go_enter Try.func51, Try.ntmps51
    go_wp2_with fail
    refine (crash_any (st := st) (wa := wa) (off := false) (ar := 0) (co := co') (cp := cp) (wr := wr) (show DevAt _ d st wa false 0 co' cp wr from H2.out)).mono ?_
    rintro e w1 ⟨rfl, hd, hg⟩
    obtain ⟨_, _, b2, _⟩ := hd.cells
    have Hd := Lib.hid hd
    have Hg := Lib.hid hg
    clear hd hg
    go_wp2_with fail
    go_ret
    exact ⟨rfl, Hd.out, gb_trans G2.out Hg.out⟩
  · have e : IntKind.i64.wrap (ar - 1) = ar - 1 := IntWalk.i64_in _ (by omega)
    have t0 : (ar - 1 == 0) = false := by rw [beq_eq_false_iff_ne]; omega
    have t1 : (0 < ar) := by omega
    rw [show (spentOff ar) = false from decide_eq_false (by omega), show spentAr ar = ar - 1 from if_pos t1]
    go_enter Try.func51, Try.ntmps51
    go_wp2_with fail
    go_ret
    exact ⟨rfl, H2.out, G2.out⟩
end Go.Proofs.Ythlofbkbaabamaa
