/-
  dev.Device: Arm, On without fates where nothing waits.
-/
import Derived.Test.YthlofbkbaabamaaDev2
namespace Go.Proofs.Ythlofbkbaabamaa
open Go.ChangeShapes Go.WideShapes Go.ChangeAt Go.RowKit

set_option maxRecDepth 100000 in
theorem arm_off {w : World} {d : Nat} {st wa : Value} {ar co n : Int} {cp wr : Value} (h : DevAt w d st wa true ar co cp wr) :
    Calls Try.prog 25 #[.pointer (some ⟨d, 0, none⟩), .int .i64 n] w fun e w' => e = .returned (.tuple #[]) ∧ w' = w := by
  obtain ⟨_, _, c2, c3, _⟩ := h.cells
  go_enter Try.func25, Try.ntmps25
  go_wp2_with fail
  refine bodyPost_end (results_none rfl _ _ _) rfl ⟨rfl, rfl⟩

set_option maxRecDepth 100000 in
theorem arm_on {w : World} {d : Nat} {st wa : Value} {ar co n : Int} {cp wr : Value} (h : DevAt w d st wa false ar co cp wr) :
    Calls Try.prog 25 #[.pointer (some ⟨d, 0, none⟩), .int .i64 n] w fun e w' => e = .returned (.tuple #[]) ∧ DevAt w' d st wa false (max n 0) co cp wr ∧ w.grownBy w' (some d) := by
  obtain ⟨_, _, c2, c3, _⟩ := h.cells
  have f3 := h.free 3
  have H := Lib.hid h
  go_enter Try.func25, Try.ntmps25
  have m1 : n < 0 → max n 0 = 0 := fun h => by omega
  have m2 : 0 ≤ n → max n 0 = n := fun h => by omega
  have M1 := Lib.hid m1
  have M2 := Lib.hid m2
  clear m1 m2
  go_wp2_with fail
  · refine bodyPost_end (results_none rfl _ _ _) rfl ⟨rfl, ?_, ?_⟩
    · rw [M1.out (by omega)]
      exact H.out.put 3 _
    · exact gb_set (gb_refl w _) (p := ⟨d, 3, none⟩) (.inl rfl) _
  · refine bodyPost_end (results_none rfl _ _ _) rfl ⟨rfl, ?_, ?_⟩
    · rw [M2.out (by omega)]
      exact H.out.put 3 _
    · exact gb_set (gb_refl w _) (p := ⟨d, 3, none⟩) (.inl rfl) _

set_option maxRecDepth 100000 in
theorem on_up {w : World} {d : Nat} {st wa : Value} {ar co : Int} {cp wr : Value} (h : DevAt w d st wa false ar co cp wr) :
    Calls Try.prog 27 #[.pointer (some ⟨d, 0, none⟩), .slice none 0 0] w fun e w' => e = .returned (.tuple #[]) ∧ w' = w := by
  obtain ⟨_, _, c2, _⟩ := h.cells
  go_enter Try.func27, Try.ntmps27
  go_wp2_with fail
  all_goals first | (refine bodyPost_end (results_none rfl _ _ _) rfl ⟨rfl, rfl⟩) | (refine bodyPost_ret (results_none rfl _ _ _) rfl ⟨rfl, rfl⟩)

set_option maxRecDepth 100000 in
set_option maxHeartbeats 1000000 in
theorem on_down {w : World} {d : Nat} {st : Value} {ar co : Int} {cp wr : Value} (h : DevAt w d st (.slice none 0 0) true ar co cp wr) :
    Calls Try.prog 27 #[.pointer (some ⟨d, 0, none⟩), .slice none 0 0] w fun e w' => e = .returned (.tuple #[]) ∧ DevAt w' d st (.slice none 0 0) false 0 co cp wr ∧ w.grownBy w' (some d) := by
  obtain ⟨_, c1, c2, c3, _⟩ := h.cells
  have f1 := h.free 1
  have f2 := h.free 2
  have f3 := h.free 3
  have H := Lib.hid h
  go_enter Try.func27, Try.ntmps27
  go_wp2_with fail
  go_loopw [21] (fun j wr => j = .int .i64 0 ∧ wr = w) (fun _ _ => 0)
  case atStart => exact ⟨rfl, rfl⟩
  case round =>
    obtain ⟨rfl, rfl⟩ := hrel
    go_wp2_with fail
    refine bodyPost_end (results_none rfl _ _ _) rfl ⟨rfl, ?_, ?_⟩
    · exact ((H.out.put 1 _).put 2 _).put 3 _
    · exact gb_set (gb_set (gb_set (gb_refl _ _) (p := ⟨d, 1, none⟩) (.inl rfl) _) (p := ⟨d, 2, none⟩) (.inl rfl) _) (p := ⟨d, 3, none⟩) (.inl rfl) _
end Go.Proofs.Ythlofbkbaabamaa
