/-
  The walk of what a reader defers: the fault that a reading gave up with is kept.
-/
import Derived.Test.YtnojbjconiddoaaReader
namespace Go.Proofs.Ytnojbjconiddoaa
open Go.ChangeShapes Go.WideShapes Go.ChangeAt Go.RowKit

theorem assert_stop (f : Int) (W : World) : (Instr.typeAssert (.iface 103 (.agg #[.int .i64 f])) 20 103 true).run Try.prog W = .ok (.tuple #[.agg #[.int .i64 f], .bool true]) W := by kernel_rfl

set_option maxHeartbeats 1000000 in
theorem catch_stop (bx g : Nat) (f : Int) (a : Option Addr) (len cap : Nat) (f9 : Int) (older : List PanicEntry) (w : World) (hb : w.cell? ⟨bx, 0, none⟩ = some (.pointer (some ⟨g, 0, none⟩))) (hg : Blk w g 98 (rdCells a len cap f9)) :
    CallsD Try.prog 68 #[.pointer (some ⟨bx, 0, none⟩)] (.panicking ({ v := stopV f, recovered := false } :: older)) w fun e u' w' =>
      e = .returned (.tuple #[]) ∧ u' = .panicking ({ v := stopV f, recovered := true } :: older) ∧ w.grownBy w' (some g) ∧ Blk w' g 98 (rdCells none 0 0 f) := by
  refine callsD_of_wpS Try.func68 rfl fun c₀ cs hu => ?_
  apply wpS_seq
  apply wpS_region
  simp [wpOpsS, go_sem, recoverD, hu, Try.ntmps68, Exit.thenS, stopV]
  have c0 := hg.at 0 (.slice a len cap) rfl
  have c1 := hg.at 1 (.int .i64 f9) rfl
  have f0 := hg.free 0
  have f1 := hg.free 1
  have hlt := hg.lt
  have hbx : bx < w.heap.size := World.block_lt_of_cell? _ _ hb
  have Hu := Lib.hid hu
  clear hu
  refine wpS_of_wp ?_
  have hfr : (#[Value.pointer (some ⟨bx, 0, none⟩)] ++ ((Array.replicate 22 undef).setIfInBounds 3 (Value.iface 103 (.agg #[.int .i64 f]))).setIfInBounds 0 (Value.iface 103 (.agg #[.int .i64 f])) : Array Value)
      = #[.pointer (some ⟨bx, 0, none⟩), .iface 103 (.agg #[.int .i64 f]), undef, undef, .iface 103 (.agg #[.int .i64 f]), undef, undef, undef, undef, undef, undef, undef, undef, undef, undef, undef, undef, undef, undef, undef, undef, undef, undef] := by simp [Array.replicate]
  rw [hfr]
  clear hfr
  generalize hQ : (fun (e : Exit) (a' : Act) (w' : World) => bodyPostS _ _ _ _ _ e a' _ w') = Q
  have HQ := Lib.hid hQ
  have hta := assert_stop f
  clear hQ
  go_wp2_with fail
  go_region
  rw [← HQ.out]
  refine ⟨rfl, _, rfl, .tuple #[], by simp [results, Try.results68, go_sem], rfl, rfl, ?_, ?_⟩
  · exact gb_drew (gb_alloc (gb_set (gb_set (gb_refl w (some g)) (.inl rfl) _) (.inl rfl) _) _)
  · exact (((hg.put 0 (.slice none 0 0)).put 1 (.int .i64 f)).alloc _).drew

theorem catch_idle (bx : Nat) (w : World) :
    CallsD Try.prog 68 #[.pointer (some ⟨bx, 0, none⟩)] .returning w fun e u' w' => e = .returned (.tuple #[]) ∧ u' = .returning ∧ w' = w := by
  refine callsD_of_wpS Try.func68 rfl fun c₀ cs hu => ?_
  apply wpS_seq
  apply wpS_region
  simp [wpOpsS, go_sem, recoverD, hu, Try.ntmps68, Exit.thenS]
  apply wpS_seq
  apply wpS_region
  simp [wpOpsS, go_sem, Exit.thenS]
  refine wpS_cond (t := false) (by simp [Act.eval, Array.replicate]) ?_
  simp only [Bool.false_eq_true, if_false]
  refine wpS_of_wp (wp_skip ?_)
  cases c₀
  simp_all [bodyPostS, results, Try.results68]
end Go.Proofs.Ytnojbjconiddoaa
