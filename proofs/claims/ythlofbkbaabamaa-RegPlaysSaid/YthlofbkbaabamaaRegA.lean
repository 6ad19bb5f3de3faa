/-
  The walks of reg.Right and of the document's Right.
-/
import Derived.Test.YthlofbkbaabamaaReg
import Derived.Test.YthlofbkbaabamaaBytes
import Derived.Lib.Hide
import Derived.WalkKit
import Derived.IntWalk
namespace Go.Proofs.Ythlofbkbaabamaa
open Go.ChangeShapes Go.WideShapes Go.ChangeAt Go.RowKit

set_option maxRecDepth 100000 in
set_option maxHeartbeats 2000000 in
theorem right_any (s : St) (w : World) :
    Calls Try.prog 15 #[.agg (stA s)] w fun e w' => e = .returned (.bool (rightB s)) ∧ Below w.heap.size w w' := by
  have hn := nu_alloc (nu_refl w) (.cells (stA s) 26)
  obtain ⟨c0, c1, c2, c3, c4, c5, c6, c7⟩ := st_cells (Blk.made w 26 (stA s))
  have hc := right_cases s
  generalize rightB s = res at *
  generalize stA s = cs at *
  obtain ⟨p, b, wi, bo, ve, ep, cu, bu, r, m⟩ := s
  dsimp only at *
  go_enter Try.func15, Try.ntmps15
  rcases hc with ⟨rfl, h1⟩ | ⟨rfl, h1, h2⟩ | ⟨rfl, h1, h2, h3⟩ | ⟨rfl, h1, h2, h3, h4⟩ | ⟨rfl, h1, h2, h3, h4, h5⟩ | ⟨rfl, h1, h2, h3, h4, h5, h6⟩ | ⟨rfl, h1, h2, h3, h4, h5, h6, h7⟩ | ⟨rfl, h1, h2, h3, h4, h5, h6, h7⟩
  all_goals (go_wp2_with fail; go_ret; exact ⟨rfl, hn⟩)

set_option maxRecDepth 100000 in
set_option maxHeartbeats 2000000 in
theorem refRight_any (s : St) (h0 : 0 ≤ s.ep) (w : World) :
    Calls Try.prog 16 #[.agg (stA s)] w fun e w' => e = .returned (.bool (rightB s)) ∧ Below w.heap.size w w' := by
  have hn := nu_alloc (nu_refl w) (.cells (stA s) 26)
  obtain ⟨c0, c1, c2, c3, c4, c5, c6, c7⟩ := st_cells (Blk.made w 26 (stA s))
  have hc := right_cases s
  have hz : (s.ep = 0 ∧ ¬ 0 < s.ep) ∨ ((s.ep != 0) = true ∧ 0 < s.ep) := by
    by_cases h : 0 < s.ep
    · exact .inr ⟨by rw [bne_iff_ne]; omega, h⟩
    · exact .inl ⟨by omega, by omega⟩
  generalize rightB s = res at *
  generalize stA s = cs at *
  obtain ⟨p, b, wi, bo, ve, ep, cu, bu, r, m⟩ := s
  dsimp only at *
  go_enter Try.func16, Try.ntmps16
  rcases hc with ⟨rfl, h1⟩ | ⟨rfl, h1, h2⟩ | ⟨rfl, h1, h2, h3⟩ | ⟨rfl, h1, h2, h3, h4⟩ | ⟨rfl, h1, h2, h3, h4, h5⟩ | ⟨rfl, h1, h2, h3, h4, h5, h6⟩ | ⟨rfl, h1, h2, h3, h4, h5, h6, h7⟩ | ⟨rfl, h1, h2, h3, h4, h5, h6, h7⟩
  all_goals rcases hz with ⟨hz, hy⟩ | ⟨hz, hy⟩
  all_goals first | (exfalso; omega) | skip
  all_goals (try subst hz)
  all_goals (go_wp2_with fail; go_ret; exact ⟨rfl, hn⟩)
end Go.Proofs.Ythlofbkbaabamaa
