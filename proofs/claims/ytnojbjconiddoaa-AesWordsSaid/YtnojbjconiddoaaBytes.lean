/-
  Bytes in this program: their type's row of the table, make, and rows that are filled to their end.
-/
import Derived.Test.YtnojbjconiddoaaRows
import Derived.Test.YtnojbjconiddoaaApp
import Derived.WalkSpells
import Derived.WalkLawsBesides
import Derived.Lib.Hide
namespace Go.Proofs.Ytnojbjconiddoaa
open Go.ChangeShapes Go.WideShapes Go.ChangeAt Go.RowKit

theorem info_u8 : (Try.prog.info? 5).map (fun i => (i.zero, i.size, i.bytes)) = some (some (.int .u8 0), 1, 1) := by kernel_rfl

/-- make of bytes, at a length and a capacity. -/
theorem mk_bytes (l c : Nat) (li ci : Int) (hl : li = (l : Int)) (hc : ci = (c : Int)) (hlc : l ≤ c) (hb : c ≤ 281474976710656) :
    ∃ Z : List Value, Z.length = c ∧ ∀ W, (Instr.makeSlice 27 (.int .i64 li) (.int .i64 ci)).run Try.prog W = .ok (.slice (some ⟨W.heap.size, 0, none⟩) l c) (W.alloc (.cells Z.toArray 5)) := by
  obtain ⟨i0, hi, hz0, hz1, hz2⟩ := info_parts info_u8
  subst hl
  subst hc
  refine ⟨(madeCells (Value.int .u8 0).cells (c * i0.size)).toList, by simp [madeCells, hz1], fun W => ?_⟩
  have := run_make (P := Try.prog) W 27 5 i0 (.int .u8 0) Try.underlying27 hi hz0 .i64 .i64 (l : Int) (c : Int) (by omega) (by omega) (by rw [hz2]; omega) (by omega)
  rw [this]
  simp only [Int.toNat_natCast]

/-- What a row that is filled to its end lies in. -/
theorem blk_of_full {w : World} {base : Nat} {e : TypeId} {g n : Nat} {xs : List Value} (h : w.ownsRow base e 1 (.slice (some ⟨g, 0, none⟩) n n) n xs) : Blk w g e xs.toArray := by
  rcases h.2 with ⟨h2, _⟩ | ⟨g', cap, cur, h2, _, hh, _, _, hsz, htk⟩
  · cases h2
  · injection h2 with h3 h4 h5
    injection h3 with h3
    injection h3 with h3
    subst h3
    subst h5
    have e1 : cur.toList = xs := by rw [← htk, List.take_of_length_le (by rw [Array.length_toList, hsz]; exact Nat.le_refl _)]
    show w.heap[g]? = _
    rw [hh, ← e1]

end Go.Proofs.Ytnojbjconiddoaa
