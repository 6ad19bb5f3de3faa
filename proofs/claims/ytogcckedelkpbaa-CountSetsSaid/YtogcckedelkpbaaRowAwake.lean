/-
  The walk of the row laws' own example.
-/
import Derived.Test.YtogcckedelkpbaaReaderT
namespace Go.Proofs.Ytogcckedelkpbaa
open Go.ChangeShapes Go.WideShapes Go.ChangeAt Go.RowKit

/-- Bytes in a block of their own. -/
theorem bytesIn_new (w : World) (l : List Nat) (t : TypeId) (hl : ∀ x ∈ l, x < 256) : BytesIn (w.alloc (.cells (l.map vb).toArray t)) (some ⟨w.heap.size, 0, none⟩) l.length l.length l := by
  refine ⟨⟨rfl, fun x hx => wf_u8_of (hl x hx), fun _ => ⟨w.heap.size, 0, rfl, by simp, fun j n hn => ?_⟩⟩, fun h => by cases h⟩
  rw [Nat.zero_add]
  refine (Blk.made w t _).at j _ ?_
  rw [List.getElem?_toArray, List.getElem?_map, hn]
  rfl

theorem beL_258 : ([] : List Nat) ++ beL 258 2 2 = [1, 2] := by decide +kernel
theorem numOf_258 : numOf [1, 2] = 258 := by decide +kernel
theorem putOk_258 : putOk 258 2 := by refine ⟨by omega, by omega, fun _ => by decide +kernel⟩

set_option maxRecDepth 100000 in
set_option maxHeartbeats 1000000 in
theorem rowAwake_any (w : World) : Calls Try.prog 24 #[] w fun e w' => e = .returned (.bool true) ∧ Below w.heap.size w w' := by
  have hp := Lib.hid putOk_258
  go_enter Try.func24, Try.ntmps24
  go_wp2_with fail
  ((with_reducible refine (put_at none 0 0 [] 258 2 _ _ _ (BytesIn.nil_ _) (by omega) hp.out (by omega) ?_ ?_).mono ?_))
  · rfl
  · rfl
  rintro e w1 ⟨v, rfl, hown, hb1⟩
  rw [beL_258] at hown
  obtain ⟨a1, c1, rfl, _, _, hbi, _⟩ := hown.lies
  have hs1 := hb1.size
  have Hbi := Lib.hid hbi
  clear hown hbi
  go_wp2_with fail
  refine (newReader_any _ 3 3 [1, 2, 3] _ (by exact bytesIn_new w1 [1, 2, 3] 5 (by decide)) (by omega)).mono ?_
  rintro e w2 ⟨g, rfl, hrd, hb2⟩
  have hn1 := nu_trans (nu_alloc (nu_refl w1) (.cells #[.int .u8 1, .int .u8 2, .int .u8 3] 5)) hb2
  have hn2 := nu_trans hb1 hn1
  have Hrd := Lib.hid hrd
  have Hbi2 := Lib.hid (Hbi.out.keep (nu_alloc hn1 (.cells #[.int .u8 1, .int .u8 2] 5)))
  have hg1 : w.heap.size ≤ g := by have := hrd.low; simp at this; omega
  have Hl := Lib.hid (bytesIn_new w2 [1, 2] 5 (by decide))
  clear hrd hb2 hn1
  go_wp2_with fail
  refine (same_any _ _ 2 2 _ _ [1, 2] [1, 2] _ (by exact Hbi2.out.1) (by exact Hl.out.1) (by omega) (by omega)).mono ?_
  rintro e w3 ⟨rfl, n, rfl⟩
  rw [show decide ([1, 2] = [1, 2]) = true from rfl]
  have hn3 := nu_drewN (nu_alloc hn2 (.cells #[.int .u8 1, .int .u8 2] 5)) n
  have hrd3 := Hrd.out.keep (nu_drewN (nu_alloc (nu_refl _) (.cells #[.int .u8 1, .int .u8 2] 5)) n)
  generalize ((w2.alloc (.cells #[.int .u8 1, .int .u8 2] 5)).drewN n) = w3 at hn3 hrd3 ⊢
  clear Hrd Hbi2 Hl hn2
  have Hrd3 := Lib.hid hrd3
  clear hrd3
  go_wp2_with fail
  refine (num_any _ g [1, 2, 3] 0 2 _ Hrd3.out).mono ?_
  rintro e w4 ⟨rfl, hrd4, hg4⟩
  rw [show rdStep [1, 2, 3] 0 2 (numRight 2) = ([1, 2], [3], 0) from rfl] at hrd4 ⊢
  rw [numOf_258]
  obtain ⟨a4, c4, hblk, _⟩ := hrd4
  have hn4 := nu_grown hn3 hg4 hg1
  have Hblk := Lib.hid hblk
  clear hblk hg4 hn3
  go_wp2_with fail
  refine (left_any g a4 1 c4 0 _ Hblk.out).mono ?_
  rintro e w5 ⟨rfl, rfl⟩
  go_wp2_with fail
  go_ret
  exact ⟨rfl, hn4⟩
end Go.Proofs.Ytogcckedelkpbaa
