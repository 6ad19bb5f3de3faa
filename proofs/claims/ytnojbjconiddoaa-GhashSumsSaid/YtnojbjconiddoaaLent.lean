/-
  What Lent laid, read as bytes; Same at a value that is known.
-/
import Derived.Test.YtnojbjconiddoaaRef02
import Derived.Test.YtnojbjconiddoaaFill
import Derived.Test.YtnojbjconiddoaaTouch
namespace Go.Proofs.Ytnojbjconiddoaa
open Go.ChangeShapes Go.WideShapes Go.ChangeAt Go.RowKit

theorem lent_bytes {w : World} {g len : Nat} {xs : List Nat} (h : Blk w g 5 (lentCells xs)) (hl : xs.length = len) (hx : ∀ x ∈ xs, x < 256) : BytesIn w (some ⟨g, 0, none⟩) len (len + 3) xs := by
  refine ⟨⟨hl, fun y hy => wf_u8_of (hx y hy), fun _ => ⟨g, 0, rfl, Blk.lt h, fun j n hn => ?_⟩⟩, fun e => by cases e⟩
  rw [Nat.zero_add]
  refine h.at j _ ?_
  have hj : j < xs.length := (List.getElem?_eq_some_iff.1 hn).1
  exact arr_at (xs ++ [201, 202, 203]) j n (by rw [List.getElem?_append_left hj]; exact hn)
theorem same_is {a b : Option Addr} {la lb ca cb : Nat} {xs ys : List Nat} {w : World} (v : Bool) (hv : decide (xs = ys) = v) (ha : IntsIn w .u8 a la xs) (hb : IntsIn w .u8 b lb ys) (hla : la ≤ 9223372036854775807) (hlb : lb ≤ 9223372036854775807) :
    Calls Try.prog 42 #[.slice a la ca, .slice b lb cb] w fun e w' => e = .returned (.bool v) ∧ ∃ n, w' = w.drewN n := by
  rw [← hv]
  exact same_any a b la lb ca cb xs ys w ha hb hla hlb
end Go.Proofs.Ytnojbjconiddoaa
