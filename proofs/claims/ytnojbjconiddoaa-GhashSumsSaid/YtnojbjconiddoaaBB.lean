/-
  A block that is known whole, read as bytes; no program in sight.
-/
import Derived.Test.YtnojbjconiddoaaApp
import Derived.Test.YtnojbjconiddoaaArr
import Derived.Test.YtnojbjconiddoaaFill
import Derived.Test.YtnojbjconiddoaaTouch
namespace Go.Proofs.Ytnojbjconiddoaa
open Go.ChangeShapes Go.WideShapes Go.ChangeAt Go.RowKit

theorem blk_bytes {w : World} {g : Nat} {xs : List Nat} {t : TypeId} {n : Nat} (h : Blk w g t (xs.map vb).toArray) (hl : xs.length = n) (hx : ∀ x ∈ xs, x < 256) : BytesIn w (some ⟨g, 0, none⟩) n n xs :=
  ⟨⟨hl, fun y hy => wf_u8_of (hx y hy), fun _ => ⟨g, 0, rfl, Blk.lt h, fun j n hn => by
    rw [Nat.zero_add]
    exact h.at j _ (arr_at xs j n hn)⟩⟩, fun e => by cases e⟩
end Go.Proofs.Ytnojbjconiddoaa
