/-
  The walk of row.New: a reader of a copy.
-/
import Derived.Test.YtnojbjconiddoaaReaderS
import Derived.Test.YtnojbjconiddoaaClone
namespace Go.Proofs.Ytnojbjconiddoaa
open Go.ChangeShapes Go.WideShapes Go.ChangeAt Go.RowKit

/-- A reader at block g that holds what is left, xs, in a block of its own that lies from B on. -/
def RdAt (w : World) (B g : Nat) (xs : List Nat) (f : Int) : Prop :=
  ∃ a cap, Blk w g 98 (rdCells a xs.length cap f) ∧ BytesIn w a xs.length cap xs ∧ xs.length ≤ cap ∧ cap ≤ maxLen ∧ B ≤ g ∧ (0 < xs.length → ∀ ad, a = some ad → B ≤ ad.block ∧ ad.block < g)

theorem RdAt.keep {w w' : World} {B g : Nat} {xs : List Nat} {f : Int} (h : RdAt w B g xs f) (hb : Below w.heap.size w w') : RdAt w' B g xs f := by
  obtain ⟨a, cap, h1, h2, h3⟩ := h
  exact ⟨a, cap, h1.below hb h1.lt, h2.keep hb, h3⟩
theorem RdAt.lt {w : World} {B g : Nat} {xs : List Nat} {f : Int} (h : RdAt w B g xs f) : g < w.heap.size := by
  obtain ⟨_, _, h1, _⟩ := h
  exact h1.lt
theorem RdAt.low {w : World} {B g : Nat} {xs : List Nat} {f : Int} (h : RdAt w B g xs f) : B ≤ g := by
  obtain ⟨_, _, _, _, _, _, h1, _⟩ := h
  exact h1
/-- A store below the base turns nothing of a reader. -/
theorem RdAt.far {w w' : World} {B g k : Nat} {xs : List Nat} {f : Int} (h : RdAt w B g xs f) (hb : w.grownBy w' (some k)) (hk : k < B) : RdAt w' B g xs f := by
  obtain ⟨a, cap, h1, h2, h3, h4, h5, h6⟩ := h
  refine ⟨a, cap, h1.grown hb (fun e => by injection e; omega), ⟨⟨h2.1.1, h2.1.2.1, fun hp => ?_⟩, h2.2⟩, h3, h4, h5, h6⟩
  obtain ⟨b, off, rfl, hlt, hc⟩ := h2.1.2.2 hp
  have := (h6 hp _ rfl).1
  exact ⟨b, off, rfl, Nat.lt_of_lt_of_le hlt hb.size, fun j n hn => (World.cell?_of_block (hb.block b hlt (fun e => by injection e with e; simp at this; omega))).trans (hc j n hn)⟩

/-- A store behind the reader turns nothing of it. -/
theorem RdAt.past {w w' : World} {B g k : Nat} {xs : List Nat} {f : Int} (h : RdAt w B g xs f) (hb : w.grownBy w' (some k)) (hk : g < k) : RdAt w' B g xs f := by
  obtain ⟨a, cap, h1, h2, h3, h4, h5, h6⟩ := h
  refine ⟨a, cap, h1.grown hb (fun e => by injection e; omega), ⟨⟨h2.1.1, h2.1.2.1, fun hp => ?_⟩, h2.2⟩, h3, h4, h5, h6⟩
  obtain ⟨b, off, rfl, hlt, hc⟩ := h2.1.2.2 hp
  have := (h6 hp _ rfl).2
  exact ⟨b, off, rfl, Nat.lt_of_lt_of_le hlt hb.size, fun j n hn => (World.cell?_of_block (hb.block b hlt (fun e => by injection e with e; simp at this; omega))).trans (hc j n hn)⟩

theorem newReader_any (a : Option Addr) (len cap : Nat) (xs : List Nat) (w : World) (hx : BytesIn w a len cap xs) (hlen : len ≤ 140737488355320) :
    Calls Try.prog 44 #[.slice a len cap] w fun e w' => ∃ g, e = .returned (.pointer (some ⟨g, 0, none⟩)) ∧ RdAt w' w.heap.size g xs 0 ∧ Below w.heap.size w w' := by
  have hcl := clone_any a len cap xs w hx hlen
  have Hcl := Lib.hid hcl
  clear hcl
  go_enter Try.func44, Try.ntmps44
  go_wp2_with fail
  refine Hcl.out.mono ?_
  rintro e w1 ⟨v, rfl, hown, hb⟩
  obtain ⟨a1, c1, rfl, h1, h2, h3, h4⟩ := hown.lies
  have hsz := hb.size
  clear hown
  go_wp2_with fail
  go_ret
  exact ⟨w1.heap.size, rfl, ⟨a1, c1, Blk.made _ _ _, h3.keep ((Below.refl _ _).alloc (Nat.le_refl _) _), h1, h2, hsz, fun _ ad had => h4 ad had⟩, hb.alloc hsz _⟩
end Go.Proofs.Ytnojbjconiddoaa
