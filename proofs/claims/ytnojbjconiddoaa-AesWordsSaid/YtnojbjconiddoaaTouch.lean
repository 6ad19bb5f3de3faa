/-
  A world in which only two blocks, and what is new, have turned; no program in sight.
-/
import Derived.Test.YtnojbjconiddoaaApp
namespace Go.Proofs.Ytnojbjconiddoaa
open Go.RowKit

/-- Of what was there only the blocks g and h have turned. -/
structure Touch (g h : Nat) (w w' : World) : Prop where
  os : w'.os = w.os
  tape : w'.tape = w.tape
  output : w'.output = w.output
  size : w.heap.size ≤ w'.heap.size
  block : ∀ k, k < w.heap.size → k ≠ g → k ≠ h → w'.heap[k]? = w.heap[k]?

variable {g h : Nat} {a w w' : World}
theorem Touch.refl (g h : Nat) (w : World) : Touch g h w w := ⟨rfl, rfl, rfl, Nat.le_refl _, fun _ _ _ _ => rfl⟩
theorem Touch.drewN (t : Touch g h a w) (n : Nat) : Touch g h a (w.drewN n) := ⟨t.os, t.tape, t.output, t.size, t.block⟩
theorem Touch.drew (t : Touch g h a w) : Touch g h a w.drew := ⟨t.os, t.tape, t.output, t.size, t.block⟩
theorem Touch.trans {b : World} (t : Touch g h a w) (u : Touch g h w b) : Touch g h a b :=
  ⟨u.os.trans t.os, u.tape.trans t.tape, u.output.trans t.output, Nat.le_trans t.size u.size, fun k hk h1 h2 => (u.block k (Nat.lt_of_lt_of_le hk t.size) h1 h2).trans (t.block k hk h1 h2)⟩
theorem Touch.alloc (t : Touch g h a w) (o : Obj) : Touch g h a (w.alloc o) :=
  ⟨t.os, t.tape, t.output, Nat.le_trans t.size (by simp), fun k hk h1 h2 => (Below.heap_alloc w o k (Nat.lt_of_lt_of_le hk t.size)).trans (t.block k hk h1 h2)⟩
theorem Touch.setCell (t : Touch g h a w) {p : Addr} (hp : p.block = g ∨ p.block = h) (u : Value) : Touch g h a (w.setCell p u) :=
  ⟨t.os, t.tape, t.output, by simpa [World.setCell] using t.size, fun k hk h1 h2 => by
    refine (Below.heap_setCell w p u k ?_).trans (t.block k hk h1 h2)
    rintro rfl
    rcases hp with hp | hp
    · exact h1 hp
    · exact h2 hp⟩
theorem Touch.cell (t : Touch g h w w') {p : Addr} (hp : p.block < w.heap.size) (h1 : p.block ≠ g) (h2 : p.block ≠ h) : w'.cell? p = w.cell? p := World.cell?_of_block (w := w) (t.block p.block hp h1 h2)
theorem Touch.below {B : Nat} (t : Touch g h w w') (hB : B ≤ w.heap.size) (h1 : B ≤ g) (h2 : B ≤ h) : Below B w w' := ⟨t.os, t.tape, t.output, t.size, fun k hk => t.block k (by omega) (by omega) (by omega)⟩
theorem Touch.of_grown (k : w.grownBy w' (some h)) : Touch g h w w' := ⟨k.os, k.tape, k.output, k.size, fun j hj _ h2 => k.block j hj (fun e => h2 (by injection e))⟩
theorem Touch.grown (t : Touch g h a w') (k : w.grownBy a (some g)) (hh : w.heap.size ≤ h) : w.grownBy w' (some g) :=
  ⟨t.os.trans k.os, t.tape.trans k.tape, t.output.trans k.output, Nat.le_trans k.size t.size, fun j hj hne => (t.block j (Nat.lt_of_lt_of_le hj k.size) (fun e => hne (by rw [e])) (by omega)).trans (k.block j hj hne)⟩
theorem Touch.of_grown' (k : w.grownBy w' (some g)) : Touch g h w w' := ⟨k.os, k.tape, k.output, k.size, fun j hj h1 _ => k.block j hj (fun e => h1 (by injection e))⟩
theorem Touch.blk {k : Nat} {t : TypeId} {cs : Array Value} (u : Touch g h w w') (hb : Blk w k t cs) (h1 : k ≠ g) (h2 : k ≠ h) : Blk w' k t cs := (u.block k hb.lt h1 h2).trans hb
theorem BytesIn.touch {a : Option Addr} {len cap : Nat} {xs : List Nat} (hx : BytesIn w a len cap xs) (u : Touch g h w w') (hne : 0 < len → ∀ ad, a = some ad → ad.block ≠ g ∧ ad.block ≠ h) : BytesIn w' a len cap xs := by
  refine ⟨⟨hx.1.1, hx.1.2.1, fun hp => ?_⟩, hx.2⟩
  obtain ⟨b, off, rfl, hlt, hc⟩ := hx.1.2.2 hp
  obtain ⟨h1, h2⟩ := hne hp _ rfl
  exact ⟨b, off, rfl, Nat.lt_of_lt_of_le hlt u.size, fun j n hn => (u.cell (p := ⟨b, off + j, none⟩) hlt h1 h2).trans (hc j n hn)⟩
/-- What is left behind the first n of a slice. -/
def leftAt (a : Option Addr) (cap n : Nat) : Option Addr := if cap = n then a else a.map (·.add n)
theorem leftAt_block {x : Option Addr} {cap n : Nat} {ad : Addr} (hl : leftAt x cap n = some ad) : ∃ ad0, x = some ad0 ∧ ad.block = ad0.block := by
  unfold leftAt at hl
  split at hl
  · exact ⟨ad, hl, rfl⟩
  · rw [Option.map_eq_some_iff] at hl
    obtain ⟨ad0, h1, rfl⟩ := hl
    exact ⟨ad0, h1, by unfold Addr.add; split <;> rfl⟩
theorem BytesIn.left {a : Option Addr} {len cap n : Nat} {xs : List Nat} (hx : BytesIn w a len cap xs) (hn : n ≤ len) (hc : len ≤ cap) : BytesIn w (leftAt a cap n) (len - n) (cap - n) (xs.drop n) := by
  refine ⟨⟨by rw [List.length_drop, hx.1.1], fun x hx' => hx.1.2.1 x (List.mem_of_mem_drop hx'), fun hp => ?_⟩, fun he => ?_⟩
  · obtain ⟨b, off, rfl, hlt, hcell⟩ := hx.1.2.2 (by omega)
    refine ⟨b, off + n, ?_, hlt, fun j m hm => ?_⟩
    · unfold leftAt
      rw [if_neg (by omega)]
      simp [Go.WideShapes.add_plain]
    · rw [List.getElem?_drop] at hm
      rw [show off + n + j = off + (n + j) by omega]
      exact hcell _ _ hm
  · have h0 : a = none := by
      unfold leftAt at he
      split at he
      · exact he
      · simpa using he
    obtain ⟨h1, h2⟩ := hx.2 h0
    omega
theorem BytesIn.first {a : Option Addr} {len cap n : Nat} {xs : List Nat} (hx : BytesIn w a len cap xs) (hn : n ≤ len) : BytesIn w a n cap (xs.take n) := by
  refine ⟨⟨by rw [List.length_take, hx.1.1]; omega, fun x hx' => hx.1.2.1 x (List.mem_of_mem_take hx'), fun hp => ?_⟩, fun he => ?_⟩
  · obtain ⟨b, off, rfl, hlt, hcell⟩ := hx.1.2.2 (by omega)
    refine ⟨b, off, rfl, hlt, fun j m hm => hcell j m ?_⟩
    rw [List.getElem?_take] at hm
    split at hm
    · exact hm
    · cases hm
  · obtain ⟨h1, h2⟩ := hx.2 he
    omega
theorem OwnB.kept {k base : Nat} {e : TypeId} {v : Value} {xs : List Nat} (ho : OwnB w base e v xs) (hg : w.grownBy w' (some k)) (hk : k < base) : OwnB w' base e v xs := by
  refine ⟨ho.1.kept hg ?_, ho.2⟩
  cases hv : v.ownBlock with
  | none => exact .inl rfl
  | some j =>
    refine .inr (fun e => ?_)
    have := (ho.1.lt j hv).1
    injection e
    omega
theorem Touch.of_below (hb : Below w.heap.size w w') : Touch g h w w' := ⟨hb.os, hb.tape, hb.output, hb.size, fun k hk _ _ => hb.block k hk⟩
/-! ### Only new memory: 'Below' at the heap's own size -/
theorem nu_refl (w : World) : Below w.heap.size w w := Below.refl _ _
theorem nu_trans {b : World} (h1 : Below a.heap.size a w) (h2 : Below w.heap.size w b) : Below a.heap.size a b := h1.trans (h2.mono h1.size)
theorem nu_alloc (h1 : Below a.heap.size a w) (o : Obj) : Below a.heap.size a (w.alloc o) := h1.alloc h1.size o
theorem nu_drewN (h1 : Below a.heap.size a w) (n : Nat) : Below a.heap.size a (w.drewN n) := below_drewN h1 n
theorem nu_drew (h1 : Below a.heap.size a w) : Below a.heap.size a w.drew := h1.drew
theorem nu_grown (h1 : Below a.heap.size a w) {k : Nat} (h2 : w.grownBy w' (some k)) (hk : a.heap.size ≤ k) : Below a.heap.size a w' := below_turned h1 h2 h1.size hk
theorem nu_set (h1 : Below a.heap.size a w) {p : Addr} (hp : a.heap.size ≤ p.block) (u : Value) : Below a.heap.size a (w.setCell p u) := h1.setCell hp u
/-- What can be read stays so where only one block of another kind turns. -/
theorem BytesIn.far {x : Option Addr} {len cap k : Nat} {xs : List Nat} (hx : BytesIn w x len cap xs) (hb : w.grownBy w' (some k)) (hk : 0 < len → ∀ ad, x = some ad → ad.block ≠ k) : BytesIn w' x len cap xs :=
  hx.touch (Touch.of_grown (g := k) hb) (fun hp ad had => ⟨hk hp ad had, hk hp ad had⟩)
/-- A row of the call's own that is not empty: its block. -/
theorem OwnB.form {base : Nat} {e : TypeId} {v : Value} {xs : List Nat} (ho : OwnB w base e v xs) (hp : 0 < xs.length) :
    ∃ k cap cur, v = .slice (some ⟨k, 0, none⟩) xs.length cap ∧ base ≤ k ∧ Blk w k e cur ∧ xs.length ≤ cap ∧ cap ≤ maxLen ∧ cur.size = cap ∧ cur.toList.take xs.length = xs.map vb := by
  obtain ⟨⟨_, h2⟩, _⟩ := ho
  rcases h2 with ⟨rfl, h0⟩ | ⟨k, cap, cur, rfl, hbg, hh, hnc, hcm, hsz, htk⟩
  · omega
  · exact ⟨k, cap, cur, rfl, hbg, hh, hnc, hcm, by rw [hsz, Nat.mul_one], by rw [Nat.mul_one] at htk; exact htk⟩
theorem own_cell {cur : Array Value} {n j x : Nat} {xs : List Nat} (htk : cur.toList.take n = xs.map vb) (hx : xs[j]? = some x) : cur[j]? = some (vb x) := by
  have e1 : (cur.toList.take n)[j]? = some (vb x) := by rw [htk, List.getElem?_map, hx]; rfl
  rw [List.getElem?_take] at e1
  split at e1
  · rw [← Array.getElem?_toList]; exact e1
  · cases e1
end Go.Proofs.Ytnojbjconiddoaa
