/-
  sha.New and sha.Sum.Write.
-/
import Derived.Test.YtlekepigndlbhaaDoorSha3
import Derived.Lib.MinMax
import Derived.Maps.AppendAt
namespace Go.Proofs.YtlekepigndlbhaaDoor
open Go.ChangeShapes Go.WideShapes Go.ChangeAt Go.RowKit

/-- Of what was there only the block g and a row's own block have turned. -/
structure Turned (g : Nat) (ob : Option Nat) (w w' : World) : Prop where
  os : w'.os = w.os
  tape : w'.tape = w.tape
  output : w'.output = w.output
  size : w.heap.size ≤ w'.heap.size
  block : ∀ k, k < w.heap.size → k ≠ g → ob ≠ some k → w'.heap[k]? = w.heap[k]?
section
variable {g : Nat} {ob : Option Nat} {a w w' : World}
theorem Turned.refl (g : Nat) (ob : Option Nat) (w : World) : Turned g ob w w := ⟨rfl, rfl, rfl, Nat.le_refl _, fun _ _ _ _ => rfl⟩
theorem Turned.trans {ob' : Option Nat} (h : Turned g ob a w) (k : Turned g ob' w w') (ho : ∀ j, ob' = some j → ob = some j ∨ a.heap.size ≤ j) : Turned g ob a w' :=
  ⟨k.os.trans h.os, k.tape.trans h.tape, k.output.trans h.output, Nat.le_trans h.size k.size, fun j hj h1 h2 => (k.block j (Nat.lt_of_lt_of_le hj h.size) h1 (fun e => (ho j e).elim h2 (fun h3 => by omega))).trans (h.block j hj h1 h2)⟩
theorem Turned.drewN (h : Turned g ob a w) (n : Nat) : Turned g ob a (w.drewN n) := ⟨h.os, h.tape, h.output, h.size, h.block⟩
theorem Turned.of_g (k : w.grownBy w' (some g)) : Turned g ob w w' := ⟨k.os, k.tape, k.output, k.size, fun j hj h1 _ => k.block j hj (fun e => h1 (by injection e))⟩
theorem Turned.of_ob (k : w.grownBy w' ob) : Turned g ob w w' := ⟨k.os, k.tape, k.output, k.size, fun j hj _ h2 => k.block j hj (fun e => h2 e.symm)⟩
theorem Turned.below {B : Nat} (h : Turned g ob w w') (hB : B ≤ w.heap.size) (hg : B ≤ g) (ho : ∀ j, ob = some j → B ≤ j) : Below B w w' :=
  ⟨h.os, h.tape, h.output, h.size, fun k hk => h.block k (by omega) (by omega) (fun e => by have := ho k e; omega)⟩
theorem Turned.blk {k : Nat} {t : TypeId} {cs : Array Value} (h : Turned g ob w w') (hb : Blk w k t cs) (h1 : k ≠ g) (h2 : ob ≠ some k) : Blk w' k t cs := (h.block k hb.lt h1 h2).trans hb
theorem Turned.bytes {x : Option Addr} {len cap : Nat} {xs : List Nat} (h : Turned g ob w w') (hx : BytesIn w x len cap xs) (hne : 0 < len → ∀ ad, x = some ad → ad.block ≠ g ∧ ob ≠ some ad.block) : BytesIn w' x len cap xs := by
  refine ⟨⟨hx.1.1, hx.1.2.1, fun hp => ?_⟩, hx.2⟩
  obtain ⟨b, off, rfl, hlt, hc⟩ := hx.1.2.2 hp
  obtain ⟨h1, h2⟩ := hne hp _ rfl
  exact ⟨b, off, rfl, Nat.lt_of_lt_of_le hlt h.size, fun j n hn => (World.cell?_of_block (a := ⟨b, off + j, none⟩) (h.block b hlt h1 h2)).trans (hc j n hn)⟩
theorem TabIn.turned (h : TabIn w) (t : Turned g ob w w') (hg : g ≠ 0) (ho : ob ≠ some 0) : TabIn w' := fun i hi => (World.cell?_of_block (a := ⟨0, i, none⟩) (t.block 0 h.size (fun e => hg e.symm) ho)).trans (h i hi)
end

/-- A sum that has taken in xs; m is its count; rv its rest. -/
def SumIs (w : World) (base g : Nat) (xs : List Nat) (m : Nat) (rv : Value) : Prop := SumAt w g (mid xs) rv m ∧ OwnB w base 5 rv (lst xs)
theorem own_apart {w : World} {base g : Nat} {v : Value} {l : List Nat} {cs : Array Value} (ho : OwnB w base 5 v l) (hs : Blk w g 58 cs) : v.ownBlock ≠ some g := by
  rcases ho.1.2 with ⟨rfl, _⟩ | ⟨k, cap, cur, rfl, _, hh, _⟩
  · intro e; cases e
  · intro e
    exact Blk.apart (show Blk w k 5 cur from hh) hs (by decide) (by injection e)
theorem own_low {w : World} {base : Nat} {v : Value} {l : List Nat} (ho : OwnB w base 5 v l) : ∀ j, v.ownBlock = some j → base ≤ j ∧ j < w.heap.size := fun j hj => ho.1.lt j hj
theorem own_grown {w w' : World} {base g : Nat} {v : Value} {l : List Nat} (ho : OwnB w base 5 v l) (hg : w.grownBy w' (some g)) (hne : v.ownBlock ≠ some g) : OwnB w' base 5 v l := by
  refine ⟨ho.1.kept hg ?_, ho.2⟩
  cases hv : v.ownBlock with
  | none => exact .inl rfl
  | some j => exact .inr (fun e => hne (by rw [hv, e]))
theorem own_cut {w : World} {base : Nat} {e : TypeId} {j cap : Nat} {n : Nat} {l : List Nat} (ho : OwnB w base e (.slice (some ⟨j, 0, none⟩) n cap) l) : OwnB w base e (.slice (some ⟨j, 0, none⟩) 0 cap) [] := by
  refine ⟨⟨rfl, ?_⟩, by simp⟩
  rcases ho.1.2 with ⟨h, _⟩ | ⟨k, cap', cur, h, h1, h2, h3, h4, h5, h6⟩
  · cases h
  · injection h with h7 h8 h9
    injection h7 with h7
    injection h7 with h7
    subst h7 h9
    exact .inr ⟨j, cap, cur, rfl, h1, h2, Nat.zero_le _, h4, h5, by simp⟩
theorem sum_put9 (v : V8) (rv : Value) (m m' : Nat) : (sumL v rv m).toArray.setIfInBounds 9 (.int .u64 (m' : Int)) = (sumL v rv m').toArray := by rfl
theorem sum_put8 (v : V8) (rv rv' : Value) (m : Nat) : (sumL v rv m).toArray.setIfInBounds 8 rv' = (sumL v rv' m).toArray := by rfl

set_option maxRecDepth 100000 in
theorem new_any (w : World) : Calls Tryd.prog 20 #[] w fun e w' => e = .returned (.pointer (some ⟨w.heap.size, 0, none⟩)) ∧ SumIs w' (w.heap.size + 1) w.heap.size [] 0 (.slice none 0 0) ∧ Below w.heap.size w w' := by
  go_enter Tryd.func20, Tryd.ntmps20
  go_wp2_with fail
  go_ret
  exact ⟨rfl, ⟨Blk.made w _ _, ⟨⟨rfl, .inl ⟨rfl, rfl⟩⟩, by simp [lst]⟩⟩, nu_alloc (nu_refl w) _⟩

set_option maxRecDepth 100000 in
theorem len_any {w : World} {g m : Nat} {v : V8} {rv : Value} (h : SumAt w g v rv m) (hm : m < 9223372036854775808) : Calls Tryd.prog 23 #[.pointer (some ⟨g, 0, none⟩)] w fun e w' => e = .returned (.int .i64 m) ∧ w' = w := by
  have c9 : w.cell? ⟨g, 9, none⟩ = some (.int .u64 m) := h.at 9 _ rfl
  have hc : IntKind.i64.wrap (m : Int) = m := by rw [IntKind.wrap_i64]; omega
  go_enter Tryd.func23, Tryd.ntmps23
  go_wp2_with fail
  go_ret
  exact ⟨rfl, rfl⟩
end Go.Proofs.YtlekepigndlbhaaDoor
