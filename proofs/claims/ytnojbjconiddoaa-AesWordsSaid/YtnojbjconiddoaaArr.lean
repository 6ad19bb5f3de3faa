/-
  Whole arrays out of a block and into it; no program in sight.
-/
import Derived.Test.YtnojbjconiddoaaTouch
import Derived.Deep.MidRow
import Derived.Laws.Rows
import Derived.Laws.ResultCell
import Derived.WalkKit
namespace Go.Proofs.Ytnojbjconiddoaa
open Go.ChangeShapes Go.WideShapes Go.ChangeAt Go.RowKit

section
variable {w w' : World} {g : Nat} {t : TypeId} {cs : Array Value}
theorem Blk.there (h : Blk w g t cs) (o n : Nat) (hn : o + n ≤ cs.size) : w.there g o n := fun j hj =>
  ⟨by rw [h.at (o + j) _ (Array.getElem?_eq_getElem (show o + j < cs.size by omega))]; rfl, h.free _⟩
theorem blk_setCells (vs : List Value) : ∀ (o : Nat) (w : World) (cs : Array Value), Blk w g t cs → Blk (w.setCells g o vs) g t (vs.foldl (fun (p : Nat × Array Value) v => (p.1 + 1, p.2.setIfInBounds p.1 v)) (o, cs)).2 := by
  induction vs with
  | nil => intro o w cs h; exact h
  | cons v r ih => intro o w cs h; exact ih (o + 1) _ _ (h.put o v)
theorem fold_set (vs : List Value) : ∀ (o : Nat) (cs : Array Value), o + vs.length ≤ cs.size →
    (vs.foldl (fun (p : Nat × Array Value) v => (p.1 + 1, p.2.setIfInBounds p.1 v)) (o, cs)).2.toList = cs.toList.take o ++ vs ++ cs.toList.drop (o + vs.length) := by
  induction vs with
  | nil => intro o cs _; simp
  | cons v r ih =>
    intro o cs h
    rw [List.length_cons] at h
    rw [List.foldl_cons, ih (o + 1) _ (by simp only [Array.size_setIfInBounds]; omega), Array.toList_setIfInBounds]
    have ho : o < cs.toList.length := by rw [Array.length_toList]; omega
    rw [List.take_add_one, List.take_set_of_le (Nat.le_refl _), List.getElem?_set_self ho, List.drop_set_of_lt (by omega)]
    simp [show o + 1 + r.length = o + (r.length + 1) by omega]
/-- A store of a whole block. -/
theorem Blk.fill (h : Blk w g t cs) (vs : List Value) (hl : vs.length = cs.size) : Blk (w.setCells g 0 vs) g t vs.toArray := by
  have h1 := blk_setCells vs 0 w cs h
  have h2 := fold_set vs 0 cs (by omega)
  rw [Nat.zero_add, List.drop_of_length_le (by rw [Array.length_toList]; omega), List.append_nil, List.take_zero, List.nil_append] at h2
  have h3 : (vs.foldl (fun (p : Nat × Array Value) v => (p.1 + 1, p.2.setIfInBounds p.1 v)) (0, cs)).2 = vs.toArray := by
    have h4 := congrArg List.toArray h2
    rwa [Array.toArray_toList] at h4
  rw [h3] at h1
  exact h1
theorem Blk.farCells (h : Blk w g t cs) (vs : List Value) {k : Nat} (hk : g ≠ k) : ∀ (o : Nat), Blk (w.setCells k o vs) g t cs := by
  induction vs generalizing w with
  | nil => intro o; exact h
  | cons v r ih => intro o; exact ih (h.far (p := ⟨k, o, none⟩) hk v) (o + 1)
theorem gb_fill {a : World} (vs : List Value) : ∀ (o : Nat) (w : World), a.grownBy w (some g) → a.grownBy (w.setCells g o vs) (some g) := by
  induction vs with
  | nil => intro o w h; exact h
  | cons v r ih => intro o w h; exact ih (o + 1) _ (gb_set h (p := ⟨g, o, none⟩) (.inl rfl) v)
theorem nu_fill {a : World} (vs : List Value) (hg : a.heap.size ≤ g) : ∀ (o : Nat) (w : World), Below a.heap.size a w → Below a.heap.size a (w.setCells g o vs) := by
  induction vs with
  | nil => intro o w h; exact h
  | cons v r ih => intro o w h; exact ih (o + 1) _ (nu_set h (p := ⟨g, o, none⟩) hg v)
end

section
variable {P : Program} {ops : Array Oper} {rest : List Oper} {o : Oper} {a : Act} {w : World} {Q : Exit → Act → World → Prop}
/-- A whole array out of its block. -/
theorem wpList_load_blk (hgd : o.guard = none) (ty : TypeId) (x : Operand) (ho : o.op = .load ty x) (g : Nat) (hx : a.eval x = .pointer (some ⟨g, 0, none⟩)) (t : TypeId) (cs : Array Value) (hb : Blk w g t cs)
    {n : Nat} {e : TypeId} (hu : P.underlying ty = some (.array n e)) (hi : (P.info? ty).map (·.size) = some cs.size) (h : wpList P ops Q rest (a.put o.dst (.agg cs)) w) : wpList P ops Q (o :: rest) a w :=
  wpList_load_row hgd ty x ho g hx t cs (0, 0) (.array n e) hb hu rfl hi h
/-- A whole array into its block. -/
theorem wpList_store_blk (hgd : o.guard = none) (ty : TypeId) (x y : Operand) (ho : o.op = .store ty x y) (g : Nat) (vs : List Value) (hx : a.eval x = .pointer (some ⟨g, 0, none⟩)) (hy : a.eval y = .agg vs.toArray)
    (t : TypeId) (cs : Array Value) (hb : Blk w g t cs) (hl : vs.length = cs.size) (hi : (P.info? ty).map (·.size) = some vs.length) (h1 : ∀ v ∈ vs, v.oneCell' = true)
    (h : wpList P ops Q rest (a.put o.dst undef) (w.setCells g 0 vs)) : wpList P ops Q (o :: rest) a w :=
  wpList_store_mid hgd ty x y ho g 0 vs.toArray hx hy (hb.there 0 _ (by simp; omega)) (by simpa using hi) (all_oneCell_toArray h1) (by simpa using h)
/-- A result that lies in a block. -/
theorem results_blk {fn : Func} {p : Tmp} {ty : TypeId} (h : fn.results = #[.cell p ty]) (tmps : Array Value) (g : Nat) (t : TypeId) (cs : Array Value) (hp : tmps.getD p undef = .pointer (some ⟨g, 0, none⟩)) (hb : Blk w g t cs)
    {n : Nat} {e : TypeId} (hu : P.underlying ty = some (.array n e)) (hi : (P.info? ty).map (·.size) = some cs.size) : (results fn tmps).run P w = .ok (.agg cs) w :=
  results_cell_row h tmps w g t cs (0, 0) (.array n e) hp hb hu rfl hi
/-- .. a struct's. -/
theorem results_blkS {fn : Func} {p : Tmp} {ty : TypeId} (h : fn.results = #[.cell p ty]) (tmps : Array Value) (g : Nat) (t : TypeId) (cs : Array Value) (hp : tmps.getD p undef = .pointer (some ⟨g, 0, none⟩)) (hb : Blk w g t cs)
    {fs : Array Field} (hu : P.underlying ty = some (.struct fs)) (hi : (P.info? ty).map (·.size) = some cs.size) : (results fn tmps).run P w = .ok (.agg cs) w :=
  results_cell_row h tmps w g t cs (0, 0) (.struct fs) hp hb hu rfl hi
/-- .. and another result that lies in a slot. -/
theorem results_blkS2 {fn : Func} {p u : Tmp} {ty : TypeId} (h : fn.results = #[.cell p ty, .tmp u]) (tmps : Array Value) (g : Nat) (t : TypeId) (cs : Array Value) (hp : tmps.getD p undef = .pointer (some ⟨g, 0, none⟩)) (hb : Blk w g t cs)
    {fs : Array Field} (hu : P.underlying ty = some (.struct fs)) (hi : (P.info? ty).map (·.size) = some cs.size) : (results fn tmps).run P w = .ok (.tuple #[.agg cs, tmps.getD u undef]) w := by
  rw [results_cell_tmp h, hp]
  simp [asAddr, run_loadVar_row w g t ty cs (0, 0) (.struct fs) hb hu rfl hi]
end
end Go.Proofs.Ytnojbjconiddoaa
