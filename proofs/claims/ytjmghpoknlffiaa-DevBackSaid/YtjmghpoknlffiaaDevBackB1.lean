/-
  What the proof of DevBack rests on, part 1 of 9.
-/
import Derived.Below
import Derived.Laws.OwnMore
import Derived.Deep.Draws
import Derived.Laws.Rows
import Derived.WalkKit
import Derived.ProofKit
import Derived.OpenShut
import Derived.Laws.AppendOwn
import Derived.Laws.AppendOwnNone
import Derived.Test.YtjmghpoknlffiaaRows
import Derived.WalkSpells
import Derived.WalkLawsBesides
import Derived.Lib.Hide
import Derived.IntWalk
import Derived.Laws.MakeOwn
import Derived.ChangeKeysEq
import Derived.Laws.StructEq
import Derived.Deep.MidRow
import Derived.Laws.ResultCell
import Derived.Deep.RegionHeld3
import Derived.Deep.AppendLies
import Derived.Maps.AppendAt
import Derived.Deep.Cut
import Derived.Deep.CutRange
import Derived.Deep.DeepCutAuto
import Derived.Deep.CutBlock
import Derived.Deep.LoopGhost
import Derived.StillTailTactics
import Derived.Laws.Tables
import Derived.Laws.CopyOwn
import Derived.Deep.QuietTactic
import Derived.BigQuiet
import Derived.Deep.Slices
import Derived.Deep.Fields
import Derived.ChangeSame
namespace Go.Proofs.Ytjmghpoknlffiaa
open Go.RowKit

/-- Block g holds just the cells cs, of element type t, and none of them is frozen. -/
def Blk (w : World) (g : Nat) (t : TypeId) (cs : Array Value) : Prop := w.heap[g]? = some (.cells cs t (0, 0))

section
variable {w w' : World} {g : Nat} {t : TypeId} {cs : Array Value}
theorem Blk.lt (h : Blk w g t cs) : g < w.heap.size := by
  rcases Nat.lt_or_ge g w.heap.size with hl | hl
  · exact hl
  · have h' : w.heap[g]? = some (.cells cs t (0, 0)) := h
    rw [Array.getElem?_eq_none hl] at h'
    cases h'
theorem Blk.at (h : Blk w g t cs) (i : Nat) (v : Value) (hv : cs[i]? = some v) : w.cell? ⟨g, i, none⟩ = some v := (cell_of_row w g i cs t (0, 0) h).trans hv
theorem Blk.free (h : Blk w g t cs) (i : Nat) : w.frozen? ⟨g, i, none⟩ = false := by
  have h' : w.heap[g]? = some (.cells cs t (0, 0)) := h
  simp [World.frozen?, h']
theorem Blk.made (w : World) (t : TypeId) (cs : Array Value) : Blk (w.alloc (.cells cs t)) w.heap.size t cs := heap_alloc_new w _
theorem Blk.drew (h : Blk w g t cs) : Blk w.drew g t cs := h
theorem Blk.drewN (h : Blk w g t cs) (n : Nat) : Blk (w.drewN n) g t cs := h
theorem Blk.alloc (h : Blk w g t cs) (o : Obj) : Blk (w.alloc o) g t cs := (Below.heap_alloc w o g h.lt).trans h
theorem Blk.put (h : Blk w g t cs) (i : Nat) (u : Value) : Blk (w.setCell ⟨g, i, none⟩ u) g t (cs.setIfInBounds i u) := by
  have h' : w.heap[g]? = some (.cells cs t (0, 0)) := h
  show (w.setCell ⟨g, i, none⟩ u).heap[g]? = _
  simp [World.setCell, Array.getElem?_modify, h']
theorem Blk.far (h : Blk w g t cs) {p : Addr} (hp : g ≠ p.block) (u : Value) : Blk (w.setCell p u) g t cs := (Below.heap_setCell w p u g hp).trans h
theorem Blk.below {B : Nat} (h : Blk w g t cs) (hb : Below B w w') (hg : g < B) : Blk w' g t cs := (hb.block g hg).trans h
theorem Blk.grown {row : Option Nat} (h : Blk w g t cs) (hb : w.grownBy w' row) (hg : some g ≠ row) : Blk w' g t cs := (hb.block g h.lt hg).trans h
theorem Blk.apart {g' : Nat} {t' : TypeId} {cs' : Array Value} (h : Blk w g t cs) (h' : Blk w g' t' cs') (hne : t ≠ t') : g ≠ g' := by
  rintro rfl
  have e : (some (Obj.cells cs t (0, 0)) : Option Obj) = some (.cells cs' t' (0, 0)) := (show w.heap[g]? = _ from h).symm.trans h'
  injection e with e
  injection e with _ e2
  exact hne e2
theorem Blk.made1 (w : World) (o : Obj) (t : TypeId) (cs : Array Value) : Blk ((w.alloc o).alloc (.cells cs t)) (w.heap.size + 1) t cs := by
  have h := Blk.made (w.alloc o) t cs
  rw [show (w.alloc o).heap.size = w.heap.size + 1 by simp] at h
  exact h
theorem Blk.made2 (w : World) (o p : Obj) (t : TypeId) (cs : Array Value) : Blk (((w.alloc o).alloc p).alloc (.cells cs t)) (w.heap.size + 1 + 1) t cs := by
  have h := Blk.made1 (w.alloc o) p t cs
  rw [show (w.alloc o).heap.size = w.heap.size + 1 by simp] at h
  exact h
theorem Blk.made3 (w : World) (o p q : Obj) (t : TypeId) (cs : Array Value) : Blk ((((w.alloc o).alloc p).alloc q).alloc (.cells cs t)) (w.heap.size + 1 + 1 + 1) t cs := by
  have h := Blk.made2 (w.alloc o) p q t cs
  rw [show (w.alloc o).heap.size = w.heap.size + 1 by simp] at h
  exact h
/-- A block of one cell holds nothing else. -/
theorem Blk.only {u v : Value} {p : Addr} (h : Blk w g t #[u]) (hp : w.cell? p = some v) (hb : p.block = g) (hs : p.spot = none) : v = u := by
  obtain ⟨b, i, s⟩ := p
  simp only at hb hs
  subst hb
  subst hs
  rw [cell_of_row w b i #[u] t (0, 0) h] at hp
  cases i with
  | zero => simpa using hp.symm
  | succ i => simp at hp
end

section
variable {a w w' : World} {row : Option Nat}
theorem gb_refl (w : World) (row : Option Nat) : w.grownBy w row := ⟨rfl, rfl, rfl, Nat.le_refl _, fun _ _ _ => rfl⟩
theorem gb_drew (h : a.grownBy w row) : a.grownBy w.drew row := ⟨h.os, h.tape, h.output, h.size, h.block⟩
theorem gb_drewN (h : a.grownBy w row) (n : Nat) : a.grownBy (w.drewN n) row := ⟨h.os, h.tape, h.output, h.size, h.block⟩
theorem gb_alloc (h : a.grownBy w row) (o : Obj) : a.grownBy (w.alloc o) row :=
  ⟨h.os, h.tape, h.output, Nat.le_trans h.size (by simp), fun i hi hne => (Below.heap_alloc w o i (Nat.lt_of_lt_of_le hi h.size)).trans (h.block i hi hne)⟩
theorem gb_set {g : Nat} (h : a.grownBy w (some g)) {p : Addr} (hp : p.block = g ∨ a.heap.size ≤ p.block) (u : Value) : a.grownBy (w.setCell p u) (some g) :=
  ⟨h.os, h.tape, h.output, by simpa [World.setCell] using h.size, fun i hi hne => by
    refine (Below.heap_setCell w p u i ?_).trans (h.block i hi hne)
    rintro rfl
    rcases hp with hp | hp
    · exact hne (by rw [hp])
    · omega⟩
theorem gb_trans {b c : World} (h : a.grownBy b row) (k : b.grownBy c row) : a.grownBy c row :=
  ⟨k.os.trans h.os, k.tape.trans h.tape, k.output.trans h.output, Nat.le_trans h.size k.size, fun i hi hne => (k.block i (Nat.lt_of_lt_of_le hi h.size) hne).trans (h.block i hi hne)⟩
theorem gb_of_below (h : Below a.heap.size a w) (row : Option Nat) : a.grownBy w row := ⟨h.os, h.tape, h.output, h.size, fun i hi _ => h.block i hi⟩
theorem below_drewN {B : Nat} (h : Below B a w) (n : Nat) : Below B a (w.drewN n) := ⟨h.os, h.tape, h.output, h.size, h.block⟩
/-- What a fresh block of the call's own has turned is nothing to what lies below it. -/
theorem below_turned {B g : Nat} (h : Below B a w) (k : w.grownBy w' (some g)) (hB : B ≤ w.heap.size) (hg : B ≤ g) : Below B a w' :=
  h.grown k hB (fun j hj => by injection hj with hj; omega)
end
end Go.Proofs.Ytjmghpoknlffiaa

namespace Go.Proofs.Ytjmghpoknlffiaa
open Go.ChangeShapes Go.WideShapes Go.ChangeAt Go.RowKit

/-- What the proof's shell says of a slice of integers. -/
def RowSaid (k : IntKind) (w : World) (a : Option Addr) (len cap : Nat) (zs : List Int) : Prop :=
  (a = none ∧ len = 0 ∧ cap = 0 ∧ zs = []) ∨
  ∃ x, a = some x ∧ len ≤ cap ∧ cap ≤ maxLen ∧ zs.length = cap ∧ (∀ i, i < zs.length → w.cell? (x.add i) = some (.int k (zs.getD i 0))) ∧ ∀ n ∈ zs, (Lit.int k n).wf = true

/-- The slice (a, len) holds the numbers xs. -/
def IntsIn (w : World) (k : IntKind) (a : Option Addr) (len : Nat) (xs : List Nat) : Prop :=
  xs.length = len ∧ (∀ n ∈ xs, (Lit.int k (n : Int)).wf = true) ∧
  (0 < len → ∃ b off, a = some ⟨b, off, none⟩ ∧ b < w.heap.size ∧ ∀ j n : Nat, xs[j]? = some n → w.cell? ⟨b, off + j, none⟩ = some (.int k (n : Int)))

theorem intsIn_of_row {k : IntKind} (hk : ∀ n : Int, (Lit.int k n).wf = true → 0 ≤ n) {w : World} {a : Option Addr} {len cap : Nat} {zs : List Int} (h : RowSaid k w a len cap zs) :
    len ≤ maxLen ∧ len ≤ cap ∧ ∃ xs, IntsIn w k a len xs := by
  rcases h with ⟨rfl, rfl, rfl, rfl⟩ | ⟨x, rfl, hlc, hcm, hl, hc, hw⟩
  · exact ⟨by unfold maxLen; omega, by omega, [], rfl, by simp, fun h => absurd h (by omega)⟩
  · refine ⟨by omega, hlc, (zs.take len).map Int.toNat, by simp; omega, ?_, ?_⟩
    · intro n hn
      obtain ⟨z, hz, rfl⟩ := List.mem_map.1 hn
      have hz' := hw z (List.mem_of_mem_take hz)
      rw [Int.toNat_of_nonneg (hk z hz')]
      exact hz'
    · intro hpos
      obtain ⟨b, off, rfl, hb⟩ := ints_at hc (by omega)
      refine ⟨b, off, rfl, World.block_lt_of_cell? _ _ (hb 0 (by omega)), fun j n hn => ?_⟩
      rw [List.getElem?_map, Option.map_eq_some_iff] at hn
      obtain ⟨z, hz, rfl⟩ := hn
      have hjl : j < (zs.take len).length := (List.getElem?_eq_some_iff.1 hz).1
      have hjz : j < zs.length := by
        rw [List.length_take] at hjl
        omega
      have hz2 : zs[j]? = some z := by
        rw [List.getElem?_take] at hz
        split at hz
        · exact hz
        · cases hz
      rw [hb j hjz, List.getD_eq_getElem?_getD, hz2]
      have hz' := hw z (List.mem_of_getElem? hz2)
      rw [Int.toNat_of_nonneg (hk z hz')]
      rfl

theorem u8_nonneg (n : Int) (h : (Lit.int .u8 n).wf = true) : 0 ≤ n := (bounds_u8 h).1
theorem u32_nonneg (n : Int) (h : (Lit.int .u32 n).wf = true) : 0 ≤ n := (bounds_u32 h).1
theorem u64_nonneg (n : Int) (h : (Lit.int .u64 n).wf = true) : 0 ≤ n := (bounds_u64 h).1

theorem IntsIn.keep {w w' : World} {k : IntKind} {a : Option Addr} {len : Nat} {xs : List Nat} (h : IntsIn w k a len xs) (hb : Below w.heap.size w w') : IntsIn w' k a len xs :=
  ⟨h.1, h.2.1, fun hp => by
    obtain ⟨b, off, rfl, hlt, hc⟩ := h.2.2 hp
    exact ⟨b, off, rfl, Nat.lt_of_lt_of_le hlt hb.size, fun j n hn => (hb.cell (p := ⟨b, off + j, none⟩) hlt).trans (hc j n hn)⟩⟩
/-- One element. -/
theorem IntsIn.elem {w : World} {k : IntKind} {a : Option Addr} {len : Nat} {xs : List Nat} (h : IntsIn w k a len xs) (j : Nat) (hj : j < len) :
    ∃ b off n, a = some ⟨b, off, none⟩ ∧ b < w.heap.size ∧ xs[j]? = some n ∧ (Lit.int k (n : Int)).wf = true ∧ w.cell? ⟨b, off + j, none⟩ = some (.int k (n : Int)) := by
  obtain ⟨b, off, rfl, hlt, hc⟩ := h.2.2 (by omega)
  have hn : xs[j]? = some (xs[j]'(by rw [h.1]; exact hj)) := List.getElem?_eq_getElem (by rw [h.1]; exact hj)
  exact ⟨b, off, _, rfl, hlt, hn, h.2.1 _ (List.getElem_mem _), hc j _ hn⟩
end Go.Proofs.Ytjmghpoknlffiaa

namespace Go.Proofs.Ytjmghpoknlffiaa
open Go.ChangeShapes Go.WideShapes Go.ChangeAt Go.RowKit

/-- A byte as a value. -/
def vb (n : Nat) : Value := .int .u8 (n : Int)
theorem vb_one (l : List Nat) : ∀ u ∈ l.map vb, u.oneCell' = true := by
  intro u hu
  obtain ⟨x, _, rfl⟩ := List.mem_map.1 hu
  rfl

section
variable {P : Program} {w : World}

theorem wpList_append_src {ops : Array Oper} {rest : List Oper} {o : Oper} {a : Act} {Q : Exit → Act → World → Prop} (hgd : o.guard = none) (s x : Operand) (t : TypeId)
    (ho : o.op = .call { callee := .builtin .append, args := #[s, x], argTypes := #[t, t] })
    (base : Nat) (e : TypeId) (i : TypeInfo) (z : Value) (size bytes : Nat) (ht : P.underlying t = some (.slice e)) (hi : P.info? e = some i) (hz : i.zero = some z)
    (hsize : i.size = size) (hby : i.bytes = bytes) (hzs : z.cells.size = size) (hsz : 0 < size)
    (v : Value) (n : Nat) (xs : List Value) (hs : a.eval s = v) (hown : w.ownsRow base e size v n xs)
    (ao : Option Addr) (m c : Nat) (news : List Value) (hx : a.eval x = .slice ao m c) (hnone : ao = none → m = 0 ∧ c = 0) (hl : news.length = m * size)
    (hnews : ∀ ad, ao = some ad → ∀ j u, news[j]? = some u → w.cell? (ad.add j) = some u) (h1 : ∀ u ∈ news, u.oneCell' = true)
    (h63 : n + m ≤ maxLen) (hbytes : (n + m) * bytes ≤ 140737488355328) (hbase : base ≤ w.heap.size)
    (h : ∀ v' w', w'.ownsRow base e size v' (n + m) (xs ++ news) → w.grownBy w' v.ownBlock → wpList P ops Q rest (a.put o.dst v') w') : wpList P ops Q (o :: rest) a w := by
  cases ao with
  | none =>
    obtain ⟨rfl, rfl⟩ := hnone rfl
    have hn : news = [] := List.eq_nil_of_length_eq_zero (by simpa using hl)
    subst hn
    exact wpList_append_own_none hgd s x t ho base e i size ht hi v n xs hs hown hx (h v w (by simpa using hown) (World.grownBy.refl w _))
  | some ad => exact wpList_append_own w hgd s x t ho base e i z size bytes ht hi hz hsize hby hzs hsz v n xs hs hown ad m c news hx hl (hnews ad rfl) h1 h63 hbytes hbase fun v' w' h2 h3 _ => h v' w' h2 h3
end

/-- A slice of bytes that holds xs, with what an append asks of it. -/
def BytesIn (w : World) (a : Option Addr) (len cap : Nat) (xs : List Nat) : Prop := IntsIn w .u8 a len xs ∧ (a = none → len = 0 ∧ cap = 0)
theorem BytesIn.src {w : World} {a : Option Addr} {len cap : Nat} {xs : List Nat} (h : BytesIn w a len cap xs) : ∀ ad, a = some ad → ∀ (j : Nat) (u : Value), (xs.map vb)[j]? = some u → w.cell? (ad.add j) = some u := by
  rintro ad rfl j u hu
  rw [List.getElem?_map, Option.map_eq_some_iff] at hu
  obtain ⟨x, hx, rfl⟩ := hu
  have hj : j < xs.length := (List.getElem?_eq_some_iff.1 hx).1
  obtain ⟨b, off, e, _, hc⟩ := h.1.2.2 (by rw [← h.1.1]; omega)
  injection e with e
  subst e
  rw [Go.WideShapes.add_plain]
  exact hc j x hx
theorem BytesIn.keep {w w' : World} {a : Option Addr} {len cap : Nat} {xs : List Nat} (h : BytesIn w a len cap xs) (hb : Below w.heap.size w w') : BytesIn w' a len cap xs := ⟨h.1.keep hb, h.2⟩
theorem BytesIn.drewN {w : World} {a : Option Addr} {len cap : Nat} {xs : List Nat} (h : BytesIn w a len cap xs) (n : Nat) : BytesIn (w.drewN n) a len cap xs := h
theorem BytesIn.nil_ (w : World) : BytesIn w none 0 0 [] := ⟨⟨rfl, by simp, fun h => absurd h (by omega)⟩, fun _ => ⟨rfl, rfl⟩⟩
theorem bytesIn_of_row {w : World} {a : Option Addr} {len cap : Nat} {zs : List Int} (h : RowSaid .u8 w a len cap zs) : len ≤ cap ∧ ∃ xs, BytesIn w a len cap xs := by
  obtain ⟨_, h2, xs, h3⟩ := intsIn_of_row u8_nonneg h
  refine ⟨h2, xs, h3, ?_⟩
  rcases h with ⟨rfl, rfl, rfl, rfl⟩ | ⟨x, rfl, _⟩
  · exact fun _ => ⟨rfl, rfl⟩
  · exact fun h => by cases h
theorem wf_u8_lt {n : Nat} (h : (Lit.int .u8 (n : Int)).wf = true) : n < 256 := by
  have := bounds_u8 h
  omega
theorem wf_u8_of {n : Nat} (h : n < 256) : (Lit.int .u8 (n : Int)).wf = true := by
  simp [Lit.wf, IntKind.min, IntKind.max, IntKind.bits, IntKind.signed]
  omega

/-- A row of bytes of the call's own: its value, and the bytes. -/
def OwnB (w : World) (base : Nat) (e : TypeId) (v : Value) (xs : List Nat) : Prop := w.ownsRow base e 1 v xs.length (xs.map vb) ∧ ∀ x ∈ xs, x < 256
theorem own_mono {w : World} {base base' : Nat} {e : TypeId} {v : Value} {xs : List Nat} (h : OwnB w base e v xs) (hb : base' ≤ base) : OwnB w base' e v xs := by
  refine ⟨⟨h.1.1, ?_⟩, h.2⟩
  rcases h.1.2 with h2 | ⟨g, cap, cur, h2, h3, r⟩
  · exact .inl h2
  · exact .inr ⟨g, cap, cur, h2, Nat.le_trans hb h3, r⟩
/-- What a row of the call's own reads as. -/
theorem OwnB.reads {w : World} {base : Nat} {e : TypeId} {v : Value} {xs : List Nat} (h : OwnB w base e v xs) : ∃ a cap, v = .slice a xs.length cap ∧ xs.length ≤ cap ∧ cap ≤ maxLen ∧ BytesIn w a xs.length cap xs := by
  obtain ⟨⟨_, h2⟩, hlt⟩ := h
  have hwf : ∀ n ∈ xs, (Lit.int .u8 (n : Int)).wf = true := fun n hn => wf_u8_of (hlt n hn)
  rcases h2 with ⟨rfl, h0⟩ | ⟨g, cap, cur, rfl, hbg, hh, hnc, hcm, hsz, htk⟩
  · have : xs = [] := List.eq_nil_of_length_eq_zero h0
    subst this
    exact ⟨none, 0, rfl, Nat.le_refl _, Nat.zero_le _, BytesIn.nil_ w⟩
  · refine ⟨_, cap, rfl, hnc, hcm, ⟨rfl, hwf, fun hp => ⟨g, 0, rfl, ?_, ?_⟩⟩, fun h => by cases h⟩
    · exact Blk.lt (t := e) (cs := cur) hh
    · intro j n hn
      have hj : j < xs.length := (List.getElem?_eq_some_iff.1 hn).1
      rw [Nat.zero_add]
      refine Blk.at (t := e) hh j _ ?_
      have e1 : (cur.toList.take (xs.length * 1))[j]? = some (vb n) := by rw [htk, List.getElem?_map, hn]; rfl
      rw [List.getElem?_take] at e1
      split at e1
      · rw [← Array.getElem?_toList]; exact e1
      · cases e1
/-- What a row of the call's own reads as, and where it lies. -/
theorem OwnB.lies {w : World} {base : Nat} {e : TypeId} {v : Value} {xs : List Nat} (h : OwnB w base e v xs) : ∃ a cap, v = .slice a xs.length cap ∧ xs.length ≤ cap ∧ cap ≤ maxLen ∧ BytesIn w a xs.length cap xs ∧ ∀ ad, a = some ad → base ≤ ad.block ∧ ad.block < w.heap.size := by
  obtain ⟨a, cap, rfl, h1, h2, h3⟩ := h.reads
  refine ⟨a, cap, rfl, h1, h2, h3, ?_⟩
  rintro ad rfl
  rcases h.1.2 with ⟨h4, _⟩ | ⟨g, cap', cur, h4, h5, h6, _⟩
  · cases h4
  · injection h4 with h4
    injection h4 with h4
    subst h4
    exact ⟨h5, Blk.lt (t := e) (cs := cur) h6⟩
end Go.Proofs.Ytjmghpoknlffiaa

namespace Go.Proofs.Ytjmghpoknlffiaa
open Go.RowKit

/-- Of what was there only the blocks g and h have turned. -/
structure Touch (g h : Nat) (w w' : World) : Prop where
  os : w'.os = w.os
  tape : w'.tape = w.tape
  output : w'.output = w.output
  size : w.heap.size ≤ w'.heap.size
  block : ∀ k, k < w.heap.size → k ≠ g → k ≠ h → w'.heap[k]? = w.heap[k]?

variable {g h : Nat} {a w w' : World}
theorem Touch.refl (g h : Nat) (w : World) : Touch g h w w := ⟨rfl, rfl, rfl, Nat.le_refl _, fun _ _ _ _ => rfl⟩
theorem Touch.drewN (t : Touch g h a w) (n : Nat) : Touch g h a (w.drewN n) := ⟨t.os, t.tape, t.output, t.size, t.block⟩
theorem Touch.drew (t : Touch g h a w) : Touch g h a w.drew := ⟨t.os, t.tape, t.output, t.size, t.block⟩
theorem Touch.trans {b : World} (t : Touch g h a w) (u : Touch g h w b) : Touch g h a b :=
  ⟨u.os.trans t.os, u.tape.trans t.tape, u.output.trans t.output, Nat.le_trans t.size u.size, fun k hk h1 h2 => (u.block k (Nat.lt_of_lt_of_le hk t.size) h1 h2).trans (t.block k hk h1 h2)⟩
theorem Touch.alloc (t : Touch g h a w) (o : Obj) : Touch g h a (w.alloc o) :=
  ⟨t.os, t.tape, t.output, Nat.le_trans t.size (by simp), fun k hk h1 h2 => (Below.heap_alloc w o k (Nat.lt_of_lt_of_le hk t.size)).trans (t.block k hk h1 h2)⟩
theorem Touch.setCell (t : Touch g h a w) {p : Addr} (hp : p.block = g ∨ p.block = h) (u : Value) : Touch g h a (w.setCell p u) :=
  ⟨t.os, t.tape, t.output, by simpa [World.setCell] using t.size, fun k hk h1 h2 => by
    refine (Below.heap_setCell w p u k ?_).trans (t.block k hk h1 h2)
    rintro rfl
    rcases hp with hp | hp
    · exact h1 hp
    · exact h2 hp⟩
theorem Touch.cell (t : Touch g h w w') {p : Addr} (hp : p.block < w.heap.size) (h1 : p.block ≠ g) (h2 : p.block ≠ h) : w'.cell? p = w.cell? p := World.cell?_of_block (w := w) (t.block p.block hp h1 h2)
theorem Touch.below {B : Nat} (t : Touch g h w w') (hB : B ≤ w.heap.size) (h1 : B ≤ g) (h2 : B ≤ h) : Below B w w' := ⟨t.os, t.tape, t.output, t.size, fun k hk => t.block k (by omega) (by omega) (by omega)⟩
theorem Touch.of_grown (k : w.grownBy w' (some h)) : Touch g h w w' := ⟨k.os, k.tape, k.output, k.size, fun j hj _ h2 => k.block j hj (fun e => h2 (by injection e))⟩
theorem Touch.grown (t : Touch g h a w') (k : w.grownBy a (some g)) (hh : w.heap.size ≤ h) : w.grownBy w' (some g) :=
  ⟨t.os.trans k.os, t.tape.trans k.tape, t.output.trans k.output, Nat.le_trans k.size t.size, fun j hj hne => (t.block j (Nat.lt_of_lt_of_le hj k.size) (fun e => hne (by rw [e])) (by omega)).trans (k.block j hj hne)⟩
theorem Touch.of_grown' (k : w.grownBy w' (some g)) : Touch g h w w' := ⟨k.os, k.tape, k.output, k.size, fun j hj h1 _ => k.block j hj (fun e => h1 (by injection e))⟩
theorem Touch.blk {k : Nat} {t : TypeId} {cs : Array Value} (u : Touch g h w w') (hb : Blk w k t cs) (h1 : k ≠ g) (h2 : k ≠ h) : Blk w' k t cs := (u.block k hb.lt h1 h2).trans hb
theorem BytesIn.touch {a : Option Addr} {len cap : Nat} {xs : List Nat} (hx : BytesIn w a len cap xs) (u : Touch g h w w') (hne : 0 < len → ∀ ad, a = some ad → ad.block ≠ g ∧ ad.block ≠ h) : BytesIn w' a len cap xs := by
  refine ⟨⟨hx.1.1, hx.1.2.1, fun hp => ?_⟩, hx.2⟩
  obtain ⟨b, off, rfl, hlt, hc⟩ := hx.1.2.2 hp
  obtain ⟨h1, h2⟩ := hne hp _ rfl
  exact ⟨b, off, rfl, Nat.lt_of_lt_of_le hlt u.size, fun j n hn => (u.cell (p := ⟨b, off + j, none⟩) hlt h1 h2).trans (hc j n hn)⟩
/-- What is left behind the first n of a slice. -/
def leftAt (a : Option Addr) (cap n : Nat) : Option Addr := if cap = n then a else a.map (·.add n)
theorem leftAt_block {x : Option Addr} {cap n : Nat} {ad : Addr} (hl : leftAt x cap n = some ad) : ∃ ad0, x = some ad0 ∧ ad.block = ad0.block := by
  unfold leftAt at hl
  split at hl
  · exact ⟨ad, hl, rfl⟩
  · rw [Option.map_eq_some_iff] at hl
    obtain ⟨ad0, h1, rfl⟩ := hl
    exact ⟨ad0, h1, by unfold Addr.add; split <;> rfl⟩
theorem BytesIn.left {a : Option Addr} {len cap n : Nat} {xs : List Nat} (hx : BytesIn w a len cap xs) (hn : n ≤ len) (hc : len ≤ cap) : BytesIn w (leftAt a cap n) (len - n) (cap - n) (xs.drop n) := by
  refine ⟨⟨by rw [List.length_drop, hx.1.1], fun x hx' => hx.1.2.1 x (List.mem_of_mem_drop hx'), fun hp => ?_⟩, fun he => ?_⟩
  · obtain ⟨b, off, rfl, hlt, hcell⟩ := hx.1.2.2 (by omega)
    refine ⟨b, off + n, ?_, hlt, fun j m hm => ?_⟩
    · unfold leftAt
      rw [if_neg (by omega)]
      simp [Go.WideShapes.add_plain]
    · rw [List.getElem?_drop] at hm
      rw [show off + n + j = off + (n + j) by omega]
      exact hcell _ _ hm
  · have h0 : a = none := by
      unfold leftAt at he
      split at he
      · exact he
      · simpa using he
    obtain ⟨h1, h2⟩ := hx.2 h0
    omega
theorem BytesIn.first {a : Option Addr} {len cap n : Nat} {xs : List Nat} (hx : BytesIn w a len cap xs) (hn : n ≤ len) : BytesIn w a n cap (xs.take n) := by
  refine ⟨⟨by rw [List.length_take, hx.1.1]; omega, fun x hx' => hx.1.2.1 x (List.mem_of_mem_take hx'), fun hp => ?_⟩, fun he => ?_⟩
  · obtain ⟨b, off, rfl, hlt, hcell⟩ := hx.1.2.2 (by omega)
    refine ⟨b, off, rfl, hlt, fun j m hm => hcell j m ?_⟩
    rw [List.getElem?_take] at hm
    split at hm
    · exact hm
    · cases hm
  · obtain ⟨h1, h2⟩ := hx.2 he
    omega
theorem OwnB.kept {k base : Nat} {e : TypeId} {v : Value} {xs : List Nat} (ho : OwnB w base e v xs) (hg : w.grownBy w' (some k)) (hk : k < base) : OwnB w' base e v xs := by
  refine ⟨ho.1.kept hg ?_, ho.2⟩
  cases hv : v.ownBlock with
  | none => exact .inl rfl
  | some j =>
    refine .inr (fun e => ?_)
    have := (ho.1.lt j hv).1
    injection e
    omega
theorem Touch.of_below (hb : Below w.heap.size w w') : Touch g h w w' := ⟨hb.os, hb.tape, hb.output, hb.size, fun k hk _ _ => hb.block k hk⟩
/-! ### Only new memory: 'Below' at the heap's own size -/
theorem nu_refl (w : World) : Below w.heap.size w w := Below.refl _ _
theorem nu_trans {b : World} (h1 : Below a.heap.size a w) (h2 : Below w.heap.size w b) : Below a.heap.size a b := h1.trans (h2.mono h1.size)
theorem nu_alloc (h1 : Below a.heap.size a w) (o : Obj) : Below a.heap.size a (w.alloc o) := h1.alloc h1.size o
theorem nu_drewN (h1 : Below a.heap.size a w) (n : Nat) : Below a.heap.size a (w.drewN n) := below_drewN h1 n
theorem nu_drew (h1 : Below a.heap.size a w) : Below a.heap.size a w.drew := h1.drew
theorem nu_grown (h1 : Below a.heap.size a w) {k : Nat} (h2 : w.grownBy w' (some k)) (hk : a.heap.size ≤ k) : Below a.heap.size a w' := below_turned h1 h2 h1.size hk
theorem nu_set (h1 : Below a.heap.size a w) {p : Addr} (hp : a.heap.size ≤ p.block) (u : Value) : Below a.heap.size a (w.setCell p u) := h1.setCell hp u
/-- What can be read stays so where only one block of another kind turns. -/
theorem BytesIn.far {x : Option Addr} {len cap k : Nat} {xs : List Nat} (hx : BytesIn w x len cap xs) (hb : w.grownBy w' (some k)) (hk : 0 < len → ∀ ad, x = some ad → ad.block ≠ k) : BytesIn w' x len cap xs :=
  hx.touch (Touch.of_grown (g := k) hb) (fun hp ad had => ⟨hk hp ad had, hk hp ad had⟩)
/-- A row of the call's own that is not empty: its block. -/
theorem OwnB.form {base : Nat} {e : TypeId} {v : Value} {xs : List Nat} (ho : OwnB w base e v xs) (hp : 0 < xs.length) :
    ∃ k cap cur, v = .slice (some ⟨k, 0, none⟩) xs.length cap ∧ base ≤ k ∧ Blk w k e cur ∧ xs.length ≤ cap ∧ cap ≤ maxLen ∧ cur.size = cap ∧ cur.toList.take xs.length = xs.map vb := by
  obtain ⟨⟨_, h2⟩, _⟩ := ho
  rcases h2 with ⟨rfl, h0⟩ | ⟨k, cap, cur, rfl, hbg, hh, hnc, hcm, hsz, htk⟩
  · omega
  · exact ⟨k, cap, cur, rfl, hbg, hh, hnc, hcm, by rw [hsz, Nat.mul_one], by rw [Nat.mul_one] at htk; exact htk⟩
theorem own_cell {cur : Array Value} {n j x : Nat} {xs : List Nat} (htk : cur.toList.take n = xs.map vb) (hx : xs[j]? = some x) : cur[j]? = some (vb x) := by
  have e1 : (cur.toList.take n)[j]? = some (vb x) := by rw [htk, List.getElem?_map, hx]; rfl
  rw [List.getElem?_take] at e1
  split at e1
  · rw [← Array.getElem?_toList]; exact e1
  · cases e1
end Go.Proofs.Ytjmghpoknlffiaa

namespace Go.Proofs.Ytjmghpoknlffiaa
open Go.ChangeShapes Go.WideShapes Go.ChangeAt Go.RowKit

theorem info_u8 : (Try.prog.info? 5).map (fun i => (i.zero, i.size, i.bytes)) = some (some (.int .u8 0), 1, 1) := by kernel_rfl

/-- make of bytes, at a length and a capacity. -/
theorem mk_bytes (l c : Nat) (li ci : Int) (hl : li = (l : Int)) (hc : ci = (c : Int)) (hlc : l ≤ c) (hb : c ≤ 281474976710656) :
    ∃ Z : List Value, Z.length = c ∧ ∀ W, (Instr.makeSlice 22 (.int .i64 li) (.int .i64 ci)).run Try.prog W = .ok (.slice (some ⟨W.heap.size, 0, none⟩) l c) (W.alloc (.cells Z.toArray 5)) := by
  obtain ⟨i0, hi, hz0, hz1, hz2⟩ := info_parts info_u8
  subst hl
  subst hc
  refine ⟨(madeCells (Value.int .u8 0).cells (c * i0.size)).toList, by simp [madeCells, hz1], fun W => ?_⟩
  have := run_make (P := Try.prog) W 22 5 i0 (.int .u8 0) Try.underlying22 hi hz0 .i64 .i64 (l : Int) (c : Int) (by omega) (by omega) (by rw [hz2]; omega) (by omega)
  rw [this]
  simp only [Int.toNat_natCast]

/-- What a row that is filled to its end lies in. -/
theorem blk_of_full {w : World} {base : Nat} {e : TypeId} {g n : Nat} {xs : List Value} (h : w.ownsRow base e 1 (.slice (some ⟨g, 0, none⟩) n n) n xs) : Blk w g e xs.toArray := by
  rcases h.2 with ⟨h2, _⟩ | ⟨g', cap, cur, h2, _, hh, _, _, hsz, htk⟩
  · cases h2
  · injection h2 with h3 h4 h5
    injection h3 with h3
    injection h3 with h3
    subst h3
    subst h5
    have e1 : cur.toList = xs := by rw [← htk, List.take_of_length_le (by rw [Array.length_toList, hsz]; exact Nat.le_refl _)]
    show w.heap[g]? = _
    rw [hh, ← e1]

end Go.Proofs.Ytjmghpoknlffiaa

namespace Go.Proofs.Ytjmghpoknlffiaa
open Go.ChangeShapes Go.WideShapes Go.ChangeAt Go.RowKit

/-- A device's block. -/
def DevAt (w : World) (d : Nat) (st wa : Value) (off : Bool) (ar co : Int) (cp wr : Value) : Prop := Blk w d 72 #[st, wa, .bool off, .int .i64 ar, .int .i64 co, cp, wr]
theorem DevAt.cells {w : World} {d : Nat} {st wa : Value} {off : Bool} {ar co : Int} {cp wr : Value} (h : DevAt w d st wa off ar co cp wr) :
    w.cell? ⟨d, 0, none⟩ = some st ∧ w.cell? ⟨d, 1, none⟩ = some wa ∧ w.cell? ⟨d, 2, none⟩ = some (.bool off) ∧ w.cell? ⟨d, 3, none⟩ = some (.int .i64 ar) ∧ w.cell? ⟨d, 4, none⟩ = some (.int .i64 co) ∧ w.cell? ⟨d, 5, none⟩ = some cp ∧ w.cell? ⟨d, 6, none⟩ = some wr :=
  ⟨h.at 0 _ rfl, h.at 1 _ rfl, h.at 2 _ rfl, h.at 3 _ rfl, h.at 4 _ rfl, h.at 5 _ rfl, h.at 6 _ rfl⟩

set_option maxRecDepth 100000 in
theorem up_any {w : World} {d : Nat} {st wa : Value} {off : Bool} {ar co : Int} {cp wr : Value} (h : DevAt w d st wa off ar co cp wr) :
    Calls Try.prog 22 #[.pointer (some ⟨d, 0, none⟩)] w fun e w' => e = .returned (.bool (!off)) ∧ w' = w := by
  obtain ⟨_, _, c2, _⟩ := h.cells
  go_enter Try.func22, Try.ntmps22
  go_wp2_with fail
  go_ret
  exact ⟨rfl, rfl⟩

set_option maxRecDepth 100000 in
theorem crash_any {w : World} {d : Nat} {st wa : Value} {off : Bool} {ar co : Int} {cp wr : Value} (h : DevAt w d st wa off ar co cp wr) :
    Calls Try.prog 14 #[.pointer (some ⟨d, 0, none⟩)] w fun e w' => e = .returned (.tuple #[]) ∧ DevAt w' d st wa true 0 co cp wr ∧ w.grownBy w' (some d) := by
  obtain ⟨_, _, c2, c3, _⟩ := h.cells
  have f2 := h.free 2
  have f3 := h.free 3
  have H := Lib.hid h
  go_enter Try.func14, Try.ntmps14
  go_wp2_with fail
  refine bodyPost_end (results_none rfl _ _ _) rfl ⟨rfl, ?_, ?_⟩
  · exact (H.out.put 2 (.bool true)).put 3 (.int .i64 0)
  · exact gb_set (gb_set (gb_refl w _) (p := ⟨d, 2, none⟩) (.inl rfl) _) (p := ⟨d, 3, none⟩) (.inl rfl) _

/-- What an access leaves: armed 1: the power goes. -/
def spentOff (ar : Int) : Bool := decide (ar = 1)
def spentAr (ar : Int) : Int := if 0 < ar then ar - 1 else ar
set_option maxRecDepth 100000 in
set_option maxHeartbeats 1000000 in
theorem spend_any {w : World} {d : Nat} {st wa : Value} {ar co : Int} {cp wr : Value} (h : DevAt w d st wa false ar co cp wr) (h0 : 0 ≤ ar) (h1 : ar ≤ 9223372036854775807) :
    Calls Try.prog 38 #[.pointer (some ⟨d, 0, none⟩)] w fun e w' => e = .returned (.bool (!spentOff ar)) ∧ DevAt w' d st wa (spentOff ar) (spentAr ar) (IntKind.i64.wrap (co + 1)) cp wr ∧ w.grownBy w' (some d) := by
  obtain ⟨_, _, c2, c3, c4, _⟩ := h.cells
  have f2 := h.free 2
  have f3 := h.free 3
  have f4 := h.free 4
  have H := Lib.hid h
  generalize hk : IntKind.i64.wrap (co + 1) = co'
  have H1 := Lib.hid (h.put 4 (.int .i64 co'))
  have G1 := Lib.hid (gb_set (gb_refl w (some d)) (p := ⟨d, 4, none⟩) (.inl rfl) (.int .i64 co'))
  have H2 := Lib.hid (H1.out.put 3 (.int .i64 (ar - 1)))
  have G2 := Lib.hid (gb_set G1.out (p := ⟨d, 3, none⟩) (.inl rfl) (.int .i64 (ar - 1)))
  rcases (show ar = 0 ∨ ar = 1 ∨ 1 < ar by omega) with rfl | rfl | hlt
  · rw [show (spentOff 0) = false from rfl, show spentAr 0 = 0 from rfl]
    go_enter Try.func38, Try.ntmps38
    go_wp2_with fail
    go_ret
    exact ⟨rfl, H1.out, G1.out⟩
  · rw [show (spentOff 1) = true from rfl, show spentAr 1 = 0 from rfl]
    go_enter Try.func38, Try.ntmps38
    go_wp2_with fail
    refine (crash_any (st := st) (wa := wa) (off := false) (ar := 0) (co := co') (cp := cp) (wr := wr) (show DevAt _ d st wa false 0 co' cp wr from H2.out)).mono ?_
    rintro e w1 ⟨rfl, hd, hg⟩
    obtain ⟨_, _, b2, _⟩ := hd.cells
    have Hd := Lib.hid hd
    have Hg := Lib.hid hg
    clear hd hg
    go_wp2_with fail
    go_ret
    exact ⟨rfl, Hd.out, gb_trans G2.out Hg.out⟩
  · have e : IntKind.i64.wrap (ar - 1) = ar - 1 := IntWalk.i64_in _ (by omega)
    have t0 : (ar - 1 == 0) = false := by rw [beq_eq_false_iff_ne]; omega
    have t1 : (0 < ar) := by omega
    rw [show (spentOff ar) = false from decide_eq_false (by omega), show spentAr ar = ar - 1 from if_pos t1]
    go_enter Try.func38, Try.ntmps38
    go_wp2_with fail
    go_ret
    exact ⟨rfl, H2.out, G2.out⟩
end Go.Proofs.Ytjmghpoknlffiaa

namespace Go.Proofs.Ytjmghpoknlffiaa
open Go.ChangeShapes Go.WideShapes Go.ChangeAt Go.RowKit

set_option maxRecDepth 100000 in
theorem spend_off {w : World} {d : Nat} {st wa : Value} {ar co : Int} {cp wr : Value} (h : DevAt w d st wa true ar co cp wr) :
    Calls Try.prog 16 #[.pointer (some ⟨d, 0, none⟩)] w fun e w' => e = .returned (.bool false) ∧ w' = w := by
  obtain ⟨_, _, c2, _⟩ := h.cells
  go_enter Try.func16, Try.ntmps16
  go_wp2_with fail
  go_ret
  exact ⟨rfl, rfl⟩

set_option maxRecDepth 100000 in
set_option maxHeartbeats 1000000 in
theorem spend_on {w : World} {d : Nat} {st wa : Value} {ar co : Int} {cp wr : Value} (h : DevAt w d st wa false ar co cp wr) (h0 : 0 ≤ ar) (h1 : ar ≤ 9223372036854775807) :
    Calls Try.prog 16 #[.pointer (some ⟨d, 0, none⟩)] w fun e w' => e = .returned (.bool (!spentOff ar)) ∧ DevAt w' d st wa (spentOff ar) (spentAr ar) (IntKind.i64.wrap (co + 1)) cp wr ∧ w.grownBy w' (some d) := by
  obtain ⟨_, _, c2, _⟩ := h.cells
  have HS := Lib.hid (spend_any h h0 h1)
  generalize spentOff ar = so at *
  generalize spentAr ar = sa at *
  generalize IntKind.i64.wrap (co + 1) = sc at *
  clear h h0 h1
  go_enter Try.func16, Try.ntmps16
  go_wp2_with fail
  refine (HS.out).mono ?_
  rintro e w1 ⟨rfl, hd, hg⟩
  have Hd := Lib.hid hd
  have Hg := Lib.hid hg
  clear hd hg
  go_wp2_with fail
  go_ret
  exact ⟨rfl, Hd.out, Hg.out⟩

theorem wpList_runW {P : Program} {ops : Array Oper} {rest : List Oper} {o : Oper} {a : Act} {w : World} {Q : Exit → Act → World → Prop} (v : Value) (w1 : World) (hw : Region.wanted o (yielded ops a.tmps) = true) (hr : (execOp a.eval o).run P w = .ok (.value v) w1) (h : wpList P ops Q rest (a.put o.dst v) w1) : wpList P ops Q (o :: rest) a w := by
  unfold wpList
  rw [if_pos hw]
  refine .inl ?_
  unfold Oper.wp
  rw [hr]
  exact h
theorem exec_make1 {o : Oper} {a : Act} {w : World} : ∃ ob : Obj, ∀ (x y : Operand), o.op = .makeSlice 68 x y → a.eval x = .int .i64 1 → a.eval y = .int .i64 1 →
    (execOp a.eval o).run Try.prog w = .ok (.value (.slice (some ⟨w.heap.size, 0, none⟩) 1 1)) (w.alloc ob) := by
  have h := run_makeSlice (P := Try.prog) (w := w) 68 73 (Try.prog.info? 73).get! ((Try.prog.info? 73).get!.zero).get! (by kernel_rfl) (by kernel_rfl) (by kernel_rfl) .i64 .i64 1 1 (by omega) (by omega)
    (by rw [show (Try.prog.info? 73).get!.size = 256 by kernel_rfl]; omega) (by rw [show (Try.prog.info? 73).get!.bytes = 256 by kernel_rfl]; omega) (by omega)
  obtain ⟨ob, hob⟩ : ∃ ob, (Instr.makeSlice 68 (.int .i64 1) (.int .i64 1)).run Try.prog w = .ok (.slice (some ⟨w.heap.size, 0, none⟩) 1 1) (w.alloc ob) := ⟨_, h⟩
  refine ⟨ob, fun x y ho hx hy => ?_⟩
  unfold execOp
  simp only [ho, hx, hy, Sem.run_bind, hob, Result.andThen_ok, Sem.run_pure]

set_option maxRecDepth 100000 in
set_option maxHeartbeats 1000000 in
theorem devNew_one (w : World) :
    Calls Try.prog 10 #[.int .i64 1] w fun e w' => ∃ d st, e = .returned (.tuple #[.pointer (some ⟨d, 0, none⟩), .int .i64 0]) ∧ w.heap.size ≤ d ∧ DevAt w' d st (.slice none 0 0) false 0 0 (.slice none 0 0) (.slice none 0 0) ∧ Below w.heap.size w w' := by
  go_enter Try.func10, Try.ntmps10
  go_wp2_with (obtain ⟨ob, hob⟩ := exec_make1 (w := w); refine wpList_runW _ _ rfl (hob (.tmp 10) (.tmp 10) rfl rfl rfl) ?_; clear hob)
  go_ret2
  exact ⟨w.heap.size + 1, _, rfl, by omega, Blk.made1 w ob 72 _, nu_alloc (nu_alloc (nu_refl w) _) _⟩
end Go.Proofs.Ytjmghpoknlffiaa

namespace Go.Proofs.Ytjmghpoknlffiaa
open Go.ChangeShapes Go.WideShapes Go.ChangeAt Go.RowKit

set_option maxRecDepth 100000 in
theorem arm_off {w : World} {d : Nat} {st wa : Value} {ar co n : Int} {cp wr : Value} (h : DevAt w d st wa true ar co cp wr) :
    Calls Try.prog 21 #[.pointer (some ⟨d, 0, none⟩), .int .i64 n] w fun e w' => e = .returned (.tuple #[]) ∧ w' = w := by
  obtain ⟨_, _, c2, c3, _⟩ := h.cells
  go_enter Try.func21, Try.ntmps21
  go_wp2_with fail
  refine bodyPost_end (results_none rfl _ _ _) rfl ⟨rfl, rfl⟩

set_option maxRecDepth 100000 in
theorem arm_on {w : World} {d : Nat} {st wa : Value} {ar co n : Int} {cp wr : Value} (h : DevAt w d st wa false ar co cp wr) :
    Calls Try.prog 21 #[.pointer (some ⟨d, 0, none⟩), .int .i64 n] w fun e w' => e = .returned (.tuple #[]) ∧ DevAt w' d st wa false (max n 0) co cp wr ∧ w.grownBy w' (some d) := by
  obtain ⟨_, _, c2, c3, _⟩ := h.cells
  have f3 := h.free 3
  have H := Lib.hid h
  go_enter Try.func21, Try.ntmps21
  have m1 : n < 0 → max n 0 = 0 := fun h => by omega
  have m2 : 0 ≤ n → max n 0 = n := fun h => by omega
  have M1 := Lib.hid m1
  have M2 := Lib.hid m2
  clear m1 m2
  go_wp2_with fail
  · refine bodyPost_end (results_none rfl _ _ _) rfl ⟨rfl, ?_, ?_⟩
    · rw [M1.out (by omega)]
      exact H.out.put 3 _
    · exact gb_set (gb_refl w _) (p := ⟨d, 3, none⟩) (.inl rfl) _
  · refine bodyPost_end (results_none rfl _ _ _) rfl ⟨rfl, ?_, ?_⟩
    · rw [M2.out (by omega)]
      exact H.out.put 3 _
    · exact gb_set (gb_refl w _) (p := ⟨d, 3, none⟩) (.inl rfl) _

set_option maxRecDepth 100000 in
theorem on_up {w : World} {d : Nat} {st wa : Value} {ar co : Int} {cp wr : Value} (h : DevAt w d st wa false ar co cp wr) :
    Calls Try.prog 17 #[.pointer (some ⟨d, 0, none⟩), .slice none 0 0] w fun e w' => e = .returned (.tuple #[]) ∧ w' = w := by
  obtain ⟨_, _, c2, _⟩ := h.cells
  go_enter Try.func17, Try.ntmps17
  go_wp2_with fail
  all_goals first | (refine bodyPost_end (results_none rfl _ _ _) rfl ⟨rfl, rfl⟩) | (refine bodyPost_ret (results_none rfl _ _ _) rfl ⟨rfl, rfl⟩)

set_option maxRecDepth 100000 in
set_option maxHeartbeats 1000000 in
theorem on_down {w : World} {d : Nat} {st : Value} {ar co : Int} {cp wr : Value} (h : DevAt w d st (.slice none 0 0) true ar co cp wr) :
    Calls Try.prog 17 #[.pointer (some ⟨d, 0, none⟩), .slice none 0 0] w fun e w' => e = .returned (.tuple #[]) ∧ DevAt w' d st (.slice none 0 0) false 0 co cp wr ∧ w.grownBy w' (some d) := by
  obtain ⟨_, c1, c2, c3, _⟩ := h.cells
  have f1 := h.free 1
  have f2 := h.free 2
  have f3 := h.free 3
  have H := Lib.hid h
  go_enter Try.func17, Try.ntmps17
  go_wp2_with fail
  go_loopw [21] (fun j wr => j = .int .i64 0 ∧ wr = w) (fun _ _ => 0)
  case atStart => exact ⟨rfl, rfl⟩
  case round =>
    obtain ⟨rfl, rfl⟩ := hrel
    go_wp2_with fail
    refine bodyPost_end (results_none rfl _ _ _) rfl ⟨rfl, ?_, ?_⟩
    · exact ((H.out.put 1 _).put 2 _).put 3 _
    · exact gb_set (gb_set (gb_set (gb_refl _ _) (p := ⟨d, 1, none⟩) (.inl rfl) _) (p := ⟨d, 2, none⟩) (.inl rfl) _) (p := ⟨d, 3, none⟩) (.inl rfl) _
end Go.Proofs.Ytjmghpoknlffiaa

namespace Go.Proofs.Ytjmghpoknlffiaa

/-- What a device holds: the program's and the document's. -/
structure Dv where
  st : List (List Nat)
  wa : List (Nat × List Nat)
  off : Bool
  ar : Int
  co : Int
  cp : List (List (List Nat))
  wr : List (Nat × List Nat)
/-- A block. -/
def Bl (b : List Nat) : Prop := b.length = 256 ∧ ∀ x ∈ b, x < 256
structure Dv.Ok (s : Dv) : Prop where
  n1 : 1 ≤ s.st.length
  n2 : s.st.length ≤ 65536
  st : ∀ b ∈ s.st, Bl b
  wa : ∀ p ∈ s.wa, p.1 < s.st.length ∧ Bl p.2
  ar : 0 ≤ s.ar ∧ s.ar ≤ 9223372036854775807
  cp : s.cp.length ≤ 8
  cb : ∀ c ∈ s.cp, c.length = s.st.length ∧ ∀ b ∈ c, Bl b
  wr : ∀ p ∈ s.wr, p.1 < s.st.length ∧ Bl p.2

theorem ar_zero : (0 : Int) ≤ 0 ∧ (0 : Int) ≤ 9223372036854775807 := by decide
theorem Bl.at {b : List Nat} (h : Bl b) {j : Nat} (hj : j < 256) : ∃ x, b[j]? = some x ∧ x < 256 := by
  have hl : j < b.length := by rw [h.1]; exact hj
  exact ⟨b[j], List.getElem?_eq_getElem hl, h.2 _ (List.getElem_mem hl)⟩
theorem bl_zero : Bl (List.replicate 256 0) := ⟨List.length_replicate .., fun x h => by rw [(List.mem_replicate.1 h).2]; omega⟩

def nowL (wa : List (Nat × List Nat)) (i : Nat) (b : List Nat) : List Nat := wa.foldl (fun b p => if p.1 = i then p.2 else b) b
/-- What a block reads. -/
def Dv.now (s : Dv) (i : Nat) : List Nat := nowL s.wa i (s.st.getD i [])
theorem nowL_bl {wa : List (Nat × List Nat)} {i : Nat} : ∀ {b : List Nat}, Bl b → (∀ p ∈ wa, Bl p.2) → Bl (nowL wa i b) := by
  induction wa with
  | nil => intro b hb _; exact hb
  | cons p r ih =>
    intro b hb h
    refine ih ?_ (fun q hq => h q (List.mem_cons_of_mem _ hq))
    show Bl (if p.1 = i then p.2 else b)
    split
    · exact h p (List.mem_cons_self ..)
    · exact hb
theorem nowL_snoc (wa : List (Nat × List Nat)) (p : Nat × List Nat) (i : Nat) (b : List Nat) : nowL (wa ++ [p]) i b = if p.1 = i then p.2 else nowL wa i b := by
  unfold nowL
  rw [List.foldl_append]
  rfl
/-- Where none of those behind is of that block, those ahead tell. -/
theorem nowL_take {wa : List (Nat × List Nat)} {i : Nat} {b : List Nat} : ∀ (m : Nat), (∀ j p, m ≤ j → wa[j]? = some p → p.1 ≠ i) → nowL wa i b = nowL (wa.take m) i b := by
  intro m
  intro h
  have e : nowL wa i b = nowL (wa.drop m) i (nowL (wa.take m) i b) := by
    unfold nowL
    rw [← List.foldl_append, List.take_append_drop]
  rw [e]
  have h2 : ∀ p ∈ wa.drop m, p.1 ≠ i := fun p hp => by
    obtain ⟨j, hj⟩ := List.getElem?_of_mem hp
    rw [List.getElem?_drop] at hj
    exact h (m + j) p (by omega) hj
  generalize nowL (wa.take m) i b = c
  revert h2
  generalize wa.drop m = l
  intro h2
  induction l generalizing c with
  | nil => rfl
  | cons p r ih =>
    show nowL r i (if p.1 = i then p.2 else c) = c
    rw [if_neg (h2 p (List.mem_cons_self ..))]
    exact ih c (fun q hq => h2 q (List.mem_cons_of_mem _ hq))
theorem getD_bl {st : List (List Nat)} (h : ∀ b ∈ st, Bl b) {i : Nat} (hi : i < st.length) : Bl (st.getD i []) := by
  rw [List.getD_eq_getElem?_getD, List.getElem?_eq_getElem hi]
  exact h _ (List.getElem_mem hi)
theorem Dv.Ok.now {s : Dv} (h : s.Ok) {i : Nat} (hi : i < s.st.length) : Bl (s.now i) := nowL_bl (getD_bl h.st hi) (fun p hp => (h.wa p hp).2)

/-- What stands in the way of a call on a block. -/
def Dv.rdy (s : Dv) (a : Int) : Int := if s.off = true then 7 else if a < 0 ∨ (s.st.length : Int) ≤ a then 1 else 0
/-- An access. -/
def Dv.spent (s : Dv) : Dv := { s with off := spentOff s.ar, ar := spentAr s.ar, co := IntKind.i64.wrap (s.co + 1) }
theorem spentAr_ok {ar : Int} (h : 0 ≤ ar ∧ ar ≤ 9223372036854775807) : 0 ≤ spentAr ar ∧ spentAr ar ≤ 9223372036854775807 := by
  unfold spentAr
  split <;> omega
theorem Dv.Ok.spent {s : Dv} (h : s.Ok) : s.spent.Ok := ⟨h.n1, h.n2, h.st, h.wa, spentAr_ok h.ar, h.cp, h.cb, h.wr⟩
def Dv.crash (s : Dv) : Dv := { s with off := true, ar := 0 }
theorem Dv.Ok.crash {s : Dv} (h : s.Ok) : s.crash.Ok := ⟨h.n1, h.n2, h.st, h.wa, ar_zero, h.cp, h.cb, h.wr⟩
def Dv.arm (s : Dv) (n : Int) : Dv := if s.off = true then s else { s with ar := max n 0 }
theorem Dv.Ok.arm {s : Dv} (h : s.Ok) {n : Int} (hn : n ≤ 9223372036854775807) : (s.arm n).Ok := by
  unfold Dv.arm
  split
  · exact h
  · exact ⟨h.n1, h.n2, h.st, h.wa, by show 0 ≤ max n 0 ∧ max n 0 ≤ _; omega, h.cp, h.cb, h.wr⟩
/-- A write that waits. -/
def Dv.put (s : Dv) (i : Nat) (b : List Nat) : Dv := { s with wa := s.wa ++ [(i, b)], wr := s.wr ++ [(i, b)] }
theorem Dv.Ok.put {s : Dv} (h : s.Ok) {i : Nat} {b : List Nat} (hi : i < s.st.length) (hb : Bl b) : (s.put i b).Ok :=
  ⟨h.n1, h.n2, h.st, fun p hp => by
    rcases List.mem_append.1 hp with hp | hp
    · exact h.wa p hp
    · rw [List.mem_singleton.1 hp]; exact ⟨hi, hb⟩, h.ar, h.cp, h.cb, fun p hp => by
    rcases List.mem_append.1 hp with hp | hp
    · exact h.wr p hp
    · rw [List.mem_singleton.1 hp]; exact ⟨hi, hb⟩⟩
def flushL (st : List (List Nat)) (wa : List (Nat × List Nat)) : List (List Nat) := wa.foldl (fun st p => st.set p.1 p.2) st
theorem flushL_len (wa : List (Nat × List Nat)) : ∀ st : List (List Nat), (flushL st wa).length = st.length := by
  induction wa with
  | nil => intro st; rfl
  | cons p r ih => intro st; exact (ih _).trans (List.length_set ..)
theorem flushL_snoc (st : List (List Nat)) (wa : List (Nat × List Nat)) (p : Nat × List Nat) : flushL st (wa ++ [p]) = (flushL st wa).set p.1 p.2 := by
  unfold flushL
  rw [List.foldl_append]
  rfl
theorem set_bl {st : List (List Nat)} (h : ∀ b ∈ st, Bl b) {i : Nat} {c : List Nat} (hc : Bl c) : ∀ b ∈ st.set i c, Bl b := fun b hb => by
  rcases List.mem_or_eq_of_mem_set hb with hb | hb
  · exact h b hb
  · rw [hb]; exact hc
theorem flushL_bl (wa : List (Nat × List Nat)) : ∀ st : List (List Nat), (∀ b ∈ st, Bl b) → (∀ p ∈ wa, Bl p.2) → ∀ b ∈ flushL st wa, Bl b := by
  induction wa with
  | nil => intro st h _; exact h
  | cons p r ih => intro st h hw; exact ih _ (set_bl h (hw p (List.mem_cons_self ..))) (fun q hq => hw q (List.mem_cons_of_mem _ hq))
/-- A block in the flushed ones is what it read. -/
theorem flushL_at (wa : List (Nat × List Nat)) (i : Nat) : ∀ st : List (List Nat), i < st.length → (flushL st wa).getD i [] = nowL wa i (st.getD i []) := by
  induction wa with
  | nil => intro st _; rfl
  | cons p r ih =>
    intro st hi
    have e := ih (st.set p.1 p.2) (by rw [List.length_set]; exact hi)
    show (flushL (st.set p.1 p.2) r).getD i [] = nowL r i (if p.1 = i then p.2 else st.getD i [])
    rw [e]
    congr 1
    rw [List.getD_eq_getElem?_getD, List.getD_eq_getElem?_getD, List.getElem?_set]
    split
    · next h => subst h; rw [if_pos hi]; rfl
    · rfl
/-- All that waits is stored. -/
def Dv.flush (s : Dv) : Dv := { s with st := flushL s.st s.wa, wa := [] }
theorem Dv.Ok.flush {s : Dv} (h : s.Ok) : s.flush.Ok := by
  have hl : (flushL s.st s.wa).length = s.st.length := flushL_len _ _
  exact ⟨by rw [Dv.flush, hl]; exact h.n1, by rw [Dv.flush, hl]; exact h.n2, flushL_bl _ _ h.st (fun p hp => (h.wa p hp).2), fun p hp => absurd hp (List.not_mem_nil), h.ar, h.cp,
    fun c hc => ⟨by rw [Dv.flush, hl]; exact (h.cb c hc).1, (h.cb c hc).2⟩, fun p hp => ⟨by rw [Dv.flush, hl]; exact (h.wr p hp).1, (h.wr p hp).2⟩⟩
/-- The first k bytes are new. -/
def torn (old fresh : List Nat) (k : Nat) : List Nat := fresh.take k ++ old.drop k
theorem torn_bl {old fresh : List Nat} (h1 : Bl old) (h2 : Bl fresh) (k : Nat) : Bl (torn old fresh k) := by
  refine ⟨by unfold torn; rw [List.length_append, List.length_take, List.length_drop, h1.1, h2.1]; omega, fun x hx => ?_⟩
  rcases List.mem_append.1 hx with hx | hx
  · exact h2.2 x (List.mem_of_mem_take hx)
  · exact h1.2 x (List.mem_of_mem_drop hx)
/-- How much of the i-th write is left. -/
def fate (fates : List Int) (i : Nat) : Nat := if fates = [] then 0 else ((fates.getD (i % fates.length) 0) % 257).toNat
theorem fate_le (fates : List Int) (i : Nat) : fate fates i ≤ 256 := by
  unfold fate
  split <;> omega
def onL (st : List (List Nat)) (wa : List (Nat × List Nat)) (fates : List Int) : Nat → List (List Nat)
  | 0 => st
  | k + 1 => (onL st wa fates k).set (wa.getD k (0, [])).1 (torn ((onL st wa fates k).getD (wa.getD k (0, [])).1 []) (wa.getD k (0, [])).2 (fate fates k))
theorem onL_len (st : List (List Nat)) (wa : List (Nat × List Nat)) (fates : List Int) (k : Nat) : (onL st wa fates k).length = st.length := by
  induction k with
  | zero => rfl
  | succ k ih => rw [onL, List.length_set, ih]
theorem getD_mem {wa : List (Nat × List Nat)} {k : Nat} (hk : k < wa.length) : wa.getD k (0, []) ∈ wa := by
  rw [List.getD_eq_getElem?_getD, List.getElem?_eq_getElem hk]
  exact List.getElem_mem hk
theorem onL_bl {st : List (List Nat)} {wa : List (Nat × List Nat)} (fates : List Int) (h : ∀ b ∈ st, Bl b) (hw : ∀ p ∈ wa, p.1 < st.length ∧ Bl p.2) (k : Nat) (hk : k ≤ wa.length) : ∀ b ∈ onL st wa fates k, Bl b := by
  induction k with
  | zero => exact h
  | succ k ih =>
    have hp := hw _ (getD_mem (wa := wa) (k := k) (by omega))
    exact set_bl (ih (by omega)) (torn_bl (getD_bl (ih (by omega)) (by rw [onL_len]; exact hp.1)) hp.2 _)
/-- The power comes back. -/
def Dv.on (s : Dv) (fates : List Int) : Dv := if s.off = true then { s with st := onL s.st s.wa fates s.wa.length, wa := [], off := false, ar := 0 } else s
theorem Dv.Ok.on {s : Dv} (h : s.Ok) (fates : List Int) : (s.on fates).Ok := by
  unfold Dv.on
  split
  · have hl : (onL s.st s.wa fates s.wa.length).length = s.st.length := onL_len _ _ _ _
    exact ⟨by show 1 ≤ (onL s.st s.wa fates s.wa.length).length; rw [hl]; exact h.n1, by show (onL s.st s.wa fates s.wa.length).length ≤ _; rw [hl]; exact h.n2, onL_bl fates h.st h.wa _ (Nat.le_refl _), fun p hp => absurd hp (List.not_mem_nil), ar_zero, h.cp,
      fun c hc => ⟨(h.cb c hc).1.trans hl.symm, (h.cb c hc).2⟩, fun p hp => ⟨by show p.1 < (onL s.st s.wa fates s.wa.length).length; rw [hl]; exact (h.wr p hp).1, (h.wr p hp).2⟩⟩
  · exact h
/-- A block is stored so, and no write of it waits. -/
def Dv.settle (s : Dv) (i : Nat) (b : List Nat) : Dv := { s with wa := s.wa.filter (fun p => !decide (p.1 = i)), st := s.st.set i b }
theorem Dv.Ok.settle {s : Dv} (h : s.Ok) {i : Nat} {b : List Nat} (hb : Bl b) : (s.settle i b).Ok := by
  have hl : (s.st.set i b).length = s.st.length := List.length_set ..
  exact ⟨by rw [Dv.settle, hl]; exact h.n1, by rw [Dv.settle, hl]; exact h.n2, set_bl h.st hb, fun p hp => by rw [Dv.settle, hl]; exact h.wa p (List.mem_filter.1 hp).1, h.ar, h.cp,
    fun c hc => ⟨by rw [Dv.settle, hl]; exact (h.cb c hc).1, (h.cb c hc).2⟩, fun p hp => ⟨by rw [Dv.settle, hl]; exact (h.wr p hp).1, (h.wr p hp).2⟩⟩
/-- An image. -/
def Dv.image (s : Dv) : List (List Nat) := (List.range s.st.length).map s.now
theorem Dv.image_len (s : Dv) : s.image.length = s.st.length := by rw [Dv.image, List.length_map, List.length_range]
theorem Dv.image_at (s : Dv) {i : Nat} (hi : i < s.st.length) : s.image[i]? = some (s.now i) := by
  rw [Dv.image, List.getElem?_map, List.getElem?_range hi]
  rfl
theorem Dv.Ok.image {s : Dv} (h : s.Ok) : ∀ b ∈ s.image, Bl b := fun b hb => by
  obtain ⟨i, hi, rfl⟩ := List.mem_map.1 hb
  exact h.now (List.mem_range.1 hi)
def Dv.snap (s : Dv) : Dv := { s with cp := s.cp ++ [s.image] }
theorem Dv.Ok.snap {s : Dv} (h : s.Ok) (h8 : s.cp.length < 8) : s.snap.Ok :=
  ⟨h.n1, h.n2, h.st, h.wa, h.ar, by rw [Dv.snap, List.length_append]; exact h8, fun c hc => by
    rcases List.mem_append.1 hc with hc | hc
    · exact h.cb c hc
    · rw [List.mem_singleton.1 hc]; exact ⟨s.image_len, h.image⟩, h.wr⟩
def Dv.back (s : Dv) (n : Nat) : Dv := { s with st := s.cp.getD n [], wa := [] }
theorem Dv.Ok.back {s : Dv} (h : s.Ok) {n : Nat} (hn : n < s.cp.length) : (s.back n).Ok := by
  have hm : s.cp.getD n [] ∈ s.cp := by
    rw [List.getD_eq_getElem?_getD, List.getElem?_eq_getElem hn]
    exact List.getElem_mem hn
  have hl : (s.cp.getD n []).length = s.st.length := (h.cb _ hm).1
  exact ⟨by rw [Dv.back, hl]; exact h.n1, by rw [Dv.back, hl]; exact h.n2, (h.cb _ hm).2, fun p hp => absurd hp (List.not_mem_nil), h.ar, h.cp,
    fun c hc => ⟨by rw [Dv.back, hl]; exact (h.cb c hc).1, (h.cb c hc).2⟩, fun p hp => ⟨by rw [Dv.back, hl]; exact (h.wr p hp).1, (h.wr p hp).2⟩⟩
/-- A block in which bits are turned. -/
def pokeL (b : List Nat) (f : Nat) (by' : List Nat) : Nat → List Nat
  | 0 => b
  | k + 1 => (pokeL b f by' k).set (f + k) ((pokeL b f by' k).getD (f + k) 0 ^^^ by'.getD k 0)
theorem pokeL_bl {b : List Nat} (h : Bl b) (f : Nat) {by' : List Nat} (hy : ∀ x ∈ by', x < 256) (k : Nat) : Bl (pokeL b f by' k) := by
  induction k with
  | zero => exact h
  | succ k ih =>
    refine ⟨by rw [pokeL, List.length_set]; exact ih.1, fun x hx => ?_⟩
    rcases List.mem_or_eq_of_mem_set hx with hx | hx
    · exact ih.2 x hx
    · rw [hx]
      refine Nat.xor_lt_two_pow (n := 8) ?_ ?_
      · rw [List.getD_eq_getElem?_getD]
        rcases hc : (pokeL b f by' k)[f + k]? with _ | y
        · exact (by decide : (0 : Nat) < 2 ^ 8)
        · exact ih.2 y (List.mem_of_getElem? hc)
      · rw [List.getD_eq_getElem?_getD]
        rcases hc : by'[k]? with _ | y
        · exact (by decide : (0 : Nat) < 2 ^ 8)
        · exact hy y (List.mem_of_getElem? hc)
/-- A new device. -/
def Dv.new (n : Nat) : Dv := ⟨List.replicate n (List.replicate 256 0), [], false, 0, 0, [], []⟩
theorem Dv.Ok.new {n : Nat} (h1 : 1 ≤ n) (h2 : n ≤ 65536) : (Dv.new n).Ok :=
  ⟨by rw [Dv.new, List.length_replicate]; exact h1, by rw [Dv.new, List.length_replicate]; exact h2, fun b hb => by rw [(List.mem_replicate.1 hb).2]; exact bl_zero, fun p hp => absurd hp (List.not_mem_nil), ar_zero, Nat.zero_le _, fun c hc => absurd hc (List.not_mem_nil), fun p hp => absurd hp (List.not_mem_nil)⟩
end Go.Proofs.Ytjmghpoknlffiaa

namespace Go.Proofs.Ytjmghpoknlffiaa
open Go.ChangeShapes Go.WideShapes Go.ChangeAt Go.RowKit

set_option maxRecDepth 100000 in
set_option maxHeartbeats 400000 in
theorem clone_some (ad : Addr) (len cap : Nat) (xs : List Nat) (w : World) (hx : BytesIn w (some ad) len cap xs) (hlen : len ≤ 140737488355320) :
    Calls Try.prog 37 #[.slice (some ad) len cap] w fun e w' => ∃ v, e = .returned v ∧ OwnB w' w.heap.size 5 v xs ∧ Below w.heap.size w w' := by
  obtain ⟨i0, hi, hz0, hz1, hz2⟩ := info_parts info_u8
  have hnil := fun W : World => @Lib.run_eql_slice_nil Try.prog W
  have Hown := Lib.hid (World.ownsRow_made (base := w.heap.size) (e := 5) (size := 1) w #[] 0 (Nat.le_refl _) (by unfold maxLen; omega) rfl)
  have Hsrc := Lib.hid ((hx.keep ((Below.refl w.heap.size w).alloc (Nat.le_refl _) (.cells #[] 5))).src ad rfl)
  have Hl := Lib.hid (show (xs.map vb).length = len * 1 by rw [List.length_map, hx.1.1]; omega)
  have Hm := Lib.hid (show 0 + len ≤ maxLen by unfold maxLen; omega)
  have Hb := Lib.hid (show (0 + len) * 1 ≤ 140737488355328 by omega)
  have Hz := Lib.hid (show w.heap.size ≤ (w.alloc (.cells #[] 5)).heap.size by simp)
  go_enter Try.func37, Try.ntmps37
  go_wp2_with (at_builtin; refine wpList_append_own _ rfl (.tmp 5) (.tmp 6) 22 rfl w.heap.size 5 i0 (.int .u8 0) 1 1 Try.underlying22 hi hz0 hz1 hz2 rfl (by decide) _ 0 [] rfl Hown.out ad len cap (xs.map vb) rfl Hl.out Hsrc.out (vb_one xs) Hm.out Hb.out Hz.out ?_)
  intro v' w2 hown2 hg2 _
  have hb2 := ((Below.refl w.heap.size w).alloc (Nat.le_refl _) (.cells #[] 5)).grown hg2 (by simp) (fun k hk => by have hk2 : w.heap.size = k := Option.some.inj hk; omega)
  have Hfin := Lib.hid (show OwnB w2 w.heap.size 5 v' xs from ⟨by rw [hx.1.1]; simpa using hown2, fun x h => wf_u8_lt (hx.1.2.1 x h)⟩)
  clear hown2 hg2
  go_wp2_with fail
  go_ret
  exact ⟨_, rfl, Hfin.out, hb2⟩
theorem clone_nil (w : World) : Calls Try.prog 37 #[.slice none 0 0] w fun e w' => e = .returned (.slice none 0 0) ∧ w = w' := by
  have hnil := fun W : World => @Lib.run_eql_slice_nil Try.prog W
  go_enter Try.func37, Try.ntmps37
  go_wp2_with fail
  go_ret
  exact ⟨rfl, rfl⟩
theorem clone_any (a : Option Addr) (len cap : Nat) (xs : List Nat) (w : World) (hx : BytesIn w a len cap xs) (hlen : len ≤ 140737488355320) :
    Calls Try.prog 37 #[.slice a len cap] w fun e w' => ∃ v, e = .returned v ∧ OwnB w' w.heap.size 5 v xs ∧ Below w.heap.size w w' := by
  cases a with
  | some ad => exact clone_some ad len cap xs w hx hlen
  | none =>
    obtain ⟨rfl, rfl⟩ := hx.2 rfl
    have hnil : xs = [] := List.eq_nil_of_length_eq_zero hx.1.1
    subst hnil
    exact (clone_nil w).mono fun e w' ⟨he, hw⟩ => ⟨_, he, ⟨⟨by simp, .inl ⟨rfl, rfl⟩⟩, by simp⟩, by rw [← hw]; exact Below.refl _ _⟩
end Go.Proofs.Ytjmghpoknlffiaa

namespace Go.Proofs.Ytjmghpoknlffiaa
open Go.ChangeShapes Go.WideShapes Go.ChangeAt Go.RowKit

section
variable {P : Program} (w : World)

theorem run_eqItems_bytes (d : Nat) {e : TypeId} {k : IntKind} (he : P.underlying e = some (.int k)) (hp : P.plainKey e = true) (xs ys : List Nat) : ∀ is : List Nat,
    (∀ i ∈ is, i < xs.length ∧ i < ys.length) → (Op.eqItems (d + 1) e 1 (xs.map vb).toArray (ys.map vb).toArray is).run P w = .ok (decide (∀ i ∈ is, xs[i]? = ys[i]?)) w := by
  intro is
  induction is with
  | nil => intro _; simp [Op.eqItems]
  | cons i is ih =>
    intro h
    obtain ⟨h1, h2⟩ := h i (by simp)
    have e1 : ((xs.map vb).toArray)[i * 1]? = some (vb xs[i]) := by
      rw [List.getElem?_toArray, Nat.mul_one, List.getElem?_map, List.getElem?_eq_getElem h1]
      rfl
    have e2 : ((ys.map vb).toArray)[i * 1]? = some (vb ys[i]) := by
      rw [List.getElem?_toArray, Nat.mul_one, List.getElem?_map, List.getElem?_eq_getElem h2]
      rfl
    have e3 := run_equalIn_int (P := P) (w := w) d e .u8 k (xs[i] : Int) (ys[i] : Int) he
    have ih' := ih (fun j hj => h j (by simp [hj]))
    simp only [Op.eqItems, Sem.run_bind, run_part_plain w hp e1, run_part_plain w hp e2, Result.andThen_ok]
    rw [show vb xs[i] = Value.int .u8 (xs[i] : Int) from rfl, show vb ys[i] = Value.int .u8 (ys[i] : Int) from rfl, e3]
    simp only [Result.andThen_ok]
    by_cases hxy : xs[i] = ys[i]
    · have t1 : ((xs[i] : Int) == (ys[i] : Int)) = true := by rw [hxy]; simp
      have t2 : xs[i]? = ys[i]? := by rw [List.getElem?_eq_getElem h1, List.getElem?_eq_getElem h2, hxy]
      rw [t1]
      simp only [Bool.not_true, Bool.false_eq_true, if_false]
      rw [ih']
      simp [t2]
    · have t1 : ((xs[i] : Int) == (ys[i] : Int)) = false := by rw [beq_eq_false_iff_ne]; omega
      have t2 : ¬ xs[i]? = ys[i]? := by rw [List.getElem?_eq_getElem h1, List.getElem?_eq_getElem h2]; simpa using hxy
      rw [t1]
      simp [t2]
theorem run_equalIn_bytes' {t e : TypeId} {n : Nat} {i : TypeInfo} {k : IntKind} (d : Nat) (hu : P.underlying t = some (.array n e)) (hi : P.info? e = some i) (he : P.underlying e = some (.int k)) (hp : P.plainKey e = true) (hc : P.cellsOf e = 1)
    (xs ys : List Nat) (hx : xs.length = n) (hy : ys.length = n) :
    (Op.equalIn (d + 1 + 1) t (.agg (xs.map vb).toArray) (.agg (ys.map vb).toArray)).run P w = .ok (decide (xs = ys)) w := by
  have h1 := run_equalIn_array (P := P) w (d + 1) (xs.map vb).toArray (ys.map vb).toArray hu hi
  rw [hc, run_eqItems_bytes w d he hp xs ys (List.range n) (fun i hi => by rw [List.mem_range] at hi; omega)] at h1
  have h2 : (∀ i ∈ List.range n, xs[i]? = ys[i]?) ↔ xs = ys := by
    constructor
    · intro h
      refine List.ext_getElem? fun i => ?_
      by_cases hin : i < n
      · exact h i (List.mem_range.2 hin)
      · rw [List.getElem?_eq_none (by omega), List.getElem?_eq_none (by omega)]
    · rintro rfl
      exact fun _ _ => rfl
  have h3 : decide (∀ i ∈ List.range n, xs[i]? = ys[i]?) = decide (xs = ys) := by simp only [h2]
  rw [h3] at h1
  exact h1
theorem run_equalIn_bytes {t e : TypeId} {n : Nat} {i : TypeInfo} {k : IntKind} (hu : P.underlying t = some (.array n e)) (hi : P.info? e = some i) (he : P.underlying e = some (.int k)) (hp : P.plainKey e = true) (hc : P.cellsOf e = 1)
    (xs ys : List Nat) (hx : xs.length = n) (hy : ys.length = n) :
    (Op.equalIn 10000 t (.agg (xs.map vb).toArray) (.agg (ys.map vb).toArray)).run P w = .ok (decide (xs = ys)) w := by
  have h1 := run_equalIn_array (P := P) w 9999 (xs.map vb).toArray (ys.map vb).toArray hu hi
  rw [hc, run_eqItems_bytes w 9998 he hp xs ys (List.range n) (fun i hi => by rw [List.mem_range] at hi; omega)] at h1
  have h2 : (∀ i ∈ List.range n, xs[i]? = ys[i]?) ↔ xs = ys := by
    constructor
    · intro h
      refine List.ext_getElem? fun i => ?_
      by_cases hin : i < n
      · exact h i (List.mem_range.2 hin)
      · rw [List.getElem?_eq_none (by omega), List.getElem?_eq_none (by omega)]
    · rintro rfl
      exact fun _ _ => rfl
  have h3 : decide (∀ i ∈ List.range n, xs[i]? = ys[i]?) = decide (xs = ys) := by simp only [h2]
  rw [h3] at h1
  exact h1
theorem run_eql_bytes {t e : TypeId} {n : Nat} {i : TypeInfo} {k : IntKind} (hu : P.underlying t = some (.array n e)) (hi : P.info? e = some i) (he : P.underlying e = some (.int k)) (hp : P.plainKey e = true) (hc : P.cellsOf e = 1)
    (xs ys : List Nat) (hx : xs.length = n) (hy : ys.length = n) :
    (binOp .eql t (.agg (xs.map vb).toArray) (.agg (ys.map vb).toArray)).run P w = .ok (.bool (decide (xs = ys))) w := by
  have h1 := run_equalIn_bytes w hu hi he hp hc xs ys hx hy
  simp only [binOp]
  simp [Op.equal, Op.maxDepth, h1]
end
end Go.Proofs.Ytjmghpoknlffiaa

namespace Go.Proofs.Ytjmghpoknlffiaa
open Go.ChangeShapes Go.WideShapes Go.ChangeAt Go.RowKit

section
variable {w w' : World} {g : Nat} {t : TypeId} {cs : Array Value}
theorem Blk.there (h : Blk w g t cs) (o n : Nat) (hn : o + n ≤ cs.size) : w.there g o n := fun j hj =>
  ⟨by rw [h.at (o + j) _ (Array.getElem?_eq_getElem (show o + j < cs.size by omega))]; rfl, h.free _⟩
theorem blk_setCells (vs : List Value) : ∀ (o : Nat) (w : World) (cs : Array Value), Blk w g t cs → Blk (w.setCells g o vs) g t (vs.foldl (fun (p : Nat × Array Value) v => (p.1 + 1, p.2.setIfInBounds p.1 v)) (o, cs)).2 := by
  induction vs with
  | nil => intro o w cs h; exact h
  | cons v r ih => intro o w cs h; exact ih (o + 1) _ _ (h.put o v)
theorem fold_set (vs : List Value) : ∀ (o : Nat) (cs : Array Value), o + vs.length ≤ cs.size →
    (vs.foldl (fun (p : Nat × Array Value) v => (p.1 + 1, p.2.setIfInBounds p.1 v)) (o, cs)).2.toList = cs.toList.take o ++ vs ++ cs.toList.drop (o + vs.length) := by
  induction vs with
  | nil => intro o cs _; simp
  | cons v r ih =>
    intro o cs h
    rw [List.length_cons] at h
    rw [List.foldl_cons, ih (o + 1) _ (by simp only [Array.size_setIfInBounds]; omega), Array.toList_setIfInBounds]
    have ho : o < cs.toList.length := by rw [Array.length_toList]; omega
    rw [List.take_add_one, List.take_set_of_le (Nat.le_refl _), List.getElem?_set_self ho, List.drop_set_of_lt (by omega)]
    simp [show o + 1 + r.length = o + (r.length + 1) by omega]
/-- A store of a whole block. -/
theorem Blk.fill (h : Blk w g t cs) (vs : List Value) (hl : vs.length = cs.size) : Blk (w.setCells g 0 vs) g t vs.toArray := by
  have h1 := blk_setCells vs 0 w cs h
  have h2 := fold_set vs 0 cs (by omega)
  rw [Nat.zero_add, List.drop_of_length_le (by rw [Array.length_toList]; omega), List.append_nil, List.take_zero, List.nil_append] at h2
  have h3 : (vs.foldl (fun (p : Nat × Array Value) v => (p.1 + 1, p.2.setIfInBounds p.1 v)) (0, cs)).2 = vs.toArray := by
    have h4 := congrArg List.toArray h2
    rwa [Array.toArray_toList] at h4
  rw [h3] at h1
  exact h1
theorem Blk.farCells (h : Blk w g t cs) (vs : List Value) {k : Nat} (hk : g ≠ k) : ∀ (o : Nat), Blk (w.setCells k o vs) g t cs := by
  induction vs generalizing w with
  | nil => intro o; exact h
  | cons v r ih => intro o; exact ih (h.far (p := ⟨k, o, none⟩) hk v) (o + 1)
theorem gb_fill {a : World} (vs : List Value) : ∀ (o : Nat) (w : World), a.grownBy w (some g) → a.grownBy (w.setCells g o vs) (some g) := by
  induction vs with
  | nil => intro o w h; exact h
  | cons v r ih => intro o w h; exact ih (o + 1) _ (gb_set h (p := ⟨g, o, none⟩) (.inl rfl) v)
theorem nu_fill {a : World} (vs : List Value) (hg : a.heap.size ≤ g) : ∀ (o : Nat) (w : World), Below a.heap.size a w → Below a.heap.size a (w.setCells g o vs) := by
  induction vs with
  | nil => intro o w h; exact h
  | cons v r ih => intro o w h; exact ih (o + 1) _ (nu_set h (p := ⟨g, o, none⟩) hg v)
end

section
variable {P : Program} {ops : Array Oper} {rest : List Oper} {o : Oper} {a : Act} {w : World} {Q : Exit → Act → World → Prop}
/-- A whole array out of its block. -/
theorem wpList_load_blk (hgd : o.guard = none) (ty : TypeId) (x : Operand) (ho : o.op = .load ty x) (g : Nat) (hx : a.eval x = .pointer (some ⟨g, 0, none⟩)) (t : TypeId) (cs : Array Value) (hb : Blk w g t cs)
    {n : Nat} {e : TypeId} (hu : P.underlying ty = some (.array n e)) (hi : (P.info? ty).map (·.size) = some cs.size) (h : wpList P ops Q rest (a.put o.dst (.agg cs)) w) : wpList P ops Q (o :: rest) a w :=
  wpList_load_row hgd ty x ho g hx t cs (0, 0) (.array n e) hb hu rfl hi h
/-- A whole array into its block. -/
theorem wpList_store_blk (hgd : o.guard = none) (ty : TypeId) (x y : Operand) (ho : o.op = .store ty x y) (g : Nat) (vs : List Value) (hx : a.eval x = .pointer (some ⟨g, 0, none⟩)) (hy : a.eval y = .agg vs.toArray)
    (t : TypeId) (cs : Array Value) (hb : Blk w g t cs) (hl : vs.length = cs.size) (hi : (P.info? ty).map (·.size) = some vs.length) (h1 : ∀ v ∈ vs, v.oneCell' = true)
    (h : wpList P ops Q rest (a.put o.dst undef) (w.setCells g 0 vs)) : wpList P ops Q (o :: rest) a w :=
  wpList_store_mid hgd ty x y ho g 0 vs.toArray hx hy (hb.there 0 _ (by simp; omega)) (by simpa using hi) (all_oneCell_toArray h1) (by simpa using h)
/-- A result that lies in a block. -/
theorem results_blk {fn : Func} {p : Tmp} {ty : TypeId} (h : fn.results = #[.cell p ty]) (tmps : Array Value) (g : Nat) (t : TypeId) (cs : Array Value) (hp : tmps.getD p undef = .pointer (some ⟨g, 0, none⟩)) (hb : Blk w g t cs)
    {n : Nat} {e : TypeId} (hu : P.underlying ty = some (.array n e)) (hi : (P.info? ty).map (·.size) = some cs.size) : (results fn tmps).run P w = .ok (.agg cs) w :=
  results_cell_row h tmps w g t cs (0, 0) (.array n e) hp hb hu rfl hi
/-- .. a struct's. -/
theorem results_blkS {fn : Func} {p : Tmp} {ty : TypeId} (h : fn.results = #[.cell p ty]) (tmps : Array Value) (g : Nat) (t : TypeId) (cs : Array Value) (hp : tmps.getD p undef = .pointer (some ⟨g, 0, none⟩)) (hb : Blk w g t cs)
    {fs : Array Field} (hu : P.underlying ty = some (.struct fs)) (hi : (P.info? ty).map (·.size) = some cs.size) : (results fn tmps).run P w = .ok (.agg cs) w :=
  results_cell_row h tmps w g t cs (0, 0) (.struct fs) hp hb hu rfl hi
/-- .. and another result that lies in a slot. -/
theorem results_blkS2 {fn : Func} {p u : Tmp} {ty : TypeId} (h : fn.results = #[.cell p ty, .tmp u]) (tmps : Array Value) (g : Nat) (t : TypeId) (cs : Array Value) (hp : tmps.getD p undef = .pointer (some ⟨g, 0, none⟩)) (hb : Blk w g t cs)
    {fs : Array Field} (hu : P.underlying ty = some (.struct fs)) (hi : (P.info? ty).map (·.size) = some cs.size) : (results fn tmps).run P w = .ok (.tuple #[.agg cs, tmps.getD u undef]) w := by
  rw [results_cell_tmp h, hp]
  simp [asAddr, run_loadVar_row w g t ty cs (0, 0) (.struct fs) hb hu rfl hi]
end
end Go.Proofs.Ytjmghpoknlffiaa

namespace Go.Proofs.Ytjmghpoknlffiaa
open Go.ChangeShapes Go.WideShapes Go.ChangeAt Go.RowKit

section
variable {P : Program} {ops : Array Oper} {rest : List Oper} {o : Oper} {a : Act} {w : World} {Q : Exit → Act → World → Prop}
/-- An operation that yields a value, guard or none. -/
theorem wpList_run (v : Value) (hw : Region.wanted o (yielded ops a.tmps) = true) (hr : (execOp a.eval o).run P w = .ok (.value v) w) (h : wpList P ops Q rest (a.put o.dst v) w) : wpList P ops Q (o :: rest) a w := by
  unfold wpList
  rw [if_pos hw]
  refine .inl ?_
  unfold Oper.wp
  rw [hr]
  exact h
/-- .. and one whose guard is false. -/
theorem wpList_pass (hw : Region.wanted o (yielded ops a.tmps) = false) (h : wpList P ops Q rest (a.put o.dst undef) w) : wpList P ops Q (o :: rest) a w := by
  unfold wpList
  rw [if_neg (by rw [hw]; decide)]
  exact h
theorem exec_load_mid (ty : TypeId) (x : Operand) (b f : Nat) (cs : List Value) (d : TypeDesc) (ho : o.op = .load ty x) (hx : a.eval x = .pointer (some ⟨b, f, none⟩)) (hc : w.rangeAt b f cs)
    (hu : P.underlying ty = some d) (hd : d.isRow = true) (hi : (P.info? ty).map (·.size) = some cs.length) : (execOp a.eval o).run P w = .ok (.value (.agg cs.toArray)) w := by
  unfold execOp
  simp only [ho, hx, Instr.loadAt, Instr.sureAddr, Sem.run_bind, Sem.run_pure, Result.andThen_ok, run_loadVar_mid w b f ty cs d hc hu hd hi]
end

theorem take_l {P : Program} {l : List Oper} {Q : Exit → Act → World → Prop} {md : Region.Mode} {S : World → Prop} {i : Nat} {oi : Oper} {v : Value} {fuel : Nat} {listed : Array Bool} {a : Act} {w : World} (hi : l[i]? = some oi)
    (hs : Region.noSelect l.toArray = true) (hf : Region.free md l.toArray listed i = true) (hr : (Region.ready md l.toArray listed).contains i = true)
    (hQ : ∀ c a w, Q (.panic c) (a.put oi.dst v) w → Q (.panic c) a w) (hy : YieldsIf P l.toArray S oi v a) (hS : S w)
    (h : wpAnyH P md l.toArray Q S fuel (listed.setIfInBounds i true) (a.put oi.dst v) w) : wpAnyH P md l.toArray Q S (fuel + 1) listed a w :=
  wpAnyH_take (by rw [List.getElem?_toArray]; exact hi) hs hf hr hQ hy hS h
theorem cons_l {P : Program} {l : List Oper} {Q : Exit → Act → World → Prop} {md : Region.Mode} {S : World → Prop} {fuel : Nat} {listed : Array Bool} {a : Act} {w : World} {i : Nat} {o : Oper} {rs : List Nat} (ho : l[i]? = some o)
    (h : ∀ K' : Act → World → Prop, Shut (∀ a w, S w → (S w → wpAnyH P md l.toArray Q S fuel (listed.setIfInBounds i true) a w) → K' a w) → if Region.wanted o (yielded l.toArray a.tmps) = true then Oper.wp P o a w K' Q else K' (a.put o.dst undef) w)
    (hs : AllReadyH P md l.toArray Q S fuel listed a w rs) : AllReadyH P md l.toArray Q S fuel listed a w (i :: rs) :=
  AllReadyH.cons (by rw [List.getElem?_toArray]; exact ho) h hs

/-- A row of cells, by its block. -/
theorem range_blk {w : World} {g : Nat} {t : TypeId} {cs : Array Value} (h : Blk w g t cs) : w.rangeAt g 0 cs.toList := fun j v hv => by
  rw [Nat.zero_add]
  exact h.at j v (by simpa using hv)
theorem range_mid {w : World} {g : Nat} {t : TypeId} {cs : Array Value} (h : Blk w g t cs) {l m r : List Value} (e : cs.toList = l ++ (m ++ r)) {k : Nat} (hk : l.length = k) : w.rangeAt g k m := fun j v hv => by
  refine h.at (k + j) v ?_
  subst hk
  rw [← Array.getElem?_toList, e, List.getElem?_append_right (by omega), Nat.add_sub_cancel_left, List.getElem?_append_left (by rw [List.getElem?_eq_some_iff] at hv; exact hv.1)]
  exact hv
theorem range_below {w w' : World} {g o B : Nat} {cs : List Value} (h : w.rangeAt g o cs) (hb : Below B w w') (hg : g < B) : w'.rangeAt g o cs := fun j v hv => by
  have h1 := h j v hv
  rw [hb.cell (by exact hg)]
  exact h1

end Go.Proofs.Ytjmghpoknlffiaa

namespace Go.Proofs.Ytjmghpoknlffiaa
open Go.ChangeShapes Go.WideShapes Go.ChangeAt Go.RowKit

section
variable {o : Oper} {a : Act} {w : World}
theorem exec_eqb (v : Bool) (x y : Operand) (ho : o.op = .binOp .eql 4 x y 4) (hx : a.eval x = .bool v) (hy : a.eval y = .bool v) :
    (execOp a.eval o).run Try.prog w = .ok (.value (.bool true)) w := by
  cases v
  · unfold execOp
    simp only [ho, hx, hy]
    kernel_rfl
  · unfold execOp
    simp only [ho, hx, hy]
    kernel_rfl
end
theorem ownB_under {w w' : World} {base : Nat} {e : TypeId} {v : Value} {xs : List Nat} (h : OwnB w base e v xs) (hb : Below w.heap.size w w') : OwnB w' base e v xs :=
  ⟨h.1.kept (gb_of_below hb none) (by cases v.ownBlock <;> simp), h.2⟩
/-- One byte more, out of a slice that was made for it. -/
theorem wpList_byte_more {ops : Array Oper} {rest : List Oper} {o : Oper} {a : Act} {Q : Exit → Act → World → Prop} (hgd : o.guard = none) (s x : Operand)
    (ho : o.op = .call { callee := .builtin .append, args := #[s, x], argTypes := #[22, 22] }) {w : World} {base : Nat} {v : Value} {xs : List Nat} (hown : OwnB w base 5 v xs) (hb : base ≤ w.heap.size) (hl : xs.length < 140737488355328)
    (y : Int) (n : Nat) (hn : n < 256) (hy : y = (n : Int)) (hs : a.eval s = v) (hx : a.eval x = .slice (some ⟨w.heap.size, 0, none⟩) 1 1)
    (h : ∀ v' w', OwnB w' base 5 v' (xs ++ [n]) → Below base w w' → wpList Try.prog ops Q rest (a.put o.dst v') w') : wpList Try.prog ops Q (o :: rest) a (w.alloc (.cells #[.int .u8 y] 5)) := by
  subst hy
  obtain ⟨i0, hi, hz0, hz1, hz2⟩ := info_parts info_u8
  have hal := nu_alloc (nu_refl w) (.cells #[.int .u8 (n : Int)] 5)
  refine wpList_append_own _ hgd s x 22 ho base 5 i0 (.int .u8 0) 1 1 Try.underlying22 hi hz0 hz1 hz2 rfl (by decide) v xs.length (xs.map vb) hs (ownB_under hown hal).1 ⟨w.heap.size, 0, none⟩ 1 1 [.int .u8 (n : Int)] hx rfl (cell_one_new _ _ _)
    (by intro u hu; obtain rfl := List.mem_singleton.1 hu; rfl) (by unfold maxLen; omega) (by omega) (by simp; omega) ?_
  intro v' w' h1 h2 _
  refine h v' w' ⟨by rw [List.length_append, List.map_append]; exact h1, fun z hz => ?_⟩ ((hal.mono hb).grown h2 (by simp; omega) (fun k hk => (hown.1.lt k hk).1))
  rcases List.mem_append.1 hz with hz | hz
  · exact hown.2 z hz
  · simp at hz
    omega
end Go.Proofs.Ytjmghpoknlffiaa

namespace Go.Proofs.Ytjmghpoknlffiaa
open Go.ChangeShapes Go.WideShapes Go.ChangeAt Go.RowKit

/-! ### Rows of rows -/
section
variable {α : Type} {n : Nat}
theorem flat_len (xss : List (List α)) (h : ∀ x ∈ xss, x.length = n) : xss.flatten.length = xss.length * n := by
  induction xss with
  | nil => simp
  | cons y r ih =>
    rw [List.flatten_cons, List.length_append, ih (fun x hx => h x (List.mem_cons_of_mem _ hx)), h y (List.mem_cons_self ..), List.length_cons, Nat.succ_mul]
    omega
theorem flat_at (xss : List (List α)) (h : ∀ x ∈ xss, x.length = n) : ∀ (i j : Nat) (x : List α), xss[i]? = some x → j < n → xss.flatten[i * n + j]? = x[j]? := by
  induction xss with
  | nil => intro i j x hx; simp at hx
  | cons y r ih =>
    intro i j x hx hj
    have hy := h y (List.mem_cons_self ..)
    rw [List.flatten_cons]
    cases i with
    | zero =>
      rw [List.getElem?_cons_zero] at hx
      injection hx with hx
      subst hx
      rw [Nat.zero_mul, Nat.zero_add, List.getElem?_append_left (by omega)]
    | succ i =>
      rw [List.getElem?_cons_succ] at hx
      rw [Nat.succ_mul, List.getElem?_append_right (by omega), hy, show i * n + n + j - n = i * n + j by omega]
      exact ih (fun x hx => h x (List.mem_cons_of_mem _ hx)) i j x hx hj
theorem flat_set (xss : List (List α)) (h : ∀ x ∈ xss, x.length = n) (i : Nat) (hi : i < xss.length) (y : List α) : (xss.set i y).flatten = xss.flatten.take (i * n) ++ y ++ xss.flatten.drop (i * n + n) := by
  induction xss generalizing i with
  | nil => simp at hi
  | cons z r ih =>
    have hz := h z (List.mem_cons_self ..)
    cases i with
    | zero =>
      rw [List.set_cons_zero, List.flatten_cons, List.flatten_cons, Nat.zero_mul, List.take_zero, List.nil_append, Nat.zero_add, List.drop_left' hz]
    | succ i =>
      rw [List.set_cons_succ, List.flatten_cons, List.flatten_cons, ih (fun x hx => h x (List.mem_cons_of_mem _ hx)) i (by rw [List.length_cons] at hi; omega), Nat.succ_mul]
      obtain ⟨m, hm⟩ : ∃ m, m = i * n := ⟨_, rfl⟩
      rw [← hm, show m + n = z.length + m by omega, List.take_length_add_append, show z.length + m + n = z.length + (m + n) by omega, List.drop_length_add_append]
      simp only [List.append_assoc, hz, Nat.add_comm n m]
end
def flatB (st : List (List Nat)) : List Value := (st.map (List.map vb)).flatten
theorem flatB_each {st : List (List Nat)} (h : ∀ b ∈ st, Bl b) : ∀ x ∈ st.map (List.map vb), x.length = 256 := fun x hx => by
  obtain ⟨b, hb, rfl⟩ := List.mem_map.1 hx
  rw [List.length_map]
  exact (h b hb).1
theorem flatB_len {st : List (List Nat)} (h : ∀ b ∈ st, Bl b) : (flatB st).length = st.length * 256 := by rw [flatB, flat_len _ (flatB_each h), List.length_map]
theorem flatB_at {st : List (List Nat)} (h : ∀ b ∈ st, Bl b) {i j : Nat} {b : List Nat} (hi : st[i]? = some b) (hj : j < 256) : (flatB st)[i * 256 + j]? = (b.map vb)[j]? :=
  flat_at _ (flatB_each h) i j (b.map vb) (by rw [List.getElem?_map, hi]; rfl) hj
theorem flatB_set {st : List (List Nat)} (h : ∀ b ∈ st, Bl b) {i : Nat} (hi : i < st.length) (b : List Nat) : flatB (st.set i b) = (flatB st).take (i * 256) ++ b.map vb ++ (flatB st).drop (i * 256 + 256) := by
  rw [flatB, List.map_set]
  exact flat_set _ (flatB_each h) i (by rw [List.length_map]; exact hi) _
def cellW (p : Nat × List Nat) : List Value := .int .i64 (p.1 : Int) :: p.2.map vb
def flatW (wa : List (Nat × List Nat)) : List Value := (wa.map cellW).flatten
theorem cellW_len {p : Nat × List Nat} (h : Bl p.2) : (cellW p).length = 257 := by rw [cellW, List.length_cons, List.length_map, h.1]
theorem cellW_one (p : Nat × List Nat) : ∀ u ∈ cellW p, u.oneCell' = true := fun u hu => by
  rcases List.mem_cons.1 hu with rfl | hu
  · rfl
  · exact vb_one _ u hu
theorem flatW_each {wa : List (Nat × List Nat)} (h : ∀ p ∈ wa, Bl p.2) : ∀ x ∈ wa.map cellW, x.length = 257 := fun x hx => by
  obtain ⟨p, hp, rfl⟩ := List.mem_map.1 hx
  exact cellW_len (h p hp)
theorem flatW_at {wa : List (Nat × List Nat)} (h : ∀ p ∈ wa, Bl p.2) {i j : Nat} {p : Nat × List Nat} (hi : wa[i]? = some p) (hj : j < 257) : (flatW wa)[i * 257 + j]? = (cellW p)[j]? :=
  flat_at _ (flatW_each h) i j (cellW p) (by rw [List.getElem?_map, hi]; rfl) hj
theorem flatW_snoc (wa : List (Nat × List Nat)) (p : Nat × List Nat) : flatW (wa ++ [p]) = flatW wa ++ cellW p := by
  unfold flatW
  rw [List.map_append, List.flatten_append]
  simp
def flatR (wr : List (Nat × List Nat)) (ws : List Value) : List Value := (List.zipWith (fun (p : Nat × List Nat) v => [Value.int .i64 (p.1 : Int), v]) wr ws).flatten
theorem flatR_each (wr : List (Nat × List Nat)) (ws : List Value) : ∀ x ∈ List.zipWith (fun (p : Nat × List Nat) v => [Value.int .i64 (p.1 : Int), v]) wr ws, x.length = 2 := fun x hx => by
  obtain ⟨i, hi⟩ := List.getElem?_of_mem hx
  rw [List.getElem?_zipWith] at hi
  split at hi
  · injection hi with hi
    rw [← hi]
    rfl
  · cases hi
theorem flatR_at {wr : List (Nat × List Nat)} {ws : List Value} {i j : Nat} {p : Nat × List Nat} {v : Value} (hi : wr[i]? = some p) (hv : ws[i]? = some v) (hj : j < 2) : (flatR wr ws)[i * 2 + j]? = [Value.int .i64 (p.1 : Int), v][j]? :=
  flat_at _ (flatR_each wr ws) i j _ (by rw [List.getElem?_zipWith, hi, hv]) hj
theorem flatR_snoc {wr : List (Nat × List Nat)} {ws : List Value} (hl : ws.length = wr.length) (p : Nat × List Nat) (v : Value) : flatR (wr ++ [p]) (ws ++ [v]) = flatR wr ws ++ [.int .i64 (p.1 : Int), v] := by
  unfold flatR
  rw [List.zipWith_append hl.symm, List.flatten_append]
  simp

/-! ### Rows of bytes of the call's own -/
theorem ownB_slice {w : World} {base : Nat} {e : TypeId} {v : Value} {xs : List Nat} (h : OwnB w base e v xs) (hp : 0 < xs.length) :
    ∃ G pc, v = .slice (some ⟨G, 0, none⟩) xs.length pc ∧ base ≤ G ∧ G < w.heap.size ∧ xs.length ≤ pc := by
  obtain ⟨k, cap, cur, h1, h2, h3, h4, _⟩ := h.form hp
  exact ⟨k, cap, h1, h2, h3.lt, h4⟩
theorem OwnB.cellAt {w : World} {base G l cap : Nat} {e : TypeId} {xs : List Nat} (h : OwnB w base e (.slice (some ⟨G, 0, none⟩) l cap) xs) (hl : xs.length = l) (j x : Nat) (hx : xs[j]? = some x) : w.cell? ⟨G, j, none⟩ = some (.int .u8 (x : Int)) := by
  subst hl
  rw [h.1.cellAt j (by rw [Nat.mul_one]; exact (List.getElem?_eq_some_iff.1 hx).1), List.getElem?_map, hx]
  rfl
theorem OwnB.frozenAt {w : World} {base G l cap : Nat} {e : TypeId} {xs : List Nat} (h : OwnB w base e (.slice (some ⟨G, 0, none⟩) l cap) xs) (hl : xs.length = l) (j : Nat) : w.frozen? ⟨G, j, none⟩ = false := by
  subst hl
  exact h.1.frozenAt j
theorem OwnB.stored {w : World} {base G l cap : Nat} {e : TypeId} {xs : List Nat} (h : OwnB w base e (.slice (some ⟨G, 0, none⟩) l cap) xs) (hl : xs.length = l) (j z : Nat) (hz : z < 256) : OwnB (w.setCell ⟨G, j, none⟩ (vb z)) base e (.slice (some ⟨G, 0, none⟩) l cap) (xs.set j z) := by
  subst hl
  have h1 := (h.1.stored j (vb z)).1
  refine ⟨by rw [List.length_set, List.map_set]; exact h1, fun x hx => ?_⟩
  rcases List.mem_or_eq_of_mem_set hx with hx | hx
  · exact h.2 x hx
  · rw [hx]; exact hz
theorem ownB_bytes {w : World} {base l cap : Nat} {e : TypeId} {a : Option Addr} {xs : List Nat} (h : OwnB w base e (.slice a l cap) xs) (hl : xs.length = l) : BytesIn w a l cap xs := by
  obtain ⟨a', cap', he, _, _, hB⟩ := h.reads
  injection he with e1 e2 e3
  subst e1 e3
  rw [hl] at hB
  exact hB
theorem ownB_cap {w : World} {base l cap : Nat} {e : TypeId} {a : Option Addr} {xs : List Nat} (h : OwnB w base e (.slice a l cap) xs) (hl : xs.length = l) : l ≤ cap ∧ cap ≤ maxLen := by
  obtain ⟨a', cap', he, h1, h2, _⟩ := h.reads
  injection he with e1 e2 e3
  subst e1 e3
  rw [hl] at h1
  exact ⟨h1, h2⟩

/-! ### What keeps a row -/
section
variable {w w' : World}
theorem own_typed {base : Nat} {e : TypeId} {size n : Nat} {v : Value} {xs : List Value} (h : w.ownsRow base e size v n xs) : ∀ k, v.ownBlock = some k → ∃ cur, Blk w k e cur := by
  intro k hk
  rcases h.2 with ⟨rfl, _⟩ | ⟨g, cap, cur, rfl, _, hg, _⟩
  · simp [Value.ownBlock] at hk
  · simp [Value.ownBlock] at hk
    subst hk
    exact ⟨cur, hg⟩
theorem own_eq {base : Nat} {e : TypeId} {size n : Nat} {v : Value} {xs : List Value} (h : w.ownsRow base e size v n xs) (he : ∀ k, v.ownBlock = some k → w'.heap[k]? = w.heap[k]?) : w'.ownsRow base e size v n xs := by
  refine ⟨h.1, ?_⟩
  rcases h.2 with hn | ⟨g, cap, cur, rfl, hb, hgg, rest⟩
  · exact .inl hn
  · exact .inr ⟨g, cap, cur, rfl, hb, (he g rfl).trans hgg, rest⟩
theorem own_zero {base : Nat} {e : TypeId} {size n : Nat} {v : Value} {xs : List Value} (h : w.ownsRow base e size v n xs) : w.ownsRow 0 e size v n xs := by
  refine ⟨h.1, ?_⟩
  rcases h.2 with hn | ⟨g, cap, cur, h1, hb, r⟩
  · exact .inl hn
  · exact .inr ⟨g, cap, cur, h1, Nat.zero_le _, r⟩
variable {row : Option Nat} {t : TypeId} (hr : ∀ k, row = some k → ∃ cs, Blk w k t cs) (hg : w.grownBy w' row)
include hr hg
theorem blk_keep {g : Nat} {t' : TypeId} {cs : Array Value} (h : Blk w g t' cs) (ht : t' ≠ t) : Blk w' g t' cs := h.grown hg (fun e => by
  obtain ⟨cs', h'⟩ := hr g e.symm
  exact absurd rfl (h.apart h' ht))
theorem own_keep {base : Nat} {e : TypeId} {size n : Nat} {v : Value} {xs : List Value} (h : w.ownsRow base e size v n xs) (ht : e ≠ t) : w'.ownsRow base e size v n xs :=
  own_eq h (fun k hk => by
    obtain ⟨cur, hc⟩ := own_typed h k hk
    exact hg.block k hc.lt (fun e => by
      obtain ⟨cs', h'⟩ := hr k e.symm
      exact absurd rfl (hc.apart h' ht)))
theorem ownB_keep {base : Nat} {e : TypeId} {v : Value} {xs : List Nat} (h : OwnB w base e v xs) (ht : e ≠ t) : OwnB w' base e v xs := ⟨own_keep hr hg h.1 ht, h.2⟩
end

/-- A row of the call's own, or what is left of one that was cut to nothing. -/
def RowZ (w : World) (e : TypeId) (size : Nat) (v : Value) (n : Nat) (xs : List Value) : Prop := w.ownsRow 0 e size v n xs ∨ (n = 0 ∧ xs = [] ∧ ∃ g cur, v = .slice (some ⟨g, 0, none⟩) 0 0 ∧ Blk w g e cur)
section
variable {w w' : World} {e : TypeId} {size n : Nat} {v : Value} {xs : List Value}
theorem RowZ.typed (h : RowZ w e size v n xs) : ∀ k, v.ownBlock = some k → ∃ cur, Blk w k e cur := by
  rcases h with h | ⟨_, _, g, cur, rfl, hc⟩
  · exact own_typed h
  · intro k hk
    injection hk with hk
    subst hk
    exact ⟨cur, hc⟩
theorem RowZ.eq (h : RowZ w e size v n xs) (he : ∀ k, v.ownBlock = some k → w'.heap[k]? = w.heap[k]?) : RowZ w' e size v n xs := by
  rcases h with h | ⟨h1, h2, g, cur, rfl, hc⟩
  · exact .inl (own_eq h he)
  · exact .inr ⟨h1, h2, g, cur, rfl, (he g rfl).trans hc⟩
theorem RowZ.lt (h : RowZ w e size v n xs) : ∀ k, v.ownBlock = some k → 0 ≤ k ∧ k < w.heap.size := fun k hk => by
  obtain ⟨cur, hc⟩ := h.typed k hk
  exact ⟨Nat.zero_le _, hc.lt⟩
theorem RowZ.len (h : RowZ w e size v n xs) : ∃ ao c, v = .slice ao n c := by
  rcases h with h | ⟨h1, _, g, _, h2, _⟩
  · rcases h.2 with ⟨h1, h2⟩ | ⟨g, cap, cur, h1, _⟩
    · exact ⟨none, 0, by rw [h1, h2]⟩
    · exact ⟨_, _, h1⟩
  · exact ⟨_, _, by rw [h2, h1]⟩
theorem RowZ.pos (h : RowZ w e size v n xs) (hn : 0 < n) : w.ownsRow 0 e size v n xs := by
  rcases h with h | ⟨h1, _⟩
  · exact h
  · omega
theorem RowZ.nil (w : World) (e : TypeId) (size : Nat) : RowZ w e size (.slice none 0 0) 0 [] := .inl (World.ownsRow_nil w 0 e size)
theorem RowZ.keep {row : Option Nat} {t : TypeId} (hr : ∀ k, row = some k → ∃ cs, Blk w k t cs) (hg : w.grownBy w' row) (h : RowZ w e size v n xs) (ht : e ≠ t) : RowZ w' e size v n xs :=
  h.eq (fun k hk => by
    obtain ⟨cur, hc⟩ := h.typed k hk
    exact hg.block k hc.lt (fun e => by
      obtain ⟨cs', h'⟩ := hr k e.symm
      exact absurd rfl (hc.apart h' ht)))
end
/-! ### A device's memory -/
/-- All but the device's own block. -/
structure Mem (w : World) (sb : Nat) (wa cp wr : Value) (cs : List Nat) (ws : List Value) (s : Dv) : Prop where
  st : Blk w sb 73 (flatB s.st).toArray
  wa : RowZ w 75 257 wa s.wa.length (flatW s.wa)
  cp : w.ownsRow 0 68 1 cp s.cp.length (cs.map fun b => .slice (some ⟨b, 0, none⟩) s.st.length s.st.length)
  cl : cs.length = s.cp.length
  cb : ∀ (i b : Nat) (c : List (List Nat)), cs[i]? = some b → s.cp[i]? = some c → Blk w b 73 (flatB c).toArray
  cn : ∀ b ∈ cs, b ≠ sb
  wr : w.ownsRow 0 64 2 wr s.wr.length (flatR s.wr ws)
  wl : ws.length = s.wr.length
  wb : ∀ (i : Nat) (v : Value) (p : Nat × List Nat), ws[i]? = some v → s.wr[i]? = some p → OwnB w 0 5 v p.2
/-- All that belongs to a device lies in F. -/
structure Foot (F : Nat → Prop) (d sb : Nat) (wa cp wr : Value) (cs : List Nat) (ws : List Value) : Prop where
  d : F d
  sb : F sb
  wa : ∀ k, wa.ownBlock = some k → F k
  cp : ∀ k, cp.ownBlock = some k → F k
  wr : ∀ k, wr.ownBlock = some k → F k
  cs : ∀ b ∈ cs, F b
  ws : ∀ v ∈ ws, ∀ k, v.ownBlock = some k → F k
theorem Foot.mono {F F' : Nat → Prop} {d sb : Nat} {wa cp wr : Value} {cs : List Nat} {ws : List Value} (h : Foot F d sb wa cp wr cs ws) (hF : ∀ k, F k → F' k) : Foot F' d sb wa cp wr cs ws :=
  ⟨hF _ h.d, hF _ h.sb, fun k hk => hF k (h.wa k hk), fun k hk => hF k (h.cp k hk), fun k hk => hF k (h.wr k hk), fun b hb => hF b (h.cs b hb), fun v hv k hk => hF k (h.ws v hv k hk)⟩
/-- Only blocks of F, and new ones, have turned. -/
structure Mods (F : Nat → Prop) (w w' : World) : Prop where
  os : w'.os = w.os
  tape : w'.tape = w.tape
  output : w'.output = w.output
  size : w.heap.size ≤ w'.heap.size
  block : ∀ k, k < w.heap.size → ¬ F k → w'.heap[k]? = w.heap[k]?
section
variable {F : Nat → Prop} {w a b : World}
theorem Mods.refl (F : Nat → Prop) (w : World) : Mods F w w := ⟨rfl, rfl, rfl, Nat.le_refl _, fun _ _ _ => rfl⟩
theorem Mods.trans (h : Mods F w a) {F' : Nat → Prop} (h' : Mods F' a b) (hF : ∀ k, F' k → F k ∨ w.heap.size ≤ k) : Mods F w b :=
  ⟨h'.os.trans h.os, h'.tape.trans h.tape, h'.output.trans h.output, Nat.le_trans h.size h'.size, fun k hk hn => (h'.block k (Nat.lt_of_lt_of_le hk h.size) (fun e => by
    rcases hF k e with e | e
    · exact hn e
    · omega)).trans (h.block k hk hn)⟩
theorem Mods.below (h : Mods F w a) (hb : Below a.heap.size a b) : Mods F w b :=
  ⟨hb.os.trans h.os, hb.tape.trans h.tape, hb.output.trans h.output, Nat.le_trans h.size hb.size, fun k hk hn => (hb.block k (Nat.lt_of_lt_of_le hk h.size)).trans (h.block k hk hn)⟩
theorem Mods.grown (h : Mods F w a) {row : Option Nat} (hg : a.grownBy b row) (hF : ∀ k, row = some k → F k ∨ w.heap.size ≤ k) : Mods F w b :=
  ⟨hg.os.trans h.os, hg.tape.trans h.tape, hg.output.trans h.output, Nat.le_trans h.size hg.size, fun k hk hn => (hg.block k (Nat.lt_of_lt_of_le hk h.size) (fun e => by
    rcases hF k e.symm with e | e
    · exact hn e
    · omega)).trans (h.block k hk hn)⟩
theorem Mods.to_below (h : Mods F w a) {B : Nat} (hB : B ≤ w.heap.size) (hF : ∀ k, F k → B ≤ k) : Below B w a :=
  ⟨h.os, h.tape, h.output, h.size, fun k hk => h.block k (by omega) (fun e => by have := hF k e; omega)⟩
end
/-- F, and what is new. -/
def Grown (F : Nat → Prop) (w w' : World) (k : Nat) : Prop := F k ∨ (w.heap.size ≤ k ∧ k < w'.heap.size)
/-- The device d holds s, and all of it lies in F. -/
def DevRep (w : World) (d : Nat) (s : Dv) (F : Nat → Prop) : Prop := s.Ok ∧ (∀ k, F k → k < w.heap.size) ∧
  ∃ (sb : Nat) (wa cp wr : Value) (cs : List Nat) (ws : List Value), DevAt w d (.slice (some ⟨sb, 0, none⟩) s.st.length s.st.length) wa s.off s.ar s.co cp wr ∧ Mem w sb wa cp wr cs ws s ∧ Foot F d sb wa cp wr cs ws
/-- What a call leaves. -/
def DevNext (F : Nat → Prop) (w w' : World) (d : Nat) (s' : Dv) : Prop := DevRep w' d s' (Grown F w w') ∧ Mods F w w'
section
variable {w w' : World} {d sb : Nat} {wa cp wr : Value} {cs : List Nat} {ws : List Value} {s : Dv}
theorem Mem.agree (M : Mem w sb wa cp wr cs ws s) {F : Nat → Prop} (H : Foot F d sb wa cp wr cs ws) (he : ∀ k, F k → w'.heap[k]? = w.heap[k]?) : Mem w' sb wa cp wr cs ws s :=
  ⟨(he _ H.sb).trans M.st, M.wa.eq (fun k hk => he k (H.wa k hk)), own_eq M.cp (fun k hk => he k (H.cp k hk)), M.cl, fun i b c hb hc => (he b (H.cs b (List.mem_of_getElem? hb))).trans (M.cb i b c hb hc), M.cn,
   own_eq M.wr (fun k hk => he k (H.wr k hk)), M.wl, fun i v p hv hp => ⟨own_eq (M.wb i v p hv hp).1 (fun k hk => he k (H.ws v (List.mem_of_getElem? hv) k hk)), (M.wb i v p hv hp).2⟩⟩
theorem DevRep.agree {F : Nat → Prop} (h : DevRep w d s F) (hsz : w.heap.size ≤ w'.heap.size) (he : ∀ k, F k → w'.heap[k]? = w.heap[k]?) : DevRep w' d s F := by
  obtain ⟨h1, h2, sb, wa, cp, wr, cs, ws, hd, hM, hF⟩ := h
  exact ⟨h1, fun k hk => Nat.lt_of_lt_of_le (h2 k hk) hsz, sb, wa, cp, wr, cs, ws, (he d hF.d).trans hd, hM.agree hF he, hF⟩
theorem DevRep.below {F : Nat → Prop} (h : DevRep w d s F) (hb : Below w.heap.size w w') : DevRep w' d s F := h.agree hb.size (fun k hk => hb.block k (h.2.1 k hk))
theorem DevRep.mods {F G : Nat → Prop} (h : DevRep w d s F) (hm : Mods G w w') (hd : ∀ k, F k → ¬ G k) : DevRep w' d s F := h.agree hm.size (fun k hk => hm.block k (h.2.1 k hk) (hd k hk))
theorem DevRep.mono {F F' : Nat → Prop} (h : DevRep w d s F) (hF : ∀ k, F k → F' k) (hb : ∀ k, F' k → k < w.heap.size) : DevRep w d s F' := by
  obtain ⟨h1, _, sb, wa, cp, wr, cs, ws, hd, hM, hf⟩ := h
  exact ⟨h1, hb, sb, wa, cp, wr, cs, ws, hd, hM, hf.mono hF⟩
theorem DevNext.refl {F : Nat → Prop} (h : DevRep w d s F) : DevNext F w w d s :=
  ⟨h.mono (fun k hk => .inl hk) (fun k hk => by rcases hk with hk | hk; exact h.2.1 k hk; omega), Mods.refl F w⟩
theorem DevNext.of_below {F : Nat → Prop} (h : DevRep w d s F) (hb : Below w.heap.size w w') : DevNext F w w' d s :=
  ⟨(h.below hb).mono (fun k hk => .inl hk) (fun k hk => by
    rcases hk with hk | hk
    · exact Nat.lt_of_lt_of_le (h.2.1 k hk) hb.size
    · omega), (Mods.refl F w).below hb⟩
theorem DevNext.trans {F : Nat → Prop} {a b : World} {s1 s2 : Dv} (h : DevNext F w a d s1) (h' : DevNext (Grown F w a) a b d s2) : DevNext F w b d s2 :=
  ⟨h'.1.mono (fun k hk => by
    rcases hk with (hk | hk) | hk
    · exact .inl hk
    · exact .inr ⟨hk.1, Nat.lt_of_lt_of_le hk.2 h'.2.size⟩
    · exact .inr ⟨Nat.le_trans h.2.size hk.1, hk.2⟩) (fun k hk => by
    rcases hk with hk | hk
    · exact h'.1.2.1 k (.inl (.inl hk))
    · omega), h.2.trans h'.2 (fun k hk => by
    rcases hk with hk | hk
    · exact .inl hk
    · exact .inr hk.1)⟩
theorem DevNext.then_below {F : Nat → Prop} {a b : World} (h : DevNext F w a d s) (hb : Below a.heap.size a b) : DevNext F w b d s := h.trans (DevNext.of_below h.1 hb)
theorem Mem.below (M : Mem w sb wa cp wr cs ws s) (hb : Below w.heap.size w w') : Mem w' sb wa cp wr cs ws s :=
  ⟨M.st.below hb M.st.lt, M.wa.eq (fun k hk => hb.block k (M.wa.lt k hk).2), own_eq M.cp (fun k hk => hb.block k (M.cp.lt k hk).2), M.cl, fun i b c h1 h2 => (M.cb i b c h1 h2).below hb (M.cb i b c h1 h2).lt, M.cn,
   own_eq M.wr (fun k hk => hb.block k (M.wr.lt k hk).2), M.wl, fun i v p h1 h2 => ownB_under (M.wb i v p h1 h2) hb⟩
/-- The device's own block has turned. -/
theorem Mem.dev (M : Mem w sb wa cp wr cs ws s) {c : Array Value} (hd : Blk w d 72 c) (hg : w.grownBy w' (some d)) : Mem w' sb wa cp wr cs ws s := by
  have hr : ∀ k, some d = some k → ∃ c, Blk w k 72 c := fun k e => by injection e with e; subst e; exact ⟨c, hd⟩
  exact ⟨blk_keep hr hg M.st (by decide), RowZ.keep hr hg M.wa (by decide), own_keep hr hg M.cp (by decide), M.cl, fun i b c h1 h2 => blk_keep hr hg (M.cb i b c h1 h2) (by decide), M.cn, own_keep hr hg M.wr (by decide), M.wl,
    fun i v p h1 h2 => ownB_keep hr hg (M.wb i v p h1 h2) (by decide)⟩
/-- .. the stored blocks. -/
theorem Mem.turnSt (M : Mem w sb wa cp wr cs ws s) {st' : List (List Nat)} (hl : st'.length = s.st.length) (h' : Blk w' sb 73 (flatB st').toArray) (hg : w.grownBy w' (some sb)) : Mem w' sb wa cp wr cs ws { s with st := st' } := by
  have hr : ∀ k, some sb = some k → ∃ c, Blk w k 73 c := fun k e => by injection e with e; subst e; exact ⟨_, M.st⟩
  exact ⟨h', RowZ.keep hr hg M.wa (by decide), by rw [hl]; exact own_keep hr hg M.cp (by decide), M.cl, fun i b c h1 h2 => (M.cb i b c h1 h2).grown hg (fun e => M.cn b (List.mem_of_getElem? h1) (by injection e)), M.cn, own_keep hr hg M.wr (by decide), M.wl,
    fun i v p h1 h2 => ownB_keep hr hg (M.wb i v p h1 h2) (by decide)⟩
/-- .. the row of what waits. -/
theorem Mem.turnWa (M : Mem w sb wa cp wr cs ws s) {wa' : Value} {wl : List (Nat × List Nat)} (h' : RowZ w' 75 257 wa' wl.length (flatW wl)) (hg : w.grownBy w' wa.ownBlock) : Mem w' sb wa' cp wr cs ws { s with wa := wl } := by
  have hr := M.wa.typed
  exact ⟨blk_keep hr hg M.st (by decide), h', own_keep hr hg M.cp (by decide), M.cl, fun i b c h1 h2 => blk_keep hr hg (M.cb i b c h1 h2) (by decide), M.cn, own_keep hr hg M.wr (by decide), M.wl,
    fun i v p h1 h2 => ownB_keep hr hg (M.wb i v p h1 h2) (by decide)⟩
theorem Mem.dropWa (M : Mem w sb wa cp wr cs ws s) : Mem w sb (.slice none 0 0) cp wr cs ws { s with wa := [] } :=
  ⟨M.st, RowZ.nil w _ _, M.cp, M.cl, M.cb, M.cn, M.wr, M.wl, M.wb⟩
/-- .. the row of the images. -/
theorem Mem.turnCp (M : Mem w sb wa cp wr cs ws s) {cp' : Value} {g : Nat} {c : List (List Nat)} (h' : w'.ownsRow 0 68 1 cp' (s.cp.length + 1) ((cs.map fun b => .slice (some ⟨b, 0, none⟩) s.st.length s.st.length) ++ [.slice (some ⟨g, 0, none⟩) s.st.length s.st.length]))
    (hb : Blk w g 73 (flatB c).toArray) (hn : g ≠ sb) (hg : w.grownBy w' cp.ownBlock) : Mem w' sb wa cp' wr (cs ++ [g]) ws { s with cp := s.cp ++ [c] } := by
  have hr := own_typed M.cp
  refine ⟨blk_keep hr hg M.st (by decide), RowZ.keep hr hg M.wa (by decide), by rw [List.length_append, List.map_append]; exact h', by rw [List.length_append, List.length_append, M.cl]; rfl, fun i b c' h1 h2 => ?_, fun b hb => ?_, own_keep hr hg M.wr (by decide), M.wl,
    fun i v p h1 h2 => ownB_keep hr hg (M.wb i v p h1 h2) (by decide)⟩
  · by_cases hi : i < cs.length
    · rw [List.getElem?_append_left hi] at h1
      rw [List.getElem?_append_left (by rw [← M.cl]; exact hi)] at h2
      exact blk_keep hr hg (M.cb i b c' h1 h2) (by decide)
    · rw [List.getElem?_append_right (by omega)] at h1
      rw [List.getElem?_append_right (by rw [← M.cl]; omega), ← M.cl] at h2
      obtain ⟨k, hk⟩ : ∃ k, k = i - cs.length := ⟨_, rfl⟩
      rw [← hk] at h1 h2
      cases k with
      | zero =>
        injection h1 with h1
        injection h2 with h2
        subst h1
        subst h2
        exact blk_keep hr hg hb (by decide)
      | succ k => cases h1
  · rcases List.mem_append.1 hb with hb | hb
    · exact M.cn b hb
    · rw [List.mem_singleton.1 hb]; exact hn
/-- .. the row of all writes. -/
theorem Mem.turnWr (M : Mem w sb wa cp wr cs ws s) {wr' v : Value} {i : Nat} {b : List Nat} (h' : w'.ownsRow 0 64 2 wr' (s.wr.length + 1) (flatR s.wr ws ++ [.int .i64 (i : Int), v])) (hv : OwnB w 0 5 v b) (hg : w.grownBy w' wr.ownBlock) :
    Mem w' sb wa cp wr' cs (ws ++ [v]) { s with wr := s.wr ++ [(i, b)] } := by
  have hr := own_typed M.wr
  refine ⟨blk_keep hr hg M.st (by decide), RowZ.keep hr hg M.wa (by decide), own_keep hr hg M.cp (by decide), M.cl, fun i b c h1 h2 => blk_keep hr hg (M.cb i b c h1 h2) (by decide), M.cn,
    by rw [List.length_append, flatR_snoc M.wl]; exact h', by rw [List.length_append, List.length_append, M.wl]; rfl, fun j u p h1 h2 => ?_⟩
  by_cases hi : j < ws.length
  · rw [List.getElem?_append_left hi] at h1
    rw [List.getElem?_append_left (by rw [← M.wl]; exact hi)] at h2
    exact ownB_keep hr hg (M.wb j u p h1 h2) (by decide)
  · rw [List.getElem?_append_right (by omega)] at h1
    rw [List.getElem?_append_right (by rw [← M.wl]; omega), ← M.wl] at h2
    obtain ⟨k, hk⟩ : ∃ k, k = j - ws.length := ⟨_, rfl⟩
    rw [← hk] at h1 h2
    cases k with
    | zero =>
      injection h1 with h1
      injection h2 with h2
      subst h1
      subst h2
      exact ownB_keep hr hg hv (by decide)
    | succ k => cases h1
theorem DevAt.keep {st : Value} {off : Bool} {ar co : Int} {row : Option Nat} {t : TypeId} (h : DevAt w d st wa off ar co cp wr) (hr : ∀ k, row = some k → ∃ cs, Blk w k t cs) (hg : w.grownBy w' row) (ht : 72 ≠ t) : DevAt w' d st wa off ar co cp wr := blk_keep hr hg h ht
end
end Go.Proofs.Ytjmghpoknlffiaa

namespace Go.Proofs.Ytjmghpoknlffiaa
open Go.ChangeShapes Go.WideShapes Go.ChangeAt Go.RowKit

theorem step_append_own {P : Program} {ops : Array Oper} {o : Oper} {a : Act} {w : World} {K : Act → World → Prop} {Q : Exit → Act → World → Prop} {E : Prop} (hgd : o.guard = none) (s x : Operand) (t : TypeId)
    (ho : o.op = .call { callee := .builtin .append, args := #[s, x], argTypes := #[t, t] })
    (base : Nat) (e : TypeId) (i : TypeInfo) (z : Value) (size bytes : Nat) (ht : P.underlying t = some (.slice e)) (hi : P.info? e = some i) (hz : i.zero = some z)
    (hsize : i.size = size) (hby : i.bytes = bytes) (hzs : z.cells.size = size) (hsz : 0 < size)
    (v : Value) (n : Nat) (xs : List Value) (hs : a.eval s = v) (hown : w.ownsRow base e size v n xs)
    (ao : Option Addr) (m c : Nat) (news : List Value) (hx : a.eval x = .slice ao m c) (hnone : ao = none → m = 0 ∧ c = 0) (hl : news.length = m * size)
    (hnews : ∀ ad, ao = some ad → ∀ j u, news[j]? = some u → w.cell? (ad.add j) = some u) (h1 : ∀ u ∈ news, u.oneCell' = true)
    (h63 : n + m ≤ maxLen) (hbytes : (n + m) * bytes ≤ 140737488355328) (hbase : base ≤ w.heap.size)
    (h : ∀ v' w', w'.ownsRow base e size v' (n + m) (xs ++ news) → w.grownBy w' v.ownBlock → (v'.ownBlock = v.ownBlock ∨ v'.ownBlock = some w.heap.size) → K (a.put o.dst v') w') :
    if Region.wanted o (yielded ops a.tmps) = true then Oper.wp P o a w K Q else E := by
  have hw : Region.wanted o (yielded ops a.tmps) = true := by simp [Region.wanted, hgd]
  rw [if_pos hw]
  cases ao with
  | none =>
    obtain ⟨rfl, rfl⟩ := hnone rfl
    have hn : news = [] := List.eq_nil_of_length_eq_zero (by simpa using hl)
    subst hn
    have hrun := run_append_owned_none (P := P) (w := w) base t o.type e i size ht hi v n xs hown
    unfold Oper.wp
    simp [execOp, ho, resolve, invoke, builtin, hs, hx, hrun, Result.andThen]
    exact h v w (by simpa using hown) (World.grownBy.refl w _) (.inl rfl)
  | some ad =>
    obtain ⟨v', w', hr, h2, h3, _, h5⟩ := run_append_own_at (P := P) w base t o.type e i z size bytes ht hi hz hsize hby hzs hsz v n xs hown ad m c news hl (hnews ad rfl) h1 h63 hbytes hbase
    unfold Oper.wp execOp
    simp only [ho, resolve, invoke, builtin, Sem.run_bind, Sem.run_pure, Result.andThen_ok, List.map_toArray, List.map_cons, List.map_nil, hs, hx, hr]
    exact h v' w' h2 h3 h5
end Go.Proofs.Ytjmghpoknlffiaa

namespace Go.Proofs.Ytjmghpoknlffiaa
open Go.ChangeShapes Go.WideShapes Go.ChangeAt Go.RowKit

theorem step_store_blk {P : Program} {ops : Array Oper} {o : Oper} {a : Act} {w : World} {K : Act → World → Prop} {Q : Exit → Act → World → Prop} {G : Prop} (hgd : o.guard = none) (ty : TypeId) (x y : Operand) (ho : o.op = .store ty x y) (g : Nat) (vs : List Value) (hx : a.eval x = .pointer (some ⟨g, 0, none⟩)) (hy : a.eval y = .agg vs.toArray)
    (t : TypeId) (cs : Array Value) (hb : Blk w g t cs) (hl : vs.length = cs.size) (hi : (P.info? ty).map (·.size) = some vs.length) (h1 : ∀ v ∈ vs, v.oneCell' = true)
    (h : K (a.put o.dst undef) (w.setCells g 0 vs)) : if Region.wanted o (yielded ops a.tmps) = true then Oper.wp P o a w K Q else G := by
  have hw : Region.wanted o (yielded ops a.tmps) = true := by simp [Region.wanted, hgd]
  rw [if_pos hw]
  exact wp_store_mid ty x y ho g 0 vs.toArray hx hy (hb.there 0 _ (by simp; omega)) (by simpa using hi) (all_oneCell_toArray h1) (by simpa using h)
end Go.Proofs.Ytjmghpoknlffiaa

namespace Go.Proofs.Ytjmghpoknlffiaa
open Go.ChangeShapes Go.WideShapes Go.ChangeAt Go.RowKit
set_option linter.unusedSimpArgs false

def z256 : Array Value := ((List.replicate 256 0).map vb).toArray
theorem zero_256 (w : World) : (zeroValue 73).run Try.prog w = .ok (.agg z256) w := by kernel_rfl
theorem z256_size : z256.size = 256 := by unfold z256; rw [List.size_toArray, List.length_map, List.length_replicate]
theorem z256_ne : ¬ z256 = #[] := fun e => by have h := congrArg Array.size e; rw [z256_size] at h; cases h
def z257 : Array Value := (Value.int .i64 0 :: (List.replicate 256 0).map vb).toArray
theorem zero_257 (w : World) : (zeroValue 75).run Try.prog w = .ok (.agg z257) w := by kernel_rfl
theorem z257_size : z257.size = 257 := by unfold z257; rw [List.size_toArray, List.length_cons, List.length_map, List.length_replicate]
theorem z257_ne : ¬ z257 = #[] := fun e => by have h := congrArg Array.size e; rw [z257_size] at h; cases h
theorem size_256 {xs : List Nat} (h : xs.length = 256) : (Try.prog.info? 73).map (·.size) = some (xs.map vb).length := by rw [List.length_map, h]; kernel_rfl
theorem e256_load {o : Oper} {a : Act} {w : World} {g : Nat} {t : TypeId} {xs : List Nat} (hb : Blk w g t (xs.map vb).toArray) (h1 : xs.length = 256) (x : Operand) (ho : o.op = .load 73 x) (hx : a.eval x = .pointer (some ⟨g, 0, none⟩)) :
    (execOp a.eval o).run Try.prog w = .ok (.value (.agg (xs.map vb).toArray)) w :=
  exec_load_mid (P := Try.prog) (w := w) 73 x g 0 (xs.map vb) (.array 256 5) ho hx (range_blk hb) (by kernel_rfl) rfl (size_256 h1)
theorem e256_mid {o : Oper} {a : Act} {w : World} {g k : Nat} {xs : List Nat} (hb : w.rangeAt g k (xs.map vb)) (h1 : xs.length = 256) (x : Operand) (ho : o.op = .load 73 x) (hx : a.eval x = .pointer (some ⟨g, k, none⟩)) :
    (execOp a.eval o).run Try.prog w = .ok (.value (.agg (xs.map vb).toArray)) w :=
  exec_load_mid (P := Try.prog) (w := w) 73 x g k (xs.map vb) (.array 256 5) ho hx hb (by kernel_rfl) rfl (size_256 h1)
theorem own_len {w : World} {base : Nat} {e : TypeId} {size n : Nat} {v : Value} {xs : List Value} (h : w.ownsRow base e size v n xs) : ∃ ao c, v = .slice ao n c := by
  rcases h.2 with ⟨h1, h2⟩ | ⟨g, cap, cur, h1, _⟩
  · exact ⟨none, 0, by rw [h1, h2]⟩
  · exact ⟨_, _, h1⟩
theorem mem_core {w : World} {sb : Nat} {wa cp wr : Value} {cs : List Nat} {ws : List Value} {s s' : Dv} (M : Mem w sb wa cp wr cs ws s) (h1 : s'.st = s.st) (h2 : s'.wa = s.wa) (h3 : s'.cp = s.cp) (h4 : s'.wr = s.wr) : Mem w sb wa cp wr cs ws s' := by
  obtain ⟨a1, a2, a3, a4, a5, a6, a7⟩ := s
  obtain ⟨b1, b2, b3, b4, b5, b6, b7⟩ := s'
  simp only at h1 h2 h3 h4
  subst h1 h2 h3 h4
  exact ⟨M.st, M.wa, M.cp, M.cl, M.cb, M.cn, M.wr, M.wl, M.wb⟩
theorem devNext_of {F : Nat → Prop} {w w' : World} {d sb : Nat} {wa cp wr : Value} {cs : List Nat} {ws : List Value} {s' : Dv} (hok : s'.Ok) (hb : ∀ k, F k → k < w.heap.size) (hm : Mods F w w')
    (hd : DevAt w' d (.slice (some ⟨sb, 0, none⟩) s'.st.length s'.st.length) wa s'.off s'.ar s'.co cp wr) (hM : Mem w' sb wa cp wr cs ws s') (hF : Foot (Grown F w w') d sb wa cp wr cs ws) : DevNext F w w' d s' :=
  ⟨⟨hok, fun k hk => by
    rcases hk with hk | hk
    · exact Nat.lt_of_lt_of_le (hb k hk) hm.size
    · exact hk.2, sb, wa, cp, wr, cs, ws, hd, hM, hF⟩, hm⟩
/-- Where only the device's own block has turned. -/
theorem dev_turned {F : Nat → Prop} {w w' : World} {d sb : Nat} {wa cp wr : Value} {cs : List Nat} {ws : List Value} {s s' : Dv} {c : Array Value} (hok : s'.Ok) (hb : ∀ k, F k → k < w.heap.size) (hd : Blk w d 72 c)
    (hM : Mem w sb wa cp wr cs ws s) (hF : Foot F d sb wa cp wr cs ws) (hg : w.grownBy w' (some d)) (hd' : DevAt w' d (.slice (some ⟨sb, 0, none⟩) s'.st.length s'.st.length) wa s'.off s'.ar s'.co cp wr)
    (h1 : s'.st = s.st) (h2 : s'.wa = s.wa) (h3 : s'.cp = s.cp) (h4 : s'.wr = s.wr) : DevNext F w w' d s' :=
  devNext_of hok hb ((Mods.refl F w).grown hg (fun k e => by injection e with e; rw [← e]; exact .inl hF.d)) hd' (mem_core (hM.dev hd hg) h1 h2 h3 h4) (hF.mono (fun k hk => .inl hk))

/-! ### A new one -/
theorem made_zero (n m : Nat) (hm : 0 < m) : madeCells ((List.replicate m 0).map vb).toArray (n * m) = (flatB (List.replicate n (List.replicate m 0))).toArray := by
  have hl : (flatB (List.replicate n (List.replicate m 0))).length = n * m := by
    rw [flatB, flat_len (n := m), List.length_map, List.length_replicate]
    intro x hx
    obtain ⟨b, hb, rfl⟩ := List.mem_map.1 hx
    rw [(List.mem_replicate.1 hb).2, List.length_map, List.length_replicate]
  have hall : ∀ u ∈ flatB (List.replicate n (List.replicate m 0)), u = vb 0 := fun u hu => by
    unfold flatB at hu
    obtain ⟨l, hl, hu⟩ := List.mem_flatten.1 hu
    obtain ⟨b, hb, rfl⟩ := List.mem_map.1 hl
    obtain ⟨x, hx, rfl⟩ := List.mem_map.1 hu
    rw [(List.mem_replicate.1 hb).2] at hx
    rw [(List.mem_replicate.1 hx).2]
  apply Array.ext
  · rw [size_madeCells, List.size_toArray, hl]
  · intro i h1 h2
    rw [size_madeCells] at h1
    rw [List.size_toArray] at h2
    have e2 : (flatB (List.replicate n (List.replicate m 0))).toArray[i]'(by rw [List.size_toArray]; exact h2) = vb 0 := hall _ (by rw [List.getElem_toArray]; exact List.getElem_mem h2)
    have h3 : i % ((List.replicate m 0).map vb).toArray.size < m := by
      rw [List.size_toArray, List.length_map, List.length_replicate]
      exact Nat.mod_lt _ hm
    have e3 : ((List.replicate m 0).map vb).toArray[i % ((List.replicate m 0).map vb).toArray.size]! = vb 0 := by
      rw [getElem!_pos _ _ (by rw [List.size_toArray, List.length_map, List.length_replicate]; exact Nat.mod_lt _ hm)]
      simp
    rw [e2]
    simp only [madeCells, Array.getElem_map, Array.getElem_range]
    exact e3
theorem exec_makeN (n : Nat) (hn : n ≤ 65536) (o : Oper) (a : Act) (w : World) (x y : Operand) (ho : o.op = .makeSlice 68 x y) (hx : a.eval x = .int .i64 (n : Int)) (hy : a.eval y = .int .i64 (n : Int)) :
    (execOp a.eval o).run Try.prog w = .ok (.value (.slice (some ⟨w.heap.size, 0, none⟩) n n)) (w.alloc (.cells (flatB (List.replicate n (List.replicate 256 0))).toArray 73)) := by
  have h := run_make (P := Try.prog) (w := w) 68 73 (Try.prog.info? 73).get! ((Try.prog.info? 73).get!.zero).get! (by kernel_rfl) (by kernel_rfl) (by kernel_rfl) .i64 .i64 (n : Int) (n : Int) (by omega) (by omega)
    (by rw [show (Try.prog.info? 73).get!.bytes = 256 by kernel_rfl]; omega) (by omega)
  rw [show (Try.prog.info? 73).get!.size = 256 by kernel_rfl, Int.toNat_natCast, show ((Try.prog.info? 73).get!.zero).get!.cells = ((List.replicate 256 0).map vb).toArray by kernel_rfl, made_zero n 256 (by omega)] at h
  unfold execOp
  simp only [ho, hx, hy, Sem.run_bind, h, Result.andThen_ok, Sem.run_pure]

set_option maxRecDepth 100000 in
set_option maxHeartbeats 1000000 in
theorem devNew_any (n : Nat) (h1 : 1 ≤ n) (h2 : n ≤ 65536) (w : World) :
    Calls Try.prog 10 #[.int .i64 (n : Int)] w fun e w' => ∃ d, e = .returned (.tuple #[.pointer (some ⟨d, 0, none⟩), .int .i64 0]) ∧ ∃ F, DevRep w' d (Dv.new n) F ∧ (∀ k, F k → w.heap.size ≤ k) ∧ Below w.heap.size w w' := by
  have g1 : ¬ (n : Int) < 1 := by omega
  have g2 : ¬ (65536 : Int) < (n : Int) := by omega
  have HM := Lib.hid (exec_makeN n h2)
  have Hn := Lib.hid (And.intro h1 h2)
  obtain ⟨L, hL⟩ : ∃ L, L = (flatB (List.replicate n (List.replicate 256 0))).toArray := ⟨_, rfl⟩
  have HL := Lib.hid hL
  rw [← hL] at HM
  clear hL h1 h2
  go_enter Try.func10, Try.ntmps10
  go_wp2_with (refine wpList_runW _ _ rfl (HM.out _ _ _ (.tmp 10) (.tmp 10) rfl rfl rfl) ?_)
  go_ret2
  refine ⟨w.heap.size + 1, rfl, fun k => w.heap.size ≤ k ∧ k < ((w.alloc (.cells L 73)).alloc (.cells #[.slice (some ⟨w.heap.size, 0, none⟩) n n, .slice none 0 0, .bool false, .int .i64 0, .int .i64 0, .slice none 0 0, .slice none 0 0] 72)).heap.size,
    ⟨Dv.Ok.new Hn.out.1 Hn.out.2, fun k hk => hk.2, w.heap.size, .slice none 0 0, .slice none 0 0, .slice none 0 0, [], [], ?_, ?_, ?_⟩, fun k hk => hk.1, nu_alloc (nu_alloc (nu_refl w) _) _⟩
  · have h := Blk.made1 w (.cells L 73) 72 #[.slice (some ⟨w.heap.size, 0, none⟩) n n, .slice none 0 0, .bool false, .int .i64 0, .int .i64 0, .slice none 0 0, .slice none 0 0]
    rw [show (Dv.new n).st.length = n from List.length_replicate ..]
    exact h
  · refine ⟨?_, RowZ.nil _ _ _, World.ownsRow_nil _ 0 _ _, rfl, (fun i b c h => by cases h), (fun b h => by cases h), World.ownsRow_nil _ 0 _ _, rfl, (fun i v p h => by cases h)⟩
    have h := (Blk.made w 73 L).alloc (.cells #[.slice (some ⟨w.heap.size, 0, none⟩) n n, .slice none 0 0, .bool false, .int .i64 0, .int .i64 0, .slice none 0 0, .slice none 0 0] 72)
    rw [HL.out] at h
    rw [HL.out]
    exact h
  · have hs : ((w.alloc (.cells L 73)).alloc (.cells #[.slice (some ⟨w.heap.size, 0, none⟩) n n, .slice none 0 0, .bool false, .int .i64 0, .int .i64 0, .slice none 0 0, .slice none 0 0] 72)).heap.size = w.heap.size + 1 + 1 := by simp
    exact ⟨⟨by omega, by omega⟩, ⟨by omega, by omega⟩, (fun k hk => by cases hk), (fun k hk => by cases hk), (fun k hk => by cases hk), (fun b hb => by cases hb), (fun v hv => by cases hv)⟩
set_option maxRecDepth 100000 in
theorem devNew_bad (n : Int) (h : n < 1 ∨ 65536 < n) (w : World) :
    Calls Try.prog 10 #[.int .i64 n] w fun e w' => e = .returned (.tuple #[.pointer none, .int .i64 1]) ∧ w = w' := by
  by_cases h1 : n < 1
  · go_enter Try.func10, Try.ntmps10
    go_wp2_with fail
    go_ret2
    exact ⟨rfl, rfl⟩
  · have h2 : (65536 : Int) < n := by omega
    go_enter Try.func10, Try.ntmps10
    go_wp2_with fail
    go_ret2
    exact ⟨rfl, rfl⟩

/-! ### What is only told -/
section
variable {w : World} {d : Nat} {s : Dv} {F : Nat → Prop}
set_option maxRecDepth 100000 in
theorem blocks_any (H : DevRep w d s F) : Calls Try.prog 27 #[.pointer (some ⟨d, 0, none⟩)] w fun e w' => e = .returned (.int .i64 (s.st.length : Int)) ∧ w = w' := by
  obtain ⟨_, _, sb, wa, cp, wr, cs, ws, hd, _, _⟩ := H
  obtain ⟨c0, _⟩ := hd.cells
  clear hd
  go_enter Try.func27, Try.ntmps27
  go_wp2_with fail
  go_ret
  exact ⟨rfl, rfl⟩
set_option maxRecDepth 100000 in
theorem waits_any (H : DevRep w d s F) : Calls Try.prog 28 #[.pointer (some ⟨d, 0, none⟩)] w fun e w' => e = .returned (.int .i64 (s.wa.length : Int)) ∧ w = w' := by
  obtain ⟨_, _, sb, wa, cp, wr, cs, ws, hd, hM, _⟩ := H
  obtain ⟨_, c1, _⟩ := hd.cells
  obtain ⟨ao, c, rfl⟩ := hM.wa.len
  clear hd hM
  go_enter Try.func28, Try.ntmps28
  go_wp2_with fail
  go_ret
  exact ⟨rfl, rfl⟩
set_option maxRecDepth 100000 in
theorem count_any (H : DevRep w d s F) : Calls Try.prog 23 #[.pointer (some ⟨d, 0, none⟩)] w fun e w' => e = .returned (.int .i64 s.co) ∧ w = w' := by
  obtain ⟨_, _, sb, wa, cp, wr, cs, ws, hd, hM, _⟩ := H
  obtain ⟨_, _, _, _, c4, _⟩ := hd.cells
  clear hd hM
  go_enter Try.func23, Try.ntmps23
  go_wp2_with fail
  go_ret
  exact ⟨rfl, rfl⟩
theorem upD_any (H : DevRep w d s F) : Calls Try.prog 22 #[.pointer (some ⟨d, 0, none⟩)] w fun e w' => e = .returned (.bool (!s.off)) ∧ w = w' := by
  obtain ⟨_, _, sb, wa, cp, wr, cs, ws, hd, hM, _⟩ := H
  exact (up_any hd).mono fun e w' h => ⟨h.1, h.2.symm⟩
set_option maxRecDepth 100000 in
theorem ready_any (H : DevRep w d s F) (a : Int) : Calls Try.prog 36 #[.pointer (some ⟨d, 0, none⟩), .int .i64 a] w fun e w' => e = .returned (.int .i64 (s.rdy a)) ∧ w = w' := by
  obtain ⟨_, _, sb, wa, cp, wr, cs, ws, hd, _, _⟩ := H
  obtain ⟨c0, _, c2, _⟩ := hd.cells
  clear hd
  unfold Dv.rdy
  generalize s.st.length = n at *
  generalize s.off = off at *
  cases off
  · by_cases h1 : a < 0
    · rw [if_neg (by decide), if_pos (.inl h1)]
      go_enter Try.func36, Try.ntmps36
      go_wp2_with fail
      go_ret
      exact ⟨rfl, rfl⟩
    · by_cases h2 : (n : Int) ≤ a
      · rw [if_neg (by decide), if_pos (.inr h2)]
        go_enter Try.func36, Try.ntmps36
        go_wp2_with fail
        go_ret
        exact ⟨rfl, rfl⟩
      · rw [if_neg (by decide), if_neg (by omega)]
        go_enter Try.func36, Try.ntmps36
        go_wp2_with fail
        go_ret
        exact ⟨rfl, rfl⟩
  · rw [if_pos rfl]
    go_enter Try.func36, Try.ntmps36
    go_wp2_with fail
    go_ret
    exact ⟨rfl, rfl⟩
set_option maxRecDepth 100000 in
theorem has_any (H : DevRep w d s F) (a : Int) (v : Bool) (hv : decide (0 ≤ a ∧ a < (s.st.length : Int)) = v) : Calls Try.prog 54 #[.pointer (some ⟨d, 0, none⟩), .int .i64 a] w fun e w' => e = .returned (.bool v) ∧ w = w' := by
  obtain ⟨_, _, sb, wa, cp, wr, cs, ws, hd, _, _⟩ := H
  obtain ⟨c0, _, c2, _⟩ := hd.cells
  clear hd
  rw [← hv]
  generalize s.st.length = n at *
  by_cases h1 : 0 ≤ a
  · by_cases h2 : a < (n : Int)
    · rw [decide_eq_true ⟨h1, h2⟩]
      go_enter Try.func54, Try.ntmps54
      go_wp2_with fail
      go_ret
      exact ⟨rfl, rfl⟩
    · rw [decide_eq_false (fun h => h2 h.2)]
      go_enter Try.func54, Try.ntmps54
      go_wp2_with fail
      go_ret
      exact ⟨rfl, rfl⟩
  · rw [decide_eq_false (fun h => h1 h.1)]
    go_enter Try.func54, Try.ntmps54
    go_wp2_with fail
    go_ret
    exact ⟨rfl, rfl⟩

/-! ### The power -/
theorem spendD (H : DevRep w d s F) (ho : s.off = false) : Calls Try.prog 38 #[.pointer (some ⟨d, 0, none⟩)] w fun e w' => e = .returned (.bool (!spentOff s.ar)) ∧ DevNext F w w' d s.spent := by
  obtain ⟨hok, hb, sb, wa, cp, wr, cs, ws, hd, hM, hF⟩ := H
  rw [ho] at hd
  refine (spend_any hd hok.ar.1 hok.ar.2).mono ?_
  rintro e w' ⟨rfl, hd', hg⟩
  exact ⟨rfl, dev_turned hok.spent hb hd hM hF hg hd' rfl rfl rfl rfl⟩
theorem spendOn (H : DevRep w d s F) (ho : s.off = false) : Calls Try.prog 16 #[.pointer (some ⟨d, 0, none⟩)] w fun e w' => e = .returned (.bool (!spentOff s.ar)) ∧ DevNext F w w' d s.spent := by
  obtain ⟨hok, hb, sb, wa, cp, wr, cs, ws, hd, hM, hF⟩ := H
  rw [ho] at hd
  refine (spend_on hd hok.ar.1 hok.ar.2).mono ?_
  rintro e w' ⟨rfl, hd', hg⟩
  exact ⟨rfl, dev_turned hok.spent hb hd hM hF hg hd' rfl rfl rfl rfl⟩
theorem spendOff (H : DevRep w d s F) (ho : s.off = true) : Calls Try.prog 16 #[.pointer (some ⟨d, 0, none⟩)] w fun e w' => e = .returned (.bool false) ∧ w = w' := by
  obtain ⟨hok, hb, sb, wa, cp, wr, cs, ws, hd, hM, hF⟩ := H
  rw [ho] at hd
  exact (spend_off hd).mono fun e w' h => ⟨h.1, h.2.symm⟩
theorem crashD (H : DevRep w d s F) : Calls Try.prog 14 #[.pointer (some ⟨d, 0, none⟩)] w fun e w' => e = .returned (.tuple #[]) ∧ DevNext F w w' d s.crash := by
  obtain ⟨hok, hb, sb, wa, cp, wr, cs, ws, hd, hM, hF⟩ := H
  refine (crash_any hd).mono ?_
  rintro e w' ⟨rfl, hd', hg⟩
  exact ⟨rfl, dev_turned hok.crash hb hd hM hF hg hd' rfl rfl rfl rfl⟩
theorem armD (H : DevRep w d s F) (n : Int) (hn : n ≤ 9223372036854775807) : Calls Try.prog 21 #[.pointer (some ⟨d, 0, none⟩), .int .i64 n] w fun e w' => e = .returned (.tuple #[]) ∧ DevNext F w w' d (s.arm n) := by
  have H0 := H
  obtain ⟨hok, hb, sb, wa, cp, wr, cs, ws, hd, hM, hF⟩ := H
  have hok' := hok.arm hn
  unfold Dv.arm at hok' ⊢
  by_cases ho : s.off = true
  · rw [if_pos ho]
    rw [ho] at hd
    refine (arm_off hd).mono ?_
    rintro e w' ⟨rfl, rfl⟩
    exact ⟨rfl, DevNext.refl H0⟩
  · rw [if_neg ho] at hok' ⊢
    have ho' : s.off = false := by cases h : s.off with | false => rfl | true => exact absurd h ho
    rw [ho'] at hd
    refine (arm_on hd).mono ?_
    rintro e w' ⟨rfl, hd', hg⟩
    refine ⟨rfl, dev_turned hok' hb hd hM hF hg ?_ rfl rfl rfl rfl⟩
    show DevAt w' d _ wa s.off _ _ cp wr
    rw [ho']
    exact hd'
end
end Go.Proofs.Ytjmghpoknlffiaa
