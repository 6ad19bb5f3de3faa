/-
  A slice of structs of integers that came in: its cells; no program in sight.
-/
import Derived.Test.YtlekepigndlbhaaDoorTouch
import Derived.Deep.Slices
import Derived.Deep.Fields
import Derived.ChangeSame
namespace Go.Proofs.YtlekepigndlbhaaDoor
open Go.ChangeShapes Go.WideShapes Go.ChangeAt Go.RowKit Go.Deep

/-- The slice (a, len) of structs whose fields are integers of the kinds ks. -/
def RecsIn (w : World) (a : Option Addr) (len : Nat) (ks : List IntKind) : Prop :=
  0 < len → ∃ b off, a = some ⟨b, off, none⟩ ∧ b < w.heap.size ∧ ∀ i, i < len → ∀ (j : Nat) (k : IntKind), ks[j]? = some k → ∃ n : Int, w.cell? ⟨b, off + (i * ks.length + j), none⟩ = some (.int k n) ∧ (Lit.int k n).wf = true
theorem RecsIn.keep {w w' : World} {a : Option Addr} {len : Nat} {ks : List IntKind} (h : RecsIn w a len ks) (hb : Below w.heap.size w w') : RecsIn w' a len ks := by
  intro hp
  obtain ⟨b, off, rfl, hlt, hc⟩ := h hp
  refine ⟨b, off, rfl, Nat.lt_of_lt_of_le hlt hb.size, fun i hi j k hk => ?_⟩
  obtain ⟨n, h1, h2⟩ := hc i hi j k hk
  exact ⟨n, (hb.cell (p := ⟨b, off + (i * ks.length + j), none⟩) hlt).trans h1, h2⟩

section
variable {H : Type} {enc : TypeId × Value → H} {P : Program} {w : World} {base : Nat} {spare : Nat → Bool} {held : Bool}
/-- Whatever one-cell fields a slice's structs have: each field's cell, and its reading. -/
theorem slice_recs {t e : TypeId} {fs : Array Field} {a : Option Addr} {len cap : Nat} {d : DataW H} {p : List MemPlace} (ht : P.underlying t = some (.slice e)) (he : P.underlying e = some (.struct fs))
    (hone : oneCellFields P fs = true) (hC : P.cellsOf e = fs.size) (hsz : 0 < fs.size) (h : DataW.Trod enc P w base spare held t (.slice a len cap) d p) :
    (a = none ∧ len = 0 ∧ cap = 0) ∨ (len ≤ cap ∧ cap ≤ maxLen ∧ (0 < len → ∃ b off, a = some ⟨b, off, none⟩ ∧ b < w.heap.size ∧
      ∀ i, i < len → ∀ (j : Nat) (f : Field), fs[j]? = some f → ∃ (v : Value) (y : DataW H × List MemPlace) (n : Nat), w.cell? ⟨b, off + (i * fs.size + j), none⟩ = some v ∧ DataW.trod enc P w base spare held n f.type [v] = some y)) := by
  obtain ⟨fuel, h⟩ := h
  rcases open_slice ht h with ⟨hcs, _⟩ | ⟨a', len', cap', m, n, D, Pl, hcs, _, hl, hm, hmm, _, hi⟩
  · left
    simp [Value.cells] at hcs
    exact hcs
  · right
    simp [Value.cells] at hcs
    obtain ⟨rfl, rfl, rfl⟩ := hcs
    have hlm : len ≤ m := by rw [hmm]; split <;> omega
    have each : ∀ i, i < len → ∀ (j : Nat) (f : Field), fs[j]? = some f → ∃ (v : Value) (y : DataW H × List MemPlace) (n : Nat), w.cell? (a'.add (i * fs.size + j)) = some v ∧ DataW.trod enc P w base spare held n f.type [v] = some y := by
      intro i hil j f hj
      obtain ⟨cs', hc, ht'⟩ := hi i (by omega)
      rw [hC] at hc
      obtain ⟨xs, n', _, _, hlen, hxl, hf⟩ := DataW.trod_struct he ht'
      obtain ⟨_, hcl, hat⟩ := World.cells?_some hc
      have hjl : j < fs.size := (Array.getElem?_eq_some_iff.1 hj).1
      obtain ⟨ho, hk⟩ := hone_of hone j f hj
      have h1 := hf j f hj
      have hd : (cs'.drop f.offset).take (P.cellsOf f.type) = [cs'[j]'(by omega)] := by
        rw [ho, hk, List.drop_eq_getElem_cons (by omega)]
        rfl
      rw [hd] at h1
      have hx : xs[j]? = some (xs[j]'(by omega)) := List.getElem?_eq_getElem (by omega)
      refine ⟨cs'[j]'(by omega), xs[j]'(by omega), _, ?_, h1.trans hx⟩
      have h2 := hat j hjl
      rw [add_add] at h2
      exact h2.trans (List.getElem?_eq_getElem (by omega))
    refine ⟨hl, hm, fun hp => ?_⟩
    have hf0 : fs[0]? = some (fs[0]'hsz) := Array.getElem?_eq_getElem hsz
    obtain ⟨v0, _, _, hv0, _⟩ := each 0 hp 0 _ hf0
    obtain ⟨b, off, spot⟩ := a'
    have hspot : spot = none := by simpa [Addr.add] using World.cell?_spot hv0
    subst hspot
    refine ⟨b, off, rfl, ?_, fun i hil j f hj => ?_⟩
    · rw [add_plain] at hv0
      exact World.block_lt_of_cell? _ _ hv0
    · have := each i hil j f hj
      rw [add_plain] at this
      exact this
theorem recs_open {t e : TypeId} {fs : Array Field} {a : Option Addr} {len cap : Nat} {d : DataW H} {p : List MemPlace} (ks : List IntKind) (ht : P.underlying t = some (.slice e)) (he : P.underlying e = some (.struct fs))
    (hone : oneCellFields P fs = true) (hC : P.cellsOf e = fs.size) (hsz : 0 < fs.size) (hks : fs.toList.map (fun f => P.underlying f.type) = ks.map (fun k => some (.int k)))
    (h : DataW.Trod enc P w base spare held t (.slice a len cap) d p) : len ≤ cap ∧ cap ≤ maxLen ∧ RecsIn w a len ks := by
  have hl : ks.length = fs.size := by
    have := congrArg List.length hks
    simpa using this.symm
  rcases slice_recs ht he hone hC hsz h with ⟨_, rfl, rfl⟩ | ⟨h1, h2, h3⟩
  · exact ⟨Nat.le_refl _, Nat.zero_le _, fun hp => absurd hp (by omega)⟩
  · refine ⟨h1, h2, fun hp => ?_⟩
    obtain ⟨b, off, rfl, hlt, hc⟩ := h3 hp
    refine ⟨b, off, rfl, hlt, fun i hi j k hk => ?_⟩
    have hjl : j < fs.size := by rw [← hl]; exact (List.getElem?_eq_some_iff.1 hk).1
    have hj : fs[j]? = some (fs[j]'hjl) := Array.getElem?_eq_getElem hjl
    obtain ⟨v, y, n, hcell, hy⟩ := hc i hi j _ hj
    have hu : P.underlying (fs[j]'hjl).type = some (.int k) := by
      have h4 := congrArg (·[j]?) hks
      simp only [List.getElem?_map, hk, Option.map_some] at h4
      rw [Array.getElem?_toList, hj] at h4
      simpa using h4
    obtain ⟨z, hz, _, hw⟩ := DataW.trod_int hu hy
    simp only [List.cons.injEq, and_true] at hz
    subst hz
    rw [hl]
    exact ⟨z, hcell, hw⟩
end
end Go.Proofs.YtlekepigndlbhaaDoor
