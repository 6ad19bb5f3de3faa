/-
  Entries that came in, and what they are packed to; no program in sight.
-/
import Derived.Test.YtogcckedelkpbaaRecs
import Derived.Test.YtogcckedelkpbaaPut
namespace Go.Proofs.Ytogcckedelkpbaa
open Go.ChangeShapes Go.WideShapes Go.ChangeAt Go.RowKit

/-- An entry: epoch, boot, number. -/
abbrev Ent := Nat × Nat × Nat
def entOk (e : Ent) : Prop := e.1 < 4294967296 ∧ e.2.1 < 4294967296 ∧ e.2.2 < 18446744073709551616
/-- The slice (a, len) holds the entries es. -/
def EntsIn (w : World) (a : Option Addr) (len : Nat) (es : List Ent) : Prop :=
  es.length = len ∧ (∀ e ∈ es, entOk e) ∧ (0 < len → ∃ b off, a = some ⟨b, off, none⟩ ∧ b < w.heap.size ∧ ∀ (i : Nat) (e : Ent), es[i]? = some e →
    w.cell? ⟨b, off + i * 3, none⟩ = some (.int .u32 (e.1 : Int)) ∧ w.cell? ⟨b, off + i * 3 + 1, none⟩ = some (.int .u32 (e.2.1 : Int)) ∧ w.cell? ⟨b, off + i * 3 + 2, none⟩ = some (.int .u64 (e.2.2 : Int)))
theorem EntsIn.keep {w w' : World} {a : Option Addr} {len : Nat} {es : List Ent} (h : EntsIn w a len es) (hb : Below w.heap.size w w') : EntsIn w' a len es := by
  refine ⟨h.1, h.2.1, fun hp => ?_⟩
  obtain ⟨b, off, rfl, hlt, hc⟩ := h.2.2 hp
  refine ⟨b, off, rfl, Nat.lt_of_lt_of_le hlt hb.size, fun i e he => ?_⟩
  obtain ⟨h1, h2, h3⟩ := hc i e he
  exact ⟨(hb.cell (p := ⟨b, off + i * 3, none⟩) hlt).trans h1, (hb.cell (p := ⟨b, off + i * 3 + 1, none⟩) hlt).trans h2, (hb.cell (p := ⟨b, off + i * 3 + 2, none⟩) hlt).trans h3⟩
theorem ents_of_recs {w : World} {a : Option Addr} {len : Nat} (h : RecsIn w a len [.u32, .u32, .u64]) : ∃ es, EntsIn w a len es := by
  by_cases hp : 0 < len
  · obtain ⟨b, off, rfl, hlt, hc⟩ := h hp
    have hk : ([IntKind.u32, .u32, .u64].length) = 3 := rfl
    have each : ∀ i : Nat, ∃ e : Ent, i < len → entOk e ∧ w.cell? ⟨b, off + i * 3, none⟩ = some (.int .u32 (e.1 : Int)) ∧ w.cell? ⟨b, off + i * 3 + 1, none⟩ = some (.int .u32 (e.2.1 : Int)) ∧ w.cell? ⟨b, off + i * 3 + 2, none⟩ = some (.int .u64 (e.2.2 : Int)) := by
      intro i
      by_cases hi : i < len
      · obtain ⟨n0, c0, w0⟩ := hc i hi 0 .u32 rfl
        obtain ⟨n1, c1, w1⟩ := hc i hi 1 .u32 rfl
        obtain ⟨n2, c2, w2⟩ := hc i hi 2 .u64 rfl
        rw [hk] at c0 c1 c2
        have b0 := bounds_u32 w0
        have b1 := bounds_u32 w1
        have b2 := bounds_u64 w2
        obtain ⟨m0, rfl⟩ := Int.eq_ofNat_of_zero_le b0.1
        obtain ⟨m1, rfl⟩ := Int.eq_ofNat_of_zero_le b1.1
        obtain ⟨m2, rfl⟩ := Int.eq_ofNat_of_zero_le b2.1
        exact ⟨(m0, m1, m2), fun _ => ⟨⟨show m0 < _ by omega, show m1 < _ by omega, show m2 < _ by omega⟩, by simpa using c0, by rw [Nat.add_assoc]; exact c1, by rw [Nat.add_assoc]; exact c2⟩⟩
      · exact ⟨(0, 0, 0), fun h => absurd h hi⟩
    obtain ⟨f, hf⟩ := Classical.axiomOfChoice each
    refine ⟨(List.range len).map f, by simp, ?_, fun _ => ⟨b, off, rfl, hlt, fun i e he => ?_⟩⟩
    · intro e he
      obtain ⟨i, hi, rfl⟩ := List.mem_map.1 he
      exact (hf i (List.mem_range.1 hi)).1
    · rw [List.getElem?_map, Option.map_eq_some_iff] at he
      obtain ⟨j, hj, rfl⟩ := he
      have hil : i < len := by
        have := (List.getElem?_eq_some_iff.1 hj).1
        simpa using this
      rw [List.getElem?_range hil] at hj
      injection hj with hj
      subst hj
      exact (hf i hil).2
  · exact ⟨[], by simp; omega, by simp, fun h => absurd h hp⟩

/-- An entry's bytes. -/
def entL (e : Ent) : List Nat := beL e.1 4 4 ++ beL e.2.1 4 4 ++ beL e.2.2 8 8
theorem entL_length (e : Ent) : (entL e).length = 16 := by simp [entL, beL_length]
theorem entL_lt (e : Ent) : ∀ x ∈ entL e, x < 256 := by
  intro x hx
  simp only [entL, List.mem_append] at hx
  rcases hx with (hx | hx) | hx <;> exact beL_lt _ _ _ x hx
theorem entL_zero : entL (0, 0, 0) = List.replicate 16 0 := by decide +kernel
/-- The first k entries' bytes; those that lack are noughts. -/
def packTo (es : List Ent) (k : Nat) : List Nat := (List.range k).flatMap fun i => entL (es.getD i (0, 0, 0))
theorem packTo_succ (es : List Ent) (k : Nat) : packTo es (k + 1) = packTo es k ++ entL (es.getD k (0, 0, 0)) := by simp [packTo, List.range_succ]
theorem packTo_length (es : List Ent) (k : Nat) : (packTo es k).length = 16 * k := by
  induction k with
  | zero => rfl
  | succ k ih => rw [packTo_succ, List.length_append, ih, entL_length]; omega
theorem packTo_lt (es : List Ent) (k : Nat) : ∀ x ∈ packTo es k, x < 256 := by
  intro x hx
  obtain ⟨i, _, hi⟩ := List.mem_flatMap.1 hx
  exact entL_lt _ x hi
theorem ent_getD {es : List Ent} (h : ∀ e ∈ es, entOk e) (k : Nat) : entOk (es.getD k (0, 0, 0)) := by
  rw [List.getD_eq_getElem?_getD]
  cases hk : es[k]? with
  | none => exact ⟨by decide, by decide, by decide⟩
  | some e => exact h e (List.mem_of_getElem? hk)
end Go.Proofs.Ytogcckedelkpbaa
