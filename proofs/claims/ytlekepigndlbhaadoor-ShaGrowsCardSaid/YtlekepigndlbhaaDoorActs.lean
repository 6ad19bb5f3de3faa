/-
  A script of acts (a number and bytes) that came in, opened; an append that tells where its row lies.
-/
import Derived.Test.YtlekepigndlbhaaDoorRecs
import Derived.Test.YtlekepigndlbhaaDoorBytes
import Derived.Test.YtlekepigndlbhaaDoorTouch
import Derived.Maps.AppendAt
namespace Go.Proofs.YtlekepigndlbhaaDoor
open Go.ChangeShapes Go.WideShapes Go.ChangeAt Go.RowKit Go.Maps Go.Deep

/-- Act i lies in two cells: a number, and a slice of bytes. -/
def ActsIn (w : World) (a : Option Addr) (len : Nat) (acts : List (Int × List Nat)) : Prop :=
  acts.length = len ∧ (0 < len → ∃ b off, a = some ⟨b, off, none⟩ ∧ b < w.heap.size ∧ ∀ (i : Nat) (k : Int) (xs : List Nat), acts[i]? = some (k, xs) →
    w.cell? ⟨b, off + i * 2, none⟩ = some (.int .i64 k) ∧ ∃ ai li ci, w.cell? ⟨b, off + i * 2 + 1, none⟩ = some (.slice ai li ci) ∧ li ≤ ci ∧ ci ≤ maxLen ∧ BytesIn w ai li ci xs)
theorem acts_open {H : Type} {enc : TypeId × Value → H} {P : Program} {w : World} {base : Nat} {spare : Nat → Bool} {held : Bool} {t e k8 : TypeId} {fs : Array Field} {a : Option Addr} {len cap : Nat} {d : DataW H} {p : List MemPlace} (f0 f1 : Field)
    (ht : P.underlying t = some (.slice e)) (he : P.underlying e = some (.struct fs)) (hone : oneCellFields P fs = true) (hC : P.cellsOf e = fs.size) (hfs : fs.size = 2)
    (hf0 : fs[0]? = some f0) (hf1 : fs[1]? = some f1) (h0 : P.underlying f0.type = some (.int .i64)) (h1 : P.underlying f1.type = some (.slice k8)) (h8 : P.underlying k8 = some (.int .u8)) (c8 : P.cellsOf k8 = 1)
    (hsp : ∀ x, spare x = true) (h : DataW.Trod enc P w base spare held t (.slice a len cap) d p) : len ≤ cap ∧ cap ≤ maxLen ∧ ∃ acts, ActsIn w a len acts := by
  rcases slice_recs ht he hone hC (by omega) h with ⟨_, rfl, rfl⟩ | ⟨hl, hm, hc⟩
  · exact ⟨Nat.le_refl _, Nat.zero_le _, [], rfl, fun hp => absurd hp (by omega)⟩
  · refine ⟨hl, hm, ?_⟩
    by_cases hp : 0 < len
    · obtain ⟨b, off, rfl, hlt, hcell⟩ := hc hp
      rw [hfs] at hcell
      have each : ∀ i : Nat, ∃ x : Int × List Nat, i < len → w.cell? ⟨b, off + i * 2, none⟩ = some (.int .i64 x.1) ∧ ∃ ai li ci, w.cell? ⟨b, off + i * 2 + 1, none⟩ = some (.slice ai li ci) ∧ li ≤ ci ∧ ci ≤ maxLen ∧ BytesIn w ai li ci x.2 := by
        intro i
        by_cases hi : i < len
        · obtain ⟨v0, y0, n0, hv0, hy0⟩ := hcell i hi 0 f0 hf0
          obtain ⟨v1, y1, n1, hv1, hy1⟩ := hcell i hi 1 f1 hf1
          obtain ⟨z, hz, _, _⟩ := DataW.trod_int h0 hy0
          simp only [List.cons.injEq, and_true] at hz
          subst hz
          have hrow : ∃ ai li ci, v1 = .slice ai li ci ∧ li ≤ ci ∧ ci ≤ maxLen ∧ ∃ zs, RowSaid .u8 w ai li ci zs := by
            rcases open_ints h1 h8 c8 hy1 with ⟨hcs, _⟩ | ⟨x, l, c, zs, hcs, _, hl', hm', hz, hx, hcl, hwz⟩
            · simp only [List.cons.injEq, and_true] at hcs
              exact ⟨none, 0, 0, hcs, by omega, by unfold maxLen; omega, [], .inl ⟨rfl, rfl, rfl, rfl⟩⟩
            · simp only [List.cons.injEq, and_true] at hcs
              exact ⟨some x, l, c, hcs, hl', hm', zs, .inr ⟨x, rfl, hl', hm', by simpa [hsp] using hz, hcl, hwz⟩⟩
          obtain ⟨ai, li, ci, rfl, h2, h3, zs, hr⟩ := hrow
          obtain ⟨_, xs, hx⟩ := bytesIn_of_row hr
          exact ⟨(z, xs), fun _ => ⟨by simpa using hv0, ai, li, ci, by simpa [Nat.add_assoc] using hv1, h2, h3, hx⟩⟩
        · exact ⟨(0, []), fun h => absurd h hi⟩
      obtain ⟨X, hX⟩ := Classical.axiomOfChoice each
      refine ⟨(List.range len).map X, by simp, fun _ => ⟨b, off, rfl, hlt, fun i k xs hi => ?_⟩⟩
      rw [List.getElem?_map, Option.map_eq_some_iff] at hi
      obtain ⟨j, hj, hji⟩ := hi
      have hil : i < len := by
        have := (List.getElem?_eq_some_iff.1 hj).1
        simpa using this
      rw [List.getElem?_range hil] at hj
      injection hj with hj
      subst hj
      have h5 := hX i hil
      rw [hji] at h5
      exact h5
    · obtain rfl : len = 0 := by omega
      exact ⟨[], rfl, fun h => absurd h (by omega)⟩

theorem wpList_append_lies {ops : Array Oper} {rest : List Oper} {o : Oper} {a : Act} {Q : Exit → Act → World → Prop} (hgd : o.guard = none) (s x : Operand)
    (ho : o.op = .call { callee := .builtin .append, args := #[s, x], argTypes := #[22, 22] }) {w : World} {base : Nat} {v : Value} {xs ys : List Nat} (hown : OwnB w base 5 v xs) (hb : base ≤ w.heap.size)
    {ao : Option Addr} {m c : Nat} (hy : BytesIn w ao m c ys) (hl : xs.length + m ≤ 140737488355320) (hs : a.eval s = v) (hx : a.eval x = .slice ao m c)
    (h : ∀ v' w', OwnB w' base 5 v' (xs ++ ys) → w.grownBy w' v.ownBlock → (v'.ownBlock = v.ownBlock ∨ v'.ownBlock = some w.heap.size) → wpList Tryd.prog ops Q rest (a.put o.dst v') w') : wpList Tryd.prog ops Q (o :: rest) a w := by
  obtain ⟨i0, hi, hz0, hz1, hz2⟩ := info_parts info_u8
  have hlt : ∀ z ∈ xs ++ ys, z < 256 := fun z hz => by
    rcases List.mem_append.1 hz with hz | hz
    · exact hown.2 z hz
    · exact wf_u8_lt (hy.1.2.1 z hz)
  cases ao with
  | none =>
    obtain ⟨rfl, rfl⟩ := hy.2 rfl
    have hn : ys = [] := List.eq_nil_of_length_eq_zero hy.1.1
    subst hn
    exact wpList_append_own_none hgd s x 22 ho base 5 i0 1 Tryd.underlying22 hi v xs.length (xs.map vb) hs hown.1 hx (h v w (by simpa using hown) (World.grownBy.refl w _) (.inl rfl))
  | some ad =>
    refine wpList_append_own_at w hgd s x 22 ho base 5 i0 (.int .u8 0) 1 1 Tryd.underlying22 hi hz0 hz1 hz2 rfl (by decide) v xs.length (xs.map vb) hs hown.1 ad m c (ys.map vb) hx (by rw [List.length_map, hy.1.1, Nat.mul_one]) (hy.src ad rfl) (vb_one _) (by unfold maxLen; omega) (by omega) hb ?_
    intro v' w' h2 h3 _ h4
    refine h v' w' ⟨?_, hlt⟩ h3 h4
    rw [List.length_append, hy.1.1, List.map_append]
    exact h2
end Go.Proofs.YtlekepigndlbhaaDoor
