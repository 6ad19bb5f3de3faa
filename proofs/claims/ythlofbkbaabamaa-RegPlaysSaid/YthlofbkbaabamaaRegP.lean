/-
  A script of acts that comes in.
-/
import Derived.Test.YthlofbkbaabamaaRegO
import Derived.Test.YthlofbkbaabamaaRegL
import Derived.Test.YthlofbkbaabamaaRecs
namespace Go.Proofs.Ythlofbkbaabamaa
open Go.ChangeShapes Go.WideShapes Go.ChangeAt Go.RowKit Go.Deep

/-- The slice (a, len) of acts: each with its kind, its number and a state. -/
def ActsIn (w : World) (a : Option Addr) (len : Nat) : Prop :=
  0 < len → ∃ b off, a = some ⟨b, off, none⟩ ∧ b < w.heap.size ∧ ∀ i, i < len → ∃ (k n : Int) (s : St), StOk s ∧ (Lit.int .i64 k).wf = true ∧ (Lit.int .i64 n).wf = true ∧ w.rangeAt b (off + i * 74) (.int .i64 k :: .int .i64 n :: stL s)
theorem ActsIn.keep {w w' : World} {a : Option Addr} {len : Nat} (h : ActsIn w a len) (hb : Below w.heap.size w w') : ActsIn w' a len := by
  intro hp
  obtain ⟨b, off, rfl, hlt, hc⟩ := h hp
  refine ⟨b, off, rfl, Nat.lt_of_lt_of_le hlt hb.size, fun i hi => ?_⟩
  obtain ⟨k, n, s, h1, h2, h3, h4⟩ := hc i hi
  exact ⟨k, n, s, h1, h2, h3, range_below h4 hb hlt⟩

theorem und_act : Try.prog.underlying 42 = some (.struct (Try.prog.fieldsOf 42)) := by kernel_rfl
section
variable {H : Type} {enc : TypeId × Value → H} {W : World} {b0 : Nat} {sp : Nat → Bool} {held : Bool}
set_option maxRecDepth 100000 in
set_option maxHeartbeats 1000000 in
theorem act_trod {fuel : Nat} {cs : List Value} {x : DataW H × List MemPlace} (hf0 : DataW.trod enc Try.prog W b0 sp held fuel 42 cs = some x) :
    ∃ (k n : Int) (s : St), StOk s ∧ (Lit.int .i64 k).wf = true ∧ (Lit.int .i64 n).wf = true ∧ cs = .int .i64 k :: .int .i64 n :: stL s := by
  obtain ⟨xs, m, _, _, hl0, hxl, hf⟩ := DataW.trod_struct und_act hf0
  rw [show (Try.prog.fieldsOf 42).size = 3 by kernel_rfl] at hxl
  have g0 := hf 0 (Try.prog.fieldsOf 42)[0]! (by kernel_rfl)
  have g1 := hf 1 (Try.prog.fieldsOf 42)[1]! (by kernel_rfl)
  have g2 := hf 2 (Try.prog.fieldsOf 42)[2]! (by kernel_rfl)
  rw [show (Try.prog.fieldsOf 42)[0]!.type = 3 by kernel_rfl, show (Try.prog.fieldsOf 42)[0]!.offset = 0 by kernel_rfl, show Try.prog.cellsOf 3 = 1 by kernel_rfl, List.getElem?_eq_getElem (show 0 < xs.length by omega)] at g0
  rw [show (Try.prog.fieldsOf 42)[1]!.type = 3 by kernel_rfl, show (Try.prog.fieldsOf 42)[1]!.offset = 1 by kernel_rfl, show Try.prog.cellsOf 3 = 1 by kernel_rfl, List.getElem?_eq_getElem (show 1 < xs.length by omega)] at g1
  rw [show (Try.prog.fieldsOf 42)[2]!.type = 26 by kernel_rfl, show (Try.prog.fieldsOf 42)[2]!.offset = 2 by kernel_rfl, show Try.prog.cellsOf 26 = 72 by kernel_rfl, List.getElem?_eq_getElem (show 2 < xs.length by omega)] at g2
  obtain ⟨k, e0, _, w0⟩ := DataW.trod_int (k := .i64) (by kernel_rfl) g0
  obtain ⟨n, e1, _, w1⟩ := DataW.trod_int (k := .i64) (by kernel_rfl) g1
  obtain ⟨s, hs, e2⟩ := st_trod g2
  refine ⟨k, n, s, hs, w0, w1, ?_⟩
  have hl : cs.length = 74 := by rw [hl0]; kernel_rfl
  have sp : ∀ (k j : Nat), cs.drop k = (cs.drop k).take j ++ cs.drop (k + j) := fun k j => by rw [← List.drop_drop, List.take_append_drop]
  have z : cs = cs.drop 0 := rfl
  rw [z, sp 0 1, e0, sp 1 1, e1, sp 2 72, e2, List.drop_of_length_le (by omega)]
  simp
set_option maxRecDepth 100000 in
theorem acts_open {a : Option Addr} {len cap : Nat} {d : DataW H} {p : List MemPlace} (h : DataW.Trod enc Try.prog W b0 sp held 37 (.slice a len cap) d p) : len ≤ cap ∧ cap ≤ maxLen ∧ ActsIn W a len := by
  obtain ⟨fuel, h⟩ := h
  rcases open_slice (e := 42) (by kernel_rfl) h with ⟨hcs, _⟩ | ⟨a', len', cap', m, n, D, Pl, hcs, _, hl, hm, hmm, _, hi⟩
  · simp [Value.cells] at hcs
    obtain ⟨rfl, rfl, rfl⟩ := hcs
    exact ⟨Nat.le_refl _, Nat.zero_le _, fun hp => absurd hp (by omega)⟩
  · simp [Value.cells] at hcs
    obtain ⟨rfl, rfl, rfl⟩ := hcs
    have hlm : len ≤ m := by rw [hmm]; split <;> omega
    refine ⟨hl, hm, fun hp => ?_⟩
    rw [show Try.prog.cellsOf 42 = 74 by kernel_rfl] at hi
    have each : ∀ i, i < len → ∃ (k n : Int) (s : St), StOk s ∧ (Lit.int .i64 k).wf = true ∧ (Lit.int .i64 n).wf = true ∧ ∀ j v, (Value.int .i64 k :: Value.int .i64 n :: stL s)[j]? = some v → W.cell? (a'.add (i * 74 + j)) = some v := fun i hil => by
      obtain ⟨cs', hc, ht'⟩ := hi i (by omega)
      obtain ⟨k, n, s, h1, h2, h3, rfl⟩ := act_trod ht'
      obtain ⟨_, hcl, hat⟩ := World.cells?_some hc
      refine ⟨k, n, s, h1, h2, h3, fun j v hv => ?_⟩
      have hj : j < 74 := by rw [← hcl]; exact (List.getElem?_eq_some_iff.1 hv).1
      have h4 := hat j hj
      rw [add_add] at h4
      exact h4.trans hv
    obtain ⟨k0, n0, s0, _, _, _, hv0⟩ := each 0 hp
    have hv := hv0 0 _ rfl
    obtain ⟨b, off, spot⟩ := a'
    have hspot : spot = none := by simpa [Addr.add] using World.cell?_spot hv
    subst hspot
    refine ⟨b, off, rfl, ?_, fun i hil => ?_⟩
    · rw [add_plain] at hv
      exact World.block_lt_of_cell? _ _ hv
    · obtain ⟨k, n, s, h1, h2, h3, h4⟩ := each i hil
      refine ⟨k, n, s, h1, h2, h3, fun j v hv => ?_⟩
      have := h4 j v hv
      rw [add_plain] at this
      rw [Nat.add_assoc]
      exact this
end
end Go.Proofs.Ythlofbkbaabamaa
