/-
  A state that comes in as an argument.
-/
import Derived.Test.YthlofbkbaabamaaReg
import Derived.Test.YthlofbkbaabamaaBytes
import Derived.WalkKit
import Derived.OpenShut
namespace Go.Proofs.Ythlofbkbaabamaa
open Go.ChangeShapes Go.WideShapes Go.ChangeAt Go.RowKit

theorem und_st0 : Try.prog.underlying 26 = some (.struct (Try.prog.fieldsOf 26)) := by kernel_rfl
theorem bytes_list : ∀ (cs : List Value), (∀ i, i < cs.length → ∃ z : Nat, cs[i]? = some (vb z)) → ∃ r : List Nat, cs = r.map vb := by
  intro cs
  induction cs with
  | nil => intro _; exact ⟨[], rfl⟩
  | cons c cs ih =>
    intro h
    obtain ⟨z, hz⟩ := h 0 (by simp)
    obtain ⟨r, rfl⟩ := ih (fun i hi => by obtain ⟨y, hy⟩ := h (i + 1) (by simp at hi ⊢; omega); exact ⟨y, by simpa using hy⟩)
    simp at hz
    exact ⟨z :: r, by rw [hz]; rfl⟩
section
variable {H : Type} {enc : TypeId × Value → H} {W : World} {b0 : Nat} {sp : Nat → Bool} {held : Bool}
set_option maxRecDepth 100000 in
theorem bytes_trod {m : Nat} {cs : List Value} {x : DataW H × List MemPlace} (h : DataW.trod enc Try.prog W b0 sp held m 24 cs = some x) : ∃ r : List Nat, cs = r.map vb ∧ r.length = 32 := by
  obtain ⟨xs, k, _, _, hl, hxl, hi⟩ := DataW.trod_array (n := 32) (e := 5) (by kernel_rfl) h
  rw [show Try.prog.cellsOf 24 = 32 by kernel_rfl] at hl
  obtain ⟨r, hr⟩ := bytes_list cs (fun i hlt => by
    have q := hi i (by omega)
    rw [show Try.prog.cellsOf 5 = 1 by kernel_rfl, Nat.mul_one, List.getElem?_eq_getElem (show i < xs.length by omega)] at q
    obtain ⟨z, e, _, w⟩ := DataW.trod_int (k := .u8) (by kernel_rfl) q
    obtain ⟨y, rfl⟩ := Int.eq_ofNat_of_zero_le (bounds_u8 w).1
    refine ⟨y, ?_⟩
    have e2 := congrArg (·[0]?) e
    simp at e2
    exact e2)
  exact ⟨r, hr, by rw [← hl, hr, List.length_map]⟩
set_option maxRecDepth 100000 in
set_option maxHeartbeats 1000000 in
theorem st_trod {fuel : Nat} {cs : List Value} {x : DataW H × List MemPlace} (hf0 : DataW.trod enc Try.prog W b0 sp held fuel 26 cs = some x) : ∃ s, StOk s ∧ cs = stL s := by
  obtain ⟨xs, m, _, _, hl0, hxl, hf⟩ := DataW.trod_struct und_st0 hf0
  rw [show (Try.prog.fieldsOf 26).size = 10 by kernel_rfl] at hxl
  have g0 : DataW.trod enc Try.prog W b0 sp held m 3 ((cs.drop 0).take 1) = xs[0]? := by
    have q := hf 0 (Try.prog.fieldsOf 26)[0]! (by kernel_rfl)
    rw [show (Try.prog.fieldsOf 26)[0]!.type = 3 by kernel_rfl, show (Try.prog.fieldsOf 26)[0]!.offset = 0 by kernel_rfl, show Try.prog.cellsOf 3 = 1 by kernel_rfl] at q
    exact q
  rw [List.getElem?_eq_getElem (show 0 < xs.length by omega)] at g0
  have g1 : DataW.trod enc Try.prog W b0 sp held m 3 ((cs.drop 1).take 1) = xs[1]? := by
    have q := hf 1 (Try.prog.fieldsOf 26)[1]! (by kernel_rfl)
    rw [show (Try.prog.fieldsOf 26)[1]!.type = 3 by kernel_rfl, show (Try.prog.fieldsOf 26)[1]!.offset = 1 by kernel_rfl, show Try.prog.cellsOf 3 = 1 by kernel_rfl] at q
    exact q
  rw [List.getElem?_eq_getElem (show 1 < xs.length by omega)] at g1
  have g2 : DataW.trod enc Try.prog W b0 sp held m 4 ((cs.drop 2).take 1) = xs[2]? := by
    have q := hf 2 (Try.prog.fieldsOf 26)[2]! (by kernel_rfl)
    rw [show (Try.prog.fieldsOf 26)[2]!.type = 4 by kernel_rfl, show (Try.prog.fieldsOf 26)[2]!.offset = 2 by kernel_rfl, show Try.prog.cellsOf 4 = 1 by kernel_rfl] at q
    exact q
  rw [List.getElem?_eq_getElem (show 2 < xs.length by omega)] at g2
  have g3 : DataW.trod enc Try.prog W b0 sp held m 22 ((cs.drop 3).take 1) = xs[3]? := by
    have q := hf 3 (Try.prog.fieldsOf 26)[3]! (by kernel_rfl)
    rw [show (Try.prog.fieldsOf 26)[3]!.type = 22 by kernel_rfl, show (Try.prog.fieldsOf 26)[3]!.offset = 3 by kernel_rfl, show Try.prog.cellsOf 22 = 1 by kernel_rfl] at q
    exact q
  rw [List.getElem?_eq_getElem (show 3 < xs.length by omega)] at g3
  have g4 : DataW.trod enc Try.prog W b0 sp held m 23 ((cs.drop 4).take 1) = xs[4]? := by
    have q := hf 4 (Try.prog.fieldsOf 26)[4]! (by kernel_rfl)
    rw [show (Try.prog.fieldsOf 26)[4]!.type = 23 by kernel_rfl, show (Try.prog.fieldsOf 26)[4]!.offset = 4 by kernel_rfl, show Try.prog.cellsOf 23 = 1 by kernel_rfl] at q
    exact q
  rw [List.getElem?_eq_getElem (show 4 < xs.length by omega)] at g4
  have g5 : DataW.trod enc Try.prog W b0 sp held m 22 ((cs.drop 5).take 1) = xs[5]? := by
    have q := hf 5 (Try.prog.fieldsOf 26)[5]! (by kernel_rfl)
    rw [show (Try.prog.fieldsOf 26)[5]!.type = 22 by kernel_rfl, show (Try.prog.fieldsOf 26)[5]!.offset = 5 by kernel_rfl, show Try.prog.cellsOf 22 = 1 by kernel_rfl] at q
    exact q
  rw [List.getElem?_eq_getElem (show 5 < xs.length by omega)] at g5
  have g6 : DataW.trod enc Try.prog W b0 sp held m 3 ((cs.drop 6).take 1) = xs[6]? := by
    have q := hf 6 (Try.prog.fieldsOf 26)[6]! (by kernel_rfl)
    rw [show (Try.prog.fieldsOf 26)[6]!.type = 3 by kernel_rfl, show (Try.prog.fieldsOf 26)[6]!.offset = 6 by kernel_rfl, show Try.prog.cellsOf 3 = 1 by kernel_rfl] at q
    exact q
  rw [List.getElem?_eq_getElem (show 6 < xs.length by omega)] at g6
  have g7 : DataW.trod enc Try.prog W b0 sp held m 4 ((cs.drop 7).take 1) = xs[7]? := by
    have q := hf 7 (Try.prog.fieldsOf 26)[7]! (by kernel_rfl)
    rw [show (Try.prog.fieldsOf 26)[7]!.type = 4 by kernel_rfl, show (Try.prog.fieldsOf 26)[7]!.offset = 7 by kernel_rfl, show Try.prog.cellsOf 4 = 1 by kernel_rfl] at q
    exact q
  rw [List.getElem?_eq_getElem (show 7 < xs.length by omega)] at g7
  have g8 : DataW.trod enc Try.prog W b0 sp held m 24 ((cs.drop 8).take 32) = xs[8]? := by
    have q := hf 8 (Try.prog.fieldsOf 26)[8]! (by kernel_rfl)
    rw [show (Try.prog.fieldsOf 26)[8]!.type = 24 by kernel_rfl, show (Try.prog.fieldsOf 26)[8]!.offset = 8 by kernel_rfl, show Try.prog.cellsOf 24 = 32 by kernel_rfl] at q
    exact q
  rw [List.getElem?_eq_getElem (show 8 < xs.length by omega)] at g8
  have g9 : DataW.trod enc Try.prog W b0 sp held m 24 ((cs.drop 40).take 32) = xs[9]? := by
    have q := hf 9 (Try.prog.fieldsOf 26)[9]! (by kernel_rfl)
    rw [show (Try.prog.fieldsOf 26)[9]!.type = 24 by kernel_rfl, show (Try.prog.fieldsOf 26)[9]!.offset = 40 by kernel_rfl, show Try.prog.cellsOf 24 = 32 by kernel_rfl] at q
    exact q
  rw [List.getElem?_eq_getElem (show 9 < xs.length by omega)] at g9
  obtain ⟨a0, e0, _, w0⟩ := DataW.trod_int (k := .i64) (by kernel_rfl) g0
  obtain ⟨a1, e1, _, w1⟩ := DataW.trod_int (k := .i64) (by kernel_rfl) g1
  obtain ⟨a2, e2, _⟩ := DataW.trod_bool (by kernel_rfl) g2
  obtain ⟨a3, e3, _, w3⟩ := DataW.trod_int (k := .u32) (by kernel_rfl) g3
  obtain ⟨a4, e4, _, w4⟩ := DataW.trod_int (k := .u64) (by kernel_rfl) g4
  obtain ⟨a5, e5, _, w5⟩ := DataW.trod_int (k := .u32) (by kernel_rfl) g5
  obtain ⟨a6, e6, _, w6⟩ := DataW.trod_int (k := .i64) (by kernel_rfl) g6
  obtain ⟨a7, e7, _⟩ := DataW.trod_bool (by kernel_rfl) g7
  obtain ⟨r, e8, hr⟩ := bytes_trod g8
  obtain ⟨mm, e9, hm⟩ := bytes_trod g9
  refine ⟨⟨a0, a1, a2, a3, a4, a5, a6, a7, r, mm⟩, ⟨hr, hm, (bounds_u32 w5).1⟩, ?_⟩
  have hl : cs.length = 72 := by rw [hl0]; kernel_rfl
  have sp : ∀ (k j : Nat), cs.drop k = (cs.drop k).take j ++ cs.drop (k + j) := fun k j => by rw [← List.drop_drop, List.take_append_drop]
  have z : cs = cs.drop 0 := rfl
  rw [z, sp 0 1, e0, sp 1 1, e1, sp 2 1, e2, sp 3 1, e3, sp 4 1, e4, sp 5 1, e5, sp 6 1, e6, sp 7 1, e7, sp 8 32, e8, sp 40 32, e9, List.drop_of_length_le (by omega)]
  simp [stL]
set_option maxRecDepth 100000 in
theorem st_open {v : Value} {d : DataW H} {p : List MemPlace} {b1 : Nat} {R : Reach} (hv : Value.okWide Try.prog W R b1 26 v) (h : DataW.Trod enc Try.prog W b0 sp held 26 v d p) :
    ∃ s, StOk s ∧ v = .agg (stA s) := by
  obtain ⟨cs, rfl, hsz⟩ := okWide_struct und_st0 hv
  obtain ⟨fuel, hf0⟩ := h
  obtain ⟨s, hs, e⟩ := st_trod hf0
  refine ⟨s, hs, ?_⟩
  congr 1
  apply Array.ext'
  simpa [Value.cells, stA] using e
end
end Go.Proofs.Ythlofbkbaabamaa
