/-
  api.State: its cells; what 'may be' and 'may follow' mean; no program in sight but for the types' numbers.
-/
import Derived.Test.YthlofbkbaabamaaArr
import Derived.Test.YthlofbkbaabamaaArrEq
namespace Go.Proofs.Ythlofbkbaabamaa
open Go.ChangeShapes Go.WideShapes Go.ChangeAt Go.RowKit

structure St where
  p : Int
  b : Int
  wi : Bool
  bo : Int
  ve : Int
  ep : Int
  cu : Int
  bu : Bool
  r : List Nat
  m : List Nat
deriving DecidableEq

/-- A state's cells. -/
def stL (s : St) : List Value := [.int .i64 s.p, .int .i64 s.b, .bool s.wi, .int .u32 s.bo, .int .u64 s.ve, .int .u32 s.ep, .int .i64 s.cu, .bool s.bu] ++ (s.r.map vb ++ s.m.map vb)
def stA (s : St) : Array Value := (stL s).toArray
/-- What is known of a state that comes in. -/
structure StOk (s : St) : Prop where
  rl : s.r.length = 32
  ml : s.m.length = 32
  ep : 0 ≤ s.ep

theorem st_len {s : St} (h : StOk s) : (stL s).length = 72 := by simp [stL, h.rl, h.ml]
theorem st_size {s : St} (h : StOk s) : (stA s).size = 72 := by rw [stA, List.size_toArray, st_len h]
def st0 : St := ⟨0, 0, false, 0, 0, 0, 0, false, List.replicate 32 0, List.replicate 32 0⟩
theorem st0_ok : StOk st0 := ⟨rfl, rfl, by decide⟩

/-- The eight cells ahead. -/
theorem st_cells {w : World} {g : Nat} {t : TypeId} {s : St} (h : Blk w g t (stA s)) :
    w.cell? ⟨g, 0, none⟩ = some (.int .i64 s.p) ∧ w.cell? ⟨g, 1, none⟩ = some (.int .i64 s.b) ∧ w.cell? ⟨g, 2, none⟩ = some (.bool s.wi) ∧ w.cell? ⟨g, 3, none⟩ = some (.int .u32 s.bo) ∧
      w.cell? ⟨g, 4, none⟩ = some (.int .u64 s.ve) ∧ w.cell? ⟨g, 5, none⟩ = some (.int .u32 s.ep) ∧ w.cell? ⟨g, 6, none⟩ = some (.int .i64 s.cu) ∧ w.cell? ⟨g, 7, none⟩ = some (.bool s.bu) :=
  ⟨h.at 0 _ (by simp [stA, stL]), h.at 1 _ (by simp [stA, stL]), h.at 2 _ (by simp [stA, stL]), h.at 3 _ (by simp [stA, stL]), h.at 4 _ (by simp [stA, stL]), h.at 5 _ (by simp [stA, stL]), h.at 6 _ (by simp [stA, stL]), h.at 7 _ (by simp [stA, stL])⟩

/-- May a state be? -/
def rightP (s : St) : Prop := 1 ≤ s.p ∧ s.p ≤ 4096 ∧ 1 ≤ s.b ∧ s.b ≤ 256 ∧ 0 ≤ s.cu ∧ s.cu ≤ s.p ∧ 0 < s.ep
instance (s : St) : Decidable (rightP s) := by unfold rightP; infer_instance
def rightB (s : St) : Bool := decide (rightP s)
theorem rightB_true {s : St} (h : rightP s) : rightB s = true := decide_eq_true h
theorem rightB_false {s : St} (h : ¬ rightP s) : rightB s = false := decide_eq_false h

/-- The two digests, as parts of the struct. -/
theorem st_r {s : St} (h : StOk s) : (stA s).extract 8 40 = (s.r.map vb).toArray := by
  apply Array.ext'
  simp [stA, stL, h.rl]
theorem st_m {s : St} (h : StOk s) : (stA s).extract 40 72 = (s.m.map vb).toArray := by
  apply Array.ext'
  simp [stA, stL, h.rl, h.ml]
  rw [List.take_of_length_le (by rw [List.length_map, h.ml]; omega)]
theorem right_cases (s : St) : rightB s = false ∧ ¬ 1 ≤ s.p ∨ rightB s = false ∧ 1 ≤ s.p ∧ ¬ s.p ≤ 4096 ∨ rightB s = false ∧ 1 ≤ s.p ∧ s.p ≤ 4096 ∧ ¬ 1 ≤ s.b ∨ rightB s = false ∧ 1 ≤ s.p ∧ s.p ≤ 4096 ∧ 1 ≤ s.b ∧ ¬ s.b ≤ 256 ∨
    rightB s = false ∧ 1 ≤ s.p ∧ s.p ≤ 4096 ∧ 1 ≤ s.b ∧ s.b ≤ 256 ∧ ¬ 0 ≤ s.cu ∨ rightB s = false ∧ 1 ≤ s.p ∧ s.p ≤ 4096 ∧ 1 ≤ s.b ∧ s.b ≤ 256 ∧ 0 ≤ s.cu ∧ ¬ s.cu ≤ s.p ∨
    rightB s = false ∧ 1 ≤ s.p ∧ s.p ≤ 4096 ∧ 1 ≤ s.b ∧ s.b ≤ 256 ∧ 0 ≤ s.cu ∧ s.cu ≤ s.p ∧ ¬ 0 < s.ep ∨ rightB s = true ∧ 1 ≤ s.p ∧ s.p ≤ 4096 ∧ 1 ≤ s.b ∧ s.b ≤ 256 ∧ 0 ≤ s.cu ∧ s.cu ≤ s.p ∧ 0 < s.ep := by
  by_cases h1 : 1 ≤ s.p
  case neg => exact .inl ⟨rightB_false (fun h => h1 h.1), h1⟩
  refine .inr ?_
  by_cases h2 : s.p ≤ 4096
  case neg => exact .inl ⟨rightB_false (fun h => h2 h.2.1), h1, h2⟩
  refine .inr ?_
  by_cases h3 : 1 ≤ s.b
  case neg => exact .inl ⟨rightB_false (fun h => h3 h.2.2.1), h1, h2, h3⟩
  refine .inr ?_
  by_cases h4 : s.b ≤ 256
  case neg => exact .inl ⟨rightB_false (fun h => h4 h.2.2.2.1), h1, h2, h3, h4⟩
  refine .inr ?_
  by_cases h5 : 0 ≤ s.cu
  case neg => exact .inl ⟨rightB_false (fun h => h5 h.2.2.2.2.1), h1, h2, h3, h4, h5⟩
  refine .inr ?_
  by_cases h6 : s.cu ≤ s.p
  case neg => exact .inl ⟨rightB_false (fun h => h6 h.2.2.2.2.2.1), h1, h2, h3, h4, h5, h6⟩
  refine .inr ?_
  by_cases h7 : 0 < s.ep
  case neg => exact .inl ⟨rightB_false (fun h => h7 h.2.2.2.2.2.2), h1, h2, h3, h4, h5, h6, h7⟩
  exact .inr ⟨rightB_true ⟨h1, h2, h3, h4, h5, h6, h7⟩, h1, h2, h3, h4, h5, h6, h7⟩
end Go.Proofs.Ythlofbkbaabamaa
