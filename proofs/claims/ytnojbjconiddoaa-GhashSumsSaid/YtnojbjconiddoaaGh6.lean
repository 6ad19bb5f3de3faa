/-
  The rows of a key; a part of a row stored, an element of a row of halves taken.
-/
import Derived.Test.YtnojbjconiddoaaGh5
import Derived.Deep.MidRow
namespace Go.Proofs.Ytnojbjconiddoaa
open Go.ChangeShapes Go.WideShapes Go.ChangeAt Go.RowKit

theorem wpList_store_part {P : Program} {ops : Array Oper} {rest : List Oper} {o : Oper} {a : Act} {w : World} {Q : Exit → Act → World → Prop} (hgd : o.guard = none) (ty : TypeId) (x y : Operand) (ho : o.op = .store ty x y)
    (g k : Nat) (vs : List Value) (hx : a.eval x = .pointer (some ⟨g, k, none⟩)) (hy : a.eval y = .agg vs.toArray) (t : TypeId) (cs : Array Value) (hb : Blk w g t cs) (hl : k + vs.length ≤ cs.size)
    (hi : (P.info? ty).map (·.size) = some vs.length) (h1 : ∀ v ∈ vs, v.oneCell' = true)
    (h : wpList P ops Q rest (a.put o.dst undef) (w.setCells g k vs)) : wpList P ops Q (o :: rest) a w := by
  refine wpList_plain hgd fun K hK => ?_
  refine wp_store_mid ty x y ho g k vs.toArray hx hy (hb.there k _ (by simp; omega)) (by simpa using hi) (all_oneCell_toArray h1) ?_
  exact hK _ _ h
theorem Blk.part {w : World} {g : Nat} {t : TypeId} {cs : Array Value} (h : Blk w g t cs) (k : Nat) (vs : List Value) (hl : k + vs.length ≤ cs.size) :
    Blk (w.setCells g k vs) g t (cs.toList.take k ++ vs ++ cs.toList.drop (k + vs.length)).toArray := by
  have h1 := blk_setCells vs k w cs h
  have h2 := fold_set vs k cs hl
  rw [← h2]
  simpa using h1

/-- Rows of pairs. -/
def pairs (f : Nat → List Value) (k : Nat) : List Value := (List.range k).flatMap f
theorem pairs_succ (f : Nat → List Value) (k : Nat) : pairs f (k + 1) = pairs f k ++ f k := by
  unfold pairs
  rw [List.range_succ, List.flatMap_append]
  simp
theorem pairs_len (f : Nat → List Value) (hf : ∀ i, (f i).length = 2) (k : Nat) : (pairs f k).length = 2 * k := by
  induction k with
  | zero => rfl
  | succ k ih => rw [pairs_succ, List.length_append, ih, hf]; omega
theorem pairs_at (f : Nat → List Value) (hf : ∀ i, (f i).length = 2) (i : Nat) : ∀ k, i < k → ((pairs f k).drop (2 * i)).take 2 = f i := by
  intro k
  induction k with
  | zero => intro h; omega
  | succ k ih =>
    intro h
    rw [pairs_succ]
    by_cases hi : i = k
    · subst hi
      rw [List.drop_append_of_le_length (by rw [pairs_len f hf]; omega), List.drop_of_length_le (by rw [pairs_len f hf]; omega), List.nil_append]
      exact List.take_of_length_le (by rw [hf]; omega)
    · have hik : i < k := by omega
      rw [List.drop_append_of_le_length (by rw [pairs_len f hf]; omega), List.take_append_of_le_length (by rw [List.length_drop, pairs_len f hf]; omega)]
      exact ih hik
/-- The first k multiples, the rest as it was made. -/
def keyF (p k : Nat) : List Value := pairs (fun i => halfL (Gal.iter Gh.T i p)) k ++ List.replicate (256 - 2 * k) (.int .u64 0)
def keyL (p : Nat) : List Value := pairs (fun i => halfL (Gal.iter Gh.T i p)) 128
theorem halfL_len (p : Nat) : (halfL p).length = 2 := rfl
theorem keyF_len (p k : Nat) (h : k ≤ 128) : (keyF p k).length = 256 := by
  unfold keyF
  rw [List.length_append, pairs_len _ (fun i => halfL_len _), List.length_replicate]
  omega
theorem keyL_len (p : Nat) : (keyL p).length = 256 := pairs_len _ (fun i => halfL_len _) 128
theorem keyF_all (p : Nat) : keyF p 128 = keyL p := by simp [keyF, keyL]
theorem keyF_step (p k : Nat) (h : k < 128) : (keyF p k).take (2 * k) ++ halfL (Gal.iter Gh.T k p) ++ (keyF p k).drop (2 * k + 2) = keyF p (k + 1) := by
  have hl := pairs_len (fun i => halfL (Gal.iter Gh.T i p)) (fun i => halfL_len _) k
  unfold keyF
  rw [pairs_succ, List.take_append_of_le_length (by omega), List.take_of_length_le (by omega), List.drop_append, List.drop_of_length_le (by omega), List.nil_append, hl, List.drop_replicate]
  rw [show 256 - 2 * k - (2 * k + 2 - 2 * k) = 256 - 2 * (k + 1) by omega]
theorem keyL_at (p i : Nat) (h : i < 128) : ((keyL p).drop (2 * i)).take 2 = halfL (Gal.iter Gh.T i p) := pairs_at _ (fun i => halfL_len _) i 128 h
theorem halfL_one (p : Nat) : ∀ u ∈ halfL p, u.oneCell' = true := by
  intro u hu
  simp only [halfL, List.mem_cons, List.not_mem_nil, or_false] at hu
  rcases hu with rfl | rfl <;> rfl

/-- An element of a row of halves that lies in a value. -/
theorem exec_index_key {o : Oper} {a : Act} {w : World} (p i : Nat) (hi : i < 128) (x y : Operand) (ho : o.op = .index 63 x y) (hx : a.eval x = .agg (keyL p).toArray) (hy : a.eval y = .int .i64 (i : Int)) :
    (execOp a.eval o).run Try.prog w = .ok (.value (.agg (halfL (Gal.iter Gh.T i p)).toArray)) w := by
  have hp : ∀ w, (part 58 (keyL p).toArray (i * 2)).run Try.prog w = .ok (.agg ((keyL p).toArray.extract (i * 2) (i * 2 + 2))) w := by
    intro w
    have h1 : (isAgg 58).run Try.prog w = .ok true w := by kernel_rfl
    have h2 : (sizeOf 58).run Try.prog w = .ok 2 w := by kernel_rfl
    simp [part, h1, h2, Sem.run_bind, Result.andThen]
  have h2 : (sizeOf 58).run Try.prog w = .ok 2 w := by kernel_rfl
  have e : List.take 2 (List.drop (i * 2) (keyL p)) = halfL (Gal.iter Gh.T i p) := by rw [Nat.mul_comm]; exact keyL_at p i hi
  have hi2 : (0 : Int) ≤ (i : Int) ∧ (i : Int) < 128 := by omega
  unfold execOp
  simp only [ho, hx, hy]
  simp [Instr.index, run_underlying Try.underlying63, asIntOf, hi, hi2, h2, hp, e, go_sem]
end Go.Proofs.Ytnojbjconiddoaa
