/-
  The walk of NonceOnce: what two sources tell, and that no two of it are the same.
-/
import Derived.Test.YtdefdhmoleahnaaNonceL
import Derived.Test.YtdefdhmoleahnaaNonceF
import Derived.Test.YtdefdhmoleahnaaNum
import Derived.Test.YtdefdhmoleahnaaArrEq
namespace Go.Proofs.Ytdefdhmoleahnaa
open Go.ChangeShapes Go.WideShapes Go.ChangeAt Go.RowKit

/-! ### What is told -/
def told (boot other first second : Nat) : Nat → List (Nat × Nat)
  | 0 => []
  | k + 1 => told boot other first second k ++ ((if overOf first k then [] else [(boot, first + k)]) ++ (if overOf second k || boot == other then [] else [(other, second + k)]))

section
variable {boot other first second : Nat}
theorem told_mem (k : Nat) : ∀ x ∈ told boot other first second k, (x.1 = boot ∧ ∃ j, j < k ∧ x.2 = first + j ∧ overOf first j = false) ∨ (x.1 = other ∧ boot ≠ other ∧ ∃ j, j < k ∧ x.2 = second + j ∧ overOf second j = false) := by
  induction k with
  | zero => intro x hx; cases hx
  | succ k ih =>
    intro x hx
    simp only [told, List.mem_append] at hx
    rcases hx with hx | hx | hx
    · rcases ih x hx with ⟨h1, j, h2, h3⟩ | ⟨h1, h0, j, h2, h3⟩
      · exact .inl ⟨h1, j, by omega, h3⟩
      · exact .inr ⟨h1, h0, j, by omega, h3⟩
    · split at hx
      · cases hx
      · rename_i ho
        rw [List.mem_singleton] at hx
        subst hx
        exact .inl ⟨rfl, k, by omega, rfl, by simpa using ho⟩
    · split at hx
      · cases hx
      · rename_i ho
        rw [List.mem_singleton] at hx
        subst hx
        simp at ho
        exact .inr ⟨rfl, ho.2, k, by omega, rfl, ho.1⟩
theorem told_length (k : Nat) : (told boot other first second k).length ≤ 2 * k := by
  induction k with
  | zero => exact Nat.le_refl _
  | succ k ih =>
    simp only [told, List.length_append]
    have h1 : ∀ (c : Bool) (p : Nat × Nat), (if c = true then ([] : List (Nat × Nat)) else [p]).length ≤ 1 := by
      intro c p
      cases c <;> simp
    have := h1 (overOf first k) (boot, first + k)
    have := h1 (overOf second k || boot == other) (other, second + k)
    omega
theorem told_nodup (k : Nat) : (told boot other first second k).Nodup := by
  induction k with
  | zero => exact List.nodup_nil
  | succ k ih =>
    simp only [told]
    rw [List.nodup_append]
    refine ⟨ih, ?_, ?_⟩
    · rw [List.nodup_append]
      refine ⟨by split <;> simp, by split <;> simp, ?_⟩
      intro a ha b hb
      split at ha
      · cases ha
      · split at hb
        · cases hb
        · rename_i hc
          rw [List.mem_singleton] at ha hb
          subst ha
          subst hb
          simp at hc
          intro e
          injection e with e1 e2
          exact hc.2 e1
    · intro a ha b hb
      rw [List.mem_append] at hb
      rintro rfl
      have hm := told_mem k a ha
      rcases hb with hb | hb
      · split at hb
        · cases hb
        · rw [List.mem_singleton] at hb
          subst hb
          rcases hm with ⟨_, j, h2, h3, _⟩ | ⟨h1, h0, _⟩
          · simp at h3
            omega
          · exact h0 h1
      · split at hb
        · cases hb
        · rename_i hc
          rw [List.mem_singleton] at hb
          subst hb
          simp at hc
          rcases hm with ⟨h1, _⟩ | ⟨_, _, j, h2, h3, _⟩
          · exact hc.2 h1.symm
          · simp at h3
            omega
theorem told_bound (hb : boot < 4294967296) (ho : other < 4294967296) (k : Nat) : ∀ x ∈ told boot other first second k, x.1 < 4294967296 ∧ x.2 < 18446744073709551616 := by
  intro x hx
  rcases told_mem k x hx with ⟨h1, j, _, h3, h4⟩ | ⟨h1, _, j, _, h3, h4⟩
  · have h5 : ¬ top ≤ first + j := by unfold overOf at h4; simpa using h4
    rw [top_eq] at h5
    exact ⟨by omega, by omega⟩
  · have h5 : ¬ top ≤ second + j := by unfold overOf at h4; simpa using h4
    rw [top_eq] at h5
    exact ⟨by omega, by omega⟩
end

theorem nonceL_length (b s : Nat) : (nonceL b s).length = 12 := by simp [nonceL, beL_length]
theorem nonceL_inj {a b c d : Nat} (ha : a < 4294967296) (hb : b < 18446744073709551616) (hc : c < 4294967296) (hd : d < 18446744073709551616) (h : nonceL a b = nonceL c d) : a = c ∧ b = d := by
  unfold nonceL at h
  obtain ⟨h1, h2⟩ := List.append_inj h (by simp [beL_length])
  exact ⟨beL_inj (size := 4) (by omega) (by omega) h1, beL_inj (size := 8) (by omega) (by omega) h2⟩

/-- The cells of what is told. -/
def flatN (l : List (Nat × Nat)) : List Value := l.flatMap fun p => (nonceL p.1 p.2).map vb
theorem flatN_snoc (l : List (Nat × Nat)) (p : Nat × Nat) : flatN (l ++ [p]) = flatN l ++ (nonceL p.1 p.2).map vb := by simp [flatN]
theorem flatN_get (l : List (Nat × Nat)) : ∀ (i j : Nat) (p : Nat × Nat), l[i]? = some p → j < 12 → (flatN l)[i * 12 + j]? = ((nonceL p.1 p.2).map vb)[j]? := by
  induction l with
  | nil => intro i j p h _; simp at h
  | cons q l ih =>
    intro i j p h hj
    have e : flatN (q :: l) = (nonceL q.1 q.2).map vb ++ flatN l := by simp [flatN]
    rw [e]
    cases i with
    | zero =>
      simp at h
      subst h
      rw [Nat.zero_mul, Nat.zero_add, List.getElem?_append_left (by rw [List.length_map, nonceL_length]; exact hj)]
    | succ i =>
      rw [List.getElem?_append_right (by rw [List.length_map, nonceL_length]; omega), List.length_map, nonceL_length, show (i + 1) * 12 + j - 12 = i * 12 + j by omega]
      exact ih i j p (by simpa using h) hj

theorem info_nonce : (Try.prog.info? 46).map (fun i => (i.zero, i.size, i.bytes)) = some (some (.agg zero12), 12, 12) := by kernel_rfl
theorem list12' (l : List Nat) (h : l.length = 12) : ∃ x0 x1 x2 x3 x4 x5 x6 x7 x8 x9 x10 x11 : Nat, l = [x0, x1, x2, x3, x4, x5, x6, x7, x8, x9, x10, x11] := list12 l h
theorem nonce_lit (ep boot seq : Nat) (x0 x1 x2 x3 x4 x5 x6 x7 x8 x9 x10 x11 : Nat) (w : World) (hb : boot < 4294967296) (hs : seq < 18446744073709551616) (hx : nonceL boot seq = [x0, x1, x2, x3, x4, x5, x6, x7, x8, x9, x10, x11]) :
    Calls Try.prog 24 #[.agg #[.int .u32 ep, .int .u32 boot, .int .u64 seq]] w fun e w' => e = .returned (.agg #[.int .u8 (x0 : Int), .int .u8 (x1 : Int), .int .u8 (x2 : Int), .int .u8 (x3 : Int), .int .u8 (x4 : Int), .int .u8 (x5 : Int), .int .u8 (x6 : Int), .int .u8 (x7 : Int), .int .u8 (x8 : Int), .int .u8 (x9 : Int), .int .u8 (x10 : Int), .int .u8 (x11 : Int)]) ∧ Below w.heap.size w w' :=
  (nonce_any ep boot seq w hb hs).mono fun e w' ⟨he, hb⟩ => ⟨by rw [he]; unfold nonceV; rw [hx]; rfl, hb⟩
end Go.Proofs.Ytdefdhmoleahnaa
