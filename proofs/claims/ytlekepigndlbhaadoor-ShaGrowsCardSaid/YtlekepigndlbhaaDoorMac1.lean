/-
  Digests under a key in plain Lean; no program in sight.
-/
import Derived.Test.YtlekepigndlbhaaDoorSha7
namespace Go.Proofs.YtlekepigndlbhaaDoor

def hk (key : List Nat) : List Nat := if 64 < key.length then digest key else key
def kb (key : List Nat) : List Nat := hk key ++ List.replicate (64 - (hk key).length) 0
def xr (l : List Nat) (x : Nat) : List Nat := l.map (· ^^^ x)
def hmac (key text : List Nat) : List Nat := digest (xr (kb key) 92 ++ digest (xr (kb key) 54 ++ text))

theorem hk_len (key : List Nat) : (hk key).length ≤ 64 := by
  unfold hk
  split
  · rw [digest_len]; omega
  · omega
theorem hk_lt (key : List Nat) (h : ∀ x ∈ key, x < 256) : ∀ x ∈ hk key, x < 256 := by
  unfold hk
  split
  · exact digest_lt key
  · exact h
theorem kb_len (key : List Nat) : (kb key).length = 64 := by
  have := hk_len key
  unfold kb
  rw [List.length_append, List.length_replicate]
  omega
theorem kb_lt (key : List Nat) (h : ∀ x ∈ key, x < 256) : ∀ x ∈ kb key, x < 256 := by
  intro x hx
  rcases List.mem_append.1 hx with hx | hx
  · exact hk_lt key h x hx
  · rw [(List.mem_replicate.1 hx).2]; omega
theorem xr_len (l : List Nat) (x : Nat) : (xr l x).length = l.length := List.length_map _
theorem xr_lt (l : List Nat) (x : Nat) (hx : x < 256) (h : ∀ y ∈ l, y < 256) : ∀ y ∈ xr l x, y < 256 := by
  intro y hy
  obtain ⟨z, hz, rfl⟩ := List.mem_map.1 hy
  exact Nat.xor_lt_two_pow (n := 8) (h z hz) hx
theorem hmac_len (key text : List Nat) : (hmac key text).length = 32 := digest_len _
theorem hmac_lt (key text : List Nat) : ∀ x ∈ hmac key text, x < 256 := digest_lt _
/-- A key that was made shorter, or filled up by noughts, makes the same block. -/
theorem kb_digest (key : List Nat) (h : 64 < key.length) : kb (digest key) = kb key := by
  have e : hk (digest key) = hk key := by
    unfold hk
    rw [if_neg (by rw [digest_len]; omega), if_pos h]
  unfold kb
  rw [e]
theorem kb_more (key : List Nat) (n : Nat) (h : key.length + n ≤ 64) : kb (key ++ List.replicate n 0) = kb key := by
  unfold kb hk
  rw [if_neg (by rw [List.length_append, List.length_replicate]; omega), if_neg (by omega), List.length_append, List.length_replicate, List.append_assoc, List.replicate_append_replicate]
  congr 2
  omega
/-- The first k are turned. -/
def xfill (l : List Nat) (x k : Nat) : List Nat := xr (l.take k) x ++ l.drop k
theorem xfill_zero (l : List Nat) (x : Nat) : xfill l x 0 = l := by simp [xfill, xr]
theorem xfill_all (l : List Nat) (x n : Nat) (h : l.length = n) : xfill l x n = xr l x := by
  subst h
  simp [xfill]
theorem xfill_at (l : List Nat) (x k : Nat) (h : k < l.length) : ∃ y, l[k]? = some y ∧ (xfill l x k)[k]? = some y ∧ (xfill l x k).set k (y ^^^ x) = xfill l x (k + 1) := by
  refine ⟨l[k], List.getElem?_eq_getElem h, ?_, ?_⟩
  · have hl : (xr (l.take k) x).length = k := by rw [xr_len, List.length_take]; omega
    unfold xfill
    rw [List.getElem?_append_right (by omega), hl, Nat.sub_self, List.getElem?_drop, Nat.add_zero]
    exact List.getElem?_eq_getElem h
  · have hl : (xr (l.take k) x).length = k := by rw [xr_len, List.length_take]; omega
    unfold xfill
    rw [List.set_append_right _ _ (by omega), hl, Nat.sub_self, List.drop_eq_getElem_cons h, List.set_cons_zero, List.take_succ_eq_append_getElem h]
    unfold xr
    rw [List.map_append, List.append_assoc]
    rfl
/-- What is told of one example. -/
theorem jefe_facts : ∃ D : List Nat, hmac [74, 101, 102, 101] [[119, 104, 97, 116, 32, 100, 111, 32, 121, 97, 32, 119, 97, 110, 116, 32], [102, 111, 114, 32, 110, 111, 116, 104, 105, 110, 103, 63]].flatten = D ∧ D.length = 32 ∧ D[0]? = some 91 ∧ D[1]? = some 220 ∧ D[31]? = some 67 :=
  ⟨[91, 220, 193, 70, 191, 96, 117, 78, 106, 4, 36, 38, 8, 149, 117, 199, 90, 0, 63, 8, 157, 39, 57, 131, 157, 236, 88, 185, 100, 236, 56, 67], by kernel_rfl, rfl, rfl, rfl, rfl⟩
/-- What parts make beyond what is looked at. -/
def gsum : List (List Nat) → Nat
  | [] => 0
  | p :: ps => 1 + min p.length 20001 + gsum ps
theorem gsum_snoc (ps : List (List Nat)) (p : List Nat) : gsum (ps ++ [p]) = gsum ps + (1 + min p.length 20001) := by
  induction ps with
  | nil => simp [gsum]
  | cons q qs ih => simp only [List.cons_append, gsum, ih]; omega
theorem gsum_take (ps : List (List Nat)) (k : Nat) : gsum (ps.take k) ≤ gsum ps := by
  induction ps generalizing k with
  | nil => simp
  | cons q qs ih =>
    cases k with
    | zero => simp [gsum]
    | succ k => simp only [List.take_succ_cons, gsum]; have := ih k; omega
theorem gsum_small (ps : List (List Nat)) (h : gsum ps ≤ 20000) : ps.length ≤ 20000 ∧ ps.flatten.length ≤ 20000 ∧ ps.length + ps.flatten.length ≤ gsum ps := by
  have key : ∀ ps : List (List Nat), gsum ps ≤ 20000 → ps.length + ps.flatten.length ≤ gsum ps := by
    intro ps
    induction ps with
    | nil => intro _; simp [gsum]
    | cons q qs ih =>
      intro h
      simp only [gsum] at h
      have := ih (by omega)
      simp only [List.length_cons, List.flatten_cons, List.length_append, gsum]
      omega
  have := key ps h
  omega
end Go.Proofs.YtlekepigndlbhaaDoor
