/-
  The walks of RowNil and RowJoins.
-/
import Derived.Test.YtogcckedelkpbaaRowPutsW
import Derived.Deep.RegionHeld3
import Derived.IntWalk
namespace Go.Proofs.Ytogcckedelkpbaa
open Go.ChangeShapes Go.WideShapes Go.ChangeAt Go.RowKit

theorem end_nil (w : World) : Calls Try.prog 28 #[.pointer none] w fun e w' => e = .returned (.int .i64 5) ∧ w = w' := by
  go_enter Try.func28, Try.ntmps28
  go_wp2_with fail
  refine (fault_nil _).mono ?_
  rintro e w' ⟨rfl, rfl⟩
  go_wp2_with fail
  go_ret
  exact ⟨rfl, rfl⟩

set_option maxRecDepth 100000 in
set_option maxHeartbeats 1000000 in
theorem rowNil_walk (n : Int) (w : World) :
    Calls Try.prog 10 #[.int .i64 n] w fun e w' => e = .returned (.bool true) ∧ Below w.heap.size w w' := by
  go_enter Try.func10, Try.ntmps10
  go_wp2_with fail
  refine (num_nil n _).mono ?_
  rintro e w1 ⟨rfl, hn1⟩
  go_wp2_with fail
  refine (take_nil n _).mono ?_
  rintro e w2 ⟨rfl, hb2⟩
  have hn2 := nu_trans hn1 hb2
  clear hn1 hb2
  go_wp2_with fail
  refine (left_nil _).mono ?_
  rintro e w3 ⟨rfl, rfl⟩
  go_wp2_with fail
  refine (fault_nil _).mono ?_
  rintro e w3 ⟨rfl, rfl⟩
  go_wp2_with fail
  refine (end_nil _).mono ?_
  rintro e w3 ⟨rfl, rfl⟩
  go_wp2_with fail
  refine (rowAwake_any _).mono ?_
  rintro e w3 ⟨rfl, hb3⟩
  have hn3 := nu_trans hn2 hb3
  go_wp2_with fail
  go_ret
  exact ⟨rfl, hn3⟩

theorem joins_num {a b s : Nat} (ha : a < 2 ^ (8 * s)) (hb : b < 2 ^ (8 * s)) : numOf (beL a s s ++ beL b s s) = a * 2 ^ (8 * s) + b := by
  have h : ∀ m, m ≤ s → numOf (beL a s s ++ beL b s m) = a * 2 ^ (8 * m) + b / 2 ^ (8 * (s - m)) := by
    intro m
    induction m with
    | zero =>
      intro _
      rw [show beL b s 0 = [] from rfl, List.append_nil, numOf_be a s ha, Nat.sub_zero, Nat.div_eq_of_lt hb]
      simp
    | succ m ih =>
      intro hm
      rw [beL_succ, ← List.append_assoc, numOf_snoc, ih (by omega)]
      have e : 2 ^ (8 * (s - m)) = 2 ^ (8 * (s - (m + 1))) * 256 := by
        rw [show 8 * (s - m) = 8 * (s - (m + 1)) + 8 by omega, Nat.pow_add]
      have e2 : 2 ^ (8 * (m + 1)) = 2 ^ (8 * m) * 256 := by
        rw [show 8 * (m + 1) = 8 * m + 8 by omega, Nat.pow_add]
      rw [e, e2, ← Nat.div_div_eq_div_mul, show s - 1 - m = s - (m + 1) by omega, ← Nat.mul_assoc]
      omega
  have := h s (Nat.le_refl _)
  simpa using this

theorem joins_or {a b s : Nat} (h1 : 1 ≤ s) (h4 : s ≤ 4) (ha : a < 2 ^ (8 * s)) (hb : b < 2 ^ (8 * s)) : bits .or .u64 (IntKind.u64.wrap ((a : Int) * 2 ^ (8 * s))) (b : Int) = ((a * 2 ^ (8 * s) + b : Nat) : Int) := by
  have hpw : 2 ^ (8 * s) ≤ 4294967296 := Nat.pow_le_pow_right (n := 2) (by omega) (show 8 * s ≤ 32 by omega)
  have hm : a * 2 ^ (8 * s) < 4294967296 * 4294967296 := Nat.mul_lt_mul_of_lt_of_le (by omega) hpw (by omega)
  have e1 : IntKind.u64.wrap ((a : Int) * 2 ^ (8 * s)) = ((a * 2 ^ (8 * s) : Nat) : Int) := by
    have e0 : (a : Int) * 2 ^ (8 * s) = ((a * 2 ^ (8 * s) : Nat) : Int) := by simp
    rw [e0, IntKind.wrap_u64]
    omega
  rw [e1, u64_or_nat _ _ (by omega) (by omega), nat_join (8 * s) _ b (by simp) hb]

theorem joins_read (B g a b s m : Nat) (hm : m = a * 2 ^ (8 * s) + b) (w : World) (h1 : 1 ≤ s) (h4 : s ≤ 4) (ha : a < 2 ^ (8 * s)) (hb : b < 2 ^ (8 * s)) (hr : RdAt w B g (beL a s s ++ beL b s s) 0) :
    Calls Try.prog 26 #[.pointer (some ⟨g, 0, none⟩), .int .i64 (2 * (s : Int))] w fun e w' => e = .returned (.int .u64 (m : Int)) ∧ w.grownBy w' (some g) := by
  subst hm
  refine (num_any B g _ 0 (2 * (s : Int)) w hr).mono ?_
  rintro e w' ⟨he, _, hg⟩
  refine ⟨?_, hg⟩
  have hr1 : numRight (2 * (s : Int)) = true := by simp [numRight]; omega
  have hs : (2 * (s : Int)) = ((s + s : Nat) : Int) := by omega
  rw [he, hr1, hs, rdStep_ok (by rw [List.length_append, beL_length, beL_length]; exact Nat.le_refl _)]
  simp only []
  rw [List.take_of_length_le (by rw [List.length_append, beL_length, beL_length]; exact Nat.le_refl _), joins_num ha hb]

set_option maxRecDepth 100000 in
set_option maxHeartbeats 1000000 in
theorem rowJoins_ok (a b s : Nat) (w : World) (h1 : 1 ≤ s) (h4 : s ≤ 4) (ha : a < 2 ^ (8 * s)) (hb : b < 2 ^ (8 * s)) :
    Calls Try.prog 6 #[.int .u64 a, .int .u64 b, .int .i64 s] w fun e w' => e = .returned (.bool true) ∧ Below w.heap.size w w' := by
  have hpw : 2 ^ (8 * s) ≤ 4294967296 := Nat.pow_le_pow_right (n := 2) (by omega) (show 8 * s ≤ 32 by omega)
  have pa := Lib.hid (show putOk a s from ⟨h1, by omega, fun _ => Nat.div_eq_of_lt ha⟩)
  have pb := Lib.hid (show putOk b s from ⟨h1, by omega, fun _ => Nat.div_eq_of_lt hb⟩)
  have hal : a < 4294967296 := by omega
  have hbl : b < 4294967296 := by omega
  have Hj := Lib.hid (joins_num ha hb)
  have Ha := Lib.hid ha
  have Hb := Lib.hid hb
  clear ha hb hpw
  go_enter Try.func6, Try.ntmps6
  go_wp2_with fail
  refine (put_ok none 0 0 [] a s _ (BytesIn.nil_ _) (by omega) pa.out (by omega)).mono ?_
  rintro e w1 ⟨v1, rfl, ho1, hn1⟩
  rw [List.nil_append] at ho1
  obtain ⟨a1, c1, rfl, _, _, hr1, _⟩ := ho1.lies
  rw [beL_length] at hr1 ⊢
  have Hr1 := Lib.hid hr1
  clear hr1 ho1
  go_wp2_with fail
  refine (put_ok _ s c1 (beL a s s) b s _ Hr1.out (by omega) pb.out (by omega)).mono ?_
  rintro e w2 ⟨v2, rfl, ho2, hb2⟩
  have hn2 := nu_trans hn1 hb2
  obtain ⟨a2, c2, rfl, _, _, hr2, _⟩ := ho2.lies
  rw [List.length_append, beL_length, beL_length] at hr2 ⊢
  have Hr2 := Lib.hid hr2
  clear hr2 ho2 hb2 hn1
  go_wp2_with fail
  obtain ⟨m, hm⟩ : ∃ m, m = a * 2 ^ (8 * s) + b := ⟨_, rfl⟩
  have Hm := Lib.hid hm
  have k0 : bits .or .u64 (IntKind.u64.wrap ((a : Int) * 2 ^ (8 * s))) (b : Int) = (m : Int) := by
    rw [hm]
    exact joins_or h1 h4 Ha.out Hb.out
  clear hm
  have k1 : IntKind.i64.wrap (8 * (s : Int)) = 8 * (s : Int) := IntWalk.i64_in _ (by omega)
  have k2 : (0 : Int) ≤ 8 * (s : Int) := by omega
  have k3 : (8 * (s : Int)).toNat = 8 * s := by omega
  have k4 : IntKind.i64.wrap (2 * (s : Int)) = 2 * (s : Int) := IntWalk.i64_in _ (by omega)
  go_region_held3 (fun _ => True) (trivial) (first | (go_at_call 25; refine (newReader_any a2 (s + s) c2 _ _ (by exact Hr2.out) (by omega)).mono ?_; rintro e w3 ⟨g, rfl, hrd, hb3⟩) | (go_at_call 26; refine (joins_read _ _ a b s m Hm.out _ h1 h4 Ha.out Hb.out (by assumption)).mono ?_; rintro e w4 ⟨rfl, hg4⟩) | (go_at_call 24; refine (rowAwake_any _).mono ?_; rintro e w5 ⟨rfl, hb5⟩))
  have hg : w.heap.size ≤ g := by have h1 := hrd.low; have h2 := hn2.size; simp at h1; omega
  have hn5 := nu_trans (nu_grown (nu_trans (nu_drew hn2) hb3) hg4 hg) hb5
  go_wp2_with fail
  go_ret
  exact ⟨rfl, hn5⟩

set_option maxRecDepth 100000 in
set_option maxHeartbeats 1000000 in
theorem rowJoins_few (a b s : Nat) (w : World) (h1 : 1 ≤ s) (h4 : s ≤ 4) (ha : a < 18446744073709551616) (hb : b < 18446744073709551616) (hab : 2 ^ (8 * s) ≤ a ∨ 2 ^ (8 * s) ≤ b) :
    Calls Try.prog 6 #[.int .u64 a, .int .u64 b, .int .i64 s] w fun e w' => e = .returned (.bool true) ∧ Below w.heap.size w w' := by
  have hbad : ∀ (x : Option Addr) (l c n : Nat) (W : World), n < 18446744073709551616 → 2 ^ (8 * s) ≤ n → Calls Try.prog 21 #[.slice x l c, .int .u64 n, .int .i64 s] W fun e w' => e = .returned (.tuple #[.slice none 0 0, .int .i64 1]) ∧ W = w' := by
    intro x l c n W hn h
    refine put_bad x l c n s W hn (by omega) (by omega) (.inr (.inr ⟨by omega, by omega, ?_⟩))
    rw [Int.toNat_natCast]
    have := Nat.div_pos h (Nat.pow_pos (by omega))
    omega
  have hgood : ∀ (x : Option Addr) (l c n : Nat) (zs : List Nat) (W : World), n < 18446744073709551616 → n < 2 ^ (8 * s) → BytesIn W x l c zs → l ≤ 8 → Calls Try.prog 21 #[.slice x l c, .int .u64 n, .int .i64 s] W fun e w' => ∃ v, e = .returned (.tuple #[v, .int .i64 0]) ∧ OwnB w' W.heap.size 5 v (zs ++ beL n s s) ∧ Below W.heap.size W w' := by
    intro x l c n zs W hn h hz hl
    exact put_ok x l c zs n s W hz (by omega) ⟨h1, by omega, fun _ => Nat.div_eq_of_lt h⟩ hn
  have Hbad := Lib.hid hbad
  have Hgood := Lib.hid hgood
  have Ha := Lib.hid ha
  have Hb := Lib.hid hb
  clear hbad hgood ha hb
  by_cases h : 2 ^ (8 * s) ≤ a
  · have H := Lib.hid h
    clear h hab
    by_cases hh : 2 ^ (8 * s) ≤ b
    · have H' := Lib.hid hh
      clear hh
      go_enter Try.func6, Try.ntmps6
      go_wp2_with fail
      refine (Hbad.out none 0 0 a _ Ha.out H.out).mono ?_
      rintro e w1 ⟨rfl, rfl⟩
      go_wp2_with fail
      refine (Hbad.out none 0 0 b _ Hb.out H'.out).mono ?_
      rintro e w1 ⟨rfl, rfl⟩
      go_wp2_with fail
      go_ret
      exact ⟨rfl, nu_refl _⟩
    · have H' := Lib.hid hh
      clear hh
      go_enter Try.func6, Try.ntmps6
      go_wp2_with fail
      refine (Hbad.out none 0 0 a _ Ha.out H.out).mono ?_
      rintro e w1 ⟨rfl, rfl⟩
      go_wp2_with fail
      refine (Hgood.out none 0 0 b [] _ Hb.out (by have := H'.out; omega) (BytesIn.nil_ _) (by omega)).mono ?_
      rintro e w2 ⟨v2, rfl, ho2, hn2⟩
      rw [List.nil_append] at ho2
      obtain ⟨a2, c2, rfl, _, _, hr2, _⟩ := ho2.lies
      rw [beL_length] at hr2 ⊢
      clear hr2 ho2
      have t1 : ((s : Int) == 0) = false := by rw [beq_eq_false_iff_ne]; omega
      go_wp2_with fail
      go_ret
      exact ⟨rfl, hn2⟩
  · have H := Lib.hid h
    have H' := Lib.hid (show 2 ^ (8 * s) ≤ b by omega)
    clear h hab
    go_enter Try.func6, Try.ntmps6
    go_wp2_with fail
    refine (Hgood.out none 0 0 a [] _ Ha.out (by have := H.out; omega) (BytesIn.nil_ _) (by omega)).mono ?_
    rintro e w2 ⟨v2, rfl, ho2, hn2⟩
    rw [List.nil_append] at ho2
    obtain ⟨a2, c2, rfl, _, _, hr2, _⟩ := ho2.lies
    rw [beL_length] at hr2 ⊢
    clear hr2 ho2
    go_wp2_with fail
    refine (Hbad.out _ _ _ b _ Hb.out H'.out).mono ?_
    rintro e w1 ⟨rfl, rfl⟩
    go_wp2_with fail
    go_ret
    exact ⟨rfl, hn2⟩

theorem rowJoins_walk (a b size : Int) (w : World) (w0 : (Lit.int .u64 a).wf = true) (w1 : (Lit.int .u64 b).wf = true) :
    Calls Try.prog 6 #[.int .u64 a, .int .u64 b, .int .i64 size] w fun e w' => e = .returned (.bool true) ∧ Below w.heap.size w w' := by
  have b1 := bounds_u64 w0
  have b2 := bounds_u64 w1
  obtain ⟨a, rfl⟩ := Int.eq_ofNat_of_zero_le b1.1
  obtain ⟨b, rfl⟩ := Int.eq_ofNat_of_zero_le b2.1
  clear w0 w1
  by_cases h : 1 ≤ size ∧ size ≤ 4
  · obtain ⟨s, rfl⟩ := Int.eq_ofNat_of_zero_le (show 0 ≤ size by omega)
    by_cases hab : a < 2 ^ (8 * s) ∧ b < 2 ^ (8 * s)
    · exact rowJoins_ok a b s w (by omega) (by omega) hab.1 hab.2
    · exact rowJoins_few a b s w (by omega) (by omega) (by omega) (by omega) (by omega)
  · have tt : decide (size < 1) = true ∨ (decide (size < 1) = false ∧ decide (4 < size) = true) := by
      by_cases h : size < 1
      · exact .inl (by simpa using h)
      · exact .inr ⟨by simp; omega, by simp; omega⟩
    clear h b1 b2
    rcases tt with t | ⟨t, t'⟩
    all_goals
      go_enter Try.func6, Try.ntmps6
      go_wp2_with fail
      refine (rowAwake_any _).mono ?_
      rintro e w5 ⟨rfl, hb5⟩
      go_wp2_with fail
      go_ret
      exact ⟨rfl, hb5⟩
end Go.Proofs.Ytogcckedelkpbaa
