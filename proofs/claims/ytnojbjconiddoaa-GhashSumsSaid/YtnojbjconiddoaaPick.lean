/-
  The walk of the document's Pick.
-/
import Derived.Test.YtnojbjconiddoaaRows
import Derived.WalkKit
import Derived.ProofKit
import Derived.Lib.Hide
namespace Go.Proofs.Ytnojbjconiddoaa
open Go.ChangeShapes Go.WideShapes Go.ChangeAt Go.RowKit

set_option maxHeartbeats 1000000 in
theorem pick_any (x n : Int) (k : Nat) (w : World) (hk : (k : Int) = x % n) (hn : 1 ≤ n) (hn2 : n ≤ 4611686018427387904) (h1 : -9223372036854775808 ≤ x) (h2 : x ≤ 9223372036854775807) :
    Calls Try.prog 25 #[.int .i64 x, .int .i64 n] w fun e w' => e = .returned (.int .i64 k) ∧ w = w' := by
  have t1 : decide (n < 1) = false := by simp; omega
  by_cases hx : 0 ≤ x
  · have Hk := Lib.hid hk
    have h3 : 0 ≤ x % n := Int.emod_nonneg x (by omega)
    have t2 : ¬ x % n < 0 := by omega
    clear hk
    go_enter Try.func25, Try.ntmps25
    go_wp2_with fail
    go_ret
    exact ⟨by rw [Hk.out]; rfl, rfl⟩
  · have he : x.tmod n = - ((-x) % n) := by
      have := Int.neg_tmod (-x) n
      rw [Int.neg_neg] at this
      rw [this, Int.tmod_eq_emod_of_nonneg (by omega)]
    have h4 := Int.emod_nonneg (-x) (show n ≠ 0 by omega)
    have h5 := Int.emod_lt_of_pos (-x) (show 0 < n by omega)
    have hs : (x + -x) % n = 0 := by rw [Int.add_right_neg]; simp
    by_cases hz : (-x) % n = 0
    · have ez : x.tmod n = 0 := by omega
      have hxz : x % n = 0 := by
        rw [Int.emod_eq_zero_of_dvd]
        exact (Int.dvd_neg).1 (Int.dvd_of_emod_eq_zero hz)
      have Hk := Lib.hid (show (k : Int) = 0 by omega)
      clear hk he h4 h5 hs hz hxz
      have hneg : x < 0 := by omega
      go_enter Try.func25, Try.ntmps25
      go_wp2_with fail
      go_ret
      exact ⟨by rw [Hk.out]; rfl, rfl⟩
    · obtain ⟨m, hm⟩ : ∃ m, m = x.tmod n := ⟨_, rfl⟩
      have hm1 : m < 0 := by omega
      have hm2 : -n < m := by omega
      have hd : x % n = m + n := by
        have h6 := Int.mul_ediv_add_emod (-x) n
        obtain ⟨q, hq⟩ : ∃ q, q = (-x) / n := ⟨_, rfl⟩
        rw [← hq] at h6
        have e1 : x = (m + n) + n * (-q - 1) := by
          rw [Int.mul_sub, Int.mul_neg]
          omega
        rw [e1, Int.add_mul_emod_self_left]
        exact Int.emod_eq_of_lt (by omega) (by omega)
      have Hk := Lib.hid (show (k : Int) = m + n by omega)
      have em := hm.symm
      clear hk he h4 h5 hs hz hd hm
      have hneg : x < 0 := by omega
      go_enter Try.func25, Try.ntmps25
      go_wp2_with fail
      go_ret
      exact ⟨by rw [Hk.out]; rfl, rfl⟩
end Go.Proofs.Ytnojbjconiddoaa
