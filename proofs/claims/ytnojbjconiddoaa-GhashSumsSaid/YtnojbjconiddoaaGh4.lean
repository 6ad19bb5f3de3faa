/-
  The walks of ghash: next, bytes.
-/
import Derived.Test.YtnojbjconiddoaaGh3
namespace Go.Proofs.Ytnojbjconiddoaa
open Go.ChangeShapes Go.WideShapes Go.ChangeAt Go.RowKit

set_option maxRecDepth 100000 in
set_option maxHeartbeats 1000000 in
theorem gh_next (p : Nat) (hp : p < 2 ^ 128) (w : World) :
    Calls Try.prog 38 #[.agg (halfL p).toArray] w fun e w' => e = .returned (.agg (halfL (Gh.T p)).toArray) ∧ Below w.heap.size w w' := by
  obtain ⟨h, hh⟩ : ∃ h, h = Gh.hi p := ⟨_, rfl⟩
  obtain ⟨l, hl⟩ : ∃ l, l = Gh.lo p := ⟨_, rfl⟩
  have hh8 : h < 18446744073709551616 := by rw [hh]; exact Gh.hi_lt p
  have hl8 : l < 18446744073709551616 := by rw [hl]; exact Gh.lo_lt p
  obtain ⟨e1, e2⟩ := Gh.step_eq p hp
  rw [← hh, ← hl] at e1 e2
  have HE := Lib.hid (show halfL (Gh.T p) = [.int .u64 ((Gh.stepH h l : Nat) : Int), .int .u64 ((Gh.stepL h l : Nat) : Int)] by unfold halfL; rw [e1, e2])
  have e0 : (halfL p).toArray = #[.int .u64 (h : Int), .int .u64 (l : Int)] := by unfold halfL; rw [← hh, ← hl]
  rw [e0]
  have e3 : bits .and .u64 (l : Int) 1 = ((l % 2 : Nat) : Int) := by
    have := u64_and_nat l 1 hl8 (by omega)
    rw [Nat.and_one_is_mod] at this
    exact this
  obtain ⟨sl, hsl⟩ : ∃ sl, sl = Gh.stepL h l := ⟨_, rfl⟩
  obtain ⟨sh, hsh⟩ : ∃ sh, sh = Gh.stepH h l := ⟨_, rfl⟩
  rw [← hsl, ← hsh] at HE
  have e4 : bits .or .u64 ((l : Int) / 2) (IntKind.u64.wrap ((h : Int) * 9223372036854775808)) = (sl : Int) := by
    have h1 : IntKind.u64.wrap ((h : Int) * 9223372036854775808) = ((h * 9223372036854775808 % 18446744073709551616 : Nat) : Int) := by rw [IntKind.wrap_u64]; omega
    have h2 : (l : Int) / 2 = ((l / 2 : Nat) : Int) := by omega
    rw [h1, h2, u64_or_nat _ _ (by omega) (by omega), hsl]
    rfl
  clear e0 e1 e2 hh hl hsl
  rcases Nat.mod_two_eq_zero_or_one l with hm | hm
  · rw [hm] at e3
    have e5 : (h : Int) / 2 = (sh : Int) := by
      have h1 : sh = h / 2 := by rw [hsh]; unfold Gh.stepH; rw [if_neg (by omega), Nat.xor_zero]
      omega
    clear hsh hm
    go_enter Try.func38, Try.ntmps38
    go_wp2_with fail
    exact bodyPost_ret (results_blkS rfl _ (w.heap.size + 1) 58 _ rfl ((Blk.made1 w _ 58 #[.int .u64 (sh : Int), .int .u64 (sl : Int)]).alloc _) Try.underlying58 (by kernel_rfl)) rfl ⟨by rw [HE.out], nu_alloc (nu_alloc (nu_alloc (nu_refl w) _) _) _⟩
  · rw [hm] at e3
    have e5 : bits .xor .u64 ((h : Int) / 2) 16212958658533785600 = (sh : Int) := by
      have h1 : (h : Int) / 2 = ((h / 2 : Nat) : Int) := by omega
      have h2 := u64_xor_nat (h / 2) 16212958658533785600 (by omega) (by omega)
      have h3 : sh = h / 2 ^^^ 16212958658533785600 := by rw [hsh]; unfold Gh.stepH; rw [if_pos hm]
      rw [h3, h1]
      exact h2
    clear hsh hm
    go_enter Try.func38, Try.ntmps38
    go_wp2_with fail
    exact bodyPost_ret (results_blkS rfl _ (w.heap.size + 1) 58 _ rfl ((Blk.made1 w _ 58 #[.int .u64 (sh : Int), .int .u64 (sl : Int)]).alloc _) Try.underlying58 (by kernel_rfl)) rfl ⟨by rw [HE.out], nu_alloc (nu_alloc (nu_alloc (nu_refl w) _) _) _⟩
end Go.Proofs.Ytnojbjconiddoaa
