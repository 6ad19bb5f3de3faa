/-
  The walk of law04's great.
-/
import Derived.Test.YtlekepigndlbhaaDoorJoin
namespace Go.Proofs.YtlekepigndlbhaaDoor
open Go.ChangeShapes Go.WideShapes Go.ChangeAt Go.RowKit

set_option maxRecDepth 100000 in
set_option maxHeartbeats 1000000 in
theorem great4_any {w : World} {a ka : Option Addr} {len cap klen kcap : Nat} {ps : List (List Nat)} (h : PartsIn w a len ps) (hm : len ≤ maxLen) (hkm : klen ≤ maxLen) (v : Bool) (hv : decide (20000 < gsum ps ∨ 20000 < klen) = v) :
    Calls Tryd.prog 24 #[.slice ka klen kcap, .slice a len cap] w fun e w' => e = .returned (.bool v) ∧ w' = w := by
  have HP := Lib.hid h
  have Hv := Lib.hid hv
  have hm64 : len ≤ 9223372036854775807 := by unfold maxLen at hm; omega
  have hk64 : klen ≤ 9223372036854775807 := by unfold maxLen at hkm; omega
  clear h hm hv hkm
  go_enter Tryd.func24, Tryd.ntmps24
  go_wp2_with fail
  go_loop [5, 6] (fun n i => ∃ k N : Nat, k ≤ len ∧ i = .int .i64 k ∧ n = .int .i64 N ∧ N = gsum (ps.take k) ∧ N ≤ 40002) (fun _ i => len - (intOf i).toNat)
  case atStart => exact ⟨0, 0, by omega, rfl, rfl, by simp [gsum], by omega⟩
  case round =>
    obtain ⟨k, N, hk, rfl, rfl, hN, hN2⟩ := hrel
    have HN := Lib.hid hN
    clear hN
    by_cases hlt : k < len ∧ N ≤ 20000
    · obtain ⟨hlt, hNs⟩ := hlt
      have hi : (k : Int) < (len : Int) := by omega
      have hi2 : (N : Int) ≤ 20000 := by omega
      obtain ⟨b, off, rfl, hbl, hcs⟩ := HP.out.2 (by omega)
      have hpk : ps[k]? = some (ps[k]'(by rw [HP.out.1]; exact hlt)) := List.getElem?_eq_getElem _
      generalize ps[k]'(by rw [HP.out.1]; exact hlt) = p at hpk
      obtain ⟨ai, li, ci, hc, hlc, hcm, hby⟩ := hcs k p hpk
      have Hs := Lib.hid (show gsum (ps.take (k + 1)) = N + (1 + min li 20001) by rw [List.take_add_one, hpk, Option.toList_some, gsum_snoc, ← HN.out, hby.1.1])
      clear hcs hpk hby HN
      have hli : li ≤ 9223372036854775807 := by unfold maxLen at hcm; omega
      clear hlc hcm
      go_wp2_with fail
      go_round
      case rel =>
        have e : ((N + 1 + min li 20001 : Nat) : Int) = (N : Int) + 1 + min (li : Int) 20001 := by omega
        exact ⟨k + 1, N + 1 + min li 20001, by omega, by go_num, by rw [e], by rw [Hs.out]; omega, by omega⟩
      case measure => simp [intOf]; omega
    · by_cases hg : 20000 < N
      · have hi3 : (20000 : Int) < (N : Int) := by omega
        have hi2 : ¬ (N : Int) ≤ 20000 := by omega
        have hd : v = true := by
          rw [← Hv.out]
          exact decide_eq_true (.inl (by have h1 := gsum_take ps k; have h2 := HN.out; omega))
        have Hd := Lib.hid hd
        clear hd hlt
        by_cases hkl : k < len
        · have hi : (k : Int) < (len : Int) := by omega
          go_wp2_with fail
          go_ret
          exact ⟨by rw [Hd.out]; rfl, rfl⟩
        · have hi : ¬ (k : Int) < (len : Int) := by omega
          go_wp2_with fail
          go_ret
          exact ⟨by rw [Hd.out]; rfl, rfl⟩
      · obtain rfl : k = len := by omega
        have hi3 : ¬ (20000 : Int) < (N : Int) := by omega
        have hN := HN.out
        rw [List.take_of_length_le (by rw [HP.out.1]; exact Nat.le_refl _)] at hN
        have hd : v = decide (20000 < klen) := by
          rw [← Hv.out, ← hN]
          simp [hg]
        have Hd := Lib.hid hd
        clear hlt hN hd
        by_cases hkk : 20000 < klen
        · have hi4 : (20000 : Int) < (klen : Int) := by omega
          have He := Lib.hid (show v = true by rw [Hd.out]; exact decide_eq_true hkk)
          go_wp2_with fail
          go_ret
          exact ⟨by rw [He.out]; rfl, rfl⟩
        · have hi4 : ¬ (20000 : Int) < (klen : Int) := by omega
          have He := Lib.hid (show v = false by rw [Hd.out]; exact decide_eq_false hkk)
          go_wp2_with fail
          go_ret
          exact ⟨by rw [He.out]; rfl, rfl⟩
end Go.Proofs.YtlekepigndlbhaaDoor
