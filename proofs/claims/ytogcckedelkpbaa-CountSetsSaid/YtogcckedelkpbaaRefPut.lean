/-
  The walk of the document's Put.
-/
import Derived.Test.YtogcckedelkpbaaPut
import Derived.Test.YtogcckedelkpbaaRef02
namespace Go.Proofs.Ytogcckedelkpbaa
open Go.ChangeShapes Go.WideShapes Go.ChangeAt Go.RowKit

/-- The first k bytes of n, the least first. -/
def leL (n k : Nat) : List Nat := (List.range k).map fun t => n / 256 ^ t % 256
theorem leL_succ (n k : Nat) : leL n (k + 1) = leL n k ++ [n / 256 ^ k % 256] := by
  unfold leL
  rw [List.range_succ, List.map_append]
  rfl
theorem leL_length (n k : Nat) : (leL n k).length = k := by simp [leL]
theorem leL_get (n k i : Nat) (h : i < k) : (leL n k)[i]? = some (n / 256 ^ i % 256) := by
  unfold leL
  rw [List.getElem?_map, List.getElem?_range h]
  rfl
theorem leL_lt (n k : Nat) : ∀ x ∈ leL n k, x < 256 := by
  intro x hx
  obtain ⟨t, _, rfl⟩ := List.mem_map.1 hx
  exact Nat.mod_lt _ (by omega)
theorem pow256 (t : Nat) : (256 : Nat) ^ t = 2 ^ (8 * t) := by
  rw [Nat.pow_mul]
theorem div_step (n k : Nat) : n / 256 ^ k / 256 = n / 256 ^ (k + 1) := by rw [Nat.div_div_eq_div_mul, Nat.pow_succ]

theorem wrap_u64_nat (a : Nat) (h : a < 18446744073709551616) : IntKind.u64.wrap (a : Int) = (a : Int) := by
  rw [IntKind.wrap_u64]
  omega
theorem cast_div256 (m : Nat) : (m : Int) / 256 = ((m / 256 : Nat) : Int) := by omega
/-- The bytes of n, from the greatest one on, are those of 'back', from its end on. -/
theorem beL_le (n size j : Nat) (h : j < size) : beL n size (size - j) = beL n size (size - (j + 1)) ++ [n / 256 ^ j % 256] := by
  rw [show size - j = (size - (j + 1)) + 1 by omega, beL_succ, show size - 1 - (size - (j + 1)) = j by omega, pow256]

/-- The first loop, from its beginning on: 'back' and what is left of n. -/
def refRel (w : World) (n size : Nat) (m : Value) (v : Value) (i : Value) (wr : World) : Prop :=
  ∃ k : Nat, k ≤ size ∧ i = .int .i64 k ∧ m = .int .u64 ((n / 256 ^ k : Nat) : Int) ∧ wr.ownsRow w.heap.size 5 1 v k ((leL n k).map vb) ∧ Below w.heap.size w wr

set_option maxRecDepth 100000 in
set_option maxHeartbeats 1000000 in
theorem refPut_any (a : Option Addr) (len cap : Nat) (xs : List Nat) (n size : Nat) (w : World) (hx : BytesIn w a len cap xs) (hlen : len ≤ 140737488355310) (h1 : 1 ≤ size) (h8 : size ≤ 8) (hn : n < 18446744073709551616) :
    Calls Try.prog 22 #[.slice a len cap, .int .u64 n, .int .i64 size] w fun e w' =>
      ((n / 256 ^ size ≠ 0 → e = .returned (.tuple #[.slice none 0 0, .int .i64 1])) ∧
       (n / 256 ^ size = 0 → ∃ v, e = .returned (.tuple #[v, .int .i64 0]) ∧ OwnB w' w.heap.size 5 v (xs ++ beL n size size))) ∧ Below w.heap.size w w' := by
  obtain ⟨i0, hi, hz0, hz1, hz2⟩ := info_parts info_u8
  have Hn := Lib.hid hn
  have t1 : decide ((size : Int) < 1) = false := by simp; omega
  have t2 : decide (8 < (size : Int)) = false := by simp; omega
  clear hn
  go_enter Try.func22, Try.ntmps22
  go_wp2_with fail
  go_loopw [1, 8, 9] (fun m v i wr => refRel w n size m v i wr) (fun _ _ i _ => size - (intOf i).toNat)
  case atStart => exact ⟨0, by omega, rfl, by simp, World.ownsRow_nil _ _ _ _, Below.refl _ _⟩
  case round =>
    obtain ⟨k, hk, rfl, rfl, hown, hb⟩ := hrel
    have hsz := hb.size
    have hm : n / 256 ^ k < 18446744073709551616 := Nat.lt_of_le_of_lt (Nat.div_le_self _ _) Hn.out
    obtain ⟨m, hme⟩ : ∃ m, m = n / 256 ^ k := ⟨_, rfl⟩
    rw [← hme] at hm ⊢
    have Hme := Lib.hid hme
    have Hm := Lib.hid hm
    clear hme hm
    by_cases hlt : k < size
    · have hlt' : (k : Int) < (size : Int) := by omega
      go_wp2_with (at_builtin; refine wpList_append_own _ rfl (.tmp 23) (.tmp 27) 23 rfl w.heap.size 5 i0 (.int .u8 0) 1 1 Try.underlying23 hi hz0 hz1 hz2 rfl (by decide) _ _ _ rfl (hown.alloc _) ⟨wr.heap.size, 0, none⟩ 1 1 [.int .u8 ((m : Int) % 256)] rfl rfl ?c1 ?c2 ?c3 ?c4 ?c5 ?_)
      case c1 => exact cell_one_new _ _ _
      case c2 => intro u hu; obtain rfl := List.mem_singleton.1 hu; rfl
      case c3 => unfold maxLen; omega
      case c4 => omega
      case c5 => simp; omega
      intro v' w3 hown3 hg3 _
      have hb3 := (hb.alloc hb.size (.cells #[.int .u8 ((m : Int) % 256)] 5)).grown hg3 (by simp; omega) (fun k hk => (hown.lt k hk).1)
      have Hown3 := Lib.hid (show w3.ownsRow w.heap.size 5 1 v' (k + 1) ((leL n (k + 1)).map vb) by
        rw [leL_succ, List.map_append, ← Hme.out]
        simpa [vb] using hown3)
      have Hd := Lib.hid (show m / 256 = n / 256 ^ (k + 1) by rw [Hme.out, div_step])
      clear hown3 hown hg3
      go_wp2_with fail
      go_roundw
      case rel => exact ⟨k + 1, by omega, by go_num, by rw [← Hd.out, cast_div256, wrap_u64_nat _ (by have := Hm.out; omega)], Hown3.out, hb3⟩
      case measure => simp [intOf]; omega
    · have hks : k = size := by omega
      have hge : (size : Int) ≤ (k : Int) := by omega
      clear hlt
      by_cases hz : m = 0
      · have Hz := Lib.hid (show n / 256 ^ size = 0 by rw [← hks, ← Hme.out]; exact hz)
        subst hz
        subst hks
        have hwb : OwnB wr w.heap.size 5 _ (leL n k) := ⟨by rw [leL_length]; exact hown, leL_lt n k⟩
        obtain ⟨a2, c2, e2, hc2, hc3, hr2⟩ := hwb.reads
        rw [leL_length] at e2 hc2 hr2
        subst e2
        unfold maxLen at hc3
        clear hown hwb
        obtain ⟨wo, rfl⟩ : ∃ wo : World, wo = wr := ⟨_, rfl⟩
        go_wp2_with fail
        refine (copy_any a len cap xs _ (hx.keep hb) (by omega)).mono ?_
        rintro e w3 ⟨v0, rfl, hown0, hb0⟩
        have hr3 := hr2.keep hb0
        have Hlt := Lib.hid hown0.2
        have Hown0 := Lib.hid hown0.1
        have Hl0 := Lib.hid hx.1.1
        clear hown0
        go_wp2_with fail
        go_loopw [10, 11] (fun v i wr => ∃ j : Nat, j ≤ k ∧ i = .int .i64 ((j : Int) - 1) ∧ wr.ownsRow wo.heap.size 5 1 v (len + (k - j)) ((xs ++ beL n k (k - j)).map vb) ∧ Below wo.heap.size wo wr) (fun _ i _ => (intOf i + 1).toNat)
        case atStart => exact ⟨k, by omega, rfl, by rw [show k - k = 0 by omega, ← Hl0.out]; simpa [beL] using Hown0.out, hb0⟩
        case round =>
          obtain ⟨j, hj, rfl, hownq, hbq⟩ := hrel
          have hszq := hbq.size
          cases j with
          | zero =>
            have Hfin := Lib.hid (put_own Hl0.out (fun x hx => Hlt.out x hx) hownq)
            clear hownq
            go_wp2_with fail
            go_ret2
            exact ⟨⟨fun h => absurd Hz.out h, fun _ => ⟨_, rfl, own_mono Hfin.out hb.size⟩⟩, hb.trans (hbq.mono hb.size)⟩
          | succ j =>
            obtain ⟨b1, o1, x, rfl, hb1, hxx, hwx, hcx⟩ := (hr2.keep hbq).1.elem j (by omega)
            rw [leL_get n k j (by omega)] at hxx
            injection hxx with hxx
            have Hx := Lib.hid hxx
            have e1 : ((j + 1 : Nat) : Int) - 1 = (j : Int) := by omega
            rw [e1]
            have hjk : (j : Int) < (k : Int) := by omega
            have hj0 : j < k := by omega
            clear e1 hxx hwx hr3
            go_wp2_with (at_builtin; refine wpList_append_own _ rfl (.tmp 41) (.tmp 46) 23 rfl wo.heap.size 5 i0 (.int .u8 0) 1 1 Try.underlying23 hi hz0 hz1 hz2 rfl (by decide) _ _ _ rfl (hownq.alloc _) ⟨wr.heap.size, 0, none⟩ 1 1 [.int .u8 (x : Int)] rfl rfl ?c1 ?c2 ?c3 ?c4 ?c5 ?_)
            case c1 => exact cell_one_new _ _ _
            case c2 => intro u hu; obtain rfl := List.mem_singleton.1 hu; rfl
            case c3 => unfold maxLen; omega
            case c4 => omega
            case c5 => simp; omega
            intro v' w5 hown5 hg5 _
            have hb5 := (hbq.alloc hbq.size (.cells #[.int .u8 (x : Int)] 5)).grown hg5 (by simp; omega) (fun k hk => (hownq.lt k hk).1)
            have Hown5 := Lib.hid (show w5.ownsRow wo.heap.size 5 1 v' (len + (k - j)) ((xs ++ beL n k (k - j)).map vb) by
              rw [beL_le n k j hj0, Hx.out, ← List.append_assoc, List.map_append, show len + (k - j) = len + (k - (j + 1)) + 1 by omega]
              simpa [vb] using hown5)
            clear hown5 hownq hg5
            go_wp2_with fail
            go_roundw
            case rel => exact ⟨j, by omega, by go_num, Hown5.out, hb5⟩
            case measure => simp [intOf]
      · have tm : ((m : Int) != 0) = true := by rw [bne_iff_ne]; omega
        have Hz := Lib.hid (show n / 256 ^ size ≠ 0 by rw [← hks, ← Hme.out]; exact hz)
        clear hz hks
        go_wp2_with fail
        go_ret2
        exact ⟨⟨fun _ => rfl, fun h => absurd h Hz.out⟩, hb⟩
end Go.Proofs.Ytogcckedelkpbaa
