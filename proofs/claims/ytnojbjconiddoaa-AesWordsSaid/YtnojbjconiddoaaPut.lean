/-
  The walk of row.Put: a number behind bytes.
-/
import Derived.Test.YtnojbjconiddoaaBytes
import Derived.Laws.CopyOwn
namespace Go.Proofs.Ytnojbjconiddoaa
open Go.ChangeShapes Go.WideShapes Go.ChangeAt Go.RowKit

/-- The first m of the size bytes of n, the greatest first. -/
def beL (n size m : Nat) : List Nat := (List.range m).map fun t => n / 2 ^ (8 * (size - 1 - t)) % 256
theorem beL_succ (n size m : Nat) : beL n size (m + 1) = beL n size m ++ [n / 2 ^ (8 * (size - 1 - m)) % 256] := by
  unfold beL
  rw [List.range_succ, List.map_append]
  rfl
theorem beL_length (n size m : Nat) : (beL n size m).length = m := by simp [beL]
/-- May n be put in size bytes? -/
def putOk (n size : Nat) : Prop := 1 ≤ size ∧ size ≤ 8 ∧ (size < 8 → n / 2 ^ (8 * size) = 0)

theorem beL_lt (n size m : Nat) : ∀ x ∈ beL n size m, x < 256 := by
  intro x hx
  obtain ⟨t, _, rfl⟩ := List.mem_map.1 hx
  exact Nat.mod_lt _ (by omega)
theorem put_own {w : World} {base : Nat} {e : TypeId} {v : Value} {len n size : Nat} {xs : List Nat} (hl : xs.length = len) (hlt : ∀ x ∈ xs, x < 256) (h : w.ownsRow base e 1 v (len + (size - 0)) ((xs ++ beL n size (size - 0)).map vb)) : OwnB w base e v (xs ++ beL n size size) := by
  rw [Nat.sub_zero] at h
  refine ⟨by rw [List.length_append, beL_length, hl]; exact h, ?_⟩
  intro x hx
  rcases List.mem_append.1 hx with hx | hx
  · exact hlt x hx
  · exact beL_lt n size size x hx

set_option maxRecDepth 100000 in
set_option maxHeartbeats 1000000 in
theorem put_ok (a : Option Addr) (len cap : Nat) (xs : List Nat) (n size : Nat) (w : World) (hx : BytesIn w a len cap xs) (hlen : len ≤ 140737488355320) (hp : putOk n size) (hn : n < 18446744073709551616) :
    Calls Try.prog 41 #[.slice a len cap, .int .u64 n, .int .i64 size] w fun e w' =>
      ∃ v, e = .returned (.tuple #[v, .int .i64 0]) ∧ OwnB w' w.heap.size 5 v (xs ++ beL n size size) ∧ Below w.heap.size w w' := by
  obtain ⟨i0, hi, hz0, hz1, hz2⟩ := info_parts info_u8
  obtain ⟨h1, h8, hfit⟩ := hp
  have hxl := Lib.hid hx.1.1
  have hwf : ∀ x ∈ xs, x < 256 := fun x h => wf_u8_lt (hx.1.2.1 x h)
  have Hwf := Lib.hid hwf
  clear hwf
  have Hf := Lib.hid hfit
  have Hn := Lib.hid hn
  clear hfit hn
  obtain ⟨Z, hZ, hmk⟩ := mk_bytes len (len + size) (len : Int) ((len : Int) + size) rfl (by omega) (by omega) (by omega)
  obtain ⟨cs, hcs⟩ : ∃ cs : List Value, cs = xs.map vb := ⟨_, rfl⟩
  have hcl : cs.length = len := by rw [hcs, List.length_map, hx.1.1]
  have hc1 : ∀ v ∈ cs, v.oneCell' = true := by rw [hcs]; exact vb_one xs
  have Hcs := Lib.hid hcs
  have hsrc : 0 < len → ∃ ad, a = some ad ∧ ∀ (j : Nat) (v : Value), cs[j]? = some v → (w.alloc (.cells Z.toArray 5)).cell? (ad.add j) = some v := by
    intro hp
    obtain ⟨b, off, rfl, hlt, hc⟩ := hx.1.2.2 hp
    refine ⟨_, rfl, fun j v hv => ?_⟩
    rw [hcs, List.getElem?_map, Option.map_eq_some_iff] at hv
    obtain ⟨x, hxx, rfl⟩ := hv
    rw [Go.WideShapes.add_plain, World.cell?_alloc_lt _ _ _ hlt]
    exact hc j x hxx
  have Hsrc := Lib.hid hsrc
  have Hcl := Lib.hid hcl
  have HZ := Lib.hid hZ
  have Hhg := Lib.hid (heap_alloc_new w (.cells Z.toArray 5))
  have Hhn := Lib.hid (show cs.length = Nat.min len len by rw [hcl]; simp)
  have Hhp := Lib.hid (show 0 < cs.length → (some (⟨w.heap.size, 0, none⟩ : Addr) = some ⟨w.heap.size, 0, none⟩) ∧ ∃ ad, a = some ad ∧ ∀ (j : Nat) (v : Value), cs[j]? = some v → (w.alloc (.cells Z.toArray 5)).cell? (ad.add j) = some v from fun hp => ⟨rfl, hsrc (by omega)⟩)
  have Hhf := Lib.hid (show 0 + cs.length ≤ Z.length by omega)
  have Hhb := Lib.hid ((Below.refl w.heap.size w).alloc (Nat.le_refl _) (.cells Z.toArray 5))
  clear hcs hsrc hcl hZ Hsrc
  have t1 : decide ((size : Int) < 1) = false := by simp; omega
  have t2 : decide (8 < (size : Int)) = false := by simp; omega
  have t3 : (size < 8 ∧ ((n : Int) / 2 ^ (8 * size) != 0) = false) ∨ 8 ≤ size := by
    by_cases h : size < 8
    · refine .inl ⟨h, ?_⟩
      have := Hf.out h
      have e : (n : Int) / 2 ^ (8 * size) = ((n / 2 ^ (8 * size) : Nat) : Int) := by simp
      rw [e, this]
      rfl
    · exact .inr (by omega)
  rcases t3 with ⟨h, t3⟩ | h
  all_goals
    go_enter Try.func41, Try.ntmps41
    go_wp2_with (refine wpList_copy_splice rfl (.tmp 34) (.tmp 35) 27 27 rfl 5 Try.underlying27 (by kernel_rfl) _ _ _ _ _ _ rfl rfl w.heap.size 0 Z 5 Hhg.out cs Hhn.out Hhp.out Hhf.out hc1 w.heap.size w Hhb.out (Nat.le_refl _) ?_)
    intro w2 hg2 hb2
    have hown2 : w2.ownsRow w.heap.size 5 1 (.slice (some ⟨w.heap.size, 0, none⟩) len (len + size)) len cs := by
      refine ⟨by rw [Hcl.out]; omega, .inr ⟨w.heap.size, len + size, _, rfl, Nat.le_refl _, hg2.out, by omega, by unfold maxLen; omega, ?_, ?_⟩⟩
      · simp only [List.size_toArray]
        rw [length_splice _ _ _ (by rw [Hcl.out, HZ.out]; omega), HZ.out]
        omega
      · simp [splice, ← Hcl.out]
    clear hg2
    go_wp2_with fail
    go_loopw [8, 9] (fun v i wr => ∃ j : Nat, j ≤ size ∧ i = .int .i64 ((j : Int) - 1) ∧ wr.ownsRow w.heap.size 5 1 v (len + (size - j)) (cs ++ (beL n size (size - j)).map vb) ∧ Below w.heap.size w wr) (fun _ i _ => (intOf i + 1).toNat)
    case atStart => exact ⟨size, by omega, rfl, by rw [show size - size = 0 by omega]; simpa [beL] using hown2, hb2⟩
    case round =>
      obtain ⟨j, hj, rfl, hown, hb⟩ := hrel
      cases j with
      | zero =>
        go_wp2_with fail
        go_ret2
        exact ⟨_, rfl, put_own hxl.out Hwf.out (by rw [Hcs.out, ← List.map_append] at hown; exact hown), hb⟩
      | succ j =>
        have e1 : ((j + 1 : Nat) : Int) - 1 = (j : Int) := by omega
        rw [e1]
        clear e1
        go_wp2_with (at_builtin; refine wpList_append_own _ rfl (.tmp 43) (.tmp 49) 27 rfl w.heap.size 5 i0 (.int .u8 0) 1 1 Try.underlying27 hi hz0 hz1 hz2 rfl (by decide) _ _ _ rfl (hown.alloc _) ⟨wr.heap.size, 0, none⟩ 1 1 [.int .u8 ((n : Int) / 2 ^ (8 * j) % 256)] rfl rfl ?c1 ?c2 ?c3 ?c4 ?c5 ?_)
        case c1 => exact cell_one_new _ _ _
        case c2 => intro u hu; obtain rfl := List.mem_singleton.1 hu; rfl
        case c3 => unfold maxLen; omega
        case c4 => omega
        case c5 => have := hb.size; simp; omega
        intro v' w3 hown3 hg3 _
        have hb3 := (hb.alloc hb.size (.cells #[.int .u8 ((n : Int) / 2 ^ (8 * j) % 256)] 5)).grown hg3 (by have := hb.size; simp; omega) (fun k hk => (hown.lt k hk).1)
        have hl : len + (size - (j + 1)) + 1 = len + (size - j) := by omega
        rw [hl] at hown3
        have hbe : cs ++ ((beL n size (size - (j + 1))).map vb ++ [Value.int .u8 ((n : Int) / 2 ^ (8 * j) % 256)]) = cs ++ (beL n size (size - j)).map vb := by
          rw [show size - j = (size - (j + 1)) + 1 by omega, beL_succ, List.map_append, show size - 1 - (size - (j + 1)) = j by omega]
          simp [vb]
        rw [hbe] at hown3
        have Hown3 := Lib.hid hown3
        clear hown3 hbe hl hown hg3
        go_wp2_with fail
        go_roundw
        case rel => exact ⟨j, by omega, by go_num, Hown3.out, hb3⟩
        case measure => simp [intOf]

/-- put_ok at a number of bytes and a number that are spelled in whatever way. -/
theorem put_at (a : Option Addr) (len cap : Nat) (xs : List Nat) (n size : Nat) (ni si : Int) (w : World) (hx : BytesIn w a len cap xs) (hlen : len ≤ 140737488355320) (hp : putOk n size) (hn : n < 18446744073709551616) (hni : ni = (n : Int)) (hsi : si = (size : Int)) :
    Calls Try.prog 41 #[.slice a len cap, .int .u64 ni, .int .i64 si] w fun e w' =>
      ∃ v, e = .returned (.tuple #[v, .int .i64 0]) ∧ OwnB w' w.heap.size 5 v (xs ++ beL n size size) ∧ Below w.heap.size w w' := by
  subst hni
  subst hsi
  exact put_ok a len cap xs n size w hx hlen hp hn

/-- What can't be put. -/
theorem put_bad (a : Option Addr) (len cap : Nat) (n : Nat) (size : Int) (w : World) (hn : n < 18446744073709551616) (h0 : -9223372036854775808 ≤ size) (h9 : size < 9223372036854775808)
    (hp : size < 1 ∨ 8 < size ∨ (1 ≤ size ∧ size < 8 ∧ n / 2 ^ (8 * size.toNat) ≠ 0)) :
    Calls Try.prog 41 #[.slice a len cap, .int .u64 n, .int .i64 size] w fun e w' => e = .returned (.tuple #[.slice none 0 0, .int .i64 1]) ∧ w = w' := by
  have Hn := Lib.hid hn
  clear hn
  rcases hp with hp | hp | ⟨h1, h8, hp⟩
  · have t1 : decide (size < 1) = true := by simpa using hp
    go_enter Try.func41, Try.ntmps41
    go_wp2_with fail
    go_ret2
    exact ⟨rfl, rfl⟩
  · have t1 : decide (size < 1) = false := by simp; omega
    have t2 : decide (8 < size) = true := by simpa using hp
    go_enter Try.func41, Try.ntmps41
    go_wp2_with fail
    go_ret2
    exact ⟨rfl, rfl⟩
  · obtain ⟨s, rfl⟩ := Int.eq_ofNat_of_zero_le (show 0 ≤ size by omega)
    rw [Int.toNat_natCast] at hp
    have t1 : decide ((s : Int) < 1) = false := by simp; omega
    have t2 : decide (8 < (s : Int)) = false := by simp; omega
    have t3 : ((n : Int) / 2 ^ (8 * s) != 0) = true := by
      have e : (n : Int) / 2 ^ (8 * s) = ((n / 2 ^ (8 * s) : Nat) : Int) := by simp
      rw [e, bne_iff_ne]
      omega
    clear hp h0 h9
    go_enter Try.func41, Try.ntmps41
    go_wp2_with fail
    go_ret2
    exact ⟨rfl, rfl⟩
end Go.Proofs.Ytnojbjconiddoaa
