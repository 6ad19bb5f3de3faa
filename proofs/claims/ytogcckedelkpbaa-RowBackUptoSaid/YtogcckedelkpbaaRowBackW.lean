/-
  The walk of RowBack.
-/
import Derived.Test.YtogcckedelkpbaaRowSticksW
namespace Go.Proofs.Ytogcckedelkpbaa
open Go.ChangeShapes Go.WideShapes Go.ChangeAt Go.RowKit

theorem putOk_lt {n s : Nat} (h : putOk n s) (hn : n < 18446744073709551616) : n < 2 ^ (8 * s) := by
  obtain ⟨h1, h8, hf⟩ := h
  by_cases hs : s < 8
  · have h0 := hf hs
    rcases Nat.lt_or_ge n (2 ^ (8 * s)) with h | h
    · exact h
    · have := Nat.div_pos h (Nat.pow_pos (n := 8 * s) (show 0 < 2 by omega))
      omega
  · have : s = 8 := by omega
    subst this
    exact hn

/-- Take of just so many as stand ahead. -/
theorem take_head (B g : Nat) (xs ys : List Nat) (n : Int) (w : World) (hr : RdAt w B g (xs ++ ys) 0) (hl : (xs ++ ys).length ≤ 140737488355320) (hn : n = (xs.length : Int)) :
    Calls Try.prog 27 #[.pointer (some ⟨g, 0, none⟩), .int .i64 n] w fun e w' => (∃ v, e = .returned v ∧ OwnB w' w.heap.size 5 v xs) ∧ RdAt w' B g ys 0 ∧ w.grownBy w' (some g) := by
  subst hn
  refine (take_any B g _ 0 _ w hr hl).mono ?_
  rintro e w' ⟨h1, h2, h3⟩
  rw [show decide ((0 : Int) ≤ (xs.length : Int)) = true by simp, rdStep_ok (by rw [List.length_append]; omega)] at h1 h2
  simp only [List.take_left', List.drop_left'] at h1 h2
  exact ⟨h1, h2, h3⟩
theorem num_head (B g : Nat) (ys : List Nat) (n s : Nat) (w : World) (hr : RdAt w B g (beL n s s ++ ys) 0) (hp : putOk n s) (hn : n < 18446744073709551616) :
    Calls Try.prog 26 #[.pointer (some ⟨g, 0, none⟩), .int .i64 s] w fun e w' => e = .returned (.int .u64 (n : Int)) ∧ RdAt w' B g ys 0 ∧ w.grownBy w' (some g) := by
  refine (num_any B g _ 0 _ w hr).mono ?_
  rintro e w' ⟨h1, h2, h3⟩
  have hr1 : numRight (s : Int) = true := by
    have := hp.1
    have := hp.2.1
    simp [numRight]
    omega
  rw [hr1, rdStep_ok (by rw [List.length_append, beL_length]; omega)] at h1 h2
  have e1 : (beL n s s ++ ys).take s = beL n s s := List.take_left' (beL_length n s s)
  have e2 : (beL n s s ++ ys).drop s = ys := List.drop_left' (beL_length n s s)
  simp only [e1, e2] at h1 h2
  rw [numOf_be n s (putOk_lt hp hn)] at h1
  exact ⟨h1, h2, h3⟩

set_option maxRecDepth 100000 in
set_option maxHeartbeats 2000000 in
theorem rowBack_ok (a : Option Addr) (len cap : Nat) (xs : List Nat) (n s : Nat) (b : Option Addr) (lb cb : Nat) (ys : List Nat) (w : World) (hx : BytesIn w a len cap xs) (hy : BytesIn w b lb cb ys) (hlen : len ≤ 1048576) (hlb : lb ≤ 1048576) (hp : putOk n s) (hn : n < 18446744073709551616) :
    Calls Try.prog 7 #[.slice a len cap, .int .u64 n, .int .i64 s, .slice b lb cb] w fun e w' => e = .returned (.bool true) ∧ Below w.heap.size w w' := by
  obtain ⟨i0, hi, hz0, hz1, hz2⟩ := info_parts info_u8
  have hs8 : s ≤ 8 := hp.2.1
  have Hp := Lib.hid hp
  have Hn := Lib.hid hn
  have Hlx := Lib.hid hx.1.1
  have Hly := Lib.hid hy.1.1
  have Hx := Lib.hid hx
  have Hy := Lib.hid hy
  clear hp hn hx hy
  go_enter Try.func7, Try.ntmps7
  go_wp2_with fail
  refine (put_ok a len cap xs n s w Hx.out (by omega) Hp.out Hn.out).mono ?_
  rintro e w1 ⟨v1, rfl, ho1, hn1⟩
  obtain ⟨zs, hzs⟩ : ∃ zs, zs = xs ++ beL n s s := ⟨_, rfl⟩
  rw [← hzs] at ho1
  have hzl : zs.length ≤ 1048584 := by rw [hzs, List.length_append, beL_length, Hlx.out]; omega
  have Hzs := Lib.hid hzs
  have Ho1 := Lib.hid ho1
  have Hy1 := Lib.hid (Hy.out.keep hn1)
  clear hzs ho1
  go_wp2_with (at_builtin; refine wpList_append_src rfl (.tmp 30) (.tmp 31) 23 rfl w.heap.size 5 i0 (.int .u8 0) 1 1 Try.underlying23 hi hz0 hz1 hz2 rfl (by decide) v1 zs.length (zs.map vb) rfl Ho1.out.1 b lb cb (ys.map vb) rfl Hy1.out.2 ?c0 Hy1.out.src (vb_one ys) ?c1 ?c2 ?c3 ?_)
  case c0 => rw [List.length_map, Hly.out]; omega
  case c1 => unfold maxLen; omega
  case c2 => omega
  case c3 => exact hn1.size
  intro v2 w2 hown2 hg2
  have hn2 := hn1.grown hg2 (show w.heap.size ≤ _ from hn1.size) (fun k hk => (Ho1.out.1.lt k hk).1)
  obtain ⟨us, hus⟩ : ∃ us, us = zs ++ ys := ⟨_, rfl⟩
  have ho2 : OwnB w2 w.heap.size 5 v2 us := by
    rw [hus]
    refine ⟨by rw [List.length_append, Hly.out, List.map_append]; exact hown2, fun x hx => ?_⟩
    rcases List.mem_append.1 hx with h | h
    · exact Ho1.out.2 x h
    · exact wf_u8_lt (Hy.out.1.2.1 x h)
  have hul : us.length ≤ 2097160 := by rw [hus, List.length_append, Hly.out]; omega
  have Hus := Lib.hid (show us = xs ++ (beL n s s ++ ys) by rw [hus, Hzs.out, List.append_assoc])
  obtain ⟨a2, c2, rfl, _, _, hr2, _⟩ := ho2.lies
  have Hr2 := Lib.hid hr2
  clear hus ho2 hr2 hown2 hg2 hn1 Hy1 Ho1 hzl
  go_wp2_with fail
  refine (newReader_any a2 us.length c2 us w2 Hr2.out (by omega)).mono ?_
  rintro e w3 ⟨g, rfl, hrd, hb3⟩
  rw [Hus.out] at hrd
  have hg0 : w.heap.size ≤ g := Nat.le_trans hn2.size hrd.low
  have hn3 := nu_trans hn2 hb3
  have Hrd := Lib.hid hrd
  have Hul := Lib.hid (show (xs ++ (beL n s s ++ ys)).length ≤ 140737488355320 by rw [← Hus.out]; omega)
  clear hrd hb3 hn2
  go_wp2_with fail
  refine (take_head _ g xs _ _ w3 Hrd.out Hul.out (by rw [Hlx.out])).mono ?_
  rintro e w4 ⟨⟨v4, rfl, ho4⟩, hr4, hg4⟩
  have hn4 := nu_grown hn3 hg4 hg0
  have hgw : g < w3.heap.size := Hrd.out.lt
  obtain ⟨a4, c4, rfl, _, _, hb4, hl4⟩ := ho4.lies
  rw [Hlx.out] at hb4 ⊢
  have H4 := Lib.hid (show BytesIn w4 a4 len c4 xs ∧ ∀ ad, a4 = some ad → ad.block ≠ g from ⟨hb4, fun ad had => by have := (hl4 ad had).1; omega⟩)
  have Hr4 := Lib.hid hr4
  clear ho4 hr4 hg4 hn3 hb4 hl4
  go_wp2_with fail
  refine (num_head _ g ys n s w4 Hr4.out Hp.out Hn.out).mono ?_
  rintro e w5 ⟨rfl, hr5, hg5⟩
  have hn5 := nu_grown hn4 hg5 hg0
  have H5 := Lib.hid (H4.out.1.far hg5 (fun _ ad had => H4.out.2 ad had))
  have Hr5 := Lib.hid (show RdAt w5 w2.heap.size g (ys ++ []) 0 by rw [List.append_nil]; exact hr5)
  clear hr5 hg5 hn4
  go_wp2_with fail
  refine (take_head _ g ys [] _ w5 Hr5.out (by rw [List.append_nil, Hly.out]; omega) (by rw [Hly.out])).mono ?_
  rintro e w6 ⟨⟨v6, rfl, ho6⟩, hr6, hg6⟩
  have hn6 := nu_grown hn5 hg6 hg0
  have H6 := Lib.hid (H5.out.far hg6 (fun _ ad had => H4.out.2 ad had))
  obtain ⟨a6, c6, rfl, _, _, hb6, _⟩ := ho6.lies
  rw [Hly.out] at hb6 ⊢
  have Hb6 := Lib.hid hb6
  have Hr6 := Lib.hid hr6
  clear ho6 hr6 hg6 hn5 hb6
  go_wp2_with fail
  refine (same_any a4 a len len c4 cap xs xs w6 H6.out.1 (Hx.out.keep hn6).1 (by omega) (by omega)).mono ?_
  rintro e w7 ⟨rfl, n7, rfl⟩
  rw [show decide (xs = xs) = true by simp]
  have hn7 := nu_drewN hn6 n7
  have Hr7 := Lib.hid (Hr6.out.keep (nu_drewN (nu_refl w6) n7))
  have Hb7 := Lib.hid (Hb6.out.drewN n7)
  generalize w6.drewN n7 = w7 at *
  clear hn6
  go_wp2_with fail
  refine (same_any a6 b lb lb c6 cb ys ys w7 Hb7.out.1 (Hy.out.keep hn7).1 (by omega) (by omega)).mono ?_
  rintro e w8 ⟨rfl, n8, rfl⟩
  rw [show decide (ys = ys) = true by simp]
  have hn8 := nu_drewN hn7 n8
  have Hr8 := Lib.hid (Hr7.out.keep (nu_drewN (nu_refl w7) n8))
  generalize w7.drewN n8 = w8 at *
  clear hn7
  go_wp2_with fail
  refine (end_rd _ g [] 0 w8 Hr8.out).mono ?_
  rintro e w9 ⟨rfl, rfl⟩
  rw [show endOf ([] : List Nat).length 0 = 0 from rfl]
  go_wp2_with fail
  refine (left_rd _ g [] 0 w8 Hr8.out).mono ?_
  rintro e w9 ⟨rfl, rfl⟩
  go_wp2_with fail
  refine (rowAwake_any _).mono ?_
  rintro e w9 ⟨rfl, hb9⟩
  have hn9 := nu_trans hn8 hb9
  go_wp2_with fail
  go_ret
  exact ⟨rfl, hn9⟩

theorem rowBack_walk (a : Option Addr) (len cap : Nat) (xs : List Nat) (n size : Int) (b : Option Addr) (lb cb : Nat) (ys : List Nat) (w : World) (hx : BytesIn w a len cap xs) (hy : BytesIn w b lb cb ys) (hlen : len ≤ 1048576) (hlb : lb ≤ 1048576) (w1 : (Lit.int .u64 n).wf = true) (w2 : (Lit.int .i64 size).wf = true) :
    Calls Try.prog 7 #[.slice a len cap, .int .u64 n, .int .i64 size, .slice b lb cb] w fun e w' => e = .returned (.bool true) ∧ Below w.heap.size w w' := by
  have b1 := bounds_u64 w1
  have b2 := bounds_i64 w2
  obtain ⟨n, rfl⟩ := Int.eq_ofNat_of_zero_le b1.1
  by_cases hok : ∃ s : Nat, size = (s : Int) ∧ putOk n s
  · obtain ⟨s, rfl, hp⟩ := hok
    exact rowBack_ok a len cap xs n s b lb cb ys w hx hy hlen hlb hp (by omega)
  · have hbad : size < 1 ∨ 8 < size ∨ (1 ≤ size ∧ size < 8 ∧ n / 2 ^ (8 * size.toNat) ≠ 0) := by
      by_cases h1 : size < 1
      · exact .inl h1
      · by_cases h8 : 8 < size
        · exact .inr (.inl h8)
        · refine .inr (.inr ⟨by omega, ?_, ?_⟩)
          · rcases Int.lt_or_le size 8 with h | h
            · exact h
            · exact absurd ⟨8, by omega, by omega, by omega, fun h => absurd h (by omega)⟩ hok
          · intro h0
            exact hok ⟨size.toNat, by omega, by omega, by omega, fun _ => h0⟩
    have Hput := Lib.hid (put_bad a len cap n size w (by omega) (by omega) (by omega) hbad)
    clear hbad hok w1 w2 b1 b2
    go_enter Try.func7, Try.ntmps7
    go_wp2_with fail
    refine Hput.out.mono ?_
    rintro e w1 ⟨rfl, rfl⟩
    go_wp2_with fail
    refine (rowAwake_any _).mono ?_
    rintro e w9 ⟨rfl, hb9⟩
    go_wp2_with fail
    go_ret
    exact ⟨rfl, hb9⟩
end Go.Proofs.Ytogcckedelkpbaa
