/-
  The walk of RowPuts.
-/
import Derived.Test.YtogcckedelkpbaaRowAwake
namespace Go.Proofs.Ytogcckedelkpbaa
open Go.ChangeShapes Go.WideShapes Go.ChangeAt Go.RowKit

/-- Lent bytes, read. -/
theorem lent_bytes {w : World} {g len : Nat} {xs : List Nat} (hg : Blk w g 5 (lentCells xs)) (hl : xs.length = len) (hb : ∀ x ∈ xs, x < 256) : BytesIn w (some ⟨g, 0, none⟩) len (len + 3) xs :=
  ⟨⟨hl, fun x hx => wf_u8_of (hb x hx), fun _ => ⟨g, 0, rfl, hg.lt, fun j n hn => by
    rw [Nat.zero_add]
    refine hg.at j _ ?_
    have hj : j < xs.length := (List.getElem?_eq_some_iff.1 hn).1
    unfold lentCells
    rw [List.map_append, List.getElem?_toArray, List.getElem?_append_left (by rw [List.length_map]; exact hj), List.getElem?_map, hn]
    rfl⟩⟩, fun h => by cases h⟩

theorem BytesIn.ne_new {w : World} {a : Option Addr} {len cap k : Nat} {xs : List Nat} (h : BytesIn w a len cap xs) (hk : w.heap.size ≤ k) : 0 < len → ∀ ad, a = some ad → ad.block ≠ k := by
  rintro hp ad rfl
  obtain ⟨b, off, hb, hlt, _⟩ := h.1.2.2 hp
  injection hb with hb
  subst hb
  simp
  omega

theorem refPut_out (a : Option Addr) (len cap : Nat) (n : Int) (size : Int) (w : World) (hp : size < 1 ∨ 8 < size) :
    Calls Try.prog 22 #[.slice a len cap, .int .u64 n, .int .i64 size] w fun e w' => e = .returned (.tuple #[.slice none 0 0, .int .i64 1]) ∧ w = w' := by
  have tt : decide (size < 1) = true ∨ (decide (size < 1) = false ∧ decide (8 < size) = true) := by
    by_cases h : size < 1
    · exact .inl (by simpa using h)
    · exact .inr ⟨by simp; omega, by simp; omega⟩
  clear hp
  rcases tt with t | ⟨t, t'⟩
  all_goals
    go_enter Try.func22, Try.ntmps22
    go_wp2_with fail
    go_ret2
    exact ⟨rfl, rfl⟩

theorem fit_256 {n size : Nat} (h : putOk n size) (hn : n < 18446744073709551616) : n / 256 ^ size = 0 := by
  obtain ⟨h1, h8, hf⟩ := h
  rw [pow256]
  by_cases h : size < 8
  · exact hf h
  · have : size = 8 := by omega
    subst this
    exact Nat.div_eq_of_lt (by simpa using hn)

set_option maxRecDepth 100000 in
set_option maxHeartbeats 2000000 in
theorem rowPuts_ok (a : Option Addr) (len cap : Nat) (xs : List Nat) (n size : Nat) (w : World) (hx : BytesIn w a len cap xs) (hlen : len ≤ 140737488351232) (hp : putOk n size) (hn : n < 18446744073709551616) :
    Calls Try.prog 5 #[.slice a len cap, .int .u64 n, .int .i64 size] w fun e w' => e = .returned (.bool true) ∧ Below w.heap.size w w' := by
  have Hp := Lib.hid hp
  have Hn := Lib.hid hn
  have Hf := Lib.hid (fit_256 hp hn)
  have hsz : 1 ≤ size ∧ size ≤ 8 := ⟨hp.1, hp.2.1⟩
  have Hl := Lib.hid hx.1.1
  have Hb := Lib.hid (show ∀ x ∈ xs, x < 256 from fun x h => wf_u8_lt (hx.1.2.1 x h))
  have Hx := Lib.hid hx
  clear hp hn
  go_enter Try.func5, Try.ntmps5
  go_wp2_with fail
  refine (lent_any a len cap xs w hx (by omega)).mono ?_
  rintro e w1 ⟨rfl, hg1, hn1⟩
  have hx1 := hx.keep hn1
  have Hg1 := Lib.hid hg1
  clear hg1 hx
  go_wp2_with fail
  refine (put_ok (some ⟨w.heap.size, 0, none⟩) len (len + 3) xs n size w1 (lent_bytes Hg1.out Hl.out Hb.out) (by omega) Hp.out Hn.out).mono ?_
  rintro e w2 ⟨v2, rfl, ho2, hb2⟩
  have hx2 := hx1.keep hb2
  have hn2 := nu_trans hn1 hb2
  have Hg2 := Lib.hid (Hg1.out.below hb2 Hg1.out.lt)
  obtain ⟨ys, hys⟩ : ∃ ys, ys = xs ++ beL n size size := ⟨_, rfl⟩
  have hyl : 0 < ys.length := by rw [hys, List.length_append, beL_length]; omega
  have hym : ys.length ≤ 140737488351240 := by rw [hys, List.length_append, beL_length, Hl.out]; omega
  rw [← hys] at ho2
  have Hys := Lib.hid hys
  clear hys
  have hsz2 := hn2.size
  have hsz1 := hn1.size
  have hw1 : w.heap.size < w1.heap.size := Hg1.out.lt
  clear hx1
  have Ho2 := Lib.hid ho2
  obtain ⟨k, c2, cur, hv2, hk1, hk2, hk3, hk4, hk5, hk6⟩ := ho2.form hyl
  subst hv2
  have Hk := Lib.hid (And.intro hk2 hk6)
  clear hk2 hk5 hk6 ho2 hn1 hb2
  go_wp2_with fail
  refine (refPut_any a len cap xs n size w2 hx2 (by omega) hsz.1 hsz.2 Hn.out).mono ?_
  rintro e w3 ⟨⟨_, hv⟩, hb3⟩
  obtain ⟨v3, rfl, ho3⟩ := hv Hf.out
  rw [← Hys.out] at ho3
  clear hv
  have hx3 := hx2.keep hb3
  have hn3 := nu_trans hn2 hb3
  have Hg3 := Lib.hid (Hg2.out.below hb3 Hg2.out.lt)
  have Hk3 := Lib.hid (Hk.out.1.below hb3 Hk.out.1.lt)
  obtain ⟨a3, c3, rfl, _, _, hr3, _⟩ := ho3.lies
  obtain ⟨a2, c2', hv2, _, _, hr2⟩ := Ho2.out.reads
  injection hv2 with hv2 _ hv2'
  subst hv2
  subst hv2'
  have Hr2 := Lib.hid (hr2.keep hb3)
  have Hr3 := Lib.hid hr3
  clear hr2 hr3 ho3 hx2 hn2 hsz2 hb3
  go_wp2_with fail
  refine (same_any _ _ ys.length ys.length _ _ ys ys w3 Hr2.out.1 Hr3.out.1 (by omega) (by omega)).mono ?_
  rintro e w4 ⟨rfl, n4, rfl⟩
  rw [show decide (ys = ys) = true by simp]
  go_wp2_with fail
  refine (kept_any w.heap.size a len cap xs _ (Hg3.out.drewN n4) hx3.1 (by omega)).mono ?_
  rintro e w4 ⟨rfl, n5, rfl⟩
  have hn4 := nu_drewN (nu_drewN hn3 n4) n5
  have hx4 := (hx3.drewN n4).drewN n5
  have Hg4 := Lib.hid ((Hg3.out.drewN n4).drewN n5)
  have Hk4 := Lib.hid ((Hk3.out.drewN n4).drewN n5)
  generalize (w3.drewN n4).drewN n5 = w4 at *
  clear hn3 hx3 Hr2 Hr3
  obtain ⟨y0, hy0⟩ : ∃ y, ys[0]? = some y := ⟨_, List.getElem?_eq_getElem hyl⟩
  have ck := Hk4.out.at 0 _ (own_cell Hk.out.2 hy0)
  have fk := Hk4.out.free 0
  unfold vb at ck
  clear hy0
  go_wp2_with fail
  have hgr := gb_set (gb_refl w4 (some k)) (p := ⟨k, 0, none⟩) (.inl rfl) (.int .u8 (((y0 : Int) + 1) % 256))
  refine (kept_any w.heap.size a len cap xs _ (Hg4.out.far (p := ⟨k, 0, none⟩) (by simp; omega) _) (hx4.far hgr (Hx.out.ne_new (by omega))).1 (by omega)).mono ?_
  rintro e w5 ⟨rfl, n6, rfl⟩
  have hn5 := nu_drewN (nu_set hn4 (p := ⟨k, 0, none⟩) (show w.heap.size ≤ k by omega) (.int .u8 (((y0 : Int) + 1) % 256))) n6
  generalize ((w4.setCell ⟨k, 0, none⟩ (.int .u8 (((y0 : Int) + 1) % 256))).drewN n6) = w5 at hn5 ⊢
  clear hgr hx4 hn4 Hg4 Hk4 ck fk
  go_wp2_with fail
  refine (rowAwake_any w5).mono ?_
  rintro e w6 ⟨rfl, hb6⟩
  have hn6 := nu_trans hn5 hb6
  go_wp2_with fail
  go_ret
  exact ⟨rfl, hn6⟩

set_option maxRecDepth 100000 in
set_option maxHeartbeats 2000000 in
theorem rowPuts_bad (a : Option Addr) (len cap : Nat) (xs : List Nat) (n : Nat) (size : Int) (w : World) (hx : BytesIn w a len cap xs) (hlen : len ≤ 140737488351232) (hn : n < 18446744073709551616)
    (h0 : -9223372036854775808 ≤ size) (h9 : size < 9223372036854775808) (hp : size < 1 ∨ 8 < size ∨ (1 ≤ size ∧ size < 8 ∧ n / 2 ^ (8 * size.toNat) ≠ 0)) :
    Calls Try.prog 5 #[.slice a len cap, .int .u64 n, .int .i64 size] w fun e w' => e = .returned (.bool true) ∧ Below w.heap.size w w' := by
  have hput := fun W => put_bad (some ⟨w.heap.size, 0, none⟩) len (len + 3) n size W hn h0 h9 hp
  have hnil := fun W : World => (BytesIn.nil_ W).1
  have href : ∀ W, BytesIn W a len cap xs → Calls Try.prog 22 #[.slice a len cap, .int .u64 n, .int .i64 size] W fun e w' => e = .returned (.tuple #[.slice none 0 0, .int .i64 1]) ∧ Below W.heap.size W w' := by
    intro W hW
    rcases hp with hp | hp | ⟨h1, h8, hp⟩
    · exact (refPut_out a len cap n size W (.inl hp)).mono fun e w' ⟨he, hw⟩ => ⟨he, by rw [← hw]; exact nu_refl _⟩
    · exact (refPut_out a len cap n size W (.inr hp)).mono fun e w' ⟨he, hw⟩ => ⟨he, by rw [← hw]; exact nu_refl _⟩
    · obtain ⟨s, rfl⟩ := Int.eq_ofNat_of_zero_le (show 0 ≤ size by omega)
      rw [Int.toNat_natCast, ← pow256] at hp
      exact (refPut_any a len cap xs n s W hW (by omega) (by omega) (by omega) hn).mono fun e w' ⟨⟨h1, _⟩, hb⟩ => ⟨h1 hp, hb⟩
  have Hput := Lib.hid hput
  have Href := Lib.hid href
  have Hnil := Lib.hid hnil
  have Hl := Lib.hid hx.1.1
  have Hx := Lib.hid hx
  clear hp hput href hnil hn h0 h9
  go_enter Try.func5, Try.ntmps5
  go_wp2_with fail
  refine (lent_any a len cap xs w hx (by omega)).mono ?_
  rintro e w1 ⟨rfl, hg1, hn1⟩
  have hx1 := hx.keep hn1
  have Hg1 := Lib.hid hg1
  clear hg1 hx
  go_wp2_with fail
  refine (Hput.out w1).mono ?_
  rintro e w2 ⟨rfl, rfl⟩
  go_wp2_with fail
  refine (Href.out w1 hx1).mono ?_
  rintro e w3 ⟨rfl, hb3⟩
  have hx3 := hx1.keep hb3
  have hn3 := nu_trans hn1 hb3
  have Hg3 := Lib.hid (Hg1.out.below hb3 Hg1.out.lt)
  clear hx1 hb3 hn1
  go_wp2_with fail
  refine (same_any none none 0 0 0 0 [] [] w3 (Hnil.out _) (Hnil.out _) (by omega) (by omega)).mono ?_
  rintro e w4 ⟨rfl, n4, rfl⟩
  rw [show decide (([] : List Nat) = []) = true from rfl]
  go_wp2_with fail
  refine (kept_any w.heap.size a len cap xs _ (Hg3.out.drewN n4) hx3.1 (by omega)).mono ?_
  rintro e w4 ⟨rfl, n5, rfl⟩
  have hn4 := nu_drewN (nu_drewN hn3 n4) n5
  have hx4 := (hx3.drewN n4).drewN n5
  have Hg4 := Lib.hid ((Hg3.out.drewN n4).drewN n5)
  generalize (w3.drewN n4).drewN n5 = w4 at *
  clear hn3 hx3
  go_wp2_with fail
  refine (kept_any w.heap.size a len cap xs _ Hg4.out hx4.1 (by omega)).mono ?_
  rintro e w5 ⟨rfl, n6, rfl⟩
  have hn5 := nu_drewN hn4 n6
  clear hn4 hx4
  go_wp2_with fail
  refine (rowAwake_any _).mono ?_
  rintro e w6 ⟨rfl, hb6⟩
  have hn6 := nu_trans hn5 hb6
  go_wp2_with fail
  go_ret
  exact ⟨rfl, hn6⟩

theorem rowPuts_walk (a : Option Addr) (len cap : Nat) (xs : List Nat) (n size : Int) (w : World) (hx : BytesIn w a len cap xs) (hlen : len ≤ 140737488351232) (w1 : (Lit.int .u64 n).wf = true) (w2 : (Lit.int .i64 size).wf = true) :
    Calls Try.prog 5 #[.slice a len cap, .int .u64 n, .int .i64 size] w fun e w' => e = .returned (.bool true) ∧ Below w.heap.size w w' := by
  have b1 := bounds_u64 w1
  have b2 := bounds_i64 w2
  obtain ⟨n, rfl⟩ := Int.eq_ofNat_of_zero_le b1.1
  by_cases h1 : 1 ≤ size
  · by_cases h8 : size ≤ 8
    · obtain ⟨s, rfl⟩ := Int.eq_ofNat_of_zero_le (show 0 ≤ size by omega)
      by_cases hf : s < 8 → n / 2 ^ (8 * s) = 0
      · exact rowPuts_ok a len cap xs n s w hx hlen ⟨by omega, by omega, hf⟩ (by omega)
      · simp only [Classical.not_imp] at hf
        exact rowPuts_bad a len cap xs n s w hx hlen (by omega) (by omega) (by omega) (.inr (.inr ⟨h1, by omega, by simpa using hf.2⟩))
    · exact rowPuts_bad a len cap xs n size w hx hlen (by omega) (by omega) (by omega) (.inr (.inl (by omega)))
  · exact rowPuts_bad a len cap xs n size w hx hlen (by omega) (by omega) (by omega) (.inl (by omega))
end Go.Proofs.Ytogcckedelkpbaa
