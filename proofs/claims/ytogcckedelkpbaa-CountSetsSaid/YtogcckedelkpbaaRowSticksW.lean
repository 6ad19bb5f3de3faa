/-
  The walk of RowSticks.
-/
import Derived.Test.YtogcckedelkpbaaRowNilW
import Derived.Test.YtogcckedelkpbaaRecs
namespace Go.Proofs.Ytogcckedelkpbaa
open Go.ChangeShapes Go.WideShapes Go.ChangeAt Go.RowKit

theorem left_rd (B g : Nat) (xs : List Nat) (f : Int) (w : World) (hr : RdAt w B g xs f) : Calls Try.prog 29 #[.pointer (some ⟨g, 0, none⟩)] w fun e w' => e = .returned (.int .i64 (xs.length : Int)) ∧ w = w' := by
  obtain ⟨a, cap, h, _⟩ := hr
  exact left_any g a _ cap f w h
theorem fault_rd (B g : Nat) (xs : List Nat) (f : Int) (w : World) (hr : RdAt w B g xs f) : Calls Try.prog 33 #[.pointer (some ⟨g, 0, none⟩)] w fun e w' => e = .returned (.int .i64 f) ∧ w = w' := by
  obtain ⟨a, cap, h, _⟩ := hr
  exact fault_any g a _ cap f w h
theorem end_rd (B g : Nat) (xs : List Nat) (f : Int) (w : World) (hr : RdAt w B g xs f) : Calls Try.prog 28 #[.pointer (some ⟨g, 0, none⟩)] w fun e w' => e = .returned (.int .i64 (endOf xs.length f)) ∧ w = w' := by
  obtain ⟨a, cap, h, _⟩ := hr
  exact end_any g a _ cap f w h
theorem num_stuck (B g : Nat) (f sz : Int) (w : World) (hr : RdAt w B g [] f) (hf : f ≠ 0) : Calls Try.prog 26 #[.pointer (some ⟨g, 0, none⟩), .int .i64 sz] w fun e w' => e = .returned (.int .u64 0) ∧ RdAt w' B g [] f ∧ w.grownBy w' (some g) := by
  refine (num_any B g [] f sz w hr).mono ?_
  rintro e w' ⟨he, h1, h2⟩
  rw [rdStep_fault hf] at he h1
  exact ⟨he, h1, h2⟩
theorem take_stuck (B g : Nat) (f sz : Int) (w : World) (hr : RdAt w B g [] f) (hf : f ≠ 0) : Calls Try.prog 27 #[.pointer (some ⟨g, 0, none⟩), .int .i64 sz] w fun e w' => (∃ a cap, e = .returned (.slice a 0 cap)) ∧ RdAt w' B g [] f ∧ w.grownBy w' (some g) := by
  refine (take_any B g [] f sz w hr (by simp)).mono ?_
  rintro e w' ⟨⟨v, he, ho⟩, h1, h2⟩
  rw [rdStep_fault hf] at ho h1
  obtain ⟨a, cap, rfl, _⟩ := ho.reads
  exact ⟨⟨a, cap, he⟩, h1, h2⟩
theorem take_over (B g : Nat) (xs : List Nat) (sz : Int) (w : World) (hr : RdAt w B g xs 0) (hl : xs.length ≤ 140737488355320) (hs : sz < 0 ∨ (xs.length : Int) < sz) : Calls Try.prog 27 #[.pointer (some ⟨g, 0, none⟩), .int .i64 sz] w fun e w' => (∃ v, e = .returned v) ∧ RdAt w' B g [] (if sz < 0 then 1 else 2) ∧ w.grownBy w' (some g) := by
  refine (take_any B g xs 0 sz w hr hl).mono ?_
  rintro e w' ⟨⟨v, he, ho⟩, h1, h2⟩
  refine ⟨⟨v, he⟩, ?_, h2⟩
  by_cases h : sz < 0
  · rw [show decide (0 ≤ sz) = false by simp; omega, rdStep_wrong] at h1
    rw [if_pos h]
    exact h1
  · rw [show decide (0 ≤ sz) = true by simp; omega, rdStep_short (by omega)] at h1
    rw [if_neg h]
    exact h1
theorem endOf_fault {f : Int} (hf : f ≠ 0) (n : Nat) : endOf n f = f := by simp [endOf, hf]

set_option maxRecDepth 100000 in
set_option maxHeartbeats 2000000 in
theorem rowSticks_far (a : Option Addr) (len cap : Nat) (xs : List Nat) (over : Int) (a2 : Option Addr) (len2 cap2 : Nat) (w : World) (hx : BytesIn w a len cap xs) (hlen : len ≤ 140737488351232) (hlen2 : len2 ≤ 9223372036854775807) (hsc : RecsIn w a2 len2 [.i64, .i64])
    (tt : decide (0 ≤ over) = false ∨ (decide (0 ≤ over) = true ∧ decide (over < 1000) = false)) :
    Calls Try.prog 9 #[.slice a len cap, .int .i64 over, .slice a2 len2 cap2] w fun e w' => e = .returned (.bool true) ∧ Below w.heap.size w w' := by
  have Hxl := Lib.hid hx.1.1
  have Hsc := Lib.hid hsc
  clear hsc
  rcases tt with t | ⟨t, t'⟩
  all_goals
    go_enter Try.func9, Try.ntmps9
    go_wp2_with fail
    refine (newReader_any a len cap xs w hx (by omega)).mono ?_
    rintro e w1 ⟨g, rfl, hrd, hn1⟩
    have hg0 := hrd.low
    have Hrd := Lib.hid hrd
    have hx1 := hx.keep hn1
    clear hrd hx
    go_wp2_with fail
    refine (take_over _ g xs _ w1 Hrd.out (by rw [Hxl.out]; omega) (.inl (by omega))).mono ?_
    rintro e w2 ⟨⟨v9, rfl⟩, hrd2, hg2⟩
    rw [if_pos (by omega)] at hrd2
    have hn2 := nu_grown hn1 hg2 hg0
    obtain ⟨B, hB⟩ : ∃ B, B = w.heap.size := ⟨_, rfl⟩
    have Hrd2 := Lib.hid hrd2
    clear Hrd hrd2 hx1 hg2 hn1
    have Hrd := Lib.hid (show RdAt w2 B g [] 1 by rw [hB]; exact Hrd2.out)
    have hn3 := hn2
    clear hn2 Hrd2 hB
    go_wp2_with fail
    refine (fault_rd _ g [] 1 _ Hrd.out).mono ?_
    rintro e w4 ⟨rfl, rfl⟩
    go_wp2_with fail
    go_loopw [9] (fun i wr => ∃ k : Nat, k ≤ len2 ∧ i = .int .i64 k ∧ Below w.heap.size w wr ∧ RdAt wr B g [] 1) (fun i _ => len2 - (intOf i).toNat)
    case atStart => exact ⟨0, by omega, rfl, hn3, Hrd.out⟩
    case round =>
      obtain ⟨k, hk, rfl, hnr, hrd⟩ := hrel
      have Hr := Lib.hid hrd
      clear hrd
      by_cases hlt : k < len2
      · obtain ⟨b2, o2, rfl, hb2, hc2⟩ := Hsc.out (by omega)
        obtain ⟨q, hq0, _⟩ := hc2 k hlt 1 .i64 rfl
        have hq := (hnr.cell (p := ⟨b2, _, none⟩) hb2).trans hq0
        rw [show ([IntKind.i64, IntKind.i64].length) = 2 from rfl] at hq
        rw [show o2 + (k * 2 + 1) = o2 + k * 2 + 1 by omega] at hq
        clear hc2 hq0
        have hi : (k : Int) < (len2 : Int) := by omega
        have Hq := Lib.hid hq
        go_wp2_with fail
        refine (num_stuck _ g 1 q _ Hr.out (by omega)).mono ?_
        rintro e v1 ⟨rfl, hr1, hg1⟩
        have hq1 : v1.cell? ⟨b2, o2 + k * 2 + 1, none⟩ = some (.int .i64 q) := (World.cell?_of_block (hg1.block b2 (Nat.lt_of_lt_of_le hb2 hnr.size) (fun e => by injection e with e; omega))).trans Hq.out
        have hn1 := nu_grown hnr hg1 hg0
        have Hr1 := Lib.hid hr1
        clear hq hg1 hr1 hnr
        go_wp2_with fail
        refine (take_stuck _ g 1 q _ Hr1.out (by omega)).mono ?_
        rintro e v2 ⟨⟨a9, c9, rfl⟩, hr2, hg2⟩
        have hn2 := nu_grown hn1 hg2 hg0
        have Hr2 := Lib.hid hr2
        clear hq1 hg2 hr2 hn1
        go_wp2_with fail
        refine (left_rd _ g [] 1 _ Hr2.out).mono ?_
        rintro e v3 ⟨rfl, rfl⟩
        go_wp2_with fail
        refine (fault_rd _ g [] 1 _ Hr2.out).mono ?_
        rintro e v3 ⟨rfl, rfl⟩
        go_wp2_with fail
        refine (end_rd _ g [] 1 _ Hr2.out).mono ?_
        rintro e v3 ⟨rfl, rfl⟩
        rw [endOf_fault (by omega)]
        go_wp2_with fail
        go_roundw
        case rel => exact ⟨k + 1, by omega, by go_num, hn2, Hr2.out⟩
        case measure => simp [intOf]; omega
      · obtain rfl : k = len2 := by omega
        go_wp2_with fail
        refine (rowAwake_any _).mono ?_
        rintro e v6 ⟨rfl, hb6⟩
        have hn6 := nu_trans hnr hb6
        go_wp2_with fail
        go_ret
        exact ⟨rfl, hn6⟩

set_option maxRecDepth 100000 in
set_option maxHeartbeats 2000000 in
theorem rowSticks_near (a : Option Addr) (len cap : Nat) (xs : List Nat) (over : Int) (a2 : Option Addr) (len2 cap2 : Nat) (w : World) (hx : BytesIn w a len cap xs) (hlen : len ≤ 140737488351232) (hlen2 : len2 ≤ 9223372036854775807) (hsc : RecsIn w a2 len2 [.i64, .i64])
    (tt : decide (0 ≤ over) = true ∧ decide (over < 1000) = true) :
    Calls Try.prog 9 #[.slice a len cap, .int .i64 over, .slice a2 len2 cap2] w fun e w' => e = .returned (.bool true) ∧ Below w.heap.size w w' := by
  have Hxl := Lib.hid hx.1.1
  have Hsc := Lib.hid hsc
  have Hx := Lib.hid hx
  clear hsc
  obtain ⟨t, t'⟩ := tt
  have i0 : 0 ≤ over := by simpa using t
  have i1 : over < 1000 := by simpa using t'
  go_enter Try.func9, Try.ntmps9
  go_wp2_with fail
  refine (newReader_any a len cap xs w hx (by omega)).mono ?_
  rintro e w1 ⟨g, rfl, hrd, hn1⟩
  have hg0 := hrd.low
  have Hrd := Lib.hid hrd
  have hx1 := hx.keep hn1
  clear hrd hx
  go_wp2_with fail
  refine (take_over _ g xs _ w1 Hrd.out (by rw [Hxl.out]; omega) (.inl (by omega))).mono ?_
  rintro e w2 ⟨⟨v9, rfl⟩, hrd2, hg2⟩
  rw [if_pos (by omega)] at hrd2
  have hn2 := nu_grown hn1 hg2 hg0
  have hx2 := hx1.far hg2 (Hx.out.ne_new hg0)
  clear Hrd hrd2 hx1 hg2 hn1 hg0
  go_wp2_with fail
  refine (newReader_any a len cap xs w2 hx2 (by omega)).mono ?_
  rintro e w3 ⟨g2, rfl, hrd, hb3⟩
  have hg0 : w.heap.size ≤ g2 := Nat.le_trans hn2.size hrd.low
  have Hrd := Lib.hid hrd
  have hn3 := nu_trans hn2 hb3
  clear hrd hx2 hb3 hn2
  go_wp2_with fail
  refine (take_over _ g2 xs _ w3 Hrd.out (by rw [Hxl.out]; omega) (.inr (by rw [Hxl.out]; omega))).mono ?_
  rintro e w4 ⟨⟨v8, rfl⟩, hrd4, hg4⟩
  rw [if_neg (by omega)] at hrd4
  have hn4 := nu_grown hn3 hg4 hg0
  obtain ⟨B, hB⟩ : ∃ B, B = w2.heap.size := ⟨_, rfl⟩
  rw [← hB] at hrd4
  clear Hrd hg4 hn3 hB
  have Hrd := Lib.hid hrd4
  have hn3 := hn4
  clear hn4 hrd4
  go_wp2_with fail
  refine (fault_rd _ g2 [] 2 _ Hrd.out).mono ?_
  rintro e w4 ⟨rfl, rfl⟩
  go_wp2_with fail
  go_loopw [9] (fun i wr => ∃ k : Nat, k ≤ len2 ∧ i = .int .i64 k ∧ Below w.heap.size w wr ∧ RdAt wr B g2 [] 2) (fun i _ => len2 - (intOf i).toNat)
  case atStart => exact ⟨0, by omega, rfl, hn3, Hrd.out⟩
  case round =>
    obtain ⟨k, hk, rfl, hnr, hrd⟩ := hrel
    have Hr := Lib.hid hrd
    clear hrd
    by_cases hlt : k < len2
    · obtain ⟨b2, o2, rfl, hb2, hc2⟩ := Hsc.out (by omega)
      obtain ⟨q, hq0, _⟩ := hc2 k hlt 1 .i64 rfl
      have hq := (hnr.cell (p := ⟨b2, _, none⟩) hb2).trans hq0
      rw [show ([IntKind.i64, IntKind.i64].length) = 2 from rfl] at hq
      rw [show o2 + (k * 2 + 1) = o2 + k * 2 + 1 by omega] at hq
      clear hc2 hq0
      have hi : (k : Int) < (len2 : Int) := by omega
      have Hq := Lib.hid hq
      go_wp2_with fail
      refine (num_stuck _ g2 2 q _ Hr.out (by omega)).mono ?_
      rintro e v1 ⟨rfl, hr1, hg1⟩
      have hq1 : v1.cell? ⟨b2, o2 + k * 2 + 1, none⟩ = some (.int .i64 q) := (World.cell?_of_block (hg1.block b2 (Nat.lt_of_lt_of_le hb2 hnr.size) (fun e => by injection e with e; omega))).trans Hq.out
      have hn1 := nu_grown hnr hg1 hg0
      have Hr1 := Lib.hid hr1
      clear hq hg1 hr1 hnr
      go_wp2_with fail
      refine (take_stuck _ g2 2 q _ Hr1.out (by omega)).mono ?_
      rintro e v2 ⟨⟨a9, c9, rfl⟩, hr2, hg2⟩
      have hn2 := nu_grown hn1 hg2 hg0
      have Hr2 := Lib.hid hr2
      clear hq1 hg2 hr2 hn1
      go_wp2_with fail
      refine (left_rd _ g2 [] 2 _ Hr2.out).mono ?_
      rintro e v3 ⟨rfl, rfl⟩
      go_wp2_with fail
      refine (fault_rd _ g2 [] 2 _ Hr2.out).mono ?_
      rintro e v3 ⟨rfl, rfl⟩
      go_wp2_with fail
      refine (end_rd _ g2 [] 2 _ Hr2.out).mono ?_
      rintro e v3 ⟨rfl, rfl⟩
      rw [endOf_fault (by omega)]
      go_wp2_with fail
      go_roundw
      case rel => exact ⟨k + 1, by omega, by go_num, hn2, Hr2.out⟩
      case measure => simp [intOf]; omega
    · obtain rfl : k = len2 := by omega
      go_wp2_with fail
      refine (rowAwake_any _).mono ?_
      rintro e v6 ⟨rfl, hb6⟩
      have hn6 := nu_trans hnr hb6
      go_wp2_with fail
      go_ret
      exact ⟨rfl, hn6⟩

theorem rowSticks_walk (a : Option Addr) (len cap : Nat) (xs : List Nat) (over : Int) (a2 : Option Addr) (len2 cap2 : Nat) (w : World) (hx : BytesIn w a len cap xs) (hlen : len ≤ 140737488351232) (hlen2 : len2 ≤ 9223372036854775807) (hsc : RecsIn w a2 len2 [.i64, .i64]) :
    Calls Try.prog 9 #[.slice a len cap, .int .i64 over, .slice a2 len2 cap2] w fun e w' => e = .returned (.bool true) ∧ Below w.heap.size w w' := by
  by_cases h0 : 0 ≤ over
  · by_cases h1 : over < 1000
    · exact rowSticks_near a len cap xs over a2 len2 cap2 w hx hlen hlen2 hsc ⟨by simpa using h0, by simpa using h1⟩
    · exact rowSticks_far a len cap xs over a2 len2 cap2 w hx hlen hlen2 hsc (.inr ⟨by simpa using h0, by simpa using h1⟩)
  · exact rowSticks_far a len cap xs over a2 len2 cap2 w hx hlen hlen2 hsc (.inl (by simpa using h0))
end Go.Proofs.Ytogcckedelkpbaa
