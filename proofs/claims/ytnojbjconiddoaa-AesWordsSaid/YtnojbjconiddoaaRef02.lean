/-
  The walks of the document's helpers on bytes: Same, Copy, Lent, Kept.
-/
import Derived.Test.YtnojbjconiddoaaRows
import Derived.Test.YtnojbjconiddoaaBytes
import Derived.WalkSpells
import Derived.WalkLawsBesides
import Derived.Lib.Hide
import Derived.Deep.QuietTactic
import Derived.BigQuiet
namespace Go.Proofs.Ytnojbjconiddoaa
open Go.ChangeShapes Go.WideShapes Go.ChangeAt Go.RowKit

theorem take_next {xs ys : List Nat} {k x : Nat} (hx : xs[k]? = some x) (hy : ys[k]? = some x) (h : xs.take k = ys.take k) : xs.take (k + 1) = ys.take (k + 1) := by
  rw [List.take_add_one, List.take_add_one, h, hx, hy]
theorem take_snoc_map {xs : List Nat} {k x : Nat} (hx : xs[k]? = some x) : (xs.take (k + 1)).map vb = (xs.take k).map vb ++ [vb x] := by
  rw [List.take_add_one, hx, List.map_append]
  rfl

set_option maxRecDepth 100000 in
set_option maxHeartbeats 1000000 in
theorem same_len (a b : Option Addr) (la ca cb : Nat) (xs ys : List Nat) (w : World) (ha : IntsIn w .u8 a la xs) (hb : IntsIn w .u8 b la ys) (hla : la ≤ 9223372036854775807) :
    Calls Try.prog 42 #[.slice a la ca, .slice b la cb] w fun e w' => e = .returned (.bool (decide (xs = ys))) ∧ ∃ n, w' = w.drewN n := by
  go_enter Try.func42, Try.ntmps42
  go_wp2_with fail
  go_loopw [5] (fun i wr => ∃ k : Nat, k ≤ la ∧ i = .int .i64 k ∧ xs.take k = ys.take k ∧ ∃ n, wr = w.drewN n) (fun i _ => la - (intOf i).toNat)
  case atStart => exact ⟨0, by omega, rfl, rfl, 0, rfl⟩
  case round =>
    obtain ⟨k, hk, rfl, ht, n, rfl⟩ := hrel
    have Ht := Lib.hid ht
    clear ht
    by_cases hlt : k < la
    · obtain ⟨b1, o1, x, rfl, hb1, hx, hwx, hcx⟩ := ha.elem k hlt
      obtain ⟨b2, o2, y, rfl, hb2, hy, hwy, hcy⟩ := hb.elem k hlt
      have Hx := Lib.hid hx
      have Hy := Lib.hid hy
      clear hx hy hwx hwy
      have hi : (k : Int) < (la : Int) := by omega
      by_cases hxy : x = y
      · subst hxy
        go_wp2_with fail
        go_quiet (fail)
        go_wp2_with fail
        go_roundw
        case rel => exact ⟨k + 1, by omega, by go_num, take_next Hx.out Hy.out Ht.out, _, rfl⟩
        case measure => simp [intOf]; omega
      · have t : ((x : Int) != (y : Int)) = true := by rw [bne_iff_ne]; omega
        have Hne := Lib.hid (show xs ≠ ys from fun e => hxy (by have h := Hx.out; rw [e, Hy.out] at h; injection h with h; exact h.symm))
        clear hxy
        go_wp2_with fail
        go_quiet (fail)
        go_wp2_with fail
        go_ret
        exact ⟨by rw [decide_eq_false Hne.out]; rfl, _, World.drewN_drewN _ _ _⟩
    · obtain rfl : k = la := by omega
      have He := Lib.hid (show xs = ys by
        have h := Ht.out
        rw [List.take_of_length_le (by rw [ha.1]; exact Nat.le_refl _), List.take_of_length_le (by rw [hb.1]; exact Nat.le_refl _)] at h
        exact h)
      go_wp2_with fail
      go_ret
      exact ⟨by rw [decide_eq_true He.out]; rfl, _, rfl⟩

theorem same_any (a b : Option Addr) (la lb ca cb : Nat) (xs ys : List Nat) (w : World) (ha : IntsIn w .u8 a la xs) (hb : IntsIn w .u8 b lb ys) (hla : la ≤ 9223372036854775807) (hlb : lb ≤ 9223372036854775807) :
    Calls Try.prog 42 #[.slice a la ca, .slice b lb cb] w fun e w' => e = .returned (.bool (decide (xs = ys))) ∧ ∃ n, w' = w.drewN n := by
  by_cases hl : la = lb
  · subst hl
    exact same_len a b la ca cb xs ys w ha hb hla
  · have Hne := Lib.hid (show xs ≠ ys from fun e => hl (by rw [← ha.1, ← hb.1, e]))
    have t : ((la : Int) != (lb : Int)) = true := by rw [bne_iff_ne]; omega
    clear hl
    go_enter Try.func42, Try.ntmps42
    go_wp2_with fail
    go_ret
    exact ⟨by rw [decide_eq_false Hne.out]; rfl, 0, rfl⟩

set_option maxRecDepth 100000 in
set_option maxHeartbeats 1000000 in
theorem copy_any (a : Option Addr) (len cap : Nat) (xs : List Nat) (w : World) (hx : BytesIn w a len cap xs) (hlen : len ≤ 140737488355320) :
    Calls Try.prog 24 #[.slice a len cap] w fun e w' => ∃ v, e = .returned v ∧ OwnB w' w.heap.size 5 v xs ∧ Below w.heap.size w w' := by
  obtain ⟨i0, hi, hz0, hz1, hz2⟩ := info_parts info_u8
  obtain ⟨Z, hZ, hmk⟩ := mk_bytes 0 len 0 (len : Int) rfl rfl (by omega) (by omega)
  have hxl := Lib.hid hx.1.1
  have HZ := Lib.hid hZ
  have hwf : ∀ x ∈ xs, x < 256 := fun x h => wf_u8_lt (hx.1.2.1 x h)
  have Hwf := Lib.hid hwf
  clear hZ hwf
  go_enter Try.func24, Try.ntmps24
  go_wp2_with fail
  go_loopw [3, 4] (fun v i wr => ∃ k : Nat, k ≤ len ∧ i = .int .i64 k ∧ wr.ownsRow w.heap.size 5 1 v k ((xs.take k).map vb) ∧ Below w.heap.size w wr) (fun _ i _ => len - (intOf i).toNat)
  case atStart => exact ⟨0, by omega, rfl, by simpa using World.ownsRow_made w Z.toArray len (Nat.le_refl _) (by unfold maxLen; omega) (by simpa using HZ.out), (Below.refl _ _).alloc (Nat.le_refl _) _⟩
  case round =>
    obtain ⟨k, hk, rfl, hown, hb⟩ := hrel
    have hsz := hb.size
    by_cases hlt : k < len
    · obtain ⟨b1, o1, x, rfl, hb1, hxx, hwx, hcx⟩ := hx.1.elem k hlt
      have hc1 : wr.cell? ⟨b1, o1 + k, none⟩ = some (.int .u8 (x : Int)) := (hb.cell hb1).trans hcx
      have Hx := Lib.hid hxx
      have hi0 : (k : Int) < (len : Int) := by omega
      clear hxx hwx hcx
      go_wp2_with (at_builtin; refine wpList_append_own _ rfl (.tmp 14) (.tmp 19) 27 rfl w.heap.size 5 i0 (.int .u8 0) 1 1 Try.underlying27 hi hz0 hz1 hz2 rfl (by decide) _ _ _ rfl (hown.alloc _) ⟨wr.heap.size, 0, none⟩ 1 1 [.int .u8 (x : Int)] rfl rfl ?c1 ?c2 ?c3 ?c4 ?c5 ?_)
      case c1 => exact cell_one_new _ _ _
      case c2 => intro u hu; obtain rfl := List.mem_singleton.1 hu; rfl
      case c3 => unfold maxLen; omega
      case c4 => omega
      case c5 => simp; omega
      intro v' w3 hown3 hg3 _
      have hb3 := (hb.alloc hb.size (.cells #[.int .u8 (x : Int)] 5)).grown hg3 (by simp; omega) (fun k hk => (hown.lt k hk).1)
      have Hown3 := Lib.hid (show w3.ownsRow w.heap.size 5 1 v' (k + 1) ((xs.take (k + 1)).map vb) by rw [take_snoc_map Hx.out, List.map_take]; exact hown3)
      clear hown3 hown hg3
      go_wp2_with fail
      go_roundw
      case rel => exact ⟨k + 1, by omega, by go_num, Hown3.out, hb3⟩
      case measure => simp [intOf]; omega
    · obtain rfl : k = len := by omega
      have Hown := Lib.hid (show OwnB wr w.heap.size 5 _ xs from ⟨by rw [List.take_of_length_le (by rw [hxl.out]; exact Nat.le_refl _)] at hown; rw [hxl.out]; exact hown, Hwf.out⟩)
      go_wp2_with fail
      go_ret
      exact ⟨_, rfl, Hown.out, hb⟩

/-- Lent bytes, with the room behind them. -/
def lentCells (xs : List Nat) : Array Value := ((xs ++ [201, 202, 203]).map vb).toArray

set_option maxRecDepth 100000 in
set_option maxHeartbeats 1000000 in
theorem lent_any (a : Option Addr) (len cap : Nat) (xs : List Nat) (w : World) (hx : BytesIn w a len cap xs) (hlen : len ≤ 140737488355320) :
    Calls Try.prog 19 #[.slice a len cap] w fun e w' => e = .returned (.slice (some ⟨w.heap.size, 0, none⟩) len (len + 3)) ∧ Blk w' w.heap.size 5 (lentCells xs) ∧ Below w.heap.size w w' := by
  obtain ⟨i0, hi, hz0, hz1, hz2⟩ := info_parts info_u8
  obtain ⟨Z, hZ, hmk⟩ := mk_bytes 0 (len + 3) 0 ((len : Int) + 3) rfl (by omega) (by omega) (by omega)
  have hxl := Lib.hid hx.1.1
  have HZ := Lib.hid (show Z.toArray.size = (len + 3) * 1 by simpa using hZ)
  have hmade := World.ownsRow_made (base := w.heap.size) (e := 5) (size := 1) w Z.toArray (len + 3) (Nat.le_refl _) (by unfold maxLen; omega) HZ.out
  have hsrc := (hx.keep ((Below.refl w.heap.size w).alloc (Nat.le_refl _) (.cells Z.toArray 5))).src
  have Hsrc := Lib.hid hsrc
  have Hnone := Lib.hid hx.2
  have Hmade := Lib.hid hmade
  clear hZ hsrc hmade
  go_enter Try.func19, Try.ntmps19
  go_wp2_with (at_builtin; refine wpList_append_fits_any _ rfl (.tmp 9) (.tmp 10) 27 rfl w.heap.size 5 i0 1 Try.underlying27 hi hz1 w.heap.size 0 (len + 3) [] rfl Hmade.out a len cap (xs.map vb) rfl ?c1 Hnone.out Hsrc.out (vb_one xs) ?c2 ?_)
  case c1 => rw [List.length_map, hxl.out]; omega
  case c2 => omega
  intro w1 hown1 hg1
  have hb1 := ((Below.refl w.heap.size w).alloc (Nat.le_refl _) (.cells Z.toArray 5)).grown hg1 (by simp) (fun k hk => by injection hk with hk; omega)
  have hsz1 := hg1.size
  have hs1 : w.heap.size < w1.heap.size := by simp at hsz1; omega
  have Hown1 := Lib.hid hown1
  clear hown1 hg1 hsz1
  have Hnew := Lib.hid (show ∀ ad, some (⟨w1.heap.size, 0, none⟩ : Addr) = some ad → ∀ (j : Nat) (u : Value), [vb 201, vb 202, vb 203][j]? = some u → (w1.alloc (.cells #[.int .u8 201, .int .u8 202, .int .u8 203] 5)).cell? (ad.add j) = some u from by
    rintro ad had j u hu
    injection had with had
    subst had
    rw [Go.WideShapes.add_plain, Nat.zero_add]
    refine (Blk.made w1 5 #[.int .u8 201, .int .u8 202, .int .u8 203]).at j u ?_
    rw [← hu]
    exact List.getElem?_toArray)
  go_wp2_with (at_builtin; refine wpList_append_fits_any _ rfl (.tmp 12) (.tmp 13) 27 rfl w.heap.size 5 i0 1 Try.underlying27 hi hz1 w.heap.size len (len + 3) (xs.map vb) rfl (Hown1.out.alloc _) (some ⟨w1.heap.size, 0, none⟩) 3 3 [vb 201, vb 202, vb 203] rfl rfl (fun h => by cases h) Hnew.out (vb_one [201, 202, 203]) (Nat.le_refl _) ?_)
  intro w2 hown2 hg2
  have hb2 := (hb1.alloc (Nat.le_of_lt hs1) (.cells #[.int .u8 201, .int .u8 202, .int .u8 203] 5)).grown hg2 (by simp; omega) (fun k hk => by injection hk with hk; omega)
  have Hfull := Lib.hid (show Blk w2 w.heap.size 5 (lentCells xs) by
    have := blk_of_full hown2
    unfold lentCells
    rw [List.map_append]
    exact this)
  clear hown2 hg2
  go_wp2_with fail
  go_ret
  exact ⟨rfl, Hfull.out, hb2⟩

set_option maxRecDepth 100000 in
set_option maxHeartbeats 1000000 in
theorem kept_any (g : Nat) (a : Option Addr) (len cap : Nat) (xs : List Nat) (w : World) (hg : Blk w g 5 (lentCells xs)) (hx : IntsIn w .u8 a len xs) (hlen : len ≤ 140737488355320) :
    Calls Try.prog 23 #[.slice (some ⟨g, 0, none⟩) len (len + 3), .slice a len cap] w fun e w' => e = .returned (.bool true) ∧ ∃ n, w' = w.drewN n := by
  have hxl := hx.1
  have hl : ∀ i, i < 3 → (lentCells xs)[len + i]? = some (vb (201 + i)) := by
    intro i hi
    unfold lentCells
    rw [List.map_append, List.getElem?_toArray, List.getElem?_append_right (by rw [List.length_map]; omega), List.length_map, hxl, show len + i - len = i by omega]
    match i, hi with
    | 0, _ => rfl
    | 1, _ => rfl
    | 2, _ => rfl
  have c0 : w.cell? ⟨g, len, none⟩ = some (.int .u8 201) := hg.at len _ (hl 0 (by omega))
  have c1 : w.cell? ⟨g, len + 1, none⟩ = some (.int .u8 202) := hg.at (len + 1) _ (hl 1 (by omega))
  have c2 : w.cell? ⟨g, len + 2, none⟩ = some (.int .u8 203) := hg.at (len + 2) _ (hl 2 (by omega))
  have hin : IntsIn w .u8 (some ⟨g, 0, none⟩) len xs := ⟨hxl, hx.2.1, fun _ => ⟨g, 0, rfl, hg.lt, fun j n hn => by
    rw [Nat.zero_add]
    refine hg.at j _ ?_
    have hj : j < xs.length := (List.getElem?_eq_some_iff.1 hn).1
    unfold lentCells
    rw [List.map_append, List.getElem?_toArray, List.getElem?_append_left (by rw [List.length_map]; exact hj), List.getElem?_map, hn]
    rfl⟩⟩
  clear hl hxl
  go_enter Try.func23, Try.ntmps23
  go_wp2_with fail
  refine (same_len _ a len (len + 3) cap xs xs _ hin hx (by omega)).mono ?_
  rintro e w1 ⟨rfl, n, rfl⟩
  rw [show decide (xs = xs) = true by simp]
  go_wp2_with fail
  go_ret
  exact ⟨rfl, n, rfl⟩
end Go.Proofs.Ytnojbjconiddoaa
