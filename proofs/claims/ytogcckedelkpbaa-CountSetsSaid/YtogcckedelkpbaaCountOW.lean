/-
  The walk of CountOpens.
-/
import Derived.Test.YtogcckedelkpbaaCountO
import Derived.Deep.RegionHeld3
namespace Go.Proofs.Ytogcckedelkpbaa
open Go.ChangeShapes Go.WideShapes Go.ChangeAt Go.RowKit

/-- A row of entries of the call's own that is not empty, entry by entry. -/
theorem ents_form {w : World} {base n : Nat} {v : Value} {l : List Ent} (h : w.ownsRow base 35 3 v n (entsV l)) (hn : 0 < n) (hl : l.length = n) :
    ∃ g cap, v = .slice (some ⟨g, 0, none⟩) n cap ∧ n ≤ cap ∧ cap ≤ maxLen ∧ base ≤ g ∧ g < w.heap.size ∧ ∀ (i : Nat) (e : Ent), l[i]? = some e →
      w.cell? ⟨g, i * 3, none⟩ = some (.int .u32 (e.1 : Int)) ∧ w.cell? ⟨g, i * 3 + 1, none⟩ = some (.int .u32 (e.2.1 : Int)) ∧ w.cell? ⟨g, i * 3 + 2, none⟩ = some (.int .u64 (e.2.2 : Int)) := by
  have hcl := entsV_length l
  rcases h.2 with ⟨rfl, h0⟩ | ⟨g, cap, cur, rfl, hbg, hh, hnc, hcm, hsz, htk⟩
  · omega
  · refine ⟨g, cap, rfl, hnc, hcm, hbg, Blk.lt (t := 35) (cs := cur) hh, fun i e he => ?_⟩
    have hc : ∀ j v, j < 3 → (entV e)[j]? = some v → w.cell? ⟨g, i * 3 + j, none⟩ = some v := by
      intro j v hj hv
      refine Blk.at (t := 35) hh _ _ ?_
      have e1 : (cur.toList.take (n * 3))[i * 3 + j]? = some v := by rw [htk, entsV_get l i j e he hj, hv]
      rw [List.getElem?_take] at e1
      split at e1
      · rw [← Array.getElem?_toList]; exact e1
      · cases e1
    exact ⟨hc 0 _ (by omega) rfl, hc 1 _ (by omega) rfl, hc 2 _ (by omega) rfl⟩

/-- The document's At beside an entry's cells. -/
theorem refAt_S (b off cap : Nat) (xs : List Nat) (k : Nat) (w w2 W : World) (g o e0 e1 e2 : Nat) (c0 c1 c2 : Value) (hx : BytesIn W (some ⟨b, off, none⟩) 256 cap xs) (hlc : 256 ≤ cap) (hcm : cap ≤ maxLen) (hk : k < 16) (he : entAt xs k = (e0, e1, e2))
    (h0 : W.cell? ⟨g, o, none⟩ = some c0) (h1 : W.cell? ⟨g, o + 1, none⟩ = some c1) (h2 : W.cell? ⟨g, o + 2, none⟩ = some c2) (hn : Below w.heap.size w W) (hb : Below w2.heap.size w2 W) :
    Calls Try.prog 37 #[.slice (some ⟨b, off, none⟩) 256 cap, .int .i64 k] W fun e w' => e = .returned (.agg #[.int .u32 (e0 : Int), .int .u32 (e1 : Int), .int .u64 (e2 : Int)]) ∧
      (w'.cell? ⟨g, o, none⟩ = some c0 ∧ w'.cell? ⟨g, o + 1, none⟩ = some c1 ∧ w'.cell? ⟨g, o + 2, none⟩ = some c2) ∧ Below w.heap.size w w' ∧ Below w2.heap.size w2 w' := by
  refine (refAt_any b off cap xs k W hx hlc hcm hk).mono ?_
  rintro e w' ⟨h, hb'⟩
  rw [he] at h
  have hg := World.block_lt_of_cell? _ _ h0
  exact ⟨h, ⟨(hb'.cell (p := ⟨g, o, none⟩) hg).trans h0, (hb'.cell (p := ⟨g, o + 1, none⟩) hg).trans h1, (hb'.cell (p := ⟨g, o + 2, none⟩) hg).trans h2⟩, nu_trans hn hb', nu_trans hb hb'⟩

set_option maxRecDepth 100000 in
set_option maxHeartbeats 2000000 in
theorem countOpens_bad (a : Option Addr) (len cap : Nat) (xs : List Nat) (w : World) (hx : BytesIn w a len cap xs) (hlen : len ≤ 140737488351232) (hl : len ≠ 256) :
    Calls Try.prog 11 #[.slice a len cap] w fun e w' => e = .returned (.bool true) ∧ Below w.heap.size w w' := by
  obtain ⟨f, hf⟩ : ∃ f : Int, f = (if len < 256 then 2 else 4) := ⟨_, rfl⟩
  have hf0 : f ≠ 0 := by rw [hf]; split <;> omega
  have Hop := Lib.hid (fun W => open_bad (some ⟨w.heap.size, 0, none⟩) len (len + 3) W (by omega) hl)
  rw [← hf] at Hop
  have Hfa := Lib.hid (fun W => refFault_any a len cap 0 W (by omega))
  rw [show (if len < 256 then (2 : Int) else if 256 < len then 4 else if (0 : Int) < 0 ∨ 15 < (0 : Int) then 1 else 0) = f by rw [hf]; split; rfl; rw [if_pos (by omega)]] at Hfa
  have t : (f != 0) = true := by rw [bne_iff_ne]; exact hf0
  have t' : (f != f) = false := by simp
  have Hx := Lib.hid hx
  clear hl hf hf0 hx
  go_enter Try.func11, Try.ntmps11
  go_wp2_with fail
  refine (lent_any a len cap xs w Hx.out (by omega)).mono ?_
  rintro e w1 ⟨rfl, hg1, hn1⟩
  have Hg1 := Lib.hid hg1
  clear hg1
  go_wp2_with fail
  refine (Hop.out w1).mono ?_
  rintro e w2 ⟨rfl, rfl⟩
  go_wp2_with fail
  refine (Hfa.out w1).mono ?_
  rintro e w2 ⟨rfl, rfl⟩
  go_wp2_with fail
  refine (kept_any w.heap.size a len cap xs _ Hg1.out (Hx.out.keep hn1).1 (by omega)).mono ?_
  rintro e w3 ⟨rfl, n3, rfl⟩
  have hn3 := nu_drewN hn1 n3
  go_wp2_with fail
  refine (countAwake_any _).mono ?_
  rintro e w4 ⟨rfl, hb4⟩
  have hn4 := nu_trans hn3 hb4
  go_wp2_with fail
  go_ret
  exact ⟨rfl, hn4⟩

set_option maxRecDepth 100000 in
set_option maxHeartbeats 4000000 in
theorem countOpens_ok (b off cap : Nat) (xs : List Nat) (w : World) (hx : BytesIn w (some ⟨b, off, none⟩) 256 cap xs) (hlc : 256 ≤ cap) (hcm : cap ≤ maxLen) :
    Calls Try.prog 11 #[.slice (some ⟨b, off, none⟩) 256 cap] w fun e w' => e = .returned (.bool true) ∧ Below w.heap.size w w' := by
  have Hfa := Lib.hid (fun W => refFault_any (some ⟨b, off, none⟩) 256 cap 0 W (by omega))
  rw [show (if 256 < 256 then (2 : Int) else if 256 < 256 then 4 else if (0 : Int) < 0 ∨ 15 < (0 : Int) then 1 else 0) = 0 from rfl] at Hfa
  have Hx := Lib.hid hx
  have Hl := Lib.hid hx.1.1
  have Hb := Lib.hid (show ∀ x ∈ xs, x < 256 from fun x h => wf_u8_lt (hx.1.2.1 x h))
  have Hcm := Lib.hid hcm
  clear hx hcm
  go_enter Try.func11, Try.ntmps11
  go_wp2_with fail
  refine (lent_any _ 256 cap xs w Hx.out (by omega)).mono ?_
  rintro e w1 ⟨rfl, hg1, hn1⟩
  have Hg1 := Lib.hid hg1
  clear hg1
  go_wp2_with fail
  refine (open_ok (some ⟨w.heap.size, 0, none⟩) (256 + 3) xs w1 (lent_bytes Hg1.out Hl.out Hb.out)).mono ?_
  rintro e w2 ⟨v2, rfl, ho2, hb2⟩
  obtain ⟨g, cg, rfl, hgc, hgm, _, hgs, hce⟩ := ents_form ho2 (by omega) (entsTo_length xs 16)
  unfold maxLen at hgm
  have hn2 := nu_trans hn1 hb2
  have Hg2 := Lib.hid (Hg1.out.below hb2 Hg1.out.lt)
  have Hce := Lib.hid hce
  clear ho2 hb2 hce hn1
  go_wp2_with fail
  refine (Hfa.out w2).mono ?_
  rintro e w3 ⟨rfl, rfl⟩
  go_wp2_with fail
  refine (kept_any w.heap.size _ 256 cap xs _ Hg2.out (Hx.out.keep hn2).1 (by omega)).mono ?_
  rintro e w3 ⟨rfl, n3, rfl⟩
  have hn3 := nu_drewN hn2 n3
  have hb3 := nu_drewN (nu_refl w2) n3
  generalize w2.drewN n3 = w3 at hn3 hb3 ⊢
  clear hn2
  go_wp2_with fail
  go_loopw [7] (fun i wr => ∃ k : Nat, k ≤ 16 ∧ i = .int .i64 k ∧ Below w.heap.size w wr ∧ Below w2.heap.size w2 wr) (fun i _ => 16 - (intOf i).toNat)
  case atStart => exact ⟨0, by omega, rfl, hn3, hb3⟩
  case round =>
    obtain ⟨k, hk, rfl, hnr, hbr⟩ := hrel
    by_cases hlt : k < 16
    · have hi : (k : Int) < 16 := by omega
      obtain ⟨h0, h1, h2⟩ := Hce.out k _ (entsTo_get xs 16 k hlt)
      obtain ⟨⟨e0, e1, e2⟩, he⟩ : ∃ e, entAt xs k = e := ⟨_, rfl⟩
      rw [he] at h0 h1 h2
      have c0 := (hbr.cell (p := ⟨g, k * 3, none⟩) hgs).trans h0
      have c1 := (hbr.cell (p := ⟨g, k * 3 + 1, none⟩) hgs).trans h1
      have c2 := (hbr.cell (p := ⟨g, k * 3 + 2, none⟩) hgs).trans h2
      simp only [] at c0 c1 c2
      have Hat := Lib.hid (refAt_S b off cap xs k w w2 wr.drew g (k * 3) e0 e1 e2 _ _ _ (by exact Hx.out.keep (nu_drew hnr)) hlc Hcm.out hlt he c0 c1 c2 (nu_drew hnr) (nu_drew hbr))
      clear h0 h1 h2 he
      go_wp2_with fail
      go_region_held3 (fun w' => w'.cell? ⟨g, k * 3, none⟩ = some (.int .u32 (e0 : Int)) ∧ w'.cell? ⟨g, k * 3 + 1, none⟩ = some (.int .u32 (e1 : Int)) ∧ w'.cell? ⟨g, k * 3 + 2, none⟩ = some (.int .u64 (e2 : Int))) (first | exact hS | go_keep) (first | (go_at_call 37; refine (Hat.out).mono ?_; rintro e u1 ⟨rfl, hS, hn4, hb4⟩))
      go_wp2_with fail
      go_roundw
      case rel => exact ⟨k + 1, by omega, by go_num, hn4, hb4⟩
      case measure => simp [intOf]; omega
    · obtain rfl : k = 16 := by omega
      go_wp2_with fail
      refine (countAwake_any _).mono ?_
      rintro e w4 ⟨rfl, hb4⟩
      have hn4 := nu_trans hnr hb4
      go_wp2_with fail
      go_ret
      exact ⟨rfl, hn4⟩
theorem countOpens_walk (a : Option Addr) (len cap : Nat) (xs : List Nat) (w : World) (hx : BytesIn w a len cap xs) (hlc : len ≤ cap) (hcm : cap ≤ maxLen) (hlen : len ≤ 140737488351232) :
    Calls Try.prog 11 #[.slice a len cap] w fun e w' => e = .returned (.bool true) ∧ Below w.heap.size w w' := by
  by_cases hl : len = 256
  · subst hl
    obtain ⟨b, off, rfl, _⟩ := hx.1.2.2 (by omega)
    exact countOpens_ok b off cap xs w hx hlc hcm
  · exact countOpens_bad a len cap xs w hx hlen hl
end Go.Proofs.Ytogcckedelkpbaa
