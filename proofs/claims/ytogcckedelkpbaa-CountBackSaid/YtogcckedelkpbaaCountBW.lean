/-
  The walk of CountBack.
-/
import Derived.Test.YtogcckedelkpbaaCountOW
import Derived.Test.YtogcckedelkpbaaCountL
namespace Go.Proofs.Ytogcckedelkpbaa
open Go.ChangeShapes Go.WideShapes Go.ChangeAt Go.RowKit

theorem ents_in {w : World} {g n : Nat} {l : List Ent} (hl : l.length = n) (hok : ∀ e ∈ l, entOk e) (hg : g < w.heap.size) (hc : ∀ (i : Nat) (e : Ent), l[i]? = some e →
      w.cell? ⟨g, i * 3, none⟩ = some (.int .u32 (e.1 : Int)) ∧ w.cell? ⟨g, i * 3 + 1, none⟩ = some (.int .u32 (e.2.1 : Int)) ∧ w.cell? ⟨g, i * 3 + 2, none⟩ = some (.int .u64 (e.2.2 : Int))) : EntsIn w (some ⟨g, 0, none⟩) n l :=
  ⟨hl, hok, fun _ => ⟨g, 0, rfl, hg, fun i e he => by
    have := hc i e he
    simpa using this⟩⟩

set_option maxRecDepth 100000 in
set_option maxHeartbeats 4000000 in
theorem countBack_ok (a : Option Addr) (len cap : Nat) (es : List Ent) (b : Option Addr) (lb cb : Nat) (ys : List Nat) (w : World) (h : EntsIn w a len es) (hl : len ≤ 16) (hy : BytesIn w b lb cb ys) (hlb : lb ≤ 140737488351232) :
    Calls Try.prog 12 #[.slice a len cap, .slice b lb cb] w fun e w' => e = .returned (.bool true) ∧ Below w.heap.size w w' := by
  have He := Lib.hid h
  have Hok := Lib.hid h.2.1
  have Hel := Lib.hid h.1
  have Hy := Lib.hid hy
  clear h hy
  go_enter Try.func12, Try.ntmps12
  go_wp2_with fail
  refine (pack_ok a len cap es w He.out hl).mono ?_
  rintro e w1 ⟨v1, rfl, ho1, hn1⟩
  obtain ⟨a1, c1, rfl, hc1, _, hr1, _⟩ := ho1.lies
  rw [packTo_length] at hr1 ⊢
  have Hr1 := Lib.hid hr1
  clear ho1 hr1
  go_wp2_with fail
  refine (open_ok a1 c1 (packTo es 16) w1 Hr1.out).mono ?_
  rintro e w2 ⟨v2, rfl, ho2, hb2⟩
  obtain ⟨g, cg, rfl, hgc, hgm, hgb, hgs, hce⟩ := ents_form ho2 (by omega) (entsTo_length _ 16)
  unfold maxLen at hgm
  have hn2 := nu_trans hn1 hb2
  have Hce := Lib.hid (show ∀ j, j < 16 → w2.cell? ⟨g, j * 3, none⟩ = some (.int .u32 ((es.getD j (0, 0, 0)).1 : Int)) ∧ w2.cell? ⟨g, j * 3 + 1, none⟩ = some (.int .u32 ((es.getD j (0, 0, 0)).2.1 : Int)) ∧ w2.cell? ⟨g, j * 3 + 2, none⟩ = some (.int .u64 ((es.getD j (0, 0, 0)).2.2 : Int)) from fun j hj => by
    rw [← entAt_pack es Hok.out j hj]
    exact hce j _ (entsTo_get _ 16 j hj))
  have hb20 := nu_refl w2
  clear ho2 hb2 hce hn1
  go_wp2_with fail
  go_loopw [9] (fun i wr => ∃ k : Nat, k ≤ 16 ∧ i = .int .i64 k ∧ Below w.heap.size w wr ∧ Below w2.heap.size w2 wr) (fun i _ => 16 - (intOf i).toNat)
  case atStart => exact ⟨0, by omega, rfl, hn2, hb20⟩
  case round =>
    obtain ⟨k, hk, rfl, hnr, hbr⟩ := hrel
    by_cases hlt : k < 16
    · have hi : (k : Int) < 16 := by omega
      obtain ⟨h0, h1, h2⟩ := Hce.out k hlt
      have c0 := (hbr.cell (p := ⟨g, k * 3, none⟩) hgs).trans h0
      have c1 := (hbr.cell (p := ⟨g, k * 3 + 1, none⟩) hgs).trans h1
      have c2 := (hbr.cell (p := ⟨g, k * 3 + 2, none⟩) hgs).trans h2
      by_cases hkl : k < len
      · obtain ⟨b1, off, rfl, hlt2, hc⟩ := He.out.2.2 (by omega)
        obtain ⟨⟨e0, e1, e2⟩, he⟩ : ∃ e, es[k]? = some e := ⟨_, List.getElem?_eq_getElem (by rw [Hel.out]; exact hkl)⟩
        obtain ⟨k0, k1, k2⟩ := hc k _ he
        rw [List.getD_eq_getElem?_getD, he] at c0 c1 c2
        have d0 := (hnr.cell (p := ⟨b1, off + k * 3, none⟩) hlt2).trans k0
        have d1 := (hnr.cell (p := ⟨b1, off + k * 3 + 1, none⟩) hlt2).trans k1
        have d2 := (hnr.cell (p := ⟨b1, off + k * 3 + 2, none⟩) hlt2).trans k2
        simp only [Option.getD_some] at c0 c1 c2 d0 d1 d2
        have t : decide (k < len) = true := by simpa using hkl
        have t' : decide (len ≤ k) = false := by simp; omega
        have i2 : (k : Int) < (len : Int) := by omega
        clear hc k0 k1 k2 he h0 h1 h2
        go_wp2_with fail
        go_quiet (fail)
        go_wp2_with fail
        go_roundw
        case rel => exact ⟨k + 1, by omega, by go_num, nu_drewN hnr _, nu_drewN hbr _⟩
        case measure => simp [intOf]; omega
      · rw [List.getD_eq_getElem?_getD, List.getElem?_eq_none (by rw [Hel.out]; omega)] at c0 c1 c2
        simp only [Option.getD_none] at c0 c1 c2
        have t : decide (k < len) = false := by simpa using hkl
        have t' : decide (len ≤ k) = true := by simp; omega
        clear h0 h1 h2
        go_wp2_with fail
        go_quiet (fail)
        go_wp2_with fail
        go_roundw
        case rel => exact ⟨k + 1, by omega, by go_num, nu_drewN hnr _, nu_drewN hbr _⟩
        case measure => simp [intOf]; omega
    · obtain rfl : k = 16 := by omega
      have hyr := Hy.out.keep hnr
      by_cases hl2 : lb = 256
      · subst hl2
        have Hyb := Lib.hid (show ∀ x ∈ ys, x < 256 from fun x h => wf_u8_lt (Hy.out.1.2.1 x h))
        have Hyl := Lib.hid Hy.out.1.1
        go_wp2_with fail
        refine (open_ok b cb ys wr hyr).mono ?_
        rintro e w4 ⟨v4, rfl, ho4, hb4⟩
        obtain ⟨g4, c4, rfl, _, _, _, hgs4, hce4⟩ := ents_form ho4 (by omega) (entsTo_length _ 16)
        have hn4 := nu_trans hnr hb4
        have He4 := Lib.hid (ents_in (entsTo_length ys 16) (fun e he => by
          unfold entsTo at he
          obtain ⟨i, _, rfl⟩ := List.mem_map.1 he
          exact entAt_ok Hyb.out i) hgs4 hce4)
        clear ho4 hb4 hce4 hnr hyr
        go_wp2_with fail
        refine (pack_ok (some ⟨g4, 0, none⟩) 16 c4 (entsTo ys 16) w4 He4.out (by omega)).mono ?_
        rintro e w5 ⟨v5, rfl, ho5, hb5⟩
        rw [pack_entsTo ys Hyb.out 16 (by rw [Hyl.out]; omega) 16 (by omega), List.take_of_length_le (by rw [Hyl.out]; omega)] at ho5
        have hn5 := nu_trans hn4 hb5
        obtain ⟨a5, c5, rfl, _, _, hr5, _⟩ := ho5.lies
        rw [Hyl.out] at hr5 ⊢
        have Hr5 := Lib.hid hr5
        clear ho5 hr5 hb5 hn4
        go_wp2_with fail
        refine (same_any a5 b 256 256 c5 cb ys ys w5 Hr5.out.1 (Hy.out.keep hn5).1 (by omega) (by omega)).mono ?_
        rintro e w6 ⟨rfl, n6, rfl⟩
        rw [show decide (ys = ys) = true by simp]
        have hn6 := nu_drewN hn5 n6
        go_wp2_with fail
        refine (countAwake_any _).mono ?_
        rintro e w7 ⟨rfl, hb7⟩
        have hn7 := nu_trans hn6 hb7
        go_wp2_with fail
        go_ret
        exact ⟨rfl, hn7⟩
      · obtain ⟨f, hf⟩ : ∃ f : Int, f = (if lb < 256 then 2 else 4) := ⟨_, rfl⟩
        have t : (f != 0) = true := by rw [bne_iff_ne, hf]; split <;> omega
        have t2 : ((lb : Int) != 256) = true := by rw [bne_iff_ne]; omega
        have Hop := Lib.hid (open_bad b lb cb wr (by omega) hl2)
        rw [← hf] at Hop
        clear hl2 hf
        go_wp2_with fail
        refine Hop.out.mono ?_
        rintro e w4 ⟨rfl, rfl⟩
        go_wp2_with fail
        refine (countAwake_any _).mono ?_
        rintro e w7 ⟨rfl, hb7⟩
        have hn7 := nu_trans hnr hb7
        go_wp2_with fail
        go_ret
        exact ⟨rfl, hn7⟩

theorem countBack_walk (a : Option Addr) (len cap : Nat) (es : List Ent) (b : Option Addr) (lb cb : Nat) (ys : List Nat) (w : World) (h : EntsIn w a len es) (hm : len ≤ 9223372036854775807) (hy : BytesIn w b lb cb ys) (hlb : lb ≤ 140737488351232) :
    Calls Try.prog 12 #[.slice a len cap, .slice b lb cb] w fun e w' => e = .returned (.bool true) ∧ Below w.heap.size w w' := by
  by_cases hl : len ≤ 16
  · exact countBack_ok a len cap es b lb cb ys w h hl hy hlb
  · have i1 : (16 : Int) < (len : Int) := by omega
    have Hp := Lib.hid (pack_many a len cap w (by omega) hm)
    clear h hy hm hl
    go_enter Try.func12, Try.ntmps12
    go_wp2_with fail
    refine Hp.out.mono ?_
    rintro e w1 ⟨rfl, rfl⟩
    go_wp2_with fail
    refine (countAwake_any _).mono ?_
    rintro e w7 ⟨rfl, hb7⟩
    go_wp2_with fail
    go_ret
    exact ⟨rfl, hb7⟩
end Go.Proofs.Ytogcckedelkpbaa
