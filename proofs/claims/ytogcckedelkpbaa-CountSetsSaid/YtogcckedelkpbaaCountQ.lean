/-
  The walks of the document's Pack, of the count laws' own example, and of CountPacks.
-/
import Derived.Test.YtogcckedelkpbaaCountP
namespace Go.Proofs.Ytogcckedelkpbaa
open Go.ChangeShapes Go.WideShapes Go.ChangeAt Go.RowKit

theorem pack_many (a : Option Addr) (len cap : Nat) (w : World) (hl : 16 < len) (hm : len ≤ 9223372036854775807) :
    Calls Try.prog 14 #[.slice a len cap] w fun e w' => e = .returned (.tuple #[.slice none 0 0, .int .i64 1]) ∧ w = w' := by
  have hi : (16 : Int) < (len : Int) := by omega
  go_enter Try.func14, Try.ntmps14
  go_wp2_with fail
  go_ret2
  exact ⟨rfl, rfl⟩

/-- The document's Put where it can. -/
theorem refPut_ok (a : Option Addr) (len cap : Nat) (xs : List Nat) (n size : Nat) (ni si : Int) (w : World) (hx : BytesIn w a len cap xs) (hlen : len ≤ 140737488355310) (hp : putOk n size) (hn : n < 18446744073709551616) (hni : ni = (n : Int)) (hsi : si = (size : Int)) :
    Calls Try.prog 22 #[.slice a len cap, .int .u64 ni, .int .i64 si] w fun e w' =>
      ∃ v, e = .returned (.tuple #[v, .int .i64 0]) ∧ OwnB w' w.heap.size 5 v (xs ++ beL n size size) ∧ Below w.heap.size w w' := by
  subst hni
  subst hsi
  refine (refPut_any a len cap xs n size w hx hlen hp.1 hp.2.1 hn).mono ?_
  rintro e w' ⟨⟨_, h⟩, hb⟩
  have h0 : n / 256 ^ size = 0 := by
    obtain ⟨h1, h8, hf⟩ := hp
    rw [pow256]
    by_cases h : size < 8
    · exact hf h
    · have : size = 8 := by omega
      subst this
      exact Nat.div_eq_of_lt (by simpa using hn)
  obtain ⟨v, h1, h2⟩ := h h0
  exact ⟨v, h1, h2, hb⟩

set_option maxRecDepth 100000 in
set_option maxHeartbeats 1000000 in
theorem refBytes_any (e0 e1 e2 : Nat) (w : World) (b0 : e0 < 4294967296) (b1 : e1 < 4294967296) (b2 : e2 < 18446744073709551616) :
    Calls Try.prog 40 #[.agg #[.int .u32 (e0 : Int), .int .u32 (e1 : Int), .int .u64 (e2 : Int)]] w fun e w' => ∃ v, e = .returned v ∧ OwnB w' w.heap.size 5 v (entL (e0, e1, e2)) ∧ Below w.heap.size w w' := by
  have Hok0 := Lib.hid (putOk_4 b0)
  have Hok1 := Lib.hid (putOk_4 b1)
  have Hok2 := Lib.hid (putOk_8 (n := e2))
  have Hb2 := Lib.hid b2
  have hn0 := nu_alloc (nu_refl w) (.cells #[.int .u32 (e0 : Int), .int .u32 (e1 : Int), .int .u64 (e2 : Int)] 35)
  have HX := Lib.hid (Blk.made w 35 #[.int .u32 (e0 : Int), .int .u32 (e1 : Int), .int .u64 (e2 : Int)])
  clear b2
  go_enter Try.func40, Try.ntmps40
  go_wp2_with fail
  have b2 := Hb2.out
  generalize w.alloc (.cells #[.int .u32 (e0 : Int), .int .u32 (e1 : Int), .int .u64 (e2 : Int)] 35) = u0 at *
  ((with_reducible refine (refPut_ok none 0 0 [] e0 4 _ _ _ (BytesIn.nil_ _) (by omega) Hok0.out (by omega) ?_ ?_).mono ?_))
  · rfl
  · rfl
  rintro e u1 ⟨v1, rfl, ho1, hb1⟩
  rw [List.nil_append] at ho1
  have HX1 := Lib.hid (HX.out.below hb1 HX.out.lt)
  have cx1 := HX1.out.at 1 _ rfl
  have hn1 := nu_trans hn0 hb1
  obtain ⟨a1, c1, rfl, _, _, hr1, _⟩ := ho1.lies
  simp only [beL_length] at hr1 ⊢
  have Hr1 := Lib.hid hr1
  clear ho1 hr1 hb1 hn0
  go_wp2_with fail
  ((with_reducible refine (refPut_ok _ 4 _ (beL e0 4 4) e1 4 _ _ _ Hr1.out (by omega) Hok1.out (by omega) ?_ ?_).mono ?_))
  · rfl
  · rfl
  rintro e u2 ⟨v2, rfl, ho2, hb2⟩
  have HX2 := Lib.hid (HX1.out.below hb2 HX1.out.lt)
  have cx2 := HX2.out.at 2 _ rfl
  have hn2 := nu_trans hn1 hb2
  obtain ⟨a2, c2, rfl, _, _, hr2, _⟩ := ho2.lies
  simp only [List.length_append, beL_length] at hr2 ⊢
  have Hr2 := Lib.hid hr2
  clear ho2 hr2 hb2 hn1 cx1
  go_wp2_with fail
  ((with_reducible refine (refPut_ok _ _ _ (beL e0 4 4 ++ beL e1 4 4) e2 8 _ _ _ Hr2.out (by omega) Hok2.out (by omega) ?_ ?_).mono ?_))
  · rfl
  · rfl
  rintro e u3 ⟨v3, rfl, ho3, hb3⟩
  have hn3 := nu_trans hn2 hb3
  have hs2 := hn2.size
  have Ho3 := Lib.hid (show OwnB u3 w.heap.size 5 v3 (entL (e0, e1, e2)) from own_mono ho3 hs2)
  clear ho3 hb3 hn2 cx2
  go_wp2_with fail
  go_ret
  exact ⟨_, rfl, Ho3.out, hn3⟩

theorem packTo_pad (es : List Ent) (k m : Nat) (hk : es.length ≤ k) : packTo es (k + m) = packTo es k ++ List.replicate (16 * m) 0 := by
  induction m with
  | zero => simp
  | succ m ih =>
    rw [← Nat.add_assoc, packTo_succ, ih, List.getD_eq_getElem?_getD, List.getElem?_eq_none (by omega)]
    simp only [Option.getD_none]
    rw [entL_zero, List.append_assoc, List.replicate_append_replicate, show 16 * m + 16 = 16 * (m + 1) by omega]

/-- A slice's length. -/
def lenOfV : Value → Nat
  | .slice _ n _ => n
  | _ => 0

set_option maxRecDepth 100000 in
set_option maxHeartbeats 2000000 in
theorem refPack_ok (a : Option Addr) (len cap : Nat) (es : List Ent) (w : World) (h : EntsIn w a len es) (hl : len ≤ 16) :
    Calls Try.prog 15 #[.slice a len cap] w fun e w' => ∃ v, e = .returned (.tuple #[v, .int .i64 0]) ∧ OwnB w' w.heap.size 5 v (packTo es 16) ∧ Below w.heap.size w w' := by
  obtain ⟨i0, hi, hz0, hz1, hz2⟩ := info_parts info_u8
  have Hen := Lib.hid h.2.1
  have Hes := Lib.hid h
  have Hle := Lib.hid h.1
  clear h
  go_enter Try.func15, Try.ntmps15
  go_wp2_with fail
  go_loopw [4, 5] (fun v i wr => ∃ k : Nat, k ≤ len ∧ i = .int .i64 k ∧ OwnB wr w.heap.size 5 v (packTo es k) ∧ Below w.heap.size w wr) (fun _ i _ => len - (intOf i).toNat)
  case atStart => exact ⟨0, by omega, rfl, ⟨⟨by simp [packTo], .inl ⟨rfl, rfl⟩⟩, by simp [packTo]⟩, nu_refl w⟩
  case round =>
    obtain ⟨k, hk, rfl, hov, hb⟩ := hrel
    have Hov := Lib.hid hov
    clear hov
    by_cases hkl : k < len
    · obtain ⟨b, off, rfl, hlt2, hc⟩ := Hes.out.2.2 (by omega)
      obtain ⟨⟨e0, e1, e2⟩, he⟩ : ∃ e, es[k]? = some e := ⟨_, List.getElem?_eq_getElem (by rw [Hle.out]; exact hkl)⟩
      obtain ⟨h0, h1, h2⟩ := hc k _ he
      have Hok := Lib.hid (Hen.out _ (List.mem_of_getElem? he))
      have c0 := (hb.cell (p := ⟨b, off + k * 3, none⟩) hlt2).trans h0
      have c1 := (hb.cell (p := ⟨b, off + k * 3 + 1, none⟩) hlt2).trans h1
      have c2 := (hb.cell (p := ⟨b, off + k * 3 + 2, none⟩) hlt2).trans h2
      simp only [] at c0 c1 c2
      have HE := Lib.hid (show es.getD k (0, 0, 0) = (e0, e1, e2) by rw [List.getD_eq_getElem?_getD, he]; rfl)
      have i2 : (k : Int) < (len : Int) := by omega
      clear hc h0 h1 h2 he
      go_wp2_with fail
      refine (refBytes_any e0 e1 e2 wr Hok.out.1 Hok.out.2.1 Hok.out.2.2).mono ?_
      rintro e u1 ⟨v1, rfl, ho1, hb1⟩
      have hn1 := nu_trans hb hb1
      have Hov1 := Lib.hid (show OwnB u1 w.heap.size 5 _ (packTo es k) from ⟨Hov.out.1.kept (gb_of_below hb1 none) (by
        cases hv : Value.ownBlock _ with
        | none => exact .inl rfl
        | some j => exact .inr (by simp)), Hov.out.2⟩)
      obtain ⟨a1, c1', rfl, _, _, hr1, _⟩ := ho1.lies
      rw [entL_length] at hr1 ⊢
      have Hr1 := Lib.hid hr1
      clear ho1 hr1 hb1 hb c0 c1 c2
      have hsz1 := hn1.size
      go_wp2_with (at_builtin; refine wpList_append_src rfl (.tmp 15) (.tmp 20) 23 rfl w.heap.size 5 i0 (.int .u8 0) 1 1 Try.underlying23 hi hz0 hz1 hz2 rfl (by decide) _ (packTo es k).length ((packTo es k).map vb) rfl Hov1.out.1 a1 16 c1' ((entL (e0, e1, e2)).map vb) rfl Hr1.out.2 ?c0 Hr1.out.src (vb_one _) ?c1 ?c2 hsz1 ?_)
      case c0 => rw [List.length_map, entL_length]
      case c1 => rw [packTo_length]; unfold maxLen; omega
      case c2 => rw [packTo_length]; omega
      intro v2 w2 hown2 hg2
      have hn2 := hn1.grown hg2 hsz1 (fun k hk => (Hov1.out.1.lt k hk).1)
      have Hov2 := Lib.hid (show OwnB w2 w.heap.size 5 v2 (packTo es (k + 1)) from ⟨by rw [packTo_length, packTo_succ, HE.out, List.map_append]; rw [packTo_length] at hown2; exact hown2, packTo_lt es (k + 1)⟩)
      clear hown2 hg2 hn1
      go_wp2_with fail
      go_roundw
      case rel => exact ⟨k + 1, by omega, by go_num, Hov2.out, hn2⟩
      case measure => simp [intOf]; omega
    · obtain rfl : k = len := by omega
      obtain ⟨wo, rfl⟩ : ∃ wo : World, wo = wr := ⟨_, rfl⟩
      obtain ⟨av, cv, hve, _, _, hv, _⟩ := Hov.out.lies
      have Hov0 := Lib.hid (show OwnB wo w.heap.size 5 (.slice av (packTo es k).length cv) (packTo es k) by rw [← hve]; exact Hov.out)
      subst hve
      clear hv Hov
      rw [packTo_length] at Hov0 ⊢
      go_wp2_with fail
      go_loopw [4] (fun v wr => ∃ m : Nat, m ≤ 256 - 16 * k ∧ OwnB wr w.heap.size 5 v (packTo es k ++ List.replicate m 0) ∧ Below w.heap.size w wr) (fun v _ => 256 - lenOfV v)
      case atStart => exact ⟨0, by omega, by simpa using Hov0.out, hb⟩
      case round =>
        obtain ⟨m, hm, hov, hb⟩ := hrel
        have hsz := hb.size
        obtain ⟨L, hL⟩ : ∃ L, L = packTo es k ++ List.replicate m 0 := ⟨_, rfl⟩
        have hLl : L.length = 16 * k + m := by rw [hL, List.length_append, packTo_length, List.length_replicate]
        rw [← hL] at hov
        obtain ⟨a5, c5, hv5, _, _, _, _⟩ := hov.lies
        subst hv5
        have HL := Lib.hid hL
        have Hov := Lib.hid hov
        rw [hLl] at Hov ⊢
        clear hov hL
        by_cases hlt : 16 * k + m < 256
        · have i3 : (16 * (k : Int) + (m : Int)) < 256 := by omega
          have HLl := Lib.hid hLl
          clear hLl
          go_wp2_with (at_builtin; refine wpList_append_own _ rfl (.tmp 25) (.tmp 26) 23 rfl w.heap.size 5 i0 (.int .u8 0) 1 1 Try.underlying23 hi hz0 hz1 hz2 rfl (by decide) _ (16 * k + m) (L.map vb) rfl ?own ⟨wr.heap.size, 0, none⟩ 1 1 [.int .u8 0] rfl rfl ?c1 ?c2 ?c3 ?c4 ?c5 ?_)
          case own => exact (show wr.ownsRow _ _ _ _ (16 * k + m) _ by rw [← HLl.out]; rw [← HLl.out] at Hov; exact Hov.out.1).alloc _
          case c1 => exact cell_one_new _ _ _
          case c2 => intro u hu; obtain rfl := List.mem_singleton.1 hu; rfl
          case c3 => unfold maxLen; omega
          case c4 => omega
          case c5 => simp; omega
          intro v' w3 hown3 hg3 _
          have hb3 := (hb.alloc hb.size (.cells #[.int .u8 0] 5)).grown hg3 (by simp; omega) (fun k hk => (Hov.out.1.lt k hk).1)
          have Hov3 := Lib.hid (show OwnB w3 w.heap.size 5 v' (packTo es k ++ List.replicate (m + 1) 0) by
            have e1 : packTo es k ++ List.replicate (m + 1) 0 = L ++ [0] := by rw [HL.out, List.append_assoc, List.replicate_succ']
            rw [e1]
            refine ⟨by rw [List.length_append, HLl.out, List.map_append]; exact hown3, fun x hx => ?_⟩
            rcases List.mem_append.1 hx with h | h
            · exact Hov.out.2 x h
            · obtain rfl := List.mem_singleton.1 h
              omega)
          have Hlen := Lib.hid (show lenOfV v' = 16 * k + m + 1 by
            rcases hown3.2 with ⟨_, h0⟩ | ⟨_, _, _, rfl, _⟩
            · omega
            · rfl)
          clear hown3 hg3
          go_wp2_with fail
          go_roundw
          case rel => exact ⟨m + 1, by omega, Hov3.out, hb3⟩
          case measure => rw [Hlen.out]; simp [lenOfV]; omega
        · have hm2 : m = 16 * (16 - k) := by omega
          have Hfin := Lib.hid (show OwnB wr w.heap.size 5 (.slice a5 (16 * k + m) c5) (packTo es 16) by
            have e1 := packTo_pad es k (16 - k) (by rw [Hle.out]; exact Nat.le_refl _)
            rw [show k + (16 - k) = 16 by omega, ← hm2] at e1
            rw [e1, ← HL.out]
            exact Hov.out)
          have i3 : (256 : Int) ≤ 16 * (k : Int) + (m : Int) := by omega
          clear hLl hm2
          go_wp2_with fail
          go_ret2
          exact ⟨_, rfl, Hfin.out, hb⟩

theorem refPack_many (a : Option Addr) (len cap : Nat) (w : World) (hl : 16 < len) (hm : len ≤ 9223372036854775807) :
    Calls Try.prog 15 #[.slice a len cap] w fun e w' => e = .returned (.tuple #[.slice none 0 0, .int .i64 1]) ∧ w = w' := by
  have hi : (16 : Int) < (len : Int) := by omega
  go_enter Try.func15, Try.ntmps15
  go_wp2_with fail
  go_ret2
  exact ⟨rfl, rfl⟩
end Go.Proofs.Ytogcckedelkpbaa
