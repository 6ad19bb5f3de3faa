/-
  The walks of count.Pack and of the document's Pack.
-/
import Derived.Test.YtogcckedelkpbaaEnts
import Derived.Test.YtogcckedelkpbaaRefPut
namespace Go.Proofs.Ytogcckedelkpbaa
open Go.ChangeShapes Go.WideShapes Go.ChangeAt Go.RowKit

theorem putOk_4 {n : Nat} (h : n < 4294967296) : putOk n 4 := ⟨by omega, by omega, fun _ => Nat.div_eq_of_lt (by simpa using h)⟩
theorem putOk_8 {n : Nat} : putOk n 8 := ⟨by omega, by omega, fun h => absurd h (by omega)⟩

set_option maxRecDepth 100000 in
set_option maxHeartbeats 2000000 in
theorem pack_ok (a : Option Addr) (len cap : Nat) (es : List Ent) (w : World) (h : EntsIn w a len es) (hl : len ≤ 16) :
    Calls Try.prog 14 #[.slice a len cap] w fun e w' => ∃ v, e = .returned (.tuple #[v, .int .i64 0]) ∧ OwnB w' w.heap.size 5 v (packTo es 16) ∧ Below w.heap.size w w' := by
  have Hen := Lib.hid h.2.1
  have Hes := Lib.hid h
  have Hle := Lib.hid h.1
  clear h
  go_enter Try.func14, Try.ntmps14
  go_wp2_with fail
  go_loopw [10, 4] (fun i v wr => ∃ k : Nat, k ≤ 16 ∧ i = .int .i64 k ∧ OwnB wr w.heap.size 5 v (packTo es k) ∧ Below w.heap.size w wr) (fun i _ _ => 16 - (intOf i).toNat)
  case atStart => exact ⟨0, by omega, rfl, ⟨⟨by simp [packTo], .inl ⟨rfl, rfl⟩⟩, by simp [packTo]⟩, nu_refl w⟩
  case round =>
    obtain ⟨k, hk, rfl, hov, hb⟩ := hrel
    by_cases hlt : k < 16
    · obtain ⟨av, cv, rfl, _, _, hv, _⟩ := hov.lies
      rw [packTo_length] at hv ⊢
      clear hov
      have hi : (k : Int) < 16 := by omega
      by_cases hkl : k < len
      · obtain ⟨b, off, rfl, hlt2, hc⟩ := Hes.out.2.2 (by omega)
        obtain ⟨⟨e0, e1, e2⟩, he⟩ : ∃ e, es[k]? = some e := ⟨_, List.getElem?_eq_getElem (by rw [Hle.out]; exact hkl)⟩
        obtain ⟨h0, h1, h2⟩ := hc k _ he
        have hok : entOk (e0, e1, e2) := Hen.out _ (List.mem_of_getElem? he)
        have b0 : e0 < 4294967296 := hok.1
        have b1 : e1 < 4294967296 := hok.2.1
        have b2 : e2 < 18446744073709551616 := hok.2.2
        have hbr : b < wr.heap.size := Nat.lt_of_lt_of_le hlt2 hb.size
        have c0 := (World.cell?_alloc_lt wr (.cells #[.int .u32 0, .int .u32 0, .int .u64 0] 35) ⟨b, off + k * 3, none⟩ hbr).trans ((hb.cell (p := ⟨b, off + k * 3, none⟩) hlt2).trans h0)
        have c1 := (World.cell?_alloc_lt wr (.cells #[.int .u32 0, .int .u32 0, .int .u64 0] 35) ⟨b, off + k * 3 + 1, none⟩ hbr).trans ((hb.cell (p := ⟨b, off + k * 3 + 1, none⟩) hlt2).trans h1)
        have c2 := (World.cell?_alloc_lt wr (.cells #[.int .u32 0, .int .u32 0, .int .u64 0] 35) ⟨b, off + k * 3 + 2, none⟩ hbr).trans ((hb.cell (p := ⟨b, off + k * 3 + 2, none⟩) hlt2).trans h2)
        simp only [] at c0 c1 c2
        have HE := Lib.hid (show es.getD k (0, 0, 0) = (e0, e1, e2) by rw [List.getD_eq_getElem?_getD, he]; rfl)
        have Hok0 := Lib.hid (putOk_4 b0)
        have Hok1 := Lib.hid (putOk_4 b1)
        have Hok2 := Lib.hid (putOk_8 (n := e2))
        have i2 : (k : Int) < (len : Int) := by omega
        have Hb2 := Lib.hid b2
        clear hc h0 h1 h2 he hok b2
        go_wp2_with fail
        have b2 := Hb2.out
        have hX := Blk.made wr 35 #[.int .u32 ((e0 : Nat) : Int), .int .u32 ((e1 : Nat) : Int), .int .u64 ((e2 : Nat) : Int)]
        have hn0 := nu_alloc hb (.cells #[.int .u32 ((e0 : Nat) : Int), .int .u32 ((e1 : Nat) : Int), .int .u64 ((e2 : Nat) : Int)] 35)
        have Hv0 := Lib.hid (hv.keep (nu_alloc (nu_refl wr) (.cells #[.int .u32 ((e0 : Nat) : Int), .int .u32 ((e1 : Nat) : Int), .int .u64 ((e2 : Nat) : Int)] 35)))
        have hle : w.heap.size ≤ wr.heap.size := hb.size
        generalize wr.alloc (.cells #[.int .u32 ((e0 : Nat) : Int), .int .u32 ((e1 : Nat) : Int), .int .u64 ((e2 : Nat) : Int)] 35) = u0 at *
        have HX := Lib.hid hX
        clear hX hv
        ((with_reducible refine (put_at _ (16 * k) _ (packTo es k) e0 4 _ _ _ Hv0.out (by omega) Hok0.out (by omega) ?_ ?_).mono ?_))
        · rfl
        · rfl
        rintro e u1 ⟨v1, rfl, ho1, hb1⟩
        have HX1 := Lib.hid (HX.out.below hb1 HX.out.lt)
        have cx1 := HX1.out.at 1 _ rfl
        have hn1 := nu_trans hn0 hb1
        obtain ⟨a1, c1, rfl, _, _, hr1, _⟩ := ho1.lies
        rw [List.length_append, packTo_length, beL_length] at hr1 ⊢
        have Hr1 := Lib.hid hr1
        clear ho1 hr1 hb1 hn0
        go_wp2_with fail
        ((with_reducible refine (put_at _ (16 * k + 4) _ (packTo es k ++ beL e0 4 4) e1 4 _ _ _ Hr1.out (by omega) Hok1.out (by omega) ?_ ?_).mono ?_))
        · rfl
        · rfl
        rintro e u2 ⟨v2, rfl, ho2, hb2⟩
        have HX2 := Lib.hid (HX1.out.below hb2 HX1.out.lt)
        have cx2 := HX2.out.at 2 _ rfl
        have hn2 := nu_trans hn1 hb2
        obtain ⟨a2, c2, rfl, _, _, hr2, _⟩ := ho2.lies
        simp only [List.length_append, packTo_length, beL_length] at hr2 ⊢
        have Hr2 := Lib.hid hr2
        clear ho2 hr2 hb2 hn1 cx1
        go_wp2_with fail
        ((with_reducible refine (put_at _ (16 * k + 4 + 4) _ (packTo es k ++ beL e0 4 4 ++ beL e1 4 4) e2 8 _ _ _ Hr2.out (by omega) Hok2.out (by omega) ?_ ?_).mono ?_))
        · rfl
        · rfl
        rintro e u3 ⟨v3, rfl, ho3, hb3⟩
        have hn3 := nu_trans hn2 hb3
        have hs2 := hn2.size
        have Ho3 := Lib.hid (show OwnB u3 w.heap.size 5 v3 (packTo es (k + 1)) by
          rw [packTo_succ, HE.out]
          rw [List.append_assoc, List.append_assoc] at ho3
          exact own_mono (by simpa [entL] using ho3) hs2)
        clear ho3 hb3 hn2 cx2
        go_wp2_with fail
        go_roundw
        case rel => exact ⟨k + 1, by omega, by go_num, Ho3.out, hn3⟩
        case measure => simp [intOf]; omega
      · have HE := Lib.hid (show es.getD k (0, 0, 0) = (0, 0, 0) by rw [List.getD_eq_getElem?_getD, List.getElem?_eq_none (by rw [Hle.out]; omega)]; rfl)
        have Hok0 := Lib.hid (putOk_4 (n := 0) (by omega))
        have Hok1 := Hok0
        have Hok2 := Lib.hid (putOk_8 (n := 0))
        have i2 : (len : Int) ≤ (k : Int) := by omega
        go_wp2_with fail
        have hX := Blk.made wr 35 #[.int .u32 0, .int .u32 0, .int .u64 0]
        have hn0 := nu_alloc hb (.cells #[.int .u32 0, .int .u32 0, .int .u64 0] 35)
        have Hv0 := Lib.hid (hv.keep (nu_alloc (nu_refl wr) (.cells #[.int .u32 0, .int .u32 0, .int .u64 0] 35)))
        have hle : w.heap.size ≤ wr.heap.size := hb.size
        generalize wr.alloc (.cells #[.int .u32 0, .int .u32 0, .int .u64 0] 35) = u0 at *
        have HX := Lib.hid hX
        clear hX hv
        ((with_reducible refine (put_at _ (16 * k) _ (packTo es k) 0 4 _ _ _ Hv0.out (by omega) Hok0.out (by omega) ?_ ?_).mono ?_))
        · rfl
        · rfl
        rintro e u1 ⟨v1, rfl, ho1, hb1⟩
        have HX1 := Lib.hid (HX.out.below hb1 HX.out.lt)
        have cx1 := HX1.out.at 1 _ rfl
        have hn1 := nu_trans hn0 hb1
        obtain ⟨a1, c1, rfl, _, _, hr1, _⟩ := ho1.lies
        rw [List.length_append, packTo_length, beL_length] at hr1 ⊢
        have Hr1 := Lib.hid hr1
        clear ho1 hr1 hb1 hn0
        go_wp2_with fail
        ((with_reducible refine (put_at _ (16 * k + 4) _ (packTo es k ++ beL 0 4 4) 0 4 _ _ _ Hr1.out (by omega) Hok1.out (by omega) ?_ ?_).mono ?_))
        · rfl
        · rfl
        rintro e u2 ⟨v2, rfl, ho2, hb2⟩
        have HX2 := Lib.hid (HX1.out.below hb2 HX1.out.lt)
        have cx2 := HX2.out.at 2 _ rfl
        have hn2 := nu_trans hn1 hb2
        obtain ⟨a2, c2, rfl, _, _, hr2, _⟩ := ho2.lies
        simp only [List.length_append, packTo_length, beL_length] at hr2 ⊢
        have Hr2 := Lib.hid hr2
        clear ho2 hr2 hb2 hn1 cx1
        go_wp2_with fail
        ((with_reducible refine (put_at _ (16 * k + 4 + 4) _ (packTo es k ++ beL 0 4 4 ++ beL 0 4 4) 0 8 _ _ _ Hr2.out (by omega) Hok2.out (by omega) ?_ ?_).mono ?_))
        · rfl
        · rfl
        rintro e u3 ⟨v3, rfl, ho3, hb3⟩
        have hn3 := nu_trans hn2 hb3
        have hs2 := hn2.size
        have Ho3 := Lib.hid (show OwnB u3 w.heap.size 5 v3 (packTo es (k + 1)) by
          rw [packTo_succ, HE.out]
          rw [List.append_assoc, List.append_assoc] at ho3
          exact own_mono (by simpa [entL] using ho3) hs2)
        clear ho3 hb3 hn2 cx2
        go_wp2_with fail
        go_roundw
        case rel => exact ⟨k + 1, by omega, by go_num, Ho3.out, hn3⟩
        case measure => simp [intOf]; omega
    · obtain rfl : k = 16 := by omega
      have Hov := Lib.hid hov
      clear hov
      go_wp2_with fail
      go_ret2
      exact ⟨_, rfl, Hov.out, hb⟩
end Go.Proofs.Ytogcckedelkpbaa
