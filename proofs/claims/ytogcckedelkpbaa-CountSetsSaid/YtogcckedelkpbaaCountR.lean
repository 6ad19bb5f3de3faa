/-
  The walks of the count laws' own example, and of CountPacks.
-/
import Derived.Test.YtogcckedelkpbaaCountQ
namespace Go.Proofs.Ytogcckedelkpbaa
open Go.ChangeShapes Go.WideShapes Go.ChangeAt Go.RowKit

theorem ents_one (w : World) (x : Ent) (hx : entOk x) : EntsIn (w.alloc (.cells #[.int .u32 (x.1 : Int), .int .u32 (x.2.1 : Int), .int .u64 (x.2.2 : Int)] 35)) (some ⟨w.heap.size, 0, none⟩) 1 [x] := by
  refine ⟨rfl, fun e he => by obtain rfl := List.mem_singleton.1 he; exact hx, fun _ => ⟨w.heap.size, 0, rfl, by simp, fun i e he => ?_⟩⟩
  cases i with
  | zero =>
    simp at he
    subst he
    have h := Blk.made w 35 #[.int .u32 (x.1 : Int), .int .u32 (x.2.1 : Int), .int .u64 (x.2.2 : Int)]
    exact ⟨h.at 0 _ rfl, h.at 1 _ rfl, h.at 2 _ rfl⟩
  | succ i => simp at he

theorem pk123 : (packTo [(1, 2, 3)] 16)[3]? = some 1 ∧ (packTo [(1, 2, 3)] 16)[7]? = some 2 ∧ (packTo [(1, 2, 3)] 16)[15]? = some 3 := by decide +kernel

set_option maxRecDepth 100000 in
set_option maxHeartbeats 1000000 in
theorem countAwake_any (w : World) : Calls Try.prog 17 #[] w fun e w' => e = .returned (.bool true) ∧ Below w.heap.size w w' := by
  have hn0 := nu_alloc (nu_refl w) (.cells #[.int .u32 1, .int .u32 2, .int .u64 3] 35)
  have He := Lib.hid (ents_one w (1, 2, 3) ⟨by decide, by decide, by decide⟩)
  go_enter Try.func17, Try.ntmps17
  go_wp2_with fail
  refine (pack_ok _ 1 1 [(1, 2, 3)] _ (by exact He.out) (by omega)).mono ?_
  rintro e w1 ⟨v, rfl, ho, hb⟩
  have hn1 := nu_trans hn0 hb
  obtain ⟨k, c, cur, hv, _, h2, h3, h4, _, h6⟩ := ho.form (by rw [packTo_length]; omega)
  subst hv
  rw [packTo_length] at h3 h6 ⊢
  have c3 := h2.at 3 _ (own_cell h6 pk123.1)
  have c7 := h2.at 7 _ (own_cell h6 pk123.2.1)
  have c15 := h2.at 15 _ (own_cell h6 pk123.2.2)
  unfold vb at c3 c7 c15
  clear ho h2 h6 hb hn0
  go_wp2_with fail
  go_ret
  exact ⟨rfl, hn1⟩

set_option maxRecDepth 100000 in
set_option maxHeartbeats 1000000 in
theorem countPacks_walk (a : Option Addr) (len cap : Nat) (es : List Ent) (w : World) (h : EntsIn w a len es) (hm : len ≤ 9223372036854775807) :
    Calls Try.prog 3 #[.slice a len cap] w fun e w' => e = .returned (.bool true) ∧ Below w.heap.size w w' := by
  have He := Lib.hid h
  clear h
  by_cases hl : len ≤ 16
  · go_enter Try.func3, Try.ntmps3
    go_wp2_with fail
    refine (pack_ok a len cap es w He.out hl).mono ?_
    rintro e w1 ⟨v1, rfl, ho1, hn1⟩
    obtain ⟨a1, c1, rfl, _, _, hr1, _⟩ := ho1.lies
    rw [packTo_length] at hr1 ⊢
    have Hr1 := Lib.hid hr1
    clear ho1 hr1
    go_wp2_with fail
    refine (refPack_ok a len cap es w1 (He.out.keep hn1) hl).mono ?_
    rintro e w2 ⟨v2, rfl, ho2, hb2⟩
    obtain ⟨a2, c2, rfl, _, _, hr2, _⟩ := ho2.lies
    rw [packTo_length] at hr2 ⊢
    have Hr2 := Lib.hid hr2
    have Hr12 := Lib.hid (Hr1.out.keep hb2)
    have hn2 := nu_trans hn1 hb2
    clear ho2 hr2 hb2 hn1
    go_wp2_with fail
    refine (same_any a1 a2 _ _ c1 c2 (packTo es 16) (packTo es 16) w2 Hr12.out.1 Hr2.out.1 (by omega) (by omega)).mono ?_
    rintro e w3 ⟨rfl, n3, rfl⟩
    rw [show decide (packTo es 16 = packTo es 16) = true by simp]
    have hn3 := nu_drewN hn2 n3
    go_wp2_with fail
    refine (countAwake_any _).mono ?_
    rintro e w4 ⟨rfl, hb4⟩
    have hn4 := nu_trans hn3 hb4
    go_wp2_with fail
    go_ret
    exact ⟨rfl, hn4⟩
  · go_enter Try.func3, Try.ntmps3
    go_wp2_with fail
    refine (pack_many a len cap w (by omega) hm).mono ?_
    rintro e w1 ⟨rfl, rfl⟩
    go_wp2_with fail
    refine (refPack_many a len cap w (by omega) hm).mono ?_
    rintro e w1 ⟨rfl, rfl⟩
    go_wp2_with fail
    refine (same_any none none 0 0 0 0 [] [] w (BytesIn.nil_ _).1 (BytesIn.nil_ _).1 (by omega) (by omega)).mono ?_
    rintro e w3 ⟨rfl, n3, rfl⟩
    rw [show decide (([] : List Nat) = []) = true from rfl]
    have hn3 := nu_drewN (nu_refl w) n3
    go_wp2_with fail
    refine (countAwake_any _).mono ?_
    rintro e w4 ⟨rfl, hb4⟩
    have hn4 := nu_trans hn3 hb4
    go_wp2_with fail
    go_ret
    exact ⟨rfl, hn4⟩
end Go.Proofs.Ytogcckedelkpbaa
