/-
  The walk of count.Set.
-/
import Derived.Test.YtogcckedelkpbaaCountS
namespace Go.Proofs.Ytogcckedelkpbaa
open Go.ChangeShapes Go.WideShapes Go.ChangeAt Go.RowKit

/-- A block with another entry. -/
def setL (xs : List Nat) (i : Nat) (x : Ent) : List Nat := xs.take (16 * i) ++ (entL x ++ xs.drop (16 * i + 16))
theorem setL_length {xs : List Nat} (h : xs.length = 256) {i : Nat} (hi : i < 16) (x : Ent) : (setL xs i x).length = 256 := by
  unfold setL
  rw [List.length_append, List.length_append, List.length_take, List.length_drop, entL_length]
  omega
theorem setL_lt {xs : List Nat} (h : ∀ y ∈ xs, y < 256) (i : Nat) (x : Ent) : ∀ y ∈ setL xs i x, y < 256 := by
  intro y hy
  unfold setL at hy
  simp only [List.mem_append] at hy
  rcases hy with hy | hy | hy
  · exact h y (List.mem_of_mem_take hy)
  · exact entL_lt x y hy
  · exact h y (List.mem_of_mem_drop hy)
theorem splice_set {L : List Value} {xs : List Nat} {i : Nat} {x : Ent} (h : L.take 256 = xs.map vb) (hL : 256 ≤ L.length) (hx : xs.length = 256) (hi : i < 16) : (splice L (16 * i) ((entL x).map vb)).take 256 = (setL xs i x).map vb := by
  obtain ⟨R, hR⟩ : ∃ R, L = xs.map vb ++ R := ⟨L.drop 256, by rw [← h, List.take_append_drop]⟩
  have e : splice L (16 * i) ((entL x).map vb) = (setL xs i x).map vb ++ R := by
    unfold splice setL
    rw [hR, List.take_append_of_le_length (by rw [List.length_map]; omega), List.length_map, entL_length, List.drop_append_of_le_length (by rw [List.length_map]; omega)]
    simp [List.map_take, List.map_drop, List.append_assoc]
  rw [e, List.take_left' (by rw [List.length_map, setL_length hx hi])]
theorem pack_one (x : Ent) : (packTo [x] 16).take 16 = entL x := by
  obtain ⟨r, hr⟩ := packTo_at [x] 0 15
  have h0 : packTo [x] 0 = [] := rfl
  rw [h0, List.nil_append] at hr
  rw [show (16 : Nat) = 0 + 1 + 15 from rfl, hr, List.take_left' (entL_length _)]
  rfl

set_option maxRecDepth 100000 in
set_option maxHeartbeats 2000000 in
theorem set_ok (ad : Addr) (cap : Nat) (xs : List Nat) (i : Nat) (e0 e1 e2 : Nat) (w : World) (hx : BytesIn w (some ad) 256 cap xs) (hi : i < 16) (hok : entOk (e0, e1, e2)) :
    Calls Try.prog 38 #[.slice (some ad) 256 cap, .int .i64 i, .agg #[.int .u32 (e0 : Int), .int .u32 (e1 : Int), .int .u64 (e2 : Int)]] w fun e w' => ∃ v, e = .returned (.tuple #[v, .int .i64 0]) ∧ OwnB w' w.heap.size 5 v (setL xs i (e0, e1, e2)) ∧ Below w.heap.size w w' := by
  obtain ⟨i0, hi0, hz0, hz1, hz2⟩ := info_parts info_u8
  have Hx := Lib.hid hx
  have Hxl := Lib.hid hx.1.1
  have Hxb := Lib.hid (show ∀ x ∈ xs, x < 256 from fun x h => wf_u8_lt (hx.1.2.1 x h))
  have Hok := Lib.hid hok
  have i1 : (i : Int) < 16 := by omega
  have hn0 := nu_alloc (nu_refl w) (.cells #[.int .u32 (e0 : Int), .int .u32 (e1 : Int), .int .u64 (e2 : Int)] 35)
  have HX := Lib.hid (Blk.made w 35 #[.int .u32 (e0 : Int), .int .u32 (e1 : Int), .int .u64 (e2 : Int)])
  clear hx hok
  go_enter Try.func38, Try.ntmps38
  go_wp2_with fail
  refine (get_ok (some ad) cap xs i _ (Hx.out.keep hn0) hi).mono ?_
  rintro e w1 ⟨rfl, hb1⟩
  have hn1 := nu_trans hn0 hb1
  have HX1 := Lib.hid (HX.out.below hb1 HX.out.lt)
  obtain ⟨⟨d0, d1, d2⟩, hd⟩ : ∃ d, entAt xs i = d := ⟨_, rfl⟩
  rw [hd]
  have HX2 := Lib.hid (HX1.out.alloc (.cells #[.int .u32 (d0 : Int), .int .u32 (d1 : Int), .int .u64 (d2 : Int)] 35))
  have x0 := HX2.out.at 0 _ rfl
  have x1 := HX2.out.at 1 _ rfl
  have x2 := HX2.out.at 2 _ rfl
  simp only [List.getElem_toArray, List.getElem_cons_zero, List.getElem_cons_succ] at x0 x1 x2
  have hn2 := nu_alloc hn1 (.cells #[.int .u32 (d0 : Int), .int .u32 (d1 : Int), .int .u64 (d2 : Int)] 35)
  clear hb1 hd hn0
  unfold entV
  go_wp2_with fail
  have Hs2 := Lib.hid (show (w1.alloc (.cells #[.int .u32 (d0 : Int), .int .u32 (d1 : Int), .int .u64 (d2 : Int)] 35)).heap.size = w1.heap.size + 1 by simp)
  generalize w1.alloc (.cells #[.int .u32 (d0 : Int), .int .u32 (d1 : Int), .int .u64 (d2 : Int)] 35) = u2 at *
  have hn3 := nu_alloc hn2 (.cells #[.int .u32 (e0 : Int), .int .u32 (e1 : Int), .int .u64 (e2 : Int)] 35)
  refine (pack_ok _ 1 1 [(e0, e1, e2)] _ (by have h := ents_one u2 (e0, e1, e2) Hok.out; rw [Hs2.out] at h; exact h) (by omega)).mono ?_
  rintro e w4 ⟨v4, rfl, ho4, hb4⟩
  have hn4 := nu_trans hn3 hb4
  have hs4 := hn4.size
  obtain ⟨k4, c4, hc4, hv4, hk4, hk4', hk5, hk6, _, hk8⟩ := ho4.form (by rw [packTo_length]; omega)
  subst hv4
  rw [packTo_length] at hk5 ⊢
  rw [packTo_length] at hk8
  unfold maxLen at hk6
  have Hk4 := Lib.hid (show ∀ (j : Nat) (u : Value), ((entL (e0, e1, e2)).map vb)[j]? = some u → w4.cell? ⟨k4, j, none⟩ = some u from fun j u hu => by
    have hj : j < 16 := by
      have := (List.getElem?_eq_some_iff.1 hu).1
      rw [List.length_map, entL_length] at this
      exact this
    rw [List.getElem?_map, Option.map_eq_some_iff] at hu
    obtain ⟨y, hy, rfl⟩ := hu
    refine hk4'.at j _ (own_cell hk8 ?_)
    rw [← pack_one, List.getElem?_take] at hy
    rw [if_pos hj] at hy
    exact hy)
  have hlt4 := hk4'.lt
  have Hx4 := Lib.hid (Hx.out.keep (nu_alloc hn4 (.cells #[] 5)))
  have Hemp := Lib.hid (World.ownsRow_made (base := w4.heap.size) (e := 5) (size := 1) w4 #[] 0 (Nat.le_refl _) (by unfold maxLen; omega) rfl)
  clear ho4 hb4 hk4 hk4' hk8 hn2 hn3 x0 x1 x2 hn1 HX1 HX2
  go_wp2_with (at_builtin; refine wpList_append_own _ rfl (.tmp 28) (.tmp 29) 23 rfl w4.heap.size 5 i0 (.int .u8 0) 1 1 Try.underlying23 hi0 hz0 hz1 hz2 rfl (by decide) _ 0 [] rfl Hemp.out ad 256 cap (xs.map vb) rfl ?c0 (Hx4.out.src ad rfl) (vb_one xs) ?c1 ?c2 ?c3 ?_)
  case c0 => rw [List.length_map, Hxl.out]
  case c1 => unfold maxLen; omega
  case c2 => omega
  case c3 => simp
  intro v5 w5 hown5 hg5 _
  have hb5 := (nu_alloc (nu_refl w4) (.cells #[] 5)).grown hg5 (by simp) (fun k hk => by have hk2 : w4.heap.size = k := Option.some.inj hk; omega)
  have hn5 := nu_trans hn4 hb5
  have ho5 : OwnB w5 w4.heap.size 5 v5 xs := ⟨by rw [Hxl.out]; simpa using hown5, Hxb.out⟩
  obtain ⟨k5, c5, cur, hv5, hq1, hq2, hq3, hq4, hq5, hq6⟩ := ho5.form (by rw [Hxl.out]; omega)
  subst hv5
  rw [Hxl.out] at hq3 hq6 ⊢
  unfold maxLen at hq4
  have hne5 : ¬ c5 = 16 * i := by omega
  have k1 : IntKind.i64.wrap (16 * (i : Int)) = 16 * (i : Int) := IntWalk.i64_in _ (by omega)
  have k3 : (16 * (i : Int)).toNat = 16 * i := by omega
  have k5' : (0 : Int) ≤ 16 * (i : Int) := by omega
  have k6 : 16 * (i : Int) ≤ (c5 : Int) := by omega
  have k7 : 16 * (i : Int) ≤ 256 := by omega
  have i16 : (16 : Int) ≤ (c4 : Int) := by omega
  have hsz5 := hn5.size
  have HQ := Lib.hid hq2
  have Hq6 := Lib.hid hq6
  have Hb45 := Lib.hid (nu_drew hb5)
  have Hn5 := Lib.hid (nu_drew hn5)
  have Hq5 := Lib.hid hq5
  have Hcl := Lib.hid (show ((entL (e0, e1, e2)).map vb).length = Nat.min 16 (256 - 16 * i) by
    rw [List.length_map, entL_length]
    show 16 = min 16 (256 - 16 * i)
    omega)
  have Hcf := Lib.hid (show 16 * i + ((entL (e0, e1, e2)).map vb).length ≤ cur.toList.length by rw [List.length_map, entL_length, Array.length_toList, hq5]; omega)
  clear hq2 hq6 hb5 hn5 hq5 hown5 ho5 hg5 hn4 Hx4 Hemp HX
  go_wp2_with fail
  go_still_tail 6, (by kernel_rfl)
  change wpList _ _ _ _ _ w5.drew
  refine wpList_copy_splice rfl (.tmp 34) (.tmp 36) 23 23 rfl 5 Try.underlying23 (by kernel_rfl) _ _ _ _ _ _ rfl rfl k5 (16 * i) cur.toList 5 HQ.out ((entL (e0, e1, e2)).map vb) Hcl.out ?_ Hcf.out (vb_one _) w.heap.size w Hn5.out (by omega) ?_
  · intro _
    exact ⟨rfl, _, rfl, fun j v hv => by
      rw [Go.WideShapes.add_plain, Nat.zero_add]
      exact (Hb45.out.cell (p := ⟨k4, j, none⟩) hlt4).trans (Hk4.out j v hv)⟩
  intro w6 hg6 hn6
  have Hfin := Lib.hid (show OwnB w6 w.heap.size 5 (.slice (some ⟨k5, 0, none⟩) 256 c5) (setL xs i (e0, e1, e2)) by
    refine ⟨⟨?_, .inr ⟨k5, c5, _, ?_, by omega, hg6.out, ?_, by unfold maxLen; omega, ?_, ?_⟩⟩, setL_lt Hxb.out i _⟩
    · rw [List.length_map, Nat.mul_one]
    · rw [setL_length Hxl.out hi]
    · rw [setL_length Hxl.out hi]; exact hq3
    · simp only [List.size_toArray]
      rw [length_splice _ _ _ Hcf.out, Array.length_toList, Hq5.out, Nat.mul_one]
    · rw [setL_length Hxl.out hi]
      simp only [Nat.mul_one, List.toList_toArray]
      exact splice_set Hq6.out (by rw [Array.length_toList, Hq5.out]; exact hq3) Hxl.out hi)
  clear hg6 HQ Hcl Hcf k1 k3
  go_wp2_with fail
  go_ret2
  exact ⟨_, rfl, Hfin.out, hn6⟩
end Go.Proofs.Ytogcckedelkpbaa
