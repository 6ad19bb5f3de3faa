/-
  The walk of the document's Sum (law07).
-/
import Derived.Test.YtnojbjconiddoaaGh22
import Derived.Test.YtnojbjconiddoaaGhW1
namespace Go.Proofs.Ytnojbjconiddoaa
open Go.ChangeShapes Go.WideShapes Go.ChangeAt Go.RowKit
set_option linter.unusedSimpArgs false

section
variable {w w' : World} {base : Nat} {e : TypeId} {size : Nat} {v : Value} {n : Nat} {xs : List Value}
theorem own_src (h : w.ownsRow base e size v n xs) : ∃ ao c, v = .slice ao n c ∧ (ao = none → n = 0 ∧ c = 0) ∧ ∀ ad, ao = some ad → ∀ j u, xs[j]? = some u → w.cell? (ad.add j) = some u := by
  rcases h.2 with ⟨h1, h2⟩ | ⟨g, cap, cur, h1, _⟩
  · exact ⟨none, 0, by rw [h1, h2], fun _ => ⟨h2, rfl⟩, fun ad had => by cases had⟩
  · refine ⟨some ⟨g, 0, none⟩, cap, h1, ⟨fun hn => absurd hn (by simp), fun ad had => ?_⟩⟩
    injection had with had
    subst had
    exact h.cells (by rw [h1]; rfl)
theorem own_below (h : w.ownsRow base e size v n xs) (hb : Below w.heap.size w w') : w'.ownsRow base e size v n xs := by
  refine ⟨h.1, ?_⟩
  rcases h.2 with hn | ⟨g, cap, cur, rfl, hb0, hgg, rest⟩
  · exact .inl hn
  · exact .inr ⟨g, cap, cur, rfl, hb0, (hb.block g (by have := (Array.getElem?_eq_some_iff.1 hgg).1; exact this)).trans hgg, rest⟩
end
theorem two_one (p q : List Nat) (k x : Nat) (hp : p.length = 8) (hk : k < 8) (hx : p[k]? = some x) : (fillTo p 8 k ++ fillTo q 8 k)[k]? = some 0 ∧ (fillTo p 8 k ++ fillTo q 8 k).set k x = fillTo p 8 (k + 1) ++ fillTo q 8 k := by
  have hl := fillTo_length p 8 k hp (by omega)
  rw [List.getElem?_append_left (by omega), List.set_append, if_pos (by omega), fillTo_at p 8 k hp hk, fillTo_succ p 8 k x hp hk hx]
  exact ⟨rfl, rfl⟩
theorem two_two (p q : List Nat) (k y : Nat) (hp : p.length = 8) (hq : q.length = 8) (hk : k < 8) (hy : q[k]? = some y) : (fillTo p 8 (k + 1) ++ fillTo q 8 k)[8 + k]? = some 0 ∧ (fillTo p 8 (k + 1) ++ fillTo q 8 k).set (8 + k) y = fillTo p 8 (k + 1) ++ fillTo q 8 (k + 1) := by
  have hl := fillTo_length p 8 (k + 1) hp (by omega)
  rw [List.getElem?_append_right (by omega), List.set_append, if_neg (by omega), hl, show 8 + k - 8 = k by omega, fillTo_at q 8 k hq hk, fillTo_succ q 8 k y hq hk hy]
  exact ⟨rfl, rfl⟩
theorem beL_get (n k : Nat) (hk : k < 8) : ∃ x : Nat, (beL (8 * n) 8 8)[k]? = some x ∧ 8 * (n : Int) / 2 ^ (56 - 8 * k) % 256 = (x : Int) := by
  refine ⟨8 * n / 2 ^ (56 - 8 * k) % 256, ?_, ?_⟩
  · unfold beL
    rw [List.getElem?_map, List.getElem?_range hk, show 56 - 8 * k = 8 * (8 - 1 - k) by omega]
    rfl
  · have h : ((2 ^ (56 - 8 * k) : Nat) : Int) = (2 : Int) ^ (56 - 8 * k) := by simp
    rw [← h]
    generalize 2 ^ (56 - 8 * k) = d
    rw [Int.natCast_emod, Int.natCast_ediv, Int.natCast_mul]
    rfl
theorem foldZip (D : List Value) : ∀ (cs : Array Value) (k : Nat), k + D.length ≤ cs.size → (List.foldl (fun (cs : Array Value) (x : Value × Nat) => cs.setIfInBounds x.snd x.fst) cs (D.zipIdx k)).toList = cs.toList.take k ++ D ++ cs.toList.drop (k + D.length) := by
  induction D with
  | nil => intro cs k _; simp
  | cons d D ih =>
    intro cs k h
    rw [List.length_cons] at h
    rw [List.zipIdx_cons, List.foldl_cons, ih _ (k + 1) (by rw [Array.size_setIfInBounds]; omega), Array.toList_setIfInBounds]
    have hk : k < cs.toList.length := by rw [Array.length_toList]; omega
    rw [List.drop_set_of_lt (by omega), List.take_add_one, List.getElem?_set_self hk, List.take_set_of_le (Nat.le_refl _), List.length_cons, show k + (D.length + 1) = k + 1 + D.length by omega]
    simp
theorem fold16 (D : List Value) (h : D.length = 16) : List.foldl (fun (cs : Array Value) (x : Value × Nat) => cs.setIfInBounds x.snd x.fst) z16l.toArray D.zipIdx = D.toArray := by
  apply Array.toList_inj.1
  rw [foldZip D z16l.toArray 0 (by rw [h]; exact Nat.le_refl _), h]
  simp
theorem step_load_mid {P : Program} {ops : Array Oper} {o : Oper} {a : Act} {w : World} {K : Act → World → Prop} {Q : Exit → Act → World → Prop} {G : Prop} (hgd : o.guard = none) (ty : TypeId) (x : Operand) (ho : o.op = .load ty x) (b f : Nat) (hx : a.eval x = .pointer (some ⟨b, f, none⟩)) (cs : List Value) (d : TypeDesc) (hc : w.rangeAt b f cs)
    (hu : P.underlying ty = some d) (hd : d.isRow = true) (hi : (P.info? ty).map (·.size) = some cs.length) (h : K (a.put o.dst (.agg cs.toArray)) w) : if Region.wanted o (yielded ops a.tmps) = true then Oper.wp P o a w K Q else G := by
  have hw : Region.wanted o (yielded ops a.tmps) = true := by simp [Region.wanted, hgd]
  rw [if_pos hw]
  exact wp_load_mid ty x ho b f hx cs d hc hu hd hi h
theorem bytB_zero : (bytB 0).map vb = z16l := by kernel_rfl
theorem flat16_one (xs : List Nat) (k n : Nat) : ∀ u ∈ flat16 xs k n, u.oneCell' = true := vb_one _

set_option maxRecDepth 100000 in
set_option maxHeartbeats 2000000 in
theorem refSum_any (ks : List Nat) (hkl : ks.length = 16) (hkx : ∀ x ∈ ks, x < 256) (a b : Option Addr) (la ca lb cb : Nat) (xs ys : List Nat) (w : World) (hx : BytesIn w a la ca xs) (hy : BytesIn w b lb cb ys) (hla : la ≤ 2000) (hlb : lb ≤ 2000) :
    Calls Try.prog 21 #[.agg (ks.map vb).toArray, .slice a la ca, .slice b lb cb] w fun e w' => e = .returned (.agg ((gsumB (polB ks) xs ys).map vb).toArray) ∧ Below w.heap.size w w' := by
  obtain ⟨i0, hi, hz0, hz1, hz2⟩ := info_parts info_16
  have hal := nu_alloc (nu_alloc (nu_refl w) (.cells (ks.map vb).toArray 22)) (.cells z16l.toArray 22)
  have HK := Lib.hid ((Blk.made w 22 (ks.map vb).toArray).alloc (.cells z16l.toArray 22))
  have HR := Lib.hid (Blk.made1 w (.cells (ks.map vb).toArray 22) 22 z16l.toArray)
  have Hal := Lib.hid hal
  have HX := Lib.hid (hx.keep hal)
  have HY := Lib.hid (hy.keep hal)
  clear hx hy hal
  go_enter Try.func21, Try.ntmps21
  go_upto_region 1 with fail
  generalize (w.alloc (.cells (ks.map vb).toArray 22)).alloc (.cells z16l.toArray 22) = w1 at *
  obtain ⟨A, hA⟩ : ∃ A, A = w.heap.size := ⟨_, rfl⟩
  obtain ⟨Rb, hRb⟩ : ∃ Rb, Rb = w.heap.size + 1 := ⟨_, rfl⟩
  have Hab := Lib.hid (show A ≠ Rb ∧ w.heap.size ≤ Rb from ⟨by omega, by omega⟩)
  rw [← hA] at HK
  rw [← hRb] at HR
  rw [← hRb, ← hA]
  clear hA hRb
  go_wp2_with fail
  refine (blocks_any a la ca xs w1 HX.out hla).mono ?_
  rintro e w2 ⟨v1, rfl, hO1, hb1⟩
  have HO1 := Lib.hid hO1
  have HY2 := Lib.hid (HY.out.keep hb1)
  have Hb1 := Lib.hid hb1
  clear hO1 hb1
  go_wp2_with fail
  refine (blocks_any b lb cb ys w2 HY2.out hlb).mono ?_
  rintro e w3 ⟨v2, rfl, hO2, hb2⟩
  have HO1 := Lib.hid (own_below HO1.out hb2)
  have Hb3 := Lib.hid (nu_trans Hb1.out hb2)
  obtain ⟨ao, c2, rfl, hnone, hsrc⟩ := own_src hO2
  have HO2l := Lib.hid hO2.1
  have Hnone := Lib.hid hnone
  have Hsrc := Lib.hid hsrc
  clear hO2 hb2 hnone hsrc HY2 Hb1
  obtain ⟨n1, hn1⟩ : ∃ n, n = (la + 15) / 16 := ⟨_, rfl⟩
  obtain ⟨n2, hn2⟩ : ∃ n, n = (lb + 15) / 16 := ⟨_, rfl⟩
  have hn1l : n1 ≤ 126 := by omega
  have hn2l : n2 ≤ 126 := by omega
  have Hn1 := Lib.hid hn1
  have Hn2 := Lib.hid hn2
  rw [← hn1] at HO1
  rw [← hn2] at Hnone Hsrc HO2l
  rw [← hn2]
  clear hn1 hn2
  go_wp2_with (at_builtin; refine wpList_append_src rfl (.tmp 13) (.tmp 15) 67 rfl w1.heap.size 22 i0 (.agg z16l.toArray) 16 16 Try.underlying67 hi hz0 hz1 hz2 rfl (by decide) v1 n1 (flat16 xs la n1) rfl HO1.out ao n2 c2 (flat16 ys lb n2) rfl Hnone.out HO2l.out Hsrc.out (flat16_one _ _ _) (by unfold maxLen; omega) (by omega) Hb3.out.size ?_)
  intro v4 w4 hO4 hg4
  have hb4 := Hb3.out.grown hg4 Hb3.out.size (fun k hk => (HO1.out.lt k hk).1)
  have HO4 := Lib.hid hO4
  have Hb4 := Lib.hid hb4
  clear hO4 hg4 hb4 HO1 HO2l Hnone Hsrc Hb3
  go_wp2_with fail
  have HL0 := Lib.hid (Blk.made w4 22 z16l.toArray)
  have hal4 := nu_alloc (nu_refl w4) (.cells z16l.toArray 22)
  obtain ⟨L, hL⟩ : ∃ L, L = w4.heap.size := ⟨_, rfl⟩
  have HLw := Lib.hid (show w4.heap.size ≤ L by omega)
  rw [← hL] at HL0
  rw [← hL]
  clear hL
  obtain ⟨p, hp⟩ : ∃ p, p = beL (8 * la) 8 8 := ⟨_, rfl⟩
  obtain ⟨q, hq⟩ : ∃ q, q = beL (8 * lb) 8 8 := ⟨_, rfl⟩
  have Hp := Lib.hid hp
  have Hq := Lib.hid hq
  have Hpl := Lib.hid (show p.length = 8 by rw [hp, beL_length])
  have Hql := Lib.hid (show q.length = 8 by rw [hq, beL_length])
  clear hp hq
  go_loopw [9] (fun i wr => ∃ k : Nat, k ≤ 8 ∧ i = .int .i64 k ∧ Blk wr L 22 ((fillTo p 8 k ++ fillTo q 8 k).map vb).toArray ∧ Below w4.heap.size w4 wr) (fun i _ => 8 - (intOf i).toNat)
  case atStart => exact ⟨0, by omega, rfl, by rw [fillTo_zero, fillTo_zero]; exact HL0.out, hal4⟩
  case round =>
    clear HL0 hal4
    obtain ⟨k, hk, rfl, hB, hn⟩ := hrel
    have HB := Lib.hid hB
    clear hB
    by_cases hlt : k < 8
    · have hki : (k : Int) < 8 := by omega
      obtain ⟨x, hx, ex⟩ := beL_get la k hlt
      obtain ⟨y, hy, ey⟩ := beL_get lb k hlt
      rw [← Hp.out] at hx
      rw [← Hq.out] at hy
      obtain ⟨a1, a2⟩ := two_one p q k x Hpl.out hlt hx
      obtain ⟨b1, b2⟩ := two_two p q k y Hpl.out Hql.out hlt hy
      have Ha1 := Lib.hid a1
      have Hb1 := Lib.hid b1
      have f0 := HB.out.free k
      have d0 : wr.cell? ⟨L, k, none⟩ = some (.int .u8 0) := HB.out.at k _ (arr_at _ k 0 a1)
      have h := HB.out.put k (vb x)
      rw [arr_set, a2] at h
      have HB2 := Lib.hid h
      have Hn2 := Lib.hid (nu_set hn (p := ⟨L, k, none⟩) HLw.out (vb x))
      have Hb2 := Lib.hid b2
      simp only [vb] at HB2 Hn2
      clear h hn hx hy a1 a2 b1 b2
      go_upto_region 7 with fail
      clear d0 f0
      generalize wr.setCell ⟨L, k, none⟩ (.int .u8 (x : Int)) = w5 at *
      have f1 := HB2.out.free (8 + k)
      have d1 : w5.cell? ⟨L, 8 + k, none⟩ = some (.int .u8 0) := HB2.out.at (8 + k) _ (arr_at _ (8 + k) 0 Hb1.out)
      have h := HB2.out.put (8 + k) (vb y)
      rw [arr_set, Hb2.out] at h
      have HB3 := Lib.hid h
      have Hn3 := Lib.hid (nu_set Hn2.out (p := ⟨L, 8 + k, none⟩) HLw.out (vb y))
      simp only [vb] at HB3 Hn3
      clear h Hn2
      go_wp2_with fail
      go_roundw
      case rel => first | exact ⟨k + 1, by omega, by go_num, HB3.out, Hn3.out⟩ | ((repeat apply Exists.intro); exact ⟨⟨k + 1, by omega, by go_num, HB3.out, Hn3.out⟩, rfl⟩)
      case measure => simp [intOf]; omega
    · obtain rfl : k = 8 := by omega
      have hB := HB.out
      rw [fillTo_all p 8 Hpl.out, fillTo_all q 8 Hql.out, Hp.out, Hq.out] at hB
      have HB8 := Lib.hid hB
      have Hn8 := Lib.hid hn
      clear hB HB hn Hp Hq Hpl Hql HLw hlt hk
      obtain ⟨D, hD⟩ : ∃ D, D = (lastB la lb).map vb := ⟨_, rfl⟩
      have HD := Lib.hid hD
      have HDl := Lib.hid (show D.length = 16 by rw [hD, List.length_map, lastB_len])
      have HB9 := Lib.hid (show Blk wr L 22 D.toArray by rw [hD]; exact HB8.out)
      have Hsz := Lib.hid (show (Try.prog.info? 22).map (·.size) = some D.toArray.size by rw [List.size_toArray, HDl.out]; kernel_rfl)
      clear hD HB8
      have hfold := fold16 D HDl.out
      have hDl := HDl.out
      have HD1 := Lib.hid (show ∀ u ∈ D, u.oneCell' = true by rw [HD.out]; exact vb_one _)
      have Hbr := Lib.hid (nu_trans Hb4.out Hn8.out)
      have HO8 := Lib.hid (own_below HO4.out Hn8.out)
      clear HO4 Hb4 Hn8
      go_upto_region 8 with fail
      go_wp2_with (first | (refine wpList_load_blk rfl 22 (.tmp 8) rfl L rfl 22 D.toArray HB9.out Try.underlying22 Hsz.out ?_) | (at_builtin; refine wpList_append_own _ rfl (.tmp 46) (.tmp 48) 67 rfl w1.heap.size 22 i0 (.agg z16l.toArray) 16 16 Try.underlying67 hi hz0 hz1 hz2 rfl (by decide) v4 (n1 + n2) (flat16 xs la n1 ++ flat16 ys lb n2) rfl (HO8.out.alloc _) ⟨wr.heap.size, 0, none⟩ 1 1 D rfl HDl.out ?c1 HD1.out ?c3 ?c4 ?c5 ?_))
      case c1 => intro j u hu; rw [Addr.add_lit, Nat.zero_add]; exact (Blk.made wr 22 D.toArray).at j u (by simpa using hu)
      case c3 => unfold maxLen; omega
      case c4 => omega
      case c5 => simp; have := Hbr.out.size; omega
      intro v9 w9 hO9 hg9 _
      have hb9 := (Hbr.out.alloc Hbr.out.size (.cells D.toArray 22)).grown hg9 (by simp; have := Hbr.out.size; omega) (fun k hk => (HO8.out.lt k hk).1)
      have Hxl := Lib.hid HX.out.1.1
      have Hyl := Lib.hid HY.out.1.1
      have Hxx := Lib.hid (fun x h => wf_u8_lt (HX.out.1.2.1 x h))
      have Hyx := Lib.hid (fun x h => wf_u8_lt (HY.out.1.2.1 x h))
      have hF := allB_flat xs ys
      rw [Hxl.out, Hyl.out, ← Hn1.out, ← Hn2.out, ← HD.out] at hF
      rw [← hF] at hO9
      obtain ⟨N, hN⟩ : ∃ N, N = n1 + n2 + 1 := ⟨_, rfl⟩
      have HN := Lib.hid (show (allB xs ys).length = N by rw [allB_len, Hxl.out, Hyl.out, ← Hn1.out, ← Hn2.out, hN])
      have hNl : N ≤ 253 := by omega
      have hN0 : N ≠ 0 := by omega
      rw [← hN] at hO9
      clear hN hF
      rcases hO9.2 with ⟨_, h0⟩ | ⟨M, cp, cur, rfl, hMb, hMg, _, _, _, hMt⟩
      · exact absurd h0 hN0
      · obtain ⟨rest, hrest⟩ : ∃ r, r = cur.toList.drop (N * 16) := ⟨_, rfl⟩
        have hcur : cur = ((allB xs ys).flatten.map vb ++ rest).toArray := by
          apply Array.toList_inj.1
          rw [hrest, ← hMt, List.take_append_drop]
        have hM : Blk w9 M 22 ((allB xs ys).flatten.map vb ++ rest).toArray := by rw [← hcur]; exact hMg
        have HM := Lib.hid hM
        have HK9 := Lib.hid (Blk.below HK.out hb9 (Blk.lt HK.out))
        have HR9 := Lib.hid (Blk.below HR.out hb9 (Blk.lt HR.out))
        have Hn9 := Lib.hid (nu_trans Hal.out hb9)
        have hal := nu_alloc (nu_refl w9) (.cells z16l.toArray 22)
        have HY0 := Lib.hid (Blk.made w9 22 z16l.toArray)
        clear hO9 hg9 hMg hMt hcur hM hrest hfold hDl hb9 HB9 HD HDl Hsz HD1 Hbr HO8 HX HY
        go_wp2_with fail
        obtain ⟨Y, hY⟩ : ∃ Y, Y = w9.heap.size := ⟨_, rfl⟩
        have HYw := Lib.hid (show w9.heap.size ≤ Y by omega)
        have Hap := Lib.hid (show A ≠ Y ∧ M ≠ Y ∧ Rb ≠ Y from ⟨by have := Blk.lt HK9.out; omega, by have := Blk.lt HM.out; omega, by have := Blk.lt HR9.out; omega⟩)
        rw [← hY] at HY0
        rw [← hY]
        clear hY
        have hh := polB_lt ks
        go_loopw [11] (fun i wq => ∃ k : Nat, k ≤ N ∧ i = .int .i64 k ∧ Blk wq Y 22 ((bytB (gfold (polB ks) 0 ((allB xs ys).take k))).map vb).toArray ∧ Below w9.heap.size w9 wq) (fun i _ => N - (intOf i).toNat)
        case atStart => exact ⟨0, by omega, rfl, by rw [List.take_zero]; show Blk _ _ _ ((bytB 0).map vb).toArray; rw [bytB_zero]; exact HY0.out, hal⟩
        case round =>
          clear HY0 hal
          obtain ⟨k, hk, rfl, hB, hn⟩ := hrel
          by_cases hlt : k < N
          · have hki : (k : Int) < (N : Int) := by omega
            obtain ⟨bk, hbk⟩ : ∃ bk, (allB xs ys)[k]? = some bk := ⟨_, List.getElem?_eq_getElem (by rw [HN.out]; exact hlt)⟩
            have Hbk := Lib.hid (allB_each xs ys Hxx.out Hyx.out bk (List.mem_of_getElem? hbk))
            have hsp := flat_split _ k bk hbk
            have hgn := gfold_next (polB ks) 0 k _ bk hbk
            have hyl := gfold_lt (polB ks) 0 ((allB xs ys).take k) hh (by decide)
            obtain ⟨y, hy⟩ : ∃ y, y = gfold (polB ks) 0 ((allB xs ys).take k) := ⟨_, rfl⟩
            rw [← hy] at hgn hyl hB
            obtain ⟨Yc, hYc⟩ : ∃ Yc, Yc = bytB y := ⟨_, rfl⟩
            rw [← hYc] at hB
            have HYl := Lib.hid (show Yc.length = 16 by rw [hYc, bytB_len])
            have HYx := Lib.hid (show ∀ x ∈ Yc, x < 256 by rw [hYc]; exact bytB_lt _)
            obtain ⟨E, hE⟩ : ∃ E, xorB Yc bk = E := ⟨_, rfl⟩
            have HE := Lib.hid hE
            have HEl := Lib.hid (show E.length = 16 by rw [← hE, xorB_len])
            have HEx := Lib.hid (show ∀ x ∈ E, x < 256 by rw [← hE]; exact xorB_lt _ _)
            obtain ⟨Y2, hY2⟩ : ∃ Y2, bytB (gfold (polB ks) 0 ((allB xs ys).take (k + 1))) = Y2 := ⟨_, rfl⟩
            have HF := Lib.hid (show bytB (Gh.mul (polB ks) (polB E)) = Y2 by
              rw [← hY2, hgn, ← hE, hYc]
              unfold xorB gstep
              rw [polB_bytB y hyl, polB_bytB _ (Nat.xor_lt_two_pow hyl (polB_lt bk))])
            have HFl := Lib.hid (show Y2.length = 16 by rw [← hY2, bytB_len])
            have HY2 := Lib.hid hY2
            obtain ⟨lf, hlf⟩ : ∃ lf, lf = (((allB xs ys).take k).flatten).map vb := ⟨_, rfl⟩
            obtain ⟨rf, hrf⟩ : ∃ rf, rf = (((allB xs ys).drop (k + 1)).flatten).map vb ++ rest := ⟨_, rfl⟩
            have Hlf := Lib.hid (show lf.length = k * 16 by
              rw [hlf, List.length_map, flat_len _ (fun b hb => (allB_each xs ys Hxx.out Hyx.out b (List.mem_of_mem_take hb)).1), List.length_take, HN.out]
              omega)
            have HMe := Lib.hid (show (allB xs ys).flatten.map vb ++ rest = lf ++ bk.map vb ++ rf by
              rw [hsp, hlf, hrf]
              simp)
            have HY1 := Lib.hid hB
            have HA1 := Lib.hid (Blk.below HK9.out hn (Blk.lt HK9.out))
            have HM1 := Lib.hid (show Blk wr M 22 (lf ++ bk.map vb ++ rf).toArray by rw [← HMe.out]; exact Blk.below HM.out hn (Blk.lt HM.out))
            have Hkl := Lib.hid hkl
            have Hkx := Lib.hid hkx
            clear hB hsp hgn hyl hy hYc hE hY2 hlf hrf hbk
            go_upto_region 13 with fail
            refine wp_region_held_drew (S := fun W => Blk W A 22 (ks.map vb).toArray ∧ Blk W M 22 (lf ++ bk.map vb ++ rf).toArray) (by kernel_rfl) (⟨HA1.out.drew, HM1.out.drew⟩) (fun hHeld => ?_)
            dsimp only [Array.replicate, List.replicate, List.size_toArray, List.length_cons, List.length_nil, Nat.reduceAdd] at hHeld ⊢
            have HS2 := Lib.hid hHeld
            have HY2w := Lib.hid HY1.out.drew
            have Hn2 := Lib.hid (nu_drew hn)
            clear HY1 HA1 HM1 hn
            generalize wr.drew = w11 at *
            refine take_l (i := 1) (v := ?_) rfl (by kernel_rfl) (by kernel_rfl) (by kernel_rfl) (fun _ _ _ h => h) (Or.inl ⟨by rfl, ?_⟩) (by assumption) ?_
            case refine_2 => (intro _ _; go_simp; all_goals with_reducible rfl)
            simp only [Act.put, List.setIfInBounds_toArray, List.set_cons_zero, List.set_cons_succ]
            refine take_l (i := 2) (v := ?_) rfl (by kernel_rfl) (by kernel_rfl) (by kernel_rfl) (fun _ _ _ h => h) (Or.inl ⟨by rfl, ?_⟩) (by assumption) ?_
            case refine_2 => (intro _ _; go_simp; all_goals with_reducible rfl)
            simp only [Act.put, List.setIfInBounds_toArray, List.set_cons_zero, List.set_cons_succ]
            refine take_l (i := 3) (v := ?_) rfl (by kernel_rfl) (by kernel_rfl) (by kernel_rfl) (fun _ _ _ h => h) (Or.inl ⟨by rfl, ?_⟩) (by assumption) ?_
            case refine_2 => (intro _ _; go_simp; all_goals with_reducible rfl)
            simp only [Act.put, List.setIfInBounds_toArray, List.set_cons_zero, List.set_cons_succ]
            refine take_l (i := 4) rfl (by kernel_rfl) (by kernel_rfl) (by kernel_rfl) (fun _ _ _ h => h) (Or.inl ⟨by rfl, fun W hS => exec_load_mid (P := Try.prog) (w := W) 22 (.tmp 59) M (k * 16) (bk.map vb) (.array 16 5) rfl rfl (range_mid hS.2 (l := lf) (r := rf) (by simp) Hlf.out) (by kernel_rfl) rfl (by rw [List.length_map, Hbk.out.1]; kernel_rfl)⟩) (by assumption) ?_
            simp only [Act.put, List.setIfInBounds_toArray, List.set_cons_zero, List.set_cons_succ]
            refine take_l (i := 6) rfl (by kernel_rfl) (by kernel_rfl) (by kernel_rfl) (fun _ _ _ h => h) (Or.inl ⟨by rfl, fun W hS => exec_load_mid (P := Try.prog) (w := W) 22 (.tmp 3) A 0 (ks.map vb) (.array 16 5) rfl rfl (range_mid hS.1 (l := []) (r := []) (by simp) rfl) (by kernel_rfl) rfl (by rw [List.length_map, Hkl.out]; kernel_rfl)⟩) (by assumption) ?_
            simp only [Act.put, List.setIfInBounds_toArray, List.set_cons_zero, List.set_cons_succ]
            clear hHeld
            refine wpAnyH_ready (rs := [0]) (by kernel_rfl) (by simp) ?_
            refine cons_l rfl (fun K hK => ?_) AllReadyH.nil
            refine step_load_mid rfl 22 (.tmp 10) rfl Y 0 rfl (Yc.map vb) (.array 16 5) (range_mid HY2w.out (l := []) (r := []) (by simp) rfl) (by kernel_rfl) rfl (by rw [List.length_map, HYl.out]; kernel_rfl) ?_
            refine hK.out _ _ HS2.out (fun hHeld => ?_)
            clear hK K hHeld
            simp only [Act.put, List.setIfInBounds_toArray, List.set_cons_zero, List.set_cons_succ]
            refine wpAnyH_ready (rs := [5]) (by kernel_rfl) (by simp) ?_
            refine cons_l rfl (fun K hK => ?_) AllReadyH.nil
            go_simp
            go_at_call 18
            refine (ref_add_is HE.out HYl.out Hbk.out.1 HYx.out Hbk.out.2 w11).mono ?_
            rintro e w12 ⟨rfl, hb⟩
            have HS3 := Lib.hid (show Blk w12 A 22 (ks.map vb).toArray ∧ Blk w12 M 22 (lf ++ bk.map vb ++ rf).toArray from ⟨Blk.below HS2.out.1 hb (Blk.lt HS2.out.1), Blk.below HS2.out.2 hb (Blk.lt HS2.out.2)⟩)
            have HY3w := Lib.hid (Blk.below HY2w.out hb (Blk.lt HY2w.out))
            have Hn3 := Lib.hid (nu_trans Hn2.out hb)
            clear hb HS2 HY2w Hn2
            go_wp2_with fail
            refine hK.out _ _ HS3.out (fun hHeld => ?_)
            clear hK K hHeld
            simp only [Act.put, List.setIfInBounds_toArray, List.set_cons_zero, List.set_cons_succ]
            refine wpAnyH_ready (rs := [7]) (by kernel_rfl) (by simp) ?_
            refine cons_l rfl (fun K hK => ?_) AllReadyH.nil
            go_simp
            go_at_call 16
            refine (ref_times_is HF.out HEl.out Hkl.out HEx.out Hkx.out w12).mono ?_
            rintro e w13 ⟨rfl, hb⟩
            have HS4 := Lib.hid (show Blk w13 A 22 (ks.map vb).toArray ∧ Blk w13 M 22 (lf ++ bk.map vb ++ rf).toArray from ⟨Blk.below HS3.out.1 hb (Blk.lt HS3.out.1), Blk.below HS3.out.2 hb (Blk.lt HS3.out.2)⟩)
            have HY4w := Lib.hid (Blk.below HY3w.out hb (Blk.lt HY3w.out))
            have Hn4 := Lib.hid (nu_trans Hn3.out hb)
            clear hb HS3 HY3w Hn3
            go_wp2_with fail
            refine hK.out _ _ HS4.out (fun hHeld => ?_)
            clear hK K hHeld
            simp only [Act.put, List.setIfInBounds_toArray, List.set_cons_zero, List.set_cons_succ]
            have HP := Lib.hid (Blk.fill HY4w.out (Y2.map vb) (by rw [List.size_toArray, List.length_map, List.length_map, HYl.out, HFl.out]))
            have Hn5 := Lib.hid (nu_fill (Y2.map vb) (g := Y) HYw.out 0 _ Hn4.out)
            refine wpAnyH_ready (rs := [8]) (by kernel_rfl) (by simp) ?_
            refine cons_l rfl (fun K hK => ?_) AllReadyH.nil
            refine step_store_blk rfl 22 (.tmp 10) (.tmp 63) rfl Y (Y2.map vb) rfl rfl 22 (Yc.map vb).toArray HY4w.out (by rw [List.size_toArray, List.length_map, List.length_map, HYl.out, HFl.out]) (by rw [List.length_map, HFl.out]; kernel_rfl) (vb_one Y2) ?_
            have HS5 := Lib.hid (And.intro (HS4.out.1.farCells (Y2.map vb) Hap.out.1 0) (HS4.out.2.farCells (Y2.map vb) Hap.out.2.1 0))
            refine hK.out _ _ HS5.out (fun hHeld => ?_)
            clear hK K hHeld HS5
            simp only [Act.put, List.setIfInBounds_toArray, List.set_cons_zero, List.set_cons_succ]
            refine wpAnyH_done (by kernel_rfl) ?_ _
            clear HS4 HY4w Hn4
            generalize w13.setCells Y 0 (Y2.map vb) = w14 at *
            rw [← HY2.out] at HP
            go_wp2_with fail
            go_roundw
            case rel => first | exact ⟨k + 1, by omega, by go_num, HP.out, Hn5.out⟩ | ((repeat apply Exists.intro); exact ⟨⟨k + 1, by omega, by go_num, HP.out, Hn5.out⟩, rfl⟩)
            case measure => simp [intOf]; omega
          · obtain rfl : k = N := by omega
            have hB2 := hB
            rw [List.take_of_length_le (by rw [HN.out]; exact Nat.le_refl _), ← gsumB_all] at hB2
            obtain ⟨D2, hD2⟩ : ∃ D2, D2 = (gsumB (polB ks) xs ys).map vb := ⟨_, rfl⟩
            rw [← hD2] at hB2
            have HB := Lib.hid hB2
            have HDe := Lib.hid hD2
            have HDl := Lib.hid (show D2.length = z16l.toArray.size by rw [hD2, List.length_map, gsumB, bytB_len]; rfl)
            have Hsz := Lib.hid (show (Try.prog.info? 22).map (·.size) = some D2.toArray.size by rw [List.size_toArray, HDl.out]; kernel_rfl)
            have H1 := Lib.hid (show ∀ u ∈ D2, u.oneCell' = true by rw [hD2]; exact vb_one _)
            have HR8 := Lib.hid (Blk.below HR9.out hn (Blk.lt HR9.out))
            have HFr := Lib.hid (Blk.fill HR8.out D2 HDl.out)
            have Hnf := Lib.hid (nu_fill D2 (g := Rb) Hab.out.2 0 _ (nu_trans Hn9.out hn))
            clear hB hB2 hD2 hn hlt hk
            go_wp2_with (first | (refine wpList_load_blk rfl 22 (.tmp 10) rfl Y rfl 22 D2.toArray HB.out Try.underlying22 Hsz.out ?_) | (refine wpList_store_blk rfl 22 (.tmp 6) (.tmp 64) rfl Rb D2 rfl rfl 22 z16l.toArray HR8.out HDl.out (by have h := Hsz.out; rwa [List.size_toArray] at h) H1.out ?_))
            refine bodyPost_ret (results_blk rfl _ Rb 22 D2.toArray rfl HFr.out Try.underlying22 Hsz.out) rfl ⟨by rw [HDe.out], Hnf.out⟩
end Go.Proofs.Ytnojbjconiddoaa
