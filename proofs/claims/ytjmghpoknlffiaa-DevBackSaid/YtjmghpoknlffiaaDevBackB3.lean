/-
  What the proof of DevBack rests on, part 3 of 9.
-/
import Derived.Test.YtjmghpoknlffiaaDevBackB2
namespace Go.Proofs.Ytjmghpoknlffiaa
open Go.ChangeShapes Go.WideShapes Go.ChangeAt Go.RowKit
set_option linter.unusedSimpArgs false

/-- Nil, or cut to nothing. -/
def Cut0 (w : World) (e : TypeId) (v : Value) : Prop := v = .slice none 0 0 ∨ ∃ g cur, v = .slice (some ⟨g, 0, none⟩) 0 0 ∧ Blk w g e cur
/-- The first append onto what is nothing makes a new row. -/
theorem run_append_first {P : Program} (w : World) (base : Nat) (t ty e : TypeId) (i : TypeInfo) (z : Value) (size bytes : Nat) (ht : P.underlying t = some (.slice e)) (hi : P.info? e = some i) (hz : i.zero = some z)
    (hsize : i.size = size) (hby : i.bytes = bytes) (hzs : z.cells.size = size) (hsz : 0 < size) (v : Value) (hv : v = .slice none 0 0 ∨ ∃ g, v = .slice (some ⟨g, 0, none⟩) 0 0)
    (a : Addr) (m c : Nat) (hm : 0 < m) (news : List Value) (hl : news.length = m * size) (hnews : ∀ j u, news[j]? = some u → w.cell? (a.add j) = some u) (h1 : ∀ u ∈ news, u.oneCell' = true)
    (h63 : m ≤ maxLen) (hbytes : m * bytes ≤ 140737488355328) (hbase : base ≤ w.heap.size) :
    ∃ v' w', (Builtin.append_ #[t, t] ty #[v, .slice (some a) m c]).run P w = .ok v' w' ∧ w'.ownsRow base e size v' m news ∧ w.grownBy w' none := by
  rcases hv with rfl | ⟨g, rfl⟩
  · obtain ⟨v', w', hr, h2, h3, _⟩ := run_append_own (P := P) w base t ty e i z size bytes ht hi hz hsize hby hzs hsz (.slice none 0 0) 0 [] (World.ownsRow_nil w base e size) a m c news hl hnews h1 (by omega) (by rw [Nat.zero_add]; exact hbytes) hbase
    rw [Nat.zero_add, List.nil_append] at h2
    exact ⟨v', w', hr, h2, h3⟩
  · subst hsize
    subst hby
    have hsmall : m ≤ 9223372036854775807 := by simp only [maxLen] at h63; omega
    have hr := run_append_grow (P := P) w t ty e i z ht hi hz ⟨g, 0, none⟩ 0 0 [] (by simp) (by simp) a m c news hl hnews (by omega) (by omega) (growslice_fits (by omega) (by rw [Nat.zero_add]; exact hbytes))
    have hge := grownCap_ge w (0 + m) 0 e
    have hcm : grownCap w (0 + m) 0 e ≤ maxLen := grownCap_le_maxLen w (0 + m) 0 e (by rw [Nat.zero_add]; exact h63)
    simp only [Nat.zero_add, List.nil_append] at hr hge hcm ⊢
    refine ⟨_, _, hr, ⟨by rw [hl], .inr ⟨w.heap.size, _, _, rfl, hbase, heap_alloc_new w.drew _, hge, hcm, ?_, ?_⟩⟩, ⟨rfl, rfl, rfl, by simp, fun k hk _ => Below.heap_alloc w.drew _ k hk⟩⟩
    · simp only [Array.size_append, List.size_toArray, size_zeroCells, hzs, hl, List.length_nil, Nat.zero_add, ← Nat.add_mul]
      congr 1
      omega
    · rw [← hl]
      simp only [Array.toList_append, List.append_assoc]
      show List.take news.length ([] ++ (news ++ _)) = news
      rw [List.nil_append]
      exact List.take_left
theorem wpList_append_first {P : Program} {ops : Array Oper} {rest : List Oper} {o : Oper} {a : Act} {w : World} {Q : Exit → Act → World → Prop} (hgd : o.guard = none) (s x : Operand) (t : TypeId)
    (ho : o.op = .call { callee := .builtin .append, args := #[s, x], argTypes := #[t, t] }) (base : Nat)
    (e : TypeId) (i : TypeInfo) (z : Value) (size bytes : Nat) (ht : P.underlying t = some (.slice e)) (hi : P.info? e = some i) (hz : i.zero = some z)
    (hsize : i.size = size) (hby : i.bytes = bytes) (hzs : z.cells.size = size) (hsz : 0 < size)
    (v : Value) (hs : a.eval s = v) (hv : v = .slice none 0 0 ∨ ∃ g, v = .slice (some ⟨g, 0, none⟩) 0 0)
    (ad : Addr) (m c : Nat) (hm : 0 < m) (news : List Value) (hx : a.eval x = .slice (some ad) m c) (hl : news.length = m * size)
    (hnews : ∀ j u, news[j]? = some u → w.cell? (ad.add j) = some u) (h1 : ∀ u ∈ news, u.oneCell' = true)
    (h63 : m ≤ maxLen) (hbytes : m * bytes ≤ 140737488355328) (hbase : base ≤ w.heap.size)
    (h : ∀ v' w', w'.ownsRow base e size v' m news → w.grownBy w' none → wpList P ops Q rest (a.put o.dst v') w') : wpList P ops Q (o :: rest) a w :=
  wpList_plain hgd fun _ hK => by
    obtain ⟨v', w', hr, h2, h3⟩ := run_append_first (P := P) w base t o.type e i z size bytes ht hi hz hsize hby hzs hsz v hv ad m c hm news hl hnews h1 h63 hbytes hbase
    unfold Oper.wp execOp
    simp only [ho, resolve, invoke, builtin, Sem.run_bind, Sem.run_pure, Result.andThen_ok, List.map_toArray, List.map_cons, List.map_nil, hs, hx, hr]
    exact hK _ _ (h v' w' h2 h3)
theorem RowZ.form {w : World} {e : TypeId} {size n : Nat} {v : Value} {xs : List Value} (h : RowZ w e size v n xs) : (v = .slice none 0 0 ∧ n = 0) ∨ ∃ g c, v = .slice (some ⟨g, 0, none⟩) n c ∧ n ≤ c ∧ ∃ cur, Blk w g e cur := by
  rcases h with h | ⟨h1, _, g, cur, h2, h3⟩
  · rcases h.2 with ⟨h1, h2⟩ | ⟨g, cap, cur, h1, _, h3, h4, _⟩
    · exact .inl ⟨h1, h2⟩
    · exact .inr ⟨g, cap, h1, h4, cur, h3⟩
  · exact .inr ⟨g, 0, by rw [h2, h1], by omega, cur, h3⟩
def keptL (wa : List (Nat × List Nat)) (i k : Nat) : List (Nat × List Nat) := (wa.take k).filter (fun p => !decide (p.1 = i))
theorem keptL_snoc {wa : List (Nat × List Nat)} {i k : Nat} {p : Nat × List Nat} (hp : wa[k]? = some p) : keptL wa i (k + 1) = keptL wa i k ++ (if p.1 = i then [] else [p]) := by
  unfold keptL
  rw [List.take_add_one, hp, List.filter_append]
  congr 1
  by_cases h : p.1 = i <;> simp [h]
section
variable {w : World} {d : Nat} {s : Dv} {F : Nat → Prop}
set_option maxRecDepth 100000 in
set_option maxHeartbeats 16000000 in
theorem settleD (H : DevRep w d s F) (i : Nat) (hi : i < s.st.length) (b : List Nat) (hb : Bl b) (hwl : s.wa.length ≤ 1000000000) :
    Calls Try.prog 55 #[.pointer (some ⟨d, 0, none⟩), .int .i64 (i : Int), .agg (b.map vb).toArray] w fun e w' => e = .returned (.tuple #[]) ∧ DevNext F w w' d (s.settle i b) := by
  have Hok := Lib.hid H.1
  have HFl := Lib.hid H.2.1
  have Hok2 := Lib.hid (H.1.settle (i := i) hb)
  have Hbb := Lib.hid hb
  have Hi := Lib.hid hi
  obtain ⟨sb, wa, cp, wv, cs, ws, hD⟩ := H.state
  have hal := nu_alloc (nu_refl w) (.cells (b.map vb).toArray 73)
  have HD := Lib.hid (hD.below hal)
  have HB := Lib.hid (Blk.made w 73 (b.map vb).toArray)
  have HBs := Lib.hid (show w.heap.size ≠ sb from Ne.symm (Nat.ne_of_lt hD.m.st.lt))
  have Hws := Lib.hid (show w.heap.size < (w.alloc (.cells (b.map vb).toArray 73)).heap.size by simp)
  obtain ⟨iw, hiw, hz0, hz1, hz2⟩ := info_parts info_wait
  have Hiw := Lib.hid (And.intro hiw (And.intro hz0 (And.intro hz1 hz2)))
  obtain ⟨m, hm⟩ : ∃ m, m = s.wa.length := ⟨_, rfl⟩
  have Hm := Lib.hid hm
  have hmb : m ≤ 1000000000 := by omega
  have hform := (hD.below hal).m.wa.form
  rw [← hm] at hform
  have c1 := (DevAt.cells (hD.below hal).dv).2.1
  have hzv := zero_257
  have hzn := z257_ne
  obtain ⟨ao, ac, hwa⟩ := hD.m.wa.len
  rw [← hm] at hwa
  subst hwa
  have Hv0 := Lib.hid (show (.slice ao 0 0 : Value) = .slice none 0 0 ∨ ∃ g, (.slice ao 0 0 : Value) = .slice (some ⟨g, 0, none⟩) 0 0 from by
    rcases hform with ⟨h1, _⟩ | ⟨g, c, h1, _, _⟩
    · injection h1 with h1
      exact .inl (by rw [h1])
    · injection h1 with h1
      exact .inr ⟨g, by rw [h1]⟩)
  have hac0 : (0 : Int) ≤ (ac : Int) := by omega
  clear H hi hb hwl hD hal hm hform hiw hz0 hz1 hz2
  go_enter Try.func55, Try.ntmps55
  go_upto_region 1 with fail
  change Code.wp _ _ _ _ (w.alloc (.cells (b.map vb).toArray 73))
  generalize w.alloc (.cells (b.map vb).toArray 73) = w1 at *
  obtain ⟨B, hB⟩ : ∃ B, B = w.heap.size := ⟨_, rfl⟩
  rw [← hB] at HB HBs
  rw [← hB]
  have HBw := Lib.hid (show w.heap.size ≤ B by omega)
  have HB1 := Lib.hid HB.out.lt
  clear hB
  go_wp2_with fail
  clear c1 hac0
  go_loopw [6, 19] (fun y6 x wx => ∃ (k : Nat) (v : Value), k ≤ m ∧ x = .int .i64 k ∧ v = y6 ∧ Below w1.heap.size w1 wx ∧ ((keptL s.wa i k = [] ∧ v = .slice ao 0 0) ∨ (0 < (keptL s.wa i k).length ∧ wx.ownsRow w1.heap.size 75 257 v (keptL s.wa i k).length (flatW (keptL s.wa i k))))) (fun _ x _ => m - (intOf x).toNat)
  case atStart => exact ⟨0, _, by omega, rfl, rfl, nu_refl w1, .inl ⟨rfl, rfl⟩⟩
  case round =>
    obtain ⟨k, v6, hk, rfl, rfl, hb, hv⟩ := hrel
    by_cases hlt : k < m
    · have hki : (k : Int) < (m : Int) := by omega
      obtain ⟨p, hp⟩ : ∃ p, s.wa[k]? = some p := ⟨_, List.getElem?_eq_getElem (by rw [← Hm.out]; exact hlt)⟩
      have Hpb := Lib.hid (Hok.out.wa p (List.mem_of_getElem? hp)).2
      have hD := HD.out.below hb
      obtain ⟨g, gc, hwa, hcell⟩ := hD.m.waits Hok.out (by rw [← Hm.out]; omega)
      rw [← Hm.out] at hwa
      injection hwa with e1 e2 e3
      subst e1 e3
      obtain ⟨_, _, hrg⟩ := hcell k p hp
      have Hrg := Lib.hid hrg
      have Hsn := Lib.hid (keptL_snoc (i := i) hp)
      have hal := nu_alloc (nu_refl wr) (.cells z257 75)
      have HGm := Lib.hid (Blk.made wr 75 z257)
      have HGf := Lib.hid (Blk.fill HGm.out (cellW p) (by rw [cellW_len Hpb.out, z257_size]))
      have Hb4 := Lib.hid (nu_fill (cellW p) (g := wr.heap.size) (Nat.le_refl _) 0 _ hal)
      have Hb := Lib.hid hb
      have Hv := Lib.hid hv
      have Hkm := Lib.hid (show (keptL s.wa i k).length ≤ 1000000000 from Nat.le_trans (List.length_filter_le ..) (by rw [List.length_take]; omega))
      clear hD hcell hrg hp hal hb hv
      go_upto_region 5 with (first | (refine wpList_run _ (by rfl) (e257_mid Hrg.out Hpb.out (.tmp 21) rfl rfl) ?_) | (refine wpList_store_in rfl 75 (.tmp 8) (.tmp 22) rfl wr.heap.size 0 (cellW p) rfl rfl 75 z257 HGm.out (by rw [cellW_len Hpb.out, z257_size]; omega) (size_257 Hpb.out) (cellW_one p) ?_))
      change Code.wp _ _ _ _ ((wr.alloc (.cells z257 75)).setCells wr.heap.size 0 (cellW p))
      clear HGm Hrg
      have HGs := Lib.hid (show wr.heap.size ≥ w1.heap.size from Hb.out.size)
      generalize (wr.alloc (.cells z257 75)).setCells wr.heap.size 0 (cellW p) = w4 at *
      obtain ⟨G, hG⟩ : ∃ G, G = wr.heap.size := ⟨_, rfl⟩
      rw [← hG] at HGf
      rw [← hG]
      clear hG
      have cG : w4.cell? ⟨G, 0, none⟩ = some (.int .i64 (p.1 : Int)) := HGf.out.at 0 _ rfl
      by_cases he : p.1 = i
      · have hbq : ((p.1 : Int) == (i : Int)) = true := by rw [he]; simp
        have hbn : ((p.1 : Int) != (i : Int)) = false := by rw [he]; simp
        have e := Hsn.out
        rw [if_pos he, List.append_nil] at e
        have HR := Lib.hid (show Below w1.heap.size w1 w4 ∧ ((keptL s.wa i (k + 1) = [] ∧ v6 = .slice (some ⟨g, 0, none⟩) 0 0) ∨ (0 < (keptL s.wa i (k + 1)).length ∧ w4.ownsRow w1.heap.size 75 257 v6 (keptL s.wa i (k + 1)).length (flatW (keptL s.wa i (k + 1))))) from by
          rw [e]
          refine ⟨nu_trans Hb.out Hb4.out, ?_⟩
          rcases Hv.out with h | ⟨h1, h2⟩
          · exact .inl h
          · exact .inr ⟨h1, own_eq h2 (fun q hq => Hb4.out.block q (h2.lt q hq).2)⟩)
        generalize (p.1 : Int) = P1 at *
        clear he e Hsn Hb Hb4 Hv HGf HGs
        go_wp2_with fail
        go_roundw
        case rel => first | exact ⟨k + 1, _, by omega, by go_num, rfl, HR.out.1, HR.out.2⟩ | ((repeat apply Exists.intro); exact ⟨⟨k + 1, _, by omega, by go_num, rfl, HR.out.1, HR.out.2⟩, rfl⟩)
        case measure => simp [intOf]; omega
      · have hbq : ((p.1 : Int) == (i : Int)) = false := by rw [beq_eq_false_iff_ne]; omega
        have hbn : ((p.1 : Int) != (i : Int)) = true := by rw [bne_iff_ne]; omega
        have He := Lib.hid (show keptL s.wa i (k + 1) = keptL s.wa i k ++ [p] by rw [Hsn.out, if_neg he])
        have Hb5 := Lib.hid (nu_trans Hb.out Hb4.out)
        have Hcs := Lib.hid (show (Value.agg (cellW p).toArray).cells.size = 257 from by
          show (cellW p).toArray.size = 257
          rw [List.size_toArray, cellW_len Hpb.out])
        have Hcl := Lib.hid (show (cellW p).length = 1 * 257 by rw [cellW_len Hpb.out])
        have hal := nu_alloc (nu_refl w4) (.cells (cellW p).toArray 75)
        have HA := Lib.hid (Blk.made w4 75 (cellW p).toArray)
        have Hb6 := Lib.hid (nu_trans Hb5.out hal)
        have Hlr := Lib.hid (range_blk HGf.out)
        generalize (p.1 : Int) = P1 at *
        clear he Hsn Hb
        rcases Hv.out with ⟨hk0, rfl⟩ | ⟨hk1, hown⟩
        · have Hk0 := Lib.hid hk0
          clear Hv hk0 hal
          go_upto_region 7 with (first | (refine wpList_run _ (by rfl) (e257_mid Hlr.out Hpb.out (.tmp 8) rfl rfl) ?_) | (refine wpList_runW _ _ rfl (exec_slice1 (.tmp 28) 69 75 iw (.agg z257) 257 Try.underlying69 Hiw.out.1 Hiw.out.2.1 Hiw.out.2.2.1 (by omega) (by omega) (.agg (cellW p).toArray) Hcs.out rfl rfl) ?_) | (at_builtin; refine wpList_append_first rfl (.tmp 27) (.tmp 29) 69 rfl w1.heap.size 75 iw (.agg z257) 257 264 Try.underlying69 Hiw.out.1 Hiw.out.2.1 Hiw.out.2.2.1 Hiw.out.2.2.2 z257_size (by omega) _ rfl Hv0.out ⟨w4.heap.size, 0, none⟩ 1 1 (by omega) (cellW p) rfl Hcl.out (fun j u hu => by rw [Addr.add_lit, Nat.zero_add]; exact HA.out.at j u (by simpa using hu)) (cellW_one _) (by unfold maxLen; omega) (by omega) Hb6.out.size ?_))
          intro v' w5 hown hg
          have HR := Lib.hid (show Below w1.heap.size w1 w5 ∧ (0 < (keptL s.wa i (k + 1)).length ∧ w5.ownsRow w1.heap.size 75 257 v' (keptL s.wa i (k + 1)).length (flatW (keptL s.wa i (k + 1)))) from by
            rw [He.out, Hk0.out, List.nil_append]
            exact ⟨Hb6.out.grown hg Hb6.out.size (fun q hq => by cases hq), by simp, by simpa [flatW] using hown⟩)
          clear hown hg HA Hb6 Hlr HGf Hb4 Hb5
          go_wp2_with fail
          go_roundw
          case rel => first | exact ⟨k + 1, _, by omega, by go_num, rfl, HR.out.1, .inr HR.out.2⟩ | ((repeat apply Exists.intro); exact ⟨⟨k + 1, _, by omega, by go_num, rfl, HR.out.1, .inr HR.out.2⟩, rfl⟩)
          case measure => simp [intOf]; omega
        · have HO := Lib.hid (own_eq hown (fun q hq => (nu_trans Hb4.out hal).block q (hown.lt q hq).2))
          have Hk1 := Lib.hid hk1
          clear Hv hk1 hown hal
          go_upto_region 7 with (first | (refine wpList_run _ (by rfl) (e257_mid Hlr.out Hpb.out (.tmp 8) rfl rfl) ?_) | (refine wpList_runW _ _ rfl (exec_slice1 (.tmp 28) 69 75 iw (.agg z257) 257 Try.underlying69 Hiw.out.1 Hiw.out.2.1 Hiw.out.2.2.1 (by omega) (by omega) (.agg (cellW p).toArray) Hcs.out rfl rfl) ?_) | (at_builtin; refine wpList_append_own _ rfl (.tmp 27) (.tmp 29) 69 rfl w1.heap.size 75 iw (.agg z257) 257 264 Try.underlying69 Hiw.out.1 Hiw.out.2.1 Hiw.out.2.2.1 Hiw.out.2.2.2 z257_size (by omega) _ (keptL s.wa i k).length (flatW (keptL s.wa i k)) rfl HO.out ⟨w4.heap.size, 0, none⟩ 1 1 (cellW p) rfl Hcl.out (fun j u hu => by rw [Addr.add_lit, Nat.zero_add]; exact HA.out.at j u (by simpa using hu)) (cellW_one _) (by have := Hkm.out; unfold maxLen; omega) (by have := Hkm.out; omega) Hb6.out.size ?_))
          intro v' w5 hown hg _
          have HR := Lib.hid (show Below w1.heap.size w1 w5 ∧ (0 < (keptL s.wa i (k + 1)).length ∧ w5.ownsRow w1.heap.size 75 257 v' (keptL s.wa i (k + 1)).length (flatW (keptL s.wa i (k + 1)))) from by
            rw [He.out, List.length_append, flatW_snoc]
            exact ⟨Hb6.out.grown hg Hb6.out.size (fun q hq => (HO.out.lt q hq).1), Nat.lt_of_lt_of_le Hk1.out (Nat.le_add_right _ _), hown⟩)
          clear hown hg HA Hb6 Hlr HGf Hb4 Hb5 HO
          go_wp2_with fail
          go_roundw
          case rel => first | exact ⟨k + 1, _, by omega, by go_num, rfl, HR.out.1, .inr HR.out.2⟩ | ((repeat apply Exists.intro); exact ⟨⟨k + 1, _, by omega, by go_num, rfl, HR.out.1, .inr HR.out.2⟩, rfl⟩)
          case measure => simp [intOf]; omega
    · obtain rfl : k = m := by omega
      have hki : ¬ (k : Int) < (k : Int) := by omega
      have hkl : keptL s.wa i k = s.wa.filter (fun p => !decide (p.1 = i)) := by rw [Hm.out, keptL, List.take_length]
      have hD := HD.out.below hb
      obtain ⟨va, vl, vc, hve, hrow, hfoot⟩ : ∃ va vl vc, v6 = .slice va vl vc ∧ RowZ wr 75 257 v6 (keptL s.wa i k).length (flatW (keptL s.wa i k)) ∧ ∀ q, v6.ownBlock = some q → Grown F w wr q := by
        rcases hv with ⟨h1, rfl⟩ | ⟨h1, h2⟩
        · refine ⟨_, _, _, rfl, ?_, fun q hq => ?_⟩
          · rw [h1]
            rcases Hv0.out with h | ⟨g, h⟩
            · rw [h]; exact RowZ.nil wr _ _
            · rw [h]
              injection h with h
              subst h
              obtain ⟨cur, hc⟩ := hD.m.wa.typed g rfl
              exact .inr ⟨rfl, rfl, g, cur, rfl, hc⟩
          · rcases Hv0.out with h | ⟨g, h⟩
            · rw [h] at hq; cases hq
            · injection h with h
              subst h
              injection hq with hq
              subst hq
              exact hD.f.wa g rfl
        · obtain ⟨va, vc, rfl⟩ := own_len h2
          exact ⟨va, _, vc, rfl, .inl (own_zero h2), fun q hq => .inr ⟨Nat.le_trans (Nat.le_of_lt Hws.out) (h2.lt q hq).1, (h2.lt q hq).2⟩⟩
      obtain ⟨s2, hs2⟩ : ∃ s2 : Dv, s2 = { s with wa := keptL s.wa i k } := ⟨_, rfl⟩
      have hN1 := hD.setWait hrow hfoot
      rw [← hs2] at hN1
      have HD := Lib.hid hN1
      have Hs2 := Lib.hid hs2
      have Hst := Lib.hid (show ∀ b ∈ s2.st, Bl b by rw [hs2]; exact Hok.out.st)
      have Hi2 := Lib.hid (show i < s2.st.length by rw [hs2]; exact Hi.out)
      have Hfit := Lib.hid (show i * 256 + 256 ≤ (flatB s2.st).length from by rw [flatB_len Hst.out]; have := Hi2.out; omega)
      have hii : (i : Int) < (s2.st.length : Int) := by have := Hi2.out; omega
      have HBx := Lib.hid ((HB.out.below hb HB1.out).far (p := ⟨d, 1, none⟩) (Ne.symm (Blk.apart hD.dv (HB.out.below hb HB1.out) (by decide))) v6)
      have Hkl := Lib.hid hkl
      subst hve
      have c1 := (DevAt.cells hD.dv).2.1
      have f1 : wr.frozen? ⟨d, 1, none⟩ = false := Blk.free hD.dv 1
      clear hD hrow hfoot hN1 hs2 hv hkl hb
      go_upto_region 9 with fail
      clear c1 f1
      generalize wr.setCell ⟨d, 1, none⟩ (.slice va vl vc) = w4 at *
      have HB := Lib.hid HBx.out
      have Hdv := Lib.hid (show Blk w4 d 72 #[.slice (some ⟨sb, 0, none⟩) s2.st.length s2.st.length, .slice va vl vc, .bool s2.off, .int .i64 s2.ar, .int .i64 s2.co, cp, wv] from HD.out.dv)
      clear HBx
      refine wp_region_held_drew (S := fun W => Blk W d 72 #[.slice (some ⟨sb, 0, none⟩) s2.st.length s2.st.length, .slice va vl vc, .bool s2.off, .int .i64 s2.ar, .int .i64 s2.co, cp, wv] ∧ Blk W B 73 (b.map vb).toArray) (by kernel_rfl) (⟨Hdv.out.drew, HB.out.drew⟩) (fun hHeld => ?_)
      dsimp only [Array.replicate, List.replicate, List.size_toArray, List.length_cons, List.length_nil, Nat.reduceAdd] at hHeld ⊢
      have HD0 := Lib.hid (HD.out.below (nu_drew (nu_refl w4)))
      have HB0 := Lib.hid HB.out.drew
      have Hdv0 := Lib.hid Hdv.out.drew
      clear HD HB Hdv
      generalize w4.drew = u0 at *
      refine take_l (i := 0) (v := ?_) rfl (by kernel_rfl) (by kernel_rfl) (by kernel_rfl) (fun _ _ _ h => h) (Or.inl ⟨by rfl, ?_⟩) (by assumption) ?_
      case refine_2 => (intro _ _; go_simp; all_goals with_reducible rfl)
      simp only [Act.put, List.setIfInBounds_toArray, List.set_cons_zero, List.set_cons_succ]
      refine take_l (i := 1) (v := ?_) rfl (by kernel_rfl) (by kernel_rfl) (by kernel_rfl) (fun _ _ _ h => h) (Or.inl ⟨by rfl, ?_⟩) (by assumption) ?_
      case refine_2 => (intro _ _; go_simp; all_goals with_reducible rfl)
      simp only [Act.put, List.setIfInBounds_toArray, List.set_cons_zero, List.set_cons_succ]
      refine take_l (i := 2) (v := ?_) rfl (by kernel_rfl) (by kernel_rfl) (by kernel_rfl) (fun _ _ _ h => h) (Or.inl ⟨by rfl, ?_⟩) (by assumption) ?_
      case refine_2 => (intro _ _; go_simp; all_goals with_reducible rfl)
      simp only [Act.put, List.setIfInBounds_toArray, List.set_cons_zero, List.set_cons_succ]
      refine take_l (i := 3) rfl (by kernel_rfl) (by kernel_rfl) (by kernel_rfl) (fun _ _ _ h => h) (Or.inl ⟨by rfl, fun W hS => e_st (hS.1.at 0 _ rfl) (.tmp 38) rfl rfl⟩) (by assumption) ?_
      simp only [Act.put, List.setIfInBounds_toArray, List.set_cons_zero, List.set_cons_succ]
      refine take_l (i := 4) (v := ?_) rfl (by kernel_rfl) (by kernel_rfl) (by kernel_rfl) (fun _ _ _ h => h) (Or.inl ⟨by rfl, ?_⟩) (by assumption) ?_
      case refine_2 => (intro _ _; go_simp; all_goals with_reducible rfl)
      simp only [Act.put, List.setIfInBounds_toArray, List.set_cons_zero, List.set_cons_succ]
      refine take_l (i := 5) rfl (by kernel_rfl) (by kernel_rfl) (by kernel_rfl) (fun _ _ _ h => h) (Or.inl ⟨by rfl, fun W hS => e256_load hS.2 Hbb.out.1 (.tmp 5) rfl rfl⟩) (by assumption) ?_
      simp only [Act.put, List.setIfInBounds_toArray, List.set_cons_zero, List.set_cons_succ]
      refine take_l (i := 6) (v := ?_) rfl (by kernel_rfl) (by kernel_rfl) (by kernel_rfl) (fun _ _ _ h => h) (Or.inl ⟨by rfl, ?_⟩) (by assumption) ?_
      case refine_2 => (intro _ _; go_simp; all_goals with_reducible rfl)
      simp only [Act.put, List.setIfInBounds_toArray, List.set_cons_zero, List.set_cons_succ]
      clear hHeld
      refine wpAnyH_ready (rs := [7]) (by kernel_rfl) (by simp) ?_
      refine cons_l rfl (fun K hK => ?_) AllReadyH.nil
      refine step_store_in rfl 73 (.tmp 42) (.tmp 41) rfl sb (i * 256) (b.map vb) rfl rfl 73 _ HD0.out.m.st (by rw [List.size_toArray, List.length_map, Hbb.out.1]; exact Hfit.out) (by rw [List.length_map, Hbb.out.1]; kernel_rfl) (vb_one _) ?_
      have HN := Lib.hid (HD0.out.setSt Hst.out Hi2.out Hbb.out)
      have HS1 := Lib.hid (show Blk (u0.setCells sb (i * 256) (b.map vb)) d 72 #[.slice (some ⟨sb, 0, none⟩) s2.st.length s2.st.length, .slice va vl vc, .bool s2.off, .int .i64 s2.ar, .int .i64 s2.co, cp, wv] ∧ Blk (u0.setCells sb (i * 256) (b.map vb)) B 73 (b.map vb).toArray from ⟨Hdv0.out.farCells _ (Hdv0.out.apart HD0.out.m.st (by decide)) _, HB0.out.farCells _ HBs.out _⟩)
      clear HD0 HB0 Hdv0
      generalize u0.setCells sb (i * 256) (b.map vb) = u1 at *
      refine hK.out _ _ HS1.out (fun hHeld => ?_)
      clear hK K hHeld HS1
      simp only [Act.put, List.setIfInBounds_toArray, List.set_cons_zero, List.set_cons_succ]
      refine wpAnyH_done (by kernel_rfl) ?_ _
      go_wp2_with fail
      refine bodyPost_end (results_none rfl _ _ _) rfl ⟨rfl, ?_⟩
      have h := HN.out.next (by
        have e := Hok2.out
        unfold Dv.settle at e
        rw [Hs2.out, Hkl.out]
        exact e) HFl.out
      rw [Hs2.out, Hkl.out] at h
      exact h
end
end Go.Proofs.Ytjmghpoknlffiaa

namespace Go.Proofs.Ytjmghpoknlffiaa
open Go.ChangeShapes Go.WideShapes Go.ChangeAt Go.RowKit
set_option linter.unusedSimpArgs false

section
variable {w : World} {d : Nat} {s : Dv} {F : Nat → Prop}
set_option maxRecDepth 100000 in
set_option maxHeartbeats 1000000 in
theorem pokeD_bad (H : DevRep w d s F) (a f : Int) (x : Option Addr) (len cap : Nat) (hf : -9223372036854775808 ≤ f ∧ f ≤ 9223372036854775807) (h : ¬ ((0 ≤ a ∧ a < (s.st.length : Int)) ∧ 0 ≤ f ∧ f ≤ 256 ∧ (len : Int) ≤ 256 - f)) :
    Calls Try.prog 34 #[.pointer (some ⟨d, 0, none⟩), .int .i64 a, .int .i64 f, .slice x len cap] w fun e w' => e = .returned (.int .i64 1) ∧ w = w' := by
  by_cases h1 : 0 ≤ a ∧ a < (s.st.length : Int)
  · have HH := Lib.hid (has_any H a true (decide_eq_true h1))
    clear H
    by_cases h2 : f < 0
    · clear h1 h
      go_enter Try.func34, Try.ntmps34
      go_wp2_with fail
      refine HH.out.mono ?_
      rintro e w' ⟨rfl, rfl⟩
      go_wp2_with fail
      go_ret
      exact ⟨rfl, rfl⟩
    · by_cases h3 : (256 : Int) < f
      · clear h1 h
        go_enter Try.func34, Try.ntmps34
        go_wp2_with fail
        refine HH.out.mono ?_
        rintro e w' ⟨rfl, rfl⟩
        go_wp2_with fail
        go_ret
        exact ⟨rfl, rfl⟩
      · obtain ⟨r, hr⟩ : ∃ r : Int, r = 256 - f := ⟨_, rfl⟩
        have e1 : 256 - f = r := hr.symm
        have wr1 : IntKind.i64.wrap r = r := by rw [IntKind.wrap_i64]; omega
        have h4 : r < (len : Int) := by omega
        clear h1 h hr
        go_enter Try.func34, Try.ntmps34
        go_wp2_with fail
        refine HH.out.mono ?_
        rintro e w' ⟨rfl, rfl⟩
        go_wp2_with fail
        go_ret
        exact ⟨rfl, rfl⟩
  · have HH := Lib.hid (has_any H a false (decide_eq_false h1))
    clear H h1 h
    go_enter Try.func34, Try.ntmps34
    go_wp2_with fail
    refine HH.out.mono ?_
    rintro e w' ⟨rfl, rfl⟩
    go_wp2_with fail
    go_ret
    exact ⟨rfl, rfl⟩
set_option maxRecDepth 100000 in
set_option maxHeartbeats 4000000 in
theorem pokeD_good (H : DevRep w d s F) (i : Nat) (hi : i < s.st.length) (f : Nat) (hf : f ≤ 256) (x : Option Addr) (len cap : Nat) (ys : List Nat) (hx : BytesIn w x len cap ys) (hlen : len ≤ 256 - f) (hwl : s.wa.length ≤ 1000000000) :
    Calls Try.prog 34 #[.pointer (some ⟨d, 0, none⟩), .int .i64 (i : Int), .int .i64 (f : Int), .slice x len cap] w fun e w' => e = .returned (.int .i64 0) ∧ DevNext F w w' d (s.settle i (pokeL (s.now i) f ys len)) := by
  have HH := Lib.hid (has_any H (i : Int) true (decide_eq_true ⟨by omega, by omega⟩))
  obtain ⟨D, hD⟩ : ∃ D, s.now i = D := ⟨_, rfl⟩
  have HNw := Lib.hid (nowD_any H i hi D hD hwl)
  have HDb := Lib.hid (show Bl D by rw [← hD]; exact H.1.now hi)
  have HP := Lib.hid (show ∀ k, Bl (pokeL D f ys k) from fun k => pokeL_bl HDb.out f (fun y hy => wf_u8_lt (hx.1.2.1 y hy)) k)
  have HSt := Lib.hid (fun (u : World) (hu : Below w.heap.size w u) => settleD (DevNext.of_below H hu).1 i hi (pokeL D f ys len) (HP.out len) hwl)
  have HOf := Lib.hid (fun (u : World) (hu : Below w.heap.size w u) => DevNext.of_below H hu)
  have HX := Lib.hid hx
  have Hyl := Lib.hid (show ys.length = len from hx.1.1)
  rw [hD]
  have hzv := zero_256
  have hzn := z256_ne
  have hr1 : (256 : Int) - (f : Int) = ((256 - f : Nat) : Int) := by omega
  obtain ⟨r, hr⟩ : ∃ r : Nat, r = 256 - f := ⟨_, rfl⟩
  rw [← hr] at hr1
  have wr1 : IntKind.i64.wrap (r : Int) = (r : Int) := by rw [IntKind.wrap_i64]; omega
  have hlr : ¬ (r : Int) < (len : Int) := by omega
  have hfr : f + r = 256 := by omega
  have hlr2 : len ≤ r := by omega
  clear H hi hx hlen hwl hD hr
  go_enter Try.func34, Try.ntmps34
  go_wp2_with fail
  refine HH.out.mono ?_
  rintro e w' ⟨rfl, rfl⟩
  clear HH
  go_wp2_with fail
  refine HNw.out.mono ?_
  rintro e w2 ⟨rfl, hb⟩
  have HZ := Lib.hid (Blk.made w2 73 z256)
  have HF := Lib.hid (Blk.fill HZ.out (D.map vb) (by rw [List.length_map, HDb.out.1, z256_size]))
  have Hb3 := Lib.hid (nu_trans hb (nu_fill (a := w2) (D.map vb) (g := w2.heap.size) (Nat.le_refl _) 0 _ (nu_alloc (nu_refl w2) (.cells z256 73))))
  have HBw := Lib.hid (show w.heap.size ≤ w2.heap.size from hb.size)
  clear hb HNw
  go_upto_region 6 with (refine wpList_store_blk rfl 73 (.tmp 9) (.tmp 37) rfl w2.heap.size (D.map vb) rfl rfl 73 z256 HZ.out (by rw [List.length_map, HDb.out.1, z256_size]) (by rw [List.length_map, HDb.out.1]; kernel_rfl) (vb_one _) ?_)
  change Code.wp _ _ _ _ ((w2.alloc (.cells z256 73)).setCells w2.heap.size 0 (D.map vb))
  clear HZ
  generalize (w2.alloc (.cells z256 73)).setCells w2.heap.size 0 (D.map vb) = w3 at *
  obtain ⟨B, hB⟩ : ∃ B, B = w2.heap.size := ⟨_, rfl⟩
  rw [← hB] at HF HBw
  rw [← hB]
  clear hB hzv hzn
  go_wp2_with fail
  go_loopw [40] (fun y wx => ∃ k : Nat, k ≤ len ∧ y = .int .i64 k ∧ Blk wx B 73 ((pokeL D f ys k).map vb).toArray ∧ Below w.heap.size w wx) (fun y _ => len - (intOf y).toNat)
  case atStart => exact ⟨0, by omega, rfl, HF.out, Hb3.out⟩
  case round =>
    clear HF Hb3
    obtain ⟨k, hk, rfl, hB, hb⟩ := hrel
    by_cases hlt : k < len
    · have hki : (k : Int) < (len : Int) := by omega
      obtain ⟨b1, o1, y, hxe, _, hyk, _, hcy⟩ := (HX.out.keep hb).1.elem k hlt
      subst hxe
      have hy8 : y < 256 := wf_u8_lt (HX.out.1.2.1 y (List.mem_of_getElem? hyk))
      obtain ⟨X, hX⟩ : ∃ X, X = f + k := ⟨_, rfl⟩
      have eX : (f : Int) + (k : Int) = (X : Int) := by omega
      have wX : IntKind.i64.wrap (X : Int) = (X : Int) := by rw [IntKind.wrap_i64]; omega
      have hX6 : (X : Int) < 256 := by omega
      obtain ⟨o, ho, ho8⟩ := (HP.out k).at (j := X) (by omega)
      obtain ⟨z, hz⟩ : ∃ z, z = o ^^^ y := ⟨_, rfl⟩
      have hxx := u8_xor_nat o y ho8 hy8
      rw [← hz] at hxx
      have c0 : wr.cell? ⟨B, X, none⟩ = some (.int .u8 (o : Int)) := hB.at X _ (by rw [List.getElem?_toArray, List.getElem?_map, ho]; rfl)
      have f0 := hB.free X
      have hset := hB.put X (vb z)
      have hnx : pokeL D f ys (k + 1) = (pokeL D f ys k).set X z := by
        rw [pokeL, ← hX, hz, List.getD_eq_getElem?_getD, ho, List.getD_eq_getElem?_getD, hyk]
        rfl
      rw [show ((pokeL D f ys k).map vb).toArray.setIfInBounds X (vb z) = ((pokeL D f ys (k + 1)).map vb).toArray by rw [List.setIfInBounds_toArray, ← List.map_set, hnx]] at hset
      have HB1 := Lib.hid hset
      have Hb1 := Lib.hid (nu_set hb (p := ⟨B, X, none⟩) HBw.out (vb z))
      simp only [vb] at HB1 Hb1
      clear hB hb hset hnx ho ho8 hz hX hyk hy8
      go_wp2_with fail
      clear c0 f0 hcy hxx
      generalize wr.setCell ⟨B, X, none⟩ (.int .u8 (z : Int)) = w7 at *
      go_roundw
      case rel => first | exact ⟨k + 1, by omega, by go_num, HB1.out, Hb1.out⟩ | ((repeat apply Exists.intro); exact ⟨⟨k + 1, by omega, by go_num, HB1.out, Hb1.out⟩, rfl⟩)
      case measure => simp [intOf]; omega
    · obtain rfl : k = len := by omega
      have hki : ¬ (k : Int) < (k : Int) := by omega
      have HB := Lib.hid hB
      have HN := Lib.hid (HOf.out wr hb)
      have HS := Lib.hid (HSt.out wr hb)
      have HPl := Lib.hid (HP.out k).1
      clear hB hb HSt HOf
      go_wp2_with (refine wpList_run _ (by rfl) (e256_load HB.out HPl.out (.tmp 9) rfl rfl) ?_)
      refine HS.out.mono ?_
      rintro e w5 ⟨rfl, hn⟩
      have Hn := Lib.hid (HN.out.trans hn)
      clear hn HN HS HB
      go_wp2_with fail
      go_ret
      exact ⟨rfl, Hn.out⟩
set_option maxRecDepth 100000 in
set_option maxHeartbeats 1000000 in
theorem copyD_bad (H : DevRep w d s F) (a b : Int) (h : ¬ ((0 ≤ a ∧ a < (s.st.length : Int)) ∧ (0 ≤ b ∧ b < (s.st.length : Int)))) :
    Calls Try.prog 35 #[.pointer (some ⟨d, 0, none⟩), .int .i64 a, .int .i64 b] w fun e w' => e = .returned (.int .i64 1) ∧ w = w' := by
  by_cases h1 : 0 ≤ a ∧ a < (s.st.length : Int)
  · have HH := Lib.hid (has_any H a true (decide_eq_true h1))
    have HB := Lib.hid (has_any H b false (decide_eq_false (fun h2 => h ⟨h1, h2⟩)))
    clear H h1 h
    go_enter Try.func35, Try.ntmps35
    go_wp2_with fail
    refine HH.out.mono ?_
    rintro e w' ⟨rfl, rfl⟩
    go_wp2_with fail
    refine HB.out.mono ?_
    rintro e w' ⟨rfl, rfl⟩
    go_wp2_with fail
    go_ret
    exact ⟨rfl, rfl⟩
  · have HH := Lib.hid (has_any H a false (decide_eq_false h1))
    clear H h1 h
    go_enter Try.func35, Try.ntmps35
    go_wp2_with fail
    refine HH.out.mono ?_
    rintro e w' ⟨rfl, rfl⟩
    go_wp2_with fail
    go_ret
    exact ⟨rfl, rfl⟩
set_option maxRecDepth 100000 in
set_option maxHeartbeats 1000000 in
theorem copyD_good (H : DevRep w d s F) (i j : Nat) (hi : i < s.st.length) (hj : j < s.st.length) (hwl : s.wa.length ≤ 1000000000) :
    Calls Try.prog 35 #[.pointer (some ⟨d, 0, none⟩), .int .i64 (i : Int), .int .i64 (j : Int)] w fun e w' => e = .returned (.int .i64 0) ∧ DevNext F w w' d (s.settle j (s.now i)) := by
  have HH := Lib.hid (has_any H (i : Int) true (decide_eq_true ⟨by omega, by omega⟩))
  have HB := Lib.hid (has_any H (j : Int) true (decide_eq_true ⟨by omega, by omega⟩))
  obtain ⟨D, hD⟩ : ∃ D, s.now i = D := ⟨_, rfl⟩
  have HNw := Lib.hid (nowD_any H i hi D hD hwl)
  have HDb := Lib.hid (show Bl D by rw [← hD]; exact H.1.now hi)
  have HSt := Lib.hid (fun (u : World) (hu : Below w.heap.size w u) => settleD (DevNext.of_below H hu).1 j hj D HDb.out hwl)
  have HOf := Lib.hid (fun (u : World) (hu : Below w.heap.size w u) => DevNext.of_below H hu)
  rw [hD]
  clear H hi hj hwl hD
  go_enter Try.func35, Try.ntmps35
  go_wp2_with fail
  refine HH.out.mono ?_
  rintro e w' ⟨rfl, rfl⟩
  go_wp2_with fail
  refine HB.out.mono ?_
  rintro e w' ⟨rfl, rfl⟩
  go_wp2_with fail
  refine HNw.out.mono ?_
  rintro e w2 ⟨rfl, hb⟩
  have HN := Lib.hid (HOf.out w2 hb)
  have HS := Lib.hid (HSt.out w2 hb)
  clear hb HSt HOf HNw HH HB
  go_wp2_with fail
  refine HS.out.mono ?_
  rintro e w5 ⟨rfl, hn⟩
  have Hn := Lib.hid (HN.out.trans hn)
  clear hn HN HS
  go_wp2_with fail
  go_ret
  exact ⟨rfl, Hn.out⟩
end
end Go.Proofs.Ytjmghpoknlffiaa

namespace Go.Proofs.Ytjmghpoknlffiaa
open Go.ChangeShapes Go.WideShapes Go.ChangeAt Go.RowKit
set_option linter.unusedSimpArgs false

theorem blk_setB {w : World} {C i : Nat} {t : TypeId} {L : List (List Nat)} (h : Blk w C t (flatB L).toArray) (hL : ∀ b ∈ L, Bl b) (hi : i < L.length) {b : List Nat} (hb : Bl b) : Blk (w.setCells C (i * 256) (b.map vb)) C t (flatB (L.set i b)).toArray := by
  rw [flatB_self hL hi] at h
  rw [flatB_set hL hi]
  have hfl := flatB_len hL
  exact h.fillMid (b.map vb) (by rw [List.length_map, List.length_map, hb.1, (getD_bl hL hi).1]) (by rw [List.length_take, hfl]; exact (Nat.min_eq_left (Nat.mul_le_mul_right 256 (Nat.le_of_lt hi))).symm)
theorem flatB_one (L : List (List Nat)) : ∀ u ∈ flatB L, u.oneCell' = true := fun u hu => by
  obtain ⟨l, hl, hu⟩ := List.mem_flatten.1 hu
  obtain ⟨b, _, rfl⟩ := List.mem_map.1 hl
  exact vb_one b u hu
def imgL (s : Dv) : Nat → List (List Nat)
  | 0 => List.replicate s.st.length (List.replicate 256 0)
  | k + 1 => (imgL s k).set k (s.now k)
theorem imgL_len (s : Dv) (k : Nat) : (imgL s k).length = s.st.length := by
  induction k with
  | zero => exact List.length_replicate ..
  | succ k ih => rw [imgL, List.length_set, ih]
theorem imgL_bl {s : Dv} (h : s.Ok) (k : Nat) (hk : k ≤ s.st.length) : ∀ b ∈ imgL s k, Bl b := by
  induction k with
  | zero => intro b hb; rw [(List.mem_replicate.1 hb).2]; exact bl_zero
  | succ k ih => exact set_bl (ih (by omega)) (h.now (by omega))
theorem imgL_at (s : Dv) (k : Nat) (hk : k ≤ s.st.length) : ∀ j, j < k → (imgL s k)[j]? = some (s.now j) := by
  induction k with
  | zero => intro j hj; omega
  | succ k ih =>
    intro j hj
    rw [imgL, List.getElem?_set]
    by_cases h : k = j
    · rw [if_pos h, if_pos (by rw [imgL_len]; omega), h]
    · rw [if_neg h]
      exact ih (by omega) j (by omega)
theorem imgL_all (s : Dv) : imgL s s.st.length = s.image := by
  apply List.ext_getElem?
  intro j
  by_cases h : j < s.st.length
  · rw [imgL_at s _ (Nat.le_refl _) j h, s.image_at h]
  · rw [List.getElem?_eq_none (by rw [imgL_len]; omega), List.getElem?_eq_none (by rw [s.image_len]; omega)]
/-- A whole row copied onto another. -/
theorem wpList_copy_whole {P : Program} {w : World} {ops : Array Oper} {rest : List Oper} {o : Oper} {a : Act} {Q : Exit → Act → World → Prop} (hgd : o.guard = none) (d s : Operand) (dT sT : TypeId)
    (ho : o.op = .call { callee := .builtin .copy, args := #[d, s], argTypes := #[dT, sT] }) (elem : TypeId) (hu : P.underlying dT = some (.slice elem)) (size n : Nat) (hsz : (P.info? elem).map (·.size) = some size)
    (g b c1 c2 : Nat) (hd : a.eval d = .slice (some ⟨g, 0, none⟩) n c1) (hs : a.eval s = .slice (some ⟨b, 0, none⟩) n c2)
    (cur cs : List Value) (t t' : TypeId) (hg : Blk w g t cur.toArray) (hb : Blk w b t' cs.toArray) (hl1 : cur.length = n * size) (hl2 : cs.length = n * size) (h1 : ∀ v ∈ cs, v.oneCell' = true)
    (h : ∀ w', Hid (Blk w' g t cs.toArray) → w.grownBy w' (some g) → wpList P ops Q rest (a.put o.dst (goInt n)) w') : wpList P ops Q (o :: rest) a w := by
  refine wpList_plain hgd fun K hK => ?_
  have hl := run_loadCells_list (P := P) w ⟨b, 0, none⟩ cs (fun j v hv => by
    rw [Addr.add_lit, Nat.zero_add]
    exact hb.at j v (by simpa using hv))
  have hst := run_storeCells_at P g 0 t cs 0 cur.toArray w hg (by simp; omega) h1
  have hcs : (cur.toArray.toList.take (0 + 0) ++ cs ++ cur.toArray.toList.drop (0 + 0 + cs.length)) = cs := by
    rw [Nat.zero_add, Nat.zero_add, List.take_zero, List.nil_append, List.drop_of_length_le (by simp; omega), List.append_nil]
  rw [hcs] at hst
  have hrun : (Builtin.copy_ #[dT, sT] o.type #[.slice (some ⟨g, 0, none⟩) n c1, .slice (some ⟨b, 0, none⟩) n c2]).run P w = .ok (goInt n) (w.setRow g cs.toArray) := by
    cases hq : P.info? elem with
    | none => simp [hq] at hsz
    | some i =>
      have hi : i.size = size := by simpa [hq] using hsz
      have hmin : Nat.min n n = n := Nat.min_self n
      simp [Builtin.copy_, run_underlying hu, Builtin.lenOf, Builtin.firstCells, sizeOf, typeInfo, hq, hi, hmin, ← hl2, hl, hst]
  unfold Oper.wp
  simp [execOp, ho, resolve, invoke, builtin, hd, hs, hrun, Result.andThen]
  exact hK _ _ (h _ (show _ = _ from setRow_heap w g _ _ t _ hg) (gb_setRow w g _))
section
variable {F : Nat → Prop} {w0 w w' : World} {d sb : Nat} {wa cp wr : Value} {cs : List Nat} {ws : List Value} {s : Dv}
/-- The row of the images is longer, and the device told of it. -/
theorem DState.copies (H : DState F w0 w d sb wa cp wr cs ws s) {cp' : Value} {g : Nat} {c : List (List Nat)} (hown : w'.ownsRow 0 68 1 cp' (s.cp.length + 1) ((cs.map fun b => .slice (some ⟨b, 0, none⟩) s.st.length s.st.length) ++ [.slice (some ⟨g, 0, none⟩) s.st.length s.st.length]))
    (hb : Blk w g 73 (flatB c).toArray) (hn : g ≠ sb) (hgF : Grown F w0 w g) (hg : w.grownBy w' cp.ownBlock) (hbl : cp'.ownBlock = cp.ownBlock ∨ cp'.ownBlock = some w.heap.size) :
    DState F w0 (w'.setCell ⟨d, 5, none⟩ cp') d sb wa cp' wr (cs ++ [g]) ws { s with cp := s.cp ++ [c] } ∧ w'.cell? ⟨d, 5, none⟩ = some cp ∧ w'.frozen? ⟨d, 5, none⟩ = false := by
  have hd' : DevAt w' d (.slice (some ⟨sb, 0, none⟩) s.st.length s.st.length) wa s.off s.ar s.co cp wr := DevAt.keep H.dv (own_typed H.m.cp) hg (by decide)
  have hg2 : w'.grownBy (w'.setCell ⟨d, 5, none⟩ cp') (some d) := gb_set (gb_refl w' (some d)) (p := ⟨d, 5, none⟩) (.inl rfl) cp'
  have hM := H.m.turnCp hown hb hn hg
  refine ⟨⟨Blk.put hd' 5 cp', hM.dev hd' hg2, ?_, (H.md.grown hg (fun k hk => foot_row H (H.f.cp k hk))).grown hg2 (fun k hk => by injection hk with hk; rw [← hk]; exact foot_row H H.f.d)⟩, (DevAt.cells hd').2.2.2.2.2.1, Blk.free hd' 5⟩
  have hf := H.f.mono (grown_mono (Nat.le_trans hg.size hg2.size))
  refine ⟨hf.d, hf.sb, hf.wa, fun k hk => ?_, hf.wr, fun b hb => ?_, hf.ws⟩
  · rcases hbl with hb | hb
    · exact hf.cp k (hb ▸ hk)
    · rw [hb] at hk
      injection hk with hk
      obtain ⟨cur, hc⟩ := own_typed hown k (by rw [hb, hk])
      exact .inr ⟨by rw [← hk]; exact H.md.size, Nat.lt_of_lt_of_le hc.lt hg2.size⟩
  · rcases List.mem_append.1 hb with hb | hb
    · exact hf.cs b hb
    · rw [List.mem_singleton.1 hb]
      exact grown_mono (Nat.le_trans hg.size hg2.size) g hgF
end
section
variable {w : World} {d : Nat} {s : Dv} {F : Nat → Prop}
set_option maxRecDepth 100000 in
set_option maxHeartbeats 1000000 in
theorem snapD_full (H : DevRep w d s F) (h8 : s.cp.length = 8) : Calls Try.prog 29 #[.pointer (some ⟨d, 0, none⟩)] w fun e w' => e = .returned (.tuple #[.int .i64 0, .int .i64 11]) ∧ w = w' := by
  obtain ⟨_, _, sb, wa, cp, wv, cs, ws, hd, hM, _⟩ := H
  obtain ⟨_, _, _, _, _, c5, _⟩ := hd.cells
  obtain ⟨ao, c, rfl⟩ := own_len hM.cp
  rw [h8] at c5
  clear hd hM h8
  go_enter Try.func29, Try.ntmps29
  go_wp2_with fail
  go_ret2
  exact ⟨rfl, rfl⟩
set_option maxRecDepth 100000 in
set_option maxHeartbeats 8000000 in
theorem snapD_good (H : DevRep w d s F) (h8 : s.cp.length < 8) (hwl : s.wa.length ≤ 1000000000) : Calls Try.prog 29 #[.pointer (some ⟨d, 0, none⟩)] w fun e w' => e = .returned (.tuple #[.int .i64 (s.cp.length : Int), .int .i64 0]) ∧ DevNext F w w' d s.snap := by
  have Hok := Lib.hid H.1
  have HFl := Lib.hid H.2.1
  have Hok2 := Lib.hid (H.1.snap h8)
  have HR := Lib.hid H
  have Hwl := Lib.hid hwl
  obtain ⟨sb, wa, cp, wv, cs, ws, hD⟩ := H.state
  have HD := Lib.hid hD
  obtain ⟨n, hn⟩ : ∃ n, n = s.st.length := ⟨_, rfl⟩
  have Hn := Lib.hid hn
  obtain ⟨q, hq⟩ : ∃ q, q = s.cp.length := ⟨_, rfl⟩
  have Hq := Lib.hid hq
  obtain ⟨co, cc, hcp⟩ := own_len hD.m.cp
  rw [← hq] at hcp
  subst hcp
  have c5 := (DevAt.cells hD.dv).2.2.2.2.2.1
  have c0 := (DevAt.cells hD.dv).1
  rw [← hn] at c0
  have hnb : n ≤ 65536 := by rw [hn]; exact H.1.n2
  have hq8 : ((q : Int) == 8) = false := by rw [beq_eq_false_iff_ne]; omega
  have hq8b : q < 8 := by omega
  have HM := Lib.hid (exec_makeN n hnb)
  obtain ⟨L, hL⟩ : ∃ L, L = (flatB (List.replicate n (List.replicate 256 0))).toArray := ⟨_, rfl⟩
  have HL := Lib.hid hL
  rw [← hL] at HM
  clear hL
  obtain ⟨ii, hii, hi0, hi1, hi2⟩ := info_parts info_img
  have Hii := Lib.hid (And.intro hii (And.intro hi0 (And.intro hi1 hi2)))
  rw [show (s.cp.length : Int) = (q : Int) by omega]
  clear H h8 hwl hD hn hq hii hi0 hi1 hi2
  go_enter Try.func29, Try.ntmps29
  go_upto_region 6 with (refine wpList_runW _ _ rfl (HM.out _ _ _ (.tmp 20) (.tmp 20) rfl rfl rfl) ?_)
  clear c5 c0
  have hal := nu_alloc (nu_refl w) (.cells L 73)
  have HC := Lib.hid (show Blk (w.alloc (.cells L 73)) w.heap.size 73 (flatB (imgL s 0)).toArray from by
    have h := Blk.made w 73 L
    have e : L = (flatB (imgL s 0)).toArray := by rw [HL.out, Hn.out]; rfl
    rw [← e]
    exact h)
  have Hal := Lib.hid hal
  clear hal HM
  generalize w.alloc (.cells L 73) = w1 at *
  obtain ⟨C, hC⟩ : ∃ C, C = w.heap.size := ⟨_, rfl⟩
  rw [← hC] at HC
  rw [← hC]
  have HCw := Lib.hid (show w.heap.size ≤ C by omega)
  have HCs := Lib.hid (show C ≠ sb by have := HD.out.m.st.lt; omega)
  clear hC
  go_wp2_with fail
  go_loopw [24] (fun x wx => ∃ k : Nat, k ≤ n ∧ x = .int .i64 k ∧ Blk wx C 73 (flatB (imgL s k)).toArray ∧ Below w.heap.size w wx) (fun x _ => n - (intOf x).toNat)
  case atStart => exact ⟨0, by omega, rfl, HC.out, Hal.out⟩
  case round =>
    clear HC Hal
    obtain ⟨k, hk, rfl, hC, hb⟩ := hrel
    by_cases hlt : k < n
    · have hki : (k : Int) < (n : Int) := by omega
      obtain ⟨D, hDe⟩ : ∃ D, s.now k = D := ⟨_, rfl⟩
      have hks : k < s.st.length := by rw [← Hn.out]; exact hlt
      have HNw := Lib.hid (nowD_any (HR.out.below hb) k hks D hDe Hwl.out)
      have HDb := Lib.hid (show Bl D by rw [← hDe]; exact Hok.out.now hks)
      have HLb := Lib.hid (imgL_bl Hok.out k (Nat.le_of_lt hks))
      have HLl := Lib.hid (show k < (imgL s k).length by rw [imgL_len]; exact hks)
      have HLn := Lib.hid (show imgL s (k + 1) = (imgL s k).set k D by rw [imgL, hDe])
      have HC := Lib.hid hC
      have Hb := Lib.hid hb
      clear hC hb hDe hks
      go_wp2_with fail
      refine HNw.out.mono ?_
      rintro e w2 ⟨rfl, hb2⟩
      have HC2 := Lib.hid (HC.out.below hb2 HC.out.lt)
      have HC3 := Lib.hid (show Blk (w2.setCells C (k * 256) (D.map vb)) C 73 (flatB (imgL s (k + 1))).toArray by rw [HLn.out]; exact blk_setB HC2.out HLb.out HLl.out HDb.out)
      have Hb3 := Lib.hid (nu_fill (D.map vb) (g := C) HCw.out (k * 256) _ (nu_trans Hb.out hb2))
      have Hfit := Lib.hid (show k * 256 + 256 ≤ (flatB (imgL s k)).length by rw [flatB_len HLb.out]; have := HLl.out; omega)
      clear hb2 HC Hb HNw
      go_upto_region 10 with (refine wpList_store_in rfl 73 (.tmp 32) (.tmp 31) rfl C (k * 256) (D.map vb) rfl rfl 73 _ HC2.out (by rw [List.size_toArray, List.length_map, HDb.out.1]; exact Hfit.out) (by rw [List.length_map, HDb.out.1]; kernel_rfl) (vb_one _) ?_)
      clear HC2
      generalize w2.setCells C (k * 256) (D.map vb) = w3 at *
      go_wp2_with fail
      go_roundw
      case rel => first | exact ⟨k + 1, by omega, by go_num, HC3.out, Hb3.out⟩ | ((repeat apply Exists.intro); exact ⟨⟨k + 1, by omega, by go_num, HC3.out, Hb3.out⟩, rfl⟩)
      case measure => simp [intOf]; omega
    · obtain rfl : k = n := by omega
      have hki : ¬ (k : Int) < (k : Int) := by omega
      have HDw := Lib.hid (HD.out.below hb)
      rw [Hn.out, imgL_all] at hC
      have HC := Lib.hid hC
      have HCl := Lib.hid (show Grown F w wr C from .inr ⟨HCw.out, hC.lt⟩)
      have hal := nu_alloc (nu_refl wr) (.cells #[.slice (some ⟨C, 0, none⟩) k k] 68)
      have HA := Lib.hid (Blk.made wr 68 #[.slice (some ⟨C, 0, none⟩) k k])
      have HDa := Lib.hid (HDw.out.below hal)
      have HCa := Lib.hid (hC.below hal hC.lt)
      have c5 := (DevAt.cells HDw.out.dv).2.2.2.2.2.1
      have Hqs := Lib.hid (show s.cp.length = q from Hq.out.symm)
      clear hC hb HD HDw HC hal
      have HO := Lib.hid (show RowZ (wr.alloc (.cells #[.slice (some ⟨C, 0, none⟩) k k] 68)) 68 1 (.slice co q cc) q (cs.map fun b => .slice (some ⟨b, 0, none⟩) s.st.length s.st.length) from .inl (by
        have h := HDa.out.m.cp
        rw [Hqs.out] at h
        exact h))
      obtain ⟨A, hA⟩ : ∃ A : List Value, A = cs.map fun b => .slice (some ⟨b, 0, none⟩) s.st.length s.st.length := ⟨_, rfl⟩
      rw [← hA] at HO
      have HAe := Lib.hid hA
      have HCl2 := Lib.hid (grown_mono (F := F) (w0 := w) (nu_alloc (nu_refl wr) (.cells #[.slice (some ⟨C, 0, none⟩) k k] 68)).size C HCl.out)
      have hm1 : q + 1 ≤ maxLen := by unfold maxLen; omega
      clear hA
      go_upto_region 11 with fail
      generalize hwa : wr.alloc (.cells #[.slice (some ⟨C, 0, none⟩) k k] 68) = w4 at *
      have Hwa := Lib.hid hwa
      clear hwa
      obtain ⟨G, hG⟩ : ∃ G, G = wr.heap.size := ⟨_, rfl⟩
      rw [← hG] at HA
      have HGe := Lib.hid hG
      clear hG
      go_upto_region 12 with (at_builtin; rw [Hwa.out, ← HGe.out]; refine wpList_append_z rfl (.tmp 38) (.tmp 40) 70 rfl 68 ii (.slice none 0 0) 1 24 Try.underlying70 Hii.out.1 Hii.out.2.1 Hii.out.2.2.1 Hii.out.2.2.2 rfl (by omega) (.slice co q cc) q A rfl HO.out ⟨G, 0, none⟩ 1 1 (by omega) [.slice (some ⟨C, 0, none⟩) k k] rfl rfl (fun j u hu => by rw [Addr.add_lit, Nat.zero_add]; exact HA.out.at j u (by simpa using hu)) (fun u hu => by rw [List.mem_singleton.1 hu]; rfl) hm1 (by omega) ?_)
      intro v' w5 hown hg hb
      obtain ⟨va, vc, rfl⟩ := own_len hown
      have HW := Lib.hid (HDa.out.copies (c := s.image) (by
        rw [Hqs.out, ← HAe.out, ← Hn.out]
        exact hown) HCa.out HCs.out HCl2.out hg hb)
      have HN := Lib.hid (HW.out.1.next Hok2.out HFl.out)
      obtain ⟨_, c1, f1⟩ := HW.out
      clear hown hg hb HDa HCa HO HA HW
      go_wp2_with fail
      go_ret2
      exact ⟨rfl, HN.out⟩
theorem Mem.images {w : World} {sb : Nat} {wa cp wr : Value} {cs : List Nat} {ws : List Value} {s : Dv} (M : Mem w sb wa cp wr cs ws s) {i : Nat} {c : List (List Nat)} (hc : s.cp[i]? = some c) :
    ∃ g pc b, cp = .slice (some ⟨g, 0, none⟩) s.cp.length pc ∧ w.cell? ⟨g, i, none⟩ = some (.slice (some ⟨b, 0, none⟩) s.st.length s.st.length) ∧ Blk w b 73 (flatB c).toArray ∧ b ≠ sb := by
  have hil : i < s.cp.length := (List.getElem?_eq_some_iff.1 hc).1
  obtain ⟨b, hb⟩ : ∃ b, cs[i]? = some b := ⟨_, List.getElem?_eq_getElem (by rw [M.cl]; exact hil)⟩
  obtain ⟨g, pc, h1⟩ : ∃ g pc, cp = .slice (some ⟨g, 0, none⟩) s.cp.length pc := by
    rcases M.cp.2 with ⟨_, h0⟩ | ⟨g, cap, cur, h1, _⟩
    · omega
    · exact ⟨g, cap, h1⟩
  subst h1
  refine ⟨g, pc, b, rfl, ?_, M.cb i b c hb hc, M.cn b (List.mem_of_getElem? hb)⟩
  rw [M.cp.cellAt i (by omega), List.getElem?_map, hb]
  rfl
set_option maxRecDepth 100000 in
set_option maxHeartbeats 1000000 in
theorem backD_bad (H : DevRep w d s F) (a : Int) (h : a < 0 ∨ (s.cp.length : Int) ≤ a) : Calls Try.prog 30 #[.pointer (some ⟨d, 0, none⟩), .int .i64 a] w fun e w' => e = .returned (.int .i64 1) ∧ w = w' := by
  obtain ⟨_, _, sb, wa, cp, wv, cs, ws, hd, hM, _⟩ := H
  obtain ⟨_, _, _, _, _, c5, _⟩ := hd.cells
  obtain ⟨ao, c, rfl⟩ := own_len hM.cp
  generalize s.cp.length = q at *
  clear hd hM
  by_cases h1 : a < 0
  · go_enter Try.func30, Try.ntmps30
    go_wp2_with fail
    go_ret
    exact ⟨rfl, rfl⟩
  · have h2 : (q : Int) ≤ a := by omega
    go_enter Try.func30, Try.ntmps30
    go_wp2_with fail
    go_ret
    exact ⟨rfl, rfl⟩
set_option maxRecDepth 100000 in
set_option maxHeartbeats 4000000 in
theorem backD_good (H : DevRep w d s F) (i : Nat) (hi : i < s.cp.length) : Calls Try.prog 30 #[.pointer (some ⟨d, 0, none⟩), .int .i64 (i : Int)] w fun e w' => e = .returned (.int .i64 0) ∧ DevNext F w w' d (s.back i) := by
  have Hok := Lib.hid H.1
  have HFl := Lib.hid H.2.1
  have Hok2 := Lib.hid (H.1.back hi)
  obtain ⟨sb, wa, cp, wv, cs, ws, hD⟩ := H.state
  obtain ⟨c, hc⟩ : ∃ c, s.cp[i]? = some c := ⟨_, List.getElem?_eq_getElem hi⟩
  have Hcb := Lib.hid (H.1.cb c (List.mem_of_getElem? hc))
  have Hce := Lib.hid (show s.cp.getD i [] = c by rw [List.getD_eq_getElem?_getD, hc]; rfl)
  have hDd := hD.below (nu_drew (nu_refl w))
  obtain ⟨g, pc, b, hcp, hcell, hbb, hne⟩ := hD.m.images hc
  obtain ⟨q, hq⟩ : ∃ q, q = s.cp.length := ⟨_, rfl⟩
  rw [← hq] at hcp
  subst hcp
  obtain ⟨n, hn⟩ : ∃ n, n = s.st.length := ⟨_, rfl⟩
  have Hn := Lib.hid hn
  have c5 := (DevAt.cells hD.dv).2.2.2.2.2.1
  have c0 := (DevAt.cells hD.dv).1
  have hiq : (i : Int) < (q : Int) := by omega
  have hin : ¬ (i : Int) < 0 := by omega
  have hiq2 : ¬ (q : Int) ≤ (i : Int) := by omega
  rw [← hn] at c0 hcell
  have HDd := Lib.hid hDd
  have Hbb := Lib.hid (hbb.below (nu_drew (nu_refl w)) hbb.lt)
  have Hst := Lib.hid Hok.out.st
  clear H hi hD hDd hbb hne hc hn hq
  go_enter Try.func30, Try.ntmps30
  go_upto_region 5 with fail
  go_still_tail 11, (by kernel_rfl)
  change wpList _ _ _ _ _ w.drew
  clear c5 c0 hcell hiq hin hiq2
  generalize w.drew = w6 at *
  go_upto_region 6 with (refine wpList_copy_whole rfl (.tmp 23) (.tmp 30) 68 68 rfl 73 Try.underlying68 256 n (by kernel_rfl) sb b n n rfl rfl (flatB s.st) (flatB c) 73 73 HDd.out.m.st Hbb.out (by rw [flatB_len Hst.out, Hn.out]) (by rw [flatB_len Hcb.out.2, Hcb.out.1, Hn.out]) (flatB_one c) ?_)
  intro w7 hB hg
  have HN := Lib.hid (HDd.out.turnSt (st' := c) Hcb.out.1 hB.out hg)
  have HF := Lib.hid (HN.out.drop)
  have c1 := (DevAt.cells HN.out.dv).2.1
  have f1 : w7.frozen? ⟨d, 1, none⟩ = false := Blk.free HN.out.dv 1
  have HX := Lib.hid (HF.out.next (by
    have e := Hok2.out
    unfold Dv.back at e
    rw [Hce.out] at e
    exact e) HFl.out)
  clear hB hg HN HF HDd Hbb
  go_wp2_with fail
  go_ret
  refine ⟨rfl, ?_⟩
  unfold Dv.back
  rw [Hce.out]
  exact HX.out
end
end Go.Proofs.Ytjmghpoknlffiaa

namespace Go.Proofs.Ytjmghpoknlffiaa
open Go.ChangeShapes Go.WideShapes Go.ChangeAt Go.RowKit
set_option linter.unusedSimpArgs false

theorem e_sl22 {o : Oper} {a : Act} {w : World} {g i n c : Nat} {v : Option Addr} (hc : w.cell? ⟨g, i, none⟩ = some (.slice v n c)) (x : Operand) (ho : o.op = .load 22 x) (hx : a.eval x = .pointer (some ⟨g, i, none⟩)) :
    (execOp a.eval o).run Try.prog w = .ok (.value (.slice v n c)) w := by
  unfold execOp
  simp only [ho, hx]
  go_simp
/-- A row of writes of the call's own. -/
def WrRow (w : World) (base : Nat) (v : Value) (wr : List (Nat × List Nat)) (ws : List Value) : Prop :=
  w.ownsRow base 64 2 v wr.length (flatR wr ws) ∧ ws.length = wr.length ∧ ∀ (i : Nat) (u : Value) (p : Nat × List Nat), ws[i]? = some u → wr[i]? = some p → OwnB w base 5 u p.2
theorem WrRow.below {w w' : World} {base : Nat} {v : Value} {wr : List (Nat × List Nat)} {ws : List Value} (h : WrRow w base v wr ws) (hb : Below w.heap.size w w') : WrRow w' base v wr ws :=
  ⟨own_eq h.1 (fun k hk => hb.block k (h.1.lt k hk).2), h.2.1, fun i u p h1 h2 => ownB_under (h.2.2 i u p h1 h2) hb⟩
theorem wrRow_snoc {w w' : World} {base : Nat} {v v' u : Value} {wr : List (Nat × List Nat)} {ws : List Value} {p : Nat × List Nat} {wr' : List (Nat × List Nat)} (hw : wr' = wr ++ [p]) (h : WrRow w base v wr ws) (hu : OwnB w base 5 u p.2)
    (hown : w'.ownsRow base 64 2 v' (wr.length + 1) (flatR wr ws ++ [.int .i64 (p.1 : Int), u])) (hg : w.grownBy w' v.ownBlock) : WrRow w' base v' wr' (ws ++ [u]) := by
  subst hw
  have hr := own_typed h.1
  refine ⟨by rw [List.length_append, flatR_snoc h.2.1]; exact hown, by rw [List.length_append, List.length_append, h.2.1]; rfl, fun j x q h1 h2 => ?_⟩
  by_cases hi : j < ws.length
  · rw [List.getElem?_append_left hi] at h1
    rw [List.getElem?_append_left (by rw [← h.2.1]; exact hi)] at h2
    exact ownB_keep hr hg (h.2.2 j x q h1 h2) (by decide)
  · rw [List.getElem?_append_right (by omega)] at h1
    rw [List.getElem?_append_right (by rw [← h.2.1]; omega), ← h.2.1] at h2
    obtain ⟨k, hk⟩ : ∃ k, k = j - ws.length := ⟨_, rfl⟩
    rw [← hk] at h1 h2
    cases k with
    | zero =>
      injection h1 with h1
      injection h2 with h2
      subst h1
      subst h2
      exact ownB_keep hr hg hu (by decide)
    | succ k => cases h1
theorem Mem.writ {w : World} {sb : Nat} {wa cp wr : Value} {cs : List Nat} {ws : List Value} {s : Dv} (M : Mem w sb wa cp wr cs ws s) (hok : s.Ok) (hp : 0 < s.wr.length) :
    ∃ g c, wr = .slice (some ⟨g, 0, none⟩) s.wr.length c ∧ ∀ (q : Nat) (p : Nat × List Nat), s.wr[q]? = some p → ∃ C0 c0, w.cell? ⟨g, q * 2, none⟩ = some (.int .i64 (p.1 : Int)) ∧ w.cell? ⟨g, q * 2 + 1, none⟩ = some (.slice (some ⟨C0, 0, none⟩) 256 c0) ∧ OwnB w 0 5 (.slice (some ⟨C0, 0, none⟩) 256 c0) p.2 := by
  obtain ⟨g, cap, rfl⟩ : ∃ g cap, wr = .slice (some ⟨g, 0, none⟩) s.wr.length cap := by
    rcases M.wr.2 with ⟨_, h0⟩ | ⟨g, cap, cur, h1, _⟩
    · omega
    · exact ⟨g, cap, h1⟩
  refine ⟨g, cap, rfl, fun q p hq => ?_⟩
  have hql := (List.getElem?_eq_some_iff.1 hq).1
  obtain ⟨u, hu⟩ : ∃ u, ws[q]? = some u := ⟨_, List.getElem?_eq_getElem (by rw [M.wl]; exact hql)⟩
  have hO := M.wb q u p hu hq
  have hb := (hok.wr p (List.mem_of_getElem? hq)).2
  obtain ⟨C0, c0, rfl, _, _, _⟩ := ownB_slice hO (by rw [hb.1]; omega)
  rw [hb.1] at hO hu
  refine ⟨C0, c0, ?_, ?_, hO⟩
  · rw [M.wr.cellAt (q * 2) (by omega)]
    have h := flatR_at hq hu (show 0 < 2 by omega)
    rw [Nat.add_zero] at h
    exact h
  · rw [M.wr.cellAt (q * 2 + 1) (by omega)]
    exact flatR_at hq hu (show 1 < 2 by omega)
section
variable {w : World} {d : Nat} {s : Dv} {F : Nat → Prop}
set_option maxRecDepth 100000 in
set_option maxHeartbeats 8000000 in
theorem writtenD (H : DevRep w d s F) (hrl : s.wr.length ≤ 1000000000) : Calls Try.prog 33 #[.pointer (some ⟨d, 0, none⟩)] w fun e w' => ∃ v, e = .returned v ∧ (∃ ws, WrRow w' w.heap.size v s.wr ws) ∧ Below w.heap.size w w' := by
  have Hok := Lib.hid H.1
  have HR := Lib.hid H
  obtain ⟨sb, wa, cp, wv, cs, ws, hD⟩ := H.state
  have HD := Lib.hid hD
  obtain ⟨ao, ac, hwv⟩ := own_len hD.m.wr
  obtain ⟨m, hm⟩ : ∃ m, m = s.wr.length := ⟨_, rfl⟩
  have Hm := Lib.hid hm
  rw [← hm] at hwv
  subst hwv
  have c6 := (DevAt.cells hD.dv).2.2.2.2.2.2
  have hmb : m ≤ 1000000000 := by omega
  obtain ⟨iv, hiv, hv0, hv1, hv2⟩ := info_parts info_wrt
  have Hiv := Lib.hid (And.intro hiv (And.intro hv0 (And.intro hv1 hv2)))
  clear H hrl hD hm hiv hv0 hv1 hv2
  go_enter Try.func33, Try.ntmps33
  go_wp2_with fail
  clear c6
  go_loopw [3, 13] (fun y3 x wx => ∃ (k : Nat) (v : Value) (ws2 : List Value), k ≤ m ∧ x = .int .i64 k ∧ v = y3 ∧ WrRow wx w.heap.size v (s.wr.take k) ws2 ∧ Below w.heap.size w wx) (fun _ x _ => m - (intOf x).toNat)
  case atStart => exact ⟨0, _, [], by omega, rfl, rfl, ⟨World.ownsRow_nil w _ _ _, rfl, fun i u p h => by cases h⟩, nu_refl w⟩
  case round =>
    obtain ⟨k, v3, ws2, hk, rfl, rfl, hrow, hb⟩ := hrel
    by_cases hlt : k < m
    · have hki : (k : Int) < (m : Int) := by omega
      obtain ⟨p, hp⟩ : ∃ p, s.wr[k]? = some p := ⟨_, List.getElem?_eq_getElem (by rw [← Hm.out]; exact hlt)⟩
      have Hpl := Lib.hid (Hok.out.wr p (List.mem_of_getElem? hp)).2.1
      have hD := HD.out.below hb
      obtain ⟨g, gc, hwv, hcell⟩ := hD.m.writ Hok.out (by rw [← Hm.out]; omega)
      rw [← Hm.out] at hwv
      injection hwv with e1 e2 e3
      subst e1 e3
      obtain ⟨C0, c0, h1, h2, h3⟩ := hcell k p hp
      have HX := Lib.hid (show ∀ u, Below w.heap.size w u → BytesIn u (some ⟨C0, 0, none⟩) 256 c0 p.2 from fun u hu => by
        obtain ⟨g', gc', hwv', hcell'⟩ := (HD.out.below hu).m.writ Hok.out (by rw [← Hm.out]; omega)
        rw [← Hm.out] at hwv'
        injection hwv' with e1 _ _
        injection e1 with e1
        injection e1 with e1
        subst e1
        obtain ⟨C1, c1, k1, k2, k3⟩ := hcell' k p hp
        have hgl : g < w.heap.size := (HD.out.m.wr.lt g rfl).2
        have ea := World.cell?_of_block (w := w) (w' := wr) (a := ⟨g, k * 2 + 1, none⟩) (hb.block g hgl)
        have eb := World.cell?_of_block (w := w) (w' := u) (a := ⟨g, k * 2 + 1, none⟩) (hu.block g hgl)
        rw [ea] at h2
        rw [eb, h2] at k2
        injection k2 with k2
        injection k2 with k2 _ k4
        injection k2 with k2
        injection k2 with k2
        subst k2 k4
        exact ownB_bytes k3 Hpl.out)
      have Htk := Lib.hid (show s.wr.take (k + 1) = s.wr.take k ++ [p] by rw [List.take_add_one, hp]; rfl)
      have htl : (s.wr.take k).length = k := by rw [List.length_take, ← Hm.out]; omega
      have hal := nu_alloc (nu_refl wr) (.cells #[.int .i64 0, .slice none 0 0] 64)
      have HGm := Lib.hid (Blk.made wr 64 #[.int .i64 0, .slice none 0 0])
      have HGf := Lib.hid (Blk.fill HGm.out [.int .i64 (p.1 : Int), .slice (some ⟨C0, 0, none⟩) 256 c0] rfl)
      have hb4 := nu_fill (a := wr) [.int .i64 (p.1 : Int), .slice (some ⟨C0, 0, none⟩) 256 c0] (g := wr.heap.size) (Nat.le_refl _) 0 _ hal
      have Hb4 := Lib.hid hb4
      have HRow := Lib.hid (show ∀ u, Below wr.heap.size wr u → WrRow u w.heap.size v3 (s.wr.take k) ws2 from fun u hu => hrow.below hu)
      have HRg := Lib.hid (show v3.ownBlock ≠ some wr.heap.size from fun e => Nat.lt_irrefl _ (hrow.1.lt _ e).2)
      have Hb := Lib.hid (nu_trans hb hb4)
      clear hD hcell h3 hp hrow hb hb4 hal
      go_upto_region 7 with (refine wpList_store_in rfl 64 (.tmp 5) (.tmp 16) rfl wr.heap.size 0 [.int .i64 (p.1 : Int), .slice (some ⟨C0, 0, none⟩) 256 c0] rfl rfl 64 _ HGm.out (by simp) (by kernel_rfl) (fun u hu => by simp only [List.mem_cons, List.not_mem_nil, or_false] at hu; rcases hu with rfl | rfl <;> rfl) ?_)
      change Code.wp _ _ _ _ ((wr.alloc (.cells #[.int .i64 0, .slice none 0 0] 64)).setCells wr.heap.size 0 [.int .i64 (p.1 : Int), .slice (some ⟨C0, 0, none⟩) 256 c0])
      clear HGm h1 h2
      have htl2 := Lib.hid htl
      generalize (wr.alloc (.cells #[.int .i64 0, .slice none 0 0] 64)).setCells wr.heap.size 0 [.int .i64 (p.1 : Int), .slice (some ⟨C0, 0, none⟩) 256 c0] = w4 at *
      obtain ⟨G, hG⟩ : ∃ G, G = wr.heap.size := ⟨_, rfl⟩
      rw [← hG] at HGf HRg
      rw [← hG]
      clear hG htl
      have HG := Lib.hid (show Blk w4 G 64 #[.int .i64 (p.1 : Int), .slice (some ⟨C0, 0, none⟩) 256 c0] from HGf.out)
      clear HGf
      refine wp_region_held_drew (S := fun W => Blk W G 64 #[.int .i64 (p.1 : Int), .slice (some ⟨C0, 0, none⟩) 256 c0]) (by kernel_rfl) (HG.out.drew) (fun hHeld => ?_)
      dsimp only [Array.replicate, List.replicate, List.size_toArray, List.length_cons, List.length_nil, Nat.reduceAdd] at hHeld ⊢
      have HG0 := Lib.hid HG.out.drew
      have Hb0 := Lib.hid (nu_drew Hb.out)
      have Hbu := Lib.hid (nu_trans Hb4.out (nu_drew (nu_refl w4)))
      clear HG Hb
      generalize w4.drew = u0 at *
      refine take_l (i := 0) (v := ?_) rfl (by kernel_rfl) (by kernel_rfl) (by kernel_rfl) (fun _ _ _ h => h) (Or.inl ⟨by rfl, ?_⟩) (by assumption) ?_
      case refine_2 => (intro _ _; go_simp; all_goals with_reducible rfl)
      simp only [Act.put, List.setIfInBounds_toArray, List.set_cons_zero, List.set_cons_succ]
      refine take_l (i := 1) (v := ?_) rfl (by kernel_rfl) (by kernel_rfl) (by kernel_rfl) (fun _ _ _ h => h) (Or.inl ⟨by rfl, ?_⟩) (by assumption) ?_
      case refine_2 => (intro _ _; go_simp; all_goals with_reducible rfl)
      simp only [Act.put, List.setIfInBounds_toArray, List.set_cons_zero, List.set_cons_succ]
      refine take_l (i := 2) rfl (by kernel_rfl) (by kernel_rfl) (by kernel_rfl) (fun _ _ _ h => h) (Or.inl ⟨by rfl, fun W hS => e_int (hS.at 0 _ rfl) (.tmp 18) rfl rfl⟩) (by assumption) ?_
      simp only [Act.put, List.setIfInBounds_toArray, List.set_cons_zero, List.set_cons_succ]
      refine take_l (i := 3) (v := ?_) rfl (by kernel_rfl) (by kernel_rfl) (by kernel_rfl) (fun _ _ _ h => h) (Or.inl ⟨by rfl, ?_⟩) (by assumption) ?_
      case refine_2 => (intro _ _; go_simp; all_goals with_reducible rfl)
      simp only [Act.put, List.setIfInBounds_toArray, List.set_cons_zero, List.set_cons_succ]
      refine take_l (i := 4) rfl (by kernel_rfl) (by kernel_rfl) (by kernel_rfl) (fun _ _ _ h => h) (Or.inl ⟨by rfl, fun W hS => e_sl22 (hS.at 1 _ rfl) (.tmp 20) rfl rfl⟩) (by assumption) ?_
      simp only [Act.put, List.setIfInBounds_toArray, List.set_cons_zero, List.set_cons_succ]
      clear hHeld
      refine wpAnyH_ready (rs := [5]) (by kernel_rfl) (by simp) ?_
      refine cons_l rfl (fun K hK => ?_) AllReadyH.nil
      go_simp
      go_at_call 37
      refine (clone_any (some ⟨C0, 0, none⟩) 256 c0 p.2 u0 (HX.out u0 Hb0.out) (by omega)).mono ?_
      rintro e u1 ⟨v, rfl, hO, hb⟩
      obtain ⟨C, cc, rfl, hC, hCl, _⟩ := ownB_slice hO (by rw [Hpl.out]; omega)
      rw [Hpl.out] at hO
      rw [Hpl.out]
      have HO1 := Lib.hid (own_mono hO (show w.heap.size ≤ u0.heap.size from Hb0.out.size))
      have HG1 := Lib.hid (HG0.out.below hb HG0.out.lt)
      have Hb1 := Lib.hid (nu_trans Hb0.out hb)
      have Hu1 := Lib.hid hb
      clear hO hC hCl hb HG0
      go_wp2_with fail
      refine hK.out _ _ HG1.out (fun hHeld => ?_)
      clear hK K
      simp only [Act.put, List.setIfInBounds_toArray, List.set_cons_zero, List.set_cons_succ]
      refine take_l (i := 6) (v := ?_) rfl (by kernel_rfl) (by kernel_rfl) (by kernel_rfl) (fun _ _ _ h => h) (Or.inl ⟨by rfl, ?_⟩) (by assumption) ?_
      case refine_2 => (intro _ _; go_simp; all_goals with_reducible rfl)
      simp only [Act.put, List.setIfInBounds_toArray, List.set_cons_zero, List.set_cons_succ]
      clear hHeld
      refine wpAnyH_ready (rs := [7]) (by kernel_rfl) (by simp) ?_
      refine cons_l rfl (fun K hK => ?_) AllReadyH.nil
      refine step_runW _ (exec_slice1 (.tmp 23) 57 64 iv (.agg #[.int .i64 0, .slice none 0 0]) 2 Try.underlying57 Hiv.out.1 Hiv.out.2.1 Hiv.out.2.2.1 (by omega) (by omega) (.agg #[.int .i64 (p.1 : Int), .slice (some ⟨C, 0, none⟩) 256 cc]) rfl rfl rfl) rfl ?_
      change K _ (u1.alloc (.cells #[.int .i64 (p.1 : Int), .slice (some ⟨C, 0, none⟩) 256 cc] 64))
      have HA := Lib.hid (Blk.made u1 64 #[.int .i64 (p.1 : Int), .slice (some ⟨C, 0, none⟩) 256 cc])
      have hal := nu_alloc (nu_refl u1) (.cells #[.int .i64 (p.1 : Int), .slice (some ⟨C, 0, none⟩) 256 cc] 64)
      have HG2 := Lib.hid (HG1.out.below hal HG1.out.lt)
      have HO2 := Lib.hid (ownB_under HO1.out hal)
      have Hb2 := Lib.hid (nu_trans Hb1.out hal)
      have Hu2 := Lib.hid (nu_trans Hu1.out hal)
      clear HG1 HO1 Hb1 Hu1 hal
      generalize u1.alloc (.cells #[.int .i64 (p.1 : Int), .slice (some ⟨C, 0, none⟩) 256 cc] 64) = u2 at *
      obtain ⟨A, hA⟩ : ∃ A, A = u1.heap.size := ⟨_, rfl⟩
      rw [← hA] at HA
      rw [← hA]
      clear hA
      refine hK.out _ _ HG2.out (fun hHeld => ?_)
      clear hK K hHeld
      simp only [Act.put, List.setIfInBounds_toArray, List.set_cons_zero, List.set_cons_succ]
      refine wpAnyH_ready (rs := [8]) (by kernel_rfl) (by simp) ?_
      refine cons_l rfl (fun K hK => ?_) AllReadyH.nil
      have HR2 := Lib.hid (HRow.out u2 (nu_trans Hbu.out Hu2.out))
      refine step_append_own rfl (.tmp 17) (.tmp 24) 57 rfl w.heap.size 64 iv (.agg #[.int .i64 0, .slice none 0 0]) 2 32 Try.underlying57 Hiv.out.1 Hiv.out.2.1 Hiv.out.2.2.1 Hiv.out.2.2.2 rfl (by omega) v3 (s.wr.take k).length (flatR (s.wr.take k) ws2) rfl HR2.out.1 (some ⟨A, 0, none⟩) 1 1 [.int .i64 (p.1 : Int), .slice (some ⟨C, 0, none⟩) 256 cc] rfl (fun h => by cases h) rfl (fun ad had j u hu => by injection had with had; subst had; rw [Addr.add_lit, Nat.zero_add]; exact HA.out.at j u (by simpa using hu)) (fun u hu => by simp only [List.mem_cons, List.not_mem_nil, or_false] at hu; rcases hu with rfl | rfl <;> rfl) (by rw [htl2.out]; unfold maxLen; omega) (by rw [htl2.out]; omega) Hb2.out.size ?_
      intro v' u3 hown hg hb
      have HF := Lib.hid (show WrRow u3 w.heap.size v' (s.wr.take (k + 1)) (ws2 ++ [.slice (some ⟨C, 0, none⟩) 256 cc]) ∧ Below w.heap.size w u3 from ⟨wrRow_snoc Htk.out HR2.out HO2.out hown hg, Hb2.out.grown hg Hb2.out.size (fun q hq => (HR2.out.1.lt q hq).1)⟩)
      have HG3 := Lib.hid (HG2.out.grown hg (fun e => HRg.out e.symm))
      clear hown hg hb HR2 HO2 HG2 Hb2 HA
      refine hK.out _ _ HG3.out (fun hHeld => ?_)
      clear hK K
      simp only [Act.put, List.setIfInBounds_toArray, List.set_cons_zero, List.set_cons_succ]
      refine take_l (i := 9) (v := ?_) rfl (by kernel_rfl) (by kernel_rfl) (by kernel_rfl) (fun _ _ _ h => h) (Or.inl ⟨by rfl, ?_⟩) (by assumption) ?_
      case refine_2 => (intro _ _; go_simp; all_goals with_reducible rfl)
      simp only [Act.put, List.setIfInBounds_toArray, List.set_cons_zero, List.set_cons_succ]
      refine wpAnyH_done (by kernel_rfl) ?_ _
      clear hHeld
      go_wp2_with fail
      go_roundw
      case rel => first | exact ⟨k + 1, _, _, by omega, by go_num, rfl, HF.out.1, HF.out.2⟩ | ((repeat apply Exists.intro); exact ⟨⟨k + 1, _, _, by omega, by go_num, rfl, HF.out.1, HF.out.2⟩, rfl⟩)
      case measure => simp [intOf]; omega
    · obtain rfl : k = m := by omega
      have hki : ¬ (k : Int) < (k : Int) := by omega
      rw [Hm.out, List.take_length] at hrow
      have HF := Lib.hid hrow
      clear hrow
      go_wp2_with fail
      go_ret
      exact ⟨_, rfl, ⟨ws2, HF.out⟩, hb⟩
end
end Go.Proofs.Ytjmghpoknlffiaa

namespace Go.Proofs.Ytjmghpoknlffiaa
open Go.ChangeShapes Go.WideShapes Go.ChangeAt Go.RowKit
set_option linter.unusedSimpArgs false

def RefAt (w : World) (x : Nat) (st wa : Value) (off : Bool) (ar co : Int) (cp wr : Value) : Prop := Blk w x 61 #[st, wa, .bool off, .int .i64 ar, .int .i64 co, cp, wr]
theorem RefAt.cells {w : World} {x : Nat} {st wa : Value} {off : Bool} {ar co : Int} {cp wr : Value} (h : RefAt w x st wa off ar co cp wr) :
    w.cell? ⟨x, 0, none⟩ = some st ∧ w.cell? ⟨x, 1, none⟩ = some wa ∧ w.cell? ⟨x, 2, none⟩ = some (.bool off) ∧ w.cell? ⟨x, 3, none⟩ = some (.int .i64 ar) ∧ w.cell? ⟨x, 4, none⟩ = some (.int .i64 co) ∧ w.cell? ⟨x, 5, none⟩ = some cp ∧ w.cell? ⟨x, 6, none⟩ = some wr :=
  ⟨h.at 0 _ rfl, h.at 1 _ rfl, h.at 2 _ rfl, h.at 3 _ rfl, h.at 4 _ rfl, h.at 5 _ rfl, h.at 6 _ rfl⟩
/-- A row of byte slices. -/
def ByRow (w : World) (v : Value) (c : List (List Nat)) (es : List Value) : Prop := w.ownsRow 0 22 1 v c.length es ∧ ∀ (j : Nat) (u : Value) (b : List Nat), es[j]? = some u → c[j]? = some b → OwnB w 0 5 u b
theorem ByRow.len {w : World} {v : Value} {c : List (List Nat)} {es : List Value} (h : ByRow w v c es) : es.length = c.length := by rw [h.1.1, Nat.mul_one]
/-- An image: none of its blocks turns. -/
def Img (w : World) (v : Value) (c : List (List Nat)) (Fz : Nat → Prop) : Prop := ∃ es, ByRow w v c es ∧ (∀ k, v.ownBlock = some k → Fz k) ∧ ∀ u ∈ es, ∀ k, u.ownBlock = some k → Fz k
/-- The document's device in the middle of a call. Fz: what never turns. -/
structure XM (F : Nat → Prop) (w0 w : World) (x : Nat) (vs va vp vr : Value) (bs ws rs cv : List Value) (Fz : Nat → Prop) (s : Dv) : Prop where
  dv : RefAt w x vs va s.off s.ar s.co vp vr
  st : ByRow w vs s.st bs
  wa : WrRow w 0 va s.wa ws
  wr : WrRow w 0 vr s.wr rs
  cp : w.ownsRow 0 50 1 vp s.cp.length cv
  ci : ∀ (i : Nat) (v : Value) (c : List (List Nat)), cv[i]? = some v → s.cp[i]? = some c → Img w v c Fz
  z1 : ∀ k, vs.ownBlock = some k → ¬ Fz k
  z2 : ∀ v ∈ bs, ∀ k, v.ownBlock = some k → ¬ Fz k
  z3 : ∀ (i j : Nat) (u v : Value), i ≠ j → bs[i]? = some u → bs[j]? = some v → ∀ k, u.ownBlock = some k → v.ownBlock ≠ some k
  z4 : ∀ k, va.ownBlock = some k → vr.ownBlock ≠ some k
  z5 : ∀ v ∈ ws, ∀ k, v.ownBlock = some k → Fz k
  z6 : ∀ v ∈ rs, ∀ k, v.ownBlock = some k → Fz k
  zb : ∀ k, Fz k → Grown F w0 w k
  f0 : Grown F w0 w x
  f1 : ∀ k, vs.ownBlock = some k → Grown F w0 w k
  f2 : ∀ v ∈ bs, ∀ k, v.ownBlock = some k → Grown F w0 w k
  f3 : ∀ k, va.ownBlock = some k → Grown F w0 w k
  f4 : ∀ k, vr.ownBlock = some k → Grown F w0 w k
  f5 : ∀ k, vp.ownBlock = some k → Grown F w0 w k
  md : Mods F w0 w
def RefRep (w : World) (x : Nat) (s : Dv) (F : Nat → Prop) : Prop := s.Ok ∧ (∀ k, F k → k < w.heap.size) ∧ ∃ (st wa cp wr : Value) (bs ws rs cv : List Value) (Fz : Nat → Prop), XM F w w x st wa cp wr bs ws rs cv Fz s
def RefNext (F : Nat → Prop) (w w' : World) (x : Nat) (s' : Dv) : Prop := RefRep w' x s' (Grown F w w') ∧ Mods F w w'

section
variable {w w' : World} {v : Value} {c : List (List Nat)} {es : List Value} {Fz Fz' : Nat → Prop}
theorem ownB_eq {base : Nat} {e : TypeId} {xs : List Nat} (h : OwnB w base e v xs) (he : ∀ k, v.ownBlock = some k → w'.heap[k]? = w.heap[k]?) : OwnB w' base e v xs := ⟨own_eq h.1 he, h.2⟩
theorem ByRow.eq (h : ByRow w v c es) (h1 : ∀ k, v.ownBlock = some k → w'.heap[k]? = w.heap[k]?) (h2 : ∀ u ∈ es, ∀ k, u.ownBlock = some k → w'.heap[k]? = w.heap[k]?) : ByRow w' v c es :=
  ⟨own_eq h.1 h1, fun j u b hu hb => ownB_eq (h.2 j u b hu hb) (h2 u (List.mem_of_getElem? hu))⟩
theorem ByRow.below (h : ByRow w v c es) (hb : Below w.heap.size w w') : ByRow w' v c es :=
  ⟨own_eq h.1 (fun k hk => hb.block k (h.1.lt k hk).2), fun j u b hu hbb => ownB_under (h.2 j u b hu hbb) hb⟩
theorem Img.below (h : Img w v c Fz) (hb : Below w.heap.size w w') : Img w' v c Fz := by
  obtain ⟨es, h1, h2, h3⟩ := h
  exact ⟨es, h1.below hb, h2, h3⟩
/-- Where a block that is none of the image's turns. -/
theorem Img.off {g : Nat} (h : Img w v c Fz) (hg : w.grownBy w' (some g)) (hz : ¬ Fz g) : Img w' v c Fz := by
  obtain ⟨es, h1, h2, h3⟩ := h
  refine ⟨es, ⟨own_eq h1.1 (fun k hk => hg.block k (h1.1.lt k hk).2 (fun e => ?_)), fun j u b hu hb => ?_⟩, h2, h3⟩
  · injection e with e
    exact hz (e ▸ h2 k hk)
  · have hO := h1.2 j u b hu hb
    refine ownB_eq hO (fun k hk => hg.block k (hO.1.lt k hk).2 (fun e => ?_))
    injection e with e
    exact hz (e ▸ h3 u (List.mem_of_getElem? hu) k hk)
theorem Img.mono (h : Img w v c Fz) (hz : ∀ k, Fz k → Fz' k) : Img w v c Fz' := by
  obtain ⟨es, h1, h2, h3⟩ := h
  exact ⟨es, h1, fun k hk => hz k (h2 k hk), fun u hu k hk => hz k (h3 u hu k hk)⟩
theorem Img.eq (h : Img w v c Fz) (he : ∀ k, Fz k → w'.heap[k]? = w.heap[k]?) : Img w' v c Fz := by
  obtain ⟨es, h1, h2, h3⟩ := h
  exact ⟨es, h1.eq (fun k hk => he k (h2 k hk)) (fun u hu k hk => he k (h3 u hu k hk)), h2, h3⟩
theorem WrRow.eq {base : Nat} {wr : List (Nat × List Nat)} {ws : List Value} (h : WrRow w base v wr ws) (h1 : ∀ k, v.ownBlock = some k → w'.heap[k]? = w.heap[k]?) (h2 : ∀ u ∈ ws, ∀ k, u.ownBlock = some k → w'.heap[k]? = w.heap[k]?) : WrRow w' base v wr ws :=
  ⟨own_eq h.1 h1, h.2.1, fun i u p hu hp => ownB_eq (h.2.2 i u p hu hp) (h2 u (List.mem_of_getElem? hu))⟩
/-- Where only a block of another type has turned. -/
theorem ByRow.keep {row : Option Nat} {t : TypeId} (hr : ∀ k, row = some k → ∃ cs, Blk w k t cs) (hg : w.grownBy w' row) (h : ByRow w v c es) (h1 : 22 ≠ t) (h2 : 5 ≠ t) : ByRow w' v c es :=
  ⟨own_keep hr hg h.1 h1, fun j u b hu hb => ownB_keep hr hg (h.2 j u b hu hb) h2⟩
theorem Img.keep {row : Option Nat} {t : TypeId} (hr : ∀ k, row = some k → ∃ cs, Blk w k t cs) (hg : w.grownBy w' row) (h : Img w v c Fz) (h1 : 22 ≠ t) (h2 : 5 ≠ t) : Img w' v c Fz := by
  obtain ⟨es, h3, h4, h5⟩ := h
  exact ⟨es, ByRow.keep hr hg h3 h1 h2, h4, h5⟩
theorem WrRow.keep {row : Option Nat} {t : TypeId} {base : Nat} {wr : List (Nat × List Nat)} {ws : List Value} (hr : ∀ k, row = some k → ∃ cs, Blk w k t cs) (hg : w.grownBy w' row) (h : WrRow w base v wr ws) (h1 : 64 ≠ t) (h2 : 5 ≠ t) : WrRow w' base v wr ws :=
  ⟨own_keep hr hg h.1 h1, h.2.1, fun i u p hu hp => ownB_keep hr hg (h.2.2 i u p hu hp) h2⟩
end
section
variable {F : Nat → Prop} {w0 w w' : World} {x : Nat} {st wa cp wr : Value} {bs ws rs cv : List Value} {Fz : Nat → Prop} {s : Dv}
theorem XM.below (H : XM F w0 w x st wa cp wr bs ws rs cv Fz s) (hb : Below w.heap.size w w') : XM F w0 w' x st wa cp wr bs ws rs cv Fz s := by
  have gm := grown_mono (F := F) (w0 := w0) hb.size
  exact ⟨Blk.below H.dv hb (Blk.lt H.dv), H.st.below hb, H.wa.below hb, H.wr.below hb, own_eq H.cp (fun k hk => hb.block k (H.cp.lt k hk).2), fun i v c h1 h2 => (H.ci i v c h1 h2).below hb, H.z1, H.z2, H.z3, H.z4, H.z5, H.z6,
    fun k hk => gm k (H.zb k hk), gm _ H.f0, fun k hk => gm k (H.f1 k hk), fun v hv k hk => gm k (H.f2 v hv k hk), fun k hk => gm k (H.f3 k hk), fun k hk => gm k (H.f4 k hk), fun k hk => gm k (H.f5 k hk), H.md.below hb⟩
theorem grown_self {F : Nat → Prop} {w : World} : ∀ k, F k → Grown F w w k := fun _ h => .inl h
theorem XM.next (H : XM F w0 w x st wa cp wr bs ws rs cv Fz s) (hok : s.Ok) (hb : ∀ k, F k → k < w0.heap.size) : RefNext F w0 w x s := by
  refine ⟨⟨hok, fun k hk => ?_, st, wa, cp, wr, bs, ws, rs, cv, Fz, ?_⟩, H.md⟩
  · rcases hk with hk | hk
    · exact Nat.lt_of_lt_of_le (hb k hk) H.md.size
    · exact hk.2
  · exact ⟨H.dv, H.st, H.wa, H.wr, H.cp, H.ci, H.z1, H.z2, H.z3, H.z4, H.z5, H.z6, fun k hk => grown_self k (H.zb k hk), grown_self _ H.f0, fun k hk => grown_self k (H.f1 k hk), fun v hv k hk => grown_self k (H.f2 v hv k hk),
      fun k hk => grown_self k (H.f3 k hk), fun k hk => grown_self k (H.f4 k hk), fun k hk => grown_self k (H.f5 k hk), Mods.refl _ _⟩
/-- Where the blocks of F are as they were. -/
theorem RefRep.agree (h : RefRep w x s F) (hsz : w.heap.size ≤ w'.heap.size) (he : ∀ k, F k → w'.heap[k]? = w.heap[k]?) : RefRep w' x s F := by
  obtain ⟨h1, h2, st, wa, cp, wr, bs, ws, rs, cv, Fz, H⟩ := h
  have gF : ∀ k, Grown F w w k → F k := fun k hk => by
    rcases hk with hk | hk
    · exact hk
    · omega
  have he' : ∀ k, Grown F w w k → w'.heap[k]? = w.heap[k]? := fun k hk => he k (gF k hk)
  refine ⟨h1, fun k hk => Nat.lt_of_lt_of_le (h2 k hk) hsz, st, wa, cp, wr, bs, ws, rs, cv, Fz, ?_⟩
  exact ⟨(he' x H.f0).trans H.dv, H.st.eq (fun k hk => he' k (H.f1 k hk)) (fun u hu k hk => he' k (H.f2 u hu k hk)), H.wa.eq (fun k hk => he' k (H.f3 k hk)) (fun u hu k hk => he' k (H.zb k (H.z5 u hu k hk))),
    H.wr.eq (fun k hk => he' k (H.f4 k hk)) (fun u hu k hk => he' k (H.zb k (H.z6 u hu k hk))), own_eq H.cp (fun k hk => he' k (H.f5 k hk)), fun i v c k1 k2 => (H.ci i v c k1 k2).eq (fun k hk => he' k (H.zb k hk)),
    H.z1, H.z2, H.z3, H.z4, H.z5, H.z6, fun k hk => grown_self k (gF k (H.zb k hk)), grown_self _ (gF _ H.f0), fun k hk => grown_self k (gF k (H.f1 k hk)), fun v hv k hk => grown_self k (gF k (H.f2 v hv k hk)),
    fun k hk => grown_self k (gF k (H.f3 k hk)), fun k hk => grown_self k (gF k (H.f4 k hk)), fun k hk => grown_self k (gF k (H.f5 k hk)), Mods.refl _ _⟩
theorem RefRep.below (h : RefRep w x s F) (hb : Below w.heap.size w w') : RefRep w' x s F := h.agree hb.size (fun k hk => hb.block k (h.2.1 k hk))
theorem RefRep.mods {G : Nat → Prop} (h : RefRep w x s F) (hm : Mods G w w') (hd : ∀ k, F k → ¬ G k) : RefRep w' x s F := h.agree hm.size (fun k hk => hm.block k (h.2.1 k hk) (hd k hk))
theorem RefRep.mono {F' : Nat → Prop} (h : RefRep w x s F) (hF : ∀ k, F k → F' k) (hb : ∀ k, F' k → k < w.heap.size) : RefRep w x s F' := by
  obtain ⟨h1, _, st, wa, cp, wr, bs, ws, rs, cv, Fz, H⟩ := h
  have g : ∀ k, Grown F w w k → Grown F' w w k := fun k hk => by
    rcases hk with hk | hk
    · exact .inl (hF k hk)
    · exact .inr hk
  exact ⟨h1, hb, st, wa, cp, wr, bs, ws, rs, cv, Fz, H.dv, H.st, H.wa, H.wr, H.cp, H.ci, H.z1, H.z2, H.z3, H.z4, H.z5, H.z6, fun k hk => g k (H.zb k hk), g _ H.f0, fun k hk => g k (H.f1 k hk), fun v hv k hk => g k (H.f2 v hv k hk),
    fun k hk => g k (H.f3 k hk), fun k hk => g k (H.f4 k hk), fun k hk => g k (H.f5 k hk), Mods.refl _ _⟩
theorem RefNext.of_below (h : RefRep w x s F) (hb : Below w.heap.size w w') : RefNext F w w' x s :=
  ⟨(h.below hb).mono (fun k hk => .inl hk) (fun k hk => by
    rcases hk with hk | hk
    · exact Nat.lt_of_lt_of_le (h.2.1 k hk) hb.size
    · omega), (Mods.refl F w).below hb⟩
theorem RefNext.refl (h : RefRep w x s F) : RefNext F w w x s := RefNext.of_below h (nu_refl w)
theorem RefNext.trans {a b : World} {s1 s2 : Dv} (h : RefNext F w a x s1) (h' : RefNext (Grown F w a) a b x s2) : RefNext F w b x s2 :=
  ⟨h'.1.mono (fun k hk => by
    rcases hk with (hk | hk) | hk
    · exact .inl hk
    · exact .inr ⟨hk.1, Nat.lt_of_lt_of_le hk.2 h'.2.size⟩
    · exact .inr ⟨Nat.le_trans h.2.size hk.1, hk.2⟩) (fun k hk => by
    rcases hk with hk | hk
    · exact h'.1.2.1 k (.inl (.inl hk))
    · omega), h.2.trans h'.2 (fun k hk => by
    rcases hk with hk | hk
    · exact .inl hk
    · exact .inr hk.1)⟩
theorem RefNext.then_below {a b : World} (h : RefNext F w a x s) (hb : Below a.heap.size a b) : RefNext F w b x s := h.trans (RefNext.of_below h.1 hb)
/-- The device's own block has turned. -/
theorem XM.turn (H : XM F w0 w x st wa cp wr bs ws rs cv Fz s) {off : Bool} {ar co : Int} (hg : w.grownBy w' (some x)) (h' : RefAt w' x st wa off ar co cp wr) : XM F w0 w' x st wa cp wr bs ws rs cv Fz { s with off := off, ar := ar, co := co } := by
  have hr : ∀ k, some x = some k → ∃ c, Blk w k 61 c := fun k e => by injection e with e; subst e; exact ⟨_, H.dv⟩
  have gm := grown_mono (F := F) (w0 := w0) hg.size
  exact ⟨h', ByRow.keep hr hg H.st (by decide) (by decide), WrRow.keep hr hg H.wa (by decide) (by decide), WrRow.keep hr hg H.wr (by decide) (by decide), own_keep hr hg H.cp (by decide), fun i v c h1 h2 => Img.keep hr hg (H.ci i v c h1 h2) (by decide) (by decide),
    H.z1, H.z2, H.z3, H.z4, H.z5, H.z6, fun k hk => gm k (H.zb k hk), gm _ H.f0, fun k hk => gm k (H.f1 k hk), fun v hv k hk => gm k (H.f2 v hv k hk), fun k hk => gm k (H.f3 k hk), fun k hk => gm k (H.f4 k hk), fun k hk => gm k (H.f5 k hk),
    H.md.grown hg (fun k hk => by injection hk with hk; rw [← hk]; exact H.f0.elim .inl (fun h => .inr h.1))⟩
/-- One block more that never turns. -/
theorem XM.addFz (H : XM F w0 w x st wa cp wr bs ws rs cv Fz s) (P : Nat → Prop) (h1 : ∀ k, P k → Grown F w0 w k ∧ st.ownBlock ≠ some k ∧ ∀ v ∈ bs, v.ownBlock ≠ some k) : XM F w0 w x st wa cp wr bs ws rs cv (fun k => Fz k ∨ P k) s :=
  ⟨H.dv, H.st, H.wa, H.wr, H.cp, fun i v c k1 k2 => (H.ci i v c k1 k2).mono (fun k hk => .inl hk), fun k hk e => by
    rcases e with e | e
    · exact H.z1 k hk e
    · exact (h1 k e).2.1 hk, fun v hv k hk e => by
    rcases e with e | e
    · exact H.z2 v hv k hk e
    · exact (h1 k e).2.2 v hv hk, H.z3, H.z4, fun v hv k hk => .inl (H.z5 v hv k hk), fun v hv k hk => .inl (H.z6 v hv k hk), fun k hk => by
    rcases hk with hk | hk
    · exact H.zb k hk
    · exact (h1 k hk).1, H.f0, H.f1, H.f2, H.f3, H.f4, H.f5, H.md⟩
theorem XM.row (H : XM F w0 w x st wa cp wr bs ws rs cv Fz s) {k : Nat} (h : Grown F w0 w k) : F k ∨ w0.heap.size ≤ k := h.elim .inl (fun h => .inr h.1)
/-- Another row is what waits; the rows are as they are. -/
theorem XM.setWait (H : XM F w0 w x st wa cp wr bs ws rs cv Fz s) {wa' : Value} {wl : List (Nat × List Nat)} {ws' : List Value} (hrow : WrRow w 0 wa' wl ws') (hf : ∀ k, wa'.ownBlock = some k → Grown F w0 w k) (hne : ∀ k, wa'.ownBlock = some k → wr.ownBlock ≠ some k) (hz : ∀ v ∈ ws', ∀ k, v.ownBlock = some k → Fz k) :
    XM F w0 (w.setCell ⟨x, 1, none⟩ wa') x st wa' cp wr bs ws' rs cv Fz { s with wa := wl } := by
  have hg : w.grownBy (w.setCell ⟨x, 1, none⟩ wa') (some x) := gb_set (gb_refl w (some x)) (p := ⟨x, 1, none⟩) (.inl rfl) wa'
  have hr : ∀ k, some x = some k → ∃ c, Blk w k 61 c := fun k e => by injection e with e; subst e; exact ⟨_, H.dv⟩
  have gm := grown_mono (F := F) (w0 := w0) hg.size
  exact ⟨Blk.put H.dv 1 wa', ByRow.keep hr hg H.st (by decide) (by decide), WrRow.keep hr hg hrow (by decide) (by decide), WrRow.keep hr hg H.wr (by decide) (by decide), own_keep hr hg H.cp (by decide), fun i v c h1 h2 => Img.keep hr hg (H.ci i v c h1 h2) (by decide) (by decide),
    H.z1, H.z2, H.z3, hne, hz, H.z6, fun k hk => gm k (H.zb k hk), gm _ H.f0, fun k hk => gm k (H.f1 k hk), fun v hv k hk => gm k (H.f2 v hv k hk), fun k hk => gm k (hf k hk), fun k hk => gm k (H.f4 k hk), fun k hk => gm k (H.f5 k hk),
    H.md.grown hg (fun k hk => by injection hk with hk; rw [← hk]; exact H.row H.f0)⟩
/-- The row of what waits is longer. -/
theorem XM.moreWait (H : XM F w0 w x st wa cp wr bs ws rs cv Fz s) {wa' : Value} {wl : List (Nat × List Nat)} {ws' : List Value} (hrow : WrRow w' 0 wa' wl ws') (hg : w.grownBy w' wa.ownBlock) (hb : wa'.ownBlock = wa.ownBlock ∨ wa'.ownBlock = some w.heap.size) (hz : ∀ v ∈ ws', ∀ k, v.ownBlock = some k → Fz k) :
    XM F w0 (w'.setCell ⟨x, 1, none⟩ wa') x st wa' cp wr bs ws' rs cv Fz { s with wa := wl } ∧ w'.cell? ⟨x, 1, none⟩ = some wa ∧ w'.frozen? ⟨x, 1, none⟩ = false := by
  have hr := own_typed H.wa.1
  have hd' : RefAt w' x st wa s.off s.ar s.co cp wr := blk_keep hr hg H.dv (by decide)
  have hg2 : w'.grownBy (w'.setCell ⟨x, 1, none⟩ wa') (some x) := gb_set (gb_refl w' (some x)) (p := ⟨x, 1, none⟩) (.inl rfl) wa'
  have hr2 : ∀ k, some x = some k → ∃ c, Blk w' k 61 c := fun k e => by injection e with e; subst e; exact ⟨_, hd'⟩
  have gm := grown_mono (F := F) (w0 := w0) (Nat.le_trans hg.size hg2.size)
  have hwr : WrRow w' 0 wr s.wr rs := ⟨own_eq H.wr.1 (fun k hk => hg.block k (H.wr.1.lt k hk).2 (fun e => H.z4 k e.symm hk)), H.wr.2.1, fun i u p h1 h2 => ownB_keep hr hg (H.wr.2.2 i u p h1 h2) (by decide)⟩
  have hnew : ∀ k, wa'.ownBlock = some k → (wa.ownBlock = some k ∨ k = w.heap.size) ∧ k < w'.heap.size := fun k hk => ⟨by
    rcases hb with hb | hb
    · exact .inl (hb ▸ hk)
    · rw [hb] at hk; injection hk with hk; exact .inr hk.symm, (hrow.1.lt k hk).2⟩
  refine ⟨⟨Blk.put hd' 1 wa', ByRow.keep hr2 hg2 (ByRow.keep hr hg H.st (by decide) (by decide)) (by decide) (by decide), WrRow.keep hr2 hg2 hrow (by decide) (by decide), WrRow.keep hr2 hg2 hwr (by decide) (by decide), own_keep hr2 hg2 (own_keep hr hg H.cp (by decide)) (by decide),
    fun i v c h1 h2 => Img.keep hr2 hg2 (Img.keep hr hg (H.ci i v c h1 h2) (by decide) (by decide)) (by decide) (by decide), H.z1, H.z2, H.z3, fun k hk hk2 => ?_, hz, H.z6, fun k hk => gm k (H.zb k hk), gm _ H.f0, fun k hk => gm k (H.f1 k hk), fun v hv k hk => gm k (H.f2 v hv k hk), fun k hk => ?_, fun k hk => gm k (H.f4 k hk), fun k hk => gm k (H.f5 k hk),
    (H.md.grown hg (fun k hk => H.row (H.f3 k hk))).grown hg2 (fun k hk => by injection hk with hk; rw [← hk]; exact H.row H.f0)⟩, (RefAt.cells hd').2.1, Blk.free hd' 1⟩
  · rcases (hnew k hk).1 with h | h
    · exact H.z4 k h hk2
    · have := (H.wr.1.lt k hk2).2; omega
  · rcases (hnew k hk).1 with h | h
    · exact gm k (H.f3 k h)
    · exact .inr ⟨by rw [h]; exact H.md.size, Nat.lt_of_lt_of_le (hnew k hk).2 hg2.size⟩
/-- The row of all writes is longer. -/
theorem XM.moreWrit (H : XM F w0 w x st wa cp wr bs ws rs cv Fz s) {wr' : Value} {wl : List (Nat × List Nat)} {rs' : List Value} (hrow : WrRow w' 0 wr' wl rs') (hg : w.grownBy w' wr.ownBlock) (hb : wr'.ownBlock = wr.ownBlock ∨ wr'.ownBlock = some w.heap.size) (hz : ∀ v ∈ rs', ∀ k, v.ownBlock = some k → Fz k) :
    XM F w0 (w'.setCell ⟨x, 6, none⟩ wr') x st wa cp wr' bs ws rs' cv Fz { s with wr := wl } ∧ w'.cell? ⟨x, 6, none⟩ = some wr ∧ w'.frozen? ⟨x, 6, none⟩ = false := by
  have hr := own_typed H.wr.1
  have hd' : RefAt w' x st wa s.off s.ar s.co cp wr := blk_keep hr hg H.dv (by decide)
  have hg2 : w'.grownBy (w'.setCell ⟨x, 6, none⟩ wr') (some x) := gb_set (gb_refl w' (some x)) (p := ⟨x, 6, none⟩) (.inl rfl) wr'
  have hr2 : ∀ k, some x = some k → ∃ c, Blk w' k 61 c := fun k e => by injection e with e; subst e; exact ⟨_, hd'⟩
  have gm := grown_mono (F := F) (w0 := w0) (Nat.le_trans hg.size hg2.size)
  have hwa : WrRow w' 0 wa s.wa ws := ⟨own_eq H.wa.1 (fun k hk => hg.block k (H.wa.1.lt k hk).2 (fun e => H.z4 k hk e.symm)), H.wa.2.1, fun i u p h1 h2 => ownB_keep hr hg (H.wa.2.2 i u p h1 h2) (by decide)⟩
  have hnew : ∀ k, wr'.ownBlock = some k → (wr.ownBlock = some k ∨ k = w.heap.size) ∧ k < w'.heap.size := fun k hk => ⟨by
    rcases hb with hb | hb
    · exact .inl (hb ▸ hk)
    · rw [hb] at hk; injection hk with hk; exact .inr hk.symm, (hrow.1.lt k hk).2⟩
  refine ⟨⟨Blk.put hd' 6 wr', ByRow.keep hr2 hg2 (ByRow.keep hr hg H.st (by decide) (by decide)) (by decide) (by decide), WrRow.keep hr2 hg2 hwa (by decide) (by decide), WrRow.keep hr2 hg2 hrow (by decide) (by decide), own_keep hr2 hg2 (own_keep hr hg H.cp (by decide)) (by decide),
    fun i v c h1 h2 => Img.keep hr2 hg2 (Img.keep hr hg (H.ci i v c h1 h2) (by decide) (by decide)) (by decide) (by decide), H.z1, H.z2, H.z3, fun k hk hk2 => ?_, H.z5, hz, fun k hk => gm k (H.zb k hk), gm _ H.f0, fun k hk => gm k (H.f1 k hk), fun v hv k hk => gm k (H.f2 v hv k hk), fun k hk => gm k (H.f3 k hk), fun k hk => ?_, fun k hk => gm k (H.f5 k hk),
    (H.md.grown hg (fun k hk => H.row (H.f4 k hk))).grown hg2 (fun k hk => by injection hk with hk; rw [← hk]; exact H.row H.f0)⟩, (RefAt.cells hd').2.2.2.2.2.2, Blk.free hd' 6⟩
  · rcases (hnew k hk2).1 with h | h
    · exact H.z4 k hk h
    · have := (H.wa.1.lt k hk).2; omega
  · rcases (hnew k hk).1 with h | h
    · exact gm k (H.f4 k h)
    · exact .inr ⟨by rw [h]; exact H.md.size, Nat.lt_of_lt_of_le (hnew k hk).2 hg2.size⟩
/-- The row of the images is longer. -/
theorem XM.moreCp (H : XM F w0 w x st wa cp wr bs ws rs cv Fz s) {cp' v : Value} {c : List (List Nat)} (hown : w'.ownsRow 0 50 1 cp' (s.cp.length + 1) (cv ++ [v])) (hi : Img w v c Fz) (hg : w.grownBy w' cp.ownBlock) (hb : cp'.ownBlock = cp.ownBlock ∨ cp'.ownBlock = some w.heap.size) :
    XM F w0 (w'.setCell ⟨x, 5, none⟩ cp') x st wa cp' wr bs ws rs (cv ++ [v]) Fz { s with cp := s.cp ++ [c] } ∧ w'.cell? ⟨x, 5, none⟩ = some cp ∧ w'.frozen? ⟨x, 5, none⟩ = false := by
  have hr := own_typed H.cp
  have hd' : RefAt w' x st wa s.off s.ar s.co cp wr := blk_keep hr hg H.dv (by decide)
  have hg2 : w'.grownBy (w'.setCell ⟨x, 5, none⟩ cp') (some x) := gb_set (gb_refl w' (some x)) (p := ⟨x, 5, none⟩) (.inl rfl) cp'
  have hr2 : ∀ k, some x = some k → ∃ c, Blk w' k 61 c := fun k e => by injection e with e; subst e; exact ⟨_, hd'⟩
  have gm := grown_mono (F := F) (w0 := w0) (Nat.le_trans hg.size hg2.size)
  have hcl : cv.length = s.cp.length := by rw [H.cp.1, Nat.mul_one]
  refine ⟨⟨Blk.put hd' 5 cp', ByRow.keep hr2 hg2 (ByRow.keep hr hg H.st (by decide) (by decide)) (by decide) (by decide), WrRow.keep hr2 hg2 (WrRow.keep hr hg H.wa (by decide) (by decide)) (by decide) (by decide), WrRow.keep hr2 hg2 (WrRow.keep hr hg H.wr (by decide) (by decide)) (by decide) (by decide),
    by rw [List.length_append]; exact own_keep hr2 hg2 hown (by decide), fun i u e h1 h2 => ?_, H.z1, H.z2, H.z3, H.z4, H.z5, H.z6, fun k hk => gm k (H.zb k hk), gm _ H.f0, fun k hk => gm k (H.f1 k hk), fun v hv k hk => gm k (H.f2 v hv k hk), fun k hk => gm k (H.f3 k hk), fun k hk => gm k (H.f4 k hk), fun k hk => ?_,
    (H.md.grown hg (fun k hk => H.row (H.f5 k hk))).grown hg2 (fun k hk => by injection hk with hk; rw [← hk]; exact H.row H.f0)⟩, (RefAt.cells hd').2.2.2.2.2.1, Blk.free hd' 5⟩
  · refine Img.keep hr2 hg2 (Img.keep hr hg ?_ (by decide) (by decide)) (by decide) (by decide)
    by_cases hl : i < cv.length
    · rw [List.getElem?_append_left hl] at h1
      rw [List.getElem?_append_left (by omega)] at h2
      exact H.ci i u e h1 h2
    · rw [List.getElem?_append_right (by omega)] at h1
      rw [List.getElem?_append_right (by omega), ← hcl] at h2
      obtain ⟨j, hj⟩ : ∃ j, j = i - cv.length := ⟨_, rfl⟩
      rw [← hj] at h1 h2
      cases j with
      | zero =>
        injection h1 with h1
        injection h2 with h2
        subst h1
        subst h2
        exact hi
      | succ j => cases h1
  · rcases hb with hb | hb
    · exact gm k (H.f5 k (hb ▸ hk))
    · have hl := (hown.lt k hk).2
      rw [hb] at hk
      injection hk with hk
      exact .inr ⟨by rw [← hk]; exact H.md.size, Nat.lt_of_lt_of_le hl hg2.size⟩
/-- A stored block is another slice. -/
theorem XM.setSt (H : XM F w0 w x st wa cp wr bs ws rs cv Fz s) {i g c : Nat} {v : Value} {b : List Nat} (hi : i < s.st.length) (hst : st = .slice (some ⟨g, 0, none⟩) s.st.length c) (hv : OwnB w 0 5 v b) (hz : ∀ k, v.ownBlock = some k → ¬ Fz k) (hn : ∀ k, v.ownBlock = some k → ∀ u ∈ bs, u.ownBlock ≠ some k) (hF : ∀ k, v.ownBlock = some k → Grown F w0 w k) :
    XM F w0 (w.setCell ⟨g, i, none⟩ v) x st wa cp wr (bs.set i v) ws rs cv Fz { s with st := s.st.set i b } := by
  subst hst
  have hown := (H.st.1.stored i v).1
  have hg : w.grownBy (w.setCell ⟨g, i, none⟩ v) (some g) := (H.st.1.stored i v).2
  have hr : ∀ k, some g = some k → ∃ c, Blk w k 22 c := fun k e => own_typed H.st.1 k (by injection e with e; rw [← e]; rfl)
  have gm := grown_mono (F := F) (w0 := w0) hg.size
  refine ⟨blk_keep hr hg H.dv (by decide), ⟨by rw [List.length_set]; exact hown, fun j u e h1 h2 => ?_⟩, WrRow.keep hr hg H.wa (by decide) (by decide), WrRow.keep hr hg H.wr (by decide) (by decide), own_keep hr hg H.cp (by decide), fun j u e h1 h2 => (H.ci j u e h1 h2).off hg (H.z1 g rfl), H.z1, fun u hu k hk => ?_, fun j1 j2 u1 u2 hne h1 h2 k hk => ?_, H.z4, H.z5, H.z6,
    fun k hk => gm k (H.zb k hk), gm _ H.f0, fun k hk => gm k (H.f1 k hk), fun u hu k hk => ?_, fun k hk => gm k (H.f3 k hk), fun k hk => gm k (H.f4 k hk), fun k hk => gm k (H.f5 k hk), H.md.grown hg (fun k hk => by injection hk with hk; rw [← hk]; exact H.row (H.f1 g rfl))⟩
  · by_cases hij : i = j
    · subst hij
      rw [List.getElem?_set_self (by rw [H.st.len]; exact hi)] at h1
      rw [List.getElem?_set_self hi] at h2
      injection h1 with h1
      injection h2 with h2
      subst h1
      subst h2
      exact ownB_keep hr hg hv (by decide)
    · rw [List.getElem?_set_ne hij] at h1 h2
      exact ownB_keep hr hg (H.st.2 j u e h1 h2) (by decide)
  · rcases List.mem_or_eq_of_mem_set hu with hu | hu
    · exact H.z2 u hu k hk
    · exact hz k (hu ▸ hk)
  · by_cases e1 : i = j1
    · subst e1
      rw [List.getElem?_set_self (by rw [H.st.len]; exact hi)] at h1
      rw [List.getElem?_set_ne hne] at h2
      injection h1 with h1
      subst h1
      exact hn k hk u2 (List.mem_of_getElem? h2)
    · rw [List.getElem?_set_ne e1] at h1
      by_cases e2 : i = j2
      · subst e2
        rw [List.getElem?_set_self (by rw [H.st.len]; exact hi)] at h2
        injection h2 with h2
        subst h2
        exact fun hk2 => hn k hk2 u1 (List.mem_of_getElem? h1) hk
      · rw [List.getElem?_set_ne e2] at h2
        exact H.z3 j1 j2 u1 u2 hne h1 h2 k hk
  · rcases List.mem_or_eq_of_mem_set hu with hu | hu
    · exact gm k (H.f2 u hu k hk)
    · exact gm k (hF k (hu ▸ hk))
end
end Go.Proofs.Ytjmghpoknlffiaa

namespace Go.Proofs.Ytjmghpoknlffiaa
open Go.ChangeShapes Go.WideShapes Go.ChangeAt Go.RowKit

theorem take_next {xs ys : List Nat} {k x : Nat} (hx : xs[k]? = some x) (hy : ys[k]? = some x) (h : xs.take k = ys.take k) : xs.take (k + 1) = ys.take (k + 1) := by
  rw [List.take_add_one, List.take_add_one, h, hx, hy]
theorem take_snoc_map {xs : List Nat} {k x : Nat} (hx : xs[k]? = some x) : (xs.take (k + 1)).map vb = (xs.take k).map vb ++ [vb x] := by
  rw [List.take_add_one, hx, List.map_append]
  rfl

set_option maxRecDepth 100000 in
set_option maxHeartbeats 1000000 in
theorem same_len (a b : Option Addr) (la ca cb : Nat) (xs ys : List Nat) (w : World) (ha : IntsIn w .u8 a la xs) (hb : IntsIn w .u8 b la ys) (hla : la ≤ 9223372036854775807) :
    Calls Try.prog 19 #[.slice a la ca, .slice b la cb] w fun e w' => e = .returned (.bool (decide (xs = ys))) ∧ ∃ n, w' = w.drewN n := by
  go_enter Try.func19, Try.ntmps19
  go_wp2_with fail
  go_loopw [5] (fun i wr => ∃ k : Nat, k ≤ la ∧ i = .int .i64 k ∧ xs.take k = ys.take k ∧ ∃ n, wr = w.drewN n) (fun i _ => la - (intOf i).toNat)
  case atStart => exact ⟨0, by omega, rfl, rfl, 0, rfl⟩
  case round =>
    obtain ⟨k, hk, rfl, ht, n, rfl⟩ := hrel
    have Ht := Lib.hid ht
    clear ht
    by_cases hlt : k < la
    · obtain ⟨b1, o1, x, rfl, hb1, hx, hwx, hcx⟩ := ha.elem k hlt
      obtain ⟨b2, o2, y, rfl, hb2, hy, hwy, hcy⟩ := hb.elem k hlt
      have Hx := Lib.hid hx
      have Hy := Lib.hid hy
      clear hx hy hwx hwy
      have hi : (k : Int) < (la : Int) := by omega
      by_cases hxy : x = y
      · subst hxy
        go_wp2_with fail
        go_quiet (fail)
        go_wp2_with fail
        go_roundw
        case rel => exact ⟨k + 1, by omega, by go_num, take_next Hx.out Hy.out Ht.out, _, rfl⟩
        case measure => simp [intOf]; omega
      · have t : ((x : Int) != (y : Int)) = true := by rw [bne_iff_ne]; omega
        have Hne := Lib.hid (show xs ≠ ys from fun e => hxy (by have h := Hx.out; rw [e, Hy.out] at h; injection h with h; exact h.symm))
        clear hxy
        go_wp2_with fail
        go_quiet (fail)
        go_wp2_with fail
        go_ret
        exact ⟨by rw [decide_eq_false Hne.out]; rfl, _, World.drewN_drewN _ _ _⟩
    · obtain rfl : k = la := by omega
      have He := Lib.hid (show xs = ys by
        have h := Ht.out
        rw [List.take_of_length_le (by rw [ha.1]; exact Nat.le_refl _), List.take_of_length_le (by rw [hb.1]; exact Nat.le_refl _)] at h
        exact h)
      go_wp2_with fail
      go_ret
      exact ⟨by rw [decide_eq_true He.out]; rfl, _, rfl⟩

theorem same_any (a b : Option Addr) (la lb ca cb : Nat) (xs ys : List Nat) (w : World) (ha : IntsIn w .u8 a la xs) (hb : IntsIn w .u8 b lb ys) (hla : la ≤ 9223372036854775807) (hlb : lb ≤ 9223372036854775807) :
    Calls Try.prog 19 #[.slice a la ca, .slice b lb cb] w fun e w' => e = .returned (.bool (decide (xs = ys))) ∧ ∃ n, w' = w.drewN n := by
  by_cases hl : la = lb
  · subst hl
    exact same_len a b la ca cb xs ys w ha hb hla
  · have Hne := Lib.hid (show xs ≠ ys from fun e => hl (by rw [← ha.1, ← hb.1, e]))
    have t : ((la : Int) != (lb : Int)) = true := by rw [bne_iff_ne]; omega
    clear hl
    go_enter Try.func19, Try.ntmps19
    go_wp2_with fail
    go_ret
    exact ⟨by rw [decide_eq_false Hne.out]; rfl, 0, rfl⟩

set_option maxRecDepth 100000 in
set_option maxHeartbeats 1000000 in
theorem copy_any (a : Option Addr) (len cap : Nat) (xs : List Nat) (w : World) (hx : BytesIn w a len cap xs) (hlen : len ≤ 140737488355320) :
    Calls Try.prog 42 #[.slice a len cap] w fun e w' => ∃ v, e = .returned v ∧ OwnB w' w.heap.size 5 v xs ∧ Below w.heap.size w w' := by
  obtain ⟨i0, hi, hz0, hz1, hz2⟩ := info_parts info_u8
  obtain ⟨Z, hZ, hmk⟩ := mk_bytes 0 len 0 (len : Int) rfl rfl (by omega) (by omega)
  have hxl := Lib.hid hx.1.1
  have HZ := Lib.hid hZ
  have hwf : ∀ x ∈ xs, x < 256 := fun x h => wf_u8_lt (hx.1.2.1 x h)
  have Hwf := Lib.hid hwf
  clear hZ hwf
  go_enter Try.func42, Try.ntmps42
  go_wp2_with fail
  go_loopw [3, 4] (fun v i wr => ∃ k : Nat, k ≤ len ∧ i = .int .i64 k ∧ wr.ownsRow w.heap.size 5 1 v k ((xs.take k).map vb) ∧ Below w.heap.size w wr) (fun _ i _ => len - (intOf i).toNat)
  case atStart => exact ⟨0, by omega, rfl, by simpa using World.ownsRow_made w Z.toArray len (Nat.le_refl _) (by unfold maxLen; omega) (by simpa using HZ.out), (Below.refl _ _).alloc (Nat.le_refl _) _⟩
  case round =>
    obtain ⟨k, hk, rfl, hown, hb⟩ := hrel
    have hsz := hb.size
    by_cases hlt : k < len
    · obtain ⟨b1, o1, x, rfl, hb1, hxx, hwx, hcx⟩ := hx.1.elem k hlt
      have hc1 : wr.cell? ⟨b1, o1 + k, none⟩ = some (.int .u8 (x : Int)) := (hb.cell hb1).trans hcx
      have Hx := Lib.hid hxx
      have hi0 : (k : Int) < (len : Int) := by omega
      clear hxx hwx hcx
      go_wp2_with (at_builtin; refine wpList_append_own _ rfl (.tmp 14) (.tmp 19) 22 rfl w.heap.size 5 i0 (.int .u8 0) 1 1 Try.underlying22 hi hz0 hz1 hz2 rfl (by decide) _ _ _ rfl (hown.alloc _) ⟨wr.heap.size, 0, none⟩ 1 1 [.int .u8 (x : Int)] rfl rfl ?c1 ?c2 ?c3 ?c4 ?c5 ?_)
      case c1 => exact cell_one_new _ _ _
      case c2 => intro u hu; obtain rfl := List.mem_singleton.1 hu; rfl
      case c3 => unfold maxLen; omega
      case c4 => omega
      case c5 => simp; omega
      intro v' w3 hown3 hg3 _
      have hb3 := (hb.alloc hb.size (.cells #[.int .u8 (x : Int)] 5)).grown hg3 (by simp; omega) (fun k hk => (hown.lt k hk).1)
      have Hown3 := Lib.hid (show w3.ownsRow w.heap.size 5 1 v' (k + 1) ((xs.take (k + 1)).map vb) by rw [take_snoc_map Hx.out, List.map_take]; exact hown3)
      clear hown3 hown hg3
      go_wp2_with fail
      go_roundw
      case rel => exact ⟨k + 1, by omega, by go_num, Hown3.out, hb3⟩
      case measure => simp [intOf]; omega
    · obtain rfl : k = len := by omega
      have Hown := Lib.hid (show OwnB wr w.heap.size 5 _ xs from ⟨by rw [List.take_of_length_le (by rw [hxl.out]; exact Nat.le_refl _)] at hown; rw [hxl.out]; exact hown, Hwf.out⟩)
      go_wp2_with fail
      go_ret
      exact ⟨_, rfl, Hown.out, hb⟩

/-- Lent bytes, with the room behind them. -/
def lentCells (xs : List Nat) : Array Value := ((xs ++ [201, 202, 203]).map vb).toArray

end Go.Proofs.Ytjmghpoknlffiaa

namespace Go.Proofs.Ytjmghpoknlffiaa
open Go.ChangeShapes Go.WideShapes Go.ChangeAt Go.RowKit
set_option linter.unusedSimpArgs false

section
variable {w : World} {v : Value} {c : List (List Nat)} {es : List Value}
/-- The slots of a row of blocks. -/
theorem ByRow.slot (h : ByRow w v c es) (hp : 0 < c.length) (hc : ∀ b ∈ c, Bl b) : ∃ g cap, v = .slice (some ⟨g, 0, none⟩) c.length cap ∧ ∀ (j : Nat) (b : List Nat), c[j]? = some b →
    ∃ C cc, w.cell? ⟨g, j, none⟩ = some (.slice (some ⟨C, 0, none⟩) 256 cc) ∧ OwnB w 0 5 (.slice (some ⟨C, 0, none⟩) 256 cc) b ∧ es[j]? = some (.slice (some ⟨C, 0, none⟩) 256 cc) := by
  obtain ⟨g, cap, rfl⟩ : ∃ g cap, v = .slice (some ⟨g, 0, none⟩) c.length cap := by
    rcases h.1.2 with ⟨_, h0⟩ | ⟨g, cap, cur, h1, _⟩
    · omega
    · exact ⟨g, cap, h1⟩
  refine ⟨g, cap, rfl, fun j b hb => ?_⟩
  have hl := (List.getElem?_eq_some_iff.1 hb).1
  obtain ⟨u, hu⟩ : ∃ u, es[j]? = some u := ⟨_, List.getElem?_eq_getElem (by rw [h.len]; exact hl)⟩
  have hO := h.2 j u b hu hb
  have hbb := hc b (List.mem_of_getElem? hb)
  obtain ⟨C, cc, rfl, _, _, _⟩ := ownB_slice hO (by rw [hbb.1]; omega)
  rw [hbb.1] at hO hu
  refine ⟨C, cc, ?_, hO, hu⟩
  rw [h.1.cellAt j (by omega)]
  exact hu
/-- The cells of a row of writes. -/
theorem WrRow.slot {base : Nat} {wr : List (Nat × List Nat)} {ws : List Value} (h : WrRow w base v wr ws) (hp : 0 < wr.length) (hc : ∀ p ∈ wr, Bl p.2) : ∃ g cap, v = .slice (some ⟨g, 0, none⟩) wr.length cap ∧ ∀ (j : Nat) (p : Nat × List Nat), wr[j]? = some p →
    ∃ C cc, w.cell? ⟨g, j * 2, none⟩ = some (.int .i64 (p.1 : Int)) ∧ w.cell? ⟨g, j * 2 + 1, none⟩ = some (.slice (some ⟨C, 0, none⟩) 256 cc) ∧ OwnB w base 5 (.slice (some ⟨C, 0, none⟩) 256 cc) p.2 ∧ ws[j]? = some (.slice (some ⟨C, 0, none⟩) 256 cc) := by
  obtain ⟨g, cap, rfl⟩ : ∃ g cap, v = .slice (some ⟨g, 0, none⟩) wr.length cap := by
    rcases h.1.2 with ⟨_, h0⟩ | ⟨g, cap, cur, h1, _⟩
    · omega
    · exact ⟨g, cap, h1⟩
  refine ⟨g, cap, rfl, fun j p hq => ?_⟩
  have hql := (List.getElem?_eq_some_iff.1 hq).1
  obtain ⟨u, hu⟩ : ∃ u, ws[j]? = some u := ⟨_, List.getElem?_eq_getElem (by rw [h.2.1]; exact hql)⟩
  have hO := h.2.2 j u p hu hq
  have hb := hc p (List.mem_of_getElem? hq)
  obtain ⟨C, cc, rfl, _, _, _⟩ := ownB_slice hO (by rw [hb.1]; omega)
  rw [hb.1] at hO hu
  refine ⟨C, cc, ?_, ?_, hO, hu⟩
  · rw [h.1.cellAt (j * 2) (by omega)]
    have h := flatR_at hq hu (show 0 < 2 by omega)
    rw [Nat.add_zero] at h
    exact h
  · rw [h.1.cellAt (j * 2 + 1) (by omega)]
    exact flatR_at hq hu (show 1 < 2 by omega)
end
theorem RefRep.state {w : World} {x : Nat} {s : Dv} {F : Nat → Prop} (H : RefRep w x s F) : ∃ (st wa cp wr : Value) (bs ws rs cv : List Value) (Fz : Nat → Prop), XM F w w x st wa cp wr bs ws rs cv Fz s := H.2.2
theorem grown_now {F : Nat → Prop} {w : World} {k : Nat} (h : Grown F w w k) : F k := h.elim id (fun h => by omega)
section
variable {w : World} {x : Nat} {s : Dv} {F : Nat → Prop}
theorem xHas_any (H : RefRep w x s F) (a : Int) (v : Bool) (hv : decide (0 ≤ a ∧ a < (s.st.length : Int)) = v) : Calls Try.prog 56 #[.pointer (some ⟨x, 0, none⟩), .int .i64 a] w fun e w' => e = .returned (.bool v) ∧ w = w' := by
  obtain ⟨st, wa, cp, wr, bs, ws, rs, cv, Fz, M⟩ := H.state
  obtain ⟨g, cap, rfl, _⟩ := M.st.slot H.1.n1 H.1.st
  obtain ⟨c0, _, c2, _⟩ := RefAt.cells M.dv
  clear M H
  rw [← hv]
  generalize s.st.length = n at *
  by_cases h1 : 0 ≤ a
  · by_cases h2 : a < (n : Int)
    · rw [decide_eq_true ⟨h1, h2⟩]
      go_enter Try.func56, Try.ntmps56
      go_wp2_with fail
      go_ret
      exact ⟨rfl, rfl⟩
    · rw [decide_eq_false (fun h => h2 h.2)]
      go_enter Try.func56, Try.ntmps56
      go_wp2_with fail
      go_ret
      exact ⟨rfl, rfl⟩
  · rw [decide_eq_false (fun h => h1 h.1)]
    go_enter Try.func56, Try.ntmps56
    go_wp2_with fail
    go_ret
    exact ⟨rfl, rfl⟩
/-- The device's own block turns. -/
theorem x_turned {off : Bool} {ar co : Int} {w' : World} (H : RefRep w x s F) (hok : Dv.Ok { s with off := off, ar := ar, co := co })
    (h : ∀ st wa cp wr, RefAt w x st wa s.off s.ar s.co cp wr → RefAt w' x st wa off ar co cp wr) (hg : w.grownBy w' (some x)) : RefNext F w w' x { s with off := off, ar := ar, co := co } := by
  obtain ⟨st, wa, cp, wr, bs, ws, rs, cv, Fz, M⟩ := H.state
  exact (M.turn hg (h _ _ _ _ M.dv)).next hok H.2.1
set_option maxRecDepth 100000 in
theorem xAccess_raw {st wa : Value} {ar co : Int} {cp wr : Value} (h : RefAt w x st wa false ar co cp wr) (h0 : 0 ≤ ar) (h1 : ar ≤ 9223372036854775807) :
    Calls Try.prog 57 #[.pointer (some ⟨x, 0, none⟩)] w fun e w' => e = .returned (.bool (!spentOff ar)) ∧ RefAt w' x st wa (spentOff ar) (spentAr ar) (IntKind.i64.wrap (co + 1)) cp wr ∧ w.grownBy w' (some x) := by
  obtain ⟨_, _, c2, c3, c4, _⟩ := RefAt.cells h
  have f2 := h.free 2
  have f3 := h.free 3
  have f4 := h.free 4
  have H := Lib.hid h
  generalize hk : IntKind.i64.wrap (co + 1) = co'
  have H1 := Lib.hid (h.put 4 (.int .i64 co'))
  have G1 := Lib.hid (gb_set (gb_refl w (some x)) (p := ⟨x, 4, none⟩) (.inl rfl) (.int .i64 co'))
  have H2 := Lib.hid (H1.out.put 3 (.int .i64 (ar - 1)))
  have G2 := Lib.hid (gb_set G1.out (p := ⟨x, 3, none⟩) (.inl rfl) (.int .i64 (ar - 1)))
  have H3 := Lib.hid ((H1.out.put 2 (.bool true)).put 3 (.int .i64 0))
  have G3 := Lib.hid (gb_set (gb_set G1.out (p := ⟨x, 2, none⟩) (.inl rfl) (.bool true)) (p := ⟨x, 3, none⟩) (.inl rfl) (.int .i64 0))
  rcases (show ar = 0 ∨ ar = 1 ∨ 1 < ar by omega) with rfl | rfl | hlt
  · rw [show (spentOff 0) = false from rfl, show spentAr 0 = 0 from rfl]
    go_enter Try.func57, Try.ntmps57
    go_wp2_with fail
    go_ret
    exact ⟨rfl, H1.out, G1.out⟩
  · rw [show (spentOff 1) = true from rfl, show spentAr 1 = 0 from rfl]
    go_enter Try.func57, Try.ntmps57
    go_wp2_with fail
    go_ret
    exact ⟨rfl, H3.out, G3.out⟩
  · have e : IntKind.i64.wrap (ar - 1) = ar - 1 := IntWalk.i64_in _ (by omega)
    have t0 : (ar == 1) = false := by rw [beq_eq_false_iff_ne]; omega
    have t1 : (0 < ar) := by omega
    rw [show (spentOff ar) = false from decide_eq_false (by omega), show spentAr ar = ar - 1 from if_pos t1]
    go_enter Try.func57, Try.ntmps57
    go_wp2_with fail
    go_ret
    exact ⟨rfl, H2.out, G2.out⟩
theorem XM.access {w0 : World} {st wa cp wr : Value} {bs ws rs cv : List Value} {Fz : Nat → Prop} (M : XM F w0 w x st wa cp wr bs ws rs cv Fz s) (har : 0 ≤ s.ar ∧ s.ar ≤ 9223372036854775807) (ho : s.off = false) :
    Calls Try.prog 57 #[.pointer (some ⟨x, 0, none⟩)] w fun e w' => e = .returned (.bool (!spentOff s.ar)) ∧ XM F w0 w' x st wa cp wr bs ws rs cv Fz s.spent := by
  have hd := M.dv
  rw [ho] at hd
  refine (xAccess_raw hd har.1 har.2).mono ?_
  rintro e w' ⟨rfl, h1, h2⟩
  exact ⟨rfl, M.turn h2 h1⟩
theorem xAccess (H : RefRep w x s F) (ho : s.off = false) : Calls Try.prog 57 #[.pointer (some ⟨x, 0, none⟩)] w fun e w' => e = .returned (.bool (!spentOff s.ar)) ∧ RefNext F w w' x s.spent := by
  obtain ⟨st, wa, cp, wr, bs, ws, rs, cv, Fz, M⟩ := H.state
  refine (M.access H.1.ar ho).mono ?_
  rintro e w' ⟨rfl, h1⟩
  exact ⟨rfl, h1.next H.1.spent H.2.1⟩
theorem xSpendOn (H : RefRep w x s F) (ho : s.off = false) : Calls Try.prog 45 #[.pointer (some ⟨x, 0, none⟩)] w fun e w' => e = .returned (.bool (!spentOff s.ar)) ∧ RefNext F w w' x s.spent := by
  have HA := Lib.hid (xAccess H ho)
  obtain ⟨st, wa, cp, wr, bs, ws, rs, cv, Fz, M⟩ := H.state
  obtain ⟨_, _, c2, _⟩ := RefAt.cells M.dv
  rw [ho] at c2
  clear M H ho
  go_enter Try.func45, Try.ntmps45
  go_wp2_with fail
  refine HA.out.mono ?_
  rintro e w' ⟨rfl, h⟩
  have Hh := Lib.hid h
  clear h HA
  go_wp2_with fail
  go_ret
  exact ⟨rfl, Hh.out⟩
theorem xSpendOff (H : RefRep w x s F) (ho : s.off = true) : Calls Try.prog 45 #[.pointer (some ⟨x, 0, none⟩)] w fun e w' => e = .returned (.bool false) ∧ w = w' := by
  obtain ⟨st, wa, cp, wr, bs, ws, rs, cv, Fz, M⟩ := H.state
  obtain ⟨_, _, c2, _⟩ := RefAt.cells M.dv
  rw [ho] at c2
  clear M H ho
  go_enter Try.func45, Try.ntmps45
  go_wp2_with fail
  go_ret
  exact ⟨rfl, rfl⟩
theorem xCrash (H : RefRep w x s F) : Calls Try.prog 47 #[.pointer (some ⟨x, 0, none⟩)] w fun e w' => e = .returned (.tuple #[]) ∧ RefNext F w w' x s.crash := by
  have HN := Lib.hid (x_turned (w' := (w.setCell ⟨x, 2, none⟩ (.bool true)).setCell ⟨x, 3, none⟩ (.int .i64 0)) (off := true) (ar := 0) (co := s.co) H H.1.crash (fun st wa cp wr h => (Blk.put h 2 (.bool true)).put 3 (.int .i64 0))
    (gb_set (gb_set (gb_refl w (some x)) (p := ⟨x, 2, none⟩) (.inl rfl) _) (p := ⟨x, 3, none⟩) (.inl rfl) _))
  obtain ⟨st, wa, cp, wr, bs, ws, rs, cv, Fz, M⟩ := H.state
  obtain ⟨_, _, c2, c3, _⟩ := RefAt.cells M.dv
  have f2 := Blk.free M.dv 2
  have f3 := Blk.free M.dv 3
  clear M H
  go_enter Try.func47, Try.ntmps47
  go_wp2_with fail
  exact bodyPost_end (results_none rfl _ _ _) rfl ⟨rfl, HN.out⟩
theorem xArm (H : RefRep w x s F) (n : Int) (hn : n ≤ 9223372036854775807) : Calls Try.prog 46 #[.pointer (some ⟨x, 0, none⟩), .int .i64 n] w fun e w' => e = .returned (.tuple #[]) ∧ RefNext F w w' x (s.arm n) := by
  have hok := H.1.arm hn
  by_cases ho : s.off = true
  · have HN := Lib.hid (RefNext.refl H)
    have he : s.arm n = s := if_pos ho
    rw [he]
    obtain ⟨st, wa, cp, wr, bs, ws, rs, cv, Fz, M⟩ := H.state
    obtain ⟨_, _, c2, c3, _⟩ := RefAt.cells M.dv
    rw [ho] at c2
    clear M H hok he ho
    go_enter Try.func46, Try.ntmps46
    go_wp2_with fail
    exact bodyPost_end (results_none rfl _ _ _) rfl ⟨rfl, HN.out⟩
  · have he : s.arm n = { s with ar := max n 0 } := if_neg ho
    rw [he] at hok
    rw [he]
    have HN := Lib.hid (x_turned (w' := w.setCell ⟨x, 3, none⟩ (.int .i64 (max n 0))) (off := s.off) (ar := max n 0) (co := s.co) H hok (fun st wa cp wr h => Blk.put h 3 (.int .i64 (max n 0))) (gb_set (gb_refl w (some x)) (p := ⟨x, 3, none⟩) (.inl rfl) _))
    have hoff : s.off = false := by simpa using ho
    obtain ⟨st, wa, cp, wr, bs, ws, rs, cv, Fz, M⟩ := H.state
    obtain ⟨_, _, c2, c3, _⟩ := RefAt.cells M.dv
    have f3 := Blk.free M.dv 3
    rw [hoff] at c2
    have M1 := Lib.hid (show n < 0 → max n 0 = 0 from fun h => by omega)
    have M2 := Lib.hid (show 0 ≤ n → max n 0 = n from fun h => by omega)
    clear M H hok he ho hoff
    go_enter Try.func46, Try.ntmps46
    go_wp2_with fail
    · rw [M1.out (by omega)] at HN
      rw [M1.out (by omega)]
      exact bodyPost_end (results_none rfl _ _ _) rfl ⟨rfl, HN.out⟩
    · rw [M2.out (by omega)] at HN
      rw [M2.out (by omega)]
      exact bodyPost_end (results_none rfl _ _ _) rfl ⟨rfl, HN.out⟩
end
end Go.Proofs.Ytjmghpoknlffiaa

namespace Go.Proofs.Ytjmghpoknlffiaa
open Go.ChangeShapes Go.WideShapes Go.ChangeAt Go.RowKit
set_option linter.unusedSimpArgs false

section
variable {w : World} {x : Nat} {s : Dv} {F : Nat → Prop}
set_option maxRecDepth 100000 in
set_option maxHeartbeats 4000000 in
theorem xNow_any (H : RefRep w x s F) (i : Nat) (hi : i < s.st.length) (D : List Nat) (hD : s.now i = D) (hwl : s.wa.length ≤ 1000000000) : Calls Try.prog 53 #[.pointer (some ⟨x, 0, none⟩), .int .i64 (i : Int)] w fun e w' =>
    ∃ C cc, e = .returned (.slice (some ⟨C, 0, none⟩) 256 cc) ∧ OwnB w' w.heap.size 5 (.slice (some ⟨C, 0, none⟩) 256 cc) D ∧ Below w.heap.size w w' := by
  obtain ⟨st, wa, cp, wv, bs, ws, rs, cv, Fz, M⟩ := H.state
  have hok := H.1
  have hDb : Bl D := by rw [← hD]; exact hok.now hi
  have HDl := Lib.hid hDb.1
  obtain ⟨g, cap, rfl, hsl⟩ := M.st.slot hok.n1 hok.st
  obtain ⟨b0, hb0⟩ : ∃ b, s.st[i]? = some b := ⟨_, List.getElem?_eq_getElem hi⟩
  obtain ⟨C0, cc0, k0, O0, _⟩ := hsl i b0 hb0
  have HDe := Lib.hid (show nowL s.wa i b0 = D by rw [← hD, Dv.now, List.getD_eq_getElem?_getD, hb0]; rfl)
  have HO0 := Lib.hid O0
  obtain ⟨c0, c1, _⟩ := RefAt.cells M.dv
  have hin : (i : Int) < (s.st.length : Int) := by omega
  have hn2 := hok.n2
  obtain ⟨n, hn⟩ : ∃ n, n = s.st.length := ⟨_, rfl⟩
  rw [← hn] at hin hn2 c0
  obtain ⟨m, hm⟩ : ∃ m, m = s.wa.length := ⟨_, rfl⟩
  have Hm := Lib.hid hm
  obtain ⟨ao, ac, rfl⟩ := own_len M.wa.1
  rw [← hm] at c1 hwl
  have HW := Lib.hid M.wa
  rw [← hm] at HW
  have Hok := Lib.hid hok
  have HC := Lib.hid (show ∀ (C cc : Nat) (b : List Nat), b.length = 256 → OwnB w 0 5 (.slice (some ⟨C, 0, none⟩) 256 cc) b → Calls Try.prog 42 #[.slice (some ⟨C, 0, none⟩) 256 cc] w fun e w' => ∃ v, e = .returned v ∧ OwnB w' w.heap.size 5 v b ∧ Below w.heap.size w w' from
    fun C cc b hb hO => copy_any _ 256 cc b w (ownB_bytes hO hb) (by omega))
  clear H hi hD hok hDb hsl hb0 O0 M hn hm
  go_enter Try.func53, Try.ntmps53
  go_wp2_with fail
  go_loopw [5, 6] (fun u j wx => ∃ (k C cc : Nat) (b : List Nat), k ≤ m ∧ j = .int .i64 k ∧ u = .slice (some ⟨C, 0, none⟩) 256 cc ∧ b = nowL (s.wa.take k) i b0 ∧ OwnB w 0 5 (.slice (some ⟨C, 0, none⟩) 256 cc) b ∧ wx = w) (fun _ j _ => m - (intOf j).toNat)
  case atStart => exact ⟨0, C0, cc0, b0, by omega, rfl, rfl, rfl, HO0.out, rfl⟩
  case round =>
    clear HO0 k0
    obtain ⟨k, C, cc, b, hk, rfl, rfl, hb, hO, rfl⟩ := hrel
    by_cases hlt : k < m
    · have hki : (k : Int) < (m : Int) := by omega
      obtain ⟨q, qc, hwa, hcell⟩ := HW.out.slot (by rw [← Hm.out]; omega) (fun p hp => (Hok.out.wa p hp).2)
      rw [← Hm.out] at hwa
      injection hwa with e1 e2 e3
      subst e1 e3
      obtain ⟨p, hp⟩ : ∃ p, s.wa[k]? = some p := ⟨_, List.getElem?_eq_getElem (by rw [← Hm.out]; exact hlt)⟩
      obtain ⟨C1, cc1, k1, k2, hO1, _⟩ := hcell k p hp
      have ht : s.wa.take (k + 1) = s.wa.take k ++ [p] := by rw [List.take_add_one, hp]; rfl
      by_cases he : p.1 = i
      · have hb2 : ((p.1 : Int) == (i : Int)) = true := by rw [he]; simp
        have HN := Lib.hid (show p.2 = nowL (s.wa.take (k + 1)) i b0 by rw [ht, nowL_snoc, if_pos he])
        have HO1 := Lib.hid hO1
        generalize (p.1 : Int) = P1 at *
        clear hb hO hcell hp ht he hO1
        go_wp2_with fail
        go_roundw
        case rel => first | exact ⟨k + 1, C1, cc1, p.2, by omega, by go_num, rfl, HN.out, HO1.out, trivial⟩ | ((repeat apply Exists.intro); exact ⟨⟨k + 1, C1, cc1, p.2, by omega, by go_num, rfl, HN.out, HO1.out, rfl⟩, rfl, rfl⟩)
        case measure => simp [intOf]; omega
      · have hb2 : ((p.1 : Int) == (i : Int)) = false := by rw [beq_eq_false_iff_ne]; omega
        have HN := Lib.hid (show b = nowL (s.wa.take (k + 1)) i b0 by rw [ht, nowL_snoc, if_neg he]; exact hb)
        have HO1 := Lib.hid hO
        generalize (p.1 : Int) = P1 at *
        clear hb hO hcell hp ht he hO1 k2
        go_wp2_with fail
        go_roundw
        case rel => first | exact ⟨k + 1, C, cc, b, by omega, by go_num, rfl, HN.out, HO1.out, trivial⟩ | ((repeat apply Exists.intro); exact ⟨⟨k + 1, C, cc, b, by omega, by go_num, rfl, HN.out, HO1.out, rfl⟩, rfl, rfl⟩)
        case measure => simp [intOf]; omega
    · obtain rfl : k = m := by omega
      have hki : ¬ (k : Int) < (k : Int) := by omega
      rw [Hm.out, List.take_length, HDe.out] at hb
      subst hb
      have HCC := Lib.hid (HC.out C cc b HDl.out hO)
      clear hO HW HC c0
      go_wp2_with fail
      refine HCC.out.mono ?_
      rintro e w2 ⟨v, rfl, hO, hb⟩
      obtain ⟨C2, cc2, rfl, _, _, _⟩ := ownB_slice hO (by rw [HDl.out]; omega)
      rw [HDl.out] at hO
      rw [HDl.out]
      have HR := Lib.hid hO
      have HB := Lib.hid hb
      clear hO hb HCC
      go_wp2_with fail
      go_ret
      exact ⟨C2, cc2, rfl, HR.out, HB.out⟩
theorem xRead_good (H : RefRep w x s F) (i : Nat) (hi : i < s.st.length) (ho : s.off = false) (hwl : s.wa.length ≤ 1000000000) : Calls Try.prog 41 #[.pointer (some ⟨x, 0, none⟩), .int .i64 (i : Int)] w fun e w' =>
    ∃ C cc, e = .returned (.tuple #[.slice (some ⟨C, 0, none⟩) 256 cc, .int .i64 0]) ∧ OwnB w' w.heap.size 5 (.slice (some ⟨C, 0, none⟩) 256 cc) (s.now i) ∧ Below w.heap.size w w' := by
  have HH := Lib.hid (xHas_any H (i : Int) true (decide_eq_true ⟨by omega, by omega⟩))
  obtain ⟨D, hD⟩ : ∃ D, s.now i = D := ⟨_, rfl⟩
  have HNw := Lib.hid (xNow_any H i hi D hD hwl)
  rw [hD]
  obtain ⟨st, wa, cp, wr, bs, ws, rs, cv, Fz, M⟩ := H.state
  obtain ⟨_, _, c2, _⟩ := RefAt.cells M.dv
  rw [ho] at c2
  clear M H ho hi hwl hD
  go_enter Try.func41, Try.ntmps41
  go_wp2_with fail
  refine HH.out.mono ?_
  rintro e w' ⟨rfl, rfl⟩
  go_wp2_with fail
  refine HNw.out.mono ?_
  rintro e w2 ⟨C, cc, rfl, hO, hb⟩
  have HR := Lib.hid hO
  have HB := Lib.hid hb
  clear hO hb HNw HH
  go_wp2_with fail
  go_ret2
  exact ⟨C, cc, rfl, HR.out, HB.out⟩
theorem xRead_bad (H : RefRep w x s F) (a : Int) (hr : s.rdy a ≠ 0) : Calls Try.prog 41 #[.pointer (some ⟨x, 0, none⟩), .int .i64 a] w fun e w' => e = .returned (.tuple #[.slice none 0 0, .int .i64 (s.rdy a)]) ∧ w = w' := by
  by_cases ho : s.off = true
  · have he : s.rdy a = 7 := if_pos ho
    rw [he]
    obtain ⟨st, wa, cp, wr, bs, ws, rs, cv, Fz, M⟩ := H.state
    obtain ⟨_, _, c2, _⟩ := RefAt.cells M.dv
    rw [ho] at c2
    clear M H he ho hr
    go_enter Try.func41, Try.ntmps41
    go_wp2_with fail
    go_ret2
    exact ⟨rfl, rfl⟩
  · have hoff : s.off = false := by simpa using ho
    have hn : ¬ (0 ≤ a ∧ a < (s.st.length : Int)) := fun h => hr (by unfold Dv.rdy; rw [if_neg ho, if_neg (by omega)])
    have he : s.rdy a = 1 := by unfold Dv.rdy; rw [if_neg ho, if_pos (by omega)]
    rw [he]
    have HH := Lib.hid (xHas_any H a false (decide_eq_false hn))
    obtain ⟨st, wa, cp, wr, bs, ws, rs, cv, Fz, M⟩ := H.state
    obtain ⟨_, _, c2, _⟩ := RefAt.cells M.dv
    rw [hoff] at c2
    clear M H he ho hr hn hoff
    go_enter Try.func41, Try.ntmps41
    go_wp2_with fail
    refine HH.out.mono ?_
    rintro e w' ⟨rfl, rfl⟩
    go_wp2_with fail
    go_ret2
    exact ⟨rfl, rfl⟩
end
end Go.Proofs.Ytjmghpoknlffiaa
