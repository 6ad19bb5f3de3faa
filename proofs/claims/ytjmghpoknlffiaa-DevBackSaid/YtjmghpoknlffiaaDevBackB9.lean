/-
  What the proof of DevBack rests on, part 9 of 9.
-/
import Derived.Test.YtjmghpoknlffiaaDevBackB8
namespace Go.Proofs.Ytjmghpoknlffiaa
open Go.ChangeShapes Go.WideShapes Go.ChangeAt Go.RowKit
set_option linter.unusedSimpArgs false

/-- .. counted from an earlier world. -/
def DoP2 (U : Nat → Prop) (wB : World) (d x : Nat) (s t : Dv) (e : Ending) (w' : World) : Prop := ∃ (v : Bool) (s' t' : Dv), e = .returned (.bool v) ∧ Step s s' ∧ Step t t' ∧ PairTo U wB w' d x s' t'
section
variable {w0 wB u : World} {d x : Nat} {s t : Dv} {U : Nat → Prop}
theorem do_stepq (HU : ∀ k, U k → w0.heap.size ≤ k) (hB0 : Below w0.heap.size w0 wB) (N : PairTo U wB u d x s t) {b off : Nat} {kd av bv : Int} {da fa : Option Addr} {dl dc fl fc : Nat} {ys : List Nat} {fs : List Int} (hA : ActAt w0 b off kd av bv da dl dc fa fl fc ys fs) (hd : dl ≤ 1000) (hf : fl ≤ 1000) (hwl : s.wa.length ≤ 1000) (hrl : s.wr.length ≤ 1000) (hwt : t.wa.length ≤ 1000) (hrt : t.wr.length ≤ 1000) :
    Calls Try.prog 26 #[.agg #[.pointer (some ⟨d, 0, none⟩), .pointer (some ⟨x, 0, none⟩)], .agg #[.int .i64 kd, .int .i64 av, .int .i64 bv, .slice da dl dc, .slice fa fl fc]] u (DoP2 U wB d x s t) := by
  have hb : Below w0.heap.size w0 u := below_mods hB0 N.2 hB0.size HU
  have hG : ∀ k, Grown U wB u k → w0.heap.size ≤ k := fun k hk => hk.elim (HU k) (fun h => Nat.le_trans hB0.size h.1)
  refine (doq_all N.1 hA.k0 hA.k1 hA.k2 ys (hA.ys.keep hb) (bytes_far hA.ys hb.size hG) fs (hA.fs.below hb) (nums_far hA.fs hb.size hG) hd hf hwl hrl hwt hrt).mono ?_
  rintro e w' ⟨v, s', t', h1, h2, h3, h4⟩
  exact ⟨v, s', t', h1, h2, h3, N.trans h4⟩
end
set_option maxRecDepth 100000 in
set_option maxHeartbeats 8000000 in
theorem devBack_walk (nb : Int) (hnb : -9223372036854775808 ≤ nb ∧ nb ≤ 9223372036854775807) (a : Option Addr) (len cap : Nat) (w : World) (h : Acts5 w a len) (hlen : len ≤ 9223372036854775807) (a2 : Option Addr) (len2 cap2 : Nat) (hh2 : Acts5 w a2 len2) (hlen2 : len2 ≤ 9223372036854775807) :
    Calls Try.prog 6 #[.int .i64 nb, .slice a len cap, .slice a2 len2 cap2] w fun e w' => e = .returned (.bool true) ∧ Below w.heap.size w w' := by
  have HAs := Lib.hid h
  have HGr := Lib.hid (great_any a len cap hlen w h)
  obtain ⟨q, hq⟩ : ∃ q : Nat, (q : Int) = nb % 9 := ⟨(nb % 9).toNat, Int.toNat_of_nonneg (Int.emod_nonneg _ (by omega))⟩
  have HPk := Lib.hid (show ∀ u, Calls Try.prog 18 #[.int .i64 nb, .int .i64 9] u fun e w' => e = .returned (.int .i64 (q : Int)) ∧ u = w' from fun u => pick_any nb 9 q u hq (by omega) (by omega) hnb.1 hnb.2)
  have hq20 : q < 9 := by omega
  obtain ⟨n, hn⟩ : ∃ n, n = 1 + q := ⟨_, rfl⟩
  have en : (1 : Int) + (q : Int) = (n : Int) := by omega
  have wn : IntKind.i64.wrap (n : Int) = (n : Int) := by rw [IntKind.wrap_i64]; omega
  have HBg := Lib.hid (fun u => begun_any n (by omega) (by omega) u)
  have HAs2 := Lib.hid hh2
  have HGr2 := Lib.hid (great_any a2 len2 cap2 hlen2 w hh2)
  clear h hnb hq hn hq20 hh2
  go_enter Try.func6, Try.ntmps6
  go_wp2_with fail
  refine HGr.out.mono ?_
  rintro e w1 ⟨v, rfl, rfl, hsm⟩
  have Hsm := Lib.hid hsm
  clear hsm HGr
  cases v with
  | true =>
    go_wp2_with fail
    refine (awake10 w).mono ?_
    rintro e w2 ⟨rfl, hb⟩
    have Hb := Lib.hid hb
    clear hb
    go_wp2_with fail
    go_ret
    exact ⟨rfl, Hb.out⟩
  | false =>
    have HS := Lib.hid (Hsm.out rfl)
    clear Hsm
    go_wp2_with fail
    refine HGr2.out.mono ?_
    rintro e w1 ⟨v2, rfl, rfl, hsm2⟩
    have Hsm2 := Lib.hid hsm2
    clear hsm2 HGr2
    cases v2 with
    | true =>
      go_wp2_with fail
      refine (awake10 w).mono ?_
      rintro e w2 ⟨rfl, hb⟩
      have Hb := Lib.hid hb
      clear hb
      go_wp2_with fail
      go_ret
      exact ⟨rfl, Hb.out⟩
    | false =>
    have HS2 := Lib.hid (Hsm2.out rfl)
    clear Hsm2
    go_wp2_with fail
    refine (HPk.out w).mono ?_
    rintro e w1 ⟨rfl, rfl⟩
    go_wp2_with fail
    refine (HBg.out w).mono ?_
    rintro e w2 ⟨d, x, rfl, U, hP, hU, hb2⟩
    have hal := nu_alloc (nu_refl w2) (.cells #[.pointer none, .pointer none] 45)
    have HBm := Lib.hid (Blk.made w2 45 #[.pointer none, .pointer none])
    have HBf := Lib.hid (Blk.fill HBm.out [.pointer (some ⟨d, 0, none⟩), .pointer (some ⟨x, 0, none⟩)] rfl)
    have hfl := nu_fill (a := w2) [.pointer (some ⟨d, 0, none⟩), .pointer (some ⟨x, 0, none⟩)] (g := w2.heap.size) (Nat.le_refl _) 0 _ hal
    have HP3 := Lib.hid (hP.below hfl)
    have HwB := Lib.hid (nu_trans hb2 hfl)
    have HU := Lib.hid hU
    have HBn := Lib.hid (show ¬ U w2.heap.size from fun hu => Nat.lt_irrefl _ (hP.lt _ hu))
    clear hal hfl hP hU hb2 HPk HBg
    go_upto_region 4 with (refine wpList_store_in rfl 45 (.tmp 7) (.tmp 29) rfl w2.heap.size 0 [.pointer (some ⟨d, 0, none⟩), .pointer (some ⟨x, 0, none⟩)] rfl rfl 45 _ HBm.out (by simp) (by kernel_rfl) (fun u hu => by simp only [List.mem_cons, List.not_mem_nil, or_false] at hu; rcases hu with rfl | rfl <;> rfl) ?_)
    change Code.wp _ _ _ _ ((w2.alloc (.cells #[.pointer none, .pointer none] 45)).setCells w2.heap.size 0 [.pointer (some ⟨d, 0, none⟩), .pointer (some ⟨x, 0, none⟩)])
    clear HBm
    generalize (w2.alloc (.cells #[.pointer none, .pointer none] 45)).setCells w2.heap.size 0 [.pointer (some ⟨d, 0, none⟩), .pointer (some ⟨x, 0, none⟩)] = wB at *
    obtain ⟨B, hB⟩ : ∃ B, B = w2.heap.size := ⟨_, rfl⟩
    rw [← hB] at HBf HBn
    rw [← hB]
    clear hB
    have HB := Lib.hid (show Blk wB B 45 #[.pointer (some ⟨d, 0, none⟩), .pointer (some ⟨x, 0, none⟩)] from HBf.out)
    clear HBf
    go_wp2_with fail
    go_loopw [8] (fun iv wx => ∃ (k : Nat) (s : Dv), k ≤ len ∧ k ≤ 60 ∧ iv = .int .i64 k ∧ PairTo U wB wx d x s s ∧ s.wa.length ≤ k ∧ s.wr.length ≤ k) (fun iv _ => len - (intOf iv).toNat)
    case atStart => exact ⟨0, _, by omega, by omega, rfl, PairTo.refl HP3.out, Nat.le_refl _, Nat.le_refl _⟩
    case round =>
      clear HP3
      obtain ⟨k, s, hk, hk2, rfl, hN, hcs⟩ := hrel
      have HN := Lib.hid hN
      have Hcs := Lib.hid hcs
      have HBk := Lib.hid (blk_mods HB.out hN.2 HBn.out)
      have Hbw := Lib.hid (below_mods HwB.out hN.2 HwB.out.size HU.out)
      clear hN hcs
      by_cases hmore : k < len ∧ k < 60
      · obtain ⟨hlt, hl2⟩ := hmore
        have hki : (k : Int) < (len : Int) := by omega
        have hki2 : (k : Int) < 60 := by omega
        obtain ⟨b0, off, rfl, hbl, hc⟩ := HAs.out (by omega)
        obtain ⟨kd, av, bv, da, dl, dc, fa, fl, fc, ys, fs, hA⟩ := hc k hlt
        have HA := Lib.hid hA
        obtain ⟨hd, hf⟩ := HS.out b0 off rfl k hlt (by omega) da dl dc fa fl fc hA.c3 hA.c4
        have Hd := Lib.hid hd
        have Hf := Lib.hid hf
        have HAr := Lib.hid (show ∀ u, Below wr.heap.size wr u → u.rangeAt b0 (off + k * 5) [.int .i64 kd, .int .i64 av, .int .i64 bv, .slice da dl dc, .slice fa fl fc] from fun u hu => hA.range (nu_trans0 Hbw.out hu))
        have HAw := Lib.hid (show ∀ u, Mods U wB u → u.rangeAt b0 (off + k * 5) [.int .i64 kd, .int .i64 av, .int .i64 bv, .slice da dl dc, .slice fa fl fc] from fun u hu => hA.range (below_mods HwB.out hu HwB.out.size HU.out))
        clear hc hA hd hf
        go_upto_region 7 with fail
        refine wp_region_held_drew (S := fun W => Blk W B 45 #[.pointer (some ⟨d, 0, none⟩), .pointer (some ⟨x, 0, none⟩)] ∧ W.rangeAt b0 (off + k * 5) [.int .i64 kd, .int .i64 av, .int .i64 bv, .slice da dl dc, .slice fa fl fc]) (by kernel_rfl) (⟨HBk.out.drew, HAr.out _ (nu_drew (nu_refl wr))⟩) (fun hHeld => ?_)
        dsimp only [Array.replicate, List.replicate, List.size_toArray, List.length_cons, List.length_nil, Nat.reduceAdd] at hHeld ⊢
        have HN0 := Lib.hid (HN.out.then_below (nu_drew (nu_refl wr)))
        clear HN
        generalize wr.drew = u0 at *
        refine take_l (i := 0) rfl (by kernel_rfl) (by kernel_rfl) (by kernel_rfl) (fun _ _ _ h => h) (Or.inl ⟨by rfl, fun W hS => e_pair hS.1 (.tmp 7) rfl rfl⟩) (by assumption) ?_
        simp only [Act.put, List.setIfInBounds_toArray, List.set_cons_zero, List.set_cons_succ]
        refine take_l (i := 1) (v := ?_) rfl (by kernel_rfl) (by kernel_rfl) (by kernel_rfl) (fun _ _ _ h => h) (Or.inl ⟨by rfl, ?_⟩) (by assumption) ?_
        case refine_2 => (intro _ _; go_simp; all_goals with_reducible rfl)
        simp only [Act.put, List.setIfInBounds_toArray, List.set_cons_zero, List.set_cons_succ]
        refine take_l (i := 2) (v := ?_) rfl (by kernel_rfl) (by kernel_rfl) (by kernel_rfl) (fun _ _ _ h => h) (Or.inl ⟨by rfl, ?_⟩) (by assumption) ?_
        case refine_2 => (intro _ _; go_simp; all_goals with_reducible rfl)
        simp only [Act.put, List.setIfInBounds_toArray, List.set_cons_zero, List.set_cons_succ]
        refine take_l (i := 3) (v := ?_) rfl (by kernel_rfl) (by kernel_rfl) (by kernel_rfl) (fun _ _ _ h => h) (Or.inl ⟨by rfl, ?_⟩) (by assumption) ?_
        case refine_2 => (intro _ _; go_simp; all_goals with_reducible rfl)
        simp only [Act.put, List.setIfInBounds_toArray, List.set_cons_zero, List.set_cons_succ]
        refine take_l (i := 4) rfl (by kernel_rfl) (by kernel_rfl) (by kernel_rfl) (fun _ _ _ h => h) (Or.inl ⟨by rfl, fun W hS => e_act hS.2 (.tmp 43) rfl rfl⟩) (by assumption) ?_
        simp only [Act.put, List.setIfInBounds_toArray, List.set_cons_zero, List.set_cons_succ]
        clear hHeld
        refine wpAnyH_ready (rs := [5]) (by kernel_rfl) (by simp) ?_
        refine cons_l rfl (fun K hK => ?_) AllReadyH.nil
        go_simp
        go_at_call 26
        refine (do_step HU.out HwB.out HN0.out HA.out Hd.out Hf.out (by have := Hcs.out; omega) (by have := Hcs.out; omega)).mono ?_
        rintro e u1 ⟨rfl, s1, hst, hn⟩
        have HN1 := Lib.hid hn
        have Hst := Lib.hid hst
        have Hcs1 := Lib.hid (show s1.wa.length ≤ k + 1 ∧ s1.wr.length ≤ k + 1 from by have h1 := hst.2.1; have h2 := hst.2.2.1; have h3 := Hcs.out; omega)
        have hbk1 := blk_mods HB.out hn.2 HBn.out
        have HBk1 := Lib.hid hbk1
        have HAr1 := Lib.hid (HAw.out _ hn.2)
        clear hst hn hbk1 HN0
        go_wp2_with fail
        refine hK.out _ _ ⟨HBk1.out, HAr1.out⟩ (fun hHeld => ?_)
        clear hK K hHeld
        simp only [Act.put, List.setIfInBounds_toArray, List.set_cons_zero, List.set_cons_succ]
        refine wpAnyH_done (by kernel_rfl) ?_ _
        go_wp2_with fail
        go_roundw
        case rel => first | exact ⟨k + 1, s1, by omega, by omega, by go_num, HN1.out, Hcs1.out⟩ | ((repeat apply Exists.intro); exact ⟨⟨k + 1, s1, by omega, by omega, by go_num, HN1.out, Hcs1.out⟩, rfl⟩)
        case measure => simp [intOf]; omega
      · by_cases hlt : k < len
        · have hki : (k : Int) < (len : Int) := by omega
          have hki2 : ¬ (k : Int) < 60 := by omega
          clear hmore
          have Hwl := Lib.hid (show s.wa.length ≤ 1000000000 by have := Hcs.out; omega)
          have cP : wr.cell? ⟨B, 0, none⟩ = some (.pointer (some ⟨d, 0, none⟩)) := HBk.out.at 0 _ rfl
          go_wp2_with fail
          refine (HN.out.dev (P := fun e _ => e = .returned (.tuple #[])) (fun V hV hU => onD_all hV none 0 0 [] (NumsIn.nil _) (fun h => absurd h (by omega)) (by omega) Hwl.out)).mono ?_
          rintro e w5 ⟨rfl, hn⟩
          have HN5 := Lib.hid hn
          clear hn HN HBk Hbw cP
          obtain ⟨s3, hs3⟩ : ∃ s3, s3 = s.on [] := ⟨_, rfl⟩
          rw [← hs3] at HN5
          have hwl3 : s3.wa.length ≤ s.wa.length ∧ s3.wr = s.wr := by
            rw [hs3]
            unfold Dv.on
            split
            · exact ⟨Nat.zero_le _, rfl⟩
            · exact ⟨Nat.le_refl _, rfl⟩
          have Hoff3 := Lib.hid (show s3.off = false by
            rw [hs3]
            unfold Dv.on
            split
            · rfl
            · rename_i h; simpa using h)
          have Hw3 := Lib.hid (show s3.wa.length ≤ 60 ∧ s3.wr.length ≤ 60 ∧ s.wa.length ≤ 60 ∧ s.wr.length ≤ 60 by rw [hwl3.2]; have := Hcs.out; omega)
          clear hs3 hwl3
          have HB5 := Lib.hid (blk_mods HB.out HN5.out.2 HBn.out)
          have Hw5 := Lib.hid (below_mods HwB.out HN5.out.2 HwB.out.size HU.out)
          obtain ⟨V, hV⟩ : ∃ V, V = Grown U wB w5 := ⟨_, rfl⟩
          have hP5 := HN5.out.1
          rw [← hV] at hP5
          have HP5 := Lib.hid hP5
          have HVB := Lib.hid (show ∀ k, V k → k < w5.heap.size ∧ w.heap.size ≤ k from fun k hk => ⟨HP5.out.lt k hk, by
            rw [hV] at hk
            rcases hk with hk | hk
            · exact HU.out k hk
            · exact Nat.le_trans HwB.out.size hk.1⟩)
          have HVn := Lib.hid (show ¬ V B from fun h => by
            rw [hV] at h
            rcases h with h | h
            · exact HBn.out h
            · have := HB.out.lt; omega)
          obtain ⟨F, G0, hD5, _⟩ := hP5
          have HD5 := Lib.hid hD5
          clear hV hD5 HN5
          obtain ⟨n, hn⟩ : ∃ n, n = s3.st.length := ⟨_, rfl⟩
          have Hn := Lib.hid hn
          have hnb : n ≤ 65536 := by rw [hn]; exact HD5.out.1.n2
          clear hn
          have HBl := Lib.hid (show ∀ u, Below w5.heap.size w5 u → Calls Try.prog 27 #[.pointer (some ⟨d, 0, none⟩)] u fun e w' => e = .returned (.int .i64 (n : Int)) ∧ u = w' from fun u hu => Hn.out ▸ blocks_any (HD5.out.below hu))
          obtain ⟨i1, hi1, hi1a, hi1b, hi1c⟩ := info_parts info_b1
          have Hi1 := Lib.hid (And.intro hi1 (And.intro hi1a (And.intro hi1b hi1c)))
          clear hi1 hi1a hi1b hi1c
          go_wp2_with fail
          go_loopw [9, 10] (fun y9 jv wx => ∃ (j : Nat) (v : Value) (es : List Value), j ≤ n ∧ jv = .int .i64 j ∧ v = y9 ∧ Below w5.heap.size w5 wx ∧ wx.ownsRow w5.heap.size 22 1 v j es ∧ WasIs wx w5.heap.size es s3) (fun _ jv _ => n - (intOf jv).toNat)
          case atStart => exact ⟨0, _, [], by omega, rfl, rfl, nu_refl w5, World.ownsRow_nil _ _ _ _, (fun j u h => by cases h)⟩
          case round =>
            obtain ⟨j, v9, es, hj, rfl, rfl, hb, hown, hes⟩ := hrel
            have cP : wr.cell? ⟨B, 0, none⟩ = some (.pointer (some ⟨d, 0, none⟩)) := (HB5.out.below hb HB5.out.lt).at 0 _ rfl
            have Hb := Lib.hid hb
            have Hown := Lib.hid hown
            have Hes := Lib.hid hes
            have HBr := Lib.hid (HBl.out wr hb)
            clear hb hown hes
            by_cases hlt : j < n
            · have hji : (j : Int) < (n : Int) := by omega
              have HRd := Lib.hid (readD_good (HD5.out.below Hb.out) j (by rw [← Hn.out]; exact hlt) Hoff3.out (by have := Hw3.out; omega))
              have Hbl := Lib.hid (HD5.out.1.now (i := j) (by rw [← Hn.out]; exact hlt))
              go_wp2_with fail
              refine HBr.out.mono ?_
              rintro e w6 ⟨rfl, rfl⟩
              go_wp2_with fail
              refine HRd.out.mono ?_
              rintro e w6 ⟨G, rfl, hG, hB, hb6⟩
              have hal := nu_alloc (nu_refl w6) (.cells #[.slice (some ⟨G, 0, none⟩) 256 256] 22)
              have hb7 := nu_trans hb6 hal
              have HA := Lib.hid (Blk.made w6 22 #[.slice (some ⟨G, 0, none⟩) 256 256])
              have HOw := Lib.hid (own_eq Hown.out (fun q hq => hb7.block q (Hown.out.lt q hq).2))
              have HBG := Lib.hid (hB.below hal hB.lt)
              have HGw := Lib.hid (show w5.heap.size ≤ G from Nat.le_trans Hb.out.size hG)
              have Hes7 := Lib.hid (Hes.out.below hb7)
              have Hb7 := Lib.hid (nu_trans0 Hb.out hb7)
              have Hel := Lib.hid (show es.length = j from by have := Hown.out.1; omega)
              clear hG hB hb6 hal hb7 HRd HBr cP Hown Hes Hb
              go_upto_region 12 with (first | (refine wpList_runW _ _ rfl (exec_slice1 (.tmp 64) 50 22 i1 (.slice none 0 0) 1 Try.underlying50 Hi1.out.1 Hi1.out.2.1 Hi1.out.2.2.1 (by omega) (by omega) (.slice (some ⟨G, 0, none⟩) 256 256) rfl rfl rfl) ?_) | (at_builtin; refine wpList_append_own _ rfl (.tmp 63) (.tmp 65) 50 rfl w5.heap.size 22 i1 (.slice none 0 0) 1 24 Try.underlying50 Hi1.out.1 Hi1.out.2.1 Hi1.out.2.2.1 Hi1.out.2.2.2 rfl (by omega) _ j es rfl HOw.out ⟨w6.heap.size, 0, none⟩ 1 1 [.slice (some ⟨G, 0, none⟩) 256 256] rfl rfl (fun j u hu => by rw [Addr.add_lit, Nat.zero_add]; exact HA.out.at j u (by simpa using hu)) (fun u hu => by rw [List.mem_singleton.1 hu]; rfl) (by unfold maxLen; omega) (by omega) Hb7.out.size ?_))
              intro v' w8 hown hg _
              have HR := Lib.hid (show Below w5.heap.size w5 w8 ∧ w8.ownsRow w5.heap.size 22 1 v' (j + 1) (es ++ [.slice (some ⟨G, 0, none⟩) 256 256]) ∧ WasIs w8 w5.heap.size (es ++ [.slice (some ⟨G, 0, none⟩) 256 256]) s3 from
                ⟨Hb7.out.grown hg Hb7.out.size (fun q hq => (HOw.out.lt q hq).1), hown, (Hes7.out.snoc Hel.out HGw.out HBG.out).keep (own_typed HOw.out) hg⟩)
              clear hown hg HA HOw HBG HGw Hes7 Hb7 Hel
              go_wp2_with fail
              go_roundw
              case rel => first | exact ⟨j + 1, v', _, by omega, by go_num, rfl, HR.out⟩ | ((repeat apply Exists.intro); exact ⟨⟨j + 1, v', _, by omega, by go_num, rfl, HR.out⟩, rfl⟩)
              case measure => simp [intOf]; omega
            · obtain rfl : j = n := by omega
              have hji : ¬ (j : Int) < (j : Int) := by omega
              obtain ⟨va, vc, rfl⟩ := own_len Hown.out
              go_wp2_with fail
              refine HBr.out.mono ?_
              rintro e w6 ⟨rfl, rfl⟩
              have HPr := Lib.hid (PairTo.refl (HP5.out.below Hb.out))
              have Hwr := Lib.hid (nu_trans0 Hw5.out Hb.out)
              have HBr2 := Lib.hid (HB5.out.below Hb.out HB5.out.lt)
              clear HBr
              go_wp2_with fail
              refine (HPr.out.dev (P := fun e _ => e = .returned (.tuple #[.int .i64 s3.snapN, .int .i64 s3.snapC])) (fun X hX hU => snapD_all hX (by have := Hw3.out; omega))).mono ?_
              rintro e w6 ⟨rfl, hn⟩
              have HwS := Hwr
              have HBS := HBr2
              have HownS := Hown
              have HesS := Hes
              obtain ⟨wS, rfl⟩ : ∃ q : World, q = wr := ⟨_, rfl⟩
              by_cases h8 : s3.cp.length = 8
              · have e1 : s3.snapC = 11 := if_pos h8
                have HwE := Lib.hid (below_mods HwS.out hn.2 HwS.out.size (fun k hk => (HVB.out k hk).2))
                rw [e1]
                clear hn HPr e1 cP
                go_wp2_with fail
                refine (awake10 w6).mono ?_
                rintro e w7 ⟨rfl, hb8⟩
                have HE2 := Lib.hid (nu_trans0 HwE.out hb8)
                clear hb8
                go_wp2_with fail
                go_ret
                exact ⟨rfl, HE2.out⟩
              have e1 : s3.snapC = 0 := if_neg h8
              obtain ⟨N, hN⟩ : ∃ N, N = s3.cp.length := ⟨_, rfl⟩
              have e2 : s3.snapN = (N : Int) := by rw [hN]; exact if_neg h8
              have hN8 : N < 8 := by have := HD5.out.1.cp; omega
              have HN8 := Lib.hid hN
              obtain ⟨s6, hs6⟩ : ∃ s6, s6 = s3.snapS := ⟨_, rfl⟩
              have Hs6 := Lib.hid (show s6 = s3.snap from hs6.trans (if_neg h8))
              rw [← hs6] at hn
              have HN6 := Lib.hid hn
              rw [e1, e2]
              have Hl0 := Lib.hid (show s6.wa.length ≤ 61 + 0 ∧ s6.wr.length ≤ 61 + 0 ∧ s.wa.length ≤ 61 + 0 ∧ s.wr.length ≤ 61 + 0 from by
                rw [Hs6.out]
                have := Hw3.out
                show s3.wa.length ≤ _ ∧ s3.wr.length ≤ _ ∧ _
                omega)
              clear hn HPr e1 e2 cP h8 hs6 hN Hown Hes
              go_wp2_with fail
              go_loopw [15] (fun iv wx => ∃ (k : Nat) (p q : Dv), k ≤ len2 ∧ k ≤ 60 ∧ iv = .int .i64 k ∧ PairTo V wS wx d x p q ∧ (p.st.length = s3.st.length ∧ ∃ l, p.cp = s6.cp ++ l) ∧ (p.wa.length ≤ 61 + k ∧ p.wr.length ≤ 61 + k ∧ q.wa.length ≤ 61 + k ∧ q.wr.length ≤ 61 + k)) (fun iv _ => len2 - (intOf iv).toNat)
              case atStart => exact ⟨0, _, _, by omega, by omega, rfl, HN6.out, ⟨by rw [Hs6.out]; rfl, [], (List.append_nil _).symm⟩, Hl0.out⟩
              case round =>
                clear HN6 Hl0
                obtain ⟨k, p, q, hk, hk2, rfl, hN, hcp, hl⟩ := hrel
                have HN := Lib.hid hN
                have Hcp := Lib.hid hcp
                have Hl := Lib.hid hl
                have HBk := Lib.hid (blk_mods HBS.out hN.2 HVn.out)
                have Hbw := Lib.hid (below_mods HwS.out hN.2 HwS.out.size (fun k hk => (HVB.out k hk).2))
                clear hN hcp hl
                by_cases hmore : k < len2 ∧ k < 60
                · obtain ⟨hlt, hl2⟩ := hmore
                  have hki : (k : Int) < (len2 : Int) := by omega
                  have hki2 : (k : Int) < 60 := by omega
                  obtain ⟨b0, off, rfl, hbl, hc⟩ := HAs2.out (by omega)
                  obtain ⟨kd, av, bv, da, dl, dc, fa, fl, fc, ys, fs, hA⟩ := hc k hlt
                  have HA := Lib.hid hA
                  obtain ⟨hd, hf⟩ := HS2.out b0 off rfl k hlt (by omega) da dl dc fa fl fc hA.c3 hA.c4
                  have Hd := Lib.hid hd
                  have Hf := Lib.hid hf
                  have HAr := Lib.hid (show ∀ u, Below wr.heap.size wr u → u.rangeAt b0 (off + k * 5) [.int .i64 kd, .int .i64 av, .int .i64 bv, .slice da dl dc, .slice fa fl fc] from fun u hu => hA.range (nu_trans0 Hbw.out hu))
                  have HAw := Lib.hid (show ∀ u, Mods V wS u → u.rangeAt b0 (off + k * 5) [.int .i64 kd, .int .i64 av, .int .i64 bv, .slice da dl dc, .slice fa fl fc] from fun u hu => hA.range (below_mods HwS.out hu HwS.out.size (fun k hk => (HVB.out k hk).2)))
                  clear hc hA hd hf
                  go_upto_region 21 with fail
                  refine wp_region_held_drew (S := fun W => Blk W B 45 #[.pointer (some ⟨d, 0, none⟩), .pointer (some ⟨x, 0, none⟩)] ∧ W.rangeAt b0 (off + k * 5) [.int .i64 kd, .int .i64 av, .int .i64 bv, .slice da dl dc, .slice fa fl fc]) (by kernel_rfl) (⟨HBk.out.drew, HAr.out _ (nu_drew (nu_refl wr))⟩) (fun hHeld => ?_)
                  dsimp only [Array.replicate, List.replicate, List.size_toArray, List.length_cons, List.length_nil, Nat.reduceAdd] at hHeld ⊢
                  have HN0 := Lib.hid (HN.out.then_below (nu_drew (nu_refl wr)))
                  clear HN
                  generalize wr.drew = u0 at *
                  refine take_l (i := 0) rfl (by kernel_rfl) (by kernel_rfl) (by kernel_rfl) (fun _ _ _ h => h) (Or.inl ⟨by rfl, fun W hS => e_pair hS.1 (.tmp 7) rfl rfl⟩) (by assumption) ?_
                  simp only [Act.put, List.setIfInBounds_toArray, List.set_cons_zero, List.set_cons_succ]
                  refine take_l (i := 1) (v := ?_) rfl (by kernel_rfl) (by kernel_rfl) (by kernel_rfl) (fun _ _ _ h => h) (Or.inl ⟨by rfl, ?_⟩) (by assumption) ?_
                  case refine_2 => (intro _ _; go_simp; all_goals with_reducible rfl)
                  simp only [Act.put, List.setIfInBounds_toArray, List.set_cons_zero, List.set_cons_succ]
                  refine take_l (i := 2) (v := ?_) rfl (by kernel_rfl) (by kernel_rfl) (by kernel_rfl) (fun _ _ _ h => h) (Or.inl ⟨by rfl, ?_⟩) (by assumption) ?_
                  case refine_2 => (intro _ _; go_simp; all_goals with_reducible rfl)
                  simp only [Act.put, List.setIfInBounds_toArray, List.set_cons_zero, List.set_cons_succ]
                  refine take_l (i := 3) (v := ?_) rfl (by kernel_rfl) (by kernel_rfl) (by kernel_rfl) (fun _ _ _ h => h) (Or.inl ⟨by rfl, ?_⟩) (by assumption) ?_
                  case refine_2 => (intro _ _; go_simp; all_goals with_reducible rfl)
                  simp only [Act.put, List.setIfInBounds_toArray, List.set_cons_zero, List.set_cons_succ]
                  refine take_l (i := 4) rfl (by kernel_rfl) (by kernel_rfl) (by kernel_rfl) (fun _ _ _ h => h) (Or.inl ⟨by rfl, fun W hS => e_act hS.2 (.tmp 93) rfl rfl⟩) (by assumption) ?_
                  simp only [Act.put, List.setIfInBounds_toArray, List.set_cons_zero, List.set_cons_succ]
                  clear hHeld
                  refine wpAnyH_ready (rs := [5]) (by kernel_rfl) (by simp) ?_
                  refine cons_l rfl (fun K hK => ?_) AllReadyH.nil
                  go_simp
                  go_at_call 26
                  refine (do_stepq (fun k hk => (HVB.out k hk).2) HwS.out HN0.out HA.out Hd.out Hf.out (by have := Hl.out; omega) (by have := Hl.out; omega) (by have := Hl.out; omega) (by have := Hl.out; omega)).mono ?_
                  rintro e u1 ⟨v, p1, q1, rfl, hst, hst2, hn⟩
                  have HN1 := Lib.hid hn
                  have Hl1 := Lib.hid (show p1.wa.length ≤ 61 + (k + 1) ∧ p1.wr.length ≤ 61 + (k + 1) ∧ q1.wa.length ≤ 61 + (k + 1) ∧ q1.wr.length ≤ 61 + (k + 1) from by have h1 := hst.2.1; have h2 := hst.2.2.1; have h3 := hst2.2.1; have h4 := hst2.2.2.1; have h5 := Hl.out; omega)
                  have Hcp1 := Lib.hid (show p1.st.length = s3.st.length ∧ ∃ l, p1.cp = s6.cp ++ l from ⟨hst.1.trans Hcp.out.1, by
                      obtain ⟨l1, h1⟩ := Hcp.out.2
                      obtain ⟨l2, h2⟩ := hst.2.2.2
                      exact ⟨l1 ++ l2, by rw [h2, h1, List.append_assoc]⟩⟩)
                  have HBk1 := Lib.hid (blk_mods HBS.out hn.2 HVn.out)
                  have HAr1 := Lib.hid (HAw.out _ hn.2)
                  clear hst hst2 hn HN0
                  go_wp2_with fail
                  refine hK.out _ _ ⟨HBk1.out, HAr1.out⟩ (fun hHeld => ?_)
                  clear hK K hHeld
                  simp only [Act.put, List.setIfInBounds_toArray, List.set_cons_zero, List.set_cons_succ]
                  refine wpAnyH_done (by kernel_rfl) ?_ _
                  go_wp2_with fail
                  go_roundw
                  case rel => first | exact ⟨k + 1, p1, q1, by omega, by omega, by go_num, HN1.out, Hcp1.out, Hl1.out⟩ | ((repeat apply Exists.intro); exact ⟨⟨k + 1, p1, q1, by omega, by omega, by go_num, HN1.out, Hcp1.out, Hl1.out⟩, rfl⟩)
                  case measure => simp [intOf]; omega
                · by_cases hlt : k < len2
                  · have hki : (k : Int) < (len2 : Int) := by omega
                    have hki2 : ¬ (k : Int) < 60 := by omega
                    clear hmore
                    have hlen8 : p.cp.length ≤ 8 := HN.out.1.okD.cp
                    have hNp : p.cp[N]? = some s3.image := by
                      obtain ⟨l, hl⟩ := Hcp.out.2
                      rw [hl, Hs6.out, Dv.snap]
                      show (s3.cp ++ [s3.image] ++ l)[N]? = _
                      rw [List.append_assoc, List.getElem?_append_right (by rw [HN8.out]; exact Nat.le_refl _), HN8.out, Nat.sub_self]
                      rfl
                    have hNl : N < p.cp.length := (List.getElem?_eq_some_iff.1 hNp).1
                    have hcode : p.backC (N : Int) = 0 := if_pos ⟨by omega, by omega⟩
                    have hstate : p.backS (N : Int) = p.back N := if_pos ⟨by omega, by omega⟩
                    have cP : wr.cell? ⟨B, 0, none⟩ = some (.pointer (some ⟨d, 0, none⟩)) := HBk.out.at 0 _ rfl
                    have HBa := Lib.hid (fun (X : Nat → Prop) (hX : DevRep wr d p X) => backD_all hX (N : Int))
                    rw [hcode, hstate] at HBa
                    obtain ⟨s8, hs8⟩ : ∃ s8, s8 = p.back N := ⟨_, rfl⟩
                    rw [← hs8] at HBa
                    have h8a : s8.wa = [] := by rw [hs8]; rfl
                    have h8b : s8.st = s3.image := by rw [hs8, Dv.back]; show p.cp.getD N [] = _; rw [List.getD_eq_getElem?_getD, hNp]; rfl
                    clear hs8 hcode hstate hNp hNl
                    have H8a := Lib.hid h8a
                    have H8b := Lib.hid h8b
                    clear h8a h8b
                    go_wp2_with fail
                    refine (HN.out.dev (P := fun e _ => e = .returned (.int .i64 0)) (fun X hX hU => HBa.out X hX)).mono ?_
                    rintro e w7 ⟨rfl, hn⟩
                    have HNa := Lib.hid hn
                    clear hn HN HBa cP HBk
                    have cP : w7.cell? ⟨B, 0, none⟩ = some (.pointer (some ⟨d, 0, none⟩)) := (blk_mods HBS.out HNa.out.2 HVn.out).at 0 _ rfl
                    have HWt := Lib.hid (show Calls Try.prog 28 #[.pointer (some ⟨d, 0, none⟩)] w7 fun e w' => e = .returned (.int .i64 0) ∧ w7 = w' from by
                      obtain ⟨F7, G7, hD7, _⟩ := HNa.out.1
                      have hh := waits_any hD7
                      rw [H8a.out] at hh
                      exact hh)
                    go_wp2_with fail
                    refine HWt.out.mono ?_
                    rintro e w8 ⟨rfl, rfl⟩
                    go_wp2_with fail
                    refine (HNa.out.dev (P := fun e _ => e = .returned (.tuple #[])) (fun X hX hU => onD_all hX none 0 0 [] (NumsIn.nil _) (fun h => absurd h (by omega)) (by omega) (by rw [H8a.out]; exact Nat.zero_le _))).mono ?_
                    rintro e w9 ⟨rfl, hn⟩
                    obtain ⟨s5, hs5⟩ : ∃ s5, s5 = s8.on [] := ⟨_, rfl⟩
                    rw [← hs5] at hn
                    have h5 : s5.off = false ∧ s5.wa = [] := by
                      rw [hs5]
                      unfold Dv.on
                      split
                      · exact ⟨rfl, rfl⟩
                      · rename_i h; exact ⟨by simpa using h, H8a.out⟩
                    have h5s : s5.st = s3.image := by
                      rw [← H8b.out, hs5]
                      unfold Dv.on
                      split
                      · show onL s8.st s8.wa [] s8.wa.length = s8.st
                        rw [H8a.out]
                        rfl
                      · rfl
                    have Hnow := Lib.hid (show ∀ i, i < j → s5.now i = s3.now i from fun i hi => by
                      rw [Dv.now, h5.2, h5s, List.getD_eq_getElem?_getD, s3.image_at (by rw [← Hn.out]; exact hi)]
                      rfl)
                    have H5 := Lib.hid h5
                    have Hn5 := Lib.hid (show j = s5.st.length by rw [h5s, Dv.image_len]; exact Hn.out)
                    have HB7 := Lib.hid (blk_mods HBS.out hn.2 HVn.out)
                    have Hw7 := Lib.hid (below_mods HwS.out hn.2 HwS.out.size (fun k hk => (HVB.out k hk).2))
                    have HOw7 := Lib.hid (own_eq HownS.out (fun k hk => hn.2.block k (HownS.out.lt k hk).2 (fun hv => by
                      have h1 := (HVB.out k hv).1
                      have h2 := (HownS.out.lt k hk).1
                      omega)))
                    have Hes7 := Lib.hid (HesS.out.mods hn.2 (fun k hk => (HVB.out k hk).1))
                    obtain ⟨⟨F7, G7, hD7, _⟩, _⟩ := hn
                    have HD7 := Lib.hid hD7
                    clear hs5 h5 h5s hD7 HNa cP HWt
                    obtain ⟨w7, rfl⟩ : ∃ q : World, q = w9 := ⟨_, rfl⟩
                    go_wp2_with fail
                    go_loopw [16] (fun qv wx => ∃ q : Nat, q ≤ j ∧ qv = .int .i64 q ∧ Below w7.heap.size w7 wx) (fun qv _ => j - (intOf qv).toNat)
                    case atStart => exact ⟨0, by omega, rfl, nu_refl w7⟩
                    case round =>
                      obtain ⟨q, hq, rfl, hb⟩ := hrel
                      have cP : wr.cell? ⟨B, 0, none⟩ = some (.pointer (some ⟨d, 0, none⟩)) := (HB7.out.below hb HB7.out.lt).at 0 _ rfl
                      have Hb := Lib.hid hb
                      clear hb
                      by_cases hlt : q < j
                      · have hqi : (q : Int) < (j : Int) := by omega
                        have hqs : q < s5.st.length := by rw [← Hn5.out]; exact hlt
                        have HRd := Lib.hid (readD_good (HD7.out.below Hb.out) q hqs H5.out.1 (by rw [H5.out.2]; exact Nat.zero_le _))
                        have Hbl := Lib.hid (HD7.out.1.now hqs)
                        have HOq := Lib.hid (own_eq HOw7.out (fun k hk => Hb.out.block k (HOw7.out.lt k hk).2))
                        obtain ⟨u, hu⟩ : ∃ u, es[q]? = some u := ⟨_, List.getElem?_eq_getElem (by have := HOw7.out.1; omega)⟩
                        obtain ⟨G, rfl, _, hGB⟩ := Hes7.out.below Hb.out q u hu
                        obtain ⟨gw, hgw⟩ : ∃ gw, va = some ⟨gw, 0, none⟩ := by
                          rcases HOq.out.2 with ⟨_, h0⟩ | ⟨gw, cap, cur, h1, _⟩
                          · omega
                          · injection h1 with h1
                            exact ⟨gw, h1⟩
                        subst hgw
                        have cW : wr.cell? ⟨gw, q, none⟩ = some (.slice (some ⟨G, 0, none⟩) 256 256) := by rw [HOq.out.cellAt q (by omega)]; exact hu
                        have HGB := Lib.hid hGB
                        obtain ⟨D, hD⟩ : ∃ D, D = s5.now q := ⟨_, rfl⟩
                        rw [← Hnow.out q hlt, ← hD] at HGB
                        rw [← hD] at HRd Hbl
                        clear hu hGB hD hqs HOq
                        go_wp2_with fail
                        refine HRd.out.mono ?_
                        rintro e w8 ⟨G2, rfl, _, hB2, hb8⟩
                        have cW := cell_below hb8 cW
                        have HGB8 := Lib.hid (HGB.out.below hb8 HGB.out.lt)
                        have HB8 := Lib.hid hB2
                        have Hb8 := Lib.hid (nu_trans0 Hb.out hb8)
                        clear hB2 hb8 HGB HRd cP Hb
                        go_wp2_with fail
                        refine (same_is (xs := D) (ys := D) true (decide_eq_true rfl) (bytes_256 HB8.out Hbl.out).1 (bytes_256 HGB8.out Hbl.out).1 (by omega) (by omega)).mono ?_
                        rintro e w9 ⟨rfl, nn, rfl⟩
                        have Hb9 := Lib.hid (nu_trans0 Hb8.out (nu_drewN (nu_refl w8) nn))
                        clear HB8 HGB8 Hb8 cW Hbl
                        generalize w8.drewN nn = w9 at *
                        go_wp2_with fail
                        go_roundw
                        case rel => first | exact ⟨q + 1, by omega, by go_num, Hb9.out⟩ | ((repeat apply Exists.intro); exact ⟨⟨q + 1, by omega, by go_num, Hb9.out⟩, rfl⟩)
                        case measure => simp [intOf]; omega
                      · obtain rfl : q = j := by omega
                        have hqi : ¬ (q : Int) < (q : Int) := by omega
                        have HE := Lib.hid (nu_trans0 Hw7.out Hb.out)
                        go_wp2_with fail
                        refine (awake10 wr).mono ?_
                        rintro e w8 ⟨rfl, hb8⟩
                        have HE2 := Lib.hid (nu_trans0 HE.out hb8)
                        clear hb8
                        go_wp2_with fail
                        go_ret
                        exact ⟨rfl, HE2.out⟩
                  · have hki : ¬ (k : Int) < (len2 : Int) := by omega
                    clear hmore
                    have hlen8 : p.cp.length ≤ 8 := HN.out.1.okD.cp
                    have hNp : p.cp[N]? = some s3.image := by
                      obtain ⟨l, hl⟩ := Hcp.out.2
                      rw [hl, Hs6.out, Dv.snap]
                      show (s3.cp ++ [s3.image] ++ l)[N]? = _
                      rw [List.append_assoc, List.getElem?_append_right (by rw [HN8.out]; exact Nat.le_refl _), HN8.out, Nat.sub_self]
                      rfl
                    have hNl : N < p.cp.length := (List.getElem?_eq_some_iff.1 hNp).1
                    have hcode : p.backC (N : Int) = 0 := if_pos ⟨by omega, by omega⟩
                    have hstate : p.backS (N : Int) = p.back N := if_pos ⟨by omega, by omega⟩
                    have cP : wr.cell? ⟨B, 0, none⟩ = some (.pointer (some ⟨d, 0, none⟩)) := HBk.out.at 0 _ rfl
                    have HBa := Lib.hid (fun (X : Nat → Prop) (hX : DevRep wr d p X) => backD_all hX (N : Int))
                    rw [hcode, hstate] at HBa
                    obtain ⟨s8, hs8⟩ : ∃ s8, s8 = p.back N := ⟨_, rfl⟩
                    rw [← hs8] at HBa
                    have h8a : s8.wa = [] := by rw [hs8]; rfl
                    have h8b : s8.st = s3.image := by rw [hs8, Dv.back]; show p.cp.getD N [] = _; rw [List.getD_eq_getElem?_getD, hNp]; rfl
                    clear hs8 hcode hstate hNp hNl
                    have H8a := Lib.hid h8a
                    have H8b := Lib.hid h8b
                    clear h8a h8b
                    go_wp2_with fail
                    refine (HN.out.dev (P := fun e _ => e = .returned (.int .i64 0)) (fun X hX hU => HBa.out X hX)).mono ?_
                    rintro e w7 ⟨rfl, hn⟩
                    have HNa := Lib.hid hn
                    clear hn HN HBa cP HBk
                    have cP : w7.cell? ⟨B, 0, none⟩ = some (.pointer (some ⟨d, 0, none⟩)) := (blk_mods HBS.out HNa.out.2 HVn.out).at 0 _ rfl
                    have HWt := Lib.hid (show Calls Try.prog 28 #[.pointer (some ⟨d, 0, none⟩)] w7 fun e w' => e = .returned (.int .i64 0) ∧ w7 = w' from by
                      obtain ⟨F7, G7, hD7, _⟩ := HNa.out.1
                      have hh := waits_any hD7
                      rw [H8a.out] at hh
                      exact hh)
                    go_wp2_with fail
                    refine HWt.out.mono ?_
                    rintro e w8 ⟨rfl, rfl⟩
                    go_wp2_with fail
                    refine (HNa.out.dev (P := fun e _ => e = .returned (.tuple #[])) (fun X hX hU => onD_all hX none 0 0 [] (NumsIn.nil _) (fun h => absurd h (by omega)) (by omega) (by rw [H8a.out]; exact Nat.zero_le _))).mono ?_
                    rintro e w9 ⟨rfl, hn⟩
                    obtain ⟨s5, hs5⟩ : ∃ s5, s5 = s8.on [] := ⟨_, rfl⟩
                    rw [← hs5] at hn
                    have h5 : s5.off = false ∧ s5.wa = [] := by
                      rw [hs5]
                      unfold Dv.on
                      split
                      · exact ⟨rfl, rfl⟩
                      · rename_i h; exact ⟨by simpa using h, H8a.out⟩
                    have h5s : s5.st = s3.image := by
                      rw [← H8b.out, hs5]
                      unfold Dv.on
                      split
                      · show onL s8.st s8.wa [] s8.wa.length = s8.st
                        rw [H8a.out]
                        rfl
                      · rfl
                    have Hnow := Lib.hid (show ∀ i, i < j → s5.now i = s3.now i from fun i hi => by
                      rw [Dv.now, h5.2, h5s, List.getD_eq_getElem?_getD, s3.image_at (by rw [← Hn.out]; exact hi)]
                      rfl)
                    have H5 := Lib.hid h5
                    have Hn5 := Lib.hid (show j = s5.st.length by rw [h5s, Dv.image_len]; exact Hn.out)
                    have HB7 := Lib.hid (blk_mods HBS.out hn.2 HVn.out)
                    have Hw7 := Lib.hid (below_mods HwS.out hn.2 HwS.out.size (fun k hk => (HVB.out k hk).2))
                    have HOw7 := Lib.hid (own_eq HownS.out (fun k hk => hn.2.block k (HownS.out.lt k hk).2 (fun hv => by
                      have h1 := (HVB.out k hv).1
                      have h2 := (HownS.out.lt k hk).1
                      omega)))
                    have Hes7 := Lib.hid (HesS.out.mods hn.2 (fun k hk => (HVB.out k hk).1))
                    obtain ⟨⟨F7, G7, hD7, _⟩, _⟩ := hn
                    have HD7 := Lib.hid hD7
                    clear hs5 h5 h5s hD7 HNa cP HWt
                    obtain ⟨w7, rfl⟩ : ∃ q : World, q = w9 := ⟨_, rfl⟩
                    go_wp2_with fail
                    go_loopw [16] (fun qv wx => ∃ q : Nat, q ≤ j ∧ qv = .int .i64 q ∧ Below w7.heap.size w7 wx) (fun qv _ => j - (intOf qv).toNat)
                    case atStart => exact ⟨0, by omega, rfl, nu_refl w7⟩
                    case round =>
                      obtain ⟨q, hq, rfl, hb⟩ := hrel
                      have cP : wr.cell? ⟨B, 0, none⟩ = some (.pointer (some ⟨d, 0, none⟩)) := (HB7.out.below hb HB7.out.lt).at 0 _ rfl
                      have Hb := Lib.hid hb
                      clear hb
                      by_cases hlt : q < j
                      · have hqi : (q : Int) < (j : Int) := by omega
                        have hqs : q < s5.st.length := by rw [← Hn5.out]; exact hlt
                        have HRd := Lib.hid (readD_good (HD7.out.below Hb.out) q hqs H5.out.1 (by rw [H5.out.2]; exact Nat.zero_le _))
                        have Hbl := Lib.hid (HD7.out.1.now hqs)
                        have HOq := Lib.hid (own_eq HOw7.out (fun k hk => Hb.out.block k (HOw7.out.lt k hk).2))
                        obtain ⟨u, hu⟩ : ∃ u, es[q]? = some u := ⟨_, List.getElem?_eq_getElem (by have := HOw7.out.1; omega)⟩
                        obtain ⟨G, rfl, _, hGB⟩ := Hes7.out.below Hb.out q u hu
                        obtain ⟨gw, hgw⟩ : ∃ gw, va = some ⟨gw, 0, none⟩ := by
                          rcases HOq.out.2 with ⟨_, h0⟩ | ⟨gw, cap, cur, h1, _⟩
                          · omega
                          · injection h1 with h1
                            exact ⟨gw, h1⟩
                        subst hgw
                        have cW : wr.cell? ⟨gw, q, none⟩ = some (.slice (some ⟨G, 0, none⟩) 256 256) := by rw [HOq.out.cellAt q (by omega)]; exact hu
                        have HGB := Lib.hid hGB
                        obtain ⟨D, hD⟩ : ∃ D, D = s5.now q := ⟨_, rfl⟩
                        rw [← Hnow.out q hlt, ← hD] at HGB
                        rw [← hD] at HRd Hbl
                        clear hu hGB hD hqs HOq
                        go_wp2_with fail
                        refine HRd.out.mono ?_
                        rintro e w8 ⟨G2, rfl, _, hB2, hb8⟩
                        have cW := cell_below hb8 cW
                        have HGB8 := Lib.hid (HGB.out.below hb8 HGB.out.lt)
                        have HB8 := Lib.hid hB2
                        have Hb8 := Lib.hid (nu_trans0 Hb.out hb8)
                        clear hB2 hb8 HGB HRd cP Hb
                        go_wp2_with fail
                        refine (same_is (xs := D) (ys := D) true (decide_eq_true rfl) (bytes_256 HB8.out Hbl.out).1 (bytes_256 HGB8.out Hbl.out).1 (by omega) (by omega)).mono ?_
                        rintro e w9 ⟨rfl, nn, rfl⟩
                        have Hb9 := Lib.hid (nu_trans0 Hb8.out (nu_drewN (nu_refl w8) nn))
                        clear HB8 HGB8 Hb8 cW Hbl
                        generalize w8.drewN nn = w9 at *
                        go_wp2_with fail
                        go_roundw
                        case rel => first | exact ⟨q + 1, by omega, by go_num, Hb9.out⟩ | ((repeat apply Exists.intro); exact ⟨⟨q + 1, by omega, by go_num, Hb9.out⟩, rfl⟩)
                        case measure => simp [intOf]; omega
                      · obtain rfl : q = j := by omega
                        have hqi : ¬ (q : Int) < (q : Int) := by omega
                        have HE := Lib.hid (nu_trans0 Hw7.out Hb.out)
                        go_wp2_with fail
                        refine (awake10 wr).mono ?_
                        rintro e w8 ⟨rfl, hb8⟩
                        have HE2 := Lib.hid (nu_trans0 HE.out hb8)
                        clear hb8
                        go_wp2_with fail
                        go_ret
                        exact ⟨rfl, HE2.out⟩
        · have hki : ¬ (k : Int) < (len : Int) := by omega
          clear hmore
          have Hwl := Lib.hid (show s.wa.length ≤ 1000000000 by have := Hcs.out; omega)
          have cP : wr.cell? ⟨B, 0, none⟩ = some (.pointer (some ⟨d, 0, none⟩)) := HBk.out.at 0 _ rfl
          go_wp2_with fail
          refine (HN.out.dev (P := fun e _ => e = .returned (.tuple #[])) (fun V hV hU => onD_all hV none 0 0 [] (NumsIn.nil _) (fun h => absurd h (by omega)) (by omega) Hwl.out)).mono ?_
          rintro e w5 ⟨rfl, hn⟩
          have HN5 := Lib.hid hn
          clear hn HN HBk Hbw cP
          obtain ⟨s3, hs3⟩ : ∃ s3, s3 = s.on [] := ⟨_, rfl⟩
          rw [← hs3] at HN5
          have hwl3 : s3.wa.length ≤ s.wa.length ∧ s3.wr = s.wr := by
            rw [hs3]
            unfold Dv.on
            split
            · exact ⟨Nat.zero_le _, rfl⟩
            · exact ⟨Nat.le_refl _, rfl⟩
          have Hoff3 := Lib.hid (show s3.off = false by
            rw [hs3]
            unfold Dv.on
            split
            · rfl
            · rename_i h; simpa using h)
          have Hw3 := Lib.hid (show s3.wa.length ≤ 60 ∧ s3.wr.length ≤ 60 ∧ s.wa.length ≤ 60 ∧ s.wr.length ≤ 60 by rw [hwl3.2]; have := Hcs.out; omega)
          clear hs3 hwl3
          have HB5 := Lib.hid (blk_mods HB.out HN5.out.2 HBn.out)
          have Hw5 := Lib.hid (below_mods HwB.out HN5.out.2 HwB.out.size HU.out)
          obtain ⟨V, hV⟩ : ∃ V, V = Grown U wB w5 := ⟨_, rfl⟩
          have hP5 := HN5.out.1
          rw [← hV] at hP5
          have HP5 := Lib.hid hP5
          have HVB := Lib.hid (show ∀ k, V k → k < w5.heap.size ∧ w.heap.size ≤ k from fun k hk => ⟨HP5.out.lt k hk, by
            rw [hV] at hk
            rcases hk with hk | hk
            · exact HU.out k hk
            · exact Nat.le_trans HwB.out.size hk.1⟩)
          have HVn := Lib.hid (show ¬ V B from fun h => by
            rw [hV] at h
            rcases h with h | h
            · exact HBn.out h
            · have := HB.out.lt; omega)
          obtain ⟨F, G0, hD5, _⟩ := hP5
          have HD5 := Lib.hid hD5
          clear hV hD5 HN5
          obtain ⟨n, hn⟩ : ∃ n, n = s3.st.length := ⟨_, rfl⟩
          have Hn := Lib.hid hn
          have hnb : n ≤ 65536 := by rw [hn]; exact HD5.out.1.n2
          clear hn
          have HBl := Lib.hid (show ∀ u, Below w5.heap.size w5 u → Calls Try.prog 27 #[.pointer (some ⟨d, 0, none⟩)] u fun e w' => e = .returned (.int .i64 (n : Int)) ∧ u = w' from fun u hu => Hn.out ▸ blocks_any (HD5.out.below hu))
          obtain ⟨i1, hi1, hi1a, hi1b, hi1c⟩ := info_parts info_b1
          have Hi1 := Lib.hid (And.intro hi1 (And.intro hi1a (And.intro hi1b hi1c)))
          clear hi1 hi1a hi1b hi1c
          go_wp2_with fail
          go_loopw [9, 10] (fun y9 jv wx => ∃ (j : Nat) (v : Value) (es : List Value), j ≤ n ∧ jv = .int .i64 j ∧ v = y9 ∧ Below w5.heap.size w5 wx ∧ wx.ownsRow w5.heap.size 22 1 v j es ∧ WasIs wx w5.heap.size es s3) (fun _ jv _ => n - (intOf jv).toNat)
          case atStart => exact ⟨0, _, [], by omega, rfl, rfl, nu_refl w5, World.ownsRow_nil _ _ _ _, (fun j u h => by cases h)⟩
          case round =>
            obtain ⟨j, v9, es, hj, rfl, rfl, hb, hown, hes⟩ := hrel
            have cP : wr.cell? ⟨B, 0, none⟩ = some (.pointer (some ⟨d, 0, none⟩)) := (HB5.out.below hb HB5.out.lt).at 0 _ rfl
            have Hb := Lib.hid hb
            have Hown := Lib.hid hown
            have Hes := Lib.hid hes
            have HBr := Lib.hid (HBl.out wr hb)
            clear hb hown hes
            by_cases hlt : j < n
            · have hji : (j : Int) < (n : Int) := by omega
              have HRd := Lib.hid (readD_good (HD5.out.below Hb.out) j (by rw [← Hn.out]; exact hlt) Hoff3.out (by have := Hw3.out; omega))
              have Hbl := Lib.hid (HD5.out.1.now (i := j) (by rw [← Hn.out]; exact hlt))
              go_wp2_with fail
              refine HBr.out.mono ?_
              rintro e w6 ⟨rfl, rfl⟩
              go_wp2_with fail
              refine HRd.out.mono ?_
              rintro e w6 ⟨G, rfl, hG, hB, hb6⟩
              have hal := nu_alloc (nu_refl w6) (.cells #[.slice (some ⟨G, 0, none⟩) 256 256] 22)
              have hb7 := nu_trans hb6 hal
              have HA := Lib.hid (Blk.made w6 22 #[.slice (some ⟨G, 0, none⟩) 256 256])
              have HOw := Lib.hid (own_eq Hown.out (fun q hq => hb7.block q (Hown.out.lt q hq).2))
              have HBG := Lib.hid (hB.below hal hB.lt)
              have HGw := Lib.hid (show w5.heap.size ≤ G from Nat.le_trans Hb.out.size hG)
              have Hes7 := Lib.hid (Hes.out.below hb7)
              have Hb7 := Lib.hid (nu_trans0 Hb.out hb7)
              have Hel := Lib.hid (show es.length = j from by have := Hown.out.1; omega)
              clear hG hB hb6 hal hb7 HRd HBr cP Hown Hes Hb
              go_upto_region 12 with (first | (refine wpList_runW _ _ rfl (exec_slice1 (.tmp 64) 50 22 i1 (.slice none 0 0) 1 Try.underlying50 Hi1.out.1 Hi1.out.2.1 Hi1.out.2.2.1 (by omega) (by omega) (.slice (some ⟨G, 0, none⟩) 256 256) rfl rfl rfl) ?_) | (at_builtin; refine wpList_append_own _ rfl (.tmp 63) (.tmp 65) 50 rfl w5.heap.size 22 i1 (.slice none 0 0) 1 24 Try.underlying50 Hi1.out.1 Hi1.out.2.1 Hi1.out.2.2.1 Hi1.out.2.2.2 rfl (by omega) _ j es rfl HOw.out ⟨w6.heap.size, 0, none⟩ 1 1 [.slice (some ⟨G, 0, none⟩) 256 256] rfl rfl (fun j u hu => by rw [Addr.add_lit, Nat.zero_add]; exact HA.out.at j u (by simpa using hu)) (fun u hu => by rw [List.mem_singleton.1 hu]; rfl) (by unfold maxLen; omega) (by omega) Hb7.out.size ?_))
              intro v' w8 hown hg _
              have HR := Lib.hid (show Below w5.heap.size w5 w8 ∧ w8.ownsRow w5.heap.size 22 1 v' (j + 1) (es ++ [.slice (some ⟨G, 0, none⟩) 256 256]) ∧ WasIs w8 w5.heap.size (es ++ [.slice (some ⟨G, 0, none⟩) 256 256]) s3 from
                ⟨Hb7.out.grown hg Hb7.out.size (fun q hq => (HOw.out.lt q hq).1), hown, (Hes7.out.snoc Hel.out HGw.out HBG.out).keep (own_typed HOw.out) hg⟩)
              clear hown hg HA HOw HBG HGw Hes7 Hb7 Hel
              go_wp2_with fail
              go_roundw
              case rel => first | exact ⟨j + 1, v', _, by omega, by go_num, rfl, HR.out⟩ | ((repeat apply Exists.intro); exact ⟨⟨j + 1, v', _, by omega, by go_num, rfl, HR.out⟩, rfl⟩)
              case measure => simp [intOf]; omega
            · obtain rfl : j = n := by omega
              have hji : ¬ (j : Int) < (j : Int) := by omega
              obtain ⟨va, vc, rfl⟩ := own_len Hown.out
              go_wp2_with fail
              refine HBr.out.mono ?_
              rintro e w6 ⟨rfl, rfl⟩
              have HPr := Lib.hid (PairTo.refl (HP5.out.below Hb.out))
              have Hwr := Lib.hid (nu_trans0 Hw5.out Hb.out)
              have HBr2 := Lib.hid (HB5.out.below Hb.out HB5.out.lt)
              clear HBr
              go_wp2_with fail
              refine (HPr.out.dev (P := fun e _ => e = .returned (.tuple #[.int .i64 s3.snapN, .int .i64 s3.snapC])) (fun X hX hU => snapD_all hX (by have := Hw3.out; omega))).mono ?_
              rintro e w6 ⟨rfl, hn⟩
              have HwS := Hwr
              have HBS := HBr2
              have HownS := Hown
              have HesS := Hes
              obtain ⟨wS, rfl⟩ : ∃ q : World, q = wr := ⟨_, rfl⟩
              by_cases h8 : s3.cp.length = 8
              · have e1 : s3.snapC = 11 := if_pos h8
                have HwE := Lib.hid (below_mods HwS.out hn.2 HwS.out.size (fun k hk => (HVB.out k hk).2))
                rw [e1]
                clear hn HPr e1 cP
                go_wp2_with fail
                refine (awake10 w6).mono ?_
                rintro e w7 ⟨rfl, hb8⟩
                have HE2 := Lib.hid (nu_trans0 HwE.out hb8)
                clear hb8
                go_wp2_with fail
                go_ret
                exact ⟨rfl, HE2.out⟩
              have e1 : s3.snapC = 0 := if_neg h8
              obtain ⟨N, hN⟩ : ∃ N, N = s3.cp.length := ⟨_, rfl⟩
              have e2 : s3.snapN = (N : Int) := by rw [hN]; exact if_neg h8
              have hN8 : N < 8 := by have := HD5.out.1.cp; omega
              have HN8 := Lib.hid hN
              obtain ⟨s6, hs6⟩ : ∃ s6, s6 = s3.snapS := ⟨_, rfl⟩
              have Hs6 := Lib.hid (show s6 = s3.snap from hs6.trans (if_neg h8))
              rw [← hs6] at hn
              have HN6 := Lib.hid hn
              rw [e1, e2]
              have Hl0 := Lib.hid (show s6.wa.length ≤ 61 + 0 ∧ s6.wr.length ≤ 61 + 0 ∧ s.wa.length ≤ 61 + 0 ∧ s.wr.length ≤ 61 + 0 from by
                rw [Hs6.out]
                have := Hw3.out
                show s3.wa.length ≤ _ ∧ s3.wr.length ≤ _ ∧ _
                omega)
              clear hn HPr e1 e2 cP h8 hs6 hN Hown Hes
              go_wp2_with fail
              go_loopw [15] (fun iv wx => ∃ (k : Nat) (p q : Dv), k ≤ len2 ∧ k ≤ 60 ∧ iv = .int .i64 k ∧ PairTo V wS wx d x p q ∧ (p.st.length = s3.st.length ∧ ∃ l, p.cp = s6.cp ++ l) ∧ (p.wa.length ≤ 61 + k ∧ p.wr.length ≤ 61 + k ∧ q.wa.length ≤ 61 + k ∧ q.wr.length ≤ 61 + k)) (fun iv _ => len2 - (intOf iv).toNat)
              case atStart => exact ⟨0, _, _, by omega, by omega, rfl, HN6.out, ⟨by rw [Hs6.out]; rfl, [], (List.append_nil _).symm⟩, Hl0.out⟩
              case round =>
                clear HN6 Hl0
                obtain ⟨k, p, q, hk, hk2, rfl, hN, hcp, hl⟩ := hrel
                have HN := Lib.hid hN
                have Hcp := Lib.hid hcp
                have Hl := Lib.hid hl
                have HBk := Lib.hid (blk_mods HBS.out hN.2 HVn.out)
                have Hbw := Lib.hid (below_mods HwS.out hN.2 HwS.out.size (fun k hk => (HVB.out k hk).2))
                clear hN hcp hl
                by_cases hmore : k < len2 ∧ k < 60
                · obtain ⟨hlt, hl2⟩ := hmore
                  have hki : (k : Int) < (len2 : Int) := by omega
                  have hki2 : (k : Int) < 60 := by omega
                  obtain ⟨b0, off, rfl, hbl, hc⟩ := HAs2.out (by omega)
                  obtain ⟨kd, av, bv, da, dl, dc, fa, fl, fc, ys, fs, hA⟩ := hc k hlt
                  have HA := Lib.hid hA
                  obtain ⟨hd, hf⟩ := HS2.out b0 off rfl k hlt (by omega) da dl dc fa fl fc hA.c3 hA.c4
                  have Hd := Lib.hid hd
                  have Hf := Lib.hid hf
                  have HAr := Lib.hid (show ∀ u, Below wr.heap.size wr u → u.rangeAt b0 (off + k * 5) [.int .i64 kd, .int .i64 av, .int .i64 bv, .slice da dl dc, .slice fa fl fc] from fun u hu => hA.range (nu_trans0 Hbw.out hu))
                  have HAw := Lib.hid (show ∀ u, Mods V wS u → u.rangeAt b0 (off + k * 5) [.int .i64 kd, .int .i64 av, .int .i64 bv, .slice da dl dc, .slice fa fl fc] from fun u hu => hA.range (below_mods HwS.out hu HwS.out.size (fun k hk => (HVB.out k hk).2)))
                  clear hc hA hd hf
                  go_upto_region 21 with fail
                  refine wp_region_held_drew (S := fun W => Blk W B 45 #[.pointer (some ⟨d, 0, none⟩), .pointer (some ⟨x, 0, none⟩)] ∧ W.rangeAt b0 (off + k * 5) [.int .i64 kd, .int .i64 av, .int .i64 bv, .slice da dl dc, .slice fa fl fc]) (by kernel_rfl) (⟨HBk.out.drew, HAr.out _ (nu_drew (nu_refl wr))⟩) (fun hHeld => ?_)
                  dsimp only [Array.replicate, List.replicate, List.size_toArray, List.length_cons, List.length_nil, Nat.reduceAdd] at hHeld ⊢
                  have HN0 := Lib.hid (HN.out.then_below (nu_drew (nu_refl wr)))
                  clear HN
                  generalize wr.drew = u0 at *
                  refine take_l (i := 0) rfl (by kernel_rfl) (by kernel_rfl) (by kernel_rfl) (fun _ _ _ h => h) (Or.inl ⟨by rfl, fun W hS => e_pair hS.1 (.tmp 7) rfl rfl⟩) (by assumption) ?_
                  simp only [Act.put, List.setIfInBounds_toArray, List.set_cons_zero, List.set_cons_succ]
                  refine take_l (i := 1) (v := ?_) rfl (by kernel_rfl) (by kernel_rfl) (by kernel_rfl) (fun _ _ _ h => h) (Or.inl ⟨by rfl, ?_⟩) (by assumption) ?_
                  case refine_2 => (intro _ _; go_simp; all_goals with_reducible rfl)
                  simp only [Act.put, List.setIfInBounds_toArray, List.set_cons_zero, List.set_cons_succ]
                  refine take_l (i := 2) (v := ?_) rfl (by kernel_rfl) (by kernel_rfl) (by kernel_rfl) (fun _ _ _ h => h) (Or.inl ⟨by rfl, ?_⟩) (by assumption) ?_
                  case refine_2 => (intro _ _; go_simp; all_goals with_reducible rfl)
                  simp only [Act.put, List.setIfInBounds_toArray, List.set_cons_zero, List.set_cons_succ]
                  refine take_l (i := 3) (v := ?_) rfl (by kernel_rfl) (by kernel_rfl) (by kernel_rfl) (fun _ _ _ h => h) (Or.inl ⟨by rfl, ?_⟩) (by assumption) ?_
                  case refine_2 => (intro _ _; go_simp; all_goals with_reducible rfl)
                  simp only [Act.put, List.setIfInBounds_toArray, List.set_cons_zero, List.set_cons_succ]
                  refine take_l (i := 4) rfl (by kernel_rfl) (by kernel_rfl) (by kernel_rfl) (fun _ _ _ h => h) (Or.inl ⟨by rfl, fun W hS => e_act hS.2 (.tmp 93) rfl rfl⟩) (by assumption) ?_
                  simp only [Act.put, List.setIfInBounds_toArray, List.set_cons_zero, List.set_cons_succ]
                  clear hHeld
                  refine wpAnyH_ready (rs := [5]) (by kernel_rfl) (by simp) ?_
                  refine cons_l rfl (fun K hK => ?_) AllReadyH.nil
                  go_simp
                  go_at_call 26
                  refine (do_stepq (fun k hk => (HVB.out k hk).2) HwS.out HN0.out HA.out Hd.out Hf.out (by have := Hl.out; omega) (by have := Hl.out; omega) (by have := Hl.out; omega) (by have := Hl.out; omega)).mono ?_
                  rintro e u1 ⟨v, p1, q1, rfl, hst, hst2, hn⟩
                  have HN1 := Lib.hid hn
                  have Hl1 := Lib.hid (show p1.wa.length ≤ 61 + (k + 1) ∧ p1.wr.length ≤ 61 + (k + 1) ∧ q1.wa.length ≤ 61 + (k + 1) ∧ q1.wr.length ≤ 61 + (k + 1) from by have h1 := hst.2.1; have h2 := hst.2.2.1; have h3 := hst2.2.1; have h4 := hst2.2.2.1; have h5 := Hl.out; omega)
                  have Hcp1 := Lib.hid (show p1.st.length = s3.st.length ∧ ∃ l, p1.cp = s6.cp ++ l from ⟨hst.1.trans Hcp.out.1, by
                      obtain ⟨l1, h1⟩ := Hcp.out.2
                      obtain ⟨l2, h2⟩ := hst.2.2.2
                      exact ⟨l1 ++ l2, by rw [h2, h1, List.append_assoc]⟩⟩)
                  have HBk1 := Lib.hid (blk_mods HBS.out hn.2 HVn.out)
                  have HAr1 := Lib.hid (HAw.out _ hn.2)
                  clear hst hst2 hn HN0
                  go_wp2_with fail
                  refine hK.out _ _ ⟨HBk1.out, HAr1.out⟩ (fun hHeld => ?_)
                  clear hK K hHeld
                  simp only [Act.put, List.setIfInBounds_toArray, List.set_cons_zero, List.set_cons_succ]
                  refine wpAnyH_done (by kernel_rfl) ?_ _
                  go_wp2_with fail
                  go_roundw
                  case rel => first | exact ⟨k + 1, p1, q1, by omega, by omega, by go_num, HN1.out, Hcp1.out, Hl1.out⟩ | ((repeat apply Exists.intro); exact ⟨⟨k + 1, p1, q1, by omega, by omega, by go_num, HN1.out, Hcp1.out, Hl1.out⟩, rfl⟩)
                  case measure => simp [intOf]; omega
                · by_cases hlt : k < len2
                  · have hki : (k : Int) < (len2 : Int) := by omega
                    have hki2 : ¬ (k : Int) < 60 := by omega
                    clear hmore
                    have hlen8 : p.cp.length ≤ 8 := HN.out.1.okD.cp
                    have hNp : p.cp[N]? = some s3.image := by
                      obtain ⟨l, hl⟩ := Hcp.out.2
                      rw [hl, Hs6.out, Dv.snap]
                      show (s3.cp ++ [s3.image] ++ l)[N]? = _
                      rw [List.append_assoc, List.getElem?_append_right (by rw [HN8.out]; exact Nat.le_refl _), HN8.out, Nat.sub_self]
                      rfl
                    have hNl : N < p.cp.length := (List.getElem?_eq_some_iff.1 hNp).1
                    have hcode : p.backC (N : Int) = 0 := if_pos ⟨by omega, by omega⟩
                    have hstate : p.backS (N : Int) = p.back N := if_pos ⟨by omega, by omega⟩
                    have cP : wr.cell? ⟨B, 0, none⟩ = some (.pointer (some ⟨d, 0, none⟩)) := HBk.out.at 0 _ rfl
                    have HBa := Lib.hid (fun (X : Nat → Prop) (hX : DevRep wr d p X) => backD_all hX (N : Int))
                    rw [hcode, hstate] at HBa
                    obtain ⟨s8, hs8⟩ : ∃ s8, s8 = p.back N := ⟨_, rfl⟩
                    rw [← hs8] at HBa
                    have h8a : s8.wa = [] := by rw [hs8]; rfl
                    have h8b : s8.st = s3.image := by rw [hs8, Dv.back]; show p.cp.getD N [] = _; rw [List.getD_eq_getElem?_getD, hNp]; rfl
                    clear hs8 hcode hstate hNp hNl
                    have H8a := Lib.hid h8a
                    have H8b := Lib.hid h8b
                    clear h8a h8b
                    go_wp2_with fail
                    refine (HN.out.dev (P := fun e _ => e = .returned (.int .i64 0)) (fun X hX hU => HBa.out X hX)).mono ?_
                    rintro e w7 ⟨rfl, hn⟩
                    have HNa := Lib.hid hn
                    clear hn HN HBa cP HBk
                    have cP : w7.cell? ⟨B, 0, none⟩ = some (.pointer (some ⟨d, 0, none⟩)) := (blk_mods HBS.out HNa.out.2 HVn.out).at 0 _ rfl
                    have HWt := Lib.hid (show Calls Try.prog 28 #[.pointer (some ⟨d, 0, none⟩)] w7 fun e w' => e = .returned (.int .i64 0) ∧ w7 = w' from by
                      obtain ⟨F7, G7, hD7, _⟩ := HNa.out.1
                      have hh := waits_any hD7
                      rw [H8a.out] at hh
                      exact hh)
                    go_wp2_with fail
                    refine HWt.out.mono ?_
                    rintro e w8 ⟨rfl, rfl⟩
                    go_wp2_with fail
                    refine (HNa.out.dev (P := fun e _ => e = .returned (.tuple #[])) (fun X hX hU => onD_all hX none 0 0 [] (NumsIn.nil _) (fun h => absurd h (by omega)) (by omega) (by rw [H8a.out]; exact Nat.zero_le _))).mono ?_
                    rintro e w9 ⟨rfl, hn⟩
                    obtain ⟨s5, hs5⟩ : ∃ s5, s5 = s8.on [] := ⟨_, rfl⟩
                    rw [← hs5] at hn
                    have h5 : s5.off = false ∧ s5.wa = [] := by
                      rw [hs5]
                      unfold Dv.on
                      split
                      · exact ⟨rfl, rfl⟩
                      · rename_i h; exact ⟨by simpa using h, H8a.out⟩
                    have h5s : s5.st = s3.image := by
                      rw [← H8b.out, hs5]
                      unfold Dv.on
                      split
                      · show onL s8.st s8.wa [] s8.wa.length = s8.st
                        rw [H8a.out]
                        rfl
                      · rfl
                    have Hnow := Lib.hid (show ∀ i, i < j → s5.now i = s3.now i from fun i hi => by
                      rw [Dv.now, h5.2, h5s, List.getD_eq_getElem?_getD, s3.image_at (by rw [← Hn.out]; exact hi)]
                      rfl)
                    have H5 := Lib.hid h5
                    have Hn5 := Lib.hid (show j = s5.st.length by rw [h5s, Dv.image_len]; exact Hn.out)
                    have HB7 := Lib.hid (blk_mods HBS.out hn.2 HVn.out)
                    have Hw7 := Lib.hid (below_mods HwS.out hn.2 HwS.out.size (fun k hk => (HVB.out k hk).2))
                    have HOw7 := Lib.hid (own_eq HownS.out (fun k hk => hn.2.block k (HownS.out.lt k hk).2 (fun hv => by
                      have h1 := (HVB.out k hv).1
                      have h2 := (HownS.out.lt k hk).1
                      omega)))
                    have Hes7 := Lib.hid (HesS.out.mods hn.2 (fun k hk => (HVB.out k hk).1))
                    obtain ⟨⟨F7, G7, hD7, _⟩, _⟩ := hn
                    have HD7 := Lib.hid hD7
                    clear hs5 h5 h5s hD7 HNa cP HWt
                    obtain ⟨w7, rfl⟩ : ∃ q : World, q = w9 := ⟨_, rfl⟩
                    go_wp2_with fail
                    go_loopw [16] (fun qv wx => ∃ q : Nat, q ≤ j ∧ qv = .int .i64 q ∧ Below w7.heap.size w7 wx) (fun qv _ => j - (intOf qv).toNat)
                    case atStart => exact ⟨0, by omega, rfl, nu_refl w7⟩
                    case round =>
                      obtain ⟨q, hq, rfl, hb⟩ := hrel
                      have cP : wr.cell? ⟨B, 0, none⟩ = some (.pointer (some ⟨d, 0, none⟩)) := (HB7.out.below hb HB7.out.lt).at 0 _ rfl
                      have Hb := Lib.hid hb
                      clear hb
                      by_cases hlt : q < j
                      · have hqi : (q : Int) < (j : Int) := by omega
                        have hqs : q < s5.st.length := by rw [← Hn5.out]; exact hlt
                        have HRd := Lib.hid (readD_good (HD7.out.below Hb.out) q hqs H5.out.1 (by rw [H5.out.2]; exact Nat.zero_le _))
                        have Hbl := Lib.hid (HD7.out.1.now hqs)
                        have HOq := Lib.hid (own_eq HOw7.out (fun k hk => Hb.out.block k (HOw7.out.lt k hk).2))
                        obtain ⟨u, hu⟩ : ∃ u, es[q]? = some u := ⟨_, List.getElem?_eq_getElem (by have := HOw7.out.1; omega)⟩
                        obtain ⟨G, rfl, _, hGB⟩ := Hes7.out.below Hb.out q u hu
                        obtain ⟨gw, hgw⟩ : ∃ gw, va = some ⟨gw, 0, none⟩ := by
                          rcases HOq.out.2 with ⟨_, h0⟩ | ⟨gw, cap, cur, h1, _⟩
                          · omega
                          · injection h1 with h1
                            exact ⟨gw, h1⟩
                        subst hgw
                        have cW : wr.cell? ⟨gw, q, none⟩ = some (.slice (some ⟨G, 0, none⟩) 256 256) := by rw [HOq.out.cellAt q (by omega)]; exact hu
                        have HGB := Lib.hid hGB
                        obtain ⟨D, hD⟩ : ∃ D, D = s5.now q := ⟨_, rfl⟩
                        rw [← Hnow.out q hlt, ← hD] at HGB
                        rw [← hD] at HRd Hbl
                        clear hu hGB hD hqs HOq
                        go_wp2_with fail
                        refine HRd.out.mono ?_
                        rintro e w8 ⟨G2, rfl, _, hB2, hb8⟩
                        have cW := cell_below hb8 cW
                        have HGB8 := Lib.hid (HGB.out.below hb8 HGB.out.lt)
                        have HB8 := Lib.hid hB2
                        have Hb8 := Lib.hid (nu_trans0 Hb.out hb8)
                        clear hB2 hb8 HGB HRd cP Hb
                        go_wp2_with fail
                        refine (same_is (xs := D) (ys := D) true (decide_eq_true rfl) (bytes_256 HB8.out Hbl.out).1 (bytes_256 HGB8.out Hbl.out).1 (by omega) (by omega)).mono ?_
                        rintro e w9 ⟨rfl, nn, rfl⟩
                        have Hb9 := Lib.hid (nu_trans0 Hb8.out (nu_drewN (nu_refl w8) nn))
                        clear HB8 HGB8 Hb8 cW Hbl
                        generalize w8.drewN nn = w9 at *
                        go_wp2_with fail
                        go_roundw
                        case rel => first | exact ⟨q + 1, by omega, by go_num, Hb9.out⟩ | ((repeat apply Exists.intro); exact ⟨⟨q + 1, by omega, by go_num, Hb9.out⟩, rfl⟩)
                        case measure => simp [intOf]; omega
                      · obtain rfl : q = j := by omega
                        have hqi : ¬ (q : Int) < (q : Int) := by omega
                        have HE := Lib.hid (nu_trans0 Hw7.out Hb.out)
                        go_wp2_with fail
                        refine (awake10 wr).mono ?_
                        rintro e w8 ⟨rfl, hb8⟩
                        have HE2 := Lib.hid (nu_trans0 HE.out hb8)
                        clear hb8
                        go_wp2_with fail
                        go_ret
                        exact ⟨rfl, HE2.out⟩
                  · have hki : ¬ (k : Int) < (len2 : Int) := by omega
                    clear hmore
                    have hlen8 : p.cp.length ≤ 8 := HN.out.1.okD.cp
                    have hNp : p.cp[N]? = some s3.image := by
                      obtain ⟨l, hl⟩ := Hcp.out.2
                      rw [hl, Hs6.out, Dv.snap]
                      show (s3.cp ++ [s3.image] ++ l)[N]? = _
                      rw [List.append_assoc, List.getElem?_append_right (by rw [HN8.out]; exact Nat.le_refl _), HN8.out, Nat.sub_self]
                      rfl
                    have hNl : N < p.cp.length := (List.getElem?_eq_some_iff.1 hNp).1
                    have hcode : p.backC (N : Int) = 0 := if_pos ⟨by omega, by omega⟩
                    have hstate : p.backS (N : Int) = p.back N := if_pos ⟨by omega, by omega⟩
                    have cP : wr.cell? ⟨B, 0, none⟩ = some (.pointer (some ⟨d, 0, none⟩)) := HBk.out.at 0 _ rfl
                    have HBa := Lib.hid (fun (X : Nat → Prop) (hX : DevRep wr d p X) => backD_all hX (N : Int))
                    rw [hcode, hstate] at HBa
                    obtain ⟨s8, hs8⟩ : ∃ s8, s8 = p.back N := ⟨_, rfl⟩
                    rw [← hs8] at HBa
                    have h8a : s8.wa = [] := by rw [hs8]; rfl
                    have h8b : s8.st = s3.image := by rw [hs8, Dv.back]; show p.cp.getD N [] = _; rw [List.getD_eq_getElem?_getD, hNp]; rfl
                    clear hs8 hcode hstate hNp hNl
                    have H8a := Lib.hid h8a
                    have H8b := Lib.hid h8b
                    clear h8a h8b
                    go_wp2_with fail
                    refine (HN.out.dev (P := fun e _ => e = .returned (.int .i64 0)) (fun X hX hU => HBa.out X hX)).mono ?_
                    rintro e w7 ⟨rfl, hn⟩
                    have HNa := Lib.hid hn
                    clear hn HN HBa cP HBk
                    have cP : w7.cell? ⟨B, 0, none⟩ = some (.pointer (some ⟨d, 0, none⟩)) := (blk_mods HBS.out HNa.out.2 HVn.out).at 0 _ rfl
                    have HWt := Lib.hid (show Calls Try.prog 28 #[.pointer (some ⟨d, 0, none⟩)] w7 fun e w' => e = .returned (.int .i64 0) ∧ w7 = w' from by
                      obtain ⟨F7, G7, hD7, _⟩ := HNa.out.1
                      have hh := waits_any hD7
                      rw [H8a.out] at hh
                      exact hh)
                    go_wp2_with fail
                    refine HWt.out.mono ?_
                    rintro e w8 ⟨rfl, rfl⟩
                    go_wp2_with fail
                    refine (HNa.out.dev (P := fun e _ => e = .returned (.tuple #[])) (fun X hX hU => onD_all hX none 0 0 [] (NumsIn.nil _) (fun h => absurd h (by omega)) (by omega) (by rw [H8a.out]; exact Nat.zero_le _))).mono ?_
                    rintro e w9 ⟨rfl, hn⟩
                    obtain ⟨s5, hs5⟩ : ∃ s5, s5 = s8.on [] := ⟨_, rfl⟩
                    rw [← hs5] at hn
                    have h5 : s5.off = false ∧ s5.wa = [] := by
                      rw [hs5]
                      unfold Dv.on
                      split
                      · exact ⟨rfl, rfl⟩
                      · rename_i h; exact ⟨by simpa using h, H8a.out⟩
                    have h5s : s5.st = s3.image := by
                      rw [← H8b.out, hs5]
                      unfold Dv.on
                      split
                      · show onL s8.st s8.wa [] s8.wa.length = s8.st
                        rw [H8a.out]
                        rfl
                      · rfl
                    have Hnow := Lib.hid (show ∀ i, i < j → s5.now i = s3.now i from fun i hi => by
                      rw [Dv.now, h5.2, h5s, List.getD_eq_getElem?_getD, s3.image_at (by rw [← Hn.out]; exact hi)]
                      rfl)
                    have H5 := Lib.hid h5
                    have Hn5 := Lib.hid (show j = s5.st.length by rw [h5s, Dv.image_len]; exact Hn.out)
                    have HB7 := Lib.hid (blk_mods HBS.out hn.2 HVn.out)
                    have Hw7 := Lib.hid (below_mods HwS.out hn.2 HwS.out.size (fun k hk => (HVB.out k hk).2))
                    have HOw7 := Lib.hid (own_eq HownS.out (fun k hk => hn.2.block k (HownS.out.lt k hk).2 (fun hv => by
                      have h1 := (HVB.out k hv).1
                      have h2 := (HownS.out.lt k hk).1
                      omega)))
                    have Hes7 := Lib.hid (HesS.out.mods hn.2 (fun k hk => (HVB.out k hk).1))
                    obtain ⟨⟨F7, G7, hD7, _⟩, _⟩ := hn
                    have HD7 := Lib.hid hD7
                    clear hs5 h5 h5s hD7 HNa cP HWt
                    obtain ⟨w7, rfl⟩ : ∃ q : World, q = w9 := ⟨_, rfl⟩
                    go_wp2_with fail
                    go_loopw [16] (fun qv wx => ∃ q : Nat, q ≤ j ∧ qv = .int .i64 q ∧ Below w7.heap.size w7 wx) (fun qv _ => j - (intOf qv).toNat)
                    case atStart => exact ⟨0, by omega, rfl, nu_refl w7⟩
                    case round =>
                      obtain ⟨q, hq, rfl, hb⟩ := hrel
                      have cP : wr.cell? ⟨B, 0, none⟩ = some (.pointer (some ⟨d, 0, none⟩)) := (HB7.out.below hb HB7.out.lt).at 0 _ rfl
                      have Hb := Lib.hid hb
                      clear hb
                      by_cases hlt : q < j
                      · have hqi : (q : Int) < (j : Int) := by omega
                        have hqs : q < s5.st.length := by rw [← Hn5.out]; exact hlt
                        have HRd := Lib.hid (readD_good (HD7.out.below Hb.out) q hqs H5.out.1 (by rw [H5.out.2]; exact Nat.zero_le _))
                        have Hbl := Lib.hid (HD7.out.1.now hqs)
                        have HOq := Lib.hid (own_eq HOw7.out (fun k hk => Hb.out.block k (HOw7.out.lt k hk).2))
                        obtain ⟨u, hu⟩ : ∃ u, es[q]? = some u := ⟨_, List.getElem?_eq_getElem (by have := HOw7.out.1; omega)⟩
                        obtain ⟨G, rfl, _, hGB⟩ := Hes7.out.below Hb.out q u hu
                        obtain ⟨gw, hgw⟩ : ∃ gw, va = some ⟨gw, 0, none⟩ := by
                          rcases HOq.out.2 with ⟨_, h0⟩ | ⟨gw, cap, cur, h1, _⟩
                          · omega
                          · injection h1 with h1
                            exact ⟨gw, h1⟩
                        subst hgw
                        have cW : wr.cell? ⟨gw, q, none⟩ = some (.slice (some ⟨G, 0, none⟩) 256 256) := by rw [HOq.out.cellAt q (by omega)]; exact hu
                        have HGB := Lib.hid hGB
                        obtain ⟨D, hD⟩ : ∃ D, D = s5.now q := ⟨_, rfl⟩
                        rw [← Hnow.out q hlt, ← hD] at HGB
                        rw [← hD] at HRd Hbl
                        clear hu hGB hD hqs HOq
                        go_wp2_with fail
                        refine HRd.out.mono ?_
                        rintro e w8 ⟨G2, rfl, _, hB2, hb8⟩
                        have cW := cell_below hb8 cW
                        have HGB8 := Lib.hid (HGB.out.below hb8 HGB.out.lt)
                        have HB8 := Lib.hid hB2
                        have Hb8 := Lib.hid (nu_trans0 Hb.out hb8)
                        clear hB2 hb8 HGB HRd cP Hb
                        go_wp2_with fail
                        refine (same_is (xs := D) (ys := D) true (decide_eq_true rfl) (bytes_256 HB8.out Hbl.out).1 (bytes_256 HGB8.out Hbl.out).1 (by omega) (by omega)).mono ?_
                        rintro e w9 ⟨rfl, nn, rfl⟩
                        have Hb9 := Lib.hid (nu_trans0 Hb8.out (nu_drewN (nu_refl w8) nn))
                        clear HB8 HGB8 Hb8 cW Hbl
                        generalize w8.drewN nn = w9 at *
                        go_wp2_with fail
                        go_roundw
                        case rel => first | exact ⟨q + 1, by omega, by go_num, Hb9.out⟩ | ((repeat apply Exists.intro); exact ⟨⟨q + 1, by omega, by go_num, Hb9.out⟩, rfl⟩)
                        case measure => simp [intOf]; omega
                      · obtain rfl : q = j := by omega
                        have hqi : ¬ (q : Int) < (q : Int) := by omega
                        have HE := Lib.hid (nu_trans0 Hw7.out Hb.out)
                        go_wp2_with fail
                        refine (awake10 wr).mono ?_
                        rintro e w8 ⟨rfl, hb8⟩
                        have HE2 := Lib.hid (nu_trans0 HE.out hb8)
                        clear hb8
                        go_wp2_with fail
                        go_ret
                        exact ⟨rfl, HE2.out⟩
end Go.Proofs.Ytjmghpoknlffiaa
