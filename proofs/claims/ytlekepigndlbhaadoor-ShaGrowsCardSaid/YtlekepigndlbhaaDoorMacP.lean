/-
  The walk of MacPads.
-/
import Derived.Test.YtlekepigndlbhaaDoorMacA
import Derived.Test.YtlekepigndlbhaaDoorGreat4
import Derived.Test.YtlekepigndlbhaaDoorPick
import Derived.Test.YtlekepigndlbhaaDoorShaP
namespace Go.Proofs.YtlekepigndlbhaaDoor
open Go.ChangeShapes Go.WideShapes Go.ChangeAt Go.RowKit

theorem exec_nsame_32 {o : Oper} {a : Act} {w : World} (xs : List Nat) (h1 : xs.length = 32) (x y : Operand) (ho : o.op = .binOp .neq 25 x y 25) (hx : a.eval x = .agg (xs.map vb).toArray) (hy : a.eval y = .agg (xs.map vb).toArray) :
    (execOp a.eval o).run Tryd.prog w = .ok (.value (.bool false)) w := by
  have he := run_equalIn_bytes' (P := Tryd.prog) w (t := 25) (e := 5) (n := 32) (i := (Tryd.prog.info? 5).get!) (k := .u8) 9998 (by kernel_rfl) (by kernel_rfl) (by kernel_rfl) (by kernel_rfl) (by kernel_rfl) xs xs h1 h1
  unfold execOp
  simp only [ho, hx, hy]
  simp [run_eqGuard_agg (P := Tryd.prog) w .neq 25 x y (xs.map vb).toArray (xs.map vb).toArray (by kernel_rfl), run_neq_struct, he]
theorem long_kb (key : List Nat) (n : Nat) (h : n ≤ 64 - key.length) : kb (key ++ List.replicate n 0) = kb key := by
  by_cases hk : key.length ≤ 64
  · exact kb_more key n (by omega)
  · obtain rfl : n = 0 := by omega
    simp
theorem long_mac (key text : List Nat) (n : Nat) (h : n ≤ 64 - key.length) : hmac (key ++ List.replicate n 0) text = hmac key text := by
  unfold hmac
  rw [long_kb key n h]

set_option maxRecDepth 100000 in
set_option maxHeartbeats 2000000 in
theorem macPads_walk (a b : Option Addr) (la lb ca cb : Nat) (key text : List Nat) (more : Int) (w : World) (hx : BytesIn w a la ca key) (hy : BytesIn w b lb cb text) (hac : la ≤ ca ∧ ca ≤ 140737488355320) (hbc : lb ≤ cb ∧ cb ≤ 140737488355320)
    (hb1 : -9223372036854775808 ≤ more) (hb2 : more ≤ 9223372036854775807) (hT : TabIn w) :
    Calls Tryd.prog 9 #[.slice a la ca, .slice b lb cb, .int .i64 more] w fun e w' => e = .returned (.bool true) ∧ Below w.heap.size w w' := by
  obtain ⟨v, hv⟩ : ∃ v, decide (20000 < gsum [text] ∨ 20000 < la) = v := ⟨_, rfl⟩
  have Hv := Lib.hid hv
  have HT := Lib.hid hT
  have Hx := Lib.hid hx
  have Hy := Lib.hid hy
  have Hac := Lib.hid hac
  have Hbc := Lib.hid hbc
  have Hxl := Lib.hid hx.1.1
  have Hyl := Lib.hid hy.1.1
  have hal := nu_alloc (nu_refl w) (.cells #[.slice b lb cb] 22)
  have Hal := Lib.hid hal
  have HP := Lib.hid (PartsIn.one hy hbc.1 (by unfold maxLen; omega))
  clear hv hx hy hT hal
  go_enter Tryd.func9, Tryd.ntmps9
  go_wp2_with fail
  refine (great4_any HP.out (by unfold maxLen; omega) (by unfold maxLen; omega) v Hv.out).mono ?_
  rintro e w1 ⟨rfl, rfl⟩
  have hn1 := Hal.out
  generalize w.alloc (.cells #[.slice b lb cb] 22) = w1 at *
  clear Hal HP
  cases v
  · have hsm := of_decide_eq_false Hv.out
    have HY1 := Lib.hid (Hy.out.keep hn1)
    have hX1 := Hx.out.keep hn1
    have hla : la ≤ 20000 := by omega
    have hgs : gsum [text] ≤ 20000 := by omega
    have htl : lb ≤ 20000 := by have h := gsum_small [text] hgs; have h2 := Hyl.out; simp at h; omega
    have hcopy := Lib.hid (copy_any a la ca key w1 hX1 (by omega))
    clear hsm hgs Hv hX1
    go_wp2_with fail
    refine hcopy.out.mono ?_
    rintro e w2 ⟨lv, rfl, hO, hb2'⟩
    have hn2 := nu_trans hn1 hb2'
    have hO' := own_mono hO hn1.size
    obtain ⟨a2, c2, hlv, _, _, _⟩ := hO'.reads
    rw [Hxl.out] at hlv
    subst hlv
    have HO := Lib.hid hO'
    clear hcopy hO hO' hb2' hn1
    obtain ⟨n, hnq⟩ : ∃ n : Nat, (n : Int) = more % 65 := ⟨(more % 65).toNat, Int.toNat_of_nonneg (Int.emod_nonneg _ (by omega))⟩
    have hn65 : n < 65 := by omega
    have Hnq := Lib.hid hnq
    clear hnq
    go_wp2_with fail
    refine (pick_any more 65 n w2 Hnq.out (by omega) (by omega) hb1 hb2).mono ?_
    rintro e w' ⟨rfl, rfl⟩
    go_wp2_with fail
    go_loopw [7, 9] (fun v i wr => ∃ j : Nat, j ≤ n ∧ j ≤ 64 - la ∧ i = .int .i64 j ∧ OwnB wr w.heap.size 5 v (key ++ List.replicate j 0) ∧ Below w.heap.size w wr) (fun _ i _ => 65 - (intOf i).toNat)
    case atStart => exact ⟨0, by omega, by omega, rfl, by simpa using HO.out, hn2⟩
    case round =>
      clear HO hn2
      obtain ⟨j, hjn, hj64, rfl, hO, hn⟩ := hrel
      obtain ⟨ao, co, rfl, hLc, hcm, hby⟩ := hO.reads
      have HLb := Lib.hid hby
      have HO := Lib.hid hO
      clear hby hO
      obtain ⟨L, hL⟩ : ∃ L, L = (key ++ List.replicate j 0).length := ⟨_, rfl⟩
      rw [← hL] at HLb HO hLc ⊢
      have hL2 : L = la + j := by rw [hL, List.length_append, List.length_replicate, Hxl.out]
      have HL := Lib.hid hL
      have hL3 : la + j ≤ L := by omega
      have hL4 : L ≤ la + j := by omega
      clear hL hL2
      by_cases hlt : j < n ∧ L < 64
      · obtain ⟨h1, h2⟩ := hlt
        have hi : (j : Int) < (n : Int) := by omega
        have hi2 : (L : Int) < 64 := by omega
        have HN := Lib.hid (show (key ++ List.replicate j 0).length < 140737488355328 by rw [← HL.out]; omega)
        go_wp2_with (at_builtin; refine wpList_append_byte rfl (.tmp 30) (.tmp 31) rfl HO.out hn.size HN.out _ 0 (by omega) rfl rfl rfl ?_)
        intro v3 w3 hO3 hb3
        have HO3 := Lib.hid (show OwnB w3 w.heap.size 5 v3 (key ++ List.replicate (j + 1) 0) by rw [List.replicate_succ']; exact hO3)
        have hn3 := hn.trans hb3
        clear hO3 hb3 HO HLb
        go_wp2_with fail
        go_roundw
        case rel => first | exact ⟨j + 1, by omega, by omega, by go_num, HO3.out, hn3⟩ | ((repeat apply Exists.intro); exact ⟨⟨j + 1, by omega, by omega, by go_num, HO3.out, hn3⟩, rfl⟩)
        case measure => simp [intOf]; omega
      · obtain ⟨D, hD⟩ : ∃ D, hmac key text = D := ⟨_, rfl⟩
        have HD2 := Lib.hid (show hmac (key ++ List.replicate j 0) [text].flatten = D by rw [long_mac key _ j (by rw [Hxl.out]; exact hj64), ← hD]; simp)
        have HD := Lib.hid (show hmac key [text].flatten = D by rw [← hD]; simp)
        have HDl := Lib.hid (show D.length = 32 by rw [← hD, hmac_len])
        have Hm := Lib.hid (show L ≤ co ∧ co ≤ maxLen ∧ L < 1152921504606846976 from ⟨hLc, hcm, by omega⟩)
        have Hma := Lib.hid (show la ≤ ca ∧ ca ≤ maxLen ∧ la < 1152921504606846976 from ⟨by omega, by unfold maxLen; omega, by omega⟩)
        have Hp := Lib.hid (show 1 ≤ maxLen ∧ [text].flatten.length + 64 < 1152921504606846976 from ⟨by unfold maxLen; omega, by simp [Hyl.out]; omega⟩)
        have Hcb := Lib.hid (show lb ≤ cb ∧ cb ≤ maxLen from ⟨by omega, by unfold maxLen; omega⟩)
        have hex : ¬ (j : Int) < (n : Int) ∨ ((j : Int) < (n : Int) ∧ ¬ (L : Int) < 64) := by omega
        clear hD hlt hLc hcm HO HY1
        obtain ⟨wb, rfl⟩ : ∃ x : World, x = wr := ⟨_, rfl⟩
        have HYb := Lib.hid (Hy.out.keep hn)
        have hala := nu_alloc (nu_refl wb) (.cells #[.slice b lb cb] 22)
        have hna := hn.trans (hala.mono hn.size)
        have HW1 := Lib.hid (macOf_is (pcap := 1) HD2.out (HLb.out.keep hala) Hm.out (PartsIn.one HYb.out Hcb.out.1 Hcb.out.2) Hp.out (HT.out.below hna HT.out.size))
        have Hala := Lib.hid hala
        clear hna hala HLb
        rcases hex with hi | ⟨hi, hi2⟩
        all_goals
          go_wp2_with fail
          refine HW1.out.mono ?_
          rintro e w4 ⟨rfl, hb4⟩
          have hn4 := hn.trans ((nu_trans Hala.out hb4).mono hn.size)
          have HY4 := Lib.hid (Hy.out.keep hn4)
          have HX4 := Lib.hid (Hx.out.keep hn4)
          have hal4 := nu_alloc (nu_refl w4) (.cells #[.slice b lb cb] 22)
          have hn4a := hn4.trans (hal4.mono hn4.size)
          have HW2 := Lib.hid (macOf_is (pcap := 1) HD.out (HX4.out.keep hal4) Hma.out (PartsIn.one HY4.out Hcb.out.1 Hcb.out.2) Hp.out (HT.out.below hn4a HT.out.size))
          clear hn4a hb4 HW1 hn
          go_wp2_with fail
          refine HW2.out.mono ?_
          rintro e w5 ⟨rfl, hb5⟩
          have hn5 := hn4.trans ((nu_trans hal4 hb5).mono hn4.size)
          clear hn4 HY4 HX4 hal4 hb5 HW2
          by_cases hs : la ≤ 64
          · have hsi : (la : Int) ≤ 64 := by omega
            go_wp2_with (refine wpList_run _ rfl (exec_nsame_32 D HDl.out (.tmp 36) (.tmp 40) rfl rfl rfl) ?_)
            refine (macAwake_any (HT.out.below hn5 HT.out.size)).mono ?_
            rintro e w6 ⟨rfl, hb6⟩
            have hn6 := nu_trans hn5 hb6
            go_wp2_with fail
            go_ret
            exact ⟨rfl, hn6⟩
          · have hsi : ¬ (la : Int) ≤ 64 := by omega
            obtain ⟨E, hE⟩ : ∃ E, digest key = E := ⟨_, rfl⟩
            have HE := Lib.hid (show digest [key].flatten = E by rw [← hE]; simp)
            have HEl := Lib.hid (show E.length = 32 by rw [← hE, digest_len])
            have HEx := Lib.hid (show ∀ x ∈ E, x < 256 by rw [← hE]; exact digest_lt key)
            have HED := Lib.hid (show hmac E [text].flatten = D by rw [← hE, ← HD.out]; unfold hmac; rw [kb_digest key (by rw [Hxl.out]; omega)])
            have HX5 := Lib.hid (Hx.out.keep hn5)
            have hal5 := nu_alloc (nu_refl w5) (.cells #[.slice a la ca] 22)
            have HW3 := Lib.hid (of_is (cap := 1) HE.out (PartsIn.one HX5.out Hma.out.1 Hma.out.2.1) (HT.out.below (hn5.trans (hal5.mono hn5.size)) HT.out.size) ⟨by unfold maxLen; omega, by simp [Hxl.out]; omega⟩)
            clear hE
            go_wp2_with (refine wpList_run _ rfl (exec_nsame_32 D HDl.out (.tmp 36) (.tmp 40) rfl rfl rfl) ?_)
            refine HW3.out.mono ?_
            rintro e w6 ⟨rfl, hb6⟩
            have hn6 := hn5.trans ((nu_trans hal5 hb6).mono hn5.size)
            have HN := Lib.hid (Blk.made w6 25 z32)
            have Hl := Lib.hid (show (E.map vb).length = z32.size by rw [List.length_map, HEl.out]; rfl)
            have Hsz := Lib.hid (show (Tryd.prog.info? 25).map (·.size) = some (E.map vb).length by rw [List.length_map, HEl.out]; kernel_rfl)
            have H1 := Lib.hid (vb_one E)
            have HF := Lib.hid (Blk.fill HN.out (E.map vb) Hl.out)
            have hf7 := nu_fill (E.map vb) (g := w6.heap.size) (Nat.le_refl _) 0 _ (nu_alloc (nu_refl w6) (.cells z32 25))
            clear HW3 hb6 hn5 HX5 hal5
            go_upto_region 14 with (refine wpList_store_blk rfl 25 (.tmp 10) (.tmp 48) rfl w6.heap.size (E.map vb) rfl rfl 25 z32 HN.out Hl.out Hsz.out H1.out ?_)
            have hn7 := hn6.trans (hf7.mono hn6.size)
            clear hf7 hn6
            generalize (w6.alloc (.cells z32 25)).setCells w6.heap.size 0 (E.map vb) = w7 at *
            generalize w6.heap.size = g6 at *
            have HE7 := Lib.hid (bytes_blk HF.out HEl.out HEx.out)
            have HY7 := Lib.hid (Hy.out.keep hn7)
            have hal7 := nu_alloc (nu_refl w7) (.cells #[.slice b lb cb] 22)
            have HW4 := Lib.hid (macOf_is (pcap := 1) HED.out (HE7.out.keep hal7) ⟨by omega, by unfold maxLen; omega, by omega⟩ (PartsIn.one HY7.out Hcb.out.1 Hcb.out.2) Hp.out (HT.out.below (hn7.trans (hal7.mono hn7.size)) HT.out.size))
            go_wp2_with fail
            refine HW4.out.mono ?_
            rintro e w8 ⟨rfl, hb8⟩
            have hn8 := hn7.trans ((nu_trans hal7 hb8).mono hn7.size)
            have HY8 := Lib.hid (Hy.out.keep hn8)
            have HX8 := Lib.hid (Hx.out.keep hn8)
            have hal8 := nu_alloc (nu_refl w8) (.cells #[.slice b lb cb] 22)
            have HW5 := Lib.hid (macOf_is (pcap := 1) HD.out (HX8.out.keep hal8) Hma.out (PartsIn.one HY8.out Hcb.out.1 Hcb.out.2) Hp.out (HT.out.below (hn8.trans (hal8.mono hn8.size)) HT.out.size))
            clear HW4 hb8 hn7 HY7 HE7 hal7 HF HN
            go_wp2_with fail
            refine HW5.out.mono ?_
            rintro e w9 ⟨rfl, hb9⟩
            have hn9 := hn8.trans ((nu_trans hal8 hb9).mono hn8.size)
            have HT9 := Lib.hid (HT.out.below hn9 HT.out.size)
            clear HW5 hb9 hn8 hal8
            go_wp2_with (refine wpList_run _ rfl (exec_same_32 D HDl.out (.tmp 52) (.tmp 56) rfl rfl rfl) ?_)
            refine (macAwake_any HT9.out).mono ?_
            rintro e w10 ⟨rfl, hb10⟩
            have hn10 := nu_trans hn9 hb10
            go_wp2_with fail
            go_ret
            exact ⟨rfl, hn10⟩
  · go_wp2_with fail
    refine (macAwake_any (HT.out.below hn1 HT.out.size)).mono ?_
    rintro e w2 ⟨rfl, hb⟩
    have hn2 := nu_trans hn1 hb
    go_wp2_with fail
    go_ret
    exact ⟨rfl, hn2⟩
end Go.Proofs.YtlekepigndlbhaaDoor
