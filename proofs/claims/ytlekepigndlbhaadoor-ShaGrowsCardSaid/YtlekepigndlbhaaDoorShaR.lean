/-
  The walk of the document's Of.
-/
import Derived.Test.YtlekepigndlbhaaDoorShaV
import Derived.Deep.CutBlock
namespace Go.Proofs.YtlekepigndlbhaaDoor
open Go.ChangeShapes Go.WideShapes Go.ChangeAt Go.RowKit

theorem eat_succ (n : Nat) (v : V8) (xs : List Nat) : eat (n + 1) v xs = compress (eat n v xs) ((xs.drop (64 * n)).take 64) := by
  rw [eat_add 1 n]
  rfl
theorem add_word (x0 x1 x2 x3 : Nat) :
    (x0 : Int) * 16777216 + (x1 : Int) * 65536 + (x2 : Int) * 256 + (x3 : Int) = ((x0 * 16777216 + x1 * 65536 + x2 * 256 + x3 : Nat) : Int) := by omega
theorem addTo_step2 (v r : V8) (k : Nat) (h : k < 8) : ∃ a b : Int, (addTo v r k)[k]? = some a ∧ r.l[k]? = some b ∧ (addTo v r k).set k ((a + b) % 4294967296) = addTo v r (k + 1) := by
  rcases (show k = 0 ∨ k = 1 ∨ k = 2 ∨ k = 3 ∨ k = 4 ∨ k = 5 ∨ k = 6 ∨ k = 7 by omega) with rfl | rfl | rfl | rfl | rfl | rfl | rfl | rfl
  all_goals exact ⟨_, _, rfl, rfl, rfl⟩
theorem dig_at (v : V8) (q : Nat) (hq : q < 8) : ∃ x : Int, v.l[q]? = some x ∧ (dig v)[4 * q + 0]? = some (x / 16777216 % 256).toNat ∧ (dig v)[4 * q + 1]? = some (x / 65536 % 256).toNat ∧ (dig v)[4 * q + 2]? = some (x / 256 % 256).toNat ∧ (dig v)[4 * q + 3]? = some (x % 256).toNat := by
  rcases (show q = 0 ∨ q = 1 ∨ q = 2 ∨ q = 3 ∨ q = 4 ∨ q = 5 ∨ q = 6 ∨ q = 7 by omega) with rfl | rfl | rfl | rfl | rfl | rfl | rfl | rfl
  all_goals exact ⟨_, rfl, rfl, rfl, rfl, rfl⟩
abbrev z8w : Array Value := #[.int .u32 0, .int .u32 0, .int .u32 0, .int .u32 0, .int .u32 0, .int .u32 0, .int .u32 0, .int .u32 0]

set_option maxRecDepth 100000 in
set_option maxHeartbeats 40000000 in
theorem refOf_any (a : Option Addr) (len cap : Nat) (xs : List Nat) (w : World) (hx : BytesIn w a len cap xs) (hlen : len ≤ 1000000000) :
    Calls Tryd.prog 16 #[.slice a len cap] w fun e w' => e = .returned (.agg ((digest xs).map vb).toArray) ∧ Below w.heap.size w w' := by
  have hal := nu_alloc (nu_refl w) (.cells z32 25)
  have HR0 := Lib.hid (Blk.made w 25 z32)
  have Hx := Lib.hid hx
  have Hxl := Lib.hid hx.1.1
  clear hx
  go_enter Tryd.func16, Tryd.ntmps16
  go_wp2_with fail
  generalize w.alloc (.cells z32 25) = w0 at *
  refine (words_any w0).mono ?_
  rintro e w1 ⟨rfl, hb1⟩
  have Hk1 := Lib.hid (show (KK.map wv).length = z64w.size by rw [List.length_map, kk_len]; rfl)
  have Hk2 := Lib.hid (show (Tryd.prog.info? 52).map (·.size) = some (KK.map wv).length by rw [List.length_map, kk_len]; kernel_rfl)
  have Hk3 := Lib.hid (wv_one KK)
  have hn1 := nu_trans hal hb1
  have HR1 := Lib.hid (Blk.below HR0.out hb1 (Blk.lt HR0.out))
  have HZ := Lib.hid (Blk.made w1 52 z64w)
  generalize hKD : KK.map wv = KD at *
  have HKD := Lib.hid hKD
  have HK := Lib.hid (Blk.fill HZ.out KD Hk1.out)
  have hf := nu_fill KD (g := w1.heap.size) (Nat.le_refl _) 0 _ (nu_alloc (nu_refl w1) (.cells z64w 52))
  clear hb1 hal HR0 hKD
  go_upto_region 2 with (refine wpList_store_blk rfl 52 (.tmp 3) (.tmp 19) rfl w1.heap.size KD rfl rfl 52 z64w HZ.out Hk1.out Hk2.out Hk3.out ?_)
  generalize (w1.alloc (.cells z64w 52)).setCells w1.heap.size 0 KD = w2 at *
  have hn2 := nu_trans hn1 hf
  have HR2 := Lib.hid (Blk.below HR1.out hf (Blk.lt HR1.out))
  clear hn1 hf HR1 HZ Hk1 Hk2 Hk3
  generalize w1.heap.size = KB at *
  have HZ := Lib.hid (Blk.made w2 54 z8w)
  have HH := Lib.hid (Blk.fill HZ.out (v0.l.map wv) rfl)
  have hf := nu_fill (v0.l.map wv) (g := w2.heap.size) (Nat.le_refl _) 0 _ (nu_alloc (nu_refl w2) (.cells z8w 54))
  go_upto_region 3 with (refine wpList_store_blk rfl 54 (.tmp 4) (.tmp 20) rfl w2.heap.size (v0.l.map wv) rfl rfl 54 z8w HZ.out rfl rfl (wv_one _) ?_)
  generalize (w2.alloc (.cells z8w 54)).setCells w2.heap.size 0 (v0.l.map wv) = w3 at *
  have hn3 := nu_trans hn2 hf
  have HR3 := Lib.hid (Blk.below HR2.out hf (Blk.lt HR2.out))
  have HK3 := Lib.hid (Blk.below HK.out hf (Blk.lt HK.out))
  have hKH := Blk.lt HK.out
  have hRK := Blk.lt HR2.out
  clear hn2 hf HR2 HK HZ
  generalize w2.heap.size = HB at *
  go_wp2_with fail
  refine (padded_any a len cap xs w3 (Hx.out.keep hn3) hlen).mono ?_
  rintro e w4 ⟨vp, rfl, hO4, hb4⟩
  obtain ⟨hp0, hpl⟩ := pad_len xs
  obtain ⟨P, hP⟩ : ∃ P, P = pad xs := ⟨_, rfl⟩
  rw [← hP] at hO4 hp0 hpl
  obtain ⟨PB, pc, cur, rfl, hPB, hBP, _, hpcm, _, htk⟩ := hO4.form (by omega)
  have HPlt := Lib.hid hO4.2
  have hn4 := nu_trans hn3 hb4
  have HR4 := Lib.hid (Blk.below HR3.out hb4 (Blk.lt HR3.out))
  have HK4 := Lib.hid (Blk.below HK3.out hb4 (Blk.lt HK3.out))
  have HH4 := Lib.hid (Blk.below (show Blk w3 HB 54 (v0.l.map wv).toArray from HH.out) hb4 (Blk.lt HH.out))
  have HBP := Lib.hid (show Blk w4 PB 5 cur from hBP)
  have Hcell := Lib.hid (fun i x (hx : P[i]? = some x) => own_cell htk hx)
  have HP := Lib.hid hP
  have hle : w3.heap.size ≤ PB := hPB
  have Hap := Lib.hid (show w.heap.size < HB ∧ KB < HB ∧ HB < PB ∧ w.heap.size < PB from ⟨by omega, by omega, by have := Blk.lt HH.out; omega, by have := Blk.lt HH.out; omega⟩)
  obtain ⟨N, hN⟩ : ∃ N, P.length = 64 * N := ⟨P.length / 64, by omega⟩
  obtain ⟨PL, hPL⟩ : ∃ PL, PL = P.length := ⟨_, rfl⟩
  rw [← hPL]
  have hPLb : PL ≤ 2000000000 := by rw [hPL, hpl, Hxl.out]; unfold padZ; omega
  have HN := Lib.hid (And.intro hN hPL)
  have HPN := Lib.hid (show PL = 64 * N by omega)
  clear hb4 hn3 HR3 HK3 HH hO4 hp0 hpl hPB hBP htk hP hle hKH hRK hN hPL hpcm Hx
  go_wp2_with fail
  go_loopw [6] (fun i wr => ∃ n : Nat, n ≤ N ∧ i = .int .i64 ((64 * n : Nat) : Int) ∧ Blk wr HB 54 ((eat n v0 P).l.map wv).toArray ∧ Blk wr KB 52 KD.toArray ∧ Blk wr PB 5 cur ∧ Blk wr w.heap.size 25 z32 ∧ Below w.heap.size w wr) (fun i _ => PL - (intOf i).toNat)
  case atStart => exact ⟨0, by omega, rfl, HH4.out, HK4.out, HBP.out, HR4.out, hn4⟩
  case round =>
    clear HH4 HK4 HBP HR4 hn4
    obtain ⟨n, hn, rfl, hH, hK, hPb, hR, hb⟩ := hrel
    obtain ⟨wo, rfl⟩ : ∃ wo : World, wo = wr := ⟨_, rfl⟩
    have HH := Lib.hid hH
    have HK := Lib.hid hK
    have HPb := Lib.hid hPb
    have HR := Lib.hid hR
    have Hb := Lib.hid hb
    clear hH hK hPb hR hb
    obtain ⟨A, hA⟩ : ∃ A, A = 64 * n := ⟨_, rfl⟩
    rw [← hA]
    by_cases hlt : n < N
    · have hi : (A : Int) < (PL : Int) := by have := HPN.out; omega
      have HA := Lib.hid hA
      obtain ⟨blk, hblk⟩ : ∃ blk, blk = (P.drop A).take 64 := ⟨_, rfl⟩
      have hbl : blk.length = 64 := by rw [hblk, List.length_take, List.length_drop]; have := HN.out; omega
      have Hbc := Lib.hid (show ∀ i x, blk[i]? = some x → x < 256 ∧ cur[A + i]? = some (vb x) from fun i x hx => by
        rw [hblk, List.getElem?_take] at hx
        split at hx
        · rw [List.getElem?_drop] at hx
          exact ⟨HPlt.out x (List.mem_of_getElem? hx), Hcell.out _ _ hx⟩
        · cases hx)
      have Hblk := Lib.hid hblk
      have Hbl := Lib.hid hbl
      have hA64 : A + 64 ≤ PL := by have h1 := HPN.out; have h2 := HA.out; omega
      clear hA hblk hbl
      have hal := nu_alloc (nu_refl wo) (.cells z64w 52)
      have HW0 := Lib.hid (Blk.made wo 52 z64w)
      go_wp2_with fail
      go_loopw [8] (fun i wr => ∃ k : Nat, k ≤ 64 ∧ i = .int .i64 k ∧ Blk wr wo.heap.size 52 ((wfill blk k).map wv).toArray ∧ Below wo.heap.size wo wr) (fun i _ => 64 - (intOf i).toNat)
      case atStart => exact ⟨0, by omega, rfl, HW0.out, hal⟩
      case round =>
        clear HW0 hal
        obtain ⟨k, hk, rfl, hW, hwb⟩ := hrel
        have HW := Lib.hid hW
        clear hW
        by_cases hk64 : k < 64
        · have hki : (k : Int) < 64 := by omega
          by_cases hk16 : k < 16
          · have hki6 : (k : Int) < 16 := by omega
            have e0 : ∀ j, j < 4 → ∃ x : Nat, x < 256 ∧ blk[4 * k + j]? = some x ∧ wr.cell? ⟨PB, A + 4 * k + j, none⟩ = some (.int .u8 (x : Int)) := fun j hj => by
              have hlt : 4 * k + j < blk.length := by rw [Hbl.out]; omega
              obtain ⟨h1, h2⟩ := Hbc.out (4 * k + j) _ (List.getElem?_eq_getElem hlt)
              exact ⟨blk[4 * k + j], h1, List.getElem?_eq_getElem hlt, by rw [Nat.add_assoc]; exact (Blk.below HPb.out hwb (Blk.lt HPb.out)).at _ _ h2⟩
            obtain ⟨x0, hx0, ex0, ec0⟩ := e0 0 (by omega)
            obtain ⟨x1, hx1, ex1, ec1⟩ := e0 1 (by omega)
            obtain ⟨x2, hx2, ex2, ec2⟩ := e0 2 (by omega)
            obtain ⟨x3, hx3, ex3, ec3⟩ := e0 3 (by omega)
            obtain ⟨m, hm⟩ : ∃ m, m = A + 4 * k := ⟨_, rfl⟩
            have wp0 : IntKind.i64.wrap (4 * (k : Int)) = 4 * (k : Int) := by rw [IntKind.wrap_i64]; omega
            have wpA : IntKind.i64.wrap ((A : Int) + 4 * (k : Int)) = (m : Int) := by rw [IntKind.wrap_i64]; omega
            have wpB : (A : Int) + 4 * (k : Int) = (m : Int) := by omega
            have hi0 : (m : Int) < (PL : Int) := by omega
            obtain ⟨m1, hm1⟩ : ∃ n, n = m + 1 := ⟨_, rfl⟩
            have wp1 : IntKind.i64.wrap ((m : Int) + 1) = (m1 : Int) := by rw [IntKind.wrap_i64]; omega
            have hi1 : (m1 : Int) < (PL : Int) := by omega
            obtain ⟨m2, hm2⟩ : ∃ n, n = m + 2 := ⟨_, rfl⟩
            have wp2 : IntKind.i64.wrap ((m : Int) + 2) = (m2 : Int) := by rw [IntKind.wrap_i64]; omega
            have hi2 : (m2 : Int) < (PL : Int) := by omega
            obtain ⟨m3, hm3⟩ : ∃ n, n = m + 3 := ⟨_, rfl⟩
            have wp3 : IntKind.i64.wrap ((m : Int) + 3) = (m3 : Int) := by rw [IntKind.wrap_i64]; omega
            have hi3 : (m3 : Int) < (PL : Int) := by omega
            have q0 : IntKind.u32.wrap (x0 : Int) = (x0 : Int) := by rw [IntKind.wrap_u32]; omega
            have c0 : wr.cell? ⟨PB, m, none⟩ = some (.int .u8 (x0 : Int)) := by rw [hm]; exact ec0
            have q1 : IntKind.u32.wrap (x1 : Int) = (x1 : Int) := by rw [IntKind.wrap_u32]; omega
            have c1 : wr.cell? ⟨PB, m1, none⟩ = some (.int .u8 (x1 : Int)) := by rw [hm1, hm]; exact ec1
            have q2 : IntKind.u32.wrap (x2 : Int) = (x2 : Int) := by rw [IntKind.wrap_u32]; omega
            have c2 : wr.cell? ⟨PB, m2, none⟩ = some (.int .u8 (x2 : Int)) := by rw [hm2, hm]; exact ec2
            have q3 : IntKind.u32.wrap (x3 : Int) = (x3 : Int) := by rw [IntKind.wrap_u32]; omega
            have c3 : wr.cell? ⟨PB, m3, none⟩ = some (.int .u8 (x3 : Int)) := by rw [hm3, hm]; exact ec3
            have Hv := Lib.hid ((add_word x0 x1 x2 x3).trans (wd_of blk k x0 x1 x2 x3 ex0 ex1 ex2 ex3))
            clear e0 hm hm1 hm2 hm3 ex0 ex1 ex2 ex3 ec0 ec1 ec2 ec3
            go_upto_region 13 with fail
            go_still_tail 31, (by kernel_rfl)
            change wpList _ _ _ _ _ wr.drew
            have HW1 := Lib.hid HW.out.drew
            have f1 := HW1.out.free k
            have o1 : wr.drew.cell? ⟨wo.heap.size, k, none⟩ = some (.int .u32 0) := HW1.out.at k _ (warr_at _ _ _ (wfill_new blk k (by omega)))
            have hn1 := nu_drew hwb
            clear HW hwb c0 c1 c2 c3
            generalize wr.drew = w1 at *
            have HX := Lib.hid (wfill_set blk k (by omega) (wd blk k) (by rw [if_pos hk16]))
            go_wp2_with fail
            have h := HW1.out.put k (wv (wd blk k))
            rw [warr_set, HX.out, ← Hv.out] at h
            have hf := nu_set hn1 (p := ⟨wo.heap.size, k, none⟩) (Nat.le_refl _) (wv ((x0 : Int) * 16777216 + (x1 : Int) * 65536 + (x2 : Int) * 256 + (x3 : Int)))
            go_roundw
            case rel => first | exact ⟨k + 1, by omega, by go_num, h, hf⟩ | ((repeat apply Exists.intro); exact ⟨⟨k + 1, by omega, by go_num, h, hf⟩, rfl⟩)
            case measure => simp [intOf]; omega
          · have hk16i : ¬ (k : Int) < 16 := by omega
            obtain ⟨n15, hn15⟩ : ∃ n, n = k - 15 := ⟨_, rfl⟩
            have w15_ : IntKind.i64.wrap ((k : Int) - 15) = (n15 : Int) := by rw [IntKind.wrap_i64]; omega
            have hi15 : (n15 : Int) < 64 := by omega
            obtain ⟨y15, hy15⟩ : ∃ y, y = (sched blk k).getD n15 0 := ⟨_, rfl⟩
            have hc15 : ((wfill blk k).map wv).toArray[n15]? = some (.int .u32 y15) := by rw [hy15]; exact warr_at _ _ _ (wfill_old blk k n15 (by omega))
            obtain ⟨n2, hn2⟩ : ∃ n, n = k - 2 := ⟨_, rfl⟩
            have w2_ : IntKind.i64.wrap ((k : Int) - 2) = (n2 : Int) := by rw [IntKind.wrap_i64]; omega
            have hi2 : (n2 : Int) < 64 := by omega
            obtain ⟨y2, hy2⟩ : ∃ y, y = (sched blk k).getD n2 0 := ⟨_, rfl⟩
            have hc2 : ((wfill blk k).map wv).toArray[n2]? = some (.int .u32 y2) := by rw [hy2]; exact warr_at _ _ _ (wfill_old blk k n2 (by omega))
            obtain ⟨n16, hn16⟩ : ∃ n, n = k - 16 := ⟨_, rfl⟩
            have w16_ : IntKind.i64.wrap ((k : Int) - 16) = (n16 : Int) := by rw [IntKind.wrap_i64]; omega
            have hi16 : (n16 : Int) < 64 := by omega
            obtain ⟨y16, hy16⟩ : ∃ y, y = (sched blk k).getD n16 0 := ⟨_, rfl⟩
            have hc16 : ((wfill blk k).map wv).toArray[n16]? = some (.int .u32 y16) := by rw [hy16]; exact warr_at _ _ _ (wfill_old blk k n16 (by omega))
            obtain ⟨n7, hn7⟩ : ∃ n, n = k - 7 := ⟨_, rfl⟩
            have w7_ : IntKind.i64.wrap ((k : Int) - 7) = (n7 : Int) := by rw [IntKind.wrap_i64]; omega
            have hi7 : (n7 : Int) < 64 := by omega
            obtain ⟨y7, hy7⟩ : ∃ y, y = (sched blk k).getD n7 0 := ⟨_, rfl⟩
            have hc7 : ((wfill blk k).map wv).toArray[n7]? = some (.int .u32 y7) := by rw [hy7]; exact warr_at _ _ _ (wfill_old blk k n7 (by omega))
            have c15 := HW.out.at n15 _ hc15
            have HX := Lib.hid (wfill_set blk k hk64 (nextW (sched blk k) k) (by rw [if_neg (by omega)]))
            have Hv : Hid (nextW (sched blk k) k = (y16 + sg0 y15 + y7 + sg1 y2) % 4294967296) := by rw [nextW, ← hn16, ← hn15, ← hn7, ← hn2, ← hy16, ← hy15, ← hy7, ← hy2]; exact rfl
            have HC := Lib.hid (And.intro hc16 (And.intro hc7 hc2))
            clear hc16 hc15 hc7 hc2 hn16 hn15 hn7 hn2 hy16 hy15 hy7 hy2
            go_upto_region 14 with fail
            go_still_tail 17, (by kernel_rfl)
            still_call (rotr_7 y15 _)
            repeat still_step
            still_call (rotr_18 y15 _)
            repeat still_step
            refine wpStill_nil ?_
            change wpList _ _ _ _ _ wr.drew
            have HW1 := Lib.hid HW.out.drew
            have hn1 := nu_drew hwb
            clear HW hwb c15
            generalize wr.drew = w1 at *
            have c2 := HW1.out.at n2 _ HC.out.2.2
            go_upto_region 15 with fail
            go_still_tail 17, (by kernel_rfl)
            still_call (rotr_17 y2 _)
            repeat still_step
            still_call (rotr_19 y2 _)
            repeat still_step
            refine wpStill_nil ?_
            change wpList _ _ _ _ _ w1.drew
            have HW2 := Lib.hid HW1.out.drew
            have hn2 := nu_drew hn1
            clear HW1 hn1 c2
            generalize w1.drew = w2 at *
            have c16 := HW2.out.at n16 _ HC.out.1
            have c7 := HW2.out.at n7 _ HC.out.2.1
            go_upto_region 16 with fail
            go_still_tail 15, (by kernel_rfl)
            change wpList _ _ _ _ _ w2.drew
            have HW3 := Lib.hid HW2.out.drew
            have f3 := HW3.out.free k
            have o3 : w2.drew.cell? ⟨wo.heap.size, k, none⟩ = some (.int .u32 0) := HW3.out.at k _ (warr_at _ _ _ (wfill_new blk k hk64))
            have hn3 := nu_drew hn2
            clear HW2 hn2 c16 c7
            generalize w2.drew = w3 at *
            go_wp2_with fail
            have h := HW3.out.put k (wv (nextW (sched blk k) k))
            rw [warr_set, HX.out, Hv.out] at h
            have hf := nu_set hn3 (p := ⟨wo.heap.size, k, none⟩) (Nat.le_refl _) (wv ((y16 + sg0 y15 + y7 + sg1 y2) % 4294967296))
            go_roundw
            case rel => first | exact ⟨k + 1, by omega, by go_num, h, hf⟩ | ((repeat apply Exists.intro); exact ⟨⟨k + 1, by omega, by go_num, h, hf⟩, rfl⟩)
            case measure => simp [intOf]; omega
        · obtain rfl : k = 64 := by omega
          have hW := HW.out
          rw [wfill_all] at hW
          obtain ⟨ws, hws⟩ : ∃ ws, ws = sched blk 64 := ⟨_, rfl⟩
          rw [← hws] at hW
          have Hws := Lib.hid hws
          have HwL := Lib.hid (show ws.length = 64 by rw [hws, sched_len])
          obtain ⟨hv, hhv⟩ : ∃ hv, hv = eat n v0 P := ⟨_, rfl⟩
          rw [← hhv] at HH
          have Hhv := Lib.hid hhv
          clear hws hhv hk hk64 HW
          obtain ⟨wb, rfl⟩ : ∃ x : World, x = wr := ⟨_, rfl⟩
          have HHb := Lib.hid (Blk.below HH.out hwb (Blk.lt HH.out))
          have HLd := Lib.hid (fun (o : Oper) (a : Act) (x : Operand) (ho : o.op = .load 54 x) (hx : a.eval x = .pointer (some ⟨HB, 0, none⟩)) =>
            exec_load_mid (P := Tryd.prog) (o := o) (a := a) (w := wb) 54 x HB 0 (hv.l.map wv) (.array 8 49) ho hx (range_mid HHb.out (l := []) (r := []) (by simp) rfl) (by kernel_rfl) rfl (by kernel_rfl))
          have HZ := Lib.hid (Blk.made wb 54 z8w)
          have HV := Lib.hid (HZ.out.fill (hv.l.map wv) rfl)
          have hf := nu_fill (hv.l.map wv) (g := wb.heap.size) (Nat.le_refl _) 0 _ (nu_alloc (nu_refl wb) (.cells z8w 54))
          go_upto_region 18 with (first | (refine wpList_run _ rfl (HLd.out _ _ (.tmp 4) rfl rfl) ?_) | (refine wpList_store_blk rfl 54 (.tmp 12) (.tmp 119) rfl wb.heap.size (hv.l.map wv) rfl rfl 54 z8w HZ.out rfl rfl (wv_one _) ?_))
          have HWf := Lib.hid (Blk.below hW hf (Blk.lt hW))
          have hnf := nu_trans hwb hf
          have hWV := Blk.lt hW
          have hoV : wo.heap.size ≤ wb.heap.size := hwb.size
          clear hW hf hwb HZ HLd HHb
          generalize (wb.alloc (.cells z8w 54)).setCells wb.heap.size 0 (hv.l.map wv) = wc at *
          generalize hVe : wb.heap.size = V at *
          obtain ⟨W, hWe⟩ : ∃ W, W = wo.heap.size := ⟨_, rfl⟩
          rw [← hWe] at HWf hWV ⊢
          have HVl := Lib.hid (show wo.heap.size ≤ V ∧ W < V ∧ wo.heap.size ≤ W ∧ HB < V ∧ KB < wo.heap.size ∧ HB < wo.heap.size from ⟨hoV, hWV, by omega, by have := Blk.lt HH.out; omega, Blk.lt HK.out, Blk.lt HH.out⟩)
          clear hVe hWV hoV hWe
          go_wp2_with fail
          go_loopw [13] (fun i wr => ∃ k : Nat, k ≤ 64 ∧ i = .int .i64 k ∧ Below wo.heap.size wo wr ∧ Blk wr W 52 (ws.map wv).toArray ∧ Blk wr V 54 ((rnds ws hv k).l.map wv).toArray) (fun i _ => 64 - (intOf i).toNat)
          case atStart => exact ⟨0, by omega, rfl, hnf, HWf.out, HV.out⟩
          case round =>
            clear HWf hnf HV
            obtain ⟨k, hk, rfl, hnr, hW, hV⟩ := hrel
            have HW := Lib.hid hW
            by_cases hlt3 : k < 64
            · have hik : (k : Int) < 64 := by omega
              have HN := Lib.hid (show rnds ws hv (k + 1) = rnd (rnds ws hv k) (KK.getD k 0) (ws.getD k 0) from rfl)
              generalize rnds ws hv k = r at *
              have HV := Lib.hid hV
              have hcW : (ws.map wv).toArray[k]? = some (wv (ws.getD k 0)) := warr_at _ _ _ (by rw [List.getD_eq_getElem?_getD, List.getElem?_eq_getElem (by rw [HwL.out]; exact hlt3)]; rfl)
              have hcK : KD.toArray[k]? = some (wv (KK.getD k 0)) := by rw [← HKD.out]; exact warr_at _ _ _ (by rw [List.getD_eq_getElem?_getD, List.getElem?_eq_getElem (by rw [kk_len]; exact hlt3)]; rfl)
              have cK := (Blk.below HK.out hnr HVl.out.2.2.2.2.1).at k _ hcK
              have cW := HW.out.at k _ hcW
              generalize ws.getD k 0 = y at *
              generalize KK.getD k 0 = kk at *
              have cK' : wr.cell? ⟨KB, k, none⟩ = some (.int .u32 kk) := cK
              have cW' : wr.cell? ⟨W, k, none⟩ = some (.int .u32 y) := cW
              clear hW hV hcW hcK cK cW
              go_upto_block 5 with fail
              refine round_ref HV.out HW.out cK' cW' hik ⟨Nat.ne_of_lt HVl.out.2.1, HVl.out.1⟩ hnr ?_ (fun _ _ h => h)
              intro x14 x15 x124 x125 x126 x127 x128 x129 x130 x131 x132 x133 x134 x135 x136 x137 x138 x139 x140 x141 x142 x143 x144 x145 x146 x147 x148 x149 x150 x151 x152 x153 x154 x155 x156 x157 x158 x159 x160 x161 x162 x163 x164 x165 x166 x167 x168 x169 x170 x171 x172 x173 x174 x175 x176 x177 x178 x179 x180 x181 x182 x183 x184 x185 x186 x187 x188 x189 x190 x191 x192 x193 x194 x195 x196 x197 x198 x199 x200 x201 x202 x203 x204 x205 x206 x207 x208 x209 x210 x211 x212 x213 x214 w4 hn4 hW4 hV4
              have HV4 := Lib.hid hV4
              have HW4 := Lib.hid hW4
              have Hn4 := Lib.hid hn4
              clear hV4 hW4 hn4 HV HW hnr cK' cW'
              go_wp2_with fail
              go_roundw
              case rel =>
                refine ⟨k + 1, by omega, by go_num, Hn4.out, HW4.out, ?_⟩
                rw [HN.out]
                exact HV4.out
              case measure => simp [intOf]; omega
            · obtain rfl : k = 64 := by omega
              obtain ⟨r, hr⟩ : ∃ r, r = rnds ws hv 64 := ⟨_, rfl⟩
              rw [← hr] at hV
              have Hfin := Lib.hid (show compress hv blk = addV hv r by rw [compress, ← Hws.out, hr])
              have HV := Lib.hid hV
              have HH5 := Lib.hid (Blk.below HH.out hnr (Blk.lt HH.out))
              have hg5 := gb_of_below hnr (some HB)
              clear hV hW HW hr hk hlt3 hnr
              obtain ⟨wd_, rfl⟩ : ∃ x : World, x = wr := ⟨_, rfl⟩
              go_wp2_with fail
              go_loopw [16] (fun i wr => ∃ k : Nat, k ≤ 8 ∧ i = .int .i64 k ∧ wo.grownBy wr (some HB) ∧ Blk wr V 54 (r.l.map wv).toArray ∧ Blk wr HB 54 ((addTo hv r k).map wv).toArray) (fun i _ => 8 - (intOf i).toNat)
              case atStart => exact ⟨0, by omega, rfl, hg5, HV.out, HH5.out⟩
              case round =>
                clear HH5 HV hg5
                obtain ⟨k, hk, rfl, hgr, hV, hH⟩ := hrel
                have HV := Lib.hid hV
                have HHq := Lib.hid hH
                clear hV hH
                by_cases hlt4 : k < 8
                · have hi8 : (k : Int) < 8 := by omega
                  obtain ⟨a_, b_, ha, hb, hab⟩ := addTo_step2 hv r k hlt4
                  have ca : wr.cell? ⟨HB, k, none⟩ = some (.int .u32 a_) := HHq.out.at k _ (warr_at _ _ _ ha)
                  have cb : wr.cell? ⟨V, k, none⟩ = some (.int .u32 b_) := HV.out.at k _ (warr_at _ _ _ hb)
                  have Hab := Lib.hid hab
                  clear ha hb hab
                  go_upto_region 34 with fail
                  go_still_tail 9, (by kernel_rfl)
                  change wpList _ _ _ _ _ wr.drew
                  have HV1 := Lib.hid HV.out.drew
                  have HH1 := Lib.hid HHq.out.drew
                  have ca1 : wr.drew.cell? ⟨HB, k, none⟩ = some (.int .u32 a_) := ca
                  have fa1 := HH1.out.free k
                  have hg1 := gb_drew hgr
                  clear HV HHq hgr ca cb
                  generalize wr.drew = w1 at *
                  go_wp2_with fail
                  have h := HH1.out.put k (wv ((a_ + b_) % 4294967296))
                  rw [warr_set, Hab.out] at h
                  have hgf := gb_set hg1 (p := ⟨HB, k, none⟩) (.inl rfl) (wv ((a_ + b_) % 4294967296))
                  have hVf := HV1.out.far (p := ⟨HB, k, none⟩) (Nat.ne_of_gt HVl.out.2.2.2.1) (wv ((a_ + b_) % 4294967296))
                  go_roundw
                  case rel => first | exact ⟨k + 1, by omega, by go_num, hgf, hVf, h⟩ | ((repeat apply Exists.intro); exact ⟨⟨k + 1, by omega, by go_num, hgf, hVf, h⟩, rfl⟩)
                  case measure => simp [intOf]; omega
                · obtain rfl : k = 8 := by omega
                  have hgr' := hgr
                  have HG := Lib.hid hgr
                  obtain ⟨wf_, rfl⟩ : ∃ x : World, x = wr := ⟨_, rfl⟩
                  clear hgr hgr' hk hlt4
                  go_wp2_with fail
                  have hH' : Blk wf_ HB 54 ((eat (n + 1) v0 P).l.map wv).toArray := by
                    rw [eat_succ, ← Hhv.out, ← HA.out, ← Hblk.out, Hfin.out]
                    exact HHq.out
                  have hneK : KB ≠ HB := Nat.ne_of_lt Hap.out.2.1
                  have hneP : PB ≠ HB := Nat.ne_of_gt Hap.out.2.2.1
                  have hneR : w.heap.size ≠ HB := Nat.ne_of_lt Hap.out.1
                  have e6 : Value.int .i64 ((A : Int) + 64) = .int .i64 ((64 * (n + 1) : Nat) : Int) := by
                    congr 1
                    have := HA.out
                    omega
                  have hR' : Blk wf_ w.heap.size 25 z32 := Blk.grown HR.out HG.out (fun e => hneR (by injection e))
                  have hK' : Blk wf_ KB 52 KD.toArray := Blk.grown HK.out HG.out (fun e => hneK (by injection e))
                  have hP' : Blk wf_ PB 5 cur := Blk.grown HPb.out HG.out (fun e => hneP (by injection e))
                  have hb' : Below w.heap.size w wf_ := below_turned Hb.out HG.out Hb.out.size (Nat.le_of_lt Hap.out.1)
                  go_roundw
                  case rel => first | exact ⟨n + 1, by omega, e6, hH', hK', hP', hR', hb'⟩ | ((repeat apply Exists.intro); exact ⟨⟨n + 1, by omega, e6, hH', hK', hP', hR', hb'⟩, rfl⟩)
                  case measure => simp [intOf]; omega
    · obtain rfl : n = N := by omega
      have hge : ¬ (A : Int) < (PL : Int) := by have h1 := HPN.out; omega
      have hdig : digest xs = dig (eat n v0 P) := by
        unfold digest
        rw [← HP.out, HN.out.1, Nat.mul_div_cancel_left _ (by omega)]
      have hHo := HH.out
      generalize eat n v0 P = v at *
      have Hdig := Lib.hid hdig
      have hO := Blk.made wo 25 z32
      have hna := nu_alloc (nu_refl wo) (.cells z32 25)
      have HOa := Lib.hid hO
      have HHa := Lib.hid (Blk.below hHo hna (Blk.lt hHo))
      have HRa := Lib.hid (Blk.below HR.out hna (Blk.lt HR.out))
      have Hna := Lib.hid (Hb.out.trans (hna.mono Hb.out.size))
      have HOn := Lib.hid (show HB ≠ wo.heap.size ∧ w.heap.size ≠ wo.heap.size ∧ w.heap.size ≤ wo.heap.size from ⟨Nat.ne_of_lt (Blk.lt hHo), Nat.ne_of_lt (Blk.lt HR.out), Hb.out.size⟩)
      clear hdig hHo hO hna HH HK HPb HR Hb
      go_wp2_with fail
      generalize wo.alloc (.cells z32 25) = wp at *
      generalize wo.heap.size = O at *
      go_loopw [18] (fun i wr => ∃ k : Nat, k ≤ 32 ∧ i = .int .i64 k ∧ Blk wr O 25 ((fillTo (dig v) 32 k).map vb).toArray ∧ Blk wr HB 54 (v.l.map wv).toArray ∧ Blk wr w.heap.size 25 z32 ∧ Below w.heap.size w wr) (fun i _ => 32 - (intOf i).toNat)
      case atStart => exact ⟨0, by omega, rfl, HOa.out, HHa.out, HRa.out, Hna.out⟩
      case round =>
        clear HOa HHa HRa Hna
        obtain ⟨k, hk, rfl, hO, hH, hR, hnq⟩ := hrel
        have HO := Lib.hid hO
        have HHq := Lib.hid hH
        have HRq := Lib.hid hR
        clear hO hH hR
        by_cases hlt5 : k < 32
        · have hki : (k : Int) < 32 := by omega
          obtain ⟨q, r, hq, hr, hkq⟩ : ∃ q r, q < 8 ∧ r < 4 ∧ k = 4 * q + r := ⟨k / 4, k % 4, by omega, by omega, by omega⟩
          obtain ⟨x, hx, hd0, hd1, hd2, hd3⟩ := dig_at v q hq
          have eq4 : (k : Int) / 4 = (q : Int) := by omega
          have c1 : wr.cell? ⟨HB, q, none⟩ = some (.int .u32 x) := HHq.out.at q _ (warr_at _ _ _ hx)
          have o1 := HO.out.at k _ (arr_at _ k 0 (fillTo_at (dig v) 32 k rfl hlt5))
          have f1 := HO.out.free k
          have hqi : (q : Int) < 8 := by omega
          rcases (show r = 0 ∨ r = 1 ∨ r = 2 ∨ r = 3 by omega) with rfl | rfl | rfl | rfl
          · have er : (k : Int) % 4 = 0 := by omega
            have hdx : (dig v)[k]? = some (x / 16777216 % 256).toNat := by rw [hkq]; exact hd0
            have HX := Lib.hid (fillTo_succ (dig v) 32 k (x / 16777216 % 256).toNat rfl hlt5 hdx)
            have hO1 := HO.out.put k (.int .u8 (x / 16777216 % 256))
            rw [vb_mod (x / 16777216), arr_set, HX.out, ← vb_mod (x / 16777216)] at hO1
            have HO1 := Lib.hid hO1
            have HH1 := Lib.hid (HHq.out.far (p := ⟨O, k, none⟩) HOn.out.1 (.int .u8 (x / 16777216 % 256)))
            have HR1 := Lib.hid (HRq.out.far (p := ⟨O, k, none⟩) HOn.out.2.1 (.int .u8 (x / 16777216 % 256)))
            have Hn1 := Lib.hid (nu_set hnq (p := ⟨O, k, none⟩) HOn.out.2.2 (.int .u8 (x / 16777216 % 256)))
            clear HO HHq HRq hnq hk hlt5 hO1 hdx hd0 hd1 hd2 hd3 hkq hx hr
            go_wp2_with fail
            go_roundw
            case rel => first | exact ⟨k + 1, by omega, by go_num, HO1.out, HH1.out, HR1.out, Hn1.out⟩ | ((repeat apply Exists.intro); exact ⟨⟨k + 1, by omega, by go_num, HO1.out, HH1.out, HR1.out, Hn1.out⟩, rfl⟩)
            case measure => simp [intOf]; omega
          · have er : (k : Int) % 4 = 1 := by omega
            have hdx : (dig v)[k]? = some (x / 65536 % 256).toNat := by rw [hkq]; exact hd1
            have HX := Lib.hid (fillTo_succ (dig v) 32 k (x / 65536 % 256).toNat rfl hlt5 hdx)
            have hO1 := HO.out.put k (.int .u8 (x / 65536 % 256))
            rw [vb_mod (x / 65536), arr_set, HX.out, ← vb_mod (x / 65536)] at hO1
            have HO1 := Lib.hid hO1
            have HH1 := Lib.hid (HHq.out.far (p := ⟨O, k, none⟩) HOn.out.1 (.int .u8 (x / 65536 % 256)))
            have HR1 := Lib.hid (HRq.out.far (p := ⟨O, k, none⟩) HOn.out.2.1 (.int .u8 (x / 65536 % 256)))
            have Hn1 := Lib.hid (nu_set hnq (p := ⟨O, k, none⟩) HOn.out.2.2 (.int .u8 (x / 65536 % 256)))
            clear HO HHq HRq hnq hk hlt5 hO1 hdx hd0 hd1 hd2 hd3 hkq hx hr
            go_wp2_with fail
            go_roundw
            case rel => first | exact ⟨k + 1, by omega, by go_num, HO1.out, HH1.out, HR1.out, Hn1.out⟩ | ((repeat apply Exists.intro); exact ⟨⟨k + 1, by omega, by go_num, HO1.out, HH1.out, HR1.out, Hn1.out⟩, rfl⟩)
            case measure => simp [intOf]; omega
          · have er : (k : Int) % 4 = 2 := by omega
            have hdx : (dig v)[k]? = some (x / 256 % 256).toNat := by rw [hkq]; exact hd2
            have HX := Lib.hid (fillTo_succ (dig v) 32 k (x / 256 % 256).toNat rfl hlt5 hdx)
            have hO1 := HO.out.put k (.int .u8 (x / 256 % 256))
            rw [vb_mod (x / 256), arr_set, HX.out, ← vb_mod (x / 256)] at hO1
            have HO1 := Lib.hid hO1
            have HH1 := Lib.hid (HHq.out.far (p := ⟨O, k, none⟩) HOn.out.1 (.int .u8 (x / 256 % 256)))
            have HR1 := Lib.hid (HRq.out.far (p := ⟨O, k, none⟩) HOn.out.2.1 (.int .u8 (x / 256 % 256)))
            have Hn1 := Lib.hid (nu_set hnq (p := ⟨O, k, none⟩) HOn.out.2.2 (.int .u8 (x / 256 % 256)))
            clear HO HHq HRq hnq hk hlt5 hO1 hdx hd0 hd1 hd2 hd3 hkq hx hr
            go_wp2_with fail
            go_roundw
            case rel => first | exact ⟨k + 1, by omega, by go_num, HO1.out, HH1.out, HR1.out, Hn1.out⟩ | ((repeat apply Exists.intro); exact ⟨⟨k + 1, by omega, by go_num, HO1.out, HH1.out, HR1.out, Hn1.out⟩, rfl⟩)
            case measure => simp [intOf]; omega
          · have er : (k : Int) % 4 = 3 := by omega
            have hdx : (dig v)[k]? = some (x % 256).toNat := by rw [hkq]; exact hd3
            have HX := Lib.hid (fillTo_succ (dig v) 32 k (x % 256).toNat rfl hlt5 hdx)
            have hO1 := HO.out.put k (.int .u8 (x % 256))
            rw [vb_mod x, arr_set, HX.out, ← vb_mod x] at hO1
            have HO1 := Lib.hid hO1
            have HH1 := Lib.hid (HHq.out.far (p := ⟨O, k, none⟩) HOn.out.1 (.int .u8 (x % 256)))
            have HR1 := Lib.hid (HRq.out.far (p := ⟨O, k, none⟩) HOn.out.2.1 (.int .u8 (x % 256)))
            have Hn1 := Lib.hid (nu_set hnq (p := ⟨O, k, none⟩) HOn.out.2.2 (.int .u8 (x % 256)))
            clear HO HHq HRq hnq hk hlt5 hO1 hdx hd0 hd1 hd2 hd3 hkq hx hr
            go_wp2_with fail
            go_roundw
            case rel => first | exact ⟨k + 1, by omega, by go_num, HO1.out, HH1.out, HR1.out, Hn1.out⟩ | ((repeat apply Exists.intro); exact ⟨⟨k + 1, by omega, by go_num, HO1.out, HH1.out, HR1.out, Hn1.out⟩, rfl⟩)
            case measure => simp [intOf]; omega
        · obtain rfl : k = 32 := by omega
          have hO := HO.out
          rw [fillTo_all _ _ (dig_len v), ← Hdig.out] at hO
          have HO := Lib.hid hO
          have Hl := Lib.hid (show ((digest xs).map vb).length = z32.size by rw [List.length_map, digest_len]; rfl)
          have HF := Lib.hid (Blk.fill HRq.out ((digest xs).map vb) Hl.out)
          have Hnf := Lib.hid (nu_fill ((digest xs).map vb) (g := w.heap.size) (Nat.le_refl _) 0 _ hnq)
          have Hsz := Lib.hid (show (Tryd.prog.info? 25).map (·.size) = some ((digest xs).map vb).toArray.size by rw [List.size_toArray, List.length_map, digest_len]; kernel_rfl)
          have H1 := Lib.hid (vb_one (digest xs))
          clear hO hnq hk hlt5 Hdig
          generalize hD : (digest xs).map vb = D at *
          have HD := Lib.hid hD
          clear hD
          go_wp2_with (first | (refine wpList_load_blk rfl 25 (.tmp 17) rfl O rfl 25 D.toArray HO.out Tryd.underlying25 Hsz.out ?_) | (refine wpList_store_blk rfl 25 (.tmp 2) (.tmp 245) rfl w.heap.size D rfl rfl 25 z32 HRq.out Hl.out (by have h := Hsz.out; rwa [List.size_toArray] at h) H1.out ?_))
          refine bodyPost_ret (results_blk rfl _ w.heap.size 25 D.toArray rfl HF.out Tryd.underlying25 Hsz.out) rfl ⟨by rw [HD.out], Hnf.out⟩
end Go.Proofs.YtlekepigndlbhaaDoor
