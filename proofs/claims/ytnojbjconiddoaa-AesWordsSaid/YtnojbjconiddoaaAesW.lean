/-
  The walk of AesWords.
-/
import Derived.Test.YtnojbjconiddoaaAesN
namespace Go.Proofs.Ytnojbjconiddoaa
open Go.ChangeShapes Go.WideShapes Go.ChangeAt Go.RowKit Fld Aes
set_option linter.unusedSimpArgs false

theorem e32_cell {o : Oper} {a : Act} {w : World} {g i : Nat} {y : Int} (hc : w.cell? ⟨g, i, none⟩ = some (.int .u32 y)) (x : Operand) (ho : o.op = .load 52 x) (hx : a.eval x = .pointer (some ⟨g, i, none⟩)) :
    (execOp a.eval o).run Try.prog w = .ok (.value (.int .u32 y)) w := by
  unfold execOp
  simp only [ho, hx]
  go_simp
theorem wN_sum (y : Nat) (h : y < 4294967296) : wb y 0 * 16777216 + wb y 1 * 65536 + wb y 2 * 256 + wb y 3 = y := wN_wb y h
set_option maxRecDepth 100000 in
set_option maxHeartbeats 4000000 in
theorem aesWords_walk (a : Option Addr) (len cap : Nat) (xs : List Nat) (w : World) (hx : BytesIn w a len cap xs) :
    Calls Try.prog 10 #[.slice a len cap] w fun e w' => e = .returned (.bool true) ∧ Below w.heap.size w w' := by
  by_cases hL : len = 16 ∨ len = 32
  · have hxs : ∀ x ∈ xs, x < 256 := fun x h => wf_u8_lt (hx.1.2.1 x h)
    have hxl : xs.length = len := hx.1.1
    obtain ⟨Ws, hWs⟩ : ∃ Ws, Ws = expand xs := ⟨_, rfl⟩
    obtain ⟨R, hR⟩ : ∃ R, R = xs.length / 4 + 6 := ⟨_, rfl⟩
    have HK := Lib.hid (show Keyed Ws R by rw [hWs, hR]; exact keyed_of hxs (by rw [hxl]; exact hL))
    have HWR := Lib.hid (And.intro hWs hR)
    have HNw := Lib.hid (new_good hL hx)
    have HX1 := Lib.hid hx
    have HL := Lib.hid hL
    obtain ⟨n, hn⟩ : ∃ n, n = Ws.length := ⟨_, rfl⟩
    have Hn := Lib.hid hn
    have hn60 : 0 < n ∧ n ≤ 60 := by have h1 := HK.out.len; have h2 := HK.out.few; omega
    clear hx hxs hxl hWs hR hL hn
    go_enter Try.func10, Try.ntmps10
    go_wp2_with fail
    refine HNw.out.mono ?_
    rintro e w2 ⟨C, rfl, hC, hb2⟩
    have HC2 := Lib.hid (show CiphAt w2 C Ws R from by rw [HWR.out.1, HWR.out.2]; exact hC)
    have Hn2 := Lib.hid hb2
    have HRn := Lib.hid (refNew_any (len / 4) len (by have := HL.out; omega) (by have := HL.out; omega) a cap xs w2 (HX1.out.keep hb2))
    rw [← HWR.out.1] at HRn
    clear hC hb2 HNw HX1
    go_wp2_with fail
    refine HRn.out.mono ?_
    rintro e w3 ⟨v, rfl, hrow, hbk⟩
    obtain ⟨LK, hLK⟩ : ∃ LK, LK = keyL v := ⟨_, rfl⟩
    rw [← hLK]
    have HLK := Lib.hid hLK
    have HLl := Lib.hid (show LK.length = 513 by rw [hLK]; exact keyL_len v)
    have HL1 := Lib.hid (show ∀ u ∈ LK, u.oneCell' = true by rw [hLK]; exact keyL_one v hrow.one)
    have HKm := Lib.hid (Blk.made w3 44 Try.zeroCells44)
    have HKf := Lib.hid (Blk.fill HKm.out LK (by rw [zero_key_size, HLl.out]))
    have halk := nu_fill (a := w3) LK (g := w3.heap.size) (Nat.le_refl _) 0 _ (nu_alloc (nu_refl w3) (.cells Try.zeroCells44 44))
    have Hrow := Lib.hid (hrow.below halk)
    have Hbk := Lib.hid (nu_trans hbk halk)
    clear hLK hrow hbk halk
    go_upto_region 3 with (refine wpList_store_in rfl 44 (.tmp 5) (.tmp 18) rfl w3.heap.size 0 LK rfl rfl 44 Try.zeroCells44 HKm.out (by rw [zero_key_size, HLl.out]; omega) (by rw [HLl.out]; kernel_rfl) HL1.out ?_)
    change Code.wp _ _ _ _ ((w3.alloc (.cells Try.zeroCells44 44)).setCells w3.heap.size 0 LK)
    clear HKm
    generalize (w3.alloc (.cells Try.zeroCells44 44)).setCells w3.heap.size 0 LK = w9 at *
    obtain ⟨KB, hKB⟩ : ∃ KB, KB = w3.heap.size := ⟨_, rfl⟩
    rw [← hKB] at HKf
    rw [← hKB]
    clear hKB
    have HC9 := Lib.hid (HC2.out.below Hbk.out)
    have hn9 := nu_trans Hn2.out Hbk.out
    clear HC2 Hn2 HRn Hbk
    have HWd := Lib.hid (words_any HC9.out (by rw [← Hn.out]; omega))
    rw [← Hn.out] at HWd
    go_wp2_with fail
    refine HWd.out.mono ?_
    rintro e w4 ⟨vl, rfl, hown, hb4⟩
    obtain ⟨ml, cl, hvl, hmB, hml⟩ := World.ownsRow.form hown hn60.1
    subst hvl
    have HO := Lib.hid hown
    obtain ⟨m, c, cur, hv, hm, htk, _, _⟩ := Hrow.out
    rw [← Hn.out] at hv
    subst hv
    have HL0 := Lib.hid (show LK.toArray[0]? = some (.slice (some ⟨m, 0, none⟩) n c) by rw [HLK.out]; exact keyL_0 _)
    have HMl := Lib.hid hm.lt
    have HKl := Lib.hid HKf.out.lt
    have Hm := Lib.hid hm
    have Ht := Lib.hid htk
    have HmB := Lib.hid hmB
    have Hml := Lib.hid hml
    have cK : w4.cell? ⟨KB, 0, none⟩ = some (.slice (some ⟨m, 0, none⟩) n c) := (hb4.cell (p := ⟨KB, 0, none⟩) HKl.out).trans (HKf.out.at 0 _ HL0.out)
    have Hb4 := Lib.hid hb4
    clear hown hmB hml hm htk hb4 HWd Hrow
    have n0 : (0 : Int) < (n : Int) := by omega
    obtain ⟨wo, rfl⟩ : ∃ q : World, q = w4 := ⟨_, rfl⟩
    go_wp2_with fail
    clear cK
    go_loopw [8] (fun i wr => ∃ k : Nat, k ≤ n ∧ i = .int .i64 k ∧ Below wo.heap.size wo wr) (fun i _ => n - (intOf i).toNat)
    case atStart => exact ⟨0, by omega, rfl, nu_refl _⟩
    case round =>
      obtain ⟨k, hk, rfl, hn⟩ := hrel
      by_cases hlt : k < n
      · have hki : (k : Int) < (n : Int) := by omega
        obtain ⟨y, hy⟩ : ∃ y, y = Ws.getD k 0 := ⟨_, rfl⟩
        have hy32 : y < 4294967296 := by rw [hy]; exact HK.out.small.getD k
        have cL : wr.cell? ⟨ml, k, none⟩ = some (.int .u32 (y : Int)) := by
          rw [hn.cell (p := ⟨ml, k, none⟩) Hml.out, hy]
          exact own_at HO.out Hn.out.symm k hlt
        have hb9 := Hb4.out.trans (hn.mono Hb4.out.size)
        have cK : wr.cell? ⟨KB, 0, none⟩ = some (.slice (some ⟨m, 0, none⟩) n c) := (hb9.cell (p := ⟨KB, 0, none⟩) HKl.out).trans (HKf.out.at 0 _ HL0.out)
        have HRg := Lib.hid (show wr.rangeAt m (k * 4) ((elL y).map vb) from fun j u hu => by
          rw [List.getElem?_map] at hu
          obtain ⟨x, hx, rfl⟩ := Option.map_eq_some_iff.1 hu
          have hj : j < 4 := (List.getElem?_eq_some_iff.1 hx).1
          rw [elL_at y j hj] at hx
          injection hx with hx
          rw [hb9.cell (p := ⟨m, k * 4 + j, none⟩) HMl.out, rows_cell Hm.out Ht.out k j (by rw [← Hn.out]; exact hlt) hj, ← hy, hx]
          rfl)
        have HTm := Lib.hid (Blk.made wr 51 (z4.map vb).toArray)
        have HT1 := Lib.hid (Blk.fill HTm.out ((elL y).map vb) rfl)
        have hal := nu_fill (a := wr) ((elL y).map vb) (g := wr.heap.size) (Nat.le_refl _) 0 _ (nu_alloc (nu_refl wr) (.cells (z4.map vb).toArray 51))
        have hn1 := nu_trans hn hal
        have cL1 := (hal.cell (p := ⟨ml, k, none⟩) (Nat.lt_of_lt_of_le Hml.out hn.size)).trans cL
        have HcL := Lib.hid cL1
        have Hsum := Lib.hid (wN_sum y hy32)
        clear hy hb9 hal cL1 cL
        go_upto_region 10 with (first | (refine wpList_run _ (by rfl) (e4_load HRg.out rfl (.tmp 51) rfl rfl) ?_) | (refine wpList_store_blk rfl 51 (.tmp 9) (.tmp 52) rfl wr.heap.size ((elL y).map vb) rfl rfl 51 (z4.map vb).toArray HTm.out rfl (by kernel_rfl) (vb_one _) ?_))
        change Code.wp _ _ _ _ ((wr.alloc (.cells (z4.map vb).toArray 51)).setCells wr.heap.size 0 ((elL y).map vb))
        clear HTm HRg cK
        generalize (wr.alloc (.cells (z4.map vb).toArray 51)).setCells wr.heap.size 0 ((elL y).map vb) = u1 at *
        obtain ⟨T, hT⟩ : ∃ T, T = wr.heap.size := ⟨_, rfl⟩
        rw [← hT] at HT1
        rw [← hT]
        clear hT
        have cL := HcL.out
        obtain ⟨e0, he0⟩ : ∃ x, x = wb y 0 := ⟨_, rfl⟩
        have h0 : e0 < 256 := by rw [he0]; exact wb_lt _ _
        have d0 : u1.cell? ⟨T, 0, none⟩ = some (.int .u8 (e0 : Int)) := by rw [he0]; exact HT1.out.at 0 _ rfl
        have q0 : IntKind.u32.wrap (e0 : Int) = (e0 : Int) := by rw [IntKind.wrap_u32]; omega
        obtain ⟨e1, he1⟩ : ∃ x, x = wb y 1 := ⟨_, rfl⟩
        have h1 : e1 < 256 := by rw [he1]; exact wb_lt _ _
        have d1 : u1.cell? ⟨T, 1, none⟩ = some (.int .u8 (e1 : Int)) := by rw [he1]; exact HT1.out.at 1 _ rfl
        have q1 : IntKind.u32.wrap (e1 : Int) = (e1 : Int) := by rw [IntKind.wrap_u32]; omega
        obtain ⟨e2, he2⟩ : ∃ x, x = wb y 2 := ⟨_, rfl⟩
        have h2 : e2 < 256 := by rw [he2]; exact wb_lt _ _
        have d2 : u1.cell? ⟨T, 2, none⟩ = some (.int .u8 (e2 : Int)) := by rw [he2]; exact HT1.out.at 2 _ rfl
        have q2 : IntKind.u32.wrap (e2 : Int) = (e2 : Int) := by rw [IntKind.wrap_u32]; omega
        obtain ⟨e3, he3⟩ : ∃ x, x = wb y 3 := ⟨_, rfl⟩
        have h3 : e3 < 256 := by rw [he3]; exact wb_lt _ _
        have d3 : u1.cell? ⟨T, 3, none⟩ = some (.int .u8 (e3 : Int)) := by rw [he3]; exact HT1.out.at 3 _ rfl
        have q3 : IntKind.u32.wrap (e3 : Int) = (e3 : Int) := by rw [IntKind.wrap_u32]; omega
        have hsum := Hsum.out
        rw [← he0, ← he1, ← he2, ← he3] at hsum
        obtain ⟨a0, ha0⟩ : ∃ x, x = e0 * 16777216 := ⟨_, rfl⟩
        obtain ⟨a1, ha1⟩ : ∃ x, x = e1 * 65536 := ⟨_, rfl⟩
        obtain ⟨a2, ha2⟩ : ∃ x, x = e2 * 256 := ⟨_, rfl⟩
        have f0 : IntKind.u32.wrap ((e0 : Int) * 16777216) = (a0 : Int) := by rw [IntKind.wrap_u32]; omega
        have f1 : IntKind.u32.wrap ((e1 : Int) * 65536) = (a1 : Int) := by rw [IntKind.wrap_u32]; omega
        have f2 : IntKind.u32.wrap ((e2 : Int) * 256) = (a2 : Int) := by rw [IntKind.wrap_u32]; omega
        obtain ⟨s1, hs1⟩ : ∃ x, x = a0 + a1 := ⟨_, rfl⟩
        obtain ⟨s2, hs2⟩ : ∃ x, x = s1 + a2 := ⟨_, rfl⟩
        have g1 : IntKind.u32.wrap ((a0 : Int) + (a1 : Int)) = (s1 : Int) := by rw [IntKind.wrap_u32]; omega
        have g2 : IntKind.u32.wrap ((s1 : Int) + (a2 : Int)) = (s2 : Int) := by rw [IntKind.wrap_u32]; omega
        have g3 : IntKind.u32.wrap ((s2 : Int) + (e3 : Int)) = (y : Int) := by rw [IntKind.wrap_u32]; omega
        have hn2 := nu_drew hn1
        clear he0 he1 he2 he3 hsum ha0 ha1 ha2 hs1 hs2 h0 h1 h2 h3 hy32 hn1 hn
        go_still_tail 22, (by kernel_rfl)
        change wpList _ _ _ _ _ u1.drew
        clear d0 d1 d2 d3 q0 q1 q2 q3 f0 f1 f2 g1 g2 g3 cL
        generalize u1.drew = u2 at *
        go_wp2_with fail
        go_roundw
        case rel => first | exact ⟨k + 1, by omega, by go_num, hn2⟩ | ((repeat apply Exists.intro); exact ⟨⟨k + 1, by omega, by go_num, hn2⟩, rfl⟩)
        case measure => simp [intOf]; omega
      · obtain rfl : k = n := by omega
        obtain ⟨x, hx⟩ : ∃ x, x = Ws.getD 0 0 := ⟨_, rfl⟩
        have hx32 : x < 4294967296 := by rw [hx]; exact HK.out.small.getD 0
        have hrow := own_kept HO.out hn
        have cL : wr.cell? ⟨ml, 0, none⟩ = some (.int .u32 (x : Int)) := by rw [hx]; exact own_at hrow Hn.out.symm 0 hn60.1
        have fL := hrow.frozenAt 0
        obtain ⟨z, hz⟩ : ∃ z, z = (x + 1) % 4294967296 := ⟨_, rfl⟩
        have wz : IntKind.u32.wrap ((x : Int) + 1) = (z : Int) := by rw [IntKind.wrap_u32]; omega
        have Hxz := Lib.hid (show ((x : Int) != (z : Int)) = true by rw [bne_iff_ne]; omega)
        have HC1 := Lib.hid (HC9.out.below (nu_set (Hb4.out.trans (hn.mono Hb4.out.size)) (p := ⟨ml, 0, none⟩) HmB.out (.int .u32 (z : Int))))
        have hn1 := nu_trans hn9 (nu_set (Hb4.out.trans (hn.mono Hb4.out.size)) (p := ⟨ml, 0, none⟩) HmB.out (.int .u32 (z : Int)))
        have cz : (wr.setCell ⟨ml, 0, none⟩ (.int .u32 (z : Int))).cell? ⟨ml, 0, none⟩ = some (.int .u32 (z : Int)) := by
          have h := (hrow.stored 0 (.int .u32 (z : Int))).1.cellAt 0 (by omega)
          rw [h, List.getElem?_set_self (by rw [List.length_map, ← Hn.out]; exact hn60.1)]
        have Hx := Lib.hid hx
        have HS1 := Lib.hid (And.intro HC1.out cz)
        clear hx32 hrow hz cz hx HC1 hn
        go_upto_region 13 with fail
        clear cL fL wz
        generalize wr.setCell ⟨ml, 0, none⟩ (.int .u32 (z : Int)) = w5 at *
        refine wp_region_held_drew (S := fun W => CiphAt W C Ws R ∧ W.cell? ⟨ml, 0, none⟩ = some (.int .u32 (z : Int))) (by kernel_rfl) (⟨HS1.out.1.drew, by rw [(nu_drew (nu_refl w5)).cell (p := ⟨ml, 0, none⟩) (World.block_lt_of_cell? w5 _ HS1.out.2)]; exact HS1.out.2⟩) (fun hHeld => ?_)
        dsimp only [Array.replicate, List.replicate, List.size_toArray, List.length_cons, List.length_nil, Nat.reduceAdd] at hHeld ⊢
        have HS6 := Lib.hid hHeld
        have hn6 := nu_drew hn1
        clear HS1 hn1
        generalize w5.drew = w6 at *
        refine take_l (i := 0) (v := ?_) rfl (by kernel_rfl) (by kernel_rfl) (by kernel_rfl) (fun _ _ _ h => h) (Or.inl ⟨by rfl, ?_⟩) (by assumption) ?_
        case refine_2 => (intro _ _; go_simp; all_goals with_reducible rfl)
        simp only [Act.put, List.setIfInBounds_toArray, List.set_cons_zero, List.set_cons_succ]
        refine take_l (i := 4) (v := ?_) rfl (by kernel_rfl) (by kernel_rfl) (by kernel_rfl) (fun _ _ _ h => h) (Or.inl ⟨by rfl, ?_⟩) (by assumption) ?_
        case refine_2 => (intro _ _; go_simp; all_goals with_reducible rfl)
        simp only [Act.put, List.setIfInBounds_toArray, List.set_cons_zero, List.set_cons_succ]
        refine take_l (i := 5) (v := ?_) rfl (by kernel_rfl) (by kernel_rfl) (by kernel_rfl) (fun _ _ _ h => h) (Or.inl ⟨by rfl, ?_⟩) (by assumption) ?_
        case refine_2 => (intro _ _; go_simp; all_goals with_reducible rfl)
        simp only [Act.put, List.setIfInBounds_toArray, List.set_cons_zero, List.set_cons_succ]
        refine take_l (i := 6) rfl (by kernel_rfl) (by kernel_rfl) (by kernel_rfl) (fun _ _ _ h => h) (Or.inl ⟨by rfl, fun W hS => e32_cell hS.2 (.tmp 87) rfl rfl⟩) (by assumption) ?_
        simp only [Act.put, List.setIfInBounds_toArray, List.set_cons_zero, List.set_cons_succ]
        clear hHeld
        refine wpAnyH_ready (rs := [1]) (by kernel_rfl) (by simp) ?_
        refine cons_l rfl (fun K hK => ?_) AllReadyH.nil
        go_simp
        go_at_call 31
        refine (words_any HS6.out.1 (by rw [← Hn.out]; omega)).mono ?_
        rw [← Hn.out]
        rintro e w7 ⟨v2, rfl, hown2, hb7⟩
        obtain ⟨m2, c2, hv2, _, _⟩ := World.ownsRow.form hown2 hn60.1
        subst hv2
        have HS7 := Lib.hid (show CiphAt w7 C Ws R ∧ w7.cell? ⟨ml, 0, none⟩ = some (.int .u32 (z : Int)) from ⟨HS6.out.1.below hb7, by rw [hb7.cell (p := ⟨ml, 0, none⟩) (World.block_lt_of_cell? w6 _ HS6.out.2)]; exact HS6.out.2⟩)
        have c7 : w7.cell? ⟨m2, 0, none⟩ = some (.int .u32 (x : Int)) := by rw [Hx.out]; exact own_at hown2 Hn.out.symm 0 hn60.1
        have hn7 := nu_trans hn6 hb7
        clear hown2 hb7 HS6 hn6
        go_wp2_with fail
        refine hK.out _ _ HS7.out (fun hHeld => ?_)
        clear hK K
        simp only [Act.put, List.setIfInBounds_toArray, List.set_cons_zero, List.set_cons_succ]
        refine take_l (i := 2) (v := ?_) rfl (by kernel_rfl) (by kernel_rfl) (by kernel_rfl) (fun _ _ _ h => h) (Or.inl ⟨by rfl, ?_⟩) (by assumption) ?_
        case refine_2 => (intro _ _; go_simp; all_goals with_reducible rfl)
        simp only [Act.put, List.setIfInBounds_toArray, List.set_cons_zero, List.set_cons_succ]
        clear hHeld
        refine wpAnyH_ready (rs := [3]) (by kernel_rfl) (by simp) ?_
        refine cons_l rfl (fun K hK => ?_) AllReadyH.nil
        go_simp
        go_wp2_with fail
        refine hK.out _ _ HS7.out (fun hHeld => ?_)
        clear hK K c7
        simp only [Act.put, List.setIfInBounds_toArray, List.set_cons_zero, List.set_cons_succ]
        have hxz := Hxz.out
        refine take_l (i := 7) (v := ?_) rfl (by kernel_rfl) (by kernel_rfl) (by kernel_rfl) (fun _ _ _ h => h) (Or.inl ⟨by rfl, ?_⟩) (by assumption) ?_
        case refine_2 => (intro _ _; go_simp; all_goals with_reducible rfl)
        simp only [Act.put, List.setIfInBounds_toArray, List.set_cons_zero, List.set_cons_succ]
        refine take_l (i := 8) (v := ?_) rfl (by kernel_rfl) (by kernel_rfl) (by kernel_rfl) (fun _ _ _ h => h) (Or.inl ⟨by rfl, ?_⟩) (by assumption) ?_
        case refine_2 => (intro _ _; go_simp; all_goals with_reducible rfl)
        simp only [Act.put, List.setIfInBounds_toArray, List.set_cons_zero, List.set_cons_succ]
        clear hHeld hxz
        refine wpAnyH_ready (rs := [9]) (by kernel_rfl) (by simp) ?_
        refine cons_l rfl (fun K hK => ?_) AllReadyH.nil
        go_simp
        go_at_call 28
        refine (awake6 w7).mono ?_
        rintro e w8 ⟨rfl, hb8⟩
        have hn8 := nu_trans hn7 hb8
        have HS8 := Lib.hid (show CiphAt w8 C Ws R ∧ w8.cell? ⟨ml, 0, none⟩ = some (.int .u32 (z : Int)) from ⟨HS7.out.1.below hb8, by rw [hb8.cell (p := ⟨ml, 0, none⟩) (World.block_lt_of_cell? w7 _ HS7.out.2)]; exact HS7.out.2⟩)
        clear hb8 HS7 hn7
        go_wp2_with fail
        refine hK.out _ _ HS8.out (fun hHeld => ?_)
        clear hK K
        simp only [Act.put, List.setIfInBounds_toArray, List.set_cons_zero, List.set_cons_succ]
        refine take_l (i := 10) (v := ?_) rfl (by kernel_rfl) (by kernel_rfl) (by kernel_rfl) (fun _ _ _ h => h) (Or.inl ⟨by rfl, ?_⟩) (by assumption) ?_
        case refine_2 => (intro _ _; go_simp; all_goals with_reducible rfl)
        simp only [Act.put, List.setIfInBounds_toArray, List.set_cons_zero, List.set_cons_succ]
        refine take_l (i := 11) (v := ?_) rfl (by kernel_rfl) (by kernel_rfl) (by kernel_rfl) (fun _ _ _ h => h) (Or.inl ⟨by rfl, ?_⟩) (by assumption) ?_
        case refine_2 => (intro _ _; go_simp; all_goals with_reducible rfl)
        simp only [Act.put, List.setIfInBounds_toArray, List.set_cons_zero, List.set_cons_succ]
        refine wpAnyH_done (by kernel_rfl) ?_ _
        go_wp2_with fail
        go_ret
        exact ⟨rfl, hn8⟩
  · have HNw := Lib.hid (aesNew_bad a len cap w (by omega) (by omega))
    have HRw := Lib.hid (refNew_bad a len cap w (by omega) (by omega))
    clear hx hL
    go_enter Try.func10, Try.ntmps10
    go_wp2_with fail
    refine HNw.out.mono ?_
    rintro e w2 ⟨rfl, rfl⟩
    go_wp2_with fail
    refine HRw.out.mono ?_
    rintro e w3 ⟨rfl, hbk⟩
    obtain ⟨LK, hLK⟩ : ∃ LK, LK = keyZ := ⟨_, rfl⟩
    rw [← hLK]
    have HLl := Lib.hid (show LK.length = 513 by rw [hLK]; exact keyZ_len)
    have HL1 := Lib.hid (show ∀ u ∈ LK, u.oneCell' = true by rw [hLK]; exact keyZ_one)
    have HKm := Lib.hid (Blk.made w3 44 Try.zeroCells44)
    have halk := nu_fill (a := w3) LK (g := w3.heap.size) (Nat.le_refl _) 0 _ (nu_alloc (nu_refl w3) (.cells Try.zeroCells44 44))
    have Hbk := Lib.hid (nu_trans hbk halk)
    clear hLK hbk halk
    go_upto_region 3 with (refine wpList_store_in rfl 44 (.tmp 5) (.tmp 18) rfl w3.heap.size 0 LK rfl rfl 44 Try.zeroCells44 HKm.out (by rw [zero_key_size, HLl.out]; omega) (by rw [HLl.out]; kernel_rfl) HL1.out ?_)
    change Code.wp _ _ _ _ ((w3.alloc (.cells Try.zeroCells44 44)).setCells w3.heap.size 0 LK)
    clear HKm
    generalize (w3.alloc (.cells Try.zeroCells44 44)).setCells w3.heap.size 0 LK = w9 at *
    have hn9 := Hbk.out
    go_wp2_with fail
    refine (words_nil _).mono ?_
    rintro e w4 ⟨rfl, rfl⟩
    go_wp2_with fail
    refine (awake6 _).mono ?_
    rintro e w5 ⟨rfl, hb5⟩
    have hn5 := nu_trans hn9 hb5
    go_wp2_with fail
    go_ret
    exact ⟨rfl, hn5⟩
end Go.Proofs.Ytnojbjconiddoaa
