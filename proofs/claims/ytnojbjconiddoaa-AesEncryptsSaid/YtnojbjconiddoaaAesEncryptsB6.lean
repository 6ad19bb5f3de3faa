/-
  What the proof of AesEncrypts rests on, part 6 of 6.
-/
import Derived.Test.YtnojbjconiddoaaAesEncryptsB5
namespace Go.Proofs.Ytnojbjconiddoaa
open Go.ChangeShapes Go.WideShapes Go.ChangeAt Go.RowKit Fld Aes
set_option linter.unusedSimpArgs false

theorem keyZ_len : keyZ.length = 513 := by rw [keyZ, List.length_cons, List.length_append, List.length_map, List.length_replicate]
set_option maxRecDepth 100000 in
set_option maxHeartbeats 1000000 in
theorem refNew_bad (a : Option Addr) (L cap : Nat) (w : World) (h1 : L ≠ 16) (h2 : L ≠ 32) :
    Calls Try.prog 27 #[.slice a L cap] w fun e w' => e = .returned (.tuple #[.agg keyZ.toArray, .bool false]) ∧ Below w.heap.size w w' := by
  have t1 : ((L : Int) != 16) = true := by rw [bne_iff_ne]; omega
  have t2 : ((L : Int) != 32) = true := by rw [bne_iff_ne]; omega
  have hal := nu_alloc (nu_alloc (nu_refl w) (.cells Try.zeroCells44 44)) (.cells Try.zeroCells44 44)
  have HR := Lib.hid ((Blk.made w 44 Try.zeroCells44).alloc (.cells Try.zeroCells44 44))
  have HK := Lib.hid (Blk.made1 w (.cells Try.zeroCells44 44) 44 Try.zeroCells44)
  go_enter Try.func27, Try.ntmps27
  go_upto_region 2 with fail
  generalize (w.alloc (.cells Try.zeroCells44 44)).alloc (.cells Try.zeroCells44 44) = w1 at *
  rw [zero_key] at HR HK
  obtain ⟨L, hL⟩ : ∃ L, L = keyZ := ⟨_, rfl⟩
  have HLl := Lib.hid (show L.length = 513 by rw [hL]; exact keyZ_len)
  have HL1 := Lib.hid (show ∀ v ∈ L, v.oneCell' = true by
    rw [hL]
    intro v hv
    rcases List.mem_cons.1 hv with rfl | hv
    · rfl
    · rcases List.mem_append.1 hv with hv | hv <;> exact vb_one _ v hv)
  rw [← hL] at HR HK
  have HLe := Lib.hid hL
  have HF := Lib.hid (Blk.fill HR.out L (by rw [List.size_toArray]))
  have Hn := Lib.hid (nu_fill L (g := w.heap.size) (Nat.le_refl _) 0 _ hal)
  clear hal hL
  go_wp2_with (first | (refine wpList_run _ (by rfl) (eKey_load HK.out HLl.out (.tmp 4) rfl rfl) ?_) | (refine wpList_store_in rfl 44 (.tmp 2) (.tmp 21) rfl w.heap.size 0 L rfl rfl 44 L.toArray HR.out (by rw [List.size_toArray]; omega) (by rw [HLl.out]; kernel_rfl) HL1.out ?_))
  refine bodyPost_ret (results_blkS2 rfl _ w.heap.size 44 L.toArray rfl HF.out Try.underlying44 (by rw [List.size_toArray, HLl.out]; kernel_rfl)) rfl ⟨by rw [HLe.out]; rfl, Hn.out⟩
def RefMade (w : World) (W : List Nat) (e : Ending) (w' : World) : Prop := ∃ v, e = .returned (.tuple #[.agg (keyL v).toArray, .bool true]) ∧ RowsAt w' v W ∧ Below w.heap.size w w'
set_option maxRecDepth 100000 in
set_option maxHeartbeats 8000000 in
theorem refNew_any (n L : Nat) (hn : n = 4 ∨ n = 8) (hL : L = 4 * n) (a : Option Addr) (cap : Nat) (key : List Nat) (w : World) (hx : BytesIn w a L cap key) :
    Calls Try.prog 27 #[.slice a L cap] w (RefMade w (expand key)) := by
  obtain ⟨i0, hi, hz0, hz1, hz2⟩ := info_parts info_el
  have Hi := Lib.hid (And.intro hi (And.intro hz0 (And.intro hz1 hz2)))
  have Hkl := Lib.hid (show key.length = L from hx.1.1)
  have Hkx := Lib.hid (fun x h => wf_u8_lt (hx.1.2.1 x h))
  obtain ⟨b1, o1, rfl, hbl, hcell⟩ := hx.1.2.2 (by omega)
  have Hcell := Lib.hid (show ∀ j x : Nat, key[j]? = some x → w.cell? ⟨b1, o1 + j, none⟩ = some (.int .u8 (x : Int)) from hcell)
  have hn8 : n ≤ 8 := by omega
  have hn4 : 4 ≤ n := by omega
  have hq : (L : Int) / 4 = (n : Int) := by omega
  have HL := Lib.hid hL
  have Hn := Lib.hid hn
  have hcases : (((L : Int) == 16) = true ∧ ((L : Int) != 16) = false) ∨ (((L : Int) != 16) = true ∧ ((L : Int) != 32) = false) := by
    rcases hn with rfl | rfl
    · subst hL; exact .inl ⟨rfl, rfl⟩
    · subst hL; exact .inr ⟨rfl, rfl⟩
  have hL32 : L ≤ 32 := by omega
  have hal := nu_alloc (nu_alloc (nu_refl w) (.cells Try.zeroCells44 44)) (.cells Try.zeroCells44 44)
  have HR := Lib.hid ((Blk.made w 44 Try.zeroCells44).alloc (.cells Try.zeroCells44 44))
  have HK := Lib.hid (Blk.made1 w (.cells Try.zeroCells44 44) 44 Try.zeroCells44)
  clear hi hz0 hz1 hz2 hx hcell hL hn
  go_enter Try.func27, Try.ntmps27
  go_upto_region 2 with fail
  generalize (w.alloc (.cells Try.zeroCells44 44)).alloc (.cells Try.zeroCells44 44) = w1 at *
  rw [zero_key] at HR HK
  obtain ⟨KK, hKK⟩ : ∃ KK, KK = w.heap.size + 1 := ⟨_, rfl⟩
  obtain ⟨KR, hKR⟩ : ∃ KR, KR = w.heap.size := ⟨_, rfl⟩
  rw [← hKK] at HK
  rw [← hKR] at HR
  rw [← hKK, ← hKR]
  have Ho := Lib.hid (show w.heap.size ≤ KK ∧ w.heap.size ≤ KR ∧ KR ≠ KK from ⟨by omega, by omega, by omega⟩)
  have Hal := Lib.hid hal
  clear hKK hKR hal
  go_cut [20] (fun s20 wx => s20 = .bool false ∧ wx = w1)
  case first =>
    rcases hcases with ⟨t1, t2⟩ | ⟨t1, t2⟩
    · go_wp2_with fail
      go_meet
      exact ⟨rfl, rfl⟩
    · go_wp2_with fail
      go_meet
      exact ⟨rfl, rfl⟩
  case rest =>
    obtain ⟨rfl, hwc⟩ := hcut
    have hwc' := hwc.symm
    subst hwc'
    clear hcases
    obtain ⟨bx, hbx⟩ : ∃ bx, bx = boxL := ⟨_, rfl⟩
    obtain ⟨bk, hbk⟩ : ∃ bk, bk = backL := ⟨_, rfl⟩
    have Hbe := Lib.hid (And.intro hbx hbk)
    have hbxl : bx.length = 256 := by rw [hbx]; exact boxL_len
    have hbkl : bk.length = 256 := by rw [hbk]; exact backL_len
    have hBx := boxes_any w1
    rw [← hbx, ← hbk] at hBx
    have HBx := Lib.hid hBx
    clear hbx hbk hBx
    go_upto_region 4 with fail
    go_wp2_with fail
    refine HBx.out.mono ?_
    rintro e w2 ⟨rfl, hb2⟩
    have HK2 := Lib.hid (HK.out.below hb2 HK.out.lt)
    have HR2 := Lib.hid (HR.out.below hb2 HR.out.lt)
    have hn2 := nu_trans Hal.out hb2
    clear hb2 HK HR Hal
    have hal := nu_alloc (nu_alloc (nu_refl w2) (.cells Try.zeroCells42 42)) (.cells Try.zeroCells42 42)
    have HX := Lib.hid ((Blk.made w2 42 Try.zeroCells42).alloc (.cells Try.zeroCells42 42))
    have HY := Lib.hid (Blk.made1 w2 (.cells Try.zeroCells42 42) 42 Try.zeroCells42)
    have Hsz := Lib.hid (show ∀ xs : List Nat, xs.length = 256 → (xs.map vb).length = (Try.zeroCells42).size from fun xs h => by rw [zero_256, List.length_map, List.size_toArray, List.length_map, List.length_replicate, h])
    have HX3 := Lib.hid (Blk.fill HX.out (bx.map vb) (Hsz.out _ hbxl))
    have HY3 := Lib.hid (HY.out.farCells (bx.map vb) (show w2.heap.size + 1 ≠ w2.heap.size by omega) 0)
    have HX4 := Lib.hid (HX3.out.farCells (bk.map vb) (show w2.heap.size ≠ w2.heap.size + 1 by omega) 0)
    have HY4 := Lib.hid (Blk.fill HY3.out (bk.map vb) (Hsz.out _ hbkl))
    have Hn4 := Lib.hid (nu_fill (bk.map vb) (g := w2.heap.size + 1) (by omega) 0 _ (nu_fill (bx.map vb) (g := w2.heap.size) (Nat.le_refl _) 0 _ hal))
    clear hal
    go_upto_region 5 with (first | (refine wpList_store_blk rfl 42 (.tmp 5) (.tmp 24) rfl w2.heap.size (bx.map vb) rfl rfl 42 Try.zeroCells42 HX.out (Hsz.out _ hbxl) (size_256 hbxl) (vb_one _) ?_) | (refine wpList_store_blk rfl 42 (.tmp 6) (.tmp 25) rfl (w2.heap.size + 1) (bk.map vb) rfl rfl 42 Try.zeroCells42 HY3.out (Hsz.out _ hbkl) (size_256 hbkl) (vb_one _) ?_))
    change Code.wp _ _ _ _ ((((w2.alloc (.cells Try.zeroCells42 42)).alloc (.cells Try.zeroCells42 42)).setCells w2.heap.size 0 (bx.map vb)).setCells (w2.heap.size + 1) 0 (bk.map vb))
    clear HX HY HX3 HY3
    generalize (((w2.alloc (.cells Try.zeroCells42 42)).alloc (.cells Try.zeroCells42 42)).setCells w2.heap.size 0 (bx.map vb)).setCells (w2.heap.size + 1) 0 (bk.map vb) = w4 at *
    have HKX := Lib.hid (show KK ≠ w2.heap.size ∧ KK ≠ w2.heap.size + 1 ∧ KK < w2.heap.size ∧ KR < w2.heap.size from by have h1 := HK2.out.lt; have h2 := HR2.out.lt; omega)
    have HK4 := Lib.hid (HK2.out.below Hn4.out HK2.out.lt)
    have HR4 := Lib.hid (HR2.out.below Hn4.out HR2.out.lt)
    have Hnn4 := Lib.hid (nu_trans hn2 Hn4.out)
    clear HK2 HR2 hn2 Hn4
    obtain ⟨Y, hY⟩ : ∃ Y, Y = w2.heap.size + 1 := ⟨_, rfl⟩
    obtain ⟨X, hX⟩ : ∃ X, X = w2.heap.size := ⟨_, rfl⟩
    rw [← hY] at HY4 HKX
    rw [← hX] at HX4 HKX
    rw [← hY, ← hX]
    clear hX hY
    have HK5 := Lib.hid (show Blk (w4.setCells KK 1 (bx.map vb)) KK 44 ([Value.slice none 0 0] ++ bx.map vb ++ (List.replicate 256 0).map vb).toArray from by rw [Hbe.out.1]; exact key_box HK4.out)
    have HX5 := Lib.hid (HX4.out.farCells (bx.map vb) (Ne.symm HKX.out.1) 1)
    have HY5 := Lib.hid (HY4.out.farCells (bx.map vb) (Ne.symm HKX.out.2.1) 1)
    have HR5 := Lib.hid (HR4.out.farCells (bx.map vb) Ho.out.2.2 1)
    have Hn5 := Lib.hid (nu_fill (bx.map vb) (g := KK) Ho.out.1 1 _ Hnn4.out)
    go_upto_region 6 with (first | (refine wpList_run _ (by rfl) (e256_load HX4.out hbxl (.tmp 5) rfl rfl) ?_) | (refine wpList_store_in rfl 42 (.tmp 27) (.tmp 26) rfl KK 1 (bx.map vb) rfl rfl 44 keyZ.toArray HK4.out (by rw [List.length_map, hbxl, List.size_toArray, keyZ_len]; omega) (size_256 hbxl) (vb_one _) ?_))
    change Code.wp _ _ _ _ (w4.setCells KK 1 (bx.map vb))
    clear HK4 HX4 HY4 HR4 Hnn4
    generalize w4.setCells KK 1 (bx.map vb) = w5 at *
    have HK6 := Lib.hid (show Blk (w5.setCells KK 257 (bk.map vb)) KK 44 (keyL (.slice none 0 0)).toArray from by have h := HK5.out; rw [Hbe.out.1] at h; rw [Hbe.out.2]; exact key_back h)
    have HX6 := Lib.hid (HX5.out.farCells (bk.map vb) (Ne.symm HKX.out.1) 257)
    have HR6 := Lib.hid (HR5.out.farCells (bk.map vb) Ho.out.2.2 257)
    have Hn6 := Lib.hid (nu_fill (bk.map vb) (g := KK) Ho.out.1 257 _ Hn5.out)
    have Hks := Lib.hid (show ([Value.slice none 0 0] ++ bx.map vb ++ (List.replicate 256 0).map vb).length = 513 by rw [List.length_append, List.length_append, List.length_map, List.length_map, hbxl, List.length_replicate]; rfl)
    go_upto_region 7 with (first | (refine wpList_run _ (by rfl) (e256_load HY5.out hbkl (.tmp 6) rfl rfl) ?_) | (refine wpList_store_in rfl 42 (.tmp 29) (.tmp 28) rfl KK 257 (bk.map vb) rfl rfl 44 _ HK5.out (by rw [List.length_map, hbkl, List.size_toArray, Hks.out]; omega) (size_256 hbkl) (vb_one _) ?_))
    change Code.wp _ _ _ _ (w5.setCells KK 257 (bk.map vb))
    clear HK5 HX5 HY5 HR5 Hn5 Hks
    generalize w5.setCells KK 257 (bk.map vb) = w6 at *
    obtain ⟨B0, hB0⟩ : ∃ B0, B0 = w6.heap.size := ⟨_, rfl⟩
    have HN := Lib.hid (show RK w KK KR X B0 (words key 0) (.slice none 0 0) w6 from ⟨HK6.out, HR6.out, by have h := HX6.out; rw [Hbe.out.1] at h; exact h, World.ownsRow_nil _ _ _ _, Hn6.out, by omega, ⟨Ho.out.1, by rw [hB0]; exact HK6.out.lt, Ho.out.2.1, by rw [hB0]; exact HR6.out.lt, by rw [hB0]; exact HX6.out.lt, Ho.out.2.2, Ne.symm HKX.out.1⟩⟩)
    clear hB0 HK6 HX6 HR6 Hn6 HKX Ho
    go_wp2_with fail
    clear hq
    go_loopw [8] (fun i wr => ∃ (k : Nat) (v : Value), k ≤ n ∧ i = .int .i64 k ∧ RK w KK KR X B0 (words key k) v wr) (fun i _ => n - (intOf i).toNat)
    case atStart => exact ⟨0, _, by omega, rfl, HN.out⟩
    case round =>
      clear HN
      obtain ⟨k, v, hk, rfl, hN⟩ := hrel
      have HN := Lib.hid hN
      clear hN
      by_cases hlt : k < n
      · have hki : (k : Int) < (n : Int) := by omega
        have e0 : ∀ j, j < 4 → ∃ x : Nat, x < 256 ∧ key[4 * k + j]? = some x ∧ key.getD (4 * k + j) 0 = x := fun j hj => by
          have hlt : 4 * k + j < key.length := by rw [Hkl.out]; have := HL.out; omega
          have h1 := List.getElem?_eq_getElem hlt
          exact ⟨key[4 * k + j], Hkx.out _ (List.getElem_mem hlt), h1, by rw [List.getD_eq_getElem?_getD, h1]; rfl⟩
        obtain ⟨x0, hx0, ex0, ey0⟩ := e0 0 (by omega)
        obtain ⟨x1, hx1, ex1, ey1⟩ := e0 1 (by omega)
        obtain ⟨x2, hx2, ex2, ey2⟩ := e0 2 (by omega)
        obtain ⟨x3, hx3, ex3, ey3⟩ := e0 3 (by omega)
        obtain ⟨y, hy⟩ : ∃ y, y = wN x0 x1 x2 x3 := ⟨_, rfl⟩
        have Hw := Lib.hid (show words key (k + 1) = words key k ++ [y] by rw [words, show 4 * k = 4 * k + 0 from rfl, ey0, ey1, ey2, ey3, ← hy])
        have hwb := wb_wN x0 x1 x2 x3 hx0 hx1 hx2 hx3
        rw [← hy] at hwb
        have Hel := Lib.hid (show (elL y).map vb = [.int .u8 (x0 : Int), .int .u8 (x1 : Int), .int .u8 (x2 : Int), .int .u8 (x3 : Int)] by unfold elL; rw [hwb.1, hwb.2.1, hwb.2.2.1, hwb.2.2.2]; rfl)
        obtain ⟨n0, hn0⟩ : ∃ q, q = 4 * k := ⟨_, rfl⟩
        have wp0 : IntKind.i64.wrap (4 * (k : Int)) = (n0 : Int) := by rw [IntKind.wrap_i64]; omega
        have hi0 : (n0 : Int) < (L : Int) := by have := HL.out; omega
        have Hx0 := Lib.hid (show key[n0]? = some x0 by rw [hn0]; exact ex0)
        obtain ⟨n1, hn1⟩ : ∃ q, q = n0 + 1 := ⟨_, rfl⟩
        have wp1 : IntKind.i64.wrap ((n0 : Int) + 1) = (n1 : Int) := by rw [IntKind.wrap_i64]; omega
        have hi1 : (n1 : Int) < (L : Int) := by have := HL.out; omega
        have Hx1 := Lib.hid (show key[n1]? = some x1 by rw [hn1, hn0]; exact ex1)
        obtain ⟨n2, hn2⟩ : ∃ q, q = n0 + 2 := ⟨_, rfl⟩
        have wp2 : IntKind.i64.wrap ((n0 : Int) + 2) = (n2 : Int) := by rw [IntKind.wrap_i64]; omega
        have hi2 : (n2 : Int) < (L : Int) := by have := HL.out; omega
        have Hx2 := Lib.hid (show key[n2]? = some x2 by rw [hn2, hn0]; exact ex2)
        obtain ⟨n3, hn3⟩ : ∃ q, q = n0 + 3 := ⟨_, rfl⟩
        have wp3 : IntKind.i64.wrap ((n0 : Int) + 3) = (n3 : Int) := by rw [IntKind.wrap_i64]; omega
        have hi3 : (n3 : Int) < (L : Int) := by have := HL.out; omega
        have Hx3 := Lib.hid (show key[n3]? = some x3 by rw [hn3, hn0]; exact ex3)
        clear e0 ex0 ex1 ex2 ex3 ey0 ey1 ey2 ey3 hwb hy hn0 hn1 hn2 hn3 hx0 hx1 hx2 hx3
        go_upto_region 11 with fail
        refine wp_region_held_drew (S := fun W => Below w.heap.size w W) (by kernel_rfl) (nu_drew HN.out.nu) (fun hHeld => ?_)
        dsimp only [Array.replicate, List.replicate, List.size_toArray, List.length_cons, List.length_nil, Nat.reduceAdd] at hHeld ⊢
        have HN0 := Lib.hid (HN.out.under (nu_drew (nu_refl wr)))
        clear HN
        generalize wr.drew = u0 at *
        refine take_l (i := 0) (v := ?_) rfl (by kernel_rfl) (by kernel_rfl) (by kernel_rfl) (fun _ _ _ h => h) (Or.inl ⟨by rfl, ?_⟩) (by assumption) ?_
        case refine_2 => (intro _ _; go_simp; all_goals with_reducible rfl)
        simp only [Act.put, List.setIfInBounds_toArray, List.set_cons_zero, List.set_cons_succ]
        refine take_l (i := 2) (v := ?_) rfl (by kernel_rfl) (by kernel_rfl) (by kernel_rfl) (fun _ _ _ h => h) (Or.inl ⟨by rfl, ?_⟩) (by assumption) ?_
        case refine_2 => (intro _ _; go_simp; all_goals with_reducible rfl)
        simp only [Act.put, List.setIfInBounds_toArray, List.set_cons_zero, List.set_cons_succ]
        refine take_l (i := 3) (v := ?_) rfl (by kernel_rfl) (by kernel_rfl) (by kernel_rfl) (fun _ _ _ h => h) (Or.inl ⟨by rfl, ?_⟩) (by assumption) ?_
        case refine_2 => (intro _ _; go_simp; all_goals with_reducible rfl)
        simp only [Act.put, List.setIfInBounds_toArray, List.set_cons_zero, List.set_cons_succ]
        refine take_l (i := 4) (v := ?_) rfl (by kernel_rfl) (by kernel_rfl) (by kernel_rfl) (fun _ _ _ h => h) (Or.inl ⟨by rfl, ?_⟩) (by assumption) ?_
        case refine_2 => (intro _ _; go_simp; all_goals with_reducible rfl)
        simp only [Act.put, List.setIfInBounds_toArray, List.set_cons_zero, List.set_cons_succ]
        refine take_l (i := 5) (v := ?_) rfl (by kernel_rfl) (by kernel_rfl) (by kernel_rfl) (fun _ _ _ h => h) (Or.inl ⟨by rfl, ?_⟩) (by assumption) ?_
        case refine_2 => (intro _ _; go_simp; all_goals with_reducible rfl)
        simp only [Act.put, List.setIfInBounds_toArray, List.set_cons_zero, List.set_cons_succ]
        refine take_l (i := 6) rfl (by kernel_rfl) (by kernel_rfl) (by kernel_rfl) (fun _ _ _ h => h) (Or.inl ⟨by rfl, fun W hS => e16_byte ((hS.cell (p := ⟨b1, o1 + n0, none⟩) hbl).trans (Hcell.out n0 x0 Hx0.out)) (.tmp 43) rfl rfl⟩) (by assumption) ?_
        simp only [Act.put, List.setIfInBounds_toArray, List.set_cons_zero, List.set_cons_succ]
        refine take_l (i := 7) (v := ?_) rfl (by kernel_rfl) (by kernel_rfl) (by kernel_rfl) (fun _ _ _ h => h) (Or.inl ⟨by rfl, ?_⟩) (by assumption) ?_
        case refine_2 => (intro _ _; go_simp; all_goals with_reducible rfl)
        simp only [Act.put, List.setIfInBounds_toArray, List.set_cons_zero, List.set_cons_succ]
        refine take_l (i := 8) (v := ?_) rfl (by kernel_rfl) (by kernel_rfl) (by kernel_rfl) (fun _ _ _ h => h) (Or.inl ⟨by rfl, ?_⟩) (by assumption) ?_
        case refine_2 => (intro _ _; go_simp; all_goals with_reducible rfl)
        simp only [Act.put, List.setIfInBounds_toArray, List.set_cons_zero, List.set_cons_succ]
        refine take_l (i := 9) (v := ?_) rfl (by kernel_rfl) (by kernel_rfl) (by kernel_rfl) (fun _ _ _ h => h) (Or.inl ⟨by rfl, ?_⟩) (by assumption) ?_
        case refine_2 => (intro _ _; go_simp; all_goals with_reducible rfl)
        simp only [Act.put, List.setIfInBounds_toArray, List.set_cons_zero, List.set_cons_succ]
        refine take_l (i := 10) (v := ?_) rfl (by kernel_rfl) (by kernel_rfl) (by kernel_rfl) (fun _ _ _ h => h) (Or.inl ⟨by rfl, ?_⟩) (by assumption) ?_
        case refine_2 => (intro _ _; go_simp; all_goals with_reducible rfl)
        simp only [Act.put, List.setIfInBounds_toArray, List.set_cons_zero, List.set_cons_succ]
        refine take_l (i := 11) (v := ?_) rfl (by kernel_rfl) (by kernel_rfl) (by kernel_rfl) (fun _ _ _ h => h) (Or.inl ⟨by rfl, ?_⟩) (by assumption) ?_
        case refine_2 => (intro _ _; go_simp; all_goals with_reducible rfl)
        simp only [Act.put, List.setIfInBounds_toArray, List.set_cons_zero, List.set_cons_succ]
        refine take_l (i := 12) rfl (by kernel_rfl) (by kernel_rfl) (by kernel_rfl) (fun _ _ _ h => h) (Or.inl ⟨by rfl, fun W hS => e16_byte ((hS.cell (p := ⟨b1, o1 + n1, none⟩) hbl).trans (Hcell.out n1 x1 Hx1.out)) (.tmp 49) rfl rfl⟩) (by assumption) ?_
        simp only [Act.put, List.setIfInBounds_toArray, List.set_cons_zero, List.set_cons_succ]
        refine take_l (i := 13) (v := ?_) rfl (by kernel_rfl) (by kernel_rfl) (by kernel_rfl) (fun _ _ _ h => h) (Or.inl ⟨by rfl, ?_⟩) (by assumption) ?_
        case refine_2 => (intro _ _; go_simp; all_goals with_reducible rfl)
        simp only [Act.put, List.setIfInBounds_toArray, List.set_cons_zero, List.set_cons_succ]
        refine take_l (i := 14) (v := ?_) rfl (by kernel_rfl) (by kernel_rfl) (by kernel_rfl) (fun _ _ _ h => h) (Or.inl ⟨by rfl, ?_⟩) (by assumption) ?_
        case refine_2 => (intro _ _; go_simp; all_goals with_reducible rfl)
        simp only [Act.put, List.setIfInBounds_toArray, List.set_cons_zero, List.set_cons_succ]
        refine take_l (i := 15) (v := ?_) rfl (by kernel_rfl) (by kernel_rfl) (by kernel_rfl) (fun _ _ _ h => h) (Or.inl ⟨by rfl, ?_⟩) (by assumption) ?_
        case refine_2 => (intro _ _; go_simp; all_goals with_reducible rfl)
        simp only [Act.put, List.setIfInBounds_toArray, List.set_cons_zero, List.set_cons_succ]
        refine take_l (i := 16) (v := ?_) rfl (by kernel_rfl) (by kernel_rfl) (by kernel_rfl) (fun _ _ _ h => h) (Or.inl ⟨by rfl, ?_⟩) (by assumption) ?_
        case refine_2 => (intro _ _; go_simp; all_goals with_reducible rfl)
        simp only [Act.put, List.setIfInBounds_toArray, List.set_cons_zero, List.set_cons_succ]
        refine take_l (i := 17) (v := ?_) rfl (by kernel_rfl) (by kernel_rfl) (by kernel_rfl) (fun _ _ _ h => h) (Or.inl ⟨by rfl, ?_⟩) (by assumption) ?_
        case refine_2 => (intro _ _; go_simp; all_goals with_reducible rfl)
        simp only [Act.put, List.setIfInBounds_toArray, List.set_cons_zero, List.set_cons_succ]
        refine take_l (i := 18) rfl (by kernel_rfl) (by kernel_rfl) (by kernel_rfl) (fun _ _ _ h => h) (Or.inl ⟨by rfl, fun W hS => e16_byte ((hS.cell (p := ⟨b1, o1 + n2, none⟩) hbl).trans (Hcell.out n2 x2 Hx2.out)) (.tmp 55) rfl rfl⟩) (by assumption) ?_
        simp only [Act.put, List.setIfInBounds_toArray, List.set_cons_zero, List.set_cons_succ]
        refine take_l (i := 19) (v := ?_) rfl (by kernel_rfl) (by kernel_rfl) (by kernel_rfl) (fun _ _ _ h => h) (Or.inl ⟨by rfl, ?_⟩) (by assumption) ?_
        case refine_2 => (intro _ _; go_simp; all_goals with_reducible rfl)
        simp only [Act.put, List.setIfInBounds_toArray, List.set_cons_zero, List.set_cons_succ]
        refine take_l (i := 20) (v := ?_) rfl (by kernel_rfl) (by kernel_rfl) (by kernel_rfl) (fun _ _ _ h => h) (Or.inl ⟨by rfl, ?_⟩) (by assumption) ?_
        case refine_2 => (intro _ _; go_simp; all_goals with_reducible rfl)
        simp only [Act.put, List.setIfInBounds_toArray, List.set_cons_zero, List.set_cons_succ]
        refine take_l (i := 21) (v := ?_) rfl (by kernel_rfl) (by kernel_rfl) (by kernel_rfl) (fun _ _ _ h => h) (Or.inl ⟨by rfl, ?_⟩) (by assumption) ?_
        case refine_2 => (intro _ _; go_simp; all_goals with_reducible rfl)
        simp only [Act.put, List.setIfInBounds_toArray, List.set_cons_zero, List.set_cons_succ]
        refine take_l (i := 22) (v := ?_) rfl (by kernel_rfl) (by kernel_rfl) (by kernel_rfl) (fun _ _ _ h => h) (Or.inl ⟨by rfl, ?_⟩) (by assumption) ?_
        case refine_2 => (intro _ _; go_simp; all_goals with_reducible rfl)
        simp only [Act.put, List.setIfInBounds_toArray, List.set_cons_zero, List.set_cons_succ]
        refine take_l (i := 23) (v := ?_) rfl (by kernel_rfl) (by kernel_rfl) (by kernel_rfl) (fun _ _ _ h => h) (Or.inl ⟨by rfl, ?_⟩) (by assumption) ?_
        case refine_2 => (intro _ _; go_simp; all_goals with_reducible rfl)
        simp only [Act.put, List.setIfInBounds_toArray, List.set_cons_zero, List.set_cons_succ]
        refine take_l (i := 24) rfl (by kernel_rfl) (by kernel_rfl) (by kernel_rfl) (fun _ _ _ h => h) (Or.inl ⟨by rfl, fun W hS => e16_byte ((hS.cell (p := ⟨b1, o1 + n3, none⟩) hbl).trans (Hcell.out n3 x3 Hx3.out)) (.tmp 61) rfl rfl⟩) (by assumption) ?_
        simp only [Act.put, List.setIfInBounds_toArray, List.set_cons_zero, List.set_cons_succ]
        refine take_l (i := 25) (v := ?_) rfl (by kernel_rfl) (by kernel_rfl) (by kernel_rfl) (fun _ _ _ h => h) (Or.inl ⟨by rfl, ?_⟩) (by assumption) ?_
        case refine_2 => (intro _ _; go_simp; all_goals with_reducible rfl)
        simp only [Act.put, List.setIfInBounds_toArray, List.set_cons_zero, List.set_cons_succ]
        clear wp0 wp1 wp2 wp3 hi0 hi1 hi2 hi3 hHeld
        refine wpAnyH_ready (rs := [1, 26]) (by kernel_rfl) (by simp) ?_
        refine cons_l rfl (fun K hK => ?_) (cons_l rfl (fun K hK => ?_) AllReadyH.nil)
        · have c0 : u0.cell? ⟨KK, 0, none⟩ = some v := HN0.out.c.at 0 _ (keyL_0 v)
          go_simp
          go_wp2_with fail
          refine hK.out _ _ HN0.out.nu (fun hHeld => ?_)
          clear hK K c0 hHeld
          simp only [Act.put, List.setIfInBounds_toArray, List.set_cons_zero, List.set_cons_succ]
          refine wpAnyH_ready (rs := [26]) (by kernel_rfl) (by simp) ?_
          refine cons_l rfl (fun K hK => ?_) AllReadyH.nil
          have hal := nu_alloc (nu_refl u0) (.cells #[.int .u8 (x0 : Int), .int .u8 (x1 : Int), .int .u8 (x2 : Int), .int .u8 (x3 : Int)] 51)
          have HY := Lib.hid (Blk.made u0 51 #[.int .u8 (x0 : Int), .int .u8 (x1 : Int), .int .u8 (x2 : Int), .int .u8 (x3 : Int)])
          have HN1 := Lib.hid (HN0.out.under hal)
          clear hal HN0
          go_simp
          go_wp2_with fail
          generalize u0.heap.size = jj at *
          generalize u0.alloc (.cells #[.int .u8 (x0 : Int), .int .u8 (x1 : Int), .int .u8 (x2 : Int), .int .u8 (x3 : Int)] 51) = u1 at *
          refine hK.out _ _ HN1.out.nu (fun hHeld => ?_)
          clear hK K hHeld
          simp only [Act.put, List.setIfInBounds_toArray, List.set_cons_zero, List.set_cons_succ]
          refine wpAnyH_ready (rs := [27]) (by kernel_rfl) (by simp) ?_
          refine cons_l rfl (fun K hK => ?_) AllReadyH.nil
          refine step_append_own rfl (.tmp 39) (.tmp 64) 41 rfl B0 51 i0 (.agg (z4.map vb).toArray) 4 4 Try.underlying41 Hi.out.1 Hi.out.2.1 Hi.out.2.2.1 Hi.out.2.2.2 rfl (by decide) v (words key k).length ((flat (words key k)).map vb) rfl HN1.out.own (some ⟨jj, 0, none⟩) 1 1 [.int .u8 (x0 : Int), .int .u8 (x1 : Int), .int .u8 (x2 : Int), .int .u8 (x3 : Int)] rfl (fun h => by cases h) rfl (fun ad had i q hq => by injection had with had; subst had; rw [Addr.add_lit, Nat.zero_add]; exact HY.out.at i q (by simpa using hq)) (fun q hq => by simp only [List.mem_cons, List.not_mem_nil, or_false] at hq; rcases hq with rfl | rfl | rfl | rfl <;> rfl) (by rw [words_len]; unfold maxLen; omega) (by rw [words_len]; omega) HN1.out.base ?_
          intro v2 u9 hown hgr _
          obtain ⟨m2, q2, c2, hv2⟩ := own_slice hown (by omega)
          subst hv2
          rw [← Hel.out] at hown
          obtain ⟨hP1, hP2, hP3⟩ := HN1.out.push (y := y) hown hgr
          rw [← Hw.out] at hP1
          have HP := Lib.hid hP1
          have c0 := hP2.at 0 _ (keyL_0 v)
          have f0 := hP2.free 0
          clear hown hgr hP1 hP2 HN1 HY
          refine hK.out _ _ hP3 (fun hHeld => ?_)
          clear hK K hP3
          simp only [Act.put, List.setIfInBounds_toArray, List.set_cons_zero, List.set_cons_succ]
          refine take_l (i := 28) (v := ?_) rfl (by kernel_rfl) (by kernel_rfl) (by kernel_rfl) (fun _ _ _ h => h) (Or.inl ⟨by rfl, ?_⟩) (by assumption) ?_
          case refine_2 => (intro _ _; go_simp; all_goals with_reducible rfl)
          simp only [Act.put, List.setIfInBounds_toArray, List.set_cons_zero, List.set_cons_succ]
          clear hHeld
          refine wpAnyH_ready (rs := [29]) (by kernel_rfl) (by simp) ?_
          refine cons_l rfl (fun K hK => ?_) AllReadyH.nil
          go_simp
          go_wp2_with fail
          clear c0 f0
          generalize u9.setCell ⟨KK, 0, none⟩ (.slice (some ⟨m2, 0, none⟩) q2 c2) = u10 at *
          refine hK.out _ _ HP.out.nu (fun hHeld => ?_)
          clear hK K hHeld
          simp only [Act.put, List.setIfInBounds_toArray, List.set_cons_zero, List.set_cons_succ]
          refine wpAnyH_done (by kernel_rfl) ?_ _
          go_wp2_with fail
          go_roundw
          case rel => first | exact ⟨k + 1, _, by omega, by go_num, HP.out⟩ | ((repeat apply Exists.intro); exact ⟨⟨k + 1, _, by omega, by go_num, HP.out⟩, rfl⟩)
          case measure => simp [intOf]; omega
        · have hal := nu_alloc (nu_refl u0) (.cells #[.int .u8 (x0 : Int), .int .u8 (x1 : Int), .int .u8 (x2 : Int), .int .u8 (x3 : Int)] 51)
          have HY := Lib.hid (Blk.made u0 51 #[.int .u8 (x0 : Int), .int .u8 (x1 : Int), .int .u8 (x2 : Int), .int .u8 (x3 : Int)])
          have HN1 := Lib.hid (HN0.out.under hal)
          clear hal HN0
          go_simp
          go_wp2_with fail
          generalize u0.heap.size = jj at *
          generalize u0.alloc (.cells #[.int .u8 (x0 : Int), .int .u8 (x1 : Int), .int .u8 (x2 : Int), .int .u8 (x3 : Int)] 51) = u1 at *
          refine hK.out _ _ HN1.out.nu (fun hHeld => ?_)
          clear hK K hHeld
          simp only [Act.put, List.setIfInBounds_toArray, List.set_cons_zero, List.set_cons_succ]
          refine wpAnyH_ready (rs := [1]) (by kernel_rfl) (by simp) ?_
          refine cons_l rfl (fun K hK => ?_) AllReadyH.nil
          have c0 : u1.cell? ⟨KK, 0, none⟩ = some v := HN1.out.c.at 0 _ (keyL_0 v)
          go_simp
          go_wp2_with fail
          refine hK.out _ _ HN1.out.nu (fun hHeld => ?_)
          clear hK K c0 hHeld
          simp only [Act.put, List.setIfInBounds_toArray, List.set_cons_zero, List.set_cons_succ]
          refine wpAnyH_ready (rs := [27]) (by kernel_rfl) (by simp) ?_
          refine cons_l rfl (fun K hK => ?_) AllReadyH.nil
          refine step_append_own rfl (.tmp 39) (.tmp 64) 41 rfl B0 51 i0 (.agg (z4.map vb).toArray) 4 4 Try.underlying41 Hi.out.1 Hi.out.2.1 Hi.out.2.2.1 Hi.out.2.2.2 rfl (by decide) v (words key k).length ((flat (words key k)).map vb) rfl HN1.out.own (some ⟨jj, 0, none⟩) 1 1 [.int .u8 (x0 : Int), .int .u8 (x1 : Int), .int .u8 (x2 : Int), .int .u8 (x3 : Int)] rfl (fun h => by cases h) rfl (fun ad had i q hq => by injection had with had; subst had; rw [Addr.add_lit, Nat.zero_add]; exact HY.out.at i q (by simpa using hq)) (fun q hq => by simp only [List.mem_cons, List.not_mem_nil, or_false] at hq; rcases hq with rfl | rfl | rfl | rfl <;> rfl) (by rw [words_len]; unfold maxLen; omega) (by rw [words_len]; omega) HN1.out.base ?_
          intro v2 u9 hown hgr _
          obtain ⟨m2, q2, c2, hv2⟩ := own_slice hown (by omega)
          subst hv2
          rw [← Hel.out] at hown
          obtain ⟨hP1, hP2, hP3⟩ := HN1.out.push (y := y) hown hgr
          rw [← Hw.out] at hP1
          have HP := Lib.hid hP1
          have c0 := hP2.at 0 _ (keyL_0 v)
          have f0 := hP2.free 0
          clear hown hgr hP1 hP2 HN1 HY
          refine hK.out _ _ hP3 (fun hHeld => ?_)
          clear hK K hP3
          simp only [Act.put, List.setIfInBounds_toArray, List.set_cons_zero, List.set_cons_succ]
          refine take_l (i := 28) (v := ?_) rfl (by kernel_rfl) (by kernel_rfl) (by kernel_rfl) (fun _ _ _ h => h) (Or.inl ⟨by rfl, ?_⟩) (by assumption) ?_
          case refine_2 => (intro _ _; go_simp; all_goals with_reducible rfl)
          simp only [Act.put, List.setIfInBounds_toArray, List.set_cons_zero, List.set_cons_succ]
          clear hHeld
          refine wpAnyH_ready (rs := [29]) (by kernel_rfl) (by simp) ?_
          refine cons_l rfl (fun K hK => ?_) AllReadyH.nil
          go_simp
          go_wp2_with fail
          clear c0 f0
          generalize u9.setCell ⟨KK, 0, none⟩ (.slice (some ⟨m2, 0, none⟩) q2 c2) = u10 at *
          refine hK.out _ _ HP.out.nu (fun hHeld => ?_)
          clear hK K hHeld
          simp only [Act.put, List.setIfInBounds_toArray, List.set_cons_zero, List.set_cons_succ]
          refine wpAnyH_done (by kernel_rfl) ?_ _
          go_wp2_with fail
          go_roundw
          case rel => first | exact ⟨k + 1, _, by omega, by go_num, HP.out⟩ | ((repeat apply Exists.intro); exact ⟨⟨k + 1, _, by omega, by go_num, HP.out⟩, rfl⟩)
          case measure => simp [intOf]; omega
      · obtain rfl : k = n := by omega
        go_wp2_with fail
        go_loopw [9] (fun i wr => ∃ (d : Nat) (v : Value), d ≤ 4 * (k + 7) - k ∧ i = .int .i64 ((k + d : Nat) : Int) ∧ RK w KK KR X B0 (grow k d (words key k)) v wr) (fun i _ => 4 * (k + 7) - (intOf i).toNat)
        case atStart => exact ⟨0, _, by omega, rfl, HN.out⟩
        case round =>
          clear HN
          obtain ⟨d, v, hd, rfl, hN⟩ := hrel
          have hWl : (grow k d (words key k)).length = k + d := by rw [grow_len, words_len]
          have hWs := grow_small k d (words key k) (words_small Hkx.out k)
          have HWn := Lib.hid (grow_succ k d (words key k))
          obtain ⟨W, hW⟩ : ∃ W, grow k d (words key k) = W := ⟨_, rfl⟩
          rw [hW] at hN hWl hWs HWn
          obtain ⟨j, hj⟩ : ∃ j, j = k + d := ⟨_, rfl⟩
          rw [← hj] at hWl ⊢
          have hown := hN.own
          rw [hWl] at hown
          obtain ⟨m, c, hv, hBm, hml⟩ := World.ownsRow.form hown (by omega)
          subst hv
          have HN := Lib.hid hN
          have HWs := Lib.hid hWs
          have HWl := Lib.hid hWl
          have HW := Lib.hid hW
          have HO := Lib.hid hown
          obtain ⟨p, hp⟩ : ∃ p, j = p + 1 := ⟨j - 1, by omega⟩
          have hjp : (j : Int) - 1 = (p : Int) := by omega
          have hpj : (p : Int) < (j : Int) := by omega
          obtain ⟨q, hq'⟩ : ∃ q, j = q + k := ⟨j - k, by omega⟩
          have Hj := Lib.hid (And.intro hj (And.intro hp (And.intro hq' hd)))
          have hj60 : j ≤ 60 := by omega
          by_cases hlt : j < 4 * (k + 7)
          · have hji : (j : Int) < 4 * ((k : Int) + 7) := by omega
            have Hlt := Lib.hid hlt
            clear hN hWl hWs hW hj hown hp hq' hd hlt hBm hml
            obtain ⟨t, ht⟩ : ∃ t, W.getD p 0 = t := ⟨_, rfl⟩
            have Ht := Lib.hid ht
            have hrg := row_range HO.out HWl.out p (by omega)
            rw [ht] at hrg
            have HRg := Lib.hid hrg
            have c0 : wr.cell? ⟨KK, 0, none⟩ = some (.slice (some ⟨m, 0, none⟩) j c) := HN.out.c.at 0 _ (keyL_0 _)
            have HTm := Lib.hid (Blk.made wr 51 (z4.map vb).toArray)
            have HT1 := Lib.hid (Blk.fill HTm.out ((elL t).map vb) rfl)
            have hal := nu_fill (a := wr) ((elL t).map vb) (g := wr.heap.size) (Nat.le_refl _) 0 _ (nu_alloc (nu_refl wr) (.cells (z4.map vb).toArray 51))
            have Hal := Lib.hid hal
            have HN1 := Lib.hid (HN.out.under hal)
            clear ht hrg hal
            go_upto_region 16 with (first | (refine wpList_run _ (by rfl) (e4_load HRg.out rfl (.tmp 79) rfl rfl) ?_) | (refine wpList_store_blk rfl 51 (.tmp 10) (.tmp 80) rfl wr.heap.size ((elL t).map vb) rfl rfl 51 (z4.map vb).toArray HTm.out rfl (by kernel_rfl) (vb_one _) ?_))
            change Code.wp _ _ _ _ ((wr.alloc (.cells (z4.map vb).toArray 51)).setCells wr.heap.size 0 ((elL t).map vb))
            clear HTm HRg c0 hjp hpj
            generalize (wr.alloc (.cells (z4.map vb).toArray 51)).setCells wr.heap.size 0 ((elL t).map vb) = u1 at *
            obtain ⟨T, hT⟩ : ∃ T, T = wr.heap.size := ⟨_, rfl⟩
            rw [← hT] at HT1
            rw [← hT]
            have HTw := Lib.hid hT
            clear hT
            obtain ⟨Tn, hTn⟩ : ∃ Tn, Tn = turnOf k j t := ⟨_, rfl⟩
            have HTn := Lib.hid hTn
            clear hTn
            obtain ⟨r, hr⟩ : ∃ r, r = j % k := ⟨_, rfl⟩
            have em : (j : Int) % (k : Int) = (r : Int) := by rw [hr]; simp
            have Hr := Lib.hid hr
            clear hr
            go_upto_if 84 with fail
            go_cut [9] (fun s9 wx => s9 = .int .i64 (j : Int) ∧ RK w KK KR X B0 W (.slice (some ⟨m, 0, none⟩) j c) wx ∧ Blk wx T 51 ((elL Tn).map vb).toArray)
            case first =>
              obtain ⟨t0, ht0⟩ : ∃ x, x = wb t 0 := ⟨_, rfl⟩
              obtain ⟨t1, ht1⟩ : ∃ x, x = wb t 1 := ⟨_, rfl⟩
              obtain ⟨t2, ht2⟩ : ∃ x, x = wb t 2 := ⟨_, rfl⟩
              obtain ⟨t3, ht3⟩ : ∃ x, x = wb t 3 := ⟨_, rfl⟩
              have h0 : t0 < 256 := by rw [ht0]; exact wb_lt _ _
              have h1 : t1 < 256 := by rw [ht1]; exact wb_lt _ _
              have h2 : t2 < 256 := by rw [ht2]; exact wb_lt _ _
              have h3 : t3 < 256 := by rw [ht3]; exact wb_lt _ _
              have i0' : (t0 : Int) < 256 := by omega
              have i1 : (t1 : Int) < 256 := by omega
              have i2 : (t2 : Int) < 256 := by omega
              have i3 : (t3 : Int) < 256 := by omega
              have d0 : u1.cell? ⟨T, 0, none⟩ = some (.int .u8 (t0 : Int)) := by rw [ht0]; exact HT1.out.at 0 _ rfl
              have d1 : u1.cell? ⟨T, 1, none⟩ = some (.int .u8 (t1 : Int)) := by rw [ht1]; exact HT1.out.at 1 _ rfl
              have d2 : u1.cell? ⟨T, 2, none⟩ = some (.int .u8 (t2 : Int)) := by rw [ht2]; exact HT1.out.at 2 _ rfl
              have d3 : u1.cell? ⟨T, 3, none⟩ = some (.int .u8 (t3 : Int)) := by rw [ht3]; exact HT1.out.at 3 _ rfl
              obtain ⟨s0, hs0⟩ : ∃ x, x = sb t0 := ⟨_, rfl⟩
              obtain ⟨s1, hs1⟩ : ∃ x, x = sb t1 := ⟨_, rfl⟩
              obtain ⟨s2, hs2⟩ : ∃ x, x = sb t2 := ⟨_, rfl⟩
              obtain ⟨s3, hs3⟩ : ∃ x, x = sb t3 := ⟨_, rfl⟩
              have b0 : u1.cell? ⟨X, t0, none⟩ = some (.int .u8 (s0 : Int)) := by rw [hs0]; exact HN1.out.x.at t0 _ (arrg_at vb boxL t0 _ (boxL_at t0 h0))
              have b1' : u1.cell? ⟨X, t1, none⟩ = some (.int .u8 (s1 : Int)) := by rw [hs1]; exact HN1.out.x.at t1 _ (arrg_at vb boxL t1 _ (boxL_at t1 h1))
              have b2 : u1.cell? ⟨X, t2, none⟩ = some (.int .u8 (s2 : Int)) := by rw [hs2]; exact HN1.out.x.at t2 _ (arrg_at vb boxL t2 _ (boxL_at t2 h2))
              have b3 : u1.cell? ⟨X, t3, none⟩ = some (.int .u8 (s3 : Int)) := by rw [hs3]; exact HN1.out.x.at t3 _ (arrg_at vb boxL t3 _ (boxL_at t3 h3))
              have hs18 : s1 < 256 := by rw [hs1]; exact sb_lt _
              by_cases hr0 : r = 0
              · have hb : ((r : Int) == 0) = true := by rw [hr0]; rfl
                obtain ⟨Q, hQ⟩ : ∃ Q, Q = j / k := ⟨_, rfl⟩
                have hk0 : ¬ k = 0 := by omega
                have ekq : (j : Int) / (k : Int) = (Q : Int) := by rw [hQ]; simp
                have etq : Int.tdiv (j : Int) (k : Int) = (Q : Int) := by rw [Int.tdiv_eq_ediv_of_nonneg (by omega), ekq]
                have hQ1 : 1 ≤ Q := by rw [hQ]; exact (Nat.le_div_iff_mul_le (by omega)).2 (by have := Hj.out; omega)
                have hQ60 : Q ≤ 60 := by rw [hQ]; exact Nat.le_trans (Nat.div_le_self _ _) hj60
                have wq : IntKind.i64.wrap (Q : Int) = (Q : Int) := by rw [IntKind.wrap_i64]; omega
                obtain ⟨Q1, hQq⟩ : ∃ Q1, Q1 = Q - 1 := ⟨_, rfl⟩
                have wq1 : IntKind.i64.wrap ((Q : Int) - 1) = (Q1 : Int) := by rw [IntKind.wrap_i64]; omega
                obtain ⟨g, hg⟩ : ∃ g, g = gpow 2 Q1 := ⟨_, rfl⟩
                have hg8 : g < 256 := by rw [hg]; exact gpow_lt _ _
                obtain ⟨z, hz⟩ : ∃ z, z = s1 ^^^ g := ⟨_, rfl⟩
                have hxx := u8_xor_nat s1 g hs18 hg8
                rw [← hz] at hxx
                have HTe := Lib.hid (show [.int .u8 (z : Int), .int .u8 (s2 : Int), .int .u8 (s3 : Int), .int .u8 (s0 : Int)] = (elL Tn).map vb by
                  rw [HTn.out, turn_zero k j t (by rw [← Hr.out]; exact hr0), ← ht0, ← ht1, ← ht2, ← ht3, ← hs0, ← hs1, ← hs2, ← hs3, ← hQ, ← hQq, ← hg, ← hz]
                  rfl)
                have HPw := Lib.hid (show Calls Try.prog 51 #[.int .u8 2, .int .i64 (Q1 : Int)] u1.drew fun e w' => e = .returned (.int .u8 (g : Int)) ∧ w' = u1.drew from by
                  refine (refPower_any 2 (Q1 : Int) (by omega) (by omega) (by omega) u1.drew).mono ?_
                  intro e w' h
                  exact ⟨by rw [h.1, hg]; rfl, h.2.symm⟩)
                have HTd := Lib.hid HT1.out.drew
                have HTf := Lib.hid (Blk.fill HTd.out [.int .u8 (z : Int), .int .u8 (s2 : Int), .int .u8 (s3 : Int), .int .u8 (s0 : Int)] rfl)
                have HNf := Lib.hid (HN.out.under (nu_fill (a := wr) [.int .u8 (z : Int), .int .u8 (s2 : Int), .int .u8 (s3 : Int), .int .u8 (s0 : Int)] (g := T) (by rw [HTw.out]; exact Nat.le_refl _) 0 _ (nu_drew Hal.out)))
                clear h0 h1 h2 h3 ht0 ht1 ht2 ht3 hs0 hs1 hs2 hs3 hs18 hr0 hQ hQ1 hQ60 hQq hg hg8 hz
                go_upto_region 17 with fail
                go_still_tail 23, (by kernel_rfl)
                still_call HPw.out
                repeat still_step
                refine wpStill_nil ?_
                change wpList _ _ _ _ _ u1.drew
                clear d0 d1 d2 d3 b0 b1' b2 b3 HPw hxx ekq etq wq wq1
                go_wp2_with (refine wpList_store_blk rfl 51 (.tmp 10) (.tmp 107) rfl T [.int .u8 (z : Int), .int .u8 (s2 : Int), .int .u8 (s3 : Int), .int .u8 (s0 : Int)] rfl rfl 51 _ HTd.out rfl (by kernel_rfl) (fun q hq => by simp only [List.mem_cons, List.not_mem_nil, or_false] at hq; rcases hq with rfl | rfl | rfl | rfl <;> rfl) ?_)
                go_meet
                exact ⟨rfl, HNf.out, by rw [← HTe.out]; exact HTf.out⟩
              · have hb : ((r : Int) == 0) = false := by rw [beq_eq_false_iff_ne]; omega
                obtain ⟨r8, hr8⟩ : ∃ r8, r8 = j % 8 := ⟨_, rfl⟩
                have em8 : (j : Int) % 8 = (r8 : Int) := by omega
                by_cases h8 : k = 8
                · have hb8 : ((k : Int) == 8) = true := by rw [h8]; rfl
                  by_cases h4 : r8 = 4
                  · have hb4 : ((r8 : Int) == 4) = true := by rw [h4]; rfl
                    have HTe := Lib.hid (show [.int .u8 (s0 : Int), .int .u8 (s1 : Int), .int .u8 (s2 : Int), .int .u8 (s3 : Int)] = (elL Tn).map vb by
                      rw [HTn.out, turn_four j t k (by rw [← Hr.out]; exact hr0) h8 (by rw [← hr8]; exact h4), ← ht0, ← ht1, ← ht2, ← ht3, ← hs0, ← hs1, ← hs2, ← hs3]
                      rfl)
                    have HTd := Lib.hid HT1.out.drew
                    have HTf := Lib.hid (Blk.fill HTd.out [.int .u8 (s0 : Int), .int .u8 (s1 : Int), .int .u8 (s2 : Int), .int .u8 (s3 : Int)] rfl)
                    have HNf := Lib.hid (HN.out.under (nu_fill (a := wr) [.int .u8 (s0 : Int), .int .u8 (s1 : Int), .int .u8 (s2 : Int), .int .u8 (s3 : Int)] (g := T) (by rw [HTw.out]; exact Nat.le_refl _) 0 _ (nu_drew Hal.out)))
                    clear h0 h1 h2 h3 ht0 ht1 ht2 ht3 hs0 hs1 hs2 hs3 hs18 hr0 h8 h4 hr8
                    go_upto_region 19 with fail
                    go_still_tail 17, (by kernel_rfl)
                    change wpList _ _ _ _ _ u1.drew
                    clear d0 d1 d2 d3 b0 b1' b2 b3
                    go_wp2_with (refine wpList_store_blk rfl 51 (.tmp 10) (.tmp 131) rfl T [.int .u8 (s0 : Int), .int .u8 (s1 : Int), .int .u8 (s2 : Int), .int .u8 (s3 : Int)] rfl rfl 51 _ HTd.out rfl (by kernel_rfl) (fun q hq => by simp only [List.mem_cons, List.not_mem_nil, or_false] at hq; rcases hq with rfl | rfl | rfl | rfl <;> rfl) ?_)
                    go_meet
                    exact ⟨rfl, HNf.out, by rw [← HTe.out]; exact HTf.out⟩
                  · have hb4 : ((r8 : Int) == 4) = false := by rw [beq_eq_false_iff_ne]; omega
                    have HTe := Lib.hid (show Tn = t by rw [HTn.out, turnOf, if_neg (by rw [← Hr.out]; exact hr0), if_neg (by rw [← hr8]; omega)])
                    clear h0 h1 h2 h3 ht0 ht1 ht2 ht3 hs0 hs1 hs2 hs3 hs18 hr0 h8 h4 hr8 d0 d1 d2 d3 b0 b1' b2 b3
                    go_wp2_with fail
                    go_meet
                    exact ⟨rfl, HN1.out, by rw [HTe.out]; exact HT1.out⟩
                · have hb8 : ((k : Int) == 8) = false := by rw [beq_eq_false_iff_ne]; omega
                  have HTe := Lib.hid (show Tn = t by rw [HTn.out, turnOf, if_neg (by rw [← Hr.out]; exact hr0), if_neg (fun h => h8 h.1)])
                  clear h0 h1 h2 h3 ht0 ht1 ht2 ht3 hs0 hs1 hs2 hs3 hs18 hr0 h8 hr8 d0 d1 d2 d3 b0 b1' b2 b3
                  go_wp2_with fail
                  go_meet
                  exact ⟨rfl, HN1.out, by rw [HTe.out]; exact HT1.out⟩
            case rest =>
              obtain ⟨rfl, hN, hT⟩ := hcut
              clear HN HN1 HT1 HO Hal em Hr
              have HN := Lib.hid hN
              have HT := Lib.hid hT
              clear hN hT
              obtain ⟨z, hz'⟩ : ∃ z, W.getD q 0 = z := ⟨_, rfl⟩
              obtain ⟨y, hy⟩ : ∃ y, y = z ^^^ Tn := ⟨_, rfl⟩
              have HYe := Lib.hid (show nextW k W = y by
                have h1 := Hj.out
                rw [nextW, HWl.out, show j - k = q by omega, show j - 1 = p by omega, hz', Ht.out, ← HTn.out, hy])
              have HEl := Lib.hid (show ∀ i, i < 4 → (elL y)[i]? = some (wb z i ^^^ wb Tn i) from fun i hi => by rw [elL_at y i hi, hy, wb_xor])
              have Hz := Lib.hid hz'
              have HVm := Lib.hid (Blk.made wc 51 (z4.map vb).toArray)
              have hal := nu_alloc (nu_refl wc) (.cells (z4.map vb).toArray 51)
              have HN2 := Lib.hid (HN.out.under hal)
              have HT2 := Lib.hid (HT.out.below hal HT.out.lt)
              have HTV := Lib.hid (show T ≠ wc.heap.size from Nat.ne_of_lt HT.out.lt)
              have Hal := Lib.hid hal
              clear hal hy hz' HT
              go_upto_region 21 with fail
              change Code.wp _ _ _ _ (wc.alloc (.cells (z4.map vb).toArray 51))
              generalize wc.alloc (.cells (z4.map vb).toArray 51) = u2 at *
              obtain ⟨V, hV⟩ : ∃ V, V = wc.heap.size := ⟨_, rfl⟩
              rw [← hV] at HVm HTV
              rw [← hV]
              have HVw := Lib.hid hV
              clear hV
              go_wp2_with fail
              go_loopw [12] (fun i wr => ∃ e : Nat, e ≤ 4 ∧ i = .int .i64 e ∧ Blk wr T 51 ((elL Tn).map vb).toArray ∧ Blk wr V 51 ((doneF (elL y) z4 e).map vb).toArray ∧ Below wc.heap.size wc wr) (fun i _ => 4 - (intOf i).toNat)
              case atStart => exact ⟨0, by omega, rfl, HT2.out, HVm.out, Hal.out⟩
              case round =>
                clear HT2 HVm HN2 Hal
                obtain ⟨e, he, rfl, hT, hV, hn⟩ := hrel
                have HT := Lib.hid hT
                have HV := Lib.hid hV
                have HN2 := Lib.hid (HN.out.under hn)
                clear hT hV
                by_cases helt : e < 4
                · have hei : (e : Int) < 4 := by omega
                  have wjq : IntKind.i64.wrap ((j : Int) - (k : Int)) = (q : Int) := by rw [IntKind.wrap_i64]; have := Hj.out; omega
                  have hqj : (q : Int) < (j : Int) := by have := Hj.out; omega
                  obtain ⟨x, hx⟩ : ∃ x, x = wb z e := ⟨_, rfl⟩
                  obtain ⟨u, hu⟩ : ∃ u, u = wb Tn e := ⟨_, rfl⟩
                  obtain ⟨s, hs⟩ : ∃ s, s = x ^^^ u := ⟨_, rfl⟩
                  have hxx := u8_xor_nat x u (by rw [hx]; exact wb_lt _ _) (by rw [hu]; exact wb_lt _ _)
                  rw [← hs] at hxx
                  have hE := HEl.out e helt
                  rw [← hx, ← hu, ← hs] at hE
                  have hown := HN2.out.own
                  rw [HWl.out] at hown
                  have cR : wr.cell? ⟨m, q * 4 + e, none⟩ = some (.int .u8 (x : Int)) := by
                    rw [hx, ← Hz.out]
                    exact row_at hown HWl.out q e (by have := Hj.out; omega) helt
                  have c0 : wr.cell? ⟨KK, 0, none⟩ = some (.slice (some ⟨m, 0, none⟩) j c) := HN2.out.c.at 0 _ (keyL_0 _)
                  have cT : wr.cell? ⟨T, e, none⟩ = some (.int .u8 (u : Int)) := by rw [hu]; exact HT.out.at e _ (arrg_at vb _ e _ (elL_at Tn e helt))
                  have hold : (doneF (elL y) z4 e)[e]? = some 0 := by
                    rw [doneF_old _ _ 4 e e rfl (Nat.le_refl _) he]
                    rcases (show e = 0 ∨ e = 1 ∨ e = 2 ∨ e = 3 by omega) with rfl | rfl | rfl | rfl <;> rfl
                  have hset := HV.out.drew.put e (vb s)
                  rw [arrg_set, doneF_set _ _ 4 e s rfl rfl helt hE] at hset
                  have HV1 := Lib.hid hset
                  have HT1 := Lib.hid (HT.out.drew.far (p := ⟨V, e, none⟩) HTV.out (vb s))
                  have hn1 := nu_set hn.drew (p := ⟨V, e, none⟩) (show wc.heap.size ≤ V by rw [HVw.out]; exact Nat.le_refl _) (vb s)
                  have cV : wr.drew.cell? ⟨V, e, none⟩ = some (.int .u8 ((0 : Nat) : Int)) := HV.out.drew.at e _ (arrg_at vb _ e 0 hold)
                  have fV := HV.out.drew.free e
                  simp only [vb] at HV1 HT1 hn1
                  have HD := Lib.hid (And.intro cV fV)
                  clear hx hu hs hE hown hold hset cV fV HT HV hn HN2
                  go_upto_region 24 with fail
                  go_still_tail 15, (by kernel_rfl)
                  change wpList _ _ _ _ _ wr.drew
                  clear cR c0 cT hxx wjq hqj
                  obtain ⟨cV, fV⟩ := HD.out
                  clear HD
                  generalize wr.drew = u3 at *
                  go_wp2_with fail
                  clear cV fV
                  generalize u3.setCell ⟨V, e, none⟩ (.int .u8 (s : Int)) = u4 at *
                  go_roundw
                  case rel => first | exact ⟨e + 1, by omega, by go_num, HT1.out, HV1.out, hn1⟩ | ((repeat apply Exists.intro); exact ⟨⟨e + 1, by omega, by go_num, HT1.out, HV1.out, hn1⟩, rfl⟩)
                  case measure => simp [intOf]; omega
                · obtain rfl : e = 4 := by omega
                  have hV := HV.out
                  rw [doneF_all _ _ 4 rfl rfl] at hV
                  obtain ⟨e0, he0⟩ : ∃ x, x = wb y 0 := ⟨_, rfl⟩
                  obtain ⟨e1, he1⟩ : ∃ x, x = wb y 1 := ⟨_, rfl⟩
                  obtain ⟨e2, he2⟩ : ∃ x, x = wb y 2 := ⟨_, rfl⟩
                  obtain ⟨e3, he3⟩ : ∃ x, x = wb y 3 := ⟨_, rfl⟩
                  have Hel := Lib.hid (show (elL y).map vb = [.int .u8 (e0 : Int), .int .u8 (e1 : Int), .int .u8 (e2 : Int), .int .u8 (e3 : Int)] by unfold elL; rw [← he0, ← he1, ← he2, ← he3]; rfl)
                  rw [Hel.out] at hV
                  have HV2 := Lib.hid hV
                  have c0 : wr.cell? ⟨KK, 0, none⟩ = some (.slice (some ⟨m, 0, none⟩) j c) := HN2.out.c.at 0 _ (keyL_0 _)
                  have hal := nu_alloc (nu_refl wr) (.cells #[.int .u8 (e0 : Int), .int .u8 (e1 : Int), .int .u8 (e2 : Int), .int .u8 (e3 : Int)] 51)
                  have HN3 := Lib.hid (HN2.out.under hal)
                  have hown3 := HN3.out.own
                  rw [HWl.out] at hown3
                  have HO3 := Lib.hid hown3
                  have HY := Lib.hid (Blk.made wr 51 #[.int .u8 (e0 : Int), .int .u8 (e1 : Int), .int .u8 (e2 : Int), .int .u8 (e3 : Int)])
                  clear hV HV HT he0 he1 he2 he3 hal hown3 hn
                  obtain ⟨wo, rfl⟩ : ∃ x : World, x = wr := ⟨_, rfl⟩
                  go_wp2_with (first | (refine wpList_run _ (by rfl) (e4_load (cs := [.int .u8 (e0 : Int), .int .u8 (e1 : Int), .int .u8 (e2 : Int), .int .u8 (e3 : Int)]) (range_blk HV2.out) rfl (.tmp 11) rfl rfl) ?_) | (at_builtin; refine wpList_append_own _ rfl (.tmp 152) (.tmp 154) 41 rfl B0 51 i0 (.agg (z4.map vb).toArray) 4 4 Try.underlying41 Hi.out.1 Hi.out.2.1 Hi.out.2.2.1 Hi.out.2.2.2 rfl (by decide) (.slice (some ⟨m, 0, none⟩) j c) j ((flat W).map vb) rfl HO3.out ⟨wo.heap.size, 0, none⟩ 1 1 [.int .u8 (e0 : Int), .int .u8 (e1 : Int), .int .u8 (e2 : Int), .int .u8 (e3 : Int)] rfl rfl ?c1 ?c2 ?c3 ?c4 ?c5 ?_))
                  case c1 => intro i v hv; rw [Addr.add_lit, Nat.zero_add]; exact HY.out.at i v (by simpa using hv)
                  case c2 => intro v hv; simp only [List.mem_cons, List.not_mem_nil, or_false] at hv; rcases hv with rfl | rfl | rfl | rfl <;> rfl
                  case c3 => unfold maxLen; omega
                  case c4 => omega
                  case c5 => exact HN3.out.base
                  intro v2 u9 hown hgr _
                  obtain ⟨m2, q2, c2, hv2⟩ := own_slice hown (by omega)
                  subst hv2
                  rw [← Hel.out, ← HWl.out] at hown
                  obtain ⟨hP1, hP2, hP3⟩ := HN3.out.push (y := y) hown hgr
                  have HP := Lib.hid (show RK w KK KR X B0 (grow k (d + 1) (words key k)) (.slice (some ⟨m2, 0, none⟩) q2 c2) _ from by rw [HWn.out, HYe.out]; exact hP1)
                  have c9 := hP2.at 0 _ (keyL_0 _)
                  have f9 := hP2.free 0
                  clear hown hgr hP1 hP2 hP3 HN2 HN3 HY HO3 c0 HV2
                  go_wp2_with fail
                  clear c9 f9
                  generalize u9.setCell ⟨KK, 0, none⟩ (.slice (some ⟨m2, 0, none⟩) q2 c2) = u10 at *
                  go_roundw
                  case rel =>
                    have hR : ∃ (d' : Nat) (v : Value), d' ≤ 4 * (k + 7) - k ∧ Value.int .i64 ((j : Int) + 1) = .int .i64 ((k + d' : Nat) : Int) ∧ RK w KK KR X B0 (grow k d' (words key k)) v u10 :=
                      ⟨d + 1, _, by have := Hj.out; have := Hlt.out; omega, by rw [show ((k + (d + 1) : Nat) : Int) = (j : Int) + 1 by have := Hj.out.1; omega], HP.out⟩
                    first | exact hR | ((repeat apply Exists.intro); exact ⟨hR, rfl⟩)
                  case measure => have := Hlt.out; simp [intOf]; omega
          · have hde : d = 4 * (k + 7) - k := by omega
            have hji : ¬ (j : Int) < 4 * ((k : Int) + 7) := by omega
            have HF := Lib.hid (show RowsAt wr (.slice (some ⟨m, 0, none⟩) j c) (expand key) by
              have h := hN.rows (by rw [hWl]; omega)
              rw [expand, Hkl.out, show L / 4 = k by have := HL.out; omega, ← hde, hW]
              exact h)
            have Hnu := Lib.hid hN.nu
            obtain ⟨LK, hLK⟩ : ∃ LK, LK = keyL (.slice (some ⟨m, 0, none⟩) j c) := ⟨_, rfl⟩
            have hc := hN.c
            rw [← hLK] at hc
            have HC := Lib.hid hc
            have HZ := Lib.hid hN.z
            have HLl := Lib.hid (show LK.length = 513 by rw [hLK]; exact keyL_len _)
            have HL1 := Lib.hid (show ∀ v ∈ LK, v.oneCell' = true by
              rw [hLK]
              intro v hv
              rcases List.mem_cons.1 hv with rfl | hv
              · rfl
              · rcases List.mem_append.1 hv with hv | hv <;> exact vb_one _ v hv)
            have HLe := Lib.hid hLK
            have HKR := Lib.hid (show w.heap.size ≤ KR from hN.ord.2.2.1)
            have HFk := Lib.hid (Blk.fill HZ.out LK (by rw [List.size_toArray, keyZ_len, HLl.out]))
            have Hn := Lib.hid (nu_fill LK (g := KR) HKR.out 0 _ Hnu.out)
            have Hkr := Lib.hid (show RowsAt (wr.setCells KR 0 LK) (.slice (some ⟨m, 0, none⟩) j c) (expand key) by
              obtain ⟨m', c', cur, h1, h2, h3⟩ := HF.out
              have hmm : m = m' := by
                injection h1 with h1
                injection h1 with h1
                injection h1
              refine ⟨m', c', cur, h1, h2.farCells LK ?_ 0, h3⟩
              have hb := (hown.lt m rfl).1
              have ho := hN.ord
              omega)
            clear hN hWl hWs hW hj hown hp hq' hd hde hlt hBm hml HO HN HWn HW HWs HWl hc hLK Hnu HF
            go_wp2_with (first | (refine wpList_run _ (by rfl) (eKey_load HC.out HLl.out (.tmp 4) rfl rfl) ?_) | (refine wpList_store_in rfl 44 (.tmp 2) (.tmp 157) rfl KR 0 LK rfl rfl 44 keyZ.toArray HZ.out (by rw [List.size_toArray, keyZ_len, HLl.out]; omega) (by rw [HLl.out]; kernel_rfl) HL1.out ?_))
            refine bodyPost_ret (results_blkS2 rfl _ KR 44 LK.toArray rfl HFk.out Try.underlying44 (by rw [List.size_toArray, HLl.out]; kernel_rfl)) rfl ⟨_, by rw [HLe.out]; rfl, Hkr.out, Hn.out⟩
end Go.Proofs.Ytnojbjconiddoaa

namespace Go.Proofs.Ytnojbjconiddoaa
open Go.ChangeShapes Go.WideShapes Go.ChangeAt Go.RowKit Fld Aes
set_option linter.unusedSimpArgs false

structure CBK (w : World) (C R : Nat) (W : List Nat) (B : Nat) (b : List Nat) (KB : Nat) (L : List Value) (v : Value) : Prop where
  c : CiphAt w C W R
  b : Blk w B 22 (b.map vb).toArray
  k : Blk w KB 44 L.toArray
  r : RowsAt w v W
theorem CBK.below {w w' : World} {C R : Nat} {W : List Nat} {B : Nat} {b : List Nat} {KB : Nat} {L : List Value} {v : Value} (h : CBK w C R W B b KB L v) (hb : Below w.heap.size w w') : CBK w' C R W B b KB L v := ⟨h.c.below hb, h.b.below hb h.b.lt, h.k.below hb h.k.lt, h.r.below hb⟩
theorem CBK.drew {w : World} {C R : Nat} {W : List Nat} {B : Nat} {b : List Nat} {KB : Nat} {L : List Value} {v : Value} (h : CBK w C R W B b KB L v) : CBK w.drew C R W B b KB L v := h.below (nu_drew (nu_refl w))
theorem refEnc_is {w : World} {v : Value} {W : List Nat} {R : Nat} (hv : RowsAt w v W) (hK : Keyed W R) {L : List Value} (hL : L = keyL v) {b D : List Nat} (hb : St16 b) (hD : enc W R b = D) :
    Calls Try.prog 30 #[.agg L.toArray, .agg (b.map vb).toArray] w fun e w' => e = .returned (.agg (D.map vb).toArray) ∧ Below w.heap.size w w' := by
  rw [hL, ← hD]
  exact refEncrypt_any hv hK b hb
theorem refDec_is {w : World} {v : Value} {W : List Nat} {R : Nat} (hv : RowsAt w v W) (hK : Keyed W R) {L : List Value} (hL : L = keyL v) {b D : List Nat} (hb : St16 b) (hD : dec W R b = D) :
    Calls Try.prog 33 #[.agg L.toArray, .agg (b.map vb).toArray] w fun e w' => e = .returned (.agg (D.map vb).toArray) ∧ Below w.heap.size w w' := by
  rw [hL, ← hD]
  exact refDecrypt_any hv hK b hb
theorem keyL_one (v : Value) (h : v.oneCell' = true) : ∀ u ∈ keyL v, u.oneCell' = true := by
  intro u hu
  rcases List.mem_cons.1 hu with rfl | hu
  · exact h
  · rcases List.mem_append.1 hu with hu | hu <;> exact vb_one _ u hu
theorem keyZ_one : ∀ u ∈ keyZ, u.oneCell' = true := by
  intro u hu
  rcases List.mem_cons.1 hu with rfl | hu
  · rfl
  · rcases List.mem_append.1 hu with hu | hu <;> exact vb_one _ u hu
theorem RowsAt.one {w : World} {v : Value} {W : List Nat} (h : RowsAt w v W) : v.oneCell' = true := by
  obtain ⟨m, c, cur, rfl, _⟩ := h
  rfl
theorem zero_key_size : (Try.zeroCells44).size = 513 := by rw [zero_key, List.size_toArray, keyZ_len]
end Go.Proofs.Ytnojbjconiddoaa

namespace Go.Proofs.Ytnojbjconiddoaa
open Go.ChangeShapes Go.WideShapes Go.ChangeAt Go.RowKit

theorem lent_bytes {w : World} {g len : Nat} {xs : List Nat} (h : Blk w g 5 (lentCells xs)) (hl : xs.length = len) (hx : ∀ x ∈ xs, x < 256) : BytesIn w (some ⟨g, 0, none⟩) len (len + 3) xs := by
  refine ⟨⟨hl, fun y hy => wf_u8_of (hx y hy), fun _ => ⟨g, 0, rfl, Blk.lt h, fun j n hn => ?_⟩⟩, fun e => by cases e⟩
  rw [Nat.zero_add]
  refine h.at j _ ?_
  have hj : j < xs.length := (List.getElem?_eq_some_iff.1 hn).1
  exact arr_at (xs ++ [201, 202, 203]) j n (by rw [List.getElem?_append_left hj]; exact hn)
theorem same_is {a b : Option Addr} {la lb ca cb : Nat} {xs ys : List Nat} {w : World} (v : Bool) (hv : decide (xs = ys) = v) (ha : IntsIn w .u8 a la xs) (hb : IntsIn w .u8 b lb ys) (hla : la ≤ 9223372036854775807) (hlb : lb ≤ 9223372036854775807) :
    Calls Try.prog 42 #[.slice a la ca, .slice b lb cb] w fun e w' => e = .returned (.bool v) ∧ ∃ n, w' = w.drewN n := by
  rw [← hv]
  exact same_any a b la lb ca cb xs ys w ha hb hla hlb
end Go.Proofs.Ytnojbjconiddoaa

namespace Go.Proofs.Ytnojbjconiddoaa
open Go.ChangeShapes Go.WideShapes Go.ChangeAt Go.RowKit Fld Aes
set_option linter.unusedSimpArgs false

theorem CiphAt.poke {w : World} {C R I k : Nat} {W : List Nat} {cs : Array Value} (h : CiphAt w C W R) (hI : Blk w I 5 cs) (u : Value) : CiphAt (w.setCell ⟨I, k, none⟩ u) C W R := by
  obtain ⟨x, m, c, cur, h1, h2, h3, ⟨bs, hb1, hb2⟩, h5, h6⟩ := h
  refine ⟨x, m, c, cur, h1.far (p := ⟨I, k, none⟩) (h1.apart hI (by decide)) u, h2.far (p := ⟨I, k, none⟩) (h2.apart hI (by decide)) u, h3, ⟨bs, hb1.far (p := ⟨I, k, none⟩) (hb1.apart hI (by decide)) u, hb2⟩, by simpa [World.setCell] using h5, h6⟩
theorem CBK.poke {w : World} {C R I k : Nat} {W : List Nat} {B : Nat} {b : List Nat} {KB : Nat} {L : List Value} {v : Value} {cs : Array Value} (h : CBK w C R W B b KB L v) (hI : Blk w I 5 cs) (u : Value) : CBK (w.setCell ⟨I, k, none⟩ u) C R W B b KB L v := by
  obtain ⟨m, c, cur, hv, hm, h3⟩ := h.r
  exact ⟨h.c.poke hI u, h.b.far (p := ⟨I, k, none⟩) (h.b.apart hI (by decide)) u, h.k.far (p := ⟨I, k, none⟩) (h.k.apart hI (by decide)) u, ⟨m, c, cur, hv, hm.far (p := ⟨I, k, none⟩) (hm.apart hI (by decide)) u, h3⟩⟩
set_option maxRecDepth 100000 in
set_option maxHeartbeats 4000000 in
theorem aesEncrypts_walk (a : Option Addr) (len cap : Nat) (xs : List Nat) (b : List Nat) (hb : St16 b) (w : World) (hx : BytesIn w a len cap xs) (hlen : len ≤ 140737488355320) :
    Calls Try.prog 9 #[.slice a len cap, .agg (b.map vb).toArray] w fun e w' => e = .returned (.bool true) ∧ Below w.heap.size w w' := by
  have Hal := Lib.hid (nu_alloc (nu_refl w) (.cells (b.map vb).toArray 22))
  have HB1 := Lib.hid (Blk.made w 22 (b.map vb).toArray)
  have Hb := Lib.hid hb
  have Hb16 := Lib.hid hb.1
  have HLn := Lib.hid (lent_any a len cap xs _ (hx.keep Hal.out) hlen)
  by_cases hL : len = 16 ∨ len = 32
  · have hx1 := hx.keep Hal.out
    have hxs : ∀ x ∈ xs, x < 256 := fun x h => wf_u8_lt (hx.1.2.1 x h)
    have hxl : xs.length = len := hx.1.1
    obtain ⟨Ws, hWs⟩ : ∃ Ws, Ws = expand xs := ⟨_, rfl⟩
    obtain ⟨R, hR⟩ : ∃ R, R = xs.length / 4 + 6 := ⟨_, rfl⟩
    have HK := Lib.hid (show Keyed Ws R by rw [hWs, hR]; exact keyed_of hxs (by rw [hxl]; exact hL))
    have HWR := Lib.hid (And.intro hWs hR)
    obtain ⟨D, hD⟩ : ∃ D, D = enc Ws R b := ⟨_, rfl⟩
    have HDe := Lib.hid hD.symm
    have HD := Lib.hid (show D.length = 16 by rw [hD]; exact (enc_st b Ws R).1)
    have HX1 := Lib.hid hx1
    have HL := Lib.hid hL
    have Hxs := Lib.hid hxs
    have Hxl := Lib.hid hxl
    have hl32 : len ≤ 32 := by omega
    clear hx hx1 hxs hxl hWs hR hD hL hb hlen
    go_enter Try.func9, Try.ntmps9
    go_upto_region 1 with fail
    generalize w.alloc (.cells (b.map vb).toArray 22) = w1 at *
    obtain ⟨B, hB⟩ : ∃ B, B = w.heap.size := ⟨_, rfl⟩
    rw [← hB] at HB1
    rw [← hB]
    clear hB
    go_wp2_with fail
    refine HLn.out.mono ?_
    rintro e w0 ⟨rfl, hI, hb0⟩
    have HI0 := Lib.hid hI
    have HX0 := Lib.hid (HX1.out.keep hb0)
    have HB0 := Lib.hid (HB1.out.below hb0 HB1.out.lt)
    have Hn0 := Lib.hid (nu_trans Hal.out hb0)
    have HIw := Lib.hid (show w.heap.size ≤ w1.heap.size from Hal.out.size)
    have HNw := Lib.hid (new_good HL.out (lent_bytes hI Hxl.out Hxs.out))
    clear hI hb0 Hal HB1 HX1 HLn
    obtain ⟨I, hIe⟩ : ∃ I, I = w1.heap.size := ⟨_, rfl⟩
    rw [← hIe] at HI0 HNw HIw
    rw [← hIe]
    clear hIe
    go_wp2_with fail
    refine HNw.out.mono ?_
    rintro e w2 ⟨C, rfl, hC, hb2⟩
    have HC2 := Lib.hid (show CiphAt w2 C Ws R from by rw [HWR.out.1, HWR.out.2]; exact hC)
    have HB2 := Lib.hid (HB0.out.below hb2 HB0.out.lt)
    have HI2 := Lib.hid (HI0.out.below hb2 HI0.out.lt)
    have HX2 := Lib.hid (HX0.out.keep hb2)
    have Hn2 := Lib.hid (nu_trans Hn0.out hb2)
    have HRn := Lib.hid (refNew_any (len / 4) len (by have := HL.out; omega) (by have := HL.out; omega) a cap xs w2 HX2.out)
    rw [← HWR.out.1] at HRn
    clear hC hb2 HNw Hn0 HB0 HI0 HX0
    go_wp2_with fail
    refine HRn.out.mono ?_
    rintro e w3 ⟨v, rfl, hrow, hbk⟩
    obtain ⟨LK, hLK⟩ : ∃ LK, LK = keyL v := ⟨_, rfl⟩
    rw [← hLK]
    have HLK := Lib.hid hLK
    have HLl := Lib.hid (show LK.length = 513 by rw [hLK]; exact keyL_len v)
    have HL1 := Lib.hid (show ∀ u ∈ LK, u.oneCell' = true by rw [hLK]; exact keyL_one v hrow.one)
    have HKm := Lib.hid (Blk.made w3 44 Try.zeroCells44)
    have HKf := Lib.hid (Blk.fill HKm.out LK (by rw [zero_key_size, HLl.out]))
    have halk := nu_fill (a := w3) LK (g := w3.heap.size) (Nat.le_refl _) 0 _ (nu_alloc (nu_refl w3) (.cells Try.zeroCells44 44))
    have Hrow := Lib.hid (hrow.below halk)
    have Hbk := Lib.hid (nu_trans hbk halk)
    clear hLK hrow hbk halk
    go_upto_region 4 with (refine wpList_store_in rfl 44 (.tmp 8) (.tmp 21) rfl w3.heap.size 0 LK rfl rfl 44 Try.zeroCells44 HKm.out (by rw [zero_key_size, HLl.out]; omega) (by rw [HLl.out]; kernel_rfl) HL1.out ?_)
    change Code.wp _ _ _ _ ((w3.alloc (.cells Try.zeroCells44 44)).setCells w3.heap.size 0 LK)
    clear HKm
    generalize (w3.alloc (.cells Try.zeroCells44 44)).setCells w3.heap.size 0 LK = w9 at *
    obtain ⟨KB, hKB⟩ : ∃ KB, KB = w3.heap.size := ⟨_, rfl⟩
    rw [← hKB] at HKf
    rw [← hKB]
    clear hKB
    have HS9 := Lib.hid (show CBK w9 C R Ws B b KB LK v from ⟨HC2.out.below Hbk.out, HB2.out.below Hbk.out HB2.out.lt, HKf.out, Hrow.out⟩)
    have HI9 := Lib.hid (HI2.out.below Hbk.out HI2.out.lt)
    have HX9 := Lib.hid (HX2.out.keep Hbk.out)
    have Hn9 := Lib.hid (nu_trans Hn2.out Hbk.out)
    clear HC2 HB2 HX2 HI2 Hn2 HRn HKf Hrow Hbk
    have HKp := Lib.hid (kept_any I a len cap xs w9 HI9.out HX9.out.1 (by omega))
    go_wp2_with fail
    refine HKp.out.mono ?_
    rintro e w8 ⟨rfl, nn, rfl⟩
    have HS8 := Lib.hid (HS9.out.below (nu_drewN (nu_refl w9) nn))
    have HI8 := Lib.hid (HI9.out.drewN nn)
    have hn8 := nu_drewN Hn9.out nn
    clear HS9 HI9 HX9 Hn9 HKp
    generalize w9.drewN nn = w8 at *
    go_wp2_with fail
    go_loopw [10] (fun i wr => ∃ (k : Nat) (ys : List Nat), k ≤ len ∧ i = .int .i64 k ∧ ys.length = len + 3 ∧ (∀ y ∈ ys, y < 256) ∧ Blk wr I 5 (ys.map vb).toArray ∧ CBK wr C R Ws B b KB LK v ∧ Below w.heap.size w wr) (fun i _ => len - (intOf i).toNat)
    case atStart =>
      refine ⟨0, xs ++ [201, 202, 203], by omega, rfl, by rw [List.length_append, Hxl.out]; rfl, fun y hy => ?_, HI8.out, HS8.out, hn8⟩
      rcases List.mem_append.1 hy with hy | hy
      · exact Hxs.out y hy
      · simp only [List.mem_cons, List.not_mem_nil, or_false] at hy
        rcases hy with rfl | rfl | rfl <;> omega
    case round =>
      clear HI8 HS8 hn8
      obtain ⟨k, ys, hk, rfl, hyl, hy8, hI, hS, hn⟩ := hrel
      by_cases hlt : k < len
      · have hki : (k : Int) < (len : Int) := by omega
        obtain ⟨y, hy⟩ : ∃ y, ys[k]? = some y := ⟨_, List.getElem?_eq_getElem (by omega)⟩
        have hyy : y < 256 := hy8 y (List.mem_of_getElem? hy)
        obtain ⟨z, hz⟩ : ∃ z, z = (y + 1) % 256 := ⟨_, rfl⟩
        have hz8 : z < 256 := by omega
        have wz : IntKind.u8.wrap ((y : Int) + 1) = (z : Int) := by rw [IntKind.wrap_u8]; omega
        have c0 : wr.cell? ⟨I, k, none⟩ = some (.int .u8 (y : Int)) := hI.at k _ (arrg_at vb _ k y hy)
        have f0 := hI.free k
        have hI1 := hI.put k (vb z)
        rw [arrg_set] at hI1
        have HI1 := Lib.hid hI1
        have HS1 := Lib.hid (hS.poke (k := k) hI (vb z))
        have hn1 := nu_set hn (p := ⟨I, k, none⟩) HIw.out (vb z)
        simp only [vb] at HI1 HS1 hn1
        have Hys := Lib.hid (show (ys.set k z).length = len + 3 ∧ ∀ x ∈ ys.set k z, x < 256 from ⟨by rw [List.length_set, hyl], fun x hx => by
          rcases List.mem_or_eq_of_mem_set hx with h | h
          · exact hy8 x h
          · rw [h]; exact hz8⟩)
        clear hI1 hyl hy8 hI hS hn hy hz hyy hz8
        go_wp2_with fail
        clear c0 f0 wz
        generalize wr.setCell ⟨I, k, none⟩ (.int .u8 (z : Int)) = w7 at *
        go_roundw
        case rel => first | exact ⟨k + 1, _, by omega, by go_num, Hys.out.1, Hys.out.2, HI1.out, HS1.out, hn1⟩ | ((repeat apply Exists.intro); exact ⟨⟨k + 1, _, by omega, by go_num, Hys.out.1, Hys.out.2, HI1.out, HS1.out, hn1⟩, rfl⟩)
        case measure => simp [intOf]; omega
      · obtain rfl : k = len := by omega
        have HS2 := Lib.hid hS
        have hn2 := hn
        clear hS hn hI hyl hy8
        obtain ⟨w2, rfl⟩ : ∃ q : World, q = wr := ⟨_, rfl⟩
        go_wp2_with fail
        refine wp_region_held_drew (S := fun W => CBK W C R Ws B b KB LK v) (by kernel_rfl) (HS2.out.drew) (fun hHeld => ?_)
        dsimp only [Array.replicate, List.replicate, List.size_toArray, List.length_cons, List.length_nil, Nat.reduceAdd] at hHeld ⊢
        have HS3 := Lib.hid hHeld
        have hn3 := nu_drew hn2
        clear HS2 hn2
        generalize w2.drew = w3 at *
        refine take_l (i := 0) (v := ?_) rfl (by kernel_rfl) (by kernel_rfl) (by kernel_rfl) (fun _ _ _ h => h) (Or.inl ⟨by rfl, ?_⟩) (by assumption) ?_
        case refine_2 => (intro _ _; go_simp; all_goals with_reducible rfl)
        simp only [Act.put, List.setIfInBounds_toArray, List.set_cons_zero, List.set_cons_succ]
        refine take_l (i := 1) rfl (by kernel_rfl) (by kernel_rfl) (by kernel_rfl) (fun _ _ _ h => h) (Or.inl ⟨by rfl, fun W hS => e16_load (CBK.b hS) Hb16.out (.tmp 3) rfl rfl⟩) (by assumption) ?_
        simp only [Act.put, List.setIfInBounds_toArray, List.set_cons_zero, List.set_cons_succ]
        refine take_l (i := 3) rfl (by kernel_rfl) (by kernel_rfl) (by kernel_rfl) (fun _ _ _ h => h) (Or.inl ⟨by rfl, fun W hS => eKey_load (CBK.k hS) HLl.out (.tmp 8) rfl rfl⟩) (by assumption) ?_
        simp only [Act.put, List.setIfInBounds_toArray, List.set_cons_zero, List.set_cons_succ]
        refine take_l (i := 4) rfl (by kernel_rfl) (by kernel_rfl) (by kernel_rfl) (fun _ _ _ h => h) (Or.inl ⟨by rfl, fun W hS => e16_load (CBK.b hS) Hb16.out (.tmp 3) rfl rfl⟩) (by assumption) ?_
        simp only [Act.put, List.setIfInBounds_toArray, List.set_cons_zero, List.set_cons_succ]
        clear hHeld
        refine wpAnyH_ready (rs := [2]) (by kernel_rfl) (by simp) ?_
        refine cons_l rfl (fun K hK => ?_) AllReadyH.nil
        go_simp
        go_at_call 29
        refine (enc_call HS3.out.c HK.out Hb.out HDe.out).mono ?_
        rintro e w4 ⟨rfl, hb4⟩
        have HS4 := Lib.hid (HS3.out.below hb4)
        have hn4 := nu_trans hn3 hb4
        clear hb4 HS3 hn3
        go_wp2_with fail
        refine hK.out _ _ HS4.out (fun hHeld => ?_)
        clear hK K hHeld
        simp only [Act.put, List.setIfInBounds_toArray, List.set_cons_zero, List.set_cons_succ]
        have hHeld := HS4.out
        clear hHeld
        refine wpAnyH_ready (rs := [5]) (by kernel_rfl) (by simp) ?_
        refine cons_l rfl (fun K hK => ?_) AllReadyH.nil
        go_simp
        go_at_call 30
        refine (refEnc_is HS4.out.r HK.out HLK.out Hb.out HDe.out).mono ?_
        rintro e w5 ⟨rfl, hb5⟩
        have HS5 := Lib.hid (HS4.out.below hb5)
        have hn5 := nu_trans hn4 hb5
        clear hb5 HS4 hn4
        go_wp2_with fail
        refine hK.out _ _ HS5.out (fun hHeld => ?_)
        clear hK K hHeld
        simp only [Act.put, List.setIfInBounds_toArray, List.set_cons_zero, List.set_cons_succ]
        have hHeld := HS5.out
        refine take_l (i := 6) rfl (by kernel_rfl) (by kernel_rfl) (by kernel_rfl) (fun _ _ _ h => h) (Or.inl ⟨by rfl, fun W _ => e16_same D HD.out (.tmp 58) (.tmp 61) rfl rfl rfl⟩) (by assumption) ?_
        simp only [Act.put, List.setIfInBounds_toArray, List.set_cons_zero, List.set_cons_succ]
        refine take_l (i := 7) (v := ?_) rfl (by kernel_rfl) (by kernel_rfl) (by kernel_rfl) (fun _ _ _ h => h) (Or.inl ⟨by rfl, ?_⟩) (by assumption) ?_
        case refine_2 => (intro _ _; go_simp; all_goals with_reducible rfl)
        simp only [Act.put, List.setIfInBounds_toArray, List.set_cons_zero, List.set_cons_succ]
        refine take_l (i := 8) (v := ?_) rfl (by kernel_rfl) (by kernel_rfl) (by kernel_rfl) (fun _ _ _ h => h) (Or.inl ⟨by rfl, ?_⟩) (by assumption) ?_
        case refine_2 => (intro _ _; go_simp; all_goals with_reducible rfl)
        simp only [Act.put, List.setIfInBounds_toArray, List.set_cons_zero, List.set_cons_succ]
        refine take_l (i := 9) rfl (by kernel_rfl) (by kernel_rfl) (by kernel_rfl) (fun _ _ _ h => h) (Or.inl ⟨by rfl, fun W hS => e16_load (CBK.b hS) Hb16.out (.tmp 3) rfl rfl⟩) (by assumption) ?_
        simp only [Act.put, List.setIfInBounds_toArray, List.set_cons_zero, List.set_cons_succ]
        refine take_l (i := 11) rfl (by kernel_rfl) (by kernel_rfl) (by kernel_rfl) (fun _ _ _ h => h) (Or.inl ⟨by rfl, fun W hS => eKey_load (CBK.k hS) HLl.out (.tmp 8) rfl rfl⟩) (by assumption) ?_
        simp only [Act.put, List.setIfInBounds_toArray, List.set_cons_zero, List.set_cons_succ]
        refine take_l (i := 12) rfl (by kernel_rfl) (by kernel_rfl) (by kernel_rfl) (fun _ _ _ h => h) (Or.inl ⟨by rfl, fun W hS => e16_load (CBK.b hS) Hb16.out (.tmp 3) rfl rfl⟩) (by assumption) ?_
        simp only [Act.put, List.setIfInBounds_toArray, List.set_cons_zero, List.set_cons_succ]
        clear hHeld
        refine wpAnyH_ready (rs := [10]) (by kernel_rfl) (by simp) ?_
        refine cons_l rfl (fun K hK => ?_) AllReadyH.nil
        go_simp
        go_at_call 29
        refine (enc_call HS5.out.c HK.out Hb.out HDe.out).mono ?_
        rintro e w6 ⟨rfl, hb6⟩
        have HS6 := Lib.hid (HS5.out.below hb6)
        have hn6 := nu_trans hn5 hb6
        clear hb6 HS5 hn5
        go_wp2_with fail
        refine hK.out _ _ HS6.out (fun hHeld => ?_)
        clear hK K hHeld
        simp only [Act.put, List.setIfInBounds_toArray, List.set_cons_zero, List.set_cons_succ]
        have hHeld := HS6.out
        clear hHeld
        refine wpAnyH_ready (rs := [13]) (by kernel_rfl) (by simp) ?_
        refine cons_l rfl (fun K hK => ?_) AllReadyH.nil
        go_simp
        go_at_call 30
        refine (refEnc_is HS6.out.r HK.out HLK.out Hb.out HDe.out).mono ?_
        rintro e w7 ⟨rfl, hb7⟩
        have HS7 := Lib.hid (HS6.out.below hb7)
        have hn7 := nu_trans hn6 hb7
        clear hb7 HS6 hn6
        go_wp2_with fail
        refine hK.out _ _ HS7.out (fun hHeld => ?_)
        clear hK K hHeld
        simp only [Act.put, List.setIfInBounds_toArray, List.set_cons_zero, List.set_cons_succ]
        have hHeld := HS7.out
        refine take_l (i := 14) rfl (by kernel_rfl) (by kernel_rfl) (by kernel_rfl) (fun _ _ _ h => h) (Or.inl ⟨by rfl, fun W _ => e16_same D HD.out (.tmp 66) (.tmp 69) rfl rfl rfl⟩) (by assumption) ?_
        simp only [Act.put, List.setIfInBounds_toArray, List.set_cons_zero, List.set_cons_succ]
        refine take_l (i := 15) (v := ?_) rfl (by kernel_rfl) (by kernel_rfl) (by kernel_rfl) (fun _ _ _ h => h) (Or.inl ⟨by rfl, ?_⟩) (by assumption) ?_
        case refine_2 => (intro _ _; go_simp; all_goals with_reducible rfl)
        simp only [Act.put, List.setIfInBounds_toArray, List.set_cons_zero, List.set_cons_succ]
        refine take_l (i := 16) (v := ?_) rfl (by kernel_rfl) (by kernel_rfl) (by kernel_rfl) (fun _ _ _ h => h) (Or.inl ⟨by rfl, ?_⟩) (by assumption) ?_
        case refine_2 => (intro _ _; go_simp; all_goals with_reducible rfl)
        simp only [Act.put, List.setIfInBounds_toArray, List.set_cons_zero, List.set_cons_succ]
        clear hHeld
        refine wpAnyH_ready (rs := [17]) (by kernel_rfl) (by simp) ?_
        refine cons_l rfl (fun K hK => ?_) AllReadyH.nil
        go_simp
        go_at_call 28
        refine (awake6 w7).mono ?_
        rintro e w8 ⟨rfl, hb8⟩
        have HS8 := Lib.hid (HS7.out.below hb8)
        have hn8 := nu_trans hn7 hb8
        clear hb8 HS7 hn7
        go_wp2_with fail
        refine hK.out _ _ HS8.out (fun hHeld => ?_)
        clear hK K hHeld
        simp only [Act.put, List.setIfInBounds_toArray, List.set_cons_zero, List.set_cons_succ]
        have hHeld := HS8.out
        refine take_l (i := 18) (v := ?_) rfl (by kernel_rfl) (by kernel_rfl) (by kernel_rfl) (fun _ _ _ h => h) (Or.inl ⟨by rfl, ?_⟩) (by assumption) ?_
        case refine_2 => (intro _ _; go_simp; all_goals with_reducible rfl)
        simp only [Act.put, List.setIfInBounds_toArray, List.set_cons_zero, List.set_cons_succ]
        refine take_l (i := 19) (v := ?_) rfl (by kernel_rfl) (by kernel_rfl) (by kernel_rfl) (fun _ _ _ h => h) (Or.inl ⟨by rfl, ?_⟩) (by assumption) ?_
        case refine_2 => (intro _ _; go_simp; all_goals with_reducible rfl)
        simp only [Act.put, List.setIfInBounds_toArray, List.set_cons_zero, List.set_cons_succ]
        refine wpAnyH_done (by kernel_rfl) ?_ _
        go_wp2_with fail
        go_ret
        exact ⟨rfl, hn8⟩
  · clear hx hb hlen
    go_enter Try.func9, Try.ntmps9
    go_upto_region 1 with fail
    change Code.wp _ _ _ _ (w.alloc (.cells (b.map vb).toArray 22))
    generalize w.alloc (.cells (b.map vb).toArray 22) = w1 at *
    go_wp2_with fail
    refine HLn.out.mono ?_
    rintro e w0 ⟨rfl, _, hb0⟩
    have Hn0 := Lib.hid (nu_trans Hal.out hb0)
    have HNw := Lib.hid (aesNew_bad (some ⟨w1.heap.size, 0, none⟩) len (len + 3) w0 (by omega) (by omega))
    have HRw := Lib.hid (refNew_bad a len cap w0 (by omega) (by omega))
    clear hb0 HLn Hal HB1 hL
    go_wp2_with fail
    refine HNw.out.mono ?_
    rintro e w2 ⟨rfl, rfl⟩
    go_wp2_with fail
    refine HRw.out.mono ?_
    rintro e w3 ⟨rfl, hbk⟩
    obtain ⟨LK, hLK⟩ : ∃ LK, LK = keyZ := ⟨_, rfl⟩
    rw [← hLK]
    have HLl := Lib.hid (show LK.length = 513 by rw [hLK]; exact keyZ_len)
    have HL1 := Lib.hid (show ∀ u ∈ LK, u.oneCell' = true by rw [hLK]; exact keyZ_one)
    have HKm := Lib.hid (Blk.made w3 44 Try.zeroCells44)
    have halk := nu_fill (a := w3) LK (g := w3.heap.size) (Nat.le_refl _) 0 _ (nu_alloc (nu_refl w3) (.cells Try.zeroCells44 44))
    have Hbk := Lib.hid (nu_trans hbk halk)
    clear hLK hbk halk
    go_upto_region 4 with (refine wpList_store_in rfl 44 (.tmp 8) (.tmp 21) rfl w3.heap.size 0 LK rfl rfl 44 Try.zeroCells44 HKm.out (by rw [zero_key_size, HLl.out]; omega) (by rw [HLl.out]; kernel_rfl) HL1.out ?_)
    change Code.wp _ _ _ _ ((w3.alloc (.cells Try.zeroCells44 44)).setCells w3.heap.size 0 LK)
    clear HKm
    generalize (w3.alloc (.cells Try.zeroCells44 44)).setCells w3.heap.size 0 LK = w9 at *
    go_wp2_with fail
    refine (awake6 _).mono ?_
    rintro e w4 ⟨rfl, hb4⟩
    have hn4 := nu_trans Hn0.out (nu_trans Hbk.out hb4)
    go_wp2_with fail
    go_ret
    exact ⟨rfl, hn4⟩
end Go.Proofs.Ytnojbjconiddoaa

namespace Go.Proofs.Ytnojbjconiddoaa
open Go.ChangeShapes Go.WideShapes Go.ChangeAt Go.RowKit

theorem array_open {H : Type} {enc : TypeId × Value → H} {P : Program} {w : World} {base : Nat} {spare : Nat → Bool} {held : Bool} {r : Reach} {base' : Nat} {t e : TypeId} {n : Nat} {v : Value} {d : DataW H} {p : List MemPlace}
    (ht : P.underlying t = some (.array n e)) (he : P.underlying e = some (.int .u8)) (ce : P.cellsOf e = 1) (ct : P.cellsOf t = n) (hval : Value.okWide P w r base' t v) (h : DataW.Trod enc P w base spare held t v d p) :
    ∃ xs : List Nat, v = .agg (xs.map vb).toArray ∧ xs.length = n ∧ ∀ x ∈ xs, x < 256 := by
  have hv : ∃ cs, v = .agg cs ∧ cs.size = P.cellsOf t := by
    simp only [Value.okWide, ht] at hval
    obtain ⟨cs, h1, h2, _⟩ := hval
    exact ⟨cs, h1, h2⟩
  obtain ⟨cs, rfl, hcs⟩ := hv
  rw [ct] at hcs
  obtain ⟨fuel, h⟩ := h
  obtain ⟨ys, m, _, _, _, hyl, hat⟩ := DataW.trod_array ht h
  rw [ce] at hat
  have each : ∀ i : Nat, ∃ x : Nat, i < n → cs[i]? = some (vb x) ∧ x < 256 := by
    intro i
    by_cases hi : i < n
    · have h1 := hat i hi
      have hc : cs[i]? = some (cs[i]'(by omega)) := Array.getElem?_eq_getElem (by omega)
      have hd : ((Value.cells (.agg cs)).toList.drop (i * 1)).take 1 = [cs[i]'(by omega)] := by
        have : (Value.cells (.agg cs)) = cs := rfl
        rw [this, Nat.mul_one, List.drop_eq_getElem_cons (by simpa using by omega)]
        simp
      have h2 : DataW.trod enc P w base spare held m e [cs[i]'(by omega)] = some (ys[i]'(by omega)) := by
        rw [← hd, ← List.getElem?_eq_getElem (by omega : i < ys.length)]
        exact h1
      obtain ⟨z, hz, _, hw⟩ := DataW.trod_int he h2
      simp only [List.cons.injEq, and_true] at hz
      obtain ⟨b1, b2⟩ := bounds_u8 hw
      refine ⟨z.toNat, fun _ => ⟨?_, by omega⟩⟩
      rw [hc, hz]
      unfold vb
      rw [Int.toNat_of_nonneg b1]
    · exact ⟨0, fun h => absurd h hi⟩
  obtain ⟨X, hX⟩ := Classical.axiomOfChoice each
  refine ⟨(List.range n).map X, ?_, by simp, fun x hx => ?_⟩
  · congr 1
    apply Array.ext_getElem?
    intro i
    by_cases hi : i < n
    · rw [(hX i hi).1]
      simp [hi]
    · rw [Array.getElem?_eq_none (by omega), Array.getElem?_eq_none (by simp; omega)]
  · obtain ⟨i, hi, rfl⟩ := List.mem_map.1 hx
    exact (hX i (List.mem_range.1 hi)).2
end Go.Proofs.Ytnojbjconiddoaa
