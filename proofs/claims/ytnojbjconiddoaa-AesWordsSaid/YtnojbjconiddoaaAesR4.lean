/-
  The walk of the document's boxes (law06).
-/
import Derived.Test.YtnojbjconiddoaaAesR1
import Derived.Test.YtnojbjconiddoaaStepB
import Derived.Deep.DeepCutAuto
namespace Go.Proofs.Ytnojbjconiddoaa
open Go.ChangeShapes Go.WideShapes Go.ChangeAt Go.RowKit Fld Aes
set_option linter.unusedSimpArgs false

theorem zero_256 : Try.zeroCells42 = ((List.replicate 256 0).map vb).toArray := by kernel_rfl
theorem size_256 {xs : List Nat} (h : xs.length = 256) : (Try.prog.info? 42).map (·.size) = some (xs.map vb).length := by rw [List.length_map, h]; kernel_rfl
theorem e256_load {o : Oper} {a : Act} {w : World} {g : Nat} {t : TypeId} {xs : List Nat} (hb : Blk w g t (xs.map vb).toArray) (h1 : xs.length = 256) (x : Operand) (ho : o.op = .load 42 x) (hx : a.eval x = .pointer (some ⟨g, 0, none⟩)) :
    (execOp a.eval o).run Try.prog w = .ok (.value (.agg (xs.map vb).toArray)) w :=
  exec_load_mid (P := Try.prog) (w := w) 42 x g 0 (xs.map vb) (.array 256 5) ho hx (range_blk hb) (by kernel_rfl) rfl (size_256 h1)
theorem results_cell_cell {fn : Func} {p q : Tmp} {ty : TypeId} (h : fn.results = #[.cell p ty, .cell q ty]) (tmps : Array Value) (P : Program) (w : World) :
    (results fn tmps).run P w = ((asAddr (tmps.getD p undef)).run P w).andThen fun a w1 => ((loadVar ty a).run P w1).andThen fun v w2 => ((asAddr (tmps.getD q undef)).run P w2).andThen fun a2 w3 => ((loadVar ty a2).run P w3).andThen fun v2 w4 => .ok (.tuple #[v, v2]) w4 := by
  simp only [results, h]
  simp [Sem.run_bind, Result.andThen]
theorem results_two {fn : Func} {p q : Tmp} {ty : TypeId} (h : fn.results = #[.cell p ty, .cell q ty]) (tmps : Array Value) {w : World} {g g' : Nat} {t t' : TypeId} {cs cs' : Array Value} (hp : tmps.getD p undef = .pointer (some ⟨g, 0, none⟩)) (hq : tmps.getD q undef = .pointer (some ⟨g', 0, none⟩)) (hb : Blk w g t cs) (hb' : Blk w g' t' cs')
    {n : Nat} {e : TypeId} (hu : Try.prog.underlying ty = some (.array n e)) (hi : (Try.prog.info? ty).map (·.size) = some cs.size) (hi' : (Try.prog.info? ty).map (·.size) = some cs'.size) : (results fn tmps).run Try.prog w = .ok (.tuple #[.agg cs, .agg cs']) w := by
  rw [results_cell_cell h, hp, hq]
  simp [asAddr, run_loadVar_row w g t ty cs (0, 0) (.array n e) hb hu rfl hi, run_loadVar_row w g' t' ty cs' (0, 0) (.array n e) hb' hu rfl hi']

set_option maxRecDepth 100000 in
set_option maxHeartbeats 4000000 in
theorem boxes_any (w : World) : Calls Try.prog 50 #[] w fun e w' => e = .returned (.tuple #[.agg (boxL.map vb).toArray, .agg (backL.map vb).toArray]) ∧ Below w.heap.size w w' := by
  have hal := nu_alloc (nu_alloc (nu_alloc (nu_alloc (nu_refl w) (.cells Try.zeroCells42 42)) (.cells Try.zeroCells42 42)) (.cells Try.zeroCells42 42)) (.cells Try.zeroCells42 42)
  have HP := Lib.hid ((((Blk.made w 42 Try.zeroCells42).alloc (.cells Try.zeroCells42 42)).alloc (.cells Try.zeroCells42 42)).alloc (.cells Try.zeroCells42 42))
  have HQ := Lib.hid (((Blk.made1 w (.cells Try.zeroCells42 42) 42 Try.zeroCells42).alloc (.cells Try.zeroCells42 42)).alloc (.cells Try.zeroCells42 42))
  have HX := Lib.hid ((Blk.made2 w (.cells Try.zeroCells42 42) (.cells Try.zeroCells42 42) 42 Try.zeroCells42).alloc (.cells Try.zeroCells42 42))
  have HY := Lib.hid (Blk.made3 w (.cells Try.zeroCells42 42) (.cells Try.zeroCells42 42) (.cells Try.zeroCells42 42) 42 Try.zeroCells42)
  go_enter Try.func50, Try.ntmps50
  go_upto_region 2 with fail
  generalize (((w.alloc (.cells Try.zeroCells42 42)).alloc (.cells Try.zeroCells42 42)).alloc (.cells Try.zeroCells42 42)).alloc (.cells Try.zeroCells42 42) = w1 at *
  obtain ⟨Z, hZ⟩ : ∃ Z, Z = List.replicate 256 0 := ⟨_, rfl⟩
  have HZl := Lib.hid (show Z.length = 256 by rw [hZ]; exact List.length_replicate)
  have HZa := Lib.hid (show ∀ i, i < 256 → Z[i]? = some 0 from fun i hi => by rw [hZ, List.getElem?_replicate, if_pos hi])
  have hzz := zero_256
  rw [← hZ] at hzz
  rw [hzz] at HP HQ HX HY
  have HY0 := Lib.hid (show Blk w1 (w.heap.size + 1 + 1 + 1) 42 ((backF 0).map vb).toArray from by rw [show backF 0 = Z by rw [hZ]; rfl]; exact HY.out)
  have HX0 := Lib.hid (show Blk w1 (w.heap.size + 1 + 1) 42 ((doneF boxL Z 0).map vb).toArray from by rw [doneF_zero]; exact HX.out)
  obtain ⟨Y, hY⟩ : ∃ Y, Y = w.heap.size + 1 + 1 + 1 := ⟨_, rfl⟩
  obtain ⟨X, hX⟩ : ∃ X, X = w.heap.size + 1 + 1 := ⟨_, rfl⟩
  obtain ⟨Q, hQ⟩ : ∃ Q, Q = w.heap.size + 1 := ⟨_, rfl⟩
  obtain ⟨P, hP⟩ : ∃ P, P = w.heap.size := ⟨_, rfl⟩
  rw [← hY] at HY0
  rw [← hX] at HX0
  rw [← hQ] at HQ
  rw [← hP] at HP
  rw [← hY, ← hX, ← hQ, ← hP]
  have Hap := Lib.hid (show P ≠ X ∧ P ≠ Y ∧ Q ≠ X ∧ Q ≠ Y ∧ X ≠ Y ∧ P ≠ Q ∧ w.heap.size ≤ P ∧ w.heap.size ≤ Q ∧ w.heap.size ≤ X ∧ w.heap.size ≤ Y from ⟨by omega, by omega, by omega, by omega, by omega, by omega, by omega, by omega, by omega, by omega⟩)
  clear HX HY hzz hZ hY hX hQ hP
  go_wp2_with fail
  go_loopw [4] (fun i wr => ∃ k : Nat, k ≤ 256 ∧ i = .int .i64 k ∧ Blk wr P 42 (Z.map vb).toArray ∧ Blk wr Q 42 (Z.map vb).toArray ∧ Blk wr X 42 ((doneF boxL Z k).map vb).toArray ∧ Blk wr Y 42 ((backF k).map vb).toArray ∧ Below w.heap.size w wr) (fun i _ => 256 - (intOf i).toNat)
  case atStart => exact ⟨0, by omega, rfl, HP.out, HQ.out, HX0.out, HY0.out, hal⟩
  case round =>
    clear HP HQ HX0 HY0 hal
    obtain ⟨k, hk, rfl, hP, hQ, hX, hY, hn⟩ := hrel
    have HP := Lib.hid hP
    have HQ := Lib.hid hQ
    have HX := Lib.hid hX
    have HY := Lib.hid hY
    clear hP hQ hX hY
    by_cases hlt : k < 256
    · have hki : (k : Int) < 256 := by omega
      have wk : IntKind.u8.wrap (k : Int) = (k : Int) := by rw [IntKind.wrap_u8]; omega
      have HBx := Lib.hid (refBox_any k hlt wr)
      obtain ⟨y, hy⟩ : ∃ y, y = sb k := ⟨_, rfl⟩
      rw [← hy] at HBx
      have hy8 : y < 256 := by rw [hy]; exact sb_lt k
      have hyi : (y : Int) < 256 := by omega
      have hxo : (doneF boxL Z k)[k]? = some 0 := by rw [doneF_old _ _ 256 k k boxL_len (Nat.le_refl _) hk]; exact HZa.out k hlt
      have hyo := backF_at k hk y hy8
      obtain ⟨o, ho⟩ : ∃ o, o = if bs y < k then bs y else 0 := ⟨_, rfl⟩
      rw [← ho] at hyo
      have h1 := HX.out.put k (vb y)
      rw [arrg_set, doneF_set _ _ 256 k y boxL_len HZl.out hlt (by rw [hy]; exact boxL_at k hlt)] at h1
      have HX1 := Lib.hid h1
      have HY1 := Lib.hid (HY.out.far (p := ⟨X, k, none⟩) (Ne.symm Hap.out.2.2.2.2.1) (vb y))
      have HP1 := Lib.hid (HP.out.far (p := ⟨X, k, none⟩) Hap.out.1 (vb y))
      have HQ1 := Lib.hid (HQ.out.far (p := ⟨X, k, none⟩) Hap.out.2.2.1 (vb y))
      have hn1 := nu_set hn (p := ⟨X, k, none⟩) Hap.out.2.2.2.2.2.2.2.2.1 (vb y)
      have cX : wr.cell? ⟨X, k, none⟩ = some (.int .u8 ((0 : Nat) : Int)) := HX.out.at k _ (arrg_at vb _ k 0 hxo)
      have fX := HX.out.free k
      simp only [vb] at HX1 HY1 HP1 HQ1 hn1
      have Hyo := Lib.hid (And.intro hyo hy)
      obtain ⟨wo, rfl⟩ : ∃ q : World, q = wr := ⟨_, rfl⟩
      clear hxo hyo ho h1 HP HQ HX HY hn hy
      go_wp2_with fail
      refine HBx.out.mono ?_
      rintro e w' ⟨rfl, rfl⟩
      clear HBx
      go_upto_region 7 with fail
      clear cX fX
      generalize wo.setCell ⟨X, k, none⟩ (.int .u8 (y : Int)) = w3 at *
      have cY : w3.cell? ⟨Y, y, none⟩ = some (.int .u8 (o : Int)) := HY1.out.at y _ (arrg_at vb _ y o Hyo.out.1)
      have fY := HY1.out.free y
      have h2 := HY1.out.put y (vb k)
      rw [arrg_set, show (backF k).set y k = backF (k + 1) by rw [backF, ← Hyo.out.2]] at h2
      have HY2 := Lib.hid h2
      have HX2 := Lib.hid (HX1.out.far (p := ⟨Y, y, none⟩) Hap.out.2.2.2.2.1 (vb k))
      have HP2 := Lib.hid (HP1.out.far (p := ⟨Y, y, none⟩) Hap.out.2.1 (vb k))
      have HQ2 := Lib.hid (HQ1.out.far (p := ⟨Y, y, none⟩) Hap.out.2.2.2.1 (vb k))
      have hn2 := nu_set hn1 (p := ⟨Y, y, none⟩) Hap.out.2.2.2.2.2.2.2.2.2 (vb k)
      simp only [vb] at HX2 HY2 HP2 HQ2 hn2
      clear h2 HP1 HQ1 HX1 HY1 hn1
      go_wp2_with fail
      clear cY fY
      generalize w3.setCell ⟨Y, y, none⟩ (.int .u8 (k : Int)) = w4 at *
      go_roundw
      case rel => first | exact ⟨k + 1, by omega, by go_num, HP2.out, HQ2.out, HX2.out, HY2.out, hn2⟩ | ((repeat apply Exists.intro); exact ⟨⟨k + 1, by omega, by go_num, HP2.out, HQ2.out, HX2.out, HY2.out, hn2⟩, rfl⟩)
      case measure => simp [intOf]; omega
    · obtain rfl : k = 256 := by omega
      have hX := HX.out
      have hY := HY.out
      rw [doneF_all _ _ 256 boxL_len HZl.out] at hX
      rw [backF_all] at hY
      obtain ⟨bx, hbx⟩ : ∃ bx, bx = boxL := ⟨_, rfl⟩
      obtain ⟨bk, hbk⟩ : ∃ bk, bk = backL := ⟨_, rfl⟩
      have Hx256 := Lib.hid (show bx.length = 256 by rw [hbx]; exact boxL_len)
      have Hk256 := Lib.hid (show bk.length = 256 by rw [hbk]; exact backL_len)
      rw [← hbx] at hX
      rw [← hbk] at hY
      have Hbe := Lib.hid (And.intro hbx hbk)
      have HS := Lib.hid (And.intro hX hY)
      have Hn := Lib.hid hn
      clear hX hY HX HY hbx hbk hn
      obtain ⟨wo, rfl⟩ : ∃ q : World, q = wr := ⟨_, rfl⟩
      go_upto_region 8 with fail
      refine wp_region_held_drew (S := fun W => Blk W X 42 (bx.map vb).toArray ∧ Blk W Y 42 (bk.map vb).toArray) (by kernel_rfl) (⟨HS.out.1.drew, HS.out.2.drew⟩) (fun hHeld => ?_)
      dsimp only [Array.replicate, List.replicate, List.size_toArray, List.length_cons, List.length_nil, Nat.reduceAdd] at hHeld ⊢
      have HP3 := Lib.hid HP.out.drew
      have HQ3 := Lib.hid HQ.out.drew
      have Hn3 := Lib.hid (nu_drew Hn.out)
      have HS3 := Lib.hid hHeld
      clear HP HQ Hn HS
      generalize wo.drew = w3 at *
      refine take_l (i := 0) rfl (by kernel_rfl) (by kernel_rfl) (by kernel_rfl) (fun _ _ _ h => h) (Or.inl ⟨by rfl, fun W hS => e256_load hS.1 Hx256.out (.tmp 2) rfl rfl⟩) (by assumption) ?_
      simp only [Act.put, List.setIfInBounds_toArray, List.set_cons_zero, List.set_cons_succ]
      refine take_l (i := 1) rfl (by kernel_rfl) (by kernel_rfl) (by kernel_rfl) (fun _ _ _ h => h) (Or.inl ⟨by rfl, fun W hS => e256_load hS.2 Hk256.out (.tmp 3) rfl rfl⟩) (by assumption) ?_
      simp only [Act.put, List.setIfInBounds_toArray, List.set_cons_zero, List.set_cons_succ]
      clear hHeld
      refine wpAnyH_ready (rs := [2]) (by kernel_rfl) (by simp) ?_
      refine cons_l rfl (fun K hK => ?_) AllReadyH.nil
      refine step_store_blk rfl 42 (.tmp 0) (.tmp 20) rfl P (bx.map vb) rfl rfl 42 (Z.map vb).toArray HP3.out (by rw [List.length_map, Hx256.out, List.size_toArray, List.length_map, HZl.out]) (size_256 Hx256.out) (vb_one _) ?_
      have HP4 := Lib.hid (Blk.fill HP3.out (bx.map vb) (by rw [List.length_map, Hx256.out, List.size_toArray, List.length_map, HZl.out]))
      have HQ4 := Lib.hid (HQ3.out.farCells (bx.map vb) (Ne.symm Hap.out.2.2.2.2.2.1) 0)
      have HS4 := Lib.hid (And.intro (HS3.out.1.farCells (bx.map vb) (Ne.symm Hap.out.1) 0) (HS3.out.2.farCells (bx.map vb) (Ne.symm Hap.out.2.1) 0))
      have Hn4 := Lib.hid (nu_fill (bx.map vb) (g := P) Hap.out.2.2.2.2.2.2.1 0 _ Hn3.out)
      refine hK.out _ _ HS4.out (fun hHeld => ?_)
      clear hK K hHeld
      simp only [Act.put, List.setIfInBounds_toArray, List.set_cons_zero, List.set_cons_succ]
      refine wpAnyH_ready (rs := [3]) (by kernel_rfl) (by simp) ?_
      refine cons_l rfl (fun K hK => ?_) AllReadyH.nil
      refine step_store_blk rfl 42 (.tmp 1) (.tmp 21) rfl Q (bk.map vb) rfl rfl 42 (Z.map vb).toArray HQ4.out (by rw [List.length_map, Hk256.out, List.size_toArray, List.length_map, HZl.out]) (size_256 Hk256.out) (vb_one _) ?_
      have HQ5 := Lib.hid (Blk.fill HQ4.out (bk.map vb) (by rw [List.length_map, Hk256.out, List.size_toArray, List.length_map, HZl.out]))
      have HP5 := Lib.hid (HP4.out.farCells (bk.map vb) Hap.out.2.2.2.2.2.1 0)
      have HS5 := Lib.hid (And.intro (HS4.out.1.farCells (bk.map vb) (Ne.symm Hap.out.2.2.1) 0) (HS4.out.2.farCells (bk.map vb) (Ne.symm Hap.out.2.2.2.1) 0))
      have Hn5 := Lib.hid (nu_fill (bk.map vb) (g := Q) Hap.out.2.2.2.2.2.2.2.1 0 _ Hn4.out)
      refine hK.out _ _ HS5.out (fun hHeld => ?_)
      clear hK K hHeld
      simp only [Act.put, List.setIfInBounds_toArray, List.set_cons_zero, List.set_cons_succ]
      refine wpAnyH_done (by kernel_rfl) ?_ _
      go_wp2_with fail
      refine bodyPost_ret (results_two rfl _ rfl rfl HP5.out HQ5.out Try.underlying42 (by rw [List.size_toArray]; exact size_256 Hx256.out) (by rw [List.size_toArray]; exact size_256 Hk256.out)) rfl ⟨by rw [Hbe.out.1, Hbe.out.2], Hn5.out⟩
end Go.Proofs.Ytnojbjconiddoaa
