/-
  The walk of AesKnown.
-/
import Derived.Test.YtnojbjconiddoaaAes9
import Derived.Deep.DeepCutAuto
namespace Go.Proofs.Ytnojbjconiddoaa
open Go.ChangeShapes Go.WideShapes Go.ChangeAt Go.RowKit Fld Aes
set_option linter.unusedSimpArgs false

theorem e_byte {o : Oper} {a : Act} {w : World} {g i : Nat} {y : Int} (hc : w.cell? ⟨g, i, none⟩ = some (.int .u8 y)) (x : Operand) (ho : o.op = .load 5 x) (hx : a.eval x = .pointer (some ⟨g, i, none⟩)) :
    (execOp a.eval o).run Try.prog w = .ok (.value (.int .u8 y)) w := by
  unfold execOp
  simp only [ho, hx]
  go_simp
theorem exec_z16 {o : Oper} {a : Act} {w : World} (ho : o.op = .build 22 #[]) : (execOp a.eval o).run Try.prog w = .ok (.value (.agg (z16n.map vb).toArray)) w := by
  unfold execOp
  simp only [ho]
  kernel_rfl
structure CB3 (w : World) (C G O : Nat) : Prop where
  c : CiphAt w C ky_W 14
  b : Blk w G 22 (st0.map vb).toArray
  o : Blk w O 22 (ky_out.map vb).toArray
theorem CB3.below {w w' : World} {C G O : Nat} (h : CB3 w C G O) (hb : Below w.heap.size w w') : CB3 w' C G O := ⟨h.c.below hb, h.b.below hb h.b.lt, h.o.below hb h.o.lt⟩
theorem CB3.drew {w : World} {C G O : Nat} (h : CB3 w C G O) : CB3 w.drew C G O := h.below (nu_drew (nu_refl w))
theorem words_nil_b (w : World) : Calls Try.prog 31 #[.pointer none] w fun e w' => e = .returned (.slice none 0 0) ∧ Below w.heap.size w w' :=
  (words_nil w).mono fun _ _ h => ⟨h.1, by rw [← h.2]; exact nu_refl _⟩
theorem kn_set : ∀ k, k < 32 → (doneF st0 z16n (min k 16)).set (k % 16) (17 * (k % 16)) = doneF st0 z16n (min (k + 1) 16) := by decide
theorem kn_old : ∀ k, k < 32 → (doneF st0 z16n (min k 16))[k % 16]? = some (if k < 16 then 0 else 17 * (k % 16)) := by decide
theorem ky_out_st : St16 ky_out := ⟨rfl, by decide⟩
theorem ky_dec : dec ky_W 14 ky_out = st0 := by rw [← ky_enc]; exact dec_enc st0_ok ky_W 14 (by omega)
set_option maxRecDepth 100000 in
set_option maxHeartbeats 4000000 in
theorem aesKnown_walk (w : World) : Calls Try.prog 14 #[] w fun e w' => e = .returned (.bool true) ∧ Below w.heap.size w w' := by
  have hal := nu_alloc (nu_refl w) (.cells (z16n.map vb).toArray 22)
  have HG := Lib.hid (Blk.made w 22 (z16n.map vb).toArray)
  go_enter Try.func14, Try.ntmps14
  go_upto_region 3 with fail
  change Code.wp _ _ _ _ (w.alloc (.cells (z16n.map vb).toArray 22))
  generalize w.alloc (.cells (z16n.map vb).toArray 22) = w1 at *
  obtain ⟨G, hG⟩ : ∃ G, G = w.heap.size := ⟨_, rfl⟩
  rw [← hG] at HG
  rw [← hG]
  obtain ⟨B0, hB0⟩ : ∃ B0, B0 = w1.heap.size := ⟨_, rfl⟩
  have HGB := Lib.hid (show w.heap.size ≤ G ∧ G < B0 from ⟨by omega, by rw [hB0]; exact HG.out.lt⟩)
  have Hz := Lib.hid (show B0 ≤ w1.heap.size by omega)
  clear hG hB0
  have HO := Lib.hid (show OwnB w1 B0 5 (.slice none 0 0) (List.range 0) from ⟨⟨by simp, .inl ⟨rfl, rfl⟩⟩, by simp⟩)
  go_wp2_with fail
  go_loopw [1, 3] (fun v i wr => ∃ k : Nat, k ≤ 32 ∧ i = .int .i64 k ∧ OwnB wr B0 5 v (List.range k) ∧ Blk wr G 22 ((doneF st0 z16n (min k 16)).map vb).toArray ∧ Below w.heap.size w wr ∧ B0 ≤ wr.heap.size) (fun _ i _ => 32 - (intOf i).toNat)
  case atStart => exact ⟨0, by omega, rfl, HO.out, HG.out, hal, Hz.out⟩
  case round =>
    clear HO HG hal Hz
    obtain ⟨k, hk32, rfl, hO, hG, hn, hz⟩ := hrel
    by_cases hk : k < 32
    · have hki : (k : Int) < 32 := by omega
      have HO := Lib.hid hO
      have HG := Lib.hid hG
      have Hz := Lib.hid hz
      have Hrl := Lib.hid (show (List.range k).length < 140737488355328 by rw [List.length_range]; omega)
      have hset := kn_set k hk
      have hold := kn_old k hk
      obtain ⟨q, hq⟩ : ∃ q, q = k % 16 := ⟨_, rfl⟩
      have em : (k : Int) % 16 = (q : Int) := by omega
      have etq : Int.tmod (k : Int) 16 = (q : Int) := by rw [Int.tmod_eq_emod_of_nonneg (by omega)]; omega
      have wq : IntKind.i64.wrap (q : Int) = (q : Int) := by rw [IntKind.wrap_i64]; omega
      have hqi : (q : Int) < 16 := by omega
      obtain ⟨s, hs⟩ : ∃ s, s = 17 * q := ⟨_, rfl⟩
      rw [← hq, ← hs] at hset hold
      obtain ⟨o, ho⟩ : ∃ o, o = if k < 16 then 0 else s := ⟨_, rfl⟩
      rw [← ho] at hold
      have e1 : IntKind.i64.wrap (17 * (q : Int)) = (s : Int) := by rw [IntKind.wrap_i64]; omega
      have e2 : IntKind.u8.wrap (s : Int) = (s : Int) := by rw [IntKind.wrap_u8]; omega
      have e4 : IntKind.u8.wrap (k : Int) = (k : Int) := by rw [IntKind.wrap_u8]; omega
      have Hset := Lib.hid hset
      have Hold := Lib.hid hold
      clear hO hG hz hs hset hold hq ho
      go_upto_region 7 with (at_builtin; refine wpList_byte_more rfl (.tmp 12) (.tmp 15) rfl HO.out Hz.out Hrl.out _ k (by omega) (by first | rfl | assumption) rfl rfl ?_)
      intro v' w3 hown3 hb3
      have HG3 := Lib.hid (HG.out.below hb3 HGB.out.2)
      have HO3 := Lib.hid (show OwnB w3 B0 5 v' (List.range (k + 1)) by rw [List.range_succ]; exact hown3)
      have hn3 := hn.trans (hb3.mono (by have := HGB.out; omega))
      have hz3 := Nat.le_trans Hz.out hb3.size
      have c3 : w3.cell? ⟨G, q, none⟩ = some (.int .u8 (o : Int)) := HG3.out.at q _ (arrg_at vb _ q o Hold.out)
      have f3 := HG3.out.free q
      have h1 := HG3.out.put q (vb s)
      rw [arrg_set, Hset.out] at h1
      have HG4 := Lib.hid h1
      have HO4 := Lib.hid (show OwnB (w3.setCell ⟨G, q, none⟩ (vb s)) B0 5 v' (List.range (k + 1)) from HO3.out.kept (gb_set (gb_refl w3 (some G)) (p := ⟨G, q, none⟩) (.inl rfl) (vb s)) HGB.out.2)
      have hn4 := nu_set hn3 (p := ⟨G, q, none⟩) HGB.out.1 (vb s)
      have hz4 : B0 ≤ (w3.setCell ⟨G, q, none⟩ (vb s)).heap.size := by simpa [World.setCell] using hz3
      simp only [vb] at HG4 HO4 hn4 hz4
      have Hz4 := Lib.hid hz4
      clear hown3 hb3 hn hn3 hz3 h1 HG HO HG3 HO3 Hz Hrl hz4
      go_wp2_with fail
      clear c3 f3 e1 e2 e4 em etq wq hqi
      generalize w3.setCell ⟨G, q, none⟩ (.int .u8 (s : Int)) = w4 at *
      go_roundw
      case rel => first | exact ⟨k + 1, by omega, by go_num, HO4.out, HG4.out, hn4, Hz4.out⟩ | ((repeat apply Exists.intro); exact ⟨⟨k + 1, by omega, by go_num, HO4.out, HG4.out, hn4, Hz4.out⟩, rfl⟩)
      case measure => simp [intOf]; omega
    · obtain rfl : k = 32 := by omega
      obtain ⟨a, cap, hv, h1, h2, hB⟩ := hO.reads
      rw [List.length_range] at hv hB
      subst hv
      have HNw := Lib.hid (new_good (.inr rfl) hB)
      rw [show doneF st0 z16n (min 32 16) = st0 by decide] at hG
      have HG2 := Lib.hid hG
      clear hO h1 h2 hB hG hz
      obtain ⟨wo, rfl⟩ : ∃ q : World, q = wr := ⟨_, rfl⟩
      go_wp2_with fail
      refine HNw.out.mono ?_
      rintro e w4 ⟨C, rfl, hC, hb4⟩
      have HC := Lib.hid (show CB w4 C 14 ky_W G st0 from ⟨by rw [← ky_expand]; exact hC, HG2.out.below hb4 HG2.out.lt⟩)
      have hn4 := nu_trans hn hb4
      have HE := Lib.hid (enc_call HC.out.c ky_key st0_ok ky_enc)
      clear hC hb4 hn HG2 HNw
      go_wp2_with (refine wpList_run _ (by rfl) (e16_load HC.out.b rfl (.tmp 2) rfl rfl) ?_)
      refine HE.out.mono ?_
      rintro e w5 ⟨rfl, hb5⟩
      have HM := Lib.hid (Blk.made w5 22 (z16n.map vb).toArray)
      have HF := Lib.hid (Blk.fill HM.out (ky_out.map vb) rfl)
      have hf := nu_fill (a := w5) (ky_out.map vb) (g := w5.heap.size) (Nat.le_refl _) 0 _ (nu_alloc (nu_refl w5) (.cells (z16n.map vb).toArray 22))
      have HC5 := Lib.hid (HC.out.below (nu_trans hb5 hf))
      have hn5 := nu_trans hn4 (nu_trans hb5 hf)
      clear hb5 hf hn4 HC HE
      go_upto_region 11 with (refine wpList_store_blk rfl 22 (.tmp 7) (.tmp 31) rfl w5.heap.size (ky_out.map vb) rfl rfl 22 (z16n.map vb).toArray HM.out rfl (by kernel_rfl) (vb_one _) ?_)
      clear HM
      change Code.wp _ _ _ _ ((w5.alloc (.cells (z16n.map vb).toArray 22)).setCells w5.heap.size 0 (ky_out.map vb))
      dsimp only [Act.put]
      generalize (w5.alloc (.cells (z16n.map vb).toArray 22)).setCells w5.heap.size 0 (ky_out.map vb) = w6 at *
      obtain ⟨O, hO⟩ : ∃ O, O = w5.heap.size := ⟨_, rfl⟩
      rw [← hO] at HF ⊢
      clear hO
      have HS6 := Lib.hid (show CB3 w6 C G O from ⟨HC5.out.c, HC5.out.b, HF.out⟩)
      have hn6 := hn5
      clear hn5 HC5 HF
      refine wp_region_held_drew (S := fun W => CB3 W C G O) (by kernel_rfl) (HS6.out.drew) (fun hHeld => ?_)
      dsimp only [Array.replicate, List.replicate, List.size_toArray, List.length_cons, List.length_nil, Nat.reduceAdd] at hHeld ⊢
      have HS7 := Lib.hid hHeld
      have hn7 := nu_drew hn6
      clear HS6 hn6
      generalize w6.drew = w7 at *
      refine take_l (i := 0) (v := ?_) rfl (by kernel_rfl) (by kernel_rfl) (by kernel_rfl) (fun _ _ _ h => h) (Or.inl ⟨by rfl, ?_⟩) (by assumption) ?_
      case refine_2 => (intro _ _; go_simp; all_goals with_reducible rfl)
      simp only [Act.put, List.setIfInBounds_toArray, List.set_cons_zero, List.set_cons_succ]
      refine take_l (i := 1) (v := ?_) rfl (by kernel_rfl) (by kernel_rfl) (by kernel_rfl) (fun _ _ _ h => h) (Or.inl ⟨by rfl, ?_⟩) (by assumption) ?_
      case refine_2 => (intro _ _; go_simp; all_goals with_reducible rfl)
      simp only [Act.put, List.setIfInBounds_toArray, List.set_cons_zero, List.set_cons_succ]
      refine take_l (i := 2) (v := ?_) rfl (by kernel_rfl) (by kernel_rfl) (by kernel_rfl) (fun _ _ _ h => h) (Or.inl ⟨by rfl, ?_⟩) (by assumption) ?_
      case refine_2 => (intro _ _; go_simp; all_goals with_reducible rfl)
      simp only [Act.put, List.setIfInBounds_toArray, List.set_cons_zero, List.set_cons_succ]
      refine take_l (i := 3) (v := ?_) rfl (by kernel_rfl) (by kernel_rfl) (by kernel_rfl) (fun _ _ _ h => h) (Or.inl ⟨by rfl, ?_⟩) (by assumption) ?_
      case refine_2 => (intro _ _; go_simp; all_goals with_reducible rfl)
      simp only [Act.put, List.setIfInBounds_toArray, List.set_cons_zero, List.set_cons_succ]
      refine take_l (i := 4) rfl (by kernel_rfl) (by kernel_rfl) (by kernel_rfl) (fun _ _ _ h => h) (Or.inl ⟨by rfl, fun W hS => e_byte ((CB3.o hS).at 0 _ rfl) (.tmp 35) rfl rfl⟩) (by assumption) ?_
      simp only [Act.put, List.setIfInBounds_toArray, List.set_cons_zero, List.set_cons_succ]
      refine take_l (i := 5) (v := ?_) rfl (by kernel_rfl) (by kernel_rfl) (by kernel_rfl) (fun _ _ _ h => h) (Or.inl ⟨by rfl, ?_⟩) (by assumption) ?_
      case refine_2 => (intro _ _; go_simp; all_goals with_reducible rfl)
      simp only [Act.put, List.setIfInBounds_toArray, List.set_cons_zero, List.set_cons_succ]
      refine take_l (i := 6) (v := ?_) rfl (by kernel_rfl) (by kernel_rfl) (by kernel_rfl) (fun _ _ _ h => h) (Or.inl ⟨by rfl, ?_⟩) (by assumption) ?_
      case refine_2 => (intro _ _; go_simp; all_goals with_reducible rfl)
      simp only [Act.put, List.setIfInBounds_toArray, List.set_cons_zero, List.set_cons_succ]
      refine take_l (i := 7) (v := ?_) rfl (by kernel_rfl) (by kernel_rfl) (by kernel_rfl) (fun _ _ _ h => h) (Or.inl ⟨by rfl, ?_⟩) (by assumption) ?_
      case refine_2 => (intro _ _; go_simp; all_goals with_reducible rfl)
      simp only [Act.put, List.setIfInBounds_toArray, List.set_cons_zero, List.set_cons_succ]
      refine take_l (i := 8) (v := ?_) rfl (by kernel_rfl) (by kernel_rfl) (by kernel_rfl) (fun _ _ _ h => h) (Or.inl ⟨by rfl, ?_⟩) (by assumption) ?_
      case refine_2 => (intro _ _; go_simp; all_goals with_reducible rfl)
      simp only [Act.put, List.setIfInBounds_toArray, List.set_cons_zero, List.set_cons_succ]
      refine take_l (i := 9) rfl (by kernel_rfl) (by kernel_rfl) (by kernel_rfl) (fun _ _ _ h => h) (Or.inl ⟨by rfl, fun W hS => e_byte ((CB3.o hS).at 1 _ rfl) (.tmp 40) rfl rfl⟩) (by assumption) ?_
      simp only [Act.put, List.setIfInBounds_toArray, List.set_cons_zero, List.set_cons_succ]
      refine take_l (i := 10) (v := ?_) rfl (by kernel_rfl) (by kernel_rfl) (by kernel_rfl) (fun _ _ _ h => h) (Or.inl ⟨by rfl, ?_⟩) (by assumption) ?_
      case refine_2 => (intro _ _; go_simp; all_goals with_reducible rfl)
      simp only [Act.put, List.setIfInBounds_toArray, List.set_cons_zero, List.set_cons_succ]
      refine take_l (i := 11) (v := ?_) rfl (by kernel_rfl) (by kernel_rfl) (by kernel_rfl) (fun _ _ _ h => h) (Or.inl ⟨by rfl, ?_⟩) (by assumption) ?_
      case refine_2 => (intro _ _; go_simp; all_goals with_reducible rfl)
      simp only [Act.put, List.setIfInBounds_toArray, List.set_cons_zero, List.set_cons_succ]
      refine take_l (i := 12) (v := ?_) rfl (by kernel_rfl) (by kernel_rfl) (by kernel_rfl) (fun _ _ _ h => h) (Or.inl ⟨by rfl, ?_⟩) (by assumption) ?_
      case refine_2 => (intro _ _; go_simp; all_goals with_reducible rfl)
      simp only [Act.put, List.setIfInBounds_toArray, List.set_cons_zero, List.set_cons_succ]
      refine take_l (i := 13) (v := ?_) rfl (by kernel_rfl) (by kernel_rfl) (by kernel_rfl) (fun _ _ _ h => h) (Or.inl ⟨by rfl, ?_⟩) (by assumption) ?_
      case refine_2 => (intro _ _; go_simp; all_goals with_reducible rfl)
      simp only [Act.put, List.setIfInBounds_toArray, List.set_cons_zero, List.set_cons_succ]
      refine take_l (i := 14) rfl (by kernel_rfl) (by kernel_rfl) (by kernel_rfl) (fun _ _ _ h => h) (Or.inl ⟨by rfl, fun W hS => e_byte ((CB3.o hS).at 15 _ rfl) (.tmp 45) rfl rfl⟩) (by assumption) ?_
      simp only [Act.put, List.setIfInBounds_toArray, List.set_cons_zero, List.set_cons_succ]
      refine take_l (i := 15) (v := ?_) rfl (by kernel_rfl) (by kernel_rfl) (by kernel_rfl) (fun _ _ _ h => h) (Or.inl ⟨by rfl, ?_⟩) (by assumption) ?_
      case refine_2 => (intro _ _; go_simp; all_goals with_reducible rfl)
      simp only [Act.put, List.setIfInBounds_toArray, List.set_cons_zero, List.set_cons_succ]
      refine take_l (i := 16) (v := ?_) rfl (by kernel_rfl) (by kernel_rfl) (by kernel_rfl) (fun _ _ _ h => h) (Or.inl ⟨by rfl, ?_⟩) (by assumption) ?_
      case refine_2 => (intro _ _; go_simp; all_goals with_reducible rfl)
      simp only [Act.put, List.setIfInBounds_toArray, List.set_cons_zero, List.set_cons_succ]
      refine take_l (i := 17) (v := ?_) rfl (by kernel_rfl) (by kernel_rfl) (by kernel_rfl) (fun _ _ _ h => h) (Or.inl ⟨by rfl, ?_⟩) (by assumption) ?_
      case refine_2 => (intro _ _; go_simp; all_goals with_reducible rfl)
      simp only [Act.put, List.setIfInBounds_toArray, List.set_cons_zero, List.set_cons_succ]
      refine take_l (i := 18) (v := ?_) rfl (by kernel_rfl) (by kernel_rfl) (by kernel_rfl) (fun _ _ _ h => h) (Or.inl ⟨by rfl, ?_⟩) (by assumption) ?_
      case refine_2 => (intro _ _; go_simp; all_goals with_reducible rfl)
      simp only [Act.put, List.setIfInBounds_toArray, List.set_cons_zero, List.set_cons_succ]
      refine take_l (i := 19) rfl (by kernel_rfl) (by kernel_rfl) (by kernel_rfl) (fun _ _ _ h => h) (Or.inl ⟨by rfl, fun W hS => e16_load (CB3.o hS) rfl (.tmp 7) rfl rfl⟩) (by assumption) ?_
      simp only [Act.put, List.setIfInBounds_toArray, List.set_cons_zero, List.set_cons_succ]
      refine take_l (i := 21) rfl (by kernel_rfl) (by kernel_rfl) (by kernel_rfl) (fun _ _ _ h => h) (Or.inl ⟨by rfl, fun W hS => e16_load (CB3.b hS) rfl (.tmp 2) rfl rfl⟩) (by assumption) ?_
      simp only [Act.put, List.setIfInBounds_toArray, List.set_cons_zero, List.set_cons_succ]
      clear hHeld
      refine wpAnyH_ready (rs := [20]) (by kernel_rfl) (by simp) ?_
      refine cons_l rfl (fun K hK => ?_) AllReadyH.nil
      go_simp
      go_at_call 32
      refine (dec_call HS7.out.c ky_key ky_out_st ky_dec).mono ?_
      rintro e w8 ⟨rfl, hb8⟩
      have HS8 := Lib.hid (HS7.out.below hb8)
      have hn8 := nu_trans hn7 hb8
      clear hb8 HS7 hn7
      go_wp2_with fail
      refine hK.out _ _ HS8.out (fun hHeld => ?_)
      clear hK K hHeld
      simp only [Act.put, List.setIfInBounds_toArray, List.set_cons_zero, List.set_cons_succ]
      have hHeld := HS8.out
      refine take_l (i := 22) rfl (by kernel_rfl) (by kernel_rfl) (by kernel_rfl) (fun _ _ _ h => h) (Or.inl ⟨by rfl, fun W _ => e16_same st0 rfl (.tmp 52) (.tmp 53) rfl rfl rfl⟩) (by assumption) ?_
      simp only [Act.put, List.setIfInBounds_toArray, List.set_cons_zero, List.set_cons_succ]
      refine take_l (i := 23) (v := ?_) rfl (by kernel_rfl) (by kernel_rfl) (by kernel_rfl) (fun _ _ _ h => h) (Or.inl ⟨by rfl, ?_⟩) (by assumption) ?_
      case refine_2 => (intro _ _; go_simp; all_goals with_reducible rfl)
      simp only [Act.put, List.setIfInBounds_toArray, List.set_cons_zero, List.set_cons_succ]
      refine take_l (i := 24) (v := ?_) rfl (by kernel_rfl) (by kernel_rfl) (by kernel_rfl) (fun _ _ _ h => h) (Or.inl ⟨by rfl, ?_⟩) (by assumption) ?_
      case refine_2 => (intro _ _; go_simp; all_goals with_reducible rfl)
      simp only [Act.put, List.setIfInBounds_toArray, List.set_cons_zero, List.set_cons_succ]
      refine take_l (i := 25) (v := ?_) rfl (by kernel_rfl) (by kernel_rfl) (by kernel_rfl) (fun _ _ _ h => h) (Or.inl ⟨by rfl, ?_⟩) (by assumption) ?_
      case refine_2 => (intro _ _; go_simp; all_goals with_reducible rfl)
      simp only [Act.put, List.setIfInBounds_toArray, List.set_cons_zero, List.set_cons_succ]
      refine take_l (i := 26) rfl (by kernel_rfl) (by kernel_rfl) (by kernel_rfl) (fun _ _ _ h => h) (Or.inl ⟨by rfl, fun W hS => e16_load (CB3.b hS) rfl (.tmp 2) rfl rfl⟩) (by assumption) ?_
      simp only [Act.put, List.setIfInBounds_toArray, List.set_cons_zero, List.set_cons_succ]
      refine take_l (i := 28) rfl (by kernel_rfl) (by kernel_rfl) (by kernel_rfl) (fun _ _ _ h => h) (Or.inl ⟨by rfl, fun W _ => exec_z16 rfl⟩) (by assumption) ?_
      simp only [Act.put, List.setIfInBounds_toArray, List.set_cons_zero, List.set_cons_succ]
      clear hHeld
      refine wpAnyH_ready (rs := [27]) (by kernel_rfl) (by simp) ?_
      refine cons_l rfl (fun K hK => ?_) AllReadyH.nil
      go_simp
      go_at_call 29
      refine (encrypt_nil st0 w8).mono ?_
      rintro e w9 ⟨rfl, hb9⟩
      have HS9 := Lib.hid (HS8.out.below hb9)
      have hn9 := nu_trans hn8 hb9
      clear hb9 HS8 hn8
      go_wp2_with fail
      refine hK.out _ _ HS9.out (fun hHeld => ?_)
      clear hK K hHeld
      simp only [Act.put, List.setIfInBounds_toArray, List.set_cons_zero, List.set_cons_succ]
      have hHeld := HS9.out
      refine take_l (i := 29) rfl (by kernel_rfl) (by kernel_rfl) (by kernel_rfl) (fun _ _ _ h => h) (Or.inl ⟨by rfl, fun W _ => e16_same z16n rfl (.tmp 59) (.tmp 60) rfl rfl rfl⟩) (by assumption) ?_
      simp only [Act.put, List.setIfInBounds_toArray, List.set_cons_zero, List.set_cons_succ]
      refine take_l (i := 30) (v := ?_) rfl (by kernel_rfl) (by kernel_rfl) (by kernel_rfl) (fun _ _ _ h => h) (Or.inl ⟨by rfl, ?_⟩) (by assumption) ?_
      case refine_2 => (intro _ _; go_simp; all_goals with_reducible rfl)
      simp only [Act.put, List.setIfInBounds_toArray, List.set_cons_zero, List.set_cons_succ]
      refine take_l (i := 31) (v := ?_) rfl (by kernel_rfl) (by kernel_rfl) (by kernel_rfl) (fun _ _ _ h => h) (Or.inl ⟨by rfl, ?_⟩) (by assumption) ?_
      case refine_2 => (intro _ _; go_simp; all_goals with_reducible rfl)
      simp only [Act.put, List.setIfInBounds_toArray, List.set_cons_zero, List.set_cons_succ]
      refine take_l (i := 32) (v := ?_) rfl (by kernel_rfl) (by kernel_rfl) (by kernel_rfl) (fun _ _ _ h => h) (Or.inl ⟨by rfl, ?_⟩) (by assumption) ?_
      case refine_2 => (intro _ _; go_simp; all_goals with_reducible rfl)
      simp only [Act.put, List.setIfInBounds_toArray, List.set_cons_zero, List.set_cons_succ]
      refine take_l (i := 33) rfl (by kernel_rfl) (by kernel_rfl) (by kernel_rfl) (fun _ _ _ h => h) (Or.inl ⟨by rfl, fun W hS => e16_load (CB3.b hS) rfl (.tmp 2) rfl rfl⟩) (by assumption) ?_
      simp only [Act.put, List.setIfInBounds_toArray, List.set_cons_zero, List.set_cons_succ]
      refine take_l (i := 35) rfl (by kernel_rfl) (by kernel_rfl) (by kernel_rfl) (fun _ _ _ h => h) (Or.inl ⟨by rfl, fun W _ => exec_z16 rfl⟩) (by assumption) ?_
      simp only [Act.put, List.setIfInBounds_toArray, List.set_cons_zero, List.set_cons_succ]
      clear hHeld
      refine wpAnyH_ready (rs := [34]) (by kernel_rfl) (by simp) ?_
      refine cons_l rfl (fun K hK => ?_) AllReadyH.nil
      go_simp
      go_at_call 32
      refine (decrypt_nil st0 w9).mono ?_
      rintro e w10 ⟨rfl, hb10⟩
      have HS10 := Lib.hid (HS9.out.below hb10)
      have hn10 := nu_trans hn9 hb10
      clear hb10 HS9 hn9
      go_wp2_with fail
      refine hK.out _ _ HS10.out (fun hHeld => ?_)
      clear hK K hHeld
      simp only [Act.put, List.setIfInBounds_toArray, List.set_cons_zero, List.set_cons_succ]
      have hHeld := HS10.out
      refine take_l (i := 36) rfl (by kernel_rfl) (by kernel_rfl) (by kernel_rfl) (fun _ _ _ h => h) (Or.inl ⟨by rfl, fun W _ => e16_same z16n rfl (.tmp 66) (.tmp 67) rfl rfl rfl⟩) (by assumption) ?_
      simp only [Act.put, List.setIfInBounds_toArray, List.set_cons_zero, List.set_cons_succ]
      refine take_l (i := 37) (v := ?_) rfl (by kernel_rfl) (by kernel_rfl) (by kernel_rfl) (fun _ _ _ h => h) (Or.inl ⟨by rfl, ?_⟩) (by assumption) ?_
      case refine_2 => (intro _ _; go_simp; all_goals with_reducible rfl)
      simp only [Act.put, List.setIfInBounds_toArray, List.set_cons_zero, List.set_cons_succ]
      refine take_l (i := 38) (v := ?_) rfl (by kernel_rfl) (by kernel_rfl) (by kernel_rfl) (fun _ _ _ h => h) (Or.inl ⟨by rfl, ?_⟩) (by assumption) ?_
      case refine_2 => (intro _ _; go_simp; all_goals with_reducible rfl)
      simp only [Act.put, List.setIfInBounds_toArray, List.set_cons_zero, List.set_cons_succ]
      refine take_l (i := 39) (v := ?_) rfl (by kernel_rfl) (by kernel_rfl) (by kernel_rfl) (fun _ _ _ h => h) (Or.inl ⟨by rfl, ?_⟩) (by assumption) ?_
      case refine_2 => (intro _ _; go_simp; all_goals with_reducible rfl)
      simp only [Act.put, List.setIfInBounds_toArray, List.set_cons_zero, List.set_cons_succ]
      clear hHeld
      refine wpAnyH_ready (rs := [40]) (by kernel_rfl) (by simp) ?_
      refine cons_l rfl (fun K hK => ?_) AllReadyH.nil
      go_simp
      go_at_call 31
      refine (words_nil_b w10).mono ?_
      rintro e w11 ⟨rfl, hb11⟩
      have HS11 := Lib.hid (HS10.out.below hb11)
      have hn11 := nu_trans hn10 hb11
      clear hb11 HS10 hn10
      go_wp2_with fail
      refine hK.out _ _ HS11.out (fun hHeld => ?_)
      clear hK K hHeld
      simp only [Act.put, List.setIfInBounds_toArray, List.set_cons_zero, List.set_cons_succ]
      have hHeld := HS11.out
      refine take_l (i := 41) (v := ?_) rfl (by kernel_rfl) (by kernel_rfl) (by kernel_rfl) (fun _ _ _ h => h) (Or.inl ⟨by rfl, ?_⟩) (by assumption) ?_
      case refine_2 => (intro _ _; go_simp; all_goals with_reducible rfl)
      simp only [Act.put, List.setIfInBounds_toArray, List.set_cons_zero, List.set_cons_succ]
      refine take_l (i := 42) (v := ?_) rfl (by kernel_rfl) (by kernel_rfl) (by kernel_rfl) (fun _ _ _ h => h) (Or.inl ⟨by rfl, ?_⟩) (by assumption) ?_
      case refine_2 => (intro _ _; go_simp; all_goals with_reducible rfl)
      simp only [Act.put, List.setIfInBounds_toArray, List.set_cons_zero, List.set_cons_succ]
      refine take_l (i := 43) (v := ?_) rfl (by kernel_rfl) (by kernel_rfl) (by kernel_rfl) (fun _ _ _ h => h) (Or.inl ⟨by rfl, ?_⟩) (by assumption) ?_
      case refine_2 => (intro _ _; go_simp; all_goals with_reducible rfl)
      simp only [Act.put, List.setIfInBounds_toArray, List.set_cons_zero, List.set_cons_succ]
      refine take_l (i := 44) (v := ?_) rfl (by kernel_rfl) (by kernel_rfl) (by kernel_rfl) (fun _ _ _ h => h) (Or.inl ⟨by rfl, ?_⟩) (by assumption) ?_
      case refine_2 => (intro _ _; go_simp; all_goals with_reducible rfl)
      simp only [Act.put, List.setIfInBounds_toArray, List.set_cons_zero, List.set_cons_succ]
      refine wpAnyH_done (by kernel_rfl) ?_ _
      go_wp2_with fail
      go_ret
      exact ⟨rfl, hn11⟩
end Go.Proofs.Ytnojbjconiddoaa
