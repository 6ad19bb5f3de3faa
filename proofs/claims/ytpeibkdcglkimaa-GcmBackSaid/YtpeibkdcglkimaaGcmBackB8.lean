/-
  What the proof of GcmBack rests on, part 8 of 8.
-/
import Derived.Test.YtpeibkdcglkimaaGcmBackB7
namespace Go.Proofs.Ytpeibkdcglkimaa
open Go.ChangeShapes Go.WideShapes Go.ChangeAt Go.RowKit Fld Aes Gcm
set_option linter.unusedSimpArgs false

theorem exec_z12 {o : Oper} {a : Act} {w : World} (ho : o.op = .build 23 #[]) : (execOp a.eval o).run Try.prog w = .ok (.value (.agg (z12n.map vb).toArray)) w := by
  unfold execOp
  simp only [ho]
  kernel_rfl
theorem min2_15 (l : Nat) : ∃ n : Nat, n ≤ l ∧ n ≤ 15 ∧ ∀ (W : World) (ts : Array TypeId) (t : TypeId), (Builtin.min_ ts t #[.int .i64 (l : Int), .int .i64 15]).run Try.prog W = .ok (.int .i64 (n : Int)) W := by
  by_cases h1 : (15 : Int) < (l : Int)
  · exact ⟨15, by omega, by omega, fun W ts t => by simp [Builtin.min_, Builtin.min2, h1]⟩
  · exact ⟨l, by omega, by omega, fun W ts t => by simp [Builtin.min_, Builtin.min2, h1]⟩
theorem kzBox {w w' : World} {X : Nat} (h : GBox w' X (expand kz) (kz.length / 4 + 6) (polB (enc (expand kz) (kz.length / 4 + 6) z16n))) : GBox w' X kz_W 10 (polB kn_h) := by
  rw [kz_expand] at h
  rw [← kz_hash]
  exact h
set_option maxRecDepth 100000 in
set_option maxHeartbeats 2000000 in
theorem great_any (a t : Option Addr) (la ca lt ct : Nat) (w : World) (v : Bool) (hv : decide (1000 < la ∨ 1000 < lt) = v) :
    Calls Try.prog 12 #[.slice a la ca, .slice t lt ct] w fun e w' => e = .returned (.bool v) ∧ w = w' := by
  by_cases h1 : 1000 < la
  · have i1 : (1000 : Int) < (la : Int) := by omega
    have hve : v = true := by rw [← hv]; simp [h1]
    subst hve
    go_enter Try.func12, Try.ntmps12
    go_wp2_with fail
    go_ret
    exact ⟨rfl, rfl⟩
  · have i1 : ¬ (1000 : Int) < (la : Int) := by omega
    by_cases h2 : 1000 < lt
    · have i2 : (1000 : Int) < (lt : Int) := by omega
      have hve : v = true := by rw [← hv]; simp [h2]
      subst hve
      go_enter Try.func12, Try.ntmps12
      go_wp2_with fail
      go_ret
      exact ⟨rfl, rfl⟩
    · have i2 : ¬ (1000 : Int) < (lt : Int) := by omega
      have hve : v = false := by rw [← hv]; simp [h1, h2]
      subst hve
      go_enter Try.func12, Try.ntmps12
      go_wp2_with fail
      go_ret
      exact ⟨rfl, rfl⟩
set_option maxRecDepth 100000 in
set_option maxHeartbeats 4000000 in
theorem awake8 (w : World) : Calls Try.prog 11 #[] w fun e w' => e = .returned (.bool true) ∧ Below w.heap.size w w' := by
  have hmk : ∀ W : World, (Instr.makeSlice 22 (.int .i64 16) (.int .i64 16)).run Try.prog W = .ok (.slice (some ⟨W.heap.size, 0, none⟩) 16 16) (W.alloc (.cells (kz.map vb).toArray 5)) := fun W => mk_zeros 16 (by omega) W
  have hal := nu_alloc (nu_refl w) (.cells (kz.map vb).toArray 5)
  have HK := Lib.hid (show BytesIn (w.alloc (.cells (kz.map vb).toArray 5)) (some ⟨w.heap.size, 0, none⟩) 16 16 kz from blk_bytes (Blk.made w 5 (kz.map vb).toArray) rfl kz_lt)
  have HN := Lib.hid (gcmNew_any (.inl rfl) HK.out)
  have Hal := Lib.hid hal
  clear hal HK
  go_enter Try.func11, Try.ntmps11
  go_wp2_with fail
  refine HN.out.mono ?_
  rintro e w2 ⟨X, rfl, hG, hb2, _⟩
  have HG := Lib.hid (kzBox (w := w) hG)
  have hn2 := nu_trans Hal.out hb2
  clear hG hb2 HN Hal
  clear hmk
  have HS := Lib.hid (seal_any HG.out kz_keyed (polB_lt kn_h) z12n rfl z12n_lt none 0 0 [] (BytesIn.nil_ _) (by omega) ⟨by omega, by unfold maxLen; omega⟩ none 0 0 [] (BytesIn.nil_ _) (by omega))
  have hn3 := hn2
  clear hn2
  go_wp2_with (refine wpList_run _ (by rfl) (exec_z12 rfl) ?_)
  refine HS.out.mono ?_
  rintro e w5 ⟨v, rfl, hO, hb5⟩
  have hn5 := nu_trans hn3 hb5
  rw [kz_seal0] at hO
  obtain ⟨k, cap, cur, hv, hkB, hB, hlc, hcm, hcs, htk⟩ := hO.form (by decide)
  rw [show (z1_out).length = 16 from rfl] at hv hlc htk
  subst hv
  have HB5 := Lib.hid hB
  have HT5 := Lib.hid htk
  have c0 : w5.cell? ⟨k, 0, none⟩ = some (.int .u8 88) := HB5.out.at 0 _ (own_cell HT5.out rfl)
  have c15 : w5.cell? ⟨k, 15, none⟩ = some (.int .u8 90) := HB5.out.at 15 _ (own_cell HT5.out rfl)
  clear hO hB htk hkB hcs hb5 hn3 HS HG
  go_wp2_with fail
  go_ret
  exact ⟨rfl, hn5⟩
set_option maxRecDepth 100000 in
set_option maxHeartbeats 4000000 in
theorem gcmKnown_walk (w : World) : Calls Try.prog 4 #[] w fun e w' => e = .returned (.bool true) ∧ Below w.heap.size w w' := by
  have hmk : ∀ W : World, (Instr.makeSlice 22 (.int .i64 16) (.int .i64 16)).run Try.prog W = .ok (.slice (some ⟨W.heap.size, 0, none⟩) 16 16) (W.alloc (.cells (kz.map vb).toArray 5)) := fun W => mk_zeros 16 (by omega) W
  have hal := nu_alloc (nu_refl w) (.cells (kz.map vb).toArray 5)
  have HK := Lib.hid (show BytesIn (w.alloc (.cells (kz.map vb).toArray 5)) (some ⟨w.heap.size, 0, none⟩) 16 16 kz from blk_bytes (Blk.made w 5 (kz.map vb).toArray) rfl kz_lt)
  have HN := Lib.hid (gcmNew_any (.inl rfl) HK.out)
  have Hal := Lib.hid hal
  clear hal HK
  go_enter Try.func4, Try.ntmps4
  go_wp2_with fail
  refine HN.out.mono ?_
  rintro e w2 ⟨X, rfl, hG, hb2, _⟩
  have HG := Lib.hid (kzBox (w := w) hG)
  have hn2 := nu_trans Hal.out hb2
  clear hG hb2 HN Hal
  have hal := nu_alloc (nu_refl w2) (.cells (kz.map vb).toArray 5)
  have HS := Lib.hid (seal_any (HG.out.below hal) kz_keyed (polB_lt kn_h) z12n rfl z12n_lt none 0 0 [] (BytesIn.nil_ _) (by omega) ⟨by omega, by unfold maxLen; omega⟩ (some ⟨w2.heap.size, 0, none⟩) 16 16 kz (blk_bytes (Blk.made w2 5 (kz.map vb).toArray) rfl kz_lt) (by omega))
  have hn3 := nu_trans hn2 hal
  clear hal hn2
  go_wp2_with (refine wpList_run _ (by rfl) (exec_z12 rfl) ?_)
  refine HS.out.mono ?_
  rintro e w5 ⟨v, rfl, hO, hb5⟩
  have hn5 := nu_trans hn3 hb5
  rw [kz_seal16] at hO
  obtain ⟨k, cap, cur, hv, hkB, hB, hlc, hcm, hcs, htk⟩ := hO.form (by decide)
  rw [show (kn_c ++ kz_tag).length = 32 from rfl] at hv hlc htk
  subst hv
  have HB5 := Lib.hid hB
  have HT5 := Lib.hid htk
  have c0 : w5.cell? ⟨k, 0, none⟩ = some (.int .u8 3) := HB5.out.at 0 _ (own_cell HT5.out rfl)
  have c1 : w5.cell? ⟨k, 1, none⟩ = some (.int .u8 136) := HB5.out.at 1 _ (own_cell HT5.out rfl)
  have c16 : w5.cell? ⟨k, 16, none⟩ = some (.int .u8 171) := HB5.out.at 16 _ (own_cell HT5.out rfl)
  have c31 : w5.cell? ⟨k, 31, none⟩ = some (.int .u8 223) := HB5.out.at 31 _ (own_cell HT5.out rfl)
  clear hO hB htk hkB hcs hb5 hn3 HS HG
  go_wp2_with fail
  refine (awake8 w5).mono ?_
  rintro e w6 ⟨rfl, hb6⟩
  have hn6 := nu_trans hn5 hb6
  go_wp2_with fail
  go_ret
  exact ⟨rfl, hn6⟩
set_option maxRecDepth 100000 in
set_option maxHeartbeats 4000000 in
theorem gcmShort_walk (a : Option Addr) (len cap : Nat) (key : List Nat) (nonce : List Nat) (h12 : nonce.length = 12) (hx12 : ∀ x ∈ nonce, x < 256) (a1 a2 : Option Addr) (la ca lt ct : Nat) (w : World) (hx : BytesIn w a len cap key) (hlc : lt ≤ ct) (hcm : ct ≤ 9223372036854775807) :
    Calls Try.prog 8 #[.slice a len cap, .agg (nonce.map vb).toArray, .slice a1 la ca, .slice a2 lt ct] w fun e w' => e = .returned (.bool true) ∧ Below w.heap.size w w' := by
  have hal := nu_alloc (nu_refl w) (.cells (nonce.map vb).toArray 23)
  have HP := Lib.hid (Blk.made w 23 (nonce.map vb).toArray)
  have H12 := Lib.hid h12
  have HX := Lib.hid (hx.keep hal)
  have Hal := Lib.hid hal
  obtain ⟨m, hml, hm15, hmin⟩ := min2_15 lt
  clear h12 hx12 hx hal
  go_enter Try.func8, Try.ntmps8
  go_upto_region 1 with fail
  generalize w.alloc (.cells (nonce.map vb).toArray 23) = w1 at *
  obtain ⟨P, hP⟩ : ∃ P, P = w.heap.size := ⟨_, rfl⟩
  rw [← hP] at HP
  rw [← hP]
  clear hP
  go_wp2_with (refine wpList_run _ (by rfl) (e12_load HP.out H12.out (.tmp 5) rfl rfl) ?_)
  refine (open_nil _ a1 a2 la ca lt ct w1 (nonce.map vb).toArray rfl).mono ?_
  rintro e w2 ⟨rfl, hb2⟩
  have HP2 := Lib.hid (HP.out.below hb2 HP.out.lt)
  have HX2 := Lib.hid (HX.out.keep hb2)
  have Hn2 := Lib.hid (nu_trans Hal.out hb2)
  clear hb2 HP HX Hal
  go_wp2_with (refine wpList_run _ (by rfl) (e12_load HP2.out H12.out (.tmp 5) rfl rfl) ?_)
  refine (seal_nil _ a1 a2 la ca lt ct w2 (nonce.map vb).toArray rfl).mono ?_
  rintro e w2' ⟨rfl, hb2⟩
  have HP3 := Lib.hid (HP2.out.below hb2 HP2.out.lt)
  have HX3 := Lib.hid (HX2.out.keep hb2)
  have Hn3 := Lib.hid (nu_trans Hn2.out hb2)
  clear hb2 HP2 HX2 Hn2
  by_cases hL : len = 16 ∨ len = 32
  · have HNw := Lib.hid (gcmNew_any hL HX3.out)
    clear hL
    go_wp2_with fail
    refine HNw.out.mono ?_
    rintro e w3 ⟨X, rfl, _, hb3, _⟩
    have HP4 := Lib.hid (HP3.out.below hb3 HP3.out.lt)
    have Hn4 := Lib.hid (nu_trans Hn3.out hb3)
    clear hb3 HP3 HX3 Hn3 HNw
    have HP3 := HP4
    have Hn3 := Hn4
    clear HP4 Hn4
    have hmc : m ≤ ct := by omega
    have hml2 : m ≤ lt := hml
    go_upto_region 8 with fail
    refine wp_region_held_drew (S := fun W => Below w3.heap.size w3 W) (by kernel_rfl) (nu_drew (nu_refl w3)) (fun hHeld => ?_)
    dsimp only [Array.replicate, List.replicate, List.size_toArray, List.length_cons, List.length_nil, Nat.reduceAdd] at hHeld ⊢
    have HB0 := Lib.hid hHeld
    generalize w3.drew = u0 at *
    refine take_l (i := 0) (v := ?_) rfl (by kernel_rfl) (by kernel_rfl) (by kernel_rfl) (fun _ _ _ h => h) (Or.inl ⟨by rfl, ?_⟩) (by assumption) ?_
    case refine_2 => (intro _ _; go_simp; all_goals with_reducible rfl)
    simp only [Act.put, List.setIfInBounds_toArray, List.set_cons_zero, List.set_cons_succ]
    refine take_l (i := 1) rfl (by kernel_rfl) (by kernel_rfl) (by kernel_rfl) (fun _ _ _ h => h) (Or.inl ⟨by rfl, fun W hS => e12_load (Blk.below HP3.out hS HP3.out.lt) H12.out (.tmp 5) rfl rfl⟩) (by assumption) ?_
    simp only [Act.put, List.setIfInBounds_toArray, List.set_cons_zero, List.set_cons_succ]
    refine take_l (i := 2) (v := ?_) rfl (by kernel_rfl) (by kernel_rfl) (by kernel_rfl) (fun _ _ _ h => h) (Or.inl ⟨by rfl, ?_⟩) (by assumption) ?_
    case refine_2 => (intro _ _; go_simp; all_goals with_reducible rfl)
    simp only [Act.put, List.setIfInBounds_toArray, List.set_cons_zero, List.set_cons_succ]
    refine take_l (i := 3) (v := ?_) rfl (by kernel_rfl) (by kernel_rfl) (by kernel_rfl) (fun _ _ _ h => h) (Or.inl ⟨by rfl, ?_⟩) (by assumption) ?_
    case refine_2 => (intro _ _; go_simp; all_goals with_reducible rfl)
    simp only [Act.put, List.setIfInBounds_toArray, List.set_cons_zero, List.set_cons_succ]
    refine take_l (i := 4) (v := ?_) rfl (by kernel_rfl) (by kernel_rfl) (by kernel_rfl) (fun _ _ _ h => h) (Or.inl ⟨by rfl, ?_⟩) (by assumption) ?_
    case refine_2 => (intro _ _; go_simp; all_goals with_reducible rfl)
    simp only [Act.put, List.setIfInBounds_toArray, List.set_cons_zero, List.set_cons_succ]
    clear hHeld
    refine wpAnyH_ready (rs := [5]) (by kernel_rfl) (by simp) ?_
    refine cons_l rfl (fun K hK => ?_) AllReadyH.nil
    go_simp
    go_wp2_with fail
    refine hK.out _ _ HB0.out (fun hHeld => ?_)
    clear hK K
    simp only [Act.put, List.setIfInBounds_toArray, List.set_cons_zero, List.set_cons_succ]
    refine take_l (i := 6) (v := ?_) rfl (by kernel_rfl) (by kernel_rfl) (by kernel_rfl) (fun _ _ _ h => h) (Or.inl ⟨by rfl, ?_⟩) (by assumption) ?_
    case refine_2 => (intro _ _; go_simp; all_goals with_reducible rfl)
    simp only [Act.put, List.setIfInBounds_toArray, List.set_cons_zero, List.set_cons_succ]
    clear hHeld
    refine wpAnyH_ready (rs := [7]) (by kernel_rfl) (by simp) ?_
    refine cons_l rfl (fun K hK => ?_) AllReadyH.nil
    go_simp
    go_at_call 18
    refine (open_short X _ none a2 0 0 m ct u0 (nonce.map vb).toArray rfl (by omega)).mono ?_
    rintro e u1 ⟨rfl, hb⟩
    have HB1 := Lib.hid (nu_trans HB0.out hb)
    clear hb HB0
    go_wp2_with fail
    refine hK.out _ _ HB1.out (fun hHeld => ?_)
    clear hK K hHeld
    simp only [Act.put, List.setIfInBounds_toArray, List.set_cons_zero, List.set_cons_succ]
    have hHeld := HB1.out
    refine take_l (i := 8) (v := ?_) rfl (by kernel_rfl) (by kernel_rfl) (by kernel_rfl) (fun _ _ _ h => h) (Or.inl ⟨by rfl, ?_⟩) (by assumption) ?_
    case refine_2 => (intro _ _; go_simp; all_goals with_reducible rfl)
    simp only [Act.put, List.setIfInBounds_toArray, List.set_cons_zero, List.set_cons_succ]
    refine take_l (i := 9) (v := ?_) rfl (by kernel_rfl) (by kernel_rfl) (by kernel_rfl) (fun _ _ _ h => h) (Or.inl ⟨by rfl, ?_⟩) (by assumption) ?_
    case refine_2 => (intro _ _; go_simp; all_goals with_reducible rfl)
    simp only [Act.put, List.setIfInBounds_toArray, List.set_cons_zero, List.set_cons_succ]
    refine take_l (i := 10) (v := ?_) rfl (by kernel_rfl) (by kernel_rfl) (by kernel_rfl) (fun _ _ _ h => h) (Or.inl ⟨by rfl, ?_⟩) (by assumption) ?_
    case refine_2 => (intro _ _; go_simp; all_goals with_reducible rfl)
    simp only [Act.put, List.setIfInBounds_toArray, List.set_cons_zero, List.set_cons_succ]
    refine take_l (i := 11) (v := ?_) rfl (by kernel_rfl) (by kernel_rfl) (by kernel_rfl) (fun _ _ _ h => h) (Or.inl ⟨by rfl, ?_⟩) (by assumption) ?_
    case refine_2 => (intro _ _; go_simp; all_goals with_reducible rfl)
    simp only [Act.put, List.setIfInBounds_toArray, List.set_cons_zero, List.set_cons_succ]
    refine take_l (i := 12) (v := ?_) rfl (by kernel_rfl) (by kernel_rfl) (by kernel_rfl) (fun _ _ _ h => h) (Or.inl ⟨by rfl, ?_⟩) (by assumption) ?_
    case refine_2 => (intro _ _; go_simp; all_goals with_reducible rfl)
    simp only [Act.put, List.setIfInBounds_toArray, List.set_cons_zero, List.set_cons_succ]
    refine wpAnyH_done (by kernel_rfl) ?_ _
    clear hHeld
    have hn5 := nu_trans Hn3.out HB1.out
    go_wp2_with fail
    refine (awake8 u1).mono ?_
    rintro e u2 ⟨rfl, hb⟩
    have hn6 := nu_trans hn5 hb
    go_wp2_with fail
    go_ret
    exact ⟨rfl, hn6⟩
  · have HNw := Lib.hid (gcmNew_bad a len cap w2' (by omega) (by omega))
    clear hL
    go_wp2_with fail
    refine HNw.out.mono ?_
    rintro e w3 ⟨rfl, rfl⟩
    go_wp2_with fail
    refine (awake8 _).mono ?_
    rintro e w4 ⟨rfl, hb4⟩
    have hn4 := nu_trans Hn3.out hb4
    go_wp2_with fail
    go_ret
    exact ⟨rfl, hn4⟩
set_option maxRecDepth 100000 in
set_option maxHeartbeats 4000000 in
theorem gcmBack_walk (a : Option Addr) (len cap : Nat) (key : List Nat) (nonce : List Nat) (h12 : nonce.length = 12) (hx12 : ∀ x ∈ nonce, x < 256) (a1 a2 : Option Addr) (la ca lt ct : Nat) (xs ys : List Nat) (w : World) (hx : BytesIn w a len cap key) (h1 : BytesIn w a1 la ca xs) (h2 : BytesIn w a2 lt ct ys) (hac : la ≤ ca ∧ ca ≤ maxLen) :
    Calls Try.prog 6 #[.slice a len cap, .agg (nonce.map vb).toArray, .slice a1 la ca, .slice a2 lt ct] w fun e w' => e = .returned (.bool true) ∧ Below w.heap.size w w' := by
  have hal := nu_alloc (nu_refl w) (.cells (nonce.map vb).toArray 23)
  have HP := Lib.hid (Blk.made w 23 (nonce.map vb).toArray)
  have H12 := Lib.hid h12
  have Hx12 := Lib.hid hx12
  have HX := Lib.hid (hx.keep hal)
  have H1 := Lib.hid (h1.keep hal)
  have H2 := Lib.hid (h2.keep hal)
  have Hac := Lib.hid hac
  have Hal := Lib.hid hal
  have hkx : ∀ x ∈ key, x < 256 := fun x h => wf_u8_lt (hx.1.2.1 x h)
  have hkl : key.length = len := hx.1.1
  have H2x := Lib.hid (fun x h => wf_u8_lt (h2.1.2.1 x h))
  have H2l := Lib.hid (show ys.length = lt from h2.1.1)
  clear h12 hx12 hx h1 h2 hac hal
  by_cases hL : len = 16 ∨ len = 32
  · obtain ⟨Ws, hWs⟩ : ∃ Ws, Ws = expand key := ⟨_, rfl⟩
    obtain ⟨R, hR⟩ : ∃ R, R = key.length / 4 + 6 := ⟨_, rfl⟩
    have HK := Lib.hid (show Keyed Ws R by rw [hWs, hR]; exact keyed_of hkx (by rw [hkl]; exact hL))
    obtain ⟨h, hh⟩ : ∃ h, h = polB (enc Ws R z16n) := ⟨_, rfl⟩
    have Hh := Lib.hid (show h < 2 ^ 128 by rw [hh]; exact polB_lt _)
    have HW := Lib.hid (show ∀ (u : World) (X : Nat), GBox u X (expand key) (key.length / 4 + 6) (polB (enc (expand key) (key.length / 4 + 6) z16n)) → GBox u X Ws R h from fun u X hg => by rw [← hWs, ← hR, ← hh] at hg; exact hg)
    have HNw := Lib.hid (gcmNew_any hL HX.out)
    obtain ⟨v, hv⟩ : ∃ v, decide (1000 < la ∨ 1000 < lt) = v := ⟨_, rfl⟩
    clear hWs hR hh hkx hkl hL
    go_enter Try.func6, Try.ntmps6
    go_upto_region 1 with fail
    generalize w.alloc (.cells (nonce.map vb).toArray 23) = w1 at *
    obtain ⟨P, hP⟩ : ∃ P, P = w.heap.size := ⟨_, rfl⟩
    rw [← hP] at HP
    rw [← hP]
    clear hP
    go_wp2_with fail
    refine HNw.out.mono ?_
    rintro e w2 ⟨X, rfl, hG, hb2, _⟩
    have HG := Lib.hid (HW.out w2 X hG)
    have HP2 := Lib.hid (HP.out.below hb2 HP.out.lt)
    have H12' := Lib.hid (H1.out.keep hb2)
    have H22 := Lib.hid (H2.out.keep hb2)
    have Hn2 := Lib.hid (nu_trans Hal.out hb2)
    have Hv := Lib.hid hv
    clear hG hb2 HP HX H1 H2 Hal HNw hv
    go_wp2_with fail
    refine (great_any a1 a2 la ca lt ct w2 v Hv.out).mono ?_
    rintro e w' ⟨rfl, rfl⟩
    cases v
    · have hgr := Hv.out
      rw [decide_eq_false_iff_not] at hgr
      have hla : la ≤ 1000 := by omega
      have hlt : lt ≤ 1000 := by omega
      have HS := Lib.hid (seal_any HG.out HK.out Hh.out nonce H12.out Hx12.out a1 la ca xs H12'.out (by omega) Hac.out a2 lt ct ys H22.out (by omega))
      clear hgr
      go_wp2_with (refine wpList_run _ (by rfl) (e12_load HP2.out H12.out (.tmp 5) rfl rfl) ?_)
      refine HS.out.mono ?_
      rintro e w3 ⟨vs, rfl, hO, hb3⟩
      obtain ⟨sa, sc, hvs, hs1, hs2, hsB⟩ := hO.reads
      have hsl : (sealL Ws R nonce h xs ys).length = lt + 16 := by rw [sealL_len, H2l.out]
      rw [hsl] at hvs hs1 hsB
      subst hvs
      have HO := Lib.hid (open_good (HG.out.below hb3) HK.out Hh.out nonce H12.out Hx12.out a1 la ca xs (H12'.out.keep hb3) (by omega) Hac.out sa (lt + 16) sc lt (sealL Ws R nonce h xs ys) hsB rfl (by omega) ⟨hs1, hs2⟩ (by
        unfold sealL
        rw [List.take_left' (by rw [turned_len, H2l.out]), List.drop_left' (by rw [turned_len, H2l.out])]))
      have HT := Lib.hid (show turned Ws R nonce ((sealL Ws R nonce h xs ys).take lt) = ys by
        unfold sealL
        rw [List.take_left' (by rw [turned_len, H2l.out]), turned_turned])
      have HP3 := Lib.hid (HP2.out.below hb3 HP2.out.lt)
      have H23 := Lib.hid (H22.out.keep hb3)
      have Hn3 := Lib.hid (nu_trans Hn2.out hb3)
      clear hO hb3 hs1 hs2 hsB hsl HS HP2 H12' H22 Hn2 HG
      go_wp2_with (refine wpList_run _ (by rfl) (e12_load HP3.out H12.out (.tmp 5) rfl rfl) ?_)
      refine HO.out.mono ?_
      rintro e w4 ⟨vp, rfl, hO4, hb4⟩
      rw [HT.out] at hO4
      obtain ⟨pa, pc, hvp, hp1, hp2, hpB⟩ := hO4.reads
      rw [H2l.out] at hvp hpB
      subst hvp
      have HSm := Lib.hid (same_is (w := w4) (ca := pc) (cb := ct) true (by simp) hpB.1 ((H23.out.keep hb4).1) (by omega) (by omega))
      have Hn4 := Lib.hid (nu_trans Hn3.out hb4)
      clear hO4 hb4 hp1 hp2 hpB HO HP3 H23 Hn3
      go_wp2_with fail
      refine HSm.out.mono ?_
      rintro e w5 ⟨rfl, nn, rfl⟩
      have hn5 := nu_drewN Hn4.out nn
      generalize w4.drewN nn = w5 at *
      clear HSm Hn4
      go_wp2_with fail
      refine (awake8 w5).mono ?_
      rintro e w6 ⟨rfl, hb6⟩
      have hn6 := nu_trans hn5 hb6
      go_wp2_with fail
      go_ret
      exact ⟨rfl, hn6⟩
    · go_wp2_with fail
      refine (awake8 _).mono ?_
      rintro e w4 ⟨rfl, hb4⟩
      have hn4 := nu_trans Hn2.out hb4
      go_wp2_with fail
      go_ret
      exact ⟨rfl, hn4⟩
  · have HNw := Lib.hid (gcmNew_bad a len cap (w.alloc (.cells (nonce.map vb).toArray 23)) (by omega) (by omega))
    clear hL hkl hkx
    go_enter Try.func6, Try.ntmps6
    go_wp2_with fail
    refine HNw.out.mono ?_
    rintro e w3 ⟨rfl, rfl⟩
    go_wp2_with fail
    refine (awake8 _).mono ?_
    rintro e w4 ⟨rfl, hb4⟩
    have hn4 := nu_trans Hal.out hb4
    go_wp2_with fail
    go_ret
    exact ⟨rfl, hn4⟩
end Go.Proofs.Ytpeibkdcglkimaa
