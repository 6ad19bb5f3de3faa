/-
  The walk of ShaGoesOn.
-/
import Derived.Test.YtlekepigndlbhaaDoorSha8
import Derived.Test.YtlekepigndlbhaaDoorEq32
namespace Go.Proofs.YtlekepigndlbhaaDoor
open Go.ChangeShapes Go.WideShapes Go.ChangeAt Go.RowKit

theorem sum_is {w : World} {base g : Nat} {xs D : List Nat} {rv : Value} {m : Nat} (hD : digest xs = D) (h : SumIs w base g xs m rv) (hT : TabIn w) (hl : m = xs.length ∧ xs.length < 1152921504606846976) : Calls Tryd.prog 21 #[.pointer (some ⟨g, 0, none⟩)] w fun e w' => e = .returned (.agg (D.map vb).toArray) ∧ Below w.heap.size w w' := by
  rw [← hD]
  exact sum_any h hT hl.1 hl.2
theorem of_is {w : World} {a : Option Addr} {len cap : Nat} {ps : List (List Nat)} {D : List Nat} (hD : digest ps.flatten = D) (h : PartsIn w a len ps) (hT : TabIn w) (hl : len ≤ maxLen ∧ ps.flatten.length < 1152921504606846976) : Calls Tryd.prog 15 #[.slice a len cap] w fun e w' => e = .returned (.agg (D.map vb).toArray) ∧ Below w.heap.size w w' := by
  rw [← hD]
  exact shaOf_any h hT hl.1 hl.2
theorem len_is {w : World} {g la lb : Nat} {v : V8} {rv : Value} (h : SumAt w g v rv (la + lb)) (hm : la + lb < 9223372036854775808) : Calls Tryd.prog 23 #[.pointer (some ⟨g, 0, none⟩)] w fun e w' => e = .returned (.int .i64 ((la : Int) + (lb : Int))) ∧ Below w.heap.size w w' := by
  refine (len_any h hm).mono ?_
  rintro e w' ⟨he, rfl⟩
  exact ⟨by rw [he]; congr 2, nu_refl _⟩
theorem own_turned {w w' : World} {base g : Nat} {ob : Option Nat} {e : TypeId} {v : Value} {l : List Nat} (ho : OwnB w base e v l) (ht : Turned g ob w w') (h1 : v.ownBlock ≠ some g) (h2 : ∀ j, v.ownBlock = some j → ob ≠ some j) : OwnB w' base e v l := by
  refine ⟨⟨ho.1.1, ?_⟩, ho.2⟩
  rcases ho.1.2 with h | ⟨k, cap, cur, rfl, hbk, hh, r⟩
  · exact .inl h
  · exact .inr ⟨k, cap, cur, rfl, hbk, (ht.block k (Blk.lt (t := e) (cs := cur) hh) (fun e => h1 (by rw [e]; rfl)) (h2 k rfl)).trans hh, r⟩
theorem PartsIn.two {w : World} {a b : Option Addr} {la ca lb cb : Nat} {xs ys : List Nat} (h : BytesIn w a la ca xs) (k : BytesIn w b lb cb ys) (h1 : la ≤ ca) (h2 : ca ≤ maxLen) (h3 : lb ≤ cb) (h4 : cb ≤ maxLen) :
    PartsIn (w.alloc (.cells #[.slice a la ca, .slice b lb cb] 22)) (some ⟨w.heap.size, 0, none⟩) 2 [xs, ys] := by
  refine ⟨rfl, fun _ => ⟨w.heap.size, 0, rfl, by simp, fun i p hi => ?_⟩⟩
  have hi2 : i < 2 := (List.getElem?_eq_some_iff.1 hi).1
  have hB := Blk.made w 22 #[.slice a la ca, .slice b lb cb]
  rcases (show i = 0 ∨ i = 1 by omega) with rfl | rfl
  · simp at hi
    subst hi
    exact ⟨a, la, ca, hB.at 0 _ rfl, h1, h2, h.keep (nu_alloc (nu_refl w) _)⟩
  · simp at hi
    subst hi
    exact ⟨b, lb, cb, hB.at 1 _ rfl, h3, h4, k.keep (nu_alloc (nu_refl w) _)⟩

set_option maxRecDepth 100000 in
set_option maxHeartbeats 4000000 in
theorem shaGoesOn_walk (a b : Option Addr) (la lb ca cb : Nat) (xs ys : List Nat) (w : World) (ha : BytesIn w a la ca xs) (hb : BytesIn w b lb cb ys) (hlc : la ≤ ca) (hcm : ca ≤ maxLen) (hlc2 : lb ≤ cb) (hcm2 : cb ≤ maxLen) (hT : TabIn w) :
    Calls Tryd.prog 6 #[.slice a la ca, .slice b lb cb] w fun e w' => e = .returned (.bool true) ∧ Below w.heap.size w w' := by
  have Ha0 := Lib.hid ha
  have Hb0 := Lib.hid hb
  have HT0 := Lib.hid hT
  have Hca := Lib.hid (And.intro hlc (And.intro hcm (And.intro hlc2 hcm2)))
  clear ha hb hT hlc hcm hlc2 hcm2
  go_enter Tryd.func6, Tryd.ntmps6
  by_cases hg1 : 20000 < la
  · have hi : (20000 : Int) < (la : Int) := by omega
    go_wp2_with fail
    refine (shaAwake_any HT0.out).mono ?_
    rintro e w1 ⟨rfl, hb1⟩
    go_wp2_with fail
    go_ret
    exact ⟨rfl, hb1⟩
  by_cases hg2 : 20000 < lb
  · have hi1 : ¬ (20000 : Int) < (la : Int) := by omega
    have hi : (20000 : Int) < (lb : Int) := by omega
    go_wp2_with fail
    refine (shaAwake_any HT0.out).mono ?_
    rintro e w1 ⟨rfl, hb1⟩
    go_wp2_with fail
    go_ret
    exact ⟨rfl, hb1⟩
  · have hi1 : ¬ (20000 : Int) < (la : Int) := by omega
    have hi2 : ¬ (20000 : Int) < (lb : Int) := by omega
    have hxl : xs.length = la := Ha0.out.1.1
    have hyl : ys.length = lb := Hb0.out.1.1
    go_wp2_with fail
    refine (new_any w).mono ?_
    rintro e w1 ⟨rfl, hS1, hb1⟩
    have HS1 := Lib.hid hS1
    clear hS1
    go_wp2_with fail
    refine (new_any w1).mono ?_
    rintro e w2 ⟨rfl, hS2, hb2⟩
    have Hst := Lib.hid (show w.heap.size < w1.heap.size ∧ w1.heap.size < w2.heap.size from ⟨Blk.lt HS1.out.1, Blk.lt hS2.1⟩)
    have hn2 := nu_trans hb1 hb2
    have HW := Lib.hid (write_any (HS1.out.below hb2) (HT0.out.below hn2 HT0.out.size) (by omega) (by have := Hst.out; omega) (by have := HT0.out.size; omega) a la ca xs (Ha0.out.keep hn2) Hca.out.1 Hca.out.2.1 (by omega) (fun hp ad had => ⟨by have := bytes_block Ha0.out hp ad had; omega, fun e => by cases e⟩))
    have HS2 := Lib.hid hS2
    have Hn2 := Lib.hid hn2
    clear hS2 hb1 hb2 hn2 HS1
    go_wp2_with fail
    generalize hse : w.heap.size = s at *
    generalize hte : w1.heap.size = t at *
    refine HW.out.mono ?_
    rintro e w3 ⟨rfl, rs, hS3, ht3, hn3⟩
    rw [List.nil_append, Nat.zero_add] at hS3
    have hst : s ≠ t := by have := Hst.out; omega
    have hst2 : s < t := Hst.out.1
    have hN3 : Below s w w3 := Hn2.out.trans (ht3.below (by have := Hst.out; omega) (Nat.le_refl _) (fun j hj => by cases hj))
    have hT3 : SumIs w3 (t + 1) t [] 0 (.slice none 0 0) := ⟨ht3.blk HS2.out.1 (Ne.symm hst) (fun e => by cases e), ⟨⟨rfl, .inl ⟨rfl, rfl⟩⟩, by simp [lst]⟩⟩
    have HT3 := Lib.hid hT3
    have HS3 := Lib.hid hS3
    have HN3 := Lib.hid hN3
    have Hr3 := Lib.hid hn3
    have HTb3 := Lib.hid (HT0.out.below hN3 (by rw [← hse]; exact HT0.out.size))
    have Hs2 := Lib.hid (show s < w3.heap.size ∧ t < w3.heap.size from ⟨Blk.lt hS3.1, Blk.lt hT3.1⟩)
    obtain ⟨D1, hD1⟩ : ∃ D, digest xs = D := ⟨_, rfl⟩
    obtain ⟨D2, hD2⟩ : ∃ D, digest (xs ++ ys) = D := ⟨_, rfl⟩
    have HL1 := Lib.hid (show D1.length = 32 by rw [← hD1]; rfl)
    have HL2 := Lib.hid (show D2.length = 32 by rw [← hD2]; rfl)
    have HD1 := Lib.hid hD1
    have HD2 := Lib.hid hD2
    have HD1a := Lib.hid (show digest [xs].flatten = D1 by rw [← hD1]; congr 1; simp)
    have HD2b := Lib.hid (show digest [xs, ys].flatten = D2 by rw [← hD2]; congr 1; simp)
    have Hlen := Lib.hid (show la + lb = (xs ++ ys).length ∧ (xs ++ ys).length < 1152921504606846976 by rw [List.length_append, hxl, hyl]; omega)
    have Hlen1 := Lib.hid (show 1 ≤ maxLen ∧ [xs].flatten.length < 1152921504606846976 from ⟨by unfold maxLen; omega, by simp; omega⟩)
    have Hlen2 := Lib.hid (show 2 ≤ maxLen ∧ [xs, ys].flatten.length < 1152921504606846976 from ⟨by unfold maxLen; omega, by simp; omega⟩)
    have Hlm := Lib.hid (show la + lb < 9223372036854775808 by omega)
    have HWs := Lib.hid (sum_is hD1 hS3 HTb3.out ⟨hxl.symm, by omega⟩)
    clear HW ht3 hn3 hS3 hT3 hN3 hD1 hD2
    go_wp2_with fail
    refine HWs.out.mono ?_
    rintro e w4 ⟨rfl, hb4⟩
    have HZ := Lib.hid (Blk.made w4 25 z32)
    have Hl := Lib.hid (show (D1.map vb).length = z32.size by rw [List.length_map, HL1.out]; rfl)
    have Hl2 := Lib.hid (show (Tryd.prog.info? 25).map (·.size) = some (D1.map vb).length by rw [List.length_map, HL1.out]; kernel_rfl)
    have HF5 := Lib.hid (Blk.fill HZ.out (D1.map vb) Hl.out)
    have hf := nu_trans hb4 (nu_fill (D1.map vb) (g := w4.heap.size) (Nat.le_refl _) 0 _ (nu_alloc (nu_refl w4) (.cells z32 25)))
    have HFn := Lib.hid (show s < w4.heap.size ∧ t < w4.heap.size from ⟨Nat.lt_of_lt_of_le Hs2.out.1 hb4.size, Nat.lt_of_lt_of_le Hs2.out.2 hb4.size⟩)
    clear HWs hb4
    go_upto_region 6 with (refine wpList_store_blk rfl 25 (.tmp 7) (.tmp 23) rfl w4.heap.size (D1.map vb) rfl rfl 25 z32 HZ.out Hl.out Hl2.out (vb_one _) ?_)
    generalize (w4.alloc (.cells z32 25)).setCells w4.heap.size 0 (D1.map vb) = w5 at *
    generalize w4.heap.size = F at *
    have hN5 : Below s w w5 := HN3.out.trans (hf.mono (by have := Hs2.out; omega))
    have hS5 := HS3.out.below hf
    have hT5 := HT3.out.below hf
    have hTb5 := HTb3.out.below hf HTb3.out.size
    have hal := fun (hp : 0 < lb) ad (had : b = some ad) => bytes_block Hb0.out hp ad had
    have HW6 := Lib.hid (write_any hS5 hTb5 (by omega) (by have := Blk.lt hS5.1; omega) (by have := HT0.out.size; omega) b lb cb ys ((Hb0.out.keep (by rw [hse]; exact hN5))) Hca.out.2.2.1 Hca.out.2.2.2 Hlm.out (fun hp ad had => by
      have h1 := hal hp ad had
      exact ⟨by omega, fun e => by have h2 := (own_low hS5.2 _ e).1; omega⟩))
    have HS5 := Lib.hid hS5
    have HT5 := Lib.hid hT5
    have HTb5 := Lib.hid hTb5
    have HN5 := Lib.hid hN5
    have HF5' := Lib.hid (show Blk w5 F 25 (D1.map vb).toArray from HF5.out)
    clear hS5 hT5 hTb5 hN5 hf HF5 HZ Hl Hl2 HS3 HT3 HTb3 HN3 hal
    go_wp2_with fail
    refine HW6.out.mono ?_
    rintro e w6 ⟨rfl, rs6, hS6, ht6, _⟩
    have hrt : rs.ownBlock ≠ some t := own_apart HS5.out.2 HT5.out.1
    have hT6 : SumIs w6 (t + 1) t [] 0 (.slice none 0 0) := ⟨ht6.blk HT5.out.1 (Ne.symm hst) hrt, ⟨⟨rfl, .inl ⟨rfl, rfl⟩⟩, by simp [lst]⟩⟩
    have hF6 : Blk w6 F 25 (D1.map vb).toArray := ht6.blk HF5'.out (by have := HFn.out; omega) (Ne.symm (own_ne HS5.out.2.1 HF5'.out (by decide)))
    have hN6 : Below s w w6 := HN5.out.trans (ht6.below (by have := HN5.out.size; rw [hse] at this; omega) (Nat.le_refl _) (fun j hj => by have := (own_low HS5.out.2 j hj).1; omega))
    have hTb6 := HT0.out.below hN6 (by rw [← hse]; exact HT0.out.size)
    have hts : t < w6.heap.size := Blk.lt hT6.1
    have hal := fun (hp : 0 < la) ad (had : a = some ad) => bytes_block Ha0.out hp ad had
    have HW7 := Lib.hid (write_any hT6 hTb6 (by omega) (by omega) (by omega) a la ca xs ((Ha0.out.keep (by rw [hse]; exact hN6))) Hca.out.1 Hca.out.2.1 (by omega) (fun hp ad had => by
      have h1 := hal hp ad had
      exact ⟨by omega, fun e => by cases e⟩))
    have HS6 := Lib.hid hS6
    have HT6 := Lib.hid hT6
    have HF6 := Lib.hid hF6
    have HN6 := Lib.hid hN6
    clear hS6 hT6 hF6 hN6 hTb6 ht6 hrt HW6 HS5 HT5 HTb5 HN5 HF5' hal
    go_wp2_with fail
    refine HW7.out.mono ?_
    rintro e w7 ⟨rfl, rt, hT7, ht7, hn7⟩
    rw [List.nil_append, Nat.zero_add] at hT7
    have hS7 : SumIs w7 (s + 1) s (xs ++ ys) (la + lb) rs6 := ⟨ht7.blk HS6.out.1 hst (fun e => by cases e), own_turned HS6.out.2 ht7 (own_apart HS6.out.2 HT6.out.1) (fun j _ e => by cases e)⟩
    have hF7 : Blk w7 F 25 (D1.map vb).toArray := ht7.blk HF6.out (by have := HFn.out; omega) (fun e => by cases e)
    have hN7 : Below s w w7 := HN6.out.trans (ht7.below (by have := HN6.out.size; rw [hse] at this; omega) (by omega) (fun j hj => by cases hj))
    have hTb7 := HT0.out.below hN7 (by rw [← hse]; exact HT0.out.size)
    have hal := fun (hp : 0 < lb) ad (had : b = some ad) => bytes_block Hb0.out hp ad had
    have HW8 := Lib.hid (write_any hT7 hTb7 (by omega) (by have := Blk.lt hT7.1; omega) (by omega) b lb cb ys ((Hb0.out.keep (by rw [hse]; exact hN7))) Hca.out.2.2.1 Hca.out.2.2.2 Hlm.out (fun hp ad had => by
      have h1 := hal hp ad had
      exact ⟨by omega, fun e => by have h2 := (own_low hT7.2 _ e).1; omega⟩))
    have Hn7 := Lib.hid (show ∀ j, rt.ownBlock = some j → w6.heap.size ≤ j from fun j hj => (hn7 j hj).elim (fun e => by cases e) id)
    have Hs6 := Lib.hid (fun j hj => (own_low HS6.out.2 j hj).2)
    have HS7 := Lib.hid hS7
    have HT7 := Lib.hid hT7
    have HF7 := Lib.hid hF7
    have HN7 := Lib.hid hN7
    clear hS7 hT7 hF7 hN7 hTb7 ht7 hn7 HW7 HS6 HF6 HN6 HT6 hal
    go_wp2_with fail
    refine HW8.out.mono ?_
    rintro e wz ⟨rfl, rt8, hT8, ht8, _⟩
    have hS8 : SumIs wz (s + 1) s (xs ++ ys) (la + lb) rs6 := ⟨ht8.blk HS7.out.1 hst (own_apart HT7.out.2 HS7.out.1), own_turned HS7.out.2 ht8 (own_apart HS7.out.2 HT7.out.1) (fun j hj e => by have h1 := Hn7.out j e; have h2 := Hs6.out j hj; omega)⟩
    have hF8 : Blk wz F 25 (D1.map vb).toArray := ht8.blk HF7.out (by have := HFn.out; omega) (Ne.symm (own_ne HT7.out.2.1 HF7.out (by decide)))
    have hnz : Below s w wz := HN7.out.trans (ht8.below (by have := HN7.out.size; rw [hse] at this; omega) (by omega) (fun j hj => by have := (own_low HT7.out.2 j hj).1; omega))
    rw [← hse] at hnz
    have HSs := Lib.hid (fun (W : World) (hS : Below wz.heap.size wz W) => hS8.below hS)
    have HSt := Lib.hid (fun (W : World) (hS : Below wz.heap.size wz W) => hT8.below hS)
    have HT := Lib.hid (fun (W : World) (hS : Below wz.heap.size wz W) => HT0.out.below (nu_trans hnz hS) HT0.out.size)
    have Ha := Lib.hid (fun (W : World) (hS : Below wz.heap.size wz W) => Ha0.out.keep (nu_trans hnz hS))
    have Hb := Lib.hid (fun (W : World) (hS : Below wz.heap.size wz W) => Hb0.out.keep (nu_trans hnz hS))
    have HF := Lib.hid (fun (W : World) (hS : Below wz.heap.size wz W) => Blk.below hF8 hS (Blk.lt hF8))
    have wab : IntKind.i64.wrap ((la : Int) + (lb : Int)) = (la : Int) + (lb : Int) := by rw [IntKind.wrap_i64]; omega
    clear hS8 hT8 hF8 ht8 HW8 HS7 HT7 HF7 HN7 Hn7 Hs6 HFn Hs2 Hst HS2 Hn2 Hr3
    go_wp2_with fail
    refine wp_region_held_drew (S := fun w' => Below wz.heap.size wz w') (by kernel_rfl) (nu_drew (nu_refl _)) (fun hHeld => ?_)
    dsimp only [Array.replicate, List.replicate, List.size_toArray, List.length_cons, List.length_nil, Nat.reduceAdd] at hHeld ⊢
    refine take_l (i := 0) (v := ?_) rfl (by kernel_rfl) (by kernel_rfl) (by kernel_rfl) (fun _ _ _ h => h) (Or.inl ⟨by rfl, ?_⟩) (by assumption) ?_
    case refine_2 => (intro _ _; go_simp; all_goals with_reducible rfl)
    simp only [Act.put, List.setIfInBounds_toArray, List.set_cons_zero, List.set_cons_succ]
    refine take_l (i := 2) (v := ?_) rfl (by kernel_rfl) (by kernel_rfl) (by kernel_rfl) (fun _ _ _ h => h) (Or.inl ⟨by rfl, ?_⟩) (by assumption) ?_
    case refine_2 => (intro _ _; go_simp; all_goals with_reducible rfl)
    simp only [Act.put, List.setIfInBounds_toArray, List.set_cons_zero, List.set_cons_succ]
    refine wpAnyH_ready (rs := [1]) (by kernel_rfl) (by simp) ?_
    refine cons_l rfl (fun K hK => ?_) AllReadyH.nil
    go_simp
    go_at_call 21
    refine (sum_is HD2.out (HSs.out _ hHeld) (HT.out _ hHeld) Hlen.out).mono ?_
    rintro e v1 ⟨rfl, hv1⟩
    go_wp2_with fail
    refine hK.out _ _ (nu_trans (by assumption) hv1) (fun hHeld => ?_)
    clear hK K hv1
    simp only [Act.put, List.setIfInBounds_toArray, List.set_cons_zero, List.set_cons_succ]
    refine wpAnyH_ready (rs := [3]) (by kernel_rfl) (by simp) ?_
    refine cons_l rfl (fun K hK => ?_) AllReadyH.nil
    go_simp
    go_at_call 21
    refine (sum_is HD2.out (HSt.out _ hHeld) (HT.out _ hHeld) Hlen.out).mono ?_
    rintro e v2 ⟨rfl, hv2⟩
    go_wp2_with fail
    refine hK.out _ _ (nu_trans (by assumption) hv2) (fun hHeld => ?_)
    clear hK K hv2
    simp only [Act.put, List.setIfInBounds_toArray, List.set_cons_zero, List.set_cons_succ]
    refine take_l (i := 4) rfl (by kernel_rfl) (by kernel_rfl) (by kernel_rfl) (fun _ _ _ h => h) (Or.inl ⟨by rfl, fun W _ => exec_same_32 D2 HL2.out (.tmp 34) (.tmp 36) rfl rfl rfl⟩) (by assumption) ?_
    simp only [Act.put, List.setIfInBounds_toArray, List.set_cons_zero, List.set_cons_succ]
    refine take_l (i := 5) (v := ?_) rfl (by kernel_rfl) (by kernel_rfl) (by kernel_rfl) (fun _ _ _ h => h) (Or.inl ⟨by rfl, ?_⟩) (by assumption) ?_
    case refine_2 => (intro _ _; go_simp; all_goals with_reducible rfl)
    simp only [Act.put, List.setIfInBounds_toArray, List.set_cons_zero, List.set_cons_succ]
    refine take_l (i := 6) rfl (by kernel_rfl) (by kernel_rfl) (by kernel_rfl) (fun _ _ _ h => h) (Or.inl ⟨by rfl, fun W hS => exec_load_32 D1 HL1.out (.tmp 7) F 0 rfl rfl (by have h := range_blk (HF.out W hS); simpa using h)⟩) (by assumption) ?_
    simp only [Act.put, List.setIfInBounds_toArray, List.set_cons_zero, List.set_cons_succ]
    refine take_l (i := 7) (v := ?_) rfl (by kernel_rfl) (by kernel_rfl) (by kernel_rfl) (fun _ _ _ h => h) (Or.inl ⟨by rfl, ?_⟩) (by assumption) ?_
    case refine_2 => (intro _ _; go_simp; all_goals with_reducible rfl)
    simp only [Act.put, List.setIfInBounds_toArray, List.set_cons_zero, List.set_cons_succ]
    refine wpAnyH_ready (rs := [8]) (by kernel_rfl) (by simp) ?_
    refine cons_l rfl (fun K hK => ?_) AllReadyH.nil
    go_simp
    go_wp2_with fail
    have hA3 := hHeld
    have hv3 := nu_trans hHeld (nu_alloc (nu_refl _) (.cells #[.slice a la ca] 22))
    refine hK.out _ _ hv3 (fun hHeld => ?_)
    clear hK K
    simp only [Act.put, List.setIfInBounds_toArray, List.set_cons_zero, List.set_cons_succ]
    refine wpAnyH_ready (rs := [9]) (by kernel_rfl) (by simp) ?_
    refine cons_l rfl (fun K hK => ?_) AllReadyH.nil
    go_simp
    go_at_call 15
    refine (of_is (cap := 1) HD1a.out (PartsIn.one (Ha.out _ hA3) Hca.out.1 Hca.out.2.1) (HT.out _ hHeld) Hlen1.out).mono ?_
    rintro e v4 ⟨rfl, hv4⟩
    go_wp2_with fail
    refine hK.out _ _ (nu_trans (by assumption) hv4) (fun hHeld => ?_)
    clear hK K hv4
    simp only [Act.put, List.setIfInBounds_toArray, List.set_cons_zero, List.set_cons_succ]
    refine take_l (i := 10) rfl (by kernel_rfl) (by kernel_rfl) (by kernel_rfl) (fun _ _ _ h => h) (Or.inl ⟨by rfl, fun W _ => exec_same_32 D1 HL1.out (.tmp 39) (.tmp 42) rfl rfl rfl⟩) (by assumption) ?_
    simp only [Act.put, List.setIfInBounds_toArray, List.set_cons_zero, List.set_cons_succ]
    refine take_l (i := 11) (v := ?_) rfl (by kernel_rfl) (by kernel_rfl) (by kernel_rfl) (fun _ _ _ h => h) (Or.inl ⟨by rfl, ?_⟩) (by assumption) ?_
    case refine_2 => (intro _ _; go_simp; all_goals with_reducible rfl)
    simp only [Act.put, List.setIfInBounds_toArray, List.set_cons_zero, List.set_cons_succ]
    refine take_l (i := 12) (v := ?_) rfl (by kernel_rfl) (by kernel_rfl) (by kernel_rfl) (fun _ _ _ h => h) (Or.inl ⟨by rfl, ?_⟩) (by assumption) ?_
    case refine_2 => (intro _ _; go_simp; all_goals with_reducible rfl)
    simp only [Act.put, List.setIfInBounds_toArray, List.set_cons_zero, List.set_cons_succ]
    refine take_l (i := 13) (v := ?_) rfl (by kernel_rfl) (by kernel_rfl) (by kernel_rfl) (fun _ _ _ h => h) (Or.inl ⟨by rfl, ?_⟩) (by assumption) ?_
    case refine_2 => (intro _ _; go_simp; all_goals with_reducible rfl)
    simp only [Act.put, List.setIfInBounds_toArray, List.set_cons_zero, List.set_cons_succ]
    refine take_l (i := 15) (v := ?_) rfl (by kernel_rfl) (by kernel_rfl) (by kernel_rfl) (fun _ _ _ h => h) (Or.inl ⟨by rfl, ?_⟩) (by assumption) ?_
    case refine_2 => (intro _ _; go_simp; all_goals with_reducible rfl)
    simp only [Act.put, List.setIfInBounds_toArray, List.set_cons_zero, List.set_cons_succ]
    refine take_l (i := 16) (v := ?_) rfl (by kernel_rfl) (by kernel_rfl) (by kernel_rfl) (fun _ _ _ h => h) (Or.inl ⟨by rfl, ?_⟩) (by assumption) ?_
    case refine_2 => (intro _ _; go_simp; all_goals with_reducible rfl)
    simp only [Act.put, List.setIfInBounds_toArray, List.set_cons_zero, List.set_cons_succ]
    refine wpAnyH_ready (rs := [14, 17]) (by kernel_rfl) (by simp) ?_
    refine cons_l rfl (fun K hK => ?_) (cons_l rfl (fun K hK => ?_) AllReadyH.nil)
    · go_simp
      go_at_call 21
      refine (sum_is HD2.out (HSs.out _ hHeld) (HT.out _ hHeld) Hlen.out).mono ?_
      rintro e v5 ⟨rfl, hv5⟩
      go_wp2_with fail
      refine hK.out _ _ (nu_trans (by assumption) hv5) (fun hHeld => ?_)
      clear hK K hv5
      simp only [Act.put, List.setIfInBounds_toArray, List.set_cons_zero, List.set_cons_succ]
      refine wpAnyH_ready (rs := [17]) (by kernel_rfl) (by simp) ?_
      refine cons_l rfl (fun K hK => ?_) AllReadyH.nil
      go_simp
      go_wp2_with fail
      have hA6 := hHeld
      have hv6 := nu_trans hHeld (nu_alloc (nu_refl _) (.cells #[.slice a la ca, .slice b lb cb] 22))
      refine hK.out _ _ hv6 (fun hHeld => ?_)
      clear hK K
      simp only [Act.put, List.setIfInBounds_toArray, List.set_cons_zero, List.set_cons_succ]
      refine wpAnyH_ready (rs := [18]) (by kernel_rfl) (by simp) ?_
      refine cons_l rfl (fun K hK => ?_) AllReadyH.nil
      go_simp
      go_at_call 15
      refine (of_is (cap := 2) HD2b.out (PartsIn.two (Ha.out _ hA6) (Hb.out _ hA6) Hca.out.1 Hca.out.2.1 Hca.out.2.2.1 Hca.out.2.2.2) (HT.out _ hHeld) Hlen2.out).mono ?_
      rintro e v7 ⟨rfl, hv7⟩
      go_wp2_with fail
      refine hK.out _ _ (nu_trans (by assumption) hv7) (fun hHeld => ?_)
      clear hK K hv7
      simp only [Act.put, List.setIfInBounds_toArray, List.set_cons_zero, List.set_cons_succ]
      refine take_l (i := 19) rfl (by kernel_rfl) (by kernel_rfl) (by kernel_rfl) (fun _ _ _ h => h) (Or.inl ⟨by rfl, fun W _ => exec_same_32 D2 HL2.out (.tmp 47) (.tmp 51) rfl rfl rfl⟩) (by assumption) ?_
      simp only [Act.put, List.setIfInBounds_toArray, List.set_cons_zero, List.set_cons_succ]
      refine take_l (i := 20) (v := ?_) rfl (by kernel_rfl) (by kernel_rfl) (by kernel_rfl) (fun _ _ _ h => h) (Or.inl ⟨by rfl, ?_⟩) (by assumption) ?_
      case refine_2 => (intro _ _; go_simp; all_goals with_reducible rfl)
      simp only [Act.put, List.setIfInBounds_toArray, List.set_cons_zero, List.set_cons_succ]
      refine take_l (i := 21) (v := ?_) rfl (by kernel_rfl) (by kernel_rfl) (by kernel_rfl) (fun _ _ _ h => h) (Or.inl ⟨by rfl, ?_⟩) (by assumption) ?_
      case refine_2 => (intro _ _; go_simp; all_goals with_reducible rfl)
      simp only [Act.put, List.setIfInBounds_toArray, List.set_cons_zero, List.set_cons_succ]
      refine take_l (i := 22) (v := ?_) rfl (by kernel_rfl) (by kernel_rfl) (by kernel_rfl) (fun _ _ _ h => h) (Or.inl ⟨by rfl, ?_⟩) (by assumption) ?_
      case refine_2 => (intro _ _; go_simp; all_goals with_reducible rfl)
      simp only [Act.put, List.setIfInBounds_toArray, List.set_cons_zero, List.set_cons_succ]
      refine take_l (i := 24) (v := ?_) rfl (by kernel_rfl) (by kernel_rfl) (by kernel_rfl) (fun _ _ _ h => h) (Or.inl ⟨by rfl, ?_⟩) (by assumption) ?_
      case refine_2 => (intro _ _; go_simp; all_goals with_reducible rfl)
      simp only [Act.put, List.setIfInBounds_toArray, List.set_cons_zero, List.set_cons_succ]
      refine take_l (i := 25) (v := ?_) rfl (by kernel_rfl) (by kernel_rfl) (by kernel_rfl) (fun _ _ _ h => h) (Or.inl ⟨by rfl, ?_⟩) (by assumption) ?_
      case refine_2 => (intro _ _; go_simp; all_goals with_reducible rfl)
      simp only [Act.put, List.setIfInBounds_toArray, List.set_cons_zero, List.set_cons_succ]
      refine take_l (i := 26) (v := ?_) rfl (by kernel_rfl) (by kernel_rfl) (by kernel_rfl) (fun _ _ _ h => h) (Or.inl ⟨by rfl, ?_⟩) (by assumption) ?_
      case refine_2 => (intro _ _; go_simp; all_goals with_reducible rfl)
      simp only [Act.put, List.setIfInBounds_toArray, List.set_cons_zero, List.set_cons_succ]
      refine take_l (i := 27) (v := ?_) rfl (by kernel_rfl) (by kernel_rfl) (by kernel_rfl) (fun _ _ _ h => h) (Or.inl ⟨by rfl, ?_⟩) (by assumption) ?_
      case refine_2 => (intro _ _; go_simp; all_goals with_reducible rfl)
      simp only [Act.put, List.setIfInBounds_toArray, List.set_cons_zero, List.set_cons_succ]
      refine take_l (i := 28) (v := ?_) rfl (by kernel_rfl) (by kernel_rfl) (by kernel_rfl) (fun _ _ _ h => h) (Or.inl ⟨by rfl, ?_⟩) (by assumption) ?_
      case refine_2 => (intro _ _; go_simp; all_goals with_reducible rfl)
      simp only [Act.put, List.setIfInBounds_toArray, List.set_cons_zero, List.set_cons_succ]
      refine wpAnyH_ready (rs := [23]) (by kernel_rfl) (by simp) ?_
      refine cons_l rfl (fun K hK => ?_) AllReadyH.nil
      go_simp
      go_at_call 23
      refine (len_is (HSs.out _ hHeld).1 Hlm.out).mono ?_
      rintro e v8 ⟨rfl, hv8⟩
      go_wp2_with fail
      refine hK.out _ _ (nu_trans (by assumption) hv8) (fun hHeld => ?_)
      clear hK K hv8
      simp only [Act.put, List.setIfInBounds_toArray, List.set_cons_zero, List.set_cons_succ]
      refine take_l (i := 29) (v := ?_) rfl (by kernel_rfl) (by kernel_rfl) (by kernel_rfl) (fun _ _ _ h => h) (Or.inl ⟨by rfl, ?_⟩) (by assumption) ?_
      case refine_2 => (intro _ _; go_simp; all_goals with_reducible rfl)
      simp only [Act.put, List.setIfInBounds_toArray, List.set_cons_zero, List.set_cons_succ]
      refine take_l (i := 30) (v := ?_) rfl (by kernel_rfl) (by kernel_rfl) (by kernel_rfl) (fun _ _ _ h => h) (Or.inl ⟨by rfl, ?_⟩) (by assumption) ?_
      case refine_2 => (intro _ _; go_simp; all_goals with_reducible rfl)
      simp only [Act.put, List.setIfInBounds_toArray, List.set_cons_zero, List.set_cons_succ]
      refine take_l (i := 31) (v := ?_) rfl (by kernel_rfl) (by kernel_rfl) (by kernel_rfl) (fun _ _ _ h => h) (Or.inl ⟨by rfl, ?_⟩) (by assumption) ?_
      case refine_2 => (intro _ _; go_simp; all_goals with_reducible rfl)
      simp only [Act.put, List.setIfInBounds_toArray, List.set_cons_zero, List.set_cons_succ]
      refine wpAnyH_ready (rs := [32]) (by kernel_rfl) (by simp) ?_
      refine cons_l rfl (fun K hK => ?_) AllReadyH.nil
      go_simp
      go_at_call 13
      refine (shaAwake_any (HT.out _ hHeld)).mono ?_
      rintro e v9 ⟨rfl, hv9⟩
      go_wp2_with fail
      refine hK.out _ _ (nu_trans (by assumption) hv9) (fun hHeld => ?_)
      clear hK K hv9
      simp only [Act.put, List.setIfInBounds_toArray, List.set_cons_zero, List.set_cons_succ]
      refine take_l (i := 33) (v := ?_) rfl (by kernel_rfl) (by kernel_rfl) (by kernel_rfl) (fun _ _ _ h => h) (Or.inl ⟨by rfl, ?_⟩) (by assumption) ?_
      case refine_2 => (intro _ _; go_simp; all_goals with_reducible rfl)
      simp only [Act.put, List.setIfInBounds_toArray, List.set_cons_zero, List.set_cons_succ]
      refine take_l (i := 34) (v := ?_) rfl (by kernel_rfl) (by kernel_rfl) (by kernel_rfl) (fun _ _ _ h => h) (Or.inl ⟨by rfl, ?_⟩) (by assumption) ?_
      case refine_2 => (intro _ _; go_simp; all_goals with_reducible rfl)
      simp only [Act.put, List.setIfInBounds_toArray, List.set_cons_zero, List.set_cons_succ]
      refine wpAnyH_done (by kernel_rfl) ?_ _
      go_wp2_with fail
      go_ret
      exact ⟨rfl, nu_trans hnz hHeld⟩
    · skip
      go_simp
      go_wp2_with fail
      have hA6 := hHeld
      have hv6 := nu_trans hHeld (nu_alloc (nu_refl _) (.cells #[.slice a la ca, .slice b lb cb] 22))
      refine hK.out _ _ hv6 (fun hHeld => ?_)
      clear hK K
      simp only [Act.put, List.setIfInBounds_toArray, List.set_cons_zero, List.set_cons_succ]
      have HPT := Lib.hid (PartsIn.two (Ha.out _ hA6) (Hb.out _ hA6) Hca.out.1 Hca.out.2.1 Hca.out.2.2.1 Hca.out.2.2.2)
      refine wpAnyH_ready (rs := [14]) (by kernel_rfl) (by simp) ?_
      refine cons_l rfl (fun K hK => ?_) AllReadyH.nil
      go_simp
      go_at_call 21
      refine (sum_is HD2.out (HSs.out _ hHeld) (HT.out _ hHeld) Hlen.out).mono ?_
      rintro e v5 ⟨rfl, hv5⟩
      have hHeldT := hv5
      go_wp2_with fail
      refine hK.out _ _ (nu_trans (by assumption) hv5) (fun hHeld => ?_)
      clear hK K hv5
      simp only [Act.put, List.setIfInBounds_toArray, List.set_cons_zero, List.set_cons_succ]
      refine wpAnyH_ready (rs := [18]) (by kernel_rfl) (by simp) ?_
      refine cons_l rfl (fun K hK => ?_) AllReadyH.nil
      go_simp
      go_at_call 15
      refine (of_is (cap := 2) HD2b.out (PartsIn.keep HPT.out hHeldT) (HT.out _ hHeld) Hlen2.out).mono ?_
      rintro e v7 ⟨rfl, hv7⟩
      go_wp2_with fail
      refine hK.out _ _ (nu_trans (by assumption) hv7) (fun hHeld => ?_)
      clear hK K hv7
      simp only [Act.put, List.setIfInBounds_toArray, List.set_cons_zero, List.set_cons_succ]
      refine take_l (i := 19) rfl (by kernel_rfl) (by kernel_rfl) (by kernel_rfl) (fun _ _ _ h => h) (Or.inl ⟨by rfl, fun W _ => exec_same_32 D2 HL2.out (.tmp 47) (.tmp 51) rfl rfl rfl⟩) (by assumption) ?_
      simp only [Act.put, List.setIfInBounds_toArray, List.set_cons_zero, List.set_cons_succ]
      refine take_l (i := 20) (v := ?_) rfl (by kernel_rfl) (by kernel_rfl) (by kernel_rfl) (fun _ _ _ h => h) (Or.inl ⟨by rfl, ?_⟩) (by assumption) ?_
      case refine_2 => (intro _ _; go_simp; all_goals with_reducible rfl)
      simp only [Act.put, List.setIfInBounds_toArray, List.set_cons_zero, List.set_cons_succ]
      refine take_l (i := 21) (v := ?_) rfl (by kernel_rfl) (by kernel_rfl) (by kernel_rfl) (fun _ _ _ h => h) (Or.inl ⟨by rfl, ?_⟩) (by assumption) ?_
      case refine_2 => (intro _ _; go_simp; all_goals with_reducible rfl)
      simp only [Act.put, List.setIfInBounds_toArray, List.set_cons_zero, List.set_cons_succ]
      refine take_l (i := 22) (v := ?_) rfl (by kernel_rfl) (by kernel_rfl) (by kernel_rfl) (fun _ _ _ h => h) (Or.inl ⟨by rfl, ?_⟩) (by assumption) ?_
      case refine_2 => (intro _ _; go_simp; all_goals with_reducible rfl)
      simp only [Act.put, List.setIfInBounds_toArray, List.set_cons_zero, List.set_cons_succ]
      refine take_l (i := 24) (v := ?_) rfl (by kernel_rfl) (by kernel_rfl) (by kernel_rfl) (fun _ _ _ h => h) (Or.inl ⟨by rfl, ?_⟩) (by assumption) ?_
      case refine_2 => (intro _ _; go_simp; all_goals with_reducible rfl)
      simp only [Act.put, List.setIfInBounds_toArray, List.set_cons_zero, List.set_cons_succ]
      refine take_l (i := 25) (v := ?_) rfl (by kernel_rfl) (by kernel_rfl) (by kernel_rfl) (fun _ _ _ h => h) (Or.inl ⟨by rfl, ?_⟩) (by assumption) ?_
      case refine_2 => (intro _ _; go_simp; all_goals with_reducible rfl)
      simp only [Act.put, List.setIfInBounds_toArray, List.set_cons_zero, List.set_cons_succ]
      refine take_l (i := 26) (v := ?_) rfl (by kernel_rfl) (by kernel_rfl) (by kernel_rfl) (fun _ _ _ h => h) (Or.inl ⟨by rfl, ?_⟩) (by assumption) ?_
      case refine_2 => (intro _ _; go_simp; all_goals with_reducible rfl)
      simp only [Act.put, List.setIfInBounds_toArray, List.set_cons_zero, List.set_cons_succ]
      refine take_l (i := 27) (v := ?_) rfl (by kernel_rfl) (by kernel_rfl) (by kernel_rfl) (fun _ _ _ h => h) (Or.inl ⟨by rfl, ?_⟩) (by assumption) ?_
      case refine_2 => (intro _ _; go_simp; all_goals with_reducible rfl)
      simp only [Act.put, List.setIfInBounds_toArray, List.set_cons_zero, List.set_cons_succ]
      refine take_l (i := 28) (v := ?_) rfl (by kernel_rfl) (by kernel_rfl) (by kernel_rfl) (fun _ _ _ h => h) (Or.inl ⟨by rfl, ?_⟩) (by assumption) ?_
      case refine_2 => (intro _ _; go_simp; all_goals with_reducible rfl)
      simp only [Act.put, List.setIfInBounds_toArray, List.set_cons_zero, List.set_cons_succ]
      refine wpAnyH_ready (rs := [23]) (by kernel_rfl) (by simp) ?_
      refine cons_l rfl (fun K hK => ?_) AllReadyH.nil
      go_simp
      go_at_call 23
      refine (len_is (HSs.out _ hHeld).1 Hlm.out).mono ?_
      rintro e v8 ⟨rfl, hv8⟩
      go_wp2_with fail
      refine hK.out _ _ (nu_trans (by assumption) hv8) (fun hHeld => ?_)
      clear hK K hv8
      simp only [Act.put, List.setIfInBounds_toArray, List.set_cons_zero, List.set_cons_succ]
      refine take_l (i := 29) (v := ?_) rfl (by kernel_rfl) (by kernel_rfl) (by kernel_rfl) (fun _ _ _ h => h) (Or.inl ⟨by rfl, ?_⟩) (by assumption) ?_
      case refine_2 => (intro _ _; go_simp; all_goals with_reducible rfl)
      simp only [Act.put, List.setIfInBounds_toArray, List.set_cons_zero, List.set_cons_succ]
      refine take_l (i := 30) (v := ?_) rfl (by kernel_rfl) (by kernel_rfl) (by kernel_rfl) (fun _ _ _ h => h) (Or.inl ⟨by rfl, ?_⟩) (by assumption) ?_
      case refine_2 => (intro _ _; go_simp; all_goals with_reducible rfl)
      simp only [Act.put, List.setIfInBounds_toArray, List.set_cons_zero, List.set_cons_succ]
      refine take_l (i := 31) (v := ?_) rfl (by kernel_rfl) (by kernel_rfl) (by kernel_rfl) (fun _ _ _ h => h) (Or.inl ⟨by rfl, ?_⟩) (by assumption) ?_
      case refine_2 => (intro _ _; go_simp; all_goals with_reducible rfl)
      simp only [Act.put, List.setIfInBounds_toArray, List.set_cons_zero, List.set_cons_succ]
      refine wpAnyH_ready (rs := [32]) (by kernel_rfl) (by simp) ?_
      refine cons_l rfl (fun K hK => ?_) AllReadyH.nil
      go_simp
      go_at_call 13
      refine (shaAwake_any (HT.out _ hHeld)).mono ?_
      rintro e v9 ⟨rfl, hv9⟩
      go_wp2_with fail
      refine hK.out _ _ (nu_trans (by assumption) hv9) (fun hHeld => ?_)
      clear hK K hv9
      simp only [Act.put, List.setIfInBounds_toArray, List.set_cons_zero, List.set_cons_succ]
      refine take_l (i := 33) (v := ?_) rfl (by kernel_rfl) (by kernel_rfl) (by kernel_rfl) (fun _ _ _ h => h) (Or.inl ⟨by rfl, ?_⟩) (by assumption) ?_
      case refine_2 => (intro _ _; go_simp; all_goals with_reducible rfl)
      simp only [Act.put, List.setIfInBounds_toArray, List.set_cons_zero, List.set_cons_succ]
      refine take_l (i := 34) (v := ?_) rfl (by kernel_rfl) (by kernel_rfl) (by kernel_rfl) (fun _ _ _ h => h) (Or.inl ⟨by rfl, ?_⟩) (by assumption) ?_
      case refine_2 => (intro _ _; go_simp; all_goals with_reducible rfl)
      simp only [Act.put, List.setIfInBounds_toArray, List.set_cons_zero, List.set_cons_succ]
      refine wpAnyH_done (by kernel_rfl) ?_ _
      go_wp2_with fail
      go_ret
      exact ⟨rfl, nu_trans hnz hHeld⟩
end Go.Proofs.YtlekepigndlbhaaDoor
