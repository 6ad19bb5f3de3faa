/-
  The walk of CountSets.
-/
import Derived.Test.YtogcckedelkpbaaCountT
import Derived.Deep.RegionWith
import Derived.Deep.RegionHeld3
namespace Go.Proofs.Ytogcckedelkpbaa
open Go.ChangeShapes Go.WideShapes Go.ChangeAt Go.RowKit

theorem entAt_chunk (xs ys : List Nat) (k j : Nat) (h : (xs.drop (16 * k)).take 16 = (ys.drop (16 * j)).take 16) : entAt xs k = entAt ys j := by
  have e : ∀ (zs : List Nat) (m : Nat), entAt zs m = (numOf (((zs.drop (16 * m)).take 16).take 4), numOf ((((zs.drop (16 * m)).take 16).drop 4).take 4), numOf ((((zs.drop (16 * m)).take 16).drop 8).take 8)) := by
    intro zs m
    unfold entAt
    rw [List.take_take, List.drop_take, List.drop_take, List.take_take, List.take_take, List.drop_drop, List.drop_drop]
    rfl
  rw [e, e, h]
theorem entAt_setL {xs : List Nat} (hx : xs.length = 256) {i k : Nat} (hi : i < 16) (hk : k < 16) {x : Ent} (hok : entOk x) : entAt (setL xs i x) k = if k = i then x else entAt xs k := by
  by_cases hki : k = i
  · subst hki
    rw [if_pos rfl]
    have h1 := entAt_pack [x] (fun e he => by obtain rfl := List.mem_singleton.1 he; exact hok) 0 (by omega)
    refine Eq.trans (entAt_chunk _ (packTo [x] 16) k 0 ?_) h1
    rw [Nat.mul_zero, List.drop_zero, pack_one]
    unfold setL
    rw [List.drop_left' (by rw [List.length_take]; omega), List.take_left' (entL_length x)]
  · rw [if_neg hki]
    refine entAt_chunk _ _ k k ?_
    unfold setL
    rcases Nat.lt_or_gt_of_ne hki with h | h
    · rw [List.drop_append_of_le_length (by rw [List.length_take]; omega), List.take_append_of_le_length (by rw [List.length_drop, List.length_take]; omega), List.drop_take, List.take_take, Nat.min_eq_left (by omega)]
    · have e : (xs.take (16 * i) ++ (entL x ++ xs.drop (16 * i + 16))).drop (16 * k) = xs.drop (16 * k) := by
        rw [← List.append_assoc, List.drop_append, List.drop_of_length_le (by rw [List.length_append, List.length_take, entL_length]; omega), List.nil_append, List.drop_drop]
        congr 1
        rw [List.length_append, List.length_take, entL_length]
        omega
      rw [e]

set_option maxRecDepth 100000 in
set_option maxHeartbeats 1000000 in
theorem set_bad (a : Option Addr) (len cap : Nat) (xs : List Nat) (i : Int) (x0 x1 x2 : Nat) (w : World) (hx : BytesIn w a len cap xs) (hm : len ≤ 9223372036854775807) (hf : faultOf len i ≠ 0) :
    Calls Try.prog 38 #[.slice a len cap, .int .i64 i, .agg #[.int .u32 (x0 : Int), .int .u32 (x1 : Int), .int .u64 (x2 : Int)]] w fun e w' => e = .returned (.tuple #[.slice none 0 0, .int .i64 (faultOf len i)]) ∧ Below w.heap.size w w' := by
  have hn0 := nu_alloc (nu_refl w) (.cells #[.int .u32 (x0 : Int), .int .u32 (x1 : Int), .int .u64 (x2 : Int)] 35)
  have Hg := Lib.hid (get_any a len cap xs i _ (hx.keep hn0) hm)
  rw [if_neg hf] at Hg
  obtain ⟨f, hfe⟩ : ∃ f, f = faultOf len i := ⟨_, rfl⟩
  rw [← hfe] at Hg hf ⊢
  have t : (f != 0) = true := by rw [bne_iff_ne]; exact hf
  clear hx hf hfe
  go_enter Try.func38, Try.ntmps38
  go_wp2_with fail
  refine Hg.out.mono ?_
  rintro e w1 ⟨rfl, hb1⟩
  have hn1 := nu_trans hn0 hb1
  unfold entV
  go_wp2_with fail
  go_ret2
  exact ⟨rfl, nu_alloc hn1 _⟩

set_option maxRecDepth 100000 in
set_option maxHeartbeats 2000000 in
theorem countSets_bad (a : Option Addr) (len cap : Nat) (xs : List Nat) (i : Int) (x0 x1 x2 : Nat) (w : World) (hx : BytesIn w a len cap xs) (hlen : len ≤ 140737488351232) (hf : faultOf len i ≠ 0) :
    Calls Try.prog 13 #[.slice a len cap, .int .i64 i, .agg #[.int .u32 (x0 : Int), .int .u32 (x1 : Int), .int .u64 (x2 : Int)]] w fun e w' => e = .returned (.bool true) ∧ Below w.heap.size w w' := by
  have hn0 := nu_alloc (nu_refl w) (.cells #[.int .u32 (x0 : Int), .int .u32 (x1 : Int), .int .u64 (x2 : Int)] 35)
  have HX := Lib.hid (Blk.made w 35 #[.int .u32 (x0 : Int), .int .u32 (x1 : Int), .int .u64 (x2 : Int)])
  have Hx := Lib.hid hx
  have Hl := Lib.hid hx.1.1
  have Hb := Lib.hid (show ∀ x ∈ xs, x < 256 from fun x h => wf_u8_lt (hx.1.2.1 x h))
  have Hfa := Lib.hid (fun W => refFault_any a len cap i W (by omega))
  have Hset := Lib.hid (fun (W : World) (b : Option Addr) (c : Nat) (h : BytesIn W b len c xs) => set_bad b len c xs i x0 x1 x2 W h (by omega) hf)
  have Hget := Lib.hid (fun (W : World) (b : Option Addr) (c : Nat) (h : BytesIn W b len c xs) => get_any b len c xs i W h (by omega))
  rw [if_neg hf] at Hget
  obtain ⟨f, hfe⟩ : ∃ f, f = faultOf len i := ⟨_, rfl⟩
  rw [show (if len < 256 then (2 : Int) else if 256 < len then 4 else if i < 0 ∨ 15 < i then 1 else 0) = f from hfe.symm] at Hfa
  rw [← hfe] at Hset Hget hf
  have t : (f != 0) = true := by rw [bne_iff_ne]; exact hf
  have t' : (f != f) = false := by simp
  clear hx hf hfe
  go_enter Try.func13, Try.ntmps13
  go_wp2_with fail
  generalize w.alloc (.cells #[.int .u32 (x0 : Int), .int .u32 (x1 : Int), .int .u64 (x2 : Int)] 35) = u0 at *
  refine (lent_any a len cap xs u0 (Hx.out.keep hn0) (by omega)).mono ?_
  rintro e w1 ⟨rfl, hg1, hb1⟩
  have hn1 := nu_trans hn0 hb1
  have Hg1 := Lib.hid hg1
  have HX1 := Lib.hid (HX.out.below hb1 HX.out.lt)
  have y0 := HX1.out.at 0 _ rfl
  have y1 := HX1.out.at 1 _ rfl
  have y2 := HX1.out.at 2 _ rfl
  simp only [List.getElem_toArray, List.getElem_cons_zero, List.getElem_cons_succ] at y0 y1 y2
  clear hg1 hb1 hn0
  go_wp2_with fail
  refine (Hfa.out w1).mono ?_
  rintro e w2 ⟨rfl, rfl⟩
  have Hin := Lib.hid (lent_bytes Hg1.out Hl.out Hb.out)
  go_wp2_with fail
  refine (Hset.out w1 _ _ Hin.out).mono ?_
  rintro e w2 ⟨rfl, hb2⟩
  have hn2 := nu_trans hn1 hb2
  have Hg2 := Lib.hid (Hg1.out.below hb2 Hg1.out.lt)
  have Hin2 := Lib.hid (Hin.out.keep hb2)
  clear hb2 hn1 y0 y1 y2
  go_wp2_with fail
  refine (Hget.out w2 _ _ Hin2.out).mono ?_
  rintro e w3 ⟨rfl, hb3⟩
  have hn3 := nu_alloc (nu_trans hn2 hb3) (.cells #[.int .u32 0, .int .u32 0, .int .u64 0] 35)
  have Hg3 := Lib.hid ((Hg2.out.below hb3 Hg2.out.lt).alloc (.cells #[.int .u32 0, .int .u32 0, .int .u64 0] 35))
  have HY := Lib.hid (Blk.made w3 35 #[.int .u32 0, .int .u32 0, .int .u64 0])
  have Hx3 := Lib.hid (Hx.out.keep hn3)
  unfold entV
  clear hb3 hn2
  go_wp2_with fail
  refine (kept_any u0.heap.size a len cap xs _ Hg3.out Hx3.out.1 (by omega)).mono ?_
  rintro e w4 ⟨rfl, n4, rfl⟩
  have hn4 := nu_drewN hn3 n4
  have HY4 := Lib.hid (HY.out.drewN n4)
  have z0 := HY4.out.at 0 _ rfl
  have z1 := HY4.out.at 1 _ rfl
  have z2 := HY4.out.at 2 _ rfl
  simp only [List.getElem_toArray, List.getElem_cons_zero, List.getElem_cons_succ] at z0 z1 z2
  generalize (w3.alloc (.cells #[.int .u32 0, .int .u32 0, .int .u64 0] 35)).drewN n4 = w4 at hn4 z0 z1 z2 ⊢
  clear hn3
  go_wp2_with fail
  refine (countAwake_any _).mono ?_
  rintro e w5 ⟨rfl, hb5⟩
  have hn5 := nu_trans hn4 hb5
  go_wp2_with fail
  go_ret
  exact ⟨rfl, hn5⟩

theorem take_l {P : Program} {l : List Oper} {Q : Exit → Act → World → Prop} {md : Region.Mode} {S : World → Prop} {i : Nat} {oi : Oper} {v : Value} {fuel : Nat} {listed : Array Bool} {a : Act} {w : World} (hi : l[i]? = some oi)
    (hs : Region.noSelect l.toArray = true) (hf : Region.free md l.toArray listed i = true) (hr : (Region.ready md l.toArray listed).contains i = true)
    (hQ : ∀ c a w, Q (.panic c) (a.put oi.dst v) w → Q (.panic c) a w) (hy : YieldsIf P l.toArray S oi v a) (hS : S w)
    (h : wpAnyH P md l.toArray Q S fuel (listed.setIfInBounds i true) (a.put oi.dst v) w) : wpAnyH P md l.toArray Q S (fuel + 1) listed a w :=
  wpAnyH_take (by rw [List.getElem?_toArray]; exact hi) hs hf hr hQ hy hS h
theorem cons_l {P : Program} {l : List Oper} {Q : Exit → Act → World → Prop} {md : Region.Mode} {S : World → Prop} {fuel : Nat} {listed : Array Bool} {a : Act} {w : World} {i : Nat} {o : Oper} {rs : List Nat} (ho : l[i]? = some o)
    (h : ∀ K' : Act → World → Prop, Shut (∀ a w, S w → (S w → wpAnyH P md l.toArray Q S fuel (listed.setIfInBounds i true) a w) → K' a w) → if Region.wanted o (yielded l.toArray a.tmps) = true then Oper.wp P o a w K' Q else K' (a.put o.dst undef) w)
    (hs : AllReadyH P md l.toArray Q S fuel listed a w rs) : AllReadyH P md l.toArray Q S fuel listed a w (i :: rs) :=
  AllReadyH.cons (by rw [List.getElem?_toArray]; exact ho) h hs

/-- A call that makes memory alone, beside two structs' cells. -/
theorem call_T {f : FuncId} {args : Array Value} {v : Value} {B C W : World} {X Y : Nat} {x0 x1 x2 y0 y1 y2 : Value} (h : Calls Try.prog f args W fun e w' => e = .returned v ∧ Below W.heap.size W w')
    (h1 : W.cell? ⟨X, 0, none⟩ = some x0) (h2 : W.cell? ⟨X, 1, none⟩ = some x1) (h3 : W.cell? ⟨X, 2, none⟩ = some x2) (h4 : W.cell? ⟨Y, 0, none⟩ = some y0) (h5 : W.cell? ⟨Y, 1, none⟩ = some y1) (h6 : W.cell? ⟨Y, 2, none⟩ = some y2) (hB : Below B.heap.size B W) (hC : Below C.heap.size C W) :
    Calls Try.prog f args W fun e w' => e = .returned v ∧ (w'.cell? ⟨X, 0, none⟩ = some x0 ∧ w'.cell? ⟨X, 1, none⟩ = some x1 ∧ w'.cell? ⟨X, 2, none⟩ = some x2 ∧ w'.cell? ⟨Y, 0, none⟩ = some y0 ∧ w'.cell? ⟨Y, 1, none⟩ = some y1 ∧ w'.cell? ⟨Y, 2, none⟩ = some y2) ∧ Below B.heap.size B w' ∧ Below C.heap.size C w' := by
  refine h.mono ?_
  rintro e w' ⟨he, hb⟩
  have k : ∀ (p : Addr) (v : Value), W.cell? p = some v → w'.cell? p = some v := fun p v hp => (hb.cell (World.block_lt_of_cell? _ _ hp)).trans hp
  exact ⟨he, ⟨k _ _ h1, k _ _ h2, k _ _ h3, k _ _ h4, k _ _ h5, k _ _ h6⟩, nu_trans hB hb, nu_trans hC hb⟩

set_option maxRecDepth 100000 in
set_option maxHeartbeats 4000000 in
theorem countSets_ok (b off cap : Nat) (xs : List Nat) (i : Nat) (x0 x1 x2 : Nat) (w : World) (hx : BytesIn w (some ⟨b, off, none⟩) 256 cap xs) (hlc : 256 ≤ cap) (hcm : cap ≤ maxLen) (hi : i < 16) (hok : entOk (x0, x1, x2)) :
    Calls Try.prog 13 #[.slice (some ⟨b, off, none⟩) 256 cap, .int .i64 i, .agg #[.int .u32 (x0 : Int), .int .u32 (x1 : Int), .int .u64 (x2 : Int)]] w fun e w' => e = .returned (.bool true) ∧ Below w.heap.size w w' := by
  have hn0 := nu_alloc (nu_refl w) (.cells #[.int .u32 (x0 : Int), .int .u32 (x1 : Int), .int .u64 (x2 : Int)] 35)
  have HX := Lib.hid (Blk.made w 35 #[.int .u32 (x0 : Int), .int .u32 (x1 : Int), .int .u64 (x2 : Int)])
  have Hx := Lib.hid hx
  have Hl := Lib.hid hx.1.1
  have Hb := Lib.hid (show ∀ x ∈ xs, x < 256 from fun x h => wf_u8_lt (hx.1.2.1 x h))
  have Hok := Lib.hid hok
  have Hcm := Lib.hid hcm
  have Hfa := Lib.hid (fun W => refFault_any (some ⟨b, off, none⟩) 256 cap (i : Int) W (by omega))
  rw [show (if 256 < 256 then (2 : Int) else if 256 < 256 then 4 else if (i : Int) < 0 ∨ 15 < (i : Int) then 1 else 0) = 0 by rw [if_neg (by omega), if_neg (by omega), if_neg (by omega)]] at Hfa
  have i1 : (i : Int) < 16 := by omega
  clear hx hok hcm
  go_enter Try.func13, Try.ntmps13
  go_wp2_with fail
  generalize w.alloc (.cells #[.int .u32 (x0 : Int), .int .u32 (x1 : Int), .int .u64 (x2 : Int)] 35) = u0 at *
  refine (lent_any _ 256 cap xs u0 (Hx.out.keep hn0) (by omega)).mono ?_
  rintro e w1 ⟨rfl, hg1, hb1⟩
  have hn1 := nu_trans hn0 hb1
  have Hg1 := Lib.hid hg1
  have HX1 := Lib.hid (HX.out.below hb1 HX.out.lt)
  have y0 := HX1.out.at 0 _ rfl
  have y1 := HX1.out.at 1 _ rfl
  have y2 := HX1.out.at 2 _ rfl
  simp only [List.getElem_toArray, List.getElem_cons_zero, List.getElem_cons_succ] at y0 y1 y2
  clear hg1 hb1 hn0
  go_wp2_with fail
  refine (Hfa.out w1).mono ?_
  rintro e w2 ⟨rfl, rfl⟩
  have Hin := Lib.hid (lent_bytes Hg1.out Hl.out Hb.out)
  go_wp2_with fail
  refine (set_ok _ _ xs i x0 x1 x2 w1 Hin.out hi Hok.out).mono ?_
  rintro e w2 ⟨v2, rfl, ho2, hb2⟩
  have hn2 := nu_trans hn1 hb2
  have Hg2 := Lib.hid (Hg1.out.below hb2 Hg1.out.lt)
  have Hin2 := Lib.hid (Hin.out.keep hb2)
  have HX2 := Lib.hid (HX1.out.below hb2 HX1.out.lt)
  obtain ⟨a2, c2, rfl, _, _, hr2, _⟩ := ho2.lies
  rw [setL_length Hl.out hi] at hr2 ⊢
  have Hr2 := Lib.hid hr2
  clear hb2 hn1 y0 y1 y2 ho2 hr2
  go_wp2_with fail
  refine (get_ok _ _ xs i w2 Hin2.out hi).mono ?_
  rintro e w3 ⟨rfl, hb3⟩
  obtain ⟨⟨e0, e1, e2⟩, he⟩ : ∃ e, entAt xs i = e := ⟨_, rfl⟩
  rw [he]
  have He := Lib.hid he
  have hn3 := nu_alloc (nu_trans hn2 hb3) (.cells #[.int .u32 (e0 : Int), .int .u32 (e1 : Int), .int .u64 (e2 : Int)] 35)
  have hb30 := nu_alloc hb3 (.cells #[.int .u32 (e0 : Int), .int .u32 (e1 : Int), .int .u64 (e2 : Int)] 35)
  have Hg3 := Lib.hid ((Hg2.out.below hb3 Hg2.out.lt).alloc (.cells #[.int .u32 (e0 : Int), .int .u32 (e1 : Int), .int .u64 (e2 : Int)] 35))
  have HY := Lib.hid (Blk.made w3 35 #[.int .u32 (e0 : Int), .int .u32 (e1 : Int), .int .u64 (e2 : Int)])
  have Hx3 := Lib.hid (Hx.out.keep hn3)
  unfold entV
  clear hb3 hn2 he
  go_wp2_with fail
  refine (kept_any u0.heap.size _ 256 cap xs _ Hg3.out Hx3.out.1 (by omega)).mono ?_
  rintro e w4 ⟨rfl, n4, rfl⟩
  have hn4 := nu_drewN hn3 n4
  have hb4 := nu_drewN hb30 n4
  have HY4 := Lib.hid (HY.out.drewN n4)
  have z0 := HY4.out.at 0 _ rfl
  have z1 := HY4.out.at 1 _ rfl
  have z2 := HY4.out.at 2 _ rfl
  simp only [List.getElem_toArray, List.getElem_cons_zero, List.getElem_cons_succ] at z0 z1 z2
  generalize (w3.alloc (.cells #[.int .u32 (e0 : Int), .int .u32 (e1 : Int), .int .u64 (e2 : Int)] 35)).drewN n4 = w4 at hn4 hb4 z0 z1 z2 ⊢
  have Hat := Lib.hid (refAt_S b off cap xs i w w2 w4.drew w3.heap.size 0 e0 e1 e2 _ _ _ (by exact Hx.out.keep (nu_drew hn4)) hlc Hcm.out hi He.out z0 z1 z2 (nu_drew hn4) (nu_drew hb4))
  clear hn3 hb30 HY HY4
  go_wp2_with fail
  go_region_held3 (fun w' => w'.cell? ⟨w3.heap.size, 0, none⟩ = some (.int .u32 (e0 : Int)) ∧ w'.cell? ⟨w3.heap.size, 1, none⟩ = some (.int .u32 (e1 : Int)) ∧ w'.cell? ⟨w3.heap.size, 2, none⟩ = some (.int .u64 (e2 : Int))) (first | exact hS | go_keep) (first | (go_at_call 37; refine (Hat.out).mono ?_; rintro e u1 ⟨rfl, hS, hn5, hb5⟩))
  go_wp2_with fail
  go_loopw [13] (fun j wr => ∃ k : Nat, k ≤ 16 ∧ j = .int .i64 k ∧ Below w.heap.size w wr ∧ Below w2.heap.size w2 wr) (fun j _ => 16 - (intOf j).toNat)
  case atStart => exact ⟨0, by omega, rfl, hn5, hb5⟩
  case round =>
    obtain ⟨k, hk, rfl, hnr, hbr⟩ := hrel
    clear z0 z1 z2 hn4 hb4 Hat hS hn5 hb5
    by_cases hlt : k < 16
    · have ik : (k : Int) < 16 := by omega
      have hset := entAt_setL Hl.out hi hlt Hok.out
      by_cases hki : k = i
      · subst hki
        rw [if_pos rfl] at hset
        have Hset := Lib.hid hset
        clear hset
        go_wp2_with fail
        refine (get_ok a2 c2 (setL xs k (x0, x1, x2)) k wr (Hr2.out.keep hbr) hlt).mono ?_
        rintro e w5 ⟨rfl, hb5⟩
        rw [Hset.out]
        have hn6 := nu_alloc (nu_trans hnr hb5) (.cells #[.int .u32 (x0 : Int), .int .u32 (x1 : Int), .int .u64 (x2 : Int)] 35)
        have hb6 := nu_alloc (nu_trans hbr hb5) (.cells #[.int .u32 (x0 : Int), .int .u32 (x1 : Int), .int .u64 (x2 : Int)] 35)
        have HZ := Lib.hid (Blk.made w5 35 #[.int .u32 (x0 : Int), .int .u32 (x1 : Int), .int .u64 (x2 : Int)])
        have HX6 := Lib.hid (HX2.out.below hb6 HX2.out.lt)
        unfold entV
        clear hb5 hnr hbr
        go_wp2_with fail
        have z0 := HZ.out.at 0 _ rfl
        have z1 := HZ.out.at 1 _ rfl
        have z2 := HZ.out.at 2 _ rfl
        have y0 := HX6.out.at 0 _ rfl
        have y1 := HX6.out.at 1 _ rfl
        have y2 := HX6.out.at 2 _ rfl
        simp only [List.getElem_toArray, List.getElem_cons_zero, List.getElem_cons_succ] at z0 z1 z2 y0 y1 y2
        generalize w5.alloc (.cells #[.int .u32 (x0 : Int), .int .u32 (x1 : Int), .int .u64 (x2 : Int)] 35) = w6 at z0 z1 z2 y0 y1 y2 hn6 hb6 ⊢
        clear HZ HX6
        go_quiet (fail)
        go_wp2_with fail
        go_roundw
        case rel => exact ⟨k + 1, by omega, by go_num, nu_drewN hn6 _, nu_drewN hb6 _⟩
        case measure => simp [intOf]; omega
      · rw [if_neg hki] at hset
        obtain ⟨⟨f0, f1, f2⟩, hf⟩ : ∃ e, entAt xs k = e := ⟨_, rfl⟩
        rw [hf] at hset
        have Hset := Lib.hid hset
        have Hf := Lib.hid hf
        have t1 : ((k : Int) == (i : Int)) = false := by rw [beq_eq_false_iff_ne]; omega
        have t2 : ((k : Int) != (i : Int)) = true := by rw [bne_iff_ne]; omega
        have t3 : (k == i) = false := by rw [beq_eq_false_iff_ne]; exact hki
        have t4 : (k != i) = true := by rw [bne_iff_ne]; exact hki
        clear hset hf
        go_wp2_with fail
        refine (get_ok a2 c2 (setL xs i (x0, x1, x2)) k wr (Hr2.out.keep hbr) hlt).mono ?_
        rintro e w5 ⟨rfl, hb5⟩
        rw [Hset.out]
        have hn6 := nu_alloc (nu_trans hnr hb5) (.cells #[.int .u32 (f0 : Int), .int .u32 (f1 : Int), .int .u64 (f2 : Int)] 35)
        have hb6 := nu_alloc (nu_trans hbr hb5) (.cells #[.int .u32 (f0 : Int), .int .u32 (f1 : Int), .int .u64 (f2 : Int)] 35)
        have HZ := Lib.hid (Blk.made w5 35 #[.int .u32 (f0 : Int), .int .u32 (f1 : Int), .int .u64 (f2 : Int)])
        have HX6 := Lib.hid (HX2.out.below hb6 HX2.out.lt)
        unfold entV
        clear hb5 hnr hbr
        go_wp2_with fail
        have z0 := HZ.out.at 0 _ rfl
        have z1 := HZ.out.at 1 _ rfl
        have z2 := HZ.out.at 2 _ rfl
        have y0 := HX6.out.at 0 _ rfl
        have y1 := HX6.out.at 1 _ rfl
        have y2 := HX6.out.at 2 _ rfl
        simp only [List.getElem_toArray, List.getElem_cons_zero, List.getElem_cons_succ] at z0 z1 z2 y0 y1 y2
        generalize w5.alloc (.cells #[.int .u32 (f0 : Int), .int .u32 (f1 : Int), .int .u64 (f2 : Int)] 35) = w6 at z0 z1 z2 y0 y1 y2 hn6 hb6 ⊢
        have Hat := Lib.hid (call_T (B := w) (C := w2) (refAt_any b off cap xs k w6.drew (by exact Hx.out.keep (nu_drew hn6)) hlc Hcm.out hlt) y0 y1 y2 z0 z1 z2 (nu_drew hn6) (nu_drew hb6))
        rw [Hf.out] at Hat
        have Hat0 := Hat.out
        simp only [entV] at Hat0
        have Hat1 := Lib.hid Hat0
        clear HZ HX6 Hat Hat0
        -- REGION15
        refine wp_region_held_drew (S := fun w' => w'.cell? ⟨w.heap.size, 0, none⟩ = some (.int .u32 (x0 : Int)) ∧ w'.cell? ⟨w.heap.size, 1, none⟩ = some (.int .u32 (x1 : Int)) ∧ w'.cell? ⟨w.heap.size, 2, none⟩ = some (.int .u64 (x2 : Int)) ∧ w'.cell? ⟨w5.heap.size, 0, none⟩ = some (.int .u32 (f0 : Int)) ∧ w'.cell? ⟨w5.heap.size, 1, none⟩ = some (.int .u32 (f1 : Int)) ∧ w'.cell? ⟨w5.heap.size, 2, none⟩ = some (.int .u64 (f2 : Int))) (by kernel_rfl) (by go_keep) (fun hHeld => ?_)
        dsimp only [Array.replicate, List.replicate, List.size_toArray, List.length_cons, List.length_nil, Nat.reduceAdd] at hHeld ⊢
        refine take_l (i := 0) (v := ?_) rfl (by kernel_rfl) (by kernel_rfl) (by kernel_rfl) (fun _ _ _ h => h) (Or.inl ⟨by rfl, ?_⟩) (by assumption) ?_
        case refine_2 => (intro w hSw; (try dsimp only at hSw); go_simp; all_goals with_reducible rfl)
        simp only [Act.put, List.setIfInBounds_toArray, List.set_cons_zero, List.set_cons_succ]
        refine take_l (i := 1) (v := ?_) rfl (by kernel_rfl) (by kernel_rfl) (by kernel_rfl) (fun _ _ _ h => h) (Or.inl ⟨by rfl, ?_⟩) (by assumption) ?_
        case refine_2 => (intro w hSw; (try dsimp only at hSw); go_simp; all_goals with_reducible rfl)
        simp only [Act.put, List.setIfInBounds_toArray, List.set_cons_zero, List.set_cons_succ]
        refine take_l (i := 2) (v := ?_) rfl (by kernel_rfl) (by kernel_rfl) (by kernel_rfl) (fun _ _ _ h => h) (Or.inl ⟨by rfl, ?_⟩) (by assumption) ?_
        case refine_2 => (intro w hSw; (try dsimp only at hSw); go_simp; all_goals with_reducible rfl)
        simp only [Act.put, List.setIfInBounds_toArray, List.set_cons_zero, List.set_cons_succ]
        refine take_l (i := 3) (v := ?_) rfl (by kernel_rfl) (by kernel_rfl) (by kernel_rfl) (fun _ _ _ h => h) (Or.inl ⟨by rfl, ?_⟩) (by assumption) ?_
        case refine_2 => (intro w hSw; (try dsimp only at hSw); go_simp; all_goals with_reducible rfl)
        simp only [Act.put, List.setIfInBounds_toArray, List.set_cons_zero, List.set_cons_succ]
        refine take_l (i := 4) (v := ?_) rfl (by kernel_rfl) (by kernel_rfl) (by kernel_rfl) (fun _ _ _ h => h) (Or.inl ⟨by rfl, ?_⟩) (by assumption) ?_
        case refine_2 => (intro w hSw; (try dsimp only at hSw); go_simp; all_goals with_reducible rfl)
        simp only [Act.put, List.setIfInBounds_toArray, List.set_cons_zero, List.set_cons_succ]
        refine take_l (i := 5) (v := ?_) rfl (by kernel_rfl) (by kernel_rfl) (by kernel_rfl) (fun _ _ _ h => h) (Or.inl ⟨by rfl, ?_⟩) (by assumption) ?_
        case refine_2 => (intro w hSw; (try dsimp only at hSw); go_simp; all_goals with_reducible rfl)
        simp only [Act.put, List.setIfInBounds_toArray, List.set_cons_zero, List.set_cons_succ]
        refine take_l (i := 6) (v := ?_) rfl (by kernel_rfl) (by kernel_rfl) (by kernel_rfl) (fun _ _ _ h => h) (Or.inl ⟨by rfl, ?_⟩) (by assumption) ?_
        case refine_2 => (intro w hSw; (try dsimp only at hSw); go_simp; all_goals with_reducible rfl)
        simp only [Act.put, List.setIfInBounds_toArray, List.set_cons_zero, List.set_cons_succ]
        refine take_l (i := 7) rfl (by kernel_rfl) (by kernel_rfl) (by kernel_rfl) (fun _ _ _ h => h) (Or.inr ⟨by rfl, rfl⟩) (by assumption) ?_
        simp only [Act.put, List.setIfInBounds_toArray, List.set_cons_zero, List.set_cons_succ]
        refine take_l (i := 8) rfl (by kernel_rfl) (by kernel_rfl) (by kernel_rfl) (fun _ _ _ h => h) (Or.inr ⟨by rfl, rfl⟩) (by assumption) ?_
        simp only [Act.put, List.setIfInBounds_toArray, List.set_cons_zero, List.set_cons_succ]
        refine take_l (i := 9) rfl (by kernel_rfl) (by kernel_rfl) (by kernel_rfl) (fun _ _ _ h => h) (Or.inr ⟨by rfl, rfl⟩) (by assumption) ?_
        simp only [Act.put, List.setIfInBounds_toArray, List.set_cons_zero, List.set_cons_succ]
        refine take_l (i := 10) (v := ?_) rfl (by kernel_rfl) (by kernel_rfl) (by kernel_rfl) (fun _ _ _ h => h) (Or.inl ⟨by rfl, ?_⟩) (by assumption) ?_
        case refine_2 => (intro w hSw; (try dsimp only at hSw); go_simp; all_goals with_reducible rfl)
        simp only [Act.put, List.setIfInBounds_toArray, List.set_cons_zero, List.set_cons_succ]
        refine take_l (i := 11) (v := ?_) rfl (by kernel_rfl) (by kernel_rfl) (by kernel_rfl) (fun _ _ _ h => h) (Or.inl ⟨by rfl, ?_⟩) (by assumption) ?_
        case refine_2 => (intro w hSw; (try dsimp only at hSw); go_simp; all_goals with_reducible rfl)
        simp only [Act.put, List.setIfInBounds_toArray, List.set_cons_zero, List.set_cons_succ]
        refine take_l (i := 12) (v := ?_) rfl (by kernel_rfl) (by kernel_rfl) (by kernel_rfl) (fun _ _ _ h => h) (Or.inl ⟨by rfl, ?_⟩) (by assumption) ?_
        case refine_2 => (intro w hSw; (try dsimp only at hSw); go_simp; all_goals with_reducible rfl)
        simp only [Act.put, List.setIfInBounds_toArray, List.set_cons_zero, List.set_cons_succ]
        refine take_l (i := 13) (v := ?_) rfl (by kernel_rfl) (by kernel_rfl) (by kernel_rfl) (fun _ _ _ h => h) (Or.inl ⟨by rfl, ?_⟩) (by assumption) ?_
        case refine_2 => (intro w hSw; (try dsimp only at hSw); go_simp; all_goals with_reducible rfl)
        simp only [Act.put, List.setIfInBounds_toArray, List.set_cons_zero, List.set_cons_succ]
        refine take_l (i := 14) (v := ?_) rfl (by kernel_rfl) (by kernel_rfl) (by kernel_rfl) (fun _ _ _ h => h) (Or.inl ⟨by rfl, ?_⟩) (by assumption) ?_
        case refine_2 => (intro w hSw; (try dsimp only at hSw); go_simp; all_goals with_reducible rfl)
        simp only [Act.put, List.setIfInBounds_toArray, List.set_cons_zero, List.set_cons_succ]
        refine take_l (i := 15) (v := ?_) rfl (by kernel_rfl) (by kernel_rfl) (by kernel_rfl) (fun _ _ _ h => h) (Or.inl ⟨by rfl, ?_⟩) (by assumption) ?_
        case refine_2 => (intro w hSw; (try dsimp only at hSw); go_simp; all_goals with_reducible rfl)
        simp only [Act.put, List.setIfInBounds_toArray, List.set_cons_zero, List.set_cons_succ]
        refine take_l (i := 16) (v := ?_) rfl (by kernel_rfl) (by kernel_rfl) (by kernel_rfl) (fun _ _ _ h => h) (Or.inl ⟨by rfl, ?_⟩) (by assumption) ?_
        case refine_2 => (intro w hSw; (try dsimp only at hSw); go_simp; all_goals with_reducible rfl)
        simp only [Act.put, List.setIfInBounds_toArray, List.set_cons_zero, List.set_cons_succ]
        refine take_l (i := 17) (v := ?_) rfl (by kernel_rfl) (by kernel_rfl) (by kernel_rfl) (fun _ _ _ h => h) (Or.inl ⟨by rfl, ?_⟩) (by assumption) ?_
        case refine_2 => (intro w hSw; (try dsimp only at hSw); go_simp; all_goals with_reducible rfl)
        simp only [Act.put, List.setIfInBounds_toArray, List.set_cons_zero, List.set_cons_succ]
        refine take_l (i := 18) (v := ?_) rfl (by kernel_rfl) (by kernel_rfl) (by kernel_rfl) (fun _ _ _ h => h) (Or.inl ⟨by rfl, ?_⟩) (by assumption) ?_
        case refine_2 => (intro w hSw; (try dsimp only at hSw); go_simp; all_goals with_reducible rfl)
        simp only [Act.put, List.setIfInBounds_toArray, List.set_cons_zero, List.set_cons_succ]
        refine take_l (i := 19) (v := ?_) rfl (by kernel_rfl) (by kernel_rfl) (by kernel_rfl) (fun _ _ _ h => h) (Or.inl ⟨by rfl, ?_⟩) (by assumption) ?_
        case refine_2 => (intro w hSw; (try dsimp only at hSw); go_simp; all_goals with_reducible rfl)
        simp only [Act.put, List.setIfInBounds_toArray, List.set_cons_zero, List.set_cons_succ]
        refine wpAnyH_ready (rs := [20]) (by kernel_rfl) (by simp) ?_
        refine cons_l rfl (fun K hK => ?_) AllReadyH.nil
        go_simp
        go_at_call 37
        refine (Hat1.out).mono ?_
        rintro e u1 ⟨rfl, hS, hn7, hb7⟩
        go_wp2_with fail
        refine hK.out _ _ hS (fun hHeld => ?_)
        clear hK K
        simp only [Act.put, List.setIfInBounds_toArray, List.set_cons_zero, List.set_cons_succ]
        refine take_l (i := 21) (v := ?_) rfl (by kernel_rfl) (by kernel_rfl) (by kernel_rfl) (fun _ _ _ h => h) (Or.inl ⟨by rfl, ?_⟩) (by assumption) ?_
        case refine_2 => (intro w hSw; (try dsimp only at hSw); go_simp; all_goals with_reducible rfl)
        simp only [Act.put, List.setIfInBounds_toArray, List.set_cons_zero, List.set_cons_succ]
        refine take_l (i := 22) (v := ?_) rfl (by kernel_rfl) (by kernel_rfl) (by kernel_rfl) (fun _ _ _ h => h) (Or.inl ⟨by rfl, ?_⟩) (by assumption) ?_
        case refine_2 => (intro w hSw; (try dsimp only at hSw); go_simp; all_goals with_reducible rfl)
        simp only [Act.put, List.setIfInBounds_toArray, List.set_cons_zero, List.set_cons_succ]
        refine take_l (i := 23) (v := ?_) rfl (by kernel_rfl) (by kernel_rfl) (by kernel_rfl) (fun _ _ _ h => h) (Or.inl ⟨by rfl, ?_⟩) (by assumption) ?_
        case refine_2 => (intro w hSw; (try dsimp only at hSw); go_simp; all_goals with_reducible rfl)
        simp only [Act.put, List.setIfInBounds_toArray, List.set_cons_zero, List.set_cons_succ]
        refine wpAnyH_done (by kernel_rfl) ?_ _
        go_wp2_with fail
        go_roundw
        case rel => exact ⟨k + 1, by omega, by go_num, hn7, hb7⟩
        case measure => simp [intOf]; omega
    · obtain rfl : k = 16 := by omega
      go_wp2_with fail
      refine (countAwake_any _).mono ?_
      rintro e w7 ⟨rfl, hb7⟩
      have hn7 := nu_trans hnr hb7
      go_wp2_with fail
      go_ret
      exact ⟨rfl, hn7⟩

theorem countSets_walk (a : Option Addr) (len cap : Nat) (xs : List Nat) (i : Int) (x0 x1 x2 : Int) (w : World) (hx : BytesIn w a len cap xs) (hlc : len ≤ cap) (hcm : cap ≤ maxLen) (hlen : len ≤ 140737488351232) (w0 : (Lit.int .u32 x0).wf = true) (w1 : (Lit.int .u32 x1).wf = true) (w2 : (Lit.int .u64 x2).wf = true) :
    Calls Try.prog 13 #[.slice a len cap, .int .i64 i, .agg #[.int .u32 x0, .int .u32 x1, .int .u64 x2]] w fun e w' => e = .returned (.bool true) ∧ Below w.heap.size w w' := by
  have b0 := bounds_u32 w0
  have b1 := bounds_u32 w1
  have b2 := bounds_u64 w2
  obtain ⟨x0, rfl⟩ := Int.eq_ofNat_of_zero_le b0.1
  obtain ⟨x1, rfl⟩ := Int.eq_ofNat_of_zero_le b1.1
  obtain ⟨x2, rfl⟩ := Int.eq_ofNat_of_zero_le b2.1
  by_cases hf : faultOf len i = 0
  · have hl : len = 256 := by
      refine Classical.byContradiction fun h => ?_
      rw [faultOf_len h] at hf
      split at hf <;> omega
    subst hl
    have hi : ¬ (i < 0 ∨ 15 < i) := fun h => by rw [faultOf_out h] at hf; omega
    obtain ⟨n, rfl⟩ := Int.eq_ofNat_of_zero_le (show 0 ≤ i by omega)
    obtain ⟨b, off, rfl, _⟩ := hx.1.2.2 (by omega)
    exact countSets_ok b off cap xs n x0 x1 x2 w hx hlc hcm (by omega) ⟨show x0 < _ by omega, show x1 < _ by omega, show x2 < _ by omega⟩
  · exact countSets_bad a len cap xs i x0 x1 x2 w hx hlen hf
end Go.Proofs.Ytogcckedelkpbaa
