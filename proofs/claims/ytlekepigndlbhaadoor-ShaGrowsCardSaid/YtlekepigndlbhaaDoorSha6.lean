/-
  The walk of sha.Sum.Sum.
-/
import Derived.Test.YtlekepigndlbhaaDoorSha5
import Derived.Deep.DeepCutAuto
import Derived.Deep.LoopGhost
namespace Go.Proofs.YtlekepigndlbhaaDoor
open Go.ChangeShapes Go.WideShapes Go.ChangeAt Go.RowKit

theorem own_below {w w' : World} {base : Nat} {e : TypeId} {size : Nat} {v : Value} {n : Nat} {xs : List Value} (h : w.ownsRow base e size v n xs) (hb : Below w.heap.size w w') : w'.ownsRow base e size v n xs :=
  h.kept (gb_of_below hb none) (by cases v.ownBlock <;> simp)
theorem own_ne {w : World} {base : Nat} {e t : TypeId} {size n g : Nat} {v : Value} {xs : List Value} {cs : Array Value} (h : w.ownsRow base e size v n xs) (hg : Blk w g t cs) (hne : e ≠ t) : some g ≠ v.ownBlock := by
  intro he
  rcases h.2 with ⟨rfl, _⟩ | ⟨g', cap, cur, rfl, _, hh, _⟩
  · simp [Value.ownBlock] at he
  · have e1 : g = g' := by simpa [Value.ownBlock] using he
    subst e1
    exact Blk.apart (t := e) hh hg hne rfl
theorem step_store_blk {P : Program} {ops : Array Oper} {o : Oper} {a : Act} {w : World} {K : Act → World → Prop} {Q : Exit → Act → World → Prop} {G : Prop} (hgd : o.guard = none) (ty : TypeId) (x y : Operand) (ho : o.op = .store ty x y) (g : Nat) (vs : List Value) (hx : a.eval x = .pointer (some ⟨g, 0, none⟩)) (hy : a.eval y = .agg vs.toArray)
    (t : TypeId) (cs : Array Value) (hb : Blk w g t cs) (hl : vs.length = cs.size) (hi : (P.info? ty).map (·.size) = some vs.length) (h1 : ∀ v ∈ vs, v.oneCell' = true)
    (h : K (a.put o.dst undef) (w.setCells g 0 vs)) : if Region.wanted o (yielded ops a.tmps) = true then Oper.wp P o a w K Q else G := by
  have hw : Region.wanted o (yielded ops a.tmps) = true := by simp [Region.wanted, hgd]
  rw [if_pos hw]
  exact wp_store_mid ty x y ho g 0 vs.toArray hx hy (hb.there 0 _ (by simp; omega)) (by simpa using hi) (all_oneCell_toArray h1) (by simpa using h)
theorem exec_endsum {o : Oper} {a : Act} {w : World} (v : V8) (va : Option Addr) (vn vc : Nat) (x y : Operand) (ho : o.op = .build 58 #[(0, x), (1, y)]) (hx : a.eval x = .agg (v.l.map wv).toArray) (hy : a.eval y = .slice va vn vc) : (execOp a.eval o).run Tryd.prog w = .ok (.value (.agg (sumL v (.slice va vn vc) 0).toArray)) w := by
  have h : (Instr.build 58 #[(0, .agg (v.l.map wv).toArray), (1, .slice va vn vc)]).run Tryd.prog w = .ok (.agg (sumL v (.slice va vn vc) 0).toArray) w := by kernel_rfl
  unfold execOp
  simp [ho, hx, hy, h]
theorem sum_one {w : World} {base : Nat} {v' : Value} {l : List Nat} (v : V8) (ho : OwnB w base 5 v' l) : ∀ u ∈ sumL v v' 0, u.oneCell' = true := fun u hu => by
  unfold sumL at hu
  rcases List.mem_append.1 hu with hu | hu
  · exact wv_one _ u hu
  · simp at hu
    rcases hu with rfl | rfl
    · obtain ⟨a, c, rfl, _⟩ := ho.reads
      rfl
    · rfl
theorem ownB_below {w w' : World} {base : Nat} {e : TypeId} {v : Value} {xs : List Nat} (h : OwnB w base e v xs) (hb : Below w.heap.size w w') : OwnB w' base e v xs :=
  ⟨h.1.kept (gb_of_below hb none) (by cases v.ownBlock <;> simp), h.2⟩
theorem SumIs.below {w w' : World} {base g : Nat} {xs : List Nat} {m : Nat} {rv : Value} (h : SumIs w base g xs m rv) (hb : Below w.heap.size w w') : SumIs w' base g xs m rv :=
  ⟨Blk.below h.1 hb (Blk.lt h.1), ownB_below h.2 hb⟩
/-- One byte is written. -/
theorem write_byte {w : World} {base g : Nat} {xs : List Nat} {m : Nat} {rv : Value} (h : SumIs w base g xs m rv) (hT : TabIn w) (h0 : 0 < base) (hbs : base ≤ w.heap.size) (hbg : base ≤ g) (hmm : m + 1 < 9223372036854775808) (x : Nat) (hx : x < 256) :
    Calls Tryd.prog 22 #[.pointer (some ⟨g, 0, none⟩), .slice (some ⟨w.heap.size, 0, none⟩) 1 1] (w.alloc (.cells #[.int .u8 x] 5)) fun e w' => e = .returned (.tuple #[]) ∧
      (∃ rv', SumIs w' base g (xs ++ [x]) (m + 1) rv') ∧ Below base w w' := by
  have hal := nu_alloc (nu_refl w) (.cells #[.int .u8 x] 5)
  have hg := Blk.lt h.1
  have hby : BytesIn (w.alloc (.cells #[.int .u8 x] 5)) (some ⟨w.heap.size, 0, none⟩) 1 1 [x] := by
    refine ⟨⟨rfl, fun y hy => ?_, fun _ => ⟨w.heap.size, 0, rfl, by simp, fun j n hn => ?_⟩⟩, fun e => by cases e⟩
    · simp at hy
      subst hy
      exact wf_u8_of hx
    · have hj : j = 0 := by
        have := (List.getElem?_eq_some_iff.1 hn).1
        simp at this
        exact this
      subst hj
      simp at hn
      subst hn
      exact (Blk.made w 5 #[.int .u8 x]).at 0 _ rfl
  refine (write_any (h.below hal) (hT.below hal (by omega)) h0 (by simp; omega) (by omega) _ 1 1 [x] hby (by omega) (by unfold maxLen; omega) hmm (fun _ ad had => ?_)).mono ?_
  · injection had with had
    subst had
    exact ⟨Nat.ne_of_gt hg, fun e => Nat.ne_of_lt (own_low h.2 _ e).2 rfl⟩
  · rintro e w' ⟨he, rv', hs, ht, _⟩
    exact ⟨he, ⟨rv', hs⟩, (hal.mono hbs).trans (ht.below (by simp; omega) hbg (fun j hj => (own_low h.2 j hj).1))⟩
theorem write_byte_v {w : World} {base g : Nat} {xs : List Nat} {m : Nat} {rv : Value} (h : SumIs w base g xs m rv) (hT : TabIn w) (h0 : 0 < base) (hbs : base ≤ w.heap.size) (hbg : base ≤ g) (hmm : m + 1 < 9223372036854775808) (x : Nat) (hx : x < 256) (y : Int) (hy : y = (x : Int)) :
    Calls Tryd.prog 22 #[.pointer (some ⟨g, 0, none⟩), .slice (some ⟨w.heap.size, 0, none⟩) 1 1] (w.alloc (.cells #[.int .u8 y] 5)) fun e w' => e = .returned (.tuple #[]) ∧
      (∃ rv', SumIs w' base g (xs ++ [x]) (m + 1) rv') ∧ Below base w w' := by
  subst hy
  exact write_byte h hT h0 hbs hbg hmm x hx
/-- The first 4 * k bytes of a digest. -/
def dfill (v : V8) (k : Nat) : List Nat := (dig v).take (4 * k) ++ List.replicate (32 - 4 * k) 0
theorem vb_mod (y : Int) : Value.int .u8 (y % 256) = vb (y % 256).toNat := by
  unfold vb
  rw [Int.toNat_of_nonneg (by omega)]
theorem exec_ix0 {o : Oper} {a : Act} {w : World} (v : V8) (x y : Operand) (ho : o.op = .index 54 x y) (hx : a.eval x = .agg #[.int .u32 v.a, .int .u32 v.b, .int .u32 v.c, .int .u32 v.d, .int .u32 v.e, .int .u32 v.f, .int .u32 v.g, .int .u32 v.h]) (hy : a.eval y = .int .i64 0) : (execOp a.eval o).run Tryd.prog w = .ok (.value (.int .u32 v.a)) w := by
  unfold execOp
  simp only [ho, hx, hy]
  kernel_rfl
theorem exec_ix1 {o : Oper} {a : Act} {w : World} (v : V8) (x y : Operand) (ho : o.op = .index 54 x y) (hx : a.eval x = .agg #[.int .u32 v.a, .int .u32 v.b, .int .u32 v.c, .int .u32 v.d, .int .u32 v.e, .int .u32 v.f, .int .u32 v.g, .int .u32 v.h]) (hy : a.eval y = .int .i64 1) : (execOp a.eval o).run Tryd.prog w = .ok (.value (.int .u32 v.b)) w := by
  unfold execOp
  simp only [ho, hx, hy]
  kernel_rfl
theorem exec_ix2 {o : Oper} {a : Act} {w : World} (v : V8) (x y : Operand) (ho : o.op = .index 54 x y) (hx : a.eval x = .agg #[.int .u32 v.a, .int .u32 v.b, .int .u32 v.c, .int .u32 v.d, .int .u32 v.e, .int .u32 v.f, .int .u32 v.g, .int .u32 v.h]) (hy : a.eval y = .int .i64 2) : (execOp a.eval o).run Tryd.prog w = .ok (.value (.int .u32 v.c)) w := by
  unfold execOp
  simp only [ho, hx, hy]
  kernel_rfl
theorem exec_ix3 {o : Oper} {a : Act} {w : World} (v : V8) (x y : Operand) (ho : o.op = .index 54 x y) (hx : a.eval x = .agg #[.int .u32 v.a, .int .u32 v.b, .int .u32 v.c, .int .u32 v.d, .int .u32 v.e, .int .u32 v.f, .int .u32 v.g, .int .u32 v.h]) (hy : a.eval y = .int .i64 3) : (execOp a.eval o).run Tryd.prog w = .ok (.value (.int .u32 v.d)) w := by
  unfold execOp
  simp only [ho, hx, hy]
  kernel_rfl
theorem exec_ix4 {o : Oper} {a : Act} {w : World} (v : V8) (x y : Operand) (ho : o.op = .index 54 x y) (hx : a.eval x = .agg #[.int .u32 v.a, .int .u32 v.b, .int .u32 v.c, .int .u32 v.d, .int .u32 v.e, .int .u32 v.f, .int .u32 v.g, .int .u32 v.h]) (hy : a.eval y = .int .i64 4) : (execOp a.eval o).run Tryd.prog w = .ok (.value (.int .u32 v.e)) w := by
  unfold execOp
  simp only [ho, hx, hy]
  kernel_rfl
theorem exec_ix5 {o : Oper} {a : Act} {w : World} (v : V8) (x y : Operand) (ho : o.op = .index 54 x y) (hx : a.eval x = .agg #[.int .u32 v.a, .int .u32 v.b, .int .u32 v.c, .int .u32 v.d, .int .u32 v.e, .int .u32 v.f, .int .u32 v.g, .int .u32 v.h]) (hy : a.eval y = .int .i64 5) : (execOp a.eval o).run Tryd.prog w = .ok (.value (.int .u32 v.f)) w := by
  unfold execOp
  simp only [ho, hx, hy]
  kernel_rfl
theorem exec_ix6 {o : Oper} {a : Act} {w : World} (v : V8) (x y : Operand) (ho : o.op = .index 54 x y) (hx : a.eval x = .agg #[.int .u32 v.a, .int .u32 v.b, .int .u32 v.c, .int .u32 v.d, .int .u32 v.e, .int .u32 v.f, .int .u32 v.g, .int .u32 v.h]) (hy : a.eval y = .int .i64 6) : (execOp a.eval o).run Tryd.prog w = .ok (.value (.int .u32 v.g)) w := by
  unfold execOp
  simp only [ho, hx, hy]
  kernel_rfl
theorem exec_ix7 {o : Oper} {a : Act} {w : World} (v : V8) (x y : Operand) (ho : o.op = .index 54 x y) (hx : a.eval x = .agg #[.int .u32 v.a, .int .u32 v.b, .int .u32 v.c, .int .u32 v.d, .int .u32 v.e, .int .u32 v.f, .int .u32 v.g, .int .u32 v.h]) (hy : a.eval y = .int .i64 7) : (execOp a.eval o).run Tryd.prog w = .ok (.value (.int .u32 v.h)) w := by
  unfold execOp
  simp only [ho, hx, hy]
  kernel_rfl
theorem dlist (v : V8) (k : Nat) (hk : k < 8) : ∃ x : Int, v.l[k]? = some x ∧ ((((dfill v k).set (4 * k) (x / 16777216 % 256).toNat).set (4 * k + 1) (x / 65536 % 256).toNat).set (4 * k + 2) (x / 256 % 256).toNat).set (4 * k + 3) (x % 256).toNat = dfill v (k + 1) := by
  rcases (show k = 0 ∨ k = 1 ∨ k = 2 ∨ k = 3 ∨ k = 4 ∨ k = 5 ∨ k = 6 ∨ k = 7 by omega) with rfl | rfl | rfl | rfl | rfl | rfl | rfl | rfl
  · exact ⟨v.a, rfl, rfl⟩
  · exact ⟨v.b, rfl, rfl⟩
  · exact ⟨v.c, rfl, rfl⟩
  · exact ⟨v.d, rfl, rfl⟩
  · exact ⟨v.e, rfl, rfl⟩
  · exact ⟨v.f, rfl, rfl⟩
  · exact ⟨v.g, rfl, rfl⟩
  · exact ⟨v.h, rfl, rfl⟩
theorem dput (v : V8) (k : Nat) (hk : k < 8) : ∃ x : Int, v.l[k]? = some x ∧ ((((((dfill v k).map vb).toArray.setIfInBounds (4 * k) (.int .u8 (x / 16777216 % 256))).setIfInBounds (4 * k + 1) (.int .u8 (x / 65536 % 256))).setIfInBounds (4 * k + 2) (.int .u8 (x / 256 % 256))).setIfInBounds (4 * k + 3) (.int .u8 (x % 256))) = ((dfill v (k + 1)).map vb).toArray := by
  obtain ⟨x, hx, hl⟩ := dlist v k hk
  refine ⟨x, hx, ?_⟩
  rw [vb_mod (x / 16777216), vb_mod (x / 65536), vb_mod (x / 256), vb_mod x, arr_set, arr_set, arr_set, arr_set, hl]
theorem dfill_len (v : V8) (k : Nat) (hk : k ≤ 8) : (dfill v k).length = 32 := by
  unfold dfill
  rw [List.length_append, List.length_take, dig_len, List.length_replicate]
  omega
abbrev z32 : Array Value := #[.int .u8 0, .int .u8 0, .int .u8 0, .int .u8 0, .int .u8 0, .int .u8 0, .int .u8 0, .int .u8 0, .int .u8 0, .int .u8 0, .int .u8 0, .int .u8 0, .int .u8 0, .int .u8 0, .int .u8 0, .int .u8 0, .int .u8 0, .int .u8 0, .int .u8 0, .int .u8 0, .int .u8 0, .int .u8 0, .int .u8 0, .int .u8 0, .int .u8 0, .int .u8 0, .int .u8 0, .int .u8 0, .int .u8 0, .int .u8 0, .int .u8 0, .int .u8 0]

set_option maxRecDepth 100000 in
set_option maxHeartbeats 4000000 in
theorem sum_any {w : World} {base g : Nat} {xs : List Nat} {m : Nat} {rv : Value} (h : SumIs w base g xs m rv) (hT : TabIn w) (hm : m = xs.length) (hlen : xs.length < 1152921504606846976) :
    Calls Tryd.prog 21 #[.pointer (some ⟨g, 0, none⟩)] w fun e w' => e = .returned (.agg ((digest xs).map vb).toArray) ∧ Below w.heap.size w w' := by
  obtain ⟨i0, hi, hz0, hz1, hz2⟩ := info_parts info_u8
  have Hi := Lib.hid (And.intro hi (And.intro hz0 (And.intro hz1 hz2)))
  obtain ⟨ra, rc, hrv, hrc, hrcm, _⟩ := h.2.reads
  obtain ⟨r, hr⟩ : ∃ r, r = (lst xs).length := ⟨_, rfl⟩
  have hXl := lst_len xs
  rw [← hr] at hrv hrc hXl
  have hal := nu_alloc (nu_refl w) (.cells z32 25)
  have HS0 := Lib.hid (show SumAt (w.alloc (.cells z32 25)) g (mid xs) rv m from (h.below hal).1)
  have HO0 := Lib.hid (h.below hal).2
  have HT0 := Lib.hid (hT.below hal hT.size)
  have HR0 := Lib.hid (Blk.made w 25 z32)
  have Hal := Lib.hid hal
  have Hr := Lib.hid (And.intro hr (And.intro hXl (And.intro hrc hrcm)))
  have Hm := Lib.hid (And.intro hm hlen)
  have hgl := Blk.lt h.1
  clear hi hz0 hz1 hz2 hr hXl hrc hrcm hal hm hlen hT h
  subst hrv
  go_enter Tryd.func21, Tryd.ntmps21
  go_upto_region 3 with fail
  generalize w.alloc (.cells z32 25) = w0 at *
  have HB0 := Lib.hid (show BytesIn w0 ra r rc (lst xs) from by obtain ⟨a', c', h1, _, _, h2⟩ := HO0.out.reads; rw [← Hr.out.1] at h1 h2; injection h1 with e1 e2 e3; subst e1 e3; exact h2)
  have Hsl := Lib.hid (show ((lst xs).map vb).length = r * 1 by rw [List.length_map, ← Hr.out.1]; omega)
  have hn0 := nu_drew (nu_refl w0)
  go_cut [3] (fun s3 wx => ∃ (E : Nat) (rv' : Value), s3 = .pointer (some ⟨E, 0, none⟩) ∧ SumIs wx w0.heap.size E xs 0 rv' ∧ w0.heap.size ≤ E ∧ Below w0.heap.size w0 wx)
  case first =>
    refine wp_region_held_drew (S := fun W => SumAt W g (mid xs) (.slice ra r rc) m) (by kernel_rfl) (HS0.out.drew) (fun hHeld => ?_)
    dsimp only [Array.replicate, List.replicate, List.size_toArray, List.length_cons, List.length_nil, Nat.reduceAdd] at hHeld ⊢
    generalize w0.drew = u0x at *
    refine take_l (i := 0) (v := ?_) rfl (by kernel_rfl) (by kernel_rfl) (by kernel_rfl) (fun _ _ _ h => h) (Or.inl ⟨by rfl, ?_⟩) (by assumption) ?_
    case refine_2 => (intro _ _; go_simp; all_goals with_reducible rfl)
    simp only [Act.put, List.setIfInBounds_toArray, List.set_cons_zero, List.set_cons_succ]
    refine take_l (i := 1) (v := ?_) rfl (by kernel_rfl) (by kernel_rfl) (by kernel_rfl) (fun _ _ _ h => h) (Or.inl ⟨by rfl, ?_⟩) (by assumption) ?_
    case refine_2 => (intro _ _; go_simp; all_goals with_reducible rfl)
    simp only [Act.put, List.setIfInBounds_toArray, List.set_cons_zero, List.set_cons_succ]
    refine take_l (i := 2) (v := ?_) rfl (by kernel_rfl) (by kernel_rfl) (by kernel_rfl) (fun _ _ _ h => h) (Or.inl ⟨by rfl, ?_⟩) (by assumption) ?_
    case refine_2 => (intro _ _; go_simp; all_goals with_reducible rfl)
    simp only [Act.put, List.setIfInBounds_toArray, List.set_cons_zero, List.set_cons_succ]
    refine take_l (i := 5) (v := ?_) rfl (by kernel_rfl) (by kernel_rfl) (by kernel_rfl) (fun _ _ _ h => h) (Or.inl ⟨by rfl, ?_⟩) (by assumption) ?_
    case refine_2 => (intro _ _; go_simp; all_goals with_reducible rfl)
    simp only [Act.put, List.setIfInBounds_toArray, List.set_cons_zero, List.set_cons_succ]
    refine take_l (i := 6) (v := ?_) rfl (by kernel_rfl) (by kernel_rfl) (by kernel_rfl) (fun _ _ _ h => h) (Or.inl ⟨by rfl, ?_⟩) (by assumption) ?_
    case refine_2 => (intro _ _; go_simp; all_goals with_reducible rfl)
    simp only [Act.put, List.setIfInBounds_toArray, List.set_cons_zero, List.set_cons_succ]
    refine take_l (i := 7) (v := ?_) rfl (by kernel_rfl) (by kernel_rfl) (by kernel_rfl) (fun _ _ _ h => h) (Or.inl ⟨by rfl, ?_⟩) (by assumption) ?_
    case refine_2 => (intro _ _; go_simp; all_goals with_reducible rfl)
    simp only [Act.put, List.setIfInBounds_toArray, List.set_cons_zero, List.set_cons_succ]
    refine take_l (i := 3) rfl (by kernel_rfl) (by kernel_rfl) (by kernel_rfl) (fun _ _ _ h => h) (Or.inl ⟨by rfl, fun W hS => exec_load_mid _ (.tmp 13) g 0 ((mid xs).l.map wv) (.array 8 49) rfl rfl (range_mid hS (l := []) (r := [.slice ra r rc, .int .u64 m]) (by simp [sumL]) rfl) (by kernel_rfl) rfl (by kernel_rfl)⟩) (by assumption) ?_
    simp only [Act.put, List.setIfInBounds_toArray, List.set_cons_zero, List.set_cons_succ]
    refine take_l (i := 8) (v := ?_) rfl (by kernel_rfl) (by kernel_rfl) (by kernel_rfl) (fun _ _ _ h => h) (Or.inl ⟨by rfl, ?_⟩) (by assumption) ?_
    case refine_2 => (intro W hS; have c8 : W.cell? ⟨g, 8, none⟩ = some (.slice ra r rc) := Blk.at hS 8 _ rfl; go_simp; all_goals with_reducible rfl)
    simp only [Act.put, List.setIfInBounds_toArray, List.set_cons_zero, List.set_cons_succ]
    refine wpAnyH_ready (rs := [4, 11]) (by kernel_rfl) (by simp) ?_
    refine cons_l rfl (fun K hK => ?_) (cons_l rfl (fun K hK => ?_) AllReadyH.nil)
    · have hn1 := nu_alloc hn0 (.cells #[] 5)
      have Hown1 := Lib.hid (World.ownsRow_made (base := w0.heap.size) (e := 5) (size := 1) u0x #[] 0 (by exact hn0.size) (by unfold maxLen; omega) rfl)
      go_simp
      go_wp2_with fail
      generalize u0x.heap.size = j at *
      generalize u0x.alloc (.cells #[] 5) = u1x at *
      refine hK.out _ _ (Blk.below HS0.out hn1 (Blk.lt HS0.out)) (fun hHeld => ?_)
      clear hK K
      simp only [Act.put, List.setIfInBounds_toArray, List.set_cons_zero, List.set_cons_succ]
      refine wpAnyH_ready (rs := [9, 11]) (by kernel_rfl) (by simp) ?_
      refine cons_l rfl (fun K hK => ?_) (cons_l rfl (fun K hK => ?_) AllReadyH.nil)
      · have Hsrc := Lib.hid (show BytesIn u1x ra r rc (lst xs) from BytesIn.keep HB0.out hn1)
        refine step_append_own rfl (.tmp 15) (.tmp 19) 22 rfl w0.heap.size 5 i0 (.int .u8 0) 1 1 Tryd.underlying22 Hi.out.1 Hi.out.2.1 Hi.out.2.2.1 Hi.out.2.2.2 rfl (by decide) (.slice (some ⟨j, 0, none⟩) 0 0) 0 [] rfl Hown1.out ra r rc ((lst xs).map vb) rfl Hsrc.out.2 Hsl.out Hsrc.out.src (vb_one _) (by unfold maxLen; have := Hr.out.2.1; omega) (by have := Hr.out.2.1; omega) hn1.size ?_
        intro v' u2x hown hgr hat
        have hn2 := nu_grown hn1 (k := j) hgr (Hown1.out.lt j rfl).1
        have Hown2 := Lib.hid (show OwnB u2x w0.heap.size 5 v' (lst xs) from ⟨by have h := hown; rw [Nat.zero_add, List.nil_append, Hr.out.1] at h; exact h, HO0.out.2⟩)
        clear hown hgr hat
        obtain ⟨va, vc, hve, _⟩ := Hown2.out.reads
        generalize (lst xs).length = vn at hve
        subst hve
        refine hK.out _ _ (Blk.below HS0.out hn2 (Blk.lt HS0.out)) (fun hHeld => ?_)
        clear hK K
        simp only [Act.put, List.setIfInBounds_toArray, List.set_cons_zero, List.set_cons_succ]
        refine take_l (i := 10) rfl (by kernel_rfl) (by kernel_rfl) (by kernel_rfl) (fun _ _ _ h => h) (Or.inl ⟨by rfl, fun _ _ => exec_endsum _ _ _ _ (.tmp 14) (.tmp 20) rfl rfl rfl⟩) (by assumption) ?_
        simp only [Act.put, List.setIfInBounds_toArray, List.set_cons_zero, List.set_cons_succ]
        refine wpAnyH_ready (rs := [11]) (by kernel_rfl) (by simp) ?_
        refine cons_l rfl (fun K hK => ?_) AllReadyH.nil
        have hn3 := nu_alloc hn2 (.cells #[.int .u32 0, .int .u32 0, .int .u32 0, .int .u32 0, .int .u32 0, .int .u32 0, .int .u32 0, .int .u32 0, .slice none 0 0, .int .u64 0] 58)
        have HE3 := Lib.hid (Blk.made u2x 58 #[.int .u32 0, .int .u32 0, .int .u32 0, .int .u32 0, .int .u32 0, .int .u32 0, .int .u32 0, .int .u32 0, .slice none 0 0, .int .u64 0])
        have HEb := Lib.hid (show w0.heap.size ≤ u2x.heap.size from hn2.size)
        have Hown3 := Lib.hid (ownB_below Hown2.out (nu_alloc (nu_refl u2x) (.cells #[.int .u32 0, .int .u32 0, .int .u32 0, .int .u32 0, .int .u32 0, .int .u32 0, .int .u32 0, .int .u32 0, .slice none 0 0, .int .u64 0] 58)))
        go_simp
        go_wp2_with fail
        generalize u2x.heap.size = E at *
        generalize u2x.alloc (.cells #[.int .u32 0, .int .u32 0, .int .u32 0, .int .u32 0, .int .u32 0, .int .u32 0, .int .u32 0, .int .u32 0, .slice none 0 0, .int .u64 0] 58) = u3x at *
        refine hK.out _ _ (Blk.below HS0.out hn3 (Blk.lt HS0.out)) (fun hHeld => ?_)
        clear hK K
        simp only [Act.put, List.setIfInBounds_toArray, List.set_cons_zero, List.set_cons_succ]
        refine wpAnyH_ready (rs := [12]) (by kernel_rfl) (by simp) ?_
        refine cons_l rfl (fun K hK => ?_) AllReadyH.nil
        have hEo : (Value.slice va vn vc).ownBlock ≠ some E := own_apart Hown3.out HE3.out
        refine step_store_blk rfl 58 (.tmp 3) (.tmp 21) rfl E (sumL (mid xs) (.slice va vn vc) 0) rfl rfl 58 _ HE3.out rfl (by kernel_rfl) (sum_one _ Hown3.out) ?_
        have hgf := gb_fill (g := E) (sumL (mid xs) (.slice va vn vc) 0) 0 u3x (gb_refl u3x (some E))
        have HEf := Lib.hid (Blk.fill HE3.out (sumL (mid xs) (.slice va vn vc) 0) rfl)
        have hnf := nu_fill (sumL (mid xs) (.slice va vn vc) 0) HEb.out 0 u3x hn3
        have HOf := Lib.hid (own_grown Hown3.out hgf hEo)
        refine hK.out _ _ (Blk.below HS0.out hnf (Blk.lt HS0.out)) (fun hHeld => ?_)
        clear hK K
        simp only [Act.put, List.setIfInBounds_toArray, List.set_cons_zero, List.set_cons_succ]
        refine wpAnyH_done (by kernel_rfl) ?_ _
        generalize u3x.setCells E 0 (sumL (mid xs) (.slice va vn vc) 0) = wf at *
        go_wp2_with fail
        go_meet
        exact ⟨E, (.slice va vn vc), rfl, ⟨HEf.out, HOf.out⟩, HEb.out, hnf⟩
      · have hn2 := nu_alloc hn1 (.cells #[.int .u32 0, .int .u32 0, .int .u32 0, .int .u32 0, .int .u32 0, .int .u32 0, .int .u32 0, .int .u32 0, .slice none 0 0, .int .u64 0] 58)
        have HE2 := Lib.hid (Blk.made u1x 58 #[.int .u32 0, .int .u32 0, .int .u32 0, .int .u32 0, .int .u32 0, .int .u32 0, .int .u32 0, .int .u32 0, .slice none 0 0, .int .u64 0])
        have HEb := Lib.hid (show w0.heap.size ≤ u1x.heap.size from hn1.size)
        have Hown2 := Lib.hid (own_below Hown1.out (nu_alloc (nu_refl u1x) (.cells #[.int .u32 0, .int .u32 0, .int .u32 0, .int .u32 0, .int .u32 0, .int .u32 0, .int .u32 0, .int .u32 0, .slice none 0 0, .int .u64 0] 58)))
        go_simp
        go_wp2_with fail
        generalize u1x.heap.size = E at *
        generalize u1x.alloc (.cells #[.int .u32 0, .int .u32 0, .int .u32 0, .int .u32 0, .int .u32 0, .int .u32 0, .int .u32 0, .int .u32 0, .slice none 0 0, .int .u64 0] 58) = u2x at *
        refine hK.out _ _ (Blk.below HS0.out hn2 (Blk.lt HS0.out)) (fun hHeld => ?_)
        clear hK K
        simp only [Act.put, List.setIfInBounds_toArray, List.set_cons_zero, List.set_cons_succ]
        refine wpAnyH_ready (rs := [9]) (by kernel_rfl) (by simp) ?_
        refine cons_l rfl (fun K hK => ?_) AllReadyH.nil
        have Hsrc := Lib.hid (show BytesIn u2x ra r rc (lst xs) from BytesIn.keep HB0.out hn2)
        refine step_append_own rfl (.tmp 15) (.tmp 19) 22 rfl w0.heap.size 5 i0 (.int .u8 0) 1 1 Tryd.underlying22 Hi.out.1 Hi.out.2.1 Hi.out.2.2.1 Hi.out.2.2.2 rfl (by decide) (.slice (some ⟨j, 0, none⟩) 0 0) 0 [] rfl Hown2.out ra r rc ((lst xs).map vb) rfl Hsrc.out.2 Hsl.out Hsrc.out.src (vb_one _) (by unfold maxLen; have := Hr.out.2.1; omega) (by have := Hr.out.2.1; omega) hn2.size ?_
        intro v' u3x hown hgr hat
        have hn3 := nu_grown hn2 (k := j) hgr (Hown2.out.lt j rfl).1
        have Hown3 := Lib.hid (show OwnB u3x w0.heap.size 5 v' (lst xs) from ⟨by have h := hown; rw [Nat.zero_add, List.nil_append, Hr.out.1] at h; exact h, HO0.out.2⟩)
        have HE3 := Lib.hid (Blk.grown HE2.out hgr (own_ne Hown2.out HE2.out (by decide)))
        clear hown hgr hat
        obtain ⟨va, vc, hve, _⟩ := Hown3.out.reads
        generalize (lst xs).length = vn at hve
        subst hve
        refine hK.out _ _ (Blk.below HS0.out hn3 (Blk.lt HS0.out)) (fun hHeld => ?_)
        clear hK K
        simp only [Act.put, List.setIfInBounds_toArray, List.set_cons_zero, List.set_cons_succ]
        refine take_l (i := 10) rfl (by kernel_rfl) (by kernel_rfl) (by kernel_rfl) (fun _ _ _ h => h) (Or.inl ⟨by rfl, fun _ _ => exec_endsum _ _ _ _ (.tmp 14) (.tmp 20) rfl rfl rfl⟩) (by assumption) ?_
        simp only [Act.put, List.setIfInBounds_toArray, List.set_cons_zero, List.set_cons_succ]
        refine wpAnyH_ready (rs := [12]) (by kernel_rfl) (by simp) ?_
        refine cons_l rfl (fun K hK => ?_) AllReadyH.nil
        have hEo : (Value.slice va vn vc).ownBlock ≠ some E := own_apart Hown3.out HE3.out
        refine step_store_blk rfl 58 (.tmp 3) (.tmp 21) rfl E (sumL (mid xs) (.slice va vn vc) 0) rfl rfl 58 _ HE3.out rfl (by kernel_rfl) (sum_one _ Hown3.out) ?_
        have hgf := gb_fill (g := E) (sumL (mid xs) (.slice va vn vc) 0) 0 u3x (gb_refl u3x (some E))
        have HEf := Lib.hid (Blk.fill HE3.out (sumL (mid xs) (.slice va vn vc) 0) rfl)
        have hnf := nu_fill (sumL (mid xs) (.slice va vn vc) 0) HEb.out 0 u3x hn3
        have HOf := Lib.hid (own_grown Hown3.out hgf hEo)
        refine hK.out _ _ (Blk.below HS0.out hnf (Blk.lt HS0.out)) (fun hHeld => ?_)
        clear hK K
        simp only [Act.put, List.setIfInBounds_toArray, List.set_cons_zero, List.set_cons_succ]
        refine wpAnyH_done (by kernel_rfl) ?_ _
        generalize u3x.setCells E 0 (sumL (mid xs) (.slice va vn vc) 0) = wf at *
        go_wp2_with fail
        go_meet
        exact ⟨E, (.slice va vn vc), rfl, ⟨HEf.out, HOf.out⟩, HEb.out, hnf⟩
    · have hn1 := nu_alloc hn0 (.cells #[.int .u32 0, .int .u32 0, .int .u32 0, .int .u32 0, .int .u32 0, .int .u32 0, .int .u32 0, .int .u32 0, .slice none 0 0, .int .u64 0] 58)
      have HE1 := Lib.hid (Blk.made u0x 58 #[.int .u32 0, .int .u32 0, .int .u32 0, .int .u32 0, .int .u32 0, .int .u32 0, .int .u32 0, .int .u32 0, .slice none 0 0, .int .u64 0])
      have HEb := Lib.hid (show w0.heap.size ≤ u0x.heap.size from hn0.size)
      go_simp
      go_wp2_with fail
      generalize u0x.heap.size = E at *
      generalize u0x.alloc (.cells #[.int .u32 0, .int .u32 0, .int .u32 0, .int .u32 0, .int .u32 0, .int .u32 0, .int .u32 0, .int .u32 0, .slice none 0 0, .int .u64 0] 58) = u1x at *
      refine hK.out _ _ (Blk.below HS0.out hn1 (Blk.lt HS0.out)) (fun hHeld => ?_)
      clear hK K
      simp only [Act.put, List.setIfInBounds_toArray, List.set_cons_zero, List.set_cons_succ]
      refine wpAnyH_ready (rs := [4]) (by kernel_rfl) (by simp) ?_
      refine cons_l rfl (fun K hK => ?_) AllReadyH.nil
      have hn2 := nu_alloc hn1 (.cells #[] 5)
      have Hown2 := Lib.hid (World.ownsRow_made (base := w0.heap.size) (e := 5) (size := 1) u1x #[] 0 (by exact hn1.size) (by unfold maxLen; omega) rfl)
      have HE2 := Lib.hid (Blk.alloc HE1.out (.cells #[] 5))
      go_simp
      go_wp2_with fail
      generalize u1x.heap.size = j at *
      generalize u1x.alloc (.cells #[] 5) = u2x at *
      refine hK.out _ _ (Blk.below HS0.out hn2 (Blk.lt HS0.out)) (fun hHeld => ?_)
      clear hK K
      simp only [Act.put, List.setIfInBounds_toArray, List.set_cons_zero, List.set_cons_succ]
      refine wpAnyH_ready (rs := [9]) (by kernel_rfl) (by simp) ?_
      refine cons_l rfl (fun K hK => ?_) AllReadyH.nil
      have Hsrc := Lib.hid (show BytesIn u2x ra r rc (lst xs) from BytesIn.keep HB0.out hn2)
      refine step_append_own rfl (.tmp 15) (.tmp 19) 22 rfl w0.heap.size 5 i0 (.int .u8 0) 1 1 Tryd.underlying22 Hi.out.1 Hi.out.2.1 Hi.out.2.2.1 Hi.out.2.2.2 rfl (by decide) (.slice (some ⟨j, 0, none⟩) 0 0) 0 [] rfl Hown2.out ra r rc ((lst xs).map vb) rfl Hsrc.out.2 Hsl.out Hsrc.out.src (vb_one _) (by unfold maxLen; have := Hr.out.2.1; omega) (by have := Hr.out.2.1; omega) hn2.size ?_
      intro v' u3x hown hgr hat
      have hn3 := nu_grown hn2 (k := j) hgr (Hown2.out.lt j rfl).1
      have Hown3 := Lib.hid (show OwnB u3x w0.heap.size 5 v' (lst xs) from ⟨by have h := hown; rw [Nat.zero_add, List.nil_append, Hr.out.1] at h; exact h, HO0.out.2⟩)
      have HE3 := Lib.hid (Blk.grown HE2.out hgr (own_ne Hown2.out HE2.out (by decide)))
      clear hown hgr hat
      obtain ⟨va, vc, hve, _⟩ := Hown3.out.reads
      generalize (lst xs).length = vn at hve
      subst hve
      refine hK.out _ _ (Blk.below HS0.out hn3 (Blk.lt HS0.out)) (fun hHeld => ?_)
      clear hK K
      simp only [Act.put, List.setIfInBounds_toArray, List.set_cons_zero, List.set_cons_succ]
      refine take_l (i := 10) rfl (by kernel_rfl) (by kernel_rfl) (by kernel_rfl) (fun _ _ _ h => h) (Or.inl ⟨by rfl, fun _ _ => exec_endsum _ _ _ _ (.tmp 14) (.tmp 20) rfl rfl rfl⟩) (by assumption) ?_
      simp only [Act.put, List.setIfInBounds_toArray, List.set_cons_zero, List.set_cons_succ]
      refine wpAnyH_ready (rs := [12]) (by kernel_rfl) (by simp) ?_
      refine cons_l rfl (fun K hK => ?_) AllReadyH.nil
      have hEo : (Value.slice va vn vc).ownBlock ≠ some E := own_apart Hown3.out HE3.out
      refine step_store_blk rfl 58 (.tmp 3) (.tmp 21) rfl E (sumL (mid xs) (.slice va vn vc) 0) rfl rfl 58 _ HE3.out rfl (by kernel_rfl) (sum_one _ Hown3.out) ?_
      have hgf := gb_fill (g := E) (sumL (mid xs) (.slice va vn vc) 0) 0 u3x (gb_refl u3x (some E))
      have HEf := Lib.hid (Blk.fill HE3.out (sumL (mid xs) (.slice va vn vc) 0) rfl)
      have hnf := nu_fill (sumL (mid xs) (.slice va vn vc) 0) HEb.out 0 u3x hn3
      have HOf := Lib.hid (own_grown Hown3.out hgf hEo)
      refine hK.out _ _ (Blk.below HS0.out hnf (Blk.lt HS0.out)) (fun hHeld => ?_)
      clear hK K
      simp only [Act.put, List.setIfInBounds_toArray, List.set_cons_zero, List.set_cons_succ]
      refine wpAnyH_done (by kernel_rfl) ?_ _
      generalize u3x.setCells E 0 (sumL (mid xs) (.slice va vn vc) 0) = wf at *
      go_wp2_with fail
      go_meet
      exact ⟨E, (.slice va vn vc), rfl, ⟨HEf.out, HOf.out⟩, HEb.out, hnf⟩
  case rest =>
    obtain ⟨E, rv', rfl, hE, hEb, hnc⟩ := hcut
    have Hy := Lib.hid (show 0 < w0.heap.size ∧ g < w0.heap.size ∧ w.heap.size < w0.heap.size from ⟨HT0.out.size, Blk.lt HS0.out, Blk.lt HR0.out⟩)
    have HTc := Lib.hid (HT0.out.below hnc HT0.out.size)
    have HSc := Lib.hid (show SumAt wc g (mid xs) (.slice ra r rc) m from Blk.below HS0.out hnc (Blk.lt HS0.out))
    have HRc := Lib.hid (Blk.below HR0.out hnc (Blk.lt HR0.out))
    have Hwc := Lib.hid (Hal.out.trans (hnc.mono Hal.out.size))
    have HBc := Lib.hid hnc.size
    have HE := Lib.hid hE
    have HEb := Lib.hid hEb
    clear HT0 HS0 HR0 Hal hnc hE hEb HO0 HB0 Hsl hn0 Hi Hr
    generalize w0.heap.size = B at *
    go_wp2_with fail
    refine (write_byte HE.out HTc.out Hy.out.1 HBc.out HEb.out (by omega) 128 (by omega)).mono ?_
    rintro e w1 ⟨rfl, ⟨rv1, hE1⟩, hb1⟩
    have hb1' := hb1
    go_wp2_with fail
    go_loopg [] (padZ xs.length) (fun gh wr => ∃ (k : Nat) (rv2 : Value), k ≤ padZ xs.length ∧ gh = padZ xs.length - k ∧ SumIs wr B E (xs ++ [128] ++ List.replicate k 0) (1 + k) rv2 ∧ Below B wc wr)
    case atStart => exact ⟨0, rv1, by omega, by omega, by simpa using hE1, hb1⟩
    case round =>
      clear hE1 hb1 hb1'
      obtain ⟨k, rv2, hk, hgh, hE2, hb2⟩ := hrel
      have hl2 := lst_len (xs ++ [128] ++ List.replicate k 0)
      have hlen2 : (xs ++ [128] ++ List.replicate k 0).length = xs.length + 1 + k := by simp; omega
      rw [hlen2] at hl2
      obtain ⟨a2, c2, hv2, _, _, _⟩ := hE2.2.reads
      obtain ⟨n2, hn2⟩ : ∃ n, n = (lst (xs ++ [128] ++ List.replicate k 0)).length := ⟨_, rfl⟩
      rw [← hn2] at hv2 hl2
      subst hv2
      have c8 : wr.cell? ⟨E, 8, none⟩ = some (.slice a2 n2 c2) := Blk.at hE2.1 8 _ rfl
      have HE2 := Lib.hid hE2
      have HBr := Lib.hid (show B ≤ wr.heap.size from Nat.le_trans HBc.out hb2.size)
      have HTr := Lib.hid (HTc.out.below hb2 Hy.out.1)
      clear hE2 hn2
      by_cases hkz : k = padZ xs.length
      · have hn56 : n2 = 56 := by unfold padZ at hkz; omega
        subst hn56
        have HE3 := Lib.hid (show SumIs wr B E (xs ++ [128] ++ List.replicate (padZ xs.length) 0 ++ (be8 (8 * xs.length)).take 0) (1 + padZ xs.length) (.slice a2 56 c2) from by rw [← hkz, List.take_zero, List.append_nil]; exact HE2.out)
        clear hl2 hlen2 hgh hk hkz HE2
        obtain ⟨w2, rfl⟩ : ∃ x : World, x = wr := ⟨_, rfl⟩
        go_wp2_with fail
        obtain ⟨Z, hZ⟩ : ∃ Z, Z = xs ++ [128] ++ List.replicate (padZ xs.length) 0 := ⟨_, rfl⟩
        rw [← hZ] at HE3
        have HZ := Lib.hid hZ
        obtain ⟨pz, hpz⟩ : ∃ pz, pz = padZ xs.length := ⟨_, rfl⟩
        have hpz64 : pz < 64 := by rw [hpz]; unfold padZ; omega
        rw [← hpz] at HE3
        clear hZ c8 hpz HTr HBr
        go_loopw [4] (fun i wr => ∃ (j : Nat) (rv3 : Value), j ≤ 8 ∧ i = .int .i64 (7 - (j : Int)) ∧ SumIs wr B E (Z ++ (be8 (8 * xs.length)).take j) (1 + pz + j) rv3 ∧ Below B wc wr) (fun i _ => (intOf i + 1).toNat)
        case atStart => exact ⟨0, _, by omega, rfl, HE3.out, hb2⟩
        case round =>
          clear HE3 hb2
          obtain ⟨j, rv3, hj, rfl, hE4, hb4⟩ := hrel
          have HE4 := Lib.hid hE4
          have HBr := Lib.hid (show B ≤ wr.heap.size from Nat.le_trans HBc.out hb4.size)
          have HTr := Lib.hid (HTc.out.below hb4 Hy.out.1)
          have HSr := Lib.hid (show SumAt wr g (mid xs) (.slice ra r rc) m from Blk.below HSc.out hb4 Hy.out.2.1)
          have c9 : wr.cell? ⟨g, 9, none⟩ = some (.int .u64 m) := HSr.out.at 9 _ rfl
          clear hE4
          rcases (show j = 0 ∨ j = 1 ∨ j = 2 ∨ j = 3 ∨ j = 4 ∨ j = 5 ∨ j = 6 ∨ j = 7 ∨ j = 8 by omega) with rfl | rfl | rfl | rfl | rfl | rfl | rfl | rfl | rfl
          · clear hj
            rw [show (7 - ((0 : Nat) : Int)) = 7 from rfl]
            go_wp2_with fail
            refine (write_byte_v HE4.out HTr.out Hy.out.1 HBr.out HEb.out (by omega) (8 * xs.length / 72057594037927936 % 256) (by omega) _ (by have h1 := Hm.out; rw [IntKind.wrap_u64]; omega)).mono ?_
            rintro e w3 ⟨rfl, ⟨rv4, hE5⟩, hb5⟩
            go_wp2_with fail
            go_roundw
            case rel => exact ⟨1, rv4, by omega, by first | rfl | go_num, by rw [List.append_assoc] at hE5; exact hE5, hb4.trans hb5⟩
            case measure => simp [intOf]
          · clear hj
            rw [show (7 - ((1 : Nat) : Int)) = 6 from rfl]
            go_wp2_with fail
            refine (write_byte_v HE4.out HTr.out Hy.out.1 HBr.out HEb.out (by omega) (8 * xs.length / 281474976710656 % 256) (by omega) _ (by have h1 := Hm.out; rw [IntKind.wrap_u64]; omega)).mono ?_
            rintro e w3 ⟨rfl, ⟨rv4, hE5⟩, hb5⟩
            go_wp2_with fail
            go_roundw
            case rel => exact ⟨2, rv4, by omega, by first | rfl | go_num, by rw [List.append_assoc] at hE5; exact hE5, hb4.trans hb5⟩
            case measure => simp [intOf]
          · clear hj
            rw [show (7 - ((2 : Nat) : Int)) = 5 from rfl]
            go_wp2_with fail
            refine (write_byte_v HE4.out HTr.out Hy.out.1 HBr.out HEb.out (by omega) (8 * xs.length / 1099511627776 % 256) (by omega) _ (by have h1 := Hm.out; rw [IntKind.wrap_u64]; omega)).mono ?_
            rintro e w3 ⟨rfl, ⟨rv4, hE5⟩, hb5⟩
            go_wp2_with fail
            go_roundw
            case rel => exact ⟨3, rv4, by omega, by first | rfl | go_num, by rw [List.append_assoc] at hE5; exact hE5, hb4.trans hb5⟩
            case measure => simp [intOf]
          · clear hj
            rw [show (7 - ((3 : Nat) : Int)) = 4 from rfl]
            go_wp2_with fail
            refine (write_byte_v HE4.out HTr.out Hy.out.1 HBr.out HEb.out (by omega) (8 * xs.length / 4294967296 % 256) (by omega) _ (by have h1 := Hm.out; rw [IntKind.wrap_u64]; omega)).mono ?_
            rintro e w3 ⟨rfl, ⟨rv4, hE5⟩, hb5⟩
            go_wp2_with fail
            go_roundw
            case rel => exact ⟨4, rv4, by omega, by first | rfl | go_num, by rw [List.append_assoc] at hE5; exact hE5, hb4.trans hb5⟩
            case measure => simp [intOf]
          · clear hj
            rw [show (7 - ((4 : Nat) : Int)) = 3 from rfl]
            go_wp2_with fail
            refine (write_byte_v HE4.out HTr.out Hy.out.1 HBr.out HEb.out (by omega) (8 * xs.length / 16777216 % 256) (by omega) _ (by have h1 := Hm.out; rw [IntKind.wrap_u64]; omega)).mono ?_
            rintro e w3 ⟨rfl, ⟨rv4, hE5⟩, hb5⟩
            go_wp2_with fail
            go_roundw
            case rel => exact ⟨5, rv4, by omega, by first | rfl | go_num, by rw [List.append_assoc] at hE5; exact hE5, hb4.trans hb5⟩
            case measure => simp [intOf]
          · clear hj
            rw [show (7 - ((5 : Nat) : Int)) = 2 from rfl]
            go_wp2_with fail
            refine (write_byte_v HE4.out HTr.out Hy.out.1 HBr.out HEb.out (by omega) (8 * xs.length / 65536 % 256) (by omega) _ (by have h1 := Hm.out; rw [IntKind.wrap_u64]; omega)).mono ?_
            rintro e w3 ⟨rfl, ⟨rv4, hE5⟩, hb5⟩
            go_wp2_with fail
            go_roundw
            case rel => exact ⟨6, rv4, by omega, by first | rfl | go_num, by rw [List.append_assoc] at hE5; exact hE5, hb4.trans hb5⟩
            case measure => simp [intOf]
          · clear hj
            rw [show (7 - ((6 : Nat) : Int)) = 1 from rfl]
            go_wp2_with fail
            refine (write_byte_v HE4.out HTr.out Hy.out.1 HBr.out HEb.out (by omega) (8 * xs.length / 256 % 256) (by omega) _ (by have h1 := Hm.out; rw [IntKind.wrap_u64]; omega)).mono ?_
            rintro e w3 ⟨rfl, ⟨rv4, hE5⟩, hb5⟩
            go_wp2_with fail
            go_roundw
            case rel => exact ⟨7, rv4, by omega, by first | rfl | go_num, by rw [List.append_assoc] at hE5; exact hE5, hb4.trans hb5⟩
            case measure => simp [intOf]
          · clear hj
            rw [show (7 - ((7 : Nat) : Int)) = 0 from rfl]
            go_wp2_with fail
            refine (write_byte_v HE4.out HTr.out Hy.out.1 HBr.out HEb.out (by omega) (8 * xs.length % 256) (by omega) _ (by have h1 := Hm.out; rw [IntKind.wrap_u64]; omega)).mono ?_
            rintro e w3 ⟨rfl, ⟨rv4, hE5⟩, hb5⟩
            go_wp2_with fail
            go_roundw
            case rel => exact ⟨8, rv4, by omega, by first | rfl | go_num, by rw [List.append_assoc] at hE5; exact hE5, hb4.trans hb5⟩
            case measure => simp [intOf]
          · clear hj
            rw [show (7 - ((8 : Nat) : Int)) = -1 from rfl]
            have hfin : SumIs wr B E (pad xs) (1 + pz + 8) rv3 := by
              have h := HE4.out
              rw [HZ.out] at h
              exact h
            have hdig := digest_mid xs
            have hE1 := hfin.1
            generalize mid (pad xs) = v at *
            have HEv := Lib.hid hE1
            have Hdig := Lib.hid hdig
            have HLd := Lib.hid (fun (W : World) (hS : Below wr.heap.size wr W) (o : Oper) (a : Act) (x : Operand) (ho : o.op = .load 54 x) (hx : a.eval x = .pointer (some ⟨E, 0, none⟩)) =>
              exec_load_mid (P := Tryd.prog) (o := o) (a := a) (w := W) 54 x E 0 [.int .u32 v.a, .int .u32 v.b, .int .u32 v.c, .int .u32 v.d, .int .u32 v.e, .int .u32 v.f, .int .u32 v.g, .int .u32 v.h] (.array 8 49) ho hx (range_mid (Blk.below HEv.out hS (Blk.lt HEv.out)) (l := []) (r := [rv3, .int .u64 ((1 + pz + 8 : Nat) : Int)]) rfl rfl) (by kernel_rfl) rfl (by kernel_rfl))
            have HRr := Lib.hid (Blk.below HRc.out hb4 Hy.out.2.2)
            have hO := Blk.made wr 25 z32
            have hna := nu_alloc (nu_refl wr) (.cells z32 25)
            have HRa := Lib.hid (Blk.below HRr.out hna (Blk.lt HRr.out))
            have HLa := Lib.hid (HLd.out _ hna)
            have HRO := Lib.hid (Nat.ne_of_lt (Blk.lt HRr.out))
            have hwa := (Hwc.out.trans (hb4.mono (Nat.le_of_lt Hy.out.2.2))).trans (hna.mono (Nat.le_trans (Nat.le_of_lt Hy.out.2.2) HBr.out))
            have HOw := Lib.hid (show w.heap.size ≤ wr.heap.size from Nat.le_trans (Nat.le_of_lt Hy.out.2.2) HBr.out)
            clear hfin hdig hE1 HLd HRr hna HE4 HTr HSr c9 hb4 HBr HEv
            go_upto_region 13 with (refine wpList_run _ rfl (HLa.out _ _ (.tmp 45) rfl rfl) ?_)
            have HO := Lib.hid hO
            have Hwa := Lib.hid hwa
            clear hO hwa HLa
            generalize wr.alloc (.cells z32 25) = wf at *
            generalize wr.heap.size = O at *
            go_loopw [47] (fun i wq => ∃ k : Nat, k ≤ 8 ∧ i = .int .i64 k ∧ Blk wq O 25 ((dfill v k).map vb).toArray ∧ Blk wq w.heap.size 25 z32 ∧ Below w.heap.size w wq) (fun i _ => 8 - (intOf i).toNat)
            case atStart => exact ⟨0, by omega, rfl, HO.out, HRa.out, Hwa.out⟩
            case round =>
              clear HO HRa Hwa
              obtain ⟨k, hk, rfl, hO, hR, hn⟩ := hrel
              by_cases hlt : k < 8
              · obtain ⟨x, hx, hput⟩ := dput v k hlt
                have hsz := dfill_len v k (by omega)
                have hcell : ∀ i, i < 32 → ∃ y, wr.cell? ⟨O, i, none⟩ = some (.int .u8 y) := fun i hi => by
                  obtain ⟨b, hb⟩ : ∃ b, (dfill v k)[i]? = some b := ⟨_, List.getElem?_eq_getElem (by omega)⟩
                  exact ⟨_, hO.at i _ (arr_at _ i b hb)⟩
                obtain ⟨y0, o0⟩ := hcell (4 * k) (by omega)
                obtain ⟨y1, o1⟩ := hcell (4 * k + 1) (by omega)
                obtain ⟨y2, o2⟩ := hcell (4 * k + 2) (by omega)
                obtain ⟨y3, o3⟩ := hcell (4 * k + 3) (by omega)
                have f0 := hO.free (4 * k)
                have f1 := hO.free (4 * k + 1)
                have f2 := hO.free (4 * k + 2)
                have f3 := hO.free (4 * k + 3)
                have HOq := Lib.hid ((((hO.put (4 * k) (.int .u8 (x / 16777216 % 256))).put (4 * k + 1) (.int .u8 (x / 65536 % 256))).put (4 * k + 2) (.int .u8 (x / 256 % 256))).put (4 * k + 3) (.int .u8 (x % 256)))
                have HRq := Lib.hid ((((hR.far (p := ⟨O, 4 * k, none⟩) HRO.out (.int .u8 (x / 16777216 % 256))).far (p := ⟨O, 4 * k + 1, none⟩) HRO.out (.int .u8 (x / 65536 % 256))).far (p := ⟨O, 4 * k + 2, none⟩) HRO.out (.int .u8 (x / 256 % 256))).far (p := ⟨O, 4 * k + 3, none⟩) HRO.out (.int .u8 (x % 256)))
                have Hnq := Lib.hid (nu_set (nu_set (nu_set (nu_set hn (p := ⟨O, 4 * k, none⟩) HOw.out (.int .u8 (x / 16777216 % 256))) (p := ⟨O, 4 * k + 1, none⟩) HOw.out (.int .u8 (x / 65536 % 256))) (p := ⟨O, 4 * k + 2, none⟩) HOw.out (.int .u8 (x / 256 % 256))) (p := ⟨O, 4 * k + 3, none⟩) HOw.out (.int .u8 (x % 256)))
                rw [hput] at HOq
                clear hO hR hn hput hsz hcell
                rcases (show k = 0 ∨ k = 1 ∨ k = 2 ∨ k = 3 ∨ k = 4 ∨ k = 5 ∨ k = 6 ∨ k = 7 by omega) with rfl | rfl | rfl | rfl | rfl | rfl | rfl | rfl
                · obtain rfl : v.a = x := by simpa [V8.l] using hx
                  clear hx hk hlt
                  go_wp2_with (refine wpList_run _ rfl (exec_ix0 v (.tmp 46) (.tmp 47) rfl rfl rfl) ?_)
                  go_roundw
                  case rel => exact ⟨1, by omega, rfl, HOq.out, HRq.out, Hnq.out⟩
                  case measure => simp [intOf]
                · obtain rfl : v.b = x := by simpa [V8.l] using hx
                  clear hx hk hlt
                  go_wp2_with (refine wpList_run _ rfl (exec_ix1 v (.tmp 46) (.tmp 47) rfl rfl rfl) ?_)
                  go_roundw
                  case rel => exact ⟨2, by omega, rfl, HOq.out, HRq.out, Hnq.out⟩
                  case measure => simp [intOf]
                · obtain rfl : v.c = x := by simpa [V8.l] using hx
                  clear hx hk hlt
                  go_wp2_with (refine wpList_run _ rfl (exec_ix2 v (.tmp 46) (.tmp 47) rfl rfl rfl) ?_)
                  go_roundw
                  case rel => exact ⟨3, by omega, rfl, HOq.out, HRq.out, Hnq.out⟩
                  case measure => simp [intOf]
                · obtain rfl : v.d = x := by simpa [V8.l] using hx
                  clear hx hk hlt
                  go_wp2_with (refine wpList_run _ rfl (exec_ix3 v (.tmp 46) (.tmp 47) rfl rfl rfl) ?_)
                  go_roundw
                  case rel => exact ⟨4, by omega, rfl, HOq.out, HRq.out, Hnq.out⟩
                  case measure => simp [intOf]
                · obtain rfl : v.e = x := by simpa [V8.l] using hx
                  clear hx hk hlt
                  go_wp2_with (refine wpList_run _ rfl (exec_ix4 v (.tmp 46) (.tmp 47) rfl rfl rfl) ?_)
                  go_roundw
                  case rel => exact ⟨5, by omega, rfl, HOq.out, HRq.out, Hnq.out⟩
                  case measure => simp [intOf]
                · obtain rfl : v.f = x := by simpa [V8.l] using hx
                  clear hx hk hlt
                  go_wp2_with (refine wpList_run _ rfl (exec_ix5 v (.tmp 46) (.tmp 47) rfl rfl rfl) ?_)
                  go_roundw
                  case rel => exact ⟨6, by omega, rfl, HOq.out, HRq.out, Hnq.out⟩
                  case measure => simp [intOf]
                · obtain rfl : v.g = x := by simpa [V8.l] using hx
                  clear hx hk hlt
                  go_wp2_with (refine wpList_run _ rfl (exec_ix6 v (.tmp 46) (.tmp 47) rfl rfl rfl) ?_)
                  go_roundw
                  case rel => exact ⟨7, by omega, rfl, HOq.out, HRq.out, Hnq.out⟩
                  case measure => simp [intOf]
                · obtain rfl : v.h = x := by simpa [V8.l] using hx
                  clear hx hk hlt
                  go_wp2_with (refine wpList_run _ rfl (exec_ix7 v (.tmp 46) (.tmp 47) rfl rfl rfl) ?_)
                  go_roundw
                  case rel => exact ⟨8, by omega, rfl, HOq.out, HRq.out, Hnq.out⟩
                  case measure => simp [intOf]
              · obtain rfl : k = 8 := by omega
                have e8 : dfill v 8 = dig v := by simp only [dfill]; rw [List.take_of_length_le (by rw [dig_len]; omega)]; simp
                rw [e8, ← Hdig.out] at hO
                have HO := Lib.hid hO
                have HR := Lib.hid hR
                have Hn := Lib.hid hn
                have Hl := Lib.hid (show ((digest xs).map vb).length = z32.size by rw [List.length_map, digest_len]; rfl)
                have HF := Lib.hid (Blk.fill hR ((digest xs).map vb) Hl.out)
                have Hnf := Lib.hid (nu_fill ((digest xs).map vb) (g := w.heap.size) (Nat.le_refl _) 0 _ hn)
                clear hO hR hn hk hlt e8 Hdig
                have hsz : (Tryd.prog.info? 25).map (·.size) = some ((digest xs).map vb).toArray.size := by rw [List.size_toArray, List.length_map, digest_len]; kernel_rfl
                have Hsz := Lib.hid hsz
                have H1 := Lib.hid (vb_one (digest xs))
                clear hsz
                generalize hD : (digest xs).map vb = D at *
                have HD := Lib.hid hD
                clear hD
                go_wp2_with (first | (refine wpList_load_blk rfl 25 (.tmp 5) rfl O rfl 25 D.toArray HO.out Tryd.underlying25 Hsz.out ?_) | (refine wpList_store_blk rfl 25 (.tmp 2) (.tmp 78) rfl w.heap.size D rfl rfl 25 z32 HR.out Hl.out (by have h := Hsz.out; rwa [List.size_toArray] at h) H1.out ?_))
                refine bodyPost_ret (results_blk rfl _ w.heap.size 25 D.toArray rfl HF.out Tryd.underlying25 Hsz.out) rfl ⟨by rw [HD.out], Hnf.out⟩
      · have hn56 : ¬ (n2 : Int) = 56 := by
          intro h
          have h2 : n2 = 56 := by omega
          apply hkz
          unfold padZ at *
          omega
        have hn56b : ((n2 : Int) != 56) = true := by simp [hn56]
        have Hk := Lib.hid (And.intro hk (And.intro hgh hkz))
        clear hl2 hlen2 hgh hk hkz
        go_wp2_with fail
        refine (write_byte HE2.out HTr.out Hy.out.1 HBr.out HEb.out (by have h1 := Hk.out.1; unfold padZ at h1; omega) 0 (by omega)).mono ?_
        rintro e w3 ⟨rfl, ⟨rv3, hE3⟩, hb3⟩
        go_wp2_with fail
        go_roundg (padZ xs.length - (k + 1))
        case measure => have h1 := Hk.out; omega
        case rel => exact ⟨k + 1, rv3, by have h1 := Hk.out; omega, rfl, by rw [List.append_assoc, ← List.replicate_succ'] at hE3; rw [show 1 + (k + 1) = 1 + k + 1 by omega]; exact hE3, hb2.trans hb3⟩
end Go.Proofs.YtlekepigndlbhaaDoor
