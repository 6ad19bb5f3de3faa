/-
  What the proof of DevBack rests on, part 2 of 9.
-/
import Derived.Test.YtjmghpoknlffiaaDevBackB1
namespace Go.Proofs.Ytjmghpoknlffiaa
open Go.ChangeShapes Go.WideShapes Go.ChangeAt Go.RowKit
set_option linter.unusedSimpArgs false

theorem range_of {w : World} {g k : Nat} {l : List Value} (h : ∀ j u, l[j]? = some u → w.cell? ⟨g, k + j, none⟩ = some u) : w.rangeAt g k l := h
/-- What a write that waits reads as. -/
theorem Mem.waits {w : World} {sb : Nat} {wa cp wr : Value} {cs : List Nat} {ws : List Value} {s : Dv} (M : Mem w sb wa cp wr cs ws s) (hok : s.Ok) (hp : 0 < s.wa.length) :
    ∃ g c, wa = .slice (some ⟨g, 0, none⟩) s.wa.length c ∧ ∀ (q : Nat) (p : Nat × List Nat), s.wa[q]? = some p → w.cell? ⟨g, q * 257, none⟩ = some (.int .i64 (p.1 : Int)) ∧ w.rangeAt g (q * 257 + 1) (p.2.map vb) ∧ w.rangeAt g (q * 257) (cellW p) := by
  have hbl : ∀ p ∈ s.wa, Bl p.2 := fun p hp => (hok.wa p hp).2
  have hp' := hp
  obtain ⟨g, cap, cur, rfl, _, hg, _⟩ : ∃ g cap cur, wa = .slice (some ⟨g, 0, none⟩) s.wa.length cap ∧ 0 ≤ g ∧ w.heap[g]? = some (.cells cur 75 (0, 0)) ∧ True := by
    rcases (M.wa.pos hp).2 with ⟨_, h0⟩ | ⟨g, cap, cur, h1, h2, h3, _⟩
    · omega
    · exact ⟨g, cap, cur, h1, h2, h3, trivial⟩
  have hall : ∀ (q : Nat) (p : Nat × List Nat), s.wa[q]? = some p → ∀ j u, (cellW p)[j]? = some u → w.cell? ⟨g, q * 257 + j, none⟩ = some u := fun q p hq j u hu => by
    have hj : j < 257 := by
      have := (List.getElem?_eq_some_iff.1 hu).1
      rw [cellW_len (hbl p (List.mem_of_getElem? hq))] at this
      exact this
    have hql := (List.getElem?_eq_some_iff.1 hq).1
    rw [(M.wa.pos hp').cellAt (q * 257 + j) (by omega), flatW_at hbl hq hj]
    exact hu
  refine ⟨g, cap, rfl, fun q p hq => ⟨?_, fun j u hu => ?_, fun j u hu => hall q p hq j u hu⟩⟩
  · have h := hall q p hq 0 _ (by rw [cellW, List.getElem?_cons_zero])
    rw [Nat.add_zero] at h
    exact h
  · rw [show q * 257 + 1 + j = q * 257 + (j + 1) by omega]
    exact hall q p hq (j + 1) u (by rw [cellW, List.getElem?_cons_succ]; exact hu)
/-- What a stored block reads as. -/
theorem Mem.stored {w : World} {sb : Nat} {wa cp wr : Value} {cs : List Nat} {ws : List Value} {s : Dv} (M : Mem w sb wa cp wr cs ws s) (hok : s.Ok) {i : Nat} {b : List Nat} (hi : s.st[i]? = some b) : w.rangeAt sb (i * 256) (b.map vb) := fun j u hu => by
  have hj : j < 256 := by
    have := (List.getElem?_eq_some_iff.1 hu).1
    rw [List.length_map, (hok.st b (List.mem_of_getElem? hi)).1] at this
    exact this
  refine M.st.at _ u ?_
  rw [List.getElem?_toArray, flatB_at hok.st hi hj]
  exact hu
section
variable {w : World} {d : Nat} {s : Dv} {F : Nat → Prop}
set_option maxRecDepth 100000 in
set_option maxHeartbeats 4000000 in
theorem nowD_any (H : DevRep w d s F) (i : Nat) (hi : i < s.st.length) (D : List Nat) (hD : s.now i = D) (hwl : s.wa.length ≤ 1000000000) : Calls Try.prog 39 #[.pointer (some ⟨d, 0, none⟩), .int .i64 (i : Int)] w fun e w' => e = .returned (.agg (D.map vb).toArray) ∧ Below w.heap.size w w' := by
  have hal := nu_alloc (nu_refl w) (.cells z256 73)
  have HZ := Lib.hid (Blk.made w 73 z256)
  obtain ⟨hok, hFl, sb, wa, cp, wr, cs, ws, hd, hM, hF⟩ := H.below hal
  obtain ⟨c0, c1, _⟩ := hd.cells
  have hDb : Bl D := by rw [← hD]; exact hok.now hi
  have HDl := Lib.hid hDb.1
  have Hlt := Lib.hid hd.lt
  have HM := Lib.hid hM
  have Hok := Lib.hid hok
  have Hi := Lib.hid hi
  have hzv := zero_256
  have hzn := z256_ne
  obtain ⟨n, hn⟩ : ∃ n, n = s.st.length := ⟨_, rfl⟩
  have Hn := Lib.hid hn
  rw [← hn] at c0
  have hin : (i : Int) < (n : Int) := by omega
  have hn2 := hok.n2
  rw [← hn] at hn2
  obtain ⟨b0, hb0⟩ : ∃ b, s.st[i]? = some b := ⟨_, List.getElem?_eq_getElem hi⟩
  have Hb0 := Lib.hid hb0
  have HDe := Lib.hid (show nowL s.wa i b0 = D by rw [← hD, Dv.now, List.getD_eq_getElem?_getD, hb0]; rfl)
  obtain ⟨m, hm⟩ : ∃ m, m = s.wa.length := ⟨_, rfl⟩
  have Hm := Lib.hid hm
  obtain ⟨ao, ac, rfl⟩ := hM.wa.len
  rw [← hm] at c1 hwl
  have hm1 : (m : Int) - 1 < 9223372036854775807 := by omega
  obtain ⟨J, hJ⟩ : ∃ J : Int, J = (m : Int) - 1 := ⟨_, rfl⟩
  have wJ : IntKind.i64.wrap ((m : Int) - 1) = J := by rw [IntKind.wrap_i64]; omega
  have HJ := Lib.hid hJ
  clear H hFl hd hM hF hDb hok hi hD hb0 hn hm hJ hm1
  go_enter Try.func39, Try.ntmps39
  go_upto_region 1 with fail
  change Code.wp _ _ _ _ (w.alloc (.cells z256 73))
  have Hal := Lib.hid hal
  clear hal
  generalize w.alloc (.cells z256 73) = w1 at *
  obtain ⟨Z, hZ⟩ : ∃ Z, Z = w.heap.size := ⟨_, rfl⟩
  have HZw := Lib.hid (show w.heap.size ≤ Z by omega)
  rw [← hZ] at HZ
  rw [← hZ]
  clear hZ hzv hzn
  go_wp2_with fail
  go_loopw [5] (fun j wr => ∃ (k : Nat) (K : Int), k ≤ m ∧ K = (k : Int) - 1 ∧ j = .int .i64 K ∧ nowL (s.wa.take k) i b0 = D ∧ wr = w1) (fun j _ => (intOf j + 1).toNat)
  case atStart => exact ⟨m, J, by omega, HJ.out, rfl, by rw [Hm.out, List.take_length]; exact HDe.out, rfl⟩
  case round =>
    obtain ⟨k, K, hk, hK, rfl, hDk, rfl⟩ := hrel
    cases k with
    | zero =>
      obtain rfl : K = -1 := by omega
      have HDb : D = b0 := by rw [← hDk]; rfl
      have HR := Lib.hid (HM.out.stored Hok.out Hb0.out)
      rw [← HDb] at HR
      have HF := Lib.hid (Blk.fill HZ.out (D.map vb) (by rw [List.length_map, HDl.out, z256_size]))
      have Hnf := Lib.hid (nu_fill (D.map vb) (g := Z) HZw.out 0 _ Hal.out)
      clear hK hDk HDb HM c1 HJ wJ
      go_wp2_with (first | (refine wpList_run _ (by rfl) (e256_mid HR.out HDl.out (.tmp 39) rfl rfl) ?_) | (refine wpList_store_blk rfl 73 (.tmp 4) (.tmp 40) rfl Z (D.map vb) rfl rfl 73 z256 HZ.out (by rw [List.length_map, HDl.out, z256_size]) (by rw [List.length_map, HDl.out]; kernel_rfl) (vb_one _) ?_))
      refine bodyPost_ret (results_blk rfl _ Z 73 (D.map vb).toArray rfl HF.out Try.underlying73 (by rw [List.size_toArray, List.length_map, HDl.out]; kernel_rfl)) rfl ⟨rfl, Hnf.out⟩
    | succ q =>
      obtain rfl : K = (q : Int) := by omega
      have hqm : q < m := by omega
      have hqi : (q : Int) < (m : Int) := by omega
      obtain ⟨g, gc, hwa, hcell⟩ := HM.out.waits Hok.out (by rw [← Hm.out]; omega)
      rw [← Hm.out] at hwa
      injection hwa with e1 e2 e3
      subst e1 e3
      obtain ⟨p, hp⟩ : ∃ p, s.wa[q]? = some p := ⟨_, List.getElem?_eq_getElem (by rw [← Hm.out]; exact hqm)⟩
      obtain ⟨hc1, hc2, _⟩ := hcell q p hp
      have ht : s.wa.take (q + 1) = s.wa.take q ++ [p] := by rw [List.take_add_one, hp]; rfl
      rw [ht, nowL_snoc] at hDk
      by_cases he : p.1 = i
      · rw [if_pos he] at hDk
        have hb : ((p.1 : Int) == (i : Int)) = true := by rw [he]; simp
        rw [hDk] at hc2
        have HR := Lib.hid hc2
        have HF := Lib.hid (Blk.fill HZ.out (D.map vb) (by rw [List.length_map, HDl.out, z256_size]))
        have Hnf := Lib.hid (nu_fill (D.map vb) (g := Z) HZw.out 0 _ Hal.out)
        generalize (p.1 : Int) = P1 at *
        clear hK hDk HM hcell hp ht he hc2 HJ wJ
        go_wp2_with (first | (refine wpList_run _ (by rfl) (e256_mid HR.out HDl.out (.tmp 32) rfl rfl) ?_) | (refine wpList_store_blk rfl 73 (.tmp 4) (.tmp 33) rfl Z (D.map vb) rfl rfl 73 z256 HZ.out (by rw [List.length_map, HDl.out, z256_size]) (by rw [List.length_map, HDl.out]; kernel_rfl) (vb_one _) ?_))
        refine bodyPost_ret (results_blk rfl _ Z 73 (D.map vb).toArray rfl HF.out Try.underlying73 (by rw [List.size_toArray, List.length_map, HDl.out]; kernel_rfl)) rfl ⟨rfl, Hnf.out⟩
      · rw [if_neg he] at hDk
        have hb : ((p.1 : Int) == (i : Int)) = false := by rw [beq_eq_false_iff_ne]; omega
        obtain ⟨K2, hK2⟩ : ∃ K2 : Int, K2 = (q : Int) - 1 := ⟨_, rfl⟩
        have wK : IntKind.i64.wrap ((q : Int) - 1) = K2 := by rw [IntKind.wrap_i64]; omega
        have HK2 := Lib.hid hK2
        have HDk := Lib.hid hDk
        generalize (p.1 : Int) = P1 at *
        clear hK hDk hcell hp ht he hc2 HJ wJ hK2
        go_wp2_with fail
        go_roundw
        case rel => first | exact ⟨q, K2, by omega, HK2.out, rfl, HDk.out, trivial⟩ | ((repeat apply Exists.intro); exact ⟨⟨q, K2, by omega, HK2.out, rfl, HDk.out, rfl⟩, rfl⟩)
        case measure => have := HK2.out; simp [intOf]; omega
set_option maxRecDepth 100000 in
set_option maxHeartbeats 1000000 in
theorem readD_good (H : DevRep w d s F) (i : Nat) (hi : i < s.st.length) (ho : s.off = false) (hwl : s.wa.length ≤ 1000000000) : Calls Try.prog 15 #[.pointer (some ⟨d, 0, none⟩), .int .i64 (i : Int)] w fun e w' =>
    ∃ G, e = .returned (.tuple #[.slice (some ⟨G, 0, none⟩) 256 256, .int .i64 0]) ∧ w.heap.size ≤ G ∧ Blk w' G 73 ((s.now i).map vb).toArray ∧ Below w.heap.size w w' := by
  have HRd := Lib.hid (ready_any H (i : Int))
  rw [show s.rdy (i : Int) = 0 by unfold Dv.rdy; rw [ho, if_neg (by decide), if_neg (by omega)]] at HRd
  obtain ⟨D, hD⟩ : ∃ D, s.now i = D := ⟨_, rfl⟩
  have HNw := Lib.hid (nowD_any H i hi D hD hwl)
  have HDl := Lib.hid (show D.length = 256 by rw [← hD]; exact (H.1.now hi).1)
  rw [hD]
  have hzv := zero_256
  have hzn := z256_ne
  clear H hi ho hwl hD
  go_enter Try.func15, Try.ntmps15
  go_wp2_with fail
  refine HRd.out.mono ?_
  rintro e w' ⟨rfl, rfl⟩
  go_wp2_with fail
  refine HNw.out.mono ?_
  rintro e w2 ⟨rfl, hb⟩
  have HZ := Lib.hid (Blk.made w2 73 z256)
  have HF := Lib.hid (Blk.fill HZ.out (D.map vb) (by rw [List.length_map, HDl.out, z256_size]))
  have Hnf := Lib.hid (nu_trans hb (nu_fill (a := w2) (D.map vb) (g := w2.heap.size) (Nat.le_refl _) 0 _ (nu_alloc (nu_refl w2) (.cells z256 73))))
  have Hs := Lib.hid hb.size
  clear hb HRd HNw
  go_wp2_with (refine wpList_store_blk rfl 73 (.tmp 7) (.tmp 16) rfl w2.heap.size (D.map vb) rfl rfl 73 z256 HZ.out (by rw [List.length_map, HDl.out, z256_size]) (by rw [List.length_map, HDl.out]; kernel_rfl) (vb_one _) ?_)
  go_ret2
  exact ⟨_, rfl, Hs.out, HF.out, Hnf.out⟩
set_option maxRecDepth 100000 in
theorem readD_bad (H : DevRep w d s F) (a : Int) (hr : s.rdy a ≠ 0) : Calls Try.prog 15 #[.pointer (some ⟨d, 0, none⟩), .int .i64 a] w fun e w' => e = .returned (.tuple #[.slice none 0 0, .int .i64 (s.rdy a)]) ∧ w = w' := by
  have HRd := Lib.hid (ready_any H a)
  have hb : (s.rdy a == 0) = false := by rw [beq_eq_false_iff_ne]; exact hr
  generalize s.rdy a = r at *
  clear H
  go_enter Try.func15, Try.ntmps15
  go_wp2_with fail
  refine HRd.out.mono ?_
  rintro e w' ⟨rfl, rfl⟩
  have hbn : (r != 0) = true := by rw [bne_iff_ne]; exact hr
  go_wp2_with fail
  go_ret2
  exact ⟨rfl, rfl⟩
end
end Go.Proofs.Ytjmghpoknlffiaa

namespace Go.Proofs.Ytjmghpoknlffiaa
open Go.ChangeShapes Go.WideShapes Go.ChangeAt Go.RowKit
set_option linter.unusedSimpArgs false

/-! ### Built of letters -/
theorem foldOff (D : List Value) (off : Nat) : ∀ (cs : Array Value) (k : Nat), off + k + D.length ≤ cs.size → (List.foldl (fun (cs : Array Value) (x : Value × Nat) => cs.setIfInBounds (off + x.2) x.1) cs (D.zipIdx k)).toList = cs.toList.take (off + k) ++ D ++ cs.toList.drop (off + k + D.length) := by
  induction D with
  | nil => intro cs k _; simp
  | cons d D ih =>
    intro cs k h
    rw [List.length_cons] at h
    rw [List.zipIdx_cons, List.foldl_cons, ih _ (k + 1) (by rw [Array.size_setIfInBounds]; omega), Array.toList_setIfInBounds]
    have hk : off + k < cs.toList.length := by rw [Array.length_toList]; omega
    show List.take (off + (k + 1)) (cs.toList.set (off + k) d) ++ D ++ List.drop (off + (k + 1) + D.length) (cs.toList.set (off + k) d) = _
    rw [List.drop_set_of_lt (by omega), show off + (k + 1) = off + k + 1 by omega, List.take_add_one, List.getElem?_set_self hk, List.take_set_of_le (Nat.le_refl _), List.length_cons, show off + k + 1 + D.length = off + k + (D.length + 1) by omega]
    simp
theorem foldOffA (D : Array Value) (off : Nat) (cs : Array Value) (h : off + D.size ≤ cs.size) : (D.zipIdx.foldl (fun cs (x : Value × Nat) => cs.setIfInBounds (off + x.2) x.1) cs).toList = cs.toList.take off ++ D.toList ++ cs.toList.drop (off + D.size) := by
  rw [← Array.foldl_toList, Array.toList_zipIdx]
  have h2 := foldOff D.toList off cs 0 (by rw [Array.length_toList]; omega)
  rw [Array.length_toList] at h2
  exact h2
theorem fill_wait (Z : Array Value) (hZ : Z.size = 257) (i : Nat) (b : List Nat) (hb : b.length = 256) :
    Instr.fill (fun x => (#[(0, 1), (1, 256)] : Array (Nat × Nat))[x]?) Z [(0, .int .i64 (i : Int)), (1, .agg (b.map vb).toArray)] = some (cellW (i, b)).toArray := by
  have hc : (Value.agg (b.map vb).toArray).cells = (b.map vb).toArray := rfl
  have hbs : (b.map vb).toArray.size = 256 := by rw [List.size_toArray, List.length_map, hb]
  obtain ⟨Z1, hZ1⟩ : ∃ Z1, Z1 = Z.setIfInBounds 0 (.int .i64 (i : Int)) := ⟨_, rfl⟩
  have hs1 : Z1.size = 257 := by rw [hZ1, Array.size_setIfInBounds, hZ]
  have e1 : ((Value.int .i64 (i : Int)).cells.zipIdx.foldl (fun cs (x : Value × Nat) => cs.setIfInBounds (0 + x.2) x.1) Z) = Z1 := by rw [hZ1]; rfl
  have e2 := foldOffA (b.map vb).toArray 1 Z1 (by rw [hbs, hs1]; omega)
  have hl1 : Z1.toList.length = 257 := by rw [Array.length_toList, hs1]
  rw [hbs, List.drop_of_length_le (by rw [hl1]; omega), List.append_nil] at e2
  have h0 : Z1.toList.take 1 = [.int .i64 (i : Int)] := by
    rw [hZ1, Array.toList_setIfInBounds]
    have : 0 < Z.toList.length := by rw [Array.length_toList, hZ]; omega
    rw [List.take_add_one, List.getElem?_set_self this]
    rfl
  rw [h0] at e2
  show (if (Value.int .i64 (i : Int)).cells.size ≠ 1 || 0 + (Value.int .i64 (i : Int)).cells.size > Z.size then none else Instr.fill _ ((Value.int .i64 (i : Int)).cells.zipIdx.foldl (fun cs (x : Value × Nat) => cs.setIfInBounds (0 + x.2) x.1) Z) [(1, .agg (b.map vb).toArray)]) = _
  rw [e1, show (Value.int .i64 (i : Int)).cells.size = 1 from rfl, hZ]
  show (if (Value.agg (b.map vb).toArray).cells.size ≠ 256 || 1 + (Value.agg (b.map vb).toArray).cells.size > Z1.size then none else Instr.fill _ ((Value.agg (b.map vb).toArray).cells.zipIdx.foldl (fun cs (x : Value × Nat) => cs.setIfInBounds (1 + x.2) x.1) Z1) []) = _
  rw [hc, hbs, hs1]
  show some _ = some _
  congr 1
  apply Array.toList_inj.1
  rw [e2]
  simp [cellW]
theorem exec_bw {o : Oper} {a : Act} {w : World} (x y : Operand) (i : Nat) (b : List Nat) (hb : b.length = 256) (ho : o.op = .build 75 #[(0, x), (1, y)]) (hx : a.eval x = .int .i64 (i : Int)) (hy : a.eval y = .agg (b.map vb).toArray) :
    (execOp a.eval o).run Try.prog w = .ok (.value (.agg (cellW (i, b)).toArray)) w := by
  obtain ⟨Z, hZs, hZ⟩ : ∃ Z : Array Value, Z.size = 257 ∧ ∀ parts, Try.prog.built 75 parts = Instr.fill (fun x => (#[(0, 1), (1, 256)] : Array (Nat × Nat))[x]?) Z parts := ⟨z257, z257_size, fun parts => by kernel_rfl⟩
  have h := run_build (P := Try.prog) w 75 #[(0, .int .i64 (i : Int)), (1, .agg (b.map vb).toArray)] _ ((hZ _).trans (fill_wait Z hZs i b hb))
  unfold execOp
  simp only [ho, List.map_toArray, List.map_cons, List.map_nil, hx, hy, Sem.run_bind, h, Result.andThen_ok, Sem.run_pure]
/-- A slice of one. -/
theorem run_slice1 {P : Program} (w : World) (t e : TypeId) (i : TypeInfo) (z : Value) (m : Nat) (ht : P.underlying t = some (.slice e)) (hi : P.info? e = some i) (hz : i.zero = some z) (hm : i.size = m) (h0 : 0 < m) (h24 : m ≤ 16777216) (v : Value) (hv : v.cells.size = m) :
    (Instr.buildSlice t 1 #[(0, v)]).run P w = .ok (.slice (some ⟨w.heap.size, 0, none⟩) 1 1) (w.alloc (.cells v.cells e)) := by
  have hf : ∀ Z : Array Value, Z.size = m → Instr.fill (fun i => some (i * m, m)) Z [(0, v)] = some v.cells := fun Z hZ => by
    show (if v.cells.size ≠ m || 0 * m + v.cells.size > Z.size then none else Instr.fill _ (v.cells.zipIdx.foldl (fun cs (x : Value × Nat) => cs.setIfInBounds (0 * m + x.2) x.1) Z) []) = _
    have e1 := foldOffA v.cells (0 * m) Z (by rw [hv, hZ]; omega)
    rw [Nat.zero_mul, List.take_zero, List.nil_append, Nat.zero_add, List.drop_of_length_le (by rw [Array.length_toList, hZ, hv]; exact Nat.le_refl _), List.append_nil] at e1
    rw [if_neg (by simp [hv, hZ])]
    show some _ = some _
    congr 1
    apply Array.toList_inj.1
    rw [Nat.zero_mul]
    exact e1
  have hn : ¬ (16777216 < 1 * m) := by omega
  have hn0 : ¬ (1 * m = 0) := by omega
  subst hm
  have hlt : ¬ 16777216 < i.size := by omega
  have hne : ¬ i.size = 0 := by omega
  simp [Instr.buildSlice, run_underlying ht, sizeOf, typeInfo, zeroValue, hi, hz, hlt, hne, hf _ (show ((Array.range i.size).map (z.cells[· % z.cells.size]!)).size = i.size by simp), newRow]
theorem exec_slice1 {P : Program} {o : Oper} {a : Act} {w : World} (x : Operand) (t e : TypeId) (i : TypeInfo) (z : Value) (m : Nat) (ht : P.underlying t = some (.slice e)) (hi : P.info? e = some i) (hz : i.zero = some z) (hm : i.size = m) (h0 : 0 < m) (h24 : m ≤ 16777216) (v : Value) (hv : v.cells.size = m)
    (ho : o.op = .buildSlice t 1 #[(0, x)]) (hx : a.eval x = v) : (execOp a.eval o).run P w = .ok (.value (.slice (some ⟨w.heap.size, 0, none⟩) 1 1)) (w.alloc (.cells v.cells e)) := by
  unfold execOp
  simp only [ho, List.map_toArray, List.map_cons, List.map_nil, hx, Sem.run_bind, run_slice1 w t e i z m ht hi hz hm h0 h24 v hv, Result.andThen_ok, Sem.run_pure]
/-- An operation that yields a value and a world, as one step of a region. -/
theorem step_runW {P : Program} {ops : Array Oper} {o : Oper} {a : Act} {w w1 : World} {K : Act → World → Prop} {Q : Exit → Act → World → Prop} {G : Prop} (v : Value) (hr : (execOp a.eval o).run P w = .ok (.value v) w1) (hgd : o.guard = none) (h : K (a.put o.dst v) w1) :
    if Region.wanted o (yielded ops a.tmps) = true then Oper.wp P o a w K Q else G := by
  have hw : Region.wanted o (yielded ops a.tmps) = true := by simp [Region.wanted, hgd]
  rw [if_pos hw]
  unfold Oper.wp
  rw [hr]
  exact h
/-- An append onto what is a row of the call's own, or was cut to nothing. -/
theorem run_append_z {P : Program} (w : World) (t ty e : TypeId) (i : TypeInfo) (z : Value) (size bytes : Nat) (ht : P.underlying t = some (.slice e)) (hi : P.info? e = some i) (hz : i.zero = some z)
    (hsize : i.size = size) (hby : i.bytes = bytes) (hzs : z.cells.size = size) (hsz : 0 < size)
    (v : Value) (n : Nat) (xs : List Value) (hown : RowZ w e size v n xs)
    (a : Addr) (m c : Nat) (hm : 0 < m) (news : List Value) (hl : news.length = m * size) (hnews : ∀ j u, news[j]? = some u → w.cell? (a.add j) = some u) (h1 : ∀ u ∈ news, u.oneCell' = true)
    (h63 : n + m ≤ maxLen) (hbytes : (n + m) * bytes ≤ 140737488355328) :
    ∃ v' w', (Builtin.append_ #[t, t] ty #[v, .slice (some a) m c]).run P w = .ok v' w' ∧ w'.ownsRow 0 e size v' (n + m) (xs ++ news) ∧ w.grownBy w' v.ownBlock ∧ (v'.ownBlock = v.ownBlock ∨ v'.ownBlock = some w.heap.size) := by
  rcases hown with hown | ⟨rfl, rfl, g, cur, rfl, hc⟩
  · obtain ⟨v', w', hr, h2, h3, _, h5⟩ := run_append_own_at (P := P) w 0 t ty e i z size bytes ht hi hz hsize hby hzs hsz v n xs hown a m c news hl hnews h1 h63 hbytes (Nat.zero_le _)
    exact ⟨v', w', hr, h2, h3, h5⟩
  · subst hsize
    subst hby
    have hsmall : 0 + m ≤ 9223372036854775807 := by simp only [maxLen] at h63; omega
    have hr := run_append_grow (P := P) w t ty e i z ht hi hz ⟨g, 0, none⟩ 0 0 [] (by simp) (by simp) a m c news hl hnews (by omega) (by omega) (growslice_fits (by omega) hbytes)
    have hge := grownCap_ge w (0 + m) 0 e
    have hcm : grownCap w (0 + m) 0 e ≤ maxLen := grownCap_le_maxLen w (0 + m) 0 e h63
    simp only [Nat.zero_add, List.nil_append] at hr hge hcm ⊢
    refine ⟨_, _, hr, ⟨by rw [hl], .inr ⟨w.heap.size, _, _, rfl, Nat.zero_le _, heap_alloc_new w.drew _, hge, hcm, ?_, ?_⟩⟩, ⟨rfl, rfl, rfl, by simp, fun k hk _ => Below.heap_alloc w.drew _ k hk⟩, .inr rfl⟩
    · simp only [Array.size_append, List.size_toArray, size_zeroCells, hzs, hl, List.length_nil, Nat.zero_add, ← Nat.add_mul]
      congr 1
      omega
    · rw [← hl]
      simp only [Array.toList_append, List.append_assoc]
      show List.take news.length ([] ++ (news ++ _)) = news
      rw [List.nil_append]
      exact List.take_left
theorem step_append_z {P : Program} {ops : Array Oper} {o : Oper} {a : Act} {w : World} {K : Act → World → Prop} {Q : Exit → Act → World → Prop} {E : Prop} (hgd : o.guard = none) (s x : Operand) (t : TypeId)
    (ho : o.op = .call { callee := .builtin .append, args := #[s, x], argTypes := #[t, t] })
    (e : TypeId) (i : TypeInfo) (z : Value) (size bytes : Nat) (ht : P.underlying t = some (.slice e)) (hi : P.info? e = some i) (hz : i.zero = some z)
    (hsize : i.size = size) (hby : i.bytes = bytes) (hzs : z.cells.size = size) (hsz : 0 < size)
    (v : Value) (n : Nat) (xs : List Value) (hs : a.eval s = v) (hown : RowZ w e size v n xs)
    (ad : Addr) (m c : Nat) (hm : 0 < m) (news : List Value) (hx : a.eval x = .slice (some ad) m c) (hl : news.length = m * size)
    (hnews : ∀ j u, news[j]? = some u → w.cell? (ad.add j) = some u) (h1 : ∀ u ∈ news, u.oneCell' = true)
    (h63 : n + m ≤ maxLen) (hbytes : (n + m) * bytes ≤ 140737488355328)
    (h : ∀ v' w', w'.ownsRow 0 e size v' (n + m) (xs ++ news) → w.grownBy w' v.ownBlock → (v'.ownBlock = v.ownBlock ∨ v'.ownBlock = some w.heap.size) → K (a.put o.dst v') w') :
    if Region.wanted o (yielded ops a.tmps) = true then Oper.wp P o a w K Q else E := by
  have hw : Region.wanted o (yielded ops a.tmps) = true := by simp [Region.wanted, hgd]
  rw [if_pos hw]
  obtain ⟨v', w', hr, h2, h3, h5⟩ := run_append_z (P := P) w t o.type e i z size bytes ht hi hz hsize hby hzs hsz v n xs hown ad m c hm news hl hnews h1 h63 hbytes
  unfold Oper.wp execOp
  simp only [ho, resolve, invoke, builtin, Sem.run_bind, Sem.run_pure, Result.andThen_ok, List.map_toArray, List.map_cons, List.map_nil, hs, hx, hr]
  exact h v' w' h2 h3 h5
theorem wpList_append_z {P : Program} {ops : Array Oper} {rest : List Oper} {o : Oper} {a : Act} {w : World} {Q : Exit → Act → World → Prop} (hgd : o.guard = none) (s x : Operand) (t : TypeId)
    (ho : o.op = .call { callee := .builtin .append, args := #[s, x], argTypes := #[t, t] })
    (e : TypeId) (i : TypeInfo) (z : Value) (size bytes : Nat) (ht : P.underlying t = some (.slice e)) (hi : P.info? e = some i) (hz : i.zero = some z)
    (hsize : i.size = size) (hby : i.bytes = bytes) (hzs : z.cells.size = size) (hsz : 0 < size)
    (v : Value) (n : Nat) (xs : List Value) (hs : a.eval s = v) (hown : RowZ w e size v n xs)
    (ad : Addr) (m c : Nat) (hm : 0 < m) (news : List Value) (hx : a.eval x = .slice (some ad) m c) (hl : news.length = m * size)
    (hnews : ∀ j u, news[j]? = some u → w.cell? (ad.add j) = some u) (h1 : ∀ u ∈ news, u.oneCell' = true)
    (h63 : n + m ≤ maxLen) (hbytes : (n + m) * bytes ≤ 140737488355328)
    (h : ∀ v' w', w'.ownsRow 0 e size v' (n + m) (xs ++ news) → w.grownBy w' v.ownBlock → (v'.ownBlock = v.ownBlock ∨ v'.ownBlock = some w.heap.size) → wpList P ops Q rest (a.put o.dst v') w') : wpList P ops Q (o :: rest) a w :=
  wpList_plain hgd fun _ hK => by
    obtain ⟨v', w', hr, h2, h3, h5⟩ := run_append_z (P := P) w t o.type e i z size bytes ht hi hz hsize hby hzs hsz v n xs hown ad m c hm news hl hnews h1 h63 hbytes
    unfold Oper.wp execOp
    simp only [ho, resolve, invoke, builtin, Sem.run_bind, Sem.run_pure, Result.andThen_ok, List.map_toArray, List.map_cons, List.map_nil, hs, hx, hr]
    exact hK _ _ (h v' w' h2 h3 h5)
theorem info_wait : (Try.prog.info? 75).map (fun i => (i.zero, i.size, i.bytes)) = some (some (.agg z257), 257, 264) := by kernel_rfl
theorem info_wrt : (Try.prog.info? 64).map (fun i => (i.zero, i.size, i.bytes)) = some (some (.agg #[.int .i64 0, .slice none 0 0]), 2, 32) := by kernel_rfl
theorem info_img : (Try.prog.info? 68).map (fun i => (i.zero, i.size, i.bytes)) = some (some (.slice none 0 0), 1, 24) := by kernel_rfl

/-! ### In the middle of a call -/
structure DState (F : Nat → Prop) (w0 w : World) (d sb : Nat) (wa cp wr : Value) (cs : List Nat) (ws : List Value) (s : Dv) : Prop where
  dv : DevAt w d (.slice (some ⟨sb, 0, none⟩) s.st.length s.st.length) wa s.off s.ar s.co cp wr
  m : Mem w sb wa cp wr cs ws s
  f : Foot (Grown F w0 w) d sb wa cp wr cs ws
  md : Mods F w0 w
theorem grown_mono {F : Nat → Prop} {w0 w w' : World} (h : w.heap.size ≤ w'.heap.size) : ∀ k, Grown F w0 w k → Grown F w0 w' k := fun k hk => by
  rcases hk with hk | hk
  · exact .inl hk
  · exact .inr ⟨hk.1, Nat.lt_of_lt_of_le hk.2 h⟩
section
variable {F : Nat → Prop} {w0 w w' : World} {d sb : Nat} {wa cp wr : Value} {cs : List Nat} {ws : List Value} {s : Dv}
theorem DState.below (H : DState F w0 w d sb wa cp wr cs ws s) (hb : Below w.heap.size w w') : DState F w0 w' d sb wa cp wr cs ws s :=
  ⟨Blk.below H.dv hb (Blk.lt H.dv), H.m.below hb, H.f.mono (grown_mono hb.size), H.md.below hb⟩
theorem DState.next (H : DState F w0 w d sb wa cp wr cs ws s) (hok : s.Ok) (hb : ∀ k, F k → k < w0.heap.size) : DevNext F w0 w d s := devNext_of hok hb H.md H.dv H.m H.f
theorem DState.rep (H : DState F w0 w d sb wa cp wr cs ws s) (hok : s.Ok) (hb : ∀ k, F k → k < w0.heap.size) : DevRep w d s (Grown F w0 w) := (H.next hok hb).1
theorem DevRep.state (H : DevRep w d s F) : ∃ sb wa cp wr cs ws, DState F w w d sb wa cp wr cs ws s := by
  obtain ⟨_, _, sb, wa, cp, wr, cs, ws, hd, hM, hF⟩ := H
  exact ⟨sb, wa, cp, wr, cs, ws, hd, hM, hF.mono (fun k hk => .inl hk), Mods.refl F w⟩
theorem foot_row {k : Nat} (H : DState F w0 w d sb wa cp wr cs ws s) (h : Grown F w0 w k) : F k ∨ w0.heap.size ≤ k := by
  rcases h with h | h
  · exact .inl h
  · exact .inr h.1
/-- The row of what waits is longer, and the device told of it. -/
theorem DState.wait (H : DState F w0 w d sb wa cp wr cs ws s) {wa' : Value} {wl : List (Nat × List Nat)} (hown : w'.ownsRow 0 75 257 wa' wl.length (flatW wl)) (hg : w.grownBy w' wa.ownBlock) (hb : wa'.ownBlock = wa.ownBlock ∨ wa'.ownBlock = some w.heap.size) :
    DState F w0 (w'.setCell ⟨d, 1, none⟩ wa') d sb wa' cp wr cs ws { s with wa := wl } ∧ w'.cell? ⟨d, 1, none⟩ = some wa ∧ w'.frozen? ⟨d, 1, none⟩ = false := by
  have hd' : DevAt w' d (.slice (some ⟨sb, 0, none⟩) s.st.length s.st.length) wa s.off s.ar s.co cp wr := DevAt.keep H.dv H.m.wa.typed hg (by decide)
  have hg2 : w'.grownBy (w'.setCell ⟨d, 1, none⟩ wa') (some d) := gb_set (gb_refl w' (some d)) (p := ⟨d, 1, none⟩) (.inl rfl) wa'
  have hM := H.m.turnWa (.inl hown) hg
  refine ⟨⟨Blk.put hd' 1 wa', hM.dev hd' hg2, ?_, (H.md.grown hg (fun k hk => foot_row H (H.f.wa k hk))).grown hg2 (fun k hk => by injection hk with hk; rw [← hk]; exact foot_row H H.f.d)⟩, (DevAt.cells hd').2.1, Blk.free hd' 1⟩
  have hf := H.f.mono (grown_mono (Nat.le_trans hg.size hg2.size))
  refine ⟨hf.d, hf.sb, fun k hk => ?_, hf.cp, hf.wr, hf.cs, hf.ws⟩
  rcases hb with hb | hb
  · exact hf.wa k (hb ▸ hk)
  · rw [hb] at hk
    injection hk with hk
    obtain ⟨cur, hc⟩ := own_typed hown k (by rw [hb, hk])
    exact .inr ⟨by rw [← hk]; exact H.md.size, Nat.lt_of_lt_of_le hc.lt hg2.size⟩
/-- Another row is what waits. -/
theorem DState.setWait (H : DState F w0 w d sb wa cp wr cs ws s) {wa' : Value} {wl : List (Nat × List Nat)} (hrow : RowZ w 75 257 wa' wl.length (flatW wl)) (hb : ∀ k, wa'.ownBlock = some k → Grown F w0 w k) :
    DState F w0 (w.setCell ⟨d, 1, none⟩ wa') d sb wa' cp wr cs ws { s with wa := wl } := by
  have hg2 : w.grownBy (w.setCell ⟨d, 1, none⟩ wa') (some d) := gb_set (gb_refl w (some d)) (p := ⟨d, 1, none⟩) (.inl rfl) wa'
  have hM := H.m.turnWa hrow (gb_refl w _)
  have hf := H.f.mono (grown_mono hg2.size)
  exact ⟨Blk.put H.dv 1 wa', hM.dev H.dv hg2, ⟨hf.d, hf.sb, fun k hk => grown_mono hg2.size k (hb k hk), hf.cp, hf.wr, hf.cs, hf.ws⟩, H.md.grown hg2 (fun k hk => by injection hk with hk; rw [← hk]; exact foot_row H H.f.d)⟩
/-- .. the row of all writes. -/
theorem DState.written (H : DState F w0 w d sb wa cp wr cs ws s) {wr' v : Value} {i : Nat} {b : List Nat} (hown : w'.ownsRow 0 64 2 wr' (s.wr.length + 1) (flatR s.wr ws ++ [.int .i64 (i : Int), v])) (hv : OwnB w 0 5 v b) (hvF : ∀ k, v.ownBlock = some k → Grown F w0 w k)
    (hg : w.grownBy w' wr.ownBlock) (hb : wr'.ownBlock = wr.ownBlock ∨ wr'.ownBlock = some w.heap.size) :
    DState F w0 (w'.setCell ⟨d, 6, none⟩ wr') d sb wa cp wr' cs (ws ++ [v]) { s with wr := s.wr ++ [(i, b)] } ∧ w'.cell? ⟨d, 6, none⟩ = some wr ∧ w'.frozen? ⟨d, 6, none⟩ = false := by
  have hd' : DevAt w' d (.slice (some ⟨sb, 0, none⟩) s.st.length s.st.length) wa s.off s.ar s.co cp wr := DevAt.keep H.dv (own_typed H.m.wr) hg (by decide)
  have hg2 : w'.grownBy (w'.setCell ⟨d, 6, none⟩ wr') (some d) := gb_set (gb_refl w' (some d)) (p := ⟨d, 6, none⟩) (.inl rfl) wr'
  have hM := H.m.turnWr hown hv hg
  refine ⟨⟨Blk.put hd' 6 wr', hM.dev hd' hg2, ?_, (H.md.grown hg (fun k hk => foot_row H (H.f.wr k hk))).grown hg2 (fun k hk => by injection hk with hk; rw [← hk]; exact foot_row H H.f.d)⟩, (DevAt.cells hd').2.2.2.2.2.2, Blk.free hd' 6⟩
  have hf := H.f.mono (grown_mono (Nat.le_trans hg.size hg2.size))
  refine ⟨hf.d, hf.sb, hf.wa, hf.cp, fun k hk => ?_, hf.cs, fun u hu k hk => ?_⟩
  · rcases hb with hb | hb
    · exact hf.wr k (hb ▸ hk)
    · rw [hb] at hk
      injection hk with hk
      obtain ⟨cur, hc⟩ := own_typed hown k (by rw [hb, hk])
      exact .inr ⟨by rw [← hk]; exact H.md.size, Nat.lt_of_lt_of_le hc.lt hg2.size⟩
  · rcases List.mem_append.1 hu with hu | hu
    · exact hf.ws u hu k hk
    · rw [List.mem_singleton.1 hu] at hk
      exact grown_mono (Nat.le_trans hg.size hg2.size) k (hvF k hk)
theorem BytesIn.mods {a : Option Addr} {len cap : Nat} {xs : List Nat} (h : BytesIn w0 a len cap xs) (hm : Mods F w0 w) (hn : ∀ ad, a = some ad → ¬ F ad.block) : BytesIn w a len cap xs := by
  refine ⟨⟨h.1.1, h.1.2.1, fun hp => ?_⟩, h.2⟩
  obtain ⟨b, off, rfl, hlt, hc⟩ := h.1.2.2 hp
  exact ⟨b, off, rfl, Nat.lt_of_lt_of_le hlt hm.size, fun j n hj => (World.cell?_of_block (w := w0) (a := ⟨b, off + j, none⟩) (hm.block b hlt (hn _ rfl))).trans (hc j n hj)⟩
end
end Go.Proofs.Ytjmghpoknlffiaa

namespace Go.Proofs.Ytjmghpoknlffiaa
open Go.ChangeShapes Go.WideShapes Go.ChangeAt Go.RowKit
set_option linter.unusedSimpArgs false

theorem rng {w : World} {gb ob len cap : Nat} {b : List Nat} (h : BytesIn w (some ⟨gb, ob, none⟩) len cap b) : w.rangeAt gb ob (b.map vb) := fun j u hu => by
  have hh := h.src _ rfl j u hu
  rw [Go.WideShapes.add_plain] at hh
  exact hh
theorem exec_arr {o : Oper} {a : Act} {w : World} (x : Operand) (gb ob cap : Nat) (ho : o.op = .sliceToArrayPointer 73 x) (hx : a.eval x = .slice (some ⟨gb, ob, none⟩) 256 cap) : (execOp a.eval o).run Try.prog w = .ok (.value (.pointer (some ⟨gb, ob, none⟩))) w := by
  unfold execOp
  simp only [ho, hx]
  simp [Instr.arrayAt, run_underlying Try.underlying73]
section
variable {w : World} {d : Nat} {s : Dv} {F : Nat → Prop}
set_option maxRecDepth 100000 in
set_option maxHeartbeats 8000000 in
theorem writeD_good (H : DevRep w d s F) (i : Nat) (hi : i < s.st.length) (ho : s.off = false) (a : Option Addr) (cap : Nat) (b : List Nat) (hx : BytesIn w a 256 cap b) (hout : ∀ ad, a = some ad → ¬ F ad.block) (hwl : s.wa.length ≤ 1000000000) (hrl : s.wr.length ≤ 1000000000) :
    Calls Try.prog 12 #[.pointer (some ⟨d, 0, none⟩), .int .i64 (i : Int), .slice a 256 cap] w fun e w' => e = .returned (.int .i64 (if spentOff s.ar = true then 7 else 0)) ∧ DevNext F w w' d (s.put i b).spent := by
  obtain ⟨gb, ob, rfl, _, _⟩ := hx.1.2.2 (by omega)
  have hb8 : Bl b := ⟨hx.1.1, fun x h => wf_u8_lt (hx.1.2.1 x h)⟩
  have Hbl := Lib.hid hb8.1
  have HX := Lib.hid hx
  have Hout := Lib.hid hout
  have Hok := Lib.hid H.1
  have HFl := Lib.hid H.2.1
  have Hok2 := Lib.hid (H.1.put hi hb8)
  have Ho := Lib.hid ho
  have HRd := Lib.hid (ready_any H (i : Int))
  rw [show s.rdy (i : Int) = 0 by unfold Dv.rdy; rw [ho, if_neg (by decide), if_neg (by omega)]] at HRd
  obtain ⟨sb, wa, cp, wr, cs, ws, hD⟩ := H.state
  have HD := Lib.hid hD
  obtain ⟨iw, hiw, hz0, hz1, hz2⟩ := info_parts info_wait
  have Hiw := Lib.hid (And.intro hiw (And.intro hz0 (And.intro hz1 hz2)))
  obtain ⟨iv, hiv, hv0, hv1, hv2⟩ := info_parts info_wrt
  have Hiv := Lib.hid (And.intro hiv (And.intro hv0 (And.intro hv1 hv2)))
  have Hcl := Lib.hid (show (cellW (i, b)).length = 1 * 257 by rw [cellW_len hb8])
  have Hcs := Lib.hid (show (Value.agg (cellW (i, b)).toArray).cells.size = 257 from by
    show (cellW (i, b)).toArray.size = 257
    rw [List.size_toArray, cellW_len hb8])
  have Hm := Lib.hid (show s.wa.length + 1 ≤ maxLen ∧ (s.wa.length + 1) * 264 ≤ 140737488355328 from ⟨by unfold maxLen; omega, by omega⟩)
  have Hm2 := Lib.hid (show s.wr.length + 1 ≤ maxLen ∧ (s.wr.length + 1) * 32 ≤ 140737488355328 from ⟨by unfold maxLen; omega, by omega⟩)
  obtain ⟨so, hso⟩ : ∃ so, so = spentOff s.ar := ⟨_, rfl⟩
  have Hso := Lib.hid hso
  rw [← hso]
  clear hso
  clear H hi ho hx hout hb8 hD hiw hz0 hz1 hz2 hiv hv0 hv1 hv2 hwl hrl
  go_enter Try.func12, Try.ntmps12
  go_wp2_with fail
  refine HRd.out.mono ?_
  rintro e w' ⟨rfl, rfl⟩
  go_upto_region 6 with fail
  go_cut [7] (fun s7 wx => s7 = .int .i64 0 ∧ ∃ wa', DState F w wx d sb wa' cp wr cs ws { s with wa := s.wa ++ [(i, b)] })
  case first =>
    refine wp_region_held_drew (S := fun W => W.rangeAt gb ob (b.map vb)) (by kernel_rfl) (rng (HX.out.mods (HD.out.md.below (nu_drew (nu_refl w))) Hout.out)) (fun hHeld => ?_)
    dsimp only [Array.replicate, List.replicate, List.size_toArray, List.length_cons, List.length_nil, Nat.reduceAdd] at hHeld ⊢
    have HD0 := Lib.hid (HD.out.below (nu_drew (nu_refl w)))
    generalize w.drew = u0 at *
    refine take_l (i := 0) (v := ?_) rfl (by kernel_rfl) (by kernel_rfl) (by kernel_rfl) (fun _ _ _ h => h) (Or.inl ⟨by rfl, ?_⟩) (by assumption) ?_
    case refine_2 => (intro _ _; go_simp; all_goals with_reducible rfl)
    simp only [Act.put, List.setIfInBounds_toArray, List.set_cons_zero, List.set_cons_succ]
    refine take_l (i := 1) (v := ?_) rfl (by kernel_rfl) (by kernel_rfl) (by kernel_rfl) (fun _ _ _ h => h) (Or.inl ⟨by rfl, ?_⟩) (by assumption) ?_
    case refine_2 => (intro _ _; go_simp; all_goals with_reducible rfl)
    simp only [Act.put, List.setIfInBounds_toArray, List.set_cons_zero, List.set_cons_succ]
    refine take_l (i := 2) (v := ?_) rfl (by kernel_rfl) (by kernel_rfl) (by kernel_rfl) (fun _ _ _ h => h) (Or.inl ⟨by rfl, ?_⟩) (by assumption) ?_
    case refine_2 => (intro _ _; go_simp; all_goals with_reducible rfl)
    simp only [Act.put, List.setIfInBounds_toArray, List.set_cons_zero, List.set_cons_succ]
    refine take_l (i := 3) (v := ?_) rfl (by kernel_rfl) (by kernel_rfl) (by kernel_rfl) (fun _ _ _ h => h) (Or.inl ⟨by rfl, ?_⟩) (by assumption) ?_
    case refine_2 => (intro _ _; go_simp; all_goals with_reducible rfl)
    simp only [Act.put, List.setIfInBounds_toArray, List.set_cons_zero, List.set_cons_succ]
    refine take_l (i := 5) (v := ?_) rfl (by kernel_rfl) (by kernel_rfl) (by kernel_rfl) (fun _ _ _ h => h) (Or.inl ⟨by rfl, ?_⟩) (by assumption) ?_
    case refine_2 => (intro _ _; go_simp; all_goals with_reducible rfl)
    simp only [Act.put, List.setIfInBounds_toArray, List.set_cons_zero, List.set_cons_succ]
    refine take_l (i := 6) (v := ?_) rfl (by kernel_rfl) (by kernel_rfl) (by kernel_rfl) (fun _ _ _ h => h) (Or.inl ⟨by rfl, ?_⟩) (by assumption) ?_
    case refine_2 => (intro _ _; go_simp; all_goals with_reducible rfl)
    simp only [Act.put, List.setIfInBounds_toArray, List.set_cons_zero, List.set_cons_succ]
    refine take_l (i := 7) rfl (by kernel_rfl) (by kernel_rfl) (by kernel_rfl) (fun _ _ _ h => h) (Or.inl ⟨by rfl, fun W hS => exec_arr (.tmp 27) gb ob cap rfl rfl⟩) (by assumption) ?_
    simp only [Act.put, List.setIfInBounds_toArray, List.set_cons_zero, List.set_cons_succ]
    refine take_l (i := 8) rfl (by kernel_rfl) (by kernel_rfl) (by kernel_rfl) (fun _ _ _ h => h) (Or.inl ⟨by rfl, fun W hS => e256_mid hS Hbl.out (.tmp 28) rfl rfl⟩) (by assumption) ?_
    simp only [Act.put, List.setIfInBounds_toArray, List.set_cons_zero, List.set_cons_succ]
    refine take_l (i := 9) rfl (by kernel_rfl) (by kernel_rfl) (by kernel_rfl) (fun _ _ _ h => h) (Or.inl ⟨by rfl, fun W hS => exec_bw (.tmp 26) (.tmp 29) i b Hbl.out rfl rfl rfl⟩) (by assumption) ?_
    simp only [Act.put, List.setIfInBounds_toArray, List.set_cons_zero, List.set_cons_succ]
    clear hHeld HD
    refine wpAnyH_ready (rs := [4, 10]) (by kernel_rfl) (by simp) ?_
    refine cons_l rfl (fun K hK => ?_) ?_
    · have c1 := (DevAt.cells HD0.out.dv).2.1
      go_simp
      go_wp2_with fail
      refine hK.out _ _ (rng (HX.out.mods HD0.out.md Hout.out)) (fun hHeld => ?_)
      clear hK K hHeld
      simp only [Act.put, List.setIfInBounds_toArray, List.set_cons_zero, List.set_cons_succ]
      clear c1
      refine wpAnyH_ready (rs := [10]) (by kernel_rfl) (by simp) ?_
      refine cons_l rfl (fun K hK => ?_) AllReadyH.nil
      refine step_runW _ (exec_slice1 (.tmp 30) 69 75 iw (.agg z257) 257 Try.underlying69 Hiw.out.1 Hiw.out.2.1 Hiw.out.2.2.1 (by omega) (by omega) (.agg (cellW (i, b)).toArray) Hcs.out rfl rfl) rfl ?_
      change K _ (u0.alloc (.cells (cellW (i, b)).toArray 75))
      have HG := Lib.hid (Blk.made u0 75 (cellW (i, b)).toArray)
      have HD1 := Lib.hid (HD0.out.below (nu_alloc (nu_refl u0) (.cells (cellW (i, b)).toArray 75)))
      clear HD0
      generalize u0.alloc (.cells (cellW (i, b)).toArray 75) = u1 at *
      obtain ⟨G, hG⟩ : ∃ G, G = u0.heap.size := ⟨_, rfl⟩
      rw [← hG] at HG
      rw [← hG]
      clear hG
      refine hK.out _ _ (rng (HX.out.mods HD1.out.md Hout.out)) (fun hHeld => ?_)
      clear hK K hHeld
      simp only [Act.put, List.setIfInBounds_toArray, List.set_cons_zero, List.set_cons_succ]
      refine wpAnyH_ready (rs := [11]) (by kernel_rfl) (by simp) ?_
      refine cons_l rfl (fun K hK => ?_) AllReadyH.nil
      refine step_append_z rfl (.tmp 25) (.tmp 31) 69 rfl 75 iw (.agg z257) 257 264 Try.underlying69 Hiw.out.1 Hiw.out.2.1 Hiw.out.2.2.1 Hiw.out.2.2.2 z257_size (by omega) wa s.wa.length (flatW s.wa) rfl HD1.out.m.wa ⟨G, 0, none⟩ 1 1 (by omega) (cellW (i, b)) rfl Hcl.out (fun j u hu => by rw [Addr.add_lit, Nat.zero_add]; exact HG.out.at j u (by simpa using hu)) (cellW_one _) Hm.out.1 Hm.out.2 ?_
      intro v' u2 hown hg hb
      obtain ⟨va, vc, rfl⟩ := own_len hown
      have Hmd := Lib.hid (HD1.out.md.grown hg (fun k hk => foot_row HD1.out (HD1.out.f.wa k hk)))
      have Hw := Lib.hid (HD1.out.wait (wl := s.wa ++ [(i, b)]) (by rw [List.length_append, flatW_snoc]; exact hown) hg hb)
      clear hown hg hb HD1 HG
      refine hK.out _ _ (rng (HX.out.mods Hmd.out Hout.out)) (fun hHeld => ?_)
      clear hK K
      simp only [Act.put, List.setIfInBounds_toArray, List.set_cons_zero, List.set_cons_succ]
      refine take_l (i := 12) (v := ?_) rfl (by kernel_rfl) (by kernel_rfl) (by kernel_rfl) (fun _ _ _ h => h) (Or.inl ⟨by rfl, ?_⟩) (by assumption) ?_
      case refine_2 => (intro _ _; go_simp; all_goals with_reducible rfl)
      simp only [Act.put, List.setIfInBounds_toArray, List.set_cons_zero, List.set_cons_succ]
      refine take_l (i := 13) (v := ?_) rfl (by kernel_rfl) (by kernel_rfl) (by kernel_rfl) (fun _ _ _ h => h) (Or.inl ⟨by rfl, ?_⟩) (by assumption) ?_
      case refine_2 => (intro _ _; go_simp; all_goals with_reducible rfl)
      simp only [Act.put, List.setIfInBounds_toArray, List.set_cons_zero, List.set_cons_succ]
      clear hHeld
      refine wpAnyH_ready (rs := [14]) (by kernel_rfl) (by simp) ?_
      refine cons_l rfl (fun K hK => ?_) AllReadyH.nil
      obtain ⟨_, c1, f1⟩ := Hw.out
      go_simp
      go_wp2_with fail
      refine hK.out _ _ (rng (HX.out.mods Hw.out.1.md Hout.out)) (fun hHeld => ?_)
      clear hK K hHeld
      simp only [Act.put, List.setIfInBounds_toArray, List.set_cons_zero, List.set_cons_succ]
      clear c1 f1
      refine wpAnyH_done (by kernel_rfl) ?_ _
      go_wp2_with fail
      go_meet
      exact ⟨rfl, _, Hw.out.1⟩
    refine cons_l rfl (fun K hK => ?_) AllReadyH.nil
    refine step_runW _ (exec_slice1 (.tmp 30) 69 75 iw (.agg z257) 257 Try.underlying69 Hiw.out.1 Hiw.out.2.1 Hiw.out.2.2.1 (by omega) (by omega) (.agg (cellW (i, b)).toArray) Hcs.out rfl rfl) rfl ?_
    change K _ (u0.alloc (.cells (cellW (i, b)).toArray 75))
    have HG := Lib.hid (Blk.made u0 75 (cellW (i, b)).toArray)
    have HD1 := Lib.hid (HD0.out.below (nu_alloc (nu_refl u0) (.cells (cellW (i, b)).toArray 75)))
    clear HD0
    generalize u0.alloc (.cells (cellW (i, b)).toArray 75) = u1 at *
    obtain ⟨G, hG⟩ : ∃ G, G = u0.heap.size := ⟨_, rfl⟩
    rw [← hG] at HG
    rw [← hG]
    clear hG
    refine hK.out _ _ (rng (HX.out.mods HD1.out.md Hout.out)) (fun hHeld => ?_)
    clear hK K hHeld
    simp only [Act.put, List.setIfInBounds_toArray, List.set_cons_zero, List.set_cons_succ]
    refine wpAnyH_ready (rs := [4]) (by kernel_rfl) (by simp) ?_
    refine cons_l rfl (fun K hK => ?_) AllReadyH.nil
    have c1 := (DevAt.cells HD1.out.dv).2.1
    go_simp
    go_wp2_with fail
    refine hK.out _ _ (rng (HX.out.mods HD1.out.md Hout.out)) (fun hHeld => ?_)
    clear hK K hHeld
    simp only [Act.put, List.setIfInBounds_toArray, List.set_cons_zero, List.set_cons_succ]
    clear c1
    refine wpAnyH_ready (rs := [11]) (by kernel_rfl) (by simp) ?_
    refine cons_l rfl (fun K hK => ?_) AllReadyH.nil
    refine step_append_z rfl (.tmp 25) (.tmp 31) 69 rfl 75 iw (.agg z257) 257 264 Try.underlying69 Hiw.out.1 Hiw.out.2.1 Hiw.out.2.2.1 Hiw.out.2.2.2 z257_size (by omega) wa s.wa.length (flatW s.wa) rfl HD1.out.m.wa ⟨G, 0, none⟩ 1 1 (by omega) (cellW (i, b)) rfl Hcl.out (fun j u hu => by rw [Addr.add_lit, Nat.zero_add]; exact HG.out.at j u (by simpa using hu)) (cellW_one _) Hm.out.1 Hm.out.2 ?_
    intro v' u2 hown hg hb
    obtain ⟨va, vc, rfl⟩ := own_len hown
    have Hmd := Lib.hid (HD1.out.md.grown hg (fun k hk => foot_row HD1.out (HD1.out.f.wa k hk)))
    have Hw := Lib.hid (HD1.out.wait (wl := s.wa ++ [(i, b)]) (by rw [List.length_append, flatW_snoc]; exact hown) hg hb)
    clear hown hg hb HD1 HG
    refine hK.out _ _ (rng (HX.out.mods Hmd.out Hout.out)) (fun hHeld => ?_)
    clear hK K
    simp only [Act.put, List.setIfInBounds_toArray, List.set_cons_zero, List.set_cons_succ]
    refine take_l (i := 12) (v := ?_) rfl (by kernel_rfl) (by kernel_rfl) (by kernel_rfl) (fun _ _ _ h => h) (Or.inl ⟨by rfl, ?_⟩) (by assumption) ?_
    case refine_2 => (intro _ _; go_simp; all_goals with_reducible rfl)
    simp only [Act.put, List.setIfInBounds_toArray, List.set_cons_zero, List.set_cons_succ]
    refine take_l (i := 13) (v := ?_) rfl (by kernel_rfl) (by kernel_rfl) (by kernel_rfl) (fun _ _ _ h => h) (Or.inl ⟨by rfl, ?_⟩) (by assumption) ?_
    case refine_2 => (intro _ _; go_simp; all_goals with_reducible rfl)
    simp only [Act.put, List.setIfInBounds_toArray, List.set_cons_zero, List.set_cons_succ]
    clear hHeld
    refine wpAnyH_ready (rs := [14]) (by kernel_rfl) (by simp) ?_
    refine cons_l rfl (fun K hK => ?_) AllReadyH.nil
    obtain ⟨_, c1, f1⟩ := Hw.out
    go_simp
    go_wp2_with fail
    refine hK.out _ _ (rng (HX.out.mods Hw.out.1.md Hout.out)) (fun hHeld => ?_)
    clear hK K hHeld
    simp only [Act.put, List.setIfInBounds_toArray, List.set_cons_zero, List.set_cons_succ]
    clear c1 f1
    refine wpAnyH_done (by kernel_rfl) ?_ _
    go_wp2_with fail
    go_meet
    exact ⟨rfl, _, Hw.out.1⟩
  case rest =>
    obtain ⟨rfl, wa', hD⟩ := hcut
    clear HD Hm
    have HD := Lib.hid hD
    have Hm := Hm2
    clear hD Hm2
    obtain ⟨s1, hs1⟩ : ∃ s1 : Dv, s1 = { s with wa := s.wa ++ [(i, b)] } := ⟨_, rfl⟩
    have Hs1 := Lib.hid hs1
    have Hs1w := Lib.hid (show s1.wr = s.wr by rw [hs1])
    rw [← hs1] at HD
    rw [← Hs1w.out] at Hm
    clear hs1 Hs1w
    obtain ⟨w1, rfl⟩ : ∃ q : World, q = wc := ⟨_, rfl⟩
    go_upto_region 7 with fail
    go_cut [7] (fun s7 wx => s7 = .int .i64 0 ∧ ∃ wr' ws', DState F w wx d sb wa' cp wr' cs ws' { s1 with wr := s1.wr ++ [(i, b)] })
    case first =>
      refine wp_region_held_drew (S := fun _ => True) (by kernel_rfl) (trivial) (fun hHeld => ?_)
      dsimp only [Array.replicate, List.replicate, List.size_toArray, List.length_cons, List.length_nil, Nat.reduceAdd] at hHeld ⊢
      have HD0 := Lib.hid (HD.out.below (nu_drew (nu_refl w1)))
      generalize w1.drew = u0 at *
      refine take_l (i := 0) (v := ?_) rfl (by kernel_rfl) (by kernel_rfl) (by kernel_rfl) (fun _ _ _ h => h) (Or.inl ⟨by rfl, ?_⟩) (by assumption) ?_
      case refine_2 => (intro _ _; go_simp; all_goals with_reducible rfl)
      simp only [Act.put, List.setIfInBounds_toArray, List.set_cons_zero, List.set_cons_succ]
      refine take_l (i := 1) (v := ?_) rfl (by kernel_rfl) (by kernel_rfl) (by kernel_rfl) (fun _ _ _ h => h) (Or.inl ⟨by rfl, ?_⟩) (by assumption) ?_
      case refine_2 => (intro _ _; go_simp; all_goals with_reducible rfl)
      simp only [Act.put, List.setIfInBounds_toArray, List.set_cons_zero, List.set_cons_succ]
      refine take_l (i := 2) (v := ?_) rfl (by kernel_rfl) (by kernel_rfl) (by kernel_rfl) (fun _ _ _ h => h) (Or.inl ⟨by rfl, ?_⟩) (by assumption) ?_
      case refine_2 => (intro _ _; go_simp; all_goals with_reducible rfl)
      simp only [Act.put, List.setIfInBounds_toArray, List.set_cons_zero, List.set_cons_succ]
      refine take_l (i := 3) (v := ?_) rfl (by kernel_rfl) (by kernel_rfl) (by kernel_rfl) (fun _ _ _ h => h) (Or.inl ⟨by rfl, ?_⟩) (by assumption) ?_
      case refine_2 => (intro _ _; go_simp; all_goals with_reducible rfl)
      simp only [Act.put, List.setIfInBounds_toArray, List.set_cons_zero, List.set_cons_succ]
      refine take_l (i := 5) (v := ?_) rfl (by kernel_rfl) (by kernel_rfl) (by kernel_rfl) (fun _ _ _ h => h) (Or.inl ⟨by rfl, ?_⟩) (by assumption) ?_
      case refine_2 => (intro _ _; go_simp; all_goals with_reducible rfl)
      simp only [Act.put, List.setIfInBounds_toArray, List.set_cons_zero, List.set_cons_succ]
      refine take_l (i := 6) (v := ?_) rfl (by kernel_rfl) (by kernel_rfl) (by kernel_rfl) (fun _ _ _ h => h) (Or.inl ⟨by rfl, ?_⟩) (by assumption) ?_
      case refine_2 => (intro _ _; go_simp; all_goals with_reducible rfl)
      simp only [Act.put, List.setIfInBounds_toArray, List.set_cons_zero, List.set_cons_succ]
      clear hHeld HD
      refine wpAnyH_ready (rs := [4, 7]) (by kernel_rfl) (by simp) ?_
      refine cons_l rfl (fun K hK => ?_) ?_
      · have c6 := (DevAt.cells HD0.out.dv).2.2.2.2.2.2
        go_simp
        go_wp2_with fail
        refine hK.out _ _ trivial (fun hHeld => ?_)
        clear hK K
        simp only [Act.put, List.setIfInBounds_toArray, List.set_cons_zero, List.set_cons_succ]
        clear c6 hHeld
        refine wpAnyH_ready (rs := [7]) (by kernel_rfl) (by simp) ?_
        refine cons_l rfl (fun K hK => ?_) AllReadyH.nil
        go_simp
        go_at_call 37
        refine (clone_any (some ⟨gb, ob, none⟩) 256 cap b u0 (HX.out.mods HD0.out.md Hout.out) (by omega)).mono ?_
        rintro e u1 ⟨v, rfl, hO, hb⟩
        obtain ⟨C, cc, rfl, hC, hCl, _⟩ := ownB_slice hO (by rw [Hbl.out]; omega)
        rw [Hbl.out] at hO
        rw [Hbl.out]
        have HO1 := Lib.hid (show OwnB u1 0 5 (.slice (some ⟨C, 0, none⟩) 256 cc) b from ⟨own_zero hO.1, hO.2⟩)
        have HC := Lib.hid (show w.heap.size ≤ C from Nat.le_trans HD0.out.md.size hC)
        have HD1 := Lib.hid (HD0.out.below hb)
        clear HD0 hb hO hC hCl
        go_wp2_with fail
        refine hK.out _ _ trivial (fun hHeld => ?_)
        clear hK K
        simp only [Act.put, List.setIfInBounds_toArray, List.set_cons_zero, List.set_cons_succ]
        refine take_l (i := 8) (v := ?_) rfl (by kernel_rfl) (by kernel_rfl) (by kernel_rfl) (fun _ _ _ h => h) (Or.inl ⟨by rfl, ?_⟩) (by assumption) ?_
        case refine_2 => (intro _ _; go_simp; all_goals with_reducible rfl)
        simp only [Act.put, List.setIfInBounds_toArray, List.set_cons_zero, List.set_cons_succ]
        clear hHeld
        refine wpAnyH_ready (rs := [9]) (by kernel_rfl) (by simp) ?_
        refine cons_l rfl (fun K hK => ?_) AllReadyH.nil
        refine step_runW _ (exec_slice1 (.tmp 43) 57 64 iv (.agg #[.int .i64 0, .slice none 0 0]) 2 Try.underlying57 Hiv.out.1 Hiv.out.2.1 Hiv.out.2.2.1 (by omega) (by omega) (.agg #[.int .i64 (i : Int), .slice (some ⟨C, 0, none⟩) 256 cc]) rfl rfl rfl) rfl ?_
        change K _ (u1.alloc (.cells #[.int .i64 (i : Int), .slice (some ⟨C, 0, none⟩) 256 cc] 64))
        have HG := Lib.hid (Blk.made u1 64 #[.int .i64 (i : Int), .slice (some ⟨C, 0, none⟩) 256 cc])
        have hal := nu_alloc (nu_refl u1) (.cells #[.int .i64 (i : Int), .slice (some ⟨C, 0, none⟩) 256 cc] 64)
        have HD2 := Lib.hid (HD1.out.below hal)
        have HO2 := Lib.hid (ownB_under HO1.out hal)
        clear HD1 HO1 hal
        generalize u1.alloc (.cells #[.int .i64 (i : Int), .slice (some ⟨C, 0, none⟩) 256 cc] 64) = u2 at *
        obtain ⟨G, hG⟩ : ∃ G, G = u1.heap.size := ⟨_, rfl⟩
        rw [← hG] at HG
        rw [← hG]
        clear hG
        refine hK.out _ _ trivial (fun hHeld => ?_)
        clear hK K
        simp only [Act.put, List.setIfInBounds_toArray, List.set_cons_zero, List.set_cons_succ]
        clear hHeld
        refine wpAnyH_ready (rs := [10]) (by kernel_rfl) (by simp) ?_
        refine cons_l rfl (fun K hK => ?_) AllReadyH.nil
        refine step_append_own rfl (.tmp 39) (.tmp 44) 57 rfl 0 64 iv (.agg #[.int .i64 0, .slice none 0 0]) 2 32 Try.underlying57 Hiv.out.1 Hiv.out.2.1 Hiv.out.2.2.1 Hiv.out.2.2.2 rfl (by omega) wr s1.wr.length (flatR s1.wr ws) rfl HD2.out.m.wr (some ⟨G, 0, none⟩) 1 1 [.int .i64 (i : Int), .slice (some ⟨C, 0, none⟩) 256 cc] rfl (fun h => by cases h) rfl (fun ad had j u hu => by injection had with had; subst had; rw [Addr.add_lit, Nat.zero_add]; exact HG.out.at j u (by simpa using hu)) (fun u hu => by simp only [List.mem_cons, List.not_mem_nil, or_false] at hu; rcases hu with rfl | rfl <;> rfl) Hm.out.1 Hm.out.2 (Nat.zero_le _) ?_
        intro v' u3 hown hg hb
        obtain ⟨va, vc, rfl⟩ := own_len hown
        have Hw := Lib.hid (HD2.out.written hown HO2.out (fun k hk => .inr ⟨by injection hk with hk; rw [← hk]; exact HC.out, (HO2.out.1.lt k hk).2⟩) hg hb)
        clear hown hg hb HD2 HO2 HG HC
        refine hK.out _ _ trivial (fun hHeld => ?_)
        clear hK K
        simp only [Act.put, List.setIfInBounds_toArray, List.set_cons_zero, List.set_cons_succ]
        refine take_l (i := 11) (v := ?_) rfl (by kernel_rfl) (by kernel_rfl) (by kernel_rfl) (fun _ _ _ h => h) (Or.inl ⟨by rfl, ?_⟩) (by assumption) ?_
        case refine_2 => (intro _ _; go_simp; all_goals with_reducible rfl)
        simp only [Act.put, List.setIfInBounds_toArray, List.set_cons_zero, List.set_cons_succ]
        refine take_l (i := 12) (v := ?_) rfl (by kernel_rfl) (by kernel_rfl) (by kernel_rfl) (fun _ _ _ h => h) (Or.inl ⟨by rfl, ?_⟩) (by assumption) ?_
        case refine_2 => (intro _ _; go_simp; all_goals with_reducible rfl)
        simp only [Act.put, List.setIfInBounds_toArray, List.set_cons_zero, List.set_cons_succ]
        clear hHeld
        refine wpAnyH_ready (rs := [13]) (by kernel_rfl) (by simp) ?_
        refine cons_l rfl (fun K hK => ?_) AllReadyH.nil
        obtain ⟨_, c1, f1⟩ := Hw.out
        go_simp
        go_wp2_with fail
        refine hK.out _ _ trivial (fun hHeld => ?_)
        clear hK K
        simp only [Act.put, List.setIfInBounds_toArray, List.set_cons_zero, List.set_cons_succ]
        clear c1 f1 hHeld
        refine wpAnyH_done (by kernel_rfl) ?_ _
        go_wp2_with fail
        go_meet
        exact ⟨rfl, _, _, Hw.out.1⟩
      refine cons_l rfl (fun K hK => ?_) AllReadyH.nil
      go_simp
      go_at_call 37
      refine (clone_any (some ⟨gb, ob, none⟩) 256 cap b u0 (HX.out.mods HD0.out.md Hout.out) (by omega)).mono ?_
      rintro e u1 ⟨v, rfl, hO, hb⟩
      obtain ⟨C, cc, rfl, hC, hCl, _⟩ := ownB_slice hO (by rw [Hbl.out]; omega)
      rw [Hbl.out] at hO
      rw [Hbl.out]
      have HO1 := Lib.hid (show OwnB u1 0 5 (.slice (some ⟨C, 0, none⟩) 256 cc) b from ⟨own_zero hO.1, hO.2⟩)
      have HC := Lib.hid (show w.heap.size ≤ C from Nat.le_trans HD0.out.md.size hC)
      have HD1 := Lib.hid (HD0.out.below hb)
      clear HD0 hb hO hC hCl
      go_wp2_with fail
      refine hK.out _ _ trivial (fun hHeld => ?_)
      clear hK K
      simp only [Act.put, List.setIfInBounds_toArray, List.set_cons_zero, List.set_cons_succ]
      refine take_l (i := 8) (v := ?_) rfl (by kernel_rfl) (by kernel_rfl) (by kernel_rfl) (fun _ _ _ h => h) (Or.inl ⟨by rfl, ?_⟩) (by assumption) ?_
      case refine_2 => (intro _ _; go_simp; all_goals with_reducible rfl)
      simp only [Act.put, List.setIfInBounds_toArray, List.set_cons_zero, List.set_cons_succ]
      clear hHeld
      refine wpAnyH_ready (rs := [4, 9]) (by kernel_rfl) (by simp) ?_
      refine cons_l rfl (fun K hK => ?_) ?_
      · have c6 := (DevAt.cells HD1.out.dv).2.2.2.2.2.2
        go_simp
        go_wp2_with fail
        refine hK.out _ _ trivial (fun hHeld => ?_)
        clear hK K
        simp only [Act.put, List.setIfInBounds_toArray, List.set_cons_zero, List.set_cons_succ]
        clear c6 hHeld
        refine wpAnyH_ready (rs := [9]) (by kernel_rfl) (by simp) ?_
        refine cons_l rfl (fun K hK => ?_) AllReadyH.nil
        refine step_runW _ (exec_slice1 (.tmp 43) 57 64 iv (.agg #[.int .i64 0, .slice none 0 0]) 2 Try.underlying57 Hiv.out.1 Hiv.out.2.1 Hiv.out.2.2.1 (by omega) (by omega) (.agg #[.int .i64 (i : Int), .slice (some ⟨C, 0, none⟩) 256 cc]) rfl rfl rfl) rfl ?_
        change K _ (u1.alloc (.cells #[.int .i64 (i : Int), .slice (some ⟨C, 0, none⟩) 256 cc] 64))
        have HG := Lib.hid (Blk.made u1 64 #[.int .i64 (i : Int), .slice (some ⟨C, 0, none⟩) 256 cc])
        have hal := nu_alloc (nu_refl u1) (.cells #[.int .i64 (i : Int), .slice (some ⟨C, 0, none⟩) 256 cc] 64)
        have HD2 := Lib.hid (HD1.out.below hal)
        have HO2 := Lib.hid (ownB_under HO1.out hal)
        clear HD1 HO1 hal
        generalize u1.alloc (.cells #[.int .i64 (i : Int), .slice (some ⟨C, 0, none⟩) 256 cc] 64) = u2 at *
        obtain ⟨G, hG⟩ : ∃ G, G = u1.heap.size := ⟨_, rfl⟩
        rw [← hG] at HG
        rw [← hG]
        clear hG
        refine hK.out _ _ trivial (fun hHeld => ?_)
        clear hK K
        simp only [Act.put, List.setIfInBounds_toArray, List.set_cons_zero, List.set_cons_succ]
        clear hHeld
        refine wpAnyH_ready (rs := [10]) (by kernel_rfl) (by simp) ?_
        refine cons_l rfl (fun K hK => ?_) AllReadyH.nil
        refine step_append_own rfl (.tmp 39) (.tmp 44) 57 rfl 0 64 iv (.agg #[.int .i64 0, .slice none 0 0]) 2 32 Try.underlying57 Hiv.out.1 Hiv.out.2.1 Hiv.out.2.2.1 Hiv.out.2.2.2 rfl (by omega) wr s1.wr.length (flatR s1.wr ws) rfl HD2.out.m.wr (some ⟨G, 0, none⟩) 1 1 [.int .i64 (i : Int), .slice (some ⟨C, 0, none⟩) 256 cc] rfl (fun h => by cases h) rfl (fun ad had j u hu => by injection had with had; subst had; rw [Addr.add_lit, Nat.zero_add]; exact HG.out.at j u (by simpa using hu)) (fun u hu => by simp only [List.mem_cons, List.not_mem_nil, or_false] at hu; rcases hu with rfl | rfl <;> rfl) Hm.out.1 Hm.out.2 (Nat.zero_le _) ?_
        intro v' u3 hown hg hb
        obtain ⟨va, vc, rfl⟩ := own_len hown
        have Hw := Lib.hid (HD2.out.written hown HO2.out (fun k hk => .inr ⟨by injection hk with hk; rw [← hk]; exact HC.out, (HO2.out.1.lt k hk).2⟩) hg hb)
        clear hown hg hb HD2 HO2 HG HC
        refine hK.out _ _ trivial (fun hHeld => ?_)
        clear hK K
        simp only [Act.put, List.setIfInBounds_toArray, List.set_cons_zero, List.set_cons_succ]
        refine take_l (i := 11) (v := ?_) rfl (by kernel_rfl) (by kernel_rfl) (by kernel_rfl) (fun _ _ _ h => h) (Or.inl ⟨by rfl, ?_⟩) (by assumption) ?_
        case refine_2 => (intro _ _; go_simp; all_goals with_reducible rfl)
        simp only [Act.put, List.setIfInBounds_toArray, List.set_cons_zero, List.set_cons_succ]
        refine take_l (i := 12) (v := ?_) rfl (by kernel_rfl) (by kernel_rfl) (by kernel_rfl) (fun _ _ _ h => h) (Or.inl ⟨by rfl, ?_⟩) (by assumption) ?_
        case refine_2 => (intro _ _; go_simp; all_goals with_reducible rfl)
        simp only [Act.put, List.setIfInBounds_toArray, List.set_cons_zero, List.set_cons_succ]
        clear hHeld
        refine wpAnyH_ready (rs := [13]) (by kernel_rfl) (by simp) ?_
        refine cons_l rfl (fun K hK => ?_) AllReadyH.nil
        obtain ⟨_, c1, f1⟩ := Hw.out
        go_simp
        go_wp2_with fail
        refine hK.out _ _ trivial (fun hHeld => ?_)
        clear hK K
        simp only [Act.put, List.setIfInBounds_toArray, List.set_cons_zero, List.set_cons_succ]
        clear c1 f1 hHeld
        refine wpAnyH_done (by kernel_rfl) ?_ _
        go_wp2_with fail
        go_meet
        exact ⟨rfl, _, _, Hw.out.1⟩
      refine cons_l rfl (fun K hK => ?_) AllReadyH.nil
      refine step_runW _ (exec_slice1 (.tmp 43) 57 64 iv (.agg #[.int .i64 0, .slice none 0 0]) 2 Try.underlying57 Hiv.out.1 Hiv.out.2.1 Hiv.out.2.2.1 (by omega) (by omega) (.agg #[.int .i64 (i : Int), .slice (some ⟨C, 0, none⟩) 256 cc]) rfl rfl rfl) rfl ?_
      change K _ (u1.alloc (.cells #[.int .i64 (i : Int), .slice (some ⟨C, 0, none⟩) 256 cc] 64))
      have HG := Lib.hid (Blk.made u1 64 #[.int .i64 (i : Int), .slice (some ⟨C, 0, none⟩) 256 cc])
      have hal := nu_alloc (nu_refl u1) (.cells #[.int .i64 (i : Int), .slice (some ⟨C, 0, none⟩) 256 cc] 64)
      have HD2 := Lib.hid (HD1.out.below hal)
      have HO2 := Lib.hid (ownB_under HO1.out hal)
      clear HD1 HO1 hal
      generalize u1.alloc (.cells #[.int .i64 (i : Int), .slice (some ⟨C, 0, none⟩) 256 cc] 64) = u2 at *
      obtain ⟨G, hG⟩ : ∃ G, G = u1.heap.size := ⟨_, rfl⟩
      rw [← hG] at HG
      rw [← hG]
      clear hG
      refine hK.out _ _ trivial (fun hHeld => ?_)
      clear hK K
      simp only [Act.put, List.setIfInBounds_toArray, List.set_cons_zero, List.set_cons_succ]
      clear hHeld
      refine wpAnyH_ready (rs := [4]) (by kernel_rfl) (by simp) ?_
      refine cons_l rfl (fun K hK => ?_) AllReadyH.nil
      have c6 := (DevAt.cells HD2.out.dv).2.2.2.2.2.2
      go_simp
      go_wp2_with fail
      refine hK.out _ _ trivial (fun hHeld => ?_)
      clear hK K
      simp only [Act.put, List.setIfInBounds_toArray, List.set_cons_zero, List.set_cons_succ]
      clear c6 hHeld
      refine wpAnyH_ready (rs := [10]) (by kernel_rfl) (by simp) ?_
      refine cons_l rfl (fun K hK => ?_) AllReadyH.nil
      refine step_append_own rfl (.tmp 39) (.tmp 44) 57 rfl 0 64 iv (.agg #[.int .i64 0, .slice none 0 0]) 2 32 Try.underlying57 Hiv.out.1 Hiv.out.2.1 Hiv.out.2.2.1 Hiv.out.2.2.2 rfl (by omega) wr s1.wr.length (flatR s1.wr ws) rfl HD2.out.m.wr (some ⟨G, 0, none⟩) 1 1 [.int .i64 (i : Int), .slice (some ⟨C, 0, none⟩) 256 cc] rfl (fun h => by cases h) rfl (fun ad had j u hu => by injection had with had; subst had; rw [Addr.add_lit, Nat.zero_add]; exact HG.out.at j u (by simpa using hu)) (fun u hu => by simp only [List.mem_cons, List.not_mem_nil, or_false] at hu; rcases hu with rfl | rfl <;> rfl) Hm.out.1 Hm.out.2 (Nat.zero_le _) ?_
      intro v' u3 hown hg hb
      obtain ⟨va, vc, rfl⟩ := own_len hown
      have Hw := Lib.hid (HD2.out.written hown HO2.out (fun k hk => .inr ⟨by injection hk with hk; rw [← hk]; exact HC.out, (HO2.out.1.lt k hk).2⟩) hg hb)
      clear hown hg hb HD2 HO2 HG HC
      refine hK.out _ _ trivial (fun hHeld => ?_)
      clear hK K
      simp only [Act.put, List.setIfInBounds_toArray, List.set_cons_zero, List.set_cons_succ]
      refine take_l (i := 11) (v := ?_) rfl (by kernel_rfl) (by kernel_rfl) (by kernel_rfl) (fun _ _ _ h => h) (Or.inl ⟨by rfl, ?_⟩) (by assumption) ?_
      case refine_2 => (intro _ _; go_simp; all_goals with_reducible rfl)
      simp only [Act.put, List.setIfInBounds_toArray, List.set_cons_zero, List.set_cons_succ]
      refine take_l (i := 12) (v := ?_) rfl (by kernel_rfl) (by kernel_rfl) (by kernel_rfl) (fun _ _ _ h => h) (Or.inl ⟨by rfl, ?_⟩) (by assumption) ?_
      case refine_2 => (intro _ _; go_simp; all_goals with_reducible rfl)
      simp only [Act.put, List.setIfInBounds_toArray, List.set_cons_zero, List.set_cons_succ]
      clear hHeld
      refine wpAnyH_ready (rs := [13]) (by kernel_rfl) (by simp) ?_
      refine cons_l rfl (fun K hK => ?_) AllReadyH.nil
      obtain ⟨_, c1, f1⟩ := Hw.out
      go_simp
      go_wp2_with fail
      refine hK.out _ _ trivial (fun hHeld => ?_)
      clear hK K
      simp only [Act.put, List.setIfInBounds_toArray, List.set_cons_zero, List.set_cons_succ]
      clear c1 f1 hHeld
      refine wpAnyH_done (by kernel_rfl) ?_ _
      go_wp2_with fail
      go_meet
      exact ⟨rfl, _, _, Hw.out.1⟩
    case rest =>
      obtain ⟨rfl, wr', ws', hD⟩ := hcut
      rw [Hs1.out] at hD
      have hN : DevNext F w wc d (s.put i b) := hD.next Hok2.out HFl.out
      have HS := Lib.hid (spendD hN.1 (show (s.put i b).off = false from Ho.out))
      have HN := Lib.hid hN
      clear HD hD hN
      rw [show spentOff (s.put i b).ar = so from Hso.out.symm] at HS
      go_wp2_with fail
      refine HS.out.mono ?_
      rintro e w3 ⟨rfl, hn⟩
      have Hn := Lib.hid (HN.out.trans hn)
      clear hn HS HN
      cases so
      · go_wp2_with fail
        go_ret
        exact ⟨rfl, Hn.out⟩
      · go_wp2_with fail
        go_ret
        exact ⟨rfl, Hn.out⟩
set_option maxRecDepth 100000 in
theorem writeD_bad (H : DevRep w d s F) (a : Int) (ad : Option Addr) (len cap : Nat) (h : s.rdy a ≠ 0 ∨ len ≠ 256) :
    Calls Try.prog 12 #[.pointer (some ⟨d, 0, none⟩), .int .i64 a, .slice ad len cap] w fun e w' => e = .returned (.int .i64 (if s.rdy a ≠ 0 then s.rdy a else 1)) ∧ w = w' := by
  have HRd := Lib.hid (ready_any H a)
  generalize s.rdy a = r at *
  clear H
  by_cases hr : r = 0
  · subst hr
    have hl : ((len : Int) != 256) = true := by rw [bne_iff_ne]; omega
    rw [if_neg (by simp)]
    go_enter Try.func12, Try.ntmps12
    go_wp2_with fail
    refine HRd.out.mono ?_
    rintro e w' ⟨rfl, rfl⟩
    go_wp2_with fail
    go_ret
    exact ⟨rfl, rfl⟩
  · have hb : (r == 0) = false := by rw [beq_eq_false_iff_ne]; exact hr
    have hbn : (r != 0) = true := by rw [bne_iff_ne]; exact hr
    rw [if_pos hr]
    go_enter Try.func12, Try.ntmps12
    go_wp2_with fail
    refine HRd.out.mono ?_
    rintro e w' ⟨rfl, rfl⟩
    go_wp2_with fail
    go_ret
    exact ⟨rfl, rfl⟩
end
end Go.Proofs.Ytjmghpoknlffiaa

namespace Go.Proofs.Ytjmghpoknlffiaa
open Go.ChangeShapes Go.WideShapes Go.ChangeAt Go.RowKit
set_option linter.unusedSimpArgs false

theorem Blk.fillMid {w : World} {g : Nat} {t : TypeId} {l m r : List Value} (h : Blk w g t (l ++ m ++ r).toArray) (vs : List Value) (hl : vs.length = m.length) {k : Nat} (hk : k = l.length) : Blk (w.setCells g k vs) g t (l ++ vs ++ r).toArray := by
  subst hk
  have h1 := blk_setCells vs l.length w _ h
  have h2 := fold_set vs l.length (l ++ m ++ r).toArray (by simp; omega)
  have h3 : (l ++ m ++ r).toArray.toList.take l.length = l := by simp
  have h4 : (l ++ m ++ r).toArray.toList.drop (l.length + vs.length) = r := by rw [hl]; simp
  rw [h3, h4] at h2
  have h5 := congrArg List.toArray h2
  rw [Array.toArray_toList] at h5
  rw [h5] at h1
  exact h1
theorem step_store_in {P : Program} {ops : Array Oper} {o : Oper} {a : Act} {w : World} {K : Act → World → Prop} {Q : Exit → Act → World → Prop} {E : Prop} (hgd : o.guard = none) (ty : TypeId) (x y : Operand) (ho : o.op = .store ty x y) (g k : Nat) (vs : List Value) (hx : a.eval x = .pointer (some ⟨g, k, none⟩)) (hy : a.eval y = .agg vs.toArray)
    (t : TypeId) (cs : Array Value) (hb : Blk w g t cs) (hl : k + vs.length ≤ cs.size) (hi : (P.info? ty).map (·.size) = some vs.length) (h1 : ∀ v ∈ vs, v.oneCell' = true)
    (h : K (a.put o.dst undef) (w.setCells g k vs)) : if Region.wanted o (yielded ops a.tmps) = true then Oper.wp P o a w K Q else E := by
  have hw : Region.wanted o (yielded ops a.tmps) = true := by simp [Region.wanted, hgd]
  rw [if_pos hw]
  exact wp_store_mid ty x y ho g k vs.toArray hx hy (hb.there k _ (by simpa using hl)) (by simpa using hi) (all_oneCell_toArray h1) (by simpa using h)
theorem wpList_store_in {P : Program} {ops : Array Oper} {rest : List Oper} {o : Oper} {a : Act} {w : World} {Q : Exit → Act → World → Prop} (hgd : o.guard = none) (ty : TypeId) (x y : Operand) (ho : o.op = .store ty x y) (g k : Nat) (vs : List Value) (hx : a.eval x = .pointer (some ⟨g, k, none⟩)) (hy : a.eval y = .agg vs.toArray)
    (t : TypeId) (cs : Array Value) (hb : Blk w g t cs) (hl : k + vs.length ≤ cs.size) (hi : (P.info? ty).map (·.size) = some vs.length) (h1 : ∀ v ∈ vs, v.oneCell' = true)
    (h : wpList P ops Q rest (a.put o.dst undef) (w.setCells g k vs)) : wpList P ops Q (o :: rest) a w :=
  wpList_store_mid hgd ty x y ho g k vs.toArray hx hy (hb.there k _ (by simpa using hl)) (by simpa using hi) (all_oneCell_toArray h1) (by simpa using h)
theorem e_st {o : Oper} {a : Act} {w : World} {g i n c : Nat} {v : Option Addr} (hc : w.cell? ⟨g, i, none⟩ = some (.slice v n c)) (x : Operand) (ho : o.op = .load 68 x) (hx : a.eval x = .pointer (some ⟨g, i, none⟩)) :
    (execOp a.eval o).run Try.prog w = .ok (.value (.slice v n c)) w := by
  unfold execOp
  simp only [ho, hx]
  go_simp
theorem e_int {o : Oper} {a : Act} {w : World} {g i : Nat} {v : Int} (hc : w.cell? ⟨g, i, none⟩ = some (.int .i64 v)) (x : Operand) (ho : o.op = .load 3 x) (hx : a.eval x = .pointer (some ⟨g, i, none⟩)) :
    (execOp a.eval o).run Try.prog w = .ok (.value (.int .i64 v)) w := by
  unfold execOp
  simp only [ho, hx]
  go_simp
theorem size_257 {p : Nat × List Nat} (h : Bl p.2) : (Try.prog.info? 75).map (·.size) = some (cellW p).length := by rw [cellW_len h]; kernel_rfl
theorem e257_mid {o : Oper} {a : Act} {w : World} {g k : Nat} {p : Nat × List Nat} (hb : w.rangeAt g k (cellW p)) (h1 : Bl p.2) (x : Operand) (ho : o.op = .load 75 x) (hx : a.eval x = .pointer (some ⟨g, k, none⟩)) :
    (execOp a.eval o).run Try.prog w = .ok (.value (.agg (cellW p).toArray)) w :=
  exec_load_mid (P := Try.prog) (w := w) 75 x g k (cellW p) _ ho hx hb Try.underlying75 rfl (size_257 h1)
theorem range_b {w : World} {G : Nat} {p : Nat × List Nat} (h : Blk w G 75 (cellW p).toArray) : w.rangeAt G 1 (p.2.map vb) := fun j u hu => by
  refine h.at (1 + j) u ?_
  rw [List.getElem?_toArray, cellW, Nat.add_comm, List.getElem?_cons_succ]
  exact hu
theorem flatB_self {st : List (List Nat)} (h : ∀ b ∈ st, Bl b) {i : Nat} (hi : i < st.length) : flatB st = (flatB st).take (i * 256) ++ (st.getD i []).map vb ++ (flatB st).drop (i * 256 + 256) := by
  have e := flatB_set h hi (st.getD i [])
  rw [show st.set i (st.getD i []) = st by rw [List.getD_eq_getElem?_getD, List.getElem?_eq_getElem hi]; exact List.set_getElem_self hi] at e
  exact e
section
variable {F : Nat → Prop} {w0 w w' : World} {d sb : Nat} {wa cp wr : Value} {cs : List Nat} {ws : List Value} {s : Dv}
theorem DState.turnSt (H : DState F w0 w d sb wa cp wr cs ws s) {st' : List (List Nat)} (hl : st'.length = s.st.length) (h' : Blk w' sb 73 (flatB st').toArray) (hg : w.grownBy w' (some sb)) : DState F w0 w' d sb wa cp wr cs ws { s with st := st' } := by
  have hr : ∀ k, some sb = some k → ∃ c, Blk w k 73 c := fun k e => by injection e with e; subst e; exact ⟨_, H.m.st⟩
  refine ⟨?_, H.m.turnSt hl h' hg, H.f.mono (grown_mono hg.size), H.md.grown hg (fun k hk => by injection hk with hk; rw [← hk]; exact foot_row H H.f.sb)⟩
  show DevAt w' d (.slice (some ⟨sb, 0, none⟩) st'.length st'.length) wa s.off s.ar s.co cp wr
  rw [hl]
  exact DevAt.keep H.dv hr hg (by decide)
theorem DState.setSt (H : DState F w0 w d sb wa cp wr cs ws s) (hst : ∀ b ∈ s.st, Bl b) {i : Nat} (hi : i < s.st.length) {b : List Nat} (hb : Bl b) : DState F w0 (w.setCells sb (i * 256) (b.map vb)) d sb wa cp wr cs ws { s with st := s.st.set i b } := by
  refine H.turnSt (List.length_set ..) ?_ (gb_fill (b.map vb) (i * 256) w (gb_refl w (some sb)))
  have h := H.m.st
  rw [flatB_self hst hi] at h
  rw [flatB_set hst hi]
  have hfl := flatB_len hst
  exact h.fillMid (b.map vb) (by rw [List.length_map, List.length_map, hb.1, (getD_bl hst hi).1]) (by rw [List.length_take, hfl]; exact (Nat.min_eq_left (Nat.mul_le_mul_right 256 (Nat.le_of_lt hi))).symm)
/-- Nothing waits any more. -/
theorem DState.drop (H : DState F w0 w d sb wa cp wr cs ws s) : DState F w0 (w.setCell ⟨d, 1, none⟩ (.slice none 0 0)) d sb (.slice none 0 0) cp wr cs ws { s with wa := [] } := by
  have hg2 : w.grownBy (w.setCell ⟨d, 1, none⟩ (.slice none 0 0)) (some d) := gb_set (gb_refl w (some d)) (p := ⟨d, 1, none⟩) (.inl rfl) _
  refine ⟨Blk.put H.dv 1 _, (H.m.dev H.dv hg2).dropWa, ?_, H.md.grown hg2 (fun k hk => by injection hk with hk; rw [← hk]; exact foot_row H H.f.d)⟩
  have hf := H.f.mono (grown_mono hg2.size)
  exact ⟨hf.d, hf.sb, (fun k hk => by cases hk), hf.cp, hf.wr, hf.cs, hf.ws⟩
end
section
variable {w : World} {d : Nat} {s : Dv} {F : Nat → Prop}
set_option maxRecDepth 100000 in
set_option maxHeartbeats 8000000 in
theorem flushD_go (H : DevRep w d s F) (ho : s.off = false) (ha : spentOff s.ar = false) (hwl : s.wa.length ≤ 1000000000) :
    Calls Try.prog 13 #[.pointer (some ⟨d, 0, none⟩)] w fun e w' => e = .returned (.int .i64 0) ∧ DevNext F w w' d s.spent.flush := by
  have Hok := Lib.hid H.1.spent
  have HFl := Lib.hid H.2.1
  have Hok2 := Lib.hid H.1.spent.flush
  have HRd := Lib.hid (ready_any H 0)
  rw [show s.rdy 0 = 0 by unfold Dv.rdy; rw [ho, if_neg (by decide), if_neg (by have := H.1.n1; omega)]] at HRd
  have HSp := Lib.hid (spendD H ho)
  rw [ha] at HSp
  obtain ⟨s2, hs2⟩ : ∃ s2, s2 = s.spent := ⟨_, rfl⟩
  have Hwl := Lib.hid (show s2.wa.length ≤ 1000000000 by rw [hs2]; exact hwl)
  rw [← hs2] at Hok Hok2 HSp
  rw [← hs2]
  have hzv := zero_257
  have hzn := z257_ne
  clear H ho ha hwl hs2
  go_enter Try.func13, Try.ntmps13
  go_wp2_with fail
  refine HRd.out.mono ?_
  rintro e w' ⟨rfl, rfl⟩
  go_wp2_with fail
  refine HSp.out.mono ?_
  rintro e w1 ⟨rfl, hN⟩
  obtain ⟨sb, wa, cp, wv, cs, ws, hdv, hM, hFt⟩ := hN.1.2.2
  have HD := Lib.hid (show DState F w w1 d sb wa cp wv cs ws s2 from ⟨hdv, hM, hFt, hN.2⟩)
  obtain ⟨ao, ac, hwa⟩ := hM.wa.len
  obtain ⟨m, hm⟩ : ∃ m, m = s2.wa.length := ⟨_, rfl⟩
  have Hm := Lib.hid hm
  rw [← hm] at hwa
  subst hwa
  have c1 := (DevAt.cells hdv).2.1
  have hmb : m ≤ 1000000000 := by rw [hm]; exact Hwl.out
  clear hN hdv hM hFt HRd HSp hm
  go_wp2_with fail
  clear c1
  go_loopw [19] (fun i wx => ∃ k : Nat, k ≤ m ∧ i = .int .i64 k ∧ DState F w wx d sb (.slice ao m ac) cp wv cs ws { s2 with st := flushL s2.st (s2.wa.take k) }) (fun i _ => m - (intOf i).toNat)
  case atStart => exact ⟨0, by omega, rfl, HD.out⟩
  case round =>
    clear HD
    obtain ⟨k, hk, rfl, hD⟩ := hrel
    by_cases hlt : k < m
    · have hki : (k : Int) < (m : Int) := by omega
      obtain ⟨p, hp⟩ : ∃ p, s2.wa[k]? = some p := ⟨_, List.getElem?_eq_getElem (by rw [← Hm.out]; exact hlt)⟩
      have hpw := Hok.out.wa p (List.mem_of_getElem? hp)
      have Hpb := Lib.hid hpw.2
      obtain ⟨s3, hs3⟩ : ∃ s3 : Dv, s3 = { s2 with st := flushL s2.st (s2.wa.take k) } := ⟨_, rfl⟩
      have Hs3 := Lib.hid hs3
      have hl3 : s3.st.length = s2.st.length := by rw [hs3]; exact flushL_len _ _
      have Hpi := Lib.hid (show p.1 < s3.st.length by rw [hl3]; exact hpw.1)
      have Hst := Lib.hid (show ∀ b ∈ s3.st, Bl b by rw [hs3]; exact flushL_bl _ _ Hok.out.st (fun q hq => (Hok.out.wa q (List.mem_of_mem_take hq)).2))
      have Hnx := Lib.hid (show { s3 with st := s3.st.set p.1 p.2 } = { s2 with st := flushL s2.st (s2.wa.take (k + 1)) } by rw [hs3, List.take_add_one, hp]; show _ = { s2 with st := flushL s2.st (s2.wa.take k ++ [p]) }; rw [flushL_snoc])
      have Hfit := Lib.hid (show p.1 * 256 + 256 ≤ (flatB s3.st).length from by rw [flatB_len Hst.out]; have := Hpi.out; omega)
      have Hwa3 := Lib.hid (show s3.wa = s2.wa by rw [hs3])
      rw [← hs3] at hD
      have hpi3 : (p.1 : Int) < (s3.st.length : Int) := by have := Hpi.out; omega
      obtain ⟨g, gc, hwa, hcell⟩ : ∃ g c, Value.slice ao m ac = .slice (some ⟨g, 0, none⟩) m c ∧ ∀ (q : Nat) (p : Nat × List Nat), s2.wa[q]? = some p → wr.cell? ⟨g, q * 257, none⟩ = some (.int .i64 (p.1 : Int)) ∧ wr.rangeAt g (q * 257 + 1) (p.2.map vb) ∧ wr.rangeAt g (q * 257) (cellW p) := by
        have hM := mem_core hD.m (s' := { s2 with st := s3.st }) rfl Hwa3.out.symm (by rw [Hs3.out]) (by rw [Hs3.out])
        have h : ∃ g c, Value.slice ao m ac = .slice (some ⟨g, 0, none⟩) s2.wa.length c ∧ ∀ (q : Nat) (p : Nat × List Nat), s2.wa[q]? = some p → wr.cell? ⟨g, q * 257, none⟩ = some (.int .i64 (p.1 : Int)) ∧ wr.rangeAt g (q * 257 + 1) (p.2.map vb) ∧ wr.rangeAt g (q * 257) (cellW p) := hM.waits ⟨by show 1 ≤ s3.st.length; rw [hl3]; exact Hok.out.n1, by show s3.st.length ≤ _; rw [hl3]; exact Hok.out.n2, Hst.out, fun q hq => by show q.1 < s3.st.length ∧ _; rw [hl3]; exact Hok.out.wa q hq, Hok.out.ar, Hok.out.cp, fun c hc => by show c.length = s3.st.length ∧ _; rw [hl3]; exact Hok.out.cb c hc, fun q hq => by show q.1 < s3.st.length ∧ _; rw [hl3]; exact Hok.out.wr q hq⟩ (by show 0 < s2.wa.length; rw [← Hm.out]; omega)
        rw [← Hm.out] at h
        exact h
      injection hwa with e1 e2 e3
      subst e1 e3
      obtain ⟨_, _, hrg⟩ := hcell k p hp
      have Hrg := Lib.hid hrg
      have hal := nu_alloc (nu_refl wr) (.cells z257 75)
      have HGm := Lib.hid (Blk.made wr 75 z257)
      have HGf := Lib.hid (Blk.fill HGm.out (cellW p) (by rw [cellW_len Hpb.out, z257_size]))
      have HD4 := Lib.hid (hD.below (nu_fill (cellW p) (g := wr.heap.size) (Nat.le_refl _) 0 _ hal))
      have Hc0 := Lib.hid (DevAt.cells hD.dv).1
      clear hD hcell hrg hs3 hl3 hpw hp hal
      go_upto_region 9 with (first | (refine wpList_run _ (by rfl) (e257_mid Hrg.out Hpb.out (.tmp 21) rfl rfl) ?_) | (refine wpList_store_in rfl 75 (.tmp 5) (.tmp 22) rfl wr.heap.size 0 (cellW p) rfl rfl 75 z257 HGm.out (by rw [cellW_len Hpb.out, z257_size]; omega) (size_257 Hpb.out) (cellW_one p) ?_))
      change Code.wp _ _ _ _ ((wr.alloc (.cells z257 75)).setCells wr.heap.size 0 (cellW p))
      clear HGm Hrg Hc0
      generalize (wr.alloc (.cells z257 75)).setCells wr.heap.size 0 (cellW p) = w4 at *
      obtain ⟨G, hG⟩ : ∃ G, G = wr.heap.size := ⟨_, rfl⟩
      rw [← hG] at HGf
      rw [← hG]
      clear hG
      have Hdv := Lib.hid (show Blk w4 d 72 #[.slice (some ⟨sb, 0, none⟩) s3.st.length s3.st.length, .slice (some ⟨g, 0, none⟩) m ac, .bool s3.off, .int .i64 s3.ar, .int .i64 s3.co, cp, wv] from HD4.out.dv)
      have HG := Lib.hid HGf.out
      have HD := Lib.hid HD4.out
      clear HD4 HGf
      refine wp_region_held_drew (S := fun W => Blk W d 72 #[.slice (some ⟨sb, 0, none⟩) s3.st.length s3.st.length, .slice (some ⟨g, 0, none⟩) m ac, .bool s3.off, .int .i64 s3.ar, .int .i64 s3.co, cp, wv] ∧ Blk W G 75 (cellW p).toArray) (by kernel_rfl) (⟨Hdv.out.drew, HG.out.drew⟩) (fun hHeld => ?_)
      dsimp only [Array.replicate, List.replicate, List.size_toArray, List.length_cons, List.length_nil, Nat.reduceAdd] at hHeld ⊢
      have HD0 := Lib.hid (HD.out.below (nu_drew (nu_refl w4)))
      have HG0 := Lib.hid HG.out.drew
      have Hdv0 := Lib.hid Hdv.out.drew
      clear HD HG Hdv
      generalize w4.drew = u0 at *
      refine take_l (i := 0) (v := ?_) rfl (by kernel_rfl) (by kernel_rfl) (by kernel_rfl) (fun _ _ _ h => h) (Or.inl ⟨by rfl, ?_⟩) (by assumption) ?_
      case refine_2 => (intro _ _; go_simp; all_goals with_reducible rfl)
      simp only [Act.put, List.setIfInBounds_toArray, List.set_cons_zero, List.set_cons_succ]
      refine take_l (i := 1) (v := ?_) rfl (by kernel_rfl) (by kernel_rfl) (by kernel_rfl) (fun _ _ _ h => h) (Or.inl ⟨by rfl, ?_⟩) (by assumption) ?_
      case refine_2 => (intro _ _; go_simp; all_goals with_reducible rfl)
      simp only [Act.put, List.setIfInBounds_toArray, List.set_cons_zero, List.set_cons_succ]
      refine take_l (i := 2) (v := ?_) rfl (by kernel_rfl) (by kernel_rfl) (by kernel_rfl) (fun _ _ _ h => h) (Or.inl ⟨by rfl, ?_⟩) (by assumption) ?_
      case refine_2 => (intro _ _; go_simp; all_goals with_reducible rfl)
      simp only [Act.put, List.setIfInBounds_toArray, List.set_cons_zero, List.set_cons_succ]
      refine take_l (i := 3) rfl (by kernel_rfl) (by kernel_rfl) (by kernel_rfl) (fun _ _ _ h => h) (Or.inl ⟨by rfl, fun W hS => e_st (hS.1.at 0 _ rfl) (.tmp 25) rfl rfl⟩) (by assumption) ?_
      simp only [Act.put, List.setIfInBounds_toArray, List.set_cons_zero, List.set_cons_succ]
      refine take_l (i := 4) (v := ?_) rfl (by kernel_rfl) (by kernel_rfl) (by kernel_rfl) (fun _ _ _ h => h) (Or.inl ⟨by rfl, ?_⟩) (by assumption) ?_
      case refine_2 => (intro _ _; go_simp; all_goals with_reducible rfl)
      simp only [Act.put, List.setIfInBounds_toArray, List.set_cons_zero, List.set_cons_succ]
      refine take_l (i := 5) rfl (by kernel_rfl) (by kernel_rfl) (by kernel_rfl) (fun _ _ _ h => h) (Or.inl ⟨by rfl, fun W hS => e_int (hS.2.at 0 _ rfl) (.tmp 27) rfl rfl⟩) (by assumption) ?_
      simp only [Act.put, List.setIfInBounds_toArray, List.set_cons_zero, List.set_cons_succ]
      refine take_l (i := 6) (v := ?_) rfl (by kernel_rfl) (by kernel_rfl) (by kernel_rfl) (fun _ _ _ h => h) (Or.inl ⟨by rfl, ?_⟩) (by assumption) ?_
      case refine_2 => (intro _ _; go_simp; all_goals with_reducible rfl)
      simp only [Act.put, List.setIfInBounds_toArray, List.set_cons_zero, List.set_cons_succ]
      refine take_l (i := 7) rfl (by kernel_rfl) (by kernel_rfl) (by kernel_rfl) (fun _ _ _ h => h) (Or.inl ⟨by rfl, fun W hS => e256_mid (range_b hS.2) Hpb.out.1 (.tmp 29) rfl rfl⟩) (by assumption) ?_
      simp only [Act.put, List.setIfInBounds_toArray, List.set_cons_zero, List.set_cons_succ]
      refine take_l (i := 8) (v := ?_) rfl (by kernel_rfl) (by kernel_rfl) (by kernel_rfl) (fun _ _ _ h => h) (Or.inl ⟨by rfl, ?_⟩) (by assumption) ?_
      case refine_2 => (intro _ _; go_simp; all_goals with_reducible rfl)
      simp only [Act.put, List.setIfInBounds_toArray, List.set_cons_zero, List.set_cons_succ]
      clear hHeld
      refine wpAnyH_ready (rs := [9]) (by kernel_rfl) (by simp) ?_
      refine cons_l rfl (fun K hK => ?_) AllReadyH.nil
      refine step_store_in rfl 73 (.tmp 31) (.tmp 30) rfl sb (p.1 * 256) (p.2.map vb) rfl rfl 73 _ HD0.out.m.st (by rw [List.size_toArray, List.length_map, Hpb.out.1]; exact Hfit.out) (by rw [List.length_map, Hpb.out.1]; kernel_rfl) (vb_one _) ?_
      have HN := Lib.hid (HD0.out.setSt Hst.out Hpi.out Hpb.out)
      have HS1 := Lib.hid (show Blk (u0.setCells sb (p.1 * 256) (p.2.map vb)) d 72 #[.slice (some ⟨sb, 0, none⟩) s3.st.length s3.st.length, .slice (some ⟨g, 0, none⟩) m ac, .bool s3.off, .int .i64 s3.ar, .int .i64 s3.co, cp, wv] ∧ Blk (u0.setCells sb (p.1 * 256) (p.2.map vb)) G 75 (cellW p).toArray from ⟨Hdv0.out.farCells _ (Hdv0.out.apart HD0.out.m.st (by decide)) _, HG0.out.farCells _ (HG0.out.apart HD0.out.m.st (by decide)) _⟩)
      clear HD0 HG0 Hdv0
      generalize u0.setCells sb (p.1 * 256) (p.2.map vb) = u1 at *
      refine hK.out _ _ HS1.out (fun hHeld => ?_)
      clear hK K hHeld HS1
      simp only [Act.put, List.setIfInBounds_toArray, List.set_cons_zero, List.set_cons_succ]
      refine wpAnyH_done (by kernel_rfl) ?_ _
      go_wp2_with fail
      rw [Hnx.out] at HN
      go_roundw
      case rel => first | exact ⟨k + 1, by omega, by go_num, HN.out⟩ | ((repeat apply Exists.intro); exact ⟨⟨k + 1, by omega, by go_num, HN.out⟩, rfl⟩)
      case measure => simp [intOf]; omega
    · obtain rfl : k = m := by omega
      have hki : ¬ (k : Int) < (k : Int) := by omega
      have HF := Lib.hid hD.drop
      have c1 := (DevAt.cells hD.dv).2.1
      have f1 : wr.frozen? ⟨d, 1, none⟩ = false := Blk.free hD.dv 1
      clear hD
      go_wp2_with fail
      go_ret
      refine ⟨rfl, ?_⟩
      have h := HF.out.next (by
        have e := Hok2.out
        unfold Dv.flush at e
        rw [Hm.out, List.take_length]
        exact e) HFl.out
      rw [Hm.out, List.take_length] at h
      exact h
set_option maxRecDepth 100000 in
set_option maxHeartbeats 1000000 in
theorem flushD_gone (H : DevRep w d s F) (ho : s.off = false) (ha : spentOff s.ar = true) :
    Calls Try.prog 13 #[.pointer (some ⟨d, 0, none⟩)] w fun e w' => e = .returned (.int .i64 7) ∧ DevNext F w w' d s.spent := by
  have HRd := Lib.hid (ready_any H 0)
  rw [show s.rdy 0 = 0 by unfold Dv.rdy; rw [ho, if_neg (by decide), if_neg (by have := H.1.n1; omega)]] at HRd
  have HSp := Lib.hid (spendD H ho)
  rw [ha] at HSp
  clear H ho ha
  go_enter Try.func13, Try.ntmps13
  go_wp2_with fail
  refine HRd.out.mono ?_
  rintro e w' ⟨rfl, rfl⟩
  go_wp2_with fail
  refine HSp.out.mono ?_
  rintro e w1 ⟨rfl, hN⟩
  go_wp2_with fail
  go_ret
  exact ⟨rfl, hN⟩
set_option maxRecDepth 100000 in
set_option maxHeartbeats 1000000 in
theorem flushD_off (H : DevRep w d s F) (ho : s.off = true) :
    Calls Try.prog 13 #[.pointer (some ⟨d, 0, none⟩)] w fun e w' => e = .returned (.int .i64 7) ∧ w = w' := by
  have HRd := Lib.hid (ready_any H 0)
  rw [show s.rdy 0 = 7 by unfold Dv.rdy; rw [ho, if_pos rfl]] at HRd
  clear H ho
  go_enter Try.func13, Try.ntmps13
  go_wp2_with fail
  refine HRd.out.mono ?_
  rintro e w' ⟨rfl, rfl⟩
  go_wp2_with fail
  go_ret
  exact ⟨rfl, rfl⟩
end
end Go.Proofs.Ytjmghpoknlffiaa

namespace Go.Proofs.Ytjmghpoknlffiaa
open Go.ChangeShapes Go.WideShapes Go.ChangeAt Go.RowKit

theorem gb_setRow (w : World) (g : Nat) (cs : Array Value) : w.grownBy (w.setRow g cs) (some g) :=
  ⟨rfl, rfl, rfl, by simp [World.setRow], fun k _ hne => setRow_other w g k cs (fun e => hne (by rw [e]))⟩
theorem wpList_copy_blk {P : Program} {w : World} {ops : Array Oper} {rest : List Oper} {o : Oper} {a : Act} {Q : Exit → Act → World → Prop} (hgd : o.guard = none) (d s : Operand) (dT sT : TypeId)
    (ho : o.op = .call { callee := .builtin .copy, args := #[d, s], argTypes := #[dT, sT] }) (elem : TypeId) (hu : P.underlying dT = some (.slice elem)) (hsz : (P.info? elem).map (·.size) = some 1)
    (dp sp : Option Addr) (dLen dCap sLen sCap : Nat) (hd : a.eval d = .slice dp dLen dCap) (hs : a.eval s = .slice sp sLen sCap)
    (g off : Nat) (cur : List Value) (t : TypeId) (hg : Blk w g t cur.toArray) (cs : List Value) (hn : cs.length = Nat.min sLen dLen)
    (hpos : 0 < cs.length → dp = some ⟨g, off, none⟩ ∧ ∃ ad, sp = some ad ∧ ∀ j v, cs[j]? = some v → w.cell? (ad.add j) = some v)
    (hfit : off + cs.length ≤ cur.length) (h1 : ∀ v ∈ cs, v.oneCell' = true)
    (h : ∀ w', Hid (Blk w' g t (splice cur off cs).toArray) → w.grownBy w' (some g) → wpList P ops Q rest (a.put o.dst (goInt cs.length)) w') :
    wpList P ops Q (o :: rest) a w := by
  by_cases h0 : cs.length = 0
  · obtain rfl : cs = [] := List.eq_nil_of_length_eq_zero h0
    refine wpList_copy_nothing hgd d s dT sT ho elem hu hsz dp sp dLen dCap sLen sCap hd hs (by simpa using hn.symm) ?_
    exact h w (show _ = _ by simpa [splice, Blk] using hg) ⟨rfl, rfl, rfl, Nat.le_refl _, fun _ _ _ => rfl⟩
  · obtain ⟨rfl, ad, rfl, hsrc⟩ := hpos (by omega)
    refine wpList_copy_own hgd d s dT sT ho elem hu hsz g off dLen dCap ad sLen sCap hd hs cur.toArray t hg cs hn hsrc (by simpa using hfit) h1 ?_
    exact h _ (show _ = _ by simpa [splice] using setRow_heap w g _ _ t _ hg) (gb_setRow w g _)
end Go.Proofs.Ytjmghpoknlffiaa

namespace Go.Proofs.Ytjmghpoknlffiaa
open Go.ChangeShapes Go.WideShapes Go.ChangeAt Go.RowKit
set_option linter.unusedSimpArgs false

/-- A slice of ints. -/
def NumsIn (w : World) (a : Option Addr) (len : Nat) (fs : List Int) : Prop := fs.length = len ∧ (∀ x ∈ fs, -9223372036854775808 ≤ x ∧ x ≤ 9223372036854775807) ∧
  (0 < len → ∃ b off, a = some ⟨b, off, none⟩ ∧ b < w.heap.size ∧ ∀ j v, fs[j]? = some v → w.cell? ⟨b, off + j, none⟩ = some (.int .i64 v))
theorem NumsIn.mods {F : Nat → Prop} {w0 w : World} {a : Option Addr} {len : Nat} {fs : List Int} (h : NumsIn w0 a len fs) (hm : Mods F w0 w) (hn : 0 < len → ∀ ad, a = some ad → ¬ F ad.block) : NumsIn w a len fs := by
  refine ⟨h.1, h.2.1, fun hp => ?_⟩
  obtain ⟨b, off, rfl, hlt, hc⟩ := h.2.2 hp
  exact ⟨b, off, rfl, Nat.lt_of_lt_of_le hlt hm.size, fun j n hj => (World.cell?_of_block (w := w0) (a := ⟨b, off + j, none⟩) (hm.block b hlt (hn hp _ rfl))).trans (hc j n hj)⟩
theorem NumsIn.below {w w' : World} {a : Option Addr} {len : Nat} {fs : List Int} (h : NumsIn w a len fs) (hb : Below w.heap.size w w') : NumsIn w' a len fs := by
  refine ⟨h.1, h.2.1, fun hp => ?_⟩
  obtain ⟨b, off, rfl, hlt, hc⟩ := h.2.2 hp
  exact ⟨b, off, rfl, Nat.lt_of_lt_of_le hlt hb.size, fun j n hj => (World.cell?_of_block (w := w) (a := ⟨b, off + j, none⟩) (hb.block b hlt)).trans (hc j n hj)⟩
theorem NumsIn.nil (w : World) : NumsIn w none 0 [] := ⟨rfl, (fun x hx => by cases hx), fun h => absurd h (by omega)⟩
theorem fate_cases (v : Int) : (Int.tmod v 257 < 0 → Int.tmod v 257 + 257 = v % 257) ∧ (0 ≤ Int.tmod v 257 → Int.tmod v 257 = v % 257) ∧ -257 < Int.tmod v 257 ∧ Int.tmod v 257 < 257 := by
  rcases Int.le_total 0 v with h | h
  · rw [Int.tmod_eq_emod_of_nonneg h]
    omega
  · obtain ⟨u, hu⟩ : ∃ u : Int, v = -u := ⟨-v, by omega⟩
    subst hu
    rw [Int.neg_tmod, Int.tmod_eq_emod_of_nonneg (by omega)]
    omega
theorem drop_self {st : List (List Nat)} (h : ∀ b ∈ st, Bl b) {i : Nat} (hi : i < st.length) (k : Nat) (hk : k ≤ 256) : (flatB st).drop (i * 256 + k) = ((st.getD i []).drop k).map vb ++ (flatB st).drop (i * 256 + 256) := by
  have e := flatB_self h hi
  have hfl := flatB_len h
  have hm : i * 256 + 256 ≤ st.length * 256 := by omega
  have ht : ((flatB st).take (i * 256)).length = i * 256 := by rw [List.length_take, hfl]; omega
  have hb : ((st.getD i []).map vb).length = 256 := by rw [List.length_map, (getD_bl h hi).1]
  have e2 : (flatB st).drop (i * 256 + k) = ((flatB st).take (i * 256) ++ (st.getD i []).map vb ++ (flatB st).drop (i * 256 + 256)).drop (i * 256 + k) := by rw [← e]
  rw [e2, List.append_assoc, show i * 256 + k = ((flatB st).take (i * 256)).length + k by rw [ht], List.drop_length_add_append, List.drop_append_of_le_length (by omega), List.map_drop]
theorem flatB_torn {st : List (List Nat)} (h : ∀ b ∈ st, Bl b) {i : Nat} (hi : i < st.length) (fresh : List Nat) (hf : Bl fresh) (k : Nat) (hk : k ≤ 256) :
    (flatB st).take (i * 256) ++ (fresh.take k).map vb ++ (flatB st).drop (i * 256 + ((fresh.take k).map vb).length) = flatB (st.set i (torn (st.getD i []) fresh k)) := by
  have hl : ((fresh.take k).map vb).length = k := by rw [List.length_map, List.length_take, hf.1]; omega
  rw [hl, drop_self h hi k hk, flatB_set h hi, torn, List.map_append]
  simp only [List.append_assoc]
section
variable {F : Nat → Prop} {w0 w w' : World} {d sb : Nat} {wa cp wr : Value} {cs : List Nat} {ws : List Value} {s : Dv}
/-- The power is back. -/
theorem DState.back (H : DState F w0 w d sb wa cp wr cs ws s) (v : Value) (hv : v = .slice none 0 0) : DState F w0 (((w.setCell ⟨d, 1, none⟩ v).setCell ⟨d, 2, none⟩ (.bool false)).setCell ⟨d, 3, none⟩ (.int .i64 0)) d sb (.slice none 0 0) cp wr cs ws { s with wa := [], off := false, ar := 0 } := by
  subst hv
  have h1 := H.drop
  have hg2 : (w.setCell ⟨d, 1, none⟩ (.slice none 0 0)).grownBy (((w.setCell ⟨d, 1, none⟩ (.slice none 0 0)).setCell ⟨d, 2, none⟩ (.bool false)).setCell ⟨d, 3, none⟩ (.int .i64 0)) (some d) := gb_set (gb_set (gb_refl _ (some d)) (p := ⟨d, 2, none⟩) (.inl rfl) _) (p := ⟨d, 3, none⟩) (.inl rfl) _
  exact ⟨Blk.put (Blk.put h1.dv 2 (.bool false)) 3 (.int .i64 0), mem_core (h1.m.dev h1.dv hg2) rfl rfl rfl rfl, h1.f.mono (grown_mono hg2.size), h1.md.grown hg2 (fun k hk => by injection hk with hk; rw [← hk]; exact foot_row h1 h1.f.d)⟩
end
end Go.Proofs.Ytjmghpoknlffiaa

namespace Go.Proofs.Ytjmghpoknlffiaa
open Go.ChangeShapes Go.WideShapes Go.ChangeAt Go.RowKit
set_option linter.unusedSimpArgs false

section
variable {w : World} {d : Nat} {s : Dv} {F : Nat → Prop}
set_option maxRecDepth 100000 in
theorem onD_up (H : DevRep w d s F) (ho : s.off = false) (a : Option Addr) (len cap : Nat) :
    Calls Try.prog 17 #[.pointer (some ⟨d, 0, none⟩), .slice a len cap] w fun e w' => e = .returned (.tuple #[]) ∧ w = w' := by
  obtain ⟨_, _, sb, wa, cp, wv, cs, ws, hd, _, _⟩ := H
  rw [ho] at hd
  obtain ⟨_, _, c2, _⟩ := hd.cells
  clear hd
  go_enter Try.func17, Try.ntmps17
  go_wp2_with fail
  all_goals first | (refine bodyPost_end (results_none rfl _ _ _) rfl ⟨rfl, rfl⟩) | (refine bodyPost_ret (results_none rfl _ _ _) rfl ⟨rfl, rfl⟩)
set_option maxRecDepth 100000 in
set_option maxHeartbeats 8000000 in
theorem onD_down (H : DevRep w d s F) (ho : s.off = true) (a : Option Addr) (len cap : Nat) (fs : List Int) (hf : NumsIn w a len fs) (hout : 0 < len → ∀ ad, a = some ad → ¬ F ad.block) (hlen : len ≤ 9223372036854775807) (hwl : s.wa.length ≤ 1000000000) :
    Calls Try.prog 17 #[.pointer (some ⟨d, 0, none⟩), .slice a len cap] w fun e w' => e = .returned (.tuple #[]) ∧ DevNext F w w' d (s.on fs) := by
  have Hok := Lib.hid H.1
  have HFl := Lib.hid H.2.1
  have Hok2 := Lib.hid (H.1.on fs)
  have Hfs := Lib.hid hf
  have Hout := Lib.hid hout
  have Hlen := Lib.hid hlen
  have Ho := Lib.hid ho
  obtain ⟨sb, wa, cp, wv, cs, ws, hD⟩ := H.state
  have HD := Lib.hid hD
  obtain ⟨ao, ac, hwa⟩ := hD.m.wa.len
  obtain ⟨m, hm⟩ : ∃ m, m = s.wa.length := ⟨_, rfl⟩
  have Hm := Lib.hid hm
  rw [← hm] at hwa
  subst hwa
  have c1 := (DevAt.cells hD.dv).2.1
  have c2 := (DevAt.cells hD.dv).2.2.1
  rw [ho] at c2
  have hmb : m ≤ 1000000000 := by omega
  have hzv := zero_257
  have hzn := z257_ne
  clear H ho hf hout hlen hwl hD hm
  go_enter Try.func17, Try.ntmps17
  go_wp2_with fail
  clear c1 c2
  go_loopw [21] (fun i wx => ∃ k : Nat, k ≤ m ∧ i = .int .i64 k ∧ DState F w wx d sb (.slice ao m ac) cp wv cs ws { s with st := onL s.st s.wa fs k }) (fun i _ => m - (intOf i).toNat)
  case atStart => exact ⟨0, by omega, rfl, HD.out⟩
  case round =>
    clear HD
    obtain ⟨k, hk, rfl, hD⟩ := hrel
    by_cases hlt : k < m
    · have hki : (k : Int) < (m : Int) := by omega
      obtain ⟨p, hp⟩ : ∃ p, s.wa[k]? = some p := ⟨_, List.getElem?_eq_getElem (by rw [← Hm.out]; exact hlt)⟩
      have hgd : s.wa.getD k (0, []) = p := by rw [List.getD_eq_getElem?_getD, hp]; rfl
      have hpw := Hok.out.wa p (List.mem_of_getElem? hp)
      have Hpb := Lib.hid hpw.2
      obtain ⟨s3, hs3⟩ : ∃ s3 : Dv, s3 = { s with st := onL s.st s.wa fs k } := ⟨_, rfl⟩
      have Hs3 := Lib.hid hs3
      have hl3 : s3.st.length = s.st.length := by rw [hs3]; exact onL_len _ _ _ _
      have Hpi := Lib.hid (show p.1 < s3.st.length by rw [hl3]; exact hpw.1)
      have Hst := Lib.hid (show ∀ b ∈ s3.st, Bl b by rw [hs3]; exact onL_bl fs Hok.out.st Hok.out.wa k (by rw [← Hm.out]; exact hk))
      have Hnx := Lib.hid (show { s3 with st := s3.st.set p.1 (torn (s3.st.getD p.1 []) p.2 (fate fs k)) } = { s with st := onL s.st s.wa fs (k + 1) } by rw [hs3, onL, hgd])
      have Hwa3 := Lib.hid (show s3.wa = s.wa by rw [hs3])
      rw [← hs3] at hD
      have hpi3 : (p.1 : Int) < (s3.st.length : Int) := by have := Hpi.out; omega
      obtain ⟨g, gc, hwa, hcell⟩ : ∃ g c, Value.slice ao m ac = .slice (some ⟨g, 0, none⟩) m c ∧ ∀ (q : Nat) (p : Nat × List Nat), s.wa[q]? = some p → wr.cell? ⟨g, q * 257, none⟩ = some (.int .i64 (p.1 : Int)) ∧ wr.rangeAt g (q * 257 + 1) (p.2.map vb) ∧ wr.rangeAt g (q * 257) (cellW p) := by
        have hM := mem_core hD.m (s' := { s with st := s3.st }) rfl Hwa3.out.symm (by rw [Hs3.out]) (by rw [Hs3.out])
        have h : ∃ g c, Value.slice ao m ac = .slice (some ⟨g, 0, none⟩) s.wa.length c ∧ ∀ (q : Nat) (p : Nat × List Nat), s.wa[q]? = some p → wr.cell? ⟨g, q * 257, none⟩ = some (.int .i64 (p.1 : Int)) ∧ wr.rangeAt g (q * 257 + 1) (p.2.map vb) ∧ wr.rangeAt g (q * 257) (cellW p) := hM.waits ⟨by show 1 ≤ s3.st.length; rw [hl3]; exact Hok.out.n1, by show s3.st.length ≤ _; rw [hl3]; exact Hok.out.n2, Hst.out, fun q hq => by show q.1 < s3.st.length ∧ _; rw [hl3]; exact Hok.out.wa q hq, Hok.out.ar, Hok.out.cp, fun c hc => by show c.length = s3.st.length ∧ _; rw [hl3]; exact Hok.out.cb c hc, fun q hq => by show q.1 < s3.st.length ∧ _; rw [hl3]; exact Hok.out.wr q hq⟩ (by show 0 < s.wa.length; rw [← Hm.out]; omega)
        rw [← Hm.out] at h
        exact h
      injection hwa with e1 e2 e3
      subst e1 e3
      obtain ⟨_, _, hrg⟩ := hcell k p hp
      have Hrg := Lib.hid hrg
      have hal := nu_alloc (nu_refl wr) (.cells z257 75)
      have HGm := Lib.hid (Blk.made wr 75 z257)
      have HGf := Lib.hid (Blk.fill HGm.out (cellW p) (by rw [cellW_len Hpb.out, z257_size]))
      have HD4 := Lib.hid (hD.below (nu_fill (cellW p) (g := wr.heap.size) (Nat.le_refl _) 0 _ hal))
      clear hD hcell hrg hs3 hl3 hpw hp hal hgd
      go_upto_region 4 with (first | (refine wpList_run _ (by rfl) (e257_mid Hrg.out Hpb.out (.tmp 24) rfl rfl) ?_) | (refine wpList_store_in rfl 75 (.tmp 5) (.tmp 25) rfl wr.heap.size 0 (cellW p) rfl rfl 75 z257 HGm.out (by rw [cellW_len Hpb.out, z257_size]; omega) (size_257 Hpb.out) (cellW_one p) ?_))
      change Code.wp _ _ _ _ ((wr.alloc (.cells z257 75)).setCells wr.heap.size 0 (cellW p))
      clear HGm Hrg
      generalize (wr.alloc (.cells z257 75)).setCells wr.heap.size 0 (cellW p) = w4 at *
      obtain ⟨G, hG⟩ : ∃ G, G = wr.heap.size := ⟨_, rfl⟩
      rw [← hG] at HGf
      rw [← hG]
      clear hG
      obtain ⟨K, hK⟩ : ∃ K, K = fate fs k := ⟨_, rfl⟩
      have HK := Lib.hid hK
      have HK2 := Lib.hid (show K ≤ 256 by rw [hK]; exact fate_le fs k)
      rw [← hK] at Hnx
      clear hK
      go_upto_region 5 with fail
      go_upto_if 28 with fail
      go_cut [6] (fun s6 wx => ∃ T : Int, s6 = .int .i64 T ∧ (T < 0 → T + 257 = (K : Int)) ∧ (0 ≤ T → T = (K : Int)) ∧ -257 < T ∧ T < 257 ∧ wx = w4)
      case first =>
        have HFn := Lib.hid (Hfs.out.mods HD4.out.md Hout.out)
        clear HGf HD4
        obtain ⟨w5, rfl⟩ : ∃ q : World, q = w4 := ⟨_, rfl⟩
        by_cases h0 : len = 0
        · have hl0 : ¬ (0 : Int) < (len : Int) := by omega
          have hK0 : K = 0 := by
            rw [HK.out, fate, if_pos]
            exact List.eq_nil_of_length_eq_zero (by rw [Hfs.out.1]; exact h0)
          clear h0
          go_wp2_with fail
          go_meet
          exact ⟨0, rfl, (fun h => by omega), (fun _ => by rw [hK0]; rfl), by omega, by omega, rfl⟩
        · have hl0 : (0 : Int) < (len : Int) := by omega
          have hlz : ((len : Int) == 0) = false := by rw [beq_eq_false_iff_ne]; omega
          obtain ⟨b, off, rfl, _, hc⟩ := HFn.out.2.2 (by omega)
          obtain ⟨j, hj⟩ : ∃ j, j = k % len := ⟨_, rfl⟩
          have hjl : j < len := by rw [hj]; exact Nat.mod_lt _ (by omega)
          obtain ⟨v, hv⟩ : ∃ v, fs[j]? = some v := ⟨_, List.getElem?_eq_getElem (by rw [Hfs.out.1]; exact hjl)⟩
          have hcv := hc j v hv
          have hvb := Hfs.out.2.1 v (List.mem_of_getElem? hv)
          have ej : Int.tmod (k : Int) (len : Int) = (j : Int) := by rw [Int.tmod_eq_emod_of_nonneg (by omega), hj]; rfl
          have ej2 : (k : Int) % (len : Int) = (j : Int) := by rw [hj]; rfl
          have wj : IntKind.i64.wrap (j : Int) = (j : Int) := by have := Hlen.out; rw [IntKind.wrap_i64]; omega
          have hjl2 : (j : Int) < (len : Int) := by omega
          have hKv : (K : Int) = v % 257 := by
            rw [HK.out, fate, if_neg (fun e => by rw [e] at hv; cases hv), Hfs.out.1, ← hj, List.getD_eq_getElem?_getD, hv]
            exact Int.toNat_of_nonneg (Int.emod_nonneg _ (by omega))
          obtain ⟨t1, t2, t3, t4⟩ := fate_cases v
          obtain ⟨t, ht⟩ : ∃ t, t = Int.tmod v 257 := ⟨_, rfl⟩
          have et : Int.tmod v 257 = t := ht.symm
          rw [← ht] at t1 t2 t3 t4
          have wt : IntKind.i64.wrap t = t := by rw [IntKind.wrap_i64]; omega
          have wK : IntKind.i64.wrap (K : Int) = (K : Int) := by have := HK2.out; rw [IntKind.wrap_i64]; omega
          have HT := Lib.hid (show (t < 0 → t + 257 = (K : Int)) ∧ (0 ≤ t → t = (K : Int)) ∧ -257 < t ∧ t < 257 from ⟨fun h => by rw [t1 h, hKv], fun h => by rw [t2 h, hKv], t3, t4⟩)
          clear h0 hc hj hv hvb hKv t1 t2 t3 t4 ht HFn hjl wK
          go_wp2_with fail
          go_meet
          exact ⟨t, rfl, HT.out.1, HT.out.2.1, HT.out.2.2.1, HT.out.2.2.2, rfl⟩
      case rest =>
        obtain ⟨T, rfl, T1, T2, T3, T4, rfl⟩ := hcut
        go_upto_if 38 with fail
        obtain ⟨w5, rfl⟩ : ∃ q : World, q = wc := ⟨_, rfl⟩
        go_cut [6] (fun s6 wx => s6 = .int .i64 (K : Int) ∧ wx = w5)
        case first =>
          have wK : IntKind.i64.wrap (K : Int) = (K : Int) := by have := HK2.out; rw [IntKind.wrap_i64]; omega
          clear HGf HD4
          obtain ⟨w6, rfl⟩ : ∃ q : World, q = w5 := ⟨_, rfl⟩
          by_cases htn : T < 0
          · have eK := T1 htn
            clear T1 T2 T3 T4
            go_wp2_with fail
            go_meet
            exact ⟨rfl, rfl⟩
          · have HeK := Lib.hid (T2 (by omega))
            clear T1 T2 T3 T4
            go_wp2_with fail
            go_meet
            exact ⟨by rw [HeK.out], rfl⟩
        case rest =>
        clear T1 T2 T3 T4
        obtain ⟨rfl, rfl⟩ := hcut
        obtain ⟨w5, rfl⟩ : ∃ q : World, q = wc := ⟨_, rfl⟩
        have Hc0 := Lib.hid (show w5.cell? ⟨d, 0, none⟩ = some (.slice (some ⟨sb, 0, none⟩) s3.st.length s3.st.length) from (DevAt.cells HD4.out.dv).1)
        have c0 := Hc0.out
        have cG : w5.cell? ⟨G, 0, none⟩ = some (.int .i64 (p.1 : Int)) := HGf.out.at 0 _ rfl
        have hK6 : (K : Int) ≤ 256 := by have := HK2.out; omega
        have hK6n : K ≤ 256 := HK2.out
        have HD5 := Lib.hid (HD4.out.below (nu_drew (nu_refl w5)))
        have HG5 := Lib.hid HGf.out.drew
        clear HD4 HGf Hc0
        go_upto_region 9 with fail
        go_still_tail 12, (by kernel_rfl)
        change wpList _ _ _ _ _ w5.drew
        clear c0 cG
        generalize w5.drew = w6 at *
        have Hsrc := Lib.hid (show ∀ j v, ((p.2.take K).map vb)[j]? = some v → w6.cell? ((⟨G, 1, none⟩ : Addr).add j) = some v from fun j v hv => by
          rw [Addr.add_lit]
          refine range_b HG5.out j v ?_
          rw [List.map_take, List.getElem?_take] at hv
          split at hv
          · exact hv
          · cases hv)
        have Hct := Lib.hid (show ((p.2.take K).map vb).length = K by rw [List.length_map, List.length_take, Hpb.out.1]; exact Nat.min_eq_left hK6n)
        go_upto_region 10 with (refine wpList_copy_blk rfl (.tmp 49) (.tmp 52) 22 22 rfl 5 Try.underlying22 (by kernel_rfl) (some ⟨sb, p.1 * 256, none⟩) (some ⟨G, 1, none⟩) K 256 K 256 rfl rfl sb (p.1 * 256) (flatB s3.st) 73 HD5.out.m.st ((p.2.take K).map vb) (by rw [Hct.out]; exact (Nat.min_self K).symm) (fun _ => ⟨rfl, _, rfl, Hsrc.out⟩) (by rw [Hct.out, flatB_len Hst.out]; have := Hpi.out; omega) (vb_one _) ?_)
        intro w7 HB7 hg7
        have HN := Lib.hid (HD5.out.turnSt (st' := s3.st.set p.1 (torn (s3.st.getD p.1 []) p.2 K)) (List.length_set ..) (by
          have h := HB7.out
          rw [← List.map_take] at h
          have e := flatB_torn Hst.out Hpi.out p.2 Hpb.out K hK6n
          rw [List.append_assoc] at e
          rw [← e]
          exact h) hg7)
        rw [Hnx.out] at HN
        clear HD5 HG5 HB7 hg7
        go_wp2_with fail
        go_roundw
        case rel => first | exact ⟨k + 1, by omega, by go_num, HN.out⟩ | ((repeat apply Exists.intro); exact ⟨⟨k + 1, by omega, by go_num, HN.out⟩, rfl⟩)
        case measure => simp [intOf]; omega
    · obtain rfl : k = m := by omega
      have hki : ¬ (k : Int) < (k : Int) := by omega
      have HF := Lib.hid (hD.back _ rfl)
      have c1 := (DevAt.cells hD.dv).2.1
      have f1 : wr.frozen? ⟨d, 1, none⟩ = false := Blk.free hD.dv 1
      have c2 := (DevAt.cells hD.dv).2.2.1
      have f2 : wr.frozen? ⟨d, 2, none⟩ = false := Blk.free hD.dv 2
      have c3 := (DevAt.cells hD.dv).2.2.2.1
      have f3 : wr.frozen? ⟨d, 3, none⟩ = false := Blk.free hD.dv 3
      clear hD
      go_wp2_with fail
      refine bodyPost_end (results_none rfl _ _ _) rfl ⟨rfl, ?_⟩
      have e := Hok2.out
      unfold Dv.on at e ⊢
      rw [if_pos Ho.out] at e ⊢
      have h := HF.out.next (by rw [Hm.out]; exact e) HFl.out
      rw [Hm.out] at h
      exact h
end
end Go.Proofs.Ytjmghpoknlffiaa
