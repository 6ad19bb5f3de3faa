/-
  sha.Sum.block: what 64 bytes do.
-/
import Derived.Test.YtlekepigndlbhaaDoorSha2
import Derived.Test.YtlekepigndlbhaaDoorFill
import Derived.Test.YtlekepigndlbhaaDoorRun
import Derived.StillTailTactics
import Derived.BigQuiet
import Derived.Deep.QuietTactic
import Derived.Deep.Cut
namespace Go.Proofs.YtlekepigndlbhaaDoor
open Go.ChangeShapes Go.WideShapes Go.ChangeAt Go.RowKit

/-- The table's cells. -/
def TabIn (w : World) : Prop := ∀ t, t < 64 → w.cell? ⟨0, t, none⟩ = some (wv (KK.getD t 0))
def sumL (v : V8) (rv : Value) (n : Nat) : List Value := v.l.map wv ++ [rv, .int .u64 n]
/-- A sum's block. -/
def SumAt (w : World) (g : Nat) (v : V8) (rv : Value) (n : Nat) : Prop := Blk w g 58 (sumL v rv n).toArray
theorem TabIn.size {w : World} (h : TabIn w) : 0 < w.heap.size := World.block_lt_of_cell? _ _ (h 0 (by omega))
theorem TabIn.below {w w' : World} {B : Nat} (h : TabIn w) (hb : Below B w w') (hB : 0 < B) : TabIn w' := fun t ht => (hb.cell (p := ⟨0, t, none⟩) hB).trans (h t ht)
theorem TabIn.grown {w w' : World} {g : Nat} (h : TabIn w) (hb : w.grownBy w' (some g)) (hg : g ≠ 0) : TabIn w' := fun t ht => (World.cell?_of_block (a := ⟨0, t, none⟩) (hb.block 0 h.size (fun e => hg (by injection e with e; exact e.symm)))).trans (h t ht)

theorem warr_set (l : List Int) (j : Nat) (x : Int) : ((l.map wv).toArray).setIfInBounds j (wv x) = ((l.set j x).map wv).toArray := by
  rw [List.map_set]
  simp
theorem warr_at (l : List Int) (j : Nat) (x : Int) (hx : l[j]? = some x) : ((l.map wv).toArray)[j]? = some (wv x) := by
  rw [List.getElem?_toArray, List.getElem?_map, hx]
  rfl
theorem wv_one (l : List Int) : ∀ u ∈ l.map wv, u.oneCell' = true := by
  intro u hu
  obtain ⟨x, _, rfl⟩ := List.mem_map.1 hu
  rfl
set_option maxRecDepth 100000 in
/-- Four bytes or'ed. -/
theorem or_word (x0 x1 x2 x3 : Nat) (h0 : x0 < 256) (h1 : x1 < 256) (h2 : x2 < 256) (h3 : x3 < 256) :
    bits .or .u32 (bits .or .u32 (bits .or .u32 (IntKind.u32.wrap ((x0 : Int) * 16777216)) (IntKind.u32.wrap ((x1 : Int) * 65536))) (IntKind.u32.wrap ((x2 : Int) * 256))) (x3 : Int) = ((x0 * 16777216 + x1 * 65536 + x2 * 256 + x3 : Nat) : Int) := by
  have e0 : IntKind.u32.wrap ((x0 : Int) * 16777216) = ((x0 * 16777216 : Nat) : Int) := by rw [IntKind.wrap_u32]; omega
  have e1 : IntKind.u32.wrap ((x1 : Int) * 65536) = ((x1 * 65536 : Nat) : Int) := by rw [IntKind.wrap_u32]; omega
  have e2 : IntKind.u32.wrap ((x2 : Int) * 256) = ((x2 * 256 : Nat) : Int) := by rw [IntKind.wrap_u32]; omega
  have o1 : x0 * 16777216 ||| x1 * 65536 = x0 * 16777216 + x1 * 65536 := by
    have h := Nat.shiftLeft_add_eq_or_of_lt (show x1 * 65536 < 2 ^ 24 by rw [show (2:Nat) ^ 24 = 16777216 from rfl]; omega) x0
    rw [Nat.shiftLeft_eq, show (2:Nat) ^ 24 = 16777216 from rfl] at h
    exact h.symm
  have o2 : x0 * 16777216 + x1 * 65536 ||| x2 * 256 = x0 * 16777216 + x1 * 65536 + x2 * 256 := by
    have h := Nat.shiftLeft_add_eq_or_of_lt (show x2 * 256 < 2 ^ 16 by rw [show (2:Nat) ^ 16 = 65536 from rfl]; omega) (x0 * 256 + x1)
    rw [Nat.shiftLeft_eq, show (x0 * 256 + x1) * 2 ^ 16 = x0 * 16777216 + x1 * 65536 by simp only [Nat.add_mul, Nat.mul_assoc, Nat.reduceMul, Nat.reducePow]] at h
    exact h.symm
  have o3 : x0 * 16777216 + x1 * 65536 + x2 * 256 ||| x3 = x0 * 16777216 + x1 * 65536 + x2 * 256 + x3 := by
    have h := Nat.shiftLeft_add_eq_or_of_lt (show x3 < 2 ^ 8 by omega) (x0 * 65536 + x1 * 256 + x2)
    rw [Nat.shiftLeft_eq, show (x0 * 65536 + x1 * 256 + x2) * 2 ^ 8 = x0 * 16777216 + x1 * 65536 + x2 * 256 by simp only [Nat.add_mul, Nat.mul_assoc, Nat.reduceMul, Nat.reducePow]] at h
    exact h.symm
  rw [e0, e1, e2, u32_or_nat _ _ (by omega) (by omega), o1, u32_or_nat _ _ (by omega) (by omega), o2, u32_or_nat _ _ (by omega) (by omega), o3]
theorem wd_of (blk : List Nat) (k x0 x1 x2 x3 : Nat) (h0 : blk[4 * k + 0]? = some x0) (h1 : blk[4 * k + 1]? = some x1) (h2 : blk[4 * k + 2]? = some x2) (h3 : blk[4 * k + 3]? = some x3) : ((x0 * 16777216 + x1 * 65536 + x2 * 256 + x3 : Nat) : Int) = wd blk k := by
  unfold wd
  rw [List.getD_eq_getElem?_getD, List.getD_eq_getElem?_getD, List.getD_eq_getElem?_getD, List.getD_eq_getElem?_getD, h1, h2, h3, show 4 * k = 4 * k + 0 from rfl, h0]
  rfl
/-- The first k words are added. -/
def addTo (v r : V8) (k : Nat) : List Int := (addV v r).l.take k ++ v.l.drop k
theorem addTo_zero (v r : V8) : addTo v r 0 = v.l := rfl
theorem addTo_all (v r : V8) : addTo v r 8 = (addV v r).l := rfl
theorem addTo_step (v r : V8) (rv : Value) (n k : Nat) (h : k < 8) : ∃ a b : Int, ((addTo v r k).map wv ++ [rv, .int .u64 n])[k]? = some (.int .u32 a) ∧ (r.l.map wv)[k]? = some (.int .u32 b) ∧ ((addTo v r k).map wv ++ [rv, .int .u64 n]).set k (.int .u32 ((a + b) % 4294967296)) = (addTo v r (k + 1)).map wv ++ [rv, .int .u64 n] := by
  rcases (show k = 0 ∨ k = 1 ∨ k = 2 ∨ k = 3 ∨ k = 4 ∨ k = 5 ∨ k = 6 ∨ k = 7 by omega) with rfl | rfl | rfl | rfl | rfl | rfl | rfl | rfl
  all_goals exact ⟨_, _, rfl, rfl, rfl⟩
abbrev z64w : Array Value := #[.int .u32 0, .int .u32 0, .int .u32 0, .int .u32 0, .int .u32 0, .int .u32 0, .int .u32 0, .int .u32 0, .int .u32 0, .int .u32 0, .int .u32 0, .int .u32 0, .int .u32 0, .int .u32 0, .int .u32 0, .int .u32 0, .int .u32 0, .int .u32 0, .int .u32 0, .int .u32 0, .int .u32 0, .int .u32 0, .int .u32 0, .int .u32 0, .int .u32 0, .int .u32 0, .int .u32 0, .int .u32 0, .int .u32 0, .int .u32 0, .int .u32 0, .int .u32 0, .int .u32 0, .int .u32 0, .int .u32 0, .int .u32 0, .int .u32 0, .int .u32 0, .int .u32 0, .int .u32 0, .int .u32 0, .int .u32 0, .int .u32 0, .int .u32 0, .int .u32 0, .int .u32 0, .int .u32 0, .int .u32 0, .int .u32 0, .int .u32 0, .int .u32 0, .int .u32 0, .int .u32 0, .int .u32 0, .int .u32 0, .int .u32 0, .int .u32 0, .int .u32 0, .int .u32 0, .int .u32 0, .int .u32 0, .int .u32 0, .int .u32 0, .int .u32 0]

set_option maxRecDepth 100000 in
set_option maxHeartbeats 4000000 in
theorem block_any {w : World} {g : Nat} {v : V8} {rv : Value} {n : Nat} (blk : List Nat) (hl : blk.length = 64) (hb : ∀ x ∈ blk, x < 256) (hS : SumAt w g v rv n) (hT : TabIn w) (hg0 : g ≠ 0) :
    Calls Tryd.prog 37 #[.pointer (some ⟨g, 0, none⟩), .agg (blk.map vb).toArray] w fun e w' => e = .returned (.tuple #[]) ∧ SumAt w' g (compress v blk) rv n ∧ w.grownBy w' (some g) := by
  have HS := Lib.hid hS
  have HT := Lib.hid hT
  have Hb := Lib.hid hb
  have hgl := Blk.lt hS
  have Hl := Lib.hid hl
  clear hS hT hb hl
  go_enter Tryd.func37, Tryd.ntmps37
  go_wp2_with fail
  go_loopw [16] (fun i wr => ∃ k : Nat, k ≤ 16 ∧ i = .int .i64 k ∧ Below w.heap.size w wr ∧ Blk wr w.heap.size 60 (blk.map vb).toArray ∧ Blk wr (w.heap.size + 1) 52 ((wfill blk k).map wv).toArray) (fun i _ => 16 - (intOf i).toNat)
  case atStart => exact ⟨0, by omega, rfl, nu_alloc (nu_alloc (nu_refl w) _) _, (Blk.made w _ _).alloc _, Blk.made1 w _ _ _⟩
  case round =>
    obtain ⟨k, hk, rfl, hnr, hB, hW⟩ := hrel
    have HB := Lib.hid hB
    have HW := Lib.hid hW
    clear hB hW
    by_cases hlt : k < 16
    · have hi : (k : Int) < 16 := by omega
      have hk64 : (k : Int) < 64 := by omega
      have e0 : ∀ j, j < 4 → ∃ x : Nat, x < 256 ∧ blk[4 * k + j]? = some x := fun j hj => by
        have hlt : 4 * k + j < blk.length := by rw [Hl.out]; omega
        exact ⟨blk[4 * k + j], Hb.out _ (List.getElem_mem hlt), List.getElem?_eq_getElem hlt⟩
      obtain ⟨x0, hx0, ex0⟩ := e0 0 (by omega)
      obtain ⟨x1, hx1, ex1⟩ := e0 1 (by omega)
      obtain ⟨x2, hx2, ex2⟩ := e0 2 (by omega)
      obtain ⟨x3, hx3, ex3⟩ := e0 3 (by omega)
      obtain ⟨m, hm⟩ : ∃ m, m = 4 * k := ⟨_, rfl⟩
      have wp0 : IntKind.i64.wrap (4 * (k : Int)) = (m : Int) := by rw [IntKind.wrap_i64]; omega
      have hi0 : (m : Int) < 64 := by omega
      obtain ⟨m1, hm1⟩ : ∃ n, n = m + 1 := ⟨_, rfl⟩
      have wp1 : IntKind.i64.wrap ((m : Int) + 1) = (m1 : Int) := by rw [IntKind.wrap_i64]; omega
      have hi1 : (m1 : Int) < 64 := by omega
      obtain ⟨m2, hm2⟩ : ∃ n, n = m + 2 := ⟨_, rfl⟩
      have wp2 : IntKind.i64.wrap ((m : Int) + 2) = (m2 : Int) := by rw [IntKind.wrap_i64]; omega
      have hi2 : (m2 : Int) < 64 := by omega
      obtain ⟨m3, hm3⟩ : ∃ n, n = m + 3 := ⟨_, rfl⟩
      have wp3 : IntKind.i64.wrap ((m : Int) + 3) = (m3 : Int) := by rw [IntKind.wrap_i64]; omega
      have hi3 : (m3 : Int) < 64 := by omega
      have q0 : IntKind.u32.wrap (x0 : Int) = (x0 : Int) := by rw [IntKind.wrap_u32]; omega
      have c0 : wr.cell? ⟨w.heap.size, m, none⟩ = some (.int .u8 (x0 : Int)) := HB.out.at m _ (arr_at blk m x0 (by rw [hm]; exact ex0))
      have q1 : IntKind.u32.wrap (x1 : Int) = (x1 : Int) := by rw [IntKind.wrap_u32]; omega
      have c1 : wr.cell? ⟨w.heap.size, m1, none⟩ = some (.int .u8 (x1 : Int)) := HB.out.at m1 _ (arr_at blk m1 x1 (by rw [hm1, hm]; exact ex1))
      have q2 : IntKind.u32.wrap (x2 : Int) = (x2 : Int) := by rw [IntKind.wrap_u32]; omega
      have c2 : wr.cell? ⟨w.heap.size, m2, none⟩ = some (.int .u8 (x2 : Int)) := HB.out.at m2 _ (arr_at blk m2 x2 (by rw [hm2, hm]; exact ex2))
      have q3 : IntKind.u32.wrap (x3 : Int) = (x3 : Int) := by rw [IntKind.wrap_u32]; omega
      have c3 : wr.cell? ⟨w.heap.size, m3, none⟩ = some (.int .u8 (x3 : Int)) := HB.out.at m3 _ (arr_at blk m3 x3 (by rw [hm3, hm]; exact ex3))
      have Hv := Lib.hid ((or_word x0 x1 x2 x3 hx0 hx1 hx2 hx3).trans (wd_of blk k x0 x1 x2 x3 ex0 ex1 ex2 ex3))
      have f0 := HW.out.free k
      clear e0 hm hm1 hm2 hm3 ex0 ex1 ex2 ex3
      go_upto_region 5 with fail
      go_still_tail 31, (by kernel_rfl)
      change wpList _ _ _ _ _ wr.drew
      have HB1 := Lib.hid HB.out.drew
      have HW1 := Lib.hid HW.out.drew
      have f1 := HW1.out.free k
      have o1 : wr.drew.cell? ⟨w.heap.size + 1, k, none⟩ = some (.int .u32 0) := HW1.out.at k _ (warr_at _ _ _ (wfill_new blk k (by omega)))
      have hn1 := nu_drew hnr
      clear HB HW hnr f0 c0 c1 c2 c3
      generalize wr.drew = w1 at *
      rw [Hv.out]
      have HX := Lib.hid (wfill_set blk k (by omega) (wd blk k) (by rw [if_pos hlt]))
      generalize wd blk k = x at *
      go_wp2_with fail
      go_roundw
      case rel =>
        refine ⟨k + 1, by omega, by go_num, nu_set hn1 (Nat.le_succ _) _, HB1.out.far (by simp) _, ?_⟩
        have h := HW1.out.put k (wv x)
        rw [warr_set, HX.out] at h
        exact h
      case measure => simp [intOf]; omega
    · obtain rfl : k = 16 := by omega
      clear HB
      obtain ⟨W, hWe⟩ : ∃ W, W = w.heap.size + 1 := ⟨_, rfl⟩
      rw [← hWe] at HW ⊢
      have HWl := Lib.hid (show w.heap.size ≤ W by omega)
      clear hWe hk hlt
      obtain ⟨wa, rfl⟩ : ∃ x : World, x = wr := ⟨_, rfl⟩
      go_wp2_with fail
      go_loopw [6] (fun i wr => ∃ k : Nat, 16 ≤ k ∧ k ≤ 64 ∧ i = .int .i64 k ∧ Below w.heap.size w wr ∧ Blk wr W 52 ((wfill blk k).map wv).toArray) (fun i _ => 64 - (intOf i).toNat)
      case atStart => exact ⟨16, by omega, by omega, rfl, hnr, HW.out⟩
      case round =>
        clear HW hnr
        obtain ⟨k, hk0, hk, rfl, hnr, hW⟩ := hrel
        have HW := Lib.hid hW
        clear hW
        by_cases hlt : k < 64
        · have hi : (k : Int) < 64 := by omega
          obtain ⟨n15, hn15⟩ : ∃ n, n = k - 15 := ⟨_, rfl⟩
          have wp15 : IntKind.i64.wrap ((k : Int) - 15) = (n15 : Int) := by rw [IntKind.wrap_i64]; omega
          have hi15 : (n15 : Int) < 64 := by omega
          obtain ⟨y15, hy15⟩ : ∃ y, y = (sched blk k).getD n15 0 := ⟨_, rfl⟩
          have hc15 : ((wfill blk k).map wv).toArray[n15]? = some (.int .u32 y15) := by rw [hy15]; exact warr_at _ _ _ (wfill_old blk k n15 (by omega))
          obtain ⟨n2, hn2⟩ : ∃ n, n = k - 2 := ⟨_, rfl⟩
          have wp2 : IntKind.i64.wrap ((k : Int) - 2) = (n2 : Int) := by rw [IntKind.wrap_i64]; omega
          have hi2 : (n2 : Int) < 64 := by omega
          obtain ⟨y2, hy2⟩ : ∃ y, y = (sched blk k).getD n2 0 := ⟨_, rfl⟩
          have hc2 : ((wfill blk k).map wv).toArray[n2]? = some (.int .u32 y2) := by rw [hy2]; exact warr_at _ _ _ (wfill_old blk k n2 (by omega))
          obtain ⟨n16, hn16⟩ : ∃ n, n = k - 16 := ⟨_, rfl⟩
          have wp16 : IntKind.i64.wrap ((k : Int) - 16) = (n16 : Int) := by rw [IntKind.wrap_i64]; omega
          have hi16 : (n16 : Int) < 64 := by omega
          obtain ⟨y16, hy16⟩ : ∃ y, y = (sched blk k).getD n16 0 := ⟨_, rfl⟩
          have hc16 : ((wfill blk k).map wv).toArray[n16]? = some (.int .u32 y16) := by rw [hy16]; exact warr_at _ _ _ (wfill_old blk k n16 (by omega))
          obtain ⟨n7, hn7⟩ : ∃ n, n = k - 7 := ⟨_, rfl⟩
          have wp7 : IntKind.i64.wrap ((k : Int) - 7) = (n7 : Int) := by rw [IntKind.wrap_i64]; omega
          have hi7 : (n7 : Int) < 64 := by omega
          obtain ⟨y7, hy7⟩ : ∃ y, y = (sched blk k).getD n7 0 := ⟨_, rfl⟩
          have hc7 : ((wfill blk k).map wv).toArray[n7]? = some (.int .u32 y7) := by rw [hy7]; exact warr_at _ _ _ (wfill_old blk k n7 (by omega))
          have c15 := HW.out.at n15 _ hc15
          have c2 := HW.out.at n2 _ hc2
          have HX := Lib.hid (wfill_set blk k hlt (nextW (sched blk k) k) (by rw [if_neg (by omega)]))
          have Hv : Hid (nextW (sched blk k) k = (y16 + sg0 y15 + y7 + sg1 y2) % 4294967296) := by rw [nextW, ← hn16, ← hn15, ← hn7, ← hn2, ← hy16, ← hy15, ← hy7, ← hy2]; exact rfl
          have HC := Lib.hid (And.intro hc16 hc7)
          clear hc16 hc15 hc7 hc2 hn16 hn15 hn7 hn2 hy16 hy15 hy7 hy2
          go_upto_region 10 with fail
          go_quiet (fail)
          have HW1 := Lib.hid (HW.out.drewN nq)
          have c16 := HW1.out.at n16 _ HC.out.1
          have c7 := HW1.out.at n7 _ HC.out.2
          have f1 := HW1.out.free k
          have hn1 := nu_drewN hnr nq
          clear HW hnr c15 c2 HC
          generalize wr.drewN nq = w1 at *
          go_upto_region 11 with fail
          go_still_tail 29, (by kernel_rfl)
          still_call (turn_7 y15 _)
          repeat still_step
          still_call (turn_18 y15 _)
          repeat still_step
          still_call (turn_17 y2 _)
          repeat still_step
          still_call (turn_19 y2 _)
          repeat still_step
          refine wpStill_nil ?_
          change wpList _ _ _ _ _ w1.drew
          have HW2 := Lib.hid HW1.out.drew
          have f2 := HW2.out.free k
          have o2 : w1.drew.cell? ⟨W, k, none⟩ = some (.int .u32 0) := HW2.out.at k _ (warr_at _ _ _ (wfill_new blk k hlt))
          have hn2 := nu_drew hn1
          clear HW1 f1 hn1 c16 c7
          generalize w1.drew = w2 at *
          go_wp2_with fail
          go_roundw
          case rel =>
            have h := HW2.out.put k (wv (nextW (sched blk k) k))
            rw [warr_set, HX.out, Hv.out] at h
            have hf := nu_set hn2 (p := ⟨W, k, none⟩) HWl.out (wv ((y16 + sg0 y15 + y7 + sg1 y2) % 4294967296))
            first | exact ⟨k + 1, by omega, by omega, by go_num, hf, h⟩ | ((repeat apply Exists.intro); exact ⟨⟨k + 1, by omega, by omega, by go_num, hf, h⟩, rfl⟩)
          case measure => simp [intOf]; omega
        · obtain rfl : k = 64 := by omega
          rw [wfill_all] at HW
          obtain ⟨ws, hws⟩ : ∃ ws, ws = sched blk 64 := ⟨_, rfl⟩
          rw [← hws] at HW
          have Hws := Lib.hid hws
          have HwL := Lib.hid (show ws.length = 64 by rw [hws, sched_len])
          clear hws
          obtain ⟨wb, rfl⟩ : ∃ x : World, x = wr := ⟨_, rfl⟩
          clear hk hk0 hlt
          have HS1 := Lib.hid (show SumAt wb g v rv n from Blk.below HS.out hnr hgl)
          have HT1 := Lib.hid (HT.out.below hnr (by omega))
          have hgW : g < W := by have := HWl.out; omega
          have HLd := Lib.hid (fun (o : Oper) (a : Act) (x : Operand) (ho : o.op = .load 54 x) (hx : a.eval x = .pointer (some ⟨g, 0, none⟩)) =>
            exec_load_mid (P := Tryd.prog) (o := o) (a := a) (w := wb) 54 x g 0 (v.l.map wv) (.array 8 49) ho hx (range_mid HS1.out (l := []) (r := [rv, .int .u64 n]) (by simp [sumL]) rfl) (by kernel_rfl) rfl (by kernel_rfl))
          have HZ := Lib.hid (Blk.made wb 54 #[.int .u32 0, .int .u32 0, .int .u32 0, .int .u32 0, .int .u32 0, .int .u32 0, .int .u32 0, .int .u32 0])
          have HV := Lib.hid (HZ.out.fill (v.l.map wv) rfl)
          have hf := nu_fill (v.l.map wv) (g := wb.heap.size) (Nat.le_refl _) 0 _ (nu_alloc (nu_refl wb) (.cells #[.int .u32 0, .int .u32 0, .int .u32 0, .int .u32 0, .int .u32 0, .int .u32 0, .int .u32 0, .int .u32 0] 54))
          go_upto_region 13 with (first | (refine wpList_run _ rfl (HLd.out _ _ (.tmp 94) rfl rfl) ?_) | (refine wpList_store_blk rfl 54 (.tmp 9) (.tmp 95) rfl wb.heap.size (v.l.map wv) rfl rfl 54 _ HZ.out rfl rfl (wv_one _) ?_))
          have HSf := Lib.hid (show SumAt ((wb.alloc (.cells #[.int .u32 0, .int .u32 0, .int .u32 0, .int .u32 0, .int .u32 0, .int .u32 0, .int .u32 0, .int .u32 0] 54)).setCells wb.heap.size 0 (v.l.map wv)) g v rv n from Blk.below HS1.out hf (Blk.lt HS1.out))
          have HTf := Lib.hid (HT1.out.below hf HT1.out.size)
          have HWf := Lib.hid (Blk.below HW.out hf (Blk.lt HW.out))
          have hnf := nu_trans hnr hf
          have hWV := Blk.lt HW.out
          have hgV := Blk.lt HS1.out
          have h0V := HT1.out.size
          clear HS1 HT1 HW hf hnr HZ HLd
          generalize (wb.alloc (.cells #[.int .u32 0, .int .u32 0, .int .u32 0, .int .u32 0, .int .u32 0, .int .u32 0, .int .u32 0, .int .u32 0] 54)).setCells wb.heap.size 0 (v.l.map wv) = wc at *
          generalize hVe : wb.heap.size = V at *
          have HVl := Lib.hid (show w.heap.size ≤ V ∧ W < V ∧ g < V ∧ 0 < V from ⟨by have := HWl.out; omega, hWV, hgV, h0V⟩)
          clear hVe hWV hgV h0V
          go_wp2_with fail
          go_loopw [96] (fun i wr => ∃ k : Nat, k ≤ 64 ∧ i = .int .i64 k ∧ Below w.heap.size w wr ∧ Blk wr W 52 (ws.map wv).toArray ∧ Blk wr V 54 ((rnds ws v k).l.map wv).toArray) (fun i _ => 64 - (intOf i).toNat)
          case atStart => exact ⟨0, by omega, rfl, hnf, HWf.out, HV.out⟩
          case round =>
            clear HSf HTf HWf hnf HV
            obtain ⟨k, hk, rfl, hnr, hW, hV⟩ := hrel
            have HW := Lib.hid hW
            by_cases hlt : k < 64
            · have hi : (k : Int) < 64 := by omega
              have HN := Lib.hid (show rnds ws v (k + 1) = rnd (rnds ws v k) (KK.getD k 0) (ws.getD k 0) from rfl)
              generalize rnds ws v k = r at *
              have HV := Lib.hid hV
              have HT2 := HT.out.below hnr (by omega)
              have cT := HT2 k hlt
              have hcW : (ws.map wv).toArray[k]? = some (wv (ws.getD k 0)) := warr_at _ _ _ (by rw [List.getD_eq_getElem?_getD, List.getElem?_eq_getElem (by rw [HwL.out]; exact hlt)]; rfl)
              generalize ws.getD k 0 = y at *
              generalize KK.getD k 0 = kk at *
              have cT' : wr.cell? ⟨0, k, none⟩ = some (.int .u32 kk) := cT
              have HC := Lib.hid (show (ws.map wv).toArray[k]? = some (.int .u32 y) from hcW)
              have HcT := Lib.hid cT'
              clear hW hV HT2 cT hcW cT'
              have d0 : wr.cell? ⟨V, 0, none⟩ = some (.int .u32 r.a) := HV.out.at 0 _ rfl
              have d4 : wr.cell? ⟨V, 4, none⟩ = some (.int .u32 r.e) := HV.out.at 4 _ rfl
              go_upto_region 16 with fail
              go_quiet (fail)
              have HW1 := Lib.hid (HW.out.drewN nq)
              have HV1 := Lib.hid (HV.out.drewN nq)
              have hn1 := nu_drewN hnr nq
              have cT1 : (wr.drewN nq).cell? ⟨0, k, none⟩ = some (.int .u32 kk) := HcT.out
              clear HW HV hnr d0 d4 HcT
              generalize wr.drewN nq = w1 at *
              have cW1 := HW1.out.at k _ HC.out
              have d5 : w1.cell? ⟨V, 5, none⟩ = some (.int .u32 r.f) := HV1.out.at 5 _ rfl
              have d6 : w1.cell? ⟨V, 6, none⟩ = some (.int .u32 r.g) := HV1.out.at 6 _ rfl
              have d7 : w1.cell? ⟨V, 7, none⟩ = some (.int .u32 r.h) := HV1.out.at 7 _ rfl
              go_upto_region 17 with fail
              go_still_tail 30, (by kernel_rfl)
              still_call (turn_6 r.e _)
              repeat still_step
              still_call (turn_11 r.e _)
              repeat still_step
              still_call (turn_25 r.e _)
              repeat still_step
              refine wpStill_nil ?_
              change wpList _ _ _ _ _ w1.drew
              have HW2 := Lib.hid HW1.out.drew
              have HV2 := Lib.hid HV1.out.drew
              have hn2 := nu_drew hn1
              clear HW1 HV1 hn1 d5 d6 d7 cT1 cW1
              generalize w1.drew = w2 at *
              have d1 : w2.cell? ⟨V, 1, none⟩ = some (.int .u32 r.b) := HV2.out.at 1 _ rfl
              have d2 : w2.cell? ⟨V, 2, none⟩ = some (.int .u32 r.c) := HV2.out.at 2 _ rfl
              go_upto_region 18 with fail
              go_still_tail 24, (by kernel_rfl)
              still_call (turn_2 r.a _)
              repeat still_step
              still_call (turn_13 r.a _)
              repeat still_step
              still_call (turn_22 r.a _)
              repeat still_step
              refine wpStill_nil ?_
              change wpList _ _ _ _ _ w2.drew
              have HW3 := Lib.hid HW2.out.drew
              have HV3 := Lib.hid HV2.out.drew
              have hn3 := nu_drew hn2
              clear HW2 HV2 hn2 d1 d2
              generalize w2.drew = w3 at *
              have d1 : w3.cell? ⟨V, 1, none⟩ = some (.int .u32 r.b) := HV3.out.at 1 _ rfl
              have d2 : w3.cell? ⟨V, 2, none⟩ = some (.int .u32 r.c) := HV3.out.at 2 _ rfl
              have d3 : w3.cell? ⟨V, 3, none⟩ = some (.int .u32 r.d) := HV3.out.at 3 _ rfl
              have d5 : w3.cell? ⟨V, 5, none⟩ = some (.int .u32 r.f) := HV3.out.at 5 _ rfl
              have d6 : w3.cell? ⟨V, 6, none⟩ = some (.int .u32 r.g) := HV3.out.at 6 _ rfl
              go_upto_region 20 with (refine wpList_store_blk rfl 54 (.tmp 9) (.tmp 174) rfl V _ rfl rfl 54 _ HV3.out rfl rfl (by intro u hu; simp at hu; rcases hu with rfl | rfl | rfl | rfl | rfl | rfl | rfl | rfl <;> rfl) ?_)
              have HV4 := Lib.hid (HV3.out.fill ((rnd r kk y).l.map wv) rfl)
              have HW4 := Lib.hid (HW3.out.farCells ((rnd r kk y).l.map wv) (Nat.ne_of_lt HVl.out.2.1) 0)
              have hn4 := nu_fill ((rnd r kk y).l.map wv) HVl.out.1 0 _ hn3
              go_wp2_with fail
              go_roundw
              case rel =>
                refine ⟨k + 1, by omega, by go_num, hn4, HW4.out, ?_⟩
                rw [HN.out]
                exact HV4.out
              case measure => simp [intOf]; omega
            · obtain rfl : k = 64 := by omega
              obtain ⟨r, hr⟩ : ∃ r, r = rnds ws v 64 := ⟨_, rfl⟩
              rw [← hr] at hV
              have Hfin := Lib.hid (show compress v blk = addV v r by rw [compress, ← Hws.out, hr])
              have HV := Lib.hid hV
              have HS5 := Lib.hid (show SumAt wr g v rv n from Blk.below HS.out hnr hgl)
              have hg5 := gb_of_below hnr (some g)
              clear hW hV HW hr hk hlt hnr HT Hb Hl
              obtain ⟨wd_, rfl⟩ : ∃ x : World, x = wr := ⟨_, rfl⟩
              go_wp2_with fail
              go_loopw [176] (fun i wr => ∃ k : Nat, k ≤ 8 ∧ i = .int .i64 k ∧ w.grownBy wr (some g) ∧ Blk wr V 54 (r.l.map wv).toArray ∧ Blk wr g 58 ((addTo v r k).map wv ++ [rv, .int .u64 n]).toArray) (fun i _ => 8 - (intOf i).toNat)
              case atStart => exact ⟨0, by omega, rfl, hg5, HV.out, HS5.out⟩
              case round =>
                clear HS5 HV hg5
                obtain ⟨k, hk, rfl, hgr, hV, hS⟩ := hrel
                have HV := Lib.hid hV
                have HS := Lib.hid hS
                clear hV hS
                by_cases hlt : k < 8
                · have hi : (k : Int) < 8 := by omega
                  obtain ⟨a, b, ha, hb, hab⟩ := addTo_step v r rv n k hlt
                  have ca : wr.cell? ⟨g, k, none⟩ = some (.int .u32 a) := HS.out.at k _ (by rw [List.getElem?_toArray]; exact ha)
                  have cb : wr.cell? ⟨V, k, none⟩ = some (.int .u32 b) := HV.out.at k _ (by rw [List.getElem?_toArray]; exact hb)
                  have fa := HS.out.free k
                  have Hab := Lib.hid hab
                  clear ha hb hab
                  go_upto_region 24 with fail
                  go_still_tail 13, (by kernel_rfl)
                  change wpList _ _ _ _ _ wr.drew
                  have HV1 := Lib.hid HV.out.drew
                  have HS1 := Lib.hid HS.out.drew
                  have ca1 : wr.drew.cell? ⟨g, k, none⟩ = some (.int .u32 a) := ca
                  have fa1 := HS1.out.free k
                  have hg1 := gb_drew hgr
                  clear HV HS hgr ca cb fa
                  generalize wr.drew = w1 at *
                  go_wp2_with fail
                  have h := HS1.out.put k (.int .u32 ((a + b) % 4294967296))
                  rw [List.setIfInBounds_toArray, Hab.out] at h
                  have hgf := gb_set hg1 (p := ⟨g, k, none⟩) (.inl rfl) (.int .u32 ((a + b) % 4294967296))
                  have hVf := HV1.out.far (p := ⟨g, k, none⟩) (Nat.ne_of_gt HVl.out.2.2.1) (.int .u32 ((a + b) % 4294967296))
                  go_roundw
                  case rel => first | exact ⟨k + 1, by omega, by go_num, hgf, hVf, h⟩ | ((repeat apply Exists.intro); exact ⟨⟨k + 1, by omega, by go_num, hgf, hVf, h⟩, rfl⟩)
                  case measure => simp [intOf]; omega
                · obtain rfl : k = 8 := by omega
                  go_wp2_with fail
                  refine bodyPost_end (results_none rfl _ _ _) rfl ⟨rfl, ?_, hgr⟩
                  rw [Hfin.out]
                  exact HS.out
end Go.Proofs.YtlekepigndlbhaaDoor
