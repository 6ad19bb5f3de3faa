/-
  The walk of count.Nonce: the twelve bytes of a boot and a number.
-/
import Derived.Test.YtogcckedelkpbaaPut
namespace Go.Proofs.Ytogcckedelkpbaa
open Go.ChangeShapes Go.WideShapes Go.ChangeAt Go.RowKit

/-- A nonce's bytes. -/
def nonceL (boot seq : Nat) : List Nat := beL boot 4 4 ++ beL seq 8 8
def nonceV (boot seq : Nat) : Array Value := ((nonceL boot seq).map vb).toArray

theorem list12 (l : List Nat) (h : l.length = 12) : ∃ x0 x1 x2 x3 x4 x5 x6 x7 x8 x9 x10 x11 : Nat, l = [x0, x1, x2, x3, x4, x5, x6, x7, x8, x9, x10, x11] := by
  match l, h with
  | [x0, x1, x2, x3, x4, x5, x6, x7, x8, x9, x10, x11], _ => exact ⟨x0, x1, x2, x3, x4, x5, x6, x7, x8, x9, x10, x11, rfl⟩
/-- The cells of a row of the call's own that is not empty. -/
theorem own_cells {w : World} {base : Nat} {e : TypeId} {v : Value} {xs : List Nat} (h : OwnB w base e v xs) (h0 : 0 < xs.length) :
    ∃ g cap, v = .slice (some ⟨g, 0, none⟩) xs.length cap ∧ xs.length ≤ cap ∧ (base ≤ g ∧ g < w.heap.size) ∧ ∀ (i : Nat) (u : Value), (xs.map vb)[i]? = some u → w.cell? ⟨g, i, none⟩ = some u := by
  rcases h.1.2 with ⟨_, h2⟩ | ⟨g, cap, cur, rfl, hbg, hh, hnc, hcm, hsz, htk⟩
  · omega
  · refine ⟨g, cap, rfl, hnc, ⟨hbg, Blk.lt (t := e) (cs := cur) hh⟩, fun i u hu => Blk.at (t := e) hh i u ?_⟩
    rw [← htk, List.getElem?_take] at hu
    split at hu
    · rw [← Array.getElem?_toList]; exact hu
    · cases hu
def zero12 : Array Value := #[.int .u8 0, .int .u8 0, .int .u8 0, .int .u8 0, .int .u8 0, .int .u8 0, .int .u8 0, .int .u8 0, .int .u8 0, .int .u8 0, .int .u8 0, .int .u8 0]

theorem put12 (a0 a1 a2 a3 a4 a5 a6 a7 a8 a9 a10 a11 : Value) : ((((((((((((zero12.setIfInBounds 0 a0).setIfInBounds 1 a1).setIfInBounds 2 a2).setIfInBounds 3 a3).setIfInBounds 4 a4).setIfInBounds 5 a5).setIfInBounds 6 a6).setIfInBounds 7 a7).setIfInBounds 8 a8).setIfInBounds 9 a9).setIfInBounds 10 a10).setIfInBounds 11 a11) = #[a0, a1, a2, a3, a4, a5, a6, a7, a8, a9, a10, a11] := by
  simp [zero12]
theorem res12 (tmps : Array Value) (g : Nat) (h2 : tmps.getD 2 undef = .pointer (some ⟨g, 0, none⟩)) (W : World) (x0 x1 x2 x3 x4 x5 x6 x7 x8 x9 x10 x11 : Nat) (q0 : W.cell? ⟨g, 0, none⟩ = some (.int .u8 (x0 : Int))) (q1 : W.cell? ⟨g, 1, none⟩ = some (.int .u8 (x1 : Int))) (q2 : W.cell? ⟨g, 2, none⟩ = some (.int .u8 (x2 : Int))) (q3 : W.cell? ⟨g, 3, none⟩ = some (.int .u8 (x3 : Int))) (q4 : W.cell? ⟨g, 4, none⟩ = some (.int .u8 (x4 : Int))) (q5 : W.cell? ⟨g, 5, none⟩ = some (.int .u8 (x5 : Int))) (q6 : W.cell? ⟨g, 6, none⟩ = some (.int .u8 (x6 : Int))) (q7 : W.cell? ⟨g, 7, none⟩ = some (.int .u8 (x7 : Int))) (q8 : W.cell? ⟨g, 8, none⟩ = some (.int .u8 (x8 : Int))) (q9 : W.cell? ⟨g, 9, none⟩ = some (.int .u8 (x9 : Int))) (q10 : W.cell? ⟨g, 10, none⟩ = some (.int .u8 (x10 : Int))) (q11 : W.cell? ⟨g, 11, none⟩ = some (.int .u8 (x11 : Int))) :
    (results Try.f18 tmps).run Try.prog W = .ok (.agg #[.int .u8 (x0 : Int), .int .u8 (x1 : Int), .int .u8 (x2 : Int), .int .u8 (x3 : Int), .int .u8 (x4 : Int), .int .u8 (x5 : Int), .int .u8 (x6 : Int), .int .u8 (x7 : Int), .int .u8 (x8 : Int), .int .u8 (x9 : Int), .int .u8 (x10 : Int), .int .u8 (x11 : Int)]) W := by
  have h3 : tmps[2]?.getD undef = .pointer (some ⟨g, 0, none⟩) := by rw [← h2]; simp
  simp [results, Try.results18, go_sem, h3, q0, q1, q2, q3, q4, q5, q6, q7, q8, q9, q10, q11]

set_option maxRecDepth 100000 in
set_option maxHeartbeats 400000 in
theorem nonce_any (ep boot seq : Nat) (w : World) (hb : boot < 4294967296) (hs : seq < 18446744073709551616) :
    Calls Try.prog 18 #[.agg #[.int .u32 ep, .int .u32 boot, .int .u64 seq]] w fun e w' => e = .returned (.agg (nonceV boot seq)) ∧ Below w.heap.size w w' := by
  have hp4 : putOk boot 4 := ⟨by omega, by omega, fun _ => by omega⟩
  have hp8 : putOk seq 8 := ⟨by omega, by omega, fun h => by omega⟩
  have Hs := Lib.hid hs
  clear hs
  go_enter Try.func18, Try.ntmps18
  go_wp2_with fail
  (with_reducible refine (put_at none 0 0 [] boot 4 (boot : Int) 4 _ (BytesIn.nil_ _) (by omega) hp4 (by omega) rfl rfl).mono ?_)
  rintro e w1 ⟨v1, rfl, hown1, hb1⟩
  have B0 := (Blk.made w 35 #[.int .u32 ep, .int .u32 boot, .int .u64 seq]).alloc (.cells zero12 36)
  have R0 := Blk.made (w.alloc (.cells #[.int .u32 ep, .int .u32 boot, .int .u64 seq] 35)) 36 zero12
  have hw0 : Below w.heap.size w ((w.alloc (.cells #[.int .u32 ep, .int .u32 boot, .int .u64 seq] 35)).alloc (.cells zero12 36)) := ((Below.refl _ _).alloc (Nat.le_refl _) _).alloc (by simp) _
  have B1 := B0.below hb1 (by simp; omega)
  have R1 := R0.below hb1 (by simp)
  have hw1 := hw0.trans (hb1.mono (by simp; omega))
  have hsz1 : w.heap.size + 2 ≤ w1.heap.size := by have := hb1.size; simp at this; omega
  have c2 := B1.at 2 (.int .u64 seq) rfl
  obtain ⟨l1, hl1⟩ : ∃ l1, l1 = beL boot 4 4 := ⟨_, rfl⟩
  rw [List.nil_append, ← hl1] at hown1
  have Hl1 := Lib.hid hl1
  have Hlen1 := Lib.hid (show l1.length = 4 by rw [hl1, beL_length])
  clear hl1 B0 R0 hb1 hw0
  obtain ⟨a1, k1, rfl, hk1, hk1', hr1⟩ := hown1.reads
  rw [Hlen1.out] at hr1 hk1 ⊢
  unfold maxLen at hk1'
  clear hown1
  go_wp2_with fail
  (with_reducible refine (put_at a1 4 k1 l1 seq 8 (seq : Int) 8 _ hr1 (by omega) hp8 Hs.out rfl rfl).mono ?_)
  rintro e w2 ⟨v2, rfl, hown2, hb2⟩
  have R2 := R1.below hb2 R1.lt
  simp at R2
  have hw2 := hw1.trans (hb2.mono (by omega))
  obtain ⟨l2, hl2⟩ : ∃ l2, l2 = l1 ++ beL seq 8 8 := ⟨_, rfl⟩
  rw [← hl2] at hown2
  have hlen2 : l2.length = 12 := by rw [hl2, List.length_append, Hlen1.out, beL_length]
  have Hl2 := Lib.hid hl2
  clear hl2 hr1 hb2 R1 B1 c2
  obtain ⟨x0, x1, x2, x3, x4, x5, x6, x7, x8, x9, x10, x11, rfl⟩ := list12 l2 hlen2
  obtain ⟨g, k2, rfl, hk2, hgb, hc⟩ := own_cells hown2 (by simp)
  clear hown2 hlen2
  have z0 := R2.at 0 (.int .u8 0) rfl
  have f0 := R2.free 0
  have z1 := R2.at 1 (.int .u8 0) rfl
  have f1 := R2.free 1
  have z2 := R2.at 2 (.int .u8 0) rfl
  have f2 := R2.free 2
  have z3 := R2.at 3 (.int .u8 0) rfl
  have f3 := R2.free 3
  have z4 := R2.at 4 (.int .u8 0) rfl
  have f4 := R2.free 4
  have z5 := R2.at 5 (.int .u8 0) rfl
  have f5 := R2.free 5
  have z6 := R2.at 6 (.int .u8 0) rfl
  have f6 := R2.free 6
  have z7 := R2.at 7 (.int .u8 0) rfl
  have f7 := R2.free 7
  have z8 := R2.at 8 (.int .u8 0) rfl
  have f8 := R2.free 8
  have z9 := R2.at 9 (.int .u8 0) rfl
  have f9 := R2.free 9
  have z10 := R2.at 10 (.int .u8 0) rfl
  have f10 := R2.free 10
  have z11 := R2.at 11 (.int .u8 0) rfl
  have f11 := R2.free 11
  have y0 : w2.cell? ⟨g, 0, none⟩ = some (.int .u8 (x0 : Int)) := hc 0 (vb x0) rfl
  have y1 : w2.cell? ⟨g, 1, none⟩ = some (.int .u8 (x1 : Int)) := hc 1 (vb x1) rfl
  have y2 : w2.cell? ⟨g, 2, none⟩ = some (.int .u8 (x2 : Int)) := hc 2 (vb x2) rfl
  have y3 : w2.cell? ⟨g, 3, none⟩ = some (.int .u8 (x3 : Int)) := hc 3 (vb x3) rfl
  have y4 : w2.cell? ⟨g, 4, none⟩ = some (.int .u8 (x4 : Int)) := hc 4 (vb x4) rfl
  have y5 : w2.cell? ⟨g, 5, none⟩ = some (.int .u8 (x5 : Int)) := hc 5 (vb x5) rfl
  have y6 : w2.cell? ⟨g, 6, none⟩ = some (.int .u8 (x6 : Int)) := hc 6 (vb x6) rfl
  have y7 : w2.cell? ⟨g, 7, none⟩ = some (.int .u8 (x7 : Int)) := hc 7 (vb x7) rfl
  have y8 : w2.cell? ⟨g, 8, none⟩ = some (.int .u8 (x8 : Int)) := hc 8 (vb x8) rfl
  have y9 : w2.cell? ⟨g, 9, none⟩ = some (.int .u8 (x9 : Int)) := hc 9 (vb x9) rfl
  have y10 : w2.cell? ⟨g, 10, none⟩ = some (.int .u8 (x10 : Int)) := hc 10 (vb x10) rfl
  have y11 : w2.cell? ⟨g, 11, none⟩ = some (.int .u8 (x11 : Int)) := hc 11 (vb x11) rfl
  clear hc
  have hgne : g ≠ w.heap.size + 1 := by omega
  have hat : ∀ W : World, (Instr.arrayAt 36 (.slice (some ⟨g, 0, none⟩) 12 k2)).run Try.prog W = .ok (.pointer (some ⟨g, 0, none⟩)) W := fun W => run_arrayAt W 36 _ 12 _ 12 k2 Try.underlying36 (by omega)
  go_wp2_with fail
  have R3 := ((((((((((((R2.put 0 (.int .u8 (x0 : Int))).put 1 (.int .u8 (x1 : Int))).put 2 (.int .u8 (x2 : Int))).put 3 (.int .u8 (x3 : Int))).put 4 (.int .u8 (x4 : Int))).put 5 (.int .u8 (x5 : Int))).put 6 (.int .u8 (x6 : Int))).put 7 (.int .u8 (x7 : Int))).put 8 (.int .u8 (x8 : Int))).put 9 (.int .u8 (x9 : Int))).put 10 (.int .u8 (x10 : Int))).put 11 (.int .u8 (x11 : Int)))
  have hw3 := ((((((((((((hw2.setCell (p := ⟨w.heap.size + 1, 0, none⟩) (by simp) (.int .u8 (x0 : Int))).setCell (p := ⟨w.heap.size + 1, 1, none⟩) (by simp) (.int .u8 (x1 : Int))).setCell (p := ⟨w.heap.size + 1, 2, none⟩) (by simp) (.int .u8 (x2 : Int))).setCell (p := ⟨w.heap.size + 1, 3, none⟩) (by simp) (.int .u8 (x3 : Int))).setCell (p := ⟨w.heap.size + 1, 4, none⟩) (by simp) (.int .u8 (x4 : Int))).setCell (p := ⟨w.heap.size + 1, 5, none⟩) (by simp) (.int .u8 (x5 : Int))).setCell (p := ⟨w.heap.size + 1, 6, none⟩) (by simp) (.int .u8 (x6 : Int))).setCell (p := ⟨w.heap.size + 1, 7, none⟩) (by simp) (.int .u8 (x7 : Int))).setCell (p := ⟨w.heap.size + 1, 8, none⟩) (by simp) (.int .u8 (x8 : Int))).setCell (p := ⟨w.heap.size + 1, 9, none⟩) (by simp) (.int .u8 (x9 : Int))).setCell (p := ⟨w.heap.size + 1, 10, none⟩) (by simp) (.int .u8 (x10 : Int))).setCell (p := ⟨w.heap.size + 1, 11, none⟩) (by simp) (.int .u8 (x11 : Int)))
  rw [put12] at R3
  have q0 := R3.at 0 (.int .u8 (x0 : Int)) rfl
  have q1 := R3.at 1 (.int .u8 (x1 : Int)) rfl
  have q2 := R3.at 2 (.int .u8 (x2 : Int)) rfl
  have q3 := R3.at 3 (.int .u8 (x3 : Int)) rfl
  have q4 := R3.at 4 (.int .u8 (x4 : Int)) rfl
  have q5 := R3.at 5 (.int .u8 (x5 : Int)) rfl
  have q6 := R3.at 6 (.int .u8 (x6 : Int)) rfl
  have q7 := R3.at 7 (.int .u8 (x7 : Int)) rfl
  have q8 := R3.at 8 (.int .u8 (x8 : Int)) rfl
  have q9 := R3.at 9 (.int .u8 (x9 : Int)) rfl
  have q10 := R3.at 10 (.int .u8 (x10 : Int)) rfl
  have q11 := R3.at 11 (.int .u8 (x11 : Int)) rfl
  have Hv := Lib.hid (show nonceV boot seq = #[.int .u8 (x0 : Int), .int .u8 (x1 : Int), .int .u8 (x2 : Int), .int .u8 (x3 : Int), .int .u8 (x4 : Int), .int .u8 (x5 : Int), .int .u8 (x6 : Int), .int .u8 (x7 : Int), .int .u8 (x8 : Int), .int .u8 (x9 : Int), .int .u8 (x10 : Int), .int .u8 (x11 : Int)] by
    have h := Hl2.out
    rw [Hl1.out] at h
    unfold nonceV nonceL
    rw [← h]
    rfl)
  clear R3 Hl1 Hl2
  exact bodyPost_ret (res12 _ _ rfl _ _ _ _ _ _ _ _ _ _ _ _ _ q0 q1 q2 q3 q4 q5 q6 q7 q8 q9 q10 q11) rfl ⟨by rw [Hv.out], hw3⟩
end Go.Proofs.Ytogcckedelkpbaa
