/-
  The walks of ghash's New and times.
-/
import Derived.Test.YtnojbjconiddoaaGh6
import Derived.StillTailTactics
namespace Go.Proofs.Ytnojbjconiddoaa
open Go.ChangeShapes Go.WideShapes Go.ChangeAt Go.RowKit

theorem exec_key0 {o : Oper} {a : Act} {w : World} (Z : List Value) (hZ : Z = List.replicate 256 (Value.int .u64 0)) (ho : o.op = .build 65 #[]) : (execOp a.eval o).run Try.prog w = .ok (.value (.agg Z.toArray)) w := by
  subst hZ
  unfold execOp
  simp only [ho]
  kernel_rfl
theorem keyF_zero (p : Nat) : keyF p 0 = List.replicate 256 (Value.int .u64 0) := rfl
def KeyAt (w : World) (g p : Nat) : Prop := Blk w g 65 (keyL p).toArray
theorem iter_lt (p i : Nat) (hp : p < 2 ^ 128) : Gal.iter Gh.T i p < 2 ^ 128 := (Gh.lin.iter i).lt p hp

set_option maxRecDepth 100000 in
set_option maxHeartbeats 1000000 in
theorem gh_new (xs : List Nat) (hl : xs.length = 16) (hx : ∀ x ∈ xs, x < 256) (w : World) :
    Calls Try.prog 20 #[.agg (xs.map vb).toArray] w fun e w' => ∃ g, e = .returned (.pointer (some ⟨g, 0, none⟩)) ∧ w.heap.size ≤ g ∧ KeyAt w' g (polB xs) ∧ Below w.heap.size w w' := by
  have HL := Lib.hid (load_any xs hl hx)
  have hp := polB_lt xs
  obtain ⟨p, hpe⟩ : ∃ p, p = polB xs := ⟨_, rfl⟩
  rw [← hpe] at HL hp ⊢
  obtain ⟨Z, hZ⟩ : ∃ Z, Z = List.replicate 256 (Value.int .u64 0) := ⟨_, rfl⟩
  have HZ := Lib.hid hZ
  clear hZ
  have HB := Lib.hid ((Blk.made w 22 (xs.map vb).toArray).alloc (.cells Z.toArray 65))
  have HK := Lib.hid (Blk.made1 w (.cells (xs.map vb).toArray 22) 65 Z.toArray)
  have Hsz := Lib.hid (show (Try.prog.info? 22).map (·.size) = some (xs.map vb).toArray.size by rw [List.size_toArray, List.length_map, hl]; kernel_rfl)
  have hn := nu_alloc (nu_alloc (nu_refl w) (.cells (xs.map vb).toArray 22)) (.cells Z.toArray 65)
  clear hpe hl hx
  go_enter Try.func20, Try.ntmps20
  go_upto_region 2 with (refine wpList_run _ rfl (exec_key0 Z HZ.out rfl) ?_)
  generalize (w.alloc (.cells (xs.map vb).toArray 22)).alloc (.cells Z.toArray 65) = w1 at *
  obtain ⟨X, hX⟩ : ∃ X, X = xs.map vb := ⟨_, rfl⟩
  rw [← hX] at HB Hsz HL
  rw [← hX]
  clear hX
  obtain ⟨G, hG⟩ : ∃ G, G = w.heap.size + 1 := ⟨_, rfl⟩
  rw [← hG] at HK
  rw [← hG]
  have HG := Lib.hid (show w.heap.size ≤ G by omega)
  clear hG
  obtain ⟨H, hH⟩ : ∃ H, H = halfL p := ⟨_, rfl⟩
  rw [← hH] at HL
  have H2 := Lib.hid (show H.length = 2 by rw [hH]; rfl)
  have H1 := Lib.hid (show ∀ u ∈ H, u.oneCell' = true by rw [hH]; exact halfL_one p)
  have HH := Lib.hid hH
  clear hH
  have HW := Lib.hid (HL.out w1)
  go_wp2_with (refine wpList_load_blk rfl 22 (.tmp 1) rfl w.heap.size rfl 22 X.toArray HB.out Try.underlying22 Hsz.out ?_)
  refine HW.out.mono ?_
  rintro e w2 ⟨rfl, hb2⟩
  have hn2 := nu_trans hn hb2
  have HK2 := Lib.hid (Blk.below HK.out hb2 (Blk.lt HK.out))
  have HY := Lib.hid (Blk.made w2 58 #[.int .u64 0, .int .u64 0])
  have HF := Lib.hid (Blk.fill HY.out H (by rw [H2.out]; rfl))
  have hf := nu_fill H (g := w2.heap.size) (Nat.le_refl _) 0 _ (nu_alloc (nu_refl w2) (.cells #[.int .u64 0, .int .u64 0] 58))
  have HGY := Lib.hid (Blk.lt HK2.out)
  clear hn hb2 HK HB Hsz HL HW
  go_upto_region 3 with (refine wpList_store_blk rfl 58 (.tmp 4) (.tmp 9) rfl w2.heap.size H rfl rfl 58 #[.int .u64 0, .int .u64 0] HY.out (by rw [H2.out]; rfl) (by rw [H2.out]; kernel_rfl) H1.out ?_)
  have HK3 := Lib.hid (Blk.below HK2.out hf HGY.out)
  have hn3 := nu_trans hn2 hf
  generalize (w2.alloc (.cells #[.int .u64 0, .int .u64 0] 58)).setCells w2.heap.size 0 H = w3 at *
  have HYG := Lib.hid (show w.heap.size ≤ w2.heap.size from hn2.size)
  generalize w2.heap.size = Y at *
  clear HK2 hf hn2
  go_wp2_with fail
  go_loopw [10] (fun i wr => ∃ k : Nat, k ≤ 128 ∧ i = .int .i64 k ∧ Blk wr G 65 (keyF p k).toArray ∧ Blk wr Y 58 (halfL (Gal.iter Gh.T k p)).toArray ∧ Below w.heap.size w wr) (fun i _ => 128 - (intOf i).toNat)
  case atStart => exact ⟨0, by omega, rfl, by rw [keyF_zero, ← HZ.out]; exact HK3.out, by rw [show Gal.iter Gh.T 0 p = p from rfl, ← HH.out]; exact HF.out, hn3⟩
  case round =>
    clear HK3 HF hn3 HY
    obtain ⟨k, hk, rfl, hK, hY, hn⟩ := hrel
    have HK := Lib.hid hK
    have HY := Lib.hid hY
    clear hK hY
    by_cases hlt : k < 128
    · have hki : (k : Int) < 128 := by omega
      have hq := iter_lt p k hp
      have Hstep := Lib.hid (keyF_step p k hlt)
      have Hkl := Lib.hid (keyF_len p k hk)
      have Hit := Lib.hid (show Gh.T (Gal.iter Gh.T k p) = Gal.iter Gh.T (k + 1) p from rfl)
      obtain ⟨q', hq'⟩ : ∃ q', q' = Gal.iter Gh.T (k + 1) p := ⟨_, rfl⟩
      rw [← hq'] at Hit
      have Hq' := Lib.hid hq'
      clear hq'
      generalize Gal.iter Gh.T k p = q at *
      obtain ⟨a, ha⟩ : ∃ a : Int, a = (Gh.hi q : Int) := ⟨_, rfl⟩
      obtain ⟨b, hb⟩ : ∃ b : Int, b = (Gh.lo q : Int) := ⟨_, rfl⟩
      have hq2 : halfL q = [.int .u64 a, .int .u64 b] := by unfold halfL; rw [ha, hb]
      rw [hq2] at HY Hstep
      obtain ⟨N, hN⟩ : ∃ N, N = halfL q' := ⟨_, rfl⟩
      have HN2 := Lib.hid (show N.length = 2 by rw [hN]; rfl)
      have HN1 := Lib.hid (show ∀ u ∈ N, u.oneCell' = true by rw [hN]; exact halfL_one q')
      have HNx := Lib.hid (show ∀ w : World, Calls Try.prog 38 #[.agg #[.int .u64 a, .int .u64 b]] w fun e w' => e = .returned (.agg N.toArray) ∧ Below w.heap.size w w' from fun w => by
        have h := gh_next q hq w
        rw [Hit.out, ← hN, hq2] at h
        exact h)
      have HNe := Lib.hid hN
      clear ha hb hq2 hN hq Hit
      have d0 : wr.cell? ⟨Y, 0, none⟩ = some (.int .u64 a) := HY.out.at 0 _ rfl
      have d1 : wr.cell? ⟨Y, 1, none⟩ = some (.int .u64 b) := HY.out.at 1 _ rfl
      go_upto_region 6 with fail
      go_still_tail 6, (by kernel_rfl)
      change wpList _ _ _ _ _ wr.drew
      have HK4 := Lib.hid HK.out.drew
      have HY4 := Lib.hid HY.out.drew
      have hn4 := hn.drew
      clear hn HK HY d0 d1
      generalize wr.drew = w4 at *
      have hlen : k * 2 + [Value.int .u64 a, .int .u64 b].length ≤ (keyF p k).toArray.size := by rw [List.size_toArray, Hkl.out]; simp; omega
      have HK5 := Lib.hid (HK4.out.part (k * 2) [.int .u64 a, .int .u64 b] hlen)
      have HY5 := Lib.hid (HY4.out.farCells [.int .u64 a, .int .u64 b] (k := G) (Nat.ne_of_gt HGY.out) (k * 2))
      have Hn5 := Lib.hid (nu_fill [.int .u64 a, .int .u64 b] (g := G) HG.out (k * 2) w4 hn4)
      have Hlen := Lib.hid hlen
      clear hlen hn4 HY4
      go_upto_region 7 with (refine wpList_store_part rfl 58 (.tmp 18) (.tmp 15) rfl G (k * 2) [.int .u64 a, .int .u64 b] rfl rfl 65 _ HK4.out Hlen.out (show _ = some 2 by kernel_rfl) (by simp [Value.oneCell']) ?_)
      generalize w4.setCells G (k * 2) [.int .u64 a, .int .u64 b] = w5 at *
      have hK5 := HK5.out
      rw [show (keyF p k).toArray.toList = keyF p k from rfl, show k * 2 + [Value.int .u64 a, .int .u64 b].length = 2 * k + 2 by simp; omega, Nat.mul_comm k 2, Hstep.out] at hK5
      have HK6 := Lib.hid hK5
      have d0 : w5.cell? ⟨Y, 0, none⟩ = some (.int .u64 a) := HY5.out.at 0 _ rfl
      have d1 : w5.cell? ⟨Y, 1, none⟩ = some (.int .u64 b) := HY5.out.at 1 _ rfl
      clear hK5 HK5 HK4
      go_wp2_with fail
      refine (HNx.out w5).mono ?_
      rintro e w6 ⟨rfl, hb6⟩
      have HK7 := Lib.hid (Blk.below HK6.out hb6 (Blk.lt HK6.out))
      have HY7 := Lib.hid (Blk.below HY5.out hb6 (Blk.lt HY5.out))
      have hn7 := nu_trans Hn5.out hb6
      have HF := Lib.hid (Blk.fill HY7.out N (by rw [HN2.out]; rfl))
      have HK8 := Lib.hid (HK7.out.farCells N (k := Y) (Nat.ne_of_lt HGY.out) 0)
      have Hn8 := Lib.hid (nu_fill N (g := Y) HYG.out 0 w6 hn7)
      clear d0 d1 hb6 HK6 HY5 hn7 Hn5
      go_upto_region 8 with (refine wpList_store_blk rfl 58 (.tmp 4) (.tmp 20) rfl Y N rfl rfl 58 #[.int .u64 a, .int .u64 b] HY7.out (by rw [HN2.out]; rfl) (by rw [HN2.out]; kernel_rfl) HN1.out ?_)
      generalize w6.setCells Y 0 N = w7 at *
      go_wp2_with fail
      go_roundw
      case rel => first | exact ⟨k + 1, by omega, by go_num, HK8.out, by rw [← Hq'.out, ← HNe.out]; exact HF.out, Hn8.out⟩ | ((repeat apply Exists.intro); exact ⟨⟨k + 1, by omega, by go_num, HK8.out, by rw [← Hq'.out, ← HNe.out]; exact HF.out, Hn8.out⟩, rfl⟩)
      case measure => simp [intOf]; omega
    · obtain rfl : k = 128 := by omega
      have hK := HK.out
      rw [keyF_all] at hK
      have HK2 := Lib.hid hK
      clear hK HK HY hlt hk
      go_wp2_with fail
      go_ret
      exact ⟨_, rfl, HG.out, HK2.out, hn⟩
end Go.Proofs.Ytnojbjconiddoaa
