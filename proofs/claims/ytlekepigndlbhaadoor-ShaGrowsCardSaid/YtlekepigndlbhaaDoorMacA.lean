/-
  The example of law04; the walks of MacSame and MacTurned.
-/
import Derived.Test.YtlekepigndlbhaaDoorMacO
import Derived.Test.YtlekepigndlbhaaDoorMacS
namespace Go.Proofs.YtlekepigndlbhaaDoor
open Go.ChangeShapes Go.WideShapes Go.ChangeAt Go.RowKit

theorem bytes_mark_at (w : World) (g : Nat) (hg : g = w.heap.size) (xs : List Nat) (hx : ∀ x ∈ xs, x < 256) (cs : Array Value) (hc : cs = (xs.map vb).toArray) (mk : Nat × Nat) : BytesIn (w.alloc (.cells cs 5 mk)) (some ⟨g, 0, none⟩) xs.length xs.length xs := by
  subst hg
  exact bytes_mark w xs hx cs hc mk
set_option maxRecDepth 100000 in
set_option maxHeartbeats 1000000 in
theorem macAwake_any {w : World} (hT : TabIn w) :
    Calls Tryd.prog 25 #[] w fun e w' => e = .returned (.bool true) ∧ Below w.heap.size w w' := by
  obtain ⟨w1, hw1⟩ : ∃ x, x = w.alloc (.cells #[.int .u8 74, .int .u8 101, .int .u8 102, .int .u8 101] 5 (4, 5)) := ⟨_, rfl⟩
  have hs1 : w1.heap.size = w.heap.size + 1 := by rw [hw1, alloc_size]
  obtain ⟨w2, hw2⟩ : ∃ x, x = w1.alloc (.cells #[.int .u8 119, .int .u8 104, .int .u8 97, .int .u8 116, .int .u8 32, .int .u8 100, .int .u8 111, .int .u8 32, .int .u8 121, .int .u8 97, .int .u8 32, .int .u8 119, .int .u8 97, .int .u8 110, .int .u8 116, .int .u8 32] 5 (16, 17)) := ⟨_, rfl⟩
  have hs2 : w2.heap.size = w.heap.size + 1 + 1 := by rw [hw2, alloc_size, hs1]
  obtain ⟨w3, hw3⟩ : ∃ x, x = w2.alloc (.cells #[.int .u8 102, .int .u8 111, .int .u8 114, .int .u8 32, .int .u8 110, .int .u8 111, .int .u8 116, .int .u8 104, .int .u8 105, .int .u8 110, .int .u8 103, .int .u8 63] 5 (12, 13)) := ⟨_, rfl⟩
  have hs3 : w3.heap.size = w.heap.size + 1 + 1 + 1 := by rw [hw3, alloc_size, hs2]
  have n1 : Below w.heap.size w w1 := by rw [hw1]; exact nu_alloc (nu_refl w) _
  have m2 : Below w1.heap.size w1 w2 := by rw [hw2]; exact nu_alloc (nu_refl w1) _
  have m3 : Below w2.heap.size w2 w3 := by rw [hw3]; exact nu_alloc (nu_refl w2) _
  have b1 : BytesIn w1 (some ⟨w.heap.size, 0, none⟩) 4 4 [74, 101, 102, 101] := by rw [hw1]; exact bytes_mark w _ (by decide) _ rfl (4, 5)
  have b2 : BytesIn w2 (some ⟨w.heap.size + 1, 0, none⟩) 16 16 [119, 104, 97, 116, 32, 100, 111, 32, 121, 97, 32, 119, 97, 110, 116, 32] := by rw [hw2]; exact bytes_mark_at w1 _ hs1.symm _ (by decide) _ rfl (16, 17)
  have b3 : BytesIn w3 (some ⟨w.heap.size + 1 + 1, 0, none⟩) 12 12 [102, 111, 114, 32, 110, 111, 116, 104, 105, 110, 103, 63] := by rw [hw3]; exact bytes_mark_at w2 _ hs2.symm _ (by decide) _ rfl (12, 13)
  have b13 := b1.keep (nu_trans m2 m3)
  have b23 := b2.keep m3
  have n3 := nu_trans n1 (nu_trans m2 m3)
  obtain ⟨D, hd, hDl, d0, d1, d31⟩ := jefe_facts
  have hp := PartsIn.two b23 b3 (by omega) (by unfold maxLen; omega) (by omega) (by unfold maxLen; omega)
  have hal := nu_alloc (nu_refl w3) (.cells #[.slice (some ⟨w.heap.size + 1, 0, none⟩) 16 16, .slice (some ⟨w.heap.size + 1 + 1, 0, none⟩) 12 12] 22)
  have n4 := nu_trans n3 hal
  have hw := macOf_is (pcap := 2) hd (b13.keep hal) ⟨by omega, by unfold maxLen; omega, by omega⟩ hp ⟨by unfold maxLen; omega, by simp⟩ (hT.below n4 hT.size)
  rw [hs3] at hw
  have kc := fun (w : World) (C : Array Value) (n c : Nat) => Lib.run_convert_bytes_const (P := Tryd.prog) w 22 5 C n c Tryd.underlying22 Tryd.underlying5
  have kc1 := kc w #[.int .u8 74, .int .u8 101, .int .u8 102, .int .u8 101] 4 4
  have kc2 := kc w1 #[.int .u8 119, .int .u8 104, .int .u8 97, .int .u8 116, .int .u8 32, .int .u8 100, .int .u8 111, .int .u8 32, .int .u8 121, .int .u8 97, .int .u8 32, .int .u8 119, .int .u8 97, .int .u8 110, .int .u8 116, .int .u8 32] 16 16
  rw [hs1] at kc2
  have kc3 := kc w2 #[.int .u8 102, .int .u8 111, .int .u8 114, .int .u8 32, .int .u8 110, .int .u8 111, .int .u8 116, .int .u8 104, .int .u8 105, .int .u8 110, .int .u8 103, .int .u8 63] 12 12
  rw [hs2] at kc3
  simp only [List.size_toArray, List.length_cons, List.length_nil, Nat.zero_add, Nat.reduceAdd] at kc1 kc2 kc3
  clear kc
  subst hw3 hw2 hw1
  have HW := Lib.hid hw
  have HDl := Lib.hid hDl
  have H0 := Lib.hid (And.intro d0 (And.intro d1 d31))
  clear hw hp hal hd hDl d0 d1 d31 b1 b2 b3 b13 b23 n1 m2 m3 n3 hs1 hs2 hs3 hT
  go_enter Tryd.func25, Tryd.ntmps25
  go_wp2_with fail
  refine HW.out.mono ?_
  rintro e w5 ⟨rfl, hb5⟩
  have hn2 := nu_trans n4 hb5
  have HZ := Lib.hid (Blk.made w5 25 z32)
  have Hl := Lib.hid (show (D.map vb).length = z32.size by rw [List.length_map, HDl.out]; rfl)
  have Hl2 := Lib.hid (show (Tryd.prog.info? 25).map (·.size) = some (D.map vb).length by rw [List.length_map, HDl.out]; kernel_rfl)
  have HF := Lib.hid (Blk.fill HZ.out (D.map vb) Hl.out)
  have Hnf := Lib.hid (nu_trans hn2 (nu_fill (D.map vb) (g := w5.heap.size) (Nat.le_refl _) 0 _ (nu_alloc (nu_refl w5) (.cells z32 25))))
  clear HW n4 hb5 hn2
  go_upto_region 2 with (refine wpList_store_blk rfl 25 (.tmp 1) (.tmp 9) rfl w5.heap.size (D.map vb) rfl rfl 25 z32 HZ.out Hl.out Hl2.out (vb_one _) ?_)
  generalize (w5.alloc (.cells z32 25)).setCells w5.heap.size 0 (D.map vb) = w6 at *
  have c0 : w6.cell? ⟨w5.heap.size, 0, none⟩ = some (.int .u8 91) := HF.out.at 0 _ (arr_at D 0 _ H0.out.1)
  have c1 : w6.cell? ⟨w5.heap.size, 1, none⟩ = some (.int .u8 220) := HF.out.at 1 _ (arr_at D 1 _ H0.out.2.1)
  have c31 : w6.cell? ⟨w5.heap.size, 31, none⟩ = some (.int .u8 67) := HF.out.at 31 _ (arr_at D 31 _ H0.out.2.2)
  clear HZ
  go_wp2_with fail
  go_ret
  exact ⟨rfl, Hnf.out⟩
end Go.Proofs.YtlekepigndlbhaaDoor
