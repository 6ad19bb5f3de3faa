/-
  The walk of ghash's bytes.
-/
import Derived.Test.YtnojbjconiddoaaGh4
import Derived.Test.YtnojbjconiddoaaRun
import Derived.Deep.DeepCutAuto
namespace Go.Proofs.Ytnojbjconiddoaa
open Go.ChangeShapes Go.WideShapes Go.ChangeAt Go.RowKit

abbrev z16 : Array Value := #[.int .u8 0, .int .u8 0, .int .u8 0, .int .u8 0, .int .u8 0, .int .u8 0, .int .u8 0, .int .u8 0, .int .u8 0, .int .u8 0, .int .u8 0, .int .u8 0, .int .u8 0, .int .u8 0, .int .u8 0, .int .u8 0]
set_option maxRecDepth 100000 in
set_option maxHeartbeats 1000000 in
theorem gh_bytes (p : Nat) (w : World) :
    Calls Try.prog 36 #[.agg (halfL p).toArray] w fun e w' => e = .returned (.agg ((bytB p).map vb).toArray) ∧ Below w.heap.size w w' := by
  obtain ⟨h, hh⟩ : ∃ h, h = Gh.hi p := ⟨_, rfl⟩
  obtain ⟨l, hl⟩ : ∃ l, l = Gh.lo p := ⟨_, rfl⟩
  have hh8 : h < 18446744073709551616 := by rw [hh]; exact Gh.hi_lt p
  have hl8 : l < 18446744073709551616 := by rw [hl]; exact Gh.lo_lt p
  have e0 : (halfL p).toArray = #[.int .u64 (h : Int), .int .u64 (l : Int)] := by unfold halfL; rw [← hh, ← hl]
  rw [e0]
  have HX := Lib.hid (show bytB p = beL h 8 8 ++ beL l 8 8 by unfold bytB; rw [hh, hl])
  have hal := nu_alloc (nu_alloc (nu_refl w) (.cells #[.int .u64 (h : Int), .int .u64 (l : Int)] 58)) (.cells z16 22)
  have HP := Lib.hid ((Blk.made w 58 #[.int .u64 (h : Int), .int .u64 (l : Int)]).alloc (.cells z16 22))
  have HO := Lib.hid (Blk.made1 w (.cells #[.int .u64 (h : Int), .int .u64 (l : Int)] 58) 22 z16)
  have Hal := Lib.hid hal
  have Hxl := Lib.hid (bytB_len p)
  have Hxx := Lib.hid (bytB_lt p)
  clear e0 hh hl hal
  obtain ⟨xs, hxs⟩ : ∃ xs, xs = bytB p := ⟨_, rfl⟩
  rw [← hxs] at HX Hxl Hxx
  have Hxs := Lib.hid hxs
  clear hxs
  go_enter Try.func36, Try.ntmps36
  go_upto_region 1 with fail
  generalize (w.alloc (.cells #[.int .u64 (h : Int), .int .u64 (l : Int)] 58)).alloc (.cells z16 22) = w1 at *
  have c0 : w1.cell? ⟨w.heap.size, 0, none⟩ = some (.int .u64 (h : Int)) := HP.out.at 0 _ rfl
  go_wp2_with fail
  refine (put_at none 0 0 [] h 8 (h : Int) 8 w1 (BytesIn.nil_ w1) (by omega) (by unfold putOk; omega) hh8 rfl rfl).mono ?_
  rintro e w2 ⟨v2, rfl, hO2, hb2⟩
  rw [List.nil_append] at hO2
  have hn2 := nu_trans Hal.out hb2
  obtain ⟨a2, k2, rfl, _, _, hby2⟩ := hO2.reads
  rw [beL_length] at hby2 ⊢
  have HO2 := Lib.hid (Blk.below HO.out hb2 (Blk.lt HO.out))
  have c1 : w2.cell? ⟨w.heap.size, 1, none⟩ = some (.int .u64 (l : Int)) := (Blk.below HP.out hb2 (Blk.lt HP.out)).at 1 _ rfl
  have Hs1 := Lib.hid (show w.heap.size + 1 < w1.heap.size from Blk.lt HO.out)
  clear c0 HO HP Hal
  go_wp2_with fail
  refine (put_at a2 8 k2 (beL h 8 8) l 8 (l : Int) 8 w2 hby2 (by omega) (by unfold putOk; omega) hl8 rfl rfl).mono ?_
  rintro e w3 ⟨v3, rfl, hO3, hb3⟩
  rw [← HX.out] at hO3
  have hn3 := nu_trans hn2 hb3
  have HO3 := Lib.hid (Blk.below HO2.out hb3 (Blk.lt HO2.out))
  obtain ⟨B, k3, cur, rfl, hBw, hB, hk3, _, hcs, htk⟩ := hO3.form (by rw [Hxl.out]; omega)
  rw [Hxl.out] at htk hk3 ⊢
  have HB := Lib.hid hB
  have Hr := Lib.hid (show w3.rangeAt B 0 (xs.map vb) from range_mid hB (l := []) (r := cur.toList.drop 16) (by rw [← htk]; exact (List.take_append_drop 16 cur.toList).symm) rfl)
  clear hO3 hO2 hby2 c1 HO2 hb2 hb3 hn2 hB
  have hAr : ∀ W, (Instr.arrayAt 22 (.slice (some ⟨B, 0, none⟩) 16 k3)).run Try.prog W = .ok (.pointer (some ⟨B, 0, none⟩)) W := fun _ => by kernel_rfl
  have HLd := Lib.hid (fun (o : Oper) (a : Act) (x : Operand) (ho : o.op = .load 22 x) (hx : a.eval x = .pointer (some ⟨B, 0, none⟩)) =>
    exec_load_mid (P := Try.prog) (o := o) (a := a) (w := w3) 22 x B 0 (xs.map vb) (.array 16 5) ho hx Hr.out (by kernel_rfl) rfl (by rw [List.length_map, Hxl.out]; kernel_rfl))
  have Hl := Lib.hid (show (xs.map vb).length = z16.size by rw [List.length_map, Hxl.out]; rfl)
  have Hsz := Lib.hid (show (Try.prog.info? 22).map (·.size) = some (xs.map vb).toArray.size by rw [List.size_toArray, List.length_map, Hxl.out]; kernel_rfl)
  have HF := Lib.hid (Blk.fill HO3.out (xs.map vb) Hl.out)
  have Hnf := Lib.hid (nu_fill (xs.map vb) (g := w.heap.size + 1) (by omega) 0 _ hn3)
  have H1 := Lib.hid (vb_one xs)
  clear hn3 htk hcs hBw HB Hr
  generalize hD : xs.map vb = D at *
  have HD := Lib.hid hD
  clear hD
  go_wp2_with (first | (refine wpList_run _ rfl (HLd.out _ _ (.tmp 19) rfl rfl) ?_) | (refine wpList_store_blk rfl 22 (.tmp 2) (.tmp 20) rfl (w.heap.size + 1) D rfl rfl 22 z16 HO3.out Hl.out (by have h := Hsz.out; rwa [List.size_toArray] at h) H1.out ?_))
  refine bodyPost_ret (results_blk rfl _ (w.heap.size + 1) 22 D.toArray rfl HF.out Try.underlying22 Hsz.out) rfl ⟨by rw [← Hxs.out, HD.out], Hnf.out⟩
end Go.Proofs.Ytnojbjconiddoaa
