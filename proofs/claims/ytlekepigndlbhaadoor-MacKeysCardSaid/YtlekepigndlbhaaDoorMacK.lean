/-
  The walks of mac.Key and of the document's Key.
-/
import Derived.Test.YtlekepigndlbhaaDoorMacQ
import Derived.Test.YtlekepigndlbhaaDoorMacA
import Derived.Test.YtlekepigndlbhaaDoorPut
namespace Go.Proofs.YtlekepigndlbhaaDoor
open Go.ChangeShapes Go.WideShapes Go.ChangeAt Go.RowKit

def keyText (m n : Nat) : List Nat := [116, 104, 105, 109, 98, 108, 101, m / 16777216 % 256, m / 65536 % 256, m / 256 % 256, m % 256, n]
theorem keyText_parts (m n : Nat) : [[116, 104, 105, 109, 98, 108, 101], beL m 4 4, [n]].flatten = keyText m n := by
  simp [keyText, beL, List.range_succ]
theorem keyText_cells (m n : Nat) (hm : m < 4294967296) : (#[.int .u8 116, .int .u8 104, .int .u8 105, .int .u8 109, .int .u8 98, .int .u8 108, .int .u8 101, .int .u8 ((m : Int) / 16777216), .int .u8 ((m : Int) / 65536 % 256), .int .u8 ((m : Int) / 256 % 256), .int .u8 ((m : Int) % 256), .int .u8 (n : Int)] : Array Value) = ((keyText m n).map vb).toArray := by
  have e : m / 16777216 % 256 = m / 16777216 := Nat.mod_eq_of_lt (by omega)
  unfold keyText
  rw [e]
  rfl
theorem keyText_len (m n : Nat) : (keyText m n).length = 12 := rfl
theorem PartsIn.three {w : World} {a b c : Option Addr} {la ca lb cb lc cc : Nat} {xs ys zs : List Nat} (h : BytesIn w a la ca xs) (k : BytesIn w b lb cb ys) (l : BytesIn w c lc cc zs) (h1 : la ≤ ca) (h2 : ca ≤ maxLen) (h3 : lb ≤ cb) (h4 : cb ≤ maxLen) (h5 : lc ≤ cc) (h6 : cc ≤ maxLen) :
    PartsIn (w.alloc (.cells #[.slice a la ca, .slice b lb cb, .slice c lc cc] 22)) (some ⟨w.heap.size, 0, none⟩) 3 [xs, ys, zs] := by
  refine ⟨rfl, fun _ => ⟨w.heap.size, 0, rfl, by simp, fun i p hi => ?_⟩⟩
  have hi2 : i < 3 := (List.getElem?_eq_some_iff.1 hi).1
  have hB := Blk.made w 22 #[.slice a la ca, .slice b lb cb, .slice c lc cc]
  rcases (show i = 0 ∨ i = 1 ∨ i = 2 by omega) with rfl | rfl | rfl
  · simp at hi
    subst hi
    exact ⟨a, la, ca, hB.at 0 _ rfl, h1, h2, h.keep (nu_alloc (nu_refl w) _)⟩
  · simp at hi
    subst hi
    exact ⟨b, lb, cb, hB.at 1 _ rfl, h3, h4, k.keep (nu_alloc (nu_refl w) _)⟩
  · simp at hi
    subst hi
    exact ⟨c, lc, cc, hB.at 2 _ rfl, h5, h6, l.keep (nu_alloc (nu_refl w) _)⟩
theorem own_made (w : World) (base : Nat) (hb : base ≤ w.heap.size) : OwnB (w.alloc (.cells #[] 5)) base 5 (.slice (some ⟨w.heap.size, 0, none⟩) 0 0) [] :=
  ⟨World.ownsRow_made (base := base) (e := 5) (size := 1) w #[] 0 hb (by unfold maxLen; omega) (by simp), fun x hx => by cases hx⟩
def keySize (wide : Bool) : Nat := if wide then 32 else 16

set_option maxRecDepth 100000 in
set_option maxHeartbeats 2000000 in
theorem macKey_any (a : Option Addr) (len cap : Nat) (master : List Nat) (m : Nat) (wide : Bool) (w : World) (hx : BytesIn w a len cap master) (hl : len ≤ cap ∧ cap ≤ maxLen ∧ len < 1152921504606846976) (hm : m < 4294967296) (hT : TabIn w) :
    Calls Tryd.prog 32 #[.slice a len cap, .int .u32 m, .bool wide] w fun e w' => ∃ v, e = .returned v ∧ OwnB w' w.heap.size 5 v ((hmac master (keyText m (keySize wide))).take (keySize wide)) ∧ Below w.heap.size w w' := by
  have HT := Lib.hid hT
  have Hx := Lib.hid hx
  have Hl := Lib.hid hl
  have wm : IntKind.u64.wrap (m : Int) = (m : Int) := by rw [IntKind.wrap_u64]; omega
  clear hT hx hl
  obtain ⟨D, hD⟩ : ∃ D, hmac master (keyText m (keySize wide)) = D := ⟨_, rfl⟩
  have HD := Lib.hid hD
  have HDl := Lib.hid (show D.length = 32 by rw [← hD, hmac_len])
  have HDx := Lib.hid (show ∀ x ∈ D, x < 256 by rw [← hD]; exact hmac_lt _ _)
  have HDe := Lib.hid (show (hmac master (keyText m (keySize wide))).take (keySize wide) = D.take (keySize wide) by rw [hD])
  clear hD
  cases wide
  · go_enter Tryd.func32, Tryd.ntmps32
    go_wp2_with fail
    refine (put_at none 0 0 [] m 4 (m : Int) 4 w (BytesIn.nil_ w) (by omega) (by unfold putOk; omega) (by omega) rfl rfl).mono ?_
    rintro e w1 ⟨v1, rfl, hO1, hn1⟩
    rw [List.nil_append] at hO1
    obtain ⟨a1, c1, rfl, hlc1, hcm1, hby1⟩ := hO1.reads
    rw [beL_length] at hlc1 hby1 ⊢
    obtain ⟨wa, hwa⟩ : ∃ x, x = w1.alloc (.cells #[.int .u8 116, .int .u8 104, .int .u8 105, .int .u8 109, .int .u8 98, .int .u8 108, .int .u8 101] 5 (7, 8)) := ⟨_, rfl⟩
    have hsa : wa.heap.size = w1.heap.size + 1 := by rw [hwa, alloc_size]
    obtain ⟨wb, hwb⟩ : ∃ x, x = wa.alloc (.cells #[.int .u8 16] 5) := ⟨_, rfl⟩
    have hsb : wb.heap.size = w1.heap.size + 1 + 1 := by rw [hwb, alloc_size, hsa]
    have na : Below w1.heap.size w1 wa := by rw [hwa]; exact nu_alloc (nu_refl w1) _
    have nb : Below wa.heap.size wa wb := by rw [hwb]; exact nu_alloc (nu_refl wa) _
    have b1 : BytesIn wa (some ⟨w1.heap.size, 0, none⟩) 7 7 [116, 104, 105, 109, 98, 108, 101] := by rw [hwa]; exact bytes_mark w1 _ (by decide) _ rfl (7, 8)
    have b2 : BytesIn wb (some ⟨w1.heap.size + 1, 0, none⟩) 1 1 [16] := by rw [hwb, ← hsa]; exact bytes_made wa [16] (by decide) _ rfl
    have hp := PartsIn.three (b1.keep nb) (hby1.keep (nu_trans na nb)) b2 (by omega) (by unfold maxLen; omega) hlc1 hcm1 (by omega) (by unfold maxLen; omega)
    have hal := nu_alloc (nu_refl wb) (.cells #[.slice (some ⟨w1.heap.size, 0, none⟩) 7 7, .slice a1 4 c1, .slice (some ⟨w1.heap.size + 1, 0, none⟩) 1 1] 22)
    have nab := nu_trans na (nu_trans nb hal)
    have n1 := nu_trans hn1 nab
    have hw := macOf_is (pcap := 3) (show hmac master [[116, 104, 105, 109, 98, 108, 101], beL m 4 4, [16]].flatten = D by rw [keyText_parts]; exact HD.out) (Hx.out.keep n1) Hl.out hp ⟨by unfold maxLen; omega, by rw [keyText_parts, keyText_len]; omega⟩ (HT.out.below n1 HT.out.size)
    rw [hsb] at hw
    have kc1 := Lib.run_convert_bytes_const (P := Tryd.prog) w1 22 5 #[.int .u8 116, .int .u8 104, .int .u8 105, .int .u8 109, .int .u8 98, .int .u8 108, .int .u8 101] 7 7 Tryd.underlying22 Tryd.underlying5
    simp only [List.size_toArray, List.length_cons, List.length_nil, Nat.zero_add, Nat.reduceAdd] at kc1
    subst hwb hwa
    have HW := Lib.hid hw
    clear hw hp hal nab na nb b1 b2 hsa hsb hO1 hby1 hlc1 hcm1 hn1
    go_wp2_with fail
    refine HW.out.mono ?_
    rintro e w2 ⟨rfl, hb2⟩
    have hn2 := nu_trans n1 hb2
    have HZ := Lib.hid (Blk.made w2 25 z32)
    have Hl2 := Lib.hid (show (D.map vb).length = z32.size by rw [List.length_map, HDl.out]; rfl)
    have Hsz := Lib.hid (show (Tryd.prog.info? 25).map (·.size) = some (D.map vb).length by rw [List.length_map, HDl.out]; kernel_rfl)
    have H1 := Lib.hid (vb_one D)
    have HF := Lib.hid (Blk.fill HZ.out (D.map vb) Hl2.out)
    have hn3 := nu_trans hn2 (nu_fill (D.map vb) (g := w2.heap.size) (Nat.le_refl _) 0 _ (nu_alloc (nu_refl w2) (.cells z32 25)))
    clear HW hb2 hn2 n1 kc1
    go_upto_region 6 with (refine wpList_store_blk rfl 25 (.tmp 10) (.tmp 26) rfl w2.heap.size (D.map vb) rfl rfl 25 z32 HZ.out Hl2.out Hsz.out H1.out ?_)
    generalize (w2.alloc (.cells z32 25)).setCells w2.heap.size 0 (D.map vb) = w3 at *
    generalize w2.heap.size = d at *
    have hal3 := nu_alloc (nu_refl w3) (.cells #[] 5)
    have HO := Lib.hid (own_made w3 w.heap.size hn3.size)
    have HB := Lib.hid (((bytes_blk (show Blk w3 d 25 (D.map vb).toArray from HF.out) HDl.out HDx.out).keep hal3).first (n := 16) (by omega))
    have hn4 := hn3.trans (hal3.mono hn3.size)
    have Hs4 := Lib.hid hn4.size
    clear HF HZ hal3
    go_wp2_with (at_builtin; refine wpList_append_bytes rfl (.tmp 27) (.tmp 29) rfl HO.out Hs4.out HB.out (by simp) rfl rfl ?_)
    intro v5 w5 hO5 hb5
    have HO5 := Lib.hid (show OwnB w5 w.heap.size 5 v5 (D.take 16) from hO5)
    have hn5 := hn4.trans hb5
    clear hO5 hb5 HO HB hn4
    go_wp2_with fail
    go_ret
    exact ⟨_, rfl, by rw [HDe.out]; exact HO5.out, hn5⟩
  · go_enter Tryd.func32, Tryd.ntmps32
    go_wp2_with fail
    refine (put_at none 0 0 [] m 4 (m : Int) 4 w (BytesIn.nil_ w) (by omega) (by unfold putOk; omega) (by omega) rfl rfl).mono ?_
    rintro e w1 ⟨v1, rfl, hO1, hn1⟩
    rw [List.nil_append] at hO1
    obtain ⟨a1, c1, rfl, hlc1, hcm1, hby1⟩ := hO1.reads
    rw [beL_length] at hlc1 hby1 ⊢
    obtain ⟨wa, hwa⟩ : ∃ x, x = w1.alloc (.cells #[.int .u8 116, .int .u8 104, .int .u8 105, .int .u8 109, .int .u8 98, .int .u8 108, .int .u8 101] 5 (7, 8)) := ⟨_, rfl⟩
    have hsa : wa.heap.size = w1.heap.size + 1 := by rw [hwa, alloc_size]
    obtain ⟨wb, hwb⟩ : ∃ x, x = wa.alloc (.cells #[.int .u8 32] 5) := ⟨_, rfl⟩
    have hsb : wb.heap.size = w1.heap.size + 1 + 1 := by rw [hwb, alloc_size, hsa]
    have na : Below w1.heap.size w1 wa := by rw [hwa]; exact nu_alloc (nu_refl w1) _
    have nb : Below wa.heap.size wa wb := by rw [hwb]; exact nu_alloc (nu_refl wa) _
    have b1 : BytesIn wa (some ⟨w1.heap.size, 0, none⟩) 7 7 [116, 104, 105, 109, 98, 108, 101] := by rw [hwa]; exact bytes_mark w1 _ (by decide) _ rfl (7, 8)
    have b2 : BytesIn wb (some ⟨w1.heap.size + 1, 0, none⟩) 1 1 [32] := by rw [hwb, ← hsa]; exact bytes_made wa [32] (by decide) _ rfl
    have hp := PartsIn.three (b1.keep nb) (hby1.keep (nu_trans na nb)) b2 (by omega) (by unfold maxLen; omega) hlc1 hcm1 (by omega) (by unfold maxLen; omega)
    have hal := nu_alloc (nu_refl wb) (.cells #[.slice (some ⟨w1.heap.size, 0, none⟩) 7 7, .slice a1 4 c1, .slice (some ⟨w1.heap.size + 1, 0, none⟩) 1 1] 22)
    have nab := nu_trans na (nu_trans nb hal)
    have n1 := nu_trans hn1 nab
    have hw := macOf_is (pcap := 3) (show hmac master [[116, 104, 105, 109, 98, 108, 101], beL m 4 4, [32]].flatten = D by rw [keyText_parts]; exact HD.out) (Hx.out.keep n1) Hl.out hp ⟨by unfold maxLen; omega, by rw [keyText_parts, keyText_len]; omega⟩ (HT.out.below n1 HT.out.size)
    rw [hsb] at hw
    have kc1 := Lib.run_convert_bytes_const (P := Tryd.prog) w1 22 5 #[.int .u8 116, .int .u8 104, .int .u8 105, .int .u8 109, .int .u8 98, .int .u8 108, .int .u8 101] 7 7 Tryd.underlying22 Tryd.underlying5
    simp only [List.size_toArray, List.length_cons, List.length_nil, Nat.zero_add, Nat.reduceAdd] at kc1
    subst hwb hwa
    have HW := Lib.hid hw
    clear hw hp hal nab na nb b1 b2 hsa hsb hO1 hby1 hlc1 hcm1 hn1
    go_wp2_with fail
    refine HW.out.mono ?_
    rintro e w2 ⟨rfl, hb2⟩
    have hn2 := nu_trans n1 hb2
    have HZ := Lib.hid (Blk.made w2 25 z32)
    have Hl2 := Lib.hid (show (D.map vb).length = z32.size by rw [List.length_map, HDl.out]; rfl)
    have Hsz := Lib.hid (show (Tryd.prog.info? 25).map (·.size) = some (D.map vb).length by rw [List.length_map, HDl.out]; kernel_rfl)
    have H1 := Lib.hid (vb_one D)
    have HF := Lib.hid (Blk.fill HZ.out (D.map vb) Hl2.out)
    have hn3 := nu_trans hn2 (nu_fill (D.map vb) (g := w2.heap.size) (Nat.le_refl _) 0 _ (nu_alloc (nu_refl w2) (.cells z32 25)))
    clear HW hb2 hn2 n1 kc1
    go_upto_region 6 with (refine wpList_store_blk rfl 25 (.tmp 10) (.tmp 26) rfl w2.heap.size (D.map vb) rfl rfl 25 z32 HZ.out Hl2.out Hsz.out H1.out ?_)
    generalize (w2.alloc (.cells z32 25)).setCells w2.heap.size 0 (D.map vb) = w3 at *
    generalize w2.heap.size = d at *
    have hal3 := nu_alloc (nu_refl w3) (.cells #[] 5)
    have HO := Lib.hid (own_made w3 w.heap.size hn3.size)
    have HB := Lib.hid (((bytes_blk (show Blk w3 d 25 (D.map vb).toArray from HF.out) HDl.out HDx.out).keep hal3).first (n := 32) (by omega))
    have hn4 := hn3.trans (hal3.mono hn3.size)
    have Hs4 := Lib.hid hn4.size
    clear HF HZ hal3
    go_wp2_with (at_builtin; refine wpList_append_bytes rfl (.tmp 27) (.tmp 29) rfl HO.out Hs4.out HB.out (by simp) rfl rfl ?_)
    intro v5 w5 hO5 hb5
    have HO5 := Lib.hid (show OwnB w5 w.heap.size 5 v5 (D.take 32) from hO5)
    have hn5 := hn4.trans hb5
    clear hO5 hb5 HO HB hn4
    go_wp2_with fail
    go_ret
    exact ⟨_, rfl, by rw [HDe.out]; exact HO5.out, hn5⟩

set_option maxRecDepth 100000 in
set_option maxHeartbeats 2000000 in
theorem refKey_any (a : Option Addr) (len cap : Nat) (master : List Nat) (m : Nat) (wide : Bool) (w : World) (hx : BytesIn w a len cap master) (hl : len ≤ 1000000) (hm : m < 4294967296) :
    Calls Tryd.prog 33 #[.slice a len cap, .int .u32 m, .bool wide] w fun e w' => ∃ v, e = .returned v ∧ OwnB w' w.heap.size 5 v ((hmac master (keyText m (keySize wide))).take (keySize wide)) ∧ Below w.heap.size w w' := by
  have Hx := Lib.hid hx
  have HK16 := Lib.hid (show ∀ x ∈ keyText m 16, x < 256 by simp [keyText]; omega)
  have HK32 := Lib.hid (show ∀ x ∈ keyText m 32, x < 256 by simp [keyText]; omega)
  clear hx
  obtain ⟨D, hD⟩ : ∃ D, hmac master (keyText m (keySize wide)) = D := ⟨_, rfl⟩
  have HD := Lib.hid hD
  have HDl := Lib.hid (show D.length = 32 by rw [← hD, hmac_len])
  have HDx := Lib.hid (show ∀ x ∈ D, x < 256 by rw [← hD]; exact hmac_lt _ _)
  have HDe := Lib.hid (show (hmac master (keyText m (keySize wide))).take (keySize wide) = D.take (keySize wide) by rw [hD])
  clear hD
  cases wide
  · have b1 : BytesIn (w.alloc (.cells #[.int .u8 116, .int .u8 104, .int .u8 105, .int .u8 109, .int .u8 98, .int .u8 108, .int .u8 101, .int .u8 ((m : Int) / 16777216), .int .u8 ((m : Int) / 65536 % 256), .int .u8 ((m : Int) / 256 % 256), .int .u8 ((m : Int) % 256), .int .u8 16] 5)) (some ⟨w.heap.size, 0, none⟩) 12 12 (keyText m 16) := bytes_made w (keyText m 16) HK16.out #[.int .u8 116, .int .u8 104, .int .u8 105, .int .u8 109, .int .u8 98, .int .u8 108, .int .u8 101, .int .u8 ((m : Int) / 16777216), .int .u8 ((m : Int) / 65536 % 256), .int .u8 ((m : Int) / 256 % 256), .int .u8 ((m : Int) % 256), .int .u8 16] (keyText_cells m 16 hm)
    have hal := nu_alloc (nu_refl w) (.cells #[.int .u8 116, .int .u8 104, .int .u8 105, .int .u8 109, .int .u8 98, .int .u8 108, .int .u8 101, .int .u8 ((m : Int) / 16777216), .int .u8 ((m : Int) / 65536 % 256), .int .u8 ((m : Int) / 256 % 256), .int .u8 ((m : Int) % 256), .int .u8 16] 5)
    have HW := Lib.hid (ref4Of_is (show hmac master (keyText m 16) = D from HD.out) (Hx.out.keep hal) b1 hl (by omega))
    have Hal := Lib.hid hal
    clear b1 hal
    go_enter Tryd.func33, Tryd.ntmps33
    go_wp2_with fail
    refine HW.out.mono ?_
    rintro e w2 ⟨rfl, hb2⟩
    have hn2 := nu_trans Hal.out hb2
    have HZ := Lib.hid (Blk.made w2 25 z32)
    have Hl2 := Lib.hid (show (D.map vb).length = z32.size by rw [List.length_map, HDl.out]; rfl)
    have Hsz := Lib.hid (show (Tryd.prog.info? 25).map (·.size) = some (D.map vb).length by rw [List.length_map, HDl.out]; kernel_rfl)
    have H1 := Lib.hid (vb_one D)
    have HF := Lib.hid (Blk.fill HZ.out (D.map vb) Hl2.out)
    have hn3 := nu_trans hn2 (nu_fill (D.map vb) (g := w2.heap.size) (Nat.le_refl _) 0 _ (nu_alloc (nu_refl w2) (.cells z32 25)))
    clear HW hb2 hn2 Hal
    go_upto_region 6 with (refine wpList_store_blk rfl 25 (.tmp 9) (.tmp 27) rfl w2.heap.size (D.map vb) rfl rfl 25 z32 HZ.out Hl2.out Hsz.out H1.out ?_)
    generalize (w2.alloc (.cells z32 25)).setCells w2.heap.size 0 (D.map vb) = w3 at *
    generalize w2.heap.size = d at *
    have HC := Lib.hid (copy_any (some ⟨d, 0, none⟩) 16 32 (D.take 16) w3 ((bytes_blk (show Blk w3 d 25 (D.map vb).toArray from HF.out) HDl.out HDx.out).first (n := 16) (by omega)) (by omega))
    go_wp2_with fail
    refine HC.out.mono ?_
    rintro e w4 ⟨v4, rfl, hO4, hb4⟩
    have HO4 := Lib.hid (own_mono hO4 hn3.size)
    have hn4 := nu_trans hn3 hb4
    clear hO4 hb4
    go_wp2_with fail
    go_ret
    exact ⟨_, rfl, by rw [HDe.out]; exact HO4.out, hn4⟩
  · have b1 : BytesIn (w.alloc (.cells #[.int .u8 116, .int .u8 104, .int .u8 105, .int .u8 109, .int .u8 98, .int .u8 108, .int .u8 101, .int .u8 ((m : Int) / 16777216), .int .u8 ((m : Int) / 65536 % 256), .int .u8 ((m : Int) / 256 % 256), .int .u8 ((m : Int) % 256), .int .u8 32] 5)) (some ⟨w.heap.size, 0, none⟩) 12 12 (keyText m 32) := bytes_made w (keyText m 32) HK32.out #[.int .u8 116, .int .u8 104, .int .u8 105, .int .u8 109, .int .u8 98, .int .u8 108, .int .u8 101, .int .u8 ((m : Int) / 16777216), .int .u8 ((m : Int) / 65536 % 256), .int .u8 ((m : Int) / 256 % 256), .int .u8 ((m : Int) % 256), .int .u8 32] (keyText_cells m 32 hm)
    have hal := nu_alloc (nu_refl w) (.cells #[.int .u8 116, .int .u8 104, .int .u8 105, .int .u8 109, .int .u8 98, .int .u8 108, .int .u8 101, .int .u8 ((m : Int) / 16777216), .int .u8 ((m : Int) / 65536 % 256), .int .u8 ((m : Int) / 256 % 256), .int .u8 ((m : Int) % 256), .int .u8 32] 5)
    have HW := Lib.hid (ref4Of_is (show hmac master (keyText m 32) = D from HD.out) (Hx.out.keep hal) b1 hl (by omega))
    have Hal := Lib.hid hal
    clear b1 hal
    go_enter Tryd.func33, Tryd.ntmps33
    go_wp2_with fail
    refine HW.out.mono ?_
    rintro e w2 ⟨rfl, hb2⟩
    have hn2 := nu_trans Hal.out hb2
    have HZ := Lib.hid (Blk.made w2 25 z32)
    have Hl2 := Lib.hid (show (D.map vb).length = z32.size by rw [List.length_map, HDl.out]; rfl)
    have Hsz := Lib.hid (show (Tryd.prog.info? 25).map (·.size) = some (D.map vb).length by rw [List.length_map, HDl.out]; kernel_rfl)
    have H1 := Lib.hid (vb_one D)
    have HF := Lib.hid (Blk.fill HZ.out (D.map vb) Hl2.out)
    have hn3 := nu_trans hn2 (nu_fill (D.map vb) (g := w2.heap.size) (Nat.le_refl _) 0 _ (nu_alloc (nu_refl w2) (.cells z32 25)))
    clear HW hb2 hn2 Hal
    go_upto_region 6 with (refine wpList_store_blk rfl 25 (.tmp 9) (.tmp 27) rfl w2.heap.size (D.map vb) rfl rfl 25 z32 HZ.out Hl2.out Hsz.out H1.out ?_)
    generalize (w2.alloc (.cells z32 25)).setCells w2.heap.size 0 (D.map vb) = w3 at *
    generalize w2.heap.size = d at *
    have HC := Lib.hid (copy_any (some ⟨d, 0, none⟩) 32 32 (D.take 32) w3 ((bytes_blk (show Blk w3 d 25 (D.map vb).toArray from HF.out) HDl.out HDx.out).first (n := 32) (by omega)) (by omega))
    go_wp2_with fail
    refine HC.out.mono ?_
    rintro e w4 ⟨v4, rfl, hO4, hb4⟩
    have HO4 := Lib.hid (own_mono hO4 hn3.size)
    have hn4 := nu_trans hn3 hb4
    clear hO4 hb4
    go_wp2_with fail
    go_ret
    exact ⟨_, rfl, by rw [HDe.out]; exact HO4.out, hn4⟩
end Go.Proofs.YtlekepigndlbhaaDoor
