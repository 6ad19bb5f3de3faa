/-
  sha.Of; the example.
-/
import Derived.Test.YtlekepigndlbhaaDoorSha6
import Derived.Test.YtlekepigndlbhaaDoorSha7
import Derived.Lib.SlBytesConst
namespace Go.Proofs.YtlekepigndlbhaaDoor
open Go.ChangeShapes Go.WideShapes Go.ChangeAt Go.RowKit

/-- The slice (a, len) of slices of bytes. -/
def PartsIn (w : World) (a : Option Addr) (len : Nat) (ps : List (List Nat)) : Prop :=
  ps.length = len ∧ (0 < len → ∃ b off, a = some ⟨b, off, none⟩ ∧ b < w.heap.size ∧ ∀ i p, ps[i]? = some p → ∃ ai li ci, w.cell? ⟨b, off + i, none⟩ = some (.slice ai li ci) ∧ li ≤ ci ∧ ci ≤ maxLen ∧ BytesIn w ai li ci p)
theorem PartsIn.keep {w w' : World} {a : Option Addr} {len : Nat} {ps : List (List Nat)} (h : PartsIn w a len ps) (hb : Below w.heap.size w w') : PartsIn w' a len ps := by
  refine ⟨h.1, fun hp => ?_⟩
  obtain ⟨b, off, rfl, hlt, hc⟩ := h.2 hp
  refine ⟨b, off, rfl, Nat.lt_of_lt_of_le hlt hb.size, fun i p hi => ?_⟩
  obtain ⟨ai, li, ci, h1, h2, h3, h4⟩ := hc i p hi
  exact ⟨ai, li, ci, (hb.cell (p := ⟨b, off + i, none⟩) hlt).trans h1, h2, h3, h4.keep hb⟩
theorem bytes_block {w : World} {a : Option Addr} {len cap : Nat} {xs : List Nat} (h : BytesIn w a len cap xs) (hp : 0 < len) : ∀ ad, a = some ad → ad.block < w.heap.size := by
  obtain ⟨b, off, rfl, hlt, _⟩ := h.1.2.2 hp
  intro ad had
  injection had with had
  subst had
  exact hlt

set_option maxRecDepth 100000 in
set_option maxHeartbeats 2000000 in
theorem shaOf_any {w : World} {a : Option Addr} {len cap : Nat} {ps : List (List Nat)} (h : PartsIn w a len ps) (hT : TabIn w) (hm : len ≤ maxLen) (hlen : ps.flatten.length < 1152921504606846976) :
    Calls Tryd.prog 15 #[.slice a len cap] w fun e w' => e = .returned (.agg ((digest ps.flatten).map vb).toArray) ∧ Below w.heap.size w w' := by
  have hal := nu_alloc (nu_refl w) (.cells z32 25)
  have HR0 := Lib.hid (Blk.made w 25 z32)
  have HT0 := Lib.hid (hT.below hal hT.size)
  have HP := Lib.hid h
  have Hm := Lib.hid (And.intro hm hlen)
  have hm64 : len ≤ 9223372036854775807 := by unfold maxLen at hm; omega
  clear h hT hm hlen
  go_enter Tryd.func15, Tryd.ntmps15
  go_wp2_with fail
  generalize w.alloc (.cells z32 25) = w0 at *
  refine (new_any w0).mono ?_
  rintro e w1 ⟨rfl, hS1, hb1⟩
  have HR1 := Lib.hid (Blk.below HR0.out hb1 (Blk.lt HR0.out))
  have HT1 := Lib.hid (HT0.out.below hb1 HT0.out.size)
  have hn1 := nu_trans hal hb1
  have Hg := Lib.hid (show w.heap.size < w0.heap.size ∧ w0.heap.size < w1.heap.size from ⟨Blk.lt HR0.out, Blk.lt hS1.1⟩)
  clear hal hb1 HR0 HT0
  go_wp2_with fail
  generalize w0.heap.size = g at *
  go_loopw [9] (fun i wr => ∃ (k : Nat) (rv : Value), k ≤ len ∧ i = .int .i64 k ∧ SumIs wr (g + 1) g (ps.take k).flatten (ps.take k).flatten.length rv ∧ Blk wr w.heap.size 25 z32 ∧ TabIn wr ∧ Below w.heap.size w wr ∧ g < wr.heap.size) (fun i _ => len - (intOf i).toNat)
  case atStart => exact ⟨0, _, by omega, rfl, by simpa using hS1, HR1.out, HT1.out, hn1, Hg.out.2⟩
  case round =>
    clear hS1 HR1 HT1 hn1
    obtain ⟨k, rv, hk, rfl, hS, hR, hT, hn, hgr⟩ := hrel
    by_cases hlt : k < len
    · have hi : (k : Int) < (len : Int) := by omega
      obtain ⟨b, off, rfl, hbl, hcs⟩ := HP.out.2 (by omega)
      have hpk : ps[k]? = some (ps[k]'(by rw [HP.out.1]; exact hlt)) := List.getElem?_eq_getElem _
      generalize ps[k]'(by rw [HP.out.1]; exact hlt) = p at hpk
      obtain ⟨ai, li, ci, hc, hlc, hcm, hby⟩ := hcs k p hpk
      have c0 := (hn.cell (p := ⟨b, off + k, none⟩) hbl).trans hc
      have htk : (ps.take (k + 1)).flatten = (ps.take k).flatten ++ p := by rw [List.take_add_one, hpk, List.flatten_append]; simp
      have hle : (ps.take (k + 1)).flatten.length ≤ ps.flatten.length := by
        have h := congrArg List.length (congrArg List.flatten (List.take_append_drop (k + 1) ps))
        rw [List.flatten_append, List.length_append] at h
        omega
      have hpl : p.length = li := hby.1.1
      have hW := Lib.hid (write_any hS hT (by omega) (by omega) (by have := Hg.out.1; omega) ai li ci p (hby.keep hn) hlc hcm (by have h := Hm.out.2; rw [htk, List.length_append] at hle; omega) (fun hp ad had => by
        have h1 := bytes_block hby hp ad had
        have h2 := Hg.out.1
        refine ⟨by omega, fun e => ?_⟩
        have h3 := (own_low hS.2 _ e).1
        omega))
      have Hob := Lib.hid (fun j hj => (own_low hS.2 j hj).1)
      have Hk := Lib.hid htk
      have Hpl := Lib.hid hpl
      have HR := Lib.hid hR
      have HT := Lib.hid hT
      clear hcs hpk hc hby hS hR hT htk hle hpl
      go_wp2_with fail
      refine hW.out.mono ?_
      rintro e w2 ⟨rfl, rv2, hS2, ht2, _⟩
      have hg0 : g ≠ w.heap.size := by have := Hg.out.1; omega
      have hR2 : Blk w2 w.heap.size 25 z32 := ht2.blk HR.out (Ne.symm hg0) (fun e => by have h1 := Hob.out _ e; have h2 := Hg.out.1; omega)
      have hT2 : TabIn w2 := HT.out.turned ht2 (by have h2 := Hg.out.1; omega) (fun e => by have h1 := Hob.out _ e; omega)
      have hn2 : Below w.heap.size w w2 := hn.trans (ht2.below hn.size (by have := Hg.out.1; omega) (fun j hj => by have h1 := Hob.out j hj; have h2 := Hg.out.1; omega))
      rw [← Hk.out] at hS2
      have hl2 : (ps.take k).flatten.length + li = (ps.take (k + 1)).flatten.length := by rw [Hk.out, List.length_append, Hpl.out]
      rw [hl2] at hS2
      have Hall := Lib.hid (show SumIs w2 (g + 1) g (ps.take (k + 1)).flatten (ps.take (k + 1)).flatten.length rv2 ∧ Blk w2 w.heap.size 25 z32 ∧ TabIn w2 ∧ Below w.heap.size w w2 ∧ g < w2.heap.size from ⟨hS2, hR2, hT2, hn2, Nat.lt_of_lt_of_le hgr ht2.size⟩)
      clear hS2 hR2 hT2 hn2 ht2 hl2 hW c0
      go_wp2_with fail
      go_roundw
      case rel => exact ⟨k + 1, rv2, by omega, by go_num, Hall.out⟩
      case measure => simp [intOf]; omega
    · obtain rfl : k = len := by omega
      rw [List.take_of_length_le (by rw [HP.out.1]; exact Nat.le_refl _)] at hS
      have HW := Lib.hid (sum_any hS hT rfl Hm.out.2)
      have HR := Lib.hid hR
      clear hS hT hR hlt
      go_wp2_with fail
      refine HW.out.mono ?_
      rintro e w2 ⟨rfl, hb2⟩
      have HR2 := Lib.hid (Blk.below HR.out hb2 (Blk.lt HR.out))
      have hn2 : Below w.heap.size w w2 := hn.trans (hb2.mono hn.size)
      have Hl := Lib.hid (show ((digest ps.flatten).map vb).length = z32.size by rw [List.length_map, digest_len]; rfl)
      have HF := Lib.hid (Blk.fill HR2.out ((digest ps.flatten).map vb) Hl.out)
      have Hnf := Lib.hid (nu_fill ((digest ps.flatten).map vb) (g := w.heap.size) (Nat.le_refl _) 0 _ hn2)
      have Hsz := Lib.hid (show (Tryd.prog.info? 25).map (·.size) = some ((digest ps.flatten).map vb).toArray.size by rw [List.size_toArray, List.length_map, digest_len]; kernel_rfl)
      have H1 := Lib.hid (vb_one (digest ps.flatten))
      clear hn2 hb2 HW HR hn
      generalize hD : (digest ps.flatten).map vb = D at *
      have HD := Lib.hid hD
      clear hD
      go_wp2_with (refine wpList_store_blk rfl 25 (.tmp 2) (.tmp 18) rfl w.heap.size D rfl rfl 25 z32 HR2.out Hl.out (by have h := Hsz.out; rwa [List.size_toArray] at h) H1.out ?_)
      refine bodyPost_ret (results_blk rfl _ w.heap.size 25 D.toArray rfl HF.out Tryd.underlying25 Hsz.out) rfl ⟨by rw [HD.out], Hnf.out⟩

/-- One part. -/
theorem PartsIn.one {w : World} {a : Option Addr} {len cap : Nat} {xs : List Nat} (h : BytesIn w a len cap xs) (hlc : len ≤ cap) (hcm : cap ≤ maxLen) : PartsIn (w.alloc (.cells #[.slice a len cap] 22)) (some ⟨w.heap.size, 0, none⟩) 1 [xs] := by
  refine ⟨rfl, fun _ => ⟨w.heap.size, 0, rfl, by simp, fun i p hi => ?_⟩⟩
  have hi0 : i = 0 := by
    have := (List.getElem?_eq_some_iff.1 hi).1
    simp at this
    exact this
  subst hi0
  simp at hi
  subst hi
  exact ⟨a, len, cap, (Blk.made w 22 #[.slice a len cap]).at 0 _ rfl, hlc, hcm, h.keep (nu_alloc (nu_refl w) _)⟩
theorem bytes_made (w : World) (xs : List Nat) (hx : ∀ x ∈ xs, x < 256) (cs : Array Value) (hc : cs = (xs.map vb).toArray) : BytesIn (w.alloc (.cells cs 5)) (some ⟨w.heap.size, 0, none⟩) xs.length xs.length xs := by
  subst hc
  refine ⟨⟨rfl, fun y hy => wf_u8_of (hx y hy), fun _ => ⟨w.heap.size, 0, rfl, by simp, fun j n hn => ?_⟩⟩, fun e => by cases e⟩
  rw [Nat.zero_add]
  exact (Blk.made w 5 _).at j _ (arr_at xs j n hn)

theorem bytes_mark (w : World) (xs : List Nat) (hx : ∀ x ∈ xs, x < 256) (cs : Array Value) (hc : cs = (xs.map vb).toArray) (mk : Nat × Nat) : BytesIn (w.alloc (.cells cs 5 mk)) (some ⟨w.heap.size, 0, none⟩) xs.length xs.length xs := by
  subst hc
  refine ⟨⟨rfl, fun y hy => wf_u8_of (hx y hy), fun _ => ⟨w.heap.size, 0, rfl, by simp, fun j n hn => ?_⟩⟩, fun e => by cases e⟩
  rw [Nat.zero_add]
  exact (cell_of_row _ _ j _ _ mk (heap_alloc_new w _)).trans (arr_at xs j n hn)
theorem alloc_size (w : World) (o : Obj) : (w.alloc o).heap.size = w.heap.size + 1 := by simp
theorem abc_facts : ∃ D : List Nat, digest [[97, 98, 99]].flatten = D ∧ D.length = 32 ∧ D[0]? = some 186 ∧ D[1]? = some 120 ∧ D[2]? = some 22 ∧ D[3]? = some 191 :=
  ⟨_, dig_abc, rfl, rfl, rfl, rfl, rfl⟩
theorem abc_len : [[97, 98, 99]].flatten.length < 1152921504606846976 := by decide
set_option maxRecDepth 100000 in
set_option maxHeartbeats 1000000 in
theorem shaAwake_any {w : World} (hT : TabIn w) :
    Calls Tryd.prog 13 #[] w fun e w' => e = .returned (.bool true) ∧ Below w.heap.size w w' := by
  have hb : BytesIn _ (some ⟨w.heap.size, 0, none⟩) 3 3 [97, 98, 99] := bytes_mark w [97, 98, 99] (by decide) #[.int .u8 97, .int .u8 98, .int .u8 99] rfl (3, 4)
  have hal := nu_alloc (nu_refl w) (.cells #[.int .u8 97, .int .u8 98, .int .u8 99] 5 (3, 4))
  have kc := fun (w : World) (C : Array Value) (n c : Nat) => Lib.run_convert_bytes_const (P := Tryd.prog) w 22 5 C n c Tryd.underlying22 Tryd.underlying5
  have hp := PartsIn.one (cap := 3) hb (by omega) (by unfold maxLen; omega)
  have hal2 := nu_alloc hal (.cells #[.slice (some ⟨w.heap.size, 0, none⟩) 3 3] 22)
  have hT2 := hT.below hal2 hT.size
  obtain ⟨D, hd, hDl, d0, d1, d2, d3⟩ := abc_facts
  have hw := shaOf_any (cap := 1) hp hT2 (by unfold maxLen; omega) abc_len
  rw [hd, alloc_size] at hw
  have HW := Lib.hid hw
  have HDl := Lib.hid hDl
  have H0 := Lib.hid (And.intro d0 (And.intro d1 (And.intro d2 d3)))
  clear hb hp hal hT hw hd hT2 hDl d0 d1 d2 d3
  go_enter Tryd.func13, Tryd.ntmps13
  go_wp2_with fail
  refine HW.out.mono ?_
  rintro e w2 ⟨rfl, hb2⟩
  have hn2 := nu_trans hal2 hb2
  have HZ := Lib.hid (Blk.made w2 25 z32)
  have Hl := Lib.hid (show (D.map vb).length = z32.size by rw [List.length_map, HDl.out]; rfl)
  have Hl2 := Lib.hid (show (Tryd.prog.info? 25).map (·.size) = some (D.map vb).length by rw [List.length_map, HDl.out]; kernel_rfl)
  have HF := Lib.hid (Blk.fill HZ.out (D.map vb) Hl.out)
  have Hnf := Lib.hid (nu_trans hn2 (nu_fill (D.map vb) (g := w2.heap.size) (Nat.le_refl _) 0 _ (nu_alloc (nu_refl w2) (.cells z32 25))))
  clear HW hal2 hb2 hn2
  go_upto_region 2 with (refine wpList_store_blk rfl 25 (.tmp 1) (.tmp 5) rfl w2.heap.size (D.map vb) rfl rfl 25 z32 HZ.out Hl.out Hl2.out (vb_one _) ?_)
  generalize (w2.alloc (.cells z32 25)).setCells w2.heap.size 0 (D.map vb) = w3 at *
  have c0 : w3.cell? ⟨w2.heap.size, 0, none⟩ = some (.int .u8 186) := HF.out.at 0 _ (arr_at D 0 _ H0.out.1)
  have c1 : w3.cell? ⟨w2.heap.size, 1, none⟩ = some (.int .u8 120) := HF.out.at 1 _ (arr_at D 1 _ H0.out.2.1)
  have c2 : w3.cell? ⟨w2.heap.size, 2, none⟩ = some (.int .u8 22) := HF.out.at 2 _ (arr_at D 2 _ H0.out.2.2.1)
  have c3 : w3.cell? ⟨w2.heap.size, 3, none⟩ = some (.int .u8 191) := HF.out.at 3 _ (arr_at D 3 _ H0.out.2.2.2)
  clear HZ
  go_wp2_with fail
  go_ret
  exact ⟨rfl, Hnf.out⟩
end Go.Proofs.YtlekepigndlbhaaDoor
