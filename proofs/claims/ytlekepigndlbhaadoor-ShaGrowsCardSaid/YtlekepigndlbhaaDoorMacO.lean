/-
  The walk of mac.Of.
-/
import Derived.Test.YtlekepigndlbhaaDoorShaG
import Derived.Test.YtlekepigndlbhaaDoorMac1
import Derived.Test.YtlekepigndlbhaaDoorCopyB
import Derived.Laws.BitsAllLaws
import Derived.Deep.DeepCutAuto
namespace Go.Proofs.YtlekepigndlbhaaDoor
open Go.ChangeShapes Go.WideShapes Go.ChangeAt Go.RowKit

abbrev z64l : List Value := [.int .u8 0, .int .u8 0, .int .u8 0, .int .u8 0, .int .u8 0, .int .u8 0, .int .u8 0, .int .u8 0, .int .u8 0, .int .u8 0, .int .u8 0, .int .u8 0, .int .u8 0, .int .u8 0, .int .u8 0, .int .u8 0, .int .u8 0, .int .u8 0, .int .u8 0, .int .u8 0, .int .u8 0, .int .u8 0, .int .u8 0, .int .u8 0, .int .u8 0, .int .u8 0, .int .u8 0, .int .u8 0, .int .u8 0, .int .u8 0, .int .u8 0, .int .u8 0, .int .u8 0, .int .u8 0, .int .u8 0, .int .u8 0, .int .u8 0, .int .u8 0, .int .u8 0, .int .u8 0, .int .u8 0, .int .u8 0, .int .u8 0, .int .u8 0, .int .u8 0, .int .u8 0, .int .u8 0, .int .u8 0, .int .u8 0, .int .u8 0, .int .u8 0, .int .u8 0, .int .u8 0, .int .u8 0, .int .u8 0, .int .u8 0, .int .u8 0, .int .u8 0, .int .u8 0, .int .u8 0, .int .u8 0, .int .u8 0, .int .u8 0, .int .u8 0]
theorem splice_key (l : List Nat) (h : l.length ≤ 64) : (splice z64l 0 (l.map vb)) = (l ++ List.replicate (64 - l.length) 0).map vb := by
  have e : z64l = (List.replicate 64 0).map vb := rfl
  rw [splice, e, List.take_zero, List.nil_append, Nat.zero_add, List.length_map, ← List.map_drop, ← List.map_append, List.drop_replicate]
theorem bytes_blk {w : World} {g : Nat} {xs : List Nat} {t : TypeId} {n : Nat} (h : Blk w g t (xs.map vb).toArray) (hl : xs.length = n) (hx : ∀ x ∈ xs, x < 256) : BytesIn w (some ⟨g, 0, none⟩) n n xs :=
  ⟨⟨hl, fun y hy => wf_u8_of (hx y hy), fun _ => ⟨g, 0, rfl, Blk.lt h, fun j n hn => by
    rw [Nat.zero_add]
    exact h.at j _ (arr_at xs j n hn)⟩⟩, fun e => by cases e⟩

set_option maxRecDepth 100000 in
set_option maxHeartbeats 4000000 in
theorem macOf_any {w : World} {a pa : Option Addr} {len cap plen pcap : Nat} {key : List Nat} {ps : List (List Nat)} (hx : BytesIn w a len cap key) (hlc : len ≤ cap) (hcm : cap ≤ maxLen) (hlen : len < 1152921504606846976)
    (hP : PartsIn w pa plen ps) (hpm : plen ≤ maxLen) (hpl : ps.flatten.length + 64 < 1152921504606846976) (hT : TabIn w) :
    Calls Tryd.prog 26 #[.slice a len cap, .slice pa plen pcap] w fun e w' => e = .returned (.agg ((hmac key ps.flatten).map vb).toArray) ∧ Below w.heap.size w w' := by
  have hal := nu_alloc (nu_refl w) (.cells z32 25)
  have HR0 := Lib.hid (Blk.made w 25 z32)
  have HT0 := Lib.hid (hT.below hal hT.size)
  have Hkx := Lib.hid (fun x h => wf_u8_lt (hx.1.2.1 x h))
  have Hkl := Lib.hid hx.1.1
  have Hx0 := Lib.hid (hx.keep hal)
  have HP0 := Lib.hid (hP.keep hal)
  have Hlc := Lib.hid hlc
  have Hcm := Lib.hid hcm
  have Hpm := Lib.hid (And.intro hpm hpl)
  have hp64 : plen ≤ 9223372036854775807 := by unfold maxLen at hpm; omega
  clear hx hP hT hlc hcm hpm hpl
  go_enter Tryd.func26, Tryd.ntmps26
  go_upto_if 15 with fail
  have hR0 : w.heap.size < (w.alloc (.cells z32 25)).heap.size := by simp
  generalize w.alloc (.cells z32 25) = w0 at *
  go_cut [0] (fun s0 wx => ∃ a' l' c', s0 = .slice a' l' c' ∧ l' ≤ c' ∧ c' ≤ maxLen ∧ l' ≤ 64 ∧ BytesIn wx a' l' c' (hk key) ∧ Blk wx w.heap.size 25 z32 ∧ Below w0.heap.size w0 wx)
  case first =>
    by_cases hg : 64 < len
    · have hi : (64 : Int) < (len : Int) := by omega
      have hal2 := nu_alloc (nu_refl w0) (.cells #[.slice a len cap] 22)
      obtain ⟨D, hD⟩ : ∃ D, digest key = D := ⟨_, rfl⟩
      have HDl := Lib.hid (show D.length = 32 by rw [← hD, digest_len])
      have HDx := Lib.hid (show ∀ x ∈ D, x < 256 by rw [← hD]; exact digest_lt key)
      have HDk := Lib.hid (show hk key = D by unfold hk; rw [if_pos (by rw [Hkl.out]; exact hg), hD])
      have HW := Lib.hid (of_is (cap := 1) (show digest [key].flatten = D by rw [← hD]; congr 1; simp) (PartsIn.one Hx0.out Hlc.out Hcm.out) (HT0.out.below hal2 HT0.out.size) ⟨by unfold maxLen; omega, by simp [Hkl.out]; omega⟩)
      clear hD hlen
      go_wp2_with fail
      refine HW.out.mono ?_
      rintro e w1 ⟨rfl, hb1⟩
      have hn1 := nu_trans hal2 hb1
      have HR1 := Lib.hid (Blk.below HR0.out hn1 (Blk.lt HR0.out))
      have HZ := Lib.hid (Blk.made w1 25 z32)
      have Hl := Lib.hid (show (D.map vb).length = z32.size by rw [List.length_map, HDl.out]; rfl)
      have Hsz := Lib.hid (show (Tryd.prog.info? 25).map (·.size) = some (D.map vb).length by rw [List.length_map, HDl.out]; kernel_rfl)
      have H1 := Lib.hid (vb_one D)
      have HF := Lib.hid (Blk.fill HZ.out (D.map vb) Hl.out)
      have hn2 := nu_trans hn1 (nu_fill (D.map vb) (g := w1.heap.size) (Nat.le_refl _) 0 _ (nu_alloc (nu_refl w1) (.cells z32 25)))
      have HR2 := Lib.hid (Blk.below HR0.out hn2 (Blk.lt HR0.out))
      clear HW hal2 hb1 hn1 HR1
      go_wp2_with (refine wpList_store_blk rfl 25 (.tmp 5) (.tmp 18) rfl w1.heap.size (D.map vb) rfl rfl 25 z32 HZ.out Hl.out Hsz.out H1.out ?_)
      go_meet
      case rel => exact ⟨_, 32, 32, rfl, by omega, by unfold maxLen; omega, by omega, by rw [HDk.out]; exact bytes_blk HF.out HDl.out HDx.out, HR2.out, hn2⟩
    · have hi : ¬ (64 : Int) < (len : Int) := by omega
      go_wp2_with fail
      go_meet
      case rel => exact ⟨a, len, cap, rfl, Hlc.out, Hcm.out, by omega, by unfold hk; rw [if_neg (by rw [Hkl.out]; omega)]; exact Hx0.out, HR0.out, nu_refl _⟩
  case rest =>
    obtain ⟨a', l', c', rfl, hlc, hcm, hl64, hx, hR, hn⟩ := hcut
    obtain ⟨K, hK⟩ : ∃ K, K = hk key := ⟨_, rfl⟩
    rw [← hK] at hx
    have hKl := hx.1.1
    have hal2 := nu_alloc (nu_alloc (nu_refl wc) (.cells z64l.toArray 60)) (.cells z64l.toArray 60)
    have HI2 := Lib.hid ((Blk.made wc 60 z64l.toArray).alloc (.cells z64l.toArray 60))
    have HO2 := Lib.hid (Blk.made1 wc (.cells z64l.toArray 60) 60 z64l.toArray)
    have HR2 := Lib.hid (Blk.below hR hal2 (Blk.lt hR))
    have Hx2 := Lib.hid (hx.keep hal2)
    have Hspl := Lib.hid (show splice z64l 0 (K.map vb) = (kb key).map vb by rw [splice_key K (by omega), hK]; rfl)
    have Hcn := Lib.hid (show (K.map vb).length = Nat.min l' 64 by rw [List.length_map, hKl]; exact (Nat.min_eq_left hl64).symm)
    have Hcf := Lib.hid (show 0 + (K.map vb).length ≤ z64l.length by rw [List.length_map, hKl, show z64l.length = 64 from rfl]; omega)
    have Hpos := Lib.hid (show 0 < (K.map vb).length → ∃ ad, a' = some ad from fun h => by
      rw [List.length_map, hKl] at h
      obtain ⟨b, off, h1, _⟩ := hx.1.2.2 h
      exact ⟨_, h1⟩)
    have HKl := Lib.hid hKl
    have Hlc2 := Lib.hid (show l' ≤ c' ∧ c' ≤ maxLen from ⟨hlc, hcm⟩)
    have hn2 := nu_trans hn hal2
    have Hb := Lib.hid (show w.heap.size < wc.heap.size from Blk.lt hR)
    have Hb0 := Lib.hid hn.size
    have Hab := Lib.hid (show 0 < l' → ∀ ad, a' = some ad → ad.block < wc.heap.size from fun h => bytes_block hx h)
    have HkL := Lib.hid (kb_len key)
    have HkX := Lib.hid (kb_lt key Hkx.out)
    clear hal2 hR hx hK hKl hn hlc hcm HR0
    go_upto_region 5 with fail
    generalize (wc.alloc (.cells z64l.toArray 60)).alloc (.cells z64l.toArray 60) = w2 at *
    obtain ⟨O, hO⟩ : ∃ O, O = wc.heap.size + 1 := ⟨_, rfl⟩
    rw [← hO] at HO2
    obtain ⟨I, hI⟩ : ∃ I, I = wc.heap.size := ⟨_, rfl⟩
    rw [← hO, ← hI]
    rw [← hI] at HI2 Hab
    have HIO := Lib.hid (show I ≠ O ∧ w.heap.size ≠ I ∧ w.heap.size ≠ O ∧ w0.heap.size ≤ I ∧ w0.heap.size ≤ O from ⟨by omega, by have := Hb.out; omega, by have := Hb.out; omega, by have := Hb0.out; omega, by have := Hb0.out; omega⟩)
    clear hO hI
    have Hp1 := Lib.hid (show 0 < (K.map vb).length → (some (⟨I, 0, none⟩ : Addr) = some ⟨I, 0, none⟩) ∧ ∃ ad, a' = some ad ∧ ∀ (j : Nat) (v : Value), (K.map vb)[j]? = some v → w2.cell? (ad.add j) = some v from fun h => by
      obtain ⟨ad, had⟩ := Hpos.out h
      exact ⟨rfl, ad, had, Hx2.out.src ad had⟩)
    obtain ⟨C, hC⟩ : ∃ C, C = K.map vb := ⟨_, rfl⟩
    rw [← hC] at Hspl Hcn Hcf Hpos Hp1
    have H1 := Lib.hid (show ∀ v ∈ C, v.oneCell' = true by rw [hC]; exact vb_one K)
    have HC := Lib.hid hC
    clear hC
    go_upto_region 6 with (refine wpList_copy_blk rfl (.tmp 20) (.tmp 21) 22 22 rfl 5 Tryd.underlying22 (by kernel_rfl) _ _ _ _ _ _ rfl rfl I 0 z64l 60 HI2.out C Hcn.out Hp1.out Hcf.out H1.out ?_)
    intro w3 HI3 hg3
    have HI3' := Lib.hid (show Blk w3 I 60 ((kb key).map vb).toArray by rw [← Hspl.out]; exact HI3.out)
    have HO3 := Lib.hid (Blk.grown HO2.out hg3 (fun e => HIO.out.1 (by injection e with e; exact e.symm)))
    have HR3 := Lib.hid (Blk.grown HR2.out hg3 (fun e => HIO.out.2.1 (by injection e)))
    have hn3 := nu_grown hn2 hg3 HIO.out.2.2.2.1
    have hx3 := Hx2.out.far hg3 (fun h ad had e => absurd (Hab.out h ad had) (by rw [e]; exact Nat.lt_irrefl _))
    have Hp2 := Lib.hid (show 0 < C.length → (some (⟨O, 0, none⟩ : Addr) = some ⟨O, 0, none⟩) ∧ ∃ ad, a' = some ad ∧ ∀ (j : Nat) (v : Value), C[j]? = some v → w3.cell? (ad.add j) = some v from fun h => by
      obtain ⟨ad, had⟩ := Hpos.out h
      exact ⟨rfl, ad, had, by rw [HC.out]; exact hx3.src ad had⟩)
    clear HI3 hg3 hn2 HI2 HO2 HR2 Hp1 Hx2 hx3
    go_upto_region 7 with (refine wpList_copy_blk rfl (.tmp 23) (.tmp 24) 22 22 rfl 5 Tryd.underlying22 (by kernel_rfl) _ _ _ _ _ _ rfl rfl O 0 z64l 60 HO3.out C Hcn.out Hp2.out Hcf.out H1.out ?_)
    intro w4 HO4 hg4
    have HO4' := Lib.hid (show Blk w4 O 60 ((kb key).map vb).toArray by rw [← Hspl.out]; exact HO4.out)
    have HI4 := Lib.hid (Blk.grown HI3'.out hg4 (fun e => HIO.out.1 (by injection e)))
    have HR4 := Lib.hid (Blk.grown HR3.out hg4 (fun e => HIO.out.2.2.1 (by injection e)))
    have hn4 := nu_grown hn3 hg4 HIO.out.2.2.2.2
    clear HO4 hg4 hn3 HI3' HO3 HR3 Hp2 Hcn Hcf Hspl H1 HC Hpos Hab HKl Hlc2 Hb Hb0
    clear hl64
    obtain ⟨B, hB⟩ : ∃ B, B = kb key := ⟨_, rfl⟩
    rw [← hB] at HO4' HI4 HkL HkX
    have HB := Lib.hid hB
    clear hB
    go_wp2_with fail
    go_loopw [26] (fun i wr => ∃ k : Nat, k ≤ 64 ∧ i = .int .i64 k ∧ Blk wr I 60 ((xfill B 54 k).map vb).toArray ∧ Blk wr O 60 ((xfill B 92 k).map vb).toArray ∧ Blk wr w.heap.size 25 z32 ∧ Below w0.heap.size w0 wr) (fun i _ => 64 - (intOf i).toNat)
    case atStart => exact ⟨0, by omega, rfl, by rw [xfill_zero]; exact HI4.out, by rw [xfill_zero]; exact HO4'.out, HR4.out, hn4⟩
    case round =>
      clear HI4 HO4' HR4 hn4
      obtain ⟨k, hk, rfl, hI, hO, hR, hn⟩ := hrel
      have HI := Lib.hid hI
      have HO := Lib.hid hO
      have HR := Lib.hid hR
      clear hI hO hR
      by_cases hlt : k < 64
      · have hki : (k : Int) < 64 := by omega
        obtain ⟨y, hy, hyI, hsI⟩ := xfill_at B 54 k (by rw [HkL.out]; exact hlt)
        obtain ⟨y', hy', hyO, hsO⟩ := xfill_at B 92 k (by rw [HkL.out]; exact hlt)
        obtain rfl : y = y' := by rw [hy] at hy'; injection hy'
        have hy8 : y < 256 := HkX.out y (List.mem_of_getElem? hy)
        have e1 : bits .xor .u8 (y : Int) 54 = ((y ^^^ 54 : Nat) : Int) := u8_xor_nat y 54 hy8 (by omega)
        have e2 : bits .xor .u8 (y : Int) 92 = ((y ^^^ 92 : Nat) : Int) := u8_xor_nat y 92 hy8 (by omega)
        have hI1 := HI.out.put k (vb (y ^^^ 54))
        rw [arr_set, hsI] at hI1
        have HI1 := Lib.hid (hI1.far (p := ⟨O, k, none⟩) HIO.out.1 (vb (y ^^^ 92)))
        have hO1 := (HO.out.far (p := ⟨I, k, none⟩) (Ne.symm HIO.out.1) (vb (y ^^^ 54))).put k (vb (y ^^^ 92))
        rw [arr_set, hsO] at hO1
        have HO1 := Lib.hid hO1
        have HR1 := Lib.hid ((HR.out.far (p := ⟨I, k, none⟩) HIO.out.2.1 (vb (y ^^^ 54))).far (p := ⟨O, k, none⟩) HIO.out.2.2.1 (vb (y ^^^ 92)))
        have Hn1 := Lib.hid (nu_set (nu_set hn (p := ⟨I, k, none⟩) HIO.out.2.2.2.1 (vb (y ^^^ 54))) (p := ⟨O, k, none⟩) HIO.out.2.2.2.2 (vb (y ^^^ 92)))
        have cI : wr.cell? ⟨I, k, none⟩ = some (.int .u8 (y : Int)) := HI.out.at k _ (arr_at _ _ _ hyI)
        have fI := HI.out.free k
        have cO : wr.cell? ⟨O, k, none⟩ = some (.int .u8 (y : Int)) := HO.out.at k _ (arr_at _ _ _ hyO)
        have fO := HO.out.free k
        have hne := HIO.out.1
        clear hy hy' hyI hyO hsI hsO hI1 hO1 hn HI HO HR hk
        simp only [vb] at HI1 HO1 HR1 Hn1
        go_wp2_with fail
        go_roundw
        case rel => first | exact ⟨k + 1, by omega, by go_num, HI1.out, HO1.out, HR1.out, Hn1.out⟩ | ((repeat apply Exists.intro); exact ⟨⟨k + 1, by omega, by go_num, HI1.out, HO1.out, HR1.out, Hn1.out⟩, rfl⟩)
        case measure => simp [intOf]; omega
      · obtain rfl : k = 64 := by omega
        have hI := HI.out
        have hO := HO.out
        rw [xfill_all _ _ _ HkL.out] at hI hO
        have HA := Lib.hid (show (xr B 54).length = 64 by rw [xr_len, HkL.out])
        have HAx := Lib.hid (xr_lt B 54 (by omega) HkX.out)
        have HZ := Lib.hid (show (xr B 92).length = 64 by rw [xr_len, HkL.out])
        have HZx := Lib.hid (xr_lt B 92 (by omega) HkX.out)
        have HBd := Lib.hid (show hmac key ps.flatten = digest (xr B 92 ++ digest (xr B 54 ++ ps.flatten)) by rw [hmac, ← HB.out])
        generalize xr B 54 = A at *
        generalize xr B 92 = Z at *
        have HI := Lib.hid hI
        have HO := Lib.hid hO
        clear hI hO hlt hk HkL HkX HB
        obtain ⟨wb, rfl⟩ : ∃ x : World, x = wr := ⟨_, rfl⟩
        go_wp2_with fail
        refine (new_any wb).mono ?_
        rintro e w5 ⟨rfl, hS5, hb5⟩
        have hI5 := Blk.below HI.out hb5 (Blk.lt HI.out)
        have HO5 := Lib.hid (Blk.below HO.out hb5 (Blk.lt HO.out))
        have HR5 := Lib.hid (Blk.below HR.out hb5 (Blk.lt HR.out))
        have hn5 := hn.trans (hb5.mono hn.size)
        have hT5 := HT0.out.below hn5 HT0.out.size
        have hyI := bytes_blk hI5 HA.out HAx.out
        have Hg := Lib.hid (show I < wb.heap.size ∧ O < wb.heap.size ∧ w.heap.size < wb.heap.size ∧ w0.heap.size ≤ wb.heap.size ∧ wb.heap.size < w5.heap.size from ⟨Blk.lt HI.out, Blk.lt HO.out, Blk.lt HR.out, hn.size, Blk.lt hS5.1⟩)
        have hg0 : wb.heap.size < w5.heap.size := Blk.lt hS5.1
        have HW := Lib.hid (write_any hS5 hT5 (by omega) (by omega) (by have := Hg.out.1; omega) (some ⟨I, 0, none⟩) 64 64 A hyI (by omega) (by unfold maxLen; omega) (by omega) (fun _ ad had => by
          injection had with had
          subst had
          exact ⟨by have := Hg.out.1; simp; omega, fun e => by have h1 := (own_low hS5.2 _ e).1; have := Hg.out.1; simp at h1; omega⟩))
        have Hob := Lib.hid (fun j hj => (own_low hS5.2 j hj).1)
        have HT5 := Lib.hid hT5
        clear hS5 hb5 hn hI5 hyI hT5 HI HO HR hg0
        go_wp2_with fail
        refine HW.out.mono ?_
        rintro e w6 ⟨rfl, rv6, hS6, ht6, _⟩
        generalize hge : wb.heap.size = g at *
        have hO6 := ht6.blk HO5.out (by have := Hg.out.2.1; omega) (fun e => by have h1 := Hob.out _ e; have := Hg.out.2.1; omega)
        have hR6 := ht6.blk HR5.out (by have := Hg.out.2.2.1; omega) (fun e => by have h1 := Hob.out _ e; have := Hg.out.2.2.1; omega)
        have hT6 : TabIn w6 := HT5.out.turned ht6 (by have := Hg.out.1; omega) (fun e => by have h1 := Hob.out _ e; omega)
        have hn6 : Below w0.heap.size w0 w6 := hn5.trans (ht6.below hn5.size Hg.out.2.2.2.1 (fun j hj => by have h1 := Hob.out j hj; have := Hg.out.2.2.2.1; omega))
        have hg6 : g < w6.heap.size := Nat.lt_of_lt_of_le Hg.out.2.2.2.2 ht6.size
        rw [List.nil_append, Nat.zero_add] at hS6
        have HS6 := Lib.hid hS6
        have HO6 := Lib.hid hO6
        have HR6 := Lib.hid hR6
        have HT6 := Lib.hid hT6
        clear hS6 hO6 hR6 hT6 hn5 ht6 HW HO5 HR5 HT5 hge Hob
        go_wp2_with fail
        go_loopw [46] (fun i wr => ∃ (k : Nat) (rv : Value), k ≤ plen ∧ i = .int .i64 k ∧ SumIs wr (g + 1) g (A ++ (ps.take k).flatten) (A ++ (ps.take k).flatten).length rv ∧ Blk wr O 60 (Z.map vb).toArray ∧ Blk wr w.heap.size 25 z32 ∧ TabIn wr ∧ Below w0.heap.size w0 wr ∧ g < wr.heap.size) (fun i _ => plen - (intOf i).toNat)
        case atStart => exact ⟨0, _, by omega, rfl, by simpa [HA.out] using HS6.out, HO6.out, HR6.out, HT6.out, hn6, hg6⟩
        case round =>
          clear HS6 HO6 HR6 HT6 hn6 hg6
          obtain ⟨k, rv, hk, rfl, hS, hO, hR, hT, hn, hgr⟩ := hrel
          have HO := Lib.hid hO
          have HR := Lib.hid hR
          clear hO hR
          by_cases hlt : k < plen
          · have hi : (k : Int) < (plen : Int) := by omega
            obtain ⟨b, off, rfl, hbl, hcs⟩ := HP0.out.2 (by omega)
            have hpk : ps[k]? = some (ps[k]'(by rw [HP0.out.1]; exact hlt)) := List.getElem?_eq_getElem _
            generalize ps[k]'(by rw [HP0.out.1]; exact hlt) = p at hpk
            obtain ⟨ai, li, ci, hc, hlc, hcm, hby⟩ := hcs k p hpk
            have c0 := (hn.cell (p := ⟨b, off + k, none⟩) hbl).trans hc
            have htk : A ++ (ps.take (k + 1)).flatten = (A ++ (ps.take k).flatten) ++ p := by rw [List.take_add_one, hpk, List.flatten_append]; simp
            have hle : (ps.take (k + 1)).flatten.length ≤ ps.flatten.length := by
              have h := congrArg List.length (congrArg List.flatten (List.take_append_drop (k + 1) ps))
              rw [List.flatten_append, List.length_append] at h
              omega
            have hpl : p.length = li := hby.1.1
            have hll : (A ++ (ps.take k).flatten).length + li < 9223372036854775808 := by
              have h1 := congrArg List.length htk
              rw [List.length_append, HA.out] at h1
              rw [List.length_append, hpl] at h1
              have h2 := Hpm.out.2
              omega
            have hW := Lib.hid (write_any hS hT (by omega) (by omega) (by have := Hg.out.1; omega) ai li ci p (hby.keep hn) hlc hcm hll (fun hp ad had => by
              have h1 := bytes_block hby hp ad had
              have h2 := Hg.out.2.2.2.1
              refine ⟨by omega, fun e => ?_⟩
              have h3 := (own_low hS.2 _ e).1
              omega))
            have Hob := Lib.hid (fun j hj => (own_low hS.2 j hj).1)
            have Hk := Lib.hid htk
            have Hpl := Lib.hid hpl
            have HT := Lib.hid hT
            clear hcs hpk hc hby hS hT htk hle hpl hll
            go_wp2_with fail
            refine hW.out.mono ?_
            rintro e w7 ⟨rfl, rv2, hS2, ht2, _⟩
            have hO2 := ht2.blk HO.out (by have := Hg.out.2.1; omega) (fun e => by have h1 := Hob.out _ e; have := Hg.out.2.1; omega)
            have hR2 := ht2.blk HR.out (by have := Hg.out.2.2.1; omega) (fun e => by have h1 := Hob.out _ e; have := Hg.out.2.2.1; omega)
            have hT2 : TabIn w7 := HT.out.turned ht2 (by have := Hg.out.1; omega) (fun e => by have h1 := Hob.out _ e; omega)
            have hn2 : Below w0.heap.size w0 w7 := hn.trans (ht2.below hn.size Hg.out.2.2.2.1 (fun j hj => by have h1 := Hob.out j hj; have := Hg.out.2.2.2.1; omega))
            have hl2 : (A ++ (ps.take k).flatten).length + li = (A ++ (ps.take (k + 1)).flatten).length := by rw [Hk.out]; simp only [List.length_append, Hpl.out]
            rw [← Hk.out, hl2] at hS2
            have Hall := Lib.hid (show SumIs w7 (g + 1) g (A ++ (ps.take (k + 1)).flatten) (A ++ (ps.take (k + 1)).flatten).length rv2 ∧ Blk w7 O 60 (Z.map vb).toArray ∧ Blk w7 w.heap.size 25 z32 ∧ TabIn w7 ∧ Below w0.heap.size w0 w7 ∧ g < w7.heap.size from ⟨hS2, hO2, hR2, hT2, hn2, Nat.lt_of_lt_of_le hgr ht2.size⟩)
            clear hS2 hO2 hR2 hT2 hn2 ht2 hl2 hW c0
            go_wp2_with fail
            go_roundw
            case rel => first | exact ⟨k + 1, rv2, by omega, by go_num, Hall.out⟩ | ((repeat apply Exists.intro); exact ⟨⟨k + 1, rv2, by omega, by go_num, Hall.out⟩, rfl⟩)
            case measure => simp [intOf]; omega
          · obtain rfl : k = plen := by omega
            rw [List.take_of_length_le (by rw [HP0.out.1]; exact Nat.le_refl _)] at hS
            obtain ⟨D, hD⟩ : ∃ D, digest (A ++ ps.flatten) = D := ⟨_, rfl⟩
            have HW := Lib.hid (sum_is hD hS hT ⟨rfl, by rw [List.length_append, HA.out]; have := Hpm.out.2; omega⟩)
            have HDl := Lib.hid (show D.length = 32 by rw [← hD, digest_len])
            have HDx := Lib.hid (show ∀ x ∈ D, x < 256 by rw [← hD]; exact digest_lt _)
            obtain ⟨E, hE⟩ : ∃ E, digest (Z ++ D) = E := ⟨_, rfl⟩
            have HE := Lib.hid (show hmac key ps.flatten = E by rw [HBd.out, hD, hE])
            have HE2 := Lib.hid (show digest [Z, D].flatten = E by rw [← hE]; congr 1; simp)
            have HT := Lib.hid hT
            have HEl := Lib.hid (show E.length = 32 by rw [← hE, digest_len])
            have Hfl := Lib.hid (show [Z, D].flatten.length < 1152921504606846976 by simp [HZ.out, HDl.out])
            clear hS hT hlt hD hE HBd
            obtain ⟨wd_, rfl⟩ : ∃ x : World, x = wr := ⟨_, rfl⟩
            go_wp2_with fail
            refine HW.out.mono ?_
            rintro e w8 ⟨rfl, hb8⟩
            have HO8 := Lib.hid (Blk.below HO.out hb8 (Blk.lt HO.out))
            have HR8 := Lib.hid (Blk.below HR.out hb8 (Blk.lt HR.out))
            have hn8 := hn.trans (hb8.mono hn.size)
            have HN := Lib.hid (Blk.made w8 25 z32)
            have Hl := Lib.hid (show (D.map vb).length = z32.size by rw [List.length_map, HDl.out]; rfl)
            have Hsz := Lib.hid (show (Tryd.prog.info? 25).map (·.size) = some (D.map vb).length by rw [List.length_map, HDl.out]; kernel_rfl)
            have H1 := Lib.hid (vb_one D)
            have HF := Lib.hid (Blk.fill HN.out (D.map vb) Hl.out)
            have hf9 := nu_fill (D.map vb) (g := w8.heap.size) (Nat.le_refl _) 0 _ (nu_alloc (nu_refl w8) (.cells z32 25))
            clear HW hb8 hn HO HR
            go_upto_region 21 with (refine wpList_store_blk rfl 25 (.tmp 12) (.tmp 55) rfl w8.heap.size (D.map vb) rfl rfl 25 z32 HN.out Hl.out Hsz.out H1.out ?_)
            have HO9 := Lib.hid (Blk.below HO8.out hf9 (Blk.lt HO8.out))
            have HR9 := Lib.hid (Blk.below HR8.out hf9 (Blk.lt HR8.out))
            have hn9 := hn8.trans (hf9.mono hn8.size)
            clear hf9 hn8 HO8 HR8
            generalize (w8.alloc (.cells z32 25)).setCells w8.heap.size 0 (D.map vb) = w9 at *
            go_still_tail 2, (by kernel_rfl)
            change wpList _ _ _ _ _ w9.drew
            have HO10 := Lib.hid (bytes_blk HO9.out.drew HZ.out HZx.out)
            have HF10 := Lib.hid (bytes_blk HF.out.drew HDl.out HDx.out)
            have HR10 := Lib.hid HR9.out.drew
            have hn10 := hn9.drew
            clear HO9 HF HR9 hn9
            generalize w9.drew = w10 at *
            generalize w8.heap.size = d2 at *
            have hal11 := nu_alloc (nu_refl w10) (.cells #[.slice (some ⟨O, 0, none⟩) 64 64, .slice (some ⟨d2, 0, none⟩) 32 32] 22)
            have hT11 : TabIn (w10.alloc (.cells #[.slice (some ⟨O, 0, none⟩) 64 64, .slice (some ⟨d2, 0, none⟩) 32 32] 22)) := HT0.out.below (hn10.trans (hal11.mono hn10.size)) HT0.out.size
            have HW := Lib.hid (of_is (cap := 2) HE2.out (PartsIn.two HO10.out HF10.out (by omega) (by unfold maxLen; omega) (by omega) (by unfold maxLen; omega)) hT11 ⟨by unfold maxLen; omega, Hfl.out⟩)
            clear hT11
            go_wp2_with fail
            refine HW.out.mono ?_
            rintro e w11 ⟨rfl, hb11⟩
            have hn11 := nu_trans hal11 hb11
            have HR11 := Lib.hid (Blk.below HR10.out hn11 (Blk.lt HR10.out))
            have hnn := (hal.trans (hn10.mono hal.size)).trans (hn11.mono (Nat.le_trans hal.size hn10.size))
            have HlE := Lib.hid (show (E.map vb).length = z32.size by rw [List.length_map, HEl.out]; rfl)
            have HFE := Lib.hid (Blk.fill HR11.out (E.map vb) HlE.out)
            have Hnf := Lib.hid (nu_fill (E.map vb) (g := w.heap.size) (Nat.le_refl _) 0 _ hnn)
            have HszE := Lib.hid (show (Tryd.prog.info? 25).map (·.size) = some (E.map vb).toArray.size by rw [List.size_toArray, List.length_map, HEl.out]; kernel_rfl)
            have H1E := Lib.hid (vb_one E)
            clear HW hal11 hb11 hn11 hnn hn10
            generalize hDE : E.map vb = DE at *
            have HDE := Lib.hid hDE
            clear hDE
            go_wp2_with (refine wpList_store_blk rfl 25 (.tmp 4) (.tmp 59) rfl w.heap.size DE rfl rfl 25 z32 HR11.out HlE.out (by have h := HszE.out; rwa [List.size_toArray] at h) H1E.out ?_)
            refine bodyPost_ret (results_blk rfl _ w.heap.size 25 DE.toArray rfl HFE.out Tryd.underlying25 HszE.out) rfl ⟨by rw [HE.out, HDE.out], Hnf.out⟩
theorem macOf_is {w : World} {a pa : Option Addr} {len cap plen pcap : Nat} {key D : List Nat} {ps : List (List Nat)} (hD : hmac key ps.flatten = D) (hx : BytesIn w a len cap key) (hl : len ≤ cap ∧ cap ≤ maxLen ∧ len < 1152921504606846976)
    (hP : PartsIn w pa plen ps) (hp : plen ≤ maxLen ∧ ps.flatten.length + 64 < 1152921504606846976) (hT : TabIn w) :
    Calls Tryd.prog 26 #[.slice a len cap, .slice pa plen pcap] w fun e w' => e = .returned (.agg (D.map vb).toArray) ∧ Below w.heap.size w w' := by
  rw [← hD]
  exact macOf_any hx hl.1 hl.2.1 hl.2.2 hP hp.1 hp.2 hT
end Go.Proofs.YtlekepigndlbhaaDoor
