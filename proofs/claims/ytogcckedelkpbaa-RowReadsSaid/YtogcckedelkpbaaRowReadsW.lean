/-
  The walk of RowReads.
-/
import Derived.Test.YtogcckedelkpbaaRefReader
namespace Go.Proofs.Ytogcckedelkpbaa
open Go.ChangeShapes Go.WideShapes Go.ChangeAt Go.RowKit

/-- Block g holds len bytes, whatever they are. -/
def ByteBlk (w : World) (g len : Nat) : Prop := ∃ cs, Blk w g 5 cs ∧ ∀ i, i < len → ∃ n : Nat, n < 256 ∧ cs[i]? = some (.int .u8 (n : Int))
theorem byteBlk_lent {w : World} {g len : Nat} {xs : List Nat} (hg : Blk w g 5 (lentCells xs)) (hl : xs.length = len) (hb : ∀ x ∈ xs, x < 256) : ByteBlk w g len := by
  refine ⟨_, hg, fun i hi => ⟨xs[i]'(by omega), hb _ (List.getElem_mem _), ?_⟩⟩
  unfold lentCells
  rw [List.map_append, List.getElem?_toArray, List.getElem?_append_left (by rw [List.length_map]; omega), List.getElem?_map, List.getElem?_eq_getElem (by omega)]
  rfl
theorem ByteBlk.put {w : World} {g len : Nat} (h : ByteBlk w g len) (i : Nat) (hi : i < len) (n : Nat) (hn : n < 256) : ByteBlk (w.setCell ⟨g, i, none⟩ (.int .u8 (n : Int))) g len := by
  obtain ⟨cs, h1, h2⟩ := h
  refine ⟨_, h1.put i _, fun j hj => ?_⟩
  by_cases hij : i = j
  · subst hij
    obtain ⟨m, _, hm⟩ := h2 i hi
    have hsz : i < cs.size := (Array.getElem?_eq_some_iff.1 hm).1
    exact ⟨n, hn, by simp [hsz]⟩
  · obtain ⟨m, hm1, hm⟩ := h2 j hj
    exact ⟨m, hm1, by rw [Array.getElem?_setIfInBounds_ne hij]; exact hm⟩

/-! ### What asks and changes nothing, behind draws -/
section
variable {B g x q cap : Nat} {a : Option Addr} {xs ys : List Nat} {f : Int} {w : World}
theorem left_q (h : RdAt w B g ys f) (n : Nat) : Calls Try.prog 29 #[.pointer (some ⟨g, 0, none⟩)] (w.drewN n) fun e w' => e = .returned (.int .i64 (ys.length : Int)) ∧ ∃ m, w' = w.drewN m :=
  (left_rd B g ys f _ (h.keep (nu_drewN (nu_refl w) n))).mono fun _ _ ⟨he, hw⟩ => ⟨he, n, hw.symm⟩
theorem fault_q (h : RdAt w B g ys f) (n : Nat) : Calls Try.prog 33 #[.pointer (some ⟨g, 0, none⟩)] (w.drewN n) fun e w' => e = .returned (.int .i64 f) ∧ ∃ m, w' = w.drewN m :=
  (fault_rd B g ys f _ (h.keep (nu_drewN (nu_refl w) n))).mono fun _ _ ⟨he, hw⟩ => ⟨he, n, hw.symm⟩
theorem end_q (h : RdAt w B g ys f) (n : Nat) : Calls Try.prog 28 #[.pointer (some ⟨g, 0, none⟩)] (w.drewN n) fun e w' => e = .returned (.int .i64 (endOf ys.length f)) ∧ ∃ m, w' = w.drewN m :=
  (end_rd B g ys f _ (h.keep (nu_drewN (nu_refl w) n))).mono fun _ _ ⟨he, hw⟩ => ⟨he, n, hw.symm⟩
theorem refLeft_q (h : RefAt w x a cap xs q f) (he : refLeft xs q f = ys) (hl : xs.length ≤ 140737488355320) (n : Nat) : Calls Try.prog 32 #[.pointer (some ⟨x, 0, none⟩)] (w.drewN n) fun e w' => e = .returned (.int .i64 (ys.length : Int)) ∧ ∃ m, w' = w.drewN m :=
  (refLeft_any x a cap xs q f _ ⟨h.1.drewN n, h.2⟩ hl).mono fun _ _ ⟨h1, m, hm⟩ => ⟨by rw [h1, he], n + m, by rw [hm, World.drewN_drewN]⟩
theorem refEnd_q (h : RefAt w x a cap xs q f) (he : refLeft xs q f = ys) (hl : xs.length ≤ 140737488355320) (n : Nat) : Calls Try.prog 34 #[.pointer (some ⟨x, 0, none⟩)] (w.drewN n) fun e w' => e = .returned (.int .i64 (endOf ys.length f)) ∧ ∃ m, w' = w.drewN m :=
  (refEnd_any x a cap xs q f _ ⟨h.1.drewN n, h.2⟩ hl).mono fun _ _ ⟨h1, m, hm⟩ => ⟨by rw [h1, he], n + m, by rw [hm, World.drewN_drewN]⟩
theorem RefAt.far {w' : World} (h : RefAt w x a cap xs q f) (hg : w.grownBy w' (some g)) (hne : x ≠ g) : RefAt w' x a cap xs q f := ⟨h.1.grown hg (fun e => hne (by injection e)), h.2⟩
theorem RefAt.keep {w' : World} (h : RefAt w x a cap xs q f) (hb : Below w.heap.size w w') : RefAt w' x a cap xs q f := ⟨h.1.below hb h.1.lt, h.2⟩
end
theorem rdStep_len (ys : List Nat) (f n : Int) (r : Bool) : (rdStep ys f n r).1.length ≤ ys.length := by
  unfold rdStep
  split
  · simp
  · split
    · simp
    · split
      · simp
      · rw [List.length_take]
        omega
theorem refLeft_len (xs : List Nat) (q : Nat) (f : Int) : (refLeft xs q f).length ≤ xs.length := by
  unfold refLeft
  split
  · simp
  · rw [List.length_drop]
    omega
theorem rdNum_len (ys : List Nat) (f n : Int) : (rdStep ys f n (numRight n)).1.length ≤ 8 := by
  unfold rdStep
  split
  · simp
  · split
    · simp
    · split
      · simp
      · rename_i h _
        have h2 : 1 ≤ n ∧ n ≤ 8 := by simpa [numRight] using h
        rw [List.length_take]
        omega

set_option maxRecDepth 100000 in
set_option maxHeartbeats 4000000 in
theorem rowReads_walk (a : Option Addr) (len cap : Nat) (xs : List Nat) (a2 : Option Addr) (len2 cap2 : Nat) (w : World) (hx : BytesIn w a len cap xs) (hlc : len ≤ cap) (hcm : cap ≤ maxLen) (hlen : len ≤ 140737488351232) (hlen2 : len2 ≤ 9223372036854775807) (hsc : RecsIn w a2 len2 [.i64, .i64]) :
    Calls Try.prog 8 #[.slice a len cap, .slice a2 len2 cap2] w fun e w' => e = .returned (.bool true) ∧ Below w.heap.size w w' := by
  have Hl := Lib.hid hx.1.1
  have Hb := Lib.hid (show ∀ x ∈ xs, x < 256 from fun x h => wf_u8_lt (hx.1.2.1 x h))
  have Hsc := Lib.hid hsc
  have Hx := Lib.hid hx
  have Hcm := Lib.hid hcm
  clear hsc hcm
  go_enter Try.func8, Try.ntmps8
  go_wp2_with fail
  refine (lent_any a len cap xs w hx (by omega)).mono ?_
  rintro e w1 ⟨rfl, hg1, hn1⟩
  have Hg1 := Lib.hid hg1
  have hi1 : w.heap.size < w1.heap.size := hg1.lt
  clear hg1 hx
  go_wp2_with fail
  refine (newReader_any _ len (len + 3) xs w1 (lent_bytes Hg1.out Hl.out Hb.out) (by omega)).mono ?_
  rintro e w2 ⟨g, rfl, hrd, hb2⟩
  have hg0 : w1.heap.size ≤ g := hrd.low
  have hn2 := nu_trans hn1 hb2
  have Hg2 := Lib.hid (Hg1.out.below hb2 Hg1.out.lt)
  have Hrd := Lib.hid hrd
  clear hrd hb2 hn1
  go_wp2_with fail
  refine (kept_any w.heap.size a len cap xs _ Hg2.out (Hx.out.keep hn2).1 (by omega)).mono ?_
  rintro e w3 ⟨rfl, n3, rfl⟩
  have hn3 := nu_drewN hn2 n3
  have hr3 := Hrd.out.keep (nu_drewN (nu_refl w2) n3)
  have hg3 := Hg2.out.drewN n3
  generalize w2.drewN n3 = w3 at hn3 hr3 hg3 ⊢
  have Hr3 := Lib.hid hr3
  have Hg3 := Lib.hid hg3
  clear Hg2 Hrd hn2 hr3 hg3
  go_wp2_with fail
  refine (rowAwake_any _).mono ?_
  rintro e w4 ⟨rfl, hb4⟩
  have hn4 := nu_trans hn3 hb4
  have Hr4 := Lib.hid (Hr3.out.keep hb4)
  have Hg4 := Lib.hid (byteBlk_lent (Hg3.out.below hb4 Hg3.out.lt) Hl.out Hb.out)
  clear Hr3 Hg3 hn3 hb4
  obtain ⟨B, hB⟩ : ∃ B, B = w1.heap.size := ⟨_, rfl⟩
  rw [← hB] at Hr4 hi1 hg0
  clear Hg1 hB
  obtain ⟨k1, hk1⟩ : ∃ k1, k1 = w.heap.size := ⟨_, rfl⟩
  go_wp2_with fail
  go_loopw [7] (fun i wr => ∃ k : Nat, k ≤ len ∧ i = .int .i64 k ∧ Below w.heap.size w wr ∧ RdAt wr B g xs 0 ∧ ByteBlk wr w.heap.size len) (fun i _ => len - (intOf i).toNat)
  case atStart => exact ⟨0, by omega, rfl, hn4, Hr4.out, Hg4.out⟩
  case round =>
    obtain ⟨k, hk, rfl, hnr, hrd, hbb⟩ := hrel
    have Hr := Lib.hid hrd
    have Hbb := Lib.hid hbb
    clear hrd hbb
    by_cases hlt : k < len
    · have hi : (k : Int) < (len : Int) := by omega
      obtain ⟨cs, hcs, hcn⟩ := Hbb.out
      obtain ⟨y, hy, hcy⟩ := hcn k hlt
      have cy := hcs.at k _ hcy
      have fy := hcs.free k
      clear hcs hcn hcy
      go_wp2_with fail
      go_roundw
      case rel =>
        have e1 : ((y : Int) + 1) % 256 = (((y + 1) % 256 : Nat) : Int) := by omega
        rw [e1]
        exact ⟨k + 1, by omega, by go_num, nu_set hnr (Nat.le_refl _) _, Hr.out.far (gb_set (gb_refl wr (some w.heap.size)) (p := ⟨w.heap.size, k, none⟩) (.inl rfl) _) hi1, Hbb.out.put k hlt _ (by omega)⟩
      case measure => simp [intOf]; omega
    · obtain rfl : k = len := by omega
      obtain ⟨wo, rfl⟩ : ∃ wo : World, wo = wr := ⟨_, rfl⟩
      have hs_ : w.heap.size ≤ wo.heap.size := hnr.size
      have hnx := nu_alloc hnr (.cells #[.slice a k cap, .int .i64 0, .int .i64 0] 54)
      have hrx := Hr.out.keep (nu_alloc (nu_refl wo) (.cells #[.slice a k cap, .int .i64 0, .int .i64 0] 54))
      have hfx : RefAt (wo.alloc (.cells #[.slice a k cap, .int .i64 0, .int .i64 0] 54)) wo.heap.size a cap xs 0 0 := ⟨by rw [Hl.out]; exact Blk.made wo _ _, Nat.zero_le _⟩
      have hgx : g < wo.heap.size := Hr.out.lt
      have Hrx := Lib.hid hrx
      have Hfx := Lib.hid hfx
      clear hrx hfx Hr Hbb hnr
      clear hn4 Hr4 Hg4 hk1 k1 hlt hk
      go_wp2_with fail
      generalize wo.alloc (.cells #[.slice a k cap, .int .i64 0, .int .i64 0] 54) = W at *
      generalize wo.heap.size = x at *
      go_loopw [9] (fun i wr => ∃ (j : Nat) (ys : List Nat) (f : Int) (q : Nat), j ≤ len2 ∧ i = .int .i64 j ∧ Below w.heap.size w wr ∧ RdAt wr B g ys f ∧ RefAt wr x a cap xs q f ∧ refLeft xs q f = ys) (fun i _ => len2 - (intOf i).toNat)
      case atStart => exact ⟨0, xs, 0, 0, by omega, rfl, hnx, Hrx.out, Hfx.out, by simp [refLeft]⟩
      case round =>
        obtain ⟨j, ys, f, q, hj, rfl, hnr, hrd, hrf, hle⟩ := hrel
        have Hr := Lib.hid hrd
        have Hf := Lib.hid hrf
        have He := Lib.hid hle
        clear hrd hrf hle
        by_cases hlt : j < len2
        · obtain ⟨b2, o2, rfl, hb2, hc2⟩ := Hsc.out (by omega)
          obtain ⟨kd, hk0, hkw⟩ := hc2 j hlt 0 .i64 rfl
          obtain ⟨n, hn0, hnw⟩ := hc2 j hlt 1 .i64 rfl
          have c0 := (hnr.cell (p := ⟨b2, _, none⟩) hb2).trans hk0
          have c1 := (hnr.cell (p := ⟨b2, _, none⟩) hb2).trans hn0
          rw [show ([IntKind.i64, IntKind.i64].length) = 2 from rfl] at c0 c1
          rw [show o2 + (j * 2 + 1) = o2 + j * 2 + 1 by omega] at c1
          rw [show o2 + (j * 2 + 0) = o2 + j * 2 by omega] at c0
          have hi : (j : Int) < (len2 : Int) := by omega
          have HL := Lib.hid (show xs.length ≤ 140737488355320 by rw [Hl.out]; omega)
          have bn := bounds_i64 hnw
          clear hc2 hk0 hn0 hkw hnw
          go_wp2_with fail
          · have hn1 : 1 ≤ n := by assumption
            have hR : numRight n = decide (n ≤ 8) := by simp [numRight, hn1]
            obtain ⟨r, hr⟩ : ∃ r, r = decide (n ≤ 8) := ⟨_, rfl⟩
            rw [← hr] at hR ⊢
            obtain ⟨⟨s1, s2, s3⟩, hs⟩ : ∃ s, rdStep ys f n r = s := ⟨_, rfl⟩
            have Hs := Lib.hid hs
            have HR0 := Lib.hid hR
            have hpos : r = true → 0 ≤ n := fun e => by rw [e] at hR; have h2 : 1 ≤ n ∧ n ≤ 8 := by simpa [numRight] using hR
                                                        omega
            have Hpos := Lib.hid hpos
            clear hr hR hs hpos
            refine (refTake_any x a cap xs q f n r _ Hf.out (by rw [Hl.out]; exact Hx.out.keep hnr) (by rw [Hl.out]; omega) Hcm.out (by rw [Hl.out]; omega) Hpos.out).mono ?_
            rintro e v1 ⟨⟨u, rfl, hu⟩, ⟨q', hf1, he1⟩, hg1⟩
            rw [He.out, Hs.out] at hu hf1 he1
            simp only [] at hu hf1 he1
            have hn1 := nu_grown hnr hg1 hs_
            have HR1 := Lib.hid (Hr.out.past hg1 hgx)
            have HF1 := Lib.hid hf1
            have HE := Lib.hid he1
            obtain ⟨au, cu, rfl, _, _, hbu, _⟩ := hu.lies
            have hul : s1.length ≤ 8 := by have := rdNum_len ys f n; rw [HR0.out, Hs.out] at this; exact this
            have Hbu := Lib.hid hbu
            clear hu hf1 he1 hg1 hbu hnr
            go_wp2_with fail
            refine (refNum_any au s1.length cu s1 _ Hbu.out hul).mono ?_
            rintro e v2 ⟨rfl, n2, rfl⟩
            have hn2 := nu_drewN hn1 n2
            have HR2 := Lib.hid (HR1.out.keep (nu_drewN (nu_refl v1) n2))
            have HF2 := Lib.hid (HF1.out.keep (nu_drewN (nu_refl v1) n2))
            generalize v1.drewN n2 = v2 at *
            clear hn1
            go_wp2_with fail
            refine (num_any B g ys f n _ HR2.out).mono ?_
            rintro e v3 ⟨rfl, hr3, hg3⟩
            rw [HR0.out, Hs.out] at hr3 ⊢
            simp only [] at hr3 ⊢
            have HR := Lib.hid hr3
            have HF := Lib.hid (HF2.out.far hg3 (by omega))
            have hnz := nu_grown hn2 hg3 (by omega)
            have cf : v3.cell? ⟨x, 2, none⟩ = some (.int .i64 s3) := HF.out.1.at 2 _ rfl
            clear hr3 hg3 hn2
            go_wp2_with fail
            go_quiet ((first | (go_at_call 29; exact left_q HR.out _) | (go_at_call 32; exact refLeft_q HF.out HE.out HL.out _) | (go_at_call 33; exact fault_q HR.out _) | (go_at_call 28; exact end_q HR.out _) | (go_at_call 34; exact refEnd_q HF.out HE.out HL.out _)))
            go_wp2_with fail
            go_roundw
            case rel => exact ⟨j + 1, s2, s3, q', by omega, by go_num, nu_drewN hnz _, HR.out.keep (nu_drewN (nu_refl _) _), HF.out.keep (nu_drewN (nu_refl _) _), HE.out⟩
            case measure => simp [intOf]; omega
          · have hn1 : n < 1 := by assumption
            have hR : numRight n = false := by simp [numRight]; omega
            obtain ⟨⟨s1, s2, s3⟩, hs⟩ : ∃ s, rdStep ys f n false = s := ⟨_, rfl⟩
            have Hs := Lib.hid hs
            have HR0 := Lib.hid hR
            have hpos : false = true → 0 ≤ n := fun e => by cases e
            have Hpos := Lib.hid hpos
            clear hR hs hpos
            refine (refTake_any x a cap xs q f n false _ Hf.out (by rw [Hl.out]; exact Hx.out.keep hnr) (by rw [Hl.out]; omega) Hcm.out (by rw [Hl.out]; omega) Hpos.out).mono ?_
            rintro e v1 ⟨⟨u, rfl, hu⟩, ⟨q', hf1, he1⟩, hg1⟩
            rw [He.out, Hs.out] at hu hf1 he1
            simp only [] at hu hf1 he1
            have hn1 := nu_grown hnr hg1 hs_
            have HR1 := Lib.hid (Hr.out.past hg1 hgx)
            have HF1 := Lib.hid hf1
            have HE := Lib.hid he1
            obtain ⟨au, cu, rfl, _, _, hbu, _⟩ := hu.lies
            have hul : s1.length ≤ 8 := by have := rdNum_len ys f n; rw [HR0.out, Hs.out] at this; exact this
            have Hbu := Lib.hid hbu
            clear hu hf1 he1 hg1 hbu hnr
            go_wp2_with fail
            refine (refNum_any au s1.length cu s1 _ Hbu.out hul).mono ?_
            rintro e v2 ⟨rfl, n2, rfl⟩
            have hn2 := nu_drewN hn1 n2
            have HR2 := Lib.hid (HR1.out.keep (nu_drewN (nu_refl v1) n2))
            have HF2 := Lib.hid (HF1.out.keep (nu_drewN (nu_refl v1) n2))
            generalize v1.drewN n2 = v2 at *
            clear hn1
            go_wp2_with fail
            refine (num_any B g ys f n _ HR2.out).mono ?_
            rintro e v3 ⟨rfl, hr3, hg3⟩
            rw [HR0.out, Hs.out] at hr3 ⊢
            simp only [] at hr3 ⊢
            have HR := Lib.hid hr3
            have HF := Lib.hid (HF2.out.far hg3 (by omega))
            have hnz := nu_grown hn2 hg3 (by omega)
            have cf : v3.cell? ⟨x, 2, none⟩ = some (.int .i64 s3) := HF.out.1.at 2 _ rfl
            clear hr3 hg3 hn2
            go_wp2_with fail
            go_quiet ((first | (go_at_call 29; exact left_q HR.out _) | (go_at_call 32; exact refLeft_q HF.out HE.out HL.out _) | (go_at_call 33; exact fault_q HR.out _) | (go_at_call 28; exact end_q HR.out _) | (go_at_call 34; exact refEnd_q HF.out HE.out HL.out _)))
            go_wp2_with fail
            go_roundw
            case rel => exact ⟨j + 1, s2, s3, q', by omega, by go_num, nu_drewN hnz _, HR.out.keep (nu_drewN (nu_refl _) _), HF.out.keep (nu_drewN (nu_refl _) _), HE.out⟩
            case measure => simp [intOf]; omega
          · obtain ⟨r, hr⟩ : ∃ r, r = decide (0 ≤ n) := ⟨_, rfl⟩
            rw [← hr]
            obtain ⟨⟨s1, s2, s3⟩, hs⟩ : ∃ s, rdStep ys f n r = s := ⟨_, rfl⟩
            have Hs := Lib.hid hs
            have HR0 := Lib.hid hr
            have Hpos := Lib.hid (show r = true → 0 ≤ n from fun e => by rw [hr] at e; simpa using e)
            have hs1 := rdStep_len ys f n r
            rw [hs] at hs1
            have hyl : ys.length ≤ 140737488355320 := by rw [← He.out]; exact Nat.le_trans (refLeft_len xs q f) HL.out
            simp only [] at hs1
            clear hr hs
            refine (refTake_any x a cap xs q f n r _ Hf.out (by rw [Hl.out]; exact Hx.out.keep hnr) (by rw [Hl.out]; omega) Hcm.out HL.out Hpos.out).mono ?_
            rintro e v1 ⟨⟨u, rfl, hu⟩, ⟨q', hf1, he1⟩, hg1⟩
            rw [He.out, Hs.out] at hu hf1 he1
            simp only [] at hu hf1 he1
            have hn1 := nu_grown hnr hg1 hs_
            have HR1 := Lib.hid (Hr.out.past hg1 hgx)
            have HF1 := Lib.hid hf1
            have HE := Lib.hid he1
            have hx1 : x < v1.heap.size := hf1.1.lt
            obtain ⟨au, cu, rfl, _, _, hbu, hau⟩ := hu.lies
            have Hbu := Lib.hid hbu
            have Hau := Lib.hid (show ∀ ad, au = some ad → ad.block ≠ g from fun ad had => by have h1 := (hau ad had).1; have h2 := Hr.out.lt; omega)
            clear hu hf1 he1 hg1 hbu hnr hau
            go_wp2_with fail
            refine (take_any B g ys f n _ HR1.out hyl).mono ?_
            rintro e v2 ⟨⟨u2, rfl, hu2⟩, hr2, hg2⟩
            rw [← HR0.out, Hs.out] at hu2 hr2
            simp only [] at hu2 hr2
            have HR2 := Lib.hid hr2
            have HF2 := Lib.hid (HF1.out.far hg2 (by omega))
            have hn2 := nu_grown hn1 hg2 (by omega)
            have Hbu2 := Lib.hid (Hbu.out.far hg2 (fun _ ad had => Hau.out ad had))
            have hgv : g < v1.heap.size := by omega
            obtain ⟨at2, ct2, hv2, _, _, hbt2⟩ := hu2.reads
            have Hbt2 := Lib.hid hbt2
            have Hu2 := Lib.hid hu2
            subst hv2
            clear hu2 hr2 hg2 hn1 hbt2
            go_wp2_with fail
            refine (same_any at2 au s1.length s1.length ct2 cu s1 s1 _ Hbt2.out.1 Hbu2.out.1 (by omega) (by omega)).mono ?_
            rintro e v3 ⟨rfl, n3, rfl⟩
            rw [show decide (s1 = s1) = true by simp]
            have hn3 := nu_drewN hn2 n3
            have HR3 := Lib.hid (HR2.out.keep (nu_drewN (nu_refl v2) n3))
            have HF3 := Lib.hid (HF2.out.keep (nu_drewN (nu_refl v2) n3))
            by_cases hz : 0 < s1.length
            · obtain ⟨kk, ck, cur, hv, hk1, hk2, hk3, hk4, hk5, hk6⟩ := Hu2.out.form hz
              injection hv with hv _ hv'
              subst hv
              subst hv'
              obtain ⟨y0, hy0⟩ : ∃ y, s1[0]? = some y := ⟨_, List.getElem?_eq_getElem hz⟩
              have cy : (v2.drewN n3).cell? ⟨kk, 0, none⟩ = some (.int .u8 (y0 : Int)) := (hk2.drewN n3).at 0 _ (own_cell hk6 hy0)
              have fy : (v2.drewN n3).frozen? ⟨kk, 0, none⟩ = false := (hk2.drewN n3).free 0
              clear hk2 hk3 hk4 hk5 hk6 hy0 hn2
              generalize v2.drewN n3 = v3 at *
              have hgr := gb_set (gb_refl v3 (some kk)) (p := ⟨kk, 0, none⟩) (.inl rfl) (.int .u8 (((y0 : Int) + 1) % 256))
              have HR := Lib.hid (HR3.out.past hgr (by omega))
              have HF := Lib.hid (HF3.out.far hgr (by omega))
              have hnz := nu_set hn3 (p := ⟨kk, 0, none⟩) (show w.heap.size ≤ kk by omega) (.int .u8 (((y0 : Int) + 1) % 256))
              have cf : (v3.setCell ⟨kk, 0, none⟩ (.int .u8 (((y0 : Int) + 1) % 256))).cell? ⟨x, 2, none⟩ = some (.int .i64 s3) := HF.out.1.at 2 _ rfl
              clear hgr hn3
              go_wp2_with fail
              go_quiet ((first | (go_at_call 29; exact left_q HR.out _) | (go_at_call 32; exact refLeft_q HF.out HE.out HL.out _) | (go_at_call 33; exact fault_q HR.out _) | (go_at_call 28; exact end_q HR.out _) | (go_at_call 34; exact refEnd_q HF.out HE.out HL.out _)))
              go_wp2_with fail
              go_roundw
              case rel => exact ⟨j + 1, s2, s3, q', by omega, by go_num, nu_drewN hnz _, HR.out.keep (nu_drewN (nu_refl _) _), HF.out.keep (nu_drewN (nu_refl _) _), HE.out⟩
              case measure => simp [intOf]; omega
            · have hz0 : s1.length = 0 := by omega
              generalize v2.drewN n3 = v3 at *
              have HR := HR3
              have HF := HF3
              have hnz := hn3
              have cf : v3.cell? ⟨x, 2, none⟩ = some (.int .i64 s3) := HF.out.1.at 2 _ rfl
              clear hn3 hn2
              go_wp2_with fail
              go_quiet ((first | (go_at_call 29; exact left_q HR.out _) | (go_at_call 32; exact refLeft_q HF.out HE.out HL.out _) | (go_at_call 33; exact fault_q HR.out _) | (go_at_call 28; exact end_q HR.out _) | (go_at_call 34; exact refEnd_q HF.out HE.out HL.out _)))
              go_wp2_with fail
              go_roundw
              case rel => exact ⟨j + 1, s2, s3, q', by omega, by go_num, nu_drewN hnz _, HR.out.keep (nu_drewN (nu_refl _) _), HF.out.keep (nu_drewN (nu_refl _) _), HE.out⟩
              case measure => simp [intOf]; omega
        · obtain rfl : j = len2 := by omega
          go_wp2_with fail
          go_ret
          exact ⟨rfl, hnr⟩
end Go.Proofs.Ytogcckedelkpbaa
