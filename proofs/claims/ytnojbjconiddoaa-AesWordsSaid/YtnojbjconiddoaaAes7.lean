/-
  A cipher that is none, a key that is none, and the words that are told.
-/
import Derived.Test.YtnojbjconiddoaaAes6
import Derived.Test.YtnojbjconiddoaaClone
namespace Go.Proofs.Ytnojbjconiddoaa
open Go.ChangeShapes Go.WideShapes Go.ChangeAt Go.RowKit Fld Aes
set_option linter.unusedSimpArgs false

theorem z16_rep : (z16n.map vb).toArray = (List.replicate 16 (Value.int .u8 0)).toArray := rfl
set_option maxRecDepth 100000 in
set_option maxHeartbeats 1000000 in
theorem encrypt_nil (b : List Nat) (w : World) :
    Calls Try.prog 29 #[.pointer none, .agg (b.map vb).toArray] w fun e w' => e = .returned (.agg (z16n.map vb).toArray) ∧ Below w.heap.size w w' := by
  have hn := nu_alloc (nu_alloc (nu_refl w) (.cells (b.map vb).toArray 22)) (.cells (z16n.map vb).toArray 22)
  have HR := Lib.hid (Blk.made1 w (.cells (b.map vb).toArray 22) 22 (z16n.map vb).toArray)
  go_enter Try.func29, Try.ntmps29
  go_upto_region 2 with fail
  change Code.wp _ _ _ _ ((w.alloc (.cells (b.map vb).toArray 22)).alloc (.cells (z16n.map vb).toArray 22))
  have Hn := Lib.hid hn
  clear hn
  generalize (w.alloc (.cells (b.map vb).toArray 22)).alloc (.cells (z16n.map vb).toArray 22) = w1 at *
  have HFl := Lib.hid (Blk.fill HR.out (z16n.map vb) rfl)
  have Hnf := Lib.hid (nu_fill (z16n.map vb) (g := w.heap.size + 1) (by omega) 0 _ Hn.out)
  go_wp2_with (refine wpList_store_blk rfl 22 (.tmp 4) (.tmp 16) rfl (w.heap.size + 1) (z16n.map vb) rfl rfl 22 (z16n.map vb).toArray HR.out rfl (by kernel_rfl) (vb_one _) ?_)
  exact bodyPost_ret (results_blk rfl _ (w.heap.size + 1) 22 (z16n.map vb).toArray rfl HFl.out Try.underlying22 (by kernel_rfl)) rfl ⟨rfl, Hnf.out⟩
set_option maxRecDepth 100000 in
set_option maxHeartbeats 1000000 in
theorem decrypt_nil (b : List Nat) (w : World) :
    Calls Try.prog 32 #[.pointer none, .agg (b.map vb).toArray] w fun e w' => e = .returned (.agg (z16n.map vb).toArray) ∧ Below w.heap.size w w' := by
  have hn := nu_alloc (nu_alloc (nu_refl w) (.cells (b.map vb).toArray 22)) (.cells (z16n.map vb).toArray 22)
  have HR := Lib.hid (Blk.made1 w (.cells (b.map vb).toArray 22) 22 (z16n.map vb).toArray)
  go_enter Try.func32, Try.ntmps32
  go_upto_region 2 with fail
  change Code.wp _ _ _ _ ((w.alloc (.cells (b.map vb).toArray 22)).alloc (.cells (z16n.map vb).toArray 22))
  have Hn := Lib.hid hn
  clear hn
  generalize (w.alloc (.cells (b.map vb).toArray 22)).alloc (.cells (z16n.map vb).toArray 22) = w1 at *
  have HFl := Lib.hid (Blk.fill HR.out (z16n.map vb) rfl)
  have Hnf := Lib.hid (nu_fill (z16n.map vb) (g := w.heap.size + 1) (by omega) 0 _ Hn.out)
  go_wp2_with (refine wpList_store_blk rfl 22 (.tmp 4) (.tmp 12) rfl (w.heap.size + 1) (z16n.map vb) rfl rfl 22 (z16n.map vb).toArray HR.out rfl (by kernel_rfl) (vb_one _) ?_)
  exact bodyPost_ret (results_blk rfl _ (w.heap.size + 1) 22 (z16n.map vb).toArray rfl HFl.out Try.underlying22 (by kernel_rfl)) rfl ⟨rfl, Hnf.out⟩
theorem words_nil (w : World) : Calls Try.prog 31 #[.pointer none] w fun e w' => e = .returned (.slice none 0 0) ∧ w = w' := by
  go_enter Try.func31, Try.ntmps31
  go_wp2_with fail
  go_ret
  exact ⟨rfl, rfl⟩
set_option maxRecDepth 100000 in
set_option maxHeartbeats 1000000 in
theorem aesNew_bad (a : Option Addr) (L cap : Nat) (w : World) (h1 : L ≠ 16) (h2 : L ≠ 32) :
    Calls Try.prog 26 #[.slice a L cap] w fun e w' => e = .returned (.tuple #[.pointer none, .int .i64 1]) ∧ w = w' := by
  have t1 : ((L : Int) != 16) = true := by rw [bne_iff_ne]; omega
  have t2 : ((L : Int) != 32) = true := by rw [bne_iff_ne]; omega
  go_enter Try.func26, Try.ntmps26
  go_wp2_with fail
  go_ret2
  exact ⟨rfl, rfl⟩
set_option maxRecDepth 100000 in
set_option maxHeartbeats 400000 in
theorem clone32 {w : World} {m c : Nat} {cur : Array Value} {W : List Nat} (hm : Blk w m 52 cur) (ht : cur.toList.take W.length = W.map uv) (hlen : W.length ≤ 1000) :
    Calls Try.prog 57 #[.slice (some ⟨m, 0, none⟩) W.length c] w fun e w' => ∃ v, e = .returned v ∧ w'.ownsRow w.heap.size 52 1 v W.length (W.map uv) ∧ Below w.heap.size w w' := by
  obtain ⟨i0, hi, hz0, hz1, hz2⟩ := info_parts info_u32
  have hnil := fun W : World => @Lib.run_eql_slice_nil Try.prog W
  have Hown := Lib.hid (World.ownsRow_made (base := w.heap.size) (e := 52) (size := 1) w #[] 0 (Nat.le_refl _) (by unfold maxLen; omega) rfl)
  have Hsrc := Lib.hid (show ∀ j u, (W.map uv)[j]? = some u → (w.alloc (.cells #[] 52)).cell? ((⟨m, 0, none⟩ : Addr).add j) = some u from fun j u hu => by
    have hj : j < W.length := by simpa using (List.getElem?_eq_some_iff.1 hu).1
    have h := word_at (hm.alloc (.cells #[] 52)) ht j hj
    rw [List.getElem?_map] at hu
    obtain ⟨x, hx, rfl⟩ := Option.map_eq_some_iff.1 hu
    rw [Go.WideShapes.add_plain, Nat.zero_add, h, List.getD_eq_getElem?_getD, hx]
    rfl)
  have Hl := Lib.hid (show (W.map uv).length = W.length * 1 by rw [List.length_map]; omega)
  have Hm := Lib.hid (show 0 + W.length ≤ maxLen by unfold maxLen; omega)
  have Hb := Lib.hid (show (0 + W.length) * 4 ≤ 140737488355328 by omega)
  have Hz := Lib.hid (show w.heap.size ≤ (w.alloc (.cells #[] 52)).heap.size by simp)
  obtain ⟨len, hln⟩ : ∃ n, n = W.length := ⟨_, rfl⟩
  rw [← hln] at Hl Hm Hb ⊢
  clear hm ht hln
  go_enter Try.func57, Try.ntmps57
  go_wp2_with (at_builtin; refine wpList_append_own _ rfl (.tmp 5) (.tmp 6) 49 rfl w.heap.size 52 i0 (.int .u32 0) 1 4 Try.underlying49 hi hz0 hz1 hz2 rfl (by decide) _ 0 [] rfl Hown.out ⟨m, 0, none⟩ len c (W.map uv) rfl Hl.out Hsrc.out (uv_one W) Hm.out Hb.out Hz.out ?_)
  intro v' w2 hown2 hg2 _
  have hb2 := ((Below.refl w.heap.size w).alloc (Nat.le_refl _) (.cells #[] 52)).grown hg2 (by simp) (fun k hk => by have hk2 : w.heap.size = k := Option.some.inj hk; omega)
  have Hfin := Lib.hid (show w2.ownsRow w.heap.size 52 1 v' len (W.map uv) from by simpa using hown2)
  clear hown2 hg2
  go_wp2_with fail
  go_ret
  exact ⟨_, rfl, Hfin.out, hb2⟩
set_option maxRecDepth 100000 in
set_option maxHeartbeats 400000 in
theorem words_any {w : World} {C R : Nat} {W : List Nat} (hC : CiphAt w C W R) (hlen : W.length ≤ 1000) :
    Calls Try.prog 31 #[.pointer (some ⟨C, 0, none⟩)] w fun e w' => ∃ v, e = .returned v ∧ w'.ownsRow w.heap.size 52 1 v W.length (W.map uv) ∧ Below w.heap.size w w' := by
  obtain ⟨x, m, c, cur, hc, hm, htk, hbx, hxl, hlc, hcm⟩ := hC
  have c0 := Blk.at hc 0 _ rfl
  have fC := Blk.free hc 0
  have Hcl := Lib.hid (clone32 (c := c) hm htk hlen)
  clear hc hm htk hbx
  go_enter Try.func31, Try.ntmps31
  go_wp2_with fail
  refine Hcl.out.mono ?_
  rintro e w2 ⟨v, rfl, hown, hb2⟩
  have Ho := Lib.hid hown
  clear hown
  go_wp2_with fail
  go_ret
  exact ⟨_, rfl, Ho.out, hb2⟩
end Go.Proofs.Ytnojbjconiddoaa
