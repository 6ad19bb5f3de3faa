/-
  A cipher and a block; the calls' short forms; the example of law06.
-/
import Derived.Test.YtnojbjconiddoaaAes7
import Derived.Test.YtnojbjconiddoaaAes8
import Derived.Test.YtnojbjconiddoaaEq16
namespace Go.Proofs.Ytnojbjconiddoaa
open Go.ChangeShapes Go.WideShapes Go.ChangeAt Go.RowKit Fld Aes
set_option linter.unusedSimpArgs false

/-- Words that R rounds can use. -/
structure Keyed (W : List Nat) (R : Nat) : Prop where
  pos : 0 < R
  few : R ≤ 14
  small : Small W
  len : W.length = 4 * (R + 1)
theorem keyed_of {key : List Nat} (h : ∀ x ∈ key, x < 256) (hl : key.length = 16 ∨ key.length = 32) : Keyed (expand key) (key.length / 4 + 6) :=
  ⟨by omega, by omega, expand_small h, by rw [expand_len]⟩
/-- What New made. -/
def NewIs (w : World) (key : List Nat) (e : Ending) (w' : World) : Prop :=
  ∃ C, e = .returned (.tuple #[.pointer (some ⟨C, 0, none⟩), .int .i64 0]) ∧ CiphAt w' C (expand key) (key.length / 4 + 6) ∧ Below w.heap.size w w'
theorem new_good {L : Nat} (hL : L = 16 ∨ L = 32) {a : Option Addr} {cap : Nat} {key : List Nat} {w : World} (hx : BytesIn w a L cap key) :
    Calls Try.prog 26 #[.slice a L cap] w (NewIs w key) := by
  have hl : key.length = L := hx.1.1
  refine (aesNew_any (L / 4) L (by omega) (by omega) a cap key w hx).mono ?_
  rintro e w' ⟨C, x, B0, v, he, hN⟩
  have hp : 0 < (expand key).length := by rw [expand_len]; omega
  refine ⟨C, he, ?_, hN.nu⟩
  rw [hl]
  exact ciphAt_new hN hp
theorem enc_call {w : World} {C R : Nat} {W : List Nat} (hC : CiphAt w C W R) (hK : Keyed W R) {b D : List Nat} (hb : St16 b) (hD : enc W R b = D) :
    Calls Try.prog 29 #[.pointer (some ⟨C, 0, none⟩), .agg (b.map vb).toArray] w fun e w' => e = .returned (.agg (D.map vb).toArray) ∧ Below w.heap.size w w' := by
  rw [← hD]
  exact encrypt_any hC hK.small hK.pos hK.few hK.len b hb
theorem dec_call {w : World} {C R : Nat} {W : List Nat} (hC : CiphAt w C W R) (hK : Keyed W R) {b D : List Nat} (hb : St16 b) (hD : dec W R b = D) :
    Calls Try.prog 32 #[.pointer (some ⟨C, 0, none⟩), .agg (b.map vb).toArray] w fun e w' => e = .returned (.agg (D.map vb).toArray) ∧ Below w.heap.size w w' := by
  rw [← hD]
  exact decrypt_any hC hK.small hK.pos hK.few hK.len b hb
/-- A cipher and a block. -/
structure CB (w : World) (C R : Nat) (W : List Nat) (B : Nat) (b : List Nat) : Prop where
  c : CiphAt w C W R
  b : Blk w B 22 (b.map vb).toArray
theorem CB.below {w w' : World} {C R : Nat} {W : List Nat} {B : Nat} {b : List Nat} (h : CB w C R W B b) (hb : Below w.heap.size w w') : CB w' C R W B b := ⟨h.c.below hb, h.b.below hb h.b.lt⟩

theorem CiphAt.drew {w : World} {C R : Nat} {W : List Nat} (h : CiphAt w C W R) : CiphAt w.drew C W R := h.below (nu_drew (nu_refl w))
theorem CB.drew {w : World} {C R : Nat} {W : List Nat} {B : Nat} {b : List Nat} (h : CB w C R W B b) : CB w.drew C R W B b := h.below (nu_drew (nu_refl w))
theorem kx_key : Keyed kx_W 10 := by rw [← kx_expand]; exact keyed_of (by decide) (.inl rfl)
theorem ky_key : Keyed ky_W 14 := by rw [← ky_expand]; exact keyed_of (by decide) (.inr rfl)
theorem st0_at : ∀ k, k < 16 → st0[k]? = some (17 * k) := by decide
theorem kx_out16 : kx_out.length = 16 := rfl

theorem exec_first {o : Oper} {a : Act} {w : World} (x : Operand) (ho : o.op = .index 22 x (.const (.int .i64 0))) (hx : a.eval x = .agg (kx_out.map vb).toArray) : (execOp a.eval o).run Try.prog w = .ok (.value (.int .u8 105)) w := by
  unfold execOp
  simp only [ho, hx]
  kernel_rfl
set_option maxRecDepth 100000 in
set_option maxHeartbeats 4000000 in
theorem awake6 (w : World) : Calls Try.prog 28 #[] w fun e w' => e = .returned (.bool true) ∧ Below w.heap.size w w' := by
  have hal := nu_alloc (nu_refl w) (.cells (z16n.map vb).toArray 22)
  have HG := Lib.hid (Blk.made w 22 (z16n.map vb).toArray)
  go_enter Try.func28, Try.ntmps28
  go_upto_region 3 with fail
  change Code.wp _ _ _ _ (w.alloc (.cells (z16n.map vb).toArray 22))
  generalize w.alloc (.cells (z16n.map vb).toArray 22) = w1 at *
  obtain ⟨G, hG⟩ : ∃ G, G = w.heap.size := ⟨_, rfl⟩
  rw [← hG] at HG
  rw [← hG]
  obtain ⟨B0, hB0⟩ : ∃ B0, B0 = w1.heap.size := ⟨_, rfl⟩
  have HGB := Lib.hid (show w.heap.size ≤ G ∧ G < B0 from ⟨by omega, by rw [hB0]; exact HG.out.lt⟩)
  have Hz := Lib.hid (show B0 ≤ w1.heap.size by omega)
  clear hG hB0
  have HO := Lib.hid (show OwnB w1 B0 5 (.slice none 0 0) (List.range 0) from ⟨⟨by simp, .inl ⟨rfl, rfl⟩⟩, by simp⟩)
  go_wp2_with fail
  go_loopw [1, 3] (fun v i wr => ∃ k : Nat, k ≤ 16 ∧ i = .int .i64 k ∧ OwnB wr B0 5 v (List.range k) ∧ Blk wr G 22 ((doneF st0 z16n k).map vb).toArray ∧ Below w.heap.size w wr ∧ B0 ≤ wr.heap.size) (fun _ i _ => 16 - (intOf i).toNat)
  case atStart => exact ⟨0, by omega, rfl, HO.out, HG.out, hal, Hz.out⟩
  case round =>
    clear HO HG hal Hz
    obtain ⟨k, hk16, rfl, hO, hG, hn, hz⟩ := hrel
    by_cases hk : k < 16
    · have hki : (k : Int) < 16 := by omega
      have HO := Lib.hid hO
      have HG := Lib.hid hG
      have Hz := Lib.hid hz
      have Hrl := Lib.hid (show (List.range k).length < 140737488355328 by rw [List.length_range]; omega)
      obtain ⟨s, hs⟩ : ∃ s, s = 17 * k := ⟨_, rfl⟩
      have e1 : IntKind.i64.wrap (17 * (k : Int)) = (s : Int) := by rw [IntKind.wrap_i64]; omega
      have e2 : IntKind.u8.wrap (s : Int) = (s : Int) := by rw [IntKind.wrap_u8]; omega
      have e4 : IntKind.u8.wrap (k : Int) = (k : Int) := by rw [IntKind.wrap_u8]; omega
      have hsa : st0[k]? = some s := by rw [hs]; exact st0_at k hk
      have Hsa := Lib.hid hsa
      clear hO hG hz hs hsa
      go_upto_region 7 with (at_builtin; refine wpList_byte_more rfl (.tmp 10) (.tmp 13) rfl HO.out Hz.out Hrl.out _ k (by omega) (by first | rfl | assumption) rfl rfl ?_)
      intro v' w3 hown3 hb3
      have HG3 := Lib.hid (HG.out.below hb3 HGB.out.2)
      have HO3 := Lib.hid (show OwnB w3 B0 5 v' (List.range (k + 1)) by rw [List.range_succ]; exact hown3)
      have hn3 := hn.trans (hb3.mono (by have := HGB.out; omega))
      have hz3 := Nat.le_trans Hz.out hb3.size
      have hold : (doneF st0 z16n k)[k]? = some 0 := by
        rw [doneF_old _ _ 16 k k rfl (Nat.le_refl _) hk16]
        exact z16_at k hk
      have c3 : w3.cell? ⟨G, k, none⟩ = some (.int .u8 ((0 : Nat) : Int)) := HG3.out.at k _ (arrg_at vb _ k 0 hold)
      have f3 := HG3.out.free k
      have h1 := HG3.out.put k (vb s)
      rw [arrg_set, doneF_set _ _ 16 k s rfl rfl hk Hsa.out] at h1
      have HG4 := Lib.hid h1
      have HO4 := Lib.hid (show OwnB (w3.setCell ⟨G, k, none⟩ (vb s)) B0 5 v' (List.range (k + 1)) from HO3.out.kept (gb_set (gb_refl w3 (some G)) (p := ⟨G, k, none⟩) (.inl rfl) (vb s)) HGB.out.2)
      have hn4 := nu_set hn3 (p := ⟨G, k, none⟩) HGB.out.1 (vb s)
      have hz4 : B0 ≤ (w3.setCell ⟨G, k, none⟩ (vb s)).heap.size := by simpa [World.setCell] using hz3
      simp only [vb] at HG4 HO4 hn4 hz4
      have Hz4 := Lib.hid hz4
      clear hown3 hb3 hn hn3 hz3 hold h1 HG HO HG3 HO3 Hz Hrl hz4
      go_wp2_with fail
      clear c3 f3 e1 e2 e4
      generalize w3.setCell ⟨G, k, none⟩ (.int .u8 (s : Int)) = w4 at *
      go_roundw
      case rel => first | exact ⟨k + 1, by omega, by go_num, HO4.out, HG4.out, hn4, Hz4.out⟩ | ((repeat apply Exists.intro); exact ⟨⟨k + 1, by omega, by go_num, HO4.out, HG4.out, hn4, Hz4.out⟩, rfl⟩)
      case measure => simp [intOf]; omega
    · obtain rfl : k = 16 := by omega
      obtain ⟨a, cap, rfl, h1, h2, hB⟩ := hO.reads
      have HNw := Lib.hid (new_good (.inl rfl) (show BytesIn wr a 16 cap (List.range 16) from hB))
      have HG2 := Lib.hid (show Blk wr G 22 (st0.map vb).toArray from hG)
      clear hO h1 h2 hB hG hz
      obtain ⟨wo, rfl⟩ : ∃ q : World, q = wr := ⟨_, rfl⟩
      go_wp2_with fail
      refine HNw.out.mono ?_
      rintro e w4 ⟨C, rfl, hC, hb4⟩
      have HC := Lib.hid (show CB w4 C 10 kx_W G st0 from ⟨by rw [← kx_expand]; exact hC, HG2.out.below hb4 HG2.out.lt⟩)
      have hn4 := nu_trans hn hb4
      have HE := Lib.hid (enc_call HC.out.c kx_key st0_ok kx_enc)
      clear hC hb4 hn HG2 HNw
      go_wp2_with (refine wpList_run _ (by rfl) (e16_load HC.out.b rfl (.tmp 2) rfl rfl) ?_)
      refine HE.out.mono ?_
      rintro e w5 ⟨rfl, hb5⟩
      have hn5 := nu_trans hn4 hb5
      go_wp2_with (refine wpList_run _ (by rfl) (exec_first (.tmp 30) rfl rfl) ?_)
      go_ret
      exact ⟨rfl, hn5⟩
end Go.Proofs.Ytnojbjconiddoaa
