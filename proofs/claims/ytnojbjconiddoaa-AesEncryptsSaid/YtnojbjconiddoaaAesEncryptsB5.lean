/-
  What the proof of AesEncrypts rests on, part 5 of 6.
-/
import Derived.Test.YtnojbjconiddoaaAesEncryptsB4
namespace Go.Proofs.Ytnojbjconiddoaa
open Go.ChangeShapes Go.WideShapes Go.ChangeAt Go.RowKit

section
variable {o : Oper} {a : Act} {w : World}
theorem e16_eql (xs ys : List Nat) (v : Bool) (hv : decide (xs = ys) = v) (h1 : xs.length = 16) (h2 : ys.length = 16) (x y : Operand) (ho : o.op = .binOp .eql 22 x y 22) (hx : a.eval x = .agg (xs.map vb).toArray) (hy : a.eval y = .agg (ys.map vb).toArray) :
    (execOp a.eval o).run Try.prog w = .ok (.value (.bool v)) w := by
  have he := run_equalIn_bytes' (P := Try.prog) w (t := 22) (e := 5) (n := 16) (i := (Try.prog.info? 5).get!) (k := .u8) 9998 (by kernel_rfl) (by kernel_rfl) (by kernel_rfl) (by kernel_rfl) (by kernel_rfl) xs ys h1 h2
  rw [hv] at he
  unfold execOp
  simp only [ho, hx, hy]
  simp [run_eqGuard_agg (P := Try.prog) w .eql 22 x y (xs.map vb).toArray (ys.map vb).toArray (by kernel_rfl), run_eql_struct, he]
theorem e16_same (xs : List Nat) (h1 : xs.length = 16) (x y : Operand) (ho : o.op = .binOp .eql 22 x y 22) (hx : a.eval x = .agg (xs.map vb).toArray) (hy : a.eval y = .agg (xs.map vb).toArray) :
    (execOp a.eval o).run Try.prog w = .ok (.value (.bool true)) w := e16_eql xs xs true (by simp) h1 h1 x y ho hx hy
theorem e16_load {g : Nat} {t : TypeId} {xs : List Nat} (hb : Blk w g t (xs.map vb).toArray) (h1 : xs.length = 16) (x : Operand) (ho : o.op = .load 22 x) (hx : a.eval x = .pointer (some ⟨g, 0, none⟩)) :
    (execOp a.eval o).run Try.prog w = .ok (.value (.agg (xs.map vb).toArray)) w :=
  exec_load_mid (P := Try.prog) (w := w) 22 x g 0 (xs.map vb) (.array 16 5) ho hx (range_blk hb) (by kernel_rfl) rfl (by rw [List.length_map, h1]; kernel_rfl)
theorem exec_eqb (v : Bool) (x y : Operand) (ho : o.op = .binOp .eql 4 x y 4) (hx : a.eval x = .bool v) (hy : a.eval y = .bool v) :
    (execOp a.eval o).run Try.prog w = .ok (.value (.bool true)) w := by
  cases v
  · unfold execOp
    simp only [ho, hx, hy]
    kernel_rfl
  · unfold execOp
    simp only [ho, hx, hy]
    kernel_rfl
end
theorem ownB_under {w w' : World} {base : Nat} {e : TypeId} {v : Value} {xs : List Nat} (h : OwnB w base e v xs) (hb : Below w.heap.size w w') : OwnB w' base e v xs :=
  ⟨h.1.kept (gb_of_below hb none) (by cases v.ownBlock <;> simp), h.2⟩
/-- One byte more, out of a slice that was made for it. -/
theorem wpList_byte_more {ops : Array Oper} {rest : List Oper} {o : Oper} {a : Act} {Q : Exit → Act → World → Prop} (hgd : o.guard = none) (s x : Operand)
    (ho : o.op = .call { callee := .builtin .append, args := #[s, x], argTypes := #[27, 27] }) {w : World} {base : Nat} {v : Value} {xs : List Nat} (hown : OwnB w base 5 v xs) (hb : base ≤ w.heap.size) (hl : xs.length < 140737488355328)
    (y : Int) (n : Nat) (hn : n < 256) (hy : y = (n : Int)) (hs : a.eval s = v) (hx : a.eval x = .slice (some ⟨w.heap.size, 0, none⟩) 1 1)
    (h : ∀ v' w', OwnB w' base 5 v' (xs ++ [n]) → Below base w w' → wpList Try.prog ops Q rest (a.put o.dst v') w') : wpList Try.prog ops Q (o :: rest) a (w.alloc (.cells #[.int .u8 y] 5)) := by
  subst hy
  obtain ⟨i0, hi, hz0, hz1, hz2⟩ := info_parts info_u8
  have hal := nu_alloc (nu_refl w) (.cells #[.int .u8 (n : Int)] 5)
  refine wpList_append_own _ hgd s x 27 ho base 5 i0 (.int .u8 0) 1 1 Try.underlying27 hi hz0 hz1 hz2 rfl (by decide) v xs.length (xs.map vb) hs (ownB_under hown hal).1 ⟨w.heap.size, 0, none⟩ 1 1 [.int .u8 (n : Int)] hx rfl (cell_one_new _ _ _)
    (by intro u hu; obtain rfl := List.mem_singleton.1 hu; rfl) (by unfold maxLen; omega) (by omega) (by simp; omega) ?_
  intro v' w' h1 h2 _
  refine h v' w' ⟨by rw [List.length_append, List.map_append]; exact h1, fun z hz => ?_⟩ ((hal.mono hb).grown h2 (by simp; omega) (fun k hk => (hown.1.lt k hk).1))
  rcases List.mem_append.1 hz with hz | hz
  · exact hown.2 z hz
  · simp at hz
    omega
end Go.Proofs.Ytnojbjconiddoaa

namespace Go.Proofs.Ytnojbjconiddoaa
open Go.ChangeShapes Go.WideShapes Go.ChangeAt Go.RowKit Fld Aes
set_option linter.unusedSimpArgs false

/-- Words that R rounds can use. -/
structure Keyed (W : List Nat) (R : Nat) : Prop where
  pos : 0 < R
  few : R ≤ 14
  small : Small W
  len : W.length = 4 * (R + 1)
theorem keyed_of {key : List Nat} (h : ∀ x ∈ key, x < 256) (hl : key.length = 16 ∨ key.length = 32) : Keyed (expand key) (key.length / 4 + 6) :=
  ⟨by omega, by omega, expand_small h, by rw [expand_len]⟩
/-- What New made. -/
def NewIs (w : World) (key : List Nat) (e : Ending) (w' : World) : Prop :=
  ∃ C, e = .returned (.tuple #[.pointer (some ⟨C, 0, none⟩), .int .i64 0]) ∧ CiphAt w' C (expand key) (key.length / 4 + 6) ∧ Below w.heap.size w w'
theorem new_good {L : Nat} (hL : L = 16 ∨ L = 32) {a : Option Addr} {cap : Nat} {key : List Nat} {w : World} (hx : BytesIn w a L cap key) :
    Calls Try.prog 26 #[.slice a L cap] w (NewIs w key) := by
  have hl : key.length = L := hx.1.1
  refine (aesNew_any (L / 4) L (by omega) (by omega) a cap key w hx).mono ?_
  rintro e w' ⟨C, x, B0, v, he, hN⟩
  have hp : 0 < (expand key).length := by rw [expand_len]; omega
  refine ⟨C, he, ?_, hN.nu⟩
  rw [hl]
  exact ciphAt_new hN hp
theorem enc_call {w : World} {C R : Nat} {W : List Nat} (hC : CiphAt w C W R) (hK : Keyed W R) {b D : List Nat} (hb : St16 b) (hD : enc W R b = D) :
    Calls Try.prog 29 #[.pointer (some ⟨C, 0, none⟩), .agg (b.map vb).toArray] w fun e w' => e = .returned (.agg (D.map vb).toArray) ∧ Below w.heap.size w w' := by
  rw [← hD]
  exact encrypt_any hC hK.small hK.pos hK.few hK.len b hb
theorem dec_call {w : World} {C R : Nat} {W : List Nat} (hC : CiphAt w C W R) (hK : Keyed W R) {b D : List Nat} (hb : St16 b) (hD : dec W R b = D) :
    Calls Try.prog 32 #[.pointer (some ⟨C, 0, none⟩), .agg (b.map vb).toArray] w fun e w' => e = .returned (.agg (D.map vb).toArray) ∧ Below w.heap.size w w' := by
  rw [← hD]
  exact decrypt_any hC hK.small hK.pos hK.few hK.len b hb
/-- A cipher and a block. -/
structure CB (w : World) (C R : Nat) (W : List Nat) (B : Nat) (b : List Nat) : Prop where
  c : CiphAt w C W R
  b : Blk w B 22 (b.map vb).toArray
theorem CB.below {w w' : World} {C R : Nat} {W : List Nat} {B : Nat} {b : List Nat} (h : CB w C R W B b) (hb : Below w.heap.size w w') : CB w' C R W B b := ⟨h.c.below hb, h.b.below hb h.b.lt⟩

theorem CiphAt.drew {w : World} {C R : Nat} {W : List Nat} (h : CiphAt w C W R) : CiphAt w.drew C W R := h.below (nu_drew (nu_refl w))
theorem CB.drew {w : World} {C R : Nat} {W : List Nat} {B : Nat} {b : List Nat} (h : CB w C R W B b) : CB w.drew C R W B b := h.below (nu_drew (nu_refl w))
theorem kx_key : Keyed kx_W 10 := by rw [← kx_expand]; exact keyed_of (by decide) (.inl rfl)
theorem ky_key : Keyed ky_W 14 := by rw [← ky_expand]; exact keyed_of (by decide) (.inr rfl)
theorem st0_at : ∀ k, k < 16 → st0[k]? = some (17 * k) := by decide
theorem kx_out16 : kx_out.length = 16 := rfl

theorem exec_first {o : Oper} {a : Act} {w : World} (x : Operand) (ho : o.op = .index 22 x (.const (.int .i64 0))) (hx : a.eval x = .agg (kx_out.map vb).toArray) : (execOp a.eval o).run Try.prog w = .ok (.value (.int .u8 105)) w := by
  unfold execOp
  simp only [ho, hx]
  kernel_rfl
set_option maxRecDepth 100000 in
set_option maxHeartbeats 4000000 in
theorem awake6 (w : World) : Calls Try.prog 28 #[] w fun e w' => e = .returned (.bool true) ∧ Below w.heap.size w w' := by
  have hal := nu_alloc (nu_refl w) (.cells (z16n.map vb).toArray 22)
  have HG := Lib.hid (Blk.made w 22 (z16n.map vb).toArray)
  go_enter Try.func28, Try.ntmps28
  go_upto_region 3 with fail
  change Code.wp _ _ _ _ (w.alloc (.cells (z16n.map vb).toArray 22))
  generalize w.alloc (.cells (z16n.map vb).toArray 22) = w1 at *
  obtain ⟨G, hG⟩ : ∃ G, G = w.heap.size := ⟨_, rfl⟩
  rw [← hG] at HG
  rw [← hG]
  obtain ⟨B0, hB0⟩ : ∃ B0, B0 = w1.heap.size := ⟨_, rfl⟩
  have HGB := Lib.hid (show w.heap.size ≤ G ∧ G < B0 from ⟨by omega, by rw [hB0]; exact HG.out.lt⟩)
  have Hz := Lib.hid (show B0 ≤ w1.heap.size by omega)
  clear hG hB0
  have HO := Lib.hid (show OwnB w1 B0 5 (.slice none 0 0) (List.range 0) from ⟨⟨by simp, .inl ⟨rfl, rfl⟩⟩, by simp⟩)
  go_wp2_with fail
  go_loopw [1, 3] (fun v i wr => ∃ k : Nat, k ≤ 16 ∧ i = .int .i64 k ∧ OwnB wr B0 5 v (List.range k) ∧ Blk wr G 22 ((doneF st0 z16n k).map vb).toArray ∧ Below w.heap.size w wr ∧ B0 ≤ wr.heap.size) (fun _ i _ => 16 - (intOf i).toNat)
  case atStart => exact ⟨0, by omega, rfl, HO.out, HG.out, hal, Hz.out⟩
  case round =>
    clear HO HG hal Hz
    obtain ⟨k, hk16, rfl, hO, hG, hn, hz⟩ := hrel
    by_cases hk : k < 16
    · have hki : (k : Int) < 16 := by omega
      have HO := Lib.hid hO
      have HG := Lib.hid hG
      have Hz := Lib.hid hz
      have Hrl := Lib.hid (show (List.range k).length < 140737488355328 by rw [List.length_range]; omega)
      obtain ⟨s, hs⟩ : ∃ s, s = 17 * k := ⟨_, rfl⟩
      have e1 : IntKind.i64.wrap (17 * (k : Int)) = (s : Int) := by rw [IntKind.wrap_i64]; omega
      have e2 : IntKind.u8.wrap (s : Int) = (s : Int) := by rw [IntKind.wrap_u8]; omega
      have e4 : IntKind.u8.wrap (k : Int) = (k : Int) := by rw [IntKind.wrap_u8]; omega
      have hsa : st0[k]? = some s := by rw [hs]; exact st0_at k hk
      have Hsa := Lib.hid hsa
      clear hO hG hz hs hsa
      go_upto_region 7 with (at_builtin; refine wpList_byte_more rfl (.tmp 10) (.tmp 13) rfl HO.out Hz.out Hrl.out _ k (by omega) (by first | rfl | assumption) rfl rfl ?_)
      intro v' w3 hown3 hb3
      have HG3 := Lib.hid (HG.out.below hb3 HGB.out.2)
      have HO3 := Lib.hid (show OwnB w3 B0 5 v' (List.range (k + 1)) by rw [List.range_succ]; exact hown3)
      have hn3 := hn.trans (hb3.mono (by have := HGB.out; omega))
      have hz3 := Nat.le_trans Hz.out hb3.size
      have hold : (doneF st0 z16n k)[k]? = some 0 := by
        rw [doneF_old _ _ 16 k k rfl (Nat.le_refl _) hk16]
        exact z16_at k hk
      have c3 : w3.cell? ⟨G, k, none⟩ = some (.int .u8 ((0 : Nat) : Int)) := HG3.out.at k _ (arrg_at vb _ k 0 hold)
      have f3 := HG3.out.free k
      have h1 := HG3.out.put k (vb s)
      rw [arrg_set, doneF_set _ _ 16 k s rfl rfl hk Hsa.out] at h1
      have HG4 := Lib.hid h1
      have HO4 := Lib.hid (show OwnB (w3.setCell ⟨G, k, none⟩ (vb s)) B0 5 v' (List.range (k + 1)) from HO3.out.kept (gb_set (gb_refl w3 (some G)) (p := ⟨G, k, none⟩) (.inl rfl) (vb s)) HGB.out.2)
      have hn4 := nu_set hn3 (p := ⟨G, k, none⟩) HGB.out.1 (vb s)
      have hz4 : B0 ≤ (w3.setCell ⟨G, k, none⟩ (vb s)).heap.size := by simpa [World.setCell] using hz3
      simp only [vb] at HG4 HO4 hn4 hz4
      have Hz4 := Lib.hid hz4
      clear hown3 hb3 hn hn3 hz3 hold h1 HG HO HG3 HO3 Hz Hrl hz4
      go_wp2_with fail
      clear c3 f3 e1 e2 e4
      generalize w3.setCell ⟨G, k, none⟩ (.int .u8 (s : Int)) = w4 at *
      go_roundw
      case rel => first | exact ⟨k + 1, by omega, by go_num, HO4.out, HG4.out, hn4, Hz4.out⟩ | ((repeat apply Exists.intro); exact ⟨⟨k + 1, by omega, by go_num, HO4.out, HG4.out, hn4, Hz4.out⟩, rfl⟩)
      case measure => simp [intOf]; omega
    · obtain rfl : k = 16 := by omega
      obtain ⟨a, cap, rfl, h1, h2, hB⟩ := hO.reads
      have HNw := Lib.hid (new_good (.inl rfl) (show BytesIn wr a 16 cap (List.range 16) from hB))
      have HG2 := Lib.hid (show Blk wr G 22 (st0.map vb).toArray from hG)
      clear hO h1 h2 hB hG hz
      obtain ⟨wo, rfl⟩ : ∃ q : World, q = wr := ⟨_, rfl⟩
      go_wp2_with fail
      refine HNw.out.mono ?_
      rintro e w4 ⟨C, rfl, hC, hb4⟩
      have HC := Lib.hid (show CB w4 C 10 kx_W G st0 from ⟨by rw [← kx_expand]; exact hC, HG2.out.below hb4 HG2.out.lt⟩)
      have hn4 := nu_trans hn hb4
      have HE := Lib.hid (enc_call HC.out.c kx_key st0_ok kx_enc)
      clear hC hb4 hn HG2 HNw
      go_wp2_with (refine wpList_run _ (by rfl) (e16_load HC.out.b rfl (.tmp 2) rfl rfl) ?_)
      refine HE.out.mono ?_
      rintro e w5 ⟨rfl, hb5⟩
      have hn5 := nu_trans hn4 hb5
      go_wp2_with (refine wpList_run _ (by rfl) (exec_first (.tmp 30) rfl rfl) ?_)
      go_ret
      exact ⟨rfl, hn5⟩
end Go.Proofs.Ytnojbjconiddoaa

namespace Aes
open Fld
def boxL : List Nat := (List.range 256).map sb
def backL : List Nat := (List.range 256).map bs
theorem boxL_len : boxL.length = 256 := by simp [boxL]
theorem backL_len : backL.length = 256 := by simp [backL]
theorem boxL_at (i : Nat) (h : i < 256) : boxL[i]? = some (sb i) := by simp [boxL, h]
theorem backL_at (i : Nat) (h : i < 256) : backL[i]? = some (bs i) := by simp [backL, h]
/-- The back box as it grows. -/
def backF : Nat → List Nat
  | 0 => List.replicate 256 0
  | k + 1 => (backF k).set (sb k) k
theorem backF_len (k : Nat) : (backF k).length = 256 := by
  induction k with
  | zero => exact List.length_replicate
  | succ k ih => rw [backF, List.length_set, ih]
theorem backF_at (k : Nat) (hk : k ≤ 256) (s : Nat) (hs : s < 256) : (backF k)[s]? = some (if bs s < k then bs s else 0) := by
  induction k with
  | zero => rw [backF, List.getElem?_replicate, if_pos hs, if_neg (Nat.not_lt_zero _)]
  | succ k ih =>
    rw [backF, List.getElem?_set]
    by_cases e : sb k = s
    · rw [if_pos e, if_pos (by rw [backF_len, e]; exact hs), ← e, bs_sb k (by omega), if_pos (by omega)]
    · rw [if_neg e, ih (by omega)]
      have hne : bs s ≠ k := fun h => e (by rw [← h]; exact sb_bs s hs)
      by_cases h : bs s < k
      · rw [if_pos h, if_pos (by omega)]
      · rw [if_neg h, if_neg (by omega)]
theorem backF_all : backF 256 = backL := by
  apply List.ext_getElem?
  intro i
  by_cases h : i < 256
  · rw [backF_at 256 (Nat.le_refl _) i h, backL_at i h, if_pos (bs_lt i)]
  · rw [List.getElem?_eq_none (by rw [backF_len]; omega), List.getElem?_eq_none (by rw [backL_len]; omega)]
/-- The sum of a column's products, so far. -/
def mixJ (f b : List Nat) (c r : Nat) : Nat → Nat
  | 0 => 0
  | j + 1 => mixJ f b c r j ^^^ gm (f.getD ((j + 4 - r) % 4) 0) (b.getD (4 * c + j) 0)
theorem mixJ_lt (f b : List Nat) (hf : ∀ x ∈ f, x < 256) (c r j : Nat) : mixJ f b c r j < 256 := by
  induction j with
  | zero => show (0 : Nat) < 256; omega
  | succ j ih => exact xor_lt8 ih (gm_lt _ _ (getD_lt hf _))
theorem mixJ_four (f0 f1 f2 f3 : Nat) (b : List Nat) (c r : Nat) (hc : c < 4) (hr : r < 4) : mixJ [f0, f1, f2, f3] b c r 4 = mixAt f0 f1 f2 f3 b (4 * c + r) := by
  have h : (4 * c + r) / 4 * 4 = 4 * c := by omega
  have h0 : (4 * c + r) % 4 = r := by omega
  have h1 : (4 * c + r + 1) % 4 = (r + 1) % 4 := by omega
  have h2 : (4 * c + r + 2) % 4 = (r + 2) % 4 := by omega
  have h3 : (4 * c + r + 3) % 4 = (r + 3) % 4 := by omega
  unfold mixAt
  rw [h, h0, h1, h2, h3]
  have hr4 : r = 0 ∨ r = 1 ∨ r = 2 ∨ r = 3 := by omega
  rcases hr4 with rfl | rfl | rfl | rfl
  · show 0 ^^^ gm f0 (b.getD (4 * c + 0) 0) ^^^ gm f1 (b.getD (4 * c + 1) 0) ^^^ gm f2 (b.getD (4 * c + 2) 0) ^^^ gm f3 (b.getD (4 * c + 3) 0) = gm f0 (b.getD (4 * c + 0) 0) ^^^ gm f1 (b.getD (4 * c + 1) 0) ^^^ gm f2 (b.getD (4 * c + 2) 0) ^^^ gm f3 (b.getD (4 * c + 3) 0)
    rw [Nat.zero_xor]
  · show 0 ^^^ gm f3 (b.getD (4 * c + 0) 0) ^^^ gm f0 (b.getD (4 * c + 1) 0) ^^^ gm f1 (b.getD (4 * c + 2) 0) ^^^ gm f2 (b.getD (4 * c + 3) 0) = gm f0 (b.getD (4 * c + 1) 0) ^^^ gm f1 (b.getD (4 * c + 2) 0) ^^^ gm f2 (b.getD (4 * c + 3) 0) ^^^ gm f3 (b.getD (4 * c + 0) 0)
    rw [Nat.zero_xor]
    ac_rfl
  · show 0 ^^^ gm f2 (b.getD (4 * c + 0) 0) ^^^ gm f3 (b.getD (4 * c + 1) 0) ^^^ gm f0 (b.getD (4 * c + 2) 0) ^^^ gm f1 (b.getD (4 * c + 3) 0) = gm f0 (b.getD (4 * c + 2) 0) ^^^ gm f1 (b.getD (4 * c + 3) 0) ^^^ gm f2 (b.getD (4 * c + 0) 0) ^^^ gm f3 (b.getD (4 * c + 1) 0)
    rw [Nat.zero_xor]
    ac_rfl
  · show 0 ^^^ gm f1 (b.getD (4 * c + 0) 0) ^^^ gm f2 (b.getD (4 * c + 1) 0) ^^^ gm f3 (b.getD (4 * c + 2) 0) ^^^ gm f0 (b.getD (4 * c + 3) 0) = gm f0 (b.getD (4 * c + 3) 0) ^^^ gm f1 (b.getD (4 * c + 0) 0) ^^^ gm f2 (b.getD (4 * c + 1) 0) ^^^ gm f3 (b.getD (4 * c + 2) 0)
    rw [Nat.zero_xor]
    ac_rfl
theorem mix_at4 (f0 f1 f2 f3 : Nat) (b : List Nat) (c r : Nat) (hc : c < 4) (hr : r < 4) : (mix f0 f1 f2 f3 b)[4 * c + r]? = some (mixJ [f0, f1, f2, f3] b c r 4) := by
  rw [mixJ_four f0 f1 f2 f3 b c r hc hr]
  unfold mix
  rw [List.getElem?_map, List.getElem?_range (by omega)]
  rfl
end Aes
namespace Go.Proofs.Ytnojbjconiddoaa
open Go.ChangeShapes Go.WideShapes Go.ChangeAt Go.RowKit Fld Aes
/-- The cells of a document's key: its rows, its box, its back box. -/
def keyL (v : Value) : List Value := v :: (boxL.map vb ++ backL.map vb)
theorem keyL_len (v : Value) : (keyL v).length = 513 := by rw [keyL, List.length_cons, List.length_append, List.length_map, List.length_map, boxL_len, backL_len]
theorem keyL_0 (v : Value) : (keyL v).toArray[0]? = some v := by rw [List.getElem?_toArray, keyL, List.getElem?_cons_zero]
theorem keyL_box (v : Value) (i : Nat) (h : i < 256) : (keyL v).toArray[1 + i]? = some (vb (sb i)) := by
  rw [List.getElem?_toArray, Nat.add_comm, keyL, List.getElem?_cons_succ, List.getElem?_append_left (by rw [List.length_map, boxL_len]; exact h), List.getElem?_map, boxL_at i h]
  rfl
theorem keyL_back (v : Value) (i : Nat) (h : i < 256) : (keyL v).toArray[257 + i]? = some (vb (bs i)) := by
  rw [List.getElem?_toArray, show 257 + i = (256 + i) + 1 by omega, keyL, List.getElem?_cons_succ, List.getElem?_append_right (by rw [List.length_map, boxL_len]; omega), List.length_map, boxL_len, show 256 + i - 256 = i by omega, List.getElem?_map, backL_at i h]
  rfl
/-- Rows of four bytes that can be read. -/
def RowsAt (w : World) (v : Value) (W : List Nat) : Prop := ∃ m c cur, v = .slice (some ⟨m, 0, none⟩) W.length c ∧ Blk w m 51 cur ∧ cur.toList.take (W.length * 4) = (flat W).map vb ∧ W.length ≤ c ∧ c ≤ maxLen
theorem RowsAt.below {w w' : World} {v : Value} {W : List Nat} (h : RowsAt w v W) (hb : Below w.heap.size w w') : RowsAt w' v W := by
  obtain ⟨m, c, cur, h1, h2, h3⟩ := h
  exact ⟨m, c, cur, h1, h2.below hb h2.lt, h3⟩
theorem rows_cell {w : World} {m : Nat} {cur : Array Value} {W : List Nat} (hm : Blk w m 51 cur) (ht : cur.toList.take (W.length * 4) = (flat W).map vb) (i j : Nat) (hi : i < W.length) (hj : j < 4) :
    w.cell? ⟨m, i * 4 + j, none⟩ = some (.int .u8 ((wb (W.getD i 0) j : Nat) : Int)) := by
  refine hm.at (i * 4 + j) _ ?_
  have e1 : (cur.toList.take (W.length * 4))[i * 4 + j]? = some (vb (wb (W.getD i 0) j)) := by
    rw [ht, List.getElem?_map, show i * 4 + j = 4 * i + j by omega, flat_at W i j hi hj]
    rfl
  rw [List.getElem?_take, if_pos (by omega)] at e1
  rw [← Array.getElem?_toList]
  exact e1
end Go.Proofs.Ytnojbjconiddoaa

namespace Go.Proofs.Ytnojbjconiddoaa
open Go.ChangeShapes Go.WideShapes Go.ChangeAt Go.RowKit

theorem step_store_blk {P : Program} {ops : Array Oper} {o : Oper} {a : Act} {w : World} {K : Act → World → Prop} {Q : Exit → Act → World → Prop} {G : Prop} (hgd : o.guard = none) (ty : TypeId) (x y : Operand) (ho : o.op = .store ty x y) (g : Nat) (vs : List Value) (hx : a.eval x = .pointer (some ⟨g, 0, none⟩)) (hy : a.eval y = .agg vs.toArray)
    (t : TypeId) (cs : Array Value) (hb : Blk w g t cs) (hl : vs.length = cs.size) (hi : (P.info? ty).map (·.size) = some vs.length) (h1 : ∀ v ∈ vs, v.oneCell' = true)
    (h : K (a.put o.dst undef) (w.setCells g 0 vs)) : if Region.wanted o (yielded ops a.tmps) = true then Oper.wp P o a w K Q else G := by
  have hw : Region.wanted o (yielded ops a.tmps) = true := by simp [Region.wanted, hgd]
  rw [if_pos hw]
  exact wp_store_mid ty x y ho g 0 vs.toArray hx hy (hb.there 0 _ (by simp; omega)) (by simpa using hi) (all_oneCell_toArray h1) (by simpa using h)
end Go.Proofs.Ytnojbjconiddoaa

namespace Go.Proofs.Ytnojbjconiddoaa
open Go.ChangeShapes Go.WideShapes Go.ChangeAt Go.RowKit Fld Aes
set_option linter.unusedSimpArgs false

theorem zero_256 : Try.zeroCells42 = ((List.replicate 256 0).map vb).toArray := by kernel_rfl
theorem size_256 {xs : List Nat} (h : xs.length = 256) : (Try.prog.info? 42).map (·.size) = some (xs.map vb).length := by rw [List.length_map, h]; kernel_rfl
theorem e256_load {o : Oper} {a : Act} {w : World} {g : Nat} {t : TypeId} {xs : List Nat} (hb : Blk w g t (xs.map vb).toArray) (h1 : xs.length = 256) (x : Operand) (ho : o.op = .load 42 x) (hx : a.eval x = .pointer (some ⟨g, 0, none⟩)) :
    (execOp a.eval o).run Try.prog w = .ok (.value (.agg (xs.map vb).toArray)) w :=
  exec_load_mid (P := Try.prog) (w := w) 42 x g 0 (xs.map vb) (.array 256 5) ho hx (range_blk hb) (by kernel_rfl) rfl (size_256 h1)
theorem results_cell_cell {fn : Func} {p q : Tmp} {ty : TypeId} (h : fn.results = #[.cell p ty, .cell q ty]) (tmps : Array Value) (P : Program) (w : World) :
    (results fn tmps).run P w = ((asAddr (tmps.getD p undef)).run P w).andThen fun a w1 => ((loadVar ty a).run P w1).andThen fun v w2 => ((asAddr (tmps.getD q undef)).run P w2).andThen fun a2 w3 => ((loadVar ty a2).run P w3).andThen fun v2 w4 => .ok (.tuple #[v, v2]) w4 := by
  simp only [results, h]
  simp [Sem.run_bind, Result.andThen]
theorem results_two {fn : Func} {p q : Tmp} {ty : TypeId} (h : fn.results = #[.cell p ty, .cell q ty]) (tmps : Array Value) {w : World} {g g' : Nat} {t t' : TypeId} {cs cs' : Array Value} (hp : tmps.getD p undef = .pointer (some ⟨g, 0, none⟩)) (hq : tmps.getD q undef = .pointer (some ⟨g', 0, none⟩)) (hb : Blk w g t cs) (hb' : Blk w g' t' cs')
    {n : Nat} {e : TypeId} (hu : Try.prog.underlying ty = some (.array n e)) (hi : (Try.prog.info? ty).map (·.size) = some cs.size) (hi' : (Try.prog.info? ty).map (·.size) = some cs'.size) : (results fn tmps).run Try.prog w = .ok (.tuple #[.agg cs, .agg cs']) w := by
  rw [results_cell_cell h, hp, hq]
  simp [asAddr, run_loadVar_row w g t ty cs (0, 0) (.array n e) hb hu rfl hi, run_loadVar_row w g' t' ty cs' (0, 0) (.array n e) hb' hu rfl hi']

set_option maxRecDepth 100000 in
set_option maxHeartbeats 4000000 in
theorem boxes_any (w : World) : Calls Try.prog 50 #[] w fun e w' => e = .returned (.tuple #[.agg (boxL.map vb).toArray, .agg (backL.map vb).toArray]) ∧ Below w.heap.size w w' := by
  have hal := nu_alloc (nu_alloc (nu_alloc (nu_alloc (nu_refl w) (.cells Try.zeroCells42 42)) (.cells Try.zeroCells42 42)) (.cells Try.zeroCells42 42)) (.cells Try.zeroCells42 42)
  have HP := Lib.hid ((((Blk.made w 42 Try.zeroCells42).alloc (.cells Try.zeroCells42 42)).alloc (.cells Try.zeroCells42 42)).alloc (.cells Try.zeroCells42 42))
  have HQ := Lib.hid (((Blk.made1 w (.cells Try.zeroCells42 42) 42 Try.zeroCells42).alloc (.cells Try.zeroCells42 42)).alloc (.cells Try.zeroCells42 42))
  have HX := Lib.hid ((Blk.made2 w (.cells Try.zeroCells42 42) (.cells Try.zeroCells42 42) 42 Try.zeroCells42).alloc (.cells Try.zeroCells42 42))
  have HY := Lib.hid (Blk.made3 w (.cells Try.zeroCells42 42) (.cells Try.zeroCells42 42) (.cells Try.zeroCells42 42) 42 Try.zeroCells42)
  go_enter Try.func50, Try.ntmps50
  go_upto_region 2 with fail
  generalize (((w.alloc (.cells Try.zeroCells42 42)).alloc (.cells Try.zeroCells42 42)).alloc (.cells Try.zeroCells42 42)).alloc (.cells Try.zeroCells42 42) = w1 at *
  obtain ⟨Z, hZ⟩ : ∃ Z, Z = List.replicate 256 0 := ⟨_, rfl⟩
  have HZl := Lib.hid (show Z.length = 256 by rw [hZ]; exact List.length_replicate)
  have HZa := Lib.hid (show ∀ i, i < 256 → Z[i]? = some 0 from fun i hi => by rw [hZ, List.getElem?_replicate, if_pos hi])
  have hzz := zero_256
  rw [← hZ] at hzz
  rw [hzz] at HP HQ HX HY
  have HY0 := Lib.hid (show Blk w1 (w.heap.size + 1 + 1 + 1) 42 ((backF 0).map vb).toArray from by rw [show backF 0 = Z by rw [hZ]; rfl]; exact HY.out)
  have HX0 := Lib.hid (show Blk w1 (w.heap.size + 1 + 1) 42 ((doneF boxL Z 0).map vb).toArray from by rw [doneF_zero]; exact HX.out)
  obtain ⟨Y, hY⟩ : ∃ Y, Y = w.heap.size + 1 + 1 + 1 := ⟨_, rfl⟩
  obtain ⟨X, hX⟩ : ∃ X, X = w.heap.size + 1 + 1 := ⟨_, rfl⟩
  obtain ⟨Q, hQ⟩ : ∃ Q, Q = w.heap.size + 1 := ⟨_, rfl⟩
  obtain ⟨P, hP⟩ : ∃ P, P = w.heap.size := ⟨_, rfl⟩
  rw [← hY] at HY0
  rw [← hX] at HX0
  rw [← hQ] at HQ
  rw [← hP] at HP
  rw [← hY, ← hX, ← hQ, ← hP]
  have Hap := Lib.hid (show P ≠ X ∧ P ≠ Y ∧ Q ≠ X ∧ Q ≠ Y ∧ X ≠ Y ∧ P ≠ Q ∧ w.heap.size ≤ P ∧ w.heap.size ≤ Q ∧ w.heap.size ≤ X ∧ w.heap.size ≤ Y from ⟨by omega, by omega, by omega, by omega, by omega, by omega, by omega, by omega, by omega, by omega⟩)
  clear HX HY hzz hZ hY hX hQ hP
  go_wp2_with fail
  go_loopw [4] (fun i wr => ∃ k : Nat, k ≤ 256 ∧ i = .int .i64 k ∧ Blk wr P 42 (Z.map vb).toArray ∧ Blk wr Q 42 (Z.map vb).toArray ∧ Blk wr X 42 ((doneF boxL Z k).map vb).toArray ∧ Blk wr Y 42 ((backF k).map vb).toArray ∧ Below w.heap.size w wr) (fun i _ => 256 - (intOf i).toNat)
  case atStart => exact ⟨0, by omega, rfl, HP.out, HQ.out, HX0.out, HY0.out, hal⟩
  case round =>
    clear HP HQ HX0 HY0 hal
    obtain ⟨k, hk, rfl, hP, hQ, hX, hY, hn⟩ := hrel
    have HP := Lib.hid hP
    have HQ := Lib.hid hQ
    have HX := Lib.hid hX
    have HY := Lib.hid hY
    clear hP hQ hX hY
    by_cases hlt : k < 256
    · have hki : (k : Int) < 256 := by omega
      have wk : IntKind.u8.wrap (k : Int) = (k : Int) := by rw [IntKind.wrap_u8]; omega
      have HBx := Lib.hid (refBox_any k hlt wr)
      obtain ⟨y, hy⟩ : ∃ y, y = sb k := ⟨_, rfl⟩
      rw [← hy] at HBx
      have hy8 : y < 256 := by rw [hy]; exact sb_lt k
      have hyi : (y : Int) < 256 := by omega
      have hxo : (doneF boxL Z k)[k]? = some 0 := by rw [doneF_old _ _ 256 k k boxL_len (Nat.le_refl _) hk]; exact HZa.out k hlt
      have hyo := backF_at k hk y hy8
      obtain ⟨o, ho⟩ : ∃ o, o = if bs y < k then bs y else 0 := ⟨_, rfl⟩
      rw [← ho] at hyo
      have h1 := HX.out.put k (vb y)
      rw [arrg_set, doneF_set _ _ 256 k y boxL_len HZl.out hlt (by rw [hy]; exact boxL_at k hlt)] at h1
      have HX1 := Lib.hid h1
      have HY1 := Lib.hid (HY.out.far (p := ⟨X, k, none⟩) (Ne.symm Hap.out.2.2.2.2.1) (vb y))
      have HP1 := Lib.hid (HP.out.far (p := ⟨X, k, none⟩) Hap.out.1 (vb y))
      have HQ1 := Lib.hid (HQ.out.far (p := ⟨X, k, none⟩) Hap.out.2.2.1 (vb y))
      have hn1 := nu_set hn (p := ⟨X, k, none⟩) Hap.out.2.2.2.2.2.2.2.2.1 (vb y)
      have cX : wr.cell? ⟨X, k, none⟩ = some (.int .u8 ((0 : Nat) : Int)) := HX.out.at k _ (arrg_at vb _ k 0 hxo)
      have fX := HX.out.free k
      simp only [vb] at HX1 HY1 HP1 HQ1 hn1
      have Hyo := Lib.hid (And.intro hyo hy)
      obtain ⟨wo, rfl⟩ : ∃ q : World, q = wr := ⟨_, rfl⟩
      clear hxo hyo ho h1 HP HQ HX HY hn hy
      go_wp2_with fail
      refine HBx.out.mono ?_
      rintro e w' ⟨rfl, rfl⟩
      clear HBx
      go_upto_region 7 with fail
      clear cX fX
      generalize wo.setCell ⟨X, k, none⟩ (.int .u8 (y : Int)) = w3 at *
      have cY : w3.cell? ⟨Y, y, none⟩ = some (.int .u8 (o : Int)) := HY1.out.at y _ (arrg_at vb _ y o Hyo.out.1)
      have fY := HY1.out.free y
      have h2 := HY1.out.put y (vb k)
      rw [arrg_set, show (backF k).set y k = backF (k + 1) by rw [backF, ← Hyo.out.2]] at h2
      have HY2 := Lib.hid h2
      have HX2 := Lib.hid (HX1.out.far (p := ⟨Y, y, none⟩) Hap.out.2.2.2.2.1 (vb k))
      have HP2 := Lib.hid (HP1.out.far (p := ⟨Y, y, none⟩) Hap.out.2.1 (vb k))
      have HQ2 := Lib.hid (HQ1.out.far (p := ⟨Y, y, none⟩) Hap.out.2.2.2.1 (vb k))
      have hn2 := nu_set hn1 (p := ⟨Y, y, none⟩) Hap.out.2.2.2.2.2.2.2.2.2 (vb k)
      simp only [vb] at HX2 HY2 HP2 HQ2 hn2
      clear h2 HP1 HQ1 HX1 HY1 hn1
      go_wp2_with fail
      clear cY fY
      generalize w3.setCell ⟨Y, y, none⟩ (.int .u8 (k : Int)) = w4 at *
      go_roundw
      case rel => first | exact ⟨k + 1, by omega, by go_num, HP2.out, HQ2.out, HX2.out, HY2.out, hn2⟩ | ((repeat apply Exists.intro); exact ⟨⟨k + 1, by omega, by go_num, HP2.out, HQ2.out, HX2.out, HY2.out, hn2⟩, rfl⟩)
      case measure => simp [intOf]; omega
    · obtain rfl : k = 256 := by omega
      have hX := HX.out
      have hY := HY.out
      rw [doneF_all _ _ 256 boxL_len HZl.out] at hX
      rw [backF_all] at hY
      obtain ⟨bx, hbx⟩ : ∃ bx, bx = boxL := ⟨_, rfl⟩
      obtain ⟨bk, hbk⟩ : ∃ bk, bk = backL := ⟨_, rfl⟩
      have Hx256 := Lib.hid (show bx.length = 256 by rw [hbx]; exact boxL_len)
      have Hk256 := Lib.hid (show bk.length = 256 by rw [hbk]; exact backL_len)
      rw [← hbx] at hX
      rw [← hbk] at hY
      have Hbe := Lib.hid (And.intro hbx hbk)
      have HS := Lib.hid (And.intro hX hY)
      have Hn := Lib.hid hn
      clear hX hY HX HY hbx hbk hn
      obtain ⟨wo, rfl⟩ : ∃ q : World, q = wr := ⟨_, rfl⟩
      go_upto_region 8 with fail
      refine wp_region_held_drew (S := fun W => Blk W X 42 (bx.map vb).toArray ∧ Blk W Y 42 (bk.map vb).toArray) (by kernel_rfl) (⟨HS.out.1.drew, HS.out.2.drew⟩) (fun hHeld => ?_)
      dsimp only [Array.replicate, List.replicate, List.size_toArray, List.length_cons, List.length_nil, Nat.reduceAdd] at hHeld ⊢
      have HP3 := Lib.hid HP.out.drew
      have HQ3 := Lib.hid HQ.out.drew
      have Hn3 := Lib.hid (nu_drew Hn.out)
      have HS3 := Lib.hid hHeld
      clear HP HQ Hn HS
      generalize wo.drew = w3 at *
      refine take_l (i := 0) rfl (by kernel_rfl) (by kernel_rfl) (by kernel_rfl) (fun _ _ _ h => h) (Or.inl ⟨by rfl, fun W hS => e256_load hS.1 Hx256.out (.tmp 2) rfl rfl⟩) (by assumption) ?_
      simp only [Act.put, List.setIfInBounds_toArray, List.set_cons_zero, List.set_cons_succ]
      refine take_l (i := 1) rfl (by kernel_rfl) (by kernel_rfl) (by kernel_rfl) (fun _ _ _ h => h) (Or.inl ⟨by rfl, fun W hS => e256_load hS.2 Hk256.out (.tmp 3) rfl rfl⟩) (by assumption) ?_
      simp only [Act.put, List.setIfInBounds_toArray, List.set_cons_zero, List.set_cons_succ]
      clear hHeld
      refine wpAnyH_ready (rs := [2]) (by kernel_rfl) (by simp) ?_
      refine cons_l rfl (fun K hK => ?_) AllReadyH.nil
      refine step_store_blk rfl 42 (.tmp 0) (.tmp 20) rfl P (bx.map vb) rfl rfl 42 (Z.map vb).toArray HP3.out (by rw [List.length_map, Hx256.out, List.size_toArray, List.length_map, HZl.out]) (size_256 Hx256.out) (vb_one _) ?_
      have HP4 := Lib.hid (Blk.fill HP3.out (bx.map vb) (by rw [List.length_map, Hx256.out, List.size_toArray, List.length_map, HZl.out]))
      have HQ4 := Lib.hid (HQ3.out.farCells (bx.map vb) (Ne.symm Hap.out.2.2.2.2.2.1) 0)
      have HS4 := Lib.hid (And.intro (HS3.out.1.farCells (bx.map vb) (Ne.symm Hap.out.1) 0) (HS3.out.2.farCells (bx.map vb) (Ne.symm Hap.out.2.1) 0))
      have Hn4 := Lib.hid (nu_fill (bx.map vb) (g := P) Hap.out.2.2.2.2.2.2.1 0 _ Hn3.out)
      refine hK.out _ _ HS4.out (fun hHeld => ?_)
      clear hK K hHeld
      simp only [Act.put, List.setIfInBounds_toArray, List.set_cons_zero, List.set_cons_succ]
      refine wpAnyH_ready (rs := [3]) (by kernel_rfl) (by simp) ?_
      refine cons_l rfl (fun K hK => ?_) AllReadyH.nil
      refine step_store_blk rfl 42 (.tmp 1) (.tmp 21) rfl Q (bk.map vb) rfl rfl 42 (Z.map vb).toArray HQ4.out (by rw [List.length_map, Hk256.out, List.size_toArray, List.length_map, HZl.out]) (size_256 Hk256.out) (vb_one _) ?_
      have HQ5 := Lib.hid (Blk.fill HQ4.out (bk.map vb) (by rw [List.length_map, Hk256.out, List.size_toArray, List.length_map, HZl.out]))
      have HP5 := Lib.hid (HP4.out.farCells (bk.map vb) Hap.out.2.2.2.2.2.1 0)
      have HS5 := Lib.hid (And.intro (HS4.out.1.farCells (bk.map vb) (Ne.symm Hap.out.2.2.1) 0) (HS4.out.2.farCells (bk.map vb) (Ne.symm Hap.out.2.2.2.1) 0))
      have Hn5 := Lib.hid (nu_fill (bk.map vb) (g := Q) Hap.out.2.2.2.2.2.2.2.1 0 _ Hn4.out)
      refine hK.out _ _ HS5.out (fun hHeld => ?_)
      clear hK K hHeld
      simp only [Act.put, List.setIfInBounds_toArray, List.set_cons_zero, List.set_cons_succ]
      refine wpAnyH_done (by kernel_rfl) ?_ _
      go_wp2_with fail
      refine bodyPost_ret (results_two rfl _ rfl rfl HP5.out HQ5.out Try.underlying42 (by rw [List.size_toArray]; exact size_256 Hx256.out) (by rw [List.size_toArray]; exact size_256 Hk256.out)) rfl ⟨by rw [Hbe.out.1, Hbe.out.2], Hn5.out⟩
end Go.Proofs.Ytnojbjconiddoaa

namespace Go.Proofs.Ytnojbjconiddoaa
open Go.ChangeShapes Go.WideShapes Go.ChangeAt Go.RowKit Fld Aes
set_option linter.unusedSimpArgs false

theorem addK_lenx (W : List Nat) (r : Nat) (b : List Nat) : (addK W r b).length = 16 := by simp [addK]
theorem addK_ix (W : List Nat) (r : Nat) (b : List Nat) (i : Nat) (h : i < 16) : (addK W r b)[i]? = some (b.getD i 0 ^^^ wb (W.getD (4 * r + i / 4) 0) (i % 4)) := by
  unfold addK
  rw [List.getElem?_map, List.getElem?_range h]
  rfl
set_option maxRecDepth 100000 in
set_option maxHeartbeats 4000000 in
theorem refAdd_any {w : World} {v : Value} {W : List Nat} (hv : RowsAt w v W) (rd : Nat) (hr : 4 * rd + 4 ≤ W.length) (hr60 : rd ≤ 60) (b : List Nat) (hb : St16 b) :
    Calls Try.prog 55 #[.agg (keyL v).toArray, .agg (b.map vb).toArray, .int .i64 (rd : Int)] w fun e w' => e = .returned (.agg ((addK W rd b).map vb).toArray) ∧ Below w.heap.size w w' := by
  obtain ⟨m, c, cur, rfl, hm, htk, hlc, hcm⟩ := hv
  unfold maxLen at hcm
  have hml := hm.lt
  have Hm := Lib.hid hm
  have Ht := Lib.hid htk
  have Hb := Lib.hid hb
  obtain ⟨n, hn⟩ : ∃ n, n = W.length := ⟨_, rfl⟩
  have Hn := Lib.hid hn
  rw [← hn] at hlc hr ⊢
  obtain ⟨KL, hKL⟩ : ∃ KL, KL = (keyL (.slice (some ⟨m, 0, none⟩) n c)).toArray := ⟨_, rfl⟩
  have HK0 := Lib.hid (show KL[0]? = some (.slice (some ⟨m, 0, none⟩) n c) by rw [hKL]; exact keyL_0 _)
  rw [← hKL]
  have hal := nu_alloc (nu_alloc (nu_alloc (nu_refl w) (.cells KL 44)) (.cells (b.map vb).toArray 22)) (.cells (z16n.map vb).toArray 22)
  have HK := Lib.hid (((Blk.made w 44 KL).alloc (.cells (b.map vb).toArray 22)).alloc (.cells (z16n.map vb).toArray 22))
  have HB := Lib.hid ((Blk.made1 w (.cells KL 44) 22 (b.map vb).toArray).alloc (.cells (z16n.map vb).toArray 22))
  have HZ := Lib.hid (Blk.made2 w (.cells KL 44) (.cells (b.map vb).toArray 22) 22 (z16n.map vb).toArray)
  obtain ⟨A, hA⟩ : ∃ A, A = addK W rd b := ⟨_, rfl⟩
  have HAl := Lib.hid (show A.length = 16 by rw [hA]; exact addK_lenx W rd b)
  have HAa := Lib.hid (show ∀ i, i < 16 → A[i]? = some (b.getD i 0 ^^^ wb (W.getD (4 * rd + i / 4) 0) (i % 4)) by rw [hA]; exact addK_ix W rd b)
  rw [← hA]
  clear hm htk hb hn hKL hA
  go_enter Try.func55, Try.ntmps55
  go_upto_region 1 with fail
  change Code.wp _ _ _ _ (((w.alloc (.cells KL 44)).alloc (.cells (b.map vb).toArray 22)).alloc (.cells (z16n.map vb).toArray 22))
  generalize ((w.alloc (.cells KL 44)).alloc (.cells (b.map vb).toArray 22)).alloc (.cells (z16n.map vb).toArray 22) = w1 at *
  obtain ⟨B, hB⟩ : ∃ B, B = w.heap.size + 1 := ⟨_, rfl⟩
  obtain ⟨Z, hZ⟩ : ∃ Z, Z = w.heap.size + 1 + 1 := ⟨_, rfl⟩
  obtain ⟨K, hK⟩ : ∃ K, K = w.heap.size := ⟨_, rfl⟩
  rw [← hB] at HB
  rw [← hZ] at HZ
  rw [← hK] at HK
  rw [← hZ, ← hB, ← hK]
  have Hap := Lib.hid (show K ≠ B ∧ Z ≠ B ∧ w.heap.size ≤ B ∧ w.heap.size ≤ Z from ⟨by omega, by omega, by omega, by omega⟩)
  clear hZ hB hK
  go_wp2_with fail
  go_loopw [7] (fun i wr => ∃ k : Nat, k ≤ 16 ∧ i = .int .i64 k ∧ Blk wr K 44 KL ∧ Blk wr B 22 ((doneF A b k).map vb).toArray ∧ Blk wr Z 22 (z16n.map vb).toArray ∧ Below w.heap.size w wr) (fun i _ => 16 - (intOf i).toNat)
  case atStart => exact ⟨0, by omega, rfl, HK.out, HB.out, HZ.out, hal⟩
  case round =>
    clear HK HB HZ hal
    obtain ⟨i, hi16, rfl, hK, hB, hZ, hn⟩ := hrel
    have HK := Lib.hid hK
    have HB := Lib.hid hB
    have HZ := Lib.hid hZ
    clear hK hB hZ
    by_cases hilt : i < 16
    · have hii : (i : Int) < 16 := by omega
      obtain ⟨q, hq⟩ : ∃ q, q = i / 4 := ⟨_, rfl⟩
      obtain ⟨r, hr'⟩ : ∃ r, r = i % 4 := ⟨_, rfl⟩
      have ek : (i : Int) / 4 = (q : Int) := by omega
      have em : (i : Int) % 4 = (r : Int) := by omega
      have etq : Int.tdiv (i : Int) 4 = (q : Int) := by rw [Int.tdiv_eq_ediv_of_nonneg (by omega)]; omega
      have etr : Int.tmod (i : Int) 4 = (r : Int) := by rw [Int.tmod_eq_emod_of_nonneg (by omega)]; omega
      have wq : IntKind.i64.wrap (q : Int) = (q : Int) := by rw [IntKind.wrap_i64]; omega
      have wr0 : IntKind.i64.wrap (r : Int) = (r : Int) := by rw [IntKind.wrap_i64]; omega
      have hri : (r : Int) < 4 := by omega
      obtain ⟨d4, hd4⟩ : ∃ d4, d4 = 4 * rd := ⟨_, rfl⟩
      have w4 : IntKind.i64.wrap (4 * (rd : Int)) = (d4 : Int) := by rw [IntKind.wrap_i64]; omega
      obtain ⟨p, hp⟩ : ∃ p, p = d4 + q := ⟨_, rfl⟩
      have w5 : IntKind.i64.wrap ((d4 : Int) + (q : Int)) = (p : Int) := by rw [IntKind.wrap_i64]; omega
      have hpl : (p : Int) < (n : Int) := by omega
      obtain ⟨x, hx⟩ : ∃ x, x = b.getD i 0 := ⟨_, rfl⟩
      have hx8 : x < 256 := by rw [hx]; exact Hb.out.getD i
      have hxi : b[i]? = some x := by rw [hx, List.getD_eq_getElem?_getD, List.getElem?_eq_getElem (by rw [Hb.out.1]; exact hilt)]; rfl
      obtain ⟨y, hy⟩ : ∃ y, y = wb (W.getD p 0) r := ⟨_, rfl⟩
      have hy8 : y < 256 := by rw [hy]; exact wb_lt _ _
      obtain ⟨z, hz⟩ : ∃ z, z = x ^^^ y := ⟨_, rfl⟩
      have hxx := u8_xor_nat x y hx8 hy8
      rw [← hz] at hxx
      have hA := HAa.out i hilt
      rw [← hq, ← hr', ← hd4, ← hp, ← hx, ← hy, ← hz] at hA
      have hold : (doneF A b i)[i]? = some x := by rw [doneF_old _ _ 16 i i HAl.out (Nat.le_refl _) hi16, hxi]
      have cB : wr.cell? ⟨B, i, none⟩ = some (.int .u8 (x : Int)) := HB.out.at i _ (arrg_at vb _ i x hold)
      have cK : wr.cell? ⟨K, 0, none⟩ = some (.slice (some ⟨m, 0, none⟩) n c) := HK.out.at 0 _ HK0.out
      have cW : wr.cell? ⟨m, p * 4 + r, none⟩ = some (.int .u8 (y : Int)) := by
        rw [hn.cell (p := ⟨m, p * 4 + r, none⟩) hml, hy]
        exact rows_cell Hm.out Ht.out p r (by rw [← Hn.out]; omega) (by omega)
      have h1 := HB.out.drew.put i (vb z)
      rw [arrg_set, doneF_set _ _ 16 i z HAl.out Hb.out.1 hilt hA] at h1
      have HB1 := Lib.hid h1
      have HK1 := Lib.hid (HK.out.drew.far (p := ⟨B, i, none⟩) Hap.out.1 (vb z))
      have HZ1 := Lib.hid (HZ.out.drew.far (p := ⟨B, i, none⟩) Hap.out.2.1 (vb z))
      have hn1 := nu_set hn.drew (p := ⟨B, i, none⟩) Hap.out.2.2.1 (vb z)
      have cB2 : wr.drew.cell? ⟨B, i, none⟩ = some (.int .u8 (x : Int)) := HB.out.drew.at i _ (arrg_at vb _ i x hold)
      have fB2 := HB.out.drew.free i
      simp only [vb] at HB1 HK1 HZ1 hn1
      have HD := Lib.hid (And.intro cB2 fB2)
      clear hq hr' hd4 hp hx hy hz hA hold h1 HK HB HZ hn cB2 fB2 hxi hx8 hy8
      go_upto_region 4 with fail
      go_still_tail 18, (by kernel_rfl)
      change wpList _ _ _ _ _ wr.drew
      clear cB cK cW hxx ek em etq etr wq wr0 hri w4 w5 hpl
      obtain ⟨cB2, fB2⟩ := HD.out
      clear HD
      generalize wr.drew = w6 at *
      go_wp2_with fail
      clear cB2 fB2
      generalize w6.setCell ⟨B, i, none⟩ (.int .u8 (z : Int)) = w7 at *
      go_roundw
      case rel => first | exact ⟨i + 1, by omega, by go_num, HK1.out, HB1.out, HZ1.out, hn1⟩ | ((repeat apply Exists.intro); exact ⟨⟨i + 1, by omega, by go_num, HK1.out, HB1.out, HZ1.out, hn1⟩, rfl⟩)
      case measure => simp [intOf]; omega
    · obtain rfl : i = 16 := by omega
      have hB := HB.out
      rw [doneF_all _ _ 16 HAl.out Hb.out.1] at hB
      obtain ⟨D, hD⟩ : ∃ D, D = A.map vb := ⟨_, rfl⟩
      rw [← hD] at hB
      have HB2 := Lib.hid hB
      have HD16 := Lib.hid (show D.length = 16 by rw [hD, List.length_map, HAl.out])
      have HD1 := Lib.hid (show ∀ u ∈ D, u.oneCell' = true by rw [hD]; exact vb_one _)
      have HDe := Lib.hid hD
      have HF := Lib.hid (Blk.fill HZ.out D (by rw [HD16.out]; rfl))
      have Hnf := Lib.hid (nu_fill D (g := Z) Hap.out.2.2.2 0 _ hn)
      clear hB HB hD hn HK
      go_wp2_with (first | (refine wpList_load_blk rfl 22 (.tmp 4) rfl B rfl 22 D.toArray HB2.out Try.underlying22 (by rw [List.size_toArray, HD16.out]; kernel_rfl) ?_) | (refine wpList_store_blk rfl 22 (.tmp 6) (.tmp 30) rfl Z D rfl rfl 22 (z16n.map vb).toArray HZ.out (by rw [HD16.out]; rfl) (by rw [HD16.out]; kernel_rfl) HD1.out ?_))
      refine bodyPost_ret (results_blk rfl _ Z 22 D.toArray rfl HF.out Try.underlying22 (by rw [List.size_toArray, HD16.out]; kernel_rfl)) rfl ⟨by rw [HDe.out], Hnf.out⟩
end Go.Proofs.Ytnojbjconiddoaa

namespace Go.Proofs.Ytnojbjconiddoaa
open Go.ChangeShapes Go.WideShapes Go.ChangeAt Go.RowKit Fld Aes
set_option linter.unusedSimpArgs false

set_option maxRecDepth 100000 in
set_option maxHeartbeats 4000000 in
theorem refMixed_any {w : World} (f0 f1 f2 f3 : Nat) (h0 : f0 < 256) (h1 : f1 < 256) (h2 : f2 < 256) (h3 : f3 < 256) (b : List Nat) (hb : St16 b) :
    Calls Try.prog 56 #[.agg (b.map vb).toArray, .agg ([f0, f1, f2, f3].map vb).toArray] w fun e w' => e = .returned (.agg ((mix f0 f1 f2 f3 b).map vb).toArray) ∧ Below w.heap.size w w' := by
  have Hb := Lib.hid hb
  obtain ⟨f, hf⟩ : ∃ f, f = [f0, f1, f2, f3] := ⟨_, rfl⟩
  have Hf := Lib.hid (show ∀ x ∈ f, x < 256 by
    rw [hf]
    intro x hx
    simp only [List.mem_cons, List.not_mem_nil, or_false] at hx
    rcases hx with rfl | rfl | rfl | rfl <;> assumption)
  have Hfl := Lib.hid (show f.length = 4 by rw [hf]; rfl)
  obtain ⟨M, hM⟩ : ∃ M, M = mix f0 f1 f2 f3 b := ⟨_, rfl⟩
  have HMl := Lib.hid (show M.length = 16 by rw [hM]; exact (mix_st f0 f1 f2 f3 h0 h1 h2 h3 b).1)
  have HMa := Lib.hid (show ∀ c r, c < 4 → r < 4 → M[4 * c + r]? = some (mixJ f b c r 4) by rw [hM, hf]; exact mix_at4 f0 f1 f2 f3 b)
  rw [← hf, ← hM]
  have hal := nu_alloc (nu_alloc (nu_alloc (nu_alloc (nu_refl w) (.cells (b.map vb).toArray 22)) (.cells (f.map vb).toArray 51)) (.cells (z16n.map vb).toArray 22)) (.cells (z16n.map vb).toArray 22)
  have HB := Lib.hid ((((Blk.made w 22 (b.map vb).toArray).alloc (.cells (f.map vb).toArray 51)).alloc (.cells (z16n.map vb).toArray 22)).alloc (.cells (z16n.map vb).toArray 22))
  have HF := Lib.hid (((Blk.made1 w (.cells (b.map vb).toArray 22) 51 (f.map vb).toArray).alloc (.cells (z16n.map vb).toArray 22)).alloc (.cells (z16n.map vb).toArray 22))
  have HZ := Lib.hid ((Blk.made2 w (.cells (b.map vb).toArray 22) (.cells (f.map vb).toArray 51) 22 (z16n.map vb).toArray).alloc (.cells (z16n.map vb).toArray 22))
  have HT := Lib.hid (Blk.made3 w (.cells (b.map vb).toArray 22) (.cells (f.map vb).toArray 51) (.cells (z16n.map vb).toArray 22) 22 (z16n.map vb).toArray)
  clear hb hf hM h0 h1 h2 h3
  go_enter Try.func56, Try.ntmps56
  go_upto_region 2 with fail
  change Code.wp _ _ _ _ ((((w.alloc (.cells (b.map vb).toArray 22)).alloc (.cells (f.map vb).toArray 51)).alloc (.cells (z16n.map vb).toArray 22)).alloc (.cells (z16n.map vb).toArray 22))
  generalize (((w.alloc (.cells (b.map vb).toArray 22)).alloc (.cells (f.map vb).toArray 51)).alloc (.cells (z16n.map vb).toArray 22)).alloc (.cells (z16n.map vb).toArray 22) = w1 at *
  obtain ⟨T, hT⟩ : ∃ T, T = w.heap.size + 1 + 1 + 1 := ⟨_, rfl⟩
  obtain ⟨Z, hZ⟩ : ∃ Z, Z = w.heap.size + 1 + 1 := ⟨_, rfl⟩
  obtain ⟨F, hF⟩ : ∃ F, F = w.heap.size + 1 := ⟨_, rfl⟩
  obtain ⟨B, hB⟩ : ∃ B, B = w.heap.size := ⟨_, rfl⟩
  rw [← hT] at HT
  rw [← hZ] at HZ
  rw [← hF] at HF
  rw [← hB] at HB
  rw [← hT, ← hZ, ← hF, ← hB]
  have Hap := Lib.hid (show B ≠ T ∧ F ≠ T ∧ Z ≠ T ∧ w.heap.size ≤ T ∧ w.heap.size ≤ Z from ⟨by omega, by omega, by omega, by omega, by omega⟩)
  clear hT hZ hF hB
  go_wp2_with fail
  go_loopw [6] (fun i wr => ∃ k : Nat, k ≤ 4 ∧ i = .int .i64 k ∧ Blk wr B 22 (b.map vb).toArray ∧ Blk wr F 51 (f.map vb).toArray ∧ Blk wr T 22 ((doneF M z16n (4 * k)).map vb).toArray ∧ Blk wr Z 22 (z16n.map vb).toArray ∧ Below w.heap.size w wr) (fun i _ => 4 - (intOf i).toNat)
  case atStart => exact ⟨0, by omega, rfl, HB.out, HF.out, HT.out, HZ.out, hal⟩
  case round =>
    clear HB HF HT HZ hal
    obtain ⟨c, hc4, rfl, hB, hF, hT, hZ, hn⟩ := hrel
    by_cases hclt : c < 4
    · have hci : (c : Int) < 4 := by omega
      obtain ⟨wo, rfl⟩ : ∃ q : World, q = wr := ⟨_, rfl⟩
      go_wp2_with fail
      go_loopw [7] (fun i wr => ∃ k : Nat, k ≤ 4 ∧ i = .int .i64 k ∧ Blk wr B 22 (b.map vb).toArray ∧ Blk wr F 51 (f.map vb).toArray ∧ Blk wr T 22 ((doneF M z16n (4 * c + k)).map vb).toArray ∧ Blk wr Z 22 (z16n.map vb).toArray ∧ Below w.heap.size w wr) (fun i _ => 4 - (intOf i).toNat)
      case atStart => exact ⟨0, by omega, rfl, hB, hF, hT, hZ, hn⟩
      case round =>
        clear hB hF hT hZ hn
        obtain ⟨r, hr4, rfl, hB, hF, hT, hZ, hn⟩ := hrel
        by_cases hrlt : r < 4
        · have hri : (r : Int) < 4 := by omega
          obtain ⟨i, hi⟩ : ∃ i, i = 4 * c + r := ⟨_, rfl⟩
          have hilt : i < 16 := by omega
          have hii : (i : Int) < 16 := by omega
          rw [← hi] at hT
          have hold : (doneF M z16n i)[i]? = some 0 := by
            rw [doneF_old _ _ 16 i i HMl.out (Nat.le_refl _) (by omega)]
            exact z16_at i hilt
          have h0 : (doneF M z16n i) = (doneF M z16n i).set i (mixJ f b c r 0) := by
            apply List.ext_getElem?
            intro j
            rw [List.getElem?_set]
            by_cases e : i = j
            · subst e
              rw [if_pos rfl, if_pos (by rw [doneF_len M z16n 16 i HMl.out rfl (by omega)]; exact hilt), hold]; rfl
            · rw [if_neg e]
          rw [h0] at hT
          obtain ⟨wo, rfl⟩ : ∃ q : World, q = wr := ⟨_, rfl⟩
          have Hi := Lib.hid hi
          clear h0 hold hi
          go_wp2_with fail
          go_loopw [8] (fun q wr => ∃ k : Nat, k ≤ 4 ∧ q = .int .i64 k ∧ Blk wr B 22 (b.map vb).toArray ∧ Blk wr F 51 (f.map vb).toArray ∧ Blk wr T 22 (((doneF M z16n i).set i (mixJ f b c r k)).map vb).toArray ∧ Blk wr Z 22 (z16n.map vb).toArray ∧ Below w.heap.size w wr) (fun q _ => 4 - (intOf q).toNat)
          case atStart => exact ⟨0, by omega, rfl, hB, hF, hT, hZ, hn⟩
          case round =>
            clear hB hF hT hZ hn
            obtain ⟨j, hj4, rfl, hB, hF, hT, hZ, hn⟩ := hrel
            have HB := Lib.hid hB
            have HF := Lib.hid hF
            have HT := Lib.hid hT
            have HZ := Lib.hid hZ
            clear hB hF hT hZ
            by_cases hjlt : j < 4
            · have hji : (j : Int) < 4 := by omega
              have hi := Hi.out
              obtain ⟨c4, hc⟩ : ∃ c4, c4 = 4 * c := ⟨_, rfl⟩
              have wc : IntKind.i64.wrap (4 * (c : Int)) = (c4 : Int) := by rw [IntKind.wrap_i64]; omega
              have wi : IntKind.i64.wrap ((c4 : Int) + (r : Int)) = (i : Int) := by rw [IntKind.wrap_i64]; omega
              obtain ⟨p, hp⟩ : ∃ p, p = c4 + j := ⟨_, rfl⟩
              have wp : IntKind.i64.wrap ((c4 : Int) + (j : Int)) = (p : Int) := by rw [IntKind.wrap_i64]; omega
              have hpi : (p : Int) < 16 := by omega
              obtain ⟨jr, hjr⟩ : ∃ jr : Int, jr = (j : Int) - (r : Int) := ⟨_, rfl⟩
              have wjr : IntKind.i64.wrap ((j : Int) - (r : Int)) = jr := by rw [IntKind.wrap_i64]; omega
              obtain ⟨s, hs⟩ : ∃ s, s = j + 4 - r := ⟨_, rfl⟩
              have ws : IntKind.i64.wrap (jr + 4) = (s : Int) := by rw [IntKind.wrap_i64]; omega
              obtain ⟨g, hg⟩ : ∃ g, g = s % 4 := ⟨_, rfl⟩
              have eg : (s : Int) % 4 = (g : Int) := by omega
              have egt : Int.tmod (s : Int) 4 = (g : Int) := by rw [Int.tmod_eq_emod_of_nonneg (by omega)]; omega
              have hgi : (g : Int) < 4 := by omega
              have wg : IntKind.i64.wrap (g : Int) = (g : Int) := by rw [IntKind.wrap_i64]; omega
              obtain ⟨x, hx⟩ : ∃ x, x = f.getD g 0 := ⟨_, rfl⟩
              have hx8 : x < 256 := by rw [hx]; exact getD_lt Hf.out g
              have hxg : f[g]? = some x := by rw [hx, List.getD_eq_getElem?_getD, List.getElem?_eq_getElem (by rw [Hfl.out]; omega)]; rfl
              obtain ⟨y, hy⟩ : ∃ y, y = b.getD p 0 := ⟨_, rfl⟩
              have hy8 : y < 256 := by rw [hy]; exact Hb.out.getD p
              have hyp : b[p]? = some y := by rw [hy, List.getD_eq_getElem?_getD, List.getElem?_eq_getElem (by rw [Hb.out.1]; omega)]; rfl
              have cB : wr.cell? ⟨B, p, none⟩ = some (.int .u8 (y : Int)) := HB.out.at p _ (arrg_at vb _ p y hyp)
              have cF : wr.cell? ⟨F, g, none⟩ = some (.int .u8 (x : Int)) := HF.out.at g _ (arrg_at vb _ g x hxg)
              obtain ⟨v, hv⟩ : ∃ v, v = mixJ f b c r j := ⟨_, rfl⟩
              have hv8 : v < 256 := by rw [hv]; exact mixJ_lt f b Hf.out c r j
              have hself := doneF_self M z16n 16 i v HMl.out rfl hilt
              rw [← hv] at HT
              have cT : wr.cell? ⟨T, i, none⟩ = some (.int .u8 (v : Int)) := HT.out.at i _ (arrg_at vb _ i v hself)
              have hnext : mixJ f b c r (j + 1) = v ^^^ gm x y := by rw [mixJ, ← hv, ← hs, ← hg, ← hc, ← hp, ← hx, ← hy]
              obtain ⟨v2, hv2⟩ : ∃ v2, v2 = mixJ f b c r (j + 1) := ⟨_, rfl⟩
              obtain ⟨G, hG⟩ : ∃ G, G = gm x y := ⟨_, rfl⟩
              have hG8 : G < 256 := by rw [hG]; exact gm_lt _ _ hx8
              have hxx := u8_xor_nat v G hv8 hG8
              rw [← hG] at hnext
              rw [← hnext, ← hv2] at hxx
              have hset := HT.out.drew.put i (vb v2)
              rw [arrg_set, List.set_set, hv2] at hset
              have HT1 := Lib.hid hset
              rw [← hv2] at HT1
              have HB1 := Lib.hid (HB.out.drew.far (p := ⟨T, i, none⟩) Hap.out.1 (vb v2))
              have HF1 := Lib.hid (HF.out.drew.far (p := ⟨T, i, none⟩) Hap.out.2.1 (vb v2))
              have HZ1 := Lib.hid (HZ.out.drew.far (p := ⟨T, i, none⟩) Hap.out.2.2.1 (vb v2))
              have hn1 := nu_set hn.drew (p := ⟨T, i, none⟩) Hap.out.2.2.2.1 (vb v2)
              have cT2 : wr.drew.cell? ⟨T, i, none⟩ = some (.int .u8 (v : Int)) := HT.out.drew.at i _ (arrg_at vb _ i v hself)
              have fT2 := HT.out.drew.free i
              simp only [vb] at HT1 HB1 HF1 HZ1 hn1
              have Hj := Lib.hid hv2
              have HD := Lib.hid (And.intro cT2 fT2)
              have HTm := Lib.hid (show Calls Try.prog 66 #[.int .u8 (x : Int), .int .u8 (y : Int)] wr.drew fun e w' => e = .returned (.int .u8 ((G : Nat) : Int)) ∧ w' = wr.drew from by
                rw [hG]
                exact (refTimes_any x y hx8 hy8 wr.drew).mono fun _ _ h => ⟨h.1, h.2.symm⟩)
              clear hi hc hp hjr hs hg hx hx8 hxg hy hy8 hyp hv hv8 hself hnext hv2 hG hG8 hset HT HB HF HZ hn cT2 fT2
              go_upto_region 11 with fail
              go_still_tail 26, (by kernel_rfl)
              still_call HTm.out
              repeat still_step
              refine wpStill_nil ?_
              change wpList _ _ _ _ _ wr.drew
              clear cT cB cF HTm hxx hpi hgi wc wi wp wjr ws eg egt wg
              obtain ⟨cT2, fT2⟩ := HD.out
              clear HD
              generalize wr.drew = w6 at *
              go_wp2_with fail
              clear cT2 fT2
              generalize w6.setCell ⟨T, i, none⟩ (.int .u8 (v2 : Int)) = w7 at *
              go_roundw
              case rel =>
                have hT1 := HT1.out
                rw [Hj.out] at hT1
                first | exact ⟨j + 1, by omega, by go_num, HB1.out, HF1.out, hT1, HZ1.out, hn1⟩ | ((repeat apply Exists.intro); exact ⟨⟨j + 1, by omega, by go_num, HB1.out, HF1.out, hT1, HZ1.out, hn1⟩, rfl⟩)
              case measure => simp [intOf]; omega
            · obtain rfl : j = 4 := by omega
              have hT := HT.out
              have hMa := HMa.out c r hclt hrlt
              rw [← Hi.out] at hMa
              rw [doneF_set _ _ 16 i _ HMl.out rfl hilt hMa, Hi.out] at hT
              have HT2 := Lib.hid hT
              clear hT HT hMa
              go_wp2_with fail
              go_roundw
              case rel => first | exact ⟨r + 1, by omega, by go_num, HB.out, HF.out, HT2.out, HZ.out, hn⟩ | ((repeat apply Exists.intro); exact ⟨⟨r + 1, by omega, by go_num, HB.out, HF.out, HT2.out, HZ.out, hn⟩, rfl⟩)
              case measure => simp [intOf]; omega
        · obtain rfl : r = 4 := by omega
          have HT2 := Lib.hid (show Blk wr T 22 ((doneF M z16n (4 * (c + 1))).map vb).toArray from hT)
          clear hT
          go_wp2_with fail
          go_roundw
          case rel => first | exact ⟨c + 1, by omega, by go_num, hB, hF, HT2.out, hZ, hn⟩ | ((repeat apply Exists.intro); exact ⟨⟨c + 1, by omega, by go_num, hB, hF, HT2.out, hZ, hn⟩, rfl⟩)
          case measure => simp [intOf]; omega
    · obtain rfl : c = 4 := by omega
      rw [show 4 * 4 = 16 from rfl, doneF_all _ _ 16 HMl.out rfl] at hT
      obtain ⟨D, hD⟩ : ∃ D, D = M.map vb := ⟨_, rfl⟩
      rw [← hD] at hT
      have HT2 := Lib.hid hT
      have HZ := Lib.hid hZ
      have HD16 := Lib.hid (show D.length = 16 by rw [hD, List.length_map, HMl.out])
      have HD1 := Lib.hid (show ∀ u ∈ D, u.oneCell' = true by rw [hD]; exact vb_one _)
      have HDe := Lib.hid hD
      have HFf := Lib.hid (Blk.fill HZ.out D (by rw [HD16.out]; rfl))
      have Hnf := Lib.hid (nu_fill D (g := Z) Hap.out.2.2.2.2 0 _ hn)
      clear hT hD hn hB hF hZ
      go_wp2_with (first | (refine wpList_load_blk rfl 22 (.tmp 5) rfl T rfl 22 D.toArray HT2.out Try.underlying22 (by rw [List.size_toArray, HD16.out]; kernel_rfl) ?_) | (refine wpList_store_blk rfl 22 (.tmp 4) (.tmp 47) rfl Z D rfl rfl 22 (z16n.map vb).toArray HZ.out (by rw [HD16.out]; rfl) (by rw [HD16.out]; kernel_rfl) HD1.out ?_))
      refine bodyPost_ret (results_blk rfl _ Z 22 D.toArray rfl HFf.out Try.underlying22 (by rw [List.size_toArray, HD16.out]; kernel_rfl)) rfl ⟨by rw [HDe.out], Hnf.out⟩
end Go.Proofs.Ytnojbjconiddoaa

namespace Go.Proofs.Ytnojbjconiddoaa
open Go.ChangeShapes Go.WideShapes Go.ChangeAt Go.RowKit Fld Aes
set_option linter.unusedSimpArgs false

theorem eKey_load {o : Oper} {a : Act} {w : World} {g : Nat} {t : TypeId} {L : List Value} (hb : Blk w g t L.toArray) (h1 : L.length = 513) (x : Operand) (ho : o.op = .load 44 x) (hx : a.eval x = .pointer (some ⟨g, 0, none⟩)) :
    (execOp a.eval o).run Try.prog w = .ok (.value (.agg L.toArray)) w :=
  exec_load_mid (P := Try.prog) (w := w) 44 x g 0 L (.struct (Try.prog.fieldsOf 44)) ho hx (range_blk hb) (by kernel_rfl) rfl (by rw [h1]; kernel_rfl)
theorem refAdd_is {w : World} {v : Value} {W : List Nat} (hv : RowsAt w v W) {L : List Value} (hL : L = keyL v) (rd : Nat) (hr : 4 * rd + 4 ≤ W.length) (hr60 : rd ≤ 60) {b D : List Nat} (hb : St16 b) (hD : addK W rd b = D) :
    Calls Try.prog 55 #[.agg L.toArray, .agg (b.map vb).toArray, .int .i64 (rd : Int)] w fun e w' => e = .returned (.agg (D.map vb).toArray) ∧ Below w.heap.size w w' := by
  rw [hL, ← hD]
  exact refAdd_any hv rd hr hr60 b hb
/-- The state behind k rounds. -/
def encS (W : List Nat) (R k : Nat) (b : List Nat) : List Nat := if k = R then enc W R b else encF W k b
theorem encS_st {b : List Nat} (h : St16 b) (W : List Nat) (R k : Nat) : St16 (encS W R k b) := by
  unfold encS
  split
  · exact enc_st b W R
  · exact encF_st h W k
theorem encS_zero (W : List Nat) (R : Nat) (h : 0 < R) (b : List Nat) : encS W R 0 b = addK W 0 b := by
  unfold encS
  rw [if_neg (by omega)]
  rfl
theorem encS_succ (W : List Nat) (R k : Nat) (h : k < R) (b : List Nat) : encS W R (k + 1) b = addK W (k + 1) (if k + 1 < R then mix 2 3 1 1 (sub (encS W R k b)) else sub (encS W R k b)) := by
  unfold encS
  rw [if_neg (show ¬ k = R by omega)]
  by_cases e : k + 1 = R
  · rw [if_pos e, if_neg (by omega), ← e]
    rfl
  · rw [if_neg e, if_pos (by omega)]
    rfl
theorem sub_ix (b : List Nat) (i : Nat) (h : i < 16) : (sub b)[i]? = some (sb (b.getD (4 * ((i / 4 + i % 4) % 4) + i % 4) 0)) := by
  unfold sub
  rw [List.getElem?_map, List.getElem?_range h]
  rfl

set_option maxRecDepth 100000 in
set_option maxHeartbeats 8000000 in
theorem refEncrypt_any {w : World} {v : Value} {W : List Nat} {R : Nat} (hv : RowsAt w v W) (hK : Keyed W R) (b : List Nat) (hb : St16 b) :
    Calls Try.prog 30 #[.agg (keyL v).toArray, .agg (b.map vb).toArray] w fun e w' => e = .returned (.agg ((enc W R b).map vb).toArray) ∧ Below w.heap.size w w' := by
  have HV := Lib.hid hv
  obtain ⟨m, c, cur, rfl, hm, htk, hlc, hcm⟩ := hv
  unfold maxLen at hcm
  obtain ⟨L, hL⟩ : ∃ L, L = keyL (.slice (some ⟨m, 0, none⟩) W.length c) := ⟨_, rfl⟩
  have HL := Lib.hid hL
  have HLl := Lib.hid (show L.length = 513 by rw [hL]; exact keyL_len _)
  have HL0 := Lib.hid (show L.toArray[0]? = some (.slice (some ⟨m, 0, none⟩) W.length c) by rw [hL]; exact keyL_0 _)
  have HLb := Lib.hid (show ∀ i, i < 256 → L.toArray[1 + i]? = some (vb (sb i)) from fun i hi => by rw [hL]; exact keyL_box _ i hi)
  have Hb := Lib.hid hb
  have HKd := Lib.hid hK
  have HR14 := Lib.hid (show R ≤ 14 ∧ 0 < R from ⟨hK.few, hK.pos⟩)
  obtain ⟨n, hn⟩ : ∃ n, n = W.length := ⟨_, rfl⟩
  have hnR : n = 4 * (R + 1) := by rw [hn]; exact hK.len
  have Hn := Lib.hid hn
  have HnR := Lib.hid hnR
  rw [← hL]
  rw [← hn] at hlc HL0
  have hal := nu_alloc (nu_alloc (nu_alloc (nu_refl w) (.cells L.toArray 44)) (.cells (b.map vb).toArray 22)) (.cells (z16n.map vb).toArray 22)
  have HK := Lib.hid (((Blk.made w 44 L.toArray).alloc (.cells (b.map vb).toArray 22)).alloc (.cells (z16n.map vb).toArray 22))
  have HB := Lib.hid ((Blk.made1 w (.cells L.toArray 44) 22 (b.map vb).toArray).alloc (.cells (z16n.map vb).toArray 22))
  have HZ := Lib.hid (Blk.made2 w (.cells L.toArray 44) (.cells (b.map vb).toArray 22) 22 (z16n.map vb).toArray)
  clear hm htk hb hn hL hK
  go_enter Try.func30, Try.ntmps30
  go_upto_region 1 with fail
  change Code.wp _ _ _ _ (((w.alloc (.cells L.toArray 44)).alloc (.cells (b.map vb).toArray 22)).alloc (.cells (z16n.map vb).toArray 22))
  have Hal := Lib.hid hal
  clear hal
  generalize ((w.alloc (.cells L.toArray 44)).alloc (.cells (b.map vb).toArray 22)).alloc (.cells (z16n.map vb).toArray 22) = w1 at *
  obtain ⟨Z, hZ⟩ : ∃ Z, Z = w.heap.size + 1 + 1 := ⟨_, rfl⟩
  obtain ⟨B, hB⟩ : ∃ B, B = w.heap.size + 1 := ⟨_, rfl⟩
  obtain ⟨K, hK⟩ : ∃ K, K = w.heap.size := ⟨_, rfl⟩
  rw [← hZ] at HZ
  rw [← hB] at HB
  rw [← hK] at HK
  rw [← hZ, ← hB, ← hK]
  have Hap := Lib.hid (show K ≠ B ∧ Z ≠ B ∧ w.heap.size ≤ B ∧ w.heap.size ≤ Z from ⟨by omega, by omega, by omega, by omega⟩)
  clear hZ hB hK
  obtain ⟨R1, hR1⟩ : ∃ R1, R1 = R + 1 := ⟨_, rfl⟩
  have etq : Int.tdiv (n : Int) 4 = (R1 : Int) := by rw [Int.tdiv_eq_ediv_of_nonneg (by omega)]; omega
  have ekq : (n : Int) / 4 = (R1 : Int) := by omega
  have wq : IntKind.i64.wrap (R1 : Int) = (R1 : Int) := by rw [IntKind.wrap_i64]; have := HR14.out; omega
  have wq1 : IntKind.i64.wrap ((R1 : Int) - 1) = (R : Int) := by rw [IntKind.wrap_i64]; have := HR14.out; omega
  have wq2 : (R1 : Int) - 1 = (R : Int) := by omega
  have cK : w1.cell? ⟨K, 0, none⟩ = some (.slice (some ⟨m, 0, none⟩) n c) := HK.out.at 0 _ HL0.out
  clear hR1 hnR
  obtain ⟨b0, hb0⟩ : ∃ b0, b0 = addK W 0 b := ⟨_, rfl⟩
  have HAdd := Lib.hid (refAdd_is (HV.out.below Hal.out) HL.out 0 (by have := HnR.out; have := Hn.out; omega) (by omega) Hb.out hb0.symm)
  have Hb0 := Lib.hid (show St16 b0 by rw [hb0]; exact addK_st Hb.out W 0)
  have Hb0e := Lib.hid (show b0 = encS W R 0 b by rw [hb0, encS_zero W R HR14.out.2])
  clear hb0
  go_upto_region 2 with fail
  clear etq ekq wq wq1 wq2 cK
  have Hb16 := Lib.hid Hb.out
  have Hb016 := Lib.hid Hb0.out
  go_wp2_with (first | (refine wpList_run _ (by rfl) (eKey_load HK.out HLl.out (.tmp 2) rfl rfl) ?_) | (refine wpList_run _ (by rfl) (e16_load HB.out Hb.out.1 (.tmp 3) rfl rfl) ?_))
  refine HAdd.out.mono ?_
  rintro e w2 ⟨rfl, hb2⟩
  have HK2 := Lib.hid (HK.out.below hb2 HK.out.lt)
  have HB2 := Lib.hid (HB.out.below hb2 HB.out.lt)
  have HZ2 := Lib.hid (HZ.out.below hb2 HZ.out.lt)
  have HFB := Lib.hid (Blk.fill HB2.out (b0.map vb) (by rw [List.length_map, Hb0.out.1, List.size_toArray, List.length_map, Hb.out.1]))
  have HKf := Lib.hid (HK2.out.farCells (b0.map vb) Hap.out.1 0)
  have HZf := Lib.hid (HZ2.out.farCells (b0.map vb) Hap.out.2.1 0)
  have Hnf := Lib.hid (nu_fill (b0.map vb) (g := B) Hap.out.2.2.1 0 _ (nu_trans Hal.out hb2))
  clear hb2 HK HB HZ Hal HAdd HK2 HZ2
  go_upto_region 3 with (refine wpList_store_blk rfl 22 (.tmp 3) (.tmp 17) rfl B (b0.map vb) rfl rfl 22 (b.map vb).toArray HB2.out (by rw [List.length_map, Hb016.out.1, List.size_toArray, List.length_map, Hb16.out.1]) (by rw [List.length_map, Hb016.out.1]; kernel_rfl) (vb_one _) ?_)
  change Code.wp _ _ _ _ (w2.setCells B 0 (b0.map vb))
  clear HB2
  generalize w2.setCells B 0 (b0.map vb) = w3 at *
  rw [Hb0e.out] at HFB
  have Hnw := Lib.hid Hnf.out.size
  go_wp2_with fail
  go_loopw [6] (fun i wr => ∃ k : Nat, k ≤ R ∧ i = .int .i64 ((k + 1 : Nat) : Int) ∧ Blk wr K 44 L.toArray ∧ Blk wr B 22 ((encS W R k b).map vb).toArray ∧ Blk wr Z 22 (z16n.map vb).toArray ∧ Below w.heap.size w wr) (fun i _ => R + 1 - (intOf i).toNat)
  case atStart => exact ⟨0, by omega, rfl, HKf.out, HFB.out, HZf.out, Hnf.out⟩
  case round =>
    clear HKf HFB HZf Hnf Hb0 Hb0e Hb016
    obtain ⟨k, hkR, rfl, hK, hB, hZ, hn⟩ := hrel
    obtain ⟨st, hst⟩ : ∃ st, st = encS W R k b := ⟨_, rfl⟩
    have Hst16 := Lib.hid (show St16 st by rw [hst]; exact encS_st Hb.out W R k)
    rw [← hst] at hB
    have Hst := Lib.hid hst
    have HK := Lib.hid hK
    have HB := Lib.hid hB
    have HZ := Lib.hid hZ
    clear hK hB hZ hst
    obtain ⟨rd, hrd⟩ : ∃ rd, rd = k + 1 := ⟨_, rfl⟩
    rw [← hrd]
    by_cases hk : k < R
    · have hri : (rd : Int) ≤ (R : Int) := by omega
      have Hrd := Lib.hid hrd
      obtain ⟨s, hs⟩ : ∃ s, s = sub st := ⟨_, rfl⟩
      have Hs16 := Lib.hid (show St16 s by rw [hs]; exact sub_st st)
      have Hsa := Lib.hid (show ∀ i, i < 16 → s[i]? = some (sb (st.getD (4 * ((i / 4 + i % 4) % 4) + i % 4) 0)) by rw [hs]; exact sub_ix st)
      have Hs := Lib.hid hs
      have HTm := Lib.hid (Blk.made wr 22 (z16n.map vb).toArray)
      have hal := nu_alloc (nu_refl wr) (.cells (z16n.map vb).toArray 22)
      have HK1 := Lib.hid (HK.out.below hal HK.out.lt)
      have HB1 := Lib.hid (HB.out.below hal HB.out.lt)
      have HZ1 := Lib.hid (HZ.out.below hal HZ.out.lt)
      have hn1 := nu_trans hn hal
      have HapT := Lib.hid (show K ≠ wr.heap.size ∧ B ≠ wr.heap.size ∧ Z ≠ wr.heap.size ∧ w.heap.size ≤ wr.heap.size from ⟨Nat.ne_of_lt HK.out.lt, Nat.ne_of_lt HB.out.lt, Nat.ne_of_lt HZ.out.lt, hn.size⟩)
      clear hal HK HB HZ hn hs hrd
      go_upto_region 7 with fail
      change Code.wp _ _ _ _ (wr.alloc (.cells (z16n.map vb).toArray 22))
      generalize wr.alloc (.cells (z16n.map vb).toArray 22) = w4 at *
      obtain ⟨T, hT⟩ : ∃ T, T = wr.heap.size := ⟨_, rfl⟩
      rw [← hT] at HTm HapT
      rw [← hT]
      clear hT
      go_wp2_with fail
      go_loopw [8] (fun i wr => ∃ k : Nat, k ≤ 4 ∧ i = .int .i64 k ∧ Blk wr K 44 L.toArray ∧ Blk wr B 22 (st.map vb).toArray ∧ Blk wr Z 22 (z16n.map vb).toArray ∧ Blk wr T 22 ((doneF s z16n (4 * k)).map vb).toArray ∧ Below w.heap.size w wr) (fun i _ => 4 - (intOf i).toNat)
      case atStart => exact ⟨0, by omega, rfl, HK1.out, HB1.out, HZ1.out, HTm.out, hn1⟩
      case round =>
        clear HK1 HB1 HZ1 HTm hn1
        obtain ⟨c, hc4, rfl, hK, hB, hZ, hT, hn⟩ := hrel
        by_cases hclt : c < 4
        · have hci : (c : Int) < 4 := by omega
          obtain ⟨wo, rfl⟩ : ∃ q : World, q = wr := ⟨_, rfl⟩
          go_wp2_with fail
          go_loopw [9] (fun i wr => ∃ k : Nat, k ≤ 4 ∧ i = .int .i64 k ∧ Blk wr K 44 L.toArray ∧ Blk wr B 22 (st.map vb).toArray ∧ Blk wr Z 22 (z16n.map vb).toArray ∧ Blk wr T 22 ((doneF s z16n (4 * c + k)).map vb).toArray ∧ Below w.heap.size w wr) (fun i _ => 4 - (intOf i).toNat)
          case atStart => exact ⟨0, by omega, rfl, hK, hB, hZ, hT, hn⟩
          case round =>
            clear hK hB hZ hT hn
            obtain ⟨r, hr4, rfl, hK, hB, hZ, hT, hn⟩ := hrel
            have HK := Lib.hid hK
            have HB := Lib.hid hB
            have HZ := Lib.hid hZ
            by_cases hrlt : r < 4
            · have hri4 : (r : Int) < 4 := by omega
              obtain ⟨i, hi⟩ : ∃ i, i = 4 * c + r := ⟨_, rfl⟩
              rw [← hi] at hT
              have HT := Lib.hid hT
              clear hK hB hZ hT
              have hilt : i < 16 := by omega
              obtain ⟨c4, hc⟩ : ∃ c4, c4 = 4 * c := ⟨_, rfl⟩
              have wc : IntKind.i64.wrap (4 * (c : Int)) = (c4 : Int) := by rw [IntKind.wrap_i64]; omega
              have wi : IntKind.i64.wrap ((c4 : Int) + (r : Int)) = (i : Int) := by rw [IntKind.wrap_i64]; omega
              have hii : (i : Int) < 16 := by omega
              obtain ⟨cr, hcr⟩ : ∃ cr, cr = c + r := ⟨_, rfl⟩
              have wcr : IntKind.i64.wrap ((c : Int) + (r : Int)) = (cr : Int) := by rw [IntKind.wrap_i64]; omega
              obtain ⟨q, hq⟩ : ∃ q, q = cr % 4 := ⟨_, rfl⟩
              have eq4 : (cr : Int) % 4 = (q : Int) := by omega
              have eqt : Int.tmod (cr : Int) 4 = (q : Int) := by rw [Int.tmod_eq_emod_of_nonneg (by omega)]; omega
              have wq : IntKind.i64.wrap (q : Int) = (q : Int) := by rw [IntKind.wrap_i64]; omega
              obtain ⟨q4, hq4⟩ : ∃ q4, q4 = 4 * q := ⟨_, rfl⟩
              have wq4 : IntKind.i64.wrap (4 * (q : Int)) = (q4 : Int) := by rw [IntKind.wrap_i64]; omega
              obtain ⟨p, hp⟩ : ∃ p, p = q4 + r := ⟨_, rfl⟩
              have wp : IntKind.i64.wrap ((q4 : Int) + (r : Int)) = (p : Int) := by rw [IntKind.wrap_i64]; omega
              have hpi : (p : Int) < 16 := by omega
              obtain ⟨y, hy⟩ : ∃ y, y = st.getD p 0 := ⟨_, rfl⟩
              have hy8 : y < 256 := by rw [hy]; exact Hst16.out.getD p
              have hyi : (y : Int) < 256 := by omega
              have hyp : st[p]? = some y := by rw [hy, List.getD_eq_getElem?_getD, List.getElem?_eq_getElem (by rw [Hst16.out.1]; omega)]; rfl
              obtain ⟨z, hz⟩ : ∃ z, z = sb y := ⟨_, rfl⟩
              have cB : wr.cell? ⟨B, p, none⟩ = some (.int .u8 (y : Int)) := HB.out.at p _ (arrg_at vb _ p y hyp)
              have cK : wr.cell? ⟨K, 1 + y, none⟩ = some (.int .u8 (z : Int)) := by rw [hz]; exact HK.out.at (1 + y) _ (HLb.out y hy8)
              have hsi := Hsa.out i hilt
              rw [show 4 * ((i / 4 + i % 4) % 4) + i % 4 = p by omega, ← hy, ← hz] at hsi
              have hold : (doneF s z16n i)[i]? = some 0 := by
                rw [doneF_old _ _ 16 i i Hs16.out.1 (Nat.le_refl _) (by omega)]
                exact z16_at i hilt
              have cT : wr.cell? ⟨T, i, none⟩ = some (.int .u8 ((0 : Nat) : Int)) := HT.out.at i _ (arrg_at vb _ i 0 hold)
              have fT := HT.out.free i
              have hset := HT.out.put i (vb z)
              rw [arrg_set, doneF_set _ _ 16 i z Hs16.out.1 rfl hilt hsi, hi] at hset
              have HT1 := Lib.hid hset
              rw [← hi] at HT1
              have HK1 := Lib.hid (HK.out.far (p := ⟨T, i, none⟩) HapT.out.1 (vb z))
              have HB1 := Lib.hid (HB.out.far (p := ⟨T, i, none⟩) HapT.out.2.1 (vb z))
              have HZ1 := Lib.hid (HZ.out.far (p := ⟨T, i, none⟩) HapT.out.2.2.1 (vb z))
              have hn1 := nu_set hn (p := ⟨T, i, none⟩) HapT.out.2.2.2 (vb z)
              simp only [vb] at HT1 HK1 HB1 HZ1 hn1
              have Hi := Lib.hid hi
              clear hi hc hcr hq hq4 hp hy hy8 hyp hz hsi hold hset HK HB HZ HT hn
              go_wp2_with fail
              clear cB cK cT fT wc wi wcr eq4 eqt wq wq4 wp
              generalize wr.setCell ⟨T, i, none⟩ (.int .u8 (z : Int)) = w7 at *
              go_roundw
              case rel =>
                have hT1 := HT1.out
                rw [Hi.out] at hT1
                first | exact ⟨r + 1, by omega, by go_num, HK1.out, HB1.out, HZ1.out, hT1, hn1⟩ | ((repeat apply Exists.intro); exact ⟨⟨r + 1, by omega, by go_num, HK1.out, HB1.out, HZ1.out, hT1, hn1⟩, rfl⟩)
              case measure => simp [intOf]; omega
            · obtain rfl : r = 4 := by omega
              have HT2 := Lib.hid (show Blk wr T 22 ((doneF s z16n (4 * (c + 1))).map vb).toArray from hT)
              clear hT hK hB hZ
              go_wp2_with fail
              go_roundw
              case rel => first | exact ⟨c + 1, by omega, by go_num, HK.out, HB.out, HZ.out, HT2.out, hn⟩ | ((repeat apply Exists.intro); exact ⟨⟨c + 1, by omega, by go_num, HK.out, HB.out, HZ.out, HT2.out, hn⟩, rfl⟩)
              case measure => simp [intOf]; omega
        · obtain rfl : c = 4 := by omega
          rw [show 4 * 4 = 16 from rfl, doneF_all _ _ 16 Hs16.out.1 rfl] at hT
          have HK := Lib.hid hK
          have HB := Lib.hid hB
          have HZ := Lib.hid hZ
          have HT := Lib.hid hT
          clear hK hB hZ hT
          obtain ⟨g, hg⟩ : ∃ g, g = if rd < R then mix 2 3 1 1 s else s := ⟨_, rfl⟩
          have Hg16 := Lib.hid (show St16 g by
            rw [hg]
            split
            · exact mix_st 2 3 1 1 (by omega) (by omega) (by omega) (by omega) s
            · exact Hs16.out)
          have Hge := Lib.hid (show encS W R (k + 1) b = addK W rd g by rw [encS_succ W R k hk, hg, Hrd.out, Hs.out, Hst.out])
          go_upto_if 50 with fail
          go_cut [6] (fun s6 wx => s6 = .int .i64 (rd : Int) ∧ Blk wx K 44 L.toArray ∧ Blk wx B 22 (st.map vb).toArray ∧ Blk wx Z 22 (z16n.map vb).toArray ∧ Blk wx T 22 (g.map vb).toArray ∧ Below w.heap.size w wx)
          case first =>
            by_cases hlt : rd < R
            · have hli : (rd : Int) < (R : Int) := by omega
              rw [if_pos hlt] at hg
              have HM := Lib.hid (show Calls Try.prog 56 #[.agg (s.map vb).toArray, .agg #[.int .u8 2, .int .u8 3, .int .u8 1, .int .u8 1]] wr fun e w' => e = .returned (.agg (g.map vb).toArray) ∧ Below wr.heap.size wr w' from by
                rw [hg]
                exact refMixed_any (w := wr) 2 3 1 1 (by omega) (by omega) (by omega) (by omega) s Hs16.out)
              clear hg
              obtain ⟨wo, rfl⟩ : ∃ q : World, q = wr := ⟨_, rfl⟩
              go_wp2_with (refine wpList_run _ (by rfl) (e16_load HT.out Hs16.out.1 (.tmp 7) rfl rfl) ?_)
              refine HM.out.mono ?_
              rintro e w5 ⟨rfl, hb5⟩
              have HT5 := Lib.hid (HT.out.below hb5 HT.out.lt)
              have HF5 := Lib.hid (Blk.fill HT5.out (g.map vb) (by rw [List.length_map, Hg16.out.1, List.size_toArray, List.length_map, Hs16.out.1]))
              have HK5 := Lib.hid ((HK.out.below hb5 HK.out.lt).farCells (g.map vb) HapT.out.1 0)
              have HB5 := Lib.hid ((HB.out.below hb5 HB.out.lt).farCells (g.map vb) HapT.out.2.1 0)
              have HZ5 := Lib.hid ((HZ.out.below hb5 HZ.out.lt).farCells (g.map vb) HapT.out.2.2.1 0)
              have Hn5 := Lib.hid (nu_fill (g.map vb) (g := T) HapT.out.2.2.2 0 _ (nu_trans hn hb5))
              clear hb5 HK HB HZ HT hn
              go_wp2_with (refine wpList_store_blk rfl 22 (.tmp 7) (.tmp 53) rfl T (g.map vb) rfl rfl 22 (s.map vb).toArray HT5.out (by rw [List.length_map, Hg16.out.1, List.size_toArray, List.length_map, Hs16.out.1]) (by rw [List.length_map, Hg16.out.1]; kernel_rfl) (vb_one _) ?_)
              go_meet
              exact ⟨rfl, HK5.out, HB5.out, HZ5.out, HF5.out, Hn5.out⟩
            · have hli : ¬ (rd : Int) < (R : Int) := by omega
              rw [if_neg hlt] at hg
              go_wp2_with fail
              go_meet
              exact ⟨rfl, HK.out, HB.out, HZ.out, by rw [hg]; exact HT.out, hn⟩
          case rest =>
            obtain ⟨rfl, hK, hB, hZ, hT, hn4⟩ := hcut
            clear hg HK HB HZ HT hn
            have HK := Lib.hid hK
            have HB := Lib.hid hB
            have HZ := Lib.hid hZ
            have HT := Lib.hid hT
            clear hK hB hZ hT
            obtain ⟨D, hD⟩ : ∃ D, D = addK W rd g := ⟨_, rfl⟩
            have HD16 := Lib.hid (show St16 D by rw [hD]; exact addK_st Hg16.out W rd)
            have HA := Lib.hid (refAdd_is (HV.out.below hn4) HL.out rd (by have := HnR.out; have := Hn.out; omega) (by have := HR14.out; omega) Hg16.out hD.symm)
            have HDe := Lib.hid (show encS W R (k + 1) b = D by rw [hD, Hge.out])
            clear hD
            obtain ⟨wo, rfl⟩ : ∃ q : World, q = wc := ⟨_, rfl⟩
            go_wp2_with (first | (refine wpList_run _ (by rfl) (eKey_load HK.out HLl.out (.tmp 2) rfl rfl) ?_) | (refine wpList_run _ (by rfl) (e16_load HT.out Hg16.out.1 (.tmp 7) rfl rfl) ?_))
            refine HA.out.mono ?_
            rintro e w5 ⟨rfl, hb5⟩
            have HB5 := Lib.hid (HB.out.below hb5 HB.out.lt)
            have HF5 := Lib.hid (Blk.fill HB5.out (D.map vb) (by rw [List.length_map, HD16.out.1, List.size_toArray, List.length_map, Hst16.out.1]))
            have HK5 := Lib.hid ((HK.out.below hb5 HK.out.lt).farCells (D.map vb) Hap.out.1 0)
            have HZ5 := Lib.hid ((HZ.out.below hb5 HZ.out.lt).farCells (D.map vb) Hap.out.2.1 0)
            have Hn5 := Lib.hid (nu_fill (D.map vb) (g := B) Hap.out.2.2.1 0 _ (nu_trans hn4 hb5))
            clear hb5 HK HB HZ HT hn4 HA
            obtain ⟨rd2, hrd2⟩ : ∃ x, x = rd + 1 := ⟨_, rfl⟩
            have wrd : IntKind.i64.wrap ((rd : Int) + 1) = (rd2 : Int) := by rw [IntKind.wrap_i64]; have := HR14.out; omega
            have Hrd2 := Lib.hid hrd2
            clear hrd2
            go_wp2_with (refine wpList_store_blk rfl 22 (.tmp 3) (.tmp 57) rfl B (D.map vb) rfl rfl 22 (st.map vb).toArray HB5.out (by rw [List.length_map, HD16.out.1, List.size_toArray, List.length_map, Hst16.out.1]) (by rw [List.length_map, HD16.out.1]; kernel_rfl) (vb_one _) ?_)
            go_roundw
            case rel =>
              have hF : Blk (w5.setCells B 0 (D.map vb)) B 22 ((encS W R (k + 1) b).map vb).toArray := by rw [HDe.out]; exact HF5.out
              have hkr : k + 1 ≤ R := hk
              have hv : Value.int .i64 (rd2 : Int) = .int .i64 ((k + 1 + 1 : Nat) : Int) := by rw [Hrd2.out, Hrd.out]
              first | exact ⟨k + 1, hkr, hv, HK5.out, hF, HZ5.out, Hn5.out⟩ | ((repeat apply Exists.intro); exact ⟨⟨k + 1, hkr, hv, HK5.out, hF, HZ5.out, Hn5.out⟩, rfl⟩)
            case measure =>
              have := Hrd2.out
              simp [intOf]; omega
    · obtain rfl : k = R := by omega
      have hri : ¬ (rd : Int) ≤ (k : Int) := by omega
      obtain ⟨D, hD⟩ : ∃ D, D = st := ⟨_, rfl⟩
      have HD16 := Lib.hid (show St16 D by rw [hD]; exact Hst16.out)
      have HDe := Lib.hid (show D = enc W k b by rw [hD, Hst.out]; unfold encS; rw [if_pos rfl])
      rw [← hD] at HB
      have HF := Lib.hid (Blk.fill HZ.out (D.map vb) (by rw [List.length_map, HD16.out.1]; rfl))
      have Hnf := Lib.hid (nu_fill (D.map vb) (g := Z) Hap.out.2.2.2 0 _ hn)
      have Hz16n16 := Lib.hid (show St16 z16n from ⟨rfl, by decide⟩)
      clear hD hn HK hrd
      go_wp2_with (first | (refine wpList_run _ (by rfl) (e16_load HB.out HD16.out.1 (.tmp 3) rfl rfl) ?_) | (refine wpList_store_blk rfl 22 (.tmp 4) (.tmp 58) rfl Z (D.map vb) rfl rfl 22 (z16n.map vb).toArray HZ.out (by rw [List.length_map, HD16.out.1, List.size_toArray, List.length_map, Hz16n16.out.1]) (by rw [List.length_map, HD16.out.1]; kernel_rfl) (vb_one _) ?_))
      refine bodyPost_ret (results_blk rfl _ Z 22 (D.map vb).toArray rfl HF.out Try.underlying22 (by rw [List.size_toArray, List.length_map, HD16.out.1]; kernel_rfl)) rfl ⟨by rw [HDe.out], Hnf.out⟩
end Go.Proofs.Ytnojbjconiddoaa

namespace Go.Proofs.Ytnojbjconiddoaa
open Go.ChangeShapes Go.WideShapes Go.ChangeAt Go.RowKit Fld Aes
set_option linter.unusedSimpArgs false

set_option maxRecDepth 100000 in
set_option maxHeartbeats 8000000 in
theorem refDecrypt_any {w : World} {v : Value} {W : List Nat} {R : Nat} (hv : RowsAt w v W) (hK : Keyed W R) (b : List Nat) (hb : St16 b) :
    Calls Try.prog 33 #[.agg (keyL v).toArray, .agg (b.map vb).toArray] w fun e w' => e = .returned (.agg ((dec W R b).map vb).toArray) ∧ Below w.heap.size w w' := by
  have HV := Lib.hid hv
  obtain ⟨m, c, cur, rfl, hm, htk, hlc, hcm⟩ := hv
  unfold maxLen at hcm
  obtain ⟨L, hL⟩ : ∃ L, L = keyL (.slice (some ⟨m, 0, none⟩) W.length c) := ⟨_, rfl⟩
  have HL := Lib.hid hL
  have HLl := Lib.hid (show L.length = 513 by rw [hL]; exact keyL_len _)
  have HL0 := Lib.hid (show L.toArray[0]? = some (.slice (some ⟨m, 0, none⟩) W.length c) by rw [hL]; exact keyL_0 _)
  have HLb := Lib.hid (show ∀ i, i < 256 → L.toArray[257 + i]? = some (vb (bs i)) from fun i hi => by rw [hL]; exact keyL_back _ i hi)
  have Hb := Lib.hid hb
  have HKd := Lib.hid hK
  have HR14 := Lib.hid (show R ≤ 14 ∧ 0 < R from ⟨hK.few, hK.pos⟩)
  obtain ⟨n, hn⟩ : ∃ n, n = W.length := ⟨_, rfl⟩
  have hnR : n = 4 * (R + 1) := by rw [hn]; exact hK.len
  have Hn := Lib.hid hn
  have HnR := Lib.hid hnR
  rw [← hL]
  rw [← hn] at hlc HL0
  have hal := nu_alloc (nu_alloc (nu_alloc (nu_refl w) (.cells L.toArray 44)) (.cells (b.map vb).toArray 22)) (.cells (z16n.map vb).toArray 22)
  have HK := Lib.hid (((Blk.made w 44 L.toArray).alloc (.cells (b.map vb).toArray 22)).alloc (.cells (z16n.map vb).toArray 22))
  have HB := Lib.hid ((Blk.made1 w (.cells L.toArray 44) 22 (b.map vb).toArray).alloc (.cells (z16n.map vb).toArray 22))
  have HZ := Lib.hid (Blk.made2 w (.cells L.toArray 44) (.cells (b.map vb).toArray 22) 22 (z16n.map vb).toArray)
  clear hm htk hb hn hL hK
  go_enter Try.func33, Try.ntmps33
  go_upto_region 1 with fail
  change Code.wp _ _ _ _ (((w.alloc (.cells L.toArray 44)).alloc (.cells (b.map vb).toArray 22)).alloc (.cells (z16n.map vb).toArray 22))
  have Hal := Lib.hid hal
  clear hal
  generalize ((w.alloc (.cells L.toArray 44)).alloc (.cells (b.map vb).toArray 22)).alloc (.cells (z16n.map vb).toArray 22) = w1 at *
  obtain ⟨Z, hZ⟩ : ∃ Z, Z = w.heap.size + 1 + 1 := ⟨_, rfl⟩
  obtain ⟨B, hB⟩ : ∃ B, B = w.heap.size + 1 := ⟨_, rfl⟩
  obtain ⟨K, hK⟩ : ∃ K, K = w.heap.size := ⟨_, rfl⟩
  rw [← hZ] at HZ
  rw [← hB] at HB
  rw [← hK] at HK
  rw [← hZ, ← hB, ← hK]
  have Hap := Lib.hid (show K ≠ B ∧ Z ≠ B ∧ w.heap.size ≤ B ∧ w.heap.size ≤ Z from ⟨by omega, by omega, by omega, by omega⟩)
  clear hZ hB hK
  obtain ⟨R1, hR1⟩ : ∃ R1, R1 = R + 1 := ⟨_, rfl⟩
  have etq : Int.tdiv (n : Int) 4 = (R1 : Int) := by rw [Int.tdiv_eq_ediv_of_nonneg (by omega)]; omega
  have ekq : (n : Int) / 4 = (R1 : Int) := by omega
  have wq : IntKind.i64.wrap (R1 : Int) = (R1 : Int) := by rw [IntKind.wrap_i64]; have := HR14.out; omega
  have wq1 : IntKind.i64.wrap ((R1 : Int) - 1) = (R : Int) := by rw [IntKind.wrap_i64]; have := HR14.out; omega
  have wq2 : (R1 : Int) - 1 = (R : Int) := by omega
  have cK : w1.cell? ⟨K, 0, none⟩ = some (.slice (some ⟨m, 0, none⟩) n c) := HK.out.at 0 _ HL0.out
  clear hR1 hnR
  go_upto_region 2 with fail
  clear etq ekq wq wq1 wq2 cK
  have Hnw := Lib.hid Hal.out.size
  go_wp2_with fail
  go_loopw [6] (fun i wr => ∃ k : Nat, k ≤ R ∧ i = .int .i64 ((R - k : Nat) : Int) ∧ Blk wr K 44 L.toArray ∧ Blk wr B 22 ((decF W R k b).map vb).toArray ∧ Blk wr Z 22 (z16n.map vb).toArray ∧ Below w.heap.size w wr) (fun i _ => (intOf i).toNat)
  case atStart => exact ⟨0, by omega, rfl, HK.out, HB.out, HZ.out, Hal.out⟩
  case round =>
    clear HK HB HZ Hal
    obtain ⟨k, hkR, rfl, hK, hB, hZ, hn⟩ := hrel
    obtain ⟨st, hst⟩ : ∃ st, st = decF W R k b := ⟨_, rfl⟩
    have Hst16 := Lib.hid (show St16 st by rw [hst]; exact decF_st Hb.out W R k)
    rw [← hst] at hB
    have Hst := Lib.hid hst
    have HK := Lib.hid hK
    have HB := Lib.hid hB
    have HZ := Lib.hid hZ
    clear hK hB hZ hst
    obtain ⟨rd, hrd⟩ : ∃ rd, rd = R - k := ⟨_, rfl⟩
    rw [← hrd]
    obtain ⟨D, hD⟩ : ∃ D, D = addK W rd st := ⟨_, rfl⟩
    have HD16 := Lib.hid (show St16 D by rw [hD]; exact addK_st Hst16.out W rd)
    have HA := Lib.hid (refAdd_is (HV.out.below hn) HL.out rd (by have := HnR.out; have := Hn.out; omega) (by have := HR14.out; omega) Hst16.out hD.symm)
    have HDe := Lib.hid hD
    clear hD
    by_cases hk : k < R
    · have hri : (1 : Int) ≤ (rd : Int) := by omega
      have Hrd := Lib.hid (show rd + k = R by omega)
      obtain ⟨wo, rfl⟩ : ∃ q : World, q = wr := ⟨_, rfl⟩
      clear hrd
      go_wp2_with (first | (refine wpList_run _ (by rfl) (eKey_load HK.out HLl.out (.tmp 2) rfl rfl) ?_) | (refine wpList_run _ (by rfl) (e16_load HB.out Hst16.out.1 (.tmp 3) rfl rfl) ?_))
      refine HA.out.mono ?_
      rintro e w5 ⟨rfl, hb5⟩
      have HB5 := Lib.hid (HB.out.below hb5 HB.out.lt)
      have HF5 := Lib.hid (Blk.fill HB5.out (D.map vb) (by rw [List.length_map, HD16.out.1, List.size_toArray, List.length_map, Hst16.out.1]))
      have HK5 := Lib.hid ((HK.out.below hb5 HK.out.lt).farCells (D.map vb) Hap.out.1 0)
      have HZ5 := Lib.hid ((HZ.out.below hb5 HZ.out.lt).farCells (D.map vb) Hap.out.2.1 0)
      have Hn5 := Lib.hid (nu_fill (D.map vb) (g := B) Hap.out.2.2.1 0 _ (nu_trans hn hb5))
      clear hb5 HK HB HZ hn HA
      go_upto_if 26 with (refine wpList_store_blk rfl 22 (.tmp 3) (.tmp 23) rfl B (D.map vb) rfl rfl 22 (st.map vb).toArray HB5.out (by rw [List.length_map, HD16.out.1, List.size_toArray, List.length_map, Hst16.out.1]) (by rw [List.length_map, HD16.out.1]; kernel_rfl) (vb_one _) ?_)
      change Code.wp _ _ _ _ (w5.setCells B 0 (D.map vb))
      clear HB5
      generalize w5.setCells B 0 (D.map vb) = w6 at *
      obtain ⟨g, hg⟩ : ∃ g, g = if k = 0 then D else mix 14 11 13 9 D := ⟨_, rfl⟩
      have Hg16 := Lib.hid (show St16 g by
        rw [hg]
        split
        · exact HD16.out
        · exact mix_st 14 11 13 9 (by omega) (by omega) (by omega) (by omega) D)
      have Hge := Lib.hid (show decF W R (k + 1) b = unsub g by
        rw [decF_succ, hg, HDe.out, Hst.out]
        by_cases hk0 : k = 0
        · subst hk0
          rw [if_pos rfl, if_pos rfl, show rd = R from by have := Hrd.out; omega]; rfl
        · rw [if_neg hk0, if_neg hk0, show R - k = rd from by have := Hrd.out; omega])
      go_cut [6] (fun s6 wx => s6 = .int .i64 (rd : Int) ∧ Blk wx K 44 L.toArray ∧ Blk wx B 22 (g.map vb).toArray ∧ Blk wx Z 22 (z16n.map vb).toArray ∧ Below w.heap.size w wx)
      case first =>
        by_cases hk0 : k = 0
        · have hli : ¬ (rd : Int) < (R : Int) := by have := Hrd.out; omega
          rw [if_pos hk0] at hg
          go_wp2_with fail
          go_meet
          exact ⟨rfl, HK5.out, by rw [hg]; exact HF5.out, HZ5.out, Hn5.out⟩
        · have hli : (rd : Int) < (R : Int) := by have := Hrd.out; omega
          rw [if_neg hk0] at hg
          have HM := Lib.hid (show Calls Try.prog 56 #[.agg (D.map vb).toArray, .agg #[.int .u8 14, .int .u8 11, .int .u8 13, .int .u8 9]] w6 fun e w' => e = .returned (.agg (g.map vb).toArray) ∧ Below w6.heap.size w6 w' from by
            rw [hg]
            exact refMixed_any (w := w6) 14 11 13 9 (by omega) (by omega) (by omega) (by omega) D HD16.out)
          clear hg
          go_wp2_with (refine wpList_run _ (by rfl) (e16_load HF5.out HD16.out.1 (.tmp 3) rfl rfl) ?_)
          refine HM.out.mono ?_
          rintro e w7 ⟨rfl, hb7⟩
          have HB7 := Lib.hid (HF5.out.below hb7 HF5.out.lt)
          have HF7 := Lib.hid (Blk.fill HB7.out (g.map vb) (by rw [List.length_map, Hg16.out.1, List.size_toArray, List.length_map, HD16.out.1]))
          have HK7 := Lib.hid ((HK5.out.below hb7 HK5.out.lt).farCells (g.map vb) Hap.out.1 0)
          have HZ7 := Lib.hid ((HZ5.out.below hb7 HZ5.out.lt).farCells (g.map vb) Hap.out.2.1 0)
          have Hn7 := Lib.hid (nu_fill (g.map vb) (g := B) Hap.out.2.2.1 0 _ (nu_trans Hn5.out hb7))
          clear hb7 HK5 HF5 HZ5 Hn5
          go_wp2_with (refine wpList_store_blk rfl 22 (.tmp 3) (.tmp 29) rfl B (g.map vb) rfl rfl 22 (D.map vb).toArray HB7.out (by rw [List.length_map, Hg16.out.1, List.size_toArray, List.length_map, HD16.out.1]) (by rw [List.length_map, Hg16.out.1]; kernel_rfl) (vb_one _) ?_)
          go_meet
          exact ⟨rfl, HK7.out, HF7.out, HZ7.out, Hn7.out⟩
      case rest =>
        obtain ⟨rfl, hK, hB, hZ, hn⟩ := hcut
        clear hg HK5 HF5 HZ5 Hn5
        have HK := Lib.hid hK
        have HB := Lib.hid hB
        have HZ := Lib.hid hZ
        clear hK hB hZ
        have HTm := Lib.hid (Blk.made wc 22 (z16n.map vb).toArray)
        have hal := nu_alloc (nu_refl wc) (.cells (z16n.map vb).toArray 22)
        have HK1 := Lib.hid (HK.out.below hal HK.out.lt)
        have HB1 := Lib.hid (HB.out.below hal HB.out.lt)
        have HZ1 := Lib.hid (HZ.out.below hal HZ.out.lt)
        have hn1 := nu_trans hn hal
        have HapT := Lib.hid (show K ≠ wc.heap.size ∧ B ≠ wc.heap.size ∧ Z ≠ wc.heap.size ∧ w.heap.size ≤ wc.heap.size from ⟨Nat.ne_of_lt HK.out.lt, Nat.ne_of_lt HB.out.lt, Nat.ne_of_lt HZ.out.lt, hn.size⟩)
        clear hal HK HB HZ hn
        go_upto_region 9 with fail
        change Code.wp _ _ _ _ (wc.alloc (.cells (z16n.map vb).toArray 22))
        generalize wc.alloc (.cells (z16n.map vb).toArray 22) = w8 at *
        obtain ⟨T, hT⟩ : ∃ T, T = wc.heap.size := ⟨_, rfl⟩
        rw [← hT] at HTm HapT
        rw [← hT]
        clear hT
        go_wp2_with fail
        go_loopw [8] (fun i wr => ∃ k : Nat, k ≤ 4 ∧ i = .int .i64 k ∧ Blk wr K 44 L.toArray ∧ Blk wr B 22 (g.map vb).toArray ∧ Blk wr Z 22 (z16n.map vb).toArray ∧ Blk wr T 22 ((unsubF g (4 * k)).map vb).toArray ∧ Below w.heap.size w wr) (fun i _ => 4 - (intOf i).toNat)
        case atStart => exact ⟨0, by omega, rfl, HK1.out, HB1.out, HZ1.out, HTm.out, hn1⟩
        case round =>
          clear HK1 HB1 HZ1 HTm hn1
          obtain ⟨c, hc4, rfl, hK, hB, hZ, hT, hn⟩ := hrel
          by_cases hclt : c < 4
          · have hci : (c : Int) < 4 := by omega
            obtain ⟨wo, rfl⟩ : ∃ q : World, q = wr := ⟨_, rfl⟩
            go_wp2_with fail
            go_loopw [9] (fun i wr => ∃ k : Nat, k ≤ 4 ∧ i = .int .i64 k ∧ Blk wr K 44 L.toArray ∧ Blk wr B 22 (g.map vb).toArray ∧ Blk wr Z 22 (z16n.map vb).toArray ∧ Blk wr T 22 ((unsubF g (4 * c + k)).map vb).toArray ∧ Below w.heap.size w wr) (fun i _ => 4 - (intOf i).toNat)
            case atStart => exact ⟨0, by omega, rfl, hK, hB, hZ, hT, hn⟩
            case round =>
              clear hK hB hZ hT hn
              obtain ⟨r, hr4, rfl, hK, hB, hZ, hT, hn⟩ := hrel
              have HK := Lib.hid hK
              have HB := Lib.hid hB
              have HZ := Lib.hid hZ
              by_cases hrlt : r < 4
              · have hri4 : (r : Int) < 4 := by omega
                obtain ⟨i, hi⟩ : ∃ i, i = 4 * c + r := ⟨_, rfl⟩
                rw [← hi] at hT
                have HT := Lib.hid hT
                clear hK hB hZ hT
                have hilt : i < 16 := by omega
                obtain ⟨c4, hc⟩ : ∃ c4, c4 = 4 * c := ⟨_, rfl⟩
                have wc' : IntKind.i64.wrap (4 * (c : Int)) = (c4 : Int) := by rw [IntKind.wrap_i64]; omega
                have wi : IntKind.i64.wrap ((c4 : Int) + (r : Int)) = (i : Int) := by rw [IntKind.wrap_i64]; omega
                have hii : (i : Int) < 16 := by omega
                obtain ⟨cr, hcr⟩ : ∃ cr, cr = c + r := ⟨_, rfl⟩
                have wcr : IntKind.i64.wrap ((c : Int) + (r : Int)) = (cr : Int) := by rw [IntKind.wrap_i64]; omega
                obtain ⟨q, hq⟩ : ∃ q, q = cr % 4 := ⟨_, rfl⟩
                have eq4 : (cr : Int) % 4 = (q : Int) := by omega
                have eqt : Int.tmod (cr : Int) 4 = (q : Int) := by rw [Int.tmod_eq_emod_of_nonneg (by omega)]; omega
                have wq : IntKind.i64.wrap (q : Int) = (q : Int) := by rw [IntKind.wrap_i64]; omega
                obtain ⟨q4, hq4⟩ : ∃ q4, q4 = 4 * q := ⟨_, rfl⟩
                have wq4 : IntKind.i64.wrap (4 * (q : Int)) = (q4 : Int) := by rw [IntKind.wrap_i64]; omega
                obtain ⟨p, hp⟩ : ∃ p, p = q4 + r := ⟨_, rfl⟩
                have wp : IntKind.i64.wrap ((q4 : Int) + (r : Int)) = (p : Int) := by rw [IntKind.wrap_i64]; omega
                have hpt : p = toPos i := by unfold toPos; omega
                have hpi : (p : Int) < 16 := by omega
                obtain ⟨y, hy⟩ : ∃ y, y = g.getD i 0 := ⟨_, rfl⟩
                have hy8 : y < 256 := by rw [hy]; exact Hg16.out.getD i
                have hyi : (y : Int) < 256 := by omega
                have hyp : g[i]? = some y := by rw [hy, List.getD_eq_getElem?_getD, List.getElem?_eq_getElem (by rw [Hg16.out.1]; exact hilt)]; rfl
                obtain ⟨z, hz⟩ : ∃ z, z = bs y := ⟨_, rfl⟩
                have cB : wr.cell? ⟨B, i, none⟩ = some (.int .u8 (y : Int)) := HB.out.at i _ (arrg_at vb _ i y hyp)
                have cK : wr.cell? ⟨K, 257 + y, none⟩ = some (.int .u8 (z : Int)) := by rw [hz]; exact HK.out.at (257 + y) _ (HLb.out y hy8)
                obtain ⟨v, hv⟩ := unsubF_at g i
                rw [← hpt] at hv
                have cT : wr.cell? ⟨T, p, none⟩ = some (.int .u8 (v : Int)) := HT.out.at p _ (arrg_at vb _ p v hv)
                have fT := HT.out.free p
                have hset := HT.out.put p (vb z)
                rw [arrg_set, show (unsubF g i).set p z = unsubF g (i + 1) by rw [unsubF, ← hpt, ← hy, ← hz], hi] at hset
                have HT1 := Lib.hid (show Blk (wr.setCell ⟨T, p, none⟩ (vb z)) T 22 ((unsubF g (4 * c + (r + 1))).map vb).toArray from hset)
                have HK1 := Lib.hid (HK.out.far (p := ⟨T, p, none⟩) HapT.out.1 (vb z))
                have HB1 := Lib.hid (HB.out.far (p := ⟨T, p, none⟩) HapT.out.2.1 (vb z))
                have HZ1 := Lib.hid (HZ.out.far (p := ⟨T, p, none⟩) HapT.out.2.2.1 (vb z))
                have hn1 := nu_set hn (p := ⟨T, p, none⟩) HapT.out.2.2.2 (vb z)
                simp only [vb] at HT1 HK1 HB1 HZ1 hn1
                clear hi hc hcr hq hq4 hp hpt hy hy8 hyp hz hv hset HK HB HZ HT hn
                go_wp2_with fail
                clear cB cK cT fT wc' wi wcr eq4 eqt wq wq4 wp
                generalize wr.setCell ⟨T, p, none⟩ (.int .u8 (z : Int)) = w7 at *
                go_roundw
                case rel => first | exact ⟨r + 1, by omega, by go_num, HK1.out, HB1.out, HZ1.out, HT1.out, hn1⟩ | ((repeat apply Exists.intro); exact ⟨⟨r + 1, by omega, by go_num, HK1.out, HB1.out, HZ1.out, HT1.out, hn1⟩, rfl⟩)
                case measure => simp [intOf]; omega
              · obtain rfl : r = 4 := by omega
                have HT2 := Lib.hid (show Blk wr T 22 ((unsubF g (4 * (c + 1))).map vb).toArray from hT)
                clear hT hK hB hZ
                go_wp2_with fail
                go_roundw
                case rel => first | exact ⟨c + 1, by omega, by go_num, HK.out, HB.out, HZ.out, HT2.out, hn⟩ | ((repeat apply Exists.intro); exact ⟨⟨c + 1, by omega, by go_num, HK.out, HB.out, HZ.out, HT2.out, hn⟩, rfl⟩)
                case measure => simp [intOf]; omega
          · obtain rfl : c = 4 := by omega
            rw [show 4 * 4 = 16 from rfl, unsubF_all Hg16.out] at hT
            obtain ⟨u, hu⟩ : ∃ u, u = unsub g := ⟨_, rfl⟩
            have Hu16 := Lib.hid (show St16 u by rw [hu]; exact unsub_st g)
            have Hue := Lib.hid (show decF W R (k + 1) b = u by rw [hu, Hge.out])
            rw [← hu] at hT
            have HK := Lib.hid hK
            have HB := Lib.hid hB
            have HZ := Lib.hid hZ
            have HT := Lib.hid hT
            clear hK hB hZ hT hu
            have HF := Lib.hid (Blk.fill HB.out (u.map vb) (by rw [List.length_map, Hu16.out.1, List.size_toArray, List.length_map, Hg16.out.1]))
            have HKf := Lib.hid (HK.out.farCells (u.map vb) Hap.out.1 0)
            have HZf := Lib.hid (HZ.out.farCells (u.map vb) Hap.out.2.1 0)
            have Hnf := Lib.hid (nu_fill (u.map vb) (g := B) Hap.out.2.2.1 0 _ hn)
            obtain ⟨rd2, hrd2⟩ : ∃ x, x = rd - 1 := ⟨_, rfl⟩
            have wrd : IntKind.i64.wrap ((rd : Int) - 1) = (rd2 : Int) := by rw [IntKind.wrap_i64]; have := HR14.out; have := Hrd.out; omega
            have Hwr := Lib.hid (show (rd : Int) - 1 = (rd2 : Int) by omega)
            have Hrd2 := Lib.hid (show rd2 = R - (k + 1) ∧ rd2 < rd by have := Hrd.out; omega)
            have hkr : k + 1 ≤ R := hk
            clear hrd2 hn HK HZ
            obtain ⟨wo, rfl⟩ : ∃ q : World, q = wr := ⟨_, rfl⟩
            go_upto_region 4 with (first | (refine wpList_run _ (by rfl) (e16_load HT.out Hu16.out.1 (.tmp 7) rfl rfl) ?_) | (refine wpList_store_blk rfl 22 (.tmp 3) (.tmp 55) rfl B (u.map vb) rfl rfl 22 (g.map vb).toArray HB.out (by rw [List.length_map, Hu16.out.1, List.size_toArray, List.length_map, Hg16.out.1]) (by rw [List.length_map, Hu16.out.1]; kernel_rfl) (vb_one _) ?_))
            change Code.wp _ _ _ _ (wo.setCells B 0 (u.map vb))
            generalize wo.setCells B 0 (u.map vb) = w9 at *
            go_wp2_with fail
            go_roundw
            case rel =>
              have hF : Blk w9 B 22 ((decF W R (k + 1) b).map vb).toArray := by rw [Hue.out]; exact HF.out
              have hv : Value.int .i64 (rd2 : Int) = .int .i64 ((R - (k + 1) : Nat) : Int) := by rw [Hrd2.out.1]
              have hv2 : Value.int .i64 ((rd : Int) - 1) = .int .i64 ((R - (k + 1) : Nat) : Int) := by rw [Hwr.out]; exact hv
              first | exact ⟨k + 1, hkr, hv, HKf.out, hF, HZf.out, Hnf.out⟩ | exact ⟨k + 1, hkr, hv2, HKf.out, hF, HZf.out, Hnf.out⟩ | ((repeat apply Exists.intro); exact ⟨⟨k + 1, hkr, hv, HKf.out, hF, HZf.out, Hnf.out⟩, rfl⟩)
            case measure =>
              have := Hrd2.out
              simp [intOf]; omega
    · obtain rfl : k = R := by omega
      obtain rfl : rd = 0 := by omega
      have HDd := Lib.hid (show D = dec W k b by rw [HDe.out, Hst.out]; rfl)
      have Hz16n16 := Lib.hid (show St16 z16n from ⟨rfl, by decide⟩)
      obtain ⟨wo, rfl⟩ : ∃ q : World, q = wr := ⟨_, rfl⟩
      clear hrd
      go_wp2_with (first | (refine wpList_run _ (by rfl) (eKey_load HK.out HLl.out (.tmp 2) rfl rfl) ?_) | (refine wpList_run _ (by rfl) (e16_load HB.out Hst16.out.1 (.tmp 3) rfl rfl) ?_))
      refine HA.out.mono ?_
      rintro e w5 ⟨rfl, hb5⟩
      have HZ5 := Lib.hid (HZ.out.below hb5 HZ.out.lt)
      have HF := Lib.hid (Blk.fill HZ5.out (D.map vb) (by rw [List.length_map, HD16.out.1]; rfl))
      have Hnf := Lib.hid (nu_fill (D.map vb) (g := Z) Hap.out.2.2.2 0 _ (nu_trans hn hb5))
      clear hn hb5 HK HB HZ HA
      go_wp2_with (refine wpList_store_blk rfl 22 (.tmp 4) (.tmp 58) rfl Z (D.map vb) rfl rfl 22 (z16n.map vb).toArray HZ5.out (by rw [List.length_map, HD16.out.1, List.size_toArray, List.length_map, Hz16n16.out.1]) (by rw [List.length_map, HD16.out.1]; kernel_rfl) (vb_one _) ?_)
      refine bodyPost_ret (results_blk rfl _ Z 22 (D.map vb).toArray rfl HF.out Try.underlying22 (by rw [List.size_toArray, List.length_map, HD16.out.1]; kernel_rfl)) rfl ⟨by rw [HDd.out], Hnf.out⟩
end Go.Proofs.Ytnojbjconiddoaa

namespace Go.Proofs.Ytnojbjconiddoaa
open Go.ChangeShapes Go.WideShapes Go.ChangeAt Go.RowKit Fld Aes
set_option linter.unusedSimpArgs false

theorem e16_byte {o : Oper} {a : Act} {w : World} {g i : Nat} {y : Int} (hc : w.cell? ⟨g, i, none⟩ = some (.int .u8 y)) (x : Operand) (ho : o.op = .load 5 x) (hx : a.eval x = .pointer (some ⟨g, i, none⟩)) :
    (execOp a.eval o).run Try.prog w = .ok (.value (.int .u8 y)) w := by
  unfold execOp
  simp only [ho, hx]
  go_simp
theorem Blk.fillMid {w : World} {g : Nat} {t : TypeId} {l m r : List Value} (h : Blk w g t (l ++ m ++ r).toArray) (vs : List Value) (hl : vs.length = m.length) {k : Nat} (hk : k = l.length) : Blk (w.setCells g k vs) g t (l ++ vs ++ r).toArray := by
  subst hk
  have h1 := blk_setCells vs l.length w _ h
  have h2 := fold_set vs l.length (l ++ m ++ r).toArray (by simp; omega)
  have h3 : (l ++ m ++ r).toArray.toList.take l.length = l := by simp
  have h4 : (l ++ m ++ r).toArray.toList.drop (l.length + vs.length) = r := by rw [hl]; simp
  rw [h3, h4] at h2
  have h5 := congrArg List.toArray h2
  rw [Array.toArray_toList] at h5
  rw [h5] at h1
  exact h1
theorem wpList_store_in {P : Program} {ops : Array Oper} {rest : List Oper} {o : Oper} {a : Act} {w : World} {Q : Exit → Act → World → Prop} (hgd : o.guard = none) (ty : TypeId) (x y : Operand) (ho : o.op = .store ty x y) (g k : Nat) (vs : List Value) (hx : a.eval x = .pointer (some ⟨g, k, none⟩)) (hy : a.eval y = .agg vs.toArray)
    (t : TypeId) (cs : Array Value) (hb : Blk w g t cs) (hl : k + vs.length ≤ cs.size) (hi : (P.info? ty).map (·.size) = some vs.length) (h1 : ∀ v ∈ vs, v.oneCell' = true)
    (h : wpList P ops Q rest (a.put o.dst undef) (w.setCells g k vs)) : wpList P ops Q (o :: rest) a w :=
  wpList_store_mid hgd ty x y ho g k vs.toArray hx hy (hb.there k _ (by simpa using hl)) (by simpa using hi) (all_oneCell_toArray h1) (by simpa using h)
/-- The zero key. -/
def keyZ : List Value := .slice none 0 0 :: ((List.replicate 256 0).map vb ++ (List.replicate 256 0).map vb)
theorem zero_key : Try.zeroCells44 = keyZ.toArray := by kernel_rfl
theorem key_box {w : World} {g : Nat} {t : TypeId} (h : Blk w g t keyZ.toArray) : Blk (w.setCells g 1 (boxL.map vb)) g t ([Value.slice none 0 0] ++ boxL.map vb ++ (List.replicate 256 0).map vb).toArray :=
  Blk.fillMid (l := [.slice none 0 0]) (m := (List.replicate 256 0).map vb) (r := (List.replicate 256 0).map vb) h (boxL.map vb) (by rw [List.length_map, List.length_map, boxL_len, List.length_replicate]) rfl
theorem key_back {w : World} {g : Nat} {t : TypeId} (h : Blk w g t ([Value.slice none 0 0] ++ boxL.map vb ++ (List.replicate 256 0).map vb).toArray) : Blk (w.setCells g 257 (backL.map vb)) g t (keyL (.slice none 0 0)).toArray := by
  have h2 := Blk.fillMid (l := [.slice none 0 0] ++ boxL.map vb) (m := (List.replicate 256 0).map vb) (r := []) (by rw [List.append_nil]; exact h) (backL.map vb) (by rw [List.length_map, List.length_map, backL_len, List.length_replicate]) (k := 257) (by rw [List.length_append, List.length_map, boxL_len]; rfl)
  rw [List.append_nil] at h2
  exact h2
theorem keyL_set (v v' : Value) : (keyL v).toArray.setIfInBounds 0 v' = (keyL v').toArray := by
  rw [List.setIfInBounds_toArray, keyL, keyL, List.set_cons_zero]
/-- The bytes of a word, as values. -/
def elL (y : Nat) : List Nat := [wb y 0, wb y 1, wb y 2, wb y 3]
theorem flat_more (W : List Nat) (y : Nat) : (flat (W ++ [y])).map vb = (flat W).map vb ++ (elL y).map vb := by rw [flat_snoc, List.map_append]; rfl
theorem info_el : (Try.prog.info? 51).map (fun i => (i.zero, i.size, i.bytes)) = some (some (.agg (z4.map vb).toArray), 4, 4) := by kernel_rfl
theorem own_apart {w w' : World} {base : Nat} {e : TypeId} {size : Nat} {v : Value} {n k : Nat} {xs : List Value} (h : w.ownsRow base e size v n xs) (hb : w.grownBy w' (some k)) (hk : w.heap.size ≤ k) : w'.ownsRow base e size v n xs :=
  h.kept hb (by
    cases hv : v.ownBlock with
    | none => exact .inl rfl
    | some j =>
      refine .inr (fun e => ?_)
      injection e with e
      have := (h.lt j hv).2
      omega)
/-- What New holds: the key, its result, its box, the rows so far. -/
structure RK (w : World) (KK KR X B0 : Nat) (W : List Nat) (v : Value) (u : World) : Prop where
  c : Blk u KK 44 (keyL v).toArray
  z : Blk u KR 44 keyZ.toArray
  x : Blk u X 42 (boxL.map vb).toArray
  own : u.ownsRow B0 51 4 v W.length ((flat W).map vb)
  nu : Below w.heap.size w u
  base : B0 ≤ u.heap.size
  ord : w.heap.size ≤ KK ∧ KK < B0 ∧ w.heap.size ≤ KR ∧ KR < B0 ∧ X < B0 ∧ KR ≠ KK ∧ X ≠ KK
section
variable {w u u' : World} {KK KR X B0 : Nat} {W : List Nat} {v : Value}
theorem RK.under (H : RK w KK KR X B0 W v u) (hb : Below u.heap.size u u') : RK w KK KR X B0 W v u' :=
  ⟨H.c.below hb H.c.lt, H.z.below hb H.z.lt, H.x.below hb H.x.lt, own_kept H.own hb, nu_trans H.nu hb, Nat.le_trans H.base hb.size, H.ord⟩
/-- .. behind a block that came later. -/
theorem RK.later (H : RK w KK KR X B0 W v u) {u0 : World} {k : Nat} (H0 : u.heap.size ≤ k) (hu : Below u.heap.size u u0) (hb : u0.grownBy u' (some k)) : RK w KK KR X B0 W v u' :=
  H.under (below_turned hu hb hu.size H0)
theorem RK.push (H : RK w KK KR X B0 W v u) {v' : Value} {y : Nat} (hown : u'.ownsRow B0 51 4 v' (W.length + 1) ((flat W).map vb ++ (elL y).map vb)) (hg : u.grownBy u' v.ownBlock) :
    RK w KK KR X B0 (W ++ [y]) v' (u'.setCell ⟨KK, 0, none⟩ v') ∧ Blk u' KK 44 (keyL v).toArray ∧ Below w.heap.size w u' := by
  have hb : Below B0 u u' := below_grown hg H.base (fun k hk => (H.own.lt k hk).1)
  have hc : Blk u' KK 44 (keyL v).toArray := H.c.below hb H.ord.2.1
  have hgs : u'.grownBy (u'.setCell ⟨KK, 0, none⟩ v') (some KK) := gb_set (gb_refl u' (some KK)) (p := ⟨KK, 0, none⟩) (.inl rfl) v'
  have hput := hc.put 0 v'
  rw [keyL_set] at hput
  refine ⟨⟨hput, (H.z.below hb H.ord.2.2.2.1).far (p := ⟨KK, 0, none⟩) H.ord.2.2.2.2.2.1 v', (H.x.below hb H.ord.2.2.2.2.1).far (p := ⟨KK, 0, none⟩) H.ord.2.2.2.2.2.2 v', ?_, ?_, Nat.le_trans H.base (Nat.le_trans hb.size hgs.size), H.ord⟩, hc, H.nu.trans (hb.mono (by have := H.ord; omega))⟩
  · have h := own_off hown hgs H.ord.2.1
    rw [List.length_append, flat_more]
    exact h
  · exact nu_set (H.nu.trans (hb.mono (by have := H.ord; omega))) (p := ⟨KK, 0, none⟩) H.ord.1 v'
theorem RK.rows (H : RK w KK KR X B0 W v u) (h0 : 0 < W.length) : RowsAt u v W := by
  rcases H.own.2 with ⟨_, h⟩ | ⟨m, c, cur, hv, hb, hm, hc1, hc2, _, htk⟩
  · omega
  · exact ⟨m, c, cur, hv, hm, htk, hc1, hc2⟩
end
theorem row_at {w : World} {base m c n : Nat} {W : List Nat} (h : w.ownsRow base 51 4 (.slice (some ⟨m, 0, none⟩) n c) n ((flat W).map vb)) (hl : W.length = n) (i j : Nat) (hi : i < n) (hj : j < 4) : w.cell? ⟨m, i * 4 + j, none⟩ = some (.int .u8 ((wb (W.getD i 0) j : Nat) : Int)) := by
  rw [h.cellAt (i * 4 + j) (by omega), List.getElem?_map, show i * 4 + j = 4 * i + j by omega, flat_at W i j (by omega) hj]
  rfl
theorem row_range {w : World} {base m c n : Nat} {W : List Nat} (h : w.ownsRow base 51 4 (.slice (some ⟨m, 0, none⟩) n c) n ((flat W).map vb)) (hl : W.length = n) (i : Nat) (hi : i < n) : w.rangeAt m (i * 4) ((elL (W.getD i 0)).map vb) := fun j v hv => by
  rw [List.getElem?_map] at hv
  obtain ⟨x, hx, rfl⟩ := Option.map_eq_some_iff.1 hv
  have hj : j < 4 := (List.getElem?_eq_some_iff.1 hx).1
  rw [row_at h hl i j hi hj]
  have : j = 0 ∨ j = 1 ∨ j = 2 ∨ j = 3 := by omega
  rcases this with rfl | rfl | rfl | rfl <;> (cases hx; rfl)
theorem wb_top (g : Nat) (hg : g < 256) : wb (g * 16777216) 0 = g ∧ wb (g * 16777216) 1 = 0 ∧ wb (g * 16777216) 2 = 0 ∧ wb (g * 16777216) 3 = 0 := by
  simp only [wb]
  omega
theorem elL_at (t i : Nat) (h : i < 4) : (elL t)[i]? = some (wb t i) := by
  have : i = 0 ∨ i = 1 ∨ i = 2 ∨ i = 3 := by omega
  rcases this with rfl | rfl | rfl | rfl <;> rfl
theorem e4_load {o : Oper} {a : Act} {w : World} {b f : Nat} {cs : List Value} (hc : w.rangeAt b f cs) (h1 : cs.length = 4) (x : Operand) (ho : o.op = .load 51 x) (hx : a.eval x = .pointer (some ⟨b, f, none⟩)) :
    (execOp a.eval o).run Try.prog w = .ok (.value (.agg cs.toArray)) w :=
  exec_load_mid (P := Try.prog) (w := w) 51 x b f cs (.array 4 5) ho hx hc (by kernel_rfl) rfl (by rw [h1]; kernel_rfl)
/-- What the word ahead becomes, byte by byte. -/
theorem turn_zero (n j t : Nat) (h : j % n = 0) : elL (turnOf n j t) = [sb (wb t 1) ^^^ gpow 2 (j / n - 1), sb (wb t 2), sb (wb t 3), sb (wb t 0)] := by
  have hg := gpow_lt 2 (j / n - 1)
  have hT := wb_top (gpow 2 (j / n - 1)) hg
  have hs := wb_subW (rotW t)
  have hr := wb_rotW t
  unfold elL turnOf
  rw [if_pos h, wb_xor, wb_xor, wb_xor, wb_xor, hT.1, hT.2.1, hT.2.2.1, hT.2.2.2, hs.1, hs.2.1, hs.2.2.1, hs.2.2.2, hr.1, hr.2.1, hr.2.2.1, hr.2.2.2, Nat.xor_zero, Nat.xor_zero, Nat.xor_zero]
theorem turn_four (j t : Nat) (n : Nat) (h : ¬ j % n = 0) (h8 : n = 8) (h4 : j % 8 = 4) : elL (turnOf n j t) = [sb (wb t 0), sb (wb t 1), sb (wb t 2), sb (wb t 3)] := by
  have hs := wb_subW t
  unfold elL turnOf
  rw [if_neg h, if_pos ⟨h8, h4⟩, hs.1, hs.2.1, hs.2.2.1, hs.2.2.2]
theorem elL_xor (a b : Nat) : elL (a ^^^ b) = [wb a 0 ^^^ wb b 0, wb a 1 ^^^ wb b 1, wb a 2 ^^^ wb b 2, wb a 3 ^^^ wb b 3] := by
  unfold elL
  rw [wb_xor, wb_xor, wb_xor, wb_xor]
end Go.Proofs.Ytnojbjconiddoaa
