/-
  Words of four bytes; the walk of aes' box.
-/
import Derived.Test.YtnojbjconiddoaaFieldN
import Derived.Test.YtnojbjconiddoaaAp1
import Derived.Test.YtnojbjconiddoaaTouch
namespace Go.Proofs.Ytnojbjconiddoaa
open Go.ChangeShapes Go.WideShapes Go.ChangeAt Go.RowKit Fld Aes

theorem wN_or (a b c d : Nat) (ha : a < 256) (hb : b < 256) (hc : c < 256) (hd : d < 256) :
    bits .or .u32 (bits .or .u32 (bits .or .u32 ((a : Int) * 16777216) ((b : Int) * 65536)) ((c : Int) * 256)) (d : Int) = ((wN a b c d : Nat) : Int) := by
  have e1 := u32_or_nat (a * 16777216) (b * 65536) (by omega) (by omega)
  rw [nat_join 24 _ _ (by omega) (by omega)] at e1
  have e2 := u32_or_nat (a * 16777216 + b * 65536) (c * 256) (by omega) (by omega)
  rw [nat_join 16 _ _ (by omega) (by omega)] at e2
  have e3 := u32_or_nat (a * 16777216 + b * 65536 + c * 256) d (by omega) (by omega)
  rw [nat_join 8 _ _ (by omega) (by omega)] at e3
  rw [show (a : Int) * 16777216 = ((a * 16777216 : Nat) : Int) by simp, show (b : Int) * 65536 = ((b * 65536 : Nat) : Int) by simp, show (c : Int) * 256 = ((c * 256 : Nat) : Int) by simp, e1, e2, e3]
  rfl
theorem wN_a (a b c d : Nat) (ha : a < 256) (hb : b < 256) (hc : c < 256) (hd : d < 256) : (wN a b c d : Int) / 16777216 = (a : Int) := by unfold wN; omega
theorem wN_b (a b c d : Nat) (ha : a < 256) (hb : b < 256) (hc : c < 256) (hd : d < 256) : (wN a b c d : Int) / 65536 % 256 = (b : Int) := by unfold wN; omega
theorem wN_c (a b c d : Nat) (ha : a < 256) (hb : b < 256) (hc : c < 256) (hd : d < 256) : (wN a b c d : Int) / 256 % 256 = (c : Int) := by unfold wN; omega
theorem wN_d (a b c d : Nat) (ha : a < 256) (hb : b < 256) (hc : c < 256) (hd : d < 256) : (wN a b c d : Int) % 256 = (d : Int) := by unfold wN; omega

/-- Tables that are filled. -/
def BoxAt (w : World) (x : Nat) : Prop := ∃ cs, Blk w x 95 cs ∧ Tabs cs (fun a => a < 256)
theorem boxAt_box {w : World} {x : Nat} (h : BoxAt w x) (a : Nat) (ha : a < 256) : Calls Try.prog 54 #[.pointer (some ⟨x, 0, none⟩), .int .u8 a] w fun e w' => e = .returned (.int .u8 (sb a)) ∧ w = w' := by
  obtain ⟨cs, hg, ht⟩ := h
  exact box_any x a cs w ha hg ht

set_option maxRecDepth 100000 in
set_option maxHeartbeats 1000000 in
theorem aesBox_any (g x : Nat) (s r : Value) (a b c d : Nat) (ha : a < 256) (hb : b < 256) (hc : c < 256) (hd : d < 256) (w : World) (hg : Blk w g 75 #[s, r, .pointer (some ⟨x, 0, none⟩)]) (hx : BoxAt w x) :
    Calls Try.prog 47 #[.pointer (some ⟨g, 0, none⟩), .int .u32 ((wN a b c d : Nat) : Int)] w fun e w' => e = .returned (.int .u32 ((wN (sb a) (sb b) (sb c) (sb d) : Nat) : Int)) ∧ w = w' := by
  have c2 : w.cell? ⟨g, 2, none⟩ = some (.pointer (some ⟨x, 0, none⟩)) := hg.at 2 _ rfl
  have Ha := Lib.hid (boxAt_box hx a ha)
  have Hb := Lib.hid (boxAt_box hx b hb)
  have Hc := Lib.hid (boxAt_box hx c hc)
  have Hd := Lib.hid (boxAt_box hx d hd)
  have ea := wN_a a b c d ha hb hc hd
  have eb := wN_b a b c d ha hb hc hd
  have ec := wN_c a b c d ha hb hc hd
  have ed := wN_d a b c d ha hb hc hd
  have eo := wN_or (sb a) (sb b) (sb c) (sb d) (sb_lt a) (sb_lt b) (sb_lt c) (sb_lt d)
  have la := sb_lt a
  have lb := sb_lt b
  have lc := sb_lt c
  have ld := sb_lt d
  generalize sb a = a' at *
  generalize sb b = b' at *
  generalize sb c = c' at *
  generalize sb d = d' at *
  have w1 : IntKind.u32.wrap ((a' : Int) * 16777216) = (a' : Int) * 16777216 := by rw [IntKind.wrap_u32]; omega
  have w2 : IntKind.u32.wrap ((b' : Int) * 65536) = (b' : Int) * 65536 := by rw [IntKind.wrap_u32]; omega
  have w3 : IntKind.u32.wrap ((c' : Int) * 256) = (c' : Int) * 256 := by rw [IntKind.wrap_u32]; omega
  have hnlt := wN_lt a b c d ha hb hc hd
  generalize wN a b c d = n at *
  generalize wN a' b' c' d' = m at *
  go_enter Try.func47, Try.ntmps47
  go_wp2_with fail
  refine Ha.out.mono ?_
  rintro e w' ⟨rfl, rfl⟩
  go_wp2_with fail
  refine Hb.out.mono ?_
  rintro e w' ⟨rfl, rfl⟩
  go_wp2_with fail
  refine Hc.out.mono ?_
  rintro e w' ⟨rfl, rfl⟩
  go_wp2_with fail
  refine Hd.out.mono ?_
  rintro e w' ⟨rfl, rfl⟩
  go_wp2_with fail
  go_ret
  exact ⟨rfl, rfl⟩
theorem aesBox_w (g x : Nat) (s r : Value) (v : Nat) (hv : v < 4294967296) (w : World) (hg : Blk w g 75 #[s, r, .pointer (some ⟨x, 0, none⟩)]) (hx : BoxAt w x) :
    Calls Try.prog 47 #[.pointer (some ⟨g, 0, none⟩), .int .u32 (v : Int)] w fun e w' => e = .returned (.int .u32 (subW v : Nat)) ∧ w = w' := by
  have h := aesBox_any g x s r (wb v 0) (wb v 1) (wb v 2) (wb v 3) (wb_lt _ _) (wb_lt _ _) (wb_lt _ _) (wb_lt _ _) w hg hx
  rw [wN_wb v hv] at h
  exact h

/-! Words turned about. -/
theorem or_swap32 (x y : Int) : bits .or .u32 x y = bits .or .u32 y x := by
  show IntKind.u32.wrap ((BitVec.ofInt 32 x ||| BitVec.ofInt 32 y).toNat : Int) = IntKind.u32.wrap ((BitVec.ofInt 32 y ||| BitVec.ofInt 32 x).toNat : Int)
  rw [BitVec.or_comm]
theorem turn_val (v p q k : Nat) (hv : v < 4294967296) (hq : q = 2 ^ k) (hp : p * q = 4294967296) (hk : k < 32) : bits .or .u32 ((v : Int) * (q : Int) % 4294967296) ((v : Int) / (p : Int)) = ((v * q % 4294967296 + v / p : Nat) : Int) := by
  subst hq
  have hp0 : 0 < p := by rcases Nat.eq_zero_or_pos p with h | h
                         · subst h; simp at hp
                         · exact h
  have hlt : v / p < 2 ^ k := by
    rw [Nat.div_lt_iff_lt_mul hp0]
    rw [Nat.mul_comm] at hp
    omega
  have hdv : 2 ^ k ∣ v * 2 ^ k % 4294967296 := (Nat.dvd_mod_iff ⟨p, by rw [← hp, Nat.mul_comm]⟩).2 ⟨v, Nat.mul_comm _ _⟩
  obtain ⟨m, hm⟩ := hdv
  have e := u32_or_nat (v * 2 ^ k % 4294967296) (v / p) (Nat.mod_lt _ (by omega)) (Nat.lt_of_le_of_lt (Nat.div_le_self _ _) hv)
  have e2 : (v * 2 ^ k % 4294967296) ||| (v / p) = v * 2 ^ k % 4294967296 + v / p := by
    rw [hm, Nat.two_pow_add_eq_or_of_lt hlt]
  rw [e2] at e
  rw [← e]
  congr 1
def turnW (x : Nat) : Nat → Nat
  | 0 => x
  | 1 => wN (wb x 3) (wb x 0) (wb x 1) (wb x 2)
  | 2 => wN (wb x 2) (wb x 3) (wb x 0) (wb x 1)
  | _ => wN (wb x 1) (wb x 2) (wb x 3) (wb x 0)
set_option maxRecDepth 100000 in
theorem rot_l8 (v : Nat) (hv : v < 4294967296) (w : World) :
    Calls Try.prog 48 #[.int .u32 (v : Int), .int .i64 8] w fun e w' => e = .returned (.int .u32 (rotW v : Nat)) ∧ w = w' := by
  have hv1 := Lib.hid (show bits .or .u32 ((v : Int) * 256 % 4294967296) ((v : Int) / 16777216) = ((rotW v : Nat) : Int) by
    refine (turn_val v 16777216 256 8 hv rfl rfl (by omega)).trans (congrArg _ ?_)
    simp only [rotW, wN, wb]; omega)
  have hb : bits BinOp.and IntKind.u64 8 31 = 8 := by kernel_rfl
  go_enter Try.func48, Try.ntmps48
  go_wp2_with fail
  go_ret
  exact ⟨congrArg (fun y => Ending.returned (.int .u32 y)) hv1.out, rfl⟩
set_option maxRecDepth 100000 in
theorem rot_r0 (v : Nat) (hv : v < 4294967296) (w : World) :
    Calls Try.prog 48 #[.int .u32 (v : Int), .int .i64 0] w fun e w' => e = .returned (.int .u32 (turnW v 0 : Nat)) ∧ w = w' := by
  have hv1 := Lib.hid (show bits .or .u32 (v : Int) 0 = ((turnW v 0 : Nat) : Int) by
    have e := u32_or_nat v 0 hv (by omega)
    rw [Nat.or_zero] at e
    exact e)
  have hb : bits BinOp.and IntKind.u64 0 31 = 0 := by kernel_rfl
  have hd : (v : Int) / 4294967296 = 0 := by omega
  have hm : (v : Int) % 4294967296 = v := by omega
  go_enter Try.func48, Try.ntmps48
  go_wp2_with fail
  go_ret
  exact ⟨congrArg (fun y => Ending.returned (.int .u32 y)) hv1.out, rfl⟩
set_option maxRecDepth 100000 in
theorem rot_r8 (v : Nat) (hv : v < 4294967296) (w : World) :
    Calls Try.prog 48 #[.int .u32 (v : Int), .int .i64 (-8)] w fun e w' => e = .returned (.int .u32 (turnW v 1 : Nat)) ∧ w = w' := by
  have hv1 := Lib.hid (show bits .or .u32 ((v : Int) * 16777216 % 4294967296) ((v : Int) / 256) = ((turnW v 1 : Nat) : Int) by
    refine (turn_val v 256 16777216 24 hv rfl rfl (by omega)).trans (congrArg _ ?_)
    simp only [turnW, wN, wb]; omega)
  have hb : bits BinOp.and IntKind.u64 (IntKind.u64.wrap (-8)) 31 = 24 := by kernel_rfl
  go_enter Try.func48, Try.ntmps48
  go_wp2_with fail
  go_ret
  exact ⟨congrArg (fun y => Ending.returned (.int .u32 y)) hv1.out, rfl⟩
set_option maxRecDepth 100000 in
theorem rot_r16 (v : Nat) (hv : v < 4294967296) (w : World) :
    Calls Try.prog 48 #[.int .u32 (v : Int), .int .i64 (-16)] w fun e w' => e = .returned (.int .u32 (turnW v 2 : Nat)) ∧ w = w' := by
  have hv1 := Lib.hid (show bits .or .u32 ((v : Int) * 65536 % 4294967296) ((v : Int) / 65536) = ((turnW v 2 : Nat) : Int) by
    refine (turn_val v 65536 65536 16 hv rfl rfl (by omega)).trans (congrArg _ ?_)
    simp only [turnW, wN, wb]; omega)
  have hb : bits BinOp.and IntKind.u64 (IntKind.u64.wrap (-16)) 31 = 16 := by kernel_rfl
  go_enter Try.func48, Try.ntmps48
  go_wp2_with fail
  go_ret
  exact ⟨congrArg (fun y => Ending.returned (.int .u32 y)) hv1.out, rfl⟩
set_option maxRecDepth 100000 in
theorem rot_r24 (v : Nat) (hv : v < 4294967296) (w : World) :
    Calls Try.prog 48 #[.int .u32 (v : Int), .int .i64 (-24)] w fun e w' => e = .returned (.int .u32 (turnW v 3 : Nat)) ∧ w = w' := by
  have hv1 := Lib.hid (show bits .or .u32 ((v : Int) * 256 % 4294967296) ((v : Int) / 16777216) = ((turnW v 3 : Nat) : Int) by
    refine (turn_val v 16777216 256 8 hv rfl rfl (by omega)).trans (congrArg _ ?_)
    simp only [turnW, wN, wb]; omega)
  have hb : bits BinOp.and IntKind.u64 (IntKind.u64.wrap (-24)) 31 = 8 := by kernel_rfl
  go_enter Try.func48, Try.ntmps48
  go_wp2_with fail
  go_ret
  exact ⟨congrArg (fun y => Ending.returned (.int .u32 y)) hv1.out, rfl⟩
end Go.Proofs.Ytnojbjconiddoaa
