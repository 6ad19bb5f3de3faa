/-
  What the proof of GcmTurned rests on, part 2 of 10.
-/
import Derived.Test.YtpeibkdcglkimaaGcmTurnedB1
namespace Go.Proofs.Ytpeibkdcglkimaa
open Go.ChangeShapes Go.WideShapes Go.ChangeAt Go.RowKit Fld Aes

theorem wN_or (a b c d : Nat) (ha : a < 256) (hb : b < 256) (hc : c < 256) (hd : d < 256) :
    bits .or .u32 (bits .or .u32 (bits .or .u32 ((a : Int) * 16777216) ((b : Int) * 65536)) ((c : Int) * 256)) (d : Int) = ((wN a b c d : Nat) : Int) := by
  have e1 := u32_or_nat (a * 16777216) (b * 65536) (by omega) (by omega)
  rw [nat_join 24 _ _ (by omega) (by omega)] at e1
  have e2 := u32_or_nat (a * 16777216 + b * 65536) (c * 256) (by omega) (by omega)
  rw [nat_join 16 _ _ (by omega) (by omega)] at e2
  have e3 := u32_or_nat (a * 16777216 + b * 65536 + c * 256) d (by omega) (by omega)
  rw [nat_join 8 _ _ (by omega) (by omega)] at e3
  rw [show (a : Int) * 16777216 = ((a * 16777216 : Nat) : Int) by simp, show (b : Int) * 65536 = ((b * 65536 : Nat) : Int) by simp, show (c : Int) * 256 = ((c * 256 : Nat) : Int) by simp, e1, e2, e3]
  rfl
theorem wN_a (a b c d : Nat) (ha : a < 256) (hb : b < 256) (hc : c < 256) (hd : d < 256) : (wN a b c d : Int) / 16777216 = (a : Int) := by unfold wN; omega
theorem wN_b (a b c d : Nat) (ha : a < 256) (hb : b < 256) (hc : c < 256) (hd : d < 256) : (wN a b c d : Int) / 65536 % 256 = (b : Int) := by unfold wN; omega
theorem wN_c (a b c d : Nat) (ha : a < 256) (hb : b < 256) (hc : c < 256) (hd : d < 256) : (wN a b c d : Int) / 256 % 256 = (c : Int) := by unfold wN; omega
theorem wN_d (a b c d : Nat) (ha : a < 256) (hb : b < 256) (hc : c < 256) (hd : d < 256) : (wN a b c d : Int) % 256 = (d : Int) := by unfold wN; omega

/-- Tables that are filled. -/
def BoxAt (w : World) (x : Nat) : Prop := ∃ cs, Blk w x 98 cs ∧ Tabs cs (fun a => a < 256)
theorem boxAt_box {w : World} {x : Nat} (h : BoxAt w x) (a : Nat) (ha : a < 256) : Calls Try.prog 45 #[.pointer (some ⟨x, 0, none⟩), .int .u8 a] w fun e w' => e = .returned (.int .u8 (sb a)) ∧ w = w' := by
  obtain ⟨cs, hg, ht⟩ := h
  exact box_any x a cs w ha hg ht

set_option maxRecDepth 100000 in
set_option maxHeartbeats 1000000 in
theorem aesBox_any (g x : Nat) (s r : Value) (a b c d : Nat) (ha : a < 256) (hb : b < 256) (hc : c < 256) (hd : d < 256) (w : World) (hg : Blk w g 67 #[s, r, .pointer (some ⟨x, 0, none⟩)]) (hx : BoxAt w x) :
    Calls Try.prog 38 #[.pointer (some ⟨g, 0, none⟩), .int .u32 ((wN a b c d : Nat) : Int)] w fun e w' => e = .returned (.int .u32 ((wN (sb a) (sb b) (sb c) (sb d) : Nat) : Int)) ∧ w = w' := by
  have c2 : w.cell? ⟨g, 2, none⟩ = some (.pointer (some ⟨x, 0, none⟩)) := hg.at 2 _ rfl
  have Ha := Lib.hid (boxAt_box hx a ha)
  have Hb := Lib.hid (boxAt_box hx b hb)
  have Hc := Lib.hid (boxAt_box hx c hc)
  have Hd := Lib.hid (boxAt_box hx d hd)
  have ea := wN_a a b c d ha hb hc hd
  have eb := wN_b a b c d ha hb hc hd
  have ec := wN_c a b c d ha hb hc hd
  have ed := wN_d a b c d ha hb hc hd
  have eo := wN_or (sb a) (sb b) (sb c) (sb d) (sb_lt a) (sb_lt b) (sb_lt c) (sb_lt d)
  have la := sb_lt a
  have lb := sb_lt b
  have lc := sb_lt c
  have ld := sb_lt d
  generalize sb a = a' at *
  generalize sb b = b' at *
  generalize sb c = c' at *
  generalize sb d = d' at *
  have w1 : IntKind.u32.wrap ((a' : Int) * 16777216) = (a' : Int) * 16777216 := by rw [IntKind.wrap_u32]; omega
  have w2 : IntKind.u32.wrap ((b' : Int) * 65536) = (b' : Int) * 65536 := by rw [IntKind.wrap_u32]; omega
  have w3 : IntKind.u32.wrap ((c' : Int) * 256) = (c' : Int) * 256 := by rw [IntKind.wrap_u32]; omega
  have hnlt := wN_lt a b c d ha hb hc hd
  generalize wN a b c d = n at *
  generalize wN a' b' c' d' = m at *
  go_enter Try.func38, Try.ntmps38
  go_wp2_with fail
  refine Ha.out.mono ?_
  rintro e w' ⟨rfl, rfl⟩
  go_wp2_with fail
  refine Hb.out.mono ?_
  rintro e w' ⟨rfl, rfl⟩
  go_wp2_with fail
  refine Hc.out.mono ?_
  rintro e w' ⟨rfl, rfl⟩
  go_wp2_with fail
  refine Hd.out.mono ?_
  rintro e w' ⟨rfl, rfl⟩
  go_wp2_with fail
  go_ret
  exact ⟨rfl, rfl⟩
theorem aesBox_w (g x : Nat) (s r : Value) (v : Nat) (hv : v < 4294967296) (w : World) (hg : Blk w g 67 #[s, r, .pointer (some ⟨x, 0, none⟩)]) (hx : BoxAt w x) :
    Calls Try.prog 38 #[.pointer (some ⟨g, 0, none⟩), .int .u32 (v : Int)] w fun e w' => e = .returned (.int .u32 (subW v : Nat)) ∧ w = w' := by
  have h := aesBox_any g x s r (wb v 0) (wb v 1) (wb v 2) (wb v 3) (wb_lt _ _) (wb_lt _ _) (wb_lt _ _) (wb_lt _ _) w hg hx
  rw [wN_wb v hv] at h
  exact h

/-! Words turned about. -/
theorem or_swap32 (x y : Int) : bits .or .u32 x y = bits .or .u32 y x := by
  show IntKind.u32.wrap ((BitVec.ofInt 32 x ||| BitVec.ofInt 32 y).toNat : Int) = IntKind.u32.wrap ((BitVec.ofInt 32 y ||| BitVec.ofInt 32 x).toNat : Int)
  rw [BitVec.or_comm]
theorem turn_val (v p q k : Nat) (hv : v < 4294967296) (hq : q = 2 ^ k) (hp : p * q = 4294967296) (hk : k < 32) : bits .or .u32 ((v : Int) * (q : Int) % 4294967296) ((v : Int) / (p : Int)) = ((v * q % 4294967296 + v / p : Nat) : Int) := by
  subst hq
  have hp0 : 0 < p := by rcases Nat.eq_zero_or_pos p with h | h
                         · subst h; simp at hp
                         · exact h
  have hlt : v / p < 2 ^ k := by
    rw [Nat.div_lt_iff_lt_mul hp0]
    rw [Nat.mul_comm] at hp
    omega
  have hdv : 2 ^ k ∣ v * 2 ^ k % 4294967296 := (Nat.dvd_mod_iff ⟨p, by rw [← hp, Nat.mul_comm]⟩).2 ⟨v, Nat.mul_comm _ _⟩
  obtain ⟨m, hm⟩ := hdv
  have e := u32_or_nat (v * 2 ^ k % 4294967296) (v / p) (Nat.mod_lt _ (by omega)) (Nat.lt_of_le_of_lt (Nat.div_le_self _ _) hv)
  have e2 : (v * 2 ^ k % 4294967296) ||| (v / p) = v * 2 ^ k % 4294967296 + v / p := by
    rw [hm, Nat.two_pow_add_eq_or_of_lt hlt]
  rw [e2] at e
  rw [← e]
  congr 1
def turnW (x : Nat) : Nat → Nat
  | 0 => x
  | 1 => wN (wb x 3) (wb x 0) (wb x 1) (wb x 2)
  | 2 => wN (wb x 2) (wb x 3) (wb x 0) (wb x 1)
  | _ => wN (wb x 1) (wb x 2) (wb x 3) (wb x 0)
set_option maxRecDepth 100000 in
theorem rot_l8 (v : Nat) (hv : v < 4294967296) (w : World) :
    Calls Try.prog 39 #[.int .u32 (v : Int), .int .i64 8] w fun e w' => e = .returned (.int .u32 (rotW v : Nat)) ∧ w = w' := by
  have hv1 := Lib.hid (show bits .or .u32 ((v : Int) * 256 % 4294967296) ((v : Int) / 16777216) = ((rotW v : Nat) : Int) by
    refine (turn_val v 16777216 256 8 hv rfl rfl (by omega)).trans (congrArg _ ?_)
    simp only [rotW, wN, wb]; omega)
  have hb : bits BinOp.and IntKind.u64 8 31 = 8 := by kernel_rfl
  go_enter Try.func39, Try.ntmps39
  go_wp2_with fail
  go_ret
  exact ⟨congrArg (fun y => Ending.returned (.int .u32 y)) hv1.out, rfl⟩
set_option maxRecDepth 100000 in
theorem rot_r0 (v : Nat) (hv : v < 4294967296) (w : World) :
    Calls Try.prog 39 #[.int .u32 (v : Int), .int .i64 0] w fun e w' => e = .returned (.int .u32 (turnW v 0 : Nat)) ∧ w = w' := by
  have hv1 := Lib.hid (show bits .or .u32 (v : Int) 0 = ((turnW v 0 : Nat) : Int) by
    have e := u32_or_nat v 0 hv (by omega)
    rw [Nat.or_zero] at e
    exact e)
  have hb : bits BinOp.and IntKind.u64 0 31 = 0 := by kernel_rfl
  have hd : (v : Int) / 4294967296 = 0 := by omega
  have hm : (v : Int) % 4294967296 = v := by omega
  go_enter Try.func39, Try.ntmps39
  go_wp2_with fail
  go_ret
  exact ⟨congrArg (fun y => Ending.returned (.int .u32 y)) hv1.out, rfl⟩
set_option maxRecDepth 100000 in
theorem rot_r8 (v : Nat) (hv : v < 4294967296) (w : World) :
    Calls Try.prog 39 #[.int .u32 (v : Int), .int .i64 (-8)] w fun e w' => e = .returned (.int .u32 (turnW v 1 : Nat)) ∧ w = w' := by
  have hv1 := Lib.hid (show bits .or .u32 ((v : Int) * 16777216 % 4294967296) ((v : Int) / 256) = ((turnW v 1 : Nat) : Int) by
    refine (turn_val v 256 16777216 24 hv rfl rfl (by omega)).trans (congrArg _ ?_)
    simp only [turnW, wN, wb]; omega)
  have hb : bits BinOp.and IntKind.u64 (IntKind.u64.wrap (-8)) 31 = 24 := by kernel_rfl
  go_enter Try.func39, Try.ntmps39
  go_wp2_with fail
  go_ret
  exact ⟨congrArg (fun y => Ending.returned (.int .u32 y)) hv1.out, rfl⟩
set_option maxRecDepth 100000 in
theorem rot_r16 (v : Nat) (hv : v < 4294967296) (w : World) :
    Calls Try.prog 39 #[.int .u32 (v : Int), .int .i64 (-16)] w fun e w' => e = .returned (.int .u32 (turnW v 2 : Nat)) ∧ w = w' := by
  have hv1 := Lib.hid (show bits .or .u32 ((v : Int) * 65536 % 4294967296) ((v : Int) / 65536) = ((turnW v 2 : Nat) : Int) by
    refine (turn_val v 65536 65536 16 hv rfl rfl (by omega)).trans (congrArg _ ?_)
    simp only [turnW, wN, wb]; omega)
  have hb : bits BinOp.and IntKind.u64 (IntKind.u64.wrap (-16)) 31 = 16 := by kernel_rfl
  go_enter Try.func39, Try.ntmps39
  go_wp2_with fail
  go_ret
  exact ⟨congrArg (fun y => Ending.returned (.int .u32 y)) hv1.out, rfl⟩
set_option maxRecDepth 100000 in
theorem rot_r24 (v : Nat) (hv : v < 4294967296) (w : World) :
    Calls Try.prog 39 #[.int .u32 (v : Int), .int .i64 (-24)] w fun e w' => e = .returned (.int .u32 (turnW v 3 : Nat)) ∧ w = w' := by
  have hv1 := Lib.hid (show bits .or .u32 ((v : Int) * 256 % 4294967296) ((v : Int) / 16777216) = ((turnW v 3 : Nat) : Int) by
    refine (turn_val v 16777216 256 8 hv rfl rfl (by omega)).trans (congrArg _ ?_)
    simp only [turnW, wN, wb]; omega)
  have hb : bits BinOp.and IntKind.u64 (IntKind.u64.wrap (-24)) 31 = 8 := by kernel_rfl
  go_enter Try.func39, Try.ntmps39
  go_wp2_with fail
  go_ret
  exact ⟨congrArg (fun y => Ending.returned (.int .u32 y)) hv1.out, rfl⟩
end Go.Proofs.Ytpeibkdcglkimaa

namespace Go.Proofs.Ytpeibkdcglkimaa
open Go.ChangeShapes Go.WideShapes Go.ChangeAt Go.RowKit

theorem info_u8 : (Try.prog.info? 5).map (fun i => (i.zero, i.size, i.bytes)) = some (some (.int .u8 0), 1, 1) := by kernel_rfl

/-- make of bytes, at a length and a capacity. -/
theorem mk_bytes (l c : Nat) (li ci : Int) (hl : li = (l : Int)) (hc : ci = (c : Int)) (hlc : l ≤ c) (hb : c ≤ 281474976710656) :
    ∃ Z : List Value, Z.length = c ∧ ∀ W, (Instr.makeSlice 22 (.int .i64 li) (.int .i64 ci)).run Try.prog W = .ok (.slice (some ⟨W.heap.size, 0, none⟩) l c) (W.alloc (.cells Z.toArray 5)) := by
  obtain ⟨i0, hi, hz0, hz1, hz2⟩ := info_parts info_u8
  subst hl
  subst hc
  refine ⟨(madeCells (Value.int .u8 0).cells (c * i0.size)).toList, by simp [madeCells, hz1], fun W => ?_⟩
  have := run_make (P := Try.prog) W 22 5 i0 (.int .u8 0) Try.underlying22 hi hz0 .i64 .i64 (l : Int) (c : Int) (by omega) (by omega) (by rw [hz2]; omega) (by omega)
  rw [this]
  simp only [Int.toNat_natCast]

/-- What a row that is filled to its end lies in. -/
theorem blk_of_full {w : World} {base : Nat} {e : TypeId} {g n : Nat} {xs : List Value} (h : w.ownsRow base e 1 (.slice (some ⟨g, 0, none⟩) n n) n xs) : Blk w g e xs.toArray := by
  rcases h.2 with ⟨h2, _⟩ | ⟨g', cap, cur, h2, _, hh, _, _, hsz, htk⟩
  · cases h2
  · injection h2 with h3 h4 h5
    injection h3 with h3
    injection h3 with h3
    subst h3
    subst h5
    have e1 : cur.toList = xs := by rw [← htk, List.take_of_length_le (by rw [Array.length_toList, hsz]; exact Nat.le_refl _)]
    show w.heap[g]? = _
    rw [hh, ← e1]

end Go.Proofs.Ytpeibkdcglkimaa

namespace Go.Proofs.Ytpeibkdcglkimaa
open Go.ChangeShapes Go.WideShapes Go.ChangeAt Go.RowKit

/-- The first m of the size bytes of n, the greatest first. -/
def beL (n size m : Nat) : List Nat := (List.range m).map fun t => n / 2 ^ (8 * (size - 1 - t)) % 256
theorem beL_succ (n size m : Nat) : beL n size (m + 1) = beL n size m ++ [n / 2 ^ (8 * (size - 1 - m)) % 256] := by
  unfold beL
  rw [List.range_succ, List.map_append]
  rfl
theorem beL_length (n size m : Nat) : (beL n size m).length = m := by simp [beL]
/-- May n be put in size bytes? -/
def putOk (n size : Nat) : Prop := 1 ≤ size ∧ size ≤ 8 ∧ (size < 8 → n / 2 ^ (8 * size) = 0)

theorem beL_lt (n size m : Nat) : ∀ x ∈ beL n size m, x < 256 := by
  intro x hx
  obtain ⟨t, _, rfl⟩ := List.mem_map.1 hx
  exact Nat.mod_lt _ (by omega)
theorem put_own {w : World} {base : Nat} {e : TypeId} {v : Value} {len n size : Nat} {xs : List Nat} (hl : xs.length = len) (hlt : ∀ x ∈ xs, x < 256) (h : w.ownsRow base e 1 v (len + (size - 0)) ((xs ++ beL n size (size - 0)).map vb)) : OwnB w base e v (xs ++ beL n size size) := by
  rw [Nat.sub_zero] at h
  refine ⟨by rw [List.length_append, beL_length, hl]; exact h, ?_⟩
  intro x hx
  rcases List.mem_append.1 hx with hx | hx
  · exact hlt x hx
  · exact beL_lt n size size x hx

set_option maxRecDepth 100000 in
set_option maxHeartbeats 1000000 in
theorem put_ok (a : Option Addr) (len cap : Nat) (xs : List Nat) (n size : Nat) (w : World) (hx : BytesIn w a len cap xs) (hlen : len ≤ 140737488355320) (hp : putOk n size) (hn : n < 18446744073709551616) :
    Calls Try.prog 63 #[.slice a len cap, .int .u64 n, .int .i64 size] w fun e w' =>
      ∃ v, e = .returned (.tuple #[v, .int .i64 0]) ∧ OwnB w' w.heap.size 5 v (xs ++ beL n size size) ∧ Below w.heap.size w w' := by
  obtain ⟨i0, hi, hz0, hz1, hz2⟩ := info_parts info_u8
  obtain ⟨h1, h8, hfit⟩ := hp
  have hxl := Lib.hid hx.1.1
  have hwf : ∀ x ∈ xs, x < 256 := fun x h => wf_u8_lt (hx.1.2.1 x h)
  have Hwf := Lib.hid hwf
  clear hwf
  have Hf := Lib.hid hfit
  have Hn := Lib.hid hn
  clear hfit hn
  obtain ⟨Z, hZ, hmk⟩ := mk_bytes len (len + size) (len : Int) ((len : Int) + size) rfl (by omega) (by omega) (by omega)
  obtain ⟨cs, hcs⟩ : ∃ cs : List Value, cs = xs.map vb := ⟨_, rfl⟩
  have hcl : cs.length = len := by rw [hcs, List.length_map, hx.1.1]
  have hc1 : ∀ v ∈ cs, v.oneCell' = true := by rw [hcs]; exact vb_one xs
  have Hcs := Lib.hid hcs
  have hsrc : 0 < len → ∃ ad, a = some ad ∧ ∀ (j : Nat) (v : Value), cs[j]? = some v → (w.alloc (.cells Z.toArray 5)).cell? (ad.add j) = some v := by
    intro hp
    obtain ⟨b, off, rfl, hlt, hc⟩ := hx.1.2.2 hp
    refine ⟨_, rfl, fun j v hv => ?_⟩
    rw [hcs, List.getElem?_map, Option.map_eq_some_iff] at hv
    obtain ⟨x, hxx, rfl⟩ := hv
    rw [Go.WideShapes.add_plain, World.cell?_alloc_lt _ _ _ hlt]
    exact hc j x hxx
  have Hsrc := Lib.hid hsrc
  have Hcl := Lib.hid hcl
  have HZ := Lib.hid hZ
  have Hhg := Lib.hid (heap_alloc_new w (.cells Z.toArray 5))
  have Hhn := Lib.hid (show cs.length = Nat.min len len by rw [hcl]; simp)
  have Hhp := Lib.hid (show 0 < cs.length → (some (⟨w.heap.size, 0, none⟩ : Addr) = some ⟨w.heap.size, 0, none⟩) ∧ ∃ ad, a = some ad ∧ ∀ (j : Nat) (v : Value), cs[j]? = some v → (w.alloc (.cells Z.toArray 5)).cell? (ad.add j) = some v from fun hp => ⟨rfl, hsrc (by omega)⟩)
  have Hhf := Lib.hid (show 0 + cs.length ≤ Z.length by omega)
  have Hhb := Lib.hid ((Below.refl w.heap.size w).alloc (Nat.le_refl _) (.cells Z.toArray 5))
  clear hcs hsrc hcl hZ Hsrc
  have t1 : decide ((size : Int) < 1) = false := by simp; omega
  have t2 : decide (8 < (size : Int)) = false := by simp; omega
  have t3 : (size < 8 ∧ ((n : Int) / 2 ^ (8 * size) != 0) = false) ∨ 8 ≤ size := by
    by_cases h : size < 8
    · refine .inl ⟨h, ?_⟩
      have := Hf.out h
      have e : (n : Int) / 2 ^ (8 * size) = ((n / 2 ^ (8 * size) : Nat) : Int) := by simp
      rw [e, this]
      rfl
    · exact .inr (by omega)
  rcases t3 with ⟨h, t3⟩ | h
  all_goals
    go_enter Try.func63, Try.ntmps63
    go_wp2_with (refine wpList_copy_splice rfl (.tmp 34) (.tmp 35) 22 22 rfl 5 Try.underlying22 (by kernel_rfl) _ _ _ _ _ _ rfl rfl w.heap.size 0 Z 5 Hhg.out cs Hhn.out Hhp.out Hhf.out hc1 w.heap.size w Hhb.out (Nat.le_refl _) ?_)
    intro w2 hg2 hb2
    have hown2 : w2.ownsRow w.heap.size 5 1 (.slice (some ⟨w.heap.size, 0, none⟩) len (len + size)) len cs := by
      refine ⟨by rw [Hcl.out]; omega, .inr ⟨w.heap.size, len + size, _, rfl, Nat.le_refl _, hg2.out, by omega, by unfold maxLen; omega, ?_, ?_⟩⟩
      · simp only [List.size_toArray]
        rw [length_splice _ _ _ (by rw [Hcl.out, HZ.out]; omega), HZ.out]
        omega
      · simp [splice, ← Hcl.out]
    clear hg2
    go_wp2_with fail
    go_loopw [8, 9] (fun v i wr => ∃ j : Nat, j ≤ size ∧ i = .int .i64 ((j : Int) - 1) ∧ wr.ownsRow w.heap.size 5 1 v (len + (size - j)) (cs ++ (beL n size (size - j)).map vb) ∧ Below w.heap.size w wr) (fun _ i _ => (intOf i + 1).toNat)
    case atStart => exact ⟨size, by omega, rfl, by rw [show size - size = 0 by omega]; simpa [beL] using hown2, hb2⟩
    case round =>
      obtain ⟨j, hj, rfl, hown, hb⟩ := hrel
      cases j with
      | zero =>
        go_wp2_with fail
        go_ret2
        exact ⟨_, rfl, put_own hxl.out Hwf.out (by rw [Hcs.out, ← List.map_append] at hown; exact hown), hb⟩
      | succ j =>
        have e1 : ((j + 1 : Nat) : Int) - 1 = (j : Int) := by omega
        rw [e1]
        clear e1
        go_wp2_with (at_builtin; refine wpList_append_own _ rfl (.tmp 43) (.tmp 49) 22 rfl w.heap.size 5 i0 (.int .u8 0) 1 1 Try.underlying22 hi hz0 hz1 hz2 rfl (by decide) _ _ _ rfl (hown.alloc _) ⟨wr.heap.size, 0, none⟩ 1 1 [.int .u8 ((n : Int) / 2 ^ (8 * j) % 256)] rfl rfl ?c1 ?c2 ?c3 ?c4 ?c5 ?_)
        case c1 => exact cell_one_new _ _ _
        case c2 => intro u hu; obtain rfl := List.mem_singleton.1 hu; rfl
        case c3 => unfold maxLen; omega
        case c4 => omega
        case c5 => have := hb.size; simp; omega
        intro v' w3 hown3 hg3 _
        have hb3 := (hb.alloc hb.size (.cells #[.int .u8 ((n : Int) / 2 ^ (8 * j) % 256)] 5)).grown hg3 (by have := hb.size; simp; omega) (fun k hk => (hown.lt k hk).1)
        have hl : len + (size - (j + 1)) + 1 = len + (size - j) := by omega
        rw [hl] at hown3
        have hbe : cs ++ ((beL n size (size - (j + 1))).map vb ++ [Value.int .u8 ((n : Int) / 2 ^ (8 * j) % 256)]) = cs ++ (beL n size (size - j)).map vb := by
          rw [show size - j = (size - (j + 1)) + 1 by omega, beL_succ, List.map_append, show size - 1 - (size - (j + 1)) = j by omega]
          simp [vb]
        rw [hbe] at hown3
        have Hown3 := Lib.hid hown3
        clear hown3 hbe hl hown hg3
        go_wp2_with fail
        go_roundw
        case rel => exact ⟨j, by omega, by go_num, Hown3.out, hb3⟩
        case measure => simp [intOf]

/-- put_ok at a number of bytes and a number that are spelled in whatever way. -/
theorem put_at (a : Option Addr) (len cap : Nat) (xs : List Nat) (n size : Nat) (ni si : Int) (w : World) (hx : BytesIn w a len cap xs) (hlen : len ≤ 140737488355320) (hp : putOk n size) (hn : n < 18446744073709551616) (hni : ni = (n : Int)) (hsi : si = (size : Int)) :
    Calls Try.prog 63 #[.slice a len cap, .int .u64 ni, .int .i64 si] w fun e w' =>
      ∃ v, e = .returned (.tuple #[v, .int .i64 0]) ∧ OwnB w' w.heap.size 5 v (xs ++ beL n size size) ∧ Below w.heap.size w w' := by
  subst hni
  subst hsi
  exact put_ok a len cap xs n size w hx hlen hp hn

/-- What can't be put. -/
theorem put_bad (a : Option Addr) (len cap : Nat) (n : Nat) (size : Int) (w : World) (hn : n < 18446744073709551616) (h0 : -9223372036854775808 ≤ size) (h9 : size < 9223372036854775808)
    (hp : size < 1 ∨ 8 < size ∨ (1 ≤ size ∧ size < 8 ∧ n / 2 ^ (8 * size.toNat) ≠ 0)) :
    Calls Try.prog 63 #[.slice a len cap, .int .u64 n, .int .i64 size] w fun e w' => e = .returned (.tuple #[.slice none 0 0, .int .i64 1]) ∧ w = w' := by
  have Hn := Lib.hid hn
  clear hn
  rcases hp with hp | hp | ⟨h1, h8, hp⟩
  · have t1 : decide (size < 1) = true := by simpa using hp
    go_enter Try.func63, Try.ntmps63
    go_wp2_with fail
    go_ret2
    exact ⟨rfl, rfl⟩
  · have t1 : decide (size < 1) = false := by simp; omega
    have t2 : decide (8 < size) = true := by simpa using hp
    go_enter Try.func63, Try.ntmps63
    go_wp2_with fail
    go_ret2
    exact ⟨rfl, rfl⟩
  · obtain ⟨s, rfl⟩ := Int.eq_ofNat_of_zero_le (show 0 ≤ size by omega)
    rw [Int.toNat_natCast] at hp
    have t1 : decide ((s : Int) < 1) = false := by simp; omega
    have t2 : decide (8 < (s : Int)) = false := by simp; omega
    have t3 : ((n : Int) / 2 ^ (8 * s) != 0) = true := by
      have e : (n : Int) / 2 ^ (8 * s) = ((n / 2 ^ (8 * s) : Nat) : Int) := by simp
      rw [e, bne_iff_ne]
      omega
    clear hp h0 h9
    go_enter Try.func63, Try.ntmps63
    go_wp2_with fail
    go_ret2
    exact ⟨rfl, rfl⟩
end Go.Proofs.Ytpeibkdcglkimaa

namespace Go.Proofs.Ytpeibkdcglkimaa
open Go.ChangeShapes Go.WideShapes Go.ChangeAt Go.RowKit

theorem take_next {xs ys : List Nat} {k x : Nat} (hx : xs[k]? = some x) (hy : ys[k]? = some x) (h : xs.take k = ys.take k) : xs.take (k + 1) = ys.take (k + 1) := by
  rw [List.take_add_one, List.take_add_one, h, hx, hy]
theorem take_snoc_map {xs : List Nat} {k x : Nat} (hx : xs[k]? = some x) : (xs.take (k + 1)).map vb = (xs.take k).map vb ++ [vb x] := by
  rw [List.take_add_one, hx, List.map_append]
  rfl

set_option maxRecDepth 100000 in
set_option maxHeartbeats 1000000 in
theorem same_len (a b : Option Addr) (la ca cb : Nat) (xs ys : List Nat) (w : World) (ha : IntsIn w .u8 a la xs) (hb : IntsIn w .u8 b la ys) (hla : la ≤ 9223372036854775807) :
    Calls Try.prog 16 #[.slice a la ca, .slice b la cb] w fun e w' => e = .returned (.bool (decide (xs = ys))) ∧ ∃ n, w' = w.drewN n := by
  go_enter Try.func16, Try.ntmps16
  go_wp2_with fail
  go_loopw [5] (fun i wr => ∃ k : Nat, k ≤ la ∧ i = .int .i64 k ∧ xs.take k = ys.take k ∧ ∃ n, wr = w.drewN n) (fun i _ => la - (intOf i).toNat)
  case atStart => exact ⟨0, by omega, rfl, rfl, 0, rfl⟩
  case round =>
    obtain ⟨k, hk, rfl, ht, n, rfl⟩ := hrel
    have Ht := Lib.hid ht
    clear ht
    by_cases hlt : k < la
    · obtain ⟨b1, o1, x, rfl, hb1, hx, hwx, hcx⟩ := ha.elem k hlt
      obtain ⟨b2, o2, y, rfl, hb2, hy, hwy, hcy⟩ := hb.elem k hlt
      have Hx := Lib.hid hx
      have Hy := Lib.hid hy
      clear hx hy hwx hwy
      have hi : (k : Int) < (la : Int) := by omega
      by_cases hxy : x = y
      · subst hxy
        go_wp2_with fail
        go_quiet (fail)
        go_wp2_with fail
        go_roundw
        case rel => exact ⟨k + 1, by omega, by go_num, take_next Hx.out Hy.out Ht.out, _, rfl⟩
        case measure => simp [intOf]; omega
      · have t : ((x : Int) != (y : Int)) = true := by rw [bne_iff_ne]; omega
        have Hne := Lib.hid (show xs ≠ ys from fun e => hxy (by have h := Hx.out; rw [e, Hy.out] at h; injection h with h; exact h.symm))
        clear hxy
        go_wp2_with fail
        go_quiet (fail)
        go_wp2_with fail
        go_ret
        exact ⟨by rw [decide_eq_false Hne.out]; rfl, _, World.drewN_drewN _ _ _⟩
    · obtain rfl : k = la := by omega
      have He := Lib.hid (show xs = ys by
        have h := Ht.out
        rw [List.take_of_length_le (by rw [ha.1]; exact Nat.le_refl _), List.take_of_length_le (by rw [hb.1]; exact Nat.le_refl _)] at h
        exact h)
      go_wp2_with fail
      go_ret
      exact ⟨by rw [decide_eq_true He.out]; rfl, _, rfl⟩

theorem same_any (a b : Option Addr) (la lb ca cb : Nat) (xs ys : List Nat) (w : World) (ha : IntsIn w .u8 a la xs) (hb : IntsIn w .u8 b lb ys) (hla : la ≤ 9223372036854775807) (hlb : lb ≤ 9223372036854775807) :
    Calls Try.prog 16 #[.slice a la ca, .slice b lb cb] w fun e w' => e = .returned (.bool (decide (xs = ys))) ∧ ∃ n, w' = w.drewN n := by
  by_cases hl : la = lb
  · subst hl
    exact same_len a b la ca cb xs ys w ha hb hla
  · have Hne := Lib.hid (show xs ≠ ys from fun e => hl (by rw [← ha.1, ← hb.1, e]))
    have t : ((la : Int) != (lb : Int)) = true := by rw [bne_iff_ne]; omega
    clear hl
    go_enter Try.func16, Try.ntmps16
    go_wp2_with fail
    go_ret
    exact ⟨by rw [decide_eq_false Hne.out]; rfl, 0, rfl⟩

set_option maxRecDepth 100000 in
set_option maxHeartbeats 1000000 in
theorem copy_any (a : Option Addr) (len cap : Nat) (xs : List Nat) (w : World) (hx : BytesIn w a len cap xs) (hlen : len ≤ 140737488355320) :
    Calls Try.prog 21 #[.slice a len cap] w fun e w' => ∃ v, e = .returned v ∧ OwnB w' w.heap.size 5 v xs ∧ Below w.heap.size w w' := by
  obtain ⟨i0, hi, hz0, hz1, hz2⟩ := info_parts info_u8
  obtain ⟨Z, hZ, hmk⟩ := mk_bytes 0 len 0 (len : Int) rfl rfl (by omega) (by omega)
  have hxl := Lib.hid hx.1.1
  have HZ := Lib.hid hZ
  have hwf : ∀ x ∈ xs, x < 256 := fun x h => wf_u8_lt (hx.1.2.1 x h)
  have Hwf := Lib.hid hwf
  clear hZ hwf
  go_enter Try.func21, Try.ntmps21
  go_wp2_with fail
  go_loopw [3, 4] (fun v i wr => ∃ k : Nat, k ≤ len ∧ i = .int .i64 k ∧ wr.ownsRow w.heap.size 5 1 v k ((xs.take k).map vb) ∧ Below w.heap.size w wr) (fun _ i _ => len - (intOf i).toNat)
  case atStart => exact ⟨0, by omega, rfl, by simpa using World.ownsRow_made w Z.toArray len (Nat.le_refl _) (by unfold maxLen; omega) (by simpa using HZ.out), (Below.refl _ _).alloc (Nat.le_refl _) _⟩
  case round =>
    obtain ⟨k, hk, rfl, hown, hb⟩ := hrel
    have hsz := hb.size
    by_cases hlt : k < len
    · obtain ⟨b1, o1, x, rfl, hb1, hxx, hwx, hcx⟩ := hx.1.elem k hlt
      have hc1 : wr.cell? ⟨b1, o1 + k, none⟩ = some (.int .u8 (x : Int)) := (hb.cell hb1).trans hcx
      have Hx := Lib.hid hxx
      have hi0 : (k : Int) < (len : Int) := by omega
      clear hxx hwx hcx
      go_wp2_with (at_builtin; refine wpList_append_own _ rfl (.tmp 14) (.tmp 19) 22 rfl w.heap.size 5 i0 (.int .u8 0) 1 1 Try.underlying22 hi hz0 hz1 hz2 rfl (by decide) _ _ _ rfl (hown.alloc _) ⟨wr.heap.size, 0, none⟩ 1 1 [.int .u8 (x : Int)] rfl rfl ?c1 ?c2 ?c3 ?c4 ?c5 ?_)
      case c1 => exact cell_one_new _ _ _
      case c2 => intro u hu; obtain rfl := List.mem_singleton.1 hu; rfl
      case c3 => unfold maxLen; omega
      case c4 => omega
      case c5 => simp; omega
      intro v' w3 hown3 hg3 _
      have hb3 := (hb.alloc hb.size (.cells #[.int .u8 (x : Int)] 5)).grown hg3 (by simp; omega) (fun k hk => (hown.lt k hk).1)
      have Hown3 := Lib.hid (show w3.ownsRow w.heap.size 5 1 v' (k + 1) ((xs.take (k + 1)).map vb) by rw [take_snoc_map Hx.out, List.map_take]; exact hown3)
      clear hown3 hown hg3
      go_wp2_with fail
      go_roundw
      case rel => exact ⟨k + 1, by omega, by go_num, Hown3.out, hb3⟩
      case measure => simp [intOf]; omega
    · obtain rfl : k = len := by omega
      have Hown := Lib.hid (show OwnB wr w.heap.size 5 _ xs from ⟨by rw [List.take_of_length_le (by rw [hxl.out]; exact Nat.le_refl _)] at hown; rw [hxl.out]; exact hown, Hwf.out⟩)
      go_wp2_with fail
      go_ret
      exact ⟨_, rfl, Hown.out, hb⟩

/-- Lent bytes, with the room behind them. -/
def lentCells (xs : List Nat) : Array Value := ((xs ++ [201, 202, 203]).map vb).toArray

set_option maxRecDepth 100000 in
set_option maxHeartbeats 1000000 in
theorem lent_any (a : Option Addr) (len cap : Nat) (xs : List Nat) (w : World) (hx : BytesIn w a len cap xs) (hlen : len ≤ 140737488355320) :
    Calls Try.prog 13 #[.slice a len cap] w fun e w' => e = .returned (.slice (some ⟨w.heap.size, 0, none⟩) len (len + 3)) ∧ Blk w' w.heap.size 5 (lentCells xs) ∧ Below w.heap.size w w' := by
  obtain ⟨i0, hi, hz0, hz1, hz2⟩ := info_parts info_u8
  obtain ⟨Z, hZ, hmk⟩ := mk_bytes 0 (len + 3) 0 ((len : Int) + 3) rfl (by omega) (by omega) (by omega)
  have hxl := Lib.hid hx.1.1
  have HZ := Lib.hid (show Z.toArray.size = (len + 3) * 1 by simpa using hZ)
  have hmade := World.ownsRow_made (base := w.heap.size) (e := 5) (size := 1) w Z.toArray (len + 3) (Nat.le_refl _) (by unfold maxLen; omega) HZ.out
  have hsrc := (hx.keep ((Below.refl w.heap.size w).alloc (Nat.le_refl _) (.cells Z.toArray 5))).src
  have Hsrc := Lib.hid hsrc
  have Hnone := Lib.hid hx.2
  have Hmade := Lib.hid hmade
  clear hZ hsrc hmade
  go_enter Try.func13, Try.ntmps13
  go_wp2_with (at_builtin; refine wpList_append_fits_any _ rfl (.tmp 9) (.tmp 10) 22 rfl w.heap.size 5 i0 1 Try.underlying22 hi hz1 w.heap.size 0 (len + 3) [] rfl Hmade.out a len cap (xs.map vb) rfl ?c1 Hnone.out Hsrc.out (vb_one xs) ?c2 ?_)
  case c1 => rw [List.length_map, hxl.out]; omega
  case c2 => omega
  intro w1 hown1 hg1
  have hb1 := ((Below.refl w.heap.size w).alloc (Nat.le_refl _) (.cells Z.toArray 5)).grown hg1 (by simp) (fun k hk => by injection hk with hk; omega)
  have hsz1 := hg1.size
  have hs1 : w.heap.size < w1.heap.size := by simp at hsz1; omega
  have Hown1 := Lib.hid hown1
  clear hown1 hg1 hsz1
  have Hnew := Lib.hid (show ∀ ad, some (⟨w1.heap.size, 0, none⟩ : Addr) = some ad → ∀ (j : Nat) (u : Value), [vb 201, vb 202, vb 203][j]? = some u → (w1.alloc (.cells #[.int .u8 201, .int .u8 202, .int .u8 203] 5)).cell? (ad.add j) = some u from by
    rintro ad had j u hu
    injection had with had
    subst had
    rw [Go.WideShapes.add_plain, Nat.zero_add]
    refine (Blk.made w1 5 #[.int .u8 201, .int .u8 202, .int .u8 203]).at j u ?_
    rw [← hu]
    exact List.getElem?_toArray)
  go_wp2_with (at_builtin; refine wpList_append_fits_any _ rfl (.tmp 12) (.tmp 13) 22 rfl w.heap.size 5 i0 1 Try.underlying22 hi hz1 w.heap.size len (len + 3) (xs.map vb) rfl (Hown1.out.alloc _) (some ⟨w1.heap.size, 0, none⟩) 3 3 [vb 201, vb 202, vb 203] rfl rfl (fun h => by cases h) Hnew.out (vb_one [201, 202, 203]) (Nat.le_refl _) ?_)
  intro w2 hown2 hg2
  have hb2 := (hb1.alloc (Nat.le_of_lt hs1) (.cells #[.int .u8 201, .int .u8 202, .int .u8 203] 5)).grown hg2 (by simp; omega) (fun k hk => by injection hk with hk; omega)
  have Hfull := Lib.hid (show Blk w2 w.heap.size 5 (lentCells xs) by
    have := blk_of_full hown2
    unfold lentCells
    rw [List.map_append]
    exact this)
  clear hown2 hg2
  go_wp2_with fail
  go_ret
  exact ⟨rfl, Hfull.out, hb2⟩

set_option maxRecDepth 100000 in
set_option maxHeartbeats 1000000 in
theorem kept_any (g : Nat) (a : Option Addr) (len cap : Nat) (xs : List Nat) (w : World) (hg : Blk w g 5 (lentCells xs)) (hx : IntsIn w .u8 a len xs) (hlen : len ≤ 140737488355320) :
    Calls Try.prog 17 #[.slice (some ⟨g, 0, none⟩) len (len + 3), .slice a len cap] w fun e w' => e = .returned (.bool true) ∧ ∃ n, w' = w.drewN n := by
  have hxl := hx.1
  have hl : ∀ i, i < 3 → (lentCells xs)[len + i]? = some (vb (201 + i)) := by
    intro i hi
    unfold lentCells
    rw [List.map_append, List.getElem?_toArray, List.getElem?_append_right (by rw [List.length_map]; omega), List.length_map, hxl, show len + i - len = i by omega]
    match i, hi with
    | 0, _ => rfl
    | 1, _ => rfl
    | 2, _ => rfl
  have c0 : w.cell? ⟨g, len, none⟩ = some (.int .u8 201) := hg.at len _ (hl 0 (by omega))
  have c1 : w.cell? ⟨g, len + 1, none⟩ = some (.int .u8 202) := hg.at (len + 1) _ (hl 1 (by omega))
  have c2 : w.cell? ⟨g, len + 2, none⟩ = some (.int .u8 203) := hg.at (len + 2) _ (hl 2 (by omega))
  have hin : IntsIn w .u8 (some ⟨g, 0, none⟩) len xs := ⟨hxl, hx.2.1, fun _ => ⟨g, 0, rfl, hg.lt, fun j n hn => by
    rw [Nat.zero_add]
    refine hg.at j _ ?_
    have hj : j < xs.length := (List.getElem?_eq_some_iff.1 hn).1
    unfold lentCells
    rw [List.map_append, List.getElem?_toArray, List.getElem?_append_left (by rw [List.length_map]; exact hj), List.getElem?_map, hn]
    rfl⟩⟩
  clear hl hxl
  go_enter Try.func17, Try.ntmps17
  go_wp2_with fail
  refine (same_len _ a len (len + 3) cap xs xs _ hin hx (by omega)).mono ?_
  rintro e w1 ⟨rfl, n, rfl⟩
  rw [show decide (xs = xs) = true by simp]
  go_wp2_with fail
  go_ret
  exact ⟨rfl, n, rfl⟩
end Go.Proofs.Ytpeibkdcglkimaa

namespace Go.Proofs.Ytpeibkdcglkimaa
open Go.ChangeShapes Go.WideShapes Go.ChangeAt Go.RowKit

/-- A reader's cells. -/
def rdCells (a : Option Addr) (len cap : Nat) (fault : Int) : Array Value := #[.slice a len cap, .int .i64 fault]
/-- What a reader gives up with. -/
def stopV (why : Int) : Value := .iface 112 (.agg #[.int .i64 why])

theorem need_ok (g : Nat) (a : Option Addr) (len cap : Nat) (n : Int) (w : World) (hg : Blk w g 101 (rdCells a len cap 0)) (hn : n ≤ (len : Int)) :
    Calls Try.prog 59 #[.pointer (some ⟨g, 0, none⟩), .int .i64 n, .bool true] w fun e w' => e = .returned (.tuple #[]) ∧ w = w' := by
  have c0 := hg.at 0 (.slice a len cap) rfl
  have c1 := hg.at 1 (.int .i64 0) rfl
  go_enter Try.func59, Try.ntmps59
  go_wp2_with fail
  go_end0
  exact ⟨rfl, rfl⟩
theorem need_wrong (g : Nat) (a : Option Addr) (len cap : Nat) (n : Int) (w : World) (hg : Blk w g 101 (rdCells a len cap 0)) :
    Calls Try.prog 59 #[.pointer (some ⟨g, 0, none⟩), .int .i64 n, .bool false] w fun e w' => e = .panicked [{ v := stopV 1, recovered := false }] ∧ w = w' := by
  have c1 := hg.at 1 (.int .i64 0) rfl
  go_enter Try.func59, Try.ntmps59
  go_wp2_with fail
  exact ⟨rfl, rfl, rfl⟩
theorem need_short (g : Nat) (a : Option Addr) (len cap : Nat) (n : Int) (w : World) (hg : Blk w g 101 (rdCells a len cap 0)) (hn : (len : Int) < n) :
    Calls Try.prog 59 #[.pointer (some ⟨g, 0, none⟩), .int .i64 n, .bool true] w fun e w' => e = .panicked [{ v := stopV 2, recovered := false }] ∧ w = w' := by
  have c0 := hg.at 0 (.slice a len cap) rfl
  have c1 := hg.at 1 (.int .i64 0) rfl
  go_enter Try.func59, Try.ntmps59
  go_wp2_with fail
  exact ⟨rfl, rfl, rfl⟩
theorem need_fault (g : Nat) (a : Option Addr) (len cap : Nat) (n f : Int) (r : Bool) (w : World) (hg : Blk w g 101 (rdCells a len cap f)) (hf : f ≠ 0) :
    Calls Try.prog 59 #[.pointer (some ⟨g, 0, none⟩), .int .i64 n, .bool r] w fun e w' => e = .panicked [{ v := stopV f, recovered := false }] ∧ w = w' := by
  have c1 := hg.at 1 (.int .i64 f) rfl
  have t : (f != 0) = true := by rw [bne_iff_ne]; exact hf
  clear hf
  go_enter Try.func59, Try.ntmps59
  go_wp2_with fail
  exact ⟨rfl, rfl, rfl⟩
end Go.Proofs.Ytpeibkdcglkimaa

namespace Go.Proofs.Ytpeibkdcglkimaa
open Go.ChangeShapes Go.WideShapes Go.ChangeAt Go.RowKit

theorem assert_stop (f : Int) (W : World) : (Instr.typeAssert (.iface 112 (.agg #[.int .i64 f])) 20 112 true).run Try.prog W = .ok (.tuple #[.agg #[.int .i64 f], .bool true]) W := by kernel_rfl

set_option maxHeartbeats 1000000 in
theorem catch_stop (bx g : Nat) (f : Int) (a : Option Addr) (len cap : Nat) (f9 : Int) (older : List PanicEntry) (w : World) (hb : w.cell? ⟨bx, 0, none⟩ = some (.pointer (some ⟨g, 0, none⟩))) (hg : Blk w g 101 (rdCells a len cap f9)) :
    CallsD Try.prog 68 #[.pointer (some ⟨bx, 0, none⟩)] (.panicking ({ v := stopV f, recovered := false } :: older)) w fun e u' w' =>
      e = .returned (.tuple #[]) ∧ u' = .panicking ({ v := stopV f, recovered := true } :: older) ∧ w.grownBy w' (some g) ∧ Blk w' g 101 (rdCells none 0 0 f) := by
  refine callsD_of_wpS Try.func68 rfl fun c₀ cs hu => ?_
  apply wpS_seq
  apply wpS_region
  simp [wpOpsS, go_sem, recoverD, hu, Try.ntmps68, Exit.thenS, stopV]
  have c0 := hg.at 0 (.slice a len cap) rfl
  have c1 := hg.at 1 (.int .i64 f9) rfl
  have f0 := hg.free 0
  have f1 := hg.free 1
  have hlt := hg.lt
  have hbx : bx < w.heap.size := World.block_lt_of_cell? _ _ hb
  have Hu := Lib.hid hu
  clear hu
  refine wpS_of_wp ?_
  have hfr : (#[Value.pointer (some ⟨bx, 0, none⟩)] ++ ((Array.replicate 22 undef).setIfInBounds 3 (Value.iface 112 (.agg #[.int .i64 f]))).setIfInBounds 0 (Value.iface 112 (.agg #[.int .i64 f])) : Array Value)
      = #[.pointer (some ⟨bx, 0, none⟩), .iface 112 (.agg #[.int .i64 f]), undef, undef, .iface 112 (.agg #[.int .i64 f]), undef, undef, undef, undef, undef, undef, undef, undef, undef, undef, undef, undef, undef, undef, undef, undef, undef, undef] := by simp [Array.replicate]
  rw [hfr]
  clear hfr
  generalize hQ : (fun (e : Exit) (a' : Act) (w' : World) => bodyPostS _ _ _ _ _ e a' _ w') = Q
  have HQ := Lib.hid hQ
  have hta := assert_stop f
  clear hQ
  go_wp2_with fail
  go_region
  rw [← HQ.out]
  refine ⟨rfl, _, rfl, .tuple #[], by simp [results, Try.results68, go_sem], rfl, rfl, ?_, ?_⟩
  · exact gb_drew (gb_alloc (gb_set (gb_set (gb_refl w (some g)) (.inl rfl) _) (.inl rfl) _) _)
  · exact (((hg.put 0 (.slice none 0 0)).put 1 (.int .i64 f)).alloc _).drew

theorem catch_idle (bx : Nat) (w : World) :
    CallsD Try.prog 68 #[.pointer (some ⟨bx, 0, none⟩)] .returning w fun e u' w' => e = .returned (.tuple #[]) ∧ u' = .returning ∧ w' = w := by
  refine callsD_of_wpS Try.func68 rfl fun c₀ cs hu => ?_
  apply wpS_seq
  apply wpS_region
  simp [wpOpsS, go_sem, recoverD, hu, Try.ntmps68, Exit.thenS]
  apply wpS_seq
  apply wpS_region
  simp [wpOpsS, go_sem, Exit.thenS]
  refine wpS_cond (t := false) (by simp [Act.eval, Array.replicate]) ?_
  simp only [Bool.false_eq_true, if_false]
  refine wpS_of_wp (wp_skip ?_)
  cases c₀
  simp_all [bodyPostS, results, Try.results68]
end Go.Proofs.Ytpeibkdcglkimaa

namespace Go.Proofs.Ytpeibkdcglkimaa
open Go.ChangeShapes Go.WideShapes Go.ChangeAt Go.RowKit

theorem left_any (g : Nat) (a : Option Addr) (len cap : Nat) (f : Int) (w : World) (hg : Blk w g 101 (rdCells a len cap f)) :
    Calls Try.prog 36 #[.pointer (some ⟨g, 0, none⟩)] w fun e w' => e = .returned (.int .i64 (len : Int)) ∧ w = w' := by
  have c0 := hg.at 0 (.slice a len cap) rfl
  go_enter Try.func36, Try.ntmps36
  go_wp2_with fail
  go_ret
  exact ⟨rfl, rfl⟩
theorem left_nil (w : World) : Calls Try.prog 36 #[.pointer none] w fun e w' => e = .returned (.int .i64 0) ∧ w = w' := by
  go_enter Try.func36, Try.ntmps36
  go_wp2_with fail
  go_ret
  exact ⟨rfl, rfl⟩
/-- What End answers. -/
def endOf (len : Nat) (f : Int) : Int := if f ≠ 0 then f else if 0 < len then 4 else 0
end Go.Proofs.Ytpeibkdcglkimaa

namespace Go.Proofs.Ytpeibkdcglkimaa
open Go.ChangeShapes Go.WideShapes Go.ChangeAt Go.RowKit

set_option maxRecDepth 100000 in
set_option maxHeartbeats 400000 in
theorem clone_some (ad : Addr) (len cap : Nat) (xs : List Nat) (w : World) (hx : BytesIn w (some ad) len cap xs) (hlen : len ≤ 140737488355320) :
    Calls Try.prog 56 #[.slice (some ad) len cap] w fun e w' => ∃ v, e = .returned v ∧ OwnB w' w.heap.size 5 v xs ∧ Below w.heap.size w w' := by
  obtain ⟨i0, hi, hz0, hz1, hz2⟩ := info_parts info_u8
  have hnil := fun W : World => @Lib.run_eql_slice_nil Try.prog W
  have Hown := Lib.hid (World.ownsRow_made (base := w.heap.size) (e := 5) (size := 1) w #[] 0 (Nat.le_refl _) (by unfold maxLen; omega) rfl)
  have Hsrc := Lib.hid ((hx.keep ((Below.refl w.heap.size w).alloc (Nat.le_refl _) (.cells #[] 5))).src ad rfl)
  have Hl := Lib.hid (show (xs.map vb).length = len * 1 by rw [List.length_map, hx.1.1]; omega)
  have Hm := Lib.hid (show 0 + len ≤ maxLen by unfold maxLen; omega)
  have Hb := Lib.hid (show (0 + len) * 1 ≤ 140737488355328 by omega)
  have Hz := Lib.hid (show w.heap.size ≤ (w.alloc (.cells #[] 5)).heap.size by simp)
  go_enter Try.func56, Try.ntmps56
  go_wp2_with (at_builtin; refine wpList_append_own _ rfl (.tmp 5) (.tmp 6) 22 rfl w.heap.size 5 i0 (.int .u8 0) 1 1 Try.underlying22 hi hz0 hz1 hz2 rfl (by decide) _ 0 [] rfl Hown.out ad len cap (xs.map vb) rfl Hl.out Hsrc.out (vb_one xs) Hm.out Hb.out Hz.out ?_)
  intro v' w2 hown2 hg2 _
  have hb2 := ((Below.refl w.heap.size w).alloc (Nat.le_refl _) (.cells #[] 5)).grown hg2 (by simp) (fun k hk => by have hk2 : w.heap.size = k := Option.some.inj hk; omega)
  have Hfin := Lib.hid (show OwnB w2 w.heap.size 5 v' xs from ⟨by rw [hx.1.1]; simpa using hown2, fun x h => wf_u8_lt (hx.1.2.1 x h)⟩)
  clear hown2 hg2
  go_wp2_with fail
  go_ret
  exact ⟨_, rfl, Hfin.out, hb2⟩
theorem clone_nil (w : World) : Calls Try.prog 56 #[.slice none 0 0] w fun e w' => e = .returned (.slice none 0 0) ∧ w = w' := by
  have hnil := fun W : World => @Lib.run_eql_slice_nil Try.prog W
  go_enter Try.func56, Try.ntmps56
  go_wp2_with fail
  go_ret
  exact ⟨rfl, rfl⟩
theorem clone_any (a : Option Addr) (len cap : Nat) (xs : List Nat) (w : World) (hx : BytesIn w a len cap xs) (hlen : len ≤ 140737488355320) :
    Calls Try.prog 56 #[.slice a len cap] w fun e w' => ∃ v, e = .returned v ∧ OwnB w' w.heap.size 5 v xs ∧ Below w.heap.size w w' := by
  cases a with
  | some ad => exact clone_some ad len cap xs w hx hlen
  | none =>
    obtain ⟨rfl, rfl⟩ := hx.2 rfl
    have hnil : xs = [] := List.eq_nil_of_length_eq_zero hx.1.1
    subst hnil
    exact (clone_nil w).mono fun e w' ⟨he, hw⟩ => ⟨_, he, ⟨⟨by simp, .inl ⟨rfl, rfl⟩⟩, by simp⟩, by rw [← hw]; exact Below.refl _ _⟩
end Go.Proofs.Ytpeibkdcglkimaa

namespace Go.Proofs.Ytpeibkdcglkimaa
open Go.ChangeShapes Go.WideShapes Go.ChangeAt Go.RowKit

/-- A reader at block g that holds what is left, xs, in a block of its own that lies from B on. -/
def RdAt (w : World) (B g : Nat) (xs : List Nat) (f : Int) : Prop :=
  ∃ a cap, Blk w g 101 (rdCells a xs.length cap f) ∧ BytesIn w a xs.length cap xs ∧ xs.length ≤ cap ∧ cap ≤ maxLen ∧ B ≤ g ∧ (0 < xs.length → ∀ ad, a = some ad → B ≤ ad.block ∧ ad.block < g)

theorem RdAt.keep {w w' : World} {B g : Nat} {xs : List Nat} {f : Int} (h : RdAt w B g xs f) (hb : Below w.heap.size w w') : RdAt w' B g xs f := by
  obtain ⟨a, cap, h1, h2, h3⟩ := h
  exact ⟨a, cap, h1.below hb h1.lt, h2.keep hb, h3⟩
theorem RdAt.lt {w : World} {B g : Nat} {xs : List Nat} {f : Int} (h : RdAt w B g xs f) : g < w.heap.size := by
  obtain ⟨_, _, h1, _⟩ := h
  exact h1.lt
theorem RdAt.low {w : World} {B g : Nat} {xs : List Nat} {f : Int} (h : RdAt w B g xs f) : B ≤ g := by
  obtain ⟨_, _, _, _, _, _, h1, _⟩ := h
  exact h1
/-- A store below the base turns nothing of a reader. -/
theorem RdAt.far {w w' : World} {B g k : Nat} {xs : List Nat} {f : Int} (h : RdAt w B g xs f) (hb : w.grownBy w' (some k)) (hk : k < B) : RdAt w' B g xs f := by
  obtain ⟨a, cap, h1, h2, h3, h4, h5, h6⟩ := h
  refine ⟨a, cap, h1.grown hb (fun e => by injection e; omega), ⟨⟨h2.1.1, h2.1.2.1, fun hp => ?_⟩, h2.2⟩, h3, h4, h5, h6⟩
  obtain ⟨b, off, rfl, hlt, hc⟩ := h2.1.2.2 hp
  have := (h6 hp _ rfl).1
  exact ⟨b, off, rfl, Nat.lt_of_lt_of_le hlt hb.size, fun j n hn => (World.cell?_of_block (hb.block b hlt (fun e => by injection e with e; simp at this; omega))).trans (hc j n hn)⟩

/-- A store behind the reader turns nothing of it. -/
theorem RdAt.past {w w' : World} {B g k : Nat} {xs : List Nat} {f : Int} (h : RdAt w B g xs f) (hb : w.grownBy w' (some k)) (hk : g < k) : RdAt w' B g xs f := by
  obtain ⟨a, cap, h1, h2, h3, h4, h5, h6⟩ := h
  refine ⟨a, cap, h1.grown hb (fun e => by injection e; omega), ⟨⟨h2.1.1, h2.1.2.1, fun hp => ?_⟩, h2.2⟩, h3, h4, h5, h6⟩
  obtain ⟨b, off, rfl, hlt, hc⟩ := h2.1.2.2 hp
  have := (h6 hp _ rfl).2
  exact ⟨b, off, rfl, Nat.lt_of_lt_of_le hlt hb.size, fun j n hn => (World.cell?_of_block (hb.block b hlt (fun e => by injection e with e; simp at this; omega))).trans (hc j n hn)⟩

theorem newReader_any (a : Option Addr) (len cap : Nat) (xs : List Nat) (w : World) (hx : BytesIn w a len cap xs) (hlen : len ≤ 140737488355320) :
    Calls Try.prog 35 #[.slice a len cap] w fun e w' => ∃ g, e = .returned (.pointer (some ⟨g, 0, none⟩)) ∧ RdAt w' w.heap.size g xs 0 ∧ Below w.heap.size w w' := by
  have hcl := clone_any a len cap xs w hx hlen
  have Hcl := Lib.hid hcl
  clear hcl
  go_enter Try.func35, Try.ntmps35
  go_wp2_with fail
  refine Hcl.out.mono ?_
  rintro e w1 ⟨v, rfl, hown, hb⟩
  obtain ⟨a1, c1, rfl, h1, h2, h3, h4⟩ := hown.lies
  have hsz := hb.size
  clear hown
  go_wp2_with fail
  go_ret
  exact ⟨w1.heap.size, rfl, ⟨a1, c1, Blk.made _ _ _, h3.keep ((Below.refl _ _).alloc (Nat.le_refl _) _), h1, h2, hsz, fun _ ad had => h4 ad had⟩, hb.alloc hsz _⟩
end Go.Proofs.Ytpeibkdcglkimaa

namespace Go.Proofs.Ytpeibkdcglkimaa

/-- The number that bytes make, the greatest byte first. -/
def numOf (l : List Nat) : Nat := l.foldl (fun a b => a * 256 + b) 0
theorem numOf_snoc (l : List Nat) (x : Nat) : numOf (l ++ [x]) = numOf l * 256 + x := by simp [numOf]
theorem numOf_beL (n size m : Nat) (hn : n < 2 ^ (8 * size)) (hm : m ≤ size) : numOf (beL n size m) = n / 2 ^ (8 * (size - m)) := by
  induction m with
  | zero => rw [Nat.sub_zero, Nat.div_eq_of_lt hn]; rfl
  | succ m ih =>
    rw [beL_succ, numOf_snoc, ih (by omega)]
    have e : 2 ^ (8 * (size - m)) = 2 ^ (8 * (size - (m + 1))) * 256 := by
      rw [show 8 * (size - m) = 8 * (size - (m + 1)) + 8 by omega, Nat.pow_add]
    rw [e, ← Nat.div_div_eq_div_mul, show size - 1 - m = size - (m + 1) by omega]
    omega
theorem numOf_be (n size : Nat) (hn : n < 2 ^ (8 * size)) : numOf (beL n size size) = n := by
  rw [numOf_beL n size size hn (Nat.le_refl _)]
  simp
theorem beL_inj {n m size : Nat} (hn : n < 2 ^ (8 * size)) (hm : m < 2 ^ (8 * size)) (h : beL n size size = beL m size size) : n = m := by
  rw [← numOf_be n size hn, ← numOf_be m size hm, h]
end Go.Proofs.Ytpeibkdcglkimaa

namespace Go.Proofs.Ytpeibkdcglkimaa
open Go.ChangeShapes Go.WideShapes Go.ChangeAt Go.RowKit

theorem num1_fault (br bs bn g : Nat) (a : Option Addr) (len cap : Nat) (f sz : Int) (w : World) (hr : w.cell? ⟨br, 0, none⟩ = some (.pointer (some ⟨g, 0, none⟩))) (hs : w.cell? ⟨bs, 0, none⟩ = some (.int .i64 sz)) (hg : Blk w g 101 (rdCells a len cap f)) (hf : f ≠ 0) :
    Calls Try.prog 58 #[.pointer (some ⟨br, 0, none⟩), .pointer (some ⟨bs, 0, none⟩), .pointer (some ⟨bn, 0, none⟩)] w fun e w' => e = .panicked [{ v := stopV f, recovered := false }] ∧ w = w' := by
  by_cases h1 : 1 ≤ sz
  · by_cases h2 : sz ≤ 8
    all_goals
      go_enter Try.func58, Try.ntmps58
      go_wp2_with fail
      refine (need_fault g a len cap sz f _ _ hg hf).mono ?_
      rintro e w' ⟨rfl, rfl⟩
      go_wp2_with fail
      exact ⟨rfl, rfl, rfl⟩
  · go_enter Try.func58, Try.ntmps58
    go_wp2_with fail
    refine (need_fault g a len cap sz f _ _ hg hf).mono ?_
    rintro e w' ⟨rfl, rfl⟩
    go_wp2_with fail
    exact ⟨rfl, rfl, rfl⟩
theorem num1_wrong (br bs bn g : Nat) (a : Option Addr) (len cap : Nat) (sz : Int) (w : World) (hr : w.cell? ⟨br, 0, none⟩ = some (.pointer (some ⟨g, 0, none⟩))) (hs : w.cell? ⟨bs, 0, none⟩ = some (.int .i64 sz)) (hg : Blk w g 101 (rdCells a len cap 0)) (h : sz < 1 ∨ 8 < sz) :
    Calls Try.prog 58 #[.pointer (some ⟨br, 0, none⟩), .pointer (some ⟨bs, 0, none⟩), .pointer (some ⟨bn, 0, none⟩)] w fun e w' => e = .panicked [{ v := stopV 1, recovered := false }] ∧ w = w' := by
  have tt : decide (1 ≤ sz) = false ∨ (decide (1 ≤ sz) = true ∧ decide (sz ≤ 8) = false) := by
    rcases h with h | h
    · exact .inl (by simp; omega)
    · exact .inr ⟨by simp; omega, by simp; omega⟩
  clear h
  rcases tt with t | ⟨t, t'⟩
  all_goals
    go_enter Try.func58, Try.ntmps58
    go_wp2_with fail
    refine (need_wrong g a len cap sz _ hg).mono ?_
    rintro e w' ⟨rfl, rfl⟩
    go_wp2_with fail
    exact ⟨rfl, rfl, rfl⟩
theorem num1_short (br bs bn g : Nat) (a : Option Addr) (len cap : Nat) (sz : Int) (w : World) (hr : w.cell? ⟨br, 0, none⟩ = some (.pointer (some ⟨g, 0, none⟩))) (hs : w.cell? ⟨bs, 0, none⟩ = some (.int .i64 sz)) (hg : Blk w g 101 (rdCells a len cap 0)) (h1 : 1 ≤ sz) (h8 : sz ≤ 8) (hl : (len : Int) < sz) :
    Calls Try.prog 58 #[.pointer (some ⟨br, 0, none⟩), .pointer (some ⟨bs, 0, none⟩), .pointer (some ⟨bn, 0, none⟩)] w fun e w' => e = .panicked [{ v := stopV 2, recovered := false }] ∧ w = w' := by
  have t1 : decide (1 ≤ sz) = true := by simpa using h1
  have t2 : decide (sz ≤ 8) = true := by simpa using h8
  go_enter Try.func58, Try.ntmps58
  go_wp2_with fail
  refine (need_short g a len cap sz _ hg hl).mono ?_
  rintro e w' ⟨rfl, rfl⟩
  go_wp2_with fail
  exact ⟨rfl, rfl, rfl⟩

theorem numFold_lt (l : List Nat) : ∀ a : Nat, (∀ y ∈ l, y < 256) → l.foldl (fun a b => a * 256 + b) a < (a + 1) * 256 ^ l.length := by
  induction l with
  | nil => intro a _; simp
  | cons x l ih =>
    intro a h
    have h1 := ih (a * 256 + x) (fun y hy => h y (by simp [hy]))
    have h2 := h x (by simp)
    have h3 : (a * 256 + x + 1) * 256 ^ l.length ≤ ((a + 1) * 256) * 256 ^ l.length := Nat.mul_le_mul_right _ (by omega)
    rw [List.foldl_cons, List.length_cons, Nat.pow_succ, Nat.mul_comm (256 ^ l.length) 256, ← Nat.mul_assoc]
    omega
theorem numOf_lt (l : List Nat) (h : ∀ y ∈ l, y < 256) : numOf l < 256 ^ l.length := by
  have := numFold_lt l 0 h
  simpa [numOf] using this
theorem numOf_lt8 {l : List Nat} (h : ∀ y ∈ l, y < 256) (hl : l.length ≤ 7) : numOf l < 72057594037927936 := by
  refine Nat.lt_of_lt_of_le (numOf_lt l h) ?_
  have := Nat.pow_le_pow_right (n := 256) (by omega) hl
  exact this
theorem num_round (m x : Nat) (hm : m < 72057594037927936) (hx : x < 256) : bits .or .u64 (IntKind.u64.wrap ((m : Int) * 256)) (IntKind.u64.wrap (x : Int)) = ((m * 256 + x : Nat) : Int) := by
  have e1 : IntKind.u64.wrap ((m : Int) * 256) = ((m * 256 : Nat) : Int) := by rw [IntKind.wrap_u64]; omega
  have e2 : IntKind.u64.wrap (x : Int) = (x : Int) := by rw [IntKind.wrap_u64]; omega
  rw [e1, e2, u64_or_nat _ _ (by omega) (by omega), nat_join 8 (m * 256) x (by omega) (by omega)]

set_option maxRecDepth 100000 in
set_option maxHeartbeats 1000000 in
theorem num1_ok (br bs bn g b off : Nat) (len cap : Nat) (xs : List Nat) (sz : Nat) (w : World) (hr : w.cell? ⟨br, 0, none⟩ = some (.pointer (some ⟨g, 0, none⟩))) (hs : w.cell? ⟨bs, 0, none⟩ = some (.int .i64 (sz : Int)))
    (hn : Blk w bn 72 #[.int .u64 0]) (hg : Blk w g 101 (rdCells (some ⟨b, off, none⟩) len cap 0)) (hx : BytesIn w (some ⟨b, off, none⟩) len cap xs) (hlc : len ≤ cap)
    (h1 : 1 ≤ sz) (h8 : sz ≤ 8) (hl : sz ≤ len) (hgn : g ≠ bn) (hrn : br ≠ bn) (hsn : bs ≠ bn) (hbn : b ≠ bn) :
    Calls Try.prog 58 #[.pointer (some ⟨br, 0, none⟩), .pointer (some ⟨bs, 0, none⟩), .pointer (some ⟨bn, 0, none⟩)] w fun e w' =>
      e = .returned (.tuple #[]) ∧ Touch g bn w w' ∧ Blk w' bn 72 #[.int .u64 (numOf (xs.take sz) : Nat)] ∧ Blk w' g 101 (rdCells (leftAt (some ⟨b, off, none⟩) cap sz) (len - sz) (cap - sz) 0) := by
  have hx0 := hx
  have c0 := hg.at 0 (.slice (some ⟨b, off, none⟩) len cap) rfl
  have cn := hn.at 0 (.int .u64 0) rfl
  have hxb : ∀ y ∈ xs, y < 256 := fun y hy => wf_u8_lt (hx.1.2.1 y hy)
  have i1 : (1 : Int) ≤ (sz : Int) := by omega
  have i8 : (sz : Int) ≤ 8 := by omega
  have il : (sz : Int) ≤ (len : Int) := by omega
  have ic : (sz : Int) ≤ (cap : Int) := by omega
  go_enter Try.func58, Try.ntmps58
  go_wp2_with fail
  refine (need_ok g _ len cap sz _ hg il).mono ?_
  rintro e w' ⟨rfl, rfl⟩
  go_wp2_with fail
  go_quiet (fail)
  go_wp2_with fail
  rename_i nq
  go_loopw [21] (fun i wr => ∃ k : Nat, k ≤ sz ∧ i = .int .i64 k ∧ w.grownBy wr (some bn) ∧ Blk wr bn 72 #[.int .u64 ((numOf (xs.take k) : Nat) : Int)]) (fun i _ => sz - (intOf i).toNat)
  case atStart => exact ⟨0, by omega, rfl, gb_drewN (gb_refl w _) nq, hn⟩
  case round =>
    obtain ⟨k, hk, rfl, hgb, hbl⟩ := hrel
    have cn' := hbl.at 0 _ rfl
    have fn' := hbl.free 0
    by_cases hlt : k < sz
    · obtain ⟨b1, o1, x, hb1, hlt1, hxx, hwx, hcx⟩ := hx.1.elem k (by omega)
      injection hb1 with hb1
      injection hb1 with hb1 ho1
      subst hb1
      subst ho1
      have cx : wr.cell? ⟨b, off + k, none⟩ = some (.int .u8 (x : Int)) := (World.cell?_of_block (hgb.block b hlt1 (fun e => hbn (by injection e)))).trans hcx
      have ik : (k : Int) < (sz : Int) := by omega
      have Hm := Lib.hid (num_round (numOf (xs.take k)) x (numOf_lt8 (fun y hy => hxb y (List.mem_of_mem_take hy)) (by rw [List.length_take]; omega)) (hxb x (List.mem_of_getElem? hxx)))
      have Hxx := Lib.hid (show numOf (xs.take (k + 1)) = numOf (xs.take k) * 256 + x by rw [List.take_add_one, hxx]; exact numOf_snoc _ _)
      clear hxx hcx hwx
      go_wp2_with fail
      go_roundw
      case rel => exact ⟨k + 1, by omega, by go_num, gb_set hgb (.inl rfl) _, by rw [Hm.out, Hxx.out]; exact hbl.put 0 _⟩
      case measure => simp [intOf]; omega
    · obtain rfl : k = sz := by omega
      have c0' : wr.cell? ⟨g, 0, none⟩ = some (.slice (some ⟨b, off, none⟩) len cap) := (World.cell?_of_block (hgb.block g hg.lt (fun e => hgn (by injection e)))).trans c0
      have cr' : wr.cell? ⟨br, 0, none⟩ = some (.pointer (some ⟨g, 0, none⟩)) := (World.cell?_of_block (hgb.block br (World.block_lt_of_cell? _ _ hr) (fun e => hrn (by injection e)))).trans hr
      have cs' : wr.cell? ⟨bs, 0, none⟩ = some (.int .i64 (k : Int)) := (World.cell?_of_block (hgb.block bs (World.block_lt_of_cell? _ _ hs) (fun e => hsn (by injection e)))).trans hs
      have hg' : Blk wr g 101 (rdCells (some ⟨b, off, none⟩) len cap 0) := hg.grown hgb (fun e => hgn (by injection e))
      have fg := hg'.free 0
      have Hg' := Lib.hid hg'
      have Hbl := Lib.hid hbl
      have Hgb := Lib.hid hgb
      clear hg' hbl hgb
      by_cases hck : cap = k
      · have Hl := Lib.hid (show leftAt (some ⟨b, off, none⟩) cap k = some ⟨b, off, none⟩ by simp [leftAt, hck])
        subst hck
        go_wp2_with fail
        go_region
        go_end0
        rw [Hl.out, show len - cap = 0 by omega, Nat.sub_self]
        exact ⟨rfl, ((Touch.of_grown Hgb.out).setCell (g := g) (p := ⟨g, 0, none⟩) (.inl rfl) _).drew, (Hbl.out.far (p := ⟨g, 0, none⟩) (Ne.symm hgn) _).drew, (Hg'.out.put 0 _).drew⟩
      · have Hl := Lib.hid (show leftAt (some ⟨b, off, none⟩) cap k = some ⟨b, off + k, none⟩ by simp [leftAt, hck, Go.WideShapes.add_plain])
        go_wp2_with fail
        go_region
        go_end0
        rw [Hl.out]
        exact ⟨rfl, ((Touch.of_grown Hgb.out).setCell (g := g) (p := ⟨g, 0, none⟩) (.inl rfl) _).drew, (Hbl.out.far (p := ⟨g, 0, none⟩) (Ne.symm hgn) _).drew, (Hg'.out.put 0 _).drew⟩
end Go.Proofs.Ytpeibkdcglkimaa

namespace Go.Proofs.Ytpeibkdcglkimaa
open Go.ChangeShapes Go.WideShapes Go.ChangeAt Go.RowKit

theorem safely_ok (g F : Nat) (caps : Array Value) (Q : World → Prop) (w : World) (hF : ∀ W, (callFunc F caps).run Try.prog W = .ok (.enter F caps) W)
    (h : Calls Try.prog F caps (w.alloc (.cells #[.pointer (some ⟨g, 0, none⟩)] 68)) fun e w' => e = .returned (.tuple #[]) ∧ Q w') :
    Calls Try.prog 57 #[.pointer (some ⟨g, 0, none⟩), .func (.func F) #[] caps] w fun e w' => e = .returned (.tuple #[]) ∧ Q w' := by
  have hmf : ∀ (fn : Fn) (first cap : Array Value) (w : World), (Instr.makeFunc fn first cap).run Try.prog w = .ok (.func fn first cap) w := fun _ _ _ _ => rfl
  have H := Lib.hid h
  clear h
  go_enter_defers Try.func57, Try.ntmps57
  go_wp2_with fail
  refine H.out.mono ?_
  rintro e w1 ⟨rfl, hq⟩
  have Hq := Lib.hid hq
  clear hq
  go_wp2_with fail
  refine leaves_cons (f := 68) (args := #[.pointer (some ⟨w.heap.size, 0, none⟩)]) (by simp) (by simp [go_sem]) ?_
  refine (catch_idle w.heap.size _).mono ?_
  rintro e u' w2 ⟨rfl, rfl, rfl⟩
  simp [Leaves, settle, results, Try.results57, go_sem]
  exact Hq.out

theorem safely_stop (g F : Nat) (caps : Array Value) (f f9 : Int) (a : Option Addr) (len cap : Nat) (w : World) (hg : Blk w g 101 (rdCells a len cap f9)) (hF : ∀ W, (callFunc F caps).run Try.prog W = .ok (.enter F caps) W)
    (h : Calls Try.prog F caps (w.alloc (.cells #[.pointer (some ⟨g, 0, none⟩)] 68)) fun e w' => e = .panicked [{ v := stopV f, recovered := false }] ∧ w.alloc (.cells #[.pointer (some ⟨g, 0, none⟩)] 68) = w') :
    Calls Try.prog 57 #[.pointer (some ⟨g, 0, none⟩), .func (.func F) #[] caps] w fun e w' => e = .returned (.tuple #[]) ∧ w.grownBy w' (some g) ∧ Blk w' g 101 (rdCells none 0 0 f) := by
  have hmf : ∀ (fn : Fn) (first cap : Array Value) (w : World), (Instr.makeFunc fn first cap).run Try.prog w = .ok (.func fn first cap) w := fun _ _ _ _ => rfl
  have H := Lib.hid h
  clear h
  go_enter_defers Try.func57, Try.ntmps57
  go_wp2_with fail
  refine H.out.mono ?_
  rintro e w1 ⟨rfl, rfl⟩
  go_wp2_with fail
  refine leaves_cons (f := 68) (args := #[.pointer (some ⟨w.heap.size, 0, none⟩)]) (by simp) (by simp [go_sem]) ?_
  refine (catch_stop w.heap.size g f a len cap f9 [] _ ((Blk.made w _ _).at 0 _ rfl) (hg.alloc _)).mono ?_
  rintro e u' w2 ⟨rfl, rfl, h1, h2⟩
  have H1 := Lib.hid (gb_trans (gb_alloc (gb_refl w (some g)) _) h1)
  have H2 := Lib.hid h2
  clear h1 h2
  simp [Leaves, settle, results, Try.results57, go_sem]
  exact ⟨H1.out, H2.out⟩

/-! ### What a reader does -/
/-- A step of n bytes: what is told, what is left, the fault. -/
def rdStep (xs : List Nat) (f : Int) (n : Int) (right : Bool) : List Nat × List Nat × Int :=
  if f ≠ 0 then ([], [], f) else if right = false then ([], [], 1) else if (xs.length : Int) < n then ([], [], 2) else (xs.take n.toNat, xs.drop n.toNat, 0)
def numRight (n : Int) : Bool := decide (1 ≤ n) && decide (n ≤ 8)

theorem rdStep_fault {xs : List Nat} {f n : Int} {r : Bool} (h : f ≠ 0) : rdStep xs f n r = ([], [], f) := by simp [rdStep, h]
theorem rdStep_wrong {xs : List Nat} {n : Int} : rdStep xs 0 n false = ([], [], 1) := by simp [rdStep]
theorem rdStep_short {xs : List Nat} {n : Int} (h : (xs.length : Int) < n) : rdStep xs 0 n true = ([], [], 2) := by simp [rdStep, h]
theorem rdStep_ok {xs : List Nat} {n : Nat} (h : n ≤ xs.length) : rdStep xs 0 (n : Int) true = (xs.take n, xs.drop n, 0) := by
  have : ¬ (xs.length : Int) < (n : Int) := by omega
  simp [rdStep, this]

theorem rdAt_empty {w : World} {B g : Nat} {f : Int} (hg : Blk w g 101 (rdCells none 0 0 f)) (hB : B ≤ g) : RdAt w B g [] f :=
  ⟨none, 0, hg, BytesIn.nil_ w, Nat.le_refl _, Nat.zero_le _, hB, fun h => absurd h (by simp)⟩

/-- safely of Num's closure. -/
theorem num_safe (B br bs bn g : Nat) (xs : List Nat) (f sz : Int) (w : World) (hr : RdAt w B g xs f) (cr : w.cell? ⟨br, 0, none⟩ = some (.pointer (some ⟨g, 0, none⟩))) (cs : w.cell? ⟨bs, 0, none⟩ = some (.int .i64 sz))
    (hn : Blk w bn 72 #[.int .u64 0]) (hgn : g ≠ bn) (hrn : br ≠ bn) (hsn : bs ≠ bn) :
    Calls Try.prog 57 #[.pointer (some ⟨g, 0, none⟩), .func (.func 58) #[] #[.pointer (some ⟨br, 0, none⟩), .pointer (some ⟨bs, 0, none⟩), .pointer (some ⟨bn, 0, none⟩)]] w fun e w' =>
      e = .returned (.tuple #[]) ∧ Touch g bn w w' ∧ Blk w' bn 72 #[.int .u64 ((numOf (rdStep xs f sz (numRight sz)).1 : Nat) : Int)] ∧ RdAt w' B g (rdStep xs f sz (numRight sz)).2.1 (rdStep xs f sz (numRight sz)).2.2 := by
  obtain ⟨a, cap, hg, hx, hlc, hcm, hB, hA⟩ := hr
  have hF : ∀ W, (callFunc 58 #[.pointer (some ⟨br, 0, none⟩), .pointer (some ⟨bs, 0, none⟩), .pointer (some ⟨bn, 0, none⟩)]).run Try.prog W = .ok (.enter 58 #[.pointer (some ⟨br, 0, none⟩), .pointer (some ⟨bs, 0, none⟩), .pointer (some ⟨bn, 0, none⟩)]) W := fun W => by simp [go_sem]
  obtain ⟨o, ho⟩ : ∃ o, o = Obj.cells #[.pointer (some ⟨g, 0, none⟩)] 68 := ⟨_, rfl⟩
  have cr' : (w.alloc o).cell? ⟨br, 0, none⟩ = some (.pointer (some ⟨g, 0, none⟩)) := (World.cell?_alloc_lt w o _ (World.block_lt_of_cell? _ _ cr)).trans cr
  have cs' : (w.alloc o).cell? ⟨bs, 0, none⟩ = some (.int .i64 sz) := (World.cell?_alloc_lt w o _ (World.block_lt_of_cell? _ _ cs)).trans cs
  have hg' := hg.alloc o
  have hstop : ∀ f', Calls Try.prog 58 #[.pointer (some ⟨br, 0, none⟩), .pointer (some ⟨bs, 0, none⟩), .pointer (some ⟨bn, 0, none⟩)] (w.alloc o) (fun e w' => e = .panicked [{ v := stopV f', recovered := false }] ∧ w.alloc o = w') → rdStep xs f sz (numRight sz) = ([], [], f') →
      Calls Try.prog 57 #[.pointer (some ⟨g, 0, none⟩), .func (.func 58) #[] #[.pointer (some ⟨br, 0, none⟩), .pointer (some ⟨bs, 0, none⟩), .pointer (some ⟨bn, 0, none⟩)]] w fun e w' =>
        e = .returned (.tuple #[]) ∧ Touch g bn w w' ∧ Blk w' bn 72 #[.int .u64 ((numOf (rdStep xs f sz (numRight sz)).1 : Nat) : Int)] ∧ RdAt w' B g (rdStep xs f sz (numRight sz)).2.1 (rdStep xs f sz (numRight sz)).2.2 := by
    intro f' hc hs
    rw [hs]
    rw [ho] at hc
    refine (safely_stop g _ _ f' f a xs.length cap w hg hF hc).mono ?_
    rintro e w' ⟨he, h1, h2⟩
    exact ⟨he, Touch.of_grown' h1, hn.grown h1 (fun e => hgn (by injection e with e; exact e.symm)), rdAt_empty h2 hB⟩
  by_cases hf : f = 0
  · subst hf
    by_cases hright : numRight sz = true
    · have h18 : 1 ≤ sz ∧ sz ≤ 8 := by simpa [numRight] using hright
      by_cases hs : (xs.length : Int) < sz
      · exact hstop 2 (num1_short br bs bn g a xs.length cap sz _ cr' cs' hg' h18.1 h18.2 hs) (by rw [hright]; exact rdStep_short hs)
      · obtain ⟨n, rfl⟩ := Int.eq_ofNat_of_zero_le (show 0 ≤ sz by omega)
        have hnl : n ≤ xs.length := by omega
        obtain ⟨b, off, x, rfl, hlt, _, _, hcx⟩ := hx.1.elem 0 (by omega)
        have hbg := Nat.ne_of_lt (hA (by omega) _ rfl).2
        have hbn : b ≠ bn := fun e => by have := hn.only hcx e rfl; cases this
        rw [hright, rdStep_ok hnl]
        refine (safely_ok g _ _ (fun w' => Touch g bn w w' ∧ Blk w' bn 72 #[.int .u64 ((numOf (xs.take n) : Nat) : Int)] ∧ RdAt w' B g (xs.drop n) 0) w hF ?_).mono fun e w' ⟨he, hq⟩ => ⟨he, hq⟩
        rw [← ho]
        refine (num1_ok br bs bn g b off xs.length cap xs n _ cr' cs' (hn.alloc o) hg' (hx.keep ((Below.refl _ _).alloc (Nat.le_refl _) _)) hlc (by omega) (by omega) hnl hgn hrn hsn hbn).mono ?_
        rintro e w' ⟨he, h1, h2, h3⟩
        have ht : Touch g bn w w' := ((Touch.refl g bn w).alloc o).trans h1
        refine ⟨he, ht, h2, leftAt (some ⟨b, off, none⟩) cap n, cap - n, ?_, ?_, ?_, by unfold maxLen at *; omega, hB, ?_⟩
        · rw [List.length_drop]; exact h3
        · rw [List.length_drop]
          exact (hx.touch ht (fun _ ad had => by injection had with had; subst had; exact ⟨hbg, hbn⟩)).left hnl hlc
        · rw [List.length_drop]; omega
        · intro hp ad had
          obtain ⟨ad0, h4, h5⟩ := leftAt_block had
          rw [h5]
          exact hA (by omega) _ h4
    · have hwr : numRight sz = false := by simpa using hright
      exact hstop 1 (num1_wrong br bs bn g a xs.length cap sz _ cr' cs' hg' (by
        by_cases h1 : sz < 1
        · exact .inl h1
        · refine .inr ?_
          simp [numRight] at hwr
          have := hwr (by omega)
          omega)) (by rw [hwr]; exact rdStep_wrong)
  · exact hstop f (num1_fault br bs bn g a xs.length cap f sz _ cr' cs' hg' hf) (rdStep_fault hf)

theorem num_any (B g : Nat) (xs : List Nat) (f sz : Int) (w : World) (hr : RdAt w B g xs f) :
    Calls Try.prog 37 #[.pointer (some ⟨g, 0, none⟩), .int .i64 sz] w fun e w' =>
      e = .returned (.int .u64 ((numOf (rdStep xs f sz (numRight sz)).1 : Nat) : Int)) ∧ RdAt w' B g (rdStep xs f sz (numRight sz)).2.1 (rdStep xs f sz (numRight sz)).2.2 ∧ w.grownBy w' (some g) := by
  have hmf : ∀ (fn : Fn) (first cap : Array Value) (w : World), (Instr.makeFunc fn first cap).run Try.prog w = .ok (.func fn first cap) w := fun _ _ _ _ => rfl
  have Hr := Lib.hid hr
  clear hr
  go_enter Try.func37, Try.ntmps37
  go_wp2_with fail
  have hb := (((Below.refl w.heap.size w).alloc (Nat.le_refl _) (.cells #[.pointer (some ⟨g, 0, none⟩)] 68)).alloc (by simp) (.cells #[.int .i64 sz] 3)).alloc (by simp; omega) (.cells #[.int .u64 0] 72)
  refine (num_safe B w.heap.size (w.heap.size + 1) (w.heap.size + 1 + 1) g xs f sz _ (Hr.out.keep hb) ((((Blk.made w _ _).alloc _).alloc _).at 0 _ rfl) (((Blk.made1 w _ _ _).alloc _).at 0 _ rfl) (Blk.made2 w _ _ _ _) (by have := Hr.out.lt; omega) (by omega) (by omega)).mono ?_
  rintro e w1 ⟨rfl, h1, h2, h3⟩
  have c5 := h2.at 0 _ rfl
  have H1 := Lib.hid (h1.grown (gb_of_below hb (some g)) (by omega))
  have H3 := Lib.hid h3
  clear h1 h2 h3
  go_wp2_with fail
  go_ret
  exact ⟨rfl, H3.out, H1.out⟩
theorem num_nil (sz : Int) (w : World) : Calls Try.prog 37 #[.pointer none, .int .i64 sz] w fun e w' => e = .returned (.int .u64 0) ∧ Below w.heap.size w w' := by
  go_enter Try.func37, Try.ntmps37
  go_wp2_with fail
  go_ret
  exact ⟨rfl, (((Below.refl w.heap.size w).alloc (Nat.le_refl _) _).alloc (by simp) _)⟩
end Go.Proofs.Ytpeibkdcglkimaa

namespace Go.Proofs.Ytpeibkdcglkimaa
open Go.ChangeShapes Go.WideShapes Go.ChangeAt Go.RowKit

section
variable {w w' : World} {g : Nat} {t : TypeId} {cs : Array Value}
theorem Blk.there (h : Blk w g t cs) (o n : Nat) (hn : o + n ≤ cs.size) : w.there g o n := fun j hj =>
  ⟨by rw [h.at (o + j) _ (Array.getElem?_eq_getElem (show o + j < cs.size by omega))]; rfl, h.free _⟩
theorem blk_setCells (vs : List Value) : ∀ (o : Nat) (w : World) (cs : Array Value), Blk w g t cs → Blk (w.setCells g o vs) g t (vs.foldl (fun (p : Nat × Array Value) v => (p.1 + 1, p.2.setIfInBounds p.1 v)) (o, cs)).2 := by
  induction vs with
  | nil => intro o w cs h; exact h
  | cons v r ih => intro o w cs h; exact ih (o + 1) _ _ (h.put o v)
theorem fold_set (vs : List Value) : ∀ (o : Nat) (cs : Array Value), o + vs.length ≤ cs.size →
    (vs.foldl (fun (p : Nat × Array Value) v => (p.1 + 1, p.2.setIfInBounds p.1 v)) (o, cs)).2.toList = cs.toList.take o ++ vs ++ cs.toList.drop (o + vs.length) := by
  induction vs with
  | nil => intro o cs _; simp
  | cons v r ih =>
    intro o cs h
    rw [List.length_cons] at h
    rw [List.foldl_cons, ih (o + 1) _ (by simp only [Array.size_setIfInBounds]; omega), Array.toList_setIfInBounds]
    have ho : o < cs.toList.length := by rw [Array.length_toList]; omega
    rw [List.take_add_one, List.take_set_of_le (Nat.le_refl _), List.getElem?_set_self ho, List.drop_set_of_lt (by omega)]
    simp [show o + 1 + r.length = o + (r.length + 1) by omega]
/-- A store of a whole block. -/
theorem Blk.fill (h : Blk w g t cs) (vs : List Value) (hl : vs.length = cs.size) : Blk (w.setCells g 0 vs) g t vs.toArray := by
  have h1 := blk_setCells vs 0 w cs h
  have h2 := fold_set vs 0 cs (by omega)
  rw [Nat.zero_add, List.drop_of_length_le (by rw [Array.length_toList]; omega), List.append_nil, List.take_zero, List.nil_append] at h2
  have h3 : (vs.foldl (fun (p : Nat × Array Value) v => (p.1 + 1, p.2.setIfInBounds p.1 v)) (0, cs)).2 = vs.toArray := by
    have h4 := congrArg List.toArray h2
    rwa [Array.toArray_toList] at h4
  rw [h3] at h1
  exact h1
theorem Blk.farCells (h : Blk w g t cs) (vs : List Value) {k : Nat} (hk : g ≠ k) : ∀ (o : Nat), Blk (w.setCells k o vs) g t cs := by
  induction vs generalizing w with
  | nil => intro o; exact h
  | cons v r ih => intro o; exact ih (h.far (p := ⟨k, o, none⟩) hk v) (o + 1)
theorem gb_fill {a : World} (vs : List Value) : ∀ (o : Nat) (w : World), a.grownBy w (some g) → a.grownBy (w.setCells g o vs) (some g) := by
  induction vs with
  | nil => intro o w h; exact h
  | cons v r ih => intro o w h; exact ih (o + 1) _ (gb_set h (p := ⟨g, o, none⟩) (.inl rfl) v)
theorem nu_fill {a : World} (vs : List Value) (hg : a.heap.size ≤ g) : ∀ (o : Nat) (w : World), Below a.heap.size a w → Below a.heap.size a (w.setCells g o vs) := by
  induction vs with
  | nil => intro o w h; exact h
  | cons v r ih => intro o w h; exact ih (o + 1) _ (nu_set h (p := ⟨g, o, none⟩) hg v)
end

section
variable {P : Program} {ops : Array Oper} {rest : List Oper} {o : Oper} {a : Act} {w : World} {Q : Exit → Act → World → Prop}
/-- A whole array out of its block. -/
theorem wpList_load_blk (hgd : o.guard = none) (ty : TypeId) (x : Operand) (ho : o.op = .load ty x) (g : Nat) (hx : a.eval x = .pointer (some ⟨g, 0, none⟩)) (t : TypeId) (cs : Array Value) (hb : Blk w g t cs)
    {n : Nat} {e : TypeId} (hu : P.underlying ty = some (.array n e)) (hi : (P.info? ty).map (·.size) = some cs.size) (h : wpList P ops Q rest (a.put o.dst (.agg cs)) w) : wpList P ops Q (o :: rest) a w :=
  wpList_load_row hgd ty x ho g hx t cs (0, 0) (.array n e) hb hu rfl hi h
/-- A whole array into its block. -/
theorem wpList_store_blk (hgd : o.guard = none) (ty : TypeId) (x y : Operand) (ho : o.op = .store ty x y) (g : Nat) (vs : List Value) (hx : a.eval x = .pointer (some ⟨g, 0, none⟩)) (hy : a.eval y = .agg vs.toArray)
    (t : TypeId) (cs : Array Value) (hb : Blk w g t cs) (hl : vs.length = cs.size) (hi : (P.info? ty).map (·.size) = some vs.length) (h1 : ∀ v ∈ vs, v.oneCell' = true)
    (h : wpList P ops Q rest (a.put o.dst undef) (w.setCells g 0 vs)) : wpList P ops Q (o :: rest) a w :=
  wpList_store_mid hgd ty x y ho g 0 vs.toArray hx hy (hb.there 0 _ (by simp; omega)) (by simpa using hi) (all_oneCell_toArray h1) (by simpa using h)
/-- A result that lies in a block. -/
theorem results_blk {fn : Func} {p : Tmp} {ty : TypeId} (h : fn.results = #[.cell p ty]) (tmps : Array Value) (g : Nat) (t : TypeId) (cs : Array Value) (hp : tmps.getD p undef = .pointer (some ⟨g, 0, none⟩)) (hb : Blk w g t cs)
    {n : Nat} {e : TypeId} (hu : P.underlying ty = some (.array n e)) (hi : (P.info? ty).map (·.size) = some cs.size) : (results fn tmps).run P w = .ok (.agg cs) w :=
  results_cell_row h tmps w g t cs (0, 0) (.array n e) hp hb hu rfl hi
/-- .. a struct's. -/
theorem results_blkS {fn : Func} {p : Tmp} {ty : TypeId} (h : fn.results = #[.cell p ty]) (tmps : Array Value) (g : Nat) (t : TypeId) (cs : Array Value) (hp : tmps.getD p undef = .pointer (some ⟨g, 0, none⟩)) (hb : Blk w g t cs)
    {fs : Array Field} (hu : P.underlying ty = some (.struct fs)) (hi : (P.info? ty).map (·.size) = some cs.size) : (results fn tmps).run P w = .ok (.agg cs) w :=
  results_cell_row h tmps w g t cs (0, 0) (.struct fs) hp hb hu rfl hi
/-- .. and another result that lies in a slot. -/
theorem results_blkS2 {fn : Func} {p u : Tmp} {ty : TypeId} (h : fn.results = #[.cell p ty, .tmp u]) (tmps : Array Value) (g : Nat) (t : TypeId) (cs : Array Value) (hp : tmps.getD p undef = .pointer (some ⟨g, 0, none⟩)) (hb : Blk w g t cs)
    {fs : Array Field} (hu : P.underlying ty = some (.struct fs)) (hi : (P.info? ty).map (·.size) = some cs.size) : (results fn tmps).run P w = .ok (.tuple #[.agg cs, tmps.getD u undef]) w := by
  rw [results_cell_tmp h, hp]
  simp [asAddr, run_loadVar_row w g t ty cs (0, 0) (.struct fs) hb hu rfl hi]
end
end Go.Proofs.Ytpeibkdcglkimaa

namespace Go.Proofs.Ytpeibkdcglkimaa
open Go.ChangeShapes Go.WideShapes Go.ChangeAt Go.RowKit

section
variable {P : Program} {ops : Array Oper} {rest : List Oper} {o : Oper} {a : Act} {w : World} {Q : Exit → Act → World → Prop}
/-- An operation that yields a value, guard or none. -/
theorem wpList_run (v : Value) (hw : Region.wanted o (yielded ops a.tmps) = true) (hr : (execOp a.eval o).run P w = .ok (.value v) w) (h : wpList P ops Q rest (a.put o.dst v) w) : wpList P ops Q (o :: rest) a w := by
  unfold wpList
  rw [if_pos hw]
  refine .inl ?_
  unfold Oper.wp
  rw [hr]
  exact h
/-- .. and one whose guard is false. -/
theorem wpList_pass (hw : Region.wanted o (yielded ops a.tmps) = false) (h : wpList P ops Q rest (a.put o.dst undef) w) : wpList P ops Q (o :: rest) a w := by
  unfold wpList
  rw [if_neg (by rw [hw]; decide)]
  exact h
theorem exec_load_mid (ty : TypeId) (x : Operand) (b f : Nat) (cs : List Value) (d : TypeDesc) (ho : o.op = .load ty x) (hx : a.eval x = .pointer (some ⟨b, f, none⟩)) (hc : w.rangeAt b f cs)
    (hu : P.underlying ty = some d) (hd : d.isRow = true) (hi : (P.info? ty).map (·.size) = some cs.length) : (execOp a.eval o).run P w = .ok (.value (.agg cs.toArray)) w := by
  unfold execOp
  simp only [ho, hx, Instr.loadAt, Instr.sureAddr, Sem.run_bind, Sem.run_pure, Result.andThen_ok, run_loadVar_mid w b f ty cs d hc hu hd hi]
end

theorem take_l {P : Program} {l : List Oper} {Q : Exit → Act → World → Prop} {md : Region.Mode} {S : World → Prop} {i : Nat} {oi : Oper} {v : Value} {fuel : Nat} {listed : Array Bool} {a : Act} {w : World} (hi : l[i]? = some oi)
    (hs : Region.noSelect l.toArray = true) (hf : Region.free md l.toArray listed i = true) (hr : (Region.ready md l.toArray listed).contains i = true)
    (hQ : ∀ c a w, Q (.panic c) (a.put oi.dst v) w → Q (.panic c) a w) (hy : YieldsIf P l.toArray S oi v a) (hS : S w)
    (h : wpAnyH P md l.toArray Q S fuel (listed.setIfInBounds i true) (a.put oi.dst v) w) : wpAnyH P md l.toArray Q S (fuel + 1) listed a w :=
  wpAnyH_take (by rw [List.getElem?_toArray]; exact hi) hs hf hr hQ hy hS h
theorem cons_l {P : Program} {l : List Oper} {Q : Exit → Act → World → Prop} {md : Region.Mode} {S : World → Prop} {fuel : Nat} {listed : Array Bool} {a : Act} {w : World} {i : Nat} {o : Oper} {rs : List Nat} (ho : l[i]? = some o)
    (h : ∀ K' : Act → World → Prop, Shut (∀ a w, S w → (S w → wpAnyH P md l.toArray Q S fuel (listed.setIfInBounds i true) a w) → K' a w) → if Region.wanted o (yielded l.toArray a.tmps) = true then Oper.wp P o a w K' Q else K' (a.put o.dst undef) w)
    (hs : AllReadyH P md l.toArray Q S fuel listed a w rs) : AllReadyH P md l.toArray Q S fuel listed a w (i :: rs) :=
  AllReadyH.cons (by rw [List.getElem?_toArray]; exact ho) h hs

/-- A row of cells, by its block. -/
theorem range_blk {w : World} {g : Nat} {t : TypeId} {cs : Array Value} (h : Blk w g t cs) : w.rangeAt g 0 cs.toList := fun j v hv => by
  rw [Nat.zero_add]
  exact h.at j v (by simpa using hv)
theorem range_mid {w : World} {g : Nat} {t : TypeId} {cs : Array Value} (h : Blk w g t cs) {l m r : List Value} (e : cs.toList = l ++ (m ++ r)) {k : Nat} (hk : l.length = k) : w.rangeAt g k m := fun j v hv => by
  refine h.at (k + j) v ?_
  subst hk
  rw [← Array.getElem?_toList, e, List.getElem?_append_right (by omega), Nat.add_sub_cancel_left, List.getElem?_append_left (by rw [List.getElem?_eq_some_iff] at hv; exact hv.1)]
  exact hv
theorem range_below {w w' : World} {g o B : Nat} {cs : List Value} (h : w.rangeAt g o cs) (hb : Below B w w') (hg : g < B) : w'.rangeAt g o cs := fun j v hv => by
  have h1 := h j v hv
  rw [hb.cell (by exact hg)]
  exact h1

end Go.Proofs.Ytpeibkdcglkimaa

namespace Go.Proofs.Ytpeibkdcglkimaa
open Go.ChangeShapes Go.WideShapes Go.ChangeAt Go.RowKit

theorem step_append_own {P : Program} {ops : Array Oper} {o : Oper} {a : Act} {w : World} {K : Act → World → Prop} {Q : Exit → Act → World → Prop} {E : Prop} (hgd : o.guard = none) (s x : Operand) (t : TypeId)
    (ho : o.op = .call { callee := .builtin .append, args := #[s, x], argTypes := #[t, t] })
    (base : Nat) (e : TypeId) (i : TypeInfo) (z : Value) (size bytes : Nat) (ht : P.underlying t = some (.slice e)) (hi : P.info? e = some i) (hz : i.zero = some z)
    (hsize : i.size = size) (hby : i.bytes = bytes) (hzs : z.cells.size = size) (hsz : 0 < size)
    (v : Value) (n : Nat) (xs : List Value) (hs : a.eval s = v) (hown : w.ownsRow base e size v n xs)
    (ao : Option Addr) (m c : Nat) (news : List Value) (hx : a.eval x = .slice ao m c) (hnone : ao = none → m = 0 ∧ c = 0) (hl : news.length = m * size)
    (hnews : ∀ ad, ao = some ad → ∀ j u, news[j]? = some u → w.cell? (ad.add j) = some u) (h1 : ∀ u ∈ news, u.oneCell' = true)
    (h63 : n + m ≤ maxLen) (hbytes : (n + m) * bytes ≤ 140737488355328) (hbase : base ≤ w.heap.size)
    (h : ∀ v' w', w'.ownsRow base e size v' (n + m) (xs ++ news) → w.grownBy w' v.ownBlock → (v'.ownBlock = v.ownBlock ∨ v'.ownBlock = some w.heap.size) → K (a.put o.dst v') w') :
    if Region.wanted o (yielded ops a.tmps) = true then Oper.wp P o a w K Q else E := by
  have hw : Region.wanted o (yielded ops a.tmps) = true := by simp [Region.wanted, hgd]
  rw [if_pos hw]
  cases ao with
  | none =>
    obtain ⟨rfl, rfl⟩ := hnone rfl
    have hn : news = [] := List.eq_nil_of_length_eq_zero (by simpa using hl)
    subst hn
    have hrun := run_append_owned_none (P := P) (w := w) base t o.type e i size ht hi v n xs hown
    unfold Oper.wp
    simp [execOp, ho, resolve, invoke, builtin, hs, hx, hrun, Result.andThen]
    exact h v w (by simpa using hown) (World.grownBy.refl w _) (.inl rfl)
  | some ad =>
    obtain ⟨v', w', hr, h2, h3, _, h5⟩ := run_append_own_at (P := P) w base t o.type e i z size bytes ht hi hz hsize hby hzs hsz v n xs hown ad m c news hl (hnews ad rfl) h1 h63 hbytes hbase
    unfold Oper.wp execOp
    simp only [ho, resolve, invoke, builtin, Sem.run_bind, Sem.run_pure, Result.andThen_ok, List.map_toArray, List.map_cons, List.map_nil, hs, hx, hr]
    exact h v' w' h2 h3 h5
end Go.Proofs.Ytpeibkdcglkimaa
