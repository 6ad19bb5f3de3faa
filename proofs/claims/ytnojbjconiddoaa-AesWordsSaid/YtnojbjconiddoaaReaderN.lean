/-
  The walks of the closures that read, and of a reader's Num and Take.
-/
import Derived.Test.YtnojbjconiddoaaReaderM
import Derived.Test.YtnojbjconiddoaaNum
import Derived.Test.YtnojbjconiddoaaTouch
import Derived.Laws.BitsAllLaws
namespace Go.Proofs.Ytnojbjconiddoaa
open Go.ChangeShapes Go.WideShapes Go.ChangeAt Go.RowKit

theorem num1_fault (br bs bn g : Nat) (a : Option Addr) (len cap : Nat) (f sz : Int) (w : World) (hr : w.cell? ⟨br, 0, none⟩ = some (.pointer (some ⟨g, 0, none⟩))) (hs : w.cell? ⟨bs, 0, none⟩ = some (.int .i64 sz)) (hg : Blk w g 98 (rdCells a len cap f)) (hf : f ≠ 0) :
    Calls Try.prog 63 #[.pointer (some ⟨br, 0, none⟩), .pointer (some ⟨bs, 0, none⟩), .pointer (some ⟨bn, 0, none⟩)] w fun e w' => e = .panicked [{ v := stopV f, recovered := false }] ∧ w = w' := by
  by_cases h1 : 1 ≤ sz
  · by_cases h2 : sz ≤ 8
    all_goals
      go_enter Try.func63, Try.ntmps63
      go_wp2_with fail
      refine (need_fault g a len cap sz f _ _ hg hf).mono ?_
      rintro e w' ⟨rfl, rfl⟩
      go_wp2_with fail
      exact ⟨rfl, rfl, rfl⟩
  · go_enter Try.func63, Try.ntmps63
    go_wp2_with fail
    refine (need_fault g a len cap sz f _ _ hg hf).mono ?_
    rintro e w' ⟨rfl, rfl⟩
    go_wp2_with fail
    exact ⟨rfl, rfl, rfl⟩
theorem num1_wrong (br bs bn g : Nat) (a : Option Addr) (len cap : Nat) (sz : Int) (w : World) (hr : w.cell? ⟨br, 0, none⟩ = some (.pointer (some ⟨g, 0, none⟩))) (hs : w.cell? ⟨bs, 0, none⟩ = some (.int .i64 sz)) (hg : Blk w g 98 (rdCells a len cap 0)) (h : sz < 1 ∨ 8 < sz) :
    Calls Try.prog 63 #[.pointer (some ⟨br, 0, none⟩), .pointer (some ⟨bs, 0, none⟩), .pointer (some ⟨bn, 0, none⟩)] w fun e w' => e = .panicked [{ v := stopV 1, recovered := false }] ∧ w = w' := by
  have tt : decide (1 ≤ sz) = false ∨ (decide (1 ≤ sz) = true ∧ decide (sz ≤ 8) = false) := by
    rcases h with h | h
    · exact .inl (by simp; omega)
    · exact .inr ⟨by simp; omega, by simp; omega⟩
  clear h
  rcases tt with t | ⟨t, t'⟩
  all_goals
    go_enter Try.func63, Try.ntmps63
    go_wp2_with fail
    refine (need_wrong g a len cap sz _ hg).mono ?_
    rintro e w' ⟨rfl, rfl⟩
    go_wp2_with fail
    exact ⟨rfl, rfl, rfl⟩
theorem num1_short (br bs bn g : Nat) (a : Option Addr) (len cap : Nat) (sz : Int) (w : World) (hr : w.cell? ⟨br, 0, none⟩ = some (.pointer (some ⟨g, 0, none⟩))) (hs : w.cell? ⟨bs, 0, none⟩ = some (.int .i64 sz)) (hg : Blk w g 98 (rdCells a len cap 0)) (h1 : 1 ≤ sz) (h8 : sz ≤ 8) (hl : (len : Int) < sz) :
    Calls Try.prog 63 #[.pointer (some ⟨br, 0, none⟩), .pointer (some ⟨bs, 0, none⟩), .pointer (some ⟨bn, 0, none⟩)] w fun e w' => e = .panicked [{ v := stopV 2, recovered := false }] ∧ w = w' := by
  have t1 : decide (1 ≤ sz) = true := by simpa using h1
  have t2 : decide (sz ≤ 8) = true := by simpa using h8
  go_enter Try.func63, Try.ntmps63
  go_wp2_with fail
  refine (need_short g a len cap sz _ hg hl).mono ?_
  rintro e w' ⟨rfl, rfl⟩
  go_wp2_with fail
  exact ⟨rfl, rfl, rfl⟩

theorem numFold_lt (l : List Nat) : ∀ a : Nat, (∀ y ∈ l, y < 256) → l.foldl (fun a b => a * 256 + b) a < (a + 1) * 256 ^ l.length := by
  induction l with
  | nil => intro a _; simp
  | cons x l ih =>
    intro a h
    have h1 := ih (a * 256 + x) (fun y hy => h y (by simp [hy]))
    have h2 := h x (by simp)
    have h3 : (a * 256 + x + 1) * 256 ^ l.length ≤ ((a + 1) * 256) * 256 ^ l.length := Nat.mul_le_mul_right _ (by omega)
    rw [List.foldl_cons, List.length_cons, Nat.pow_succ, Nat.mul_comm (256 ^ l.length) 256, ← Nat.mul_assoc]
    omega
theorem numOf_lt (l : List Nat) (h : ∀ y ∈ l, y < 256) : numOf l < 256 ^ l.length := by
  have := numFold_lt l 0 h
  simpa [numOf] using this
theorem numOf_lt8 {l : List Nat} (h : ∀ y ∈ l, y < 256) (hl : l.length ≤ 7) : numOf l < 72057594037927936 := by
  refine Nat.lt_of_lt_of_le (numOf_lt l h) ?_
  have := Nat.pow_le_pow_right (n := 256) (by omega) hl
  exact this
theorem num_round (m x : Nat) (hm : m < 72057594037927936) (hx : x < 256) : bits .or .u64 (IntKind.u64.wrap ((m : Int) * 256)) (IntKind.u64.wrap (x : Int)) = ((m * 256 + x : Nat) : Int) := by
  have e1 : IntKind.u64.wrap ((m : Int) * 256) = ((m * 256 : Nat) : Int) := by rw [IntKind.wrap_u64]; omega
  have e2 : IntKind.u64.wrap (x : Int) = (x : Int) := by rw [IntKind.wrap_u64]; omega
  rw [e1, e2, u64_or_nat _ _ (by omega) (by omega), nat_join 8 (m * 256) x (by omega) (by omega)]

set_option maxRecDepth 100000 in
set_option maxHeartbeats 1000000 in
theorem num1_ok (br bs bn g b off : Nat) (len cap : Nat) (xs : List Nat) (sz : Nat) (w : World) (hr : w.cell? ⟨br, 0, none⟩ = some (.pointer (some ⟨g, 0, none⟩))) (hs : w.cell? ⟨bs, 0, none⟩ = some (.int .i64 (sz : Int)))
    (hn : Blk w bn 56 #[.int .u64 0]) (hg : Blk w g 98 (rdCells (some ⟨b, off, none⟩) len cap 0)) (hx : BytesIn w (some ⟨b, off, none⟩) len cap xs) (hlc : len ≤ cap)
    (h1 : 1 ≤ sz) (h8 : sz ≤ 8) (hl : sz ≤ len) (hgn : g ≠ bn) (hrn : br ≠ bn) (hsn : bs ≠ bn) (hbn : b ≠ bn) :
    Calls Try.prog 63 #[.pointer (some ⟨br, 0, none⟩), .pointer (some ⟨bs, 0, none⟩), .pointer (some ⟨bn, 0, none⟩)] w fun e w' =>
      e = .returned (.tuple #[]) ∧ Touch g bn w w' ∧ Blk w' bn 56 #[.int .u64 (numOf (xs.take sz) : Nat)] ∧ Blk w' g 98 (rdCells (leftAt (some ⟨b, off, none⟩) cap sz) (len - sz) (cap - sz) 0) := by
  have hx0 := hx
  have c0 := hg.at 0 (.slice (some ⟨b, off, none⟩) len cap) rfl
  have cn := hn.at 0 (.int .u64 0) rfl
  have hxb : ∀ y ∈ xs, y < 256 := fun y hy => wf_u8_lt (hx.1.2.1 y hy)
  have i1 : (1 : Int) ≤ (sz : Int) := by omega
  have i8 : (sz : Int) ≤ 8 := by omega
  have il : (sz : Int) ≤ (len : Int) := by omega
  have ic : (sz : Int) ≤ (cap : Int) := by omega
  go_enter Try.func63, Try.ntmps63
  go_wp2_with fail
  refine (need_ok g _ len cap sz _ hg il).mono ?_
  rintro e w' ⟨rfl, rfl⟩
  go_wp2_with fail
  go_quiet (fail)
  go_wp2_with fail
  rename_i nq
  go_loopw [21] (fun i wr => ∃ k : Nat, k ≤ sz ∧ i = .int .i64 k ∧ w.grownBy wr (some bn) ∧ Blk wr bn 56 #[.int .u64 ((numOf (xs.take k) : Nat) : Int)]) (fun i _ => sz - (intOf i).toNat)
  case atStart => exact ⟨0, by omega, rfl, gb_drewN (gb_refl w _) nq, hn⟩
  case round =>
    obtain ⟨k, hk, rfl, hgb, hbl⟩ := hrel
    have cn' := hbl.at 0 _ rfl
    have fn' := hbl.free 0
    by_cases hlt : k < sz
    · obtain ⟨b1, o1, x, hb1, hlt1, hxx, hwx, hcx⟩ := hx.1.elem k (by omega)
      injection hb1 with hb1
      injection hb1 with hb1 ho1
      subst hb1
      subst ho1
      have cx : wr.cell? ⟨b, off + k, none⟩ = some (.int .u8 (x : Int)) := (World.cell?_of_block (hgb.block b hlt1 (fun e => hbn (by injection e)))).trans hcx
      have ik : (k : Int) < (sz : Int) := by omega
      have Hm := Lib.hid (num_round (numOf (xs.take k)) x (numOf_lt8 (fun y hy => hxb y (List.mem_of_mem_take hy)) (by rw [List.length_take]; omega)) (hxb x (List.mem_of_getElem? hxx)))
      have Hxx := Lib.hid (show numOf (xs.take (k + 1)) = numOf (xs.take k) * 256 + x by rw [List.take_add_one, hxx]; exact numOf_snoc _ _)
      clear hxx hcx hwx
      go_wp2_with fail
      go_roundw
      case rel => exact ⟨k + 1, by omega, by go_num, gb_set hgb (.inl rfl) _, by rw [Hm.out, Hxx.out]; exact hbl.put 0 _⟩
      case measure => simp [intOf]; omega
    · obtain rfl : k = sz := by omega
      have c0' : wr.cell? ⟨g, 0, none⟩ = some (.slice (some ⟨b, off, none⟩) len cap) := (World.cell?_of_block (hgb.block g hg.lt (fun e => hgn (by injection e)))).trans c0
      have cr' : wr.cell? ⟨br, 0, none⟩ = some (.pointer (some ⟨g, 0, none⟩)) := (World.cell?_of_block (hgb.block br (World.block_lt_of_cell? _ _ hr) (fun e => hrn (by injection e)))).trans hr
      have cs' : wr.cell? ⟨bs, 0, none⟩ = some (.int .i64 (k : Int)) := (World.cell?_of_block (hgb.block bs (World.block_lt_of_cell? _ _ hs) (fun e => hsn (by injection e)))).trans hs
      have hg' : Blk wr g 98 (rdCells (some ⟨b, off, none⟩) len cap 0) := hg.grown hgb (fun e => hgn (by injection e))
      have fg := hg'.free 0
      have Hg' := Lib.hid hg'
      have Hbl := Lib.hid hbl
      have Hgb := Lib.hid hgb
      clear hg' hbl hgb
      by_cases hck : cap = k
      · have Hl := Lib.hid (show leftAt (some ⟨b, off, none⟩) cap k = some ⟨b, off, none⟩ by simp [leftAt, hck])
        subst hck
        go_wp2_with fail
        go_region
        go_end0
        rw [Hl.out, show len - cap = 0 by omega, Nat.sub_self]
        exact ⟨rfl, ((Touch.of_grown Hgb.out).setCell (g := g) (p := ⟨g, 0, none⟩) (.inl rfl) _).drew, (Hbl.out.far (p := ⟨g, 0, none⟩) (Ne.symm hgn) _).drew, (Hg'.out.put 0 _).drew⟩
      · have Hl := Lib.hid (show leftAt (some ⟨b, off, none⟩) cap k = some ⟨b, off + k, none⟩ by simp [leftAt, hck, Go.WideShapes.add_plain])
        go_wp2_with fail
        go_region
        go_end0
        rw [Hl.out]
        exact ⟨rfl, ((Touch.of_grown Hgb.out).setCell (g := g) (p := ⟨g, 0, none⟩) (.inl rfl) _).drew, (Hbl.out.far (p := ⟨g, 0, none⟩) (Ne.symm hgn) _).drew, (Hg'.out.put 0 _).drew⟩
end Go.Proofs.Ytnojbjconiddoaa
