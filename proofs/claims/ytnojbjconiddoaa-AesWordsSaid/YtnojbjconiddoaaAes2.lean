/-
  The walk of aes.New: the words that the bytes make, and those that follow.
-/
import Derived.Test.YtnojbjconiddoaaAes1
import Derived.Test.YtnojbjconiddoaaReaderQ
import Derived.Test.YtnojbjconiddoaaStep
import Derived.Deep.DeepCutAuto
import Derived.Deep.AppendLies
import Derived.Deep.CutBlock
import Derived.Outline
import Derived.Deep.LoopGhost
namespace Go.Proofs.Ytnojbjconiddoaa
open Go.ChangeShapes Go.WideShapes Go.ChangeAt Go.RowKit Fld Aes
set_option linter.unusedSimpArgs false

def uv (n : Nat) : Value := .int .u32 (n : Int)
theorem uv_one (l : List Nat) : ∀ u ∈ l.map uv, u.oneCell' = true := fun u hu => by
  obtain ⟨x, _, rfl⟩ := List.mem_map.1 hu
  rfl
theorem info_u32 : (Try.prog.info? 52).map (fun i => (i.zero, i.size, i.bytes)) = some (some (.int .u32 0), 1, 4) := by kernel_rfl
theorem own_kept {w w' : World} {base : Nat} {e : TypeId} {size : Nat} {v : Value} {n : Nat} {xs : List Value} (h : w.ownsRow base e size v n xs) (hb : Below w.heap.size w w') : w'.ownsRow base e size v n xs :=
  h.kept (gb_of_below hb none) (by cases v.ownBlock <;> simp)
theorem own_off {w w' : World} {base k : Nat} {e : TypeId} {size : Nat} {v : Value} {n : Nat} {xs : List Value} (h : w.ownsRow base e size v n xs) (hb : w.grownBy w' (some k)) (hk : k < base) : w'.ownsRow base e size v n xs :=
  h.kept hb (by
    cases hv : v.ownBlock with
    | none => exact .inl rfl
    | some j =>
      refine .inr (fun e => ?_)
      injection e with e
      have := (h.lt j hv).1
      omega)
theorem own_slice {w : World} {base : Nat} {e : TypeId} {size : Nat} {v : Value} {n : Nat} {xs : List Value} (h : w.ownsRow base e size v n xs) (hn : 0 < n) : ∃ m q c, v = .slice (some ⟨m, 0, none⟩) q c := by
  rcases h.2 with ⟨_, h0⟩ | ⟨g, cap, cur, hv, _⟩
  · omega
  · exact ⟨g, n, cap, hv⟩
theorem own_at {w : World} {base m c n : Nat} {W : List Nat} (h : w.ownsRow base 52 1 (.slice (some ⟨m, 0, none⟩) n c) n (W.map uv)) (hl : W.length = n) (i : Nat) (hi : i < n) : w.cell? ⟨m, i, none⟩ = some (uv (W.getD i 0)) := by
  rw [h.cellAt i (by omega), List.getElem?_map, List.getD_eq_getElem?_getD, List.getElem?_eq_getElem (by omega)]
  rfl
theorem below_grown {w w' : World} {row : Option Nat} {B : Nat} (h : w.grownBy w' row) (hB : B ≤ w.heap.size) (hr : ∀ k, row = some k → B ≤ k) : Below B w w' :=
  ⟨h.os, h.tape, h.output, h.size, fun k hk => h.block k (by omega) (fun e => by have := hr k e.symm; omega)⟩
theorem BoxAt.below {w w' : World} {x B : Nat} (h : BoxAt w x) (hb : Below B w w') (hx : x < B) : BoxAt w' x := by
  obtain ⟨cs, h1, h2⟩ := h
  exact ⟨cs, h1.below hb hx, h2⟩
theorem BoxAt.off {w w' : World} {x k : Nat} (h : BoxAt w x) (hb : w.grownBy w' (some k)) (hx : x ≠ k) : BoxAt w' x := by
  obtain ⟨cs, h1, h2⟩ := h
  exact ⟨cs, h1.grown hb (fun e => by injection e; omega), h2⟩
theorem RdAt.under {w w' : World} {B g B0 : Nat} {xs : List Nat} {f : Int} (h : RdAt w B g xs f) (hb : Below B0 w w') (hg : g < B0) : RdAt w' B g xs f := by
  obtain ⟨a, cap, h1, h2, h3, h4, h5, h6⟩ := h
  refine ⟨a, cap, h1.below hb hg, ⟨⟨h2.1.1, h2.1.2.1, fun hp => ?_⟩, h2.2⟩, h3, h4, h5, h6⟩
  obtain ⟨b, off, rfl, hlt, hc⟩ := h2.1.2.2 hp
  have := (h6 hp _ rfl).2
  exact ⟨b, off, rfl, Nat.lt_of_lt_of_le hlt hb.size, fun j n hn => (hb.cell (p := ⟨b, off + j, none⟩) (by simp at this ⊢; omega)).trans (hc j n hn)⟩

abbrev ciph (v : Value) (R x : Nat) : Array Value := #[v, .int .i64 (R : Int), .pointer (some ⟨x, 0, none⟩)]
/-- A cipher that is being made: its block C, the words so far in a row of its own that lies from B0 on, the boxes at x. -/
structure NewAt (w : World) (C x B0 R : Nat) (W : List Nat) (v : Value) (u : World) : Prop where
  c : Blk u C 75 (ciph v R x)
  own : u.ownsRow B0 52 1 v W.length (W.map uv)
  box : BoxAt u x
  nu : Below w.heap.size w u
  base : B0 ≤ u.heap.size
  ord : w.heap.size ≤ x ∧ x < C ∧ C < B0
section
variable {w u u' : World} {C x B0 R : Nat} {W : List Nat} {v : Value}
/-- .. behind whatever leaves all that lies below B0 and the row itself. -/
theorem NewAt.under (H : NewAt w C x B0 R W v u) (hb : Below u.heap.size u u') : NewAt w C x B0 R W v u' :=
  ⟨H.c.below hb H.c.lt, own_kept H.own hb, H.box.below hb (by have := H.c.lt; have := H.ord; omega), nu_trans H.nu hb, Nat.le_trans H.base hb.size, H.ord⟩
theorem NewAt.off {k : Nat} (H : NewAt w C x B0 R W v u) (hb : u.grownBy u' (some k)) (hk : C < k) (hk2 : k < B0) : NewAt w C x B0 R W v u' :=
  ⟨H.c.grown hb (fun e => by injection e; omega), own_off H.own hb hk2, H.box.off hb (by have := H.ord; omega), nu_grown H.nu hb (by have := H.ord; omega), Nat.le_trans H.base hb.size, H.ord⟩
/-- One word more. -/
theorem NewAt.push (H : NewAt w C x B0 R W v u) {v' : Value} {y : Nat} (hown : u'.ownsRow B0 52 1 v' (W.length + 1) (W.map uv ++ [uv y])) (hg : u.grownBy u' v.ownBlock) :
    NewAt w C x B0 R (W ++ [y]) v' (u'.setCell ⟨C, 0, none⟩ v') ∧ Blk u' C 75 (ciph v R x) ∧ ∀ j, j < B0 → j ≠ C → (u'.setCell ⟨C, 0, none⟩ v').heap[j]? = u.heap[j]? := by
  have hb : Below B0 u u' := below_grown hg H.base (fun k hk => (H.own.lt k hk).1)
  have hc : Blk u' C 75 (ciph v R x) := H.c.below hb H.ord.2.2
  have hgs : u'.grownBy (u'.setCell ⟨C, 0, none⟩ v') (some C) := gb_set (gb_refl u' (some C)) (p := ⟨C, 0, none⟩) (.inl rfl) v'
  refine ⟨⟨hc.put 0 v', ?_, (H.box.below hb (by have := H.ord; omega)).off hgs (by have := H.ord; omega), ?_, Nat.le_trans H.base (Nat.le_trans hb.size hgs.size), H.ord⟩, hc, fun j hj hne => ?_⟩
  · have h := own_off hown hgs H.ord.2.2
    rw [List.length_append, List.map_append]
    exact h
  · exact nu_set (H.nu.trans (hb.mono (by have := H.ord; omega))) (p := ⟨C, 0, none⟩) (by have := H.ord; simp; omega) v'
  · exact (hgs.block j (Nat.lt_of_lt_of_le (by have := H.base; omega) hb.size) (fun e => by injection e; omega)).trans (hb.block j hj)
end
theorem RdAt.same {w w' : World} {B g B0 C : Nat} {xs : List Nat} {f : Int} (h : RdAt w B g xs f) (hs : w.heap.size ≤ w'.heap.size) (hb : ∀ j, j < B0 → j ≠ C → w'.heap[j]? = w.heap[j]?) (hg : g < B0) (hC : C < B) : RdAt w' B g xs f := by
  obtain ⟨a, cap, h1, h2, h3, h4, h5, h6⟩ := h
  refine ⟨a, cap, (hb g hg (by omega)).trans h1, ⟨⟨h2.1.1, h2.1.2.1, fun hp => ?_⟩, h2.2⟩, h3, h4, h5, h6⟩
  obtain ⟨b, off, rfl, hlt, hc⟩ := h2.1.2.2 hp
  have := h6 hp _ rfl
  exact ⟨b, off, rfl, Nat.lt_of_lt_of_le hlt hs, fun j n hn => (World.cell?_of_block (a := ⟨b, off + j, none⟩) (hb b (by simp at this; omega) (by simp at this; omega))).trans (hc j n hn)⟩

/-- Four bytes are read. -/
theorem num4 (B g k L : Nat) (key : List Nat) (w : World) (hl : key.length = L) (hk : 4 * k + 4 ≤ L) (hr : RdAt w B g (key.drop (4 * k)) 0) :
    Calls Try.prog 46 #[.pointer (some ⟨g, 0, none⟩), .int .i64 4] w fun e w' =>
      e = .returned (.int .u64 ((wN (key.getD (4 * k) 0) (key.getD (4 * k + 1) 0) (key.getD (4 * k + 2) 0) (key.getD (4 * k + 3) 0) : Nat) : Int)) ∧ RdAt w' B g (key.drop (4 * (k + 1))) 0 ∧ w.grownBy w' (some g) := by
  have hs : rdStep (key.drop (4 * k)) 0 4 (numRight 4) = ((key.drop (4 * k)).take 4, (key.drop (4 * k)).drop 4, 0) := rdStep_ok (xs := key.drop (4 * k)) (n := 4) (by rw [List.length_drop]; omega)
  have h := num_any B g (key.drop (4 * k)) 0 4 w hr
  rw [hs] at h
  refine h.mono fun e w' ⟨h1, h2, h3⟩ => ⟨?_, ?_, h3⟩
  · rw [h1]
    have e4 : (key.drop (4 * k)).take 4 = [key.getD (4 * k) 0, key.getD (4 * k + 1) 0, key.getD (4 * k + 2) 0, key.getD (4 * k + 3) 0] := by
      have g0 : ∀ i, i < 4 → key[4 * k + i]? = some (key.getD (4 * k + i) 0) := fun i hi => by
        rw [List.getD_eq_getElem?_getD, List.getElem?_eq_getElem (by omega)]
        rfl
      apply List.ext_getElem?
      intro i
      rw [List.getElem?_take]
      by_cases hi : i < 4
      · rw [if_pos hi, List.getElem?_drop, g0 i hi]
        rcases (show i = 0 ∨ i = 1 ∨ i = 2 ∨ i = 3 by omega) with rfl | rfl | rfl | rfl <;> rfl
      · rw [if_neg hi, List.getElem?_eq_none (by simp; omega)]
    show Ending.returned (.int .u64 ((numOf ((key.drop (4 * k)).take 4) : Nat) : Int)) = _
    rw [e4]
    have en : ∀ a b c d : Nat, numOf [a, b, c, d] = wN a b c d := fun a b c d => by simp only [numOf, wN, List.foldl]; omega
    rw [en]
  · have h2' : RdAt w' B g ((key.drop (4 * k)).drop 4) 0 := h2
    rw [List.drop_drop] at h2'
    exact h2'

def NewMade (w : World) (R : Nat) (W : List Nat) (e : Ending) (w' : World) : Prop := ∃ C x B0 v, e = .returned (.tuple #[.pointer (some ⟨C, 0, none⟩), .int .i64 0]) ∧ NewAt w C x B0 R W v w'
set_option maxRecDepth 100000 in
set_option maxHeartbeats 4000000 in
theorem aesNew_any (n L : Nat) (hn : n = 4 ∨ n = 8) (hL : L = 4 * n) (a : Option Addr) (cap : Nat) (key : List Nat) (w : World) (hx : BytesIn w a L cap key) :
    Calls Try.prog 26 #[.slice a L cap] w (NewMade w (n + 6) (expand key)) := by
  obtain ⟨i0, hi, hz0, hz1, hz2⟩ := info_parts info_u32
  have Hi := Lib.hid (And.intro hi (And.intro hz0 (And.intro hz1 hz2)))
  have hkl := hx.1.1
  have Hkx := Lib.hid (fun x h => wf_u8_lt (hx.1.2.1 x h))
  have Hx := Lib.hid hx
  have hn8 : n ≤ 8 := by omega
  have hn4 : 4 ≤ n := by omega
  have hq : (L : Int) / 4 = (n : Int) := by omega
  have Hkl := Lib.hid hkl
  have HL := Lib.hid hL
  have Hn := Lib.hid hn
  have hcases : (((L : Int) == 16) = true ∧ ((L : Int) != 16) = false) ∨ (((L : Int) != 16) = true ∧ ((L : Int) != 32) = false) := by
    rcases hn with rfl | rfl
    · subst hL; exact .inl ⟨rfl, rfl⟩
    · subst hL; exact .inr ⟨rfl, rfl⟩
  clear hi hz0 hz1 hz2 hkl hx hL hn
  have hL32 : L ≤ 32 := by have := HL.out; omega
  go_enter Try.func26, Try.ntmps26
  go_upto_region 1 with fail
  go_cut [17] (fun s17 wx => s17 = .bool false ∧ wx = w)
  case first =>
    rcases hcases with ⟨t1, t2⟩ | ⟨t1, t2⟩
    · go_wp2_with fail
      go_meet
      exact ⟨rfl, rfl⟩
    · go_wp2_with fail
      go_meet
      exact ⟨rfl, rfl⟩
  case rest =>
    obtain ⟨rfl, hwc⟩ := hcut
    have hwc' := hwc.symm
    subst hwc'
    clear hcases
    go_upto_region 3 with fail
    go_wp2_with fail
    refine (newBoxes_any w).mono ?_
    rintro e w1 ⟨rfl, hb1, cs, hg1, ht1⟩
    have HB1 := Lib.hid (show BoxAt w1 w.heap.size from ⟨cs, hg1, ht1⟩)
    have Hb1 := Lib.hid hb1
    have Hx1 := Lib.hid (Hx.out.keep hb1)
    have hlt := hg1.lt
    clear hg1 ht1 hb1 cs
    obtain ⟨x, hxe⟩ : ∃ x, x = w.heap.size := ⟨_, rfl⟩
    rw [← hxe] at HB1 hlt
    rw [← hxe]
    have Hxe := Lib.hid hxe
    clear hxe
    go_upto_region 4 with fail
    have HC2 := Lib.hid (Blk.made w1 75 #[.slice none 0 0, .int .i64 ((n : Int) + 6), .pointer (some ⟨x, 0, none⟩)])
    have hal := nu_alloc (nu_refl w1) (.cells #[.slice none 0 0, .int .i64 ((n : Int) + 6), .pointer (some ⟨x, 0, none⟩)] 75)
    have HB2 := Lib.hid (HB1.out.below hal hlt)
    have Hb2 := Lib.hid (nu_trans Hb1.out hal)
    have Hx2 := Lib.hid (Hx1.out.keep hal)
    have hs2 : w1.heap.size < (w1.alloc (.cells #[.slice none 0 0, .int .i64 ((n : Int) + 6), .pointer (some ⟨x, 0, none⟩)] 75)).heap.size := by simp
    clear hal HB1 Hb1 Hx1
    generalize w1.alloc (.cells #[.slice none 0 0, .int .i64 ((n : Int) + 6), .pointer (some ⟨x, 0, none⟩)] 75) = w2 at *
    obtain ⟨C, hC⟩ : ∃ C, C = w1.heap.size := ⟨_, rfl⟩
    rw [← hC] at HC2 hs2 hlt
    rw [← hC]
    clear hC
    go_wp2_with fail
    refine (newReader_any a L cap key w2 Hx2.out (by omega)).mono ?_
    rintro e w3 ⟨g, rfl, hr, hb3⟩
    have hgl := hr.lt
    have hgw := hr.low
    have hs3 := hb3.size
    have HR3 := Lib.hid (show RdAt w3 w2.heap.size g (key.drop (4 * 0)) 0 from hr)
    obtain ⟨B0, hB0⟩ : ∃ B0, B0 = w3.heap.size := ⟨_, rfl⟩
    have HN3 := Lib.hid (show NewAt w C x B0 (n + 6) (words key 0) (.slice none 0 0) w3 from ⟨Blk.below HC2.out hb3 (Blk.lt HC2.out), World.ownsRow_nil _ _ _ _, HB2.out.below hb3 (by omega), nu_trans Hb2.out hb3, by omega, by have := Hxe.out; omega⟩)
    obtain ⟨Br, hBr⟩ : ∃ Br, Br = w2.heap.size := ⟨_, rfl⟩
    rw [← hBr] at HR3
    have Ho := Lib.hid (show C < Br ∧ Br ≤ g ∧ g < B0 from ⟨by omega, by omega, by omega⟩)
    clear hr hb3 HC2 HB2 Hb2 Hx2 Hx hBr hB0 hgl hgw hs3 hs2 hlt
    go_wp2_with fail
    go_loopg [] n (fun gh wr => ∃ (k : Nat) (v : Value), k ≤ n ∧ gh = n - k ∧ NewAt w C x B0 (n + 6) (words key k) v wr ∧ RdAt wr Br g (key.drop (4 * k)) 0)
    case atStart => exact ⟨0, _, by omega, by omega, HN3.out, HR3.out⟩
    case round =>
      clear HN3 HR3
      obtain ⟨k, v, hk, hgh, hN, hR⟩ := hrel
      have HN := Lib.hid hN
      have HR := Lib.hid hR
      have HHk := Lib.hid (And.intro hk hgh)
      clear hN hR hgh
      obtain ⟨ra, rc, hrb, _⟩ := HR.out
      have hdl : (key.drop (4 * k)).length = L - 4 * k := by rw [List.length_drop, Hkl.out]
      rw [hdl] at hrb
      clear hdl
      by_cases hlt : k < n
      · have hpos : (0 : Int) < ((L - 4 * k : Nat) : Int) := by have := HL.out; omega
        go_wp2_with fail
        refine (left_any g ra (L - 4 * k) rc 0 wr hrb).mono ?_
        rintro e w' ⟨rfl, rfl⟩
        clear hrb
        generalize L - 4 * k = lft at *
        go_upto_region 6 with fail
        clear hpos
        have HNd := Lib.hid (HN.out.under (nu_drew (nu_refl wr)))
        have HRd := Lib.hid (HR.out.keep (nu_drew (nu_refl wr)))
        clear HN HR
        obtain ⟨y, hy⟩ : ∃ y, wN (key.getD (4 * k) 0) (key.getD (4 * k + 1) 0) (key.getD (4 * k + 2) 0) (key.getD (4 * k + 3) 0) = y := ⟨_, rfl⟩
        have hyl : y < 4294967296 := by rw [← hy]; exact wN_lt _ _ _ _ (getD_lt Hkx.out _) (getD_lt Hkx.out _) (getD_lt Hkx.out _) (getD_lt Hkx.out _)
        have Hy := Lib.hid hy
        have hyw : IntKind.u32.wrap (y : Int) = (y : Int) := by rw [IntKind.wrap_u32]; omega
        clear hy
        refine wp_region_held_drew (S := fun _ => True) (by kernel_rfl) (trivial) (fun hHeld => ?_)
        dsimp only [Array.replicate, List.replicate, List.size_toArray, List.length_cons, List.length_nil, Nat.reduceAdd] at hHeld ⊢
        generalize wr.drew = u0 at *
        have HN0 := HNd
        have HR0 := HRd
        clear HNd HRd
        refine take_l (i := 0) (v := ?_) rfl (by kernel_rfl) (by kernel_rfl) (by kernel_rfl) (fun _ _ _ h => h) (Or.inl ⟨by rfl, ?_⟩) (by assumption) ?_
        case refine_2 => (intro _ _; go_simp; all_goals with_reducible rfl)
        simp only [Act.put, List.setIfInBounds_toArray, List.set_cons_zero, List.set_cons_succ]
        refine take_l (i := 1) (v := ?_) rfl (by kernel_rfl) (by kernel_rfl) (by kernel_rfl) (fun _ _ _ h => h) (Or.inl ⟨by rfl, ?_⟩) (by assumption) ?_
        case refine_2 => (intro _ _; go_simp; all_goals with_reducible rfl)
        simp only [Act.put, List.setIfInBounds_toArray, List.set_cons_zero, List.set_cons_succ]
        refine take_l (i := 2) (v := ?_) rfl (by kernel_rfl) (by kernel_rfl) (by kernel_rfl) (fun _ _ _ h => h) (Or.inl ⟨by rfl, ?_⟩) (by assumption) ?_
        case refine_2 => (intro _ _; go_simp; all_goals with_reducible rfl)
        simp only [Act.put, List.setIfInBounds_toArray, List.set_cons_zero, List.set_cons_succ]
        refine take_l (i := 3) (v := ?_) rfl (by kernel_rfl) (by kernel_rfl) (by kernel_rfl) (fun _ _ _ h => h) (Or.inl ⟨by rfl, ?_⟩) (by assumption) ?_
        case refine_2 => (intro _ _; go_simp; all_goals with_reducible rfl)
        simp only [Act.put, List.setIfInBounds_toArray, List.set_cons_zero, List.set_cons_succ]
        refine take_l (i := 5) (v := ?_) rfl (by kernel_rfl) (by kernel_rfl) (by kernel_rfl) (fun _ _ _ h => h) (Or.inl ⟨by rfl, ?_⟩) (by assumption) ?_
        case refine_2 => (intro _ _; go_simp; all_goals with_reducible rfl)
        simp only [Act.put, List.setIfInBounds_toArray, List.set_cons_zero, List.set_cons_succ]
        refine wpAnyH_ready (rs := [4, 6]) (by kernel_rfl) (by simp) ?_
        refine cons_l rfl (fun K hK => ?_) (cons_l rfl (fun K hK => ?_) AllReadyH.nil)
        · have c0 := HN0.out.c.at 0 _ rfl
          go_simp
          go_wp2_with fail
          refine hK.out _ _ trivial (fun hHeld => ?_)
          clear hK K c0
          simp only [Act.put, List.setIfInBounds_toArray, List.set_cons_zero, List.set_cons_succ]
          have HN1 := HN0
          have HR1 := HR0
          clear HN0 HR0
          obtain ⟨u1, hue⟩ : ∃ q : World, q = u0 := ⟨_, rfl⟩
          rw [← hue] at HN1 HR1 ⊢
          try rw [← hue] at HY
          clear hue
          refine wpAnyH_ready (rs := [6]) (by kernel_rfl) (by simp) ?_
          refine cons_l rfl (fun K hK => ?_) AllReadyH.nil
          go_simp
          go_at_call 46
          refine (num4 Br g k L key u1 Hkl.out (by have := HL.out; omega) HR1.out).mono ?_
          rintro e u2 ⟨rfl, hrd, hgr⟩
          have HN2 := Lib.hid (HN1.out.off hgr (by have := Ho.out; omega) Ho.out.2.2)
          have HR2 := Lib.hid hrd
          clear hrd hgr HN1 HR1
          rw [Hy.out]
          go_wp2_with fail
          refine hK.out _ _ trivial (fun hHeld => ?_)
          clear hK K
          simp only [Act.put, List.setIfInBounds_toArray, List.set_cons_zero, List.set_cons_succ]
          refine take_l (i := 7) (v := ?_) rfl (by kernel_rfl) (by kernel_rfl) (by kernel_rfl) (fun _ _ _ h => h) (Or.inl ⟨by rfl, ?_⟩) (by assumption) ?_
          case refine_2 => (intro _ _; go_simp; all_goals with_reducible rfl)
          simp only [Act.put, List.setIfInBounds_toArray, List.set_cons_zero, List.set_cons_succ]
          refine wpAnyH_ready (rs := [8]) (by kernel_rfl) (by simp) ?_
          refine cons_l rfl (fun K hK => ?_) AllReadyH.nil
          have hal := nu_alloc (nu_refl u2) (.cells #[.int .u32 (y : Int)] 52)
          have HY := Lib.hid (Blk.made u2 52 #[.int .u32 (y : Int)])
          have HN3 := Lib.hid (HN2.out.under hal)
          have HR3 := Lib.hid (HR2.out.keep hal)
          clear hal HN2 HR2
          go_simp
          go_wp2_with fail
          generalize u2.heap.size = j at *
          generalize u2.alloc (.cells #[.int .u32 (y : Int)] 52) = u3 at *
          refine hK.out _ _ trivial (fun hHeld => ?_)
          clear hK K
          simp only [Act.put, List.setIfInBounds_toArray, List.set_cons_zero, List.set_cons_succ]
          refine wpAnyH_ready (rs := [9]) (by kernel_rfl) (by simp) ?_
          refine cons_l rfl (fun K hK => ?_) AllReadyH.nil
          refine step_append_own rfl (.tmp 34) (.tmp 38) 49 rfl B0 52 i0 (.int .u32 0) 1 4 Try.underlying49 Hi.out.1 Hi.out.2.1 Hi.out.2.2.1 Hi.out.2.2.2 rfl (by decide) v (words key k).length ((words key k).map uv) rfl HN3.out.own (some ⟨j, 0, none⟩) 1 1 [uv y] rfl (fun h => by cases h) rfl (fun ad had i q hq => by injection had with had; subst had; rw [Addr.add_lit, Nat.zero_add]; exact HY.out.at i q (by simpa [uv] using hq)) (fun q hq => by rw [List.mem_singleton.1 hq]; rfl) (by rw [words_len]; unfold maxLen; omega) (by rw [words_len]; omega) HN3.out.base ?_
          intro v2 u9 hown hgr _
          obtain ⟨m2, q2, c2, hv2⟩ := own_slice hown (by omega)
          subst hv2
          obtain ⟨hP1, hP2, hP3⟩ := HN3.out.push hown hgr
          have HP := Lib.hid (show NewAt w C x B0 (n + 6) (words key (k + 1)) (.slice (some ⟨m2, 0, none⟩) q2 c2) _ from by rw [show words key (k + 1) = words key k ++ [y] by rw [words, ← Hy.out]]; exact hP1)
          have HQ := Lib.hid (HR3.out.same (Nat.le_trans hgr.size (by simp [World.setCell])) hP3 Ho.out.2.2 Ho.out.1)
          have c0 := hP2.at 0 _ rfl
          have f0 := hP2.free 0
          clear hown hgr hP1 hP2 hP3 HN3 HR3 HY
          refine hK.out _ _ trivial (fun hHeld => ?_)
          clear hK K
          simp only [Act.put, List.setIfInBounds_toArray, List.set_cons_zero, List.set_cons_succ]
          refine take_l (i := 10) (v := ?_) rfl (by kernel_rfl) (by kernel_rfl) (by kernel_rfl) (fun _ _ _ h => h) (Or.inl ⟨by rfl, ?_⟩) (by assumption) ?_
          case refine_2 => (intro _ _; go_simp; all_goals with_reducible rfl)
          simp only [Act.put, List.setIfInBounds_toArray, List.set_cons_zero, List.set_cons_succ]
          refine take_l (i := 11) (v := ?_) rfl (by kernel_rfl) (by kernel_rfl) (by kernel_rfl) (fun _ _ _ h => h) (Or.inl ⟨by rfl, ?_⟩) (by assumption) ?_
          case refine_2 => (intro _ _; go_simp; all_goals with_reducible rfl)
          simp only [Act.put, List.setIfInBounds_toArray, List.set_cons_zero, List.set_cons_succ]
          refine wpAnyH_ready (rs := [12]) (by kernel_rfl) (by simp) ?_
          refine cons_l rfl (fun K hK => ?_) AllReadyH.nil
          go_simp
          go_wp2_with fail
          clear c0 f0
          generalize u9.setCell ⟨C, 0, none⟩ (.slice (some ⟨m2, 0, none⟩) q2 c2) = u10 at *
          refine hK.out _ _ trivial (fun hHeld => ?_)
          clear hK K
          simp only [Act.put, List.setIfInBounds_toArray, List.set_cons_zero, List.set_cons_succ]
          refine wpAnyH_done (by kernel_rfl) ?_ _
          go_wp2_with fail
          go_roundg (n - (k + 1))
          case measure => have h1 := HHk.out; omega
          case rel => exact ⟨k + 1, _, by omega, rfl, HP.out, HQ.out⟩
        · go_simp
          go_at_call 46
          refine (num4 Br g k L key u0 Hkl.out (by have := HL.out; omega) HR0.out).mono ?_
          rintro e u1 ⟨rfl, hrd, hgr⟩
          have HN1 := Lib.hid (HN0.out.off hgr (by have := Ho.out; omega) Ho.out.2.2)
          have HR1 := Lib.hid hrd
          clear hrd hgr HN0 HR0
          rw [Hy.out]
          go_wp2_with fail
          refine hK.out _ _ trivial (fun hHeld => ?_)
          clear hK K
          simp only [Act.put, List.setIfInBounds_toArray, List.set_cons_zero, List.set_cons_succ]
          refine take_l (i := 7) (v := ?_) rfl (by kernel_rfl) (by kernel_rfl) (by kernel_rfl) (fun _ _ _ h => h) (Or.inl ⟨by rfl, ?_⟩) (by assumption) ?_
          case refine_2 => (intro _ _; go_simp; all_goals with_reducible rfl)
          simp only [Act.put, List.setIfInBounds_toArray, List.set_cons_zero, List.set_cons_succ]
          refine wpAnyH_ready (rs := [4, 8]) (by kernel_rfl) (by simp) ?_
          refine cons_l rfl (fun K hK => ?_) (cons_l rfl (fun K hK => ?_) AllReadyH.nil)
          · have c0 := HN1.out.c.at 0 _ rfl
            go_simp
            go_wp2_with fail
            refine hK.out _ _ trivial (fun hHeld => ?_)
            clear hK K c0
            simp only [Act.put, List.setIfInBounds_toArray, List.set_cons_zero, List.set_cons_succ]
            have HN2 := HN1
            have HR2 := HR1
            clear HN1 HR1
            obtain ⟨u2, hue⟩ : ∃ q : World, q = u1 := ⟨_, rfl⟩
            rw [← hue] at HN2 HR2 ⊢
            try rw [← hue] at HY
            clear hue
            refine wpAnyH_ready (rs := [8]) (by kernel_rfl) (by simp) ?_
            refine cons_l rfl (fun K hK => ?_) AllReadyH.nil
            have hal := nu_alloc (nu_refl u2) (.cells #[.int .u32 (y : Int)] 52)
            have HY := Lib.hid (Blk.made u2 52 #[.int .u32 (y : Int)])
            have HN3 := Lib.hid (HN2.out.under hal)
            have HR3 := Lib.hid (HR2.out.keep hal)
            clear hal HN2 HR2
            go_simp
            go_wp2_with fail
            generalize u2.heap.size = j at *
            generalize u2.alloc (.cells #[.int .u32 (y : Int)] 52) = u3 at *
            refine hK.out _ _ trivial (fun hHeld => ?_)
            clear hK K
            simp only [Act.put, List.setIfInBounds_toArray, List.set_cons_zero, List.set_cons_succ]
            refine wpAnyH_ready (rs := [9]) (by kernel_rfl) (by simp) ?_
            refine cons_l rfl (fun K hK => ?_) AllReadyH.nil
            refine step_append_own rfl (.tmp 34) (.tmp 38) 49 rfl B0 52 i0 (.int .u32 0) 1 4 Try.underlying49 Hi.out.1 Hi.out.2.1 Hi.out.2.2.1 Hi.out.2.2.2 rfl (by decide) v (words key k).length ((words key k).map uv) rfl HN3.out.own (some ⟨j, 0, none⟩) 1 1 [uv y] rfl (fun h => by cases h) rfl (fun ad had i q hq => by injection had with had; subst had; rw [Addr.add_lit, Nat.zero_add]; exact HY.out.at i q (by simpa [uv] using hq)) (fun q hq => by rw [List.mem_singleton.1 hq]; rfl) (by rw [words_len]; unfold maxLen; omega) (by rw [words_len]; omega) HN3.out.base ?_
            intro v2 u9 hown hgr _
            obtain ⟨m2, q2, c2, hv2⟩ := own_slice hown (by omega)
            subst hv2
            obtain ⟨hP1, hP2, hP3⟩ := HN3.out.push hown hgr
            have HP := Lib.hid (show NewAt w C x B0 (n + 6) (words key (k + 1)) (.slice (some ⟨m2, 0, none⟩) q2 c2) _ from by rw [show words key (k + 1) = words key k ++ [y] by rw [words, ← Hy.out]]; exact hP1)
            have HQ := Lib.hid (HR3.out.same (Nat.le_trans hgr.size (by simp [World.setCell])) hP3 Ho.out.2.2 Ho.out.1)
            have c0 := hP2.at 0 _ rfl
            have f0 := hP2.free 0
            clear hown hgr hP1 hP2 hP3 HN3 HR3 HY
            refine hK.out _ _ trivial (fun hHeld => ?_)
            clear hK K
            simp only [Act.put, List.setIfInBounds_toArray, List.set_cons_zero, List.set_cons_succ]
            refine take_l (i := 10) (v := ?_) rfl (by kernel_rfl) (by kernel_rfl) (by kernel_rfl) (fun _ _ _ h => h) (Or.inl ⟨by rfl, ?_⟩) (by assumption) ?_
            case refine_2 => (intro _ _; go_simp; all_goals with_reducible rfl)
            simp only [Act.put, List.setIfInBounds_toArray, List.set_cons_zero, List.set_cons_succ]
            refine take_l (i := 11) (v := ?_) rfl (by kernel_rfl) (by kernel_rfl) (by kernel_rfl) (fun _ _ _ h => h) (Or.inl ⟨by rfl, ?_⟩) (by assumption) ?_
            case refine_2 => (intro _ _; go_simp; all_goals with_reducible rfl)
            simp only [Act.put, List.setIfInBounds_toArray, List.set_cons_zero, List.set_cons_succ]
            refine wpAnyH_ready (rs := [12]) (by kernel_rfl) (by simp) ?_
            refine cons_l rfl (fun K hK => ?_) AllReadyH.nil
            go_simp
            go_wp2_with fail
            clear c0 f0
            generalize u9.setCell ⟨C, 0, none⟩ (.slice (some ⟨m2, 0, none⟩) q2 c2) = u10 at *
            refine hK.out _ _ trivial (fun hHeld => ?_)
            clear hK K
            simp only [Act.put, List.setIfInBounds_toArray, List.set_cons_zero, List.set_cons_succ]
            refine wpAnyH_done (by kernel_rfl) ?_ _
            go_wp2_with fail
            go_roundg (n - (k + 1))
            case measure => have h1 := HHk.out; omega
            case rel => exact ⟨k + 1, _, by omega, rfl, HP.out, HQ.out⟩
          · have hal := nu_alloc (nu_refl u1) (.cells #[.int .u32 (y : Int)] 52)
            have HY := Lib.hid (Blk.made u1 52 #[.int .u32 (y : Int)])
            have HN2 := Lib.hid (HN1.out.under hal)
            have HR2 := Lib.hid (HR1.out.keep hal)
            clear hal HN1 HR1
            go_simp
            go_wp2_with fail
            generalize u1.heap.size = j at *
            generalize u1.alloc (.cells #[.int .u32 (y : Int)] 52) = u2 at *
            refine hK.out _ _ trivial (fun hHeld => ?_)
            clear hK K
            simp only [Act.put, List.setIfInBounds_toArray, List.set_cons_zero, List.set_cons_succ]
            refine wpAnyH_ready (rs := [4]) (by kernel_rfl) (by simp) ?_
            refine cons_l rfl (fun K hK => ?_) AllReadyH.nil
            have c0 := HN2.out.c.at 0 _ rfl
            go_simp
            go_wp2_with fail
            refine hK.out _ _ trivial (fun hHeld => ?_)
            clear hK K c0
            simp only [Act.put, List.setIfInBounds_toArray, List.set_cons_zero, List.set_cons_succ]
            have HN3 := HN2
            have HR3 := HR2
            clear HN2 HR2
            obtain ⟨u3, hue⟩ : ∃ q : World, q = u2 := ⟨_, rfl⟩
            rw [← hue] at HN3 HR3 ⊢
            try rw [← hue] at HY
            clear hue
            refine wpAnyH_ready (rs := [9]) (by kernel_rfl) (by simp) ?_
            refine cons_l rfl (fun K hK => ?_) AllReadyH.nil
            refine step_append_own rfl (.tmp 34) (.tmp 38) 49 rfl B0 52 i0 (.int .u32 0) 1 4 Try.underlying49 Hi.out.1 Hi.out.2.1 Hi.out.2.2.1 Hi.out.2.2.2 rfl (by decide) v (words key k).length ((words key k).map uv) rfl HN3.out.own (some ⟨j, 0, none⟩) 1 1 [uv y] rfl (fun h => by cases h) rfl (fun ad had i q hq => by injection had with had; subst had; rw [Addr.add_lit, Nat.zero_add]; exact HY.out.at i q (by simpa [uv] using hq)) (fun q hq => by rw [List.mem_singleton.1 hq]; rfl) (by rw [words_len]; unfold maxLen; omega) (by rw [words_len]; omega) HN3.out.base ?_
            intro v2 u9 hown hgr _
            obtain ⟨m2, q2, c2, hv2⟩ := own_slice hown (by omega)
            subst hv2
            obtain ⟨hP1, hP2, hP3⟩ := HN3.out.push hown hgr
            have HP := Lib.hid (show NewAt w C x B0 (n + 6) (words key (k + 1)) (.slice (some ⟨m2, 0, none⟩) q2 c2) _ from by rw [show words key (k + 1) = words key k ++ [y] by rw [words, ← Hy.out]]; exact hP1)
            have HQ := Lib.hid (HR3.out.same (Nat.le_trans hgr.size (by simp [World.setCell])) hP3 Ho.out.2.2 Ho.out.1)
            have c0 := hP2.at 0 _ rfl
            have f0 := hP2.free 0
            clear hown hgr hP1 hP2 hP3 HN3 HR3 HY
            refine hK.out _ _ trivial (fun hHeld => ?_)
            clear hK K
            simp only [Act.put, List.setIfInBounds_toArray, List.set_cons_zero, List.set_cons_succ]
            refine take_l (i := 10) (v := ?_) rfl (by kernel_rfl) (by kernel_rfl) (by kernel_rfl) (fun _ _ _ h => h) (Or.inl ⟨by rfl, ?_⟩) (by assumption) ?_
            case refine_2 => (intro _ _; go_simp; all_goals with_reducible rfl)
            simp only [Act.put, List.setIfInBounds_toArray, List.set_cons_zero, List.set_cons_succ]
            refine take_l (i := 11) (v := ?_) rfl (by kernel_rfl) (by kernel_rfl) (by kernel_rfl) (fun _ _ _ h => h) (Or.inl ⟨by rfl, ?_⟩) (by assumption) ?_
            case refine_2 => (intro _ _; go_simp; all_goals with_reducible rfl)
            simp only [Act.put, List.setIfInBounds_toArray, List.set_cons_zero, List.set_cons_succ]
            refine wpAnyH_ready (rs := [12]) (by kernel_rfl) (by simp) ?_
            refine cons_l rfl (fun K hK => ?_) AllReadyH.nil
            go_simp
            go_wp2_with fail
            clear c0 f0
            generalize u9.setCell ⟨C, 0, none⟩ (.slice (some ⟨m2, 0, none⟩) q2 c2) = u10 at *
            refine hK.out _ _ trivial (fun hHeld => ?_)
            clear hK K
            simp only [Act.put, List.setIfInBounds_toArray, List.set_cons_zero, List.set_cons_succ]
            refine wpAnyH_done (by kernel_rfl) ?_ _
            go_wp2_with fail
            go_roundg (n - (k + 1))
            case measure => have h1 := HHk.out; omega
            case rel => exact ⟨k + 1, _, by omega, rfl, HP.out, HQ.out⟩
      · obtain rfl : k = n := by omega
        rw [show L - 4 * k = 0 by have := HL.out; omega] at hrb
        have hl0 := left_any g ra 0 rc 0 wr hrb
        rw [show ((0 : Nat) : Int) = 0 from rfl] at hl0
        have Hl0 := Lib.hid hl0
        clear hl0 hrb HR
        go_wp2_with fail
        refine Hl0.out.mono ?_
        rintro e w' ⟨rfl, rfl⟩
        clear Hl0
        have hown := HN.out.own
        rw [words_len] at hown
        obtain ⟨m0, c0, hv0, _, _⟩ := World.ownsRow.form hown (by omega)
        subst hv0
        have cw : wr.cell? ⟨C, 0, none⟩ = some (.slice (some ⟨m0, 0, none⟩) k c0) := HN.out.c.at 0 _ rfl
        obtain ⟨R, hR⟩ : ∃ R, R = k + 6 := ⟨_, rfl⟩
        rw [← hR] at HN
        have HR := Lib.hid hR
        have hR14 : R ≤ 14 := by omega
        clear hown hR hk
        obtain ⟨wb, rfl⟩ : ∃ q : World, q = wr := ⟨_, rfl⟩
        go_wp2_with fail
        clear cw
        go_loopw [7, 8] (fun mr i wr => ∃ (d : Nat) (v : Value), d ≤ 4 * (k + 7) - k ∧ i = .int .i64 ((k + d : Nat) : Int) ∧ mr = .int .u8 ((gpow 2 ((k + d - 1) / k) : Nat) : Int) ∧ NewAt w C x B0 R (grow k d (words key k)) v wr) (fun _ i _ => 4 * (k + 7) - (intOf i).toNat)
        case atStart => exact ⟨0, _, by omega, rfl, by rw [Nat.add_zero, Nat.div_eq_of_lt (by omega)]; rfl, HN.out⟩
        case round =>
          clear HN
          obtain ⟨d, v, hd, rfl, rfl, hN⟩ := hrel
          have HN := Lib.hid hN
          have hWl : (grow k d (words key k)).length = k + d := by rw [grow_len, words_len]
          have hWs := grow_small k d (words key k) (words_small Hkx.out k)
          have HWn := Lib.hid (grow_succ k d (words key k))
          obtain ⟨W, hW⟩ : ∃ W, grow k d (words key k) = W := ⟨_, rfl⟩
          rw [hW] at HN hWl hWs HWn
          obtain ⟨j, hj⟩ : ∃ j, j = k + d := ⟨_, rfl⟩
          rw [← hj] at hWl ⊢
          have hown := hN.own
          rw [hW, hWl] at hown
          obtain ⟨m, c, hv, _, _⟩ := World.ownsRow.form hown (by omega)
          subst hv
          have HWs := Lib.hid hWs
          have HWl := Lib.hid hWl
          have HW := Lib.hid hW
          have HO := Lib.hid hown
          obtain ⟨p, hp⟩ : ∃ p, j = p + 1 := ⟨j - 1, by omega⟩
          have hjp : (j : Int) - 1 = (p : Int) := by omega
          have hpj : (p : Int) < (j : Int) := by omega
          obtain ⟨q, hq'⟩ : ∃ q, j = q + k := ⟨j - k, by omega⟩
          have hjq : (j : Int) - (k : Int) = (q : Int) := by omega
          have hqj : (q : Int) < (j : Int) := by omega
          have c1 : wr.cell? ⟨C, 1, none⟩ = some (.int .i64 (R : Int)) := HN.out.c.at 1 _ rfl
          have Hj := Lib.hid (And.intro hj (And.intro hp (And.intro hq' hd)))
          obtain ⟨e, he⟩ : ∃ e, e = gpow 2 ((j - 1) / k) := ⟨_, rfl⟩
          have he8 : e < 256 := by rw [he]; exact gpow_lt _ _
          rw [← he]
          have He := Lib.hid he
          have hj60 : j ≤ 60 := by omega
          by_cases hlt : j < 4 * (k + 7)
          · have hji : (j : Int) < 4 * ((R : Int) + 1) := by have := HR.out; omega
            have Hlt := Lib.hid hlt
            clear hN hWl hWs hW hj hown hp hq' hd he hlt
            obtain ⟨t, ht⟩ : ∃ t, W.getD p 0 = t := ⟨_, rfl⟩
            have ht32 : t < 4294967296 := by rw [← ht]; exact HWs.out.getD p
            have Ht := Lib.hid ht
            have c0 : wr.cell? ⟨C, 0, none⟩ = some (.slice (some ⟨m, 0, none⟩) j c) := HN.out.c.at 0 _ rfl
            have cp : wr.cell? ⟨m, p, none⟩ = some (.int .u32 (t : Int)) := by rw [← ht]; exact own_at HO.out HWl.out p (by omega)
            clear ht
            obtain ⟨Mr, hM⟩ : ∃ Mr, Mr = gpow 2 (j / k) := ⟨_, rfl⟩
            obtain ⟨T, hT⟩ : ∃ T, T = turnOf k j t := ⟨_, rfl⟩
            have hM8 : Mr < 256 := by rw [hM]; exact gpow_lt _ _
            have hT32 : T < 4294967296 := by rw [hT]; exact turnOf_lt _ _ _ ht32
            have HM := Lib.hid hM
            have HT := Lib.hid hT
            obtain ⟨r, hr⟩ : ∃ r, r = j % k := ⟨_, rfl⟩
            have em : (j : Int) % (k : Int) = (r : Int) := by rw [hr]; simp
            have Hr := Lib.hid hr
            clear hM hT hr
            go_upto_block 4 with fail
            clear c0 c1 cp hpj hjp
            go_cut [7, 9] (fun m7 t9 wx => m7 = .int .u8 (Mr : Int) ∧ t9 = .int .u32 (T : Int) ∧ wx = wr)
            case first =>
              by_cases hr0 : r = 0
              · have hb : ((r : Int) == 0) = true := by rw [hr0]; rfl
                have hdv : (j - 1) / k = j / k - 1 ∧ j / k = (j - 1) / k + 1 := by
                  have h1 := Hr.out
                  have h2 := Nat.div_add_mod j k
                  rw [← h1, hr0, Nat.add_zero] at h2
                  have h3 := Nat.div_add_mod (j - 1) k
                  have h4 := Nat.mod_lt (j - 1) (show 0 < k by omega)
                  have hj1 : 1 ≤ j := by have := Hj.out; omega
                  generalize j / k = A at *
                  generalize (j - 1) / k = B at *
                  generalize (j - 1) % k = D at *
                  rcases Nat.lt_or_ge B A with h | h
                  · rcases Nat.lt_or_ge (B + 1) A with h' | h'
                    · have := Nat.mul_le_mul_left k (show B + 1 + 1 ≤ A from h')
                      rw [Nat.mul_add, Nat.mul_add] at this
                      omega
                    · omega
                  · have := Nat.mul_le_mul_left k h
                    omega
                have HA := Lib.hid (show T = subW (rotW t) ^^^ (e * 16777216) by rw [HT.out, turnOf, if_pos (by rw [← Hr.out]; exact hr0), ← hdv.1, ← He.out])
                have HB := Lib.hid (show Mr = gm e 2 by
                  have h := gpow_add 2 ((j - 1) / k) 1 (by omega)
                  rw [gpow_one 2 (by omega), ← hdv.2, ← He.out, ← HM.out] at h
                  exact h.symm)
                have hs32 := subW_lt (rotW t)
                have hxx := u32_xor_nat (subW (rotW t)) (e * 16777216) hs32 (by omega)
                rw [← HA.out, show ((e * 16777216 : Nat) : Int) = (e : Int) * 16777216 by simp] at hxx
                have HRo := Lib.hid (rot_l8 t ht32 wr)
                have HBo := Lib.hid (aesBox_w C x (.slice (some ⟨m, 0, none⟩) j c) (.int .i64 (R : Int)) (rotW t) (rotW_lt t) wr HN.out.c HN.out.box)
                have hrl := rotW_lt t
                clear hr0 hdv HA
                generalize subW (rotW t) = s at *
                generalize rotW t = ro at *
                go_wp2_with fail
                refine HRo.out.mono ?_
                rintro e1 w' ⟨rfl, rfl⟩
                go_wp2_with fail
                refine HBo.out.mono ?_
                rintro e1 w' ⟨rfl, rfl⟩
                go_wp2_with fail
                refine (times_any e 2 he8 (by omega) wr).mono ?_
                rintro e1 w' ⟨rfl, rfl⟩
                rw [← HB.out]
                go_wp2_with fail
                go_meet
                exact ⟨rfl, rfl, rfl⟩
              · have hb : ((r : Int) == 0) = false := by rw [beq_eq_false_iff_ne]; omega
                have HB := Lib.hid (show Mr = e by
                  have hdv : j / k = (j - 1) / k := by
                    have h1 := Hr.out
                    have h2 := Nat.div_add_mod j k
                    rw [← h1] at h2
                    have hrk : r < k := by rw [h1]; exact Nat.mod_lt _ (by omega)
                    have hj1 : 1 ≤ j := by have := Hj.out; omega
                    rw [show j - 1 = (r - 1) + k * (j / k) by generalize k * (j / k) = Z at h2 ⊢; omega, Nat.add_mul_div_left _ _ (by omega), Nat.div_eq_of_lt (show r - 1 < k by omega), Nat.zero_add]
                  rw [HM.out, He.out, hdv])
                obtain ⟨r8, hr8⟩ : ∃ r8, r8 = j % 8 := ⟨_, rfl⟩
                have em8 : (j : Int) % 8 = (r8 : Int) := by omega
                by_cases h8 : k = 8
                · have hb8 : ((k : Int) == 8) = true := by rw [h8]; rfl
                  by_cases h4 : r8 = 4
                  · have hb4 : ((r8 : Int) == 4) = true := by rw [h4]; rfl
                    have HA := Lib.hid (show T = subW t by rw [HT.out, turnOf, if_neg (by rw [← Hr.out]; exact hr0), if_pos ⟨h8, by rw [← hr8]; exact h4⟩])
                    have HBo := Lib.hid (aesBox_w C x (.slice (some ⟨m, 0, none⟩) j c) (.int .i64 (R : Int)) t ht32 wr HN.out.c HN.out.box)
                    clear hr0 h8 h4 hr8
                    go_wp2_with fail
                    refine HBo.out.mono ?_
                    rintro e1 w' ⟨rfl, rfl⟩
                    rw [← HA.out]
                    go_wp2_with fail
                    go_meet
                    exact ⟨by rw [HB.out], rfl, rfl⟩
                  · have hb4 : ((r8 : Int) == 4) = false := by rw [beq_eq_false_iff_ne]; omega
                    have HA := Lib.hid (show T = t by rw [HT.out, turnOf, if_neg (by rw [← Hr.out]; exact hr0), if_neg (by rw [← hr8]; omega)])
                    clear hr0 h8 h4 hr8
                    go_wp2_with fail
                    go_meet
                    exact ⟨by rw [HB.out], by rw [HA.out], rfl⟩
                · have hb8 : ((k : Int) == 8) = false := by rw [beq_eq_false_iff_ne]; omega
                  have HA := Lib.hid (show T = t by rw [HT.out, turnOf, if_neg (by rw [← Hr.out]; exact hr0), if_neg (fun h => h8 h.1)])
                  clear hr0 h8 hr8
                  go_wp2_with fail
                  go_meet
                  exact ⟨by rw [HB.out], by rw [HA.out], rfl⟩
            case rest =>
              obtain ⟨rfl, rfl, hwc⟩ := hcut
              subst hwc
              obtain ⟨z, hz'⟩ : ∃ z, W.getD q 0 = z := ⟨_, rfl⟩
              have hz32 : z < 4294967296 := by rw [← hz']; exact HWs.out.getD q
              have hxz := u32_xor_nat z T hz32 hT32
              obtain ⟨y, hy⟩ : ∃ y, y = z ^^^ T := ⟨_, rfl⟩
              rw [← hy] at hxz
              have HYe := Lib.hid (show nextW k W = y by
                have h1 := Hj.out
                rw [nextW, HWl.out, show j - k = q by omega, show j - 1 = p by omega, hz', Ht.out, ← HT.out, hy])
              have hd0 := nu_drew (nu_refl wc)
              have HN0 := Lib.hid (HN.out.under hd0)
              have HO0 := Lib.hid (own_kept HO.out hd0)
              clear hd0 HN HO em Hr
              go_upto_region 17 with fail
              have hqw : IntKind.i64.wrap (q : Int) = (q : Int) := by rw [IntKind.wrap_i64]; omega
              refine wp_region_held_drew (S := fun _ => True) (by kernel_rfl) (trivial) (fun hHeld => ?_)
              dsimp only [Array.replicate, List.replicate, List.size_toArray, List.length_cons, List.length_nil, Nat.reduceAdd] at hHeld ⊢
              generalize wc.drew = u0 at *
              have d0 : u0.cell? ⟨C, 0, none⟩ = some (.slice (some ⟨m, 0, none⟩) j c) := HN0.out.c.at 0 _ rfl
              have dq : u0.cell? ⟨m, q, none⟩ = some (.int .u32 (z : Int)) := by rw [← hz']; exact own_at HO0.out HWl.out q (by have := Hj.out; omega)
              clear hz' hy
              refine take_l (i := 0) (v := ?_) rfl (by kernel_rfl) (by kernel_rfl) (by kernel_rfl) (fun _ _ _ h => h) (Or.inl ⟨by rfl, ?_⟩) (by assumption) ?_
              case refine_2 => (intro _ _; go_simp; all_goals with_reducible rfl)
              simp only [Act.put, List.setIfInBounds_toArray, List.set_cons_zero, List.set_cons_succ]
              refine take_l (i := 1) (v := ?_) rfl (by kernel_rfl) (by kernel_rfl) (by kernel_rfl) (fun _ _ _ h => h) (Or.inl ⟨by rfl, ?_⟩) (by assumption) ?_
              case refine_2 => (intro _ _; go_simp; all_goals with_reducible rfl)
              simp only [Act.put, List.setIfInBounds_toArray, List.set_cons_zero, List.set_cons_succ]
              refine take_l (i := 2) (v := ?_) rfl (by kernel_rfl) (by kernel_rfl) (by kernel_rfl) (fun _ _ _ h => h) (Or.inl ⟨by rfl, ?_⟩) (by assumption) ?_
              case refine_2 => (intro _ _; go_simp; all_goals with_reducible rfl)
              simp only [Act.put, List.setIfInBounds_toArray, List.set_cons_zero, List.set_cons_succ]
              refine take_l (i := 3) (v := ?_) rfl (by kernel_rfl) (by kernel_rfl) (by kernel_rfl) (fun _ _ _ h => h) (Or.inl ⟨by rfl, ?_⟩) (by assumption) ?_
              case refine_2 => (intro _ _; go_simp; all_goals with_reducible rfl)
              simp only [Act.put, List.setIfInBounds_toArray, List.set_cons_zero, List.set_cons_succ]
              refine take_l (i := 5) (v := ?_) rfl (by kernel_rfl) (by kernel_rfl) (by kernel_rfl) (fun _ _ _ h => h) (Or.inl ⟨by rfl, ?_⟩) (by assumption) ?_
              case refine_2 => (intro _ _; go_simp; all_goals with_reducible rfl)
              simp only [Act.put, List.setIfInBounds_toArray, List.set_cons_zero, List.set_cons_succ]
              refine take_l (i := 6) (v := ?_) rfl (by kernel_rfl) (by kernel_rfl) (by kernel_rfl) (fun _ _ _ h => h) (Or.inl ⟨by rfl, ?_⟩) (by assumption) ?_
              case refine_2 => (intro _ _; go_simp; all_goals with_reducible rfl)
              simp only [Act.put, List.setIfInBounds_toArray, List.set_cons_zero, List.set_cons_succ]
              refine take_l (i := 7) (v := ?_) rfl (by kernel_rfl) (by kernel_rfl) (by kernel_rfl) (fun _ _ _ h => h) (Or.inl ⟨by rfl, ?_⟩) (by assumption) ?_
              case refine_2 => (intro _ _; go_simp; all_goals with_reducible rfl)
              simp only [Act.put, List.setIfInBounds_toArray, List.set_cons_zero, List.set_cons_succ]
              refine take_l (i := 9) (v := ?_) rfl (by kernel_rfl) (by kernel_rfl) (by kernel_rfl) (fun _ _ _ h => h) (Or.inl ⟨by rfl, ?_⟩) (by assumption) ?_
              case refine_2 => (intro _ _; go_simp; all_goals with_reducible rfl)
              simp only [Act.put, List.setIfInBounds_toArray, List.set_cons_zero, List.set_cons_succ]
              refine take_l (i := 10) (v := ?_) rfl (by kernel_rfl) (by kernel_rfl) (by kernel_rfl) (fun _ _ _ h => h) (Or.inl ⟨by rfl, ?_⟩) (by assumption) ?_
              case refine_2 => (intro _ _; go_simp; all_goals with_reducible rfl)
              simp only [Act.put, List.setIfInBounds_toArray, List.set_cons_zero, List.set_cons_succ]
              refine take_l (i := 11) (v := ?_) rfl (by kernel_rfl) (by kernel_rfl) (by kernel_rfl) (fun _ _ _ h => h) (Or.inl ⟨by rfl, ?_⟩) (by assumption) ?_
              case refine_2 => (intro _ _; go_simp; all_goals with_reducible rfl)
              simp only [Act.put, List.setIfInBounds_toArray, List.set_cons_zero, List.set_cons_succ]
              refine take_l (i := 14) (v := ?_) rfl (by kernel_rfl) (by kernel_rfl) (by kernel_rfl) (fun _ _ _ h => h) (Or.inl ⟨by rfl, ?_⟩) (by assumption) ?_
              case refine_2 => (intro _ _; go_simp; all_goals with_reducible rfl)
              simp only [Act.put, List.setIfInBounds_toArray, List.set_cons_zero, List.set_cons_succ]
              refine wpAnyH_ready (rs := [4, 8]) (by kernel_rfl) (by simp) ?_
              refine cons_l rfl (fun K hK => ?_) (cons_l rfl (fun K hK => ?_) AllReadyH.nil)
              · go_simp
                go_wp2_with fail
                refine hK.out _ _ trivial (fun hHeld => ?_)
                clear hK K
                simp only [Act.put, List.setIfInBounds_toArray, List.set_cons_zero, List.set_cons_succ]
                refine wpAnyH_ready (rs := [8]) (by kernel_rfl) (by simp) ?_
                refine cons_l rfl (fun K hK => ?_) AllReadyH.nil
                go_simp
                go_wp2_with fail
                refine hK.out _ _ trivial (fun hHeld => ?_)
                clear hK K
                simp only [Act.put, List.setIfInBounds_toArray, List.set_cons_zero, List.set_cons_succ]
                refine take_l (i := 12) (v := ?_) rfl (by kernel_rfl) (by kernel_rfl) (by kernel_rfl) (fun _ _ _ h => h) (Or.inl ⟨by rfl, ?_⟩) (by assumption) ?_
                case refine_2 => (intro _ _; go_simp; all_goals with_reducible rfl)
                simp only [Act.put, List.setIfInBounds_toArray, List.set_cons_zero, List.set_cons_succ]
                refine wpAnyH_ready (rs := [13]) (by kernel_rfl) (by simp) ?_
                refine cons_l rfl (fun K hK => ?_) AllReadyH.nil
                go_simp
                go_wp2_with fail
                refine hK.out _ _ trivial (fun hHeld => ?_)
                clear hK K
                simp only [Act.put, List.setIfInBounds_toArray, List.set_cons_zero, List.set_cons_succ]
                refine take_l (i := 15) (v := ?_) rfl (by kernel_rfl) (by kernel_rfl) (by kernel_rfl) (fun _ _ _ h => h) (Or.inl ⟨by rfl, ?_⟩) (by assumption) ?_
                case refine_2 => (intro _ _; go_simp; all_goals with_reducible rfl)
                simp only [Act.put, List.setIfInBounds_toArray, List.set_cons_zero, List.set_cons_succ]
                refine wpAnyH_ready (rs := [16]) (by kernel_rfl) (by simp) ?_
                refine cons_l rfl (fun K hK => ?_) AllReadyH.nil
                have hal := nu_alloc (nu_refl u0) (.cells #[.int .u32 (y : Int)] 52)
                have HY := Lib.hid (Blk.made u0 52 #[.int .u32 (y : Int)])
                have HN1 := Lib.hid (HN0.out.under hal)
                clear hal HN0 d0 dq
                go_simp
                go_wp2_with fail
                generalize u0.heap.size = jj at *
                generalize u0.alloc (.cells #[.int .u32 (y : Int)] 52) = u1 at *
                have d0 : u1.cell? ⟨C, 0, none⟩ = some (.slice (some ⟨m, 0, none⟩) j c) := HN1.out.c.at 0 _ rfl
                refine hK.out _ _ trivial (fun hHeld => ?_)
                clear hK K
                simp only [Act.put, List.setIfInBounds_toArray, List.set_cons_zero, List.set_cons_succ]
                refine wpAnyH_ready (rs := [17]) (by kernel_rfl) (by simp) ?_
                refine cons_l rfl (fun K hK => ?_) AllReadyH.nil
                refine step_append_own rfl (.tmp 96) (.tmp 108) 49 rfl B0 52 i0 (.int .u32 0) 1 4 Try.underlying49 Hi.out.1 Hi.out.2.1 Hi.out.2.2.1 Hi.out.2.2.2 rfl (by decide) (.slice (some ⟨m, 0, none⟩) j c) W.length (W.map uv) rfl HN1.out.own (some ⟨jj, 0, none⟩) 1 1 [uv y] rfl (fun h => by cases h) rfl (fun ad had i q hq => by injection had with had; subst had; rw [Addr.add_lit, Nat.zero_add]; exact HY.out.at i q (by simpa [uv] using hq)) (fun q hq => by rw [List.mem_singleton.1 hq]; rfl) (by rw [HWl.out]; unfold maxLen; omega) (by rw [HWl.out]; omega) HN1.out.base ?_
                intro v2 u9 hown hgr _
                obtain ⟨m2, q2, c2, hv2⟩ := own_slice hown (by omega)
                subst hv2
                obtain ⟨hP1, hP2, _⟩ := HN1.out.push hown hgr
                have HP := Lib.hid (show NewAt w C x B0 R (grow k (d + 1) (words key k)) (.slice (some ⟨m2, 0, none⟩) q2 c2) _ from by rw [HWn.out, HYe.out]; exact hP1)
                have f9 := hP2.free 0
                have c9 : u9.cell? ⟨C, 0, none⟩ = some (.slice (some ⟨m, 0, none⟩) j c) := hP2.at 0 _ rfl
                clear d0 hown hgr hP1 hP2 HN1 HY
                refine hK.out _ _ trivial (fun hHeld => ?_)
                clear hK K
                simp only [Act.put, List.setIfInBounds_toArray, List.set_cons_zero, List.set_cons_succ]
                refine take_l (i := 18) (v := ?_) rfl (by kernel_rfl) (by kernel_rfl) (by kernel_rfl) (fun _ _ _ h => h) (Or.inl ⟨by rfl, ?_⟩) (by assumption) ?_
                case refine_2 => (intro _ _; go_simp; all_goals with_reducible rfl)
                simp only [Act.put, List.setIfInBounds_toArray, List.set_cons_zero, List.set_cons_succ]
                refine take_l (i := 19) (v := ?_) rfl (by kernel_rfl) (by kernel_rfl) (by kernel_rfl) (fun _ _ _ h => h) (Or.inl ⟨by rfl, ?_⟩) (by assumption) ?_
                case refine_2 => (intro _ _; go_simp; all_goals with_reducible rfl)
                simp only [Act.put, List.setIfInBounds_toArray, List.set_cons_zero, List.set_cons_succ]
                refine wpAnyH_ready (rs := [20]) (by kernel_rfl) (by simp) ?_
                refine cons_l rfl (fun K hK => ?_) AllReadyH.nil
                go_simp
                go_wp2_with fail
                clear c9 f9
                generalize u9.setCell ⟨C, 0, none⟩ (.slice (some ⟨m2, 0, none⟩) q2 c2) = u10 at *
                refine hK.out _ _ trivial (fun hHeld => ?_)
                clear hK K
                simp only [Act.put, List.setIfInBounds_toArray, List.set_cons_zero, List.set_cons_succ]
                refine wpAnyH_done (by kernel_rfl) ?_ _
                go_wp2_with fail
                go_roundw
                case rel =>
                  have hR : ∃ (d' : Nat) (v : Value), d' ≤ 4 * (k + 7) - k ∧ Value.int .i64 ((j : Int) + 1) = .int .i64 ((k + d' : Nat) : Int) ∧ Value.int .u8 (Mr : Int) = .int .u8 ((gpow 2 ((k + d' - 1) / k) : Nat) : Int) ∧ NewAt w C x B0 R (grow k d' (words key k)) v u10 :=
                    ⟨d + 1, _, by have := Hj.out; have := Hlt.out; omega, by rw [show ((k + (d + 1) : Nat) : Int) = (j : Int) + 1 by have := Hj.out.1; omega], by rw [HM.out, show k + (d + 1) - 1 = j by have := Hj.out.1; omega], HP.out⟩
                  first | exact hR | ((repeat apply Exists.intro); exact ⟨hR, rfl⟩)
                case measure => have := Hlt.out; simp [intOf]; omega
              · go_simp
                go_wp2_with fail
                refine hK.out _ _ trivial (fun hHeld => ?_)
                clear hK K
                simp only [Act.put, List.setIfInBounds_toArray, List.set_cons_zero, List.set_cons_succ]
                refine take_l (i := 12) (v := ?_) rfl (by kernel_rfl) (by kernel_rfl) (by kernel_rfl) (fun _ _ _ h => h) (Or.inl ⟨by rfl, ?_⟩) (by assumption) ?_
                case refine_2 => (intro _ _; go_simp; all_goals with_reducible rfl)
                simp only [Act.put, List.setIfInBounds_toArray, List.set_cons_zero, List.set_cons_succ]
                refine wpAnyH_ready (rs := [4, 13]) (by kernel_rfl) (by simp) ?_
                refine cons_l rfl (fun K hK => ?_) (cons_l rfl (fun K hK => ?_) AllReadyH.nil)
                · go_simp
                  go_wp2_with fail
                  refine hK.out _ _ trivial (fun hHeld => ?_)
                  clear hK K
                  simp only [Act.put, List.setIfInBounds_toArray, List.set_cons_zero, List.set_cons_succ]
                  refine wpAnyH_ready (rs := [13]) (by kernel_rfl) (by simp) ?_
                  refine cons_l rfl (fun K hK => ?_) AllReadyH.nil
                  go_simp
                  go_wp2_with fail
                  refine hK.out _ _ trivial (fun hHeld => ?_)
                  clear hK K
                  simp only [Act.put, List.setIfInBounds_toArray, List.set_cons_zero, List.set_cons_succ]
                  refine take_l (i := 15) (v := ?_) rfl (by kernel_rfl) (by kernel_rfl) (by kernel_rfl) (fun _ _ _ h => h) (Or.inl ⟨by rfl, ?_⟩) (by assumption) ?_
                  case refine_2 => (intro _ _; go_simp; all_goals with_reducible rfl)
                  simp only [Act.put, List.setIfInBounds_toArray, List.set_cons_zero, List.set_cons_succ]
                  refine wpAnyH_ready (rs := [16]) (by kernel_rfl) (by simp) ?_
                  refine cons_l rfl (fun K hK => ?_) AllReadyH.nil
                  have hal := nu_alloc (nu_refl u0) (.cells #[.int .u32 (y : Int)] 52)
                  have HY := Lib.hid (Blk.made u0 52 #[.int .u32 (y : Int)])
                  have HN1 := Lib.hid (HN0.out.under hal)
                  clear hal HN0 d0 dq
                  go_simp
                  go_wp2_with fail
                  generalize u0.heap.size = jj at *
                  generalize u0.alloc (.cells #[.int .u32 (y : Int)] 52) = u1 at *
                  have d0 : u1.cell? ⟨C, 0, none⟩ = some (.slice (some ⟨m, 0, none⟩) j c) := HN1.out.c.at 0 _ rfl
                  refine hK.out _ _ trivial (fun hHeld => ?_)
                  clear hK K
                  simp only [Act.put, List.setIfInBounds_toArray, List.set_cons_zero, List.set_cons_succ]
                  refine wpAnyH_ready (rs := [17]) (by kernel_rfl) (by simp) ?_
                  refine cons_l rfl (fun K hK => ?_) AllReadyH.nil
                  refine step_append_own rfl (.tmp 96) (.tmp 108) 49 rfl B0 52 i0 (.int .u32 0) 1 4 Try.underlying49 Hi.out.1 Hi.out.2.1 Hi.out.2.2.1 Hi.out.2.2.2 rfl (by decide) (.slice (some ⟨m, 0, none⟩) j c) W.length (W.map uv) rfl HN1.out.own (some ⟨jj, 0, none⟩) 1 1 [uv y] rfl (fun h => by cases h) rfl (fun ad had i q hq => by injection had with had; subst had; rw [Addr.add_lit, Nat.zero_add]; exact HY.out.at i q (by simpa [uv] using hq)) (fun q hq => by rw [List.mem_singleton.1 hq]; rfl) (by rw [HWl.out]; unfold maxLen; omega) (by rw [HWl.out]; omega) HN1.out.base ?_
                  intro v2 u9 hown hgr _
                  obtain ⟨m2, q2, c2, hv2⟩ := own_slice hown (by omega)
                  subst hv2
                  obtain ⟨hP1, hP2, _⟩ := HN1.out.push hown hgr
                  have HP := Lib.hid (show NewAt w C x B0 R (grow k (d + 1) (words key k)) (.slice (some ⟨m2, 0, none⟩) q2 c2) _ from by rw [HWn.out, HYe.out]; exact hP1)
                  have f9 := hP2.free 0
                  have c9 : u9.cell? ⟨C, 0, none⟩ = some (.slice (some ⟨m, 0, none⟩) j c) := hP2.at 0 _ rfl
                  clear d0 hown hgr hP1 hP2 HN1 HY
                  refine hK.out _ _ trivial (fun hHeld => ?_)
                  clear hK K
                  simp only [Act.put, List.setIfInBounds_toArray, List.set_cons_zero, List.set_cons_succ]
                  refine take_l (i := 18) (v := ?_) rfl (by kernel_rfl) (by kernel_rfl) (by kernel_rfl) (fun _ _ _ h => h) (Or.inl ⟨by rfl, ?_⟩) (by assumption) ?_
                  case refine_2 => (intro _ _; go_simp; all_goals with_reducible rfl)
                  simp only [Act.put, List.setIfInBounds_toArray, List.set_cons_zero, List.set_cons_succ]
                  refine take_l (i := 19) (v := ?_) rfl (by kernel_rfl) (by kernel_rfl) (by kernel_rfl) (fun _ _ _ h => h) (Or.inl ⟨by rfl, ?_⟩) (by assumption) ?_
                  case refine_2 => (intro _ _; go_simp; all_goals with_reducible rfl)
                  simp only [Act.put, List.setIfInBounds_toArray, List.set_cons_zero, List.set_cons_succ]
                  refine wpAnyH_ready (rs := [20]) (by kernel_rfl) (by simp) ?_
                  refine cons_l rfl (fun K hK => ?_) AllReadyH.nil
                  go_simp
                  go_wp2_with fail
                  clear c9 f9
                  generalize u9.setCell ⟨C, 0, none⟩ (.slice (some ⟨m2, 0, none⟩) q2 c2) = u10 at *
                  refine hK.out _ _ trivial (fun hHeld => ?_)
                  clear hK K
                  simp only [Act.put, List.setIfInBounds_toArray, List.set_cons_zero, List.set_cons_succ]
                  refine wpAnyH_done (by kernel_rfl) ?_ _
                  go_wp2_with fail
                  go_roundw
                  case rel =>
                    have hR : ∃ (d' : Nat) (v : Value), d' ≤ 4 * (k + 7) - k ∧ Value.int .i64 ((j : Int) + 1) = .int .i64 ((k + d' : Nat) : Int) ∧ Value.int .u8 (Mr : Int) = .int .u8 ((gpow 2 ((k + d' - 1) / k) : Nat) : Int) ∧ NewAt w C x B0 R (grow k d' (words key k)) v u10 :=
                      ⟨d + 1, _, by have := Hj.out; have := Hlt.out; omega, by rw [show ((k + (d + 1) : Nat) : Int) = (j : Int) + 1 by have := Hj.out.1; omega], by rw [HM.out, show k + (d + 1) - 1 = j by have := Hj.out.1; omega], HP.out⟩
                    first | exact hR | ((repeat apply Exists.intro); exact ⟨hR, rfl⟩)
                  case measure => have := Hlt.out; simp [intOf]; omega
                · go_simp
                  go_wp2_with fail
                  refine hK.out _ _ trivial (fun hHeld => ?_)
                  clear hK K
                  simp only [Act.put, List.setIfInBounds_toArray, List.set_cons_zero, List.set_cons_succ]
                  refine take_l (i := 15) (v := ?_) rfl (by kernel_rfl) (by kernel_rfl) (by kernel_rfl) (fun _ _ _ h => h) (Or.inl ⟨by rfl, ?_⟩) (by assumption) ?_
                  case refine_2 => (intro _ _; go_simp; all_goals with_reducible rfl)
                  simp only [Act.put, List.setIfInBounds_toArray, List.set_cons_zero, List.set_cons_succ]
                  refine wpAnyH_ready (rs := [4, 16]) (by kernel_rfl) (by simp) ?_
                  refine cons_l rfl (fun K hK => ?_) (cons_l rfl (fun K hK => ?_) AllReadyH.nil)
                  · go_simp
                    go_wp2_with fail
                    refine hK.out _ _ trivial (fun hHeld => ?_)
                    clear hK K
                    simp only [Act.put, List.setIfInBounds_toArray, List.set_cons_zero, List.set_cons_succ]
                    refine wpAnyH_ready (rs := [16]) (by kernel_rfl) (by simp) ?_
                    refine cons_l rfl (fun K hK => ?_) AllReadyH.nil
                    have hal := nu_alloc (nu_refl u0) (.cells #[.int .u32 (y : Int)] 52)
                    have HY := Lib.hid (Blk.made u0 52 #[.int .u32 (y : Int)])
                    have HN1 := Lib.hid (HN0.out.under hal)
                    clear hal HN0 d0 dq
                    go_simp
                    go_wp2_with fail
                    generalize u0.heap.size = jj at *
                    generalize u0.alloc (.cells #[.int .u32 (y : Int)] 52) = u1 at *
                    have d0 : u1.cell? ⟨C, 0, none⟩ = some (.slice (some ⟨m, 0, none⟩) j c) := HN1.out.c.at 0 _ rfl
                    refine hK.out _ _ trivial (fun hHeld => ?_)
                    clear hK K
                    simp only [Act.put, List.setIfInBounds_toArray, List.set_cons_zero, List.set_cons_succ]
                    refine wpAnyH_ready (rs := [17]) (by kernel_rfl) (by simp) ?_
                    refine cons_l rfl (fun K hK => ?_) AllReadyH.nil
                    refine step_append_own rfl (.tmp 96) (.tmp 108) 49 rfl B0 52 i0 (.int .u32 0) 1 4 Try.underlying49 Hi.out.1 Hi.out.2.1 Hi.out.2.2.1 Hi.out.2.2.2 rfl (by decide) (.slice (some ⟨m, 0, none⟩) j c) W.length (W.map uv) rfl HN1.out.own (some ⟨jj, 0, none⟩) 1 1 [uv y] rfl (fun h => by cases h) rfl (fun ad had i q hq => by injection had with had; subst had; rw [Addr.add_lit, Nat.zero_add]; exact HY.out.at i q (by simpa [uv] using hq)) (fun q hq => by rw [List.mem_singleton.1 hq]; rfl) (by rw [HWl.out]; unfold maxLen; omega) (by rw [HWl.out]; omega) HN1.out.base ?_
                    intro v2 u9 hown hgr _
                    obtain ⟨m2, q2, c2, hv2⟩ := own_slice hown (by omega)
                    subst hv2
                    obtain ⟨hP1, hP2, _⟩ := HN1.out.push hown hgr
                    have HP := Lib.hid (show NewAt w C x B0 R (grow k (d + 1) (words key k)) (.slice (some ⟨m2, 0, none⟩) q2 c2) _ from by rw [HWn.out, HYe.out]; exact hP1)
                    have f9 := hP2.free 0
                    have c9 : u9.cell? ⟨C, 0, none⟩ = some (.slice (some ⟨m, 0, none⟩) j c) := hP2.at 0 _ rfl
                    clear d0 hown hgr hP1 hP2 HN1 HY
                    refine hK.out _ _ trivial (fun hHeld => ?_)
                    clear hK K
                    simp only [Act.put, List.setIfInBounds_toArray, List.set_cons_zero, List.set_cons_succ]
                    refine take_l (i := 18) (v := ?_) rfl (by kernel_rfl) (by kernel_rfl) (by kernel_rfl) (fun _ _ _ h => h) (Or.inl ⟨by rfl, ?_⟩) (by assumption) ?_
                    case refine_2 => (intro _ _; go_simp; all_goals with_reducible rfl)
                    simp only [Act.put, List.setIfInBounds_toArray, List.set_cons_zero, List.set_cons_succ]
                    refine take_l (i := 19) (v := ?_) rfl (by kernel_rfl) (by kernel_rfl) (by kernel_rfl) (fun _ _ _ h => h) (Or.inl ⟨by rfl, ?_⟩) (by assumption) ?_
                    case refine_2 => (intro _ _; go_simp; all_goals with_reducible rfl)
                    simp only [Act.put, List.setIfInBounds_toArray, List.set_cons_zero, List.set_cons_succ]
                    refine wpAnyH_ready (rs := [20]) (by kernel_rfl) (by simp) ?_
                    refine cons_l rfl (fun K hK => ?_) AllReadyH.nil
                    go_simp
                    go_wp2_with fail
                    clear c9 f9
                    generalize u9.setCell ⟨C, 0, none⟩ (.slice (some ⟨m2, 0, none⟩) q2 c2) = u10 at *
                    refine hK.out _ _ trivial (fun hHeld => ?_)
                    clear hK K
                    simp only [Act.put, List.setIfInBounds_toArray, List.set_cons_zero, List.set_cons_succ]
                    refine wpAnyH_done (by kernel_rfl) ?_ _
                    go_wp2_with fail
                    go_roundw
                    case rel =>
                      have hR : ∃ (d' : Nat) (v : Value), d' ≤ 4 * (k + 7) - k ∧ Value.int .i64 ((j : Int) + 1) = .int .i64 ((k + d' : Nat) : Int) ∧ Value.int .u8 (Mr : Int) = .int .u8 ((gpow 2 ((k + d' - 1) / k) : Nat) : Int) ∧ NewAt w C x B0 R (grow k d' (words key k)) v u10 :=
                        ⟨d + 1, _, by have := Hj.out; have := Hlt.out; omega, by rw [show ((k + (d + 1) : Nat) : Int) = (j : Int) + 1 by have := Hj.out.1; omega], by rw [HM.out, show k + (d + 1) - 1 = j by have := Hj.out.1; omega], HP.out⟩
                      first | exact hR | ((repeat apply Exists.intro); exact ⟨hR, rfl⟩)
                    case measure => have := Hlt.out; simp [intOf]; omega
                  · have hal := nu_alloc (nu_refl u0) (.cells #[.int .u32 (y : Int)] 52)
                    have HY := Lib.hid (Blk.made u0 52 #[.int .u32 (y : Int)])
                    have HN1 := Lib.hid (HN0.out.under hal)
                    clear hal HN0 d0 dq
                    go_simp
                    go_wp2_with fail
                    generalize u0.heap.size = jj at *
                    generalize u0.alloc (.cells #[.int .u32 (y : Int)] 52) = u1 at *
                    have d0 : u1.cell? ⟨C, 0, none⟩ = some (.slice (some ⟨m, 0, none⟩) j c) := HN1.out.c.at 0 _ rfl
                    refine hK.out _ _ trivial (fun hHeld => ?_)
                    clear hK K
                    simp only [Act.put, List.setIfInBounds_toArray, List.set_cons_zero, List.set_cons_succ]
                    refine wpAnyH_ready (rs := [4]) (by kernel_rfl) (by simp) ?_
                    refine cons_l rfl (fun K hK => ?_) AllReadyH.nil
                    go_simp
                    go_wp2_with fail
                    refine hK.out _ _ trivial (fun hHeld => ?_)
                    clear hK K
                    simp only [Act.put, List.setIfInBounds_toArray, List.set_cons_zero, List.set_cons_succ]
                    refine wpAnyH_ready (rs := [17]) (by kernel_rfl) (by simp) ?_
                    refine cons_l rfl (fun K hK => ?_) AllReadyH.nil
                    refine step_append_own rfl (.tmp 96) (.tmp 108) 49 rfl B0 52 i0 (.int .u32 0) 1 4 Try.underlying49 Hi.out.1 Hi.out.2.1 Hi.out.2.2.1 Hi.out.2.2.2 rfl (by decide) (.slice (some ⟨m, 0, none⟩) j c) W.length (W.map uv) rfl HN1.out.own (some ⟨jj, 0, none⟩) 1 1 [uv y] rfl (fun h => by cases h) rfl (fun ad had i q hq => by injection had with had; subst had; rw [Addr.add_lit, Nat.zero_add]; exact HY.out.at i q (by simpa [uv] using hq)) (fun q hq => by rw [List.mem_singleton.1 hq]; rfl) (by rw [HWl.out]; unfold maxLen; omega) (by rw [HWl.out]; omega) HN1.out.base ?_
                    intro v2 u9 hown hgr _
                    obtain ⟨m2, q2, c2, hv2⟩ := own_slice hown (by omega)
                    subst hv2
                    obtain ⟨hP1, hP2, _⟩ := HN1.out.push hown hgr
                    have HP := Lib.hid (show NewAt w C x B0 R (grow k (d + 1) (words key k)) (.slice (some ⟨m2, 0, none⟩) q2 c2) _ from by rw [HWn.out, HYe.out]; exact hP1)
                    have f9 := hP2.free 0
                    have c9 : u9.cell? ⟨C, 0, none⟩ = some (.slice (some ⟨m, 0, none⟩) j c) := hP2.at 0 _ rfl
                    clear d0 hown hgr hP1 hP2 HN1 HY
                    refine hK.out _ _ trivial (fun hHeld => ?_)
                    clear hK K
                    simp only [Act.put, List.setIfInBounds_toArray, List.set_cons_zero, List.set_cons_succ]
                    refine take_l (i := 18) (v := ?_) rfl (by kernel_rfl) (by kernel_rfl) (by kernel_rfl) (fun _ _ _ h => h) (Or.inl ⟨by rfl, ?_⟩) (by assumption) ?_
                    case refine_2 => (intro _ _; go_simp; all_goals with_reducible rfl)
                    simp only [Act.put, List.setIfInBounds_toArray, List.set_cons_zero, List.set_cons_succ]
                    refine take_l (i := 19) (v := ?_) rfl (by kernel_rfl) (by kernel_rfl) (by kernel_rfl) (fun _ _ _ h => h) (Or.inl ⟨by rfl, ?_⟩) (by assumption) ?_
                    case refine_2 => (intro _ _; go_simp; all_goals with_reducible rfl)
                    simp only [Act.put, List.setIfInBounds_toArray, List.set_cons_zero, List.set_cons_succ]
                    refine wpAnyH_ready (rs := [20]) (by kernel_rfl) (by simp) ?_
                    refine cons_l rfl (fun K hK => ?_) AllReadyH.nil
                    go_simp
                    go_wp2_with fail
                    clear c9 f9
                    generalize u9.setCell ⟨C, 0, none⟩ (.slice (some ⟨m2, 0, none⟩) q2 c2) = u10 at *
                    refine hK.out _ _ trivial (fun hHeld => ?_)
                    clear hK K
                    simp only [Act.put, List.setIfInBounds_toArray, List.set_cons_zero, List.set_cons_succ]
                    refine wpAnyH_done (by kernel_rfl) ?_ _
                    go_wp2_with fail
                    go_roundw
                    case rel =>
                      have hR : ∃ (d' : Nat) (v : Value), d' ≤ 4 * (k + 7) - k ∧ Value.int .i64 ((j : Int) + 1) = .int .i64 ((k + d' : Nat) : Int) ∧ Value.int .u8 (Mr : Int) = .int .u8 ((gpow 2 ((k + d' - 1) / k) : Nat) : Int) ∧ NewAt w C x B0 R (grow k d' (words key k)) v u10 :=
                        ⟨d + 1, _, by have := Hj.out; have := Hlt.out; omega, by rw [show ((k + (d + 1) : Nat) : Int) = (j : Int) + 1 by have := Hj.out.1; omega], by rw [HM.out, show k + (d + 1) - 1 = j by have := Hj.out.1; omega], HP.out⟩
                      first | exact hR | ((repeat apply Exists.intro); exact ⟨hR, rfl⟩)
                    case measure => have := Hlt.out; simp [intOf]; omega
          · obtain rfl : d = 4 * (k + 7) - k := by have := Hj.out; omega
            have hji : ¬ (j : Int) < 4 * ((R : Int) + 1) := by have := HR.out; omega
            have HF := Lib.hid (show NewAt w C x B0 (k + 6) (expand key) (.slice (some ⟨m, 0, none⟩) j c) wr by
              have h := hN
              rw [HR.out] at h
              rw [expand, Hkl.out, show L / 4 = k by have := HL.out; omega]
              exact h)
            clear hN hWl hWs hW hj hown hp hq' hd he hlt HO HN HWn HW HWs HWl
            go_wp2_with fail
            go_ret2
            exact ⟨C, x, B0, _, rfl, HF.out⟩
end Go.Proofs.Ytnojbjconiddoaa
