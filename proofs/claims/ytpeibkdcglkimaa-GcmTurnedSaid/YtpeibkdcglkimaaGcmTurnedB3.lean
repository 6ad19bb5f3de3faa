/-
  What the proof of GcmTurned rests on, part 3 of 10.
-/
import Derived.Test.YtpeibkdcglkimaaGcmTurnedB2
namespace Go.Proofs.Ytpeibkdcglkimaa
open Go.ChangeShapes Go.WideShapes Go.ChangeAt Go.RowKit Fld Aes
set_option linter.unusedSimpArgs false

def uv (n : Nat) : Value := .int .u32 (n : Int)
theorem uv_one (l : List Nat) : ∀ u ∈ l.map uv, u.oneCell' = true := fun u hu => by
  obtain ⟨x, _, rfl⟩ := List.mem_map.1 hu
  rfl
theorem info_u32 : (Try.prog.info? 71).map (fun i => (i.zero, i.size, i.bytes)) = some (some (.int .u32 0), 1, 4) := by kernel_rfl
theorem own_kept {w w' : World} {base : Nat} {e : TypeId} {size : Nat} {v : Value} {n : Nat} {xs : List Value} (h : w.ownsRow base e size v n xs) (hb : Below w.heap.size w w') : w'.ownsRow base e size v n xs :=
  h.kept (gb_of_below hb none) (by cases v.ownBlock <;> simp)
theorem own_off {w w' : World} {base k : Nat} {e : TypeId} {size : Nat} {v : Value} {n : Nat} {xs : List Value} (h : w.ownsRow base e size v n xs) (hb : w.grownBy w' (some k)) (hk : k < base) : w'.ownsRow base e size v n xs :=
  h.kept hb (by
    cases hv : v.ownBlock with
    | none => exact .inl rfl
    | some j =>
      refine .inr (fun e => ?_)
      injection e with e
      have := (h.lt j hv).1
      omega)
theorem own_slice {w : World} {base : Nat} {e : TypeId} {size : Nat} {v : Value} {n : Nat} {xs : List Value} (h : w.ownsRow base e size v n xs) (hn : 0 < n) : ∃ m q c, v = .slice (some ⟨m, 0, none⟩) q c := by
  rcases h.2 with ⟨_, h0⟩ | ⟨g, cap, cur, hv, _⟩
  · omega
  · exact ⟨g, n, cap, hv⟩
theorem own_at {w : World} {base m c n : Nat} {W : List Nat} (h : w.ownsRow base 71 1 (.slice (some ⟨m, 0, none⟩) n c) n (W.map uv)) (hl : W.length = n) (i : Nat) (hi : i < n) : w.cell? ⟨m, i, none⟩ = some (uv (W.getD i 0)) := by
  rw [h.cellAt i (by omega), List.getElem?_map, List.getD_eq_getElem?_getD, List.getElem?_eq_getElem (by omega)]
  rfl
theorem below_grown {w w' : World} {row : Option Nat} {B : Nat} (h : w.grownBy w' row) (hB : B ≤ w.heap.size) (hr : ∀ k, row = some k → B ≤ k) : Below B w w' :=
  ⟨h.os, h.tape, h.output, h.size, fun k hk => h.block k (by omega) (fun e => by have := hr k e.symm; omega)⟩
theorem BoxAt.below {w w' : World} {x B : Nat} (h : BoxAt w x) (hb : Below B w w') (hx : x < B) : BoxAt w' x := by
  obtain ⟨cs, h1, h2⟩ := h
  exact ⟨cs, h1.below hb hx, h2⟩
theorem BoxAt.off {w w' : World} {x k : Nat} (h : BoxAt w x) (hb : w.grownBy w' (some k)) (hx : x ≠ k) : BoxAt w' x := by
  obtain ⟨cs, h1, h2⟩ := h
  exact ⟨cs, h1.grown hb (fun e => by injection e; omega), h2⟩
theorem RdAt.under {w w' : World} {B g B0 : Nat} {xs : List Nat} {f : Int} (h : RdAt w B g xs f) (hb : Below B0 w w') (hg : g < B0) : RdAt w' B g xs f := by
  obtain ⟨a, cap, h1, h2, h3, h4, h5, h6⟩ := h
  refine ⟨a, cap, h1.below hb hg, ⟨⟨h2.1.1, h2.1.2.1, fun hp => ?_⟩, h2.2⟩, h3, h4, h5, h6⟩
  obtain ⟨b, off, rfl, hlt, hc⟩ := h2.1.2.2 hp
  have := (h6 hp _ rfl).2
  exact ⟨b, off, rfl, Nat.lt_of_lt_of_le hlt hb.size, fun j n hn => (hb.cell (p := ⟨b, off + j, none⟩) (by simp at this ⊢; omega)).trans (hc j n hn)⟩

abbrev ciph (v : Value) (R x : Nat) : Array Value := #[v, .int .i64 (R : Int), .pointer (some ⟨x, 0, none⟩)]
/-- A cipher that is being made: its block C, the words so far in a row of its own that lies from B0 on, the boxes at x. -/
structure NewAt (w : World) (C x B0 R : Nat) (W : List Nat) (v : Value) (u : World) : Prop where
  c : Blk u C 67 (ciph v R x)
  own : u.ownsRow B0 71 1 v W.length (W.map uv)
  box : BoxAt u x
  nu : Below w.heap.size w u
  base : B0 ≤ u.heap.size
  ord : w.heap.size ≤ x ∧ x < C ∧ C < B0
section
variable {w u u' : World} {C x B0 R : Nat} {W : List Nat} {v : Value}
/-- .. behind whatever leaves all that lies below B0 and the row itself. -/
theorem NewAt.under (H : NewAt w C x B0 R W v u) (hb : Below u.heap.size u u') : NewAt w C x B0 R W v u' :=
  ⟨H.c.below hb H.c.lt, own_kept H.own hb, H.box.below hb (by have := H.c.lt; have := H.ord; omega), nu_trans H.nu hb, Nat.le_trans H.base hb.size, H.ord⟩
theorem NewAt.off {k : Nat} (H : NewAt w C x B0 R W v u) (hb : u.grownBy u' (some k)) (hk : C < k) (hk2 : k < B0) : NewAt w C x B0 R W v u' :=
  ⟨H.c.grown hb (fun e => by injection e; omega), own_off H.own hb hk2, H.box.off hb (by have := H.ord; omega), nu_grown H.nu hb (by have := H.ord; omega), Nat.le_trans H.base hb.size, H.ord⟩
/-- One word more. -/
theorem NewAt.push (H : NewAt w C x B0 R W v u) {v' : Value} {y : Nat} (hown : u'.ownsRow B0 71 1 v' (W.length + 1) (W.map uv ++ [uv y])) (hg : u.grownBy u' v.ownBlock) :
    NewAt w C x B0 R (W ++ [y]) v' (u'.setCell ⟨C, 0, none⟩ v') ∧ Blk u' C 67 (ciph v R x) ∧ ∀ j, j < B0 → j ≠ C → (u'.setCell ⟨C, 0, none⟩ v').heap[j]? = u.heap[j]? := by
  have hb : Below B0 u u' := below_grown hg H.base (fun k hk => (H.own.lt k hk).1)
  have hc : Blk u' C 67 (ciph v R x) := H.c.below hb H.ord.2.2
  have hgs : u'.grownBy (u'.setCell ⟨C, 0, none⟩ v') (some C) := gb_set (gb_refl u' (some C)) (p := ⟨C, 0, none⟩) (.inl rfl) v'
  refine ⟨⟨hc.put 0 v', ?_, (H.box.below hb (by have := H.ord; omega)).off hgs (by have := H.ord; omega), ?_, Nat.le_trans H.base (Nat.le_trans hb.size hgs.size), H.ord⟩, hc, fun j hj hne => ?_⟩
  · have h := own_off hown hgs H.ord.2.2
    rw [List.length_append, List.map_append]
    exact h
  · exact nu_set (H.nu.trans (hb.mono (by have := H.ord; omega))) (p := ⟨C, 0, none⟩) (by have := H.ord; simp; omega) v'
  · exact (hgs.block j (Nat.lt_of_lt_of_le (by have := H.base; omega) hb.size) (fun e => by injection e; omega)).trans (hb.block j hj)
end
theorem RdAt.same {w w' : World} {B g B0 C : Nat} {xs : List Nat} {f : Int} (h : RdAt w B g xs f) (hs : w.heap.size ≤ w'.heap.size) (hb : ∀ j, j < B0 → j ≠ C → w'.heap[j]? = w.heap[j]?) (hg : g < B0) (hC : C < B) : RdAt w' B g xs f := by
  obtain ⟨a, cap, h1, h2, h3, h4, h5, h6⟩ := h
  refine ⟨a, cap, (hb g hg (by omega)).trans h1, ⟨⟨h2.1.1, h2.1.2.1, fun hp => ?_⟩, h2.2⟩, h3, h4, h5, h6⟩
  obtain ⟨b, off, rfl, hlt, hc⟩ := h2.1.2.2 hp
  have := h6 hp _ rfl
  exact ⟨b, off, rfl, Nat.lt_of_lt_of_le hlt hs, fun j n hn => (World.cell?_of_block (a := ⟨b, off + j, none⟩) (hb b (by simp at this; omega) (by simp at this; omega))).trans (hc j n hn)⟩

/-- Four bytes are read. -/
theorem num4 (B g k L : Nat) (key : List Nat) (w : World) (hl : key.length = L) (hk : 4 * k + 4 ≤ L) (hr : RdAt w B g (key.drop (4 * k)) 0) :
    Calls Try.prog 37 #[.pointer (some ⟨g, 0, none⟩), .int .i64 4] w fun e w' =>
      e = .returned (.int .u64 ((wN (key.getD (4 * k) 0) (key.getD (4 * k + 1) 0) (key.getD (4 * k + 2) 0) (key.getD (4 * k + 3) 0) : Nat) : Int)) ∧ RdAt w' B g (key.drop (4 * (k + 1))) 0 ∧ w.grownBy w' (some g) := by
  have hs : rdStep (key.drop (4 * k)) 0 4 (numRight 4) = ((key.drop (4 * k)).take 4, (key.drop (4 * k)).drop 4, 0) := rdStep_ok (xs := key.drop (4 * k)) (n := 4) (by rw [List.length_drop]; omega)
  have h := num_any B g (key.drop (4 * k)) 0 4 w hr
  rw [hs] at h
  refine h.mono fun e w' ⟨h1, h2, h3⟩ => ⟨?_, ?_, h3⟩
  · rw [h1]
    have e4 : (key.drop (4 * k)).take 4 = [key.getD (4 * k) 0, key.getD (4 * k + 1) 0, key.getD (4 * k + 2) 0, key.getD (4 * k + 3) 0] := by
      have g0 : ∀ i, i < 4 → key[4 * k + i]? = some (key.getD (4 * k + i) 0) := fun i hi => by
        rw [List.getD_eq_getElem?_getD, List.getElem?_eq_getElem (by omega)]
        rfl
      apply List.ext_getElem?
      intro i
      rw [List.getElem?_take]
      by_cases hi : i < 4
      · rw [if_pos hi, List.getElem?_drop, g0 i hi]
        rcases (show i = 0 ∨ i = 1 ∨ i = 2 ∨ i = 3 by omega) with rfl | rfl | rfl | rfl <;> rfl
      · rw [if_neg hi, List.getElem?_eq_none (by simp; omega)]
    show Ending.returned (.int .u64 ((numOf ((key.drop (4 * k)).take 4) : Nat) : Int)) = _
    rw [e4]
    have en : ∀ a b c d : Nat, numOf [a, b, c, d] = wN a b c d := fun a b c d => by simp only [numOf, wN, List.foldl]; omega
    rw [en]
  · have h2' : RdAt w' B g ((key.drop (4 * k)).drop 4) 0 := h2
    rw [List.drop_drop] at h2'
    exact h2'

def NewMade (w : World) (R : Nat) (W : List Nat) (e : Ending) (w' : World) : Prop := ∃ C x B0 v, e = .returned (.tuple #[.pointer (some ⟨C, 0, none⟩), .int .i64 0]) ∧ NewAt w C x B0 R W v w'
set_option maxRecDepth 100000 in
set_option maxHeartbeats 4000000 in
theorem aesNew_any (n L : Nat) (hn : n = 4 ∨ n = 8) (hL : L = 4 * n) (a : Option Addr) (cap : Nat) (key : List Nat) (w : World) (hx : BytesIn w a L cap key) :
    Calls Try.prog 23 #[.slice a L cap] w (NewMade w (n + 6) (expand key)) := by
  obtain ⟨i0, hi, hz0, hz1, hz2⟩ := info_parts info_u32
  have Hi := Lib.hid (And.intro hi (And.intro hz0 (And.intro hz1 hz2)))
  have hkl := hx.1.1
  have Hkx := Lib.hid (fun x h => wf_u8_lt (hx.1.2.1 x h))
  have Hx := Lib.hid hx
  have hn8 : n ≤ 8 := by omega
  have hn4 : 4 ≤ n := by omega
  have hq : (L : Int) / 4 = (n : Int) := by omega
  have Hkl := Lib.hid hkl
  have HL := Lib.hid hL
  have Hn := Lib.hid hn
  have hcases : (((L : Int) == 16) = true ∧ ((L : Int) != 16) = false) ∨ (((L : Int) != 16) = true ∧ ((L : Int) != 32) = false) := by
    rcases hn with rfl | rfl
    · subst hL; exact .inl ⟨rfl, rfl⟩
    · subst hL; exact .inr ⟨rfl, rfl⟩
  clear hi hz0 hz1 hz2 hkl hx hL hn
  have hL32 : L ≤ 32 := by have := HL.out; omega
  go_enter Try.func23, Try.ntmps23
  go_upto_region 1 with fail
  go_cut [17] (fun s17 wx => s17 = .bool false ∧ wx = w)
  case first =>
    rcases hcases with ⟨t1, t2⟩ | ⟨t1, t2⟩
    · go_wp2_with fail
      go_meet
      exact ⟨rfl, rfl⟩
    · go_wp2_with fail
      go_meet
      exact ⟨rfl, rfl⟩
  case rest =>
    obtain ⟨rfl, hwc⟩ := hcut
    have hwc' := hwc.symm
    subst hwc'
    clear hcases
    go_upto_region 3 with fail
    go_wp2_with fail
    refine (newBoxes_any w).mono ?_
    rintro e w1 ⟨rfl, hb1, cs, hg1, ht1⟩
    have HB1 := Lib.hid (show BoxAt w1 w.heap.size from ⟨cs, hg1, ht1⟩)
    have Hb1 := Lib.hid hb1
    have Hx1 := Lib.hid (Hx.out.keep hb1)
    have hlt := hg1.lt
    clear hg1 ht1 hb1 cs
    obtain ⟨x, hxe⟩ : ∃ x, x = w.heap.size := ⟨_, rfl⟩
    rw [← hxe] at HB1 hlt
    rw [← hxe]
    have Hxe := Lib.hid hxe
    clear hxe
    go_upto_region 4 with fail
    have HC2 := Lib.hid (Blk.made w1 67 #[.slice none 0 0, .int .i64 ((n : Int) + 6), .pointer (some ⟨x, 0, none⟩)])
    have hal := nu_alloc (nu_refl w1) (.cells #[.slice none 0 0, .int .i64 ((n : Int) + 6), .pointer (some ⟨x, 0, none⟩)] 67)
    have HB2 := Lib.hid (HB1.out.below hal hlt)
    have Hb2 := Lib.hid (nu_trans Hb1.out hal)
    have Hx2 := Lib.hid (Hx1.out.keep hal)
    have hs2 : w1.heap.size < (w1.alloc (.cells #[.slice none 0 0, .int .i64 ((n : Int) + 6), .pointer (some ⟨x, 0, none⟩)] 67)).heap.size := by simp
    clear hal HB1 Hb1 Hx1
    generalize w1.alloc (.cells #[.slice none 0 0, .int .i64 ((n : Int) + 6), .pointer (some ⟨x, 0, none⟩)] 67) = w2 at *
    obtain ⟨C, hC⟩ : ∃ C, C = w1.heap.size := ⟨_, rfl⟩
    rw [← hC] at HC2 hs2 hlt
    rw [← hC]
    clear hC
    go_wp2_with fail
    refine (newReader_any a L cap key w2 Hx2.out (by omega)).mono ?_
    rintro e w3 ⟨g, rfl, hr, hb3⟩
    have hgl := hr.lt
    have hgw := hr.low
    have hs3 := hb3.size
    have HR3 := Lib.hid (show RdAt w3 w2.heap.size g (key.drop (4 * 0)) 0 from hr)
    obtain ⟨B0, hB0⟩ : ∃ B0, B0 = w3.heap.size := ⟨_, rfl⟩
    have HN3 := Lib.hid (show NewAt w C x B0 (n + 6) (words key 0) (.slice none 0 0) w3 from ⟨Blk.below HC2.out hb3 (Blk.lt HC2.out), World.ownsRow_nil _ _ _ _, HB2.out.below hb3 (by omega), nu_trans Hb2.out hb3, by omega, by have := Hxe.out; omega⟩)
    obtain ⟨Br, hBr⟩ : ∃ Br, Br = w2.heap.size := ⟨_, rfl⟩
    rw [← hBr] at HR3
    have Ho := Lib.hid (show C < Br ∧ Br ≤ g ∧ g < B0 from ⟨by omega, by omega, by omega⟩)
    clear hr hb3 HC2 HB2 Hb2 Hx2 Hx hBr hB0 hgl hgw hs3 hs2 hlt
    go_wp2_with fail
    go_loopg [] n (fun gh wr => ∃ (k : Nat) (v : Value), k ≤ n ∧ gh = n - k ∧ NewAt w C x B0 (n + 6) (words key k) v wr ∧ RdAt wr Br g (key.drop (4 * k)) 0)
    case atStart => exact ⟨0, _, by omega, by omega, HN3.out, HR3.out⟩
    case round =>
      clear HN3 HR3
      obtain ⟨k, v, hk, hgh, hN, hR⟩ := hrel
      have HN := Lib.hid hN
      have HR := Lib.hid hR
      have HHk := Lib.hid (And.intro hk hgh)
      clear hN hR hgh
      obtain ⟨ra, rc, hrb, _⟩ := HR.out
      have hdl : (key.drop (4 * k)).length = L - 4 * k := by rw [List.length_drop, Hkl.out]
      rw [hdl] at hrb
      clear hdl
      by_cases hlt : k < n
      · have hpos : (0 : Int) < ((L - 4 * k : Nat) : Int) := by have := HL.out; omega
        go_wp2_with fail
        refine (left_any g ra (L - 4 * k) rc 0 wr hrb).mono ?_
        rintro e w' ⟨rfl, rfl⟩
        clear hrb
        generalize L - 4 * k = lft at *
        go_upto_region 6 with fail
        clear hpos
        have HNd := Lib.hid (HN.out.under (nu_drew (nu_refl wr)))
        have HRd := Lib.hid (HR.out.keep (nu_drew (nu_refl wr)))
        clear HN HR
        obtain ⟨y, hy⟩ : ∃ y, wN (key.getD (4 * k) 0) (key.getD (4 * k + 1) 0) (key.getD (4 * k + 2) 0) (key.getD (4 * k + 3) 0) = y := ⟨_, rfl⟩
        have hyl : y < 4294967296 := by rw [← hy]; exact wN_lt _ _ _ _ (getD_lt Hkx.out _) (getD_lt Hkx.out _) (getD_lt Hkx.out _) (getD_lt Hkx.out _)
        have Hy := Lib.hid hy
        have hyw : IntKind.u32.wrap (y : Int) = (y : Int) := by rw [IntKind.wrap_u32]; omega
        clear hy
        refine wp_region_held_drew (S := fun _ => True) (by kernel_rfl) (trivial) (fun hHeld => ?_)
        dsimp only [Array.replicate, List.replicate, List.size_toArray, List.length_cons, List.length_nil, Nat.reduceAdd] at hHeld ⊢
        generalize wr.drew = u0 at *
        have HN0 := HNd
        have HR0 := HRd
        clear HNd HRd
        refine take_l (i := 0) (v := ?_) rfl (by kernel_rfl) (by kernel_rfl) (by kernel_rfl) (fun _ _ _ h => h) (Or.inl ⟨by rfl, ?_⟩) (by assumption) ?_
        case refine_2 => (intro _ _; go_simp; all_goals with_reducible rfl)
        simp only [Act.put, List.setIfInBounds_toArray, List.set_cons_zero, List.set_cons_succ]
        refine take_l (i := 1) (v := ?_) rfl (by kernel_rfl) (by kernel_rfl) (by kernel_rfl) (fun _ _ _ h => h) (Or.inl ⟨by rfl, ?_⟩) (by assumption) ?_
        case refine_2 => (intro _ _; go_simp; all_goals with_reducible rfl)
        simp only [Act.put, List.setIfInBounds_toArray, List.set_cons_zero, List.set_cons_succ]
        refine take_l (i := 2) (v := ?_) rfl (by kernel_rfl) (by kernel_rfl) (by kernel_rfl) (fun _ _ _ h => h) (Or.inl ⟨by rfl, ?_⟩) (by assumption) ?_
        case refine_2 => (intro _ _; go_simp; all_goals with_reducible rfl)
        simp only [Act.put, List.setIfInBounds_toArray, List.set_cons_zero, List.set_cons_succ]
        refine take_l (i := 3) (v := ?_) rfl (by kernel_rfl) (by kernel_rfl) (by kernel_rfl) (fun _ _ _ h => h) (Or.inl ⟨by rfl, ?_⟩) (by assumption) ?_
        case refine_2 => (intro _ _; go_simp; all_goals with_reducible rfl)
        simp only [Act.put, List.setIfInBounds_toArray, List.set_cons_zero, List.set_cons_succ]
        refine take_l (i := 5) (v := ?_) rfl (by kernel_rfl) (by kernel_rfl) (by kernel_rfl) (fun _ _ _ h => h) (Or.inl ⟨by rfl, ?_⟩) (by assumption) ?_
        case refine_2 => (intro _ _; go_simp; all_goals with_reducible rfl)
        simp only [Act.put, List.setIfInBounds_toArray, List.set_cons_zero, List.set_cons_succ]
        refine wpAnyH_ready (rs := [4, 6]) (by kernel_rfl) (by simp) ?_
        refine cons_l rfl (fun K hK => ?_) (cons_l rfl (fun K hK => ?_) AllReadyH.nil)
        · have c0 := HN0.out.c.at 0 _ rfl
          go_simp
          go_wp2_with fail
          refine hK.out _ _ trivial (fun hHeld => ?_)
          clear hK K c0
          simp only [Act.put, List.setIfInBounds_toArray, List.set_cons_zero, List.set_cons_succ]
          have HN1 := HN0
          have HR1 := HR0
          clear HN0 HR0
          obtain ⟨u1, hue⟩ : ∃ q : World, q = u0 := ⟨_, rfl⟩
          rw [← hue] at HN1 HR1 ⊢
          try rw [← hue] at HY
          clear hue
          refine wpAnyH_ready (rs := [6]) (by kernel_rfl) (by simp) ?_
          refine cons_l rfl (fun K hK => ?_) AllReadyH.nil
          go_simp
          go_at_call 37
          refine (num4 Br g k L key u1 Hkl.out (by have := HL.out; omega) HR1.out).mono ?_
          rintro e u2 ⟨rfl, hrd, hgr⟩
          have HN2 := Lib.hid (HN1.out.off hgr (by have := Ho.out; omega) Ho.out.2.2)
          have HR2 := Lib.hid hrd
          clear hrd hgr HN1 HR1
          rw [Hy.out]
          go_wp2_with fail
          refine hK.out _ _ trivial (fun hHeld => ?_)
          clear hK K
          simp only [Act.put, List.setIfInBounds_toArray, List.set_cons_zero, List.set_cons_succ]
          refine take_l (i := 7) (v := ?_) rfl (by kernel_rfl) (by kernel_rfl) (by kernel_rfl) (fun _ _ _ h => h) (Or.inl ⟨by rfl, ?_⟩) (by assumption) ?_
          case refine_2 => (intro _ _; go_simp; all_goals with_reducible rfl)
          simp only [Act.put, List.setIfInBounds_toArray, List.set_cons_zero, List.set_cons_succ]
          refine wpAnyH_ready (rs := [8]) (by kernel_rfl) (by simp) ?_
          refine cons_l rfl (fun K hK => ?_) AllReadyH.nil
          have hal := nu_alloc (nu_refl u2) (.cells #[.int .u32 (y : Int)] 71)
          have HY := Lib.hid (Blk.made u2 71 #[.int .u32 (y : Int)])
          have HN3 := Lib.hid (HN2.out.under hal)
          have HR3 := Lib.hid (HR2.out.keep hal)
          clear hal HN2 HR2
          go_simp
          go_wp2_with fail
          generalize u2.heap.size = j at *
          generalize u2.alloc (.cells #[.int .u32 (y : Int)] 71) = u3 at *
          refine hK.out _ _ trivial (fun hHeld => ?_)
          clear hK K
          simp only [Act.put, List.setIfInBounds_toArray, List.set_cons_zero, List.set_cons_succ]
          refine wpAnyH_ready (rs := [9]) (by kernel_rfl) (by simp) ?_
          refine cons_l rfl (fun K hK => ?_) AllReadyH.nil
          refine step_append_own rfl (.tmp 34) (.tmp 38) 65 rfl B0 71 i0 (.int .u32 0) 1 4 Try.underlying65 Hi.out.1 Hi.out.2.1 Hi.out.2.2.1 Hi.out.2.2.2 rfl (by decide) v (words key k).length ((words key k).map uv) rfl HN3.out.own (some ⟨j, 0, none⟩) 1 1 [uv y] rfl (fun h => by cases h) rfl (fun ad had i q hq => by injection had with had; subst had; rw [Addr.add_lit, Nat.zero_add]; exact HY.out.at i q (by simpa [uv] using hq)) (fun q hq => by rw [List.mem_singleton.1 hq]; rfl) (by rw [words_len]; unfold maxLen; omega) (by rw [words_len]; omega) HN3.out.base ?_
          intro v2 u9 hown hgr _
          obtain ⟨m2, q2, c2, hv2⟩ := own_slice hown (by omega)
          subst hv2
          obtain ⟨hP1, hP2, hP3⟩ := HN3.out.push hown hgr
          have HP := Lib.hid (show NewAt w C x B0 (n + 6) (words key (k + 1)) (.slice (some ⟨m2, 0, none⟩) q2 c2) _ from by rw [show words key (k + 1) = words key k ++ [y] by rw [words, ← Hy.out]]; exact hP1)
          have HQ := Lib.hid (HR3.out.same (Nat.le_trans hgr.size (by simp [World.setCell])) hP3 Ho.out.2.2 Ho.out.1)
          have c0 := hP2.at 0 _ rfl
          have f0 := hP2.free 0
          clear hown hgr hP1 hP2 hP3 HN3 HR3 HY
          refine hK.out _ _ trivial (fun hHeld => ?_)
          clear hK K
          simp only [Act.put, List.setIfInBounds_toArray, List.set_cons_zero, List.set_cons_succ]
          refine take_l (i := 10) (v := ?_) rfl (by kernel_rfl) (by kernel_rfl) (by kernel_rfl) (fun _ _ _ h => h) (Or.inl ⟨by rfl, ?_⟩) (by assumption) ?_
          case refine_2 => (intro _ _; go_simp; all_goals with_reducible rfl)
          simp only [Act.put, List.setIfInBounds_toArray, List.set_cons_zero, List.set_cons_succ]
          refine take_l (i := 11) (v := ?_) rfl (by kernel_rfl) (by kernel_rfl) (by kernel_rfl) (fun _ _ _ h => h) (Or.inl ⟨by rfl, ?_⟩) (by assumption) ?_
          case refine_2 => (intro _ _; go_simp; all_goals with_reducible rfl)
          simp only [Act.put, List.setIfInBounds_toArray, List.set_cons_zero, List.set_cons_succ]
          refine wpAnyH_ready (rs := [12]) (by kernel_rfl) (by simp) ?_
          refine cons_l rfl (fun K hK => ?_) AllReadyH.nil
          go_simp
          go_wp2_with fail
          clear c0 f0
          generalize u9.setCell ⟨C, 0, none⟩ (.slice (some ⟨m2, 0, none⟩) q2 c2) = u10 at *
          refine hK.out _ _ trivial (fun hHeld => ?_)
          clear hK K
          simp only [Act.put, List.setIfInBounds_toArray, List.set_cons_zero, List.set_cons_succ]
          refine wpAnyH_done (by kernel_rfl) ?_ _
          go_wp2_with fail
          go_roundg (n - (k + 1))
          case measure => have h1 := HHk.out; omega
          case rel => exact ⟨k + 1, _, by omega, rfl, HP.out, HQ.out⟩
        · go_simp
          go_at_call 37
          refine (num4 Br g k L key u0 Hkl.out (by have := HL.out; omega) HR0.out).mono ?_
          rintro e u1 ⟨rfl, hrd, hgr⟩
          have HN1 := Lib.hid (HN0.out.off hgr (by have := Ho.out; omega) Ho.out.2.2)
          have HR1 := Lib.hid hrd
          clear hrd hgr HN0 HR0
          rw [Hy.out]
          go_wp2_with fail
          refine hK.out _ _ trivial (fun hHeld => ?_)
          clear hK K
          simp only [Act.put, List.setIfInBounds_toArray, List.set_cons_zero, List.set_cons_succ]
          refine take_l (i := 7) (v := ?_) rfl (by kernel_rfl) (by kernel_rfl) (by kernel_rfl) (fun _ _ _ h => h) (Or.inl ⟨by rfl, ?_⟩) (by assumption) ?_
          case refine_2 => (intro _ _; go_simp; all_goals with_reducible rfl)
          simp only [Act.put, List.setIfInBounds_toArray, List.set_cons_zero, List.set_cons_succ]
          refine wpAnyH_ready (rs := [4, 8]) (by kernel_rfl) (by simp) ?_
          refine cons_l rfl (fun K hK => ?_) (cons_l rfl (fun K hK => ?_) AllReadyH.nil)
          · have c0 := HN1.out.c.at 0 _ rfl
            go_simp
            go_wp2_with fail
            refine hK.out _ _ trivial (fun hHeld => ?_)
            clear hK K c0
            simp only [Act.put, List.setIfInBounds_toArray, List.set_cons_zero, List.set_cons_succ]
            have HN2 := HN1
            have HR2 := HR1
            clear HN1 HR1
            obtain ⟨u2, hue⟩ : ∃ q : World, q = u1 := ⟨_, rfl⟩
            rw [← hue] at HN2 HR2 ⊢
            try rw [← hue] at HY
            clear hue
            refine wpAnyH_ready (rs := [8]) (by kernel_rfl) (by simp) ?_
            refine cons_l rfl (fun K hK => ?_) AllReadyH.nil
            have hal := nu_alloc (nu_refl u2) (.cells #[.int .u32 (y : Int)] 71)
            have HY := Lib.hid (Blk.made u2 71 #[.int .u32 (y : Int)])
            have HN3 := Lib.hid (HN2.out.under hal)
            have HR3 := Lib.hid (HR2.out.keep hal)
            clear hal HN2 HR2
            go_simp
            go_wp2_with fail
            generalize u2.heap.size = j at *
            generalize u2.alloc (.cells #[.int .u32 (y : Int)] 71) = u3 at *
            refine hK.out _ _ trivial (fun hHeld => ?_)
            clear hK K
            simp only [Act.put, List.setIfInBounds_toArray, List.set_cons_zero, List.set_cons_succ]
            refine wpAnyH_ready (rs := [9]) (by kernel_rfl) (by simp) ?_
            refine cons_l rfl (fun K hK => ?_) AllReadyH.nil
            refine step_append_own rfl (.tmp 34) (.tmp 38) 65 rfl B0 71 i0 (.int .u32 0) 1 4 Try.underlying65 Hi.out.1 Hi.out.2.1 Hi.out.2.2.1 Hi.out.2.2.2 rfl (by decide) v (words key k).length ((words key k).map uv) rfl HN3.out.own (some ⟨j, 0, none⟩) 1 1 [uv y] rfl (fun h => by cases h) rfl (fun ad had i q hq => by injection had with had; subst had; rw [Addr.add_lit, Nat.zero_add]; exact HY.out.at i q (by simpa [uv] using hq)) (fun q hq => by rw [List.mem_singleton.1 hq]; rfl) (by rw [words_len]; unfold maxLen; omega) (by rw [words_len]; omega) HN3.out.base ?_
            intro v2 u9 hown hgr _
            obtain ⟨m2, q2, c2, hv2⟩ := own_slice hown (by omega)
            subst hv2
            obtain ⟨hP1, hP2, hP3⟩ := HN3.out.push hown hgr
            have HP := Lib.hid (show NewAt w C x B0 (n + 6) (words key (k + 1)) (.slice (some ⟨m2, 0, none⟩) q2 c2) _ from by rw [show words key (k + 1) = words key k ++ [y] by rw [words, ← Hy.out]]; exact hP1)
            have HQ := Lib.hid (HR3.out.same (Nat.le_trans hgr.size (by simp [World.setCell])) hP3 Ho.out.2.2 Ho.out.1)
            have c0 := hP2.at 0 _ rfl
            have f0 := hP2.free 0
            clear hown hgr hP1 hP2 hP3 HN3 HR3 HY
            refine hK.out _ _ trivial (fun hHeld => ?_)
            clear hK K
            simp only [Act.put, List.setIfInBounds_toArray, List.set_cons_zero, List.set_cons_succ]
            refine take_l (i := 10) (v := ?_) rfl (by kernel_rfl) (by kernel_rfl) (by kernel_rfl) (fun _ _ _ h => h) (Or.inl ⟨by rfl, ?_⟩) (by assumption) ?_
            case refine_2 => (intro _ _; go_simp; all_goals with_reducible rfl)
            simp only [Act.put, List.setIfInBounds_toArray, List.set_cons_zero, List.set_cons_succ]
            refine take_l (i := 11) (v := ?_) rfl (by kernel_rfl) (by kernel_rfl) (by kernel_rfl) (fun _ _ _ h => h) (Or.inl ⟨by rfl, ?_⟩) (by assumption) ?_
            case refine_2 => (intro _ _; go_simp; all_goals with_reducible rfl)
            simp only [Act.put, List.setIfInBounds_toArray, List.set_cons_zero, List.set_cons_succ]
            refine wpAnyH_ready (rs := [12]) (by kernel_rfl) (by simp) ?_
            refine cons_l rfl (fun K hK => ?_) AllReadyH.nil
            go_simp
            go_wp2_with fail
            clear c0 f0
            generalize u9.setCell ⟨C, 0, none⟩ (.slice (some ⟨m2, 0, none⟩) q2 c2) = u10 at *
            refine hK.out _ _ trivial (fun hHeld => ?_)
            clear hK K
            simp only [Act.put, List.setIfInBounds_toArray, List.set_cons_zero, List.set_cons_succ]
            refine wpAnyH_done (by kernel_rfl) ?_ _
            go_wp2_with fail
            go_roundg (n - (k + 1))
            case measure => have h1 := HHk.out; omega
            case rel => exact ⟨k + 1, _, by omega, rfl, HP.out, HQ.out⟩
          · have hal := nu_alloc (nu_refl u1) (.cells #[.int .u32 (y : Int)] 71)
            have HY := Lib.hid (Blk.made u1 71 #[.int .u32 (y : Int)])
            have HN2 := Lib.hid (HN1.out.under hal)
            have HR2 := Lib.hid (HR1.out.keep hal)
            clear hal HN1 HR1
            go_simp
            go_wp2_with fail
            generalize u1.heap.size = j at *
            generalize u1.alloc (.cells #[.int .u32 (y : Int)] 71) = u2 at *
            refine hK.out _ _ trivial (fun hHeld => ?_)
            clear hK K
            simp only [Act.put, List.setIfInBounds_toArray, List.set_cons_zero, List.set_cons_succ]
            refine wpAnyH_ready (rs := [4]) (by kernel_rfl) (by simp) ?_
            refine cons_l rfl (fun K hK => ?_) AllReadyH.nil
            have c0 := HN2.out.c.at 0 _ rfl
            go_simp
            go_wp2_with fail
            refine hK.out _ _ trivial (fun hHeld => ?_)
            clear hK K c0
            simp only [Act.put, List.setIfInBounds_toArray, List.set_cons_zero, List.set_cons_succ]
            have HN3 := HN2
            have HR3 := HR2
            clear HN2 HR2
            obtain ⟨u3, hue⟩ : ∃ q : World, q = u2 := ⟨_, rfl⟩
            rw [← hue] at HN3 HR3 ⊢
            try rw [← hue] at HY
            clear hue
            refine wpAnyH_ready (rs := [9]) (by kernel_rfl) (by simp) ?_
            refine cons_l rfl (fun K hK => ?_) AllReadyH.nil
            refine step_append_own rfl (.tmp 34) (.tmp 38) 65 rfl B0 71 i0 (.int .u32 0) 1 4 Try.underlying65 Hi.out.1 Hi.out.2.1 Hi.out.2.2.1 Hi.out.2.2.2 rfl (by decide) v (words key k).length ((words key k).map uv) rfl HN3.out.own (some ⟨j, 0, none⟩) 1 1 [uv y] rfl (fun h => by cases h) rfl (fun ad had i q hq => by injection had with had; subst had; rw [Addr.add_lit, Nat.zero_add]; exact HY.out.at i q (by simpa [uv] using hq)) (fun q hq => by rw [List.mem_singleton.1 hq]; rfl) (by rw [words_len]; unfold maxLen; omega) (by rw [words_len]; omega) HN3.out.base ?_
            intro v2 u9 hown hgr _
            obtain ⟨m2, q2, c2, hv2⟩ := own_slice hown (by omega)
            subst hv2
            obtain ⟨hP1, hP2, hP3⟩ := HN3.out.push hown hgr
            have HP := Lib.hid (show NewAt w C x B0 (n + 6) (words key (k + 1)) (.slice (some ⟨m2, 0, none⟩) q2 c2) _ from by rw [show words key (k + 1) = words key k ++ [y] by rw [words, ← Hy.out]]; exact hP1)
            have HQ := Lib.hid (HR3.out.same (Nat.le_trans hgr.size (by simp [World.setCell])) hP3 Ho.out.2.2 Ho.out.1)
            have c0 := hP2.at 0 _ rfl
            have f0 := hP2.free 0
            clear hown hgr hP1 hP2 hP3 HN3 HR3 HY
            refine hK.out _ _ trivial (fun hHeld => ?_)
            clear hK K
            simp only [Act.put, List.setIfInBounds_toArray, List.set_cons_zero, List.set_cons_succ]
            refine take_l (i := 10) (v := ?_) rfl (by kernel_rfl) (by kernel_rfl) (by kernel_rfl) (fun _ _ _ h => h) (Or.inl ⟨by rfl, ?_⟩) (by assumption) ?_
            case refine_2 => (intro _ _; go_simp; all_goals with_reducible rfl)
            simp only [Act.put, List.setIfInBounds_toArray, List.set_cons_zero, List.set_cons_succ]
            refine take_l (i := 11) (v := ?_) rfl (by kernel_rfl) (by kernel_rfl) (by kernel_rfl) (fun _ _ _ h => h) (Or.inl ⟨by rfl, ?_⟩) (by assumption) ?_
            case refine_2 => (intro _ _; go_simp; all_goals with_reducible rfl)
            simp only [Act.put, List.setIfInBounds_toArray, List.set_cons_zero, List.set_cons_succ]
            refine wpAnyH_ready (rs := [12]) (by kernel_rfl) (by simp) ?_
            refine cons_l rfl (fun K hK => ?_) AllReadyH.nil
            go_simp
            go_wp2_with fail
            clear c0 f0
            generalize u9.setCell ⟨C, 0, none⟩ (.slice (some ⟨m2, 0, none⟩) q2 c2) = u10 at *
            refine hK.out _ _ trivial (fun hHeld => ?_)
            clear hK K
            simp only [Act.put, List.setIfInBounds_toArray, List.set_cons_zero, List.set_cons_succ]
            refine wpAnyH_done (by kernel_rfl) ?_ _
            go_wp2_with fail
            go_roundg (n - (k + 1))
            case measure => have h1 := HHk.out; omega
            case rel => exact ⟨k + 1, _, by omega, rfl, HP.out, HQ.out⟩
      · obtain rfl : k = n := by omega
        rw [show L - 4 * k = 0 by have := HL.out; omega] at hrb
        have hl0 := left_any g ra 0 rc 0 wr hrb
        rw [show ((0 : Nat) : Int) = 0 from rfl] at hl0
        have Hl0 := Lib.hid hl0
        clear hl0 hrb HR
        go_wp2_with fail
        refine Hl0.out.mono ?_
        rintro e w' ⟨rfl, rfl⟩
        clear Hl0
        have hown := HN.out.own
        rw [words_len] at hown
        obtain ⟨m0, c0, hv0, _, _⟩ := World.ownsRow.form hown (by omega)
        subst hv0
        have cw : wr.cell? ⟨C, 0, none⟩ = some (.slice (some ⟨m0, 0, none⟩) k c0) := HN.out.c.at 0 _ rfl
        obtain ⟨R, hR⟩ : ∃ R, R = k + 6 := ⟨_, rfl⟩
        rw [← hR] at HN
        have HR := Lib.hid hR
        have hR14 : R ≤ 14 := by omega
        clear hown hR hk
        obtain ⟨wb, rfl⟩ : ∃ q : World, q = wr := ⟨_, rfl⟩
        go_wp2_with fail
        clear cw
        go_loopw [7, 8] (fun mr i wr => ∃ (d : Nat) (v : Value), d ≤ 4 * (k + 7) - k ∧ i = .int .i64 ((k + d : Nat) : Int) ∧ mr = .int .u8 ((gpow 2 ((k + d - 1) / k) : Nat) : Int) ∧ NewAt w C x B0 R (grow k d (words key k)) v wr) (fun _ i _ => 4 * (k + 7) - (intOf i).toNat)
        case atStart => exact ⟨0, _, by omega, rfl, by rw [Nat.add_zero, Nat.div_eq_of_lt (by omega)]; rfl, HN.out⟩
        case round =>
          clear HN
          obtain ⟨d, v, hd, rfl, rfl, hN⟩ := hrel
          have HN := Lib.hid hN
          have hWl : (grow k d (words key k)).length = k + d := by rw [grow_len, words_len]
          have hWs := grow_small k d (words key k) (words_small Hkx.out k)
          have HWn := Lib.hid (grow_succ k d (words key k))
          obtain ⟨W, hW⟩ : ∃ W, grow k d (words key k) = W := ⟨_, rfl⟩
          rw [hW] at HN hWl hWs HWn
          obtain ⟨j, hj⟩ : ∃ j, j = k + d := ⟨_, rfl⟩
          rw [← hj] at hWl ⊢
          have hown := hN.own
          rw [hW, hWl] at hown
          obtain ⟨m, c, hv, _, _⟩ := World.ownsRow.form hown (by omega)
          subst hv
          have HWs := Lib.hid hWs
          have HWl := Lib.hid hWl
          have HW := Lib.hid hW
          have HO := Lib.hid hown
          obtain ⟨p, hp⟩ : ∃ p, j = p + 1 := ⟨j - 1, by omega⟩
          have hjp : (j : Int) - 1 = (p : Int) := by omega
          have hpj : (p : Int) < (j : Int) := by omega
          obtain ⟨q, hq'⟩ : ∃ q, j = q + k := ⟨j - k, by omega⟩
          have hjq : (j : Int) - (k : Int) = (q : Int) := by omega
          have hqj : (q : Int) < (j : Int) := by omega
          have c1 : wr.cell? ⟨C, 1, none⟩ = some (.int .i64 (R : Int)) := HN.out.c.at 1 _ rfl
          have Hj := Lib.hid (And.intro hj (And.intro hp (And.intro hq' hd)))
          obtain ⟨e, he⟩ : ∃ e, e = gpow 2 ((j - 1) / k) := ⟨_, rfl⟩
          have he8 : e < 256 := by rw [he]; exact gpow_lt _ _
          rw [← he]
          have He := Lib.hid he
          have hj60 : j ≤ 60 := by omega
          by_cases hlt : j < 4 * (k + 7)
          · have hji : (j : Int) < 4 * ((R : Int) + 1) := by have := HR.out; omega
            have Hlt := Lib.hid hlt
            clear hN hWl hWs hW hj hown hp hq' hd he hlt
            obtain ⟨t, ht⟩ : ∃ t, W.getD p 0 = t := ⟨_, rfl⟩
            have ht32 : t < 4294967296 := by rw [← ht]; exact HWs.out.getD p
            have Ht := Lib.hid ht
            have c0 : wr.cell? ⟨C, 0, none⟩ = some (.slice (some ⟨m, 0, none⟩) j c) := HN.out.c.at 0 _ rfl
            have cp : wr.cell? ⟨m, p, none⟩ = some (.int .u32 (t : Int)) := by rw [← ht]; exact own_at HO.out HWl.out p (by omega)
            clear ht
            obtain ⟨Mr, hM⟩ : ∃ Mr, Mr = gpow 2 (j / k) := ⟨_, rfl⟩
            obtain ⟨T, hT⟩ : ∃ T, T = turnOf k j t := ⟨_, rfl⟩
            have hM8 : Mr < 256 := by rw [hM]; exact gpow_lt _ _
            have hT32 : T < 4294967296 := by rw [hT]; exact turnOf_lt _ _ _ ht32
            have HM := Lib.hid hM
            have HT := Lib.hid hT
            obtain ⟨r, hr⟩ : ∃ r, r = j % k := ⟨_, rfl⟩
            have em : (j : Int) % (k : Int) = (r : Int) := by rw [hr]; simp
            have Hr := Lib.hid hr
            clear hM hT hr
            go_upto_block 4 with fail
            clear c0 c1 cp hpj hjp
            go_cut [7, 9] (fun m7 t9 wx => m7 = .int .u8 (Mr : Int) ∧ t9 = .int .u32 (T : Int) ∧ wx = wr)
            case first =>
              by_cases hr0 : r = 0
              · have hb : ((r : Int) == 0) = true := by rw [hr0]; rfl
                have hdv : (j - 1) / k = j / k - 1 ∧ j / k = (j - 1) / k + 1 := by
                  have h1 := Hr.out
                  have h2 := Nat.div_add_mod j k
                  rw [← h1, hr0, Nat.add_zero] at h2
                  have h3 := Nat.div_add_mod (j - 1) k
                  have h4 := Nat.mod_lt (j - 1) (show 0 < k by omega)
                  have hj1 : 1 ≤ j := by have := Hj.out; omega
                  generalize j / k = A at *
                  generalize (j - 1) / k = B at *
                  generalize (j - 1) % k = D at *
                  rcases Nat.lt_or_ge B A with h | h
                  · rcases Nat.lt_or_ge (B + 1) A with h' | h'
                    · have := Nat.mul_le_mul_left k (show B + 1 + 1 ≤ A from h')
                      rw [Nat.mul_add, Nat.mul_add] at this
                      omega
                    · omega
                  · have := Nat.mul_le_mul_left k h
                    omega
                have HA := Lib.hid (show T = subW (rotW t) ^^^ (e * 16777216) by rw [HT.out, turnOf, if_pos (by rw [← Hr.out]; exact hr0), ← hdv.1, ← He.out])
                have HB := Lib.hid (show Mr = gm e 2 by
                  have h := gpow_add 2 ((j - 1) / k) 1 (by omega)
                  rw [gpow_one 2 (by omega), ← hdv.2, ← He.out, ← HM.out] at h
                  exact h.symm)
                have hs32 := subW_lt (rotW t)
                have hxx := u32_xor_nat (subW (rotW t)) (e * 16777216) hs32 (by omega)
                rw [← HA.out, show ((e * 16777216 : Nat) : Int) = (e : Int) * 16777216 by simp] at hxx
                have HRo := Lib.hid (rot_l8 t ht32 wr)
                have HBo := Lib.hid (aesBox_w C x (.slice (some ⟨m, 0, none⟩) j c) (.int .i64 (R : Int)) (rotW t) (rotW_lt t) wr HN.out.c HN.out.box)
                have hrl := rotW_lt t
                clear hr0 hdv HA
                generalize subW (rotW t) = s at *
                generalize rotW t = ro at *
                go_wp2_with fail
                refine HRo.out.mono ?_
                rintro e1 w' ⟨rfl, rfl⟩
                go_wp2_with fail
                refine HBo.out.mono ?_
                rintro e1 w' ⟨rfl, rfl⟩
                go_wp2_with fail
                refine (times_any e 2 he8 (by omega) wr).mono ?_
                rintro e1 w' ⟨rfl, rfl⟩
                rw [← HB.out]
                go_wp2_with fail
                go_meet
                exact ⟨rfl, rfl, rfl⟩
              · have hb : ((r : Int) == 0) = false := by rw [beq_eq_false_iff_ne]; omega
                have HB := Lib.hid (show Mr = e by
                  have hdv : j / k = (j - 1) / k := by
                    have h1 := Hr.out
                    have h2 := Nat.div_add_mod j k
                    rw [← h1] at h2
                    have hrk : r < k := by rw [h1]; exact Nat.mod_lt _ (by omega)
                    have hj1 : 1 ≤ j := by have := Hj.out; omega
                    rw [show j - 1 = (r - 1) + k * (j / k) by generalize k * (j / k) = Z at h2 ⊢; omega, Nat.add_mul_div_left _ _ (by omega), Nat.div_eq_of_lt (show r - 1 < k by omega), Nat.zero_add]
                  rw [HM.out, He.out, hdv])
                obtain ⟨r8, hr8⟩ : ∃ r8, r8 = j % 8 := ⟨_, rfl⟩
                have em8 : (j : Int) % 8 = (r8 : Int) := by omega
                by_cases h8 : k = 8
                · have hb8 : ((k : Int) == 8) = true := by rw [h8]; rfl
                  by_cases h4 : r8 = 4
                  · have hb4 : ((r8 : Int) == 4) = true := by rw [h4]; rfl
                    have HA := Lib.hid (show T = subW t by rw [HT.out, turnOf, if_neg (by rw [← Hr.out]; exact hr0), if_pos ⟨h8, by rw [← hr8]; exact h4⟩])
                    have HBo := Lib.hid (aesBox_w C x (.slice (some ⟨m, 0, none⟩) j c) (.int .i64 (R : Int)) t ht32 wr HN.out.c HN.out.box)
                    clear hr0 h8 h4 hr8
                    go_wp2_with fail
                    refine HBo.out.mono ?_
                    rintro e1 w' ⟨rfl, rfl⟩
                    rw [← HA.out]
                    go_wp2_with fail
                    go_meet
                    exact ⟨by rw [HB.out], rfl, rfl⟩
                  · have hb4 : ((r8 : Int) == 4) = false := by rw [beq_eq_false_iff_ne]; omega
                    have HA := Lib.hid (show T = t by rw [HT.out, turnOf, if_neg (by rw [← Hr.out]; exact hr0), if_neg (by rw [← hr8]; omega)])
                    clear hr0 h8 h4 hr8
                    go_wp2_with fail
                    go_meet
                    exact ⟨by rw [HB.out], by rw [HA.out], rfl⟩
                · have hb8 : ((k : Int) == 8) = false := by rw [beq_eq_false_iff_ne]; omega
                  have HA := Lib.hid (show T = t by rw [HT.out, turnOf, if_neg (by rw [← Hr.out]; exact hr0), if_neg (fun h => h8 h.1)])
                  clear hr0 h8 hr8
                  go_wp2_with fail
                  go_meet
                  exact ⟨by rw [HB.out], by rw [HA.out], rfl⟩
            case rest =>
              obtain ⟨rfl, rfl, hwc⟩ := hcut
              subst hwc
              obtain ⟨z, hz'⟩ : ∃ z, W.getD q 0 = z := ⟨_, rfl⟩
              have hz32 : z < 4294967296 := by rw [← hz']; exact HWs.out.getD q
              have hxz := u32_xor_nat z T hz32 hT32
              obtain ⟨y, hy⟩ : ∃ y, y = z ^^^ T := ⟨_, rfl⟩
              rw [← hy] at hxz
              have HYe := Lib.hid (show nextW k W = y by
                have h1 := Hj.out
                rw [nextW, HWl.out, show j - k = q by omega, show j - 1 = p by omega, hz', Ht.out, ← HT.out, hy])
              have hd0 := nu_drew (nu_refl wc)
              have HN0 := Lib.hid (HN.out.under hd0)
              have HO0 := Lib.hid (own_kept HO.out hd0)
              clear hd0 HN HO em Hr
              go_upto_region 17 with fail
              have hqw : IntKind.i64.wrap (q : Int) = (q : Int) := by rw [IntKind.wrap_i64]; omega
              refine wp_region_held_drew (S := fun _ => True) (by kernel_rfl) (trivial) (fun hHeld => ?_)
              dsimp only [Array.replicate, List.replicate, List.size_toArray, List.length_cons, List.length_nil, Nat.reduceAdd] at hHeld ⊢
              generalize wc.drew = u0 at *
              have d0 : u0.cell? ⟨C, 0, none⟩ = some (.slice (some ⟨m, 0, none⟩) j c) := HN0.out.c.at 0 _ rfl
              have dq : u0.cell? ⟨m, q, none⟩ = some (.int .u32 (z : Int)) := by rw [← hz']; exact own_at HO0.out HWl.out q (by have := Hj.out; omega)
              clear hz' hy
              refine take_l (i := 0) (v := ?_) rfl (by kernel_rfl) (by kernel_rfl) (by kernel_rfl) (fun _ _ _ h => h) (Or.inl ⟨by rfl, ?_⟩) (by assumption) ?_
              case refine_2 => (intro _ _; go_simp; all_goals with_reducible rfl)
              simp only [Act.put, List.setIfInBounds_toArray, List.set_cons_zero, List.set_cons_succ]
              refine take_l (i := 1) (v := ?_) rfl (by kernel_rfl) (by kernel_rfl) (by kernel_rfl) (fun _ _ _ h => h) (Or.inl ⟨by rfl, ?_⟩) (by assumption) ?_
              case refine_2 => (intro _ _; go_simp; all_goals with_reducible rfl)
              simp only [Act.put, List.setIfInBounds_toArray, List.set_cons_zero, List.set_cons_succ]
              refine take_l (i := 2) (v := ?_) rfl (by kernel_rfl) (by kernel_rfl) (by kernel_rfl) (fun _ _ _ h => h) (Or.inl ⟨by rfl, ?_⟩) (by assumption) ?_
              case refine_2 => (intro _ _; go_simp; all_goals with_reducible rfl)
              simp only [Act.put, List.setIfInBounds_toArray, List.set_cons_zero, List.set_cons_succ]
              refine take_l (i := 3) (v := ?_) rfl (by kernel_rfl) (by kernel_rfl) (by kernel_rfl) (fun _ _ _ h => h) (Or.inl ⟨by rfl, ?_⟩) (by assumption) ?_
              case refine_2 => (intro _ _; go_simp; all_goals with_reducible rfl)
              simp only [Act.put, List.setIfInBounds_toArray, List.set_cons_zero, List.set_cons_succ]
              refine take_l (i := 5) (v := ?_) rfl (by kernel_rfl) (by kernel_rfl) (by kernel_rfl) (fun _ _ _ h => h) (Or.inl ⟨by rfl, ?_⟩) (by assumption) ?_
              case refine_2 => (intro _ _; go_simp; all_goals with_reducible rfl)
              simp only [Act.put, List.setIfInBounds_toArray, List.set_cons_zero, List.set_cons_succ]
              refine take_l (i := 6) (v := ?_) rfl (by kernel_rfl) (by kernel_rfl) (by kernel_rfl) (fun _ _ _ h => h) (Or.inl ⟨by rfl, ?_⟩) (by assumption) ?_
              case refine_2 => (intro _ _; go_simp; all_goals with_reducible rfl)
              simp only [Act.put, List.setIfInBounds_toArray, List.set_cons_zero, List.set_cons_succ]
              refine take_l (i := 7) (v := ?_) rfl (by kernel_rfl) (by kernel_rfl) (by kernel_rfl) (fun _ _ _ h => h) (Or.inl ⟨by rfl, ?_⟩) (by assumption) ?_
              case refine_2 => (intro _ _; go_simp; all_goals with_reducible rfl)
              simp only [Act.put, List.setIfInBounds_toArray, List.set_cons_zero, List.set_cons_succ]
              refine take_l (i := 9) (v := ?_) rfl (by kernel_rfl) (by kernel_rfl) (by kernel_rfl) (fun _ _ _ h => h) (Or.inl ⟨by rfl, ?_⟩) (by assumption) ?_
              case refine_2 => (intro _ _; go_simp; all_goals with_reducible rfl)
              simp only [Act.put, List.setIfInBounds_toArray, List.set_cons_zero, List.set_cons_succ]
              refine take_l (i := 10) (v := ?_) rfl (by kernel_rfl) (by kernel_rfl) (by kernel_rfl) (fun _ _ _ h => h) (Or.inl ⟨by rfl, ?_⟩) (by assumption) ?_
              case refine_2 => (intro _ _; go_simp; all_goals with_reducible rfl)
              simp only [Act.put, List.setIfInBounds_toArray, List.set_cons_zero, List.set_cons_succ]
              refine take_l (i := 11) (v := ?_) rfl (by kernel_rfl) (by kernel_rfl) (by kernel_rfl) (fun _ _ _ h => h) (Or.inl ⟨by rfl, ?_⟩) (by assumption) ?_
              case refine_2 => (intro _ _; go_simp; all_goals with_reducible rfl)
              simp only [Act.put, List.setIfInBounds_toArray, List.set_cons_zero, List.set_cons_succ]
              refine take_l (i := 14) (v := ?_) rfl (by kernel_rfl) (by kernel_rfl) (by kernel_rfl) (fun _ _ _ h => h) (Or.inl ⟨by rfl, ?_⟩) (by assumption) ?_
              case refine_2 => (intro _ _; go_simp; all_goals with_reducible rfl)
              simp only [Act.put, List.setIfInBounds_toArray, List.set_cons_zero, List.set_cons_succ]
              refine wpAnyH_ready (rs := [4, 8]) (by kernel_rfl) (by simp) ?_
              refine cons_l rfl (fun K hK => ?_) (cons_l rfl (fun K hK => ?_) AllReadyH.nil)
              · go_simp
                go_wp2_with fail
                refine hK.out _ _ trivial (fun hHeld => ?_)
                clear hK K
                simp only [Act.put, List.setIfInBounds_toArray, List.set_cons_zero, List.set_cons_succ]
                refine wpAnyH_ready (rs := [8]) (by kernel_rfl) (by simp) ?_
                refine cons_l rfl (fun K hK => ?_) AllReadyH.nil
                go_simp
                go_wp2_with fail
                refine hK.out _ _ trivial (fun hHeld => ?_)
                clear hK K
                simp only [Act.put, List.setIfInBounds_toArray, List.set_cons_zero, List.set_cons_succ]
                refine take_l (i := 12) (v := ?_) rfl (by kernel_rfl) (by kernel_rfl) (by kernel_rfl) (fun _ _ _ h => h) (Or.inl ⟨by rfl, ?_⟩) (by assumption) ?_
                case refine_2 => (intro _ _; go_simp; all_goals with_reducible rfl)
                simp only [Act.put, List.setIfInBounds_toArray, List.set_cons_zero, List.set_cons_succ]
                refine wpAnyH_ready (rs := [13]) (by kernel_rfl) (by simp) ?_
                refine cons_l rfl (fun K hK => ?_) AllReadyH.nil
                go_simp
                go_wp2_with fail
                refine hK.out _ _ trivial (fun hHeld => ?_)
                clear hK K
                simp only [Act.put, List.setIfInBounds_toArray, List.set_cons_zero, List.set_cons_succ]
                refine take_l (i := 15) (v := ?_) rfl (by kernel_rfl) (by kernel_rfl) (by kernel_rfl) (fun _ _ _ h => h) (Or.inl ⟨by rfl, ?_⟩) (by assumption) ?_
                case refine_2 => (intro _ _; go_simp; all_goals with_reducible rfl)
                simp only [Act.put, List.setIfInBounds_toArray, List.set_cons_zero, List.set_cons_succ]
                refine wpAnyH_ready (rs := [16]) (by kernel_rfl) (by simp) ?_
                refine cons_l rfl (fun K hK => ?_) AllReadyH.nil
                have hal := nu_alloc (nu_refl u0) (.cells #[.int .u32 (y : Int)] 71)
                have HY := Lib.hid (Blk.made u0 71 #[.int .u32 (y : Int)])
                have HN1 := Lib.hid (HN0.out.under hal)
                clear hal HN0 d0 dq
                go_simp
                go_wp2_with fail
                generalize u0.heap.size = jj at *
                generalize u0.alloc (.cells #[.int .u32 (y : Int)] 71) = u1 at *
                have d0 : u1.cell? ⟨C, 0, none⟩ = some (.slice (some ⟨m, 0, none⟩) j c) := HN1.out.c.at 0 _ rfl
                refine hK.out _ _ trivial (fun hHeld => ?_)
                clear hK K
                simp only [Act.put, List.setIfInBounds_toArray, List.set_cons_zero, List.set_cons_succ]
                refine wpAnyH_ready (rs := [17]) (by kernel_rfl) (by simp) ?_
                refine cons_l rfl (fun K hK => ?_) AllReadyH.nil
                refine step_append_own rfl (.tmp 96) (.tmp 108) 65 rfl B0 71 i0 (.int .u32 0) 1 4 Try.underlying65 Hi.out.1 Hi.out.2.1 Hi.out.2.2.1 Hi.out.2.2.2 rfl (by decide) (.slice (some ⟨m, 0, none⟩) j c) W.length (W.map uv) rfl HN1.out.own (some ⟨jj, 0, none⟩) 1 1 [uv y] rfl (fun h => by cases h) rfl (fun ad had i q hq => by injection had with had; subst had; rw [Addr.add_lit, Nat.zero_add]; exact HY.out.at i q (by simpa [uv] using hq)) (fun q hq => by rw [List.mem_singleton.1 hq]; rfl) (by rw [HWl.out]; unfold maxLen; omega) (by rw [HWl.out]; omega) HN1.out.base ?_
                intro v2 u9 hown hgr _
                obtain ⟨m2, q2, c2, hv2⟩ := own_slice hown (by omega)
                subst hv2
                obtain ⟨hP1, hP2, _⟩ := HN1.out.push hown hgr
                have HP := Lib.hid (show NewAt w C x B0 R (grow k (d + 1) (words key k)) (.slice (some ⟨m2, 0, none⟩) q2 c2) _ from by rw [HWn.out, HYe.out]; exact hP1)
                have f9 := hP2.free 0
                have c9 : u9.cell? ⟨C, 0, none⟩ = some (.slice (some ⟨m, 0, none⟩) j c) := hP2.at 0 _ rfl
                clear d0 hown hgr hP1 hP2 HN1 HY
                refine hK.out _ _ trivial (fun hHeld => ?_)
                clear hK K
                simp only [Act.put, List.setIfInBounds_toArray, List.set_cons_zero, List.set_cons_succ]
                refine take_l (i := 18) (v := ?_) rfl (by kernel_rfl) (by kernel_rfl) (by kernel_rfl) (fun _ _ _ h => h) (Or.inl ⟨by rfl, ?_⟩) (by assumption) ?_
                case refine_2 => (intro _ _; go_simp; all_goals with_reducible rfl)
                simp only [Act.put, List.setIfInBounds_toArray, List.set_cons_zero, List.set_cons_succ]
                refine take_l (i := 19) (v := ?_) rfl (by kernel_rfl) (by kernel_rfl) (by kernel_rfl) (fun _ _ _ h => h) (Or.inl ⟨by rfl, ?_⟩) (by assumption) ?_
                case refine_2 => (intro _ _; go_simp; all_goals with_reducible rfl)
                simp only [Act.put, List.setIfInBounds_toArray, List.set_cons_zero, List.set_cons_succ]
                refine wpAnyH_ready (rs := [20]) (by kernel_rfl) (by simp) ?_
                refine cons_l rfl (fun K hK => ?_) AllReadyH.nil
                go_simp
                go_wp2_with fail
                clear c9 f9
                generalize u9.setCell ⟨C, 0, none⟩ (.slice (some ⟨m2, 0, none⟩) q2 c2) = u10 at *
                refine hK.out _ _ trivial (fun hHeld => ?_)
                clear hK K
                simp only [Act.put, List.setIfInBounds_toArray, List.set_cons_zero, List.set_cons_succ]
                refine wpAnyH_done (by kernel_rfl) ?_ _
                go_wp2_with fail
                go_roundw
                case rel =>
                  have hR : ∃ (d' : Nat) (v : Value), d' ≤ 4 * (k + 7) - k ∧ Value.int .i64 ((j : Int) + 1) = .int .i64 ((k + d' : Nat) : Int) ∧ Value.int .u8 (Mr : Int) = .int .u8 ((gpow 2 ((k + d' - 1) / k) : Nat) : Int) ∧ NewAt w C x B0 R (grow k d' (words key k)) v u10 :=
                    ⟨d + 1, _, by have := Hj.out; have := Hlt.out; omega, by rw [show ((k + (d + 1) : Nat) : Int) = (j : Int) + 1 by have := Hj.out.1; omega], by rw [HM.out, show k + (d + 1) - 1 = j by have := Hj.out.1; omega], HP.out⟩
                  first | exact hR | ((repeat apply Exists.intro); exact ⟨hR, rfl⟩)
                case measure => have := Hlt.out; simp [intOf]; omega
              · go_simp
                go_wp2_with fail
                refine hK.out _ _ trivial (fun hHeld => ?_)
                clear hK K
                simp only [Act.put, List.setIfInBounds_toArray, List.set_cons_zero, List.set_cons_succ]
                refine take_l (i := 12) (v := ?_) rfl (by kernel_rfl) (by kernel_rfl) (by kernel_rfl) (fun _ _ _ h => h) (Or.inl ⟨by rfl, ?_⟩) (by assumption) ?_
                case refine_2 => (intro _ _; go_simp; all_goals with_reducible rfl)
                simp only [Act.put, List.setIfInBounds_toArray, List.set_cons_zero, List.set_cons_succ]
                refine wpAnyH_ready (rs := [4, 13]) (by kernel_rfl) (by simp) ?_
                refine cons_l rfl (fun K hK => ?_) (cons_l rfl (fun K hK => ?_) AllReadyH.nil)
                · go_simp
                  go_wp2_with fail
                  refine hK.out _ _ trivial (fun hHeld => ?_)
                  clear hK K
                  simp only [Act.put, List.setIfInBounds_toArray, List.set_cons_zero, List.set_cons_succ]
                  refine wpAnyH_ready (rs := [13]) (by kernel_rfl) (by simp) ?_
                  refine cons_l rfl (fun K hK => ?_) AllReadyH.nil
                  go_simp
                  go_wp2_with fail
                  refine hK.out _ _ trivial (fun hHeld => ?_)
                  clear hK K
                  simp only [Act.put, List.setIfInBounds_toArray, List.set_cons_zero, List.set_cons_succ]
                  refine take_l (i := 15) (v := ?_) rfl (by kernel_rfl) (by kernel_rfl) (by kernel_rfl) (fun _ _ _ h => h) (Or.inl ⟨by rfl, ?_⟩) (by assumption) ?_
                  case refine_2 => (intro _ _; go_simp; all_goals with_reducible rfl)
                  simp only [Act.put, List.setIfInBounds_toArray, List.set_cons_zero, List.set_cons_succ]
                  refine wpAnyH_ready (rs := [16]) (by kernel_rfl) (by simp) ?_
                  refine cons_l rfl (fun K hK => ?_) AllReadyH.nil
                  have hal := nu_alloc (nu_refl u0) (.cells #[.int .u32 (y : Int)] 71)
                  have HY := Lib.hid (Blk.made u0 71 #[.int .u32 (y : Int)])
                  have HN1 := Lib.hid (HN0.out.under hal)
                  clear hal HN0 d0 dq
                  go_simp
                  go_wp2_with fail
                  generalize u0.heap.size = jj at *
                  generalize u0.alloc (.cells #[.int .u32 (y : Int)] 71) = u1 at *
                  have d0 : u1.cell? ⟨C, 0, none⟩ = some (.slice (some ⟨m, 0, none⟩) j c) := HN1.out.c.at 0 _ rfl
                  refine hK.out _ _ trivial (fun hHeld => ?_)
                  clear hK K
                  simp only [Act.put, List.setIfInBounds_toArray, List.set_cons_zero, List.set_cons_succ]
                  refine wpAnyH_ready (rs := [17]) (by kernel_rfl) (by simp) ?_
                  refine cons_l rfl (fun K hK => ?_) AllReadyH.nil
                  refine step_append_own rfl (.tmp 96) (.tmp 108) 65 rfl B0 71 i0 (.int .u32 0) 1 4 Try.underlying65 Hi.out.1 Hi.out.2.1 Hi.out.2.2.1 Hi.out.2.2.2 rfl (by decide) (.slice (some ⟨m, 0, none⟩) j c) W.length (W.map uv) rfl HN1.out.own (some ⟨jj, 0, none⟩) 1 1 [uv y] rfl (fun h => by cases h) rfl (fun ad had i q hq => by injection had with had; subst had; rw [Addr.add_lit, Nat.zero_add]; exact HY.out.at i q (by simpa [uv] using hq)) (fun q hq => by rw [List.mem_singleton.1 hq]; rfl) (by rw [HWl.out]; unfold maxLen; omega) (by rw [HWl.out]; omega) HN1.out.base ?_
                  intro v2 u9 hown hgr _
                  obtain ⟨m2, q2, c2, hv2⟩ := own_slice hown (by omega)
                  subst hv2
                  obtain ⟨hP1, hP2, _⟩ := HN1.out.push hown hgr
                  have HP := Lib.hid (show NewAt w C x B0 R (grow k (d + 1) (words key k)) (.slice (some ⟨m2, 0, none⟩) q2 c2) _ from by rw [HWn.out, HYe.out]; exact hP1)
                  have f9 := hP2.free 0
                  have c9 : u9.cell? ⟨C, 0, none⟩ = some (.slice (some ⟨m, 0, none⟩) j c) := hP2.at 0 _ rfl
                  clear d0 hown hgr hP1 hP2 HN1 HY
                  refine hK.out _ _ trivial (fun hHeld => ?_)
                  clear hK K
                  simp only [Act.put, List.setIfInBounds_toArray, List.set_cons_zero, List.set_cons_succ]
                  refine take_l (i := 18) (v := ?_) rfl (by kernel_rfl) (by kernel_rfl) (by kernel_rfl) (fun _ _ _ h => h) (Or.inl ⟨by rfl, ?_⟩) (by assumption) ?_
                  case refine_2 => (intro _ _; go_simp; all_goals with_reducible rfl)
                  simp only [Act.put, List.setIfInBounds_toArray, List.set_cons_zero, List.set_cons_succ]
                  refine take_l (i := 19) (v := ?_) rfl (by kernel_rfl) (by kernel_rfl) (by kernel_rfl) (fun _ _ _ h => h) (Or.inl ⟨by rfl, ?_⟩) (by assumption) ?_
                  case refine_2 => (intro _ _; go_simp; all_goals with_reducible rfl)
                  simp only [Act.put, List.setIfInBounds_toArray, List.set_cons_zero, List.set_cons_succ]
                  refine wpAnyH_ready (rs := [20]) (by kernel_rfl) (by simp) ?_
                  refine cons_l rfl (fun K hK => ?_) AllReadyH.nil
                  go_simp
                  go_wp2_with fail
                  clear c9 f9
                  generalize u9.setCell ⟨C, 0, none⟩ (.slice (some ⟨m2, 0, none⟩) q2 c2) = u10 at *
                  refine hK.out _ _ trivial (fun hHeld => ?_)
                  clear hK K
                  simp only [Act.put, List.setIfInBounds_toArray, List.set_cons_zero, List.set_cons_succ]
                  refine wpAnyH_done (by kernel_rfl) ?_ _
                  go_wp2_with fail
                  go_roundw
                  case rel =>
                    have hR : ∃ (d' : Nat) (v : Value), d' ≤ 4 * (k + 7) - k ∧ Value.int .i64 ((j : Int) + 1) = .int .i64 ((k + d' : Nat) : Int) ∧ Value.int .u8 (Mr : Int) = .int .u8 ((gpow 2 ((k + d' - 1) / k) : Nat) : Int) ∧ NewAt w C x B0 R (grow k d' (words key k)) v u10 :=
                      ⟨d + 1, _, by have := Hj.out; have := Hlt.out; omega, by rw [show ((k + (d + 1) : Nat) : Int) = (j : Int) + 1 by have := Hj.out.1; omega], by rw [HM.out, show k + (d + 1) - 1 = j by have := Hj.out.1; omega], HP.out⟩
                    first | exact hR | ((repeat apply Exists.intro); exact ⟨hR, rfl⟩)
                  case measure => have := Hlt.out; simp [intOf]; omega
                · go_simp
                  go_wp2_with fail
                  refine hK.out _ _ trivial (fun hHeld => ?_)
                  clear hK K
                  simp only [Act.put, List.setIfInBounds_toArray, List.set_cons_zero, List.set_cons_succ]
                  refine take_l (i := 15) (v := ?_) rfl (by kernel_rfl) (by kernel_rfl) (by kernel_rfl) (fun _ _ _ h => h) (Or.inl ⟨by rfl, ?_⟩) (by assumption) ?_
                  case refine_2 => (intro _ _; go_simp; all_goals with_reducible rfl)
                  simp only [Act.put, List.setIfInBounds_toArray, List.set_cons_zero, List.set_cons_succ]
                  refine wpAnyH_ready (rs := [4, 16]) (by kernel_rfl) (by simp) ?_
                  refine cons_l rfl (fun K hK => ?_) (cons_l rfl (fun K hK => ?_) AllReadyH.nil)
                  · go_simp
                    go_wp2_with fail
                    refine hK.out _ _ trivial (fun hHeld => ?_)
                    clear hK K
                    simp only [Act.put, List.setIfInBounds_toArray, List.set_cons_zero, List.set_cons_succ]
                    refine wpAnyH_ready (rs := [16]) (by kernel_rfl) (by simp) ?_
                    refine cons_l rfl (fun K hK => ?_) AllReadyH.nil
                    have hal := nu_alloc (nu_refl u0) (.cells #[.int .u32 (y : Int)] 71)
                    have HY := Lib.hid (Blk.made u0 71 #[.int .u32 (y : Int)])
                    have HN1 := Lib.hid (HN0.out.under hal)
                    clear hal HN0 d0 dq
                    go_simp
                    go_wp2_with fail
                    generalize u0.heap.size = jj at *
                    generalize u0.alloc (.cells #[.int .u32 (y : Int)] 71) = u1 at *
                    have d0 : u1.cell? ⟨C, 0, none⟩ = some (.slice (some ⟨m, 0, none⟩) j c) := HN1.out.c.at 0 _ rfl
                    refine hK.out _ _ trivial (fun hHeld => ?_)
                    clear hK K
                    simp only [Act.put, List.setIfInBounds_toArray, List.set_cons_zero, List.set_cons_succ]
                    refine wpAnyH_ready (rs := [17]) (by kernel_rfl) (by simp) ?_
                    refine cons_l rfl (fun K hK => ?_) AllReadyH.nil
                    refine step_append_own rfl (.tmp 96) (.tmp 108) 65 rfl B0 71 i0 (.int .u32 0) 1 4 Try.underlying65 Hi.out.1 Hi.out.2.1 Hi.out.2.2.1 Hi.out.2.2.2 rfl (by decide) (.slice (some ⟨m, 0, none⟩) j c) W.length (W.map uv) rfl HN1.out.own (some ⟨jj, 0, none⟩) 1 1 [uv y] rfl (fun h => by cases h) rfl (fun ad had i q hq => by injection had with had; subst had; rw [Addr.add_lit, Nat.zero_add]; exact HY.out.at i q (by simpa [uv] using hq)) (fun q hq => by rw [List.mem_singleton.1 hq]; rfl) (by rw [HWl.out]; unfold maxLen; omega) (by rw [HWl.out]; omega) HN1.out.base ?_
                    intro v2 u9 hown hgr _
                    obtain ⟨m2, q2, c2, hv2⟩ := own_slice hown (by omega)
                    subst hv2
                    obtain ⟨hP1, hP2, _⟩ := HN1.out.push hown hgr
                    have HP := Lib.hid (show NewAt w C x B0 R (grow k (d + 1) (words key k)) (.slice (some ⟨m2, 0, none⟩) q2 c2) _ from by rw [HWn.out, HYe.out]; exact hP1)
                    have f9 := hP2.free 0
                    have c9 : u9.cell? ⟨C, 0, none⟩ = some (.slice (some ⟨m, 0, none⟩) j c) := hP2.at 0 _ rfl
                    clear d0 hown hgr hP1 hP2 HN1 HY
                    refine hK.out _ _ trivial (fun hHeld => ?_)
                    clear hK K
                    simp only [Act.put, List.setIfInBounds_toArray, List.set_cons_zero, List.set_cons_succ]
                    refine take_l (i := 18) (v := ?_) rfl (by kernel_rfl) (by kernel_rfl) (by kernel_rfl) (fun _ _ _ h => h) (Or.inl ⟨by rfl, ?_⟩) (by assumption) ?_
                    case refine_2 => (intro _ _; go_simp; all_goals with_reducible rfl)
                    simp only [Act.put, List.setIfInBounds_toArray, List.set_cons_zero, List.set_cons_succ]
                    refine take_l (i := 19) (v := ?_) rfl (by kernel_rfl) (by kernel_rfl) (by kernel_rfl) (fun _ _ _ h => h) (Or.inl ⟨by rfl, ?_⟩) (by assumption) ?_
                    case refine_2 => (intro _ _; go_simp; all_goals with_reducible rfl)
                    simp only [Act.put, List.setIfInBounds_toArray, List.set_cons_zero, List.set_cons_succ]
                    refine wpAnyH_ready (rs := [20]) (by kernel_rfl) (by simp) ?_
                    refine cons_l rfl (fun K hK => ?_) AllReadyH.nil
                    go_simp
                    go_wp2_with fail
                    clear c9 f9
                    generalize u9.setCell ⟨C, 0, none⟩ (.slice (some ⟨m2, 0, none⟩) q2 c2) = u10 at *
                    refine hK.out _ _ trivial (fun hHeld => ?_)
                    clear hK K
                    simp only [Act.put, List.setIfInBounds_toArray, List.set_cons_zero, List.set_cons_succ]
                    refine wpAnyH_done (by kernel_rfl) ?_ _
                    go_wp2_with fail
                    go_roundw
                    case rel =>
                      have hR : ∃ (d' : Nat) (v : Value), d' ≤ 4 * (k + 7) - k ∧ Value.int .i64 ((j : Int) + 1) = .int .i64 ((k + d' : Nat) : Int) ∧ Value.int .u8 (Mr : Int) = .int .u8 ((gpow 2 ((k + d' - 1) / k) : Nat) : Int) ∧ NewAt w C x B0 R (grow k d' (words key k)) v u10 :=
                        ⟨d + 1, _, by have := Hj.out; have := Hlt.out; omega, by rw [show ((k + (d + 1) : Nat) : Int) = (j : Int) + 1 by have := Hj.out.1; omega], by rw [HM.out, show k + (d + 1) - 1 = j by have := Hj.out.1; omega], HP.out⟩
                      first | exact hR | ((repeat apply Exists.intro); exact ⟨hR, rfl⟩)
                    case measure => have := Hlt.out; simp [intOf]; omega
                  · have hal := nu_alloc (nu_refl u0) (.cells #[.int .u32 (y : Int)] 71)
                    have HY := Lib.hid (Blk.made u0 71 #[.int .u32 (y : Int)])
                    have HN1 := Lib.hid (HN0.out.under hal)
                    clear hal HN0 d0 dq
                    go_simp
                    go_wp2_with fail
                    generalize u0.heap.size = jj at *
                    generalize u0.alloc (.cells #[.int .u32 (y : Int)] 71) = u1 at *
                    have d0 : u1.cell? ⟨C, 0, none⟩ = some (.slice (some ⟨m, 0, none⟩) j c) := HN1.out.c.at 0 _ rfl
                    refine hK.out _ _ trivial (fun hHeld => ?_)
                    clear hK K
                    simp only [Act.put, List.setIfInBounds_toArray, List.set_cons_zero, List.set_cons_succ]
                    refine wpAnyH_ready (rs := [4]) (by kernel_rfl) (by simp) ?_
                    refine cons_l rfl (fun K hK => ?_) AllReadyH.nil
                    go_simp
                    go_wp2_with fail
                    refine hK.out _ _ trivial (fun hHeld => ?_)
                    clear hK K
                    simp only [Act.put, List.setIfInBounds_toArray, List.set_cons_zero, List.set_cons_succ]
                    refine wpAnyH_ready (rs := [17]) (by kernel_rfl) (by simp) ?_
                    refine cons_l rfl (fun K hK => ?_) AllReadyH.nil
                    refine step_append_own rfl (.tmp 96) (.tmp 108) 65 rfl B0 71 i0 (.int .u32 0) 1 4 Try.underlying65 Hi.out.1 Hi.out.2.1 Hi.out.2.2.1 Hi.out.2.2.2 rfl (by decide) (.slice (some ⟨m, 0, none⟩) j c) W.length (W.map uv) rfl HN1.out.own (some ⟨jj, 0, none⟩) 1 1 [uv y] rfl (fun h => by cases h) rfl (fun ad had i q hq => by injection had with had; subst had; rw [Addr.add_lit, Nat.zero_add]; exact HY.out.at i q (by simpa [uv] using hq)) (fun q hq => by rw [List.mem_singleton.1 hq]; rfl) (by rw [HWl.out]; unfold maxLen; omega) (by rw [HWl.out]; omega) HN1.out.base ?_
                    intro v2 u9 hown hgr _
                    obtain ⟨m2, q2, c2, hv2⟩ := own_slice hown (by omega)
                    subst hv2
                    obtain ⟨hP1, hP2, _⟩ := HN1.out.push hown hgr
                    have HP := Lib.hid (show NewAt w C x B0 R (grow k (d + 1) (words key k)) (.slice (some ⟨m2, 0, none⟩) q2 c2) _ from by rw [HWn.out, HYe.out]; exact hP1)
                    have f9 := hP2.free 0
                    have c9 : u9.cell? ⟨C, 0, none⟩ = some (.slice (some ⟨m, 0, none⟩) j c) := hP2.at 0 _ rfl
                    clear d0 hown hgr hP1 hP2 HN1 HY
                    refine hK.out _ _ trivial (fun hHeld => ?_)
                    clear hK K
                    simp only [Act.put, List.setIfInBounds_toArray, List.set_cons_zero, List.set_cons_succ]
                    refine take_l (i := 18) (v := ?_) rfl (by kernel_rfl) (by kernel_rfl) (by kernel_rfl) (fun _ _ _ h => h) (Or.inl ⟨by rfl, ?_⟩) (by assumption) ?_
                    case refine_2 => (intro _ _; go_simp; all_goals with_reducible rfl)
                    simp only [Act.put, List.setIfInBounds_toArray, List.set_cons_zero, List.set_cons_succ]
                    refine take_l (i := 19) (v := ?_) rfl (by kernel_rfl) (by kernel_rfl) (by kernel_rfl) (fun _ _ _ h => h) (Or.inl ⟨by rfl, ?_⟩) (by assumption) ?_
                    case refine_2 => (intro _ _; go_simp; all_goals with_reducible rfl)
                    simp only [Act.put, List.setIfInBounds_toArray, List.set_cons_zero, List.set_cons_succ]
                    refine wpAnyH_ready (rs := [20]) (by kernel_rfl) (by simp) ?_
                    refine cons_l rfl (fun K hK => ?_) AllReadyH.nil
                    go_simp
                    go_wp2_with fail
                    clear c9 f9
                    generalize u9.setCell ⟨C, 0, none⟩ (.slice (some ⟨m2, 0, none⟩) q2 c2) = u10 at *
                    refine hK.out _ _ trivial (fun hHeld => ?_)
                    clear hK K
                    simp only [Act.put, List.setIfInBounds_toArray, List.set_cons_zero, List.set_cons_succ]
                    refine wpAnyH_done (by kernel_rfl) ?_ _
                    go_wp2_with fail
                    go_roundw
                    case rel =>
                      have hR : ∃ (d' : Nat) (v : Value), d' ≤ 4 * (k + 7) - k ∧ Value.int .i64 ((j : Int) + 1) = .int .i64 ((k + d' : Nat) : Int) ∧ Value.int .u8 (Mr : Int) = .int .u8 ((gpow 2 ((k + d' - 1) / k) : Nat) : Int) ∧ NewAt w C x B0 R (grow k d' (words key k)) v u10 :=
                        ⟨d + 1, _, by have := Hj.out; have := Hlt.out; omega, by rw [show ((k + (d + 1) : Nat) : Int) = (j : Int) + 1 by have := Hj.out.1; omega], by rw [HM.out, show k + (d + 1) - 1 = j by have := Hj.out.1; omega], HP.out⟩
                      first | exact hR | ((repeat apply Exists.intro); exact ⟨hR, rfl⟩)
                    case measure => have := Hlt.out; simp [intOf]; omega
          · obtain rfl : d = 4 * (k + 7) - k := by have := Hj.out; omega
            have hji : ¬ (j : Int) < 4 * ((R : Int) + 1) := by have := HR.out; omega
            have HF := Lib.hid (show NewAt w C x B0 (k + 6) (expand key) (.slice (some ⟨m, 0, none⟩) j c) wr by
              have h := hN
              rw [HR.out] at h
              rw [expand, Hkl.out, show L / 4 = k by have := HL.out; omega]
              exact h)
            clear hN hWl hWs hW hj hown hp hq' hd he hlt HO HN HWn HW HWs HWl
            go_wp2_with fail
            go_ret2
            exact ⟨C, x, B0, _, rfl, HF.out⟩
end Go.Proofs.Ytpeibkdcglkimaa

namespace Go.Proofs.Ytpeibkdcglkimaa

/-- The first j of l; the others are noughts. -/
def fillTo (l : List Nat) (n j : Nat) : List Nat := l.take j ++ List.replicate (n - j) 0
theorem fillTo_zero (l : List Nat) (n : Nat) : fillTo l n 0 = List.replicate n 0 := by simp [fillTo]
theorem fillTo_all (l : List Nat) (n : Nat) (h : l.length = n) : fillTo l n n = l := by
  unfold fillTo
  rw [List.take_of_length_le (by omega), Nat.sub_self]
  simp
theorem fillTo_length (l : List Nat) (n j : Nat) (h : l.length = n) (hj : j ≤ n) : (fillTo l n j).length = n := by
  unfold fillTo
  rw [List.length_append, List.length_take, List.length_replicate]
  omega
theorem fillTo_at (l : List Nat) (n j : Nat) (h : l.length = n) (hj : j < n) : (fillTo l n j)[j]? = some 0 := by
  unfold fillTo
  rw [List.getElem?_append_right (by rw [List.length_take]; omega), List.length_take, show j - min j l.length = 0 by omega, List.getElem?_replicate]
  simp
  omega
theorem fillTo_succ (l : List Nat) (n j x : Nat) (h : l.length = n) (hj : j < n) (hx : l[j]? = some x) : (fillTo l n j).set j x = fillTo l n (j + 1) := by
  unfold fillTo
  rw [List.set_append, if_neg (by rw [List.length_take]; omega), List.length_take, show j - min j l.length = 0 by omega, show n - j = (n - (j + 1)) + 1 by omega, List.replicate_succ, List.set_cons_zero, List.take_add_one, hx]
  simp
theorem arr_set (l : List Nat) (j x : Nat) : ((l.map vb).toArray).setIfInBounds j (vb x) = ((l.set j x).map vb).toArray := by
  rw [List.map_set]
  simp
theorem arr_at (l : List Nat) (j x : Nat) (hx : l[j]? = some x) : ((l.map vb).toArray)[j]? = some (vb x) := by
  rw [List.getElem?_toArray, List.getElem?_map, hx]
  rfl
theorem arr_size (l : List Nat) : ((l.map vb).toArray).size = l.length := by simp
end Go.Proofs.Ytpeibkdcglkimaa

namespace Go.Proofs.Ytpeibkdcglkimaa
open Go.ChangeShapes Go.WideShapes Go.ChangeAt Go.RowKit Fld Aes
set_option linter.unusedSimpArgs false

theorem arrg_set (f : Nat → Value) (l : List Nat) (j x : Nat) : ((l.map f).toArray).setIfInBounds j (f x) = ((l.set j x).map f).toArray := by
  rw [List.setIfInBounds_toArray, List.map_set]
theorem arrg_at (f : Nat → Value) (l : List Nat) (j x : Nat) (hx : l[j]? = some x) : ((l.map f).toArray)[j]? = some (f x) := by
  rw [List.getElem?_toArray, List.getElem?_map, hx]; rfl

/-- A cipher of the words W and R rounds. -/
def CiphAt (w : World) (C : Nat) (W : List Nat) (R : Nat) : Prop :=
  ∃ x m c cur, Blk w C 67 (ciph (.slice (some ⟨m, 0, none⟩) W.length c) R x) ∧ Blk w m 71 cur ∧ cur.toList.take W.length = W.map uv ∧ BoxAt w x ∧ x < w.heap.size ∧ W.length ≤ c ∧ c ≤ maxLen
theorem CiphAt.below {w w' : World} {C : Nat} {W : List Nat} {R : Nat} (h : CiphAt w C W R) (hb : Below w.heap.size w w') : CiphAt w' C W R := by
  obtain ⟨x, m, c, cur, h1, h2, h3, h4, h5, h6⟩ := h
  exact ⟨x, m, c, cur, h1.below hb h1.lt, h2.below hb h2.lt, h3, h4.below hb h5, Nat.lt_of_lt_of_le h5 hb.size, h6⟩
theorem ciphAt_new {w u : World} {C x B0 R : Nat} {W : List Nat} {v : Value} (h : NewAt w C x B0 R W v u) (hW : 0 < W.length) : CiphAt u C W R := by
  rcases h.own.2 with ⟨_, h0⟩ | ⟨m, c, cur, rfl, hb, hm, hc1, hc2, _, htk⟩
  · omega
  · exact ⟨x, m, c, cur, h.c, hm, by rw [Nat.mul_one] at htk; exact htk, h.box, by have := h.c.lt; have := h.ord; omega, hc1, hc2⟩
theorem word_at {w : World} {m : Nat} {cur : Array Value} {W : List Nat} (hm : Blk w m 71 cur) (ht : cur.toList.take W.length = W.map uv) (i : Nat) (hi : i < W.length) : w.cell? ⟨m, i, none⟩ = some (.int .u32 ((W.getD i 0 : Nat) : Int)) := by
  have hx : W[i]? = some (W.getD i 0) := by rw [List.getD_eq_getElem?_getD, List.getElem?_eq_getElem hi]; rfl
  refine hm.at i _ ?_
  have e1 : (cur.toList.take W.length)[i]? = some (uv (W.getD i 0)) := by rw [ht, List.getElem?_map, hx]; rfl
  rw [List.getElem?_take, if_pos hi] at e1
  rw [← Array.getElem?_toList]
  exact e1

theorem or_word (x0 x1 x2 x3 : Nat) (h0 : x0 < 256) (h1 : x1 < 256) (h2 : x2 < 256) (h3 : x3 < 256) :
    bits .or .u32 (bits .or .u32 (bits .or .u32 (IntKind.u32.wrap ((x0 : Int) * 16777216)) (IntKind.u32.wrap ((x1 : Int) * 65536))) (IntKind.u32.wrap ((x2 : Int) * 256))) (x3 : Int) = ((wN x0 x1 x2 x3 : Nat) : Int) := by
  rw [show IntKind.u32.wrap ((x0 : Int) * 16777216) = (x0 : Int) * 16777216 by rw [IntKind.wrap_u32]; omega, show IntKind.u32.wrap ((x1 : Int) * 65536) = (x1 : Int) * 65536 by rw [IntKind.wrap_u32]; omega, show IntKind.u32.wrap ((x2 : Int) * 256) = (x2 : Int) * 256 by rw [IntKind.wrap_u32]; omega]
  exact wN_or x0 x1 x2 x3 h0 h1 h2 h3

/-- A state's columns, xored with a round's words. -/
def colOf (b : List Nat) (i : Nat) : Nat := wN (b.getD (4 * i) 0) (b.getD (4 * i + 1) 0) (b.getD (4 * i + 2) 0) (b.getD (4 * i + 3) 0)
theorem colOf_lt {b : List Nat} (h : St16 b) (i : Nat) : colOf b i < 4294967296 := wN_lt _ _ _ _ (h.getD _) (h.getD _) (h.getD _) (h.getD _)
def loadL (W : List Nat) (r : Nat) (b : List Nat) : List Nat := (List.range 4).map fun i => colOf b i ^^^ W.getD (4 * r + i) 0
theorem loadL_len (W : List Nat) (r : Nat) (b : List Nat) : (loadL W r b).length = 4 := by simp [loadL]
theorem loadL_at (W : List Nat) (r : Nat) (b : List Nat) (i : Nat) (hi : i < 4) : (loadL W r b)[i]? = some (colOf b i ^^^ W.getD (4 * r + i) 0) := by
  simp [loadL, hi]
/-- The first k are done, the others are as they were. -/
def doneF (L l : List Nat) (k : Nat) : List Nat := L.take k ++ l.drop k
theorem doneF_zero (L l : List Nat) : doneF L l 0 = l := by simp [doneF]
theorem doneF_all (L l : List Nat) (n : Nat) (h1 : L.length = n) (h2 : l.length = n) : doneF L l n = L := by
  unfold doneF
  rw [List.take_of_length_le (by omega), List.drop_of_length_le (by omega), List.append_nil]
theorem doneF_len (L l : List Nat) (n k : Nat) (h1 : L.length = n) (h2 : l.length = n) (hk : k ≤ n) : (doneF L l k).length = n := by simp [doneF]; omega
theorem doneF_old (L l : List Nat) (n k i : Nat) (h1 : L.length = n) (hk : k ≤ i) (hi : k ≤ n) : (doneF L l k)[i]? = l[i]? := by
  unfold doneF
  rw [List.getElem?_append_right (by simp; omega), List.length_take, List.getElem?_drop]
  congr 1; omega
theorem doneF_new (L l : List Nat) (n k i : Nat) (h1 : L.length = n) (hk : i < k) (hi : k ≤ n) : (doneF L l k)[i]? = L[i]? := by
  unfold doneF
  rw [List.getElem?_append_left (by simp; omega), List.getElem?_take, if_pos hk]
theorem doneF_set (L l : List Nat) (n k x : Nat) (h1 : L.length = n) (h2 : l.length = n) (hk : k < n) (hx : L[k]? = some x) : (doneF L l k).set k x = doneF L l (k + 1) := by
  apply List.ext_getElem?
  intro i
  rw [List.getElem?_set]
  by_cases e : k = i
  · subst e
    rw [if_pos rfl, if_pos (by rw [doneF_len L l n k h1 h2 (by omega)]; exact hk), doneF_new L l n (k + 1) k h1 (by omega) (by omega), hx]
  · rw [if_neg e]
    by_cases h : i < k
    · rw [doneF_new L l n k i h1 h (by omega), doneF_new L l n (k + 1) i h1 (by omega) (by omega)]
    · rw [doneF_old L l n k i h1 (by omega) (by omega), doneF_old L l n (k + 1) i h1 (by omega) (by omega)]
abbrev z4 : List Nat := [0, 0, 0, 0]

set_option maxRecDepth 100000 in
set_option maxHeartbeats 2000000 in
theorem aload_any {w : World} {C R : Nat} {W : List Nat} (hC : CiphAt w C W R) (hW : Small W) (r : Nat) (hr : 4 * r + 4 ≤ W.length) (hr60 : r ≤ 60) (b : List Nat) (hb : St16 b) :
    Calls Try.prog 43 #[.pointer (some ⟨C, 0, none⟩), .agg (b.map vb).toArray, .int .i64 (r : Int)] w fun e w' => e = .returned (.agg ((loadL W r b).map uv).toArray) ∧ Below w.heap.size w w' := by
  obtain ⟨x, m, c, cur, hc, hm, htk, _, _, hlc, hcm⟩ := hC
  have HC0 := Lib.hid (Blk.at hc 0 _ rfl)
  have hCl := hc.lt
  have hml := hm.lt
  have Hm := Lib.hid hm
  have Ht := Lib.hid htk
  have Hb := Lib.hid hb
  have hal := nu_alloc (nu_alloc (nu_alloc (nu_refl w) (.cells (b.map vb).toArray 44)) (.cells (z4.map uv).toArray 85)) (.cells (z4.map uv).toArray 85)
  have HB := Lib.hid (((Blk.made w 44 (b.map vb).toArray).alloc (.cells (z4.map uv).toArray 85)).alloc (.cells (z4.map uv).toArray 85))
  have HZ := Lib.hid ((Blk.made1 w (.cells (b.map vb).toArray 44) 85 (z4.map uv).toArray).alloc (.cells (z4.map uv).toArray 85))
  have HS := Lib.hid (Blk.made2 w (.cells (b.map vb).toArray 44) (.cells (z4.map uv).toArray 85) 85 (z4.map uv).toArray)
  unfold maxLen at hcm
  clear hc hm htk hb
  go_enter Try.func43, Try.ntmps43
  go_upto_region 2 with fail
  change Code.wp _ _ _ _ (((w.alloc (.cells (b.map vb).toArray 44)).alloc (.cells (z4.map uv).toArray 85)).alloc (.cells (z4.map uv).toArray 85))
  generalize ((w.alloc (.cells (b.map vb).toArray 44)).alloc (.cells (z4.map uv).toArray 85)).alloc (.cells (z4.map uv).toArray 85) = w1 at *
  obtain ⟨Z, hZ⟩ : ∃ Z, Z = w.heap.size + 1 := ⟨_, rfl⟩
  obtain ⟨S, hS⟩ : ∃ S, S = w.heap.size + 1 + 1 := ⟨_, rfl⟩
  rw [← hZ] at HZ
  rw [← hS] at HS
  rw [← hS, ← hZ]
  have Hap := Lib.hid (show Z ≠ S ∧ w.heap.size ≠ S ∧ w.heap.size ≤ S ∧ w.heap.size ≤ Z from ⟨by omega, by omega, by omega, by omega⟩)
  clear hZ hS
  go_wp2_with fail
  go_loopw [9] (fun i wr => ∃ k : Nat, k ≤ 4 ∧ i = .int .i64 k ∧ Blk wr w.heap.size 44 (b.map vb).toArray ∧ Blk wr Z 85 (z4.map uv).toArray ∧ Blk wr S 85 ((doneF (loadL W r b) z4 k).map uv).toArray ∧ Below w.heap.size w wr) (fun i _ => 4 - (intOf i).toNat)
  case atStart => exact ⟨0, by omega, rfl, HB.out, HZ.out, HS.out, hal⟩
  case round =>
    clear HB HZ HS hal
    obtain ⟨k, hk, rfl, hB, hZ, hS, hn⟩ := hrel
    have HB := Lib.hid hB
    have HZ := Lib.hid hZ
    have HS := Lib.hid hS
    clear hB hZ hS
    by_cases hlt : k < 4
    · have hki : (k : Int) < 4 := by omega
      have e0 : ∀ j, j < 4 → ∃ x : Nat, x < 256 ∧ b[4 * k + j]? = some x ∧ b.getD (4 * k + j) 0 = x := fun j hj => by
        have hlt : 4 * k + j < b.length := by rw [Hb.out.1]; omega
        have h1 := List.getElem?_eq_getElem hlt
        exact ⟨b[4 * k + j], Hb.out.2 _ (List.getElem_mem hlt), h1, by rw [List.getD_eq_getElem?_getD, h1]; rfl⟩
      obtain ⟨x0, hx0, ex0, ey0⟩ := e0 0 (by omega)
      obtain ⟨x1, hx1, ex1, ey1⟩ := e0 1 (by omega)
      obtain ⟨x2, hx2, ex2, ey2⟩ := e0 2 (by omega)
      obtain ⟨x3, hx3, ex3, ey3⟩ := e0 3 (by omega)
      have hcol : colOf b k = wN x0 x1 x2 x3 := by unfold colOf; rw [show 4 * k = 4 * k + 0 from rfl, ey0, ey1, ey2, ey3]
      have hc32 := colOf_lt Hb.out k
      rw [hcol] at hc32
      obtain ⟨n, hn4⟩ : ∃ n, n = 4 * k := ⟨_, rfl⟩
      have wp0 : IntKind.i64.wrap (4 * (k : Int)) = (n : Int) := by rw [IntKind.wrap_i64]; omega
      have hi0 : (n : Int) < 16 := by omega
      obtain ⟨n1, hn1⟩ : ∃ q, q = n + 1 := ⟨_, rfl⟩
      have wp1 : IntKind.i64.wrap ((n : Int) + 1) = (n1 : Int) := by rw [IntKind.wrap_i64]; omega
      have hi1 : (n1 : Int) < 16 := by omega
      obtain ⟨n2, hn2⟩ : ∃ q, q = n + 2 := ⟨_, rfl⟩
      have wp2 : IntKind.i64.wrap ((n : Int) + 2) = (n2 : Int) := by rw [IntKind.wrap_i64]; omega
      have hi2 : (n2 : Int) < 16 := by omega
      obtain ⟨n3, hn3⟩ : ∃ q, q = n + 3 := ⟨_, rfl⟩
      have wp3 : IntKind.i64.wrap ((n : Int) + 3) = (n3 : Int) := by rw [IntKind.wrap_i64]; omega
      have hi3 : (n3 : Int) < 16 := by omega
      have q0 : IntKind.u32.wrap (x0 : Int) = (x0 : Int) := by rw [IntKind.wrap_u32]; omega
      have c0 : wr.cell? ⟨w.heap.size, n, none⟩ = some (.int .u8 (x0 : Int)) := HB.out.at n _ (arr_at b n x0 (by rw [hn4]; exact ex0))
      have q1 : IntKind.u32.wrap (x1 : Int) = (x1 : Int) := by rw [IntKind.wrap_u32]; omega
      have c1 : wr.cell? ⟨w.heap.size, n1, none⟩ = some (.int .u8 (x1 : Int)) := HB.out.at n1 _ (arr_at b n1 x1 (by rw [hn1, hn4]; exact ex1))
      have q2 : IntKind.u32.wrap (x2 : Int) = (x2 : Int) := by rw [IntKind.wrap_u32]; omega
      have c2 : wr.cell? ⟨w.heap.size, n2, none⟩ = some (.int .u8 (x2 : Int)) := HB.out.at n2 _ (arr_at b n2 x2 (by rw [hn2, hn4]; exact ex2))
      have q3 : IntKind.u32.wrap (x3 : Int) = (x3 : Int) := by rw [IntKind.wrap_u32]; omega
      have c3 : wr.cell? ⟨w.heap.size, n3, none⟩ = some (.int .u8 (x3 : Int)) := HB.out.at n3 _ (arr_at b n3 x3 (by rw [hn3, hn4]; exact ex3))
      have Hv := Lib.hid (or_word x0 x1 x2 x3 hx0 hx1 hx2 hx3)
      clear e0 hn4 hn1 hn2 hn3 ex0 ex1 ex2 ex3 ey0 ey1 ey2 ey3
      go_upto_region 5 with fail
      go_still_tail 31, (by kernel_rfl)
      change wpList _ _ _ _ _ wr.drew
      have HB1 := Lib.hid HB.out.drew
      have HZ1 := Lib.hid HZ.out.drew
      have HS1 := Lib.hid HS.out.drew
      have hold : (doneF (loadL W r b) z4 k)[k]? = some 0 := by
        rw [doneF_old _ _ 4 k k (loadL_len _ _ _) (Nat.le_refl _) hk]
        rcases (show k = 0 ∨ k = 1 ∨ k = 2 ∨ k = 3 by omega) with rfl | rfl | rfl | rfl <;> rfl
      have hd := hn.drew
      have Hold := Lib.hid hold
      clear HB HZ HS hn c0 c1 c2 c3 hi0 hi1 hi2 hi3 wp0 wp1 wp2 wp3 hold
      generalize wr.drew = w2 at *
      rw [Hv.out]
      have Hcol := Lib.hid hcol
      clear Hv hcol q0 q1 q2 q3
      generalize wN x0 x1 x2 x3 = y at *
      have f1 := HS1.out.free k
      have o1 : w2.cell? ⟨S, k, none⟩ = some (.int .u32 0) := HS1.out.at k _ (arrg_at uv _ k 0 Hold.out)
      have h3 := HS1.out.put k (uv y)
      rw [arrg_set] at h3
      have HS3 := Lib.hid h3
      have HB3 := Lib.hid (HB1.out.far (p := ⟨S, k, none⟩) Hap.out.2.1 (uv y))
      have HZ3 := Lib.hid (HZ1.out.far (p := ⟨S, k, none⟩) Hap.out.1 (uv y))
      have hd3 := nu_set hd (p := ⟨S, k, none⟩) Hap.out.2.2.1 (uv y)
      simp only [uv] at HB3 HZ3 HS3 hd3
      clear HB1 HZ1 HS1 hd h3
      go_upto_region 6 with fail
      generalize w2.setCell ⟨S, k, none⟩ (.int .u32 (y : Int)) = w3 at *
      clear f1 o1
      obtain ⟨p, hp⟩ : ∃ p, p = 4 * r + k := ⟨_, rfl⟩
      have wq0 : IntKind.i64.wrap (4 * (r : Int)) = ((4 * r : Nat) : Int) := by rw [IntKind.wrap_i64]; omega
      have wq1 : IntKind.i64.wrap (((4 * r : Nat) : Int) + (k : Int)) = (p : Int) := by rw [IntKind.wrap_i64]; omega
      have hpl : (p : Int) < (W.length : Int) := by omega
      have cC : w3.cell? ⟨C, 0, none⟩ = some (.slice (some ⟨m, 0, none⟩) W.length c) := (hd3.cell (p := ⟨C, 0, none⟩) hCl).trans HC0.out
      have cW : w3.cell? ⟨m, p, none⟩ = some (.int .u32 ((W.getD p 0 : Nat) : Int)) := (hd3.cell (p := ⟨m, p, none⟩) hml).trans (word_at Hm.out Ht.out p (by omega))
      have hy3 : ((doneF (loadL W r b) z4 k).set k y)[k]? = some y := by rw [List.getElem?_set_self (by rw [doneF_len _ _ 4 k (loadL_len _ _ _) rfl hk]; exact hlt)]
      have cS : w3.cell? ⟨S, k, none⟩ = some (.int .u32 (y : Int)) := HS3.out.at k _ (arrg_at uv _ k y hy3)
      have hx := u32_xor_nat y (W.getD p 0) hc32 (hW.getD p)
      have HX := Lib.hid (show (loadL W r b)[k]? = some (y ^^^ W.getD p 0) by rw [loadL_at W r b k hlt, Hcol.out, hp])
      generalize W.getD p 0 = z at *
      generalize y ^^^ z = t at *
      obtain ⟨r4, hr4⟩ : ∃ r4, r4 = 4 * r := ⟨_, rfl⟩
      rw [← hr4] at wq0 wq1
      have Hy3 := Lib.hid hy3
      clear hp hy3 hr4
      go_still_tail 15, (by kernel_rfl)
      change wpList _ _ _ _ _ w3.drew
      have HB4 := Lib.hid HB3.out.drew
      have HZ4 := Lib.hid HZ3.out.drew
      have HS4 := Lib.hid HS3.out.drew
      have hd4 := hd3.drew
      clear HB3 HZ3 HS3 hd3 cC cW cS wq0 wq1 hpl
      generalize w3.drew = w4 at *
      have f4 := HS4.out.free k
      have o4 : w4.cell? ⟨S, k, none⟩ = some (.int .u32 (y : Int)) := HS4.out.at k _ (arrg_at uv _ k y Hy3.out)
      have h5 := HS4.out.put k (uv t)
      rw [arrg_set, List.set_set, doneF_set _ _ 4 k t (loadL_len _ _ _) rfl hlt HX.out] at h5
      have HS5 := Lib.hid h5
      have HB5 := Lib.hid (HB4.out.far (p := ⟨S, k, none⟩) Hap.out.2.1 (uv t))
      have HZ5 := Lib.hid (HZ4.out.far (p := ⟨S, k, none⟩) Hap.out.1 (uv t))
      have hd5 := nu_set hd4 (p := ⟨S, k, none⟩) Hap.out.2.2.1 (uv t)
      simp only [uv] at HB5 HZ5 HS5 hd5
      clear HB4 HZ4 HS4 hd4 h5 Hy3 HX
      go_wp2_with fail
      generalize w4.setCell ⟨S, k, none⟩ (.int .u32 (t : Int)) = w5 at *
      go_roundw
      case rel => first | exact ⟨k + 1, by omega, by go_num, HB5.out, HZ5.out, HS5.out, hd5⟩ | ((repeat apply Exists.intro); exact ⟨⟨k + 1, by omega, by go_num, HB5.out, HZ5.out, HS5.out, hd5⟩, rfl⟩)
      case measure => simp [intOf]; omega
    · obtain rfl : k = 4 := by omega
      have hS := HS.out
      rw [doneF_all _ _ 4 (loadL_len W r b) rfl] at hS
      obtain ⟨D, hD⟩ : ∃ D, D = (loadL W r b).map uv := ⟨_, rfl⟩
      rw [← hD] at hS
      have HS2 := Lib.hid hS
      have HDl := Lib.hid (show D.length = (z4.map uv).toArray.size by rw [hD, List.length_map, loadL_len]; rfl)
      have Hsz := Lib.hid (show (Try.prog.info? 85).map (·.size) = some D.toArray.size by rw [List.size_toArray, hD, List.length_map, loadL_len]; kernel_rfl)
      have H1 := Lib.hid (show ∀ u ∈ D, u.oneCell' = true by rw [hD]; exact uv_one _)
      have HDe := Lib.hid hD
      have HF := Lib.hid (Blk.fill HZ.out D HDl.out)
      have Hnf := Lib.hid (nu_fill D (g := Z) Hap.out.2.2.2 0 _ hn)
      clear hS HS hD hn hlt hk HB
      go_wp2_with (first | (refine wpList_load_blk rfl 85 (.tmp 7) rfl S rfl 85 D.toArray HS2.out Try.underlying85 Hsz.out ?_) | (refine wpList_store_blk rfl 85 (.tmp 6) (.tmp 59) rfl Z D rfl rfl 85 (z4.map uv).toArray HZ.out HDl.out (by have h := Hsz.out; rwa [List.size_toArray] at h) H1.out ?_))
      refine bodyPost_ret (results_blk rfl _ Z 85 D.toArray rfl HF.out Try.underlying85 Hsz.out) rfl ⟨by rw [HDe.out], Hnf.out⟩
end Go.Proofs.Ytpeibkdcglkimaa

namespace Go.Proofs.Ytpeibkdcglkimaa
open Fld Aes

def cols (b : List Nat) : List Nat := (List.range 4).map (colOf b)
theorem cols_len (b : List Nat) : (cols b).length = 4 := by simp [cols]
theorem cols_at (b : List Nat) (i : Nat) (hi : i < 4) : (cols b)[i]? = some (colOf b i) := by simp [cols, hi]
theorem cols_getD (b : List Nat) (i : Nat) (hi : i < 4) : (cols b).getD i 0 = colOf b i := by rw [List.getD_eq_getElem?_getD, cols_at b i hi]; rfl
theorem wb_colOf {b : List Nat} (h : St16 b) (i j : Nat) (hj : j < 4) : wb (colOf b i) j = b.getD (4 * i + j) 0 := by
  have e := wb_wN _ _ _ _ (h.getD (4 * i)) (h.getD (4 * i + 1)) (h.getD (4 * i + 2)) (h.getD (4 * i + 3))
  rcases (show j = 0 ∨ j = 1 ∨ j = 2 ∨ j = 3 by omega) with rfl | rfl | rfl | rfl
  · exact e.1
  · exact e.2.1
  · exact e.2.2.1
  · exact e.2.2.2
theorem addK_at (W : List Nat) (r : Nat) (b : List Nat) (i : Nat) (hi : i < 16) : (addK W r b).getD i 0 = b.getD i 0 ^^^ wb (W.getD (4 * r + i / 4) 0) (i % 4) := by
  rw [List.getD_eq_getElem?_getD, addK, List.getElem?_map, List.getElem?_range hi]
  rfl
theorem sub_at (b : List Nat) (i : Nat) (hi : i < 16) : (sub b).getD i 0 = sb (b.getD (4 * ((i / 4 + i % 4) % 4) + i % 4) 0) := by
  rw [List.getD_eq_getElem?_getD, sub, List.getElem?_map, List.getElem?_range hi]
  rfl
theorem mix_at (f0 f1 f2 f3 : Nat) (b : List Nat) (i : Nat) (hi : i < 16) : (mix f0 f1 f2 f3 b).getD i 0 = mixAt f0 f1 f2 f3 b i := by
  rw [List.getD_eq_getElem?_getD, mix, List.getElem?_map, List.getElem?_range hi]
  rfl
/-- A column that is xored with a word. -/
theorem col_addK {b : List Nat} (h : St16 b) {W : List Nat} (hW : Small W) (r i : Nat) (hi : i < 4) : colOf (addK W r b) i = colOf b i ^^^ W.getD (4 * r + i) 0 := by
  have hw := hW.getD (4 * r + i)
  have e : ∀ j, j < 4 → (addK W r b).getD (4 * i + j) 0 = b.getD (4 * i + j) 0 ^^^ wb (W.getD (4 * r + i) 0) j := fun j hj => by
    rw [addK_at W r b _ (by omega), show (4 * i + j) / 4 = i by omega, show (4 * i + j) % 4 = j by omega]
  have e0 := e 0 (by omega)
  rw [Nat.add_zero] at e0
  rw [colOf, e0, e 1 (by omega), e 2 (by omega), e 3 (by omega), colOf]
  generalize W.getD (4 * r + i) 0 = w at *
  rw [← wN_xor _ _ _ _ _ _ _ _ (h.getD _) (h.getD _) (h.getD _) (h.getD _) (wb_lt _ _) (wb_lt _ _) (wb_lt _ _) (wb_lt _ _), wN_wb w hw]
theorem loadL_eq {b : List Nat} (h : St16 b) {W : List Nat} (hW : Small W) (r : Nat) : loadL W r b = cols (addK W r b) := by
  unfold loadL cols
  apply List.map_congr_left
  intro i hi
  rw [col_addK h hW r i (List.mem_range.1 hi)]

/-! A column by tables. -/
def tword (W : List Nat) (r : Nat) (s : List Nat) (i : Nat) : Nat → Nat
  | 0 => W.getD (4 * r + i) 0
  | q + 1 => tword W r s i q ^^^ turnW (mixOf (sb (wb (s.getD ((i + q) % 4) 0) q))) q
def tL (W : List Nat) (r : Nat) (s : List Nat) : List Nat := (List.range 4).map fun i => tword W r s i 4
theorem tL_len (W : List Nat) (r : Nat) (s : List Nat) : (tL W r s).length = 4 := by simp [tL]
theorem tL_at (W : List Nat) (r : Nat) (s : List Nat) (i : Nat) (hi : i < 4) : (tL W r s)[i]? = some (tword W r s i 4) := by simp [tL, hi]
theorem mixOf_wN (x : Nat) : mixOf x = wN (gm x 2) x x (gm x 3) := rfl
theorem mixOf_lt (x : Nat) (hx : x < 256) : mixOf x < 4294967296 := wN_lt _ _ _ _ (gm_lt _ _ hx) hx hx (gm_lt _ _ hx)
theorem turnW_lt (x q : Nat) (hx : x < 4294967296) : turnW x q < 4294967296 := by
  unfold turnW
  split
  · exact hx
  all_goals exact wN_lt _ _ _ _ (wb_lt _ _) (wb_lt _ _) (wb_lt _ _) (wb_lt _ _)
theorem tword_lt {W : List Nat} (hW : Small W) (r : Nat) (s : List Nat) (i q : Nat) : tword W r s i q < 4294967296 := by
  induction q with
  | zero => exact hW.getD _
  | succ q ih => exact xor_lt32 ih (turnW_lt _ _ (mixOf_lt _ (sb_lt _)))
theorem col_mix (w x0 x1 x2 x3 : Nat) (hw : w < 4294967296) (h0 : x0 < 256) (h1 : x1 < 256) (h2 : x2 < 256) (h3 : x3 < 256) :
    w ^^^ turnW (mixOf x0) 0 ^^^ turnW (mixOf x1) 1 ^^^ turnW (mixOf x2) 2 ^^^ turnW (mixOf x3) 3 =
      wN (gm 2 x0 ^^^ gm 3 x1 ^^^ gm 1 x2 ^^^ gm 1 x3 ^^^ wb w 0) (gm 2 x1 ^^^ gm 3 x2 ^^^ gm 1 x3 ^^^ gm 1 x0 ^^^ wb w 1) (gm 2 x2 ^^^ gm 3 x3 ^^^ gm 1 x0 ^^^ gm 1 x1 ^^^ wb w 2) (gm 2 x3 ^^^ gm 3 x0 ^^^ gm 1 x1 ^^^ gm 1 x2 ^^^ wb w 3) := by
  have g1 : ∀ x, x < 256 → gm 1 x = x := fun x hx => by rw [gm_comm 1 x (by omega) hx, gm_one x hx]
  have g2 : ∀ x, x < 256 → gm 2 x = gm x 2 := fun x hx => gm_comm 2 x (by omega) hx
  have g3 : ∀ x, x < 256 → gm 3 x = gm x 3 := fun x hx => gm_comm 3 x (by omega) hx
  rw [g1 x0 h0, g1 x1 h1, g1 x2 h2, g1 x3 h3, g2 x0 h0, g2 x1 h1, g2 x2 h2, g2 x3 h3, g3 x0 h0, g3 x1 h1, g3 x2 h2, g3 x3 h3]
  have m2 : ∀ x, x < 256 → gm x 2 < 256 := fun x hx => gm_lt x 2 hx
  have m3 : ∀ x, x < 256 → gm x 3 < 256 := fun x hx => gm_lt x 3 hx
  have e0 := wb_wN _ _ _ _ (m2 x0 h0) h0 h0 (m3 x0 h0)
  have e1 := wb_wN _ _ _ _ (m2 x1 h1) h1 h1 (m3 x1 h1)
  have e2 := wb_wN _ _ _ _ (m2 x2 h2) h2 h2 (m3 x2 h2)
  have e3 := wb_wN _ _ _ _ (m2 x3 h3) h3 h3 (m3 x3 h3)
  have t0 : turnW (mixOf x0) 0 = wN (gm x0 2) x0 x0 (gm x0 3) := rfl
  have t1 : turnW (mixOf x1) 1 = wN (gm x1 3) (gm x1 2) x1 x1 := by rw [mixOf_wN, turnW, e1.1, e1.2.1, e1.2.2.1, e1.2.2.2]
  have t2 : turnW (mixOf x2) 2 = wN x2 (gm x2 3) (gm x2 2) x2 := by rw [mixOf_wN, turnW, e2.1, e2.2.1, e2.2.2.1, e2.2.2.2]
  have t3 : turnW (mixOf x3) 3 = wN x3 x3 (gm x3 3) (gm x3 2) := by rw [mixOf_wN, turnW, e3.1, e3.2.1, e3.2.2.1, e3.2.2.2] <;> simp
  have hk : ∀ j, wb w j < 256 := wb_lt w
  have a0 := m2 x0 h0; have a1 := m2 x1 h1; have a2 := m2 x2 h2; have a3 := m2 x3 h3
  have b0 := m3 x0 h0; have b1 := m3 x1 h1; have b2 := m3 x2 h2; have b3 := m3 x3 h3
  rw [t0, t1, t2, t3]
  conv => lhs; rw [← wN_wb w hw]
  rw [wN_xor _ _ _ _ _ _ _ _ (hk 0) (hk 1) (hk 2) (hk 3) a0 h0 h0 b0,
    wN_xor _ _ _ _ _ _ _ _ (xor_lt8 (hk 0) a0) (xor_lt8 (hk 1) h0) (xor_lt8 (hk 2) h0) (xor_lt8 (hk 3) b0) b1 a1 h1 h1,
    wN_xor _ _ _ _ _ _ _ _ (xor_lt8 (xor_lt8 (hk 0) a0) b1) (xor_lt8 (xor_lt8 (hk 1) h0) a1) (xor_lt8 (xor_lt8 (hk 2) h0) h1) (xor_lt8 (xor_lt8 (hk 3) b0) h1) h2 b2 a2 h2,
    wN_xor _ _ _ _ _ _ _ _ (xor_lt8 (xor_lt8 (xor_lt8 (hk 0) a0) b1) h2) (xor_lt8 (xor_lt8 (xor_lt8 (hk 1) h0) a1) b2) (xor_lt8 (xor_lt8 (xor_lt8 (hk 2) h0) h1) a2) (xor_lt8 (xor_lt8 (xor_lt8 (hk 3) b0) h1) h2) h3 h3 b3 a3]
  congr 1 <;> ac_rfl
theorem tL_eq {b : List Nat} (h : St16 b) {W : List Nat} (hW : Small W) (r : Nat) : tL W r (cols b) = cols (addK W r (mix 2 3 1 1 (sub b))) := by
  unfold tL
  conv => rhs; unfold cols
  apply List.map_congr_left
  intro i hi
  have hi4 := List.mem_range.1 hi
  have e : ∀ j, j < 4 → (addK W r (mix 2 3 1 1 (sub b))).getD (4 * i + j) 0 = mixAt 2 3 1 1 (sub b) (4 * i + j) ^^^ wb (W.getD (4 * r + i) 0) j := fun j hj => by
    rw [addK_at W r _ _ (by omega), mix_at _ _ _ _ _ _ (by omega), show (4 * i + j) / 4 = i by omega, show (4 * i + j) % 4 = j by omega]
  have s : ∀ j, j < 4 → (sub b).getD (i * 4 + j) 0 = sb (wb ((cols b).getD ((i + j) % 4) 0) j) := fun j hj => by
    rw [sub_at b _ (by omega), cols_getD b _ (Nat.mod_lt _ (by omega)), wb_colOf h _ j hj, show (i * 4 + j) / 4 = i by omega, show (i * 4 + j) % 4 = j by omega]
  have e0 := e 0 (by omega)
  rw [Nat.add_zero] at e0
  rw [colOf, e0, e 1 (by omega), e 2 (by omega), e 3 (by omega)]
  have m : ∀ j, j < 4 → mixAt 2 3 1 1 (sub b) (4 * i + j) = gm 2 ((sub b).getD (i * 4 + j) 0) ^^^ gm 3 ((sub b).getD (i * 4 + (j + 1) % 4) 0) ^^^ gm 1 ((sub b).getD (i * 4 + (j + 2) % 4) 0) ^^^ gm 1 ((sub b).getD (i * 4 + (j + 3) % 4) 0) := fun j hj => by
    unfold mixAt
    rw [show (4 * i + j) / 4 = i by omega, show (4 * i + j) % 4 = j by omega, show (4 * i + j + 1) % 4 = (j + 1) % 4 by omega, show (4 * i + j + 2) % 4 = (j + 2) % 4 by omega, show (4 * i + j + 3) % 4 = (j + 3) % 4 by omega]
  have m0 := m 0 (by omega)
  rw [Nat.add_zero] at m0
  rw [m0, m 1 (by omega), m 2 (by omega), m 3 (by omega)]
  simp only [Nat.reduceAdd, Nat.reduceMod, Nat.zero_add, s 1 (by omega), s 2 (by omega), s 3 (by omega), s 0 (by omega)]
  exact col_mix _ _ _ _ _ (hW.getD _) (sb_lt _) (sb_lt _) (sb_lt _) (sb_lt _)
/-- The last round, byte by byte. -/
theorem last_at {b : List Nat} (h : St16 b) (W : List Nat) (R i : Nat) (hi : i < 16) : (addK W R (sub b))[i]? = some (sb (wb ((cols b).getD ((i / 4 + i % 4) % 4) 0) (i % 4)) ^^^ wb (W.getD (4 * R + i / 4) 0) (i % 4)) := by
  have e := addK_at W R (sub b) i hi
  rw [sub_at b i hi] at e
  rw [cols_getD b _ (Nat.mod_lt _ (by omega)), wb_colOf h _ _ (Nat.mod_lt _ (by omega)), ← e, List.getD_eq_getElem?_getD, List.getElem?_eq_getElem (by rw [(addK_st (sub_st b) W R).1]; exact hi)]
  rfl
end Go.Proofs.Ytpeibkdcglkimaa
