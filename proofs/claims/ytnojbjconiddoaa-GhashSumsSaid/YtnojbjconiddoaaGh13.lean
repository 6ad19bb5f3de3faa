/-
  Sums over blocks in plain Lean; the walk of ghash's closure that takes bytes.
-/
import Derived.Test.YtnojbjconiddoaaGh12
import Derived.Test.YtnojbjconiddoaaCopyB
namespace Go.Proofs.Ytnojbjconiddoaa
open Go.ChangeShapes Go.WideShapes Go.ChangeAt Go.RowKit

def pad16 (ys : List Nat) : List Nat := ys ++ List.replicate (16 - ys.length) 0
def blocksF : Nat → List Nat → List (List Nat)
  | 0, _ => []
  | n + 1, zs => if zs = [] then [] else pad16 (zs.take 16) :: blocksF n (zs.drop 16)
def blocks (zs : List Nat) : List (List Nat) := blocksF zs.length zs
theorem blocksF_any : ∀ (n m : Nat) (zs : List Nat), zs.length ≤ n → zs.length ≤ m → blocksF n zs = blocksF m zs := by
  intro n
  induction n with
  | zero =>
    intro m zs h _
    obtain rfl : zs = [] := List.eq_nil_of_length_eq_zero (by omega)
    cases m <;> simp [blocksF]
  | succ n ih =>
    intro m zs h1 h2
    by_cases hz : zs = []
    · subst hz
      cases m <;> simp [blocksF]
    · have hp : 0 < zs.length := List.length_pos_iff.2 hz
      cases m with
      | zero => omega
      | succ m =>
        simp only [blocksF, if_neg hz]
        rw [ih m (zs.drop 16) (by rw [List.length_drop]; omega) (by rw [List.length_drop]; omega)]
theorem blocks_nil : blocks [] = [] := rfl
theorem blocks_cons (zs : List Nat) (h : zs ≠ []) : blocks zs = pad16 (zs.take 16) :: blocks (zs.drop 16) := by
  have hp : 0 < zs.length := List.length_pos_iff.2 h
  obtain ⟨n, hn⟩ : ∃ n, zs.length = n + 1 := ⟨zs.length - 1, by omega⟩
  have e : blocks zs = blocksF (n + 1) zs := by unfold blocks; rw [hn]
  rw [e]
  simp only [blocksF, if_neg h]
  congr 1
  exact blocksF_any n _ _ (by rw [List.length_drop]; omega) (Nat.le_refl _)
theorem pad16_len (ys : List Nat) (h : ys.length ≤ 16) : (pad16 ys).length = 16 := by unfold pad16; rw [List.length_append, List.length_replicate]; omega
theorem pad16_lt (ys : List Nat) (h : ∀ x ∈ ys, x < 256) : ∀ x ∈ pad16 ys, x < 256 := by
  intro x hx
  rcases List.mem_append.1 hx with hx | hx
  · exact h x hx
  · rw [(List.mem_replicate.1 hx).2]; omega
/-- One block more. -/
def gstep (h y : Nat) (b : List Nat) : Nat := Gh.mul h (y ^^^ polB b)
def gfold (h y : Nat) (bs : List (List Nat)) : Nat := bs.foldl (gstep h) y
theorem gfold_lt (h y : Nat) (bs : List (List Nat)) (hh : h < 2 ^ 128) (hy : y < 2 ^ 128) : gfold h y bs < 2 ^ 128 := by
  unfold gfold
  induction bs generalizing y with
  | nil => exact hy
  | cons b bs ih => exact ih _ (Gh.mul_lt _ _ hh)
abbrev z16l : List Value := [.int .u8 0, .int .u8 0, .int .u8 0, .int .u8 0, .int .u8 0, .int .u8 0, .int .u8 0, .int .u8 0, .int .u8 0, .int .u8 0, .int .u8 0, .int .u8 0, .int .u8 0, .int .u8 0, .int .u8 0, .int .u8 0]
theorem splice_16 (l : List Nat) (h : l.length ≤ 16) : splice z16l 0 (l.map vb) = (pad16 l).map vb := by
  have e : z16l = (List.replicate 16 0).map vb := rfl
  rw [splice, e, List.take_zero, List.nil_append, Nat.zero_add, List.length_map, ← List.map_drop, ← List.map_append, List.drop_replicate]
  rfl

theorem bytes_blk_lt {w : World} {a : Option Addr} {len cap : Nat} {xs : List Nat} (h : BytesIn w a len cap xs) (hp : 0 < len) : ∀ ad, a = some ad → ad.block < w.heap.size := by
  obtain ⟨b, off, rfl, hlt, _⟩ := h.1.2.2 hp
  intro ad had
  injection had with had
  subst had
  exact hlt
/-- Two blocks turned, the second of which is newer than all. -/
theorem gb_other {a w w' : World} {g k : Nat} (h : a.grownBy w (some g)) (h2 : w.grownBy w' (some k)) (hk : a.heap.size ≤ k) : a.grownBy w' (some g) :=
  ⟨h2.os.trans h.os, h2.tape.trans h.tape, h2.output.trans h.output, Nat.le_trans h.size h2.size, fun i hi hne => by
    rw [h2.block i (Nat.lt_of_lt_of_le hi h.size) (fun e => by injection e with e; omega)]
    exact h.block i hi hne⟩
set_option maxRecDepth 100000 in
set_option maxHeartbeats 4000000 in
theorem gh_take (Kb Y g h : Nat) (x : Option Addr) (l c : Nat) (zs : List Nat) (yv : Nat) (w : World) (hkc : w.cell? ⟨Kb, 0, none⟩ = some (.pointer (some ⟨g, 0, none⟩))) (hK : KeyAt w g h) (hh : h < 2 ^ 128) (hY : Blk w Y 58 (halfL yv).toArray) (hyv : yv < 2 ^ 128)
    (hz : BytesIn w x l c zs) (hlc : l ≤ c) (hcm : c ≤ maxLen) (hne : 0 < l → ∀ ad, x = some ad → ad.block ≠ Y) (h1 : Kb ≠ Y) (h2 : g ≠ Y) :
    Calls Try.prog 40 #[.slice x l c, .pointer (some ⟨Kb, 0, none⟩), .pointer (some ⟨Y, 0, none⟩)] w fun e w' => e = .returned (.tuple #[]) ∧ Blk w' Y 58 (halfL (gfold h yv (blocks zs))).toArray ∧ w.grownBy w' (some Y) := by
  have Hap := Lib.hid (And.intro h1 h2)
  have HKc := Lib.hid hkc
  have HK := Lib.hid hK
  have HY := Lib.hid hY
  have Hz := Lib.hid hz
  have Hlc := Lib.hid (And.intro hlc hcm)
  have Hne := Lib.hid hne
  have HKl := Lib.hid (show Kb < w.heap.size from World.block_lt_of_cell? _ _ hkc)
  have hYl := Blk.lt hY
  clear hkc hK hY hz hlc hcm hne h1 h2
  go_enter Try.func40, Try.ntmps40
  go_wp2_with fail
  obtain ⟨F, hF⟩ : ∃ F, F = gfold h yv (blocks zs) := ⟨_, rfl⟩
  have HF := Lib.hid hF
  go_loopw [0] (fun p wr => ∃ (x' : Option Addr) (l' c' : Nat) (zs' : List Nat) (y' : Nat), p = .slice x' l' c' ∧ l' ≤ c' ∧ c' ≤ maxLen ∧ BytesIn wr x' l' c' zs' ∧ (0 < l' → ∀ ad, x' = some ad → ad.block ≠ Y) ∧ Blk wr Y 58 (halfL y').toArray ∧ y' < 2 ^ 128 ∧ gfold h y' (blocks zs') = F ∧ w.grownBy wr (some Y)) (fun p _ => match p with | .slice _ n _ => n | _ => 0)
  case atStart => exact ⟨x, l, c, zs, yv, rfl, Hlc.out.1, Hlc.out.2, Hz.out, Hne.out, HY.out, hyv, hF.symm, gb_refl _ _⟩
  case round =>
    clear HY hyv hF Hz Hlc Hne
    obtain ⟨x', l', c', zs', y', rfl, hlc, hcm, hz, hne, hY, hy, hf, hg⟩ := hrel
    by_cases hl0 : l' = 0
    · subst hl0
      have hz0 : zs' = [] := List.eq_nil_of_length_eq_zero hz.1.1
      have hyF : y' = F := by rw [← hf, hz0]; rfl
      have HYF := Lib.hid (show Blk wr Y 58 (halfL F).toArray by rw [← hyF]; exact hY)
      clear hz hz0 hyF hY hf hne
      go_wp2_with fail
      exact bodyPost_end (results_none rfl _ _ _) rfl ⟨rfl, by rw [← HF.out]; exact HYF.out, hg⟩
    · have hl1 : (0 : Int) < (l' : Int) := by omega
      have hl63 : l' ≤ 9223372036854775807 := by unfold maxLen at hcm; omega
      have hzl := hz.1.1
      have hzx : ∀ y ∈ zs', y < 256 := fun y h => wf_u8_lt (hz.1.2.1 y h)
      obtain ⟨kk, hkk⟩ : ∃ kk, kk = Nat.min l' 16 := ⟨_, rfl⟩
      have hkl : kk ≤ l' ∧ kk ≤ 16 ∧ 1 ≤ kk ∧ (kk = l' ∨ kk = 16) := by
        rw [hkk]
        show min l' 16 ≤ l' ∧ min l' 16 ≤ 16 ∧ 1 ≤ min l' 16 ∧ (min l' 16 = l' ∨ min l' 16 = 16)
        omega
      have hdrop : zs'.drop kk = zs'.drop 16 := by
        rcases hkl.2.2.2 with h | h
        · rw [List.drop_of_length_le (by omega), List.drop_of_length_le (by omega)]
        · rw [h]
      obtain ⟨T, hT⟩ : ∃ T, T = zs'.take 16 := ⟨_, rfl⟩
      have hTl : T.length = kk := by rw [hT, List.length_take, hzl, hkk, Nat.min_comm]
      have hTx : ∀ y ∈ T, y < 256 := fun y h => hzx y (by rw [hT] at h; exact List.mem_of_mem_take h)
      have hblk : blocks zs' = pad16 T :: blocks (zs'.drop kk) := by rw [hT, hdrop]; exact blocks_cons zs' (fun e => by rw [e] at hzl; simp at hzl; omega)
      obtain ⟨Pd, hPd⟩ : ∃ Pd, Pd = pad16 T := ⟨_, rfl⟩
      have hPl : Pd.length = 16 := by rw [hPd]; exact pad16_len T (by omega)
      have hPx : ∀ y ∈ Pd, y < 256 := by rw [hPd]; exact pad16_lt T hTx
      rw [← hPd] at hblk
      obtain ⟨yn, hyn⟩ : ∃ yn, yn = gstep h y' Pd := ⟨_, rfl⟩
      have Hfn := Lib.hid (show gfold h yn (blocks (zs'.drop kk)) = F by rw [← hf, hblk, hyn]; rfl)
      have Hyn := Lib.hid (show yn < 2 ^ 128 by rw [hyn]; exact Gh.mul_lt _ _ hh)
      have Hyne := Lib.hid (show Gh.mul h (y' ^^^ polB Pd) = yn by rw [hyn]; rfl)
      obtain ⟨C, hC⟩ : ∃ C, C = T.map vb := ⟨_, rfl⟩
      have ekk : C.length = kk := by rw [hC, List.length_map, hTl]
      have Hcn := Lib.hid (show C.length = Nat.min l' 16 by rw [ekk, hkk])
      have Hcf := Lib.hid (show 0 + C.length ≤ z16l.length by rw [ekk, show z16l.length = 16 from rfl]; omega)
      have H1 := Lib.hid (show ∀ v ∈ C, v.oneCell' = true by rw [hC]; exact vb_one T)
      have Hspl := Lib.hid (show splice z16l 0 C = Pd.map vb by rw [hC, splice_16 T (by omega), hPd])
      have hal := nu_alloc (nu_refl wr) (.cells z16l.toArray 22)
      have hgal := gb_alloc hg (.cells z16l.toArray 22)
      have HB2 := Lib.hid (Blk.made wr 22 z16l.toArray)
      have HY2 := Lib.hid (Blk.below hY hal (Blk.lt hY))
      have hz2 := hz.keep hal
      have Hp2 := Lib.hid (show 0 < C.length → (some (⟨wr.heap.size, 0, none⟩ : Addr) = some ⟨wr.heap.size, 0, none⟩) ∧ ∃ ad, x' = some ad ∧ ∀ (j : Nat) (v : Value), C[j]? = some v → (wr.alloc (.cells z16l.toArray 22)).cell? (ad.add j) = some v from fun _ => by
        obtain ⟨b, off, hx, _⟩ := hz2.1.2.2 (by omega)
        refine ⟨rfl, _, hx, fun j v hv => hz2.src _ hx j v ?_⟩
        rw [hC, hT] at hv
        rw [List.map_take, List.getElem?_take] at hv
        split at hv
        · exact hv
        · cases hv)
      have Hz2 := Lib.hid hz2
      have Hbz := Lib.hid (show Y < wr.heap.size ∧ ∀ ad, x' = some ad → ad.block < wr.heap.size from ⟨Blk.lt hY, bytes_blk_lt hz (by omega)⟩)
      have Hg2 := Lib.hid hgal
      have Hg0 := Lib.hid hg.size
      have HLl := Lib.hid (load_any Pd hPl hPx)
      have Hne0 := Lib.hid (hne (by omega))
      have HL0 := Lib.hid (show x' = none → l' = 0 from fun e => (hz.2 e).1)
      have HLs := Lib.hid (show ∀ ad, x' = some ad → some ad = some ⟨ad.block, ad.off, none⟩ from fun ad had => by
        obtain ⟨b, off, e, _⟩ := hz.1.2.2 (by omega)
        rw [had] at e
        injection e with e
        rw [e])
      have HPsz := Lib.hid (show (Try.prog.info? 22).map (·.size) = some (Pd.map vb).toArray.size by rw [List.size_toArray, List.length_map, hPl]; kernel_rfl)
      clear hz hz2 hal hgal hg hf hblk hT hTl hTx hPd hPl hPx hdrop hkk hyn hC hY hne hzl hzx
      go_upto_region 2 with fail
      generalize wr.alloc (.cells z16l.toArray 22) = w2 at *
      generalize wr.heap.size = Bk at *
      go_upto_region 3 with (refine wpList_copy_blk rfl (.tmp 10) (.tmp 11) 27 27 rfl 5 Try.underlying27 (by kernel_rfl) _ _ _ _ _ _ rfl rfl Bk 0 z16l 22 HB2.out C Hcn.out Hp2.out Hcf.out H1.out ?_)
      intro w3 HB3 hg3
      obtain ⟨XP, hXP⟩ : ∃ XP, XP = Pd.map vb := ⟨_, rfl⟩
      rw [← hXP] at HPsz HLl Hspl
      have HB3' := Lib.hid (show Blk w3 Bk 22 XP.toArray by rw [← Hspl.out]; exact HB3.out)
      have HY3 := Lib.hid (Blk.grown HY2.out hg3 (fun e => by injection e with e; have := Hbz.out.1; omega))
      have Hz3 := Lib.hid (Hz2.out.far hg3 (fun _ ad had => by have := Hbz.out.2 ad had; omega))
      have Hg3 := Lib.hid (show w.grownBy w3 (some Y) from gb_other Hg2.out hg3 (Nat.le_trans Hg0.out (Nat.le_refl _)))
      have HW := Lib.hid (HLl.out w3)
      clear hXP HB3 hg3 HB2 HY2 Hz2 Hg2 Hp2 Hcn Hcf H1 Hspl HLl
      go_wp2_with (refine wpList_load_blk rfl 22 (.tmp 4) rfl Bk rfl 22 XP.toArray HB3'.out Try.underlying22 HPsz.out ?_)
      refine HW.out.mono ?_
      rintro e w4 ⟨rfl, hb4⟩
      obtain ⟨q, hq⟩ : ∃ q, q = polB Pd := ⟨_, rfl⟩
      rw [← hq] at Hyne
      rw [← hq]
      have Hql := Lib.hid (show q < 2 ^ 128 by rw [hq]; exact polB_lt Pd)
      obtain ⟨c0, hc0⟩ : ∃ c : Int, c = (Gh.hi q : Int) := ⟨_, rfl⟩
      obtain ⟨d0, hd0⟩ : ∃ d : Int, d = (Gh.lo q : Int) := ⟨_, rfl⟩
      obtain ⟨a0, ha0⟩ : ∃ a : Int, a = (Gh.hi y' : Int) := ⟨_, rfl⟩
      obtain ⟨b0, hb0⟩ : ∃ b : Int, b = (Gh.lo y' : Int) := ⟨_, rfl⟩
      obtain ⟨e0, he0⟩ : ∃ e : Int, e = (Gh.hi (y' ^^^ q) : Int) := ⟨_, rfl⟩
      obtain ⟨f0, hf0⟩ : ∃ f : Int, f = (Gh.lo (y' ^^^ q) : Int) := ⟨_, rfl⟩
      have hq2 : halfL q = [.int .u64 c0, .int .u64 d0] := by unfold halfL; rw [hc0, hd0]
      have hy2 : halfL y' = [.int .u64 a0, .int .u64 b0] := by unfold halfL; rw [ha0, hb0]
      have hx2 : halfL (y' ^^^ q) = [.int .u64 e0, .int .u64 f0] := by unfold halfL; rw [he0, hf0]
      have hX1 : bits .xor .u64 a0 c0 = e0 := by rw [ha0, hc0, he0, u64_xor_nat _ _ (Gh.hi_lt _) (Gh.hi_lt _), Gh.hi_xor]
      have hX2 : bits .xor .u64 b0 d0 = f0 := by rw [hb0, hd0, hf0, u64_xor_nat _ _ (Gh.lo_lt _) (Gh.lo_lt _), Gh.lo_xor]
      have HT := Lib.hid (fun (w : World) (hk : KeyAt w g h) => gh_times g h (y' ^^^ q) hh w hk)
      rw [hx2, Hyne.out] at HT
      obtain ⟨N, hN⟩ : ∃ N, N = halfL yn := ⟨_, rfl⟩
      rw [← hN] at HT
      have HN2 := Lib.hid (show N.length = 2 by rw [hN]; rfl)
      have HN1 := Lib.hid (show ∀ u ∈ N, u.oneCell' = true by rw [hN]; exact halfL_one yn)
      have HNe := Lib.hid hN
      have HY3b : Hid (Blk w3 Y 58 [.int .u64 a0, .int .u64 b0].toArray) := by rw [← hy2]; exact HY3.out
      rw [hq2]
      clear hq hc0 hd0 ha0 hb0 he0 hf0 hq2 hy2 hx2 hN HY3 HW
      have hn4 := nu_alloc hb4 (.cells #[.int .u64 0, .int .u64 0] 58)
      have HD4 := Lib.hid (Blk.made w4 58 #[.int .u64 0, .int .u64 0])
      have HD5 := Lib.hid (Blk.fill HD4.out [.int .u64 c0, .int .u64 d0] rfl)
      have hn5 := nu_fill [.int .u64 c0, .int .u64 d0] (g := w4.heap.size) hb4.size 0 _ hn4
      have HY5 := Lib.hid (Blk.below HY3b.out hn5 (Blk.lt HY3b.out))
      have Hz5 := Lib.hid (Hz3.out.keep hn5)
      have Hg5 := Lib.hid (gb_trans Hg3.out (gb_of_below hn5 (some Y)))
      have HYD := Lib.hid (show Y < w4.heap.size by have h1 := Blk.lt HY3b.out; have h2 := hb4.size; omega)
      clear hb4 hn4 hn5 HY3b Hz3 Hg3
      go_upto_region 4 with (refine wpList_store_blk rfl 58 (.tmp 6) (.tmp 14) rfl w4.heap.size [.int .u64 c0, .int .u64 d0] rfl rfl 58 #[.int .u64 0, .int .u64 0] HD4.out rfl (show _ = some 2 by kernel_rfl) (by simp [Value.oneCell']) ?_)
      generalize (w4.alloc (.cells #[.int .u64 0, .int .u64 0] 58)).setCells w4.heap.size 0 [.int .u64 c0, .int .u64 d0] = w5 at *
      generalize w4.heap.size = Dk at *
      have k0 : w5.cell? ⟨Kb, 0, none⟩ = some (.pointer (some ⟨g, 0, none⟩)) := (World.cell?_of_block (a := ⟨Kb, 0, none⟩) (Hg5.out.block Kb HKl.out (fun e => Hap.out.1 (by injection e)))).trans HKc.out
      have y0 : w5.cell? ⟨Y, 0, none⟩ = some (.int .u64 a0) := HY5.out.at 0 _ rfl
      have y1 : w5.cell? ⟨Y, 1, none⟩ = some (.int .u64 b0) := HY5.out.at 1 _ rfl
      have x0 : w5.cell? ⟨Dk, 0, none⟩ = some (.int .u64 c0) := HD5.out.at 0 _ rfl
      have x1 : w5.cell? ⟨Dk, 1, none⟩ = some (.int .u64 d0) := HD5.out.at 1 _ rfl
      have HW := Lib.hid (HT.out w5 (Blk.grown HK.out Hg5.out (fun e => Hap.out.2 (by injection e))))
      go_wp2_with fail
      refine HW.out.mono ?_
      rintro e w6 ⟨rfl, hb6⟩
      have HY6 := Lib.hid (Blk.below HY5.out hb6 (Blk.lt HY5.out))
      have Hz6 := Lib.hid (Hz5.out.keep hb6)
      have hg6 := gb_trans Hg5.out (gb_of_below hb6 (some Y))
      have HY9 := Lib.hid (show Blk (w6.setCells Y 0 N) Y 58 (halfL yn).toArray by rw [← HNe.out]; exact Blk.fill HY6.out N (by rw [HN2.out]; rfl))
      have hgf := gb_fill (g := Y) N 0 w6 (gb_refl w6 (some Y))
      have Hg9 := Lib.hid (gb_trans hg6 hgf)
      have Hz9 := Lib.hid (Hz6.out.far hgf (fun hp ad had => Hne0.out ad had))
      have HL9 := Lib.hid (Hz9.out.left hkl.1 hlc)
      have Hne9 := Lib.hid (show 0 < l' - kk → ∀ ad, leftAt x' c' kk = some ad → ad.block ≠ Y from fun _ ad had => by
        obtain ⟨ad0, h1, h2⟩ := leftAt_block had
        rw [h2]
        exact Hne0.out ad0 h1)
      clear HW hb6 HY5 Hz5 Hg5 k0 y0 y1 x0 x1 hX1 hX2 hg6 hgf Hz6 Hz9
      go_upto_region 5 with (refine wpList_store_blk rfl 58 (.tmp 2) (.tmp 27) rfl Y N rfl rfl 58 [.int .u64 a0, .int .u64 b0].toArray HY6.out (by rw [HN2.out]; rfl) (by rw [HN2.out]; kernel_rfl) HN1.out ?_)
      generalize w6.setCells Y 0 N = w7 at *
      have i0_ : (0 : Int) ≤ (kk : Int) := by omega
      have il_ : (kk : Int) ≤ (l' : Int) := by omega
      have ic_ : (kk : Int) ≤ (c' : Int) := by omega
      have hc63 : c' ≤ 9223372036854775807 := by unfold maxLen at hcm; omega
      obtain ⟨xb, xo, hxx⟩ : ∃ b off, x' = some ⟨b, off, none⟩ := by
        rcases hkl.2.2.2 with _ | _
        all_goals
          cases hx' : x' with
          | none => exact absurd (HL0.out hx') (by omega)
          | some ad => exact ⟨ad.block, ad.off, by rw [HLs.out ad hx']⟩
      subst hxx
      by_cases hck : c' = kk
      · have HLe := Lib.hid (show leftAt (some ⟨xb, xo, none⟩) c' kk = some ⟨xb, xo, none⟩ by simp [leftAt, hck])
        have hlk : l' = kk := by omega
        have HLz := Lib.hid (show BytesIn w7 (some ⟨xb, xo, none⟩) 0 0 (zs'.drop kk) by
          have h := HL9.out
          rw [HLe.out, show l' - kk = 0 by omega, show c' - kk = 0 by omega] at h
          exact h)
        subst hck
        subst hlk
        go_wp2_with fail
        go_roundw
        case rel => first | exact ⟨_, 0, 0, _, yn, rfl, by omega, by omega, HLz.out, fun h => absurd h (by omega), HY9.out, Hyn.out, Hfn.out, Hg9.out⟩ | ((repeat apply Exists.intro); exact ⟨⟨_, 0, 0, _, yn, rfl, by omega, by omega, HLz.out, fun h => absurd h (by omega), HY9.out, Hyn.out, Hfn.out, Hg9.out⟩, rfl⟩)
        case measure => simp; omega
      · have HLe := Lib.hid (show leftAt (some ⟨xb, xo, none⟩) c' kk = some ⟨xb, xo + kk, none⟩ by simp [leftAt, hck, Go.WideShapes.add_plain])
        have HLz := Lib.hid (show BytesIn w7 (some ⟨xb, xo + kk, none⟩) (l' - kk) (c' - kk) (zs'.drop kk) by rw [← HLe.out]; exact HL9.out)
        have Hnz := Lib.hid (show 0 < l' - kk → ∀ ad, some (⟨xb, xo + kk, none⟩ : Addr) = some ad → ad.block ≠ Y by rw [← HLe.out]; exact Hne9.out)
        go_wp2_with fail
        go_roundw
        case rel => first | exact ⟨_, l' - kk, c' - kk, _, yn, rfl, by omega, by omega, HLz.out, Hnz.out, HY9.out, Hyn.out, Hfn.out, Hg9.out⟩ | ((repeat apply Exists.intro); exact ⟨⟨_, l' - kk, c' - kk, _, yn, rfl, by omega, by omega, HLz.out, Hnz.out, HY9.out, Hyn.out, Hfn.out, Hg9.out⟩, rfl⟩)
        case measure => simp; omega
end Go.Proofs.Ytnojbjconiddoaa
