/-
  The walk of ShaGrows.
-/
import Derived.Test.YtlekepigndlbhaaDoorRefIs
import Derived.Test.YtlekepigndlbhaaDoorMacP
import Derived.Test.YtlekepigndlbhaaDoorActs
namespace Go.Proofs.YtlekepigndlbhaaDoor
open Go.ChangeShapes Go.WideShapes Go.ChangeAt Go.RowKit

/-- What stands at each head of the loop: the sum, all bytes so far in a row of the call's own, and the two don't touch. -/
structure GrowAt (w0 : World) (g : Nat) (wr : World) (xs : List Nat) (rv v : Value) : Prop where
  sum : SumIs wr (g + 1) g xs xs.length rv
  row : OwnB wr (g + 1) 5 v xs
  apart : ∀ j, v.ownBlock = some j → rv.ownBlock ≠ some j
  low : g < wr.heap.size
  g0 : w0.heap.size ≤ g
  below : Below w0.heap.size w0 wr
theorem GrowAt.later {w0 wr w' : World} {g : Nat} {xs : List Nat} {rv v : Value} (h : GrowAt w0 g wr xs rv v) (hb : Below wr.heap.size wr w') : GrowAt w0 g w' xs rv v :=
  ⟨h.sum.below hb, ownB_below h.row hb, h.apart, Nat.lt_of_lt_of_le h.low hb.size, h.g0, nu_trans h.below hb⟩
/-- Only a block k is turned that is neither the sum's, nor its rest's, nor the row's. -/
theorem GrowAt.other {w0 wr w' : World} {g k : Nat} {xs : List Nat} {rv v : Value} (h : GrowAt w0 g wr xs rv v) (hg : wr.grownBy w' (some k)) (hk : k ≠ g) (h1 : rv.ownBlock ≠ some k) (h2 : v.ownBlock ≠ some k) (hk0 : w0.heap.size ≤ k) : GrowAt w0 g w' xs rv v :=
  ⟨⟨Blk.grown h.sum.1 hg (fun e => hk (by injection e with e; exact e.symm)), own_grown h.sum.2 hg h1⟩, own_grown h.row hg h2, h.apart, Nat.lt_of_lt_of_le h.low hg.size, h.g0,
    h.below.grown hg h.below.size (fun j hj => by injection hj with hj; omega)⟩
theorem GrowAt.own1 {w0 wr : World} {g : Nat} {xs : List Nat} {rv v : Value} (h : GrowAt w0 g wr xs rv v) : ∀ j, rv.ownBlock = some j → g + 1 ≤ j ∧ j < wr.heap.size := own_low h.sum.2
theorem GrowAt.own2 {w0 wr : World} {g : Nat} {xs : List Nat} {rv v : Value} (h : GrowAt w0 g wr xs rv v) : ∀ j, v.ownBlock = some j → g + 1 ≤ j ∧ j < wr.heap.size := own_low h.row
/-- Bytes are written to the sum. -/
theorem GrowAt.wrote {w0 wr w' : World} {g : Nat} {xs ys : List Nat} {rv rv' v : Value} (h : GrowAt w0 g wr xs rv v) (hs : SumIs w' (g + 1) g (xs ++ ys) (xs.length + ys.length) rv') (ht : Turned g rv.ownBlock wr w')
    (hl : ∀ j, rv'.ownBlock = some j → rv.ownBlock = some j ∨ wr.heap.size ≤ j) :
    SumIs w' (g + 1) g (xs ++ ys) (xs ++ ys).length rv' ∧ OwnB w' (g + 1) 5 v xs ∧ (∀ j, v.ownBlock = some j → rv'.ownBlock ≠ some j) ∧ Below w0.heap.size w0 w' := by
  refine ⟨by rw [List.length_append]; exact hs, own_turned h.row ht (fun e => by have := (h.own2 g e).1; omega) (fun j hj => h.apart j hj), fun j hj e => ?_, ?_⟩
  · rcases hl j e with e | e
    · exact h.apart j hj e
    · have := (h.own2 j hj).2; omega
  · exact h.below.trans (ht.below h.below.size h.g0 (fun j hj => by have h1 := (h.own1 j hj).1; have h2 := h.g0; omega))

set_option maxRecDepth 100000 in
set_option maxHeartbeats 4000000 in
theorem shaGrows_walk (a : Option Addr) (len cap : Nat) (acts : List (Int × List Nat)) (w : World) (h : ActsIn w a len acts) (hm : len ≤ maxLen) (hT : TabIn w) :
    Calls Tryd.prog 5 #[.slice a len cap] w fun e w' => e = .returned (.bool true) ∧ Below w.heap.size w w' := by
  have HA := Lib.hid h
  have HT := Lib.hid hT
  have hm64 : len ≤ 9223372036854775807 := by unfold maxLen at hm; omega
  clear h hT hm
  go_enter Tryd.func5, Tryd.ntmps5
  go_wp2_with fail
  refine (new_any w).mono ?_
  rintro e w1 ⟨rfl, hS1, hb1⟩
  have hG1 := Lib.hid (show GrowAt w w.heap.size w1 [] (.slice none 0 0) (.slice none 0 0) from ⟨hS1, ⟨⟨rfl, .inl ⟨rfl, rfl⟩⟩, (fun x hx => by cases hx)⟩, (fun j hj => by cases hj), Blk.lt hS1.1, Nat.le_refl _, hb1⟩)
  clear hS1 hb1
  obtain ⟨g, hg⟩ : ∃ g, g = w.heap.size := ⟨_, rfl⟩
  rw [← hg] at hG1
  rw [← hg]
  have Hg := Lib.hid (show 0 < g by rw [hg]; exact HT.out.size)
  have Hg0 := Lib.hid (show w.heap.size ≤ g by rw [hg]; exact Nat.le_refl _)
  clear hg
  go_wp2_with fail
  go_loopw [4, 5] (fun v i wr => ∃ (k : Nat) (xs : List Nat) (rv : Value), k ≤ len ∧ i = .int .i64 k ∧ xs.length ≤ 20000 ∧ GrowAt w g wr xs rv v) (fun _ i _ => len - (intOf i).toNat)
  case atStart => exact ⟨0, [], _, by omega, rfl, by simp, hG1.out⟩
  case round =>
    clear hG1
    obtain ⟨k, xs, rv, hk, rfl, hxs, hG⟩ := hrel
    have HG := Lib.hid hG
    have hTr := Lib.hid (HT.out.below hG.below HT.out.size)
    have hn := hG.below
    obtain ⟨ao, co, rfl, _, _, hby⟩ := hG.row.reads
    obtain ⟨L, hL⟩ : ∃ L, L = xs.length := ⟨_, rfl⟩
    rw [← hL] at hby HG hxs ⊢
    have HL := Lib.hid hL
    have HB := Lib.hid hby
    obtain ⟨D, hD⟩ : ∃ D, digest xs = D := ⟨_, rfl⟩
    have HD := Lib.hid hD
    have HDl := Lib.hid (show D.length = 32 by rw [← hD, digest_len])
    have hSum : ∀ w', Below wr.heap.size wr w' → Calls Tryd.prog 21 #[.pointer (some ⟨g, 0, none⟩)] w' fun e w2 => e = .returned (.agg (D.map vb).toArray) ∧ Below w'.heap.size w' w2 := fun w' hb => sum_is hD (hG.later hb).sum (HT.out.below (hG.later hb).below HT.out.size) ⟨rfl, by omega⟩
    have hRef : ∀ w', Below wr.heap.size wr w' → Calls Tryd.prog 16 #[.slice ao L co] w' fun e w2 => e = .returned (.agg (D.map vb).toArray) ∧ Below w'.heap.size w' w2 := fun w' hb => refOf_is hD (hby.keep hb) (by omega)
    have HSum := Lib.hid hSum
    have HRef := Lib.hid hRef
    clear hD hby hG hSum hRef hL
    by_cases hlt : k < len ∧ k < 300
    · obtain ⟨hlt, h300⟩ := hlt
      have hi : (k : Int) < (len : Int) := by omega
      have hi3 : (k : Int) < 300 := by omega
      obtain ⟨b, off, rfl, hbl, hcs⟩ := HA.out.2 (by omega)
      obtain ⟨act, hact⟩ : ∃ act, acts[k]? = some act := ⟨_, List.getElem?_eq_getElem (by rw [HA.out.1]; exact hlt)⟩
      obtain ⟨kd, ys⟩ := act
      obtain ⟨hc0, ai, li, ci, hc1, hlc, hcm, hys⟩ := hcs k kd ys hact
      have c0 := (hn.cell (p := ⟨b, off + k * 2, none⟩) hbl).trans hc0
      have c1 := (hn.cell (p := ⟨b, off + k * 2 + 1, none⟩) hbl).trans hc1
      have Hys := Lib.hid hys
      have Hbl := Lib.hid hbl
      have HC := Lib.hid (And.intro hc0 hc1)
      clear hcs hact hc0 hc1 hys hbl
      by_cases hgt : 20000 < L + li
      · have hig : (20000 : Int) - (L : Int) < (li : Int) := by omega
        go_wp2_with fail
        refine (shaAwake_any hTr.out).mono ?_
        rintro e w2 ⟨rfl, hb2⟩
        have hn2 := nu_trans hn hb2
        go_wp2_with fail
        go_ret
        exact ⟨rfl, hn2⟩
      · have hig : ¬ (20000 : Int) - (L : Int) < (li : Int) := by omega
        by_cases hk3 : kd.tmod 3 = 0
        · have t3 : (kd.tmod 3 == 0) = true := by rw [hk3]; rfl
          clear hk3
          go_wp2_with fail
          refine (HSum.out wr (nu_refl wr)).mono ?_
          rintro e w2 ⟨rfl, hb2⟩
          go_wp2_with fail
          refine (HRef.out w2 hb2).mono ?_
          rintro e w3 ⟨rfl, hb3⟩
          have HG3 := Lib.hid (HG.out.later (nu_trans hb2 hb3))
          clear HG hb2 hb3 HSum HRef HB hn c0 c1 hTr
          go_wp2_with (refine wpList_run _ rfl (exec_nsame_32 D HDl.out (.tmp 38) (.tmp 40) rfl rfl rfl) ?_)
          go_roundw
          case rel => first | exact ⟨k + 1, xs, rv, by omega, by go_num, by rw [← HL.out]; exact hxs, HG3.out⟩ | ((repeat apply Exists.intro); exact ⟨⟨k + 1, xs, rv, by omega, by go_num, by rw [← HL.out]; exact hxs, HG3.out⟩, rfl⟩)
          case measure => simp [intOf]; omega
        · have t3 : (kd.tmod 3 == 0) = false := by rw [beq_eq_false_iff_ne]; exact hk3
          clear hk3 HSum HRef HD HDl D
          have HY := Lib.hid (Hys.out.keep hn)
          have hyl := Hys.out.1.1
          have Hyx := Lib.hid (fun x h => wf_u8_lt (Hys.out.1.2.1 x h))
          have Hyl := Lib.hid hyl
          clear hyl
          go_wp2_with fail
          refine (lent_any ai li ci ys wr HY.out (by omega)).mono ?_
          rintro e w2 ⟨rfl, hL2, hb2⟩
          have hG2 := HG.out.later hb2
          obtain ⟨gi, hgi⟩ : ∃ gi, gi = wr.heap.size := ⟨_, rfl⟩
          rw [← hgi] at hL2
          rw [← hgi]
          have Hgi := Lib.hid (show g < gi ∧ w.heap.size ≤ gi ∧ (∀ j, rv.ownBlock = some j → j < gi) ∧ (∀ j, (Value.slice ao L co).ownBlock = some j → j < gi) from by
            rw [hgi]; exact ⟨HG.out.low, hn.size, fun j hj => (HG.out.own1 j hj).2, fun j hj => (HG.out.own2 j hj).2⟩)
          have hW := write_any hG2.sum (HT.out.below hG2.below HT.out.size) (by omega) (by have := hG2.low; omega) Hg.out (some ⟨gi, 0, none⟩) li (li + 3) ys (lent_bytes hL2 Hyl.out Hyx.out) (by omega) (by unfold maxLen; omega) (by rw [← HL.out]; omega) (fun _ ad had => by
            injection had with had
            subst had
            exact ⟨by have := Hgi.out.1; simp; omega, fun e => by have := Hgi.out.2.2.1 _ e; simp at this⟩)
          have HW := Lib.hid hW
          have HL2 := Lib.hid hL2
          have HG2 := Lib.hid hG2
          have Hgl := Lib.hid (Blk.lt hL2)
          clear hW hL2 hG2 hgi HG hb2 hn hTr HB c0 c1 HY
          go_wp2_with fail
          refine HW.out.mono ?_
          rintro e w3 ⟨rfl, rv3, hS3, ht3, hl3⟩
          rw [← Hyl.out] at hS3
          obtain ⟨hS3, hO3, hap3, hn3⟩ := HG2.out.wrote hS3 ht3 hl3
          have hL3 := ht3.blk HL2.out (by have := Hgi.out.1; omega) (fun e => by have := Hgi.out.2.2.1 _ e; omega)
          have HL3 := Lib.hid hL3
          have HG3 := Lib.hid (And.intro hS3 (And.intro hO3 hap3))
          have Hrg := Lib.hid (show rv3.ownBlock ≠ some gi from fun e => by
            rcases hl3 gi e with h | h
            · exact absurd (Hgi.out.2.2.1 gi h) (by omega)
            · have := Hgl.out; omega)
          have HY3 := Lib.hid (Hys.out.keep hn3)
          have d1 := (hn3.cell (p := ⟨b, off + k * 2 + 1, none⟩) Hbl.out).trans HC.out.2
          have Hz3 := Lib.hid (show g < w3.heap.size from Nat.lt_of_lt_of_le HG2.out.low ht3.size)
          clear hS3 ht3 hl3 hO3 hap3 hL3 HW HG2 HL2
          go_wp2_with fail
          refine (kept_any gi ai li ci ys w3 HL3.out HY3.out.1 (by omega)).mono ?_
          rintro e w4 ⟨rfl, n4, rfl⟩
          have hd4 := nu_drewN (nu_refl w3) n4
          have hn4 := nu_trans hn3 hd4
          have HG4 := Lib.hid (show SumIs (w3.drewN n4) (g + 1) g (xs ++ ys) (xs ++ ys).length rv3 ∧ OwnB (w3.drewN n4) (g + 1) 5 (.slice ao L co) xs ∧ (∀ j, (Value.slice ao L co).ownBlock = some j → rv3.ownBlock ≠ some j) from
            ⟨HG3.out.1.below hd4, ownB_below HG3.out.2.1 hd4, HG3.out.2.2⟩)
          have HL4 := Lib.hid (HL3.out.drewN n4)
          have Hz4 := Lib.hid (Nat.lt_of_lt_of_le Hz3.out hd4.size)
          have Hrl := Lib.hid (show ∀ j, rv3.ownBlock = some j → j < (w3.drewN n4).heap.size from fun j hj => (own_low HG4.out.1.2 j hj).2)
          clear hn3 hd4 HG3 HL3 HY3 d1 Hz3
          generalize w3.drewN n4 = w4 at *
          go_wp2_with fail
          go_loopw [7] (fun i wq => ∃ (m : Nat) (zs : List Nat), m ≤ li ∧ i = .int .i64 m ∧ w4.grownBy wq (some gi) ∧ zs.length = li + 3 ∧ (∀ z ∈ zs, z < 256) ∧ Blk wq gi 5 (zs.map vb).toArray) (fun i _ => li - (intOf i).toNat)
          case atStart => exact ⟨0, ys ++ [201, 202, 203], by omega, rfl, gb_refl _ _, by rw [List.length_append, Hyl.out]; rfl, fun z hz => by
            rcases List.mem_append.1 hz with hz | hz
            · exact Hyx.out z hz
            · simp at hz; omega, HL4.out⟩
          case round =>
            clear HL4
            obtain ⟨m, zs, hml, rfl, hg5, hzl, hzx, hB⟩ := hrel
            obtain ⟨w5, rfl⟩ : ∃ x : World, x = wr := ⟨_, rfl⟩
            by_cases hlm : m < li
            · have hmi : (m : Int) < (li : Int) := by omega
              have hmi3 : (m : Int) < (li : Int) + 3 := by omega
              obtain ⟨y, hy⟩ : ∃ y, zs[m]? = some y := ⟨_, List.getElem?_eq_getElem (by omega)⟩
              have hy8 := hzx y (List.mem_of_getElem? hy)
              have cy : w5.cell? ⟨gi, m, none⟩ = some (.int .u8 (y : Int)) := hB.at m _ (arr_at zs m y hy)
              have fy := hB.free m
              have e1 : ((((y + 1) % 256 : Nat)) : Int) = ((y : Int) + 1) % 256 := by omega
              have hB2 := hB.put m (vb ((y + 1) % 256))
              rw [arr_set] at hB2
              unfold vb at hB2
              rw [e1] at hB2
              have HB2 := Lib.hid hB2
              have Hg2 := Lib.hid (gb_set hg5 (p := ⟨gi, m, none⟩) (.inl rfl) (.int .u8 (((y : Int) + 1) % 256)))
              have HZ := Lib.hid (show (zs.set m ((y + 1) % 256)).length = li + 3 ∧ ∀ z ∈ zs.set m ((y + 1) % 256), z < 256 from ⟨by rw [List.length_set, hzl], fun z hz => by
                rcases List.mem_or_eq_of_mem_set hz with h | h
                · exact hzx z h
                · omega⟩)
              clear hg5 hzl hzx hB hB2 e1 hy hy8
              go_wp2_with fail
              go_roundw
              case rel => first | exact ⟨m + 1, _, by omega, by go_num, Hg2.out, HZ.out.1, HZ.out.2, HB2.out⟩ | ((repeat apply Exists.intro); exact ⟨⟨m + 1, _, by omega, by go_num, Hg2.out, HZ.out.1, HZ.out.2, HB2.out⟩, rfl⟩)
              case measure => simp [intOf]; omega
            · obtain rfl : m = li := by omega
              have hS5 : SumIs w5 (g + 1) g (xs ++ ys) (xs ++ ys).length rv3 := ⟨Blk.grown HG4.out.1.1 hg5 (fun e => by injection e with e; have := Hgi.out.1; omega), own_grown HG4.out.1.2 hg5 Hrg.out⟩
              have hO5 : OwnB w5 (g + 1) 5 (.slice ao L co) xs := own_grown HG4.out.2.1 hg5 (fun e => by have := Hgi.out.2.2.2 gi e; omega)
              have hn5 : Below w.heap.size w w5 := hn4.grown hg5 hn4.size (fun j hj => by injection hj with hj; have := Hgi.out.2.1; omega)
              have HS5 := Lib.hid hS5
              have HO5 := Lib.hid hO5
              have HY5 := Lib.hid (Hys.out.keep hn5)
              have Hz5 := Lib.hid (show g + 1 ≤ w5.heap.size from by have h1 := Hz4.out; have h2 := hg5.size; omega)
              have Hrl5 := Lib.hid (show ∀ j, rv3.ownBlock = some j → j < w5.heap.size from fun j hj => by have h1 := Hrl.out j hj; have h2 := hg5.size; omega)
              have c5 := (hn5.cell (p := ⟨b, off + k * 2 + 1, none⟩) Hbl.out).trans HC.out.2
              have Hll := Lib.hid (show xs.length + m ≤ 140737488355320 by rw [← HL.out]; omega)
              have Hap := Lib.hid HG4.out.2.2
              clear hS5 hO5 hg5 hzl hzx hB hn4 HG4 Hrl hlm
              go_wp2_with (at_builtin; refine wpList_append_lies rfl (.tmp 73) (.tmp 78) rfl HO5.out Hz5.out HY5.out Hll.out rfl rfl ?_)
              intro v6 w6 hO6 hg6 hl6
              have hS6 : SumIs w6 (g + 1) g (xs ++ ys) (xs ++ ys).length rv3 :=
                ⟨Blk.grown HS5.out.1 hg6 (fun e => by have := (own_low HO5.out g e.symm).1; omega),
                  own_turned HS5.out.2 (Turned.of_ob (g := g) hg6) (fun e => by have := (own_low HS5.out.2 g e).1; omega) (fun j hj e => Hap.out j e hj)⟩
              have hn6 : Below w.heap.size w w6 := hn5.grown hg6 hn5.size (fun j hj => by have h1 := (own_low HO5.out j hj).1; have h2 := hn5.size; have := Hgi.out.2.1; have := Hg0.out; omega)
              obtain ⟨a6, c6, rfl, _, _, hby6⟩ := hO6.reads
              obtain ⟨M, hM⟩ : ∃ M, M = (xs ++ ys).length := ⟨_, rfl⟩
              have HG6 := Lib.hid (show GrowAt w g w6 (xs ++ ys) rv3 (.slice a6 (xs ++ ys).length c6) from ⟨hS6, hO6, fun j hj => by
                rcases hl6 with h | h
                · rw [h] at hj; exact Hap.out j hj
                · rw [h] at hj
                  injection hj with hj
                  intro e
                  have := Hrl5.out j e
                  omega, by have h1 := Hz5.out; have h2 := hg6.size; omega, Hg0.out, hn6⟩)
              rw [← hM] at HG6 hS6 ⊢
              have hMb : M ≤ 20000 := by rw [hM, List.length_append, ← HL.out, Hyl.out]; omega
              have HLn := Lib.hid (len_any hS6.1 (show M < 9223372036854775808 by omega))
              have HM := Lib.hid hM
              clear hS6 hn6 hO6 hg6 hl6 hby6 hM HS5 HO5 HY5 Hrl5 hn5 c5
              go_wp2_with fail
              refine HLn.out.mono ?_
              rintro e w7 ⟨rfl, rfl⟩
              go_wp2_with fail
              go_roundw
              case rel => first | exact ⟨k + 1, xs ++ ys, rv3, by omega, by go_num, by rw [← HM.out]; exact hMb, HG6.out⟩ | ((repeat apply Exists.intro); exact ⟨⟨k + 1, xs ++ ys, rv3, by omega, by go_num, by rw [← HM.out]; exact hMb, HG6.out⟩, rfl⟩)
              case measure => simp [intOf]; omega
    · have hex : ¬ (k : Int) < (len : Int) ∨ ((k : Int) < (len : Int) ∧ ¬ (k : Int) < 300) := by omega
      clear hlt
      obtain ⟨wb, rfl⟩ : ∃ x : World, x = wr := ⟨_, rfl⟩
      rcases hex with hi | ⟨hi, hi3⟩
      all_goals
        go_wp2_with fail
        refine (HSum.out wb (nu_refl wb)).mono ?_
        rintro e w2 ⟨rfl, hb2⟩
        go_wp2_with fail
        refine (HRef.out w2 hb2).mono ?_
        rintro e w3 ⟨rfl, hb3⟩
        have hm3 := nu_trans hb2 hb3
        go_wp2_with (refine wpList_run _ rfl (exec_same_32 D HDl.out (.tmp 86) (.tmp 88) rfl rfl rfl) ?_)
        refine (HSum.out w3 hm3).mono ?_
        rintro e w4 ⟨rfl, hb4⟩
        have hm4 := nu_trans hm3 hb4
        clear hb2 hb3 hm3
        go_wp2_with fail
        refine (HSum.out w4 hm4).mono ?_
        rintro e w5 ⟨rfl, hb5⟩
        have hn5 := nu_trans hn (nu_trans hm4 hb5)
        have HT5 := Lib.hid (HT.out.below hn5 HT.out.size)
        clear hm4 hb4 hb5 hTr hn
        go_wp2_with (refine wpList_run _ rfl (exec_same_32 D HDl.out (.tmp 92) (.tmp 94) rfl rfl rfl) ?_)
        refine (shaAwake_any HT5.out).mono ?_
        rintro e w6 ⟨rfl, hb6⟩
        have hn6 := nu_trans hn5 hb6
        go_wp2_with fail
        go_ret
        exact ⟨rfl, hn6⟩
end Go.Proofs.YtlekepigndlbhaaDoor
