/-
  The walk of NonceOnce, its first loop: what two sources tell is gathered.
-/
import Derived.Test.YtdefdhmoleahnaaNonceO
namespace Go.Proofs.Ytdefdhmoleahnaa
open Go.ChangeShapes Go.WideShapes Go.ChangeAt Go.RowKit

theorem own_below {w w' : World} {base : Nat} {e : TypeId} {size : Nat} {v : Value} {n : Nat} {xs : List Value} (h : w.ownsRow base e size v n xs) (hb : Below w.heap.size w w') : w'.ownsRow base e size v n xs :=
  h.kept (gb_of_below hb none) (by cases v.ownBlock <;> simp)
theorem cell_below {w w' : World} {a : Addr} {v : Value} (hb : Below w.heap.size w w') (h : w.cell? a = some v) : w'.cell? a = some v := (hb.cell (World.block_lt_of_cell? _ _ h)).trans h
theorem cell_alloc {w : World} {a : Addr} {v : Value} (o : Obj) (h : w.cell? a = some v) : (w.alloc o).cell? a = some v := (World.cell?_alloc_lt w o a (World.block_lt_of_cell? _ _ h)).trans h
theorem own_ne {w : World} {base : Nat} {e t : TypeId} {size n g : Nat} {v : Value} {xs : List Value} {cs : Array Value} (h : w.ownsRow base e size v n xs) (hg : Blk w g t cs) (hne : e ≠ t) : some g ≠ v.ownBlock := by
  intro he
  rcases h.2 with ⟨rfl, _⟩ | ⟨g', cap, cur, rfl, _, hh, _⟩
  · simp [Value.ownBlock] at he
  · have e1 : g = g' := by simpa [Value.ownBlock] using he
    subst e1
    exact Blk.apart (t := e) hh hg hne rfl
theorem own_row12 {w : World} {base : Nat} {e : TypeId} {v : Value} {n : Nat} {xs : List Value} (h : w.ownsRow base e 12 v n xs) :
    ∃ a cap, v = .slice a n cap ∧ n ≤ cap ∧ (0 < n → ∃ g, a = some ⟨g, 0, none⟩ ∧ ∀ (i : Nat) (u : Value), xs[i]? = some u → w.cell? ⟨g, i, none⟩ = some u) := by
  rcases h.2 with ⟨rfl, rfl⟩ | ⟨g, cap, cur, rfl, hbg, hh, hnc, hcm, hsz, htk⟩
  · exact ⟨none, 0, rfl, Nat.le_refl _, fun h => absurd h (by omega)⟩
  · refine ⟨_, cap, rfl, hnc, fun _ => ⟨g, rfl, fun i u hu => Blk.at (t := e) hh i u ?_⟩⟩
    rw [← htk, List.getElem?_take] at hu
    split at hu
    · rw [← Array.getElem?_toList]; exact hu
    · cases hu
theorem told_apart {boot other first second : Nat} (hb : boot < 4294967296) (ho : other < 4294967296) (k : Nat) {L : List (Nat × Nat)} (hL : L = told boot other first second k) (i j : Nat) (p r : Nat × Nat) (hp : L[i]? = some p) (hr : L[j]? = some r) (hij : i ≠ j) :
    nonceL p.1 p.2 ≠ nonceL r.1 r.2 := by
  subst hL
  intro e
  obtain ⟨p1, p2⟩ := told_bound hb ho k p (List.mem_of_getElem? hp)
  obtain ⟨r1, r2⟩ := told_bound hb ho k r (List.mem_of_getElem? hr)
  obtain ⟨e1, e2⟩ := nonceL_inj p1 p2 r1 r2 e
  have e3 : p = r := Prod.ext e1 e2
  subst e3
  have hn := told_nodup (boot := boot) (other := other) (first := first) (second := second) k
  obtain ⟨hi, hi2⟩ := List.getElem?_eq_some_iff.1 hp
  obtain ⟨hj, hj2⟩ := List.getElem?_eq_some_iff.1 hr
  have hw := List.pairwise_iff_getElem.1 hn
  rcases Nat.lt_or_gt_of_ne hij with h | h
  · exact hw i j hi hj h (hi2.trans hj2.symm)
  · exact hw j i hj hi h (hj2.trans hi2.symm)
theorem cells12_new (w : World) (e : TypeId) (x0 x1 x2 x3 x4 x5 x6 x7 x8 x9 x10 x11 : Nat) : ∀ (j : Nat) (u : Value), [Value.int .u8 (x0 : Int), Value.int .u8 (x1 : Int), Value.int .u8 (x2 : Int), Value.int .u8 (x3 : Int), Value.int .u8 (x4 : Int), Value.int .u8 (x5 : Int), Value.int .u8 (x6 : Int), Value.int .u8 (x7 : Int), Value.int .u8 (x8 : Int), Value.int .u8 (x9 : Int), Value.int .u8 (x10 : Int), Value.int .u8 (x11 : Int)][j]? = some u → (w.alloc (.cells #[Value.int .u8 (x0 : Int), Value.int .u8 (x1 : Int), Value.int .u8 (x2 : Int), Value.int .u8 (x3 : Int), Value.int .u8 (x4 : Int), Value.int .u8 (x5 : Int), Value.int .u8 (x6 : Int), Value.int .u8 (x7 : Int), Value.int .u8 (x8 : Int), Value.int .u8 (x9 : Int), Value.int .u8 (x10 : Int), Value.int .u8 (x11 : Int)] e)).cell? ((⟨w.heap.size, 0, none⟩ : Addr).add j) = some u := by
  intro j u hu
  rw [Go.WideShapes.add_plain, Nat.zero_add]
  refine (Blk.made w e #[Value.int .u8 (x0 : Int), Value.int .u8 (x1 : Int), Value.int .u8 (x2 : Int), Value.int .u8 (x3 : Int), Value.int .u8 (x4 : Int), Value.int .u8 (x5 : Int), Value.int .u8 (x6 : Int), Value.int .u8 (x7 : Int), Value.int .u8 (x8 : Int), Value.int .u8 (x9 : Int), Value.int .u8 (x10 : Int), Value.int .u8 (x11 : Int)]).at j u ?_
  rw [← hu]
  exact List.getElem?_toArray
theorem one12 (x0 x1 x2 x3 x4 x5 x6 x7 x8 x9 x10 x11 : Nat) : ∀ u ∈ [Value.int .u8 (x0 : Int), Value.int .u8 (x1 : Int), Value.int .u8 (x2 : Int), Value.int .u8 (x3 : Int), Value.int .u8 (x4 : Int), Value.int .u8 (x5 : Int), Value.int .u8 (x6 : Int), Value.int .u8 (x7 : Int), Value.int .u8 (x8 : Int), Value.int .u8 (x9 : Int), Value.int .u8 (x10 : Int), Value.int .u8 (x11 : Int)], u.oneCell' = true := by
  intro u hu
  exact vb_one [x0, x1, x2, x3, x4, x5, x6, x7, x8, x9, x10, x11] u hu

theorem over_cases (boot first k : Nat) :
    (overOf first k = true ∧ ∃ m : Nat, srcCells boot (nextOf first k) (overOf first k) = srcCells boot m true ∧ srcCells boot (nextOf first k) (overOf first k) = srcCells boot (nextOf first (k + 1)) (overOf first (k + 1))) ∨
    (overOf first k = false ∧ ∃ m : Nat, m < 18446744073709551616 ∧ srcCells boot (nextOf first k) (overOf first k) = srcCells boot m false ∧ srcCells boot ((m + 1) % 18446744073709551616) ((m + 1) % 18446744073709551616 == 0) = srcCells boot (nextOf first (k + 1)) (overOf first (k + 1)) ∧ m = first + k) := by
  by_cases ho : top ≤ first + k
  · exact .inl ⟨decide_eq_true ho, _, by rw [show overOf first k = true from decide_eq_true ho], state_over boot first k ho⟩
  · have hn : first + k < 18446744073709551616 := by rw [top_eq] at ho; omega
    exact .inr ⟨decide_eq_false ho, first + k, hn, by rw [show overOf first k = false from decide_eq_false ho, show nextOf first k = first + k by unfold nextOf; rw [if_neg ho]], state_step boot first k hn, rfl⟩

set_option maxRecDepth 100000 in
set_option maxHeartbeats 4000000 in
theorem nonceOnce_walk (boot other first second : Nat) (a4 : Option Addr) (len4 cap4 : Nat) (xs : List Nat) (w : World) (hboot : boot < 4294967296) (hother : other < 4294967296) (hfirst : first < 18446744073709551616) (hsecond : second < 18446744073709551616) (hx4 : IntsIn w .u32 a4 len4 xs) (hlen : len4 ≤ 9223372036854775807) :
    Calls Try.prog 10 #[.int .u32 boot, .int .u32 other, .int .u64 first, .int .u64 second, .slice a4 len4 cap4] w fun e w' => e = .returned (.bool true) ∧ Below w.heap.size w w' := by
  obtain ⟨i1, hj, hj0, hj1, hj2⟩ := info_parts info_nonce
  obtain ⟨i2, hu8, _, _, _⟩ := info_parts info_u8
  have Hboot := Lib.hid hboot
  have Hother := Lib.hid hother
  have Hfirst := Lib.hid hfirst
  have Hsecond := Lib.hid hsecond
  clear hboot hother hfirst hsecond
  go_enter Try.func10, Try.ntmps10
  go_wp2_with fail
  refine (new_any boot first _).mono ?_
  rintro e w1 ⟨rfl, rfl⟩
  go_wp2_with fail
  refine (new_any other second _).mono ?_
  rintro e w2 ⟨rfl, rfl⟩
  have S0 := (Blk.made w 54 (srcCells boot first false)).alloc (.cells (srcCells other second false) 54)
  have T0 := Blk.made (w.alloc (.cells (srcCells boot first false) 54)) 54 (srcCells other second false)
  simp only [World.size_alloc] at T0
  have Z0 : Below w.heap.size w ((w.alloc (.cells (srcCells boot first false) 54)).alloc (.cells (srcCells other second false) 54)) := ((Below.refl _ _).alloc (Nat.le_refl _) _).alloc (by simp) _
  go_wp2_with fail
  go_loopw [13, 14] (fun v i wr => ∃ k : Nat, k ≤ len4 ∧ k ≤ 100 ∧ i = .int .i64 k ∧ Blk wr w.heap.size 54 (srcCells boot (nextOf first k) (overOf first k)) ∧ Blk wr (w.heap.size + 1) 54 (srcCells other (nextOf second k) (overOf second k)) ∧
      wr.ownsRow (w.heap.size + 2) 46 12 v (told boot other first second k).length (flatN (told boot other first second k)) ∧ Below w.heap.size w wr ∧ w.heap.size + 2 ≤ wr.heap.size) (fun _ i _ => len4 - (intOf i).toNat)
  case atStart => exact ⟨0, by omega, by omega, rfl, by rw [← state_zero boot first Hfirst.out]; exact S0, by rw [← state_zero other second Hsecond.out]; exact T0, World.ownsRow_nil _ _ _ _, Z0, by simp⟩
  case round =>
    clear S0 T0 Z0
    obtain ⟨k, hk1, hk2, rfl, hs0, ht0, hown0, hbe0, hzz0⟩ := hrel
    by_cases hlt : k < len4 ∧ k < 100
    · obtain ⟨hlt, h5⟩ := hlt
      obtain ⟨b, off, ep, rfl, hbl, _, hep, hc⟩ := hx4.elem k hlt
      have hc0 : wr.cell? ⟨b, off + k, none⟩ = some (.int .u32 (ep : Int)) := (hbe0.cell hbl).trans hc
      have hks : (k : Int) < (len4 : Int) := by omega
      have HLen := Lib.hid (show (told boot other first second k).length ≤ 200 by have := told_length (boot := boot) (other := other) (first := first) (second := second) k; omega)
      have HS := Lib.hid (show told boot other first second (k + 1) = told boot other first second k ++ ((if overOf first k then [] else [(boot, first + k)]) ++ (if overOf second k || boot == other then [] else [(other, second + k)])) from rfl)
      obtain ⟨LA, hLA⟩ : ∃ LA, LA = told boot other first second k := ⟨_, rfl⟩
      rw [← hLA] at hown0 HLen
      have HLA := Lib.hid hLA
      clear hep hc hLA
      rcases over_cases boot first k with ⟨o1, m, e1, e2⟩ | ⟨o1, m, e0, e1, e2, e3⟩
      · have hs0f := hs0
        rw [e1] at hs0f
        have EA := Lib.hid e2
        have HoS := Lib.hid o1
        clear o1 e1 e2
        rcases over_cases other second k with ⟨o2, q, e1, e2⟩ | ⟨o2, q, e0, e1, e2, e3⟩
        · have EBf := Lib.hid e1
          have EB := Lib.hid e2
          have HoT := Lib.hid o2
          clear o2 e1 e2
          have HS' := HS.out
          rw [HoS.out, HoT.out] at HS'
          clear HS
          have HS := Lib.hid HS'
          clear HS'
          go_wp2_with fail
          refine (next_over w.heap.size boot m ep _ hs0f).mono ?_
          rintro e w2 ⟨rfl, bA⟩
          have hsnA := hs0.below bA hs0.lt
          rw [EA.out] at hsnA
          have htnA := ht0.below bA ht0.lt
          have hownA := own_below hown0 bA
          have hbeA := hbe0.trans (bA.mono (by first | omega | (simp; omega)))
          have hcA : w2.cell? ⟨b, off + k, none⟩ = some (.int .u32 (ep : Int)) := cell_below bA hc0
          have hzA := bA.size
          have hs1 := hsnA.alloc (.cells #[.int .u32 0, .int .u32 0, .int .u64 0] 33)
          have ht1 := htnA.alloc (.cells #[.int .u32 0, .int .u32 0, .int .u64 0] 33)
          have hown1 := hownA.alloc (.cells #[.int .u32 0, .int .u32 0, .int .u64 0] 33)
          have hbe1 := hbeA.alloc (by omega) (.cells #[.int .u32 0, .int .u32 0, .int .u64 0] 33)
          have hc1 := cell_alloc (.cells #[.int .u32 0, .int .u32 0, .int .u64 0] 33) hcA
          have hzz1 : w.heap.size + 2 ≤ w2.heap.size := by omega
          have X1 := Blk.made w2 33 #[.int .u32 0, .int .u32 0, .int .u64 0]
          have ht1f := ht1
          rw [EBf.out] at ht1f
          clear hs0 ht0 hown0 hbe0 hc0 hs0f bA hsnA htnA hownA hbeA hcA EA
          go_wp2_with fail
          refine (next_over (w.heap.size + 1) other q ep _ ht1f).mono ?_
          rintro e w3 ⟨rfl, bB⟩
          have htnB := ht1.below bB ht1.lt
          rw [EB.out] at htnB
          have hsnB := hs1.below bB hs1.lt
          have hownB := own_below hown1 bB
          have hbeB := hbe1.trans (bB.mono (by first | omega | (simp; omega)))
          have hcB : w3.cell? ⟨b, off + k, none⟩ = some (.int .u32 (ep : Int)) := cell_below bB hc1
          have hzB := bB.size
          have X2 := X1.below bB X1.lt
          have hs2 := hsnB.alloc (.cells #[.int .u32 0, .int .u32 0, .int .u64 0] 33)
          have ht2 := htnB.alloc (.cells #[.int .u32 0, .int .u32 0, .int .u64 0] 33)
          have hown2 := hownB.alloc (.cells #[.int .u32 0, .int .u32 0, .int .u64 0] 33)
          have hbe2 := hbeB.alloc (by first | omega | (simp at hzB; omega)) (.cells #[.int .u32 0, .int .u32 0, .int .u64 0] 33)
          have X3 := X2.alloc (.cells #[.int .u32 0, .int .u32 0, .int .u64 0] 33)
          have Y3 := Blk.made w3 33 #[.int .u32 0, .int .u32 0, .int .u64 0]
          have hzz2 : w.heap.size + 2 ≤ w3.heap.size := by first | omega | (simp at hzB; omega)
          clear hs1 ht1 hown1 hbe1 hc1 ht1f bB hsnB htnB hownB hbeB hcB EB EBf X1 X2
          clear X3
          have Hstep := Lib.hid (show told boot other first second (k + 1) = LA by
            have h1 := HS.out
            rw [h1]
            first | simp [HLA.out, HBO.out] | simp [HLA.out])
          have Hown := Lib.hid (show (w3.alloc (.cells #[.int .u32 0, .int .u32 0, .int .u64 0] 33)).ownsRow (w.heap.size + 2) 46 12 _ (told boot other first second (k + 1)).length (flatN (told boot other first second (k + 1))) by rw [Hstep.out]; exact hown2)
          clear hown2
          go_wp2_with fail
          go_roundw
          case rel => exact ⟨k + 1, by omega, by omega, by go_num, hs2, ht2, Hown.out, hbe2, by simp; omega⟩
          case measure => simp [intOf]; omega
        · have Hq := Lib.hid (show q < 18446744073709551616 from e0)
          have EBf := Lib.hid e1
          have EB := Lib.hid e2
          have HoT := Lib.hid o2
          have HmT := Lib.hid e3
          clear o2 e0 e1 e2 e3
          have HS' := HS.out
          rw [HoS.out, HoT.out] at HS'
          rw [← HmT.out] at HS'
          clear HS
          have HS := Lib.hid HS'
          clear HS'
          by_cases hbo : boot = other
          · have tb : ((boot : Int) != (other : Int)) = false := by rw [hbo]; simp
            have HBO := Lib.hid hbo
            clear hbo
            go_wp2_with fail
            refine (next_over w.heap.size boot m ep _ hs0f).mono ?_
            rintro e w2 ⟨rfl, bA⟩
            have hsnA := hs0.below bA hs0.lt
            rw [EA.out] at hsnA
            have htnA := ht0.below bA ht0.lt
            have hownA := own_below hown0 bA
            have hbeA := hbe0.trans (bA.mono (by first | omega | (simp; omega)))
            have hcA : w2.cell? ⟨b, off + k, none⟩ = some (.int .u32 (ep : Int)) := cell_below bA hc0
            have hzA := bA.size
            have hs1 := hsnA.alloc (.cells #[.int .u32 0, .int .u32 0, .int .u64 0] 33)
            have ht1 := htnA.alloc (.cells #[.int .u32 0, .int .u32 0, .int .u64 0] 33)
            have hown1 := hownA.alloc (.cells #[.int .u32 0, .int .u32 0, .int .u64 0] 33)
            have hbe1 := hbeA.alloc (by omega) (.cells #[.int .u32 0, .int .u32 0, .int .u64 0] 33)
            have hc1 := cell_alloc (.cells #[.int .u32 0, .int .u32 0, .int .u64 0] 33) hcA
            have hzz1 : w.heap.size + 2 ≤ w2.heap.size := by omega
            have X1 := Blk.made w2 33 #[.int .u32 0, .int .u32 0, .int .u64 0]
            have ht1f := ht1
            rw [EBf.out] at ht1f
            clear hs0 ht0 hown0 hbe0 hc0 hs0f bA hsnA htnA hownA hbeA hcA EA
            go_wp2_with fail
            refine (next_more (w.heap.size + 1) other q ep _ ht1f).mono ?_
            rintro e w3 ⟨rfl, gB, htnB⟩
            rw [EB.out] at htnB
            have hsnB := hs1.grown gB (fun e => by have := Option.some.inj e; omega)
            have hownB := hown1.kept gB (.inr (fun e => by have := (hown1.lt _ e).1; omega))
            have hbeB := below_turned hbe1 gB (by first | omega | (simp; omega)) (by omega)
            have hcB : w3.cell? ⟨b, off + k, none⟩ = some (.int .u32 (ep : Int)) := gB.cell hc1 (fun e => by have := Option.some.inj e; simp at this; omega)
            have hzB := gB.size
            have X2 := X1.grown gB (fun e => by have := Option.some.inj e; omega)
            have hs2 := hsnB.alloc (.cells #[.int .u32 ep, .int .u32 other, .int .u64 q] 33)
            have ht2 := htnB.alloc (.cells #[.int .u32 ep, .int .u32 other, .int .u64 q] 33)
            have hown2 := hownB.alloc (.cells #[.int .u32 ep, .int .u32 other, .int .u64 q] 33)
            have hbe2 := hbeB.alloc (by first | omega | (simp at hzB; omega)) (.cells #[.int .u32 ep, .int .u32 other, .int .u64 q] 33)
            have X3 := X2.alloc (.cells #[.int .u32 ep, .int .u32 other, .int .u64 q] 33)
            have Y3 := Blk.made w3 33 #[.int .u32 ep, .int .u32 other, .int .u64 q]
            have hzz2 : w.heap.size + 2 ≤ w3.heap.size := by first | omega | (simp at hzB; omega)
            clear hs1 ht1 hown1 hbe1 hc1 ht1f gB hsnB htnB hownB hbeB hcB EB EBf X1 X2
            clear X3
            have Hstep := Lib.hid (show told boot other first second (k + 1) = LA by
              have h1 := HS.out
              rw [h1]
              first | simp [HLA.out, HBO.out] | simp [HLA.out])
            have Hown := Lib.hid (show (w3.alloc (.cells #[.int .u32 ep, .int .u32 other, .int .u64 q] 33)).ownsRow (w.heap.size + 2) 46 12 _ (told boot other first second (k + 1)).length (flatN (told boot other first second (k + 1))) by rw [Hstep.out]; exact hown2)
            clear hown2
            go_wp2_with fail
            go_roundw
            case rel => exact ⟨k + 1, by omega, by omega, by go_num, hs2, ht2, Hown.out, hbe2, by simp; omega⟩
            case measure => simp [intOf]; omega
          · have tb : ((boot : Int) != (other : Int)) = true := by rw [bne_iff_ne]; omega
            have HBO := Lib.hid hbo
            clear hbo
            go_wp2_with fail
            refine (next_over w.heap.size boot m ep _ hs0f).mono ?_
            rintro e w2 ⟨rfl, bA⟩
            have hsnA := hs0.below bA hs0.lt
            rw [EA.out] at hsnA
            have htnA := ht0.below bA ht0.lt
            have hownA := own_below hown0 bA
            have hbeA := hbe0.trans (bA.mono (by first | omega | (simp; omega)))
            have hcA : w2.cell? ⟨b, off + k, none⟩ = some (.int .u32 (ep : Int)) := cell_below bA hc0
            have hzA := bA.size
            have hs1 := hsnA.alloc (.cells #[.int .u32 0, .int .u32 0, .int .u64 0] 33)
            have ht1 := htnA.alloc (.cells #[.int .u32 0, .int .u32 0, .int .u64 0] 33)
            have hown1 := hownA.alloc (.cells #[.int .u32 0, .int .u32 0, .int .u64 0] 33)
            have hbe1 := hbeA.alloc (by omega) (.cells #[.int .u32 0, .int .u32 0, .int .u64 0] 33)
            have hc1 := cell_alloc (.cells #[.int .u32 0, .int .u32 0, .int .u64 0] 33) hcA
            have hzz1 : w.heap.size + 2 ≤ w2.heap.size := by omega
            have X1 := Blk.made w2 33 #[.int .u32 0, .int .u32 0, .int .u64 0]
            have ht1f := ht1
            rw [EBf.out] at ht1f
            clear hs0 ht0 hown0 hbe0 hc0 hs0f bA hsnA htnA hownA hbeA hcA EA
            go_wp2_with fail
            refine (next_more (w.heap.size + 1) other q ep _ ht1f).mono ?_
            rintro e w3 ⟨rfl, gB, htnB⟩
            rw [EB.out] at htnB
            have hsnB := hs1.grown gB (fun e => by have := Option.some.inj e; omega)
            have hownB := hown1.kept gB (.inr (fun e => by have := (hown1.lt _ e).1; omega))
            have hbeB := below_turned hbe1 gB (by first | omega | (simp; omega)) (by omega)
            have hcB : w3.cell? ⟨b, off + k, none⟩ = some (.int .u32 (ep : Int)) := gB.cell hc1 (fun e => by have := Option.some.inj e; simp at this; omega)
            have hzB := gB.size
            have X2 := X1.grown gB (fun e => by have := Option.some.inj e; omega)
            have hs2 := hsnB.alloc (.cells #[.int .u32 ep, .int .u32 other, .int .u64 q] 33)
            have ht2 := htnB.alloc (.cells #[.int .u32 ep, .int .u32 other, .int .u64 q] 33)
            have hown2 := hownB.alloc (.cells #[.int .u32 ep, .int .u32 other, .int .u64 q] 33)
            have hbe2 := hbeB.alloc (by first | omega | (simp at hzB; omega)) (.cells #[.int .u32 ep, .int .u32 other, .int .u64 q] 33)
            have X3 := X2.alloc (.cells #[.int .u32 ep, .int .u32 other, .int .u64 q] 33)
            have Y3 := Blk.made w3 33 #[.int .u32 ep, .int .u32 other, .int .u64 q]
            have hzz2 : w.heap.size + 2 ≤ w3.heap.size := by first | omega | (simp at hzB; omega)
            clear hs1 ht1 hown1 hbe1 hc1 ht1f gB hsnB htnB hownB hbeB hcB EB EBf X1 X2
            clear X3
            have p0 := Y3.at 0 (.int .u32 ep) rfl
            have p1 := Y3.at 1 (.int .u32 other) rfl
            have p2 := Y3.at 2 (.int .u64 q) rfl
            obtain ⟨y0, y1, y2, y3, y4, y5, y6, y7, y8, y9, y10, y11, hy⟩ := list12' (nonceL other q) (nonceL_length other q)
            have Hy := Lib.hid hy
            clear hy
            go_wp2_with fail
            refine (nonce_lit ep other q y0 y1 y2 y3 y4 y5 y6 y7 y8 y9 y10 y11 _ Hother.out Hq.out Hy.out).mono ?_
            rintro e w6 ⟨rfl, b6⟩
            have hs6 := hs2.below b6 hs2.lt
            have ht6 := ht2.below b6 ht2.lt
            have hown6 := own_below hown2 b6
            have hbe6 := hbe2.trans (b6.mono (by first | omega | (simp; omega)))
            have hzz6 : w.heap.size + 2 ≤ w6.heap.size := by have := b6.size; first | omega | (simp at this; omega)
            clear hs2 ht2 hown2 hbe2 Y3 b6 p0 p1 p2
            go_wp2_with (at_builtin; refine wpList_append_own _ rfl (.tmp 69) (.tmp 72) 45 rfl (w.heap.size + 2) 46 i1 (.agg zero12) 12 12 Try.underlying45 hj hj0 hj1 hj2 rfl (by decide) _ _ _ rfl (hown6.alloc _) ⟨w6.heap.size, 0, none⟩ 1 1 [Value.int .u8 (y0 : Int), Value.int .u8 (y1 : Int), Value.int .u8 (y2 : Int), Value.int .u8 (y3 : Int), Value.int .u8 (y4 : Int), Value.int .u8 (y5 : Int), Value.int .u8 (y6 : Int), Value.int .u8 (y7 : Int), Value.int .u8 (y8 : Int), Value.int .u8 (y9 : Int), Value.int .u8 (y10 : Int), Value.int .u8 (y11 : Int)] rfl rfl ?d1 ?d2 ?d3 ?d4 ?d5 ?_)
            case d1 => exact cells12_new w6 46 y0 y1 y2 y3 y4 y5 y6 y7 y8 y9 y10 y11
            case d2 => exact one12 y0 y1 y2 y3 y4 y5 y6 y7 y8 y9 y10 y11
            case d3 => unfold maxLen; have := HLen.out; first | omega | (simp only [List.length_append, List.length_cons, List.length_nil]; omega)
            case d4 => have := HLen.out; first | omega | (simp only [List.length_append, List.length_cons, List.length_nil]; omega)
            case d5 => simp; omega
            intro v7 w7 hown7 hg7 _
            have hs7 := (hs6.alloc (.cells #[Value.int .u8 (y0 : Int), Value.int .u8 (y1 : Int), Value.int .u8 (y2 : Int), Value.int .u8 (y3 : Int), Value.int .u8 (y4 : Int), Value.int .u8 (y5 : Int), Value.int .u8 (y6 : Int), Value.int .u8 (y7 : Int), Value.int .u8 (y8 : Int), Value.int .u8 (y9 : Int), Value.int .u8 (y10 : Int), Value.int .u8 (y11 : Int)] 46)).grown hg7 (own_ne (hown6.alloc (.cells #[Value.int .u8 (y0 : Int), Value.int .u8 (y1 : Int), Value.int .u8 (y2 : Int), Value.int .u8 (y3 : Int), Value.int .u8 (y4 : Int), Value.int .u8 (y5 : Int), Value.int .u8 (y6 : Int), Value.int .u8 (y7 : Int), Value.int .u8 (y8 : Int), Value.int .u8 (y9 : Int), Value.int .u8 (y10 : Int), Value.int .u8 (y11 : Int)] 46)) (hs6.alloc (.cells #[Value.int .u8 (y0 : Int), Value.int .u8 (y1 : Int), Value.int .u8 (y2 : Int), Value.int .u8 (y3 : Int), Value.int .u8 (y4 : Int), Value.int .u8 (y5 : Int), Value.int .u8 (y6 : Int), Value.int .u8 (y7 : Int), Value.int .u8 (y8 : Int), Value.int .u8 (y9 : Int), Value.int .u8 (y10 : Int), Value.int .u8 (y11 : Int)] 46)) (by decide))
            have ht7 := (ht6.alloc (.cells #[Value.int .u8 (y0 : Int), Value.int .u8 (y1 : Int), Value.int .u8 (y2 : Int), Value.int .u8 (y3 : Int), Value.int .u8 (y4 : Int), Value.int .u8 (y5 : Int), Value.int .u8 (y6 : Int), Value.int .u8 (y7 : Int), Value.int .u8 (y8 : Int), Value.int .u8 (y9 : Int), Value.int .u8 (y10 : Int), Value.int .u8 (y11 : Int)] 46)).grown hg7 (own_ne (hown6.alloc (.cells #[Value.int .u8 (y0 : Int), Value.int .u8 (y1 : Int), Value.int .u8 (y2 : Int), Value.int .u8 (y3 : Int), Value.int .u8 (y4 : Int), Value.int .u8 (y5 : Int), Value.int .u8 (y6 : Int), Value.int .u8 (y7 : Int), Value.int .u8 (y8 : Int), Value.int .u8 (y9 : Int), Value.int .u8 (y10 : Int), Value.int .u8 (y11 : Int)] 46)) (ht6.alloc (.cells #[Value.int .u8 (y0 : Int), Value.int .u8 (y1 : Int), Value.int .u8 (y2 : Int), Value.int .u8 (y3 : Int), Value.int .u8 (y4 : Int), Value.int .u8 (y5 : Int), Value.int .u8 (y6 : Int), Value.int .u8 (y7 : Int), Value.int .u8 (y8 : Int), Value.int .u8 (y9 : Int), Value.int .u8 (y10 : Int), Value.int .u8 (y11 : Int)] 46)) (by decide))
            have hbe7 := (hbe6.alloc (by omega) (.cells #[Value.int .u8 (y0 : Int), Value.int .u8 (y1 : Int), Value.int .u8 (y2 : Int), Value.int .u8 (y3 : Int), Value.int .u8 (y4 : Int), Value.int .u8 (y5 : Int), Value.int .u8 (y6 : Int), Value.int .u8 (y7 : Int), Value.int .u8 (y8 : Int), Value.int .u8 (y9 : Int), Value.int .u8 (y10 : Int), Value.int .u8 (y11 : Int)] 46)).grown hg7 (by first | omega | (simp; omega)) (fun j hj => by have := (hown6.lt j hj).1; omega)
            have hzz7 : w.heap.size + 2 ≤ w7.heap.size := by have := hg7.size; first | omega | (simp at this; omega)
            have hown7' : w7.ownsRow (w.heap.size + 2) 46 12 v7 (LA ++ [(other, q)]).length (flatN (LA ++ [(other, q)])) := by
              rw [flatN_snoc, Hy.out]
              simp only [List.length_append, List.length_cons, List.length_nil, Nat.zero_add]
              exact hown7
            clear hs6 ht6 hown6 hbe6 hg7 hown7
            have Hstep := Lib.hid (show told boot other first second (k + 1) = (LA ++ [(other, q)]) by
              have h1 := HS.out
              rw [h1]
              first | simp [HLA.out, HBO.out] | simp [HLA.out])
            have Hown := Lib.hid (show w7.ownsRow (w.heap.size + 2) 46 12 _ (told boot other first second (k + 1)).length (flatN (told boot other first second (k + 1))) by rw [Hstep.out]; exact hown7')
            clear hown7'
            go_wp2_with fail
            go_roundw
            case rel => exact ⟨k + 1, by omega, by omega, by go_num, hs7, ht7, Hown.out, hbe7, by omega⟩
            case measure => simp [intOf]; omega
      · have Hm := Lib.hid (show m < 18446744073709551616 from e0)
        have hs0f := hs0
        rw [e1] at hs0f
        have EA := Lib.hid e2
        have HoS := Lib.hid o1
        have HmS := Lib.hid e3
        clear o1 e0 e1 e2 e3
        rcases over_cases other second k with ⟨o2, q, e1, e2⟩ | ⟨o2, q, e0, e1, e2, e3⟩
        · have EBf := Lib.hid e1
          have EB := Lib.hid e2
          have HoT := Lib.hid o2
          clear o2 e1 e2
          have HS' := HS.out
          rw [HoS.out, HoT.out] at HS'
          rw [← HmS.out] at HS'
          clear HS
          have HS := Lib.hid HS'
          clear HS'
          go_wp2_with fail
          refine (next_more w.heap.size boot m ep _ hs0f).mono ?_
          rintro e w2 ⟨rfl, gA, hsnA⟩
          rw [EA.out] at hsnA
          have htnA := ht0.grown gA (fun e => by have := Option.some.inj e; omega)
          have hownA := hown0.kept gA (.inr (fun e => by have := (hown0.lt _ e).1; omega))
          have hbeA := below_turned hbe0 gA (by first | omega | (simp; omega)) (by omega)
          have hcA : w2.cell? ⟨b, off + k, none⟩ = some (.int .u32 (ep : Int)) := gA.cell hc0 (fun e => by have := Option.some.inj e; simp at this; omega)
          have hzA := gA.size
          have hs1 := hsnA.alloc (.cells #[.int .u32 ep, .int .u32 boot, .int .u64 m] 33)
          have ht1 := htnA.alloc (.cells #[.int .u32 ep, .int .u32 boot, .int .u64 m] 33)
          have hown1 := hownA.alloc (.cells #[.int .u32 ep, .int .u32 boot, .int .u64 m] 33)
          have hbe1 := hbeA.alloc (by omega) (.cells #[.int .u32 ep, .int .u32 boot, .int .u64 m] 33)
          have hc1 := cell_alloc (.cells #[.int .u32 ep, .int .u32 boot, .int .u64 m] 33) hcA
          have hzz1 : w.heap.size + 2 ≤ w2.heap.size := by omega
          have X1 := Blk.made w2 33 #[.int .u32 ep, .int .u32 boot, .int .u64 m]
          have ht1f := ht1
          rw [EBf.out] at ht1f
          clear hs0 ht0 hown0 hbe0 hc0 hs0f gA hsnA htnA hownA hbeA hcA EA
          go_wp2_with fail
          refine (next_over (w.heap.size + 1) other q ep _ ht1f).mono ?_
          rintro e w3 ⟨rfl, bB⟩
          have htnB := ht1.below bB ht1.lt
          rw [EB.out] at htnB
          have hsnB := hs1.below bB hs1.lt
          have hownB := own_below hown1 bB
          have hbeB := hbe1.trans (bB.mono (by first | omega | (simp; omega)))
          have hcB : w3.cell? ⟨b, off + k, none⟩ = some (.int .u32 (ep : Int)) := cell_below bB hc1
          have hzB := bB.size
          have X2 := X1.below bB X1.lt
          have hs2 := hsnB.alloc (.cells #[.int .u32 0, .int .u32 0, .int .u64 0] 33)
          have ht2 := htnB.alloc (.cells #[.int .u32 0, .int .u32 0, .int .u64 0] 33)
          have hown2 := hownB.alloc (.cells #[.int .u32 0, .int .u32 0, .int .u64 0] 33)
          have hbe2 := hbeB.alloc (by first | omega | (simp at hzB; omega)) (.cells #[.int .u32 0, .int .u32 0, .int .u64 0] 33)
          have X3 := X2.alloc (.cells #[.int .u32 0, .int .u32 0, .int .u64 0] 33)
          have Y3 := Blk.made w3 33 #[.int .u32 0, .int .u32 0, .int .u64 0]
          have hzz2 : w.heap.size + 2 ≤ w3.heap.size := by first | omega | (simp at hzB; omega)
          clear hs1 ht1 hown1 hbe1 hc1 ht1f bB hsnB htnB hownB hbeB hcB EB EBf X1 X2
          have p0 := X3.at 0 (.int .u32 ep) rfl
          have p1 := X3.at 1 (.int .u32 boot) rfl
          have p2 := X3.at 2 (.int .u64 m) rfl
          obtain ⟨x0, x1, x2, x3, x4, x5, x6, x7, x8, x9, x10, x11, hx⟩ := list12' (nonceL boot m) (nonceL_length boot m)
          have Hx := Lib.hid hx
          clear hx X3
          go_wp2_with fail
          refine (nonce_lit ep boot m x0 x1 x2 x3 x4 x5 x6 x7 x8 x9 x10 x11 _ Hboot.out Hm.out Hx.out).mono ?_
          rintro e w4 ⟨rfl, b4⟩
          have hs3 := hs2.below b4 hs2.lt
          have ht3 := ht2.below b4 ht2.lt
          have hown3 := own_below hown2 b4
          have hbe3 := hbe2.trans (b4.mono (by first | omega | (simp; omega)))
          have Y4 := Y3.below b4 Y3.lt
          have hzz3 : w.heap.size + 2 ≤ w4.heap.size := by have := b4.size; first | omega | (simp at this; omega)
          clear hs2 ht2 hown2 hbe2 Y3 b4 p0 p1 p2
          go_wp2_with (at_builtin; refine wpList_append_own _ rfl (.tmp 57) (.tmp 60) 45 rfl (w.heap.size + 2) 46 i1 (.agg zero12) 12 12 Try.underlying45 hj hj0 hj1 hj2 rfl (by decide) _ _ _ rfl (hown3.alloc _) ⟨w4.heap.size, 0, none⟩ 1 1 [Value.int .u8 (x0 : Int), Value.int .u8 (x1 : Int), Value.int .u8 (x2 : Int), Value.int .u8 (x3 : Int), Value.int .u8 (x4 : Int), Value.int .u8 (x5 : Int), Value.int .u8 (x6 : Int), Value.int .u8 (x7 : Int), Value.int .u8 (x8 : Int), Value.int .u8 (x9 : Int), Value.int .u8 (x10 : Int), Value.int .u8 (x11 : Int)] rfl rfl ?c1 ?c2 ?c3 ?c4 ?c5 ?_)
          case c1 => exact cells12_new w4 46 x0 x1 x2 x3 x4 x5 x6 x7 x8 x9 x10 x11
          case c2 => exact one12 x0 x1 x2 x3 x4 x5 x6 x7 x8 x9 x10 x11
          case c3 => unfold maxLen; have := HLen.out; omega
          case c4 => have := HLen.out; omega
          case c5 => simp; omega
          intro v5 w5 hown5 hg5 _
          have hs5 := (hs3.alloc (.cells #[Value.int .u8 (x0 : Int), Value.int .u8 (x1 : Int), Value.int .u8 (x2 : Int), Value.int .u8 (x3 : Int), Value.int .u8 (x4 : Int), Value.int .u8 (x5 : Int), Value.int .u8 (x6 : Int), Value.int .u8 (x7 : Int), Value.int .u8 (x8 : Int), Value.int .u8 (x9 : Int), Value.int .u8 (x10 : Int), Value.int .u8 (x11 : Int)] 46)).grown hg5 (own_ne (hown3.alloc (.cells #[Value.int .u8 (x0 : Int), Value.int .u8 (x1 : Int), Value.int .u8 (x2 : Int), Value.int .u8 (x3 : Int), Value.int .u8 (x4 : Int), Value.int .u8 (x5 : Int), Value.int .u8 (x6 : Int), Value.int .u8 (x7 : Int), Value.int .u8 (x8 : Int), Value.int .u8 (x9 : Int), Value.int .u8 (x10 : Int), Value.int .u8 (x11 : Int)] 46)) (hs3.alloc (.cells #[Value.int .u8 (x0 : Int), Value.int .u8 (x1 : Int), Value.int .u8 (x2 : Int), Value.int .u8 (x3 : Int), Value.int .u8 (x4 : Int), Value.int .u8 (x5 : Int), Value.int .u8 (x6 : Int), Value.int .u8 (x7 : Int), Value.int .u8 (x8 : Int), Value.int .u8 (x9 : Int), Value.int .u8 (x10 : Int), Value.int .u8 (x11 : Int)] 46)) (by decide))
          have ht5 := (ht3.alloc (.cells #[Value.int .u8 (x0 : Int), Value.int .u8 (x1 : Int), Value.int .u8 (x2 : Int), Value.int .u8 (x3 : Int), Value.int .u8 (x4 : Int), Value.int .u8 (x5 : Int), Value.int .u8 (x6 : Int), Value.int .u8 (x7 : Int), Value.int .u8 (x8 : Int), Value.int .u8 (x9 : Int), Value.int .u8 (x10 : Int), Value.int .u8 (x11 : Int)] 46)).grown hg5 (own_ne (hown3.alloc (.cells #[Value.int .u8 (x0 : Int), Value.int .u8 (x1 : Int), Value.int .u8 (x2 : Int), Value.int .u8 (x3 : Int), Value.int .u8 (x4 : Int), Value.int .u8 (x5 : Int), Value.int .u8 (x6 : Int), Value.int .u8 (x7 : Int), Value.int .u8 (x8 : Int), Value.int .u8 (x9 : Int), Value.int .u8 (x10 : Int), Value.int .u8 (x11 : Int)] 46)) (ht3.alloc (.cells #[Value.int .u8 (x0 : Int), Value.int .u8 (x1 : Int), Value.int .u8 (x2 : Int), Value.int .u8 (x3 : Int), Value.int .u8 (x4 : Int), Value.int .u8 (x5 : Int), Value.int .u8 (x6 : Int), Value.int .u8 (x7 : Int), Value.int .u8 (x8 : Int), Value.int .u8 (x9 : Int), Value.int .u8 (x10 : Int), Value.int .u8 (x11 : Int)] 46)) (by decide))
          have Y5 := (Y4.alloc (.cells #[Value.int .u8 (x0 : Int), Value.int .u8 (x1 : Int), Value.int .u8 (x2 : Int), Value.int .u8 (x3 : Int), Value.int .u8 (x4 : Int), Value.int .u8 (x5 : Int), Value.int .u8 (x6 : Int), Value.int .u8 (x7 : Int), Value.int .u8 (x8 : Int), Value.int .u8 (x9 : Int), Value.int .u8 (x10 : Int), Value.int .u8 (x11 : Int)] 46)).grown hg5 (own_ne (hown3.alloc (.cells #[Value.int .u8 (x0 : Int), Value.int .u8 (x1 : Int), Value.int .u8 (x2 : Int), Value.int .u8 (x3 : Int), Value.int .u8 (x4 : Int), Value.int .u8 (x5 : Int), Value.int .u8 (x6 : Int), Value.int .u8 (x7 : Int), Value.int .u8 (x8 : Int), Value.int .u8 (x9 : Int), Value.int .u8 (x10 : Int), Value.int .u8 (x11 : Int)] 46)) (Y4.alloc (.cells #[Value.int .u8 (x0 : Int), Value.int .u8 (x1 : Int), Value.int .u8 (x2 : Int), Value.int .u8 (x3 : Int), Value.int .u8 (x4 : Int), Value.int .u8 (x5 : Int), Value.int .u8 (x6 : Int), Value.int .u8 (x7 : Int), Value.int .u8 (x8 : Int), Value.int .u8 (x9 : Int), Value.int .u8 (x10 : Int), Value.int .u8 (x11 : Int)] 46)) (by decide))
          have hbe5 := (hbe3.alloc (by omega) (.cells #[Value.int .u8 (x0 : Int), Value.int .u8 (x1 : Int), Value.int .u8 (x2 : Int), Value.int .u8 (x3 : Int), Value.int .u8 (x4 : Int), Value.int .u8 (x5 : Int), Value.int .u8 (x6 : Int), Value.int .u8 (x7 : Int), Value.int .u8 (x8 : Int), Value.int .u8 (x9 : Int), Value.int .u8 (x10 : Int), Value.int .u8 (x11 : Int)] 46)).grown hg5 (by first | omega | (simp; omega)) (fun j hj => by have := (hown3.lt j hj).1; omega)
          have hzz5 : w.heap.size + 2 ≤ w5.heap.size := by have := hg5.size; first | omega | (simp at this; omega)
          have hown5' : w5.ownsRow (w.heap.size + 2) 46 12 v5 (LA ++ [(boot, m)]).length (flatN (LA ++ [(boot, m)])) := by
            rw [flatN_snoc, Hx.out, List.length_append]
            exact hown5
          clear hs3 ht3 hown3 hbe3 Y4 hg5 hown5
          have Hstep := Lib.hid (show told boot other first second (k + 1) = (LA ++ [(boot, m)]) by
            have h1 := HS.out
            rw [h1]
            first | simp [HLA.out, HBO.out] | simp [HLA.out])
          have Hown := Lib.hid (show w5.ownsRow (w.heap.size + 2) 46 12 _ (told boot other first second (k + 1)).length (flatN (told boot other first second (k + 1))) by rw [Hstep.out]; exact hown5')
          clear hown5'
          go_wp2_with fail
          go_roundw
          case rel => exact ⟨k + 1, by omega, by omega, by go_num, hs5, ht5, Hown.out, hbe5, by omega⟩
          case measure => simp [intOf]; omega
        · have Hq := Lib.hid (show q < 18446744073709551616 from e0)
          have EBf := Lib.hid e1
          have EB := Lib.hid e2
          have HoT := Lib.hid o2
          have HmT := Lib.hid e3
          clear o2 e0 e1 e2 e3
          have HS' := HS.out
          rw [HoS.out, HoT.out] at HS'
          rw [← HmS.out] at HS'
          rw [← HmT.out] at HS'
          clear HS
          have HS := Lib.hid HS'
          clear HS'
          by_cases hbo : boot = other
          · have tb : ((boot : Int) != (other : Int)) = false := by rw [hbo]; simp
            have HBO := Lib.hid hbo
            clear hbo
            go_wp2_with fail
            refine (next_more w.heap.size boot m ep _ hs0f).mono ?_
            rintro e w2 ⟨rfl, gA, hsnA⟩
            rw [EA.out] at hsnA
            have htnA := ht0.grown gA (fun e => by have := Option.some.inj e; omega)
            have hownA := hown0.kept gA (.inr (fun e => by have := (hown0.lt _ e).1; omega))
            have hbeA := below_turned hbe0 gA (by first | omega | (simp; omega)) (by omega)
            have hcA : w2.cell? ⟨b, off + k, none⟩ = some (.int .u32 (ep : Int)) := gA.cell hc0 (fun e => by have := Option.some.inj e; simp at this; omega)
            have hzA := gA.size
            have hs1 := hsnA.alloc (.cells #[.int .u32 ep, .int .u32 boot, .int .u64 m] 33)
            have ht1 := htnA.alloc (.cells #[.int .u32 ep, .int .u32 boot, .int .u64 m] 33)
            have hown1 := hownA.alloc (.cells #[.int .u32 ep, .int .u32 boot, .int .u64 m] 33)
            have hbe1 := hbeA.alloc (by omega) (.cells #[.int .u32 ep, .int .u32 boot, .int .u64 m] 33)
            have hc1 := cell_alloc (.cells #[.int .u32 ep, .int .u32 boot, .int .u64 m] 33) hcA
            have hzz1 : w.heap.size + 2 ≤ w2.heap.size := by omega
            have X1 := Blk.made w2 33 #[.int .u32 ep, .int .u32 boot, .int .u64 m]
            have ht1f := ht1
            rw [EBf.out] at ht1f
            clear hs0 ht0 hown0 hbe0 hc0 hs0f gA hsnA htnA hownA hbeA hcA EA
            go_wp2_with fail
            refine (next_more (w.heap.size + 1) other q ep _ ht1f).mono ?_
            rintro e w3 ⟨rfl, gB, htnB⟩
            rw [EB.out] at htnB
            have hsnB := hs1.grown gB (fun e => by have := Option.some.inj e; omega)
            have hownB := hown1.kept gB (.inr (fun e => by have := (hown1.lt _ e).1; omega))
            have hbeB := below_turned hbe1 gB (by first | omega | (simp; omega)) (by omega)
            have hcB : w3.cell? ⟨b, off + k, none⟩ = some (.int .u32 (ep : Int)) := gB.cell hc1 (fun e => by have := Option.some.inj e; simp at this; omega)
            have hzB := gB.size
            have X2 := X1.grown gB (fun e => by have := Option.some.inj e; omega)
            have hs2 := hsnB.alloc (.cells #[.int .u32 ep, .int .u32 other, .int .u64 q] 33)
            have ht2 := htnB.alloc (.cells #[.int .u32 ep, .int .u32 other, .int .u64 q] 33)
            have hown2 := hownB.alloc (.cells #[.int .u32 ep, .int .u32 other, .int .u64 q] 33)
            have hbe2 := hbeB.alloc (by first | omega | (simp at hzB; omega)) (.cells #[.int .u32 ep, .int .u32 other, .int .u64 q] 33)
            have X3 := X2.alloc (.cells #[.int .u32 ep, .int .u32 other, .int .u64 q] 33)
            have Y3 := Blk.made w3 33 #[.int .u32 ep, .int .u32 other, .int .u64 q]
            have hzz2 : w.heap.size + 2 ≤ w3.heap.size := by first | omega | (simp at hzB; omega)
            clear hs1 ht1 hown1 hbe1 hc1 ht1f gB hsnB htnB hownB hbeB hcB EB EBf X1 X2
            have p0 := X3.at 0 (.int .u32 ep) rfl
            have p1 := X3.at 1 (.int .u32 boot) rfl
            have p2 := X3.at 2 (.int .u64 m) rfl
            obtain ⟨x0, x1, x2, x3, x4, x5, x6, x7, x8, x9, x10, x11, hx⟩ := list12' (nonceL boot m) (nonceL_length boot m)
            have Hx := Lib.hid hx
            clear hx X3
            go_wp2_with fail
            refine (nonce_lit ep boot m x0 x1 x2 x3 x4 x5 x6 x7 x8 x9 x10 x11 _ Hboot.out Hm.out Hx.out).mono ?_
            rintro e w4 ⟨rfl, b4⟩
            have hs3 := hs2.below b4 hs2.lt
            have ht3 := ht2.below b4 ht2.lt
            have hown3 := own_below hown2 b4
            have hbe3 := hbe2.trans (b4.mono (by first | omega | (simp; omega)))
            have Y4 := Y3.below b4 Y3.lt
            have hzz3 : w.heap.size + 2 ≤ w4.heap.size := by have := b4.size; first | omega | (simp at this; omega)
            clear hs2 ht2 hown2 hbe2 Y3 b4 p0 p1 p2
            go_wp2_with (at_builtin; refine wpList_append_own _ rfl (.tmp 57) (.tmp 60) 45 rfl (w.heap.size + 2) 46 i1 (.agg zero12) 12 12 Try.underlying45 hj hj0 hj1 hj2 rfl (by decide) _ _ _ rfl (hown3.alloc _) ⟨w4.heap.size, 0, none⟩ 1 1 [Value.int .u8 (x0 : Int), Value.int .u8 (x1 : Int), Value.int .u8 (x2 : Int), Value.int .u8 (x3 : Int), Value.int .u8 (x4 : Int), Value.int .u8 (x5 : Int), Value.int .u8 (x6 : Int), Value.int .u8 (x7 : Int), Value.int .u8 (x8 : Int), Value.int .u8 (x9 : Int), Value.int .u8 (x10 : Int), Value.int .u8 (x11 : Int)] rfl rfl ?c1 ?c2 ?c3 ?c4 ?c5 ?_)
            case c1 => exact cells12_new w4 46 x0 x1 x2 x3 x4 x5 x6 x7 x8 x9 x10 x11
            case c2 => exact one12 x0 x1 x2 x3 x4 x5 x6 x7 x8 x9 x10 x11
            case c3 => unfold maxLen; have := HLen.out; omega
            case c4 => have := HLen.out; omega
            case c5 => simp; omega
            intro v5 w5 hown5 hg5 _
            have hs5 := (hs3.alloc (.cells #[Value.int .u8 (x0 : Int), Value.int .u8 (x1 : Int), Value.int .u8 (x2 : Int), Value.int .u8 (x3 : Int), Value.int .u8 (x4 : Int), Value.int .u8 (x5 : Int), Value.int .u8 (x6 : Int), Value.int .u8 (x7 : Int), Value.int .u8 (x8 : Int), Value.int .u8 (x9 : Int), Value.int .u8 (x10 : Int), Value.int .u8 (x11 : Int)] 46)).grown hg5 (own_ne (hown3.alloc (.cells #[Value.int .u8 (x0 : Int), Value.int .u8 (x1 : Int), Value.int .u8 (x2 : Int), Value.int .u8 (x3 : Int), Value.int .u8 (x4 : Int), Value.int .u8 (x5 : Int), Value.int .u8 (x6 : Int), Value.int .u8 (x7 : Int), Value.int .u8 (x8 : Int), Value.int .u8 (x9 : Int), Value.int .u8 (x10 : Int), Value.int .u8 (x11 : Int)] 46)) (hs3.alloc (.cells #[Value.int .u8 (x0 : Int), Value.int .u8 (x1 : Int), Value.int .u8 (x2 : Int), Value.int .u8 (x3 : Int), Value.int .u8 (x4 : Int), Value.int .u8 (x5 : Int), Value.int .u8 (x6 : Int), Value.int .u8 (x7 : Int), Value.int .u8 (x8 : Int), Value.int .u8 (x9 : Int), Value.int .u8 (x10 : Int), Value.int .u8 (x11 : Int)] 46)) (by decide))
            have ht5 := (ht3.alloc (.cells #[Value.int .u8 (x0 : Int), Value.int .u8 (x1 : Int), Value.int .u8 (x2 : Int), Value.int .u8 (x3 : Int), Value.int .u8 (x4 : Int), Value.int .u8 (x5 : Int), Value.int .u8 (x6 : Int), Value.int .u8 (x7 : Int), Value.int .u8 (x8 : Int), Value.int .u8 (x9 : Int), Value.int .u8 (x10 : Int), Value.int .u8 (x11 : Int)] 46)).grown hg5 (own_ne (hown3.alloc (.cells #[Value.int .u8 (x0 : Int), Value.int .u8 (x1 : Int), Value.int .u8 (x2 : Int), Value.int .u8 (x3 : Int), Value.int .u8 (x4 : Int), Value.int .u8 (x5 : Int), Value.int .u8 (x6 : Int), Value.int .u8 (x7 : Int), Value.int .u8 (x8 : Int), Value.int .u8 (x9 : Int), Value.int .u8 (x10 : Int), Value.int .u8 (x11 : Int)] 46)) (ht3.alloc (.cells #[Value.int .u8 (x0 : Int), Value.int .u8 (x1 : Int), Value.int .u8 (x2 : Int), Value.int .u8 (x3 : Int), Value.int .u8 (x4 : Int), Value.int .u8 (x5 : Int), Value.int .u8 (x6 : Int), Value.int .u8 (x7 : Int), Value.int .u8 (x8 : Int), Value.int .u8 (x9 : Int), Value.int .u8 (x10 : Int), Value.int .u8 (x11 : Int)] 46)) (by decide))
            have Y5 := (Y4.alloc (.cells #[Value.int .u8 (x0 : Int), Value.int .u8 (x1 : Int), Value.int .u8 (x2 : Int), Value.int .u8 (x3 : Int), Value.int .u8 (x4 : Int), Value.int .u8 (x5 : Int), Value.int .u8 (x6 : Int), Value.int .u8 (x7 : Int), Value.int .u8 (x8 : Int), Value.int .u8 (x9 : Int), Value.int .u8 (x10 : Int), Value.int .u8 (x11 : Int)] 46)).grown hg5 (own_ne (hown3.alloc (.cells #[Value.int .u8 (x0 : Int), Value.int .u8 (x1 : Int), Value.int .u8 (x2 : Int), Value.int .u8 (x3 : Int), Value.int .u8 (x4 : Int), Value.int .u8 (x5 : Int), Value.int .u8 (x6 : Int), Value.int .u8 (x7 : Int), Value.int .u8 (x8 : Int), Value.int .u8 (x9 : Int), Value.int .u8 (x10 : Int), Value.int .u8 (x11 : Int)] 46)) (Y4.alloc (.cells #[Value.int .u8 (x0 : Int), Value.int .u8 (x1 : Int), Value.int .u8 (x2 : Int), Value.int .u8 (x3 : Int), Value.int .u8 (x4 : Int), Value.int .u8 (x5 : Int), Value.int .u8 (x6 : Int), Value.int .u8 (x7 : Int), Value.int .u8 (x8 : Int), Value.int .u8 (x9 : Int), Value.int .u8 (x10 : Int), Value.int .u8 (x11 : Int)] 46)) (by decide))
            have hbe5 := (hbe3.alloc (by omega) (.cells #[Value.int .u8 (x0 : Int), Value.int .u8 (x1 : Int), Value.int .u8 (x2 : Int), Value.int .u8 (x3 : Int), Value.int .u8 (x4 : Int), Value.int .u8 (x5 : Int), Value.int .u8 (x6 : Int), Value.int .u8 (x7 : Int), Value.int .u8 (x8 : Int), Value.int .u8 (x9 : Int), Value.int .u8 (x10 : Int), Value.int .u8 (x11 : Int)] 46)).grown hg5 (by first | omega | (simp; omega)) (fun j hj => by have := (hown3.lt j hj).1; omega)
            have hzz5 : w.heap.size + 2 ≤ w5.heap.size := by have := hg5.size; first | omega | (simp at this; omega)
            have hown5' : w5.ownsRow (w.heap.size + 2) 46 12 v5 (LA ++ [(boot, m)]).length (flatN (LA ++ [(boot, m)])) := by
              rw [flatN_snoc, Hx.out, List.length_append]
              exact hown5
            clear hs3 ht3 hown3 hbe3 Y4 hg5 hown5
            have Hstep := Lib.hid (show told boot other first second (k + 1) = (LA ++ [(boot, m)]) by
              have h1 := HS.out
              rw [h1]
              first | simp [HLA.out, HBO.out] | simp [HLA.out])
            have Hown := Lib.hid (show w5.ownsRow (w.heap.size + 2) 46 12 _ (told boot other first second (k + 1)).length (flatN (told boot other first second (k + 1))) by rw [Hstep.out]; exact hown5')
            clear hown5'
            go_wp2_with fail
            go_roundw
            case rel => exact ⟨k + 1, by omega, by omega, by go_num, hs5, ht5, Hown.out, hbe5, by omega⟩
            case measure => simp [intOf]; omega
          · have tb : ((boot : Int) != (other : Int)) = true := by rw [bne_iff_ne]; omega
            have HBO := Lib.hid hbo
            clear hbo
            go_wp2_with fail
            refine (next_more w.heap.size boot m ep _ hs0f).mono ?_
            rintro e w2 ⟨rfl, gA, hsnA⟩
            rw [EA.out] at hsnA
            have htnA := ht0.grown gA (fun e => by have := Option.some.inj e; omega)
            have hownA := hown0.kept gA (.inr (fun e => by have := (hown0.lt _ e).1; omega))
            have hbeA := below_turned hbe0 gA (by first | omega | (simp; omega)) (by omega)
            have hcA : w2.cell? ⟨b, off + k, none⟩ = some (.int .u32 (ep : Int)) := gA.cell hc0 (fun e => by have := Option.some.inj e; simp at this; omega)
            have hzA := gA.size
            have hs1 := hsnA.alloc (.cells #[.int .u32 ep, .int .u32 boot, .int .u64 m] 33)
            have ht1 := htnA.alloc (.cells #[.int .u32 ep, .int .u32 boot, .int .u64 m] 33)
            have hown1 := hownA.alloc (.cells #[.int .u32 ep, .int .u32 boot, .int .u64 m] 33)
            have hbe1 := hbeA.alloc (by omega) (.cells #[.int .u32 ep, .int .u32 boot, .int .u64 m] 33)
            have hc1 := cell_alloc (.cells #[.int .u32 ep, .int .u32 boot, .int .u64 m] 33) hcA
            have hzz1 : w.heap.size + 2 ≤ w2.heap.size := by omega
            have X1 := Blk.made w2 33 #[.int .u32 ep, .int .u32 boot, .int .u64 m]
            have ht1f := ht1
            rw [EBf.out] at ht1f
            clear hs0 ht0 hown0 hbe0 hc0 hs0f gA hsnA htnA hownA hbeA hcA EA
            go_wp2_with fail
            refine (next_more (w.heap.size + 1) other q ep _ ht1f).mono ?_
            rintro e w3 ⟨rfl, gB, htnB⟩
            rw [EB.out] at htnB
            have hsnB := hs1.grown gB (fun e => by have := Option.some.inj e; omega)
            have hownB := hown1.kept gB (.inr (fun e => by have := (hown1.lt _ e).1; omega))
            have hbeB := below_turned hbe1 gB (by first | omega | (simp; omega)) (by omega)
            have hcB : w3.cell? ⟨b, off + k, none⟩ = some (.int .u32 (ep : Int)) := gB.cell hc1 (fun e => by have := Option.some.inj e; simp at this; omega)
            have hzB := gB.size
            have X2 := X1.grown gB (fun e => by have := Option.some.inj e; omega)
            have hs2 := hsnB.alloc (.cells #[.int .u32 ep, .int .u32 other, .int .u64 q] 33)
            have ht2 := htnB.alloc (.cells #[.int .u32 ep, .int .u32 other, .int .u64 q] 33)
            have hown2 := hownB.alloc (.cells #[.int .u32 ep, .int .u32 other, .int .u64 q] 33)
            have hbe2 := hbeB.alloc (by first | omega | (simp at hzB; omega)) (.cells #[.int .u32 ep, .int .u32 other, .int .u64 q] 33)
            have X3 := X2.alloc (.cells #[.int .u32 ep, .int .u32 other, .int .u64 q] 33)
            have Y3 := Blk.made w3 33 #[.int .u32 ep, .int .u32 other, .int .u64 q]
            have hzz2 : w.heap.size + 2 ≤ w3.heap.size := by first | omega | (simp at hzB; omega)
            clear hs1 ht1 hown1 hbe1 hc1 ht1f gB hsnB htnB hownB hbeB hcB EB EBf X1 X2
            have p0 := X3.at 0 (.int .u32 ep) rfl
            have p1 := X3.at 1 (.int .u32 boot) rfl
            have p2 := X3.at 2 (.int .u64 m) rfl
            obtain ⟨x0, x1, x2, x3, x4, x5, x6, x7, x8, x9, x10, x11, hx⟩ := list12' (nonceL boot m) (nonceL_length boot m)
            have Hx := Lib.hid hx
            clear hx X3
            go_wp2_with fail
            refine (nonce_lit ep boot m x0 x1 x2 x3 x4 x5 x6 x7 x8 x9 x10 x11 _ Hboot.out Hm.out Hx.out).mono ?_
            rintro e w4 ⟨rfl, b4⟩
            have hs3 := hs2.below b4 hs2.lt
            have ht3 := ht2.below b4 ht2.lt
            have hown3 := own_below hown2 b4
            have hbe3 := hbe2.trans (b4.mono (by first | omega | (simp; omega)))
            have Y4 := Y3.below b4 Y3.lt
            have hzz3 : w.heap.size + 2 ≤ w4.heap.size := by have := b4.size; first | omega | (simp at this; omega)
            clear hs2 ht2 hown2 hbe2 Y3 b4 p0 p1 p2
            go_wp2_with (at_builtin; refine wpList_append_own _ rfl (.tmp 57) (.tmp 60) 45 rfl (w.heap.size + 2) 46 i1 (.agg zero12) 12 12 Try.underlying45 hj hj0 hj1 hj2 rfl (by decide) _ _ _ rfl (hown3.alloc _) ⟨w4.heap.size, 0, none⟩ 1 1 [Value.int .u8 (x0 : Int), Value.int .u8 (x1 : Int), Value.int .u8 (x2 : Int), Value.int .u8 (x3 : Int), Value.int .u8 (x4 : Int), Value.int .u8 (x5 : Int), Value.int .u8 (x6 : Int), Value.int .u8 (x7 : Int), Value.int .u8 (x8 : Int), Value.int .u8 (x9 : Int), Value.int .u8 (x10 : Int), Value.int .u8 (x11 : Int)] rfl rfl ?c1 ?c2 ?c3 ?c4 ?c5 ?_)
            case c1 => exact cells12_new w4 46 x0 x1 x2 x3 x4 x5 x6 x7 x8 x9 x10 x11
            case c2 => exact one12 x0 x1 x2 x3 x4 x5 x6 x7 x8 x9 x10 x11
            case c3 => unfold maxLen; have := HLen.out; omega
            case c4 => have := HLen.out; omega
            case c5 => simp; omega
            intro v5 w5 hown5 hg5 _
            have hs5 := (hs3.alloc (.cells #[Value.int .u8 (x0 : Int), Value.int .u8 (x1 : Int), Value.int .u8 (x2 : Int), Value.int .u8 (x3 : Int), Value.int .u8 (x4 : Int), Value.int .u8 (x5 : Int), Value.int .u8 (x6 : Int), Value.int .u8 (x7 : Int), Value.int .u8 (x8 : Int), Value.int .u8 (x9 : Int), Value.int .u8 (x10 : Int), Value.int .u8 (x11 : Int)] 46)).grown hg5 (own_ne (hown3.alloc (.cells #[Value.int .u8 (x0 : Int), Value.int .u8 (x1 : Int), Value.int .u8 (x2 : Int), Value.int .u8 (x3 : Int), Value.int .u8 (x4 : Int), Value.int .u8 (x5 : Int), Value.int .u8 (x6 : Int), Value.int .u8 (x7 : Int), Value.int .u8 (x8 : Int), Value.int .u8 (x9 : Int), Value.int .u8 (x10 : Int), Value.int .u8 (x11 : Int)] 46)) (hs3.alloc (.cells #[Value.int .u8 (x0 : Int), Value.int .u8 (x1 : Int), Value.int .u8 (x2 : Int), Value.int .u8 (x3 : Int), Value.int .u8 (x4 : Int), Value.int .u8 (x5 : Int), Value.int .u8 (x6 : Int), Value.int .u8 (x7 : Int), Value.int .u8 (x8 : Int), Value.int .u8 (x9 : Int), Value.int .u8 (x10 : Int), Value.int .u8 (x11 : Int)] 46)) (by decide))
            have ht5 := (ht3.alloc (.cells #[Value.int .u8 (x0 : Int), Value.int .u8 (x1 : Int), Value.int .u8 (x2 : Int), Value.int .u8 (x3 : Int), Value.int .u8 (x4 : Int), Value.int .u8 (x5 : Int), Value.int .u8 (x6 : Int), Value.int .u8 (x7 : Int), Value.int .u8 (x8 : Int), Value.int .u8 (x9 : Int), Value.int .u8 (x10 : Int), Value.int .u8 (x11 : Int)] 46)).grown hg5 (own_ne (hown3.alloc (.cells #[Value.int .u8 (x0 : Int), Value.int .u8 (x1 : Int), Value.int .u8 (x2 : Int), Value.int .u8 (x3 : Int), Value.int .u8 (x4 : Int), Value.int .u8 (x5 : Int), Value.int .u8 (x6 : Int), Value.int .u8 (x7 : Int), Value.int .u8 (x8 : Int), Value.int .u8 (x9 : Int), Value.int .u8 (x10 : Int), Value.int .u8 (x11 : Int)] 46)) (ht3.alloc (.cells #[Value.int .u8 (x0 : Int), Value.int .u8 (x1 : Int), Value.int .u8 (x2 : Int), Value.int .u8 (x3 : Int), Value.int .u8 (x4 : Int), Value.int .u8 (x5 : Int), Value.int .u8 (x6 : Int), Value.int .u8 (x7 : Int), Value.int .u8 (x8 : Int), Value.int .u8 (x9 : Int), Value.int .u8 (x10 : Int), Value.int .u8 (x11 : Int)] 46)) (by decide))
            have Y5 := (Y4.alloc (.cells #[Value.int .u8 (x0 : Int), Value.int .u8 (x1 : Int), Value.int .u8 (x2 : Int), Value.int .u8 (x3 : Int), Value.int .u8 (x4 : Int), Value.int .u8 (x5 : Int), Value.int .u8 (x6 : Int), Value.int .u8 (x7 : Int), Value.int .u8 (x8 : Int), Value.int .u8 (x9 : Int), Value.int .u8 (x10 : Int), Value.int .u8 (x11 : Int)] 46)).grown hg5 (own_ne (hown3.alloc (.cells #[Value.int .u8 (x0 : Int), Value.int .u8 (x1 : Int), Value.int .u8 (x2 : Int), Value.int .u8 (x3 : Int), Value.int .u8 (x4 : Int), Value.int .u8 (x5 : Int), Value.int .u8 (x6 : Int), Value.int .u8 (x7 : Int), Value.int .u8 (x8 : Int), Value.int .u8 (x9 : Int), Value.int .u8 (x10 : Int), Value.int .u8 (x11 : Int)] 46)) (Y4.alloc (.cells #[Value.int .u8 (x0 : Int), Value.int .u8 (x1 : Int), Value.int .u8 (x2 : Int), Value.int .u8 (x3 : Int), Value.int .u8 (x4 : Int), Value.int .u8 (x5 : Int), Value.int .u8 (x6 : Int), Value.int .u8 (x7 : Int), Value.int .u8 (x8 : Int), Value.int .u8 (x9 : Int), Value.int .u8 (x10 : Int), Value.int .u8 (x11 : Int)] 46)) (by decide))
            have hbe5 := (hbe3.alloc (by omega) (.cells #[Value.int .u8 (x0 : Int), Value.int .u8 (x1 : Int), Value.int .u8 (x2 : Int), Value.int .u8 (x3 : Int), Value.int .u8 (x4 : Int), Value.int .u8 (x5 : Int), Value.int .u8 (x6 : Int), Value.int .u8 (x7 : Int), Value.int .u8 (x8 : Int), Value.int .u8 (x9 : Int), Value.int .u8 (x10 : Int), Value.int .u8 (x11 : Int)] 46)).grown hg5 (by first | omega | (simp; omega)) (fun j hj => by have := (hown3.lt j hj).1; omega)
            have hzz5 : w.heap.size + 2 ≤ w5.heap.size := by have := hg5.size; first | omega | (simp at this; omega)
            have hown5' : w5.ownsRow (w.heap.size + 2) 46 12 v5 (LA ++ [(boot, m)]).length (flatN (LA ++ [(boot, m)])) := by
              rw [flatN_snoc, Hx.out, List.length_append]
              exact hown5
            clear hs3 ht3 hown3 hbe3 Y4 hg5 hown5
            have p0 := Y5.at 0 (.int .u32 ep) rfl
            have p1 := Y5.at 1 (.int .u32 other) rfl
            have p2 := Y5.at 2 (.int .u64 q) rfl
            obtain ⟨y0, y1, y2, y3, y4, y5, y6, y7, y8, y9, y10, y11, hy⟩ := list12' (nonceL other q) (nonceL_length other q)
            have Hy := Lib.hid hy
            clear hy
            go_wp2_with fail
            refine (nonce_lit ep other q y0 y1 y2 y3 y4 y5 y6 y7 y8 y9 y10 y11 _ Hother.out Hq.out Hy.out).mono ?_
            rintro e w6 ⟨rfl, b6⟩
            have hs6 := hs5.below b6 hs5.lt
            have ht6 := ht5.below b6 ht5.lt
            have hown6 := own_below hown5' b6
            have hbe6 := hbe5.trans (b6.mono (by first | omega | (simp; omega)))
            have hzz6 : w.heap.size + 2 ≤ w6.heap.size := by have := b6.size; first | omega | (simp at this; omega)
            clear hs5 ht5 hown5' hbe5 Y5 b6 p0 p1 p2
            go_wp2_with (at_builtin; refine wpList_append_own _ rfl (.tmp 69) (.tmp 72) 45 rfl (w.heap.size + 2) 46 i1 (.agg zero12) 12 12 Try.underlying45 hj hj0 hj1 hj2 rfl (by decide) _ _ _ rfl (hown6.alloc _) ⟨w6.heap.size, 0, none⟩ 1 1 [Value.int .u8 (y0 : Int), Value.int .u8 (y1 : Int), Value.int .u8 (y2 : Int), Value.int .u8 (y3 : Int), Value.int .u8 (y4 : Int), Value.int .u8 (y5 : Int), Value.int .u8 (y6 : Int), Value.int .u8 (y7 : Int), Value.int .u8 (y8 : Int), Value.int .u8 (y9 : Int), Value.int .u8 (y10 : Int), Value.int .u8 (y11 : Int)] rfl rfl ?d1 ?d2 ?d3 ?d4 ?d5 ?_)
            case d1 => exact cells12_new w6 46 y0 y1 y2 y3 y4 y5 y6 y7 y8 y9 y10 y11
            case d2 => exact one12 y0 y1 y2 y3 y4 y5 y6 y7 y8 y9 y10 y11
            case d3 => unfold maxLen; have := HLen.out; first | omega | (simp only [List.length_append, List.length_cons, List.length_nil]; omega)
            case d4 => have := HLen.out; first | omega | (simp only [List.length_append, List.length_cons, List.length_nil]; omega)
            case d5 => simp; omega
            intro v7 w7 hown7 hg7 _
            have hs7 := (hs6.alloc (.cells #[Value.int .u8 (y0 : Int), Value.int .u8 (y1 : Int), Value.int .u8 (y2 : Int), Value.int .u8 (y3 : Int), Value.int .u8 (y4 : Int), Value.int .u8 (y5 : Int), Value.int .u8 (y6 : Int), Value.int .u8 (y7 : Int), Value.int .u8 (y8 : Int), Value.int .u8 (y9 : Int), Value.int .u8 (y10 : Int), Value.int .u8 (y11 : Int)] 46)).grown hg7 (own_ne (hown6.alloc (.cells #[Value.int .u8 (y0 : Int), Value.int .u8 (y1 : Int), Value.int .u8 (y2 : Int), Value.int .u8 (y3 : Int), Value.int .u8 (y4 : Int), Value.int .u8 (y5 : Int), Value.int .u8 (y6 : Int), Value.int .u8 (y7 : Int), Value.int .u8 (y8 : Int), Value.int .u8 (y9 : Int), Value.int .u8 (y10 : Int), Value.int .u8 (y11 : Int)] 46)) (hs6.alloc (.cells #[Value.int .u8 (y0 : Int), Value.int .u8 (y1 : Int), Value.int .u8 (y2 : Int), Value.int .u8 (y3 : Int), Value.int .u8 (y4 : Int), Value.int .u8 (y5 : Int), Value.int .u8 (y6 : Int), Value.int .u8 (y7 : Int), Value.int .u8 (y8 : Int), Value.int .u8 (y9 : Int), Value.int .u8 (y10 : Int), Value.int .u8 (y11 : Int)] 46)) (by decide))
            have ht7 := (ht6.alloc (.cells #[Value.int .u8 (y0 : Int), Value.int .u8 (y1 : Int), Value.int .u8 (y2 : Int), Value.int .u8 (y3 : Int), Value.int .u8 (y4 : Int), Value.int .u8 (y5 : Int), Value.int .u8 (y6 : Int), Value.int .u8 (y7 : Int), Value.int .u8 (y8 : Int), Value.int .u8 (y9 : Int), Value.int .u8 (y10 : Int), Value.int .u8 (y11 : Int)] 46)).grown hg7 (own_ne (hown6.alloc (.cells #[Value.int .u8 (y0 : Int), Value.int .u8 (y1 : Int), Value.int .u8 (y2 : Int), Value.int .u8 (y3 : Int), Value.int .u8 (y4 : Int), Value.int .u8 (y5 : Int), Value.int .u8 (y6 : Int), Value.int .u8 (y7 : Int), Value.int .u8 (y8 : Int), Value.int .u8 (y9 : Int), Value.int .u8 (y10 : Int), Value.int .u8 (y11 : Int)] 46)) (ht6.alloc (.cells #[Value.int .u8 (y0 : Int), Value.int .u8 (y1 : Int), Value.int .u8 (y2 : Int), Value.int .u8 (y3 : Int), Value.int .u8 (y4 : Int), Value.int .u8 (y5 : Int), Value.int .u8 (y6 : Int), Value.int .u8 (y7 : Int), Value.int .u8 (y8 : Int), Value.int .u8 (y9 : Int), Value.int .u8 (y10 : Int), Value.int .u8 (y11 : Int)] 46)) (by decide))
            have hbe7 := (hbe6.alloc (by omega) (.cells #[Value.int .u8 (y0 : Int), Value.int .u8 (y1 : Int), Value.int .u8 (y2 : Int), Value.int .u8 (y3 : Int), Value.int .u8 (y4 : Int), Value.int .u8 (y5 : Int), Value.int .u8 (y6 : Int), Value.int .u8 (y7 : Int), Value.int .u8 (y8 : Int), Value.int .u8 (y9 : Int), Value.int .u8 (y10 : Int), Value.int .u8 (y11 : Int)] 46)).grown hg7 (by first | omega | (simp; omega)) (fun j hj => by have := (hown6.lt j hj).1; omega)
            have hzz7 : w.heap.size + 2 ≤ w7.heap.size := by have := hg7.size; first | omega | (simp at this; omega)
            have hown7' : w7.ownsRow (w.heap.size + 2) 46 12 v7 ((LA ++ [(boot, m)]) ++ [(other, q)]).length (flatN ((LA ++ [(boot, m)]) ++ [(other, q)])) := by
              rw [flatN_snoc, Hy.out]
              simp only [List.length_append, List.length_cons, List.length_nil, Nat.zero_add]
              exact hown7
            clear hs6 ht6 hown6 hbe6 hg7 hown7
            have Hstep := Lib.hid (show told boot other first second (k + 1) = ((LA ++ [(boot, m)]) ++ [(other, q)]) by
              have h1 := HS.out
              rw [h1]
              first | simp [HLA.out, HBO.out] | simp [HLA.out])
            have Hown := Lib.hid (show w7.ownsRow (w.heap.size + 2) 46 12 _ (told boot other first second (k + 1)).length (flatN (told boot other first second (k + 1))) by rw [Hstep.out]; exact hown7')
            clear hown7'
            go_wp2_with fail
            go_roundw
            case rel => exact ⟨k + 1, by omega, by omega, by go_num, hs7, ht7, Hown.out, hbe7, by omega⟩
            case measure => simp [intOf]; omega
    · have hex : (len4 ≤ k) ∨ (k < len4 ∧ 100 ≤ k) := by omega
      have hLen := told_length (boot := boot) (other := other) (first := first) (second := second) k
      obtain ⟨L, hL⟩ : ∃ L, L = told boot other first second k := ⟨_, rfl⟩
      rw [← hL] at hown0 hLen
      have HL := Lib.hid hL
      obtain ⟨a, cap, hv, hcap, hg⟩ := own_row12 hown0
      have hc200 : L.length ≤ 200 := by omega
      obtain ⟨wo, rfl⟩ : ∃ wo : World, wo = wr := ⟨_, rfl⟩
      clear hlt hL hLen hs0 ht0 hown0
      rcases hex with h | ⟨h, h'⟩
      all_goals
        subst hv
        go_wp2_with fail
        go_loopw [19] (fun i wq => ∃ i' n : Nat, i' ≤ L.length ∧ i = .int .i64 i' ∧ wq = wo.drewN n) (fun i _ => L.length - (intOf i).toNat)
        case atStart => exact ⟨0, 0, by omega, rfl, rfl⟩
        case round =>
          obtain ⟨i, n, hi, rfl, rfl⟩ := hrel
          by_cases hic : i < L.length
          · go_wp2_with fail
            go_loopw [20] (fun j wq => ∃ j' n : Nat, j' ≤ i ∧ j = .int .i64 j' ∧ wq = wo.drewN n) (fun j _ => i - (intOf j).toNat)
            case atStart => exact ⟨0, n, by omega, rfl, rfl⟩
            case round =>
              obtain ⟨j, n, hj, rfl, rfl⟩ := hrel
              by_cases hji : j < i
              · obtain ⟨g, rfl, hgc⟩ := hg (by omega)
                have hp : L[i]? = some L[i] := List.getElem?_eq_getElem hic
                have hr : L[j]? = some L[j] := List.getElem?_eq_getElem (by omega)
                obtain ⟨p, hp0⟩ : ∃ p, p = L[i] := ⟨_, rfl⟩
                obtain ⟨r, hr0⟩ : ∃ r, r = L[j]'(by omega) := ⟨_, rfl⟩
                rw [← hp0] at hp
                rw [← hr0] at hr
                obtain ⟨x0, x1, x2, x3, x4, x5, x6, x7, x8, x9, x10, x11, hxl⟩ := list12' (nonceL p.1 p.2) (nonceL_length _ _)
                obtain ⟨y0, y1, y2, y3, y4, y5, y6, y7, y8, y9, y10, y11, hyl⟩ := list12' (nonceL r.1 r.2) (nonceL_length _ _)
                have hne : [x0, x1, x2, x3, x4, x5, x6, x7, x8, x9, x10, x11] ≠ [y0, y1, y2, y3, y4, y5, y6, y7, y8, y9, y10, y11] := by
                  rw [← hxl, ← hyl]
                  exact told_apart Hboot.out Hother.out k HL.out i j p r hp hr (by omega)
                have cx0 : wo.cell? ⟨g, i * 12, none⟩ = some (.int .u8 (x0 : Int)) := hgc (i * 12 + 0) _ ((flatN_get L i 0 p hp (by omega)).trans (by rw [hxl]; rfl))
                have cx1 : wo.cell? ⟨g, i * 12 + 1, none⟩ = some (.int .u8 (x1 : Int)) := hgc (i * 12 + 1) _ ((flatN_get L i 1 p hp (by omega)).trans (by rw [hxl]; rfl))
                have cx2 : wo.cell? ⟨g, i * 12 + 2, none⟩ = some (.int .u8 (x2 : Int)) := hgc (i * 12 + 2) _ ((flatN_get L i 2 p hp (by omega)).trans (by rw [hxl]; rfl))
                have cx3 : wo.cell? ⟨g, i * 12 + 3, none⟩ = some (.int .u8 (x3 : Int)) := hgc (i * 12 + 3) _ ((flatN_get L i 3 p hp (by omega)).trans (by rw [hxl]; rfl))
                have cx4 : wo.cell? ⟨g, i * 12 + 4, none⟩ = some (.int .u8 (x4 : Int)) := hgc (i * 12 + 4) _ ((flatN_get L i 4 p hp (by omega)).trans (by rw [hxl]; rfl))
                have cx5 : wo.cell? ⟨g, i * 12 + 5, none⟩ = some (.int .u8 (x5 : Int)) := hgc (i * 12 + 5) _ ((flatN_get L i 5 p hp (by omega)).trans (by rw [hxl]; rfl))
                have cx6 : wo.cell? ⟨g, i * 12 + 6, none⟩ = some (.int .u8 (x6 : Int)) := hgc (i * 12 + 6) _ ((flatN_get L i 6 p hp (by omega)).trans (by rw [hxl]; rfl))
                have cx7 : wo.cell? ⟨g, i * 12 + 7, none⟩ = some (.int .u8 (x7 : Int)) := hgc (i * 12 + 7) _ ((flatN_get L i 7 p hp (by omega)).trans (by rw [hxl]; rfl))
                have cx8 : wo.cell? ⟨g, i * 12 + 8, none⟩ = some (.int .u8 (x8 : Int)) := hgc (i * 12 + 8) _ ((flatN_get L i 8 p hp (by omega)).trans (by rw [hxl]; rfl))
                have cx9 : wo.cell? ⟨g, i * 12 + 9, none⟩ = some (.int .u8 (x9 : Int)) := hgc (i * 12 + 9) _ ((flatN_get L i 9 p hp (by omega)).trans (by rw [hxl]; rfl))
                have cx10 : wo.cell? ⟨g, i * 12 + 10, none⟩ = some (.int .u8 (x10 : Int)) := hgc (i * 12 + 10) _ ((flatN_get L i 10 p hp (by omega)).trans (by rw [hxl]; rfl))
                have cx11 : wo.cell? ⟨g, i * 12 + 11, none⟩ = some (.int .u8 (x11 : Int)) := hgc (i * 12 + 11) _ ((flatN_get L i 11 p hp (by omega)).trans (by rw [hxl]; rfl))
                have cy0 : wo.cell? ⟨g, j * 12, none⟩ = some (.int .u8 (y0 : Int)) := hgc (j * 12 + 0) _ ((flatN_get L j 0 r hr (by omega)).trans (by rw [hyl]; rfl))
                have cy1 : wo.cell? ⟨g, j * 12 + 1, none⟩ = some (.int .u8 (y1 : Int)) := hgc (j * 12 + 1) _ ((flatN_get L j 1 r hr (by omega)).trans (by rw [hyl]; rfl))
                have cy2 : wo.cell? ⟨g, j * 12 + 2, none⟩ = some (.int .u8 (y2 : Int)) := hgc (j * 12 + 2) _ ((flatN_get L j 2 r hr (by omega)).trans (by rw [hyl]; rfl))
                have cy3 : wo.cell? ⟨g, j * 12 + 3, none⟩ = some (.int .u8 (y3 : Int)) := hgc (j * 12 + 3) _ ((flatN_get L j 3 r hr (by omega)).trans (by rw [hyl]; rfl))
                have cy4 : wo.cell? ⟨g, j * 12 + 4, none⟩ = some (.int .u8 (y4 : Int)) := hgc (j * 12 + 4) _ ((flatN_get L j 4 r hr (by omega)).trans (by rw [hyl]; rfl))
                have cy5 : wo.cell? ⟨g, j * 12 + 5, none⟩ = some (.int .u8 (y5 : Int)) := hgc (j * 12 + 5) _ ((flatN_get L j 5 r hr (by omega)).trans (by rw [hyl]; rfl))
                have cy6 : wo.cell? ⟨g, j * 12 + 6, none⟩ = some (.int .u8 (y6 : Int)) := hgc (j * 12 + 6) _ ((flatN_get L j 6 r hr (by omega)).trans (by rw [hyl]; rfl))
                have cy7 : wo.cell? ⟨g, j * 12 + 7, none⟩ = some (.int .u8 (y7 : Int)) := hgc (j * 12 + 7) _ ((flatN_get L j 7 r hr (by omega)).trans (by rw [hyl]; rfl))
                have cy8 : wo.cell? ⟨g, j * 12 + 8, none⟩ = some (.int .u8 (y8 : Int)) := hgc (j * 12 + 8) _ ((flatN_get L j 8 r hr (by omega)).trans (by rw [hyl]; rfl))
                have cy9 : wo.cell? ⟨g, j * 12 + 9, none⟩ = some (.int .u8 (y9 : Int)) := hgc (j * 12 + 9) _ ((flatN_get L j 9 r hr (by omega)).trans (by rw [hyl]; rfl))
                have cy10 : wo.cell? ⟨g, j * 12 + 10, none⟩ = some (.int .u8 (y10 : Int)) := hgc (j * 12 + 10) _ ((flatN_get L j 10 r hr (by omega)).trans (by rw [hyl]; rfl))
                have cy11 : wo.cell? ⟨g, j * 12 + 11, none⟩ = some (.int .u8 (y11 : Int)) := hgc (j * 12 + 11) _ ((flatN_get L j 11 r hr (by omega)).trans (by rw [hyl]; rfl))
                have Heq : ∀ W : World, (Op.equalIn 10000 46 (.agg #[.int .u8 (x0 : Int), .int .u8 (x1 : Int), .int .u8 (x2 : Int), .int .u8 (x3 : Int), .int .u8 (x4 : Int), .int .u8 (x5 : Int), .int .u8 (x6 : Int), .int .u8 (x7 : Int), .int .u8 (x8 : Int), .int .u8 (x9 : Int), .int .u8 (x10 : Int), .int .u8 (x11 : Int)]) (.agg #[.int .u8 (y0 : Int), .int .u8 (y1 : Int), .int .u8 (y2 : Int), .int .u8 (y3 : Int), .int .u8 (y4 : Int), .int .u8 (y5 : Int), .int .u8 (y6 : Int), .int .u8 (y7 : Int), .int .u8 (y8 : Int), .int .u8 (y9 : Int), .int .u8 (y10 : Int), .int .u8 (y11 : Int)])).run Try.prog W = .ok false W := fun W => by
                  have h := run_equalIn_bytes (P := Try.prog) W Try.underlying46 hu8 Try.underlying5 (by kernel_rfl) (by kernel_rfl) [x0, x1, x2, x3, x4, x5, x6, x7, x8, x9, x10, x11] [y0, y1, y2, y3, y4, y5, y6, y7, y8, y9, y10, y11] rfl rfl
                  rw [decide_eq_false hne] at h
                  exact h
                have hic' : (i : Int) < (L.length : Int) := by omega
                have hjc' : (j : Int) < (L.length : Int) := by omega
                clear hp hr hp0 hr0 hxl hyl hne hg hgc
                go_wp2_with fail
                go_quiet (fail)
                go_wp2_with fail
                go_roundw
                case rel => exact ⟨j + 1, _, by omega, by go_num, rfl⟩
                case measure => simp [intOf]; omega
              · go_wp2_with fail
                go_roundw
                case rel => exact ⟨i + 1, n, by omega, by go_num, rfl⟩
                case measure => simp [intOf]; omega
          · go_wp2_with fail
            refine (awake_any _).mono ?_
            rintro e w3 ⟨rfl, b3⟩
            go_wp2_with fail
            go_ret
            exact ⟨rfl, (below_drewN hbe0 n).trans (b3.mono hbe0.size)⟩
end Go.Proofs.Ytdefdhmoleahnaa
