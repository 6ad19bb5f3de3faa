/-
  The walk of RegRises.
-/
import Derived.Test.YthlofbkbaabamaaRegQ
import Derived.Deep.Cut
namespace Go.Proofs.Ythlofbkbaabamaa
open Go.ChangeShapes Go.WideShapes Go.ChangeAt Go.RowKit

theorem exec_neq_same {o : Oper} {a : Act} {w : World} (s : St) (hs : StOk s) (x y : Operand) (ho : o.op = .binOp .neq 26 x y 26) (hx : a.eval x = .agg (stA s)) (hy : a.eval y = .agg (stA s)) :
    (execOp a.eval o).run Try.prog w = .ok (.value (.bool false)) w := by
  have h := exec_neq_st (w := w) s s hs hs x y ho hx hy
  rw [decide_eq_true rfl] at h
  exact h
theorem range_touch {w w' : World} {g d b o : Nat} {cs : List Value} (h : w.rangeAt b o cs) (ht : Touch g d w w') (hb : b < w.heap.size) (h1 : b ≠ g) (h2 : b ≠ d) : w'.rangeAt b o cs := fun j v hv => (ht.cell (p := ⟨b, o + j, none⟩) hb h1 h2).trans (h j v hv)

set_option maxRecDepth 100000 in
set_option maxHeartbeats 4000000 in
theorem regRises_walk (a : Option Addr) (len cap : Nat) (hl : len ≤ cap) (hcm : cap ≤ maxLen) (w : World) (hx : ActsIn w a len) :
    Calls Try.prog 7 #[.slice a len cap] w fun e w' => e = .returned (.bool true) ∧ Below w.heap.size w w' := by
  have Hx := Lib.hid hx
  have hm : len ≤ 9223372036854775807 := by unfold maxLen at hcm; omega
  clear hx
  go_enter Try.func7, Try.ntmps7
  go_wp2_with fail
  refine (devNew_one w).mono ?_
  rintro e w1 ⟨d, st, rfl, hwd, hD1, hb1⟩
  have HD1 := Lib.hid hD1
  have hdl : d < w1.heap.size := Blk.lt hD1
  clear hD1
  go_wp2_with fail
  refine (regNew_any w1 d).mono ?_
  rintro e w2 ⟨rfl, hr2, hb2⟩
  have HR2 := Lib.hid hr2
  have HD2 := Lib.hid (show DevAt w2 d st (.slice none 0 0) false 0 0 (.slice none 0 0) (.slice none 0 0) from Blk.below HD1.out hb2 hdl)
  have hn2 := nu_trans hb1 hb2
  have Hwd := Lib.hid (show w.heap.size ≤ w1.heap.size ∧ w.heap.size ≤ d from ⟨hb1.size, hwd⟩)
  have Hgd := Lib.hid (show w1.heap.size ≠ d by omega)
  clear hr2 hb2 hb1 hwd hdl HD1
  go_wp2_with fail
  generalize w1.heap.size = g at *
  go_loopw [7] (fun i wr => ∃ (k : Nat) (cur : St) (ar co : Int), k ≤ len ∧ k ≤ 300 ∧ i = .int .i64 k ∧ (ar = 0 ∨ ar = 1) ∧ StOk cur ∧ RegAt wr g d cur ∧ DevAt wr d st (.slice none 0 0) false ar co (.slice none 0 0) (.slice none 0 0) ∧ Below w.heap.size w wr) (fun i _ => 300 - (intOf i).toNat)
  case atStart => exact ⟨0, st0, 0, 0, by omega, by omega, rfl, .inl rfl, st0_ok, HR2.out, HD2.out, hn2⟩
  case round =>
    clear HR2 HD2 hn2
    obtain ⟨k, cur, ar, co, hk, hk3, rfl, har, hc, hr, hd, hnr⟩ := hrel
    have HR := Lib.hid hr
    have HD := Lib.hid hd
    have Hc := Lib.hid hc
    have Har := Lib.hid har
    clear hr hd hc har
    by_cases hlt : k < len
    · by_cases h3 : k < 300
      · have hi : (k : Int) < (len : Int) := by omega
        have hi3 : (k : Int) < 300 := by omega
        obtain ⟨b, off, rfl, hbl, hcs⟩ := Hx.out (by omega)
        obtain ⟨kd, n, s, hs, _, hnw, hcells⟩ := hcs k hlt
        have Hbl := Lib.hid hbl
        have Hs := Lib.hid hs
        have Hbg := Lib.hid (show b ≠ g ∧ b ≠ d from ⟨by have := Hwd.out.1; omega, by have := Hwd.out.2; omega⟩)
        have HP0 := Lib.hid (range_below hcells hnr hbl)
        clear hcs hbl hs hcells
        go_wp2_with fail
        refine (regRead_any Hc.out HR.out).mono ?_
        rintro e w1 ⟨rfl, hb1⟩
        have HR1 := Lib.hid (show RegAt w1 g d cur from Blk.below HR.out hb1 (Blk.lt HR.out))
        have HD1 := Lib.hid (show DevAt w1 d st (.slice none 0 0) false ar co (.slice none 0 0) (.slice none 0 0) from Blk.below HD.out hb1 (Blk.lt HD.out))
        have hn1 := nu_trans hnr hb1
        have HP1 := Lib.hid (range_below HP0.out hb1 (Nat.lt_of_lt_of_le Hbl.out hnr.size))
        have Hq0 := Lib.hid (show g < w1.heap.size ∧ d < w1.heap.size from ⟨Blk.lt HR1.out, Blk.lt HD1.out⟩)
        clear hb1 HR HD hnr HP0
        have Hz := Lib.hid (show (stL cur).length = (Try.zeroCells26).size by rw [st_len Hc.out, zst_size])
        have Hz2 := Lib.hid (show (Try.prog.info? 26).map (·.size) = some (stL cur).length by rw [st_len Hc.out, size_st])
        have HZ := Lib.hid (Blk.made w1 26 Try.zeroCells26)
        have HW1 := Lib.hid (HZ.out.fill (stL cur) Hz.out)
        have hf := nu_fill (stL cur) (g := w1.heap.size) (Nat.le_refl _) 0 _ (nu_alloc (nu_refl w1) (.cells Try.zeroCells26 26))
        go_upto_region 9 with (refine wpList_store_blk rfl 26 (.tmp 8) (.tmp 33) rfl w1.heap.size (stL cur) rfl rfl 26 Try.zeroCells26 HZ.out Hz.out Hz2.out st_one ?_)
        generalize hq : w1.heap.size = q at *
        generalize (w1.alloc (.cells Try.zeroCells26 26)).setCells q 0 (stL cur) = u0 at *
        rw [← hq] at hf
        have HR2 := Lib.hid (show RegAt u0 g d cur from Blk.below HR1.out hf (Blk.lt HR1.out))
        have HD2 := Lib.hid (show DevAt u0 d st (.slice none 0 0) false ar co (.slice none 0 0) (.slice none 0 0) from Blk.below HD1.out hf (Blk.lt HD1.out))
        have HW2 := Lib.hid (show Blk u0 q 26 (stA cur) from HW1.out)
        have HP2 := Lib.hid (range_below HP1.out hf (Nat.lt_of_lt_of_le Hbl.out hn1.size))
        have hn2 := nu_trans hn1 hf
        have Hq := Lib.hid (show g < q ∧ d < q from Hq0.out)
        clear hf hn1 HR1 HD1 HW1 HP1 HZ Hz Hz2 hq Hq0
        have c1 : u0.cell? ⟨b, off + k * 74 + 1, none⟩ = some (.int .i64 n) := HP2.out 1 _ rfl
        have HPs := Lib.hid (show u0.rangeAt b (off + k * 74 + 2) (stL s) from fun j v hv => by rw [show off + k * 74 + 2 + j = off + k * 74 + (j + 2) by omega]; exact HP2.out (j + 2) v hv)
        clear HP2
        have HP2 := HPs
        clear HPs
        have HLs := Lib.hid (loads_range Hs.out HP2.out)
        go_wp2_with (refine wpList_run _ rfl (HLs.out _ _ (.tmp 47) rfl rfl) ?_)
        · clear HLs c1
          refine (arm_one HD2.out).mono ?_
          rintro e w2 ⟨rfl, hd2, hg2⟩
          have HR2' := HR2
          have HW2' := HW2
          have HP2' := HP2
          have hn2' := hn2
          clear HR2 HW2 HP2 hn2 HD2 Har

          have HR2 := Lib.hid (show RegAt w2 g d cur from Blk.grown HR2'.out hg2 (by intro e; exact Hgd.out (by injection e)))
          have HD2 := Lib.hid hd2
          have HW2 := Lib.hid (Blk.grown HW2'.out hg2 (by intro e; exact Nat.ne_of_gt Hq.out.2 (by injection e)))
          have HP2 := Lib.hid (range_touch HP2'.out (Touch.of_grown (g := d) hg2) (Nat.lt_of_lt_of_le Hbl.out hn2'.size) Hbg.out.2 Hbg.out.2)
          have hn2 := nu_grown hn2' hg2 Hwd.out.2
          have HLs := Lib.hid (loads_range Hs.out HP2.out)
          clear HR2' HW2' HP2' hn2' hd2 hg2
          go_wp2_with (refine wpList_run _ rfl (HLs.out _ _ (.tmp 47) rfl rfl) ?_)
          clear HLs
          refine (write_rises Hgd.out Hc.out Hs.out (.inr rfl) HR2.out HD2.out).mono ?_
          rintro e w3 ⟨x, cur', offD, ar3, co3, rfl, hcase, _, ha3, hr3, hd3, ht3⟩
          have Har3 := Lib.hid ha3
          have HD3 := Lib.hid hd3
          have HW3 := Lib.hid (ht3.blk HW2.out (Nat.ne_of_gt Hq.out.1) (Nat.ne_of_gt Hq.out.2))
          have HP3 := Lib.hid (range_touch HP2.out ht3 (Nat.lt_of_lt_of_le Hbl.out hn2.size) Hbg.out.1 Hbg.out.2)
          have hn3 : Below w.heap.size w w3 := hn2.trans (ht3.below hn2.size Hwd.out.1 Hwd.out.2)
          clear HR2 HD2 HW2 HP2 hn2 ha3 hd3 ht3
          rcases hcase with ⟨rfl, rfl, hfo⟩ | ⟨rfl, rfl⟩ | ⟨rfl, rfl⟩
          · have HR3 := Lib.hid hr3
            clear hr3
            go_wp2_with fail
            refine (regRead_any Hs.out HR3.out).mono ?_
            rintro e w4 ⟨rfl, hb4⟩
            have HR4 := Lib.hid (show RegAt w4 g d s from Blk.below HR3.out hb4 (Blk.lt HR3.out))
            have HD4 := Lib.hid (show DevAt w4 d st (.slice none 0 0) offD ar3 co3 (.slice none 0 0) (.slice none 0 0) from Blk.below HD3.out hb4 (Blk.lt HD3.out))
            have HW4 := Lib.hid (Blk.below HW3.out hb4 (Blk.lt HW3.out))
            have HP4 := Lib.hid (range_below HP3.out hb4 (Nat.lt_of_lt_of_le Hbl.out hn3.size))
            have hn4 := nu_trans hn3 hb4
            clear hb4 HR3 HD3 HW3 HP3 hn3
            have Hz := Lib.hid (show (stL s).length = (Try.zeroCells26).size by rw [st_len Hs.out, zst_size])
            have Hz2 := Lib.hid (show (Try.prog.info? 26).map (·.size) = some (stL s).length by rw [st_len Hs.out, size_st])
            have HZ := Lib.hid (Blk.made w4 26 Try.zeroCells26)
            have HF := Lib.hid (HZ.out.fill (stL s) Hz.out)
            have hf := nu_fill (stL s) (g := w4.heap.size) (Nat.le_refl _) 0 _ (nu_alloc (nu_refl w4) (.cells Try.zeroCells26 26))
            go_upto_region 13 with (refine wpList_store_blk rfl 26 (.tmp 10) (.tmp 51) rfl w4.heap.size (stL s) rfl rfl 26 Try.zeroCells26 HZ.out Hz.out Hz2.out st_one ?_)
            generalize hp : w4.heap.size = p at *
            generalize (w4.alloc (.cells Try.zeroCells26 26)).setCells p 0 (stL s) = u1 at *
            rw [← hp] at hf
            have HR5 := Lib.hid (show RegAt u1 g d s from Blk.below HR4.out hf (Blk.lt HR4.out))
            have HD5 := Lib.hid (show DevAt u1 d st (.slice none 0 0) offD ar3 co3 (.slice none 0 0) (.slice none 0 0) from Blk.below HD4.out hf (Blk.lt HD4.out))
            have HW5 := Lib.hid (Blk.below HW4.out hf (Blk.lt HW4.out))
            have HP5 := Lib.hid (range_below HP4.out hf (Nat.lt_of_lt_of_le Hbl.out hn4.size))
            have hn5 := nu_trans hn4 hf
            have HLw := Lib.hid (fun (W : World) (hS : Below u1.heap.size u1 W) => loads_blk Hc.out (Blk.below HW5.out hS (Blk.lt HW5.out)))
            have HLn := Lib.hid (fun (W : World) (hS : Below u1.heap.size u1 W) => loads_blk Hs.out (Blk.below HF.out hS (Blk.lt HF.out)))
            have HLs := Lib.hid (fun (W : World) (hS : Below u1.heap.size u1 W) => loads_range Hs.out (range_below HP5.out hS (Nat.lt_of_lt_of_le Hbl.out hn5.size)))
            clear hf hn4 HR4 HD4 HW4 HP4 HZ Hz Hz2 hp
            refine wp_region_held_drew (S := fun w' => Below u1.heap.size u1 w') (by kernel_rfl) (nu_drew (nu_refl _)) (fun hHeld => ?_)
            dsimp only [Array.replicate, List.replicate, List.size_toArray, List.length_cons, List.length_nil, Nat.reduceAdd] at hHeld ⊢
            refine take_l (i := 0) (v := ?_) rfl (by kernel_rfl) (by kernel_rfl) (by kernel_rfl) (fun _ _ _ h => h) (Or.inl ⟨by rfl, ?_⟩) (by assumption) ?_
            case refine_2 => (intro _ _; go_simp; all_goals with_reducible rfl)
            simp only [Act.put, List.setIfInBounds_toArray, List.set_cons_zero, List.set_cons_succ]
            refine take_l (i := 1) (v := ?_) rfl (by kernel_rfl) (by kernel_rfl) (by kernel_rfl) (fun _ _ _ h => h) (Or.inl ⟨by rfl, ?_⟩) (by assumption) ?_
            case refine_2 => (intro _ _; go_simp; all_goals with_reducible rfl)
            simp only [Act.put, List.setIfInBounds_toArray, List.set_cons_zero, List.set_cons_succ]
            refine take_l (i := 2) (v := ?_) rfl (by kernel_rfl) (by kernel_rfl) (by kernel_rfl) (fun _ _ _ h => h) (Or.inl ⟨by rfl, ?_⟩) (by assumption) ?_
            case refine_2 => (intro _ _; go_simp; all_goals with_reducible rfl)
            simp only [Act.put, List.setIfInBounds_toArray, List.set_cons_zero, List.set_cons_succ]
            refine take_l (i := 3) rfl (by kernel_rfl) (by kernel_rfl) (by kernel_rfl) (fun _ _ _ h => h) (Or.inr ⟨by rfl, rfl⟩) (by assumption) ?_
            simp only [Act.put, List.setIfInBounds_toArray, List.set_cons_zero, List.set_cons_succ]
            refine take_l (i := 4) rfl (by kernel_rfl) (by kernel_rfl) (by kernel_rfl) (fun _ _ _ h => h) (Or.inr ⟨by rfl, rfl⟩) (by assumption) ?_
            simp only [Act.put, List.setIfInBounds_toArray, List.set_cons_zero, List.set_cons_succ]
            refine take_l (i := 5) rfl (by kernel_rfl) (by kernel_rfl) (by kernel_rfl) (fun _ _ _ h => h) (Or.inr ⟨by rfl, rfl⟩) (by assumption) ?_
            simp only [Act.put, List.setIfInBounds_toArray, List.set_cons_zero, List.set_cons_succ]
            refine take_l (i := 6) (v := ?_) rfl (by kernel_rfl) (by kernel_rfl) (by kernel_rfl) (fun _ _ _ h => h) (Or.inl ⟨by rfl, ?_⟩) (by assumption) ?_
            case refine_2 => (intro _ _; go_simp; all_goals with_reducible rfl)
            simp only [Act.put, List.setIfInBounds_toArray, List.set_cons_zero, List.set_cons_succ]
            refine take_l (i := 7) (v := ?_) rfl (by kernel_rfl) (by kernel_rfl) (by kernel_rfl) (fun _ _ _ h => h) (Or.inl ⟨by rfl, ?_⟩) (by assumption) ?_
            case refine_2 => (intro _ _; go_simp; all_goals with_reducible rfl)
            simp only [Act.put, List.setIfInBounds_toArray, List.set_cons_zero, List.set_cons_succ]
            refine take_l (i := 8) (v := ?_) rfl (by kernel_rfl) (by kernel_rfl) (by kernel_rfl) (fun _ _ _ h => h) (Or.inl ⟨by rfl, ?_⟩) (by assumption) ?_
            case refine_2 => (intro _ _; go_simp; all_goals with_reducible rfl)
            simp only [Act.put, List.setIfInBounds_toArray, List.set_cons_zero, List.set_cons_succ]
            refine take_l (i := 9) (v := ?_) rfl (by kernel_rfl) (by kernel_rfl) (by kernel_rfl) (fun _ _ _ h => h) (Or.inl ⟨by rfl, ?_⟩) (by assumption) ?_
            case refine_2 => (intro _ _; go_simp; all_goals with_reducible rfl)
            simp only [Act.put, List.setIfInBounds_toArray, List.set_cons_zero, List.set_cons_succ]
            refine take_l (i := 10) (v := ?_) rfl (by kernel_rfl) (by kernel_rfl) (by kernel_rfl) (fun _ _ _ h => h) (Or.inl ⟨by rfl, ?_⟩) (by assumption) ?_
            case refine_2 => (intro _ _; go_simp; all_goals with_reducible rfl)
            simp only [Act.put, List.setIfInBounds_toArray, List.set_cons_zero, List.set_cons_succ]
            refine take_l (i := 11) rfl (by kernel_rfl) (by kernel_rfl) (by kernel_rfl) (fun _ _ _ h => h) (Or.inl ⟨by rfl, fun W hS => (HLn.out W hS) _ _ (.tmp 10) rfl rfl⟩) (by assumption) ?_
            simp only [Act.put, List.setIfInBounds_toArray, List.set_cons_zero, List.set_cons_succ]
            refine take_l (i := 12) (v := ?_) rfl (by kernel_rfl) (by kernel_rfl) (by kernel_rfl) (fun _ _ _ h => h) (Or.inl ⟨by rfl, ?_⟩) (by assumption) ?_
            case refine_2 => (intro _ _; go_simp; all_goals with_reducible rfl)
            simp only [Act.put, List.setIfInBounds_toArray, List.set_cons_zero, List.set_cons_succ]
            refine take_l (i := 13) (v := ?_) rfl (by kernel_rfl) (by kernel_rfl) (by kernel_rfl) (fun _ _ _ h => h) (Or.inl ⟨by rfl, ?_⟩) (by assumption) ?_
            case refine_2 => (intro _ _; go_simp; all_goals with_reducible rfl)
            simp only [Act.put, List.setIfInBounds_toArray, List.set_cons_zero, List.set_cons_succ]
            refine take_l (i := 14) (v := ?_) rfl (by kernel_rfl) (by kernel_rfl) (by kernel_rfl) (fun _ _ _ h => h) (Or.inl ⟨by rfl, ?_⟩) (by assumption) ?_
            case refine_2 => (intro _ _; go_simp; all_goals with_reducible rfl)
            simp only [Act.put, List.setIfInBounds_toArray, List.set_cons_zero, List.set_cons_succ]
            refine take_l (i := 15) (v := ?_) rfl (by kernel_rfl) (by kernel_rfl) (by kernel_rfl) (fun _ _ _ h => h) (Or.inl ⟨by rfl, ?_⟩) (by assumption) ?_
            case refine_2 => (intro _ _; go_simp; all_goals with_reducible rfl)
            simp only [Act.put, List.setIfInBounds_toArray, List.set_cons_zero, List.set_cons_succ]
            refine take_l (i := 16) rfl (by kernel_rfl) (by kernel_rfl) (by kernel_rfl) (fun _ _ _ h => h) (Or.inl ⟨by rfl, fun W hS => (HLs.out W hS) _ _ (.tmp 67) rfl rfl⟩) (by assumption) ?_
            simp only [Act.put, List.setIfInBounds_toArray, List.set_cons_zero, List.set_cons_succ]
            refine take_l (i := 17) rfl (by kernel_rfl) (by kernel_rfl) (by kernel_rfl) (fun _ _ _ h => h) (Or.inl ⟨by rfl, fun W _ => exec_neq_same _ Hs.out (.tmp 63) (.tmp 68) rfl rfl rfl⟩) (by assumption) ?_
            simp only [Act.put, List.setIfInBounds_toArray, List.set_cons_zero, List.set_cons_succ]
            refine take_l (i := 18) (v := ?_) rfl (by kernel_rfl) (by kernel_rfl) (by kernel_rfl) (fun _ _ _ h => h) (Or.inl ⟨by rfl, ?_⟩) (by assumption) ?_
            case refine_2 => (intro _ _; go_simp; all_goals with_reducible rfl)
            simp only [Act.put, List.setIfInBounds_toArray, List.set_cons_zero, List.set_cons_succ]
            refine take_l (i := 19) (v := ?_) rfl (by kernel_rfl) (by kernel_rfl) (by kernel_rfl) (fun _ _ _ h => h) (Or.inl ⟨by rfl, ?_⟩) (by assumption) ?_
            case refine_2 => (intro _ _; go_simp; all_goals with_reducible rfl)
            simp only [Act.put, List.setIfInBounds_toArray, List.set_cons_zero, List.set_cons_succ]
            refine wpAnyH_done (by kernel_rfl) ?_ _
            generalize u1.drew = u2 at *
            have hn6 := nu_trans hn5 hHeld
            have HR6 := Lib.hid (show RegAt u2 g d s from Blk.below HR5.out hHeld (Blk.lt HR5.out))
            have HD6 := Lib.hid (show DevAt u2 d st (.slice none 0 0) offD ar3 co3 (.slice none 0 0) (.slice none 0 0) from Blk.below HD5.out hHeld (Blk.lt HD5.out))
            have HW6 := Lib.hid (Blk.below HW5.out hHeld (Blk.lt HW5.out))
            have HF6 := Lib.hid (Blk.below HF.out hHeld (Blk.lt HF.out))
            obtain ⟨x0, x1, x2, x3, x4, x5, _⟩ := st_cells HW6.out
            obtain ⟨y0, y1, y2, y3, y4, y5, _⟩ := st_cells (s := s) HF6.out
            clear HLw HLn HLs hHeld HW5 HF HP5 HR5 HD5 hn5
            by_cases hz : cur.p = 0
            · have hz1 : (cur.p != 0) = false := by simp [hz]
              clear hfo
              go_wp2_with fail
              refine (on_any Har3.out HD6.out).mono ?_
              rintro e w7 ⟨rfl, ⟨ar7, ha7, hd7⟩, hg7⟩
              have HR7 := Lib.hid (show RegAt w7 g d s from Blk.grown HR6.out hg7 (by intro e; exact Hgd.out (by injection e)))
              have HD7 := Lib.hid hd7
              have hn7 := nu_grown hn6 hg7 Hwd.out.2
              clear hd7 hg7 hn6 HR6 HD6
              go_wp2_with fail
              go_roundw
              case rel => exact ⟨k + 1, s, ar7, co3, by omega, by omega, by go_num, ha7, Hs.out, HR7.out, HD7.out, hn7⟩
              case measure => simp [intOf]; omega
            · have hz1 : (cur.p != 0) = true := by simp [hz]
              obtain ⟨e1, e2, e3, i1, i2, i3⟩ := follows_facts hfo hz
              have n1 : ¬ s.bo < cur.bo := by omega
              have n2 : ¬ s.ve < cur.ve := by omega
              have n3 : ¬ s.ep < cur.ep := by omega
              rw [e1] at y0
              rw [e2] at y1
              rw [e3] at y2
              clear i1 i2 i3 e1 e2 e3 hfo
              go_wp2_with fail
              refine (on_any Har3.out HD6.out).mono ?_
              rintro e w7 ⟨rfl, ⟨ar7, ha7, hd7⟩, hg7⟩
              have HR7 := Lib.hid (show RegAt w7 g d s from Blk.grown HR6.out hg7 (by intro e; exact Hgd.out (by injection e)))
              have HD7 := Lib.hid hd7
              have hn7 := nu_grown hn6 hg7 Hwd.out.2
              clear hd7 hg7 hn6 HR6 HD6
              go_wp2_with fail
              go_roundw
              case rel => exact ⟨k + 1, s, ar7, co3, by omega, by omega, by go_num, ha7, Hs.out, HR7.out, HD7.out, hn7⟩
              case measure => simp [intOf]; omega
          · have HR3 := Lib.hid hr3
            clear hr3
            go_wp2_with fail
            refine (regRead_any Hc.out HR3.out).mono ?_
            rintro e w4 ⟨rfl, hb4⟩
            have HR4 := Lib.hid (show RegAt w4 g d cur from Blk.below HR3.out hb4 (Blk.lt HR3.out))
            have HD4 := Lib.hid (show DevAt w4 d st (.slice none 0 0) offD ar3 co3 (.slice none 0 0) (.slice none 0 0) from Blk.below HD3.out hb4 (Blk.lt HD3.out))
            have HW4 := Lib.hid (Blk.below HW3.out hb4 (Blk.lt HW3.out))
            have HP4 := Lib.hid (range_below HP3.out hb4 (Nat.lt_of_lt_of_le Hbl.out hn3.size))
            have hn4 := nu_trans hn3 hb4
            clear hb4 HR3 HD3 HW3 HP3 hn3
            have Hz := Lib.hid (show (stL cur).length = (Try.zeroCells26).size by rw [st_len Hc.out, zst_size])
            have Hz2 := Lib.hid (show (Try.prog.info? 26).map (·.size) = some (stL cur).length by rw [st_len Hc.out, size_st])
            have HZ := Lib.hid (Blk.made w4 26 Try.zeroCells26)
            have HF := Lib.hid (HZ.out.fill (stL cur) Hz.out)
            have hf := nu_fill (stL cur) (g := w4.heap.size) (Nat.le_refl _) 0 _ (nu_alloc (nu_refl w4) (.cells Try.zeroCells26 26))
            go_upto_region 13 with (refine wpList_store_blk rfl 26 (.tmp 10) (.tmp 51) rfl w4.heap.size (stL cur) rfl rfl 26 Try.zeroCells26 HZ.out Hz.out Hz2.out st_one ?_)
            generalize hp : w4.heap.size = p at *
            generalize (w4.alloc (.cells Try.zeroCells26 26)).setCells p 0 (stL cur) = u1 at *
            rw [← hp] at hf
            have HR5 := Lib.hid (show RegAt u1 g d cur from Blk.below HR4.out hf (Blk.lt HR4.out))
            have HD5 := Lib.hid (show DevAt u1 d st (.slice none 0 0) offD ar3 co3 (.slice none 0 0) (.slice none 0 0) from Blk.below HD4.out hf (Blk.lt HD4.out))
            have HW5 := Lib.hid (Blk.below HW4.out hf (Blk.lt HW4.out))
            have HP5 := Lib.hid (range_below HP4.out hf (Nat.lt_of_lt_of_le Hbl.out hn4.size))
            have hn5 := nu_trans hn4 hf
            have HLw := Lib.hid (fun (W : World) (hS : Below u1.heap.size u1 W) => loads_blk Hc.out (Blk.below HW5.out hS (Blk.lt HW5.out)))
            have HLn := Lib.hid (fun (W : World) (hS : Below u1.heap.size u1 W) => loads_blk Hc.out (Blk.below HF.out hS (Blk.lt HF.out)))
            have HLs := Lib.hid (fun (W : World) (hS : Below u1.heap.size u1 W) => loads_range Hs.out (range_below HP5.out hS (Nat.lt_of_lt_of_le Hbl.out hn5.size)))
            clear hf hn4 HR4 HD4 HW4 HP4 HZ Hz Hz2 hp
            refine wp_region_held_drew (S := fun w' => Below u1.heap.size u1 w') (by kernel_rfl) (nu_drew (nu_refl _)) (fun hHeld => ?_)
            dsimp only [Array.replicate, List.replicate, List.size_toArray, List.length_cons, List.length_nil, Nat.reduceAdd] at hHeld ⊢
            refine take_l (i := 0) (v := ?_) rfl (by kernel_rfl) (by kernel_rfl) (by kernel_rfl) (fun _ _ _ h => h) (Or.inl ⟨by rfl, ?_⟩) (by assumption) ?_
            case refine_2 => (intro _ _; go_simp; all_goals with_reducible rfl)
            simp only [Act.put, List.setIfInBounds_toArray, List.set_cons_zero, List.set_cons_succ]
            refine take_l (i := 1) (v := ?_) rfl (by kernel_rfl) (by kernel_rfl) (by kernel_rfl) (fun _ _ _ h => h) (Or.inl ⟨by rfl, ?_⟩) (by assumption) ?_
            case refine_2 => (intro _ _; go_simp; all_goals with_reducible rfl)
            simp only [Act.put, List.setIfInBounds_toArray, List.set_cons_zero, List.set_cons_succ]
            refine take_l (i := 2) (v := ?_) rfl (by kernel_rfl) (by kernel_rfl) (by kernel_rfl) (fun _ _ _ h => h) (Or.inl ⟨by rfl, ?_⟩) (by assumption) ?_
            case refine_2 => (intro _ _; go_simp; all_goals with_reducible rfl)
            simp only [Act.put, List.setIfInBounds_toArray, List.set_cons_zero, List.set_cons_succ]
            refine take_l (i := 3) rfl (by kernel_rfl) (by kernel_rfl) (by kernel_rfl) (fun _ _ _ h => h) (Or.inl ⟨by rfl, fun W hS => (HLn.out W hS) _ _ (.tmp 10) rfl rfl⟩) (by assumption) ?_
            simp only [Act.put, List.setIfInBounds_toArray, List.set_cons_zero, List.set_cons_succ]
            refine take_l (i := 4) rfl (by kernel_rfl) (by kernel_rfl) (by kernel_rfl) (fun _ _ _ h => h) (Or.inl ⟨by rfl, fun W hS => (HLw.out W hS) _ _ (.tmp 8) rfl rfl⟩) (by assumption) ?_
            simp only [Act.put, List.setIfInBounds_toArray, List.set_cons_zero, List.set_cons_succ]
            refine take_l (i := 5) rfl (by kernel_rfl) (by kernel_rfl) (by kernel_rfl) (fun _ _ _ h => h) (Or.inl ⟨by rfl, fun W _ => exec_neq_same _ Hc.out (.tmp 55) (.tmp 56) rfl rfl rfl⟩) (by assumption) ?_
            simp only [Act.put, List.setIfInBounds_toArray, List.set_cons_zero, List.set_cons_succ]
            refine take_l (i := 6) (v := ?_) rfl (by kernel_rfl) (by kernel_rfl) (by kernel_rfl) (fun _ _ _ h => h) (Or.inl ⟨by rfl, ?_⟩) (by assumption) ?_
            case refine_2 => (intro _ _; go_simp; all_goals with_reducible rfl)
            simp only [Act.put, List.setIfInBounds_toArray, List.set_cons_zero, List.set_cons_succ]
            refine take_l (i := 7) (v := ?_) rfl (by kernel_rfl) (by kernel_rfl) (by kernel_rfl) (fun _ _ _ h => h) (Or.inl ⟨by rfl, ?_⟩) (by assumption) ?_
            case refine_2 => (intro _ _; go_simp; all_goals with_reducible rfl)
            simp only [Act.put, List.setIfInBounds_toArray, List.set_cons_zero, List.set_cons_succ]
            refine take_l (i := 8) (v := ?_) rfl (by kernel_rfl) (by kernel_rfl) (by kernel_rfl) (fun _ _ _ h => h) (Or.inl ⟨by rfl, ?_⟩) (by assumption) ?_
            case refine_2 => (intro _ _; go_simp; all_goals with_reducible rfl)
            simp only [Act.put, List.setIfInBounds_toArray, List.set_cons_zero, List.set_cons_succ]
            refine take_l (i := 9) (v := ?_) rfl (by kernel_rfl) (by kernel_rfl) (by kernel_rfl) (fun _ _ _ h => h) (Or.inl ⟨by rfl, ?_⟩) (by assumption) ?_
            case refine_2 => (intro _ _; go_simp; all_goals with_reducible rfl)
            simp only [Act.put, List.setIfInBounds_toArray, List.set_cons_zero, List.set_cons_succ]
            refine take_l (i := 10) (v := ?_) rfl (by kernel_rfl) (by kernel_rfl) (by kernel_rfl) (fun _ _ _ h => h) (Or.inl ⟨by rfl, ?_⟩) (by assumption) ?_
            case refine_2 => (intro _ _; go_simp; all_goals with_reducible rfl)
            simp only [Act.put, List.setIfInBounds_toArray, List.set_cons_zero, List.set_cons_succ]
            refine take_l (i := 11) rfl (by kernel_rfl) (by kernel_rfl) (by kernel_rfl) (fun _ _ _ h => h) (Or.inr ⟨by rfl, rfl⟩) (by assumption) ?_
            simp only [Act.put, List.setIfInBounds_toArray, List.set_cons_zero, List.set_cons_succ]
            refine take_l (i := 12) rfl (by kernel_rfl) (by kernel_rfl) (by kernel_rfl) (fun _ _ _ h => h) (Or.inr ⟨by rfl, rfl⟩) (by assumption) ?_
            simp only [Act.put, List.setIfInBounds_toArray, List.set_cons_zero, List.set_cons_succ]
            refine take_l (i := 13) rfl (by kernel_rfl) (by kernel_rfl) (by kernel_rfl) (fun _ _ _ h => h) (Or.inr ⟨by rfl, rfl⟩) (by assumption) ?_
            simp only [Act.put, List.setIfInBounds_toArray, List.set_cons_zero, List.set_cons_succ]
            refine take_l (i := 14) rfl (by kernel_rfl) (by kernel_rfl) (by kernel_rfl) (fun _ _ _ h => h) (Or.inr ⟨by rfl, rfl⟩) (by assumption) ?_
            simp only [Act.put, List.setIfInBounds_toArray, List.set_cons_zero, List.set_cons_succ]
            refine take_l (i := 15) rfl (by kernel_rfl) (by kernel_rfl) (by kernel_rfl) (fun _ _ _ h => h) (Or.inr ⟨by rfl, rfl⟩) (by assumption) ?_
            simp only [Act.put, List.setIfInBounds_toArray, List.set_cons_zero, List.set_cons_succ]
            refine take_l (i := 16) rfl (by kernel_rfl) (by kernel_rfl) (by kernel_rfl) (fun _ _ _ h => h) (Or.inr ⟨by rfl, rfl⟩) (by assumption) ?_
            simp only [Act.put, List.setIfInBounds_toArray, List.set_cons_zero, List.set_cons_succ]
            refine take_l (i := 17) rfl (by kernel_rfl) (by kernel_rfl) (by kernel_rfl) (fun _ _ _ h => h) (Or.inr ⟨by rfl, rfl⟩) (by assumption) ?_
            simp only [Act.put, List.setIfInBounds_toArray, List.set_cons_zero, List.set_cons_succ]
            refine take_l (i := 18) (v := ?_) rfl (by kernel_rfl) (by kernel_rfl) (by kernel_rfl) (fun _ _ _ h => h) (Or.inl ⟨by rfl, ?_⟩) (by assumption) ?_
            case refine_2 => (intro _ _; go_simp; all_goals with_reducible rfl)
            simp only [Act.put, List.setIfInBounds_toArray, List.set_cons_zero, List.set_cons_succ]
            refine take_l (i := 19) (v := ?_) rfl (by kernel_rfl) (by kernel_rfl) (by kernel_rfl) (fun _ _ _ h => h) (Or.inl ⟨by rfl, ?_⟩) (by assumption) ?_
            case refine_2 => (intro _ _; go_simp; all_goals with_reducible rfl)
            simp only [Act.put, List.setIfInBounds_toArray, List.set_cons_zero, List.set_cons_succ]
            refine wpAnyH_done (by kernel_rfl) ?_ _
            generalize u1.drew = u2 at *
            have hn6 := nu_trans hn5 hHeld
            have HR6 := Lib.hid (show RegAt u2 g d cur from Blk.below HR5.out hHeld (Blk.lt HR5.out))
            have HD6 := Lib.hid (show DevAt u2 d st (.slice none 0 0) offD ar3 co3 (.slice none 0 0) (.slice none 0 0) from Blk.below HD5.out hHeld (Blk.lt HD5.out))
            have HW6 := Lib.hid (Blk.below HW5.out hHeld (Blk.lt HW5.out))
            have HF6 := Lib.hid (Blk.below HF.out hHeld (Blk.lt HF.out))
            obtain ⟨x0, x1, x2, x3, x4, x5, _⟩ := st_cells HW6.out
            obtain ⟨y0, y1, y2, y3, y4, y5, _⟩ := st_cells (s := cur) HF6.out
            clear HLw HLn HLs hHeld HW5 HF HP5 HR5 HD5 hn5
            by_cases hz : cur.p = 0
            · have hz1 : (cur.p != 0) = false := by simp [hz]
              skip
              go_wp2_with fail
              refine (on_any Har3.out HD6.out).mono ?_
              rintro e w7 ⟨rfl, ⟨ar7, ha7, hd7⟩, hg7⟩
              have HR7 := Lib.hid (show RegAt w7 g d cur from Blk.grown HR6.out hg7 (by intro e; exact Hgd.out (by injection e)))
              have HD7 := Lib.hid hd7
              have hn7 := nu_grown hn6 hg7 Hwd.out.2
              clear hd7 hg7 hn6 HR6 HD6
              go_wp2_with fail
              go_roundw
              case rel => exact ⟨k + 1, cur, ar7, co3, by omega, by omega, by go_num, ha7, Hc.out, HR7.out, HD7.out, hn7⟩
              case measure => simp [intOf]; omega
            · have hz1 : (cur.p != 0) = true := by simp [hz]
              have n1 : ¬ cur.bo < cur.bo := by omega
              have n2 : ¬ cur.ve < cur.ve := by omega
              have n3 : ¬ cur.ep < cur.ep := by omega
              go_wp2_with fail
              refine (on_any Har3.out HD6.out).mono ?_
              rintro e w7 ⟨rfl, ⟨ar7, ha7, hd7⟩, hg7⟩
              have HR7 := Lib.hid (show RegAt w7 g d cur from Blk.grown HR6.out hg7 (by intro e; exact Hgd.out (by injection e)))
              have HD7 := Lib.hid hd7
              have hn7 := nu_grown hn6 hg7 Hwd.out.2
              clear hd7 hg7 hn6 HR6 HD6
              go_wp2_with fail
              go_roundw
              case rel => exact ⟨k + 1, cur, ar7, co3, by omega, by omega, by go_num, ha7, Hc.out, HR7.out, HD7.out, hn7⟩
              case measure => simp [intOf]; omega
          · have HR3 := Lib.hid hr3
            clear hr3
            go_wp2_with fail
            refine (regRead_any Hc.out HR3.out).mono ?_
            rintro e w4 ⟨rfl, hb4⟩
            have HR4 := Lib.hid (show RegAt w4 g d cur from Blk.below HR3.out hb4 (Blk.lt HR3.out))
            have HD4 := Lib.hid (show DevAt w4 d st (.slice none 0 0) offD ar3 co3 (.slice none 0 0) (.slice none 0 0) from Blk.below HD3.out hb4 (Blk.lt HD3.out))
            have HW4 := Lib.hid (Blk.below HW3.out hb4 (Blk.lt HW3.out))
            have HP4 := Lib.hid (range_below HP3.out hb4 (Nat.lt_of_lt_of_le Hbl.out hn3.size))
            have hn4 := nu_trans hn3 hb4
            clear hb4 HR3 HD3 HW3 HP3 hn3
            have Hz := Lib.hid (show (stL cur).length = (Try.zeroCells26).size by rw [st_len Hc.out, zst_size])
            have Hz2 := Lib.hid (show (Try.prog.info? 26).map (·.size) = some (stL cur).length by rw [st_len Hc.out, size_st])
            have HZ := Lib.hid (Blk.made w4 26 Try.zeroCells26)
            have HF := Lib.hid (HZ.out.fill (stL cur) Hz.out)
            have hf := nu_fill (stL cur) (g := w4.heap.size) (Nat.le_refl _) 0 _ (nu_alloc (nu_refl w4) (.cells Try.zeroCells26 26))
            go_upto_region 13 with (refine wpList_store_blk rfl 26 (.tmp 10) (.tmp 51) rfl w4.heap.size (stL cur) rfl rfl 26 Try.zeroCells26 HZ.out Hz.out Hz2.out st_one ?_)
            generalize hp : w4.heap.size = p at *
            generalize (w4.alloc (.cells Try.zeroCells26 26)).setCells p 0 (stL cur) = u1 at *
            rw [← hp] at hf
            have HR5 := Lib.hid (show RegAt u1 g d cur from Blk.below HR4.out hf (Blk.lt HR4.out))
            have HD5 := Lib.hid (show DevAt u1 d st (.slice none 0 0) offD ar3 co3 (.slice none 0 0) (.slice none 0 0) from Blk.below HD4.out hf (Blk.lt HD4.out))
            have HW5 := Lib.hid (Blk.below HW4.out hf (Blk.lt HW4.out))
            have HP5 := Lib.hid (range_below HP4.out hf (Nat.lt_of_lt_of_le Hbl.out hn4.size))
            have hn5 := nu_trans hn4 hf
            have HLw := Lib.hid (fun (W : World) (hS : Below u1.heap.size u1 W) => loads_blk Hc.out (Blk.below HW5.out hS (Blk.lt HW5.out)))
            have HLn := Lib.hid (fun (W : World) (hS : Below u1.heap.size u1 W) => loads_blk Hc.out (Blk.below HF.out hS (Blk.lt HF.out)))
            have HLs := Lib.hid (fun (W : World) (hS : Below u1.heap.size u1 W) => loads_range Hs.out (range_below HP5.out hS (Nat.lt_of_lt_of_le Hbl.out hn5.size)))
            clear hf hn4 HR4 HD4 HW4 HP4 HZ Hz Hz2 hp
            refine wp_region_held_drew (S := fun w' => Below u1.heap.size u1 w') (by kernel_rfl) (nu_drew (nu_refl _)) (fun hHeld => ?_)
            dsimp only [Array.replicate, List.replicate, List.size_toArray, List.length_cons, List.length_nil, Nat.reduceAdd] at hHeld ⊢
            refine take_l (i := 0) (v := ?_) rfl (by kernel_rfl) (by kernel_rfl) (by kernel_rfl) (fun _ _ _ h => h) (Or.inl ⟨by rfl, ?_⟩) (by assumption) ?_
            case refine_2 => (intro _ _; go_simp; all_goals with_reducible rfl)
            simp only [Act.put, List.setIfInBounds_toArray, List.set_cons_zero, List.set_cons_succ]
            refine take_l (i := 1) (v := ?_) rfl (by kernel_rfl) (by kernel_rfl) (by kernel_rfl) (fun _ _ _ h => h) (Or.inl ⟨by rfl, ?_⟩) (by assumption) ?_
            case refine_2 => (intro _ _; go_simp; all_goals with_reducible rfl)
            simp only [Act.put, List.setIfInBounds_toArray, List.set_cons_zero, List.set_cons_succ]
            refine take_l (i := 2) (v := ?_) rfl (by kernel_rfl) (by kernel_rfl) (by kernel_rfl) (fun _ _ _ h => h) (Or.inl ⟨by rfl, ?_⟩) (by assumption) ?_
            case refine_2 => (intro _ _; go_simp; all_goals with_reducible rfl)
            simp only [Act.put, List.setIfInBounds_toArray, List.set_cons_zero, List.set_cons_succ]
            refine take_l (i := 3) rfl (by kernel_rfl) (by kernel_rfl) (by kernel_rfl) (fun _ _ _ h => h) (Or.inl ⟨by rfl, fun W hS => (HLn.out W hS) _ _ (.tmp 10) rfl rfl⟩) (by assumption) ?_
            simp only [Act.put, List.setIfInBounds_toArray, List.set_cons_zero, List.set_cons_succ]
            refine take_l (i := 4) rfl (by kernel_rfl) (by kernel_rfl) (by kernel_rfl) (fun _ _ _ h => h) (Or.inl ⟨by rfl, fun W hS => (HLw.out W hS) _ _ (.tmp 8) rfl rfl⟩) (by assumption) ?_
            simp only [Act.put, List.setIfInBounds_toArray, List.set_cons_zero, List.set_cons_succ]
            refine take_l (i := 5) rfl (by kernel_rfl) (by kernel_rfl) (by kernel_rfl) (fun _ _ _ h => h) (Or.inl ⟨by rfl, fun W _ => exec_neq_same _ Hc.out (.tmp 55) (.tmp 56) rfl rfl rfl⟩) (by assumption) ?_
            simp only [Act.put, List.setIfInBounds_toArray, List.set_cons_zero, List.set_cons_succ]
            refine take_l (i := 6) (v := ?_) rfl (by kernel_rfl) (by kernel_rfl) (by kernel_rfl) (fun _ _ _ h => h) (Or.inl ⟨by rfl, ?_⟩) (by assumption) ?_
            case refine_2 => (intro _ _; go_simp; all_goals with_reducible rfl)
            simp only [Act.put, List.setIfInBounds_toArray, List.set_cons_zero, List.set_cons_succ]
            refine take_l (i := 7) (v := ?_) rfl (by kernel_rfl) (by kernel_rfl) (by kernel_rfl) (fun _ _ _ h => h) (Or.inl ⟨by rfl, ?_⟩) (by assumption) ?_
            case refine_2 => (intro _ _; go_simp; all_goals with_reducible rfl)
            simp only [Act.put, List.setIfInBounds_toArray, List.set_cons_zero, List.set_cons_succ]
            refine take_l (i := 8) (v := ?_) rfl (by kernel_rfl) (by kernel_rfl) (by kernel_rfl) (fun _ _ _ h => h) (Or.inl ⟨by rfl, ?_⟩) (by assumption) ?_
            case refine_2 => (intro _ _; go_simp; all_goals with_reducible rfl)
            simp only [Act.put, List.setIfInBounds_toArray, List.set_cons_zero, List.set_cons_succ]
            refine take_l (i := 9) (v := ?_) rfl (by kernel_rfl) (by kernel_rfl) (by kernel_rfl) (fun _ _ _ h => h) (Or.inl ⟨by rfl, ?_⟩) (by assumption) ?_
            case refine_2 => (intro _ _; go_simp; all_goals with_reducible rfl)
            simp only [Act.put, List.setIfInBounds_toArray, List.set_cons_zero, List.set_cons_succ]
            refine take_l (i := 10) (v := ?_) rfl (by kernel_rfl) (by kernel_rfl) (by kernel_rfl) (fun _ _ _ h => h) (Or.inl ⟨by rfl, ?_⟩) (by assumption) ?_
            case refine_2 => (intro _ _; go_simp; all_goals with_reducible rfl)
            simp only [Act.put, List.setIfInBounds_toArray, List.set_cons_zero, List.set_cons_succ]
            refine take_l (i := 11) rfl (by kernel_rfl) (by kernel_rfl) (by kernel_rfl) (fun _ _ _ h => h) (Or.inr ⟨by rfl, rfl⟩) (by assumption) ?_
            simp only [Act.put, List.setIfInBounds_toArray, List.set_cons_zero, List.set_cons_succ]
            refine take_l (i := 12) rfl (by kernel_rfl) (by kernel_rfl) (by kernel_rfl) (fun _ _ _ h => h) (Or.inr ⟨by rfl, rfl⟩) (by assumption) ?_
            simp only [Act.put, List.setIfInBounds_toArray, List.set_cons_zero, List.set_cons_succ]
            refine take_l (i := 13) rfl (by kernel_rfl) (by kernel_rfl) (by kernel_rfl) (fun _ _ _ h => h) (Or.inr ⟨by rfl, rfl⟩) (by assumption) ?_
            simp only [Act.put, List.setIfInBounds_toArray, List.set_cons_zero, List.set_cons_succ]
            refine take_l (i := 14) rfl (by kernel_rfl) (by kernel_rfl) (by kernel_rfl) (fun _ _ _ h => h) (Or.inr ⟨by rfl, rfl⟩) (by assumption) ?_
            simp only [Act.put, List.setIfInBounds_toArray, List.set_cons_zero, List.set_cons_succ]
            refine take_l (i := 15) rfl (by kernel_rfl) (by kernel_rfl) (by kernel_rfl) (fun _ _ _ h => h) (Or.inr ⟨by rfl, rfl⟩) (by assumption) ?_
            simp only [Act.put, List.setIfInBounds_toArray, List.set_cons_zero, List.set_cons_succ]
            refine take_l (i := 16) rfl (by kernel_rfl) (by kernel_rfl) (by kernel_rfl) (fun _ _ _ h => h) (Or.inr ⟨by rfl, rfl⟩) (by assumption) ?_
            simp only [Act.put, List.setIfInBounds_toArray, List.set_cons_zero, List.set_cons_succ]
            refine take_l (i := 17) rfl (by kernel_rfl) (by kernel_rfl) (by kernel_rfl) (fun _ _ _ h => h) (Or.inr ⟨by rfl, rfl⟩) (by assumption) ?_
            simp only [Act.put, List.setIfInBounds_toArray, List.set_cons_zero, List.set_cons_succ]
            refine take_l (i := 18) (v := ?_) rfl (by kernel_rfl) (by kernel_rfl) (by kernel_rfl) (fun _ _ _ h => h) (Or.inl ⟨by rfl, ?_⟩) (by assumption) ?_
            case refine_2 => (intro _ _; go_simp; all_goals with_reducible rfl)
            simp only [Act.put, List.setIfInBounds_toArray, List.set_cons_zero, List.set_cons_succ]
            refine take_l (i := 19) (v := ?_) rfl (by kernel_rfl) (by kernel_rfl) (by kernel_rfl) (fun _ _ _ h => h) (Or.inl ⟨by rfl, ?_⟩) (by assumption) ?_
            case refine_2 => (intro _ _; go_simp; all_goals with_reducible rfl)
            simp only [Act.put, List.setIfInBounds_toArray, List.set_cons_zero, List.set_cons_succ]
            refine wpAnyH_done (by kernel_rfl) ?_ _
            generalize u1.drew = u2 at *
            have hn6 := nu_trans hn5 hHeld
            have HR6 := Lib.hid (show RegAt u2 g d cur from Blk.below HR5.out hHeld (Blk.lt HR5.out))
            have HD6 := Lib.hid (show DevAt u2 d st (.slice none 0 0) offD ar3 co3 (.slice none 0 0) (.slice none 0 0) from Blk.below HD5.out hHeld (Blk.lt HD5.out))
            have HW6 := Lib.hid (Blk.below HW5.out hHeld (Blk.lt HW5.out))
            have HF6 := Lib.hid (Blk.below HF.out hHeld (Blk.lt HF.out))
            obtain ⟨x0, x1, x2, x3, x4, x5, _⟩ := st_cells HW6.out
            obtain ⟨y0, y1, y2, y3, y4, y5, _⟩ := st_cells (s := cur) HF6.out
            clear HLw HLn HLs hHeld HW5 HF HP5 HR5 HD5 hn5
            by_cases hz : cur.p = 0
            · have hz1 : (cur.p != 0) = false := by simp [hz]
              skip
              go_wp2_with fail
              refine (on_any Har3.out HD6.out).mono ?_
              rintro e w7 ⟨rfl, ⟨ar7, ha7, hd7⟩, hg7⟩
              have HR7 := Lib.hid (show RegAt w7 g d cur from Blk.grown HR6.out hg7 (by intro e; exact Hgd.out (by injection e)))
              have HD7 := Lib.hid hd7
              have hn7 := nu_grown hn6 hg7 Hwd.out.2
              clear hd7 hg7 hn6 HR6 HD6
              go_wp2_with fail
              go_roundw
              case rel => exact ⟨k + 1, cur, ar7, co3, by omega, by omega, by go_num, ha7, Hc.out, HR7.out, HD7.out, hn7⟩
              case measure => simp [intOf]; omega
            · have hz1 : (cur.p != 0) = true := by simp [hz]
              have n1 : ¬ cur.bo < cur.bo := by omega
              have n2 : ¬ cur.ve < cur.ve := by omega
              have n3 : ¬ cur.ep < cur.ep := by omega
              go_wp2_with fail
              refine (on_any Har3.out HD6.out).mono ?_
              rintro e w7 ⟨rfl, ⟨ar7, ha7, hd7⟩, hg7⟩
              have HR7 := Lib.hid (show RegAt w7 g d cur from Blk.grown HR6.out hg7 (by intro e; exact Hgd.out (by injection e)))
              have HD7 := Lib.hid hd7
              have hn7 := nu_grown hn6 hg7 Hwd.out.2
              clear hd7 hg7 hn6 HR6 HD6
              go_wp2_with fail
              go_roundw
              case rel => exact ⟨k + 1, cur, ar7, co3, by omega, by omega, by go_num, ha7, Hc.out, HR7.out, HD7.out, hn7⟩
              case measure => simp [intOf]; omega
        · clear HLs c1
          refine (write_rises Hgd.out Hc.out Hs.out Har.out HR2.out HD2.out).mono ?_
          rintro e w3 ⟨x, cur', offD, ar3, co3, rfl, hcase, _, ha3, hr3, hd3, ht3⟩
          have Har3 := Lib.hid ha3
          have HD3 := Lib.hid hd3
          have HW3 := Lib.hid (ht3.blk HW2.out (Nat.ne_of_gt Hq.out.1) (Nat.ne_of_gt Hq.out.2))
          have HP3 := Lib.hid (range_touch HP2.out ht3 (Nat.lt_of_lt_of_le Hbl.out hn2.size) Hbg.out.1 Hbg.out.2)
          have hn3 : Below w.heap.size w w3 := hn2.trans (ht3.below hn2.size Hwd.out.1 Hwd.out.2)
          clear HR2 HD2 HW2 HP2 hn2 ha3 hd3 ht3
          rcases hcase with ⟨rfl, rfl, hfo⟩ | ⟨rfl, rfl⟩ | ⟨rfl, rfl⟩
          · have HR3 := Lib.hid hr3
            clear hr3
            go_wp2_with fail
            refine (regRead_any Hs.out HR3.out).mono ?_
            rintro e w4 ⟨rfl, hb4⟩
            have HR4 := Lib.hid (show RegAt w4 g d s from Blk.below HR3.out hb4 (Blk.lt HR3.out))
            have HD4 := Lib.hid (show DevAt w4 d st (.slice none 0 0) offD ar3 co3 (.slice none 0 0) (.slice none 0 0) from Blk.below HD3.out hb4 (Blk.lt HD3.out))
            have HW4 := Lib.hid (Blk.below HW3.out hb4 (Blk.lt HW3.out))
            have HP4 := Lib.hid (range_below HP3.out hb4 (Nat.lt_of_lt_of_le Hbl.out hn3.size))
            have hn4 := nu_trans hn3 hb4
            clear hb4 HR3 HD3 HW3 HP3 hn3
            have Hz := Lib.hid (show (stL s).length = (Try.zeroCells26).size by rw [st_len Hs.out, zst_size])
            have Hz2 := Lib.hid (show (Try.prog.info? 26).map (·.size) = some (stL s).length by rw [st_len Hs.out, size_st])
            have HZ := Lib.hid (Blk.made w4 26 Try.zeroCells26)
            have HF := Lib.hid (HZ.out.fill (stL s) Hz.out)
            have hf := nu_fill (stL s) (g := w4.heap.size) (Nat.le_refl _) 0 _ (nu_alloc (nu_refl w4) (.cells Try.zeroCells26 26))
            go_upto_region 13 with (refine wpList_store_blk rfl 26 (.tmp 10) (.tmp 51) rfl w4.heap.size (stL s) rfl rfl 26 Try.zeroCells26 HZ.out Hz.out Hz2.out st_one ?_)
            generalize hp : w4.heap.size = p at *
            generalize (w4.alloc (.cells Try.zeroCells26 26)).setCells p 0 (stL s) = u1 at *
            rw [← hp] at hf
            have HR5 := Lib.hid (show RegAt u1 g d s from Blk.below HR4.out hf (Blk.lt HR4.out))
            have HD5 := Lib.hid (show DevAt u1 d st (.slice none 0 0) offD ar3 co3 (.slice none 0 0) (.slice none 0 0) from Blk.below HD4.out hf (Blk.lt HD4.out))
            have HW5 := Lib.hid (Blk.below HW4.out hf (Blk.lt HW4.out))
            have HP5 := Lib.hid (range_below HP4.out hf (Nat.lt_of_lt_of_le Hbl.out hn4.size))
            have hn5 := nu_trans hn4 hf
            have HLw := Lib.hid (fun (W : World) (hS : Below u1.heap.size u1 W) => loads_blk Hc.out (Blk.below HW5.out hS (Blk.lt HW5.out)))
            have HLn := Lib.hid (fun (W : World) (hS : Below u1.heap.size u1 W) => loads_blk Hs.out (Blk.below HF.out hS (Blk.lt HF.out)))
            have HLs := Lib.hid (fun (W : World) (hS : Below u1.heap.size u1 W) => loads_range Hs.out (range_below HP5.out hS (Nat.lt_of_lt_of_le Hbl.out hn5.size)))
            clear hf hn4 HR4 HD4 HW4 HP4 HZ Hz Hz2 hp
            refine wp_region_held_drew (S := fun w' => Below u1.heap.size u1 w') (by kernel_rfl) (nu_drew (nu_refl _)) (fun hHeld => ?_)
            dsimp only [Array.replicate, List.replicate, List.size_toArray, List.length_cons, List.length_nil, Nat.reduceAdd] at hHeld ⊢
            refine take_l (i := 0) (v := ?_) rfl (by kernel_rfl) (by kernel_rfl) (by kernel_rfl) (fun _ _ _ h => h) (Or.inl ⟨by rfl, ?_⟩) (by assumption) ?_
            case refine_2 => (intro _ _; go_simp; all_goals with_reducible rfl)
            simp only [Act.put, List.setIfInBounds_toArray, List.set_cons_zero, List.set_cons_succ]
            refine take_l (i := 1) (v := ?_) rfl (by kernel_rfl) (by kernel_rfl) (by kernel_rfl) (fun _ _ _ h => h) (Or.inl ⟨by rfl, ?_⟩) (by assumption) ?_
            case refine_2 => (intro _ _; go_simp; all_goals with_reducible rfl)
            simp only [Act.put, List.setIfInBounds_toArray, List.set_cons_zero, List.set_cons_succ]
            refine take_l (i := 2) (v := ?_) rfl (by kernel_rfl) (by kernel_rfl) (by kernel_rfl) (fun _ _ _ h => h) (Or.inl ⟨by rfl, ?_⟩) (by assumption) ?_
            case refine_2 => (intro _ _; go_simp; all_goals with_reducible rfl)
            simp only [Act.put, List.setIfInBounds_toArray, List.set_cons_zero, List.set_cons_succ]
            refine take_l (i := 3) rfl (by kernel_rfl) (by kernel_rfl) (by kernel_rfl) (fun _ _ _ h => h) (Or.inr ⟨by rfl, rfl⟩) (by assumption) ?_
            simp only [Act.put, List.setIfInBounds_toArray, List.set_cons_zero, List.set_cons_succ]
            refine take_l (i := 4) rfl (by kernel_rfl) (by kernel_rfl) (by kernel_rfl) (fun _ _ _ h => h) (Or.inr ⟨by rfl, rfl⟩) (by assumption) ?_
            simp only [Act.put, List.setIfInBounds_toArray, List.set_cons_zero, List.set_cons_succ]
            refine take_l (i := 5) rfl (by kernel_rfl) (by kernel_rfl) (by kernel_rfl) (fun _ _ _ h => h) (Or.inr ⟨by rfl, rfl⟩) (by assumption) ?_
            simp only [Act.put, List.setIfInBounds_toArray, List.set_cons_zero, List.set_cons_succ]
            refine take_l (i := 6) (v := ?_) rfl (by kernel_rfl) (by kernel_rfl) (by kernel_rfl) (fun _ _ _ h => h) (Or.inl ⟨by rfl, ?_⟩) (by assumption) ?_
            case refine_2 => (intro _ _; go_simp; all_goals with_reducible rfl)
            simp only [Act.put, List.setIfInBounds_toArray, List.set_cons_zero, List.set_cons_succ]
            refine take_l (i := 7) (v := ?_) rfl (by kernel_rfl) (by kernel_rfl) (by kernel_rfl) (fun _ _ _ h => h) (Or.inl ⟨by rfl, ?_⟩) (by assumption) ?_
            case refine_2 => (intro _ _; go_simp; all_goals with_reducible rfl)
            simp only [Act.put, List.setIfInBounds_toArray, List.set_cons_zero, List.set_cons_succ]
            refine take_l (i := 8) (v := ?_) rfl (by kernel_rfl) (by kernel_rfl) (by kernel_rfl) (fun _ _ _ h => h) (Or.inl ⟨by rfl, ?_⟩) (by assumption) ?_
            case refine_2 => (intro _ _; go_simp; all_goals with_reducible rfl)
            simp only [Act.put, List.setIfInBounds_toArray, List.set_cons_zero, List.set_cons_succ]
            refine take_l (i := 9) (v := ?_) rfl (by kernel_rfl) (by kernel_rfl) (by kernel_rfl) (fun _ _ _ h => h) (Or.inl ⟨by rfl, ?_⟩) (by assumption) ?_
            case refine_2 => (intro _ _; go_simp; all_goals with_reducible rfl)
            simp only [Act.put, List.setIfInBounds_toArray, List.set_cons_zero, List.set_cons_succ]
            refine take_l (i := 10) (v := ?_) rfl (by kernel_rfl) (by kernel_rfl) (by kernel_rfl) (fun _ _ _ h => h) (Or.inl ⟨by rfl, ?_⟩) (by assumption) ?_
            case refine_2 => (intro _ _; go_simp; all_goals with_reducible rfl)
            simp only [Act.put, List.setIfInBounds_toArray, List.set_cons_zero, List.set_cons_succ]
            refine take_l (i := 11) rfl (by kernel_rfl) (by kernel_rfl) (by kernel_rfl) (fun _ _ _ h => h) (Or.inl ⟨by rfl, fun W hS => (HLn.out W hS) _ _ (.tmp 10) rfl rfl⟩) (by assumption) ?_
            simp only [Act.put, List.setIfInBounds_toArray, List.set_cons_zero, List.set_cons_succ]
            refine take_l (i := 12) (v := ?_) rfl (by kernel_rfl) (by kernel_rfl) (by kernel_rfl) (fun _ _ _ h => h) (Or.inl ⟨by rfl, ?_⟩) (by assumption) ?_
            case refine_2 => (intro _ _; go_simp; all_goals with_reducible rfl)
            simp only [Act.put, List.setIfInBounds_toArray, List.set_cons_zero, List.set_cons_succ]
            refine take_l (i := 13) (v := ?_) rfl (by kernel_rfl) (by kernel_rfl) (by kernel_rfl) (fun _ _ _ h => h) (Or.inl ⟨by rfl, ?_⟩) (by assumption) ?_
            case refine_2 => (intro _ _; go_simp; all_goals with_reducible rfl)
            simp only [Act.put, List.setIfInBounds_toArray, List.set_cons_zero, List.set_cons_succ]
            refine take_l (i := 14) (v := ?_) rfl (by kernel_rfl) (by kernel_rfl) (by kernel_rfl) (fun _ _ _ h => h) (Or.inl ⟨by rfl, ?_⟩) (by assumption) ?_
            case refine_2 => (intro _ _; go_simp; all_goals with_reducible rfl)
            simp only [Act.put, List.setIfInBounds_toArray, List.set_cons_zero, List.set_cons_succ]
            refine take_l (i := 15) (v := ?_) rfl (by kernel_rfl) (by kernel_rfl) (by kernel_rfl) (fun _ _ _ h => h) (Or.inl ⟨by rfl, ?_⟩) (by assumption) ?_
            case refine_2 => (intro _ _; go_simp; all_goals with_reducible rfl)
            simp only [Act.put, List.setIfInBounds_toArray, List.set_cons_zero, List.set_cons_succ]
            refine take_l (i := 16) rfl (by kernel_rfl) (by kernel_rfl) (by kernel_rfl) (fun _ _ _ h => h) (Or.inl ⟨by rfl, fun W hS => (HLs.out W hS) _ _ (.tmp 67) rfl rfl⟩) (by assumption) ?_
            simp only [Act.put, List.setIfInBounds_toArray, List.set_cons_zero, List.set_cons_succ]
            refine take_l (i := 17) rfl (by kernel_rfl) (by kernel_rfl) (by kernel_rfl) (fun _ _ _ h => h) (Or.inl ⟨by rfl, fun W _ => exec_neq_same _ Hs.out (.tmp 63) (.tmp 68) rfl rfl rfl⟩) (by assumption) ?_
            simp only [Act.put, List.setIfInBounds_toArray, List.set_cons_zero, List.set_cons_succ]
            refine take_l (i := 18) (v := ?_) rfl (by kernel_rfl) (by kernel_rfl) (by kernel_rfl) (fun _ _ _ h => h) (Or.inl ⟨by rfl, ?_⟩) (by assumption) ?_
            case refine_2 => (intro _ _; go_simp; all_goals with_reducible rfl)
            simp only [Act.put, List.setIfInBounds_toArray, List.set_cons_zero, List.set_cons_succ]
            refine take_l (i := 19) (v := ?_) rfl (by kernel_rfl) (by kernel_rfl) (by kernel_rfl) (fun _ _ _ h => h) (Or.inl ⟨by rfl, ?_⟩) (by assumption) ?_
            case refine_2 => (intro _ _; go_simp; all_goals with_reducible rfl)
            simp only [Act.put, List.setIfInBounds_toArray, List.set_cons_zero, List.set_cons_succ]
            refine wpAnyH_done (by kernel_rfl) ?_ _
            generalize u1.drew = u2 at *
            have hn6 := nu_trans hn5 hHeld
            have HR6 := Lib.hid (show RegAt u2 g d s from Blk.below HR5.out hHeld (Blk.lt HR5.out))
            have HD6 := Lib.hid (show DevAt u2 d st (.slice none 0 0) offD ar3 co3 (.slice none 0 0) (.slice none 0 0) from Blk.below HD5.out hHeld (Blk.lt HD5.out))
            have HW6 := Lib.hid (Blk.below HW5.out hHeld (Blk.lt HW5.out))
            have HF6 := Lib.hid (Blk.below HF.out hHeld (Blk.lt HF.out))
            obtain ⟨x0, x1, x2, x3, x4, x5, _⟩ := st_cells HW6.out
            obtain ⟨y0, y1, y2, y3, y4, y5, _⟩ := st_cells (s := s) HF6.out
            clear HLw HLn HLs hHeld HW5 HF HP5 HR5 HD5 hn5
            by_cases hz : cur.p = 0
            · have hz1 : (cur.p != 0) = false := by simp [hz]
              clear hfo
              go_wp2_with fail
              refine (on_any Har3.out HD6.out).mono ?_
              rintro e w7 ⟨rfl, ⟨ar7, ha7, hd7⟩, hg7⟩
              have HR7 := Lib.hid (show RegAt w7 g d s from Blk.grown HR6.out hg7 (by intro e; exact Hgd.out (by injection e)))
              have HD7 := Lib.hid hd7
              have hn7 := nu_grown hn6 hg7 Hwd.out.2
              clear hd7 hg7 hn6 HR6 HD6
              go_wp2_with fail
              go_roundw
              case rel => exact ⟨k + 1, s, ar7, co3, by omega, by omega, by go_num, ha7, Hs.out, HR7.out, HD7.out, hn7⟩
              case measure => simp [intOf]; omega
            · have hz1 : (cur.p != 0) = true := by simp [hz]
              obtain ⟨e1, e2, e3, i1, i2, i3⟩ := follows_facts hfo hz
              have n1 : ¬ s.bo < cur.bo := by omega
              have n2 : ¬ s.ve < cur.ve := by omega
              have n3 : ¬ s.ep < cur.ep := by omega
              rw [e1] at y0
              rw [e2] at y1
              rw [e3] at y2
              clear i1 i2 i3 e1 e2 e3 hfo
              go_wp2_with fail
              refine (on_any Har3.out HD6.out).mono ?_
              rintro e w7 ⟨rfl, ⟨ar7, ha7, hd7⟩, hg7⟩
              have HR7 := Lib.hid (show RegAt w7 g d s from Blk.grown HR6.out hg7 (by intro e; exact Hgd.out (by injection e)))
              have HD7 := Lib.hid hd7
              have hn7 := nu_grown hn6 hg7 Hwd.out.2
              clear hd7 hg7 hn6 HR6 HD6
              go_wp2_with fail
              go_roundw
              case rel => exact ⟨k + 1, s, ar7, co3, by omega, by omega, by go_num, ha7, Hs.out, HR7.out, HD7.out, hn7⟩
              case measure => simp [intOf]; omega
          · have HR3 := Lib.hid hr3
            clear hr3
            go_wp2_with fail
            refine (regRead_any Hc.out HR3.out).mono ?_
            rintro e w4 ⟨rfl, hb4⟩
            have HR4 := Lib.hid (show RegAt w4 g d cur from Blk.below HR3.out hb4 (Blk.lt HR3.out))
            have HD4 := Lib.hid (show DevAt w4 d st (.slice none 0 0) offD ar3 co3 (.slice none 0 0) (.slice none 0 0) from Blk.below HD3.out hb4 (Blk.lt HD3.out))
            have HW4 := Lib.hid (Blk.below HW3.out hb4 (Blk.lt HW3.out))
            have HP4 := Lib.hid (range_below HP3.out hb4 (Nat.lt_of_lt_of_le Hbl.out hn3.size))
            have hn4 := nu_trans hn3 hb4
            clear hb4 HR3 HD3 HW3 HP3 hn3
            have Hz := Lib.hid (show (stL cur).length = (Try.zeroCells26).size by rw [st_len Hc.out, zst_size])
            have Hz2 := Lib.hid (show (Try.prog.info? 26).map (·.size) = some (stL cur).length by rw [st_len Hc.out, size_st])
            have HZ := Lib.hid (Blk.made w4 26 Try.zeroCells26)
            have HF := Lib.hid (HZ.out.fill (stL cur) Hz.out)
            have hf := nu_fill (stL cur) (g := w4.heap.size) (Nat.le_refl _) 0 _ (nu_alloc (nu_refl w4) (.cells Try.zeroCells26 26))
            go_upto_region 13 with (refine wpList_store_blk rfl 26 (.tmp 10) (.tmp 51) rfl w4.heap.size (stL cur) rfl rfl 26 Try.zeroCells26 HZ.out Hz.out Hz2.out st_one ?_)
            generalize hp : w4.heap.size = p at *
            generalize (w4.alloc (.cells Try.zeroCells26 26)).setCells p 0 (stL cur) = u1 at *
            rw [← hp] at hf
            have HR5 := Lib.hid (show RegAt u1 g d cur from Blk.below HR4.out hf (Blk.lt HR4.out))
            have HD5 := Lib.hid (show DevAt u1 d st (.slice none 0 0) offD ar3 co3 (.slice none 0 0) (.slice none 0 0) from Blk.below HD4.out hf (Blk.lt HD4.out))
            have HW5 := Lib.hid (Blk.below HW4.out hf (Blk.lt HW4.out))
            have HP5 := Lib.hid (range_below HP4.out hf (Nat.lt_of_lt_of_le Hbl.out hn4.size))
            have hn5 := nu_trans hn4 hf
            have HLw := Lib.hid (fun (W : World) (hS : Below u1.heap.size u1 W) => loads_blk Hc.out (Blk.below HW5.out hS (Blk.lt HW5.out)))
            have HLn := Lib.hid (fun (W : World) (hS : Below u1.heap.size u1 W) => loads_blk Hc.out (Blk.below HF.out hS (Blk.lt HF.out)))
            have HLs := Lib.hid (fun (W : World) (hS : Below u1.heap.size u1 W) => loads_range Hs.out (range_below HP5.out hS (Nat.lt_of_lt_of_le Hbl.out hn5.size)))
            clear hf hn4 HR4 HD4 HW4 HP4 HZ Hz Hz2 hp
            refine wp_region_held_drew (S := fun w' => Below u1.heap.size u1 w') (by kernel_rfl) (nu_drew (nu_refl _)) (fun hHeld => ?_)
            dsimp only [Array.replicate, List.replicate, List.size_toArray, List.length_cons, List.length_nil, Nat.reduceAdd] at hHeld ⊢
            refine take_l (i := 0) (v := ?_) rfl (by kernel_rfl) (by kernel_rfl) (by kernel_rfl) (fun _ _ _ h => h) (Or.inl ⟨by rfl, ?_⟩) (by assumption) ?_
            case refine_2 => (intro _ _; go_simp; all_goals with_reducible rfl)
            simp only [Act.put, List.setIfInBounds_toArray, List.set_cons_zero, List.set_cons_succ]
            refine take_l (i := 1) (v := ?_) rfl (by kernel_rfl) (by kernel_rfl) (by kernel_rfl) (fun _ _ _ h => h) (Or.inl ⟨by rfl, ?_⟩) (by assumption) ?_
            case refine_2 => (intro _ _; go_simp; all_goals with_reducible rfl)
            simp only [Act.put, List.setIfInBounds_toArray, List.set_cons_zero, List.set_cons_succ]
            refine take_l (i := 2) (v := ?_) rfl (by kernel_rfl) (by kernel_rfl) (by kernel_rfl) (fun _ _ _ h => h) (Or.inl ⟨by rfl, ?_⟩) (by assumption) ?_
            case refine_2 => (intro _ _; go_simp; all_goals with_reducible rfl)
            simp only [Act.put, List.setIfInBounds_toArray, List.set_cons_zero, List.set_cons_succ]
            refine take_l (i := 3) rfl (by kernel_rfl) (by kernel_rfl) (by kernel_rfl) (fun _ _ _ h => h) (Or.inl ⟨by rfl, fun W hS => (HLn.out W hS) _ _ (.tmp 10) rfl rfl⟩) (by assumption) ?_
            simp only [Act.put, List.setIfInBounds_toArray, List.set_cons_zero, List.set_cons_succ]
            refine take_l (i := 4) rfl (by kernel_rfl) (by kernel_rfl) (by kernel_rfl) (fun _ _ _ h => h) (Or.inl ⟨by rfl, fun W hS => (HLw.out W hS) _ _ (.tmp 8) rfl rfl⟩) (by assumption) ?_
            simp only [Act.put, List.setIfInBounds_toArray, List.set_cons_zero, List.set_cons_succ]
            refine take_l (i := 5) rfl (by kernel_rfl) (by kernel_rfl) (by kernel_rfl) (fun _ _ _ h => h) (Or.inl ⟨by rfl, fun W _ => exec_neq_same _ Hc.out (.tmp 55) (.tmp 56) rfl rfl rfl⟩) (by assumption) ?_
            simp only [Act.put, List.setIfInBounds_toArray, List.set_cons_zero, List.set_cons_succ]
            refine take_l (i := 6) (v := ?_) rfl (by kernel_rfl) (by kernel_rfl) (by kernel_rfl) (fun _ _ _ h => h) (Or.inl ⟨by rfl, ?_⟩) (by assumption) ?_
            case refine_2 => (intro _ _; go_simp; all_goals with_reducible rfl)
            simp only [Act.put, List.setIfInBounds_toArray, List.set_cons_zero, List.set_cons_succ]
            refine take_l (i := 7) (v := ?_) rfl (by kernel_rfl) (by kernel_rfl) (by kernel_rfl) (fun _ _ _ h => h) (Or.inl ⟨by rfl, ?_⟩) (by assumption) ?_
            case refine_2 => (intro _ _; go_simp; all_goals with_reducible rfl)
            simp only [Act.put, List.setIfInBounds_toArray, List.set_cons_zero, List.set_cons_succ]
            refine take_l (i := 8) (v := ?_) rfl (by kernel_rfl) (by kernel_rfl) (by kernel_rfl) (fun _ _ _ h => h) (Or.inl ⟨by rfl, ?_⟩) (by assumption) ?_
            case refine_2 => (intro _ _; go_simp; all_goals with_reducible rfl)
            simp only [Act.put, List.setIfInBounds_toArray, List.set_cons_zero, List.set_cons_succ]
            refine take_l (i := 9) (v := ?_) rfl (by kernel_rfl) (by kernel_rfl) (by kernel_rfl) (fun _ _ _ h => h) (Or.inl ⟨by rfl, ?_⟩) (by assumption) ?_
            case refine_2 => (intro _ _; go_simp; all_goals with_reducible rfl)
            simp only [Act.put, List.setIfInBounds_toArray, List.set_cons_zero, List.set_cons_succ]
            refine take_l (i := 10) (v := ?_) rfl (by kernel_rfl) (by kernel_rfl) (by kernel_rfl) (fun _ _ _ h => h) (Or.inl ⟨by rfl, ?_⟩) (by assumption) ?_
            case refine_2 => (intro _ _; go_simp; all_goals with_reducible rfl)
            simp only [Act.put, List.setIfInBounds_toArray, List.set_cons_zero, List.set_cons_succ]
            refine take_l (i := 11) rfl (by kernel_rfl) (by kernel_rfl) (by kernel_rfl) (fun _ _ _ h => h) (Or.inr ⟨by rfl, rfl⟩) (by assumption) ?_
            simp only [Act.put, List.setIfInBounds_toArray, List.set_cons_zero, List.set_cons_succ]
            refine take_l (i := 12) rfl (by kernel_rfl) (by kernel_rfl) (by kernel_rfl) (fun _ _ _ h => h) (Or.inr ⟨by rfl, rfl⟩) (by assumption) ?_
            simp only [Act.put, List.setIfInBounds_toArray, List.set_cons_zero, List.set_cons_succ]
            refine take_l (i := 13) rfl (by kernel_rfl) (by kernel_rfl) (by kernel_rfl) (fun _ _ _ h => h) (Or.inr ⟨by rfl, rfl⟩) (by assumption) ?_
            simp only [Act.put, List.setIfInBounds_toArray, List.set_cons_zero, List.set_cons_succ]
            refine take_l (i := 14) rfl (by kernel_rfl) (by kernel_rfl) (by kernel_rfl) (fun _ _ _ h => h) (Or.inr ⟨by rfl, rfl⟩) (by assumption) ?_
            simp only [Act.put, List.setIfInBounds_toArray, List.set_cons_zero, List.set_cons_succ]
            refine take_l (i := 15) rfl (by kernel_rfl) (by kernel_rfl) (by kernel_rfl) (fun _ _ _ h => h) (Or.inr ⟨by rfl, rfl⟩) (by assumption) ?_
            simp only [Act.put, List.setIfInBounds_toArray, List.set_cons_zero, List.set_cons_succ]
            refine take_l (i := 16) rfl (by kernel_rfl) (by kernel_rfl) (by kernel_rfl) (fun _ _ _ h => h) (Or.inr ⟨by rfl, rfl⟩) (by assumption) ?_
            simp only [Act.put, List.setIfInBounds_toArray, List.set_cons_zero, List.set_cons_succ]
            refine take_l (i := 17) rfl (by kernel_rfl) (by kernel_rfl) (by kernel_rfl) (fun _ _ _ h => h) (Or.inr ⟨by rfl, rfl⟩) (by assumption) ?_
            simp only [Act.put, List.setIfInBounds_toArray, List.set_cons_zero, List.set_cons_succ]
            refine take_l (i := 18) (v := ?_) rfl (by kernel_rfl) (by kernel_rfl) (by kernel_rfl) (fun _ _ _ h => h) (Or.inl ⟨by rfl, ?_⟩) (by assumption) ?_
            case refine_2 => (intro _ _; go_simp; all_goals with_reducible rfl)
            simp only [Act.put, List.setIfInBounds_toArray, List.set_cons_zero, List.set_cons_succ]
            refine take_l (i := 19) (v := ?_) rfl (by kernel_rfl) (by kernel_rfl) (by kernel_rfl) (fun _ _ _ h => h) (Or.inl ⟨by rfl, ?_⟩) (by assumption) ?_
            case refine_2 => (intro _ _; go_simp; all_goals with_reducible rfl)
            simp only [Act.put, List.setIfInBounds_toArray, List.set_cons_zero, List.set_cons_succ]
            refine wpAnyH_done (by kernel_rfl) ?_ _
            generalize u1.drew = u2 at *
            have hn6 := nu_trans hn5 hHeld
            have HR6 := Lib.hid (show RegAt u2 g d cur from Blk.below HR5.out hHeld (Blk.lt HR5.out))
            have HD6 := Lib.hid (show DevAt u2 d st (.slice none 0 0) offD ar3 co3 (.slice none 0 0) (.slice none 0 0) from Blk.below HD5.out hHeld (Blk.lt HD5.out))
            have HW6 := Lib.hid (Blk.below HW5.out hHeld (Blk.lt HW5.out))
            have HF6 := Lib.hid (Blk.below HF.out hHeld (Blk.lt HF.out))
            obtain ⟨x0, x1, x2, x3, x4, x5, _⟩ := st_cells HW6.out
            obtain ⟨y0, y1, y2, y3, y4, y5, _⟩ := st_cells (s := cur) HF6.out
            clear HLw HLn HLs hHeld HW5 HF HP5 HR5 HD5 hn5
            by_cases hz : cur.p = 0
            · have hz1 : (cur.p != 0) = false := by simp [hz]
              skip
              go_wp2_with fail
              refine (on_any Har3.out HD6.out).mono ?_
              rintro e w7 ⟨rfl, ⟨ar7, ha7, hd7⟩, hg7⟩
              have HR7 := Lib.hid (show RegAt w7 g d cur from Blk.grown HR6.out hg7 (by intro e; exact Hgd.out (by injection e)))
              have HD7 := Lib.hid hd7
              have hn7 := nu_grown hn6 hg7 Hwd.out.2
              clear hd7 hg7 hn6 HR6 HD6
              go_wp2_with fail
              go_roundw
              case rel => exact ⟨k + 1, cur, ar7, co3, by omega, by omega, by go_num, ha7, Hc.out, HR7.out, HD7.out, hn7⟩
              case measure => simp [intOf]; omega
            · have hz1 : (cur.p != 0) = true := by simp [hz]
              have n1 : ¬ cur.bo < cur.bo := by omega
              have n2 : ¬ cur.ve < cur.ve := by omega
              have n3 : ¬ cur.ep < cur.ep := by omega
              go_wp2_with fail
              refine (on_any Har3.out HD6.out).mono ?_
              rintro e w7 ⟨rfl, ⟨ar7, ha7, hd7⟩, hg7⟩
              have HR7 := Lib.hid (show RegAt w7 g d cur from Blk.grown HR6.out hg7 (by intro e; exact Hgd.out (by injection e)))
              have HD7 := Lib.hid hd7
              have hn7 := nu_grown hn6 hg7 Hwd.out.2
              clear hd7 hg7 hn6 HR6 HD6
              go_wp2_with fail
              go_roundw
              case rel => exact ⟨k + 1, cur, ar7, co3, by omega, by omega, by go_num, ha7, Hc.out, HR7.out, HD7.out, hn7⟩
              case measure => simp [intOf]; omega
          · have HR3 := Lib.hid hr3
            clear hr3
            go_wp2_with fail
            refine (regRead_any Hc.out HR3.out).mono ?_
            rintro e w4 ⟨rfl, hb4⟩
            have HR4 := Lib.hid (show RegAt w4 g d cur from Blk.below HR3.out hb4 (Blk.lt HR3.out))
            have HD4 := Lib.hid (show DevAt w4 d st (.slice none 0 0) offD ar3 co3 (.slice none 0 0) (.slice none 0 0) from Blk.below HD3.out hb4 (Blk.lt HD3.out))
            have HW4 := Lib.hid (Blk.below HW3.out hb4 (Blk.lt HW3.out))
            have HP4 := Lib.hid (range_below HP3.out hb4 (Nat.lt_of_lt_of_le Hbl.out hn3.size))
            have hn4 := nu_trans hn3 hb4
            clear hb4 HR3 HD3 HW3 HP3 hn3
            have Hz := Lib.hid (show (stL cur).length = (Try.zeroCells26).size by rw [st_len Hc.out, zst_size])
            have Hz2 := Lib.hid (show (Try.prog.info? 26).map (·.size) = some (stL cur).length by rw [st_len Hc.out, size_st])
            have HZ := Lib.hid (Blk.made w4 26 Try.zeroCells26)
            have HF := Lib.hid (HZ.out.fill (stL cur) Hz.out)
            have hf := nu_fill (stL cur) (g := w4.heap.size) (Nat.le_refl _) 0 _ (nu_alloc (nu_refl w4) (.cells Try.zeroCells26 26))
            go_upto_region 13 with (refine wpList_store_blk rfl 26 (.tmp 10) (.tmp 51) rfl w4.heap.size (stL cur) rfl rfl 26 Try.zeroCells26 HZ.out Hz.out Hz2.out st_one ?_)
            generalize hp : w4.heap.size = p at *
            generalize (w4.alloc (.cells Try.zeroCells26 26)).setCells p 0 (stL cur) = u1 at *
            rw [← hp] at hf
            have HR5 := Lib.hid (show RegAt u1 g d cur from Blk.below HR4.out hf (Blk.lt HR4.out))
            have HD5 := Lib.hid (show DevAt u1 d st (.slice none 0 0) offD ar3 co3 (.slice none 0 0) (.slice none 0 0) from Blk.below HD4.out hf (Blk.lt HD4.out))
            have HW5 := Lib.hid (Blk.below HW4.out hf (Blk.lt HW4.out))
            have HP5 := Lib.hid (range_below HP4.out hf (Nat.lt_of_lt_of_le Hbl.out hn4.size))
            have hn5 := nu_trans hn4 hf
            have HLw := Lib.hid (fun (W : World) (hS : Below u1.heap.size u1 W) => loads_blk Hc.out (Blk.below HW5.out hS (Blk.lt HW5.out)))
            have HLn := Lib.hid (fun (W : World) (hS : Below u1.heap.size u1 W) => loads_blk Hc.out (Blk.below HF.out hS (Blk.lt HF.out)))
            have HLs := Lib.hid (fun (W : World) (hS : Below u1.heap.size u1 W) => loads_range Hs.out (range_below HP5.out hS (Nat.lt_of_lt_of_le Hbl.out hn5.size)))
            clear hf hn4 HR4 HD4 HW4 HP4 HZ Hz Hz2 hp
            refine wp_region_held_drew (S := fun w' => Below u1.heap.size u1 w') (by kernel_rfl) (nu_drew (nu_refl _)) (fun hHeld => ?_)
            dsimp only [Array.replicate, List.replicate, List.size_toArray, List.length_cons, List.length_nil, Nat.reduceAdd] at hHeld ⊢
            refine take_l (i := 0) (v := ?_) rfl (by kernel_rfl) (by kernel_rfl) (by kernel_rfl) (fun _ _ _ h => h) (Or.inl ⟨by rfl, ?_⟩) (by assumption) ?_
            case refine_2 => (intro _ _; go_simp; all_goals with_reducible rfl)
            simp only [Act.put, List.setIfInBounds_toArray, List.set_cons_zero, List.set_cons_succ]
            refine take_l (i := 1) (v := ?_) rfl (by kernel_rfl) (by kernel_rfl) (by kernel_rfl) (fun _ _ _ h => h) (Or.inl ⟨by rfl, ?_⟩) (by assumption) ?_
            case refine_2 => (intro _ _; go_simp; all_goals with_reducible rfl)
            simp only [Act.put, List.setIfInBounds_toArray, List.set_cons_zero, List.set_cons_succ]
            refine take_l (i := 2) (v := ?_) rfl (by kernel_rfl) (by kernel_rfl) (by kernel_rfl) (fun _ _ _ h => h) (Or.inl ⟨by rfl, ?_⟩) (by assumption) ?_
            case refine_2 => (intro _ _; go_simp; all_goals with_reducible rfl)
            simp only [Act.put, List.setIfInBounds_toArray, List.set_cons_zero, List.set_cons_succ]
            refine take_l (i := 3) rfl (by kernel_rfl) (by kernel_rfl) (by kernel_rfl) (fun _ _ _ h => h) (Or.inl ⟨by rfl, fun W hS => (HLn.out W hS) _ _ (.tmp 10) rfl rfl⟩) (by assumption) ?_
            simp only [Act.put, List.setIfInBounds_toArray, List.set_cons_zero, List.set_cons_succ]
            refine take_l (i := 4) rfl (by kernel_rfl) (by kernel_rfl) (by kernel_rfl) (fun _ _ _ h => h) (Or.inl ⟨by rfl, fun W hS => (HLw.out W hS) _ _ (.tmp 8) rfl rfl⟩) (by assumption) ?_
            simp only [Act.put, List.setIfInBounds_toArray, List.set_cons_zero, List.set_cons_succ]
            refine take_l (i := 5) rfl (by kernel_rfl) (by kernel_rfl) (by kernel_rfl) (fun _ _ _ h => h) (Or.inl ⟨by rfl, fun W _ => exec_neq_same _ Hc.out (.tmp 55) (.tmp 56) rfl rfl rfl⟩) (by assumption) ?_
            simp only [Act.put, List.setIfInBounds_toArray, List.set_cons_zero, List.set_cons_succ]
            refine take_l (i := 6) (v := ?_) rfl (by kernel_rfl) (by kernel_rfl) (by kernel_rfl) (fun _ _ _ h => h) (Or.inl ⟨by rfl, ?_⟩) (by assumption) ?_
            case refine_2 => (intro _ _; go_simp; all_goals with_reducible rfl)
            simp only [Act.put, List.setIfInBounds_toArray, List.set_cons_zero, List.set_cons_succ]
            refine take_l (i := 7) (v := ?_) rfl (by kernel_rfl) (by kernel_rfl) (by kernel_rfl) (fun _ _ _ h => h) (Or.inl ⟨by rfl, ?_⟩) (by assumption) ?_
            case refine_2 => (intro _ _; go_simp; all_goals with_reducible rfl)
            simp only [Act.put, List.setIfInBounds_toArray, List.set_cons_zero, List.set_cons_succ]
            refine take_l (i := 8) (v := ?_) rfl (by kernel_rfl) (by kernel_rfl) (by kernel_rfl) (fun _ _ _ h => h) (Or.inl ⟨by rfl, ?_⟩) (by assumption) ?_
            case refine_2 => (intro _ _; go_simp; all_goals with_reducible rfl)
            simp only [Act.put, List.setIfInBounds_toArray, List.set_cons_zero, List.set_cons_succ]
            refine take_l (i := 9) (v := ?_) rfl (by kernel_rfl) (by kernel_rfl) (by kernel_rfl) (fun _ _ _ h => h) (Or.inl ⟨by rfl, ?_⟩) (by assumption) ?_
            case refine_2 => (intro _ _; go_simp; all_goals with_reducible rfl)
            simp only [Act.put, List.setIfInBounds_toArray, List.set_cons_zero, List.set_cons_succ]
            refine take_l (i := 10) (v := ?_) rfl (by kernel_rfl) (by kernel_rfl) (by kernel_rfl) (fun _ _ _ h => h) (Or.inl ⟨by rfl, ?_⟩) (by assumption) ?_
            case refine_2 => (intro _ _; go_simp; all_goals with_reducible rfl)
            simp only [Act.put, List.setIfInBounds_toArray, List.set_cons_zero, List.set_cons_succ]
            refine take_l (i := 11) rfl (by kernel_rfl) (by kernel_rfl) (by kernel_rfl) (fun _ _ _ h => h) (Or.inr ⟨by rfl, rfl⟩) (by assumption) ?_
            simp only [Act.put, List.setIfInBounds_toArray, List.set_cons_zero, List.set_cons_succ]
            refine take_l (i := 12) rfl (by kernel_rfl) (by kernel_rfl) (by kernel_rfl) (fun _ _ _ h => h) (Or.inr ⟨by rfl, rfl⟩) (by assumption) ?_
            simp only [Act.put, List.setIfInBounds_toArray, List.set_cons_zero, List.set_cons_succ]
            refine take_l (i := 13) rfl (by kernel_rfl) (by kernel_rfl) (by kernel_rfl) (fun _ _ _ h => h) (Or.inr ⟨by rfl, rfl⟩) (by assumption) ?_
            simp only [Act.put, List.setIfInBounds_toArray, List.set_cons_zero, List.set_cons_succ]
            refine take_l (i := 14) rfl (by kernel_rfl) (by kernel_rfl) (by kernel_rfl) (fun _ _ _ h => h) (Or.inr ⟨by rfl, rfl⟩) (by assumption) ?_
            simp only [Act.put, List.setIfInBounds_toArray, List.set_cons_zero, List.set_cons_succ]
            refine take_l (i := 15) rfl (by kernel_rfl) (by kernel_rfl) (by kernel_rfl) (fun _ _ _ h => h) (Or.inr ⟨by rfl, rfl⟩) (by assumption) ?_
            simp only [Act.put, List.setIfInBounds_toArray, List.set_cons_zero, List.set_cons_succ]
            refine take_l (i := 16) rfl (by kernel_rfl) (by kernel_rfl) (by kernel_rfl) (fun _ _ _ h => h) (Or.inr ⟨by rfl, rfl⟩) (by assumption) ?_
            simp only [Act.put, List.setIfInBounds_toArray, List.set_cons_zero, List.set_cons_succ]
            refine take_l (i := 17) rfl (by kernel_rfl) (by kernel_rfl) (by kernel_rfl) (fun _ _ _ h => h) (Or.inr ⟨by rfl, rfl⟩) (by assumption) ?_
            simp only [Act.put, List.setIfInBounds_toArray, List.set_cons_zero, List.set_cons_succ]
            refine take_l (i := 18) (v := ?_) rfl (by kernel_rfl) (by kernel_rfl) (by kernel_rfl) (fun _ _ _ h => h) (Or.inl ⟨by rfl, ?_⟩) (by assumption) ?_
            case refine_2 => (intro _ _; go_simp; all_goals with_reducible rfl)
            simp only [Act.put, List.setIfInBounds_toArray, List.set_cons_zero, List.set_cons_succ]
            refine take_l (i := 19) (v := ?_) rfl (by kernel_rfl) (by kernel_rfl) (by kernel_rfl) (fun _ _ _ h => h) (Or.inl ⟨by rfl, ?_⟩) (by assumption) ?_
            case refine_2 => (intro _ _; go_simp; all_goals with_reducible rfl)
            simp only [Act.put, List.setIfInBounds_toArray, List.set_cons_zero, List.set_cons_succ]
            refine wpAnyH_done (by kernel_rfl) ?_ _
            generalize u1.drew = u2 at *
            have hn6 := nu_trans hn5 hHeld
            have HR6 := Lib.hid (show RegAt u2 g d cur from Blk.below HR5.out hHeld (Blk.lt HR5.out))
            have HD6 := Lib.hid (show DevAt u2 d st (.slice none 0 0) offD ar3 co3 (.slice none 0 0) (.slice none 0 0) from Blk.below HD5.out hHeld (Blk.lt HD5.out))
            have HW6 := Lib.hid (Blk.below HW5.out hHeld (Blk.lt HW5.out))
            have HF6 := Lib.hid (Blk.below HF.out hHeld (Blk.lt HF.out))
            obtain ⟨x0, x1, x2, x3, x4, x5, _⟩ := st_cells HW6.out
            obtain ⟨y0, y1, y2, y3, y4, y5, _⟩ := st_cells (s := cur) HF6.out
            clear HLw HLn HLs hHeld HW5 HF HP5 HR5 HD5 hn5
            by_cases hz : cur.p = 0
            · have hz1 : (cur.p != 0) = false := by simp [hz]
              skip
              go_wp2_with fail
              refine (on_any Har3.out HD6.out).mono ?_
              rintro e w7 ⟨rfl, ⟨ar7, ha7, hd7⟩, hg7⟩
              have HR7 := Lib.hid (show RegAt w7 g d cur from Blk.grown HR6.out hg7 (by intro e; exact Hgd.out (by injection e)))
              have HD7 := Lib.hid hd7
              have hn7 := nu_grown hn6 hg7 Hwd.out.2
              clear hd7 hg7 hn6 HR6 HD6
              go_wp2_with fail
              go_roundw
              case rel => exact ⟨k + 1, cur, ar7, co3, by omega, by omega, by go_num, ha7, Hc.out, HR7.out, HD7.out, hn7⟩
              case measure => simp [intOf]; omega
            · have hz1 : (cur.p != 0) = true := by simp [hz]
              have n1 : ¬ cur.bo < cur.bo := by omega
              have n2 : ¬ cur.ve < cur.ve := by omega
              have n3 : ¬ cur.ep < cur.ep := by omega
              go_wp2_with fail
              refine (on_any Har3.out HD6.out).mono ?_
              rintro e w7 ⟨rfl, ⟨ar7, ha7, hd7⟩, hg7⟩
              have HR7 := Lib.hid (show RegAt w7 g d cur from Blk.grown HR6.out hg7 (by intro e; exact Hgd.out (by injection e)))
              have HD7 := Lib.hid hd7
              have hn7 := nu_grown hn6 hg7 Hwd.out.2
              clear hd7 hg7 hn6 HR6 HD6
              go_wp2_with fail
              go_roundw
              case rel => exact ⟨k + 1, cur, ar7, co3, by omega, by omega, by go_num, ha7, Hc.out, HR7.out, HD7.out, hn7⟩
              case measure => simp [intOf]; omega
      · clear Hx
        go_wp2_with fail
        refine (regAwake_any _).mono ?_
        rintro e w9 ⟨rfl, hb9⟩
        go_wp2_with fail
        go_ret
        exact ⟨rfl, nu_trans hnr hb9⟩
    · obtain rfl : k = len := by omega
      clear Hx
      go_wp2_with fail
      refine (regAwake_any _).mono ?_
      rintro e w9 ⟨rfl, hb9⟩
      go_wp2_with fail
      go_ret
      exact ⟨rfl, nu_trans hnr hb9⟩
end Go.Proofs.Ythlofbkbaabamaa
