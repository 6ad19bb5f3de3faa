/-
  The walk of RegPlays.
-/
import Derived.Test.YthlofbkbaabamaaRegS
import Derived.Test.YthlofbkbaabamaaRegR
import Derived.Lib.MinMax
import Derived.Deep.CutBlock
import Derived.Deep.DeepCutAuto
import Derived.Deep.LoopGhost
namespace Go.Proofs.Ythlofbkbaabamaa
open Go.ChangeShapes Go.WideShapes Go.ChangeAt Go.RowKit

set_option maxRecDepth 100000 in
set_option maxHeartbeats 8000000 in
theorem regPlays_walk (a : Option Addr) (len cap : Nat) (hl : len ≤ cap) (hcm : cap ≤ maxLen) (w : World) (hx : ActsIn w a len) :
    Calls Try.prog 6 #[.slice a len cap] w fun e w' => e = .returned (.bool true) ∧ Below w.heap.size w w' := by
  have Hx := Lib.hid hx
  have hm : len ≤ 9223372036854775807 := by unfold maxLen at hcm; omega
  clear hx
  go_enter Try.func6, Try.ntmps6
  go_wp2_with fail
  refine (devNew_one w).mono ?_
  rintro e w1 ⟨d, st, rfl, hwd, hD1, hb1⟩
  have HD1 := Lib.hid hD1
  have hdl : d < w1.heap.size := Blk.lt hD1
  clear hD1
  go_wp2_with fail
  refine (regNew_any w1 d).mono ?_
  rintro e w2 ⟨rfl, hr2, hb2⟩
  have HR2 := Lib.hid hr2
  have HD2 := Lib.hid (show DevAt w2 d st (.slice none 0 0) false 0 0 (.slice none 0 0) (.slice none 0 0) from Blk.below HD1.out hb2 hdl)
  have hn2 := nu_trans hb1 hb2
  have Hwd := Lib.hid (show w.heap.size ≤ w1.heap.size ∧ w.heap.size ≤ d from ⟨hb1.size, hwd⟩)
  have Hgd := Lib.hid (show w1.heap.size ≠ d by omega)
  clear hr2 hb2 hb1 hwd hdl HD1
  go_wp2_with fail
  generalize w1.heap.size = g at *
  refine (regRead_any st0_ok HR2.out).mono ?_
  rintro e w3 ⟨rfl, hb3⟩
  go_wp2_with fail
  refine (blank_zero w3).mono ?_
  rintro e w4 ⟨rfl, hb4⟩
  have hb24 := nu_trans hb3 hb4
  have HR4 := Lib.hid (show RegAt w4 g d st0 from Blk.below HR2.out hb24 (Blk.lt HR2.out))
  have HD4 := Lib.hid (show DevAt w4 d st (.slice none 0 0) false 0 0 (.slice none 0 0) (.slice none 0 0) from Blk.below HD2.out hb24 (Blk.lt HD2.out))
  have hn4 := nu_trans hn2 hb24
  have Hz := Lib.hid (show (stL st0).length = (Try.zeroCells26).size by rw [st_len st0_ok, zst_size])
  have Hz2 := Lib.hid (show (Try.prog.info? 26).map (·.size) = some (stL st0).length by rw [st_len st0_ok, size_st])
  have HZ := Lib.hid (Blk.made w4 26 Try.zeroCells26)
  have HN5 := Lib.hid (show Blk ((w4.alloc (.cells Try.zeroCells26 26)).setCells w4.heap.size 0 (stL st0)) w4.heap.size 26 (stA st0) from HZ.out.fill (stL st0) Hz.out)
  have hf := nu_fill (stL st0) (g := w4.heap.size) (Nat.le_refl _) 0 _ (nu_alloc (nu_refl w4) (.cells Try.zeroCells26 26))
  clear hb3 hb4 hb24 HR2 HD2 hn2
  go_upto_region 6 with (first | (refine wpList_run _ rfl (exec_zero_st rfl) ?_) | (refine wpList_store_blk rfl 26 (.tmp 7) (.tmp 30) rfl w4.heap.size (stL st0) rfl rfl 26 Try.zeroCells26 HZ.out Hz.out Hz2.out st_one ?_))
  have Hne := Lib.hid (show w4.heap.size ≠ g ∧ w4.heap.size ≠ d ∧ w.heap.size ≤ w4.heap.size from ⟨Nat.ne_of_gt (Blk.lt HR4.out), Nat.ne_of_gt (Blk.lt HD4.out), hn4.size⟩)
  generalize (w4.alloc (.cells Try.zeroCells26 26)).setCells w4.heap.size 0 (stL st0) = w5 at *
  have HR5 := Lib.hid (show RegAt w5 g d st0 from Blk.below HR4.out hf (Blk.lt HR4.out))
  have HD5 := Lib.hid (show DevAt w5 d st (.slice none 0 0) false 0 0 (.slice none 0 0) (.slice none 0 0) from Blk.below HD4.out hf (Blk.lt HD4.out))
  have hn5 := nu_trans hn4 hf
  clear HR4 HD4 hn4 hf Hz Hz2 HZ
  generalize w4.heap.size = nb at *
  go_wp2_with fail
  go_loopg [8, 9, 10] 300 (fun gh a8 a9 i wr => ∃ (k : Nat), gh = 300 - k ∧ ∃ (cur : St) (ar co : Int) (off : Bool), k ≤ len ∧ k ≤ 300 ∧ i = .int .i64 k ∧ a8 = .int .i64 ar ∧ a9 = .bool off ∧ 0 ≤ ar ∧ ar ≤ 9223372036854775807 ∧ (off = true → ar = 0) ∧ StOk cur ∧ RegAt wr g d cur ∧ DevAt wr d st (.slice none 0 0) off ar co (.slice none 0 0) (.slice none 0 0) ∧ Blk wr nb 26 (stA cur) ∧ Below w.heap.size w wr)
  case atStart => exact ⟨0, rfl, st0, 0, 0, false, by omega, by omega, rfl, rfl, rfl, by omega, by omega, fun _ => rfl, st0_ok, HR5.out, HD5.out, HN5.out, hn5⟩
  case round =>
    clear HR5 HD5 HN5 hn5
    obtain ⟨k, rfl, cur, ar, co, off, hk, hk3, rfl, rfl, rfl, h0, h1, hoff, hc, hr, hd, hnb, hnr⟩ := hrel
    have HR := Lib.hid hr
    have HD := Lib.hid hd
    have HN := Lib.hid hnb
    have Hc := Lib.hid hc
    have H0 := Lib.hid (And.intro h0 h1)
    have Hoff := Lib.hid hoff
    clear hr hd hc h0 h1 hoff hnb
    by_cases hlt : k < len
    · by_cases h3 : k < 300
      · have hi : (k : Int) < (len : Int) := by omega
        have hi3 : (k : Int) < 300 := by omega
        obtain ⟨b, of, rfl, hbl, hcs⟩ := Hx.out (by omega)
        obtain ⟨kd, n, s, hs, hkw, hnw, hcells⟩ := hcs k hlt
        have Hs := Lib.hid hs
        have Hnw := Lib.hid hnw
        have HA := Lib.hid (loads_act hs (show wr.rangeAt b (of + k * 74) (actL kd n s) from range_below hcells hnr hbl))
        have Hz := Lib.hid (show (actL kd n s).length = (Try.zeroCells42).size by rw [act_len hs, zact_size])
        have Hz2 := Lib.hid (show (Try.prog.info? 42).map (·.size) = some (actL kd n s).length by rw [act_len hs, size_act])
        have HZ := Lib.hid (Blk.made wr 42 Try.zeroCells42)
        have HQ0 := Lib.hid (show Blk ((wr.alloc (.cells Try.zeroCells42 42)).setCells wr.heap.size 0 (actL kd n s)) wr.heap.size 42 (actA kd n s) from HZ.out.fill (actL kd n s) Hz.out)
        have hf := nu_fill (actL kd n s) (g := wr.heap.size) (Nat.le_refl _) 0 _ (nu_alloc (nu_refl wr) (.cells Try.zeroCells42 42))
        have HAl := Lib.hid (fun W : World => @range_below wr W b (of + k * 74) wr.heap.size (actL kd n s))
        clear hcs hbl hs hcells hnw hkw HAl
        go_upto_region 12 with (first | (refine wpList_run _ rfl (HA.out _ _ (.tmp 43) rfl rfl) ?_) | (refine wpList_store_blk rfl 42 (.tmp 11) (.tmp 44) rfl wr.heap.size (actL kd n s) rfl rfl 42 Try.zeroCells42 HZ.out Hz.out Hz2.out act_one ?_))
        have Hqe := Lib.hid (show wr.heap.size ≠ g ∧ wr.heap.size ≠ d ∧ wr.heap.size ≠ nb from ⟨Nat.ne_of_gt (Blk.lt HR.out), Nat.ne_of_gt (Blk.lt HD.out), Nat.ne_of_gt (Blk.lt HN.out)⟩)
        generalize (wr.alloc (.cells Try.zeroCells42 42)).setCells wr.heap.size 0 (actL kd n s) = u0 at *
        have HR0 := Lib.hid (show RegAt u0 g d cur from Blk.below HR.out hf (Blk.lt HR.out))
        have HD0 := Lib.hid (show DevAt u0 d st (.slice none 0 0) off ar co (.slice none 0 0) (.slice none 0 0) from Blk.below HD.out hf (Blk.lt HD.out))
        have HN0 := Lib.hid (show Blk u0 nb 26 (stA cur) from Blk.below HN.out hf (Blk.lt HN.out))
        have hn0 := nu_trans hnr hf
        clear HR HD HN hnr hf HA HZ Hz Hz2
        generalize wr.heap.size = q at *
        obtain ⟨c0, c1⟩ := act_cells HQ0.out
        have HLn0 := Lib.hid (loads_blk Hc.out HN0.out)
        have HLs0 := Lib.hid (loads_in_act Hs.out HQ0.out)
        go_upto_block 2 with fail
        go_cut [8, 9] (fun a8 a9 wx => ∃ (cur1 : St) (ar1 co1 : Int) (off1 : Bool), a8 = .int .i64 ar1 ∧ a9 = .bool off1 ∧ 0 ≤ ar1 ∧ ar1 ≤ 9223372036854775807 ∧ (off1 = true → ar1 = 0) ∧ StOk cur1 ∧ RegAt wx g d cur1 ∧ DevAt wx d st (.slice none 0 0) off1 ar1 co1 (.slice none 0 0) (.slice none 0 0) ∧ Blk wx nb 26 (stA cur1) ∧ Below w.heap.size w wx)
        case first =>
          cases off
          · go_wp2_with (first | (refine wpList_run _ rfl (HLn0.out _ _ (.tmp 7) rfl rfl) ?_) | (refine wpList_run _ rfl (HLs0.out _ _ (.tmp 62) rfl rfl) ?_))
            · clear HLn0 HLs0 c0 c1
              refine (refFollows_any cur s Hc.out Hs.out _).mono ?_
              rintro e w3 ⟨rfl, hb3⟩
              have HR3 := Lib.hid (show RegAt w3 g d cur from Blk.below HR0.out hb3 (Blk.lt HR0.out))
              have HD3 := Lib.hid (show DevAt w3 d st (.slice none 0 0) false ar co (.slice none 0 0) (.slice none 0 0) from Blk.below HD0.out hb3 (Blk.lt HD0.out))
              have HN3 := Lib.hid (Blk.below HN0.out hb3 (Blk.lt HN0.out))
              have HQ3 := Lib.hid (Blk.below HQ0.out hb3 (Blk.lt HQ0.out))
              have hn3 := nu_trans hn0 hb3
              clear HR0 HD0 HN0 HQ0 hn0
              obtain ⟨f, hf⟩ : ∃ f, followsB cur s = f := ⟨_, rfl⟩
              rw [hf]
              have Hf := Lib.hid hf
              clear hf hb3
              have HLs3 := Lib.hid (loads_in_act Hs.out HQ3.out)
              cases f
              · go_wp2_with (refine wpList_run _ rfl (HLs3.out _ _ (.tmp 70) rfl rfl) ?_)
                clear HLs3
                refine (write_form Hgd.out Hc.out Hs.out H0.out.1 H0.out.2 Hf.out HR3.out HD3.out).mono ?_
                rintro e wz ⟨rfl, hb4⟩
                have HR9 := Lib.hid (show RegAt wz g d cur from Blk.below HR3.out hb4 (Blk.lt HR3.out))
                have HD9 := Lib.hid (show DevAt wz d st (.slice none 0 0) false ar co (.slice none 0 0) (.slice none 0 0) from Blk.below HD3.out hb4 (Blk.lt HD3.out))
                have HN9 := Lib.hid (Blk.below HN3.out hb4 (Blk.lt HN3.out))
                have HQ9 := Lib.hid (Blk.below HQ3.out hb4 (Blk.lt HQ3.out))
                have hn9 := nu_trans hn3 hb4
                clear HR3 HD3 HN3 HQ3 hn3
                clear hb4
                have h0 := H0.out
                go_wp2_with fail
                go_meet
                exact ⟨cur, ar, co, false, (by first | rfl | simp), rfl, by omega, by omega, (by first | exact fun _ => rfl | (intro e; cases e)), Hc.out, HR9.out, HD9.out, HN9.out, hn9⟩
              · by_cases har : ar = 1
                · obtain rfl := har
                  go_wp2_with (refine wpList_run _ rfl (HLs3.out _ _ (.tmp 70) rfl rfl) ?_)
                  clear HLs3
                  refine (write_armed Hgd.out Hc.out Hs.out Hf.out HR3.out HD3.out).mono ?_
                  rintro e wz ⟨rfl, hr4, ⟨co4, hd4⟩, ht4⟩
                  have HR9 := Lib.hid hr4
                  have HD9 := Lib.hid hd4
                  have HN9 := Lib.hid (ht4.blk HN3.out Hne.out.1 Hne.out.2.1)
                  have HQ9 := Lib.hid (ht4.blk HQ3.out Hqe.out.1 Hqe.out.2.1)
                  have hn9 := hn3.trans (ht4.below hn3.size Hwd.out.1 Hwd.out.2)
                  clear HR3 HD3 HN3 HQ3 hn3
                  clear hr4 hd4 ht4
                  go_wp2_with fail
                  go_meet
                  exact ⟨cur, 0, co4, true, (by first | rfl | simp), rfl, by omega, by omega, (by first | exact fun _ => rfl | (intro e; cases e)), Hc.out, HR9.out, HD9.out, HN9.out, hn9⟩
                · have har1 : (ar == 1) = false := by simp [har]
                  have h0 := H0.out
                  have Hl := Lib.hid (show (stL s).length = (stA cur).size by rw [st_len Hs.out, st_size Hc.out])
                  have Hl2 := Lib.hid (show (Try.prog.info? 26).map (·.size) = some (stL s).length by rw [st_len Hs.out, size_st])
                  have HN4 := Lib.hid (show Blk (w3.setCells nb 0 (stL s)) nb 26 (stA s) from HN3.out.fill (stL s) Hl.out)
                  have HQ4 := Lib.hid (HQ3.out.farCells (stL s) Hqe.out.2.2 0)
                  have HR4 := Lib.hid (show RegAt (w3.setCells nb 0 (stL s)) g d cur from Blk.farCells HR3.out (stL s) (Ne.symm Hne.out.1) 0)
                  have HD4 := Lib.hid (show DevAt (w3.setCells nb 0 (stL s)) d st (.slice none 0 0) false ar co (.slice none 0 0) (.slice none 0 0) from Blk.farCells HD3.out (stL s) (Ne.symm Hne.out.2.1) 0)
                  have hn4 := nu_fill (stL s) (g := nb) Hne.out.2.2 0 _ hn3
                  have HLs4 := Lib.hid (loads_in_act Hs.out HQ4.out)
                  go_wp2_with (first | (refine wpList_run _ rfl (HLs3.out _ _ (.tmp 53) rfl rfl) ?_) | (refine wpList_run _ rfl (HLs4.out _ _ (.tmp 70) rfl rfl) ?_) | (refine wpList_store_blk rfl 26 (.tmp 7) (.tmp 54) rfl nb (stL s) rfl rfl 26 (stA cur) HN3.out Hl.out Hl2.out st_one ?_))
                  clear HLs3 HLs4 Hl Hl2 HR3 HD3 HN3 HQ3 hn3
                  generalize w3.setCells nb 0 (stL s) = w4 at *
                  refine (write_goes Hgd.out Hc.out Hs.out H0.out.1 H0.out.2 har Hf.out HR4.out HD4.out).mono ?_
                  rintro e wz ⟨rfl, hr4, ⟨co4, hd4⟩, ht4⟩
                  have HR9 := Lib.hid hr4
                  have HD9 := Lib.hid hd4
                  have HN9 := Lib.hid (ht4.blk HN4.out Hne.out.1 Hne.out.2.1)
                  have HQ9 := Lib.hid (ht4.blk HQ4.out Hqe.out.1 Hqe.out.2.1)
                  have hn9 := hn4.trans (ht4.below hn4.size Hwd.out.1 Hwd.out.2)
                  clear HR4 HD4 HN4 HQ4 hn4
                  clear hr4 hd4 ht4
                  go_wp2_with fail
                  go_meet
                  exact ⟨s, (max (ar - 1) 0), co4, false, (by first | rfl | simp), rfl, by omega, by omega, (by first | exact fun _ => rfl | (intro e; cases e)), Hs.out, HR9.out, HD9.out, HN9.out, hn9⟩
            · clear HLn0 HLs0 c0 c1
              refine (refFollows_any cur s Hc.out Hs.out _).mono ?_
              rintro e w3 ⟨rfl, hb3⟩
              have HR3 := Lib.hid (show RegAt w3 g d cur from Blk.below HR0.out hb3 (Blk.lt HR0.out))
              have HD3 := Lib.hid (show DevAt w3 d st (.slice none 0 0) false ar co (.slice none 0 0) (.slice none 0 0) from Blk.below HD0.out hb3 (Blk.lt HD0.out))
              have HN3 := Lib.hid (Blk.below HN0.out hb3 (Blk.lt HN0.out))
              have HQ3 := Lib.hid (Blk.below HQ0.out hb3 (Blk.lt HQ0.out))
              have hn3 := nu_trans hn0 hb3
              clear HR0 HD0 HN0 HQ0 hn0
              obtain ⟨f, hf⟩ : ∃ f, followsB cur s = f := ⟨_, rfl⟩
              rw [hf]
              have Hf := Lib.hid hf
              clear hf hb3
              have HLs3 := Lib.hid (loads_in_act Hs.out HQ3.out)
              cases f
              · go_wp2_with (refine wpList_run _ rfl (HLs3.out _ _ (.tmp 70) rfl rfl) ?_)
                clear HLs3
                refine (write_form Hgd.out Hc.out Hs.out H0.out.1 H0.out.2 Hf.out HR3.out HD3.out).mono ?_
                rintro e wz ⟨rfl, hb4⟩
                have HR9 := Lib.hid (show RegAt wz g d cur from Blk.below HR3.out hb4 (Blk.lt HR3.out))
                have HD9 := Lib.hid (show DevAt wz d st (.slice none 0 0) false ar co (.slice none 0 0) (.slice none 0 0) from Blk.below HD3.out hb4 (Blk.lt HD3.out))
                have HN9 := Lib.hid (Blk.below HN3.out hb4 (Blk.lt HN3.out))
                have HQ9 := Lib.hid (Blk.below HQ3.out hb4 (Blk.lt HQ3.out))
                have hn9 := nu_trans hn3 hb4
                clear HR3 HD3 HN3 HQ3 hn3
                clear hb4
                have h0 := H0.out
                go_wp2_with fail
                go_meet
                exact ⟨cur, ar, co, false, (by first | rfl | simp), rfl, by omega, by omega, (by first | exact fun _ => rfl | (intro e; cases e)), Hc.out, HR9.out, HD9.out, HN9.out, hn9⟩
              · by_cases har : ar = 1
                · obtain rfl := har
                  go_wp2_with (refine wpList_run _ rfl (HLs3.out _ _ (.tmp 70) rfl rfl) ?_)
                  clear HLs3
                  refine (write_armed Hgd.out Hc.out Hs.out Hf.out HR3.out HD3.out).mono ?_
                  rintro e wz ⟨rfl, hr4, ⟨co4, hd4⟩, ht4⟩
                  have HR9 := Lib.hid hr4
                  have HD9 := Lib.hid hd4
                  have HN9 := Lib.hid (ht4.blk HN3.out Hne.out.1 Hne.out.2.1)
                  have HQ9 := Lib.hid (ht4.blk HQ3.out Hqe.out.1 Hqe.out.2.1)
                  have hn9 := hn3.trans (ht4.below hn3.size Hwd.out.1 Hwd.out.2)
                  clear HR3 HD3 HN3 HQ3 hn3
                  clear hr4 hd4 ht4
                  go_wp2_with fail
                  go_meet
                  exact ⟨cur, 0, co4, true, (by first | rfl | simp), rfl, by omega, by omega, (by first | exact fun _ => rfl | (intro e; cases e)), Hc.out, HR9.out, HD9.out, HN9.out, hn9⟩
                · have har1 : (ar == 1) = false := by simp [har]
                  have h0 := H0.out
                  have Hl := Lib.hid (show (stL s).length = (stA cur).size by rw [st_len Hs.out, st_size Hc.out])
                  have Hl2 := Lib.hid (show (Try.prog.info? 26).map (·.size) = some (stL s).length by rw [st_len Hs.out, size_st])
                  have HN4 := Lib.hid (show Blk (w3.setCells nb 0 (stL s)) nb 26 (stA s) from HN3.out.fill (stL s) Hl.out)
                  have HQ4 := Lib.hid (HQ3.out.farCells (stL s) Hqe.out.2.2 0)
                  have HR4 := Lib.hid (show RegAt (w3.setCells nb 0 (stL s)) g d cur from Blk.farCells HR3.out (stL s) (Ne.symm Hne.out.1) 0)
                  have HD4 := Lib.hid (show DevAt (w3.setCells nb 0 (stL s)) d st (.slice none 0 0) false ar co (.slice none 0 0) (.slice none 0 0) from Blk.farCells HD3.out (stL s) (Ne.symm Hne.out.2.1) 0)
                  have hn4 := nu_fill (stL s) (g := nb) Hne.out.2.2 0 _ hn3
                  have HLs4 := Lib.hid (loads_in_act Hs.out HQ4.out)
                  go_wp2_with (first | (refine wpList_run _ rfl (HLs3.out _ _ (.tmp 53) rfl rfl) ?_) | (refine wpList_run _ rfl (HLs4.out _ _ (.tmp 70) rfl rfl) ?_) | (refine wpList_store_blk rfl 26 (.tmp 7) (.tmp 54) rfl nb (stL s) rfl rfl 26 (stA cur) HN3.out Hl.out Hl2.out st_one ?_))
                  clear HLs3 HLs4 Hl Hl2 HR3 HD3 HN3 HQ3 hn3
                  generalize w3.setCells nb 0 (stL s) = w4 at *
                  refine (write_goes Hgd.out Hc.out Hs.out H0.out.1 H0.out.2 har Hf.out HR4.out HD4.out).mono ?_
                  rintro e wz ⟨rfl, hr4, ⟨co4, hd4⟩, ht4⟩
                  have HR9 := Lib.hid hr4
                  have HD9 := Lib.hid hd4
                  have HN9 := Lib.hid (ht4.blk HN4.out Hne.out.1 Hne.out.2.1)
                  have HQ9 := Lib.hid (ht4.blk HQ4.out Hqe.out.1 Hqe.out.2.1)
                  have hn9 := hn4.trans (ht4.below hn4.size Hwd.out.1 Hwd.out.2)
                  clear HR4 HD4 HN4 HQ4 hn4
                  clear hr4 hd4 ht4
                  go_wp2_with fail
                  go_meet
                  exact ⟨s, (max (ar - 1) 0), co4, false, (by first | rfl | simp), rfl, by omega, by omega, (by first | exact fun _ => rfl | (intro e; cases e)), Hs.out, HR9.out, HD9.out, HN9.out, hn9⟩
            · clear HLn0 HLs0 c0 c1
              refine (refFollows_any cur s Hc.out Hs.out _).mono ?_
              rintro e w3 ⟨rfl, hb3⟩
              have HR3 := Lib.hid (show RegAt w3 g d cur from Blk.below HR0.out hb3 (Blk.lt HR0.out))
              have HD3 := Lib.hid (show DevAt w3 d st (.slice none 0 0) false ar co (.slice none 0 0) (.slice none 0 0) from Blk.below HD0.out hb3 (Blk.lt HD0.out))
              have HN3 := Lib.hid (Blk.below HN0.out hb3 (Blk.lt HN0.out))
              have HQ3 := Lib.hid (Blk.below HQ0.out hb3 (Blk.lt HQ0.out))
              have hn3 := nu_trans hn0 hb3
              clear HR0 HD0 HN0 HQ0 hn0
              obtain ⟨f, hf⟩ : ∃ f, followsB cur s = f := ⟨_, rfl⟩
              rw [hf]
              have Hf := Lib.hid hf
              clear hf hb3
              have HLs3 := Lib.hid (loads_in_act Hs.out HQ3.out)
              cases f
              · go_wp2_with (refine wpList_run _ rfl (HLs3.out _ _ (.tmp 70) rfl rfl) ?_)
                clear HLs3
                refine (write_form Hgd.out Hc.out Hs.out H0.out.1 H0.out.2 Hf.out HR3.out HD3.out).mono ?_
                rintro e wz ⟨rfl, hb4⟩
                have HR9 := Lib.hid (show RegAt wz g d cur from Blk.below HR3.out hb4 (Blk.lt HR3.out))
                have HD9 := Lib.hid (show DevAt wz d st (.slice none 0 0) false ar co (.slice none 0 0) (.slice none 0 0) from Blk.below HD3.out hb4 (Blk.lt HD3.out))
                have HN9 := Lib.hid (Blk.below HN3.out hb4 (Blk.lt HN3.out))
                have HQ9 := Lib.hid (Blk.below HQ3.out hb4 (Blk.lt HQ3.out))
                have hn9 := nu_trans hn3 hb4
                clear HR3 HD3 HN3 HQ3 hn3
                clear hb4
                have h0 := H0.out
                go_wp2_with fail
                go_meet
                exact ⟨cur, ar, co, false, (by first | rfl | simp), rfl, by omega, by omega, (by first | exact fun _ => rfl | (intro e; cases e)), Hc.out, HR9.out, HD9.out, HN9.out, hn9⟩
              · by_cases har : ar = 1
                · obtain rfl := har
                  go_wp2_with (refine wpList_run _ rfl (HLs3.out _ _ (.tmp 70) rfl rfl) ?_)
                  clear HLs3
                  refine (write_armed Hgd.out Hc.out Hs.out Hf.out HR3.out HD3.out).mono ?_
                  rintro e wz ⟨rfl, hr4, ⟨co4, hd4⟩, ht4⟩
                  have HR9 := Lib.hid hr4
                  have HD9 := Lib.hid hd4
                  have HN9 := Lib.hid (ht4.blk HN3.out Hne.out.1 Hne.out.2.1)
                  have HQ9 := Lib.hid (ht4.blk HQ3.out Hqe.out.1 Hqe.out.2.1)
                  have hn9 := hn3.trans (ht4.below hn3.size Hwd.out.1 Hwd.out.2)
                  clear HR3 HD3 HN3 HQ3 hn3
                  clear hr4 hd4 ht4
                  go_wp2_with fail
                  go_meet
                  exact ⟨cur, 0, co4, true, (by first | rfl | simp), rfl, by omega, by omega, (by first | exact fun _ => rfl | (intro e; cases e)), Hc.out, HR9.out, HD9.out, HN9.out, hn9⟩
                · have har1 : (ar == 1) = false := by simp [har]
                  have h0 := H0.out
                  have Hl := Lib.hid (show (stL s).length = (stA cur).size by rw [st_len Hs.out, st_size Hc.out])
                  have Hl2 := Lib.hid (show (Try.prog.info? 26).map (·.size) = some (stL s).length by rw [st_len Hs.out, size_st])
                  have HN4 := Lib.hid (show Blk (w3.setCells nb 0 (stL s)) nb 26 (stA s) from HN3.out.fill (stL s) Hl.out)
                  have HQ4 := Lib.hid (HQ3.out.farCells (stL s) Hqe.out.2.2 0)
                  have HR4 := Lib.hid (show RegAt (w3.setCells nb 0 (stL s)) g d cur from Blk.farCells HR3.out (stL s) (Ne.symm Hne.out.1) 0)
                  have HD4 := Lib.hid (show DevAt (w3.setCells nb 0 (stL s)) d st (.slice none 0 0) false ar co (.slice none 0 0) (.slice none 0 0) from Blk.farCells HD3.out (stL s) (Ne.symm Hne.out.2.1) 0)
                  have hn4 := nu_fill (stL s) (g := nb) Hne.out.2.2 0 _ hn3
                  have HLs4 := Lib.hid (loads_in_act Hs.out HQ4.out)
                  go_wp2_with (first | (refine wpList_run _ rfl (HLs3.out _ _ (.tmp 53) rfl rfl) ?_) | (refine wpList_run _ rfl (HLs4.out _ _ (.tmp 70) rfl rfl) ?_) | (refine wpList_store_blk rfl 26 (.tmp 7) (.tmp 54) rfl nb (stL s) rfl rfl 26 (stA cur) HN3.out Hl.out Hl2.out st_one ?_))
                  clear HLs3 HLs4 Hl Hl2 HR3 HD3 HN3 HQ3 hn3
                  generalize w3.setCells nb 0 (stL s) = w4 at *
                  refine (write_goes Hgd.out Hc.out Hs.out H0.out.1 H0.out.2 har Hf.out HR4.out HD4.out).mono ?_
                  rintro e wz ⟨rfl, hr4, ⟨co4, hd4⟩, ht4⟩
                  have HR9 := Lib.hid hr4
                  have HD9 := Lib.hid hd4
                  have HN9 := Lib.hid (ht4.blk HN4.out Hne.out.1 Hne.out.2.1)
                  have HQ9 := Lib.hid (ht4.blk HQ4.out Hqe.out.1 Hqe.out.2.1)
                  have hn9 := hn4.trans (ht4.below hn4.size Hwd.out.1 Hwd.out.2)
                  clear HR4 HD4 HN4 HQ4 hn4
                  clear hr4 hd4 ht4
                  go_wp2_with fail
                  go_meet
                  exact ⟨s, (max (ar - 1) 0), co4, false, (by first | rfl | simp), rfl, by omega, by omega, (by first | exact fun _ => rfl | (intro e; cases e)), Hs.out, HR9.out, HD9.out, HN9.out, hn9⟩
            · clear HLn0 HLs0 c0 c1
              refine (refFollows_any cur s Hc.out Hs.out _).mono ?_
              rintro e w3 ⟨rfl, hb3⟩
              have HR3 := Lib.hid (show RegAt w3 g d cur from Blk.below HR0.out hb3 (Blk.lt HR0.out))
              have HD3 := Lib.hid (show DevAt w3 d st (.slice none 0 0) false ar co (.slice none 0 0) (.slice none 0 0) from Blk.below HD0.out hb3 (Blk.lt HD0.out))
              have HN3 := Lib.hid (Blk.below HN0.out hb3 (Blk.lt HN0.out))
              have HQ3 := Lib.hid (Blk.below HQ0.out hb3 (Blk.lt HQ0.out))
              have hn3 := nu_trans hn0 hb3
              clear HR0 HD0 HN0 HQ0 hn0
              obtain ⟨f, hf⟩ : ∃ f, followsB cur s = f := ⟨_, rfl⟩
              rw [hf]
              have Hf := Lib.hid hf
              clear hf hb3
              have HLs3 := Lib.hid (loads_in_act Hs.out HQ3.out)
              cases f
              · go_wp2_with (refine wpList_run _ rfl (HLs3.out _ _ (.tmp 70) rfl rfl) ?_)
                clear HLs3
                refine (write_form Hgd.out Hc.out Hs.out H0.out.1 H0.out.2 Hf.out HR3.out HD3.out).mono ?_
                rintro e wz ⟨rfl, hb4⟩
                have HR9 := Lib.hid (show RegAt wz g d cur from Blk.below HR3.out hb4 (Blk.lt HR3.out))
                have HD9 := Lib.hid (show DevAt wz d st (.slice none 0 0) false ar co (.slice none 0 0) (.slice none 0 0) from Blk.below HD3.out hb4 (Blk.lt HD3.out))
                have HN9 := Lib.hid (Blk.below HN3.out hb4 (Blk.lt HN3.out))
                have HQ9 := Lib.hid (Blk.below HQ3.out hb4 (Blk.lt HQ3.out))
                have hn9 := nu_trans hn3 hb4
                clear HR3 HD3 HN3 HQ3 hn3
                clear hb4
                have h0 := H0.out
                go_wp2_with fail
                go_meet
                exact ⟨cur, ar, co, false, (by first | rfl | simp), rfl, by omega, by omega, (by first | exact fun _ => rfl | (intro e; cases e)), Hc.out, HR9.out, HD9.out, HN9.out, hn9⟩
              · by_cases har : ar = 1
                · obtain rfl := har
                  go_wp2_with (refine wpList_run _ rfl (HLs3.out _ _ (.tmp 70) rfl rfl) ?_)
                  clear HLs3
                  refine (write_armed Hgd.out Hc.out Hs.out Hf.out HR3.out HD3.out).mono ?_
                  rintro e wz ⟨rfl, hr4, ⟨co4, hd4⟩, ht4⟩
                  have HR9 := Lib.hid hr4
                  have HD9 := Lib.hid hd4
                  have HN9 := Lib.hid (ht4.blk HN3.out Hne.out.1 Hne.out.2.1)
                  have HQ9 := Lib.hid (ht4.blk HQ3.out Hqe.out.1 Hqe.out.2.1)
                  have hn9 := hn3.trans (ht4.below hn3.size Hwd.out.1 Hwd.out.2)
                  clear HR3 HD3 HN3 HQ3 hn3
                  clear hr4 hd4 ht4
                  go_wp2_with fail
                  go_meet
                  exact ⟨cur, 0, co4, true, (by first | rfl | simp), rfl, by omega, by omega, (by first | exact fun _ => rfl | (intro e; cases e)), Hc.out, HR9.out, HD9.out, HN9.out, hn9⟩
                · have har1 : (ar == 1) = false := by simp [har]
                  have h0 := H0.out
                  have Hl := Lib.hid (show (stL s).length = (stA cur).size by rw [st_len Hs.out, st_size Hc.out])
                  have Hl2 := Lib.hid (show (Try.prog.info? 26).map (·.size) = some (stL s).length by rw [st_len Hs.out, size_st])
                  have HN4 := Lib.hid (show Blk (w3.setCells nb 0 (stL s)) nb 26 (stA s) from HN3.out.fill (stL s) Hl.out)
                  have HQ4 := Lib.hid (HQ3.out.farCells (stL s) Hqe.out.2.2 0)
                  have HR4 := Lib.hid (show RegAt (w3.setCells nb 0 (stL s)) g d cur from Blk.farCells HR3.out (stL s) (Ne.symm Hne.out.1) 0)
                  have HD4 := Lib.hid (show DevAt (w3.setCells nb 0 (stL s)) d st (.slice none 0 0) false ar co (.slice none 0 0) (.slice none 0 0) from Blk.farCells HD3.out (stL s) (Ne.symm Hne.out.2.1) 0)
                  have hn4 := nu_fill (stL s) (g := nb) Hne.out.2.2 0 _ hn3
                  have HLs4 := Lib.hid (loads_in_act Hs.out HQ4.out)
                  go_wp2_with (first | (refine wpList_run _ rfl (HLs3.out _ _ (.tmp 53) rfl rfl) ?_) | (refine wpList_run _ rfl (HLs4.out _ _ (.tmp 70) rfl rfl) ?_) | (refine wpList_store_blk rfl 26 (.tmp 7) (.tmp 54) rfl nb (stL s) rfl rfl 26 (stA cur) HN3.out Hl.out Hl2.out st_one ?_))
                  clear HLs3 HLs4 Hl Hl2 HR3 HD3 HN3 HQ3 hn3
                  generalize w3.setCells nb 0 (stL s) = w4 at *
                  refine (write_goes Hgd.out Hc.out Hs.out H0.out.1 H0.out.2 har Hf.out HR4.out HD4.out).mono ?_
                  rintro e wz ⟨rfl, hr4, ⟨co4, hd4⟩, ht4⟩
                  have HR9 := Lib.hid hr4
                  have HD9 := Lib.hid hd4
                  have HN9 := Lib.hid (ht4.blk HN4.out Hne.out.1 Hne.out.2.1)
                  have HQ9 := Lib.hid (ht4.blk HQ4.out Hqe.out.1 Hqe.out.2.1)
                  have hn9 := hn4.trans (ht4.below hn4.size Hwd.out.1 Hwd.out.2)
                  clear HR4 HD4 HN4 HQ4 hn4
                  clear hr4 hd4 ht4
                  go_wp2_with fail
                  go_meet
                  exact ⟨s, (max (ar - 1) 0), co4, false, (by first | rfl | simp), rfl, by omega, by omega, (by first | exact fun _ => rfl | (intro e; cases e)), Hs.out, HR9.out, HD9.out, HN9.out, hn9⟩
            · refine (arm_on HD0.out).mono ?_
              rintro e wz ⟨rfl, hd4, hg4⟩
              have bn := bounds_i64 Hnw.out
              have HR9 := Lib.hid (show RegAt wz g d cur from Blk.grown HR0.out hg4 (by intro e; exact Hgd.out (by injection e)))
              have HD9 := Lib.hid hd4
              have HN9 := Lib.hid (Blk.grown HN0.out hg4 (by intro e; exact Hne.out.2.1 (by injection e)))
              have HQ9 := Lib.hid (Blk.grown HQ0.out hg4 (by intro e; exact Hqe.out.2.1 (by injection e)))
              have hn9 := nu_grown hn0 hg4 Hwd.out.2
              clear HR0 HD0 HN0 HQ0 hn0 hd4 hg4 HLn0 HLs0
              have c1 := (act_cells HQ9.out).2
              go_wp2_with fail
              go_meet
              exact ⟨cur, (max n 0), co, false, (by first | rfl | simp), rfl, by omega, by omega, (by first | exact fun _ => rfl | (intro e; cases e)), Hc.out, HR9.out, HD9.out, HN9.out, hn9⟩
            · refine (crash_any HD0.out).mono ?_
              rintro e wz ⟨rfl, hd4, hg4⟩
              have HR9 := Lib.hid (show RegAt wz g d cur from Blk.grown HR0.out hg4 (by intro e; exact Hgd.out (by injection e)))
              have HD9 := Lib.hid hd4
              have HN9 := Lib.hid (Blk.grown HN0.out hg4 (by intro e; exact Hne.out.2.1 (by injection e)))
              have HQ9 := Lib.hid (Blk.grown HQ0.out hg4 (by intro e; exact Hqe.out.2.1 (by injection e)))
              have hn9 := nu_grown hn0 hg4 Hwd.out.2
              clear HR0 HD0 HN0 HQ0 hn0 hd4 hg4 HLn0 HLs0
              go_wp2_with fail
              go_meet
              exact ⟨cur, 0, co, true, (by first | rfl | simp), rfl, by omega, by omega, (by first | exact fun _ => rfl | (intro e; cases e)), Hc.out, HR9.out, HD9.out, HN9.out, hn9⟩
            · refine (on_up HD0.out).mono ?_
              rintro e wz ⟨rfl, rfl⟩
              have HR9 := HR0
              have HD9 := HD0
              have HN9 := HN0
              have HQ9 := HQ0
              have hn9 := hn0
              clear HR0 HD0 HN0 HQ0 hn0 HLn0 HLs0
              have h0 := H0.out
              go_wp2_with fail
              go_meet
              exact ⟨cur, ar, co, false, (by first | rfl | simp), rfl, by omega, by omega, (by first | exact fun _ => rfl | (intro e; cases e)), Hc.out, HR9.out, HD9.out, HN9.out, hn9⟩
            · by_cases har : ar = 1
              · obtain rfl := har
                refine (spend_armed HD0.out).mono ?_
                rintro e wz ⟨rfl, ⟨co4, hd4⟩, hg4⟩
                have HR9 := Lib.hid (show RegAt wz g d cur from Blk.grown HR0.out hg4 (by intro e; exact Hgd.out (by injection e)))
                have HD9 := Lib.hid hd4
                have HN9 := Lib.hid (Blk.grown HN0.out hg4 (by intro e; exact Hne.out.2.1 (by injection e)))
                have HQ9 := Lib.hid (Blk.grown HQ0.out hg4 (by intro e; exact Hqe.out.2.1 (by injection e)))
                have hn9 := nu_grown hn0 hg4 Hwd.out.2
                clear HR0 HD0 HN0 HQ0 hn0 hd4 hg4 HLn0 HLs0
                go_wp2_with fail
                go_meet
                exact ⟨cur, 0, co4, true, (by first | rfl | simp), rfl, by omega, by omega, (by first | exact fun _ => rfl | (intro e; cases e)), Hc.out, HR9.out, HD9.out, HN9.out, hn9⟩
              · refine (spend_goes H0.out.1 H0.out.2 har HD0.out).mono ?_
                rintro e wz ⟨rfl, ⟨co4, hd4⟩, hg4⟩
                have har1 : (ar == 1) = false := by simp [har]
                have h0 := H0.out
                have HR9 := Lib.hid (show RegAt wz g d cur from Blk.grown HR0.out hg4 (by intro e; exact Hgd.out (by injection e)))
                have HD9 := Lib.hid hd4
                have HN9 := Lib.hid (Blk.grown HN0.out hg4 (by intro e; exact Hne.out.2.1 (by injection e)))
                have HQ9 := Lib.hid (Blk.grown HQ0.out hg4 (by intro e; exact Hqe.out.2.1 (by injection e)))
                have hn9 := nu_grown hn0 hg4 Hwd.out.2
                clear HR0 HD0 HN0 HQ0 hn0 hd4 hg4 HLn0 HLs0
                go_wp2_with fail
                go_meet
                exact ⟨cur, (max (ar - 1) 0), co4, false, (by first | rfl | simp), rfl, by omega, by omega, (by first | exact fun _ => rfl | (intro e; cases e)), Hc.out, HR9.out, HD9.out, HN9.out, hn9⟩
            · obtain ⟨wz, rfl⟩ : ∃ x : World, x = u0 := ⟨_, rfl⟩
              have HR9 := HR0
              have HD9 := HD0
              have HN9 := HN0
              have HQ9 := HQ0
              have hn9 := hn0
              clear HR0 HD0 HN0 HQ0 hn0 HLn0 HLs0
              have h0 := H0.out
              go_wp2_with fail
              go_meet
              exact ⟨cur, ar, co, false, (by first | rfl | simp), rfl, by omega, by omega, (by first | exact fun _ => rfl | (intro e; cases e)), Hc.out, HR9.out, HD9.out, HN9.out, hn9⟩
          · obtain rfl : ar = 0 := Hoff.out rfl
            go_wp2_with (refine wpList_run _ rfl (HLs0.out _ _ (.tmp 70) rfl rfl) ?_)
            · clear HLs0 HLn0 c0 c1
              refine (regWrite_down (s := s) HR0.out HD0.out).mono ?_
              rintro e wz ⟨rfl, hb4⟩
              have HR9 := Lib.hid (show RegAt wz g d cur from Blk.below HR0.out hb4 (Blk.lt HR0.out))
              have HD9 := Lib.hid (show DevAt wz d st (.slice none 0 0) true 0 co (.slice none 0 0) (.slice none 0 0) from Blk.below HD0.out hb4 (Blk.lt HD0.out))
              have HN9 := Lib.hid (Blk.below HN0.out hb4 (Blk.lt HN0.out))
              have HQ9 := Lib.hid (Blk.below HQ0.out hb4 (Blk.lt HQ0.out))
              have hn9 := nu_trans hn0 hb4
              clear HR0 HD0 HN0 HQ0 hn0
              clear hb4
              go_wp2_with fail
              go_meet
              exact ⟨cur, 0, co, true, (by first | rfl | simp), rfl, by omega, by omega, (by first | exact fun _ => rfl | (intro e; cases e)), Hc.out, HR9.out, HD9.out, HN9.out, hn9⟩
            · clear HLs0 HLn0 c0 c1
              refine (regWrite_down (s := s) HR0.out HD0.out).mono ?_
              rintro e wz ⟨rfl, hb4⟩
              have HR9 := Lib.hid (show RegAt wz g d cur from Blk.below HR0.out hb4 (Blk.lt HR0.out))
              have HD9 := Lib.hid (show DevAt wz d st (.slice none 0 0) true 0 co (.slice none 0 0) (.slice none 0 0) from Blk.below HD0.out hb4 (Blk.lt HD0.out))
              have HN9 := Lib.hid (Blk.below HN0.out hb4 (Blk.lt HN0.out))
              have HQ9 := Lib.hid (Blk.below HQ0.out hb4 (Blk.lt HQ0.out))
              have hn9 := nu_trans hn0 hb4
              clear HR0 HD0 HN0 HQ0 hn0
              clear hb4
              go_wp2_with fail
              go_meet
              exact ⟨cur, 0, co, true, (by first | rfl | simp), rfl, by omega, by omega, (by first | exact fun _ => rfl | (intro e; cases e)), Hc.out, HR9.out, HD9.out, HN9.out, hn9⟩
            · clear HLs0 HLn0 c0 c1
              refine (regWrite_down (s := s) HR0.out HD0.out).mono ?_
              rintro e wz ⟨rfl, hb4⟩
              have HR9 := Lib.hid (show RegAt wz g d cur from Blk.below HR0.out hb4 (Blk.lt HR0.out))
              have HD9 := Lib.hid (show DevAt wz d st (.slice none 0 0) true 0 co (.slice none 0 0) (.slice none 0 0) from Blk.below HD0.out hb4 (Blk.lt HD0.out))
              have HN9 := Lib.hid (Blk.below HN0.out hb4 (Blk.lt HN0.out))
              have HQ9 := Lib.hid (Blk.below HQ0.out hb4 (Blk.lt HQ0.out))
              have hn9 := nu_trans hn0 hb4
              clear HR0 HD0 HN0 HQ0 hn0
              clear hb4
              go_wp2_with fail
              go_meet
              exact ⟨cur, 0, co, true, (by first | rfl | simp), rfl, by omega, by omega, (by first | exact fun _ => rfl | (intro e; cases e)), Hc.out, HR9.out, HD9.out, HN9.out, hn9⟩
            · clear HLs0 HLn0 c0 c1
              refine (regWrite_down (s := s) HR0.out HD0.out).mono ?_
              rintro e wz ⟨rfl, hb4⟩
              have HR9 := Lib.hid (show RegAt wz g d cur from Blk.below HR0.out hb4 (Blk.lt HR0.out))
              have HD9 := Lib.hid (show DevAt wz d st (.slice none 0 0) true 0 co (.slice none 0 0) (.slice none 0 0) from Blk.below HD0.out hb4 (Blk.lt HD0.out))
              have HN9 := Lib.hid (Blk.below HN0.out hb4 (Blk.lt HN0.out))
              have HQ9 := Lib.hid (Blk.below HQ0.out hb4 (Blk.lt HQ0.out))
              have hn9 := nu_trans hn0 hb4
              clear HR0 HD0 HN0 HQ0 hn0
              clear hb4
              go_wp2_with fail
              go_meet
              exact ⟨cur, 0, co, true, (by first | rfl | simp), rfl, by omega, by omega, (by first | exact fun _ => rfl | (intro e; cases e)), Hc.out, HR9.out, HD9.out, HN9.out, hn9⟩
            · refine (arm_off HD0.out).mono ?_
              rintro e wz ⟨rfl, rfl⟩
              have HR9 := HR0
              have HD9 := HD0
              have HN9 := HN0
              have HQ9 := HQ0
              have hn9 := hn0
              clear HR0 HD0 HN0 HQ0 hn0 HLn0 HLs0
              go_wp2_with fail
              go_meet
              exact ⟨cur, 0, co, true, (by first | rfl | simp), rfl, by omega, by omega, (by first | exact fun _ => rfl | (intro e; cases e)), Hc.out, HR9.out, HD9.out, HN9.out, hn9⟩
            · refine (crash_any HD0.out).mono ?_
              rintro e wz ⟨rfl, hd4, hg4⟩
              have HR9 := Lib.hid (show RegAt wz g d cur from Blk.grown HR0.out hg4 (by intro e; exact Hgd.out (by injection e)))
              have HD9 := Lib.hid hd4
              have HN9 := Lib.hid (Blk.grown HN0.out hg4 (by intro e; exact Hne.out.2.1 (by injection e)))
              have HQ9 := Lib.hid (Blk.grown HQ0.out hg4 (by intro e; exact Hqe.out.2.1 (by injection e)))
              have hn9 := nu_grown hn0 hg4 Hwd.out.2
              clear HR0 HD0 HN0 HQ0 hn0 hd4 hg4 HLn0 HLs0
              go_wp2_with fail
              go_meet
              exact ⟨cur, 0, co, true, (by first | rfl | simp), rfl, by omega, by omega, (by first | exact fun _ => rfl | (intro e; cases e)), Hc.out, HR9.out, HD9.out, HN9.out, hn9⟩
            · refine (on_down HD0.out).mono ?_
              rintro e wz ⟨rfl, hd4, hg4⟩
              have HR9 := Lib.hid (show RegAt wz g d cur from Blk.grown HR0.out hg4 (by intro e; exact Hgd.out (by injection e)))
              have HD9 := Lib.hid hd4
              have HN9 := Lib.hid (Blk.grown HN0.out hg4 (by intro e; exact Hne.out.2.1 (by injection e)))
              have HQ9 := Lib.hid (Blk.grown HQ0.out hg4 (by intro e; exact Hqe.out.2.1 (by injection e)))
              have hn9 := nu_grown hn0 hg4 Hwd.out.2
              clear HR0 HD0 HN0 HQ0 hn0 hd4 hg4 HLn0 HLs0
              go_wp2_with fail
              go_meet
              exact ⟨cur, 0, co, false, (by first | rfl | simp), rfl, by omega, by omega, (by first | exact fun _ => rfl | (intro e; cases e)), Hc.out, HR9.out, HD9.out, HN9.out, hn9⟩
            · refine (spend_off HD0.out).mono ?_
              rintro e wz ⟨rfl, rfl⟩
              have HR9 := HR0
              have HD9 := HD0
              have HN9 := HN0
              have HQ9 := HQ0
              have hn9 := hn0
              clear HR0 HD0 HN0 HQ0 hn0 HLn0 HLs0
              go_wp2_with fail
              go_meet
              exact ⟨cur, 0, co, true, (by first | rfl | simp), rfl, by omega, by omega, (by first | exact fun _ => rfl | (intro e; cases e)), Hc.out, HR9.out, HD9.out, HN9.out, hn9⟩
            · obtain ⟨wz, rfl⟩ : ∃ x : World, x = u0 := ⟨_, rfl⟩
              have HR9 := HR0
              have HD9 := HD0
              have HN9 := HN0
              have HQ9 := HQ0
              have hn9 := hn0
              clear HR0 HD0 HN0 HQ0 hn0 HLn0 HLs0
              go_wp2_with fail
              go_meet
              exact ⟨cur, 0, co, true, (by first | rfl | simp), rfl, by omega, by omega, (by first | exact fun _ => rfl | (intro e; cases e)), Hc.out, HR9.out, HD9.out, HN9.out, hn9⟩
        case rest =>
          obtain ⟨cur1, ar1, co1, off1, rfl, rfl, h01, h11, hoff1, hc1, hr1, hd1, hn1, hnw⟩ := hcut
          have Hc1 := Lib.hid hc1
          have HR9 := Lib.hid hr1
          have HD9 := Lib.hid hd1
          have HN9 := Lib.hid hn1
          have hn9 := hnw
          have h01 := And.intro h01 h11
          have Hoff1 := Lib.hid hoff1
          clear HR0 HD0 HN0 HQ0 HLn0 HLs0 hc1 hr1 hd1 hn1 hnw h11 c0 c1 hn0 Hc H0 hoff1
          obtain ⟨wz, rfl⟩ : ∃ x : World, x = wc := ⟨_, rfl⟩
          cases off1
          · have HRw := Lib.hid (fun (W : World) (hS : Below wz.heap.size wz W) => (show RegAt W g d cur1 from Blk.below HR9.out hS (Blk.lt HR9.out)))
            have HDw := Lib.hid (fun (W : World) (hS : Below wz.heap.size wz W) => (show DevAt W d st (.slice none 0 0) false ar1 co1 (.slice none 0 0) (.slice none 0 0) from Blk.below HD9.out hS (Blk.lt HD9.out)))
            have HNw := Lib.hid (fun (W : World) (hS : Below wz.heap.size wz W) => (show Blk W nb 26 (stA cur1) from Blk.below HN9.out hS (Blk.lt HN9.out)))
            have HLn := Lib.hid (fun (W : World) (hS : Below wz.heap.size wz W) => loads_blk Hc1.out (HNw.out W hS))
            clear HR9 HD9 HN9
            go_wp2_with fail
            refine wp_region_held_drew (S := fun w' => Below wz.heap.size wz w') (by kernel_rfl) (nu_drew (nu_refl _)) (fun hHeld => ?_)
            dsimp only [Array.replicate, List.replicate, List.size_toArray, List.length_cons, List.length_nil, Nat.reduceAdd] at hHeld ⊢
            refine take_l (i := 0) (v := ?_) rfl (by kernel_rfl) (by kernel_rfl) (by kernel_rfl) (fun _ _ _ h => h) (Or.inl ⟨by rfl, ?_⟩) (by assumption) ?_
            case refine_2 => (intro _ _; go_simp; all_goals with_reducible rfl)
            simp only [Act.put, List.setIfInBounds_toArray, List.set_cons_zero, List.set_cons_succ]
            refine take_l (i := 2) rfl (by kernel_rfl) (by kernel_rfl) (by kernel_rfl) (fun _ _ _ h => h) (Or.inl ⟨by rfl, fun W hS => (HLn.out W hS) _ _ (.tmp 7) rfl rfl⟩) (by assumption) ?_
            simp only [Act.put, List.setIfInBounds_toArray, List.set_cons_zero, List.set_cons_succ]
            refine wpAnyH_ready (rs := [1]) (by kernel_rfl) (by simp) ?_
            refine cons_l rfl (fun K hK => ?_) AllReadyH.nil
            go_simp
            go_at_call 23
            refine (regRead_any Hc1.out (HRw.out _ hHeld)).mono ?_
            rintro e v1 ⟨rfl, hv1⟩
            go_wp2_with fail
            refine hK.out _ _ (nu_trans (by assumption) hv1) (fun hHeld => ?_)
            clear hK K hv1
            simp only [Act.put, List.setIfInBounds_toArray, List.set_cons_zero, List.set_cons_succ]
            refine take_l (i := 3) rfl (by kernel_rfl) (by kernel_rfl) (by kernel_rfl) (fun _ _ _ h => h) (Or.inl ⟨by rfl, fun W _ => exec_neq_same _ Hc1.out (.tmp 109) (.tmp 110) rfl rfl rfl⟩) (by assumption) ?_
            simp only [Act.put, List.setIfInBounds_toArray, List.set_cons_zero, List.set_cons_succ]
            refine take_l (i := 4) (v := ?_) rfl (by kernel_rfl) (by kernel_rfl) (by kernel_rfl) (fun _ _ _ h => h) (Or.inl ⟨by rfl, ?_⟩) (by assumption) ?_
            case refine_2 => (intro _ _; go_simp; all_goals with_reducible rfl)
            simp only [Act.put, List.setIfInBounds_toArray, List.set_cons_zero, List.set_cons_succ]
            refine take_l (i := 5) (v := ?_) rfl (by kernel_rfl) (by kernel_rfl) (by kernel_rfl) (fun _ _ _ h => h) (Or.inl ⟨by rfl, ?_⟩) (by assumption) ?_
            case refine_2 => (intro _ _; go_simp; all_goals with_reducible rfl)
            simp only [Act.put, List.setIfInBounds_toArray, List.set_cons_zero, List.set_cons_succ]
            refine take_l (i := 7) (v := ?_) rfl (by kernel_rfl) (by kernel_rfl) (by kernel_rfl) (fun _ _ _ h => h) (Or.inl ⟨by rfl, ?_⟩) (by assumption) ?_
            case refine_2 => (intro _ _; go_simp; all_goals with_reducible rfl)
            simp only [Act.put, List.setIfInBounds_toArray, List.set_cons_zero, List.set_cons_succ]
            refine wpAnyH_ready (rs := [6]) (by kernel_rfl) (by simp) ?_
            refine cons_l rfl (fun K hK => ?_) AllReadyH.nil
            go_simp
            go_at_call 29
            refine (up_nu (HDw.out _ hHeld)).mono ?_
            rintro e v2 ⟨rfl, hv2⟩
            go_wp2_with fail
            refine hK.out _ _ (nu_trans (by assumption) hv2) (fun hHeld => ?_)
            clear hK K hv2
            simp only [Act.put, List.setIfInBounds_toArray, List.set_cons_zero, List.set_cons_succ]
            refine take_l (i := 8) (v := ?_) rfl (by kernel_rfl) (by kernel_rfl) (by kernel_rfl) (fun _ _ _ h => h) (Or.inl ⟨by rfl, ?_⟩) (by assumption) ?_
            case refine_2 => (intro _ _; go_simp; all_goals with_reducible rfl)
            simp only [Act.put, List.setIfInBounds_toArray, List.set_cons_zero, List.set_cons_succ]
            refine take_l (i := 9) (v := ?_) rfl (by kernel_rfl) (by kernel_rfl) (by kernel_rfl) (fun _ _ _ h => h) (Or.inl ⟨by rfl, ?_⟩) (by assumption) ?_
            case refine_2 => (intro _ _; go_simp; all_goals with_reducible rfl)
            simp only [Act.put, List.setIfInBounds_toArray, List.set_cons_zero, List.set_cons_succ]
            refine wpAnyH_done (by kernel_rfl) ?_ _
            go_wp2_with fail
            go_roundg (300 - (k + 1))
            case rel => exact ⟨k + 1, by omega, cur1, ar1, co1, false, by omega, by omega, by go_num, rfl, rfl, h01.1, h01.2, (fun e => by cases e), Hc1.out, HRw.out _ hHeld, HDw.out _ hHeld, HNw.out _ hHeld, nu_trans hn9 hHeld⟩
            case measure => omega
          · have HRw := Lib.hid (fun (W : World) (hS : Below wz.heap.size wz W) => (show RegAt W g d cur1 from Blk.below HR9.out hS (Blk.lt HR9.out)))
            have HDw := Lib.hid (fun (W : World) (hS : Below wz.heap.size wz W) => (show DevAt W d st (.slice none 0 0) true ar1 co1 (.slice none 0 0) (.slice none 0 0) from Blk.below HD9.out hS (Blk.lt HD9.out)))
            have HNw := Lib.hid (fun (W : World) (hS : Below wz.heap.size wz W) => (show Blk W nb 26 (stA cur1) from Blk.below HN9.out hS (Blk.lt HN9.out)))
            have HLn := Lib.hid (fun (W : World) (hS : Below wz.heap.size wz W) => loads_blk Hc1.out (HNw.out W hS))
            clear HR9 HD9 HN9
            go_wp2_with fail
            refine wp_region_held_drew (S := fun w' => Below wz.heap.size wz w') (by kernel_rfl) (nu_drew (nu_refl _)) (fun hHeld => ?_)
            dsimp only [Array.replicate, List.replicate, List.size_toArray, List.length_cons, List.length_nil, Nat.reduceAdd] at hHeld ⊢
            refine take_l (i := 0) (v := ?_) rfl (by kernel_rfl) (by kernel_rfl) (by kernel_rfl) (fun _ _ _ h => h) (Or.inl ⟨by rfl, ?_⟩) (by assumption) ?_
            case refine_2 => (intro _ _; go_simp; all_goals with_reducible rfl)
            simp only [Act.put, List.setIfInBounds_toArray, List.set_cons_zero, List.set_cons_succ]
            refine take_l (i := 2) rfl (by kernel_rfl) (by kernel_rfl) (by kernel_rfl) (fun _ _ _ h => h) (Or.inl ⟨by rfl, fun W hS => (HLn.out W hS) _ _ (.tmp 7) rfl rfl⟩) (by assumption) ?_
            simp only [Act.put, List.setIfInBounds_toArray, List.set_cons_zero, List.set_cons_succ]
            refine wpAnyH_ready (rs := [1]) (by kernel_rfl) (by simp) ?_
            refine cons_l rfl (fun K hK => ?_) AllReadyH.nil
            go_simp
            go_at_call 23
            refine (regRead_any Hc1.out (HRw.out _ hHeld)).mono ?_
            rintro e v1 ⟨rfl, hv1⟩
            go_wp2_with fail
            refine hK.out _ _ (nu_trans (by assumption) hv1) (fun hHeld => ?_)
            clear hK K hv1
            simp only [Act.put, List.setIfInBounds_toArray, List.set_cons_zero, List.set_cons_succ]
            refine take_l (i := 3) rfl (by kernel_rfl) (by kernel_rfl) (by kernel_rfl) (fun _ _ _ h => h) (Or.inl ⟨by rfl, fun W _ => exec_neq_same _ Hc1.out (.tmp 109) (.tmp 110) rfl rfl rfl⟩) (by assumption) ?_
            simp only [Act.put, List.setIfInBounds_toArray, List.set_cons_zero, List.set_cons_succ]
            refine take_l (i := 4) (v := ?_) rfl (by kernel_rfl) (by kernel_rfl) (by kernel_rfl) (fun _ _ _ h => h) (Or.inl ⟨by rfl, ?_⟩) (by assumption) ?_
            case refine_2 => (intro _ _; go_simp; all_goals with_reducible rfl)
            simp only [Act.put, List.setIfInBounds_toArray, List.set_cons_zero, List.set_cons_succ]
            refine take_l (i := 5) (v := ?_) rfl (by kernel_rfl) (by kernel_rfl) (by kernel_rfl) (fun _ _ _ h => h) (Or.inl ⟨by rfl, ?_⟩) (by assumption) ?_
            case refine_2 => (intro _ _; go_simp; all_goals with_reducible rfl)
            simp only [Act.put, List.setIfInBounds_toArray, List.set_cons_zero, List.set_cons_succ]
            refine take_l (i := 7) (v := ?_) rfl (by kernel_rfl) (by kernel_rfl) (by kernel_rfl) (fun _ _ _ h => h) (Or.inl ⟨by rfl, ?_⟩) (by assumption) ?_
            case refine_2 => (intro _ _; go_simp; all_goals with_reducible rfl)
            simp only [Act.put, List.setIfInBounds_toArray, List.set_cons_zero, List.set_cons_succ]
            refine wpAnyH_ready (rs := [6]) (by kernel_rfl) (by simp) ?_
            refine cons_l rfl (fun K hK => ?_) AllReadyH.nil
            go_simp
            go_at_call 29
            refine (up_nu (HDw.out _ hHeld)).mono ?_
            rintro e v2 ⟨rfl, hv2⟩
            go_wp2_with fail
            refine hK.out _ _ (nu_trans (by assumption) hv2) (fun hHeld => ?_)
            clear hK K hv2
            simp only [Act.put, List.setIfInBounds_toArray, List.set_cons_zero, List.set_cons_succ]
            refine take_l (i := 8) (v := ?_) rfl (by kernel_rfl) (by kernel_rfl) (by kernel_rfl) (fun _ _ _ h => h) (Or.inl ⟨by rfl, ?_⟩) (by assumption) ?_
            case refine_2 => (intro _ _; go_simp; all_goals with_reducible rfl)
            simp only [Act.put, List.setIfInBounds_toArray, List.set_cons_zero, List.set_cons_succ]
            refine take_l (i := 9) (v := ?_) rfl (by kernel_rfl) (by kernel_rfl) (by kernel_rfl) (fun _ _ _ h => h) (Or.inl ⟨by rfl, ?_⟩) (by assumption) ?_
            case refine_2 => (intro _ _; go_simp; all_goals with_reducible rfl)
            simp only [Act.put, List.setIfInBounds_toArray, List.set_cons_zero, List.set_cons_succ]
            refine wpAnyH_done (by kernel_rfl) ?_ _
            go_wp2_with fail
            go_roundg (300 - (k + 1))
            case rel => exact ⟨k + 1, by omega, cur1, ar1, co1, true, by omega, by omega, by go_num, rfl, rfl, h01.1, h01.2, (by have h := Hoff1.out; simpa using h), Hc1.out, HRw.out _ hHeld, HDw.out _ hHeld, HNw.out _ hHeld, nu_trans hn9 hHeld⟩
            case measure => omega
      · clear Hx
        go_wp2_with fail
        refine (regAwake_any _).mono ?_
        rintro e w9 ⟨rfl, hb9⟩
        go_wp2_with fail
        go_ret
        exact ⟨rfl, nu_trans hnr hb9⟩
    · obtain rfl : k = len := by omega
      clear Hx
      go_wp2_with fail
      refine (regAwake_any _).mono ?_
      rintro e w9 ⟨rfl, hb9⟩
      go_wp2_with fail
      go_ret
      exact ⟨rfl, nu_trans hnr hb9⟩
end Go.Proofs.Ythlofbkbaabamaa
