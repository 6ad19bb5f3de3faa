/-
  The walk of the document's Blank.
-/
import Derived.Test.YthlofbkbaabamaaRegF
import Derived.Deep.Cut
namespace Go.Proofs.Ythlofbkbaabamaa
open Go.ChangeShapes Go.WideShapes Go.ChangeAt Go.RowKit

abbrev z32 : Array Value := #[.int .u8 0, .int .u8 0, .int .u8 0, .int .u8 0, .int .u8 0, .int .u8 0, .int .u8 0, .int .u8 0, .int .u8 0, .int .u8 0, .int .u8 0, .int .u8 0, .int .u8 0, .int .u8 0, .int .u8 0, .int .u8 0, .int .u8 0, .int .u8 0, .int .u8 0, .int .u8 0, .int .u8 0, .int .u8 0, .int .u8 0, .int .u8 0, .int .u8 0, .int .u8 0, .int .u8 0, .int .u8 0, .int .u8 0, .int .u8 0, .int .u8 0, .int .u8 0]
theorem vb_one32 (l : List Nat) : ∀ v ∈ l.map vb, v.oneCell' = true := fun v hv => by
  obtain ⟨x, _, rfl⟩ := List.mem_map.1 hv
  rfl
theorem exec_zero_32 {o : Oper} {a : Act} {w : World} (ho : o.op = .build 24 #[]) : (execOp a.eval o).run Try.prog w = .ok (.value (.agg ((List.replicate 32 0).map vb).toArray)) w := by
  unfold execOp
  simp only [ho]
  kernel_rfl
theorem blank_cases (s : St) : s ≠ st0 ∧ s.p ≠ 0 ∨
    s ≠ st0 ∧ s.p = 0 ∧ s.b ≠ 0 ∨
    s ≠ st0 ∧ s.p = 0 ∧ s.b = 0 ∧ s.wi = true ∨
    s ≠ st0 ∧ s.p = 0 ∧ s.b = 0 ∧ s.wi = false ∧ s.bo ≠ 0 ∨
    s ≠ st0 ∧ s.p = 0 ∧ s.b = 0 ∧ s.wi = false ∧ s.bo = 0 ∧ s.ve ≠ 0 ∨
    s ≠ st0 ∧ s.p = 0 ∧ s.b = 0 ∧ s.wi = false ∧ s.bo = 0 ∧ s.ve = 0 ∧ s.ep ≠ 0 ∨
    s ≠ st0 ∧ s.p = 0 ∧ s.b = 0 ∧ s.wi = false ∧ s.bo = 0 ∧ s.ve = 0 ∧ s.ep = 0 ∧ s.cu ≠ 0 ∨
    s ≠ st0 ∧ s.p = 0 ∧ s.b = 0 ∧ s.wi = false ∧ s.bo = 0 ∧ s.ve = 0 ∧ s.ep = 0 ∧ s.cu = 0 ∧ s.bu = true ∨
    s ≠ st0 ∧ s.p = 0 ∧ s.b = 0 ∧ s.wi = false ∧ s.bo = 0 ∧ s.ve = 0 ∧ s.ep = 0 ∧ s.cu = 0 ∧ s.bu = false ∧ ¬ s.r = List.replicate 32 0 ∨
    s ≠ st0 ∧ s.p = 0 ∧ s.b = 0 ∧ s.wi = false ∧ s.bo = 0 ∧ s.ve = 0 ∧ s.ep = 0 ∧ s.cu = 0 ∧ s.bu = false ∧ s.r = List.replicate 32 0 ∧ ¬ s.m = List.replicate 32 0 ∨
    s = st0 ∧ s.p = 0 ∧ s.b = 0 ∧ s.wi = false ∧ s.bo = 0 ∧ s.ve = 0 ∧ s.ep = 0 ∧ s.cu = 0 ∧ s.bu = false ∧ s.r = List.replicate 32 0 ∧ s.m = List.replicate 32 0 := by
  by_cases h0 : s.p = 0
  case neg => exact .inl ⟨fun h => h0 (by rw [h]; rfl), h0⟩
  refine .inr ?_
  by_cases h1 : s.b = 0
  case neg => exact .inl ⟨fun h => h1 (by rw [h]; rfl), h0, h1⟩
  refine .inr ?_
  by_cases h2 : s.wi = false
  case neg => exact .inl ⟨fun h => h2 (by rw [h]; rfl), h0, h1, by cases hb : s.wi with | false => exact absurd hb h2 | true => rfl⟩
  refine .inr ?_
  by_cases h3 : s.bo = 0
  case neg => exact .inl ⟨fun h => h3 (by rw [h]; rfl), h0, h1, h2, h3⟩
  refine .inr ?_
  by_cases h4 : s.ve = 0
  case neg => exact .inl ⟨fun h => h4 (by rw [h]; rfl), h0, h1, h2, h3, h4⟩
  refine .inr ?_
  by_cases h5 : s.ep = 0
  case neg => exact .inl ⟨fun h => h5 (by rw [h]; rfl), h0, h1, h2, h3, h4, h5⟩
  refine .inr ?_
  by_cases h6 : s.cu = 0
  case neg => exact .inl ⟨fun h => h6 (by rw [h]; rfl), h0, h1, h2, h3, h4, h5, h6⟩
  refine .inr ?_
  by_cases h7 : s.bu = false
  case neg => exact .inl ⟨fun h => h7 (by rw [h]; rfl), h0, h1, h2, h3, h4, h5, h6, by cases hb : s.bu with | false => exact absurd hb h7 | true => rfl⟩
  refine .inr ?_
  by_cases h8 : s.r = List.replicate 32 0
  case neg => exact .inl ⟨fun h => h8 (by rw [h]; rfl), h0, h1, h2, h3, h4, h5, h6, h7, h8⟩
  refine .inr ?_
  by_cases h9 : s.m = List.replicate 32 0
  case neg => exact .inl ⟨fun h => h9 (by rw [h]; rfl), h0, h1, h2, h3, h4, h5, h6, h7, h8, h9⟩
  refine .inr ?_
  exact ⟨by cases s; simp only at *; subst_vars; rfl, h0, h1, h2, h3, h4, h5, h6, h7, h8, h9⟩

set_option maxRecDepth 100000 in
set_option maxHeartbeats 4000000 in
theorem refBlank_any (s : St) (hs : StOk s) (w : World) :
    Calls Try.prog 22 #[.agg (stA s)] w fun e w' => e = .returned (.bool (decide (s = st0))) ∧ Below w.heap.size w w' := by
  have hn0 := nu_alloc (nu_alloc (nu_refl w) (.cells (stA s) 26)) (.cells z32 24)
  have hn := nu_fill ((List.replicate 32 0).map vb) (g := w.heap.size + 1) (by omega) 0 _ hn0
  have hbs0 := (Blk.made w 26 (stA s)).alloc (.cells z32 24)
  have HZ := Lib.hid (Blk.made1 w (.cells (stA s) 26) 24 z32)
  have Hz := Lib.hid (show ((List.replicate 32 0).map vb).length = z32.size from rfl)
  have Hz2 := Lib.hid (show (Try.prog.info? 24).map (·.size) = some ((List.replicate 32 0).map vb).length by kernel_rfl)
  have hbz := HZ.out.fill ((List.replicate 32 0).map vb) rfl
  have hbs := hbs0.farCells ((List.replicate 32 0).map vb) (k := w.heap.size + 1) (by omega) 0
  generalize hu : World.setCells ((w.alloc (.cells (stA s) 26)).alloc (.cells z32 24)) (w.heap.size + 1) 0 ((List.replicate 32 0).map vb) = u0 at hn hbz hbs
  obtain ⟨c0, c1, c2, c3, c4, c5, c6, c7⟩ := st_cells hbs
  have HLr := Lib.hid (fun (o : Oper) (a : Act) (x : Operand) h1 h2 => exec_load_32 (w := u0) (o := o) (a := a) s.r hs.rl x w.heap.size 8 h1 h2 (range_mid hbs (l := [.int .i64 s.p, .int .i64 s.b, .bool s.wi, .int .u32 s.bo, .int .u64 s.ve, .int .u32 s.ep, .int .i64 s.cu, .bool s.bu]) (r := s.m.map vb) rfl rfl))
  have HLm := Lib.hid (fun (o : Oper) (a : Act) (x : Operand) h1 h2 => exec_load_32 (w := u0) (o := o) (a := a) s.m hs.ml x w.heap.size 40 h1 h2 (range_mid hbs (l := [.int .i64 s.p, .int .i64 s.b, .bool s.wi, .int .u32 s.bo, .int .u64 s.ve, .int .u32 s.ep, .int .i64 s.cu, .bool s.bu] ++ s.r.map vb) (r := []) (by rw [List.append_nil]; simp [stA, stL]) (by simp [hs.rl])))
  have HLz := Lib.hid (fun (o : Oper) (a : Act) (x : Operand) h1 h2 => exec_load_32 (w := u0) (o := o) (a := a) (List.replicate 32 0) rfl x (w.heap.size + 1) 0 h1 h2 (by simpa using range_blk hbz))
  have HEr := Lib.hid (fun (W : World) (o : Oper) (a : Act) x y h1 h2 h3 => exec_eql_32 (w := W) (o := o) (a := a) s.r (List.replicate 32 0) hs.rl rfl x y h1 h2 h3)
  have HEm := Lib.hid (fun (W : World) (o : Oper) (a : Act) x y h1 h2 h3 => exec_eql_32 (w := W) (o := o) (a := a) s.m (List.replicate 32 0) hs.ml rfl x y h1 h2 h3)
  have hc := blank_cases s
  have Hu := Lib.hid hu
  clear hu hbz hbs hbs0 hn0
  obtain ⟨f, hf⟩ : ∃ f, decide (s = st0) = f := ⟨_, rfl⟩
  rw [hf]
  go_enter Try.func22, Try.ntmps22
  go_upto_region 2 with (first | (refine wpList_run _ rfl (exec_zero_32 rfl) ?_) | (refine wpList_store_blk rfl 24 (.tmp 3) (.tmp 4) rfl (w.heap.size + 1) ((List.replicate 32 0).map vb) rfl rfl 24 z32 HZ.out Hz.out Hz2.out (vb_one32 _) ?_))
  rw [Hu.out]
  clear HZ Hz Hz2 Hu
  rcases hc with ⟨h, h0⟩ | ⟨h, h0, h1⟩ | ⟨h, h0, h1, h2⟩ | ⟨h, h0, h1, h2, h3⟩ | ⟨h, h0, h1, h2, h3, h4⟩ | ⟨h, h0, h1, h2, h3, h4, h5⟩ | ⟨h, h0, h1, h2, h3, h4, h5, h6⟩ | ⟨h, h0, h1, h2, h3, h4, h5, h6, h7⟩ | ⟨h, h0, h1, h2, h3, h4, h5, h6, h7, h8⟩ | ⟨h, h0, h1, h2, h3, h4, h5, h6, h7, h8, h9⟩ | ⟨h, h0, h1, h2, h3, h4, h5, h6, h7, h8, h9⟩
  · rw [decide_eq_false h] at hf
    subst hf
    replace h0 : (s.p == 0) = false := by rw [beq_eq_false_iff_ne]; exact h0
    clear h
    go_wp2_with (first | (refine wpList_run _ rfl (HLr.out _ _ (.tmp 44) rfl rfl) ?_) | (refine wpList_run _ rfl (HLm.out _ _ (.tmp 50) rfl rfl) ?_) | (refine wpList_run _ rfl (HLz.out _ _ (.tmp 3) rfl rfl) ?_) | (refine wpList_run _ rfl (HEr.out _ _ _ (.tmp 45) (.tmp 46) rfl rfl rfl) ?_) | (refine wpList_run _ rfl (HEm.out _ _ _ (.tmp 51) (.tmp 52) rfl rfl rfl) ?_))
    go_ret
    exact ⟨rfl, hn⟩
  · rw [decide_eq_false h] at hf
    subst hf
    replace h0 : (s.p == 0) = true := by rw [h0]; rfl
    replace h1 : (s.b == 0) = false := by rw [beq_eq_false_iff_ne]; exact h1
    clear h
    go_wp2_with (first | (refine wpList_run _ rfl (HLr.out _ _ (.tmp 44) rfl rfl) ?_) | (refine wpList_run _ rfl (HLm.out _ _ (.tmp 50) rfl rfl) ?_) | (refine wpList_run _ rfl (HLz.out _ _ (.tmp 3) rfl rfl) ?_) | (refine wpList_run _ rfl (HEr.out _ _ _ (.tmp 45) (.tmp 46) rfl rfl rfl) ?_) | (refine wpList_run _ rfl (HEm.out _ _ _ (.tmp 51) (.tmp 52) rfl rfl rfl) ?_))
    go_ret
    exact ⟨rfl, hn⟩
  · rw [decide_eq_false h] at hf
    subst hf
    replace h0 : (s.p == 0) = true := by rw [h0]; rfl
    replace h1 : (s.b == 0) = true := by rw [h1]; rfl
    rw [h2] at c2
    clear h2
    clear h
    go_wp2_with (first | (refine wpList_run _ rfl (HLr.out _ _ (.tmp 44) rfl rfl) ?_) | (refine wpList_run _ rfl (HLm.out _ _ (.tmp 50) rfl rfl) ?_) | (refine wpList_run _ rfl (HLz.out _ _ (.tmp 3) rfl rfl) ?_) | (refine wpList_run _ rfl (HEr.out _ _ _ (.tmp 45) (.tmp 46) rfl rfl rfl) ?_) | (refine wpList_run _ rfl (HEm.out _ _ _ (.tmp 51) (.tmp 52) rfl rfl rfl) ?_))
    go_ret
    exact ⟨rfl, hn⟩
  · rw [decide_eq_false h] at hf
    subst hf
    replace h0 : (s.p == 0) = true := by rw [h0]; rfl
    replace h1 : (s.b == 0) = true := by rw [h1]; rfl
    rw [h2] at c2
    clear h2
    replace h3 : (s.bo == 0) = false := by rw [beq_eq_false_iff_ne]; exact h3
    clear h
    go_wp2_with (first | (refine wpList_run _ rfl (HLr.out _ _ (.tmp 44) rfl rfl) ?_) | (refine wpList_run _ rfl (HLm.out _ _ (.tmp 50) rfl rfl) ?_) | (refine wpList_run _ rfl (HLz.out _ _ (.tmp 3) rfl rfl) ?_) | (refine wpList_run _ rfl (HEr.out _ _ _ (.tmp 45) (.tmp 46) rfl rfl rfl) ?_) | (refine wpList_run _ rfl (HEm.out _ _ _ (.tmp 51) (.tmp 52) rfl rfl rfl) ?_))
    go_ret
    exact ⟨rfl, hn⟩
  · rw [decide_eq_false h] at hf
    subst hf
    replace h0 : (s.p == 0) = true := by rw [h0]; rfl
    replace h1 : (s.b == 0) = true := by rw [h1]; rfl
    rw [h2] at c2
    clear h2
    replace h3 : (s.bo == 0) = true := by rw [h3]; rfl
    replace h4 : (s.ve == 0) = false := by rw [beq_eq_false_iff_ne]; exact h4
    clear h
    go_wp2_with (first | (refine wpList_run _ rfl (HLr.out _ _ (.tmp 44) rfl rfl) ?_) | (refine wpList_run _ rfl (HLm.out _ _ (.tmp 50) rfl rfl) ?_) | (refine wpList_run _ rfl (HLz.out _ _ (.tmp 3) rfl rfl) ?_) | (refine wpList_run _ rfl (HEr.out _ _ _ (.tmp 45) (.tmp 46) rfl rfl rfl) ?_) | (refine wpList_run _ rfl (HEm.out _ _ _ (.tmp 51) (.tmp 52) rfl rfl rfl) ?_))
    go_ret
    exact ⟨rfl, hn⟩
  · rw [decide_eq_false h] at hf
    subst hf
    replace h0 : (s.p == 0) = true := by rw [h0]; rfl
    replace h1 : (s.b == 0) = true := by rw [h1]; rfl
    rw [h2] at c2
    clear h2
    replace h3 : (s.bo == 0) = true := by rw [h3]; rfl
    replace h4 : (s.ve == 0) = true := by rw [h4]; rfl
    replace h5 : (s.ep == 0) = false := by rw [beq_eq_false_iff_ne]; exact h5
    clear h
    go_wp2_with (first | (refine wpList_run _ rfl (HLr.out _ _ (.tmp 44) rfl rfl) ?_) | (refine wpList_run _ rfl (HLm.out _ _ (.tmp 50) rfl rfl) ?_) | (refine wpList_run _ rfl (HLz.out _ _ (.tmp 3) rfl rfl) ?_) | (refine wpList_run _ rfl (HEr.out _ _ _ (.tmp 45) (.tmp 46) rfl rfl rfl) ?_) | (refine wpList_run _ rfl (HEm.out _ _ _ (.tmp 51) (.tmp 52) rfl rfl rfl) ?_))
    go_ret
    exact ⟨rfl, hn⟩
  · rw [decide_eq_false h] at hf
    subst hf
    replace h0 : (s.p == 0) = true := by rw [h0]; rfl
    replace h1 : (s.b == 0) = true := by rw [h1]; rfl
    rw [h2] at c2
    clear h2
    replace h3 : (s.bo == 0) = true := by rw [h3]; rfl
    replace h4 : (s.ve == 0) = true := by rw [h4]; rfl
    replace h5 : (s.ep == 0) = true := by rw [h5]; rfl
    replace h6 : (s.cu == 0) = false := by rw [beq_eq_false_iff_ne]; exact h6
    clear h
    go_wp2_with (first | (refine wpList_run _ rfl (HLr.out _ _ (.tmp 44) rfl rfl) ?_) | (refine wpList_run _ rfl (HLm.out _ _ (.tmp 50) rfl rfl) ?_) | (refine wpList_run _ rfl (HLz.out _ _ (.tmp 3) rfl rfl) ?_) | (refine wpList_run _ rfl (HEr.out _ _ _ (.tmp 45) (.tmp 46) rfl rfl rfl) ?_) | (refine wpList_run _ rfl (HEm.out _ _ _ (.tmp 51) (.tmp 52) rfl rfl rfl) ?_))
    go_ret
    exact ⟨rfl, hn⟩
  · rw [decide_eq_false h] at hf
    subst hf
    replace h0 : (s.p == 0) = true := by rw [h0]; rfl
    replace h1 : (s.b == 0) = true := by rw [h1]; rfl
    rw [h2] at c2
    clear h2
    replace h3 : (s.bo == 0) = true := by rw [h3]; rfl
    replace h4 : (s.ve == 0) = true := by rw [h4]; rfl
    replace h5 : (s.ep == 0) = true := by rw [h5]; rfl
    replace h6 : (s.cu == 0) = true := by rw [h6]; rfl
    rw [h7] at c7
    clear h7
    clear h
    go_wp2_with (first | (refine wpList_run _ rfl (HLr.out _ _ (.tmp 44) rfl rfl) ?_) | (refine wpList_run _ rfl (HLm.out _ _ (.tmp 50) rfl rfl) ?_) | (refine wpList_run _ rfl (HLz.out _ _ (.tmp 3) rfl rfl) ?_) | (refine wpList_run _ rfl (HEr.out _ _ _ (.tmp 45) (.tmp 46) rfl rfl rfl) ?_) | (refine wpList_run _ rfl (HEm.out _ _ _ (.tmp 51) (.tmp 52) rfl rfl rfl) ?_))
    go_ret
    exact ⟨rfl, hn⟩
  · rw [decide_eq_false h] at hf
    subst hf
    replace h0 : (s.p == 0) = true := by rw [h0]; rfl
    replace h1 : (s.b == 0) = true := by rw [h1]; rfl
    rw [h2] at c2
    clear h2
    replace h3 : (s.bo == 0) = true := by rw [h3]; rfl
    replace h4 : (s.ve == 0) = true := by rw [h4]; rfl
    replace h5 : (s.ep == 0) = true := by rw [h5]; rfl
    replace h6 : (s.cu == 0) = true := by rw [h6]; rfl
    rw [h7] at c7
    clear h7
    rw [decide_eq_false h8] at HEr
    clear h8
    clear h
    go_wp2_with (first | (refine wpList_run _ rfl (HLr.out _ _ (.tmp 44) rfl rfl) ?_) | (refine wpList_run _ rfl (HLm.out _ _ (.tmp 50) rfl rfl) ?_) | (refine wpList_run _ rfl (HLz.out _ _ (.tmp 3) rfl rfl) ?_) | (refine wpList_run _ rfl (HEr.out _ _ _ (.tmp 45) (.tmp 46) rfl rfl rfl) ?_) | (refine wpList_run _ rfl (HEm.out _ _ _ (.tmp 51) (.tmp 52) rfl rfl rfl) ?_))
    go_ret
    exact ⟨rfl, hn⟩
  · rw [decide_eq_false h] at hf
    subst hf
    replace h0 : (s.p == 0) = true := by rw [h0]; rfl
    replace h1 : (s.b == 0) = true := by rw [h1]; rfl
    rw [h2] at c2
    clear h2
    replace h3 : (s.bo == 0) = true := by rw [h3]; rfl
    replace h4 : (s.ve == 0) = true := by rw [h4]; rfl
    replace h5 : (s.ep == 0) = true := by rw [h5]; rfl
    replace h6 : (s.cu == 0) = true := by rw [h6]; rfl
    rw [h7] at c7
    clear h7
    rw [decide_eq_true h8] at HEr
    clear h8
    rw [decide_eq_false h9] at HEm
    clear h9
    clear h
    go_wp2_with (first | (refine wpList_run _ rfl (HLr.out _ _ (.tmp 44) rfl rfl) ?_) | (refine wpList_run _ rfl (HLm.out _ _ (.tmp 50) rfl rfl) ?_) | (refine wpList_run _ rfl (HLz.out _ _ (.tmp 3) rfl rfl) ?_) | (refine wpList_run _ rfl (HEr.out _ _ _ (.tmp 45) (.tmp 46) rfl rfl rfl) ?_) | (refine wpList_run _ rfl (HEm.out _ _ _ (.tmp 51) (.tmp 52) rfl rfl rfl) ?_))
    go_ret
    exact ⟨rfl, hn⟩
  · rw [decide_eq_true h] at hf
    subst hf
    replace h0 : (s.p == 0) = true := by rw [h0]; rfl
    replace h1 : (s.b == 0) = true := by rw [h1]; rfl
    rw [h2] at c2
    clear h2
    replace h3 : (s.bo == 0) = true := by rw [h3]; rfl
    replace h4 : (s.ve == 0) = true := by rw [h4]; rfl
    replace h5 : (s.ep == 0) = true := by rw [h5]; rfl
    replace h6 : (s.cu == 0) = true := by rw [h6]; rfl
    rw [h7] at c7
    clear h7
    rw [decide_eq_true h8] at HEr
    clear h8
    rw [decide_eq_true h9] at HEm
    clear h9
    clear h
    go_wp2_with (first | (refine wpList_run _ rfl (HLr.out _ _ (.tmp 44) rfl rfl) ?_) | (refine wpList_run _ rfl (HLm.out _ _ (.tmp 50) rfl rfl) ?_) | (refine wpList_run _ rfl (HLz.out _ _ (.tmp 3) rfl rfl) ?_) | (refine wpList_run _ rfl (HEr.out _ _ _ (.tmp 45) (.tmp 46) rfl rfl rfl) ?_) | (refine wpList_run _ rfl (HEm.out _ _ _ (.tmp 51) (.tmp 52) rfl rfl rfl) ?_))
    go_ret
    exact ⟨rfl, hn⟩
end Go.Proofs.Ythlofbkbaabamaa
