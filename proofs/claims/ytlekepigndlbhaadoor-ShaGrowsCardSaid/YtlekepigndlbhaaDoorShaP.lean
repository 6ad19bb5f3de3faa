/-
  The document's words, and what is padded.
-/
import Derived.Test.YtlekepigndlbhaaDoorSha6
import Derived.Test.YtlekepigndlbhaaDoorRef02
import Derived.Maps.AppendAt
namespace Go.Proofs.YtlekepigndlbhaaDoor
open Go.ChangeShapes Go.WideShapes Go.ChangeAt Go.RowKit

theorem exec_words {o : Oper} {a : Act} {w : World} (ho : o.op = .build 52 #[(0, .const (.int .u32 1116352408)), (1, .const (.int .u32 1899447441)), (2, .const (.int .u32 3049323471)), (3, .const (.int .u32 3921009573)), (4, .const (.int .u32 961987163)), (5, .const (.int .u32 1508970993)), (6, .const (.int .u32 2453635748)), (7, .const (.int .u32 2870763221)), (8, .const (.int .u32 3624381080)), (9, .const (.int .u32 310598401)), (10, .const (.int .u32 607225278)), (11, .const (.int .u32 1426881987)), (12, .const (.int .u32 1925078388)), (13, .const (.int .u32 2162078206)), (14, .const (.int .u32 2614888103)), (15, .const (.int .u32 3248222580)), (16, .const (.int .u32 3835390401)), (17, .const (.int .u32 4022224774)), (18, .const (.int .u32 264347078)), (19, .const (.int .u32 604807628)), (20, .const (.int .u32 770255983)), (21, .const (.int .u32 1249150122)), (22, .const (.int .u32 1555081692)), (23, .const (.int .u32 1996064986)), (24, .const (.int .u32 2554220882)), (25, .const (.int .u32 2821834349)), (26, .const (.int .u32 2952996808)), (27, .const (.int .u32 3210313671)), (28, .const (.int .u32 3336571891)), (29, .const (.int .u32 3584528711)), (30, .const (.int .u32 113926993)), (31, .const (.int .u32 338241895)), (32, .const (.int .u32 666307205)), (33, .const (.int .u32 773529912)), (34, .const (.int .u32 1294757372)), (35, .const (.int .u32 1396182291)), (36, .const (.int .u32 1695183700)), (37, .const (.int .u32 1986661051)), (38, .const (.int .u32 2177026350)), (39, .const (.int .u32 2456956037)), (40, .const (.int .u32 2730485921)), (41, .const (.int .u32 2820302411)), (42, .const (.int .u32 3259730800)), (43, .const (.int .u32 3345764771)), (44, .const (.int .u32 3516065817)), (45, .const (.int .u32 3600352804)), (46, .const (.int .u32 4094571909)), (47, .const (.int .u32 275423344)), (48, .const (.int .u32 430227734)), (49, .const (.int .u32 506948616)), (50, .const (.int .u32 659060556)), (51, .const (.int .u32 883997877)), (52, .const (.int .u32 958139571)), (53, .const (.int .u32 1322822218)), (54, .const (.int .u32 1537002063)), (55, .const (.int .u32 1747873779)), (56, .const (.int .u32 1955562222)), (57, .const (.int .u32 2024104815)), (58, .const (.int .u32 2227730452)), (59, .const (.int .u32 2361852424)), (60, .const (.int .u32 2428436474)), (61, .const (.int .u32 2756734187)), (62, .const (.int .u32 3204031479)), (63, .const (.int .u32 3329325298))]) : (execOp a.eval o).run Tryd.prog w = .ok (.value (.agg (KK.map wv).toArray)) w := by
  unfold execOp
  simp only [ho]
  kernel_rfl
theorem kk_len : KK.length = 64 := rfl
set_option maxRecDepth 100000 in
set_option maxHeartbeats 1000000 in
theorem words_any (w : World) : Calls Tryd.prog 34 #[] w fun e w' => e = .returned (.agg (KK.map wv).toArray) ∧ Below w.heap.size w w' := by
  have HZ := Lib.hid (Blk.made w 52 z64w)
  have Hl := Lib.hid (show (KK.map wv).length = z64w.size by rw [List.length_map, kk_len]; rfl)
  have Hl2 := Lib.hid (show (Tryd.prog.info? 52).map (·.size) = some (KK.map wv).length by rw [List.length_map, kk_len]; kernel_rfl)
  have Hl3 := Lib.hid (show (Tryd.prog.info? 52).map (·.size) = some (KK.map wv).toArray.size by rw [List.size_toArray]; exact Hl2.out)
  have HW := Lib.hid (fun (o : Oper) (a : Act) (w : World) ho => exec_words (o := o) (a := a) (w := w) ho)
  have H1 := Lib.hid (wv_one KK)
  generalize KK.map wv = D at *
  have HF := Lib.hid (Blk.fill HZ.out D Hl.out)
  have Hn := Lib.hid (nu_fill D (g := w.heap.size) (Nat.le_refl _) 0 _ (nu_alloc (nu_refl w) (.cells z64w 52)))
  go_enter Tryd.func34, Tryd.ntmps34
  go_wp2_with (first | (refine wpList_run _ rfl (HW.out _ _ _ rfl) ?_) | (refine wpList_store_blk rfl 52 (.tmp 0) (.tmp 1) rfl w.heap.size D rfl rfl 52 z64w HZ.out Hl.out Hl2.out H1.out ?_))
  refine bodyPost_ret (results_blk rfl _ w.heap.size 52 D.toArray rfl HF.out Tryd.underlying52 Hl3.out) rfl ⟨rfl, Hn.out⟩

/-- One byte more, out of a slice that was made for it. -/
theorem wpList_append_byte {ops : Array Oper} {rest : List Oper} {o : Oper} {a : Act} {Q : Exit → Act → World → Prop} (hgd : o.guard = none) (s x : Operand)
    (ho : o.op = .call { callee := .builtin .append, args := #[s, x], argTypes := #[22, 22] }) {w : World} {base : Nat} {v : Value} {xs : List Nat} (hown : OwnB w base 5 v xs) (hb : base ≤ w.heap.size) (hl : xs.length < 140737488355328)
    (y : Int) (n : Nat) (hn : n < 256) (hy : y = (n : Int)) (hs : a.eval s = v) (hx : a.eval x = .slice (some ⟨w.heap.size, 0, none⟩) 1 1)
    (h : ∀ v' w', OwnB w' base 5 v' (xs ++ [n]) → Below base w w' → wpList Tryd.prog ops Q rest (a.put o.dst v') w') : wpList Tryd.prog ops Q (o :: rest) a (w.alloc (.cells #[.int .u8 y] 5)) := by
  subst hy
  obtain ⟨i0, hi, hz0, hz1, hz2⟩ := info_parts info_u8
  have hal := nu_alloc (nu_refl w) (.cells #[.int .u8 (n : Int)] 5)
  refine wpList_append_own _ hgd s x 22 ho base 5 i0 (.int .u8 0) 1 1 Tryd.underlying22 hi hz0 hz1 hz2 rfl (by decide) v xs.length (xs.map vb) hs (ownB_below hown hal).1 ⟨w.heap.size, 0, none⟩ 1 1 [.int .u8 (n : Int)] hx rfl (cell_one_new _ _ _)
    (by intro u hu; obtain rfl := List.mem_singleton.1 hu; rfl) (by unfold maxLen; omega) (by omega) (by simp; omega) ?_
  intro v' w' h1 h2 _
  refine h v' w' ⟨by rw [List.length_append, List.map_append]; exact h1, fun z hz => ?_⟩ ((hal.mono hb).grown h2 (by simp; omega) (fun k hk => (hown.1.lt k hk).1))
  rcases List.mem_append.1 hz with hz | hz
  · exact hown.2 z hz
  · simp at hz
    omega

set_option maxRecDepth 100000 in
set_option maxHeartbeats 4000000 in
theorem padded_any (a : Option Addr) (len cap : Nat) (xs : List Nat) (w : World) (hx : BytesIn w a len cap xs) (hlen : len ≤ 1000000000) :
    Calls Tryd.prog 35 #[.slice a len cap] w fun e w' => ∃ v, e = .returned v ∧ OwnB w' w.heap.size 5 v (pad xs) ∧ Below w.heap.size w w' := by
  obtain ⟨i0, hi, hz0, hz1, hz2⟩ := info_parts info_u8
  obtain ⟨Z, hZ, hmk⟩ := mk_bytes 0 (len + 72) 0 ((len : Int) + 72) rfl (by omega) (by omega) (by omega)
  have hxl := hx.1.1
  have hal := nu_alloc (nu_refl w) (.cells Z.toArray 5)
  have Hmade := Lib.hid (World.ownsRow_made (base := w.heap.size) (e := 5) (size := 1) w Z.toArray (len + 72) (Nat.le_refl _) (by unfold maxLen; omega) (by simpa using hZ))
  have Hx1 := Lib.hid (hx.keep hal)
  have Hsl := Lib.hid (show (xs.map vb).length = len * 1 by rw [List.length_map, hxl]; omega)
  have Hwf := Lib.hid (fun x h => wf_u8_lt (hx.1.2.1 x h))
  have Hi := Lib.hid (And.intro hi (And.intro hz0 (And.intro hz1 hz2)))
  have hgs : w.heap.size ≤ (w.alloc (.cells Z.toArray 5)).heap.size := by simp
  have Hgs := Lib.hid hgs
  have Hal := Lib.hid hal
  have wl : IntKind.u64.wrap (len : Int) = (len : Int) := by rw [IntKind.wrap_u64]; omega
  have Hxl := Lib.hid hxl
  clear hi hz0 hz1 hz2 hZ hx hal hgs hxl
  go_enter Tryd.func35, Tryd.ntmps35
  go_wp2_with (at_builtin; refine wpList_append_src rfl (.tmp 10) (.tmp 11) 22 rfl w.heap.size 5 i0 (.int .u8 0) 1 1 Tryd.underlying22 Hi.out.1 Hi.out.2.1 Hi.out.2.2.1 Hi.out.2.2.2 rfl (by decide) _ 0 [] rfl Hmade.out a len cap (xs.map vb) rfl Hx1.out.2 Hsl.out Hx1.out.src (vb_one _) (by unfold maxLen; omega) (by omega) Hgs.out ?_)
  intro v1 w1 hown1 hg1
  have hb1 : Below w.heap.size w w1 := Hal.out.grown hg1 (by simp) (fun k hk => (Hmade.out.lt k hk).1)
  have HO1 := Lib.hid (show OwnB w1 w.heap.size 5 v1 xs from ⟨by rw [Hxl.out]; simpa using hown1, Hwf.out⟩)
  clear hown1 hg1 Hmade Hx1 Hsl Hgs Hal hmk
  go_wp2_with (at_builtin; refine wpList_append_byte rfl (.tmp 13) (.tmp 14) rfl HO1.out hb1.size (by rw [Hxl.out]; omega) _ 128 (by omega) (by omega) rfl rfl ?_)
  intro v2 w2 hown2 hb2
  have HO2 := Lib.hid hown2
  have hn2 := hb1.trans hb2
  clear hown2 hb2 hb1 HO1
  go_wp2_with fail
  go_loopg [3] (padZ len) (fun gh v wr => ∃ k : Nat, k ≤ padZ len ∧ gh = padZ len - k ∧ OwnB wr w.heap.size 5 v (xs ++ [128] ++ List.replicate k 0) ∧ Below w.heap.size w wr)
  case atStart => exact ⟨0, by omega, by omega, by simpa using HO2.out, hn2⟩
  case round =>
    clear HO2 hn2
    obtain ⟨k, hk, hgh, hO, hb2⟩ := hrel
    have hlen2 : (xs ++ [128] ++ List.replicate k 0).length = len + 1 + k := by simp [Hxl.out]; omega
    obtain ⟨a2, c2, hv2, _, _, _⟩ := hO.reads
    obtain ⟨n2, hn2⟩ : ∃ n, n = (xs ++ [128] ++ List.replicate k 0).length := ⟨_, rfl⟩
    rw [← hn2] at hv2 hlen2
    subst hv2
    have hpz : padZ len < 64 := by unfold padZ; omega
    have HO := Lib.hid hO
    have HB := Lib.hid hb2.size
    have HN := Lib.hid (show (xs ++ [128] ++ List.replicate k 0).length < 140737488355328 by rw [← hn2, hlen2]; omega)
    clear hO hn2
    by_cases hkz : k = padZ len
    · have hn56 : (n2 : Int) % 64 = 56 := by unfold padZ at hkz; omega
      obtain ⟨Zs, hZs⟩ : ∃ Zs, Zs = xs ++ [128] ++ List.replicate (padZ len) 0 := ⟨_, rfl⟩
      have HO3 := Lib.hid (show OwnB wr w.heap.size 5 (.slice a2 n2 c2) (Zs ++ (be8 (8 * len)).take 0) from by rw [List.take_zero, List.append_nil, hZs, ← hkz]; exact HO.out)
      have HZs := Lib.hid hZs
      have HZl := Lib.hid (show (Zs).length = len + 1 + padZ len by rw [hZs]; simp [Hxl.out]; omega)
      clear hZs hgh hkz hlen2 HO HN hk
      obtain ⟨w2, rfl⟩ : ∃ x : World, x = wr := ⟨_, rfl⟩
      go_wp2_with fail
      go_loopw [3, 5] (fun v i wr => ∃ j : Nat, j ≤ 8 ∧ i = .int .i64 (j : Int) ∧ OwnB wr w.heap.size 5 v (Zs ++ (be8 (8 * len)).take j) ∧ Below w.heap.size w wr) (fun _ i _ => 8 - (intOf i).toNat)
      case atStart => exact ⟨0, by omega, rfl, HO3.out, hb2⟩
      case round =>
        clear HO3 hb2 HB hn56
        obtain ⟨j, hj, rfl, hO4, hb2⟩ := hrel
        have HO := Lib.hid hO4
        have HB := Lib.hid hb2.size
        clear hO4
        rcases (show j = 0 ∨ j = 1 ∨ j = 2 ∨ j = 3 ∨ j = 4 ∨ j = 5 ∨ j = 6 ∨ j = 7 ∨ j = 8 by omega) with rfl | rfl | rfl | rfl | rfl | rfl | rfl | rfl | rfl
        · clear hj
          go_wp2_with (at_builtin; refine wpList_append_byte rfl (.tmp 31) (.tmp 39) rfl HO.out HB.out (by rw [List.length_append, HZl.out, List.length_take]; omega) _ (8 * len / 72057594037927936 % 256) (by omega) (by omega) rfl rfl ?_)
          intro v' w3 hown3 hb3
          have Hown3 := Lib.hid (show OwnB w3 w.heap.size 5 v' (Zs ++ (be8 (8 * len)).take 1) from by first | exact hown3 | (have h := hown3; simp only [List.append_assoc] at h; exact h))
          have hb4 := hb2.trans hb3
          clear hown3 hb3
          go_wp2_with fail
          go_roundw
          case rel => first | exact ⟨1, by omega, by first | rfl | go_num, Hown3.out, hb4⟩ | ((repeat apply Exists.intro); exact ⟨⟨1, by omega, by first | rfl | go_num, Hown3.out, hb4⟩, rfl⟩)
          case measure => simp [intOf]
        · clear hj
          go_wp2_with (at_builtin; refine wpList_append_byte rfl (.tmp 31) (.tmp 39) rfl HO.out HB.out (by rw [List.length_append, HZl.out, List.length_take]; omega) _ (8 * len / 281474976710656 % 256) (by omega) (by omega) rfl rfl ?_)
          intro v' w3 hown3 hb3
          have Hown3 := Lib.hid (show OwnB w3 w.heap.size 5 v' (Zs ++ (be8 (8 * len)).take 2) from by first | exact hown3 | (have h := hown3; simp only [List.append_assoc] at h; exact h))
          have hb4 := hb2.trans hb3
          clear hown3 hb3
          go_wp2_with fail
          go_roundw
          case rel => first | exact ⟨2, by omega, by first | rfl | go_num, Hown3.out, hb4⟩ | ((repeat apply Exists.intro); exact ⟨⟨2, by omega, by first | rfl | go_num, Hown3.out, hb4⟩, rfl⟩)
          case measure => simp [intOf]
        · clear hj
          go_wp2_with (at_builtin; refine wpList_append_byte rfl (.tmp 31) (.tmp 39) rfl HO.out HB.out (by rw [List.length_append, HZl.out, List.length_take]; omega) _ (8 * len / 1099511627776 % 256) (by omega) (by omega) rfl rfl ?_)
          intro v' w3 hown3 hb3
          have Hown3 := Lib.hid (show OwnB w3 w.heap.size 5 v' (Zs ++ (be8 (8 * len)).take 3) from by first | exact hown3 | (have h := hown3; simp only [List.append_assoc] at h; exact h))
          have hb4 := hb2.trans hb3
          clear hown3 hb3
          go_wp2_with fail
          go_roundw
          case rel => first | exact ⟨3, by omega, by first | rfl | go_num, Hown3.out, hb4⟩ | ((repeat apply Exists.intro); exact ⟨⟨3, by omega, by first | rfl | go_num, Hown3.out, hb4⟩, rfl⟩)
          case measure => simp [intOf]
        · clear hj
          go_wp2_with (at_builtin; refine wpList_append_byte rfl (.tmp 31) (.tmp 39) rfl HO.out HB.out (by rw [List.length_append, HZl.out, List.length_take]; omega) _ (8 * len / 4294967296 % 256) (by omega) (by omega) rfl rfl ?_)
          intro v' w3 hown3 hb3
          have Hown3 := Lib.hid (show OwnB w3 w.heap.size 5 v' (Zs ++ (be8 (8 * len)).take 4) from by first | exact hown3 | (have h := hown3; simp only [List.append_assoc] at h; exact h))
          have hb4 := hb2.trans hb3
          clear hown3 hb3
          go_wp2_with fail
          go_roundw
          case rel => first | exact ⟨4, by omega, by first | rfl | go_num, Hown3.out, hb4⟩ | ((repeat apply Exists.intro); exact ⟨⟨4, by omega, by first | rfl | go_num, Hown3.out, hb4⟩, rfl⟩)
          case measure => simp [intOf]
        · clear hj
          go_wp2_with (at_builtin; refine wpList_append_byte rfl (.tmp 31) (.tmp 39) rfl HO.out HB.out (by rw [List.length_append, HZl.out, List.length_take]; omega) _ (8 * len / 16777216 % 256) (by omega) (by omega) rfl rfl ?_)
          intro v' w3 hown3 hb3
          have Hown3 := Lib.hid (show OwnB w3 w.heap.size 5 v' (Zs ++ (be8 (8 * len)).take 5) from by first | exact hown3 | (have h := hown3; simp only [List.append_assoc] at h; exact h))
          have hb4 := hb2.trans hb3
          clear hown3 hb3
          go_wp2_with fail
          go_roundw
          case rel => first | exact ⟨5, by omega, by first | rfl | go_num, Hown3.out, hb4⟩ | ((repeat apply Exists.intro); exact ⟨⟨5, by omega, by first | rfl | go_num, Hown3.out, hb4⟩, rfl⟩)
          case measure => simp [intOf]
        · clear hj
          go_wp2_with (at_builtin; refine wpList_append_byte rfl (.tmp 31) (.tmp 39) rfl HO.out HB.out (by rw [List.length_append, HZl.out, List.length_take]; omega) _ (8 * len / 65536 % 256) (by omega) (by omega) rfl rfl ?_)
          intro v' w3 hown3 hb3
          have Hown3 := Lib.hid (show OwnB w3 w.heap.size 5 v' (Zs ++ (be8 (8 * len)).take 6) from by first | exact hown3 | (have h := hown3; simp only [List.append_assoc] at h; exact h))
          have hb4 := hb2.trans hb3
          clear hown3 hb3
          go_wp2_with fail
          go_roundw
          case rel => first | exact ⟨6, by omega, by first | rfl | go_num, Hown3.out, hb4⟩ | ((repeat apply Exists.intro); exact ⟨⟨6, by omega, by first | rfl | go_num, Hown3.out, hb4⟩, rfl⟩)
          case measure => simp [intOf]
        · clear hj
          go_wp2_with (at_builtin; refine wpList_append_byte rfl (.tmp 31) (.tmp 39) rfl HO.out HB.out (by rw [List.length_append, HZl.out, List.length_take]; omega) _ (8 * len / 256 % 256) (by omega) (by omega) rfl rfl ?_)
          intro v' w3 hown3 hb3
          have Hown3 := Lib.hid (show OwnB w3 w.heap.size 5 v' (Zs ++ (be8 (8 * len)).take 7) from by first | exact hown3 | (have h := hown3; simp only [List.append_assoc] at h; exact h))
          have hb4 := hb2.trans hb3
          clear hown3 hb3
          go_wp2_with fail
          go_roundw
          case rel => first | exact ⟨7, by omega, by first | rfl | go_num, Hown3.out, hb4⟩ | ((repeat apply Exists.intro); exact ⟨⟨7, by omega, by first | rfl | go_num, Hown3.out, hb4⟩, rfl⟩)
          case measure => simp [intOf]
        · clear hj
          go_wp2_with (at_builtin; refine wpList_append_byte rfl (.tmp 31) (.tmp 39) rfl HO.out HB.out (by rw [List.length_append, HZl.out, List.length_take]; omega) _ (8 * len % 256) (by omega) (by omega) rfl rfl ?_)
          intro v' w3 hown3 hb3
          have Hown3 := Lib.hid (show OwnB w3 w.heap.size 5 v' (Zs ++ (be8 (8 * len)).take 8) from by first | exact hown3 | (have h := hown3; simp only [List.append_assoc] at h; exact h))
          have hb4 := hb2.trans hb3
          clear hown3 hb3
          go_wp2_with fail
          go_roundw
          case rel => first | exact ⟨8, by omega, by first | rfl | go_num, Hown3.out, hb4⟩ | ((repeat apply Exists.intro); exact ⟨⟨8, by omega, by first | rfl | go_num, Hown3.out, hb4⟩, rfl⟩)
          case measure => simp [intOf]
        · clear hj
          have Hfin := Lib.hid (show OwnB wr w.heap.size 5 u3 (pad xs) from by have h := HO.out; rw [HZs.out] at h; rw [pad, Hxl.out]; exact h)
          clear HO
          go_wp2_with fail
          go_ret
          exact ⟨_, rfl, Hfin.out, hb2⟩
    · have hn56 : ¬ (n2 : Int) % 64 = 56 := by
        intro h
        apply hkz
        unfold padZ at *
        omega
      have hn56b : ((n2 : Int) % 64 != 56) = true := by simp [hn56]
      have Hk := Lib.hid (And.intro hk (And.intro hgh hkz))
      clear hlen2 hgh hk hkz
      go_wp2_with (at_builtin; refine wpList_append_byte rfl (.tmp 20) (.tmp 21) rfl HO.out HB.out HN.out _ 0 (by omega) (by omega) rfl rfl ?_)
      intro v3 w3 hO3 hb3
      have hb4 := hb2.trans hb3
      have HO3 := Lib.hid hO3
      clear hO3 hb3
      go_wp2_with fail
      go_roundg (padZ len - (k + 1))
      case measure => have h1 := Hk.out; omega
      case rel => exact ⟨k + 1, by have h1 := Hk.out; omega, rfl, by have h := HO3.out; rw [← List.replicate_succ'] at h; rw [List.append_assoc]; exact h, hb4⟩
end Go.Proofs.YtlekepigndlbhaaDoor
