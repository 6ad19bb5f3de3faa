/-
  The walks of the document's with and Block.
-/
import Derived.Test.YtlekepigndlbhaaDoorRefIs
import Derived.Test.YtlekepigndlbhaaDoorJoin
import Derived.Test.YtlekepigndlbhaaDoorMacO
import Derived.Laws.BitsAllLaws
namespace Go.Proofs.YtlekepigndlbhaaDoor
open Go.ChangeShapes Go.WideShapes Go.ChangeAt Go.RowKit

theorem own_nil (w : World) (base : Nat) : OwnB w base 5 (.slice none 0 0) [] := ⟨⟨rfl, .inl ⟨rfl, rfl⟩⟩, fun x hx => by cases hx⟩
theorem xr_snoc (xs : List Nat) (x k y : Nat) (hy : xs[k]? = some y) : xr (xs.take (k + 1)) x = xr (xs.take k) x ++ [y ^^^ x] := by
  unfold xr
  rw [List.take_add_one, hy, List.map_append]
  rfl

set_option maxRecDepth 100000 in
set_option maxHeartbeats 1000000 in
theorem with_any (a : Option Addr) (len cap : Nat) (xs : List Nat) (x : Nat) (X : Int) (hX : X = (x : Int)) (hx8 : x < 256) (w : World) (hx : BytesIn w a len cap xs) (hlen : len ≤ 140737488355310) :
    Calls Tryd.prog 38 #[.slice a len cap, .int .u8 X] w fun e w' => ∃ v, e = .returned v ∧ OwnB w' w.heap.size 5 v (xr xs x) ∧ Below w.heap.size w w' := by
  have Hx := Lib.hid hx
  have HX := Lib.hid hX
  have Hxx := Lib.hid (fun x h => wf_u8_lt (hx.1.2.1 x h))
  have H0 := Lib.hid (own_nil w w.heap.size)
  clear hx hX
  go_enter Tryd.func38, Tryd.ntmps38
  go_wp2_with fail
  go_loopw [5, 6] (fun v i wr => ∃ k : Nat, k ≤ len ∧ i = .int .i64 k ∧ OwnB wr w.heap.size 5 v (xr (xs.take k) x) ∧ Below w.heap.size w wr) (fun _ i _ => len - (intOf i).toNat)
  case atStart => exact ⟨0, by omega, rfl, by simpa [xr] using H0.out, nu_refl _⟩
  case round =>
    clear H0
    obtain ⟨k, hk, rfl, hO, hn⟩ := hrel
    have HO := Lib.hid hO
    clear hO
    by_cases hlt : k < len
    · have hi : (k : Int) < (len : Int) := by omega
      have hXk := Hx.out.keep hn
      obtain ⟨b, off, y, rfl, hb, hy, hwy, hc⟩ := hXk.1.elem k hlt
      have hy8 := wf_u8_lt hwy
      have e1 : bits .xor .u8 (y : Int) X = ((y ^^^ x : Nat) : Int) := by rw [HX.out]; exact u8_xor_nat y x hy8 hx8
      have Hs := Lib.hid (xr_snoc xs x k y hy)
      have hz8 : y ^^^ x < 256 := Nat.xor_lt_two_pow (n := 8) hy8 hx8
      have Hl := Lib.hid (show (xr (xs.take k) x).length < 140737488355328 by rw [xr_len, List.length_take]; omega)
      clear hXk hy hwy hy8
      generalize y ^^^ x = z at *
      go_wp2_with (at_builtin; refine wpList_append_byte rfl (.tmp 13) (.tmp 20) rfl HO.out hn.size Hl.out _ z hz8 rfl rfl rfl ?_)
      intro v2 w2 hO2 hb2
      have HO2 := Lib.hid (show OwnB w2 w.heap.size 5 v2 (xr (xs.take (k + 1)) x) by rw [Hs.out]; exact hO2)
      have hn2 := hn.trans hb2
      clear hO2 hb2 HO Hl hc
      go_wp2_with fail
      go_roundw
      case rel => first | exact ⟨k + 1, by omega, by go_num, HO2.out, hn2⟩ | ((repeat apply Exists.intro); exact ⟨⟨k + 1, by omega, by go_num, HO2.out, hn2⟩, rfl⟩)
      case measure => simp [intOf]; omega
    · obtain rfl : k = len := by omega
      have hO := HO.out
      rw [List.take_of_length_le (by rw [Hx.out.1.1]; exact Nat.le_refl _)] at hO
      have HO2 := Lib.hid hO
      clear hO HO
      go_wp2_with fail
      go_ret
      exact ⟨_, rfl, HO2.out, hn⟩

set_option maxRecDepth 100000 in
set_option maxHeartbeats 1000000 in
theorem block4_any (a : Option Addr) (len cap : Nat) (key : List Nat) (w : World) (hx : BytesIn w a len cap key) (hlen : len ≤ 1000000000) :
    Calls Tryd.prog 39 #[.slice a len cap] w fun e w' => ∃ v, e = .returned v ∧ OwnB w' w.heap.size 5 v (kb key) ∧ Below w.heap.size w w' := by
  have Hxl := Lib.hid hx.1.1
  have hcopy := Lib.hid (copy_any a len cap key w hx (by omega))
  have Hkl := Lib.hid (hk_len key)
  have Hkb := Lib.hid (show kb key = hk key ++ List.replicate (64 - (hk key).length) 0 from rfl)
  clear hx
  go_enter Tryd.func39, Tryd.ntmps39
  go_wp2_with fail
  refine hcopy.out.mono ?_
  rintro e w1 ⟨v1, rfl, hO1, hn1⟩
  obtain ⟨a1, c1, rfl, hlc, hcm, hby⟩ := hO1.reads
  rw [Hxl.out] at hlc hby ⊢
  have HO1 := Lib.hid hO1
  have HB1 := Lib.hid hby
  rw [Hxl.out] at HO1
  clear hO1 hby hcopy
  go_upto_if 9 with fail
  go_cut [3] (fun s3 wx => OwnB wx w.heap.size 5 s3 (hk key) ∧ Below w.heap.size w wx)
  case first =>
    by_cases hg : 64 < len
    · have hi : (64 : Int) < (len : Int) := by omega
      obtain ⟨D, hD⟩ : ∃ D, digest key = D := ⟨_, rfl⟩
      have HD := Lib.hid hD
      have HDl := Lib.hid (show D.length = 32 by rw [← hD, digest_len])
      have HDx := Lib.hid (show ∀ x ∈ D, x < 256 by rw [← hD]; exact digest_lt key)
      have HDk := Lib.hid (show hk key = D by unfold hk; rw [if_pos (by rw [Hxl.out]; exact hg), hD])
      have HW := Lib.hid (refOf_is hD HB1.out (by omega))
      clear hD
      go_wp2_with fail
      refine HW.out.mono ?_
      rintro e w2 ⟨rfl, hb2⟩
      have hn2 := nu_trans hn1 hb2
      have HZ := Lib.hid (Blk.made w2 25 z32)
      have Hl := Lib.hid (show (D.map vb).length = z32.size by rw [List.length_map, HDl.out]; rfl)
      have Hsz := Lib.hid (show (Tryd.prog.info? 25).map (·.size) = some (D.map vb).length by rw [List.length_map, HDl.out]; kernel_rfl)
      have H1 := Lib.hid (vb_one D)
      have HF := Lib.hid (Blk.fill HZ.out (D.map vb) Hl.out)
      have hn3 := nu_trans hn2 (nu_fill (D.map vb) (g := w2.heap.size) (Nat.le_refl _) 0 _ (nu_alloc (nu_refl w2) (.cells z32 25)))
      clear HW hb2 hn1 hn2
      go_upto_region 4 with (refine wpList_store_blk rfl 25 (.tmp 4) (.tmp 11) rfl w2.heap.size (D.map vb) rfl rfl 25 z32 HZ.out Hl.out Hsz.out H1.out ?_)
      generalize (w2.alloc (.cells z32 25)).setCells w2.heap.size 0 (D.map vb) = w3 at *
      have hcopy2 := Lib.hid (copy_any (some ⟨w2.heap.size, 0, none⟩) 32 32 D w3 (bytes_blk HF.out HDl.out HDx.out) (by omega))
      go_wp2_with fail
      refine hcopy2.out.mono ?_
      rintro e w4 ⟨v4, rfl, hO4, hb4⟩
      have HO4 := Lib.hid (show OwnB w4 w.heap.size 5 v4 (hk key) by rw [HDk.out]; exact own_mono hO4 hn3.size)
      have hn4 := nu_trans hn3 hb4
      clear hO4 hb4 hn3 hcopy2
      go_wp2_with fail
      go_meet
      case rel => exact ⟨HO4.out, hn4⟩
    · have hi : ¬ (64 : Int) < (len : Int) := by omega
      have HDk := Lib.hid (show hk key = key by unfold hk; rw [if_neg (by rw [Hxl.out]; exact hg)])
      go_wp2_with fail
      go_meet
      case rel => exact ⟨by rw [HDk.out]; exact HO1.out, hn1⟩
  case rest =>
    obtain ⟨hO, hn⟩ := hcut
    have HO := Lib.hid hO
    clear hO HO1 HB1 hn1
    obtain ⟨K, hK⟩ : ∃ K, K = hk key := ⟨_, rfl⟩
    rw [← hK] at Hkl Hkb HO
    clear hK
    go_wp2_with fail
    go_loopg [3] (64 - K.length) (fun gh v wr => ∃ k : Nat, k ≤ 64 - K.length ∧ gh = 64 - K.length - k ∧ OwnB wr w.heap.size 5 v (K ++ List.replicate k 0) ∧ Below w.heap.size w wr)
    case atStart => exact ⟨0, by omega, by omega, by simpa using HO.out, hn⟩
    case round =>
      clear HO hn
      obtain ⟨k, hk, hgh, hO, hn⟩ := hrel
      obtain ⟨a2, c2, hv2, _, _, _⟩ := hO.reads
      obtain ⟨L, hL⟩ : ∃ L, L = (K ++ List.replicate k 0).length := ⟨_, rfl⟩
      rw [← hL] at hv2
      subst hv2
      have hL2 : L = K.length + k := by rw [hL, List.length_append, List.length_replicate]
      have HO := Lib.hid hO
      have Hlb := Lib.hid (show (K ++ List.replicate k 0).length < 140737488355328 by rw [← hL]; have := Hkl.out; omega)
      have hK64 := Hkl.out
      have hL3 : L ≤ K.length + k := by omega
      have hL4 : K.length + k ≤ L := by omega
      clear hO hL hL2
      by_cases hlt : L < 64
      · have hi : (L : Int) < 64 := by omega
        go_wp2_with (at_builtin; refine wpList_append_byte rfl (.tmp 17) (.tmp 18) rfl HO.out hn.size Hlb.out _ 0 (by omega) rfl rfl rfl ?_)
        intro v3 w3 hO3 hb3
        have HO3 := Lib.hid (show OwnB w3 w.heap.size 5 v3 (K ++ List.replicate (k + 1) 0) by rw [List.replicate_succ']; exact hO3)
        have hn3 := hn.trans hb3
        clear hO3 hb3 HO Hlb
        go_wp2_with fail
        go_roundg (64 - K.length - (k + 1))
        case rel => first | exact ⟨k + 1, by omega, by omega, HO3.out, hn3⟩ | ((repeat apply Exists.intro); exact ⟨⟨k + 1, by omega, by omega, HO3.out, hn3⟩, rfl⟩)
        case measure => omega
      · have hi : ¬ (L : Int) < 64 := by omega
        have hk2 : k = 64 - K.length := by omega
        have HF := Lib.hid (show OwnB wr w.heap.size 5 (.slice a2 L c2) (kb key) by rw [Hkb.out, ← hk2]; exact HO.out)
        clear HO hk2 hgh hk
        go_wp2_with fail
        go_ret
        exact ⟨_, rfl, HF.out, hn⟩
end Go.Proofs.YtlekepigndlbhaaDoor
