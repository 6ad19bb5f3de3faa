/-
  The walk of the document's Blocks (law07).
-/
import Derived.Test.YtnojbjconiddoaaGhW3
import Derived.Laws.OwnMore
import Derived.Deep.AppendLies
namespace Go.Proofs.Ytnojbjconiddoaa
open Go.ChangeShapes Go.WideShapes Go.ChangeAt Go.RowKit
set_option linter.unusedSimpArgs false

theorem info_16 : (Try.prog.info? 22).map (fun i => (i.zero, i.size, i.bytes)) = some (some (.agg z16l.toArray), 16, 16) := by kernel_rfl
/-- The bytes so far, in whole blocks. -/
def flat16 (xs : List Nat) (k n : Nat) : List Value := (xs.take k ++ List.replicate (16 * n - k) 0).map vb

theorem own_drew {w : World} {base : Nat} {e : TypeId} {size : Nat} {v : Value} {n : Nat} {xs : List Value} (h : w.ownsRow base e size v n xs) : w.drew.ownsRow base e size v n xs :=
  h.kept (row := none) ⟨rfl, rfl, rfl, Nat.le_refl _, fun _ _ _ => rfl⟩ (by cases v.ownBlock <;> simp)
theorem flat16_at (xs : List Nat) (k n : Nat) (hk : k < xs.length) (hn : k < 16 * n) : (flat16 xs k n)[k]? = some (vb 0) := by
  unfold flat16
  rw [List.getElem?_map, List.getElem?_append_right (by rw [List.length_take]; omega), List.length_take, List.getElem?_replicate, if_pos (by omega)]
  rfl
theorem flat16_set (xs : List Nat) (k n x : Nat) (hx : xs[k]? = some x) (hn : k < 16 * n) : (flat16 xs k n).set k (vb x) = flat16 xs (k + 1) n := by
  unfold flat16
  have hk := (List.getElem?_eq_some_iff.1 hx).1
  rw [← List.map_set, List.set_append, if_neg (by rw [List.length_take]; omega), List.length_take, show k - min k xs.length = 0 by omega, show 16 * n - k = (16 * n - (k + 1)) + 1 by omega, List.replicate_succ, List.set_cons_zero, List.take_add_one, hx]
  simp
theorem flat16_next (xs : List Nat) (k q : Nat) (hk : k = 16 * q) : flat16 xs k q ++ z16l = flat16 xs k (q + 1) := by
  unfold flat16
  rw [show z16l = (List.replicate 16 0).map vb from rfl, ← List.map_append, show 16 * q - k = 0 by omega, show 16 * (q + 1) - k = 16 by omega]
  simp
set_option maxRecDepth 100000 in
set_option maxHeartbeats 2000000 in
theorem blocks_any (a : Option Addr) (len cap : Nat) (xs : List Nat) (w : World) (hx : BytesIn w a len cap xs) (hlen : len ≤ 2000) :
    Calls Try.prog 39 #[.slice a len cap] w fun e w' => ∃ v, e = .returned v ∧ w'.ownsRow w.heap.size 22 16 v ((len + 15) / 16) (flat16 xs len ((len + 15) / 16)) ∧ Below w.heap.size w w' := by
  obtain ⟨i0, hi, hz0, hz1, hz2⟩ := info_parts info_16
  have Hl := Lib.hid hx.1.1
  have Hx := Lib.hid hx
  clear hx
  go_enter Try.func39, Try.ntmps39
  go_wp2_with fail
  go_loopw [3, 4] (fun v i wr => ∃ k : Nat, k ≤ len ∧ i = .int .i64 k ∧ wr.ownsRow w.heap.size 22 16 v ((k + 15) / 16) (flat16 xs k ((k + 15) / 16)) ∧ Below w.heap.size w wr) (fun _ i _ => len - (intOf i).toNat)
  case atStart => exact ⟨0, by omega, rfl, by simpa [flat16] using World.ownsRow_nil w _ _ _, Below.refl _ _⟩
  case round =>
    obtain ⟨k, hk, rfl, hown, hb⟩ := hrel
    by_cases hlt : k < len
    · have hki : (k : Int) < (len : Int) := by omega
      obtain ⟨q, r, hkq, hr⟩ : ∃ q r, k = 16 * q + r ∧ r < 16 := ⟨k / 16, k % 16, by omega, by omega⟩
      have etq : Int.tdiv (k : Int) 16 = (q : Int) := by rw [Int.tdiv_eq_ediv_of_nonneg (by omega)]; omega
      have etr : Int.tmod (k : Int) 16 = (r : Int) := by rw [Int.tmod_eq_emod_of_nonneg (by omega)]; omega
      have ek : (k : Int) / 16 = (q : Int) := by omega
      have em : (k : Int) % 16 = (r : Int) := by omega
      have wq : IntKind.i64.wrap (q : Int) = (q : Int) := by rw [IntKind.wrap_i64]; omega
      have wr' : IntKind.i64.wrap (r : Int) = (r : Int) := by rw [IntKind.wrap_i64]; omega
      have Hkq := Lib.hid hkq
      clear hkq
      obtain ⟨n, hn⟩ : ∃ n, n = q + 1 := ⟨_, rfl⟩
      have hn0 : 0 < n := by omega
      have hqn : (q : Int) < (n : Int) := by omega
      have hri : (r : Int) < 16 := by omega
      have Hn := Lib.hid hn
      clear hn
      by_cases hr0 : r = 0
      · have tr : ((r : Int) == 0) = true := by rw [hr0]; rfl
        have Hr0 := Lib.hid hr0
        clear hr0
        have hown2 := Lib.hid hown
        have Hb := Lib.hid hb
        clear hown
        go_wp2_with (at_builtin; refine wpList_append_own _ rfl (.tmp 14) (.tmp 16) 67 rfl w.heap.size 22 i0 (.agg z16l.toArray) 16 16 Try.underlying67 hi hz0 hz1 hz2 rfl (by decide) _ _ _ rfl (hown2.out.alloc _) ⟨wr.heap.size, 0, none⟩ 1 1 z16l rfl rfl ?c1 ?c2 ?c3 ?c4 ?c5 ?_)
        case c1 => intro j u hu; rw [Addr.add_lit, Nat.zero_add]; exact (Blk.made wr 22 z16l.toArray).at j u (by simpa using hu)
        case c2 => decide
        case c3 => unfold maxLen; omega
        case c4 => omega
        case c5 => simp; have := Hb.out.size; omega
        intro v' w3 hown3 hg3 _
        have hb3 := (Hb.out.alloc Hb.out.size (.cells z16l.toArray 22)).grown hg3 (by simp; have := Hb.out.size; omega) (fun k hk => (hown2.out.lt k hk).1)
        have hE : w3.ownsRow w.heap.size 22 16 v' n (flat16 xs k n) := by
          have h := hown3
          have e1 : (k + 15) / 16 = q := by have := Hkq.out; have := Hr0.out; omega
          rw [e1, flat16_next xs k q (by have := Hkq.out; have := Hr0.out; omega), ← Hn.out] at h
          exact h
        clear hown3 hg3 hown2 Hb hb
        have HE := Lib.hid hE
        obtain ⟨M, cp, rfl, hMb, hMl⟩ := World.ownsRow.form HE.out hn0
        have HMb := Lib.hid hMb
        obtain ⟨b1, o1, x, ha, _, hxk, _, hcx⟩ := (Hx.out.keep hb3).1.elem k hlt
        have Hxk := Lib.hid hxk
        clear hxk
        have HFk := Lib.hid (flat16_at xs k n (by rw [Hl.out]; exact hlt) (by rw [Hkq.out, Hn.out]; omega))
        have HFs := Lib.hid (flat16_set xs k n x Hxk.out (by rw [Hkq.out, Hn.out]; omega))
        have Hb3 := Lib.hid hb3
        clear hE hMb hMl hb3
        subst ha
        have Hadr := Lib.hid (show q * 16 + r = k by have := Hkq.out; omega)
        go_upto_region 7 with fail
        go_still_tail 10, (by kernel_rfl)
        change wpList _ _ _ _ _ (World.drew _)
        have hE4 := own_drew HE.out
        have hn4 := Hb3.out.drew
        generalize World.drew _ = w4 at *
        have f0 := hE4.frozenAt (q * 16 + r)
        have d0 : w4.cell? ⟨M, q * 16 + r, none⟩ = some (.int .u8 0) := by
          have h := hE4.cellAt k (by have := Hkq.out; have := Hn.out; omega)
          rw [HFk.out] at h
          rw [Hadr.out]
          exact h
        have hS := (hE4.stored k (vb x)).1
        rw [HFs.out] at hS
        have HS := Lib.hid (show (w4.setCell ⟨M, q * 16 + r, none⟩ (.int .u8 (x : Int))).ownsRow w.heap.size 22 16 (.slice (some ⟨M, 0, none⟩) n cp) ((k + 1 + 15) / 16) (flat16 xs (k + 1) ((k + 1 + 15) / 16)) by
          rw [Hadr.out, show (k + 1 + 15) / 16 = n by have := Hkq.out; have := Hn.out; omega]
          exact hS)
        have Hn5 := Lib.hid (nu_set hn4 (p := ⟨M, q * 16 + r, none⟩) HMb.out (.int .u8 (x : Int)))
        clear hS hE4 hn4 hcx
        go_wp2_with fail
        go_roundw
        case rel => first | exact ⟨k + 1, by omega, by go_num, HS.out, Hn5.out⟩ | ((repeat apply Exists.intro); exact ⟨⟨k + 1, by omega, by go_num, HS.out, Hn5.out⟩, rfl⟩)
        case measure => simp [intOf]; omega
      · have tr : ((r : Int) == 0) = false := by rw [beq_eq_false_iff_ne]; omega
        have e1 : (k + 15) / 16 = n := by have := Hkq.out; have := Hn.out; omega
        have hE := hown
        rw [e1] at hE
        have hb3 := hb
        clear hown hb e1
        have HE := Lib.hid hE
        obtain ⟨M, cp, rfl, hMb, hMl⟩ := World.ownsRow.form HE.out hn0
        have HMb := Lib.hid hMb
        obtain ⟨b1, o1, x, ha, _, hxk, _, hcx⟩ := (Hx.out.keep hb3).1.elem k hlt
        have Hxk := Lib.hid hxk
        clear hxk
        have HFk := Lib.hid (flat16_at xs k n (by rw [Hl.out]; exact hlt) (by rw [Hkq.out, Hn.out]; omega))
        have HFs := Lib.hid (flat16_set xs k n x Hxk.out (by rw [Hkq.out, Hn.out]; omega))
        have Hb3 := Lib.hid hb3
        clear hE hMb hMl hb3
        subst ha
        have Hadr := Lib.hid (show q * 16 + r = k by have := Hkq.out; omega)
        go_upto_region 7 with fail
        go_still_tail 10, (by kernel_rfl)
        change wpList _ _ _ _ _ (World.drew _)
        have hE4 := own_drew HE.out
        have hn4 := Hb3.out.drew
        generalize World.drew _ = w4 at *
        have f0 := hE4.frozenAt (q * 16 + r)
        have d0 : w4.cell? ⟨M, q * 16 + r, none⟩ = some (.int .u8 0) := by
          have h := hE4.cellAt k (by have := Hkq.out; have := Hn.out; omega)
          rw [HFk.out] at h
          rw [Hadr.out]
          exact h
        have hS := (hE4.stored k (vb x)).1
        rw [HFs.out] at hS
        have HS := Lib.hid (show (w4.setCell ⟨M, q * 16 + r, none⟩ (.int .u8 (x : Int))).ownsRow w.heap.size 22 16 (.slice (some ⟨M, 0, none⟩) n cp) ((k + 1 + 15) / 16) (flat16 xs (k + 1) ((k + 1 + 15) / 16)) by
          rw [Hadr.out, show (k + 1 + 15) / 16 = n by have := Hkq.out; have := Hn.out; omega]
          exact hS)
        have Hn5 := Lib.hid (nu_set hn4 (p := ⟨M, q * 16 + r, none⟩) HMb.out (.int .u8 (x : Int)))
        clear hS hE4 hn4 hcx
        go_wp2_with fail
        go_roundw
        case rel => first | exact ⟨k + 1, by omega, by go_num, HS.out, Hn5.out⟩ | ((repeat apply Exists.intro); exact ⟨⟨k + 1, by omega, by go_num, HS.out, Hn5.out⟩, rfl⟩)
        case measure => simp [intOf]; omega
    · obtain rfl : k = len := by omega
      have Hown := Lib.hid hown
      go_wp2_with fail
      go_ret
      exact ⟨_, rfl, Hown.out, hb⟩
end Go.Proofs.Ytnojbjconiddoaa
