/-
  An append of bytes onto an own row, in the words of bytes; what parts make (great, Join).
-/
import Derived.Test.YtlekepigndlbhaaDoorShaG
import Derived.Test.YtlekepigndlbhaaDoorMac1
import Derived.Test.YtlekepigndlbhaaDoorLent
import Derived.Lib.MinMax
namespace Go.Proofs.YtlekepigndlbhaaDoor
open Go.ChangeShapes Go.WideShapes Go.ChangeAt Go.RowKit

theorem wpList_append_bytes {ops : Array Oper} {rest : List Oper} {o : Oper} {a : Act} {Q : Exit → Act → World → Prop} (hgd : o.guard = none) (s x : Operand)
    (ho : o.op = .call { callee := .builtin .append, args := #[s, x], argTypes := #[22, 22] }) {w : World} {base : Nat} {v : Value} {xs ys : List Nat} (hown : OwnB w base 5 v xs) (hb : base ≤ w.heap.size)
    {ao : Option Addr} {m c : Nat} (hy : BytesIn w ao m c ys) (hl : xs.length + m ≤ 140737488355320) (hs : a.eval s = v) (hx : a.eval x = .slice ao m c)
    (h : ∀ v' w', OwnB w' base 5 v' (xs ++ ys) → Below base w w' → wpList Tryd.prog ops Q rest (a.put o.dst v') w') : wpList Tryd.prog ops Q (o :: rest) a w := by
  obtain ⟨i0, hi, hz0, hz1, hz2⟩ := info_parts info_u8
  refine wpList_append_src hgd s x 22 ho base 5 i0 (.int .u8 0) 1 1 Tryd.underlying22 hi hz0 hz1 hz2 rfl (by decide) v xs.length (xs.map vb) hs hown.1 ao m c (ys.map vb) hx hy.2 (by rw [List.length_map, hy.1.1, Nat.mul_one]) hy.src (vb_one _) (by unfold maxLen; omega) (by omega) hb ?_
  intro v' w' hown' hg
  refine h v' w' ⟨?_, fun z hz => ?_⟩ ?_
  · rw [List.length_append, hy.1.1, List.map_append]
    exact hown'
  · rcases List.mem_append.1 hz with hz | hz
    · exact hown.2 z hz
    · exact wf_u8_lt (hy.1.2.1 z hz)
  · exact (Below.refl base w).grown hg hb (fun k hk => (hown.1.lt k hk).1)

set_option maxRecDepth 100000 in
set_option maxHeartbeats 1000000 in
theorem great3_any {w : World} {a : Option Addr} {len cap : Nat} {ps : List (List Nat)} (h : PartsIn w a len ps) (hm : len ≤ maxLen) (v : Bool) (hv : decide (20000 < gsum ps) = v) :
    Calls Tryd.prog 18 #[.slice a len cap] w fun e w' => e = .returned (.bool v) ∧ w' = w := by
  have HP := Lib.hid h
  have Hv := Lib.hid hv
  have hm64 : len ≤ 9223372036854775807 := by unfold maxLen at hm; omega
  clear h hm hv
  go_enter Tryd.func18, Tryd.ntmps18
  go_wp2_with fail
  go_loop [3, 4] (fun n i => ∃ k N : Nat, k ≤ len ∧ i = .int .i64 k ∧ n = .int .i64 N ∧ N = gsum (ps.take k) ∧ N ≤ 40002) (fun _ i => len - (intOf i).toNat)
  case atStart => exact ⟨0, 0, by omega, rfl, rfl, by simp [gsum], by omega⟩
  case round =>
    obtain ⟨k, N, hk, rfl, rfl, hN, hN2⟩ := hrel
    have HN := Lib.hid hN
    clear hN
    by_cases hlt : k < len ∧ N ≤ 20000
    · obtain ⟨hlt, hNs⟩ := hlt
      have hi : (k : Int) < (len : Int) := by omega
      have hi2 : (N : Int) ≤ 20000 := by omega
      obtain ⟨b, off, rfl, hbl, hcs⟩ := HP.out.2 (by omega)
      have hpk : ps[k]? = some (ps[k]'(by rw [HP.out.1]; exact hlt)) := List.getElem?_eq_getElem _
      generalize ps[k]'(by rw [HP.out.1]; exact hlt) = p at hpk
      obtain ⟨ai, li, ci, hc, hlc, hcm, hby⟩ := hcs k p hpk
      have Hs := Lib.hid (show gsum (ps.take (k + 1)) = N + (1 + min li 20001) by rw [List.take_add_one, hpk, Option.toList_some, gsum_snoc, ← HN.out, hby.1.1])
      clear hcs hpk hby HN
      have hli : li ≤ 9223372036854775807 := by unfold maxLen at hcm; omega
      clear hlc hcm
      go_wp2_with fail
      go_round
      case rel =>
        have e : ((N + 1 + min li 20001 : Nat) : Int) = (N : Int) + 1 + min (li : Int) 20001 := by omega
        exact ⟨k + 1, N + 1 + min li 20001, by omega, by go_num, by rw [e], by rw [Hs.out]; omega, by omega⟩
      case measure => simp [intOf]; omega
    · by_cases hkl : k < len
      · have hi : (k : Int) < (len : Int) := by omega
        have hi2 : ¬ (N : Int) ≤ 20000 := by omega
        have hi3 : (20000 : Int) < (N : Int) := by omega
        have hd : decide (20000 < gsum ps) = true := decide_eq_true (by have h1 := gsum_take ps k; have h2 := HN.out; omega)
        have Hd := Lib.hid (show v = true by rw [← Hv.out, hd])
        clear hd hlt
        go_wp2_with fail
        go_ret
        exact ⟨by rw [Hd.out]; rfl, rfl⟩
      · obtain rfl : k = len := by omega
        have hN := HN.out
        rw [List.take_of_length_le (by rw [HP.out.1]; exact Nat.le_refl _)] at hN
        clear hkl hlt
        by_cases hg : 20000 < N
        · have hi3 : (20000 : Int) < (N : Int) := by omega
          have Hd := Lib.hid (show v = true by rw [← Hv.out, ← hN]; exact decide_eq_true hg)
          clear hN
          go_wp2_with fail
          go_ret
          exact ⟨by rw [Hd.out]; rfl, rfl⟩
        · have hi3 : ¬ (20000 : Int) < (N : Int) := by omega
          have Hd := Lib.hid (show v = false by rw [← Hv.out, ← hN]; exact decide_eq_false hg)
          clear hN
          go_wp2_with fail
          go_ret
          exact ⟨by rw [Hd.out]; rfl, rfl⟩

set_option maxRecDepth 100000 in
set_option maxHeartbeats 1000000 in
theorem join_any {w : World} {a : Option Addr} {len cap : Nat} {ps : List (List Nat)} (h : PartsIn w a len ps) (hm : len ≤ maxLen) (hl : ps.flatten.length ≤ 1000000) :
    Calls Tryd.prog 19 #[.slice a len cap] w fun e w' => ∃ v, e = .returned v ∧ OwnB w' w.heap.size 5 v ps.flatten ∧ Below w.heap.size w w' := by
  have HP := Lib.hid h
  have Hl := Lib.hid hl
  have hm64 : len ≤ 9223372036854775807 := by unfold maxLen at hm; omega
  have H0 := Lib.hid (show OwnB w w.heap.size 5 (.slice none 0 0) [] from ⟨⟨rfl, .inl ⟨rfl, rfl⟩⟩, fun x hx => by cases hx⟩)
  clear h hm hl
  go_enter Tryd.func19, Tryd.ntmps19
  go_wp2_with fail
  go_loopw [3, 4] (fun v i wr => ∃ k : Nat, k ≤ len ∧ i = .int .i64 k ∧ OwnB wr w.heap.size 5 v (ps.take k).flatten ∧ Below w.heap.size w wr) (fun _ i _ => len - (intOf i).toNat)
  case atStart => exact ⟨0, by omega, rfl, by simpa using H0.out, nu_refl _⟩
  case round =>
    clear H0
    obtain ⟨k, hk, rfl, hO, hn⟩ := hrel
    have HO := Lib.hid hO
    clear hO
    by_cases hlt : k < len
    · have hi : (k : Int) < (len : Int) := by omega
      obtain ⟨b, off, rfl, hbl, hcs⟩ := HP.out.2 (by omega)
      have hpk : ps[k]? = some (ps[k]'(by rw [HP.out.1]; exact hlt)) := List.getElem?_eq_getElem _
      generalize ps[k]'(by rw [HP.out.1]; exact hlt) = p at hpk
      obtain ⟨ai, li, ci, hc, hlc, hcm, hby⟩ := hcs k p hpk
      have c0 := (hn.cell (p := ⟨b, off + k, none⟩) hbl).trans hc
      have htk : (ps.take (k + 1)).flatten = (ps.take k).flatten ++ p := by rw [List.take_add_one, hpk, List.flatten_append]; simp
      have hle : (ps.take (k + 1)).flatten.length ≤ ps.flatten.length := by
        have h := congrArg List.length (congrArg List.flatten (List.take_append_drop (k + 1) ps))
        rw [List.flatten_append, List.length_append] at h
        omega
      have Hb := Lib.hid (show (ps.take k).flatten.length + li ≤ 140737488355320 by have h1 := hby.1.1; have h2 := Hl.out; rw [htk, List.length_append] at hle; omega)
      have HY := Lib.hid (hby.keep hn)
      have Htk := Lib.hid htk
      clear hcs hpk hc hby htk hle hlc hcm
      go_wp2_with (at_builtin; refine wpList_append_bytes rfl (.tmp 11) (.tmp 15) rfl HO.out hn.size HY.out Hb.out rfl rfl ?_)
      intro v2 w2 hO2 hb2
      have HO2 := Lib.hid (show OwnB w2 w.heap.size 5 v2 (ps.take (k + 1)).flatten by rw [Htk.out]; exact hO2)
      have hn2 := hn.trans hb2
      clear hO2 hb2 HO HY Hb Htk c0
      go_wp2_with fail
      go_roundw
      case rel => first | exact ⟨k + 1, by omega, by go_num, HO2.out, hn2⟩ | ((repeat apply Exists.intro); exact ⟨⟨k + 1, by omega, by go_num, HO2.out, hn2⟩, rfl⟩)
      case measure => simp [intOf]; omega
    · obtain rfl : k = len := by omega
      have hO := HO.out
      rw [List.take_of_length_le (by rw [HP.out.1]; exact Nat.le_refl _)] at hO
      have HO2 := Lib.hid hO
      clear hO HO
      go_wp2_with fail
      go_ret
      exact ⟨_, rfl, HO2.out, hn⟩
end Go.Proofs.YtlekepigndlbhaaDoor
