/-
  The walks of count.Open and of the document's At and Fault.
-/
import Derived.Test.YtogcckedelkpbaaCountR
import Derived.Test.YtogcckedelkpbaaRefReader
import Derived.Test.YtogcckedelkpbaaArr
import Derived.Maps.AppendAt
namespace Go.Proofs.Ytogcckedelkpbaa
open Go.ChangeShapes Go.WideShapes Go.ChangeAt Go.RowKit

/-- The entry that stands behind the first 16 k bytes. -/
def entAt (xs : List Nat) (k : Nat) : Ent := (numOf ((xs.drop (16 * k)).take 4), numOf ((xs.drop (16 * k + 4)).take 4), numOf ((xs.drop (16 * k + 8)).take 8))
def entsTo (xs : List Nat) (k : Nat) : List Ent := (List.range k).map (entAt xs)
theorem entsTo_succ (xs : List Nat) (k : Nat) : entsTo xs (k + 1) = entsTo xs k ++ [entAt xs k] := by simp [entsTo, List.range_succ]
theorem entsTo_length (xs : List Nat) (k : Nat) : (entsTo xs k).length = k := by simp [entsTo]
theorem entsTo_get (xs : List Nat) (n k : Nat) (h : k < n) : (entsTo xs n)[k]? = some (entAt xs k) := by
  unfold entsTo
  rw [List.getElem?_map, List.getElem?_range h]
  rfl
/-- An entry's cells. -/
def entV (e : Ent) : List Value := [.int .u32 (e.1 : Int), .int .u32 (e.2.1 : Int), .int .u64 (e.2.2 : Int)]
def entsV (l : List Ent) : List Value := l.flatMap entV
theorem entsV_snoc (l : List Ent) (e : Ent) : entsV (l ++ [e]) = entsV l ++ entV e := by simp [entsV]
theorem entsV_length (l : List Ent) : (entsV l).length = l.length * 3 := by
  induction l with
  | nil => rfl
  | cons e l ih =>
    have h : entsV (e :: l) = entV e ++ entsV l := by simp [entsV]
    rw [h, List.length_append, ih, List.length_cons]
    simp [entV]
    omega
theorem entsV_get (l : List Ent) : ∀ (i j : Nat) (e : Ent), l[i]? = some e → j < 3 → (entsV l)[i * 3 + j]? = (entV e)[j]? := by
  induction l with
  | nil => intro i j e h _; simp at h
  | cons q l ih =>
    intro i j e h hj
    have h0 : entsV (q :: l) = entV q ++ entsV l := by simp [entsV]
    rw [h0]
    cases i with
    | zero =>
      simp at h
      subst h
      rw [Nat.zero_mul, Nat.zero_add, List.getElem?_append_left (by simp [entV]; omega)]
    | succ i =>
      rw [List.getElem?_append_right (by simp [entV]; omega), show (i + 1) * 3 + j - (entV q).length = i * 3 + j by simp [entV]; omega]
      exact ih i j e (by simpa using h) hj

theorem info_ent : (Try.prog.info? 35).map (fun i => (i.zero, i.size, i.bytes)) = some (some (.agg #[.int .u32 0, .int .u32 0, .int .u64 0]), 3, 16) := by kernel_rfl

theorem num_4 {l : List Nat} (h : ∀ x ∈ l, x < 256) : numOf (l.take 4) < 4294967296 := by
  refine Nat.lt_of_lt_of_le (numOf_lt _ (fun y hy => h y (List.mem_of_mem_take hy))) ?_
  have := Nat.pow_le_pow_right (n := 256) (by omega) (show (l.take 4).length ≤ 4 by rw [List.length_take]; omega)
  exact this
theorem num_8 {l : List Nat} (h : ∀ x ∈ l, x < 256) : numOf (l.take 8) < 18446744073709551616 := by
  refine Nat.lt_of_lt_of_le (numOf_lt _ (fun y hy => h y (List.mem_of_mem_take hy))) ?_
  have := Nat.pow_le_pow_right (n := 256) (by omega) (show (l.take 8).length ≤ 8 by rw [List.length_take]; omega)
  exact this
theorem entAt_ok {xs : List Nat} (h : ∀ x ∈ xs, x < 256) (k : Nat) : entOk (entAt xs k) :=
  ⟨num_4 (fun y hy => h y (List.mem_of_mem_drop hy)), num_4 (fun y hy => h y (List.mem_of_mem_drop hy)), num_8 (fun y hy => h y (List.mem_of_mem_drop hy))⟩

theorem num_get (B g : Nat) (ys : List Nat) (n m : Nat) (w : World) (hr : RdAt w B g ys 0) (h1 : 1 ≤ n) (h8 : n ≤ 8) (hl : n ≤ ys.length) (ni : Int) (hni : ni = (n : Int)) (hm : m = numOf (ys.take n)) :
    Calls Try.prog 26 #[.pointer (some ⟨g, 0, none⟩), .int .i64 ni] w fun e w' => e = .returned (.int .u64 (m : Int)) ∧ RdAt w' B g (ys.drop n) 0 ∧ w.grownBy w' (some g) := by
  subst hni
  subst hm
  refine (num_any B g ys 0 (n : Int) w hr).mono ?_
  rintro e w' ⟨he, h2, h3⟩
  have hr1 : numRight (n : Int) = true := by simp [numRight]; omega
  rw [hr1, rdStep_ok hl] at he h2
  exact ⟨he, h2, h3⟩

/-- A row behind the reader turns nothing of it. -/
theorem RdAt.row {w w' : World} {B g : Nat} {xs : List Nat} {f : Int} {row : Option Nat} (h : RdAt w B g xs f) (hb : w.grownBy w' row) (hj : ∀ j, row = some j → g < j) : RdAt w' B g xs f := by
  cases row with
  | none => exact h.keep ⟨hb.os, hb.tape, hb.output, hb.size, fun i hi => hb.block i hi (by simp)⟩
  | some j => exact h.past hb (hj j rfl)

set_option maxRecDepth 100000 in
theorem open_bad (a : Option Addr) (len cap : Nat) (w : World) (hm : len ≤ 9223372036854775807) (hl : len ≠ 256) :
    Calls Try.prog 35 #[.slice a len cap] w fun e w' => e = .returned (.tuple #[.slice none 0 0, .int .i64 (if len < 256 then 2 else 4)]) ∧ w = w' := by
  by_cases h : len < 256
  · have hi : (len : Int) < 256 := by omega
    rw [if_pos h]
    clear hl h
    go_enter Try.func35, Try.ntmps35
    go_wp2_with fail
    go_ret2
    exact ⟨rfl, rfl⟩
  · have hi : (256 : Int) < (len : Int) := by omega
    rw [if_neg h]
    clear hl h
    go_enter Try.func35, Try.ntmps35
    go_wp2_with fail
    go_ret2
    exact ⟨rfl, rfl⟩

set_option maxRecDepth 100000 in
set_option maxHeartbeats 2000000 in
theorem open_ok (a : Option Addr) (cap : Nat) (xs : List Nat) (w : World) (hx : BytesIn w a 256 cap xs) :
    Calls Try.prog 35 #[.slice a 256 cap] w fun e w' => ∃ v, e = .returned (.tuple #[v, .int .i64 0]) ∧ w'.ownsRow w.heap.size 35 3 v 16 (entsV (entsTo xs 16)) ∧ Below w.heap.size w w' := by
  obtain ⟨i0, hi, hz0, hz1, hz2⟩ := info_parts info_ent
  have Hxb := Lib.hid (show ∀ x ∈ xs, x < 256 from fun x h => wf_u8_lt (hx.1.2.1 x h))
  have Hxl := Lib.hid hx.1.1
  go_enter Try.func35, Try.ntmps35
  go_wp2_with fail
  refine (newReader_any a 256 cap xs w hx (by omega)).mono ?_
  rintro e w1 ⟨g, rfl, hrd, hn1⟩
  have hg0 : w.heap.size ≤ g := hrd.low
  obtain ⟨B, hB⟩ : ∃ B, B = w.heap.size := ⟨_, rfl⟩
  rw [← hB] at hrd
  have Hrd := Lib.hid hrd
  clear hrd hx hB
  go_wp2_with fail
  go_loopw [4] (fun v wr => ∃ k : Nat, k ≤ 16 ∧ wr.ownsRow w.heap.size 35 3 v k (entsV (entsTo xs k)) ∧ RdAt wr B g (xs.drop (16 * k)) 0 ∧ Below w.heap.size w wr ∧ (∀ j, v.ownBlock = some j → g < j)) (fun v _ => 16 - lenOfV v)
  case atStart => exact ⟨0, by omega, World.ownsRow_nil _ _ _ _, by simpa using Hrd.out, hn1, fun j h => by cases h⟩
  case round =>
    obtain ⟨k, hk, hown, hrd, hnr, hj⟩ := hrel
    have Hr := Lib.hid hrd
    have Hown := Lib.hid hown
    have Hlv := Lib.hid (show ∀ v : Value, wr.ownsRow w.heap.size 35 3 v k (entsV (entsTo xs k)) → lenOfV v = k from fun v h => by
      rcases h.2 with ⟨rfl, h0⟩ | ⟨_, _, _, rfl, _⟩
      · exact h0.symm
      · rfl)
    have Hlv' := Lib.hid (Hlv.out _ hown)
    have Hj := Lib.hid hj
    have hdl : (xs.drop (16 * k)).length = 256 - 16 * k := by rw [List.length_drop, Hxl.out]
    have Hdl := Lib.hid hdl
    clear hrd hown hdl hj
    by_cases hlt : k < 16
    · go_wp2_with fail
      refine (left_rd B g _ 0 wr Hr.out).mono ?_
      rintro e w2 ⟨rfl, rfl⟩
      rw [Hdl.out]
      have i1 : (0 : Int) < ((256 - 16 * k : Nat) : Int) := by omega
      obtain ⟨e0, he0⟩ : ∃ e0, e0 = numOf ((xs.drop (16 * k)).take 4) := ⟨_, rfl⟩
      obtain ⟨e1, he1⟩ : ∃ e1, e1 = numOf ((xs.drop (16 * k + 4)).take 4) := ⟨_, rfl⟩
      obtain ⟨e2, he2⟩ : ∃ e2, e2 = numOf ((xs.drop (16 * k + 8)).take 8) := ⟨_, rfl⟩
      have hok := entAt_ok Hxb.out k
      have HE := Lib.hid (show entAt xs k = (e0, e1, e2) by rw [he0, he1, he2]; rfl)
      rw [HE.out] at hok
      have b0 : e0 < 4294967296 := hok.1
      have b1 : e1 < 4294967296 := hok.2.1
      have H0 := Lib.hid he0
      have H1 := Lib.hid (show e1 = numOf (((xs.drop (16 * k)).drop 4).take 4) by rw [he1, List.drop_drop])
      have H2 := Lib.hid (show e2 = numOf ((((xs.drop (16 * k)).drop 4).drop 4).take 8) by rw [he2, List.drop_drop, List.drop_drop])
      clear hok he0 he1 he2
      go_wp2_with fail
      refine (num_get B g _ 4 e0 wr Hr.out (by omega) (by omega) (by rw [Hdl.out]; omega) 4 rfl H0.out).mono ?_
      rintro e w2 ⟨rfl, hr2, hg2⟩
      have hn2 := nu_grown hnr hg2 hg0
      have Hr2 := Lib.hid hr2
      have Hown2 := Lib.hid (Hown.out.kept hg2 (by
        cases hv : Value.ownBlock _ with
        | none => exact .inl rfl
        | some j => exact .inr (fun e => by have := Hj.out j hv; injection e; omega)))
      clear hr2 hg2
      go_wp2_with fail
      refine (num_get B g _ 4 e1 w2 Hr2.out (by omega) (by omega) (by rw [List.length_drop, Hdl.out]; omega) 4 rfl H1.out).mono ?_
      rintro e w3 ⟨rfl, hr3, hg3⟩
      have hn3 := nu_grown hn2 hg3 hg0
      have Hr3 := Lib.hid hr3
      have Hown3 := Lib.hid (Hown2.out.kept hg3 (by
        cases hv : Value.ownBlock _ with
        | none => exact .inl rfl
        | some j => exact .inr (fun e => by have := Hj.out j hv; injection e; omega)))
      clear hr3 hg3 hn2
      go_wp2_with fail
      refine (num_get B g _ 8 e2 w3 Hr3.out (by omega) (by omega) (by rw [List.length_drop, List.length_drop, Hdl.out]; omega) 8 rfl H2.out).mono ?_
      rintro e w4 ⟨rfl, hr4, hg4⟩
      have hn4 := nu_grown hn3 hg4 hg0
      have hs4 := hn4.size
      have Hr4 := Lib.hid (show RdAt w4 B g (xs.drop (16 * (k + 1))) 0 by rw [List.drop_drop, List.drop_drop, List.drop_drop] at hr4; rw [show 16 * (k + 1) = 16 * k + (4 + (4 + 8)) by omega]; simpa [Nat.add_assoc] using hr4)
      have Hown4 := Lib.hid (Hown3.out.kept hg4 (by
        cases hv : Value.ownBlock _ with
        | none => exact .inl rfl
        | some j => exact .inr (fun e => by have := Hj.out j hv; injection e; omega)))
      clear hr4 hg4 hn3
      have hgw : g < w4.heap.size := Hr4.out.lt
      go_wp2_with (at_builtin; refine wpList_append_own_at _ rfl (.tmp 19) (.tmp 29) 22 rfl w.heap.size 35 i0 (.agg #[.int .u32 0, .int .u32 0, .int .u64 0]) 3 16 Try.underlying22 hi hz0 hz1 hz2 rfl (by decide) _ k (entsV (entsTo xs k)) rfl (Hown4.out.alloc _) ⟨w4.heap.size, 0, none⟩ 1 1 (entV (e0, e1, e2)) rfl rfl ?c1 ?c2 ?c3 ?c4 ?c5 ?_)
      case c1 =>
        intro j u hu
        rw [Go.WideShapes.add_plain, Nat.zero_add]
        refine (Blk.made w4 35 (entV (e0, e1, e2)).toArray).at j u ?_
        rw [← hu]
        exact List.getElem?_toArray
      case c2 => intro u hu; simp [entV] at hu; rcases hu with rfl | rfl | rfl <;> rfl
      case c3 => unfold maxLen; omega
      case c4 => omega
      case c5 => simp; omega
      intro v' w5 hown5 hg5 _ hat5
      have hn5 := (nu_alloc hn4 (.cells #[.int .u32 (e0 : Int), .int .u32 (e1 : Int), .int .u64 (e2 : Int)] 35)).grown hg5 (by simp; omega) (fun k hk => (Hown4.out.lt k hk).1)
      have Hown5 := Lib.hid (show w5.ownsRow w.heap.size 35 3 v' (k + 1) (entsV (entsTo xs (k + 1))) by rw [entsTo_succ, entsV_snoc, HE.out]; exact hown5)
      have Hr5 := Lib.hid ((Hr4.out.keep (nu_alloc (nu_refl w4) (.cells #[.int .u32 (e0 : Int), .int .u32 (e1 : Int), .int .u64 (e2 : Int)] 35))).row hg5 (fun j hj => Hj.out j hj))
      have Hj5 := Lib.hid (show ∀ j, v'.ownBlock = some j → g < j from fun j hj => by
        rcases hat5 with h | h
        · rw [h] at hj; exact Hj.out j hj
        · rw [h] at hj; simp at hj; omega)
      have Hl5 := Lib.hid (show lenOfV v' = k + 1 by
        rcases hown5.2 with ⟨_, h0⟩ | ⟨_, _, _, rfl, _⟩
        · omega
        · rfl)
      clear hown5 hg5 hat5 hn4
      go_wp2_with fail
      go_roundw
      case rel => exact ⟨k + 1, by omega, Hown5.out, Hr5.out, hn5, Hj5.out⟩
      case measure => rw [Hl5.out, Hlv'.out]; omega
    · obtain rfl : k = 16 := by omega
      go_wp2_with fail
      refine (left_rd B g _ 0 wr Hr.out).mono ?_
      rintro e w2 ⟨rfl, rfl⟩
      rw [Hdl.out]
      go_wp2_with fail
      go_ret2
      exact ⟨_, rfl, Hown.out, hnr⟩

set_option maxRecDepth 100000 in
theorem refFault_any (a : Option Addr) (len cap : Nat) (i : Int) (w : World) (hm : len ≤ 9223372036854775807) :
    Calls Try.prog 36 #[.slice a len cap, .int .i64 i] w fun e w' => e = .returned (.int .i64 (if len < 256 then 2 else if 256 < len then 4 else if i < 0 ∨ 15 < i then 1 else 0)) ∧ w = w' := by
  by_cases h : len < 256
  · have hi : (len : Int) < 256 := by omega
    rw [if_pos h]
    clear h
    go_enter Try.func36, Try.ntmps36
    go_wp2_with fail
    go_ret
    exact ⟨rfl, rfl⟩
  · by_cases h2 : 256 < len
    · have hi : (256 : Int) < (len : Int) := by omega
      rw [if_neg h, if_pos h2]
      clear h h2
      go_enter Try.func36, Try.ntmps36
      go_wp2_with fail
      go_ret
      exact ⟨rfl, rfl⟩
    · obtain rfl : len = 256 := by omega
      rw [if_neg h, if_neg h2]
      by_cases h3 : i < 0 ∨ 15 < i
      · rw [if_pos h3]
        have tt : decide (i < 0) = true ∨ (decide (i < 0) = false ∧ decide (15 < i) = true) := by
          by_cases h : i < 0
          · exact .inl (by simpa using h)
          · exact .inr ⟨by simp; omega, by simp; omega⟩
        clear h3 h h2
        rcases tt with t | ⟨t, t'⟩
        all_goals
          go_enter Try.func36, Try.ntmps36
          go_wp2_with fail
          go_ret
          exact ⟨rfl, rfl⟩
      · rw [if_neg h3]
        have t : decide (i < 0) = false := by simp; omega
        have t' : decide (15 < i) = false := by simp; omega
        clear h3 h h2
        go_enter Try.func36, Try.ntmps36
        go_wp2_with fail
        go_ret
        exact ⟨rfl, rfl⟩

/-- A piece of what can be read. -/
theorem BytesIn.piece {w : World} {b off len cap : Nat} {xs : List Nat} (hx : BytesIn w (some ⟨b, off, none⟩) len cap xs) (i n c : Nat) (hn : i + n ≤ len) : BytesIn w (some ⟨b, off + i, none⟩) n c ((xs.drop i).take n) := by
  refine ⟨⟨by rw [List.length_take, List.length_drop, hx.1.1]; omega, fun x h => hx.1.2.1 x (List.mem_of_mem_drop (List.mem_of_mem_take h)), fun hp => ?_⟩, fun h => by cases h⟩
  obtain ⟨b', off', hb, hlt, hc⟩ := hx.1.2.2 (by omega)
  injection hb with hb
  injection hb with hb ho
  subst hb
  subst ho
  refine ⟨b, off + i, rfl, hlt, fun j m hm => ?_⟩
  rw [List.getElem?_take] at hm
  split at hm
  · rw [List.getElem?_drop] at hm
    rw [Nat.add_assoc]
    exact hc _ _ hm
  · cases hm

set_option maxRecDepth 100000 in
set_option maxHeartbeats 2000000 in
theorem refAt_any (b off cap : Nat) (xs : List Nat) (i : Nat) (w : World) (hx : BytesIn w (some ⟨b, off, none⟩) 256 cap xs) (hlc : 256 ≤ cap) (hcm : cap ≤ maxLen) (hi : i < 16) :
    Calls Try.prog 37 #[.slice (some ⟨b, off, none⟩) 256 cap, .int .i64 i] w fun e w' => e = .returned (.agg (entV (entAt xs i)).toArray) ∧ Below w.heap.size w w' := by
  unfold maxLen at hcm
  have Hx := Lib.hid hx
  have hxb : ∀ x ∈ xs, x < 256 := fun x h => wf_u8_lt (hx.1.2.1 x h)
  obtain ⟨e0, he0⟩ : ∃ e0, e0 = numOf ((xs.drop (16 * i)).take 4) := ⟨_, rfl⟩
  obtain ⟨e1, he1⟩ : ∃ e1, e1 = numOf ((xs.drop (16 * i + 4)).take 4) := ⟨_, rfl⟩
  obtain ⟨e2, he2⟩ : ∃ e2, e2 = numOf ((xs.drop (16 * i + 8)).take 8) := ⟨_, rfl⟩
  have hok := entAt_ok hxb i
  have HE := Lib.hid (show entAt xs i = (e0, e1, e2) by rw [he0, he1, he2]; rfl)
  rw [HE.out] at hok
  have b0 : e0 < 4294967296 := hok.1
  have b1 : e1 < 4294967296 := hok.2.1
  have H0 := Lib.hid he0
  have H1 := Lib.hid he1
  have H2 := Lib.hid he2
  have i1 : (i : Int) < 16 := by omega
  have k1 : IntKind.i64.wrap (16 * (i : Int)) = 16 * (i : Int) := IntWalk.i64_in _ (by omega)
  have k2 : IntKind.i64.wrap (16 * (i : Int) + 16) = 16 * (i : Int) + 16 := IntWalk.i64_in _ (by omega)
  have k3 : (16 * (i : Int)).toNat = 16 * i := by omega
  have k4 : (16 * (i : Int) + 16).toNat = 16 * i + 16 := by omega
  have k5 : (0 : Int) ≤ 16 * (i : Int) := by omega
  have k6 : 16 * (i : Int) + 16 ≤ (cap : Int) := by omega
  have k7 : cap ≠ 16 * i := by omega
  clear hx hxb hok he0 he1 he2
  go_enter Try.func37, Try.ntmps37
  go_wp2_with fail
  obtain ⟨c2, hc2⟩ : ∃ c2, c2 = cap - 16 * i := ⟨_, rfl⟩
  obtain ⟨o2, ho2⟩ : ∃ o2, o2 = off + 16 * i := ⟨_, rfl⟩
  rw [← hc2, ← ho2]
  have hc16 : 16 ≤ c2 := by omega
  have n4 : ¬ c2 = 4 := by omega
  have n8 : ¬ c2 = 8 := by omega
  have i4 : (4 : Int) ≤ (c2 : Int) := by omega
  have i8 : (8 : Int) ≤ (c2 : Int) := by omega
  have Hp0 := Lib.hid (show BytesIn w (some ⟨b, o2, none⟩) 4 c2 ((xs.drop (16 * i)).take 4) by rw [ho2]; exact Hx.out.piece (16 * i) 4 c2 (by omega))
  have Hp1 := Lib.hid (show BytesIn w (some ⟨b, o2 + 4, none⟩) 4 (c2 - 4) ((xs.drop (16 * i + 4)).take 4) by rw [ho2, Nat.add_assoc]; exact Hx.out.piece (16 * i + 4) 4 _ (by omega))
  have Hp2 := Lib.hid (show BytesIn w (some ⟨b, o2 + 8, none⟩) 8 (c2 - 8) ((xs.drop (16 * i + 8)).take 8) by rw [ho2, Nat.add_assoc]; exact Hx.out.piece (16 * i + 8) 8 _ (by omega))
  clear k1 k2 k3 k4 k5 k6 k7 hc2 ho2
  have hn0 := nu_drew (nu_alloc (nu_refl w) (.cells #[.int .u32 0, .int .u32 0, .int .u64 0] 35))
  have hR := (Blk.made w 35 #[.int .u32 0, .int .u32 0, .int .u64 0]).drew
  go_still_tail 12, (by kernel_rfl)
  still_call ((refNum_same (some ⟨b, o2, none⟩) 4 c2 _ _ (by exact Hp0.out.keep hn0) (by omega)).mono fun _ _ h => ⟨h.1, h.2.symm⟩)
  rw [← H0.out]
  repeat still_step
  still_call ((refNum_same (some ⟨b, o2 + 4, none⟩) 4 (c2 - 4) _ _ (by exact Hp1.out.keep hn0) (by omega)).mono fun _ _ h => ⟨h.1, h.2.symm⟩)
  rw [← H1.out]
  repeat still_step
  still_call ((refNum_same (some ⟨b, o2 + 8, none⟩) 8 (c2 - 8) _ _ (by exact Hp2.out.keep hn0) (by omega)).mono fun _ _ h => ⟨h.1, h.2.symm⟩)
  rw [← H2.out]
  repeat still_step
  try refine wpStill_nil ?_
  change wpList _ _ _ _ _ (w.alloc (.cells #[.int .u32 0, .int .u32 0, .int .u64 0] 35)).drew
  generalize (w.alloc (.cells #[.int .u32 0, .int .u32 0, .int .u64 0] 35)).drew = u0 at *
  rw [show IntKind.u32.wrap (e0 : Int) = (e0 : Int) by rw [IntKind.wrap_u32']; omega, show IntKind.u32.wrap (e1 : Int) = (e1 : Int) by rw [IntKind.wrap_u32']; omega]
  have c0 := hR.at 0 _ rfl
  have c1 := hR.at 1 _ rfl
  have c2' := hR.at 2 _ rfl
  have f0 := hR.free 0
  have f1 := hR.free 1
  have f2 := hR.free 2
  have HR := Lib.hid hR
  clear hR
  go_wp2_with fail
  refine bodyPost_ret (results_blkS rfl _ w.heap.size 35 _ rfl (((HR.out.put 0 (.int .u32 (e0 : Int))).put 1 (.int .u32 (e1 : Int))).put 2 (.int .u64 (e2 : Int))) Try.underlying35 (by kernel_rfl)) rfl ⟨by rw [HE.out]; rfl, ?_⟩
  exact nu_set (nu_set (nu_set hn0 (p := ⟨w.heap.size, 0, none⟩) (Nat.le_refl _) _) (p := ⟨w.heap.size, 1, none⟩) (Nat.le_refl _) _) (p := ⟨w.heap.size, 2, none⟩) (Nat.le_refl _) _
end Go.Proofs.Ytogcckedelkpbaa
