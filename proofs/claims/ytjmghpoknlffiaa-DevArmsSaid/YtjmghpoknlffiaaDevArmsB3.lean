/-
  What the proof of DevArms rests on, part 3 of 3.
-/
import Derived.Test.YtjmghpoknlffiaaDevArmsB2
namespace Go.Proofs.Ytjmghpoknlffiaa
open Go.ChangeShapes Go.WideShapes Go.ChangeAt Go.RowKit
set_option linter.unusedSimpArgs false

section
variable {F : Nat → Prop} {w1 w : World} {d : Nat} {s : Dv}
theorem write_at (N : DevNext F w1 w d s) (i : Nat) (hi : i < s.st.length) (ho : s.off = false) (ha : spentOff s.ar = false) {G : Nat} {b : List Nat} (hG : Blk w1 G 5 (b.map vb).toArray) (hb : Bl b) (hn : ¬ F G) (hwl : s.wa.length ≤ 1000000000) (hrl : s.wr.length ≤ 1000000000) :
    Calls Try.prog 12 #[.pointer (some ⟨d, 0, none⟩), .int .i64 (i : Int), .slice (some ⟨G, 0, none⟩) 256 256] w fun e w' => e = .returned (.int .i64 0) ∧ DevNext F w1 w' d (s.put i b).spent := by
  refine (writeD_good N.1 i hi ho _ 256 b ((bytes_blk hG hb.1 hb.2).mods N.2 (fun ad had => by injection had with had; rw [← had]; exact hn)) (fun ad had => by injection had with had; rw [← had]; exact not_grown hn hG.lt) hwl hrl).mono ?_
  rintro e w' ⟨rfl, h⟩
  exact ⟨by rw [ha]; rfl, N.trans h⟩
theorem flush_at (N : DevNext F w1 w d s) (ho : s.off = false) (ha : spentOff s.ar = false) (hwl : s.wa.length ≤ 1000000000) :
    Calls Try.prog 13 #[.pointer (some ⟨d, 0, none⟩)] w fun e w' => e = .returned (.int .i64 0) ∧ DevNext F w1 w' d s.spent.flush :=
  (flushD_go N.1 ho ha hwl).mono fun e w' h => ⟨h.1, N.trans h.2⟩
theorem crash_at (N : DevNext F w1 w d s) : Calls Try.prog 14 #[.pointer (some ⟨d, 0, none⟩)] w fun e w' => e = .returned (.tuple #[]) ∧ DevNext F w1 w' d s.crash :=
  (crashD N.1).mono fun e w' h => ⟨h.1, N.trans h.2⟩
theorem DevNext.trans2 {a a' b : World} {s1 s2 : Dv} (h : DevNext F w1 a d s1) (hb : Below a.heap.size a a') (h' : DevNext (Grown F w1 a) a' b d s2) : DevNext F w1 b d s2 :=
  ⟨h'.1.mono (fun k hk => by
    rcases hk with (hk | hk) | hk
    · exact .inl hk
    · exact .inr ⟨hk.1, Nat.lt_of_lt_of_le hk.2 (Nat.le_trans hb.size h'.2.size)⟩
    · exact .inr ⟨Nat.le_trans h.2.size (Nat.le_trans hb.size hk.1), hk.2⟩) (fun k hk => by
    rcases hk with hk | hk
    · exact h'.1.2.1 k (.inl (.inl hk))
    · omega), (h.2.below hb).trans h'.2 (fun k hk => by
    rcases hk with hk | hk
    · exact .inl hk
    · exact .inr hk.1)⟩
/-- The power comes back, with fates that lie in new memory. -/
theorem on_new {w2 : World} (N : DevNext F w1 w d s) (hb : Below w.heap.size w w2) (ho : s.off = true) {a : Option Addr} {len : Nat} (cap : Nat) {fs : List Int} (hf : NumsIn w2 a len fs) (hout : ∀ ad, a = some ad → ¬ Grown F w1 w ad.block) (hlen : len ≤ 9223372036854775807) (hwl : s.wa.length ≤ 1000000000) :
    Calls Try.prog 17 #[.pointer (some ⟨d, 0, none⟩), .slice a len cap] w2 fun e w' => e = .returned (.tuple #[]) ∧ DevNext F w1 w' d (s.on fs) :=
  (onD_down (N.1.below hb) ho a len cap fs hf hout hlen hwl).mono fun e w' h => ⟨h.1, N.trans2 hb h.2⟩
theorem read_at (N : DevNext F w1 w d s) (i : Nat) (hi : i < s.st.length) (ho : s.off = false) (hwl : s.wa.length ≤ 1000000000) {D : List Nat} (hD : s.now i = D) : Calls Try.prog 15 #[.pointer (some ⟨d, 0, none⟩), .int .i64 (i : Int)] w fun e w' =>
    ∃ G, e = .returned (.tuple #[.slice (some ⟨G, 0, none⟩) 256 256, .int .i64 0]) ∧ w.heap.size ≤ G ∧ BytesIn w' (some ⟨G, 0, none⟩) 256 256 D ∧ DevNext F w1 w' d s ∧ Below w.heap.size w w' ∧ Blk w' G 73 (D.map vb).toArray := by
  refine (readD_good N.1 i hi ho hwl).mono ?_
  rintro e w' ⟨G, rfl, h1, h2, h3⟩
  rw [hD] at h2
  exact ⟨G, rfl, h1, bytes_256 h2 (by rw [← hD]; exact N.1.1.now hi), N.then_below h3, h3, h2⟩
/-- A slice of one int, just made. -/
theorem nums_one (w : World) (v : Int) (hv : -9223372036854775808 ≤ v ∧ v ≤ 9223372036854775807) : NumsIn (w.alloc (.cells #[.int .i64 v] 3)) (some ⟨w.heap.size, 0, none⟩) 1 [v] :=
  ⟨rfl, fun x hx => by rw [List.mem_singleton.1 hx]; exact hv, fun _ => ⟨w.heap.size, 0, rfl, by simp, fun j x hx => by
    cases j with
    | zero => injection hx with hx; subst hx; exact (Blk.made w 3 #[.int .i64 v]).at 0 _ rfl
    | succ j => cases hx⟩⟩
theorem alloc_out (N : DevNext F w1 w d s) (o : Obj) : DevNext F w1 (w.alloc o) d s ∧ True := ⟨N.then_below (nu_alloc (nu_refl w) o), trivial⟩
end
theorem awk_now (A B : List Nat) : (((((((Dv.new 4).put 3 A).spent.spent.flush).put 3 B).spent).crash).on [0]).now 3 = A := rfl
theorem awk_co (A B : List Nat) : (((((((Dv.new 4).put 3 A).spent.spent.flush).put 3 B).spent).crash).on [0]).co = 3 := rfl
theorem bytes_made (w : World) (xs : List Nat) (hx : ∀ x ∈ xs, x < 256) (cs : Array Value) (hc : cs = (xs.map vb).toArray) (n : Nat) (hn : xs.length = n) : BytesIn (w.alloc (.cells cs 5)) (some ⟨w.heap.size, 0, none⟩) n n xs := by
  subst hc
  exact bytes_blk (Blk.made w 5 _) hn hx

set_option maxRecDepth 100000 in
set_option maxHeartbeats 8000000 in
theorem awake10 (w : World) : Calls Try.prog 20 #[] w fun e w' => e = .returned (.bool true) ∧ Below w.heap.size w w' := by
  have HNw := Lib.hid (devNew_any 4 (by omega) (by omega) w)
  go_enter Try.func20, Try.ntmps20
  go_wp2_with fail
  refine HNw.out.mono ?_
  rintro e w1 ⟨d, rfl, F, hR, hF, hb⟩
  have HR := Lib.hid hR
  have HF := Lib.hid hF
  have Hn1 := Lib.hid hb
  clear hR hF hb HNw
  have H1 := Lib.hid (bytes_made w1 [1] (by decide) #[.int .u8 1] rfl 1 rfl)
  have hal1 := nu_alloc (nu_refl w1) (.cells #[.int .u8 1] 5)
  have Hal1 := Lib.hid hal1
  clear hal1
  obtain ⟨A, hA⟩ : ∃ A, A = fullL [1] := ⟨_, rfl⟩
  have HAb := Lib.hid (show Bl A by rw [hA]; exact fullL_bl (by decide))
  obtain ⟨B, hB⟩ : ∃ B, B = fullL [2] := ⟨_, rfl⟩
  have HBb := Lib.hid (show Bl B by rw [hB]; exact fullL_bl (by decide))
  have HFa := Lib.hid (full_any _ 1 1 [1] _ H1.out (by omega))
  rw [← hA] at HFa
  have HB2 := Lib.hid hB
  clear hA hB
  go_wp2_with fail
  refine HFa.out.mono ?_
  rintro e w2 ⟨Ga, rfl, hGa, hBa, hb⟩
  have HGa := Lib.hid (And.intro (show w1.heap.size ≤ Ga from Nat.le_trans Hal1.out.size hGa) hBa)
  have Hb2 := Lib.hid (nu_trans Hal1.out hb)
  have H2 := Lib.hid (bytes_made w2 [2] (by decide) #[.int .u8 2] rfl 1 rfl)
  have Hal2 := Lib.hid (nu_alloc (nu_refl w2) (.cells #[.int .u8 2] 5))
  have HFb := Lib.hid (full_any _ 1 1 [2] _ H2.out (by omega))
  rw [← HB2.out] at HFb
  clear hGa hBa hb HFa H1 Hal1
  go_wp2_with fail
  refine HFb.out.mono ?_
  rintro e w3 ⟨Gb, rfl, hGb, hBb, hb⟩
  have hb3 := nu_trans Hal2.out hb
  have HGb := Lib.hid (And.intro (show w1.heap.size ≤ Gb from Nat.le_trans (Nat.le_trans Hb2.out.size Hal2.out.size) hGb) hBb)
  have HGa3 := Lib.hid (And.intro HGa.out.1 (HGa.out.2.below hb3 HGa.out.2.lt))
  have Hb3 := Lib.hid (nu_trans Hb2.out hb3)
  have HnF := Lib.hid (show ¬ F Ga ∧ ¬ F Gb from ⟨fun h => by have := HR.out.2.1 _ h; have := HGa.out.1; omega, fun h => by have := HR.out.2.1 _ h; have := HGb.out.1; omega⟩)
  have HN0 := Lib.hid (DevNext.refl (HR.out.below Hb3.out))
  have Hn3 := Lib.hid (nu_trans Hn1.out Hb3.out)
  have HFw := Lib.hid HF.out
  clear hGb hBb hb hb3 HFb H2 Hal2 HGa HR Hb2 Hb3 HF Hn1 HB2
  obtain ⟨s0, hs0⟩ : ∃ s0, s0 = Dv.new 4 := ⟨_, rfl⟩
  rw [← hs0] at HN0
  have HW := Lib.hid (write_at HN0.out 3 (by rw [hs0]; decide) (by rw [hs0]; rfl) (by rw [hs0]; rfl) HGa3.out.2 HAb.out HnF.out.1 (by rw [hs0]; decide) (by rw [hs0]; decide))
  have Hs0 := Lib.hid hs0
  clear hs0 HN0
  go_wp2_with fail
  refine HW.out.mono ?_
  rintro e w4 ⟨rfl, hN⟩
  obtain ⟨s1, hs1⟩ : ∃ s1, s1 = (s0.put 3 A).spent := ⟨_, rfl⟩
  rw [← hs1] at hN
  rw [Hs0.out] at hs1
  have HFl := Lib.hid (flush_at hN (by rw [hs1]; rfl) (by rw [hs1]; rfl) (by rw [hs1]; show 1 ≤ 1000000000; omega))
  have Hs1 := Lib.hid hs1
  clear hs1 hN HW Hs0
  go_wp2_with fail
  refine HFl.out.mono ?_
  rintro e w5 ⟨rfl, hN⟩
  obtain ⟨s2, hs2⟩ : ∃ s2, s2 = s1.spent.flush := ⟨_, rfl⟩
  rw [← hs2] at hN
  rw [Hs1.out] at hs2
  have HW := Lib.hid (write_at hN 3 (by rw [hs2]; show 3 < 4; omega) (by rw [hs2]; rfl) (by rw [hs2]; rfl) HGb.out.2 HBb.out HnF.out.2 (by rw [hs2]; show 0 ≤ 1000000000; omega) (by rw [hs2]; show 1 ≤ 1000000000; omega))
  have Hs2 := Lib.hid hs2
  clear hs2 hN HFl Hs1
  go_wp2_with fail
  refine HW.out.mono ?_
  rintro e w6 ⟨rfl, hN⟩
  obtain ⟨s3, hs3⟩ : ∃ s3, s3 = (s2.put 3 B).spent := ⟨_, rfl⟩
  rw [← hs3] at hN
  rw [Hs2.out] at hs3
  have HC := Lib.hid (crash_at hN)
  have Hs3 := Lib.hid hs3
  clear hs3 hN HW Hs2
  go_wp2_with fail
  refine HC.out.mono ?_
  rintro e w7 ⟨rfl, hN⟩
  obtain ⟨s4, hs4⟩ : ∃ s4, s4 = s3.crash := ⟨_, rfl⟩
  rw [← hs4] at hN
  rw [Hs3.out] at hs4
  have hal := nu_alloc (nu_refl w7) (.cells #[.int .i64 0] 3)
  have HOn := Lib.hid (on_new hN hal (by rw [hs4]; rfl) 1 (nums_one w7 0 (by decide)) (fun ad had => by
    injection had with had
    rw [← had]
    intro e
    have := hN.1.2.1 _ e
    exact Nat.lt_irrefl _ this) (by omega) (by rw [hs4]; show 1 ≤ 1000000000; omega))
  have Hs4 := Lib.hid hs4
  clear hs4 hN HC Hs3 hal
  go_wp2_with fail
  refine HOn.out.mono ?_
  rintro e w8 ⟨rfl, hN⟩
  obtain ⟨s5, hs5⟩ : ∃ s5, s5 = s4.on [0] := ⟨_, rfl⟩
  rw [← hs5] at hN
  rw [Hs4.out] at hs5
  have HRd := Lib.hid (read_at hN 3 (by rw [hs5]; show 3 < 4; omega) (by rw [hs5]; rfl) (by rw [hs5]; show 0 ≤ 1000000000; omega) (show s5.now 3 = A by rw [hs5]; exact awk_now A B))
  have Hco := Lib.hid (show s5.co = 3 by rw [hs5]; exact awk_co A B)
  clear hs5 hN HOn Hs4
  go_wp2_with fail
  refine HRd.out.mono ?_
  rintro e w9 ⟨G, rfl, _, hG, hN, _, _⟩
  have HSm := Lib.hid (same_is (w := w9) (ca := 256) (cb := 256) true (by simp) hG.1 ((bytes_blk HGa3.out.2 HAb.out.1 HAb.out.2).mods hN.2 (fun ad had => by injection had with had; rw [← had]; exact HnF.out.1)).1 (by omega) (by omega))
  have HN := Lib.hid hN
  clear hG hN HRd
  go_wp2_with fail
  refine HSm.out.mono ?_
  rintro e w10 ⟨rfl, n, rfl⟩
  have HN2 := Lib.hid (HN.out.then_below (nu_drewN (nu_refl w9) n))
  generalize w9.drewN n = w10 at *
  have HCo := Lib.hid (count_any HN2.out.1)
  rw [Hco.out] at HCo
  clear HN HSm
  go_wp2_with fail
  refine HCo.out.mono ?_
  rintro e w' ⟨rfl, rfl⟩
  have Hn := Lib.hid (HN2.out.2.to_below Hn3.out.size HFw.out)
  have hnn : Below w.heap.size w w10 := ⟨Hn.out.os.trans Hn3.out.os, Hn.out.tape.trans Hn3.out.tape, Hn.out.output.trans Hn3.out.output, Nat.le_trans Hn3.out.size Hn.out.size, fun k hk => (Hn.out.block k hk).trans (Hn3.out.block k hk)⟩
  clear HN2 HCo Hn
  go_wp2_with fail
  go_ret
  exact ⟨rfl, hnn⟩
end Go.Proofs.Ytjmghpoknlffiaa

namespace Go.Proofs.Ytjmghpoknlffiaa
open Go.ChangeShapes Go.WideShapes Go.ChangeAt Go.RowKit
set_option linter.unusedSimpArgs false

/-- Armed with m, behind i accesses. -/
def Core (m : Int) (i : Nat) (s : Dv) : Prop := s.st.length = 3 ∧ s.wa.length ≤ i ∧ s.wr.length ≤ i ∧ ((1 ≤ m ∧ m ≤ (i : Int) ∧ s.off = true ∧ s.co = m) ∨ (¬ (1 ≤ m ∧ m ≤ (i : Int)) ∧ s.off = false ∧ s.co = (i : Int) ∧ s.ar = (if 1 ≤ m then m - (i : Int) else 0)))
section
variable {m : Int} {i j : Nat} {s : Dv}
theorem core_gone (h : Core m i s) (ho : s.off = true) : decide (1 ≤ m ∧ m ≤ ((i + 1 : Nat) : Int)) = true := by
  rcases h.2.2.2 with ⟨h1, h2, _⟩ | ⟨_, h2, _⟩
  · exact decide_eq_true ⟨h1, by omega⟩
  · rw [ho] at h2; cases h2
theorem core_stay (h : Core m i s) (ho : s.off = true) : Core m (i + 1) s := by
  refine ⟨h.1, Nat.le_succ_of_le h.2.1, Nat.le_succ_of_le h.2.2.1, ?_⟩
  rcases h.2.2.2 with ⟨h1, h2, h3, h4⟩ | ⟨_, h2, _⟩
  · exact .inl ⟨h1, by omega, h3, h4⟩
  · rw [ho] at h2; cases h2
theorem core_told (h : Core m i s) (ho : s.off = false) : spentOff s.ar = decide (1 ≤ m ∧ m ≤ ((i + 1 : Nat) : Int)) := by
  rcases h.2.2.2 with ⟨_, _, h3, _⟩ | ⟨h1, _, _, h4⟩
  · rw [ho] at h3; cases h3
  · unfold spentOff
    rw [decide_eq_decide, h4]
    split <;> omega
theorem core_spent (h : Core m i s) (ho : s.off = false) (hi : i ≤ 1000 := by omega) : Core m (i + 1) s.spent := by
  have ht := core_told h ho
  refine ⟨h.1, Nat.le_succ_of_le h.2.1, Nat.le_succ_of_le h.2.2.1, ?_⟩
  rcases h.2.2.2 with ⟨_, _, h3, _⟩ | ⟨h1, _, h3, h4⟩
  · rw [ho] at h3; cases h3
  · have hco : s.spent.co = ((i + 1 : Nat) : Int) := by
      show IntKind.i64.wrap (s.co + 1) = _
      rw [h3, IntKind.wrap_i64]
      omega
    by_cases hg : 1 ≤ m ∧ m ≤ ((i + 1 : Nat) : Int)
    · refine .inl ⟨hg.1, hg.2, ?_, ?_⟩
      · show spentOff s.ar = true
        rw [ht]
        exact decide_eq_true hg
      · rw [hco]; omega
    · refine .inr ⟨hg, ?_, hco, ?_⟩
      · show spentOff s.ar = false
        rw [ht]
        exact decide_eq_false hg
      · show spentAr s.ar = _
        unfold spentAr
        rw [h4]
        split <;> split <;> omega
theorem core_put (h : Core m i s) (ho : s.off = false) (r : Nat) (b : List Nat) (hi : i ≤ 1000 := by omega) : Core m (i + 1) (s.put r b).spent := by
  have h2 := core_spent h ho hi
  refine ⟨h2.1, ?_, ?_, h2.2.2.2⟩
  · show (s.wa ++ [(r, b)]).length ≤ i + 1
    rw [List.length_append]
    exact Nat.add_le_add_right h.2.1 1
  · show (s.wr ++ [(r, b)]).length ≤ i + 1
    rw [List.length_append]
    exact Nat.add_le_add_right h.2.2.1 1
theorem core_flush (h : Core m i s) : Core m i s.flush := ⟨(flushL_len _ _).trans h.1, Nat.zero_le _, h.2.2.1, h.2.2.2⟩
theorem core_new (m : Int) : Core m 0 ((Dv.new 3).arm m) := by
  refine ⟨rfl, Nat.le_refl _, Nat.le_refl _, .inr ⟨by omega, rfl, rfl, ?_⟩⟩
  show max m 0 = _
  split <;> omega
end
set_option maxRecDepth 100000 in
set_option maxHeartbeats 16000000 in
theorem devArms_walk (n : Int) (hn : -9223372036854775808 ≤ n ∧ n ≤ 9223372036854775807) (a : Option Addr) (len cap : Nat) (fs : List Int) (w : World) (hf : NumsIn w a len fs) (hlen : len ≤ 9223372036854775807) :
    Calls Try.prog 4 #[.int .i64 n, .slice a len cap] w fun e w' => e = .returned (.bool true) ∧ Below w.heap.size w w' := by
  have HNw := Lib.hid (devNew_any 3 (by omega) (by omega) w)
  have Hf := Lib.hid hf
  have Hlen := Lib.hid hlen
  obtain ⟨m, hm⟩ : ∃ m : Int, m = if 1099511627776 < n then 1099511627776 else n := ⟨_, rfl⟩
  have hmb : -9223372036854775808 ≤ m ∧ m ≤ 1099511627776 := by rw [hm]; split <;> omega
  have Hm := Lib.hid hm
  clear hf hm hlen
  go_enter Try.func4, Try.ntmps4
  go_upto_region 1 with fail
  go_upto_if 11 with fail
  obtain ⟨w0, rfl⟩ : ∃ q : World, q = w := ⟨_, rfl⟩
  go_cut [0] (fun s0 wx => s0 = .int .i64 m ∧ wx = w0)
  case first =>
    obtain ⟨w00, rfl⟩ : ∃ q : World, q = w0 := ⟨_, rfl⟩
    by_cases hg : (1099511627776 : Int) < n
    · have hme : m = 1099511627776 := by rw [Hm.out, if_pos hg]
      go_wp2_with fail
      go_meet
      exact ⟨by rw [hme], rfl⟩
    · have hme : m = n := by rw [Hm.out, if_neg hg]
      go_wp2_with fail
      go_meet
      exact ⟨by rw [hme], rfl⟩
  case rest =>
    obtain ⟨rfl, rfl⟩ := hcut
    obtain ⟨w, rfl⟩ : ∃ q : World, q = wc := ⟨_, rfl⟩
    clear Hm
    go_wp2_with fail
    refine HNw.out.mono ?_
    rintro e w1 ⟨d, rfl, F, hR, hF, hb⟩
    have HFw := Lib.hid hF
    have Hn1 := Lib.hid hb
    have Hf1 := Lib.hid (Hf.out.below hb)
    have HnF := Lib.hid (show ∀ ad, 0 < len → a = some ad → ¬ F ad.block from fun ad hp had e => by
      obtain ⟨b, off, h1, h2, _⟩ := Hf.out.2.2 hp
      rw [had] at h1
      injection h1 with h1
      have := hF _ e
      rw [h1] at this
      exact absurd h2 (by show ¬ b < _; exact Nat.not_lt.2 this))
    have HA := Lib.hid (armD hR m (by omega))
    clear hR hF hb HNw Hf
    go_wp2_with fail
    refine HA.out.mono ?_
    rintro e w2 ⟨rfl, hN⟩
    have HN := Lib.hid hN
    have HC := Lib.hid (core_new m)
    generalize (Dv.new 3).arm m = s1 at *
    clear hN HA
    go_wp2_with fail
    go_loopw [7] (fun x wx => ∃ (i : Nat) (s : Dv), i ≤ len ∧ i ≤ 200 ∧ x = .int .i64 i ∧ DevNext F w1 wx d s ∧ Core m i s) (fun x _ => 200 - (intOf x).toNat)
    case atStart => exact ⟨0, s1, by omega, by omega, rfl, HN.out, HC.out⟩
    case round =>
      clear HN HC
      obtain ⟨i, s, hi, hi2, rfl, hN, hI⟩ := hrel
      by_cases hil : i < len
      · have hii : (i : Int) < (len : Int) := by omega
        by_cases hi6 : i < 200
        · have hii6 : (i : Int) < 200 := by omega
          obtain ⟨j, hj⟩ : ∃ j, j = i + 1 := ⟨_, rfl⟩
          have Hj := Lib.hid (show j ≤ len ∧ j ≤ 200 from ⟨by omega, by omega⟩)
          have ej : (i : Int) + 1 = (j : Int) := by omega
          have wj : IntKind.i64.wrap (j : Int) = (j : Int) := by rw [IntKind.wrap_i64]; omega
          have Hje := Lib.hid hj
          clear hj
          obtain ⟨b, off, ha, _, hc⟩ := (Hf1.out.mods hN.2 (fun ad had => HnF.out ad (by omega) had)).2.2 (by omega)
          obtain ⟨v, hv⟩ : ∃ v, fs[i]? = some v := ⟨_, List.getElem?_eq_getElem (by rw [Hf1.out.1]; exact hil)⟩
          have hcv := hc i v hv
          have hvb := Hf1.out.2.1 v (List.mem_of_getElem? hv)
          obtain ⟨K, hK⟩ : ∃ K : Nat, K = (v % 3).toNat := ⟨_, rfl⟩
          have hKi : (K : Int) = v % 3 := by rw [hK]; exact Int.toNat_of_nonneg (Int.emod_nonneg _ (by omega))
          have HPk := Lib.hid (pick_any v 3 K wr hKi (by omega) (by omega) hvb.1 hvb.2)
          have hK3 : K = 0 ∨ K = 1 ∨ K = 2 := by omega
          subst ha
          have HK3 := Lib.hid hK3
          have HN := Lib.hid hN
          have HI := Lib.hid hI
          clear hc hv hvb hK hKi hK3 hN hI
          go_wp2_with fail
          refine HPk.out.mono ?_
          rintro e w' ⟨rfl, rfl⟩
          clear hcv HPk
          go_upto_block 2 with fail
          go_cut [8] (fun s8 wx => s8 = .bool (!decide (1 ≤ m ∧ m ≤ ((i + 1 : Nat) : Int))) ∧ ∃ s2, DevNext F w1 wx d s2 ∧ Core m (i + 1) s2)
          case first =>
            have hK3 := HK3.out
            have hN := HN.out
            have hI := HI.out
            clear HN HI HK3
            obtain ⟨wr0, rfl⟩ : ∃ q : World, q = wr := ⟨_, rfl⟩
            by_cases hof : s.off = true
            · have Hr := Lib.hid (show ∀ a, s.rdy a = 7 from fun a => by unfold Dv.rdy; rw [if_pos hof])
              have HI := Lib.hid (core_stay hI hof)
              have Hg := Lib.hid (core_gone hI hof)
              have Hof := Lib.hid hof
              have HN := Lib.hid hN
              clear hI hof hN
              rcases hK3 with rfl | rfl | rfl
              · obtain ⟨r, hr⟩ : ∃ r, r = i % 3 := ⟨_, rfl⟩
                have er : Int.tmod (i : Int) 3 = (r : Int) := by rw [Int.tmod_eq_emod_of_nonneg (by omega)]; omega
                have er2 : (i : Int) % 3 = (r : Int) := by omega
                have wr3 : IntKind.i64.wrap (r : Int) = (r : Int) := by rw [IntKind.wrap_i64]; omega
                have hr3 : r < 3 := by omega
                clear hr
                go_wp2_with fail
                refine (full_any none 0 0 [] wr0 (BytesIn.nil_ wr0) (by omega)).mono ?_
                rintro e w2 ⟨G, rfl, hG, hB, hb⟩
                have HWb := Lib.hid (writeD_bad (HN.out.1.below hb) (r : Int) (some ⟨G, 0, none⟩) 256 256 (.inl (by rw [Hr.out]; omega)))
                rw [Hr.out] at HWb
                have HN2 := Lib.hid (HN.out.then_below hb)
                clear hG hB hb HN
                go_wp2_with fail
                refine HWb.out.mono ?_
                rintro e w' ⟨rfl, rfl⟩
                go_wp2_with fail
                go_meet
                exact ⟨by rw [Hg.out]; rfl, s, HN2.out, HI.out⟩
              · have HFl := Lib.hid (flushD_off HN.out.1 Hof.out)
                go_wp2_with fail
                refine HFl.out.mono ?_
                rintro e w' ⟨rfl, rfl⟩
                go_wp2_with fail
                go_meet
                exact ⟨by rw [Hg.out]; rfl, s, HN.out, HI.out⟩
              · have HSp := Lib.hid (spendOff HN.out.1 Hof.out)
                go_wp2_with fail
                refine HSp.out.mono ?_
                rintro e w' ⟨rfl, rfl⟩
                go_wp2_with fail
                go_meet
                exact ⟨by rw [Hg.out]; rfl, s, HN.out, HI.out⟩
            · have hof' : s.off = false := by cases h : s.off with | false => rfl | true => exact absurd h hof
              have HI := Lib.hid hI
              have Hof := Lib.hid hof'
              have Hg := Lib.hid (core_told hI hof')
              have HN := Lib.hid hN
              have Hst := Lib.hid hI.1
              have hwl : s.wa.length ≤ 1000 := Nat.le_trans hI.2.1 (by omega)
              have hrl : s.wr.length ≤ 1000 := Nat.le_trans hI.2.2.1 (by omega)
              clear hI hof hof' hN
              obtain ⟨so, hso⟩ : ∃ so, so = spentOff s.ar := ⟨_, rfl⟩
              have Hso := Lib.hid hso
              clear hso
              rcases hK3 with rfl | rfl | rfl
              · obtain ⟨r, hr⟩ : ∃ r, r = i % 3 := ⟨_, rfl⟩
                have er : Int.tmod (i : Int) 3 = (r : Int) := by rw [Int.tmod_eq_emod_of_nonneg (by omega)]; omega
                have er2 : (i : Int) % 3 = (r : Int) := by omega
                have wr3 : IntKind.i64.wrap (r : Int) = (r : Int) := by rw [IntKind.wrap_i64]; omega
                have hr3 : r < 3 := by omega
                clear hr
                go_wp2_with fail
                refine (full_any none 0 0 [] wr0 (BytesIn.nil_ wr0) (by omega)).mono ?_
                rintro e w2 ⟨G, rfl, hG, hB, hb⟩
                have HW := Lib.hid (writeD_good (HN.out.1.below hb) r (by rw [Hst.out]; exact hr3) Hof.out _ 256 (fullL []) (bytes_blk hB (fullL_bl (by simp)).1 (fullL_bl (by simp)).2) (fun ad had => by injection had with had; rw [← had]; intro e; exact absurd (HN.out.1.2.1 _ e) (Nat.not_lt.2 hG)) (by omega) (by omega))
                rw [← Hso.out] at HW
                have Hb := Lib.hid hb
                clear hG hB hb
                go_wp2_with fail
                refine HW.out.mono ?_
                rintro e w3 ⟨rfl, hn⟩
                have HN2 := Lib.hid (HN.out.trans2 Hb.out hn)
                have HI2 := Lib.hid (core_put HI.out Hof.out r (fullL []))
                clear hn HN HW
                cases so
                · go_wp2_with fail
                  go_meet
                  exact ⟨by rw [← Hg.out, ← Hso.out]; rfl, _, HN2.out, HI2.out⟩
                · go_wp2_with fail
                  go_meet
                  exact ⟨by rw [← Hg.out, ← Hso.out]; rfl, _, HN2.out, HI2.out⟩
              · cases so
                · have HFl := Lib.hid (flushD_go HN.out.1 Hof.out Hso.out.symm (by omega))
                  go_wp2_with fail
                  refine HFl.out.mono ?_
                  rintro e w3 ⟨rfl, hn⟩
                  have HN2 := Lib.hid (HN.out.trans hn)
                  clear hn HFl HN
                  go_wp2_with fail
                  go_meet
                  exact ⟨by rw [← Hg.out, ← Hso.out]; rfl, _, HN2.out, core_flush (core_spent HI.out Hof.out)⟩
                · have HFl := Lib.hid (flushD_gone HN.out.1 Hof.out Hso.out.symm)
                  go_wp2_with fail
                  refine HFl.out.mono ?_
                  rintro e w3 ⟨rfl, hn⟩
                  have HN2 := Lib.hid (HN.out.trans hn)
                  clear hn HFl HN
                  go_wp2_with fail
                  go_meet
                  exact ⟨by rw [← Hg.out, ← Hso.out]; rfl, _, HN2.out, core_spent HI.out Hof.out⟩
              · have HSp := Lib.hid (spendOn HN.out.1 Hof.out)
                rw [← Hso.out] at HSp
                go_wp2_with fail
                refine HSp.out.mono ?_
                rintro e w3 ⟨rfl, hn⟩
                have HN2 := Lib.hid (HN.out.trans hn)
                clear hn HSp HN
                cases so
                · go_wp2_with fail
                  go_meet
                  exact ⟨by rw [← Hg.out, ← Hso.out]; rfl, _, HN2.out, core_spent HI.out Hof.out⟩
                · go_wp2_with fail
                  go_meet
                  exact ⟨by rw [← Hg.out, ← Hso.out]; rfl, _, HN2.out, core_spent HI.out Hof.out⟩
          case rest =>
            obtain ⟨rfl, s2, hN, hI⟩ := hcut
            clear HN HI HK3
            rw [← Hje.out] at hI
            obtain ⟨wr1, rfl⟩ : ∃ q : World, q = wc := ⟨_, rfl⟩
            rw [← Hje.out]
            rcases (show m < 0 ∨ m = 0 ∨ (1 ≤ m ∧ m < (j : Int)) ∨ (1 ≤ m ∧ m = (j : Int)) ∨ (1 ≤ m ∧ (j : Int) < m) by omega) with h1 | h1 | ⟨h1, h2⟩ | ⟨h1, h2⟩ | ⟨h1, h2⟩
            · have hj0 : (0 : Int) < (j : Int) := by have := Hje.out; omega
              have hjn : ((j : Int) != 0) = true := by rw [bne_iff_ne]; omega
              rw [decide_eq_false (show ¬ (1 ≤ m ∧ m ≤ (j : Int)) by omega)]
              have Hoff := Lib.hid (show s2.off = false by rcases hI.2.2.2 with ⟨h3, _⟩ | ⟨_, h3, _⟩; omega; exact h3)
              have Hco := Lib.hid (show s2.co = (j : Int) by rcases hI.2.2.2 with ⟨h3, _⟩ | ⟨_, _, h3, _⟩; omega; exact h3)
              have HUp := Lib.hid (upD_any hN.1)
              have HCo := Lib.hid (count_any hN.1)
              rw [Hoff.out] at HUp
              rw [Hco.out] at HCo
              have HN := Lib.hid hN
              have HI := Lib.hid hI
              clear hN hI
              go_wp2_with fail
              refine HUp.out.mono ?_
              rintro e w' ⟨rfl, rfl⟩
              go_wp2_with fail
              refine HCo.out.mono ?_
              rintro e w' ⟨rfl, rfl⟩
              go_wp2_with fail
              refine HCo.out.mono ?_
              rintro e w' ⟨rfl, rfl⟩
              go_wp2_with fail
              go_roundw
              case rel => first | exact ⟨j, s2, Hj.out.1, Hj.out.2, by go_num, HN.out, HI.out⟩ | ((repeat apply Exists.intro); exact ⟨⟨j, s2, Hj.out.1, Hj.out.2, by go_num, HN.out, HI.out⟩, rfl⟩)
              case measure => have := Hj.out.2; simp [intOf]; omega
            · subst h1
              have hj0 : (0 : Int) < (j : Int) := by have := Hje.out; omega
              have hjn : ((j : Int) != 0) = true := by rw [bne_iff_ne]; omega
              rw [decide_eq_false (show ¬ (1 ≤ (0 : Int) ∧ (0 : Int) ≤ (j : Int)) by omega)]
              have Hoff := Lib.hid (show s2.off = false by rcases hI.2.2.2 with ⟨h3, _⟩ | ⟨_, h3, _⟩; omega; exact h3)
              have Hco := Lib.hid (show s2.co = (j : Int) by rcases hI.2.2.2 with ⟨h3, _⟩ | ⟨_, _, h3, _⟩; omega; exact h3)
              have HUp := Lib.hid (upD_any hN.1)
              have HCo := Lib.hid (count_any hN.1)
              rw [Hoff.out] at HUp
              rw [Hco.out] at HCo
              have HN := Lib.hid hN
              have HI := Lib.hid hI
              clear hN hI
              go_wp2_with fail
              refine HUp.out.mono ?_
              rintro e w' ⟨rfl, rfl⟩
              go_wp2_with fail
              refine HCo.out.mono ?_
              rintro e w' ⟨rfl, rfl⟩
              go_wp2_with fail
              refine HCo.out.mono ?_
              rintro e w' ⟨rfl, rfl⟩
              go_wp2_with fail
              go_roundw
              case rel => first | exact ⟨j, s2, Hj.out.1, Hj.out.2, by go_num, HN.out, HI.out⟩ | ((repeat apply Exists.intro); exact ⟨⟨j, s2, Hj.out.1, Hj.out.2, by go_num, HN.out, HI.out⟩, rfl⟩)
              case measure => have := Hj.out.2; simp [intOf]; omega
            · rw [decide_eq_true (show 1 ≤ m ∧ m ≤ (j : Int) by omega)]
              have hm0 : ¬ m < 0 := by omega
              have hmj : m ≤ (j : Int) := by omega
              have Hoff := Lib.hid (show s2.off = true by rcases hI.2.2.2 with ⟨_, _, h3, _⟩ | ⟨h3, _⟩; exact h3; omega)
              have Hco := Lib.hid (show s2.co = m by rcases hI.2.2.2 with ⟨_, _, _, h3⟩ | ⟨h3, _⟩; exact h3; omega)
              have HUp := Lib.hid (upD_any hN.1)
              have HCo := Lib.hid (count_any hN.1)
              rw [Hoff.out] at HUp
              rw [Hco.out] at HCo
              have HN := Lib.hid hN
              have HI := Lib.hid hI
              clear hN hI
              go_wp2_with fail
              refine HUp.out.mono ?_
              rintro e w' ⟨rfl, rfl⟩
              go_wp2_with fail
              refine HCo.out.mono ?_
              rintro e w' ⟨rfl, rfl⟩
              go_wp2_with fail
              go_roundw
              case rel => first | exact ⟨j, s2, Hj.out.1, Hj.out.2, by go_num, HN.out, HI.out⟩ | ((repeat apply Exists.intro); exact ⟨⟨j, s2, Hj.out.1, Hj.out.2, by go_num, HN.out, HI.out⟩, rfl⟩)
              case measure => have := Hj.out.2; simp [intOf]; omega
            · subst h2
              rw [decide_eq_true (show 1 ≤ (j : Int) ∧ (j : Int) ≤ (j : Int) by omega)]
              have hm0 : ¬ (j : Int) < 0 := by omega
              have Hoff := Lib.hid (show s2.off = true by rcases hI.2.2.2 with ⟨_, _, h3, _⟩ | ⟨h3, _⟩; exact h3; omega)
              have Hco := Lib.hid (show s2.co = (j : Int) by rcases hI.2.2.2 with ⟨_, _, _, h3⟩ | ⟨h3, _⟩; exact h3; omega)
              have HUp := Lib.hid (upD_any hN.1)
              have HCo := Lib.hid (count_any hN.1)
              rw [Hoff.out] at HUp
              rw [Hco.out] at HCo
              have HN := Lib.hid hN
              have HI := Lib.hid hI
              clear hN hI
              go_wp2_with fail
              refine HUp.out.mono ?_
              rintro e w' ⟨rfl, rfl⟩
              go_wp2_with fail
              refine HCo.out.mono ?_
              rintro e w' ⟨rfl, rfl⟩
              go_wp2_with fail
              go_roundw
              case rel => first | exact ⟨j, s2, Hj.out.1, Hj.out.2, by go_num, HN.out, HI.out⟩ | ((repeat apply Exists.intro); exact ⟨⟨j, s2, Hj.out.1, Hj.out.2, by go_num, HN.out, HI.out⟩, rfl⟩)
              case measure => have := Hj.out.2; simp [intOf]; omega
            · rw [decide_eq_false (show ¬ (1 ≤ m ∧ m ≤ (j : Int)) by omega)]
              have hm0 : ¬ m < 0 := by omega
              have hmj : ¬ m ≤ (j : Int) := by omega
              have hmj2 : ¬ m < (j : Int) := by omega
              have Hoff := Lib.hid (show s2.off = false by rcases hI.2.2.2 with ⟨_, h3, _⟩ | ⟨_, h3, _⟩; omega; exact h3)
              have Hco := Lib.hid (show s2.co = (j : Int) by rcases hI.2.2.2 with ⟨_, h3, _⟩ | ⟨_, _, h3, _⟩; omega; exact h3)
              have HUp := Lib.hid (upD_any hN.1)
              have HCo := Lib.hid (count_any hN.1)
              rw [Hoff.out] at HUp
              rw [Hco.out] at HCo
              have HN := Lib.hid hN
              have HI := Lib.hid hI
              clear hN hI
              go_wp2_with fail
              refine HUp.out.mono ?_
              rintro e w' ⟨rfl, rfl⟩
              go_wp2_with fail
              refine HCo.out.mono ?_
              rintro e w' ⟨rfl, rfl⟩
              go_wp2_with fail
              go_roundw
              case rel => first | exact ⟨j, s2, Hj.out.1, Hj.out.2, by go_num, HN.out, HI.out⟩ | ((repeat apply Exists.intro); exact ⟨⟨j, s2, Hj.out.1, Hj.out.2, by go_num, HN.out, HI.out⟩, rfl⟩)
              case measure => have := Hj.out.2; simp [intOf]; omega
        · have hii6 : ¬ (i : Int) < 200 := by omega
          have Hn := Lib.hid (hN.2.to_below Hn1.out.size HFw.out)
          have hnn : Below w.heap.size w wr := ⟨Hn.out.os.trans Hn1.out.os, Hn.out.tape.trans Hn1.out.tape, Hn.out.output.trans Hn1.out.output, Nat.le_trans Hn1.out.size Hn.out.size, fun k hk => (Hn.out.block k hk).trans (Hn1.out.block k hk)⟩
          clear hN hI Hn
          go_wp2_with fail
          refine (awake10 wr).mono ?_
          rintro e w4 ⟨rfl, hb⟩
          have hn4 := nu_trans hnn hb
          go_wp2_with fail
          go_ret
          exact ⟨rfl, hn4⟩
      · have hii : ¬ (i : Int) < (len : Int) := by omega
        have Hn := Lib.hid (hN.2.to_below Hn1.out.size HFw.out)
        have hnn : Below w.heap.size w wr := ⟨Hn.out.os.trans Hn1.out.os, Hn.out.tape.trans Hn1.out.tape, Hn.out.output.trans Hn1.out.output, Nat.le_trans Hn1.out.size Hn.out.size, fun k hk => (Hn.out.block k hk).trans (Hn1.out.block k hk)⟩
        clear hN hI Hn
        go_wp2_with fail
        refine (awake10 wr).mono ?_
        rintro e w4 ⟨rfl, hb⟩
        have hn4 := nu_trans hnn hb
        go_wp2_with fail
        go_ret
        exact ⟨rfl, hn4⟩
end Go.Proofs.Ytjmghpoknlffiaa

namespace Go.Proofs.Ytjmghpoknlffiaa
open Go.ChangeShapes Go.WideShapes Go.ChangeAt Go.RowKit

theorem numsIn_of_row {w : World} {a : Option Addr} {len cap : Nat} {zs : List Int} (h : RowSaid .i64 w a len cap zs) : len ≤ cap ∧ ∃ fs, NumsIn w a len fs := by
  rcases h with ⟨rfl, rfl, rfl, rfl⟩ | ⟨x, rfl, hlc, hcm, hl, hc, hw⟩
  · exact ⟨Nat.le_refl _, [], NumsIn.nil w⟩
  · refine ⟨hlc, zs.take len, by rw [List.length_take]; omega, fun x hx => bounds_i64 (hw x (List.mem_of_mem_take hx)), fun hpos => ?_⟩
    obtain ⟨b, off, rfl, hb⟩ := ints_at hc (by omega)
    refine ⟨b, off, rfl, World.block_lt_of_cell? _ _ (hb 0 (by omega)), fun j v hv => ?_⟩
    have hjl : j < (zs.take len).length := (List.getElem?_eq_some_iff.1 hv).1
    have hjz : j < zs.length := by
      rw [List.length_take] at hjl
      omega
    have h1 := hb j hjz
    rw [List.getElem?_take] at hv
    split at hv
    · rw [List.getD_eq_getElem?_getD, hv] at h1
      exact h1
    · cases hv
end Go.Proofs.Ytjmghpoknlffiaa
