/-
  What the proof of DevNil rests on, part 3 of 3.
-/
import Derived.Test.YtjmghpoknlffiaaDevNilB2
namespace Go.Proofs.Ytjmghpoknlffiaa
open Go.ChangeShapes Go.WideShapes Go.ChangeAt Go.RowKit
set_option linter.unusedSimpArgs false

section
variable {F : Nat → Prop} {w1 w : World} {d : Nat} {s : Dv}
theorem write_at (N : DevNext F w1 w d s) (i : Nat) (hi : i < s.st.length) (ho : s.off = false) (ha : spentOff s.ar = false) {G : Nat} {b : List Nat} (hG : Blk w1 G 5 (b.map vb).toArray) (hb : Bl b) (hn : ¬ F G) (hwl : s.wa.length ≤ 1000000000) (hrl : s.wr.length ≤ 1000000000) :
    Calls Try.prog 12 #[.pointer (some ⟨d, 0, none⟩), .int .i64 (i : Int), .slice (some ⟨G, 0, none⟩) 256 256] w fun e w' => e = .returned (.int .i64 0) ∧ DevNext F w1 w' d (s.put i b).spent := by
  refine (writeD_good N.1 i hi ho _ 256 b ((bytes_blk hG hb.1 hb.2).mods N.2 (fun ad had => by injection had with had; rw [← had]; exact hn)) (fun ad had => by injection had with had; rw [← had]; exact not_grown hn hG.lt) hwl hrl).mono ?_
  rintro e w' ⟨rfl, h⟩
  exact ⟨by rw [ha]; rfl, N.trans h⟩
theorem flush_at (N : DevNext F w1 w d s) (ho : s.off = false) (ha : spentOff s.ar = false) (hwl : s.wa.length ≤ 1000000000) :
    Calls Try.prog 13 #[.pointer (some ⟨d, 0, none⟩)] w fun e w' => e = .returned (.int .i64 0) ∧ DevNext F w1 w' d s.spent.flush :=
  (flushD_go N.1 ho ha hwl).mono fun e w' h => ⟨h.1, N.trans h.2⟩
theorem crash_at (N : DevNext F w1 w d s) : Calls Try.prog 14 #[.pointer (some ⟨d, 0, none⟩)] w fun e w' => e = .returned (.tuple #[]) ∧ DevNext F w1 w' d s.crash :=
  (crashD N.1).mono fun e w' h => ⟨h.1, N.trans h.2⟩
theorem DevNext.trans2 {a a' b : World} {s1 s2 : Dv} (h : DevNext F w1 a d s1) (hb : Below a.heap.size a a') (h' : DevNext (Grown F w1 a) a' b d s2) : DevNext F w1 b d s2 :=
  ⟨h'.1.mono (fun k hk => by
    rcases hk with (hk | hk) | hk
    · exact .inl hk
    · exact .inr ⟨hk.1, Nat.lt_of_lt_of_le hk.2 (Nat.le_trans hb.size h'.2.size)⟩
    · exact .inr ⟨Nat.le_trans h.2.size (Nat.le_trans hb.size hk.1), hk.2⟩) (fun k hk => by
    rcases hk with hk | hk
    · exact h'.1.2.1 k (.inl (.inl hk))
    · omega), (h.2.below hb).trans h'.2 (fun k hk => by
    rcases hk with hk | hk
    · exact .inl hk
    · exact .inr hk.1)⟩
/-- The power comes back, with fates that lie in new memory. -/
theorem on_new {w2 : World} (N : DevNext F w1 w d s) (hb : Below w.heap.size w w2) (ho : s.off = true) {a : Option Addr} {len : Nat} (cap : Nat) {fs : List Int} (hf : NumsIn w2 a len fs) (hout : ∀ ad, a = some ad → ¬ Grown F w1 w ad.block) (hlen : len ≤ 9223372036854775807) (hwl : s.wa.length ≤ 1000000000) :
    Calls Try.prog 17 #[.pointer (some ⟨d, 0, none⟩), .slice a len cap] w2 fun e w' => e = .returned (.tuple #[]) ∧ DevNext F w1 w' d (s.on fs) :=
  (onD_down (N.1.below hb) ho a len cap fs hf hout hlen hwl).mono fun e w' h => ⟨h.1, N.trans2 hb h.2⟩
theorem read_at (N : DevNext F w1 w d s) (i : Nat) (hi : i < s.st.length) (ho : s.off = false) (hwl : s.wa.length ≤ 1000000000) {D : List Nat} (hD : s.now i = D) : Calls Try.prog 15 #[.pointer (some ⟨d, 0, none⟩), .int .i64 (i : Int)] w fun e w' =>
    ∃ G, e = .returned (.tuple #[.slice (some ⟨G, 0, none⟩) 256 256, .int .i64 0]) ∧ w.heap.size ≤ G ∧ BytesIn w' (some ⟨G, 0, none⟩) 256 256 D ∧ DevNext F w1 w' d s ∧ Below w.heap.size w w' ∧ Blk w' G 73 (D.map vb).toArray := by
  refine (readD_good N.1 i hi ho hwl).mono ?_
  rintro e w' ⟨G, rfl, h1, h2, h3⟩
  rw [hD] at h2
  exact ⟨G, rfl, h1, bytes_256 h2 (by rw [← hD]; exact N.1.1.now hi), N.then_below h3, h3, h2⟩
/-- A slice of one int, just made. -/
theorem nums_one (w : World) (v : Int) (hv : -9223372036854775808 ≤ v ∧ v ≤ 9223372036854775807) : NumsIn (w.alloc (.cells #[.int .i64 v] 3)) (some ⟨w.heap.size, 0, none⟩) 1 [v] :=
  ⟨rfl, fun x hx => by rw [List.mem_singleton.1 hx]; exact hv, fun _ => ⟨w.heap.size, 0, rfl, by simp, fun j x hx => by
    cases j with
    | zero => injection hx with hx; subst hx; exact (Blk.made w 3 #[.int .i64 v]).at 0 _ rfl
    | succ j => cases hx⟩⟩
theorem alloc_out (N : DevNext F w1 w d s) (o : Obj) : DevNext F w1 (w.alloc o) d s ∧ True := ⟨N.then_below (nu_alloc (nu_refl w) o), trivial⟩
end
theorem awk_now (A B : List Nat) : (((((((Dv.new 4).put 3 A).spent.spent.flush).put 3 B).spent).crash).on [0]).now 3 = A := rfl
theorem awk_co (A B : List Nat) : (((((((Dv.new 4).put 3 A).spent.spent.flush).put 3 B).spent).crash).on [0]).co = 3 := rfl
theorem bytes_made (w : World) (xs : List Nat) (hx : ∀ x ∈ xs, x < 256) (cs : Array Value) (hc : cs = (xs.map vb).toArray) (n : Nat) (hn : xs.length = n) : BytesIn (w.alloc (.cells cs 5)) (some ⟨w.heap.size, 0, none⟩) n n xs := by
  subst hc
  exact bytes_blk (Blk.made w 5 _) hn hx

set_option maxRecDepth 100000 in
set_option maxHeartbeats 8000000 in
theorem awake10 (w : World) : Calls Try.prog 20 #[] w fun e w' => e = .returned (.bool true) ∧ Below w.heap.size w w' := by
  have HNw := Lib.hid (devNew_any 4 (by omega) (by omega) w)
  go_enter Try.func20, Try.ntmps20
  go_wp2_with fail
  refine HNw.out.mono ?_
  rintro e w1 ⟨d, rfl, F, hR, hF, hb⟩
  have HR := Lib.hid hR
  have HF := Lib.hid hF
  have Hn1 := Lib.hid hb
  clear hR hF hb HNw
  have H1 := Lib.hid (bytes_made w1 [1] (by decide) #[.int .u8 1] rfl 1 rfl)
  have hal1 := nu_alloc (nu_refl w1) (.cells #[.int .u8 1] 5)
  have Hal1 := Lib.hid hal1
  clear hal1
  obtain ⟨A, hA⟩ : ∃ A, A = fullL [1] := ⟨_, rfl⟩
  have HAb := Lib.hid (show Bl A by rw [hA]; exact fullL_bl (by decide))
  obtain ⟨B, hB⟩ : ∃ B, B = fullL [2] := ⟨_, rfl⟩
  have HBb := Lib.hid (show Bl B by rw [hB]; exact fullL_bl (by decide))
  have HFa := Lib.hid (full_any _ 1 1 [1] _ H1.out (by omega))
  rw [← hA] at HFa
  have HB2 := Lib.hid hB
  clear hA hB
  go_wp2_with fail
  refine HFa.out.mono ?_
  rintro e w2 ⟨Ga, rfl, hGa, hBa, hb⟩
  have HGa := Lib.hid (And.intro (show w1.heap.size ≤ Ga from Nat.le_trans Hal1.out.size hGa) hBa)
  have Hb2 := Lib.hid (nu_trans Hal1.out hb)
  have H2 := Lib.hid (bytes_made w2 [2] (by decide) #[.int .u8 2] rfl 1 rfl)
  have Hal2 := Lib.hid (nu_alloc (nu_refl w2) (.cells #[.int .u8 2] 5))
  have HFb := Lib.hid (full_any _ 1 1 [2] _ H2.out (by omega))
  rw [← HB2.out] at HFb
  clear hGa hBa hb HFa H1 Hal1
  go_wp2_with fail
  refine HFb.out.mono ?_
  rintro e w3 ⟨Gb, rfl, hGb, hBb, hb⟩
  have hb3 := nu_trans Hal2.out hb
  have HGb := Lib.hid (And.intro (show w1.heap.size ≤ Gb from Nat.le_trans (Nat.le_trans Hb2.out.size Hal2.out.size) hGb) hBb)
  have HGa3 := Lib.hid (And.intro HGa.out.1 (HGa.out.2.below hb3 HGa.out.2.lt))
  have Hb3 := Lib.hid (nu_trans Hb2.out hb3)
  have HnF := Lib.hid (show ¬ F Ga ∧ ¬ F Gb from ⟨fun h => by have := HR.out.2.1 _ h; have := HGa.out.1; omega, fun h => by have := HR.out.2.1 _ h; have := HGb.out.1; omega⟩)
  have HN0 := Lib.hid (DevNext.refl (HR.out.below Hb3.out))
  have Hn3 := Lib.hid (nu_trans Hn1.out Hb3.out)
  have HFw := Lib.hid HF.out
  clear hGb hBb hb hb3 HFb H2 Hal2 HGa HR Hb2 Hb3 HF Hn1 HB2
  obtain ⟨s0, hs0⟩ : ∃ s0, s0 = Dv.new 4 := ⟨_, rfl⟩
  rw [← hs0] at HN0
  have HW := Lib.hid (write_at HN0.out 3 (by rw [hs0]; decide) (by rw [hs0]; rfl) (by rw [hs0]; rfl) HGa3.out.2 HAb.out HnF.out.1 (by rw [hs0]; decide) (by rw [hs0]; decide))
  have Hs0 := Lib.hid hs0
  clear hs0 HN0
  go_wp2_with fail
  refine HW.out.mono ?_
  rintro e w4 ⟨rfl, hN⟩
  obtain ⟨s1, hs1⟩ : ∃ s1, s1 = (s0.put 3 A).spent := ⟨_, rfl⟩
  rw [← hs1] at hN
  rw [Hs0.out] at hs1
  have HFl := Lib.hid (flush_at hN (by rw [hs1]; rfl) (by rw [hs1]; rfl) (by rw [hs1]; show 1 ≤ 1000000000; omega))
  have Hs1 := Lib.hid hs1
  clear hs1 hN HW Hs0
  go_wp2_with fail
  refine HFl.out.mono ?_
  rintro e w5 ⟨rfl, hN⟩
  obtain ⟨s2, hs2⟩ : ∃ s2, s2 = s1.spent.flush := ⟨_, rfl⟩
  rw [← hs2] at hN
  rw [Hs1.out] at hs2
  have HW := Lib.hid (write_at hN 3 (by rw [hs2]; show 3 < 4; omega) (by rw [hs2]; rfl) (by rw [hs2]; rfl) HGb.out.2 HBb.out HnF.out.2 (by rw [hs2]; show 0 ≤ 1000000000; omega) (by rw [hs2]; show 1 ≤ 1000000000; omega))
  have Hs2 := Lib.hid hs2
  clear hs2 hN HFl Hs1
  go_wp2_with fail
  refine HW.out.mono ?_
  rintro e w6 ⟨rfl, hN⟩
  obtain ⟨s3, hs3⟩ : ∃ s3, s3 = (s2.put 3 B).spent := ⟨_, rfl⟩
  rw [← hs3] at hN
  rw [Hs2.out] at hs3
  have HC := Lib.hid (crash_at hN)
  have Hs3 := Lib.hid hs3
  clear hs3 hN HW Hs2
  go_wp2_with fail
  refine HC.out.mono ?_
  rintro e w7 ⟨rfl, hN⟩
  obtain ⟨s4, hs4⟩ : ∃ s4, s4 = s3.crash := ⟨_, rfl⟩
  rw [← hs4] at hN
  rw [Hs3.out] at hs4
  have hal := nu_alloc (nu_refl w7) (.cells #[.int .i64 0] 3)
  have HOn := Lib.hid (on_new hN hal (by rw [hs4]; rfl) 1 (nums_one w7 0 (by decide)) (fun ad had => by
    injection had with had
    rw [← had]
    intro e
    have := hN.1.2.1 _ e
    exact Nat.lt_irrefl _ this) (by omega) (by rw [hs4]; show 1 ≤ 1000000000; omega))
  have Hs4 := Lib.hid hs4
  clear hs4 hN HC Hs3 hal
  go_wp2_with fail
  refine HOn.out.mono ?_
  rintro e w8 ⟨rfl, hN⟩
  obtain ⟨s5, hs5⟩ : ∃ s5, s5 = s4.on [0] := ⟨_, rfl⟩
  rw [← hs5] at hN
  rw [Hs4.out] at hs5
  have HRd := Lib.hid (read_at hN 3 (by rw [hs5]; show 3 < 4; omega) (by rw [hs5]; rfl) (by rw [hs5]; show 0 ≤ 1000000000; omega) (show s5.now 3 = A by rw [hs5]; exact awk_now A B))
  have Hco := Lib.hid (show s5.co = 3 by rw [hs5]; exact awk_co A B)
  clear hs5 hN HOn Hs4
  go_wp2_with fail
  refine HRd.out.mono ?_
  rintro e w9 ⟨G, rfl, _, hG, hN, _, _⟩
  have HSm := Lib.hid (same_is (w := w9) (ca := 256) (cb := 256) true (by simp) hG.1 ((bytes_blk HGa3.out.2 HAb.out.1 HAb.out.2).mods hN.2 (fun ad had => by injection had with had; rw [← had]; exact HnF.out.1)).1 (by omega) (by omega))
  have HN := Lib.hid hN
  clear hG hN HRd
  go_wp2_with fail
  refine HSm.out.mono ?_
  rintro e w10 ⟨rfl, n, rfl⟩
  have HN2 := Lib.hid (HN.out.then_below (nu_drewN (nu_refl w9) n))
  generalize w9.drewN n = w10 at *
  have HCo := Lib.hid (count_any HN2.out.1)
  rw [Hco.out] at HCo
  clear HN HSm
  go_wp2_with fail
  refine HCo.out.mono ?_
  rintro e w' ⟨rfl, rfl⟩
  have Hn := Lib.hid (HN2.out.2.to_below Hn3.out.size HFw.out)
  have hnn : Below w.heap.size w w10 := ⟨Hn.out.os.trans Hn3.out.os, Hn.out.tape.trans Hn3.out.tape, Hn.out.output.trans Hn3.out.output, Nat.le_trans Hn3.out.size Hn.out.size, fun k hk => (Hn.out.block k hk).trans (Hn3.out.block k hk)⟩
  clear HN2 HCo Hn
  go_wp2_with fail
  go_ret
  exact ⟨rfl, hnn⟩
end Go.Proofs.Ytjmghpoknlffiaa

namespace Go.Proofs.Ytjmghpoknlffiaa
open Go.ChangeShapes Go.WideShapes Go.ChangeAt Go.RowKit
set_option linter.unusedSimpArgs false

set_option maxRecDepth 100000 in
theorem nil_ready (w : World) (a : Int) : Calls Try.prog 36 #[.pointer none, .int .i64 a] w fun e w' => e = .returned (.int .i64 5) ∧ w = w' := by
  go_enter Try.func36, Try.ntmps36
  go_wp2_with fail
  go_ret
  exact ⟨rfl, rfl⟩
set_option maxRecDepth 100000 in
theorem nil_snap (w : World) : Calls Try.prog 29 #[.pointer none] w fun e w' => e = .returned (.tuple #[.int .i64 0, .int .i64 5]) ∧ w = w' := by
  go_enter Try.func29, Try.ntmps29
  go_wp2_with fail
  go_ret2
  exact ⟨rfl, rfl⟩
set_option maxRecDepth 100000 in
theorem nil_arm (w : World) (a : Int) : Calls Try.prog 21 #[.pointer none, .int .i64 a] w fun e w' => e = .returned (.tuple #[]) ∧ w = w' := by
  go_enter Try.func21, Try.ntmps21
  go_wp2_with fail
  all_goals first | (refine bodyPost_end (results_none rfl _ _ _) rfl ⟨rfl, rfl⟩) | (refine bodyPost_ret (results_none rfl _ _ _) rfl ⟨rfl, rfl⟩)
set_option maxRecDepth 100000 in
theorem nil_crash (w : World) : Calls Try.prog 14 #[.pointer none] w fun e w' => e = .returned (.tuple #[]) ∧ w = w' := by
  go_enter Try.func14, Try.ntmps14
  go_wp2_with fail
  all_goals first | (refine bodyPost_end (results_none rfl _ _ _) rfl ⟨rfl, rfl⟩) | (refine bodyPost_ret (results_none rfl _ _ _) rfl ⟨rfl, rfl⟩)
set_option maxRecDepth 100000 in
theorem nil_on (w : World) (a : Option Addr) (l c : Nat) : Calls Try.prog 17 #[.pointer none, .slice a l c] w fun e w' => e = .returned (.tuple #[]) ∧ w = w' := by
  go_enter Try.func17, Try.ntmps17
  go_wp2_with fail
  all_goals first | (refine bodyPost_end (results_none rfl _ _ _) rfl ⟨rfl, rfl⟩) | (refine bodyPost_ret (results_none rfl _ _ _) rfl ⟨rfl, rfl⟩)
set_option maxRecDepth 100000 in
theorem nil_poke (w : World) (a b : Int) (x : Option Addr) (l c : Nat) : Calls Try.prog 34 #[.pointer none, .int .i64 a, .int .i64 b, .slice x l c] w fun e w' => e = .returned (.int .i64 5) ∧ w = w' := by
  go_enter Try.func34, Try.ntmps34
  go_wp2_with fail
  go_ret
  exact ⟨rfl, rfl⟩
set_option maxRecDepth 100000 in
theorem nil_copy (w : World) (a b : Int) : Calls Try.prog 35 #[.pointer none, .int .i64 a, .int .i64 b] w fun e w' => e = .returned (.int .i64 5) ∧ w = w' := by
  go_enter Try.func35, Try.ntmps35
  go_wp2_with fail
  go_ret
  exact ⟨rfl, rfl⟩
set_option maxRecDepth 100000 in
theorem nil_back (w : World) (a : Int) : Calls Try.prog 30 #[.pointer none, .int .i64 a] w fun e w' => e = .returned (.int .i64 5) ∧ w = w' := by
  go_enter Try.func30, Try.ntmps30
  go_wp2_with fail
  go_ret
  exact ⟨rfl, rfl⟩
set_option maxRecDepth 100000 in
theorem nil_spend (w : World) : Calls Try.prog 16 #[.pointer none] w fun e w' => e = .returned (.bool false) ∧ w = w' := by
  go_enter Try.func16, Try.ntmps16
  go_wp2_with fail
  go_ret
  exact ⟨rfl, rfl⟩
set_option maxRecDepth 100000 in
theorem nil_up (w : World) : Calls Try.prog 22 #[.pointer none] w fun e w' => e = .returned (.bool false) ∧ w = w' := by
  go_enter Try.func22, Try.ntmps22
  go_wp2_with fail
  go_ret
  exact ⟨rfl, rfl⟩
set_option maxRecDepth 100000 in
theorem nil_waits (w : World) : Calls Try.prog 28 #[.pointer none] w fun e w' => e = .returned (.int .i64 0) ∧ w = w' := by
  go_enter Try.func28, Try.ntmps28
  go_wp2_with fail
  go_ret
  exact ⟨rfl, rfl⟩
set_option maxRecDepth 100000 in
theorem nil_count (w : World) : Calls Try.prog 23 #[.pointer none] w fun e w' => e = .returned (.int .i64 0) ∧ w = w' := by
  go_enter Try.func23, Try.ntmps23
  go_wp2_with fail
  go_ret
  exact ⟨rfl, rfl⟩
set_option maxRecDepth 100000 in
theorem nil_blocks (w : World) : Calls Try.prog 27 #[.pointer none] w fun e w' => e = .returned (.int .i64 0) ∧ w = w' := by
  go_enter Try.func27, Try.ntmps27
  go_wp2_with fail
  go_ret
  exact ⟨rfl, rfl⟩
set_option maxRecDepth 100000 in
theorem nil_written (w : World) : Calls Try.prog 33 #[.pointer none] w fun e w' => e = .returned (.slice none 0 0) ∧ w = w' := by
  go_enter Try.func33, Try.ntmps33
  go_wp2_with fail
  go_ret
  exact ⟨rfl, rfl⟩
set_option maxRecDepth 100000 in
theorem nil_read (w : World) (a : Int) : Calls Try.prog 15 #[.pointer none, .int .i64 a] w fun e w' => e = .returned (.tuple #[.slice none 0 0, .int .i64 5]) ∧ w = w' := by
  have HR := Lib.hid (nil_ready w a)
  go_enter Try.func15, Try.ntmps15
  go_wp2_with fail
  refine HR.out.mono ?_
  rintro e w' ⟨rfl, rfl⟩
  go_wp2_with fail
  go_ret2
  exact ⟨rfl, rfl⟩
set_option maxRecDepth 100000 in
theorem nil_write (w : World) (a : Int) (x : Option Addr) (l c : Nat) : Calls Try.prog 12 #[.pointer none, .int .i64 a, .slice x l c] w fun e w' => e = .returned (.int .i64 5) ∧ w = w' := by
  have HR := Lib.hid (nil_ready w a)
  go_enter Try.func12, Try.ntmps12
  go_wp2_with fail
  refine HR.out.mono ?_
  rintro e w' ⟨rfl, rfl⟩
  go_wp2_with fail
  go_ret
  exact ⟨rfl, rfl⟩
set_option maxRecDepth 100000 in
theorem nil_flush (w : World) : Calls Try.prog 13 #[.pointer none] w fun e w' => e = .returned (.int .i64 5) ∧ w = w' := by
  have HR := Lib.hid (nil_ready w 0)
  go_enter Try.func13, Try.ntmps13
  go_wp2_with fail
  refine HR.out.mono ?_
  rintro e w' ⟨rfl, rfl⟩
  go_wp2_with fail
  go_ret
  exact ⟨rfl, rfl⟩
set_option maxRecDepth 100000 in
set_option maxHeartbeats 8000000 in
theorem devNil_walk (n : Int) (w : World) : Calls Try.prog 9 #[.int .i64 n] w fun e w' => e = .returned (.bool true) ∧ Below w.heap.size w w' := by
  go_enter Try.func9, Try.ntmps9
  by_cases h1 : n < 1
  · go_wp2_with fail
    refine (devNew_bad n (.inl h1) w).mono ?_
    rintro e w' ⟨rfl, rfl⟩
    go_wp2_with fail
    refine (nil_read w n).mono ?_
    rintro e w' ⟨rfl, rfl⟩
    go_wp2_with fail
    refine (nil_snap w).mono ?_
    rintro e w' ⟨rfl, rfl⟩
    go_wp2_with fail
    refine (nil_arm w 1).mono ?_
    rintro e w' ⟨rfl, rfl⟩
    go_wp2_with fail
    refine (nil_crash w).mono ?_
    rintro e w' ⟨rfl, rfl⟩
    go_wp2_with fail
    refine (nil_on w none 0 0).mono ?_
    rintro e w' ⟨rfl, rfl⟩
    go_wp2_with fail
    refine (full_any none 0 0 [] w (BytesIn.nil_ w) (by omega)).mono ?_
    rintro e w2 ⟨G, rfl, _, _, hb⟩
    have Hb := Lib.hid hb
    clear hb
    go_wp2_with fail
    refine (nil_write w2 0 (some ⟨G, 0, none⟩) 256 256).mono ?_
    rintro e w' ⟨rfl, rfl⟩
    go_wp2_with fail
    refine (nil_flush w2).mono ?_
    rintro e w' ⟨rfl, rfl⟩
    go_wp2_with fail
    refine (nil_poke w2 0 0 none 0 0).mono ?_
    rintro e w' ⟨rfl, rfl⟩
    go_wp2_with fail
    refine (nil_copy w2 0 0).mono ?_
    rintro e w' ⟨rfl, rfl⟩
    go_wp2_with fail
    refine (nil_back w2 0).mono ?_
    rintro e w' ⟨rfl, rfl⟩
    go_wp2_with fail
    refine (nil_spend w2).mono ?_
    rintro e w' ⟨rfl, rfl⟩
    go_wp2_with fail
    refine (nil_up w2).mono ?_
    rintro e w' ⟨rfl, rfl⟩
    go_wp2_with fail
    refine (nil_waits w2).mono ?_
    rintro e w' ⟨rfl, rfl⟩
    go_wp2_with fail
    refine (nil_count w2).mono ?_
    rintro e w' ⟨rfl, rfl⟩
    go_wp2_with fail
    refine (nil_blocks w2).mono ?_
    rintro e w' ⟨rfl, rfl⟩
    go_wp2_with fail
    refine (nil_written w2).mono ?_
    rintro e w' ⟨rfl, rfl⟩
    go_wp2_with fail
    refine (awake10 w2).mono ?_
    rintro e w3 ⟨rfl, hb3⟩
    have hn := nu_trans Hb.out hb3
    go_wp2_with fail
    go_ret
    exact ⟨rfl, hn⟩
  · by_cases h2 : (65536 : Int) < n
    · go_wp2_with fail
      refine (devNew_bad n (.inr h2) w).mono ?_
      rintro e w' ⟨rfl, rfl⟩
      go_wp2_with fail
      refine (nil_read w n).mono ?_
      rintro e w' ⟨rfl, rfl⟩
      go_wp2_with fail
      refine (nil_snap w).mono ?_
      rintro e w' ⟨rfl, rfl⟩
      go_wp2_with fail
      refine (nil_arm w 1).mono ?_
      rintro e w' ⟨rfl, rfl⟩
      go_wp2_with fail
      refine (nil_crash w).mono ?_
      rintro e w' ⟨rfl, rfl⟩
      go_wp2_with fail
      refine (nil_on w none 0 0).mono ?_
      rintro e w' ⟨rfl, rfl⟩
      go_wp2_with fail
      refine (full_any none 0 0 [] w (BytesIn.nil_ w) (by omega)).mono ?_
      rintro e w2 ⟨G, rfl, _, _, hb⟩
      have Hb := Lib.hid hb
      clear hb
      go_wp2_with fail
      refine (nil_write w2 0 (some ⟨G, 0, none⟩) 256 256).mono ?_
      rintro e w' ⟨rfl, rfl⟩
      go_wp2_with fail
      refine (nil_flush w2).mono ?_
      rintro e w' ⟨rfl, rfl⟩
      go_wp2_with fail
      refine (nil_poke w2 0 0 none 0 0).mono ?_
      rintro e w' ⟨rfl, rfl⟩
      go_wp2_with fail
      refine (nil_copy w2 0 0).mono ?_
      rintro e w' ⟨rfl, rfl⟩
      go_wp2_with fail
      refine (nil_back w2 0).mono ?_
      rintro e w' ⟨rfl, rfl⟩
      go_wp2_with fail
      refine (nil_spend w2).mono ?_
      rintro e w' ⟨rfl, rfl⟩
      go_wp2_with fail
      refine (nil_up w2).mono ?_
      rintro e w' ⟨rfl, rfl⟩
      go_wp2_with fail
      refine (nil_waits w2).mono ?_
      rintro e w' ⟨rfl, rfl⟩
      go_wp2_with fail
      refine (nil_count w2).mono ?_
      rintro e w' ⟨rfl, rfl⟩
      go_wp2_with fail
      refine (nil_blocks w2).mono ?_
      rintro e w' ⟨rfl, rfl⟩
      go_wp2_with fail
      refine (nil_written w2).mono ?_
      rintro e w' ⟨rfl, rfl⟩
      go_wp2_with fail
      refine (awake10 w2).mono ?_
      rintro e w3 ⟨rfl, hb3⟩
      have hn := nu_trans Hb.out hb3
      go_wp2_with fail
      go_ret
      exact ⟨rfl, hn⟩
    · skip
      go_wp2_with fail
      refine (nil_read w n).mono ?_
      rintro e w' ⟨rfl, rfl⟩
      go_wp2_with fail
      refine (nil_snap w).mono ?_
      rintro e w' ⟨rfl, rfl⟩
      go_wp2_with fail
      refine (nil_arm w 1).mono ?_
      rintro e w' ⟨rfl, rfl⟩
      go_wp2_with fail
      refine (nil_crash w).mono ?_
      rintro e w' ⟨rfl, rfl⟩
      go_wp2_with fail
      refine (nil_on w none 0 0).mono ?_
      rintro e w' ⟨rfl, rfl⟩
      go_wp2_with fail
      refine (full_any none 0 0 [] w (BytesIn.nil_ w) (by omega)).mono ?_
      rintro e w2 ⟨G, rfl, _, _, hb⟩
      have Hb := Lib.hid hb
      clear hb
      go_wp2_with fail
      refine (nil_write w2 0 (some ⟨G, 0, none⟩) 256 256).mono ?_
      rintro e w' ⟨rfl, rfl⟩
      go_wp2_with fail
      refine (nil_flush w2).mono ?_
      rintro e w' ⟨rfl, rfl⟩
      go_wp2_with fail
      refine (nil_poke w2 0 0 none 0 0).mono ?_
      rintro e w' ⟨rfl, rfl⟩
      go_wp2_with fail
      refine (nil_copy w2 0 0).mono ?_
      rintro e w' ⟨rfl, rfl⟩
      go_wp2_with fail
      refine (nil_back w2 0).mono ?_
      rintro e w' ⟨rfl, rfl⟩
      go_wp2_with fail
      refine (nil_spend w2).mono ?_
      rintro e w' ⟨rfl, rfl⟩
      go_wp2_with fail
      refine (nil_up w2).mono ?_
      rintro e w' ⟨rfl, rfl⟩
      go_wp2_with fail
      refine (nil_waits w2).mono ?_
      rintro e w' ⟨rfl, rfl⟩
      go_wp2_with fail
      refine (nil_count w2).mono ?_
      rintro e w' ⟨rfl, rfl⟩
      go_wp2_with fail
      refine (nil_blocks w2).mono ?_
      rintro e w' ⟨rfl, rfl⟩
      go_wp2_with fail
      refine (nil_written w2).mono ?_
      rintro e w' ⟨rfl, rfl⟩
      go_wp2_with fail
      refine (awake10 w2).mono ?_
      rintro e w3 ⟨rfl, hb3⟩
      have hn := nu_trans Hb.out hb3
      go_wp2_with fail
      go_ret
      exact ⟨rfl, hn⟩
end Go.Proofs.Ytjmghpoknlffiaa
